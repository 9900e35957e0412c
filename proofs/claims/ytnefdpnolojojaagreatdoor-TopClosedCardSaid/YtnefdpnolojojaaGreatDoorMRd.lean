/- MRd -/
import Derived.Test.YtnefdpnolojojaaGreatDoorRun17
import Derived.Test.YtnefdpnolojojaaGreatDoorRun15
import Derived.Test.YtnefdpnolojojaaGreatDoorMPm
import Derived.BigQuiet
import Derived.Deep.RegionHeld
namespace Go.Proofs.YtnefdpnolojojaaGreatDoor
open Go.RowKit Go.Sort Go.Lib Go.Maps
set_option maxRecDepth 8000
attribute [local go_sem ↓] Go.wp_at_zero Go.wp_at_succ
end Go.Proofs.YtnefdpnolojojaaGreatDoor
namespace Go.Proofs.YtnefdpnolojojaaGreatDoor
namespace Wb
def salC (y i c : Int) : Ct := (y, i, [⟨0, [115, 97, 108, 97, 114, 121], c⟩])
def S1 (p : Int) : List Ct := if p = 1 then [salC 2024 1 10000] else []
def S2 (p : Int) : List Ct := if p = 1 then [salC 2024 1 9000, salC 2024 2 10000] else []
def R1 : Rw := ⟨1, salC 2024 1 10000, [], 10000, 10000, 0⟩
def R2 : Rw := ⟨1, salC 2024 2 10000, [(2024, 1, [⟨0, [115, 97, 108, 97, 114, 121], -1000⟩])], 9000, 9000, 0⟩
def B1 : Bk := ⟨[⟨1, 2024, 1, 0, [R1]⟩], fun p => fullC (S1 p), owedBy [R1] fun _ => 0⟩
def B2 : Bk := ⟨[⟨1, 2024, 1, 0, [R1]⟩, ⟨2, 2024, 2, 0, [R2]⟩], fun p => fullC (S2 p), owedBy [R2] B1.owed⟩
end Wb
end Go.Proofs.YtnefdpnolojojaaGreatDoor
namespace Go.Proofs.YtnefdpnolojojaaGreatDoor
open Go.RowKit Go.Sort Go.Lib Go.Maps
set_option maxRecDepth 8000
attribute [local go_sem ↓] Go.wp_at_zero Go.wp_at_succ
def oneS (C : List Wb.Ct) (p : Int) : List Wb.Ct := if p = 1 then C else []
theorem bk_none (F : Nat → Prop) (w : World) : BkF F w (.slice none 0 0) none none Wb.noBk [] 0 :=
 ⟨⟨[], fun w2 _ => ⟨Tbl.nil, (fun r hr => by cases hr), by simp, fun r hr => by cases hr⟩, rfl⟩, ⟨0, fun _ => none, ⟨(fun _ _ _ => rfl), (fun p => ⟨[], fun w2 _ => ⟨⟨.inl ⟨rfl, none, 0, rfl⟩, fun s hs => by cases hs⟩, by simp, fun s hs => by cases hs⟩, rfl⟩), fun p hp => absurd rfl hp⟩, Nat.le_refl _, fun p _ h => by cases h⟩, ⟨0, fun _ => none, (fun _ _ _ => rfl), Nat.le_refl _, (fun p => rfl), fun p _ h => by cases h⟩⟩
end Go.Proofs.YtnefdpnolojojaaGreatDoor
namespace Go.Proofs.YtnefdpnolojojaaGreatDoor
open Go.RowKit Go.Sort Go.Lib Go.Maps
set_option maxRecDepth 8000
attribute [local go_sem ↓] Go.wp_at_zero Go.wp_at_succ
end Go.Proofs.YtnefdpnolojojaaGreatDoor
namespace Go.Proofs.YtnefdpnolojojaaGreatDoor
open Go.RowKit Go.Sort Go.Lib Go.Maps
set_option maxRecDepth 8000
attribute [local go_sem ↓] Go.wp_at_zero Go.wp_at_succ
def NewM (W : World) (M : Nat) : Prop := KMap kU32 W M 0 (.slice none 0 0) (fun _ => none)
theorem NewM.ext {W W2 : World} {M : Nat} (h : NewM W M) (k : Wb.Ext W W2) : NewM W2 M := KMap.ext h k
noncomputable def insW (M : Nat) (V : Value) (W : World) : World := match (Instr.mapUpdate 24 (.map (some M)) (.int .u32 1) V).run Tryz.prog W with
 | .ok _ w => w
 | _ => W
def Pre1 (W1 W : World) (M : Nat) (F : Nat → Prop) : Prop := (∃ f, SMapF F W (some M) 1 f (oneS [Wb.salC 2024 1 10000]) ∧ KeysAre kU32 f [1]) ∧ Wb.Ext W1 W
theorem Pre1.alloc {W1 W : World} {M : Nat} {F : Nat → Prop} (h : Pre1 W1 W M F) (o : Obj) : Pre1 W1 (W.alloc o) M F := by
 obtain ⟨⟨f, h1, h2⟩, h3⟩ := h
 exact ⟨⟨f, h1.kept (.ext ((Wb.Ext.refl _).alloc o)), h2⟩, h3.alloc o⟩
def BoxZ (w : World) (X : Nat) : Prop := w.cell? ⟨X, 0, none⟩ = some (.int .i64 0) ∧ w.cell? ⟨X, 1, none⟩ = some (.int .i64 0) ∧ w.cell? ⟨X, 2, none⟩ = some (.int .i64 0) ∧ w.cell? ⟨X, 3, none⟩ = some (.int .i64 0) ∧ w.cell? ⟨X, 4, none⟩ = some (.slice none 0 0) ∧ ∀ j, w.frozen? ⟨X, j, none⟩ = false
theorem BoxZ.lt {w : World} {X : Nat} (h : BoxZ w X) : X < w.heap.size := Wb.cell_size h.1
theorem BoxZ.ext {w w2 : World} {X : Nat} (h : BoxZ w X) (k : Wb.Ext w w2) : BoxZ w2 X := by
 have hl := h.lt
 obtain ⟨h0, h1, h2, h3, h4, h5⟩ := h
 exact ⟨k.keep h0, k.keep h1, k.keep h2, k.keep h3, k.keep h4, fun j => (k.cells.2 _ _ hl).trans (h5 j)⟩
def Pre2 (W1 W : World) (M : Nat) (F : Nat → Prop) : Prop := (∃ f, SMapF F W (some M) 1 f (oneS [Wb.salC 2024 1 9000, Wb.salC 2024 2 10000]) ∧ KeysAre kU32 f [1]) ∧ Wb.Ext W1 W
theorem Pre2.alloc {W1 W : World} {M : Nat} {F : Nat → Prop} (h : Pre2 W1 W M F) (o : Obj) : Pre2 W1 (W.alloc o) M F := by
 obtain ⟨⟨f, h1, h2⟩, h3⟩ := h
 exact ⟨⟨f, h1.kept (.ext ((Wb.Ext.refl _).alloc o)), h2⟩, h3.alloc o⟩
theorem boxz_cut {P : Prop} {w w2 : World} {X : Nat} (k : Wb.Ext w w2) (h : BoxZ w X) (f : BoxZ w2 X → P) : P := f (h.ext k)
theorem Kept.alloc' {F : Nat → Prop} {w w' : World} (h : Kept F w w') (o : Obj) : Kept F w (w'.alloc o) := h.trans (.ext ((Wb.Ext.refl _).alloc o))
end Go.Proofs.YtnefdpnolojojaaGreatDoor
namespace Go.Proofs.YtnefdpnolojojaaGreatDoor
open Go.RowKit Go.Sort Go.Lib Go.Maps
set_option maxRecDepth 8000
attribute [local go_sem ↓] Go.wp_at_zero Go.wp_at_succ
structure BkI (j : Nat) (B : Wb.Bk) (ks : List Int) (N : Nat) : Prop where
 ok : Wb.BkOk B
 runs : RunsOk B.runs
 len : B.runs.length ≤ j
 few : ∀ p, (B.paid p).length ≤ 60
 many : N ≤ 1000 * j
 keys : ks.length ≤ 20 * j
theorem bki_none : BkI 0 Wb.noBk [] 0 := ⟨Wb.bkOk_none, (fun r hr => by cases hr), Nat.zero_le _, fun p => Nat.zero_le _, Nat.zero_le _, Nat.zero_le _⟩
theorem BkI.step {j : Nat} {B B' : Wb.Bk} {ks hs ps : List Int} {N : Nat} {y i k : Int} {S : Int → List Wb.Ct} {R : Wb.Rn} {E : Int} (h : BkI j B ks N) (hj : j ≤ 40) (hw : Wb.Who B S hs ps) (hd : Wb.doG B y i k S hs ps = (B', R, E)) (hl : hs.length ≤ 20) (hS : ∀ p, (S p).length ≤ 60) :
  BkI (j + 1) B' (ks ++ hs) (N + ks.length + hs.length) := by
 have hk := h.keys
 have hn := h.many
 have hlen := h.len
 by_cases e : E = 0
 ·subst e
  have ho := Wb.do_ok hd
  have hb := Wb.behind_of h.ok hw ho
  have hh := Wb.head_ok ho.head
  refine ⟨hb.ok, fun r hr => ?_, by rw [ho.runs]; simp; omega, fun p => ?_, by omega, by simp; omega⟩
  ·rw [ho.runs] at hr
   rcases List.mem_append.1 hr with hr | hr
   ·exact h.runs r hr
   ·obtain rfl : r = R := by simpa using hr
    rw [ho.run.2.1, ho.run.2.2.1]
    exact ⟨hh.1, hh.2.1, hh.2.2.1, hh.2.2.2.1⟩
  ·rw [hb.paid]
   exact Nat.le_trans (List.length_filter_le _ _) (hS p)
 ·obtain ⟨rfl, rfl⟩ := Wb.do_bad hd e
  exact ⟨h.ok, h.runs, by omega, h.few, by omega, by simp; omega⟩
def BokZ (w : World) (X : Nat) : Prop := w.cell? ⟨X, 0, none⟩ = some (.slice none 0 0) ∧ w.cell? ⟨X, 1, none⟩ = some (.map none) ∧ w.cell? ⟨X, 2, none⟩ = some (.map none) ∧ ∀ j, w.frozen? ⟨X, j, none⟩ = false
theorem BokZ.lt {w : World} {X : Nat} (h : BokZ w X) : X < w.heap.size := Wb.cell_size h.1
theorem BokZ.ext {w w2 : World} {X : Nat} (h : BokZ w X) (k : Wb.Ext w w2) : BokZ w2 X := by
 have hl := h.lt
 obtain ⟨h0, h1, h2, h5⟩ := h
 exact ⟨k.keep h0, k.keep h1, k.keep h2, fun j => (k.cells.2 _ _ hl).trans (h5 j)⟩
theorem bokz_cut {P : Prop} {w w2 : World} {X : Nat} (k : Wb.Ext w w2) (h : BokZ w X) (f : BokZ w2 X → P) : P := f (h.ext k)
def Ok0 (P : Nat → Prop) (n0 lo hi q : Nat) : Prop := (¬ P q ∧ q < n0) ∨ (lo ≤ q ∧ q < hi)
structure DidF (F : Nat → Prop) (w : World) (rv : Value) (mp mo : Option Nat) (B B' : Wb.Bk) (y i k : Int) (S : Int → List Wb.Ct) (hs ks : List Int) (N : Nat) (r : RnM) (E : Int) : Prop where
 did : ∃ ps, Wb.Who B S hs ps ∧ Wb.doG B y i k S hs ps = (B', r.c, E)
 book : BkF F w rv mp mo B' (ks ++ hs) (N + ks.length + hs.length)
 rows : ∀ w2, Kept F w w2 → RowsM w2 r.rv r.rows
theorem DidF.kept {F : Nat → Prop} {w w' : World} {rv : Value} {mp mo : Option Nat} {B B' : Wb.Bk} {y i k : Int} {S : Int → List Wb.Ct} {hs ks : List Int} {N : Nat} {r : RnM} {E : Int} (h : DidF F w rv mp mo B B' y i k S hs ks N r E) (kk : Kept F w w') : DidF F w' rv mp mo B B' y i k S hs ks N r E :=
 ⟨h.did, h.book.kept kk, fun w2 h2 => h.rows w2 (kk.trans h2)⟩
theorem DidF.mono {F G : Nat → Prop} {w : World} {rv : Value} {mp mo : Option Nat} {B B' : Wb.Bk} {y i k : Int} {S : Int → List Wb.Ct} {hs ks : List Int} {N : Nat} {r : RnM} {E : Int} (h : DidF F w rv mp mo B B' y i k S hs ks N r E) (kk : ∀ q, q < w.heap.size → F q → G q) : DidF G w rv mp mo B B' y i k S hs ks N r E :=
 ⟨h.did, h.book.mono kk, fun w2 h2 => h.rows w2 (h2.mono kk)⟩
theorem did_at {P : Nat → Prop} {w1 wx : World} {nW n0 lo hi : Nat} {rv : Value} {mp mo : Option Nat} {B B' : Wb.Bk} {y i k : Int} {S : Int → List Wb.Ct} {hs ks : List Int} {N : Nat} {r : RnM} {E : Int}
  (hd : DidF (fun q => q < nW → Ok0 P n0 lo hi q) w1 rv mp mo B B' y i k S hs ks N r E) (hk : Kept (fun q => q < w1.heap.size ∧ (q < nW → Ok0 P n0 lo hi q)) w1 wx) (hP : ∀ q, P q → q < n0) (hlo : n0 ≤ lo) (hW : n0 ≤ nW) :
  DidF (fun q => ¬ P q) wx rv mp mo B B' y i k S hs ks N r E := by
 have hk2 : Kept (fun q => q < nW → Ok0 P n0 lo hi q) w1 wx := hk.mono fun i h1 h2 => ⟨h1, h2⟩
 refine (hd.kept hk2).mono (fun q _ h e => ?_)
 have hq := hP q e
 rcases h (by omega) with h | h
 ·exact h.1 e
 ·omega
end Go.Proofs.YtnefdpnolojojaaGreatDoor
namespace Go.Proofs.YtnefdpnolojojaaGreatDoor
namespace Wb
def addR (s : Int → Int) : List Rw → Int → Int
 | [], p => s p
 | r :: l, p => addR (fun q => if r.p = q then s q + r.paid else s q) l p
theorem addR_other {l : List Rw} : ∀ {s : Int → Int} {p : Int}, (∀ r ∈ l, r.p ≠ p) → addR s l p = s p := by
 induction l with
 | nil => intro s p _; rfl
 | cons r l ih =>
  intro s p h
  show addR _ l p = _
  rw [ih (fun x hx => h x (List.mem_cons_of_mem _ hx)), if_neg (h r List.mem_cons_self)]
theorem addR_row {l : List Rw} : ∀ {s : Int → Int} {r : Rw}, (l.map Rw.p).Nodup → r ∈ l → addR s l r.p = s r.p + r.paid := by
 induction l with
 | nil => intro s r _ h; cases h
 | cons x l ih =>
  intro s r hn h
  rw [List.map_cons, List.nodup_cons] at hn
  show addR _ l r.p = _
  rcases List.mem_cons.1 h with rfl | h
  ·rw [addR_other (fun y hy e => hn.1 (by rw [← e]; exact List.mem_map_of_mem hy)), if_pos rfl]
  ·rw [ih hn.2 h, if_neg (fun e => hn.1 (by rw [e]; exact List.mem_map_of_mem h))]
theorem addR_bound {b : Int} : ∀ {l : List Rw} {s : Int → Int} {p : Int} {c : Int}, (l.map Rw.p).Nodup → (∀ r ∈ l, 0 ≤ r.paid ∧ r.paid ≤ b) → 0 ≤ b → 0 ≤ s p → s p ≤ c → 0 ≤ addR s l p ∧ addR s l p ≤ c + b := by
 intro l s p c hn hr hb h0 h1
 by_cases h : ∃ r ∈ l, r.p = p
 ·obtain ⟨r, hm, rfl⟩ := h
  have := hr r hm
  rw [addR_row hn hm]; omega
 ·rw [addR_other (fun r hm e => h ⟨r, hm, e⟩)]; omega
theorem sum_addR {B : Bk} {y i : Int} {S : Int → List Ct} {B' : Bk} {R : Rn} (h : Behind B y i S B' R) {sum : Int → Int} (h0 : ∀ p, sum p - B.owed p = nlC (B.paid p)) (p : Int) : addR sum R.rows p - B'.owed p = nlC (B'.paid p) :=
 sum_behind h h0 (fun _r hr => addR_row h.one hr) (fun p hn => addR_other fun r hr e => (h.who p).1 ⟨r, hr, e⟩ hn) p
end Wb
end Go.Proofs.YtnefdpnolojojaaGreatDoor
namespace Go.Proofs.YtnefdpnolojojaaGreatDoor
open Go.RowKit Go.Sort Go.Lib Go.Maps
set_option maxRecDepth 8000
attribute [local go_sem ↓] Go.wp_at_zero Go.wp_at_succ
structure SumI (w : World) (A M j : Nat) (wr : World) (ra : Option Addr) (rl rc : Nat) (mp mo : Option Nat) (B : Wb.Bk) (ks : List Int) (N : Nat) (sum : Int → Int) : Prop where
 a0 : wr.cell? ⟨A, 0, none⟩ = some (.slice ra rl rc)
 a1 : wr.cell? ⟨A, 1, none⟩ = some (.map mp)
 a2 : wr.cell? ⟨A, 2, none⟩ = some (.map mo)
 af : ∀ j, wr.frozen? ⟨A, j, none⟩ = false
 book : BkF (fun q => ¬ (q = A ∨ q = M)) wr (.slice ra rl rc) mp mo B ks N
 ok : BkI j B ks N
 map : ∃ f, KMap kU32 wr M (100000 * j) (.int .i64 0) f ∧ ∀ p, kU32.ok p → (f p).getD (.int .i64 0) = .int .i64 (sum p)
 eq : ∀ p, sum p - B.owed p = Wb.nlC (B.paid p)
 low : ∀ p, 0 ≤ sum p ∧ sum p ≤ 1125899906842624 * j
 lt : A < wr.heap.size ∧ M < wr.heap.size ∧ w.heap.size ≤ A ∧ w.heap.size ≤ M
 ext : Wb.Ext w wr
theorem BkI.up {j : Nat} {B : Wb.Bk} {ks : List Int} {N : Nat} (h : BkI j B ks N) : BkI (j + 1) B ks N :=
 ⟨h.ok, h.runs, by have := h.len; omega, h.few, by have := h.many; omega, by have := h.keys; omega⟩
theorem SumI.skip {w : World} {A M j : Nat} {wr w2 : World} {ra : Option Addr} {rl rc : Nat} {mp mo : Option Nat} {B : Wb.Bk} {ks : List Int} {N : Nat} {sum : Int → Int} (h : SumI w A M j wr ra rl rc mp mo B ks N sum) (k : Wb.Ext wr w2) : SumI w A M (j + 1) w2 ra rl rc mp mo B ks N sum :=
 ⟨k.keep h.a0, k.keep h.a1, k.keep h.a2, (fun i => (k.cells.2 _ _ h.lt.1).trans (h.af i)), h.book.kept (.ext k), h.ok.up, by obtain ⟨f, h1, h2⟩ := h.map; exact ⟨f, (h1.ext k).mono (by omega), h2⟩, h.eq, (fun p => by have := h.low p; omega), ⟨Nat.lt_of_lt_of_le h.lt.1 k.size, Nat.lt_of_lt_of_le h.lt.2.1 k.size, h.lt.2.2.1, h.lt.2.2.2⟩, h.ext.trans k⟩
structure SumK (wA : World) (M j : Nat) (wr : World) (sum : Int → Int) (rows : List Wb.Rw) (k : Nat) : Prop where
 map : ∃ f, KMap kU32 wr M (100000 * j + k) (.int .i64 0) f ∧ ∀ p, kU32.ok p → (f p).getD (.int .i64 0) = .int .i64 (Wb.addR sum (rows.take k) p)
 kept : Kept (fun q => q ≠ M) wA wr
 size : wA.heap.size ≤ wr.heap.size
theorem SumK.ext {wA wr w2 : World} {M j k : Nat} {sum : Int → Int} {rows : List Wb.Rw} (h : SumK wA M j wr sum rows k) (e : Wb.Ext wr w2) : SumK wA M j w2 sum rows k :=
 ⟨by obtain ⟨f, h1, h2⟩ := h.map; exact ⟨f, h1.ext e, h2⟩, h.kept.trans (.ext e), Nat.le_trans h.size e.size⟩
end Go.Proofs.YtnefdpnolojojaaGreatDoor
namespace Go.Proofs.YtnefdpnolojojaaGreatDoor
open Go
section
variable {P : Program} {ops : Array Oper} {Q : Exit → Act → World → Prop} {md : Region.Mode} {S T : World → Prop} {J : Nat → Bool}
end
end Go.Proofs.YtnefdpnolojojaaGreatDoor
namespace Go.Proofs.YtnefdpnolojojaaGreatDoor
open Go
section
variable {P : Program} {ops : Array Oper} {Q : Exit → Act → World → Prop} {md : Region.Mode} {S : World → Prop} {J : Nat → Bool}
end
end Go.Proofs.YtnefdpnolojojaaGreatDoor
namespace Go.Proofs.YtnefdpnolojojaaGreatDoor
namespace Wb
end Wb
end Go.Proofs.YtnefdpnolojojaaGreatDoor
namespace Go.Proofs.YtnefdpnolojojaaGreatDoor
namespace Wb
theorem rows_make {q : Int × Int} {B : Bk} {S : Int → List Ct} : ∀ {ps : List Int} {acc : List Rw}, (∀ p ∈ ps, actB B S p = true → (rowB q B S p).2 = 0) → rowsG q B S acc ps = (0, acc ++ (ps.filter (actB B S)).map (fun p => (rowB q B S p).1))
 | [], acc, _ => by simp [rowsG]
 | p :: r, acc, h => by
  have ht : ∀ p ∈ r, actB B S p = true → (rowB q B S p).2 = 0 := fun x hx => h x (List.mem_cons_of_mem _ hx)
  rw [rowsG]
  rcases ha : actB B S p with _ | _
  ·rw [if_pos (act_not.1 ha), rows_make ht]; simp [ha]
  ·have he : (rowG p q (lst (B.paid p)) (lst (S p)) (B.owed p)).2 = 0 := h p List.mem_cons_self ha
   rw [if_neg (act_iff.1 ha), if_neg (by rw [he]; simp), rows_make ht]
   simp [ha, rowB]
theorem hands_make {q : Int × Int} {S : Int → List Ct} : ∀ {hs : List Int}, (∀ p ∈ hs, handE q none (lst (S p)) = 0) → handsE q S hs = 0
 | [], _ => rfl
 | a :: r, h => by
  have h1 := h a List.mem_cons_self
  rw [handsE, h1, if_neg (by simp)]
  exact hands_make fun p hp => h p (List.mem_cons_of_mem _ hp)
end Wb
end Go.Proofs.YtnefdpnolojojaaGreatDoor
namespace Go.Proofs.YtnefdpnolojojaaGreatDoor
namespace Wb
def putU : List Int → Int → List Int
 | [], p => [p]
 | x :: r, p => if x < p then x :: putU r p else if x = p then x :: r else p :: x :: r
theorem putU_mem : ∀ {l : List Int} {p x : Int}, x ∈ putU l p ↔ x = p ∨ x ∈ l
 | [], p, x => by simp [putU]
 | a :: r, p, x => by
  unfold putU
  split
  ·rw [List.mem_cons, putU_mem, List.mem_cons]
   constructor
   ·rintro (h | h | h)
    ·exact .inr (.inl h)
    ·exact .inl h
    ·exact .inr (.inr h)
   ·rintro (h | h | h)
    ·exact .inr (.inl h)
    ·exact .inl h
    ·exact .inr (.inr h)
  ·split
   ·rename_i e
    subst e
    simp
   ·simp
theorem putU_rise : ∀ {l : List Int} {p : Int}, l.Pairwise (· < ·) → (putU l p).Pairwise (· < ·)
 | [], p, _ => by simp [putU]
 | a :: r, p, h => by
  obtain ⟨h1, h2⟩ := List.pairwise_cons.1 h
  unfold putU
  split
  ·rename_i e
   refine List.pairwise_cons.2 ⟨fun x hx => ?_, putU_rise h2⟩
   rcases putU_mem.1 hx with rfl | hx
   ·exact e
   ·exact h1 x hx
  ·split
   ·exact h
   ·refine List.pairwise_cons.2 ⟨fun x hx => ?_, h⟩
    rcases List.mem_cons.1 hx with rfl | hx
    ·omega
    ·have := h1 x hx; omega
theorem putU_len : ∀ {l : List Int} {p : Int}, (putU l p).length ≤ l.length + 1
 | [], p => by simp [putU]
 | a :: r, p => by
  have := putU_len (l := r) (p := p)
  unfold putU
  split
  ·simp; omega
  ·split <;> simp
theorem check_noneB {y i : Int} {l : List Ln} (h : check y i l = 0) : noneB y i l = false := by
 cases hb : noneB y i l
 ·rfl
 ·obtain ⟨h1, h2, h3⟩ := none_iff.1 hb
  subst h1 h2 h3
  simp [check] at h
end Wb
end Go.Proofs.YtnefdpnolojojaaGreatDoor
