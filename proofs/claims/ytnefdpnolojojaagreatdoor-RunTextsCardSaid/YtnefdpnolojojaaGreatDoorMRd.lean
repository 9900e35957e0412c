/- MRd -/
import Derived.Test.YtnefdpnolojojaaGreatDoorRun17
import Derived.Test.YtnefdpnolojojaaGreatDoorRun15
import Derived.Test.YtnefdpnolojojaaGreatDoorMPm
import Derived.BigQuiet
import Derived.Deep.RegionHeld
namespace Go.Proofs.YtnefdpnolojojaaGreatDoor
open Go.RowKit Go.Sort Go.Lib Go.Maps
set_option maxRecDepth 8000
attribute [local go_sem ↓] Go.wp_at_zero Go.wp_at_succ
def salB : List UInt8 := [115, 97, 108, 97, 114, 121]
def salL (c : Int) : List Wb.Ln := [⟨0, salB, c⟩]
theorem some31_any (y i c : Int) (w : World) :
  Calls Tryz.prog 36 #[.int .i64 y, .int .i64 i, .int .i64 c] w fun e w' => ∃ g, e = .returned (SlV y i (.slice (some ⟨g, 0, none⟩) 1 1)) ∧ LnsC w' (.slice (some ⟨g, 0, none⟩) 1 1) (salL c) ∧ w.heap.size ≤ g ∧ g < w'.heap.size ∧ Wb.Ext w w' := by
 go_enter Tryz.func36, Tryz.ntmps36
 go_wp2
 refine bodyPost_ret (v := SlV y i (.slice (some ⟨w.heap.size + 1, 0, none⟩) 1 1)) (by simp [results, Tryz.results36, go_sem, SlV]) rfl ⟨w.heap.size + 1, rfl, ⟨.inr ⟨_, _, _, rfl, fun j x hj => ?_⟩, Nat.le_refl _⟩, by omega, by simp, by (repeat' (first | (with_reducible assumption) | (with_reducible exact Wb.Ext.refl _) | (with_reducible refine Wb.Ext.drew ?_) | (with_reducible refine Wb.Ext.drewN ?_ _) | (with_reducible refine Wb.Ext.alloc ?_ _) | (with_reducible refine Wb.ext_set ?_ (by first | assumption | (simp; done) | (simp; omega) | omega) _) | (with_reducible refine Wb.Ext.trans ?_ (by assumption))))⟩
 rcases j with _ | j
 ·simp [salL] at hj
  subst hj
  refine ⟨by simp [go_sem], ?_, by simp [go_sem]⟩
  simp [go_sem]
  rfl
 ·simp [salL] at hj
end Go.Proofs.YtnefdpnolojojaaGreatDoor
namespace Go.Proofs.YtnefdpnolojojaaGreatDoor
namespace Wb
def salC (y i c : Int) : Ct := (y, i, [⟨0, [115, 97, 108, 97, 114, 121], c⟩])
def S1 (p : Int) : List Ct := if p = 1 then [salC 2024 1 10000] else []
def S2 (p : Int) : List Ct := if p = 1 then [salC 2024 1 9000, salC 2024 2 10000] else []
theorem rows_skip {q : Int × Int} {B : Bk} {S : Int → List Ct} : ∀ {ps : List Int} {acc : List Rw}, (∀ p ∈ ps, S p = [] ∧ B.paid p = []) → rowsG q B S acc ps = (0, acc)
 | [], _, _ => rfl
 | p :: r, acc, h => by
  rw [rowsG, if_pos (h p (by simp))]
  exact rows_skip fun x hx => h x (by simp [hx])
theorem rows_one {q : Int × Int} {B : Bk} {S : Int → List Ct} {a : Int} {R : Rw} (hR : rowG a q (lst (B.paid a)) (lst (S a)) (B.owed a) = (R, 0)) (ha : ¬ (S a = [] ∧ B.paid a = [])) :
  ∀ {ps : List Int} {acc : List Rw}, ps.Nodup → a ∈ ps → (∀ p ∈ ps, p ≠ a → S p = [] ∧ B.paid p = []) → rowsG q B S acc ps = (0, acc ++ [R])
 | [], _, _, h, _ => by cases h
 | p :: r, acc, hn, h, h2 => by
  obtain ⟨n1, n2⟩ := List.nodup_cons.1 hn
  by_cases e : p = a
  ·subst e
   rw [rowsG, if_neg ha, hR, if_neg (by simp)]
   exact rows_skip fun x hx => h2 x (by simp [hx]) (fun e => n1 (e ▸ hx))
  ·rw [rowsG, if_pos (h2 p (by simp) e)]
   exact rows_one hR ha n2 ((List.mem_cons.1 h).resolve_left (fun e2 => e e2.symm)) fun x hx => h2 x (by simp [hx])
theorem hands_only {q : Int × Int} {S : Int → List Ct} {a : Int} (h : handE q none (lst (S a)) = 0) (h2 : ∀ p, p ≠ a → S p = []) : ∀ hs : List Int, handsE q S hs = 0
 | [] => rfl
 | p :: r => by
  have e : handE q none (lst (S p)) = 0 := by
   by_cases e : p = a
   ·rw [e]; exact h
   ·rw [h2 p e]; rfl
  rw [handsE, e, if_neg (by simp)]
  exact hands_only h h2 r
def R1 : Rw := ⟨1, salC 2024 1 10000, [], 10000, 10000, 0⟩
def R2 : Rw := ⟨1, salC 2024 2 10000, [(2024, 1, [⟨0, [115, 97, 108, 97, 114, 121], -1000⟩])], 9000, 9000, 0⟩
theorem hand1 : handE (2024, 1) none (lst (S1 1)) = 0 := by decide +kernel
theorem hand2 : handE (2024, 2) none (lst (S2 1)) = 0 := by decide +kernel
theorem row1 : rowG 1 (2024, 1) (lst []) (lst (S1 1)) 0 = (R1, 0) := by rfl
theorem row2 : rowG 1 (2024, 2) (lst [salC 2024 1 10000]) (lst (S2 1)) 0 = (R2, 0) := by rfl
def B1 : Bk := ⟨[⟨1, 2024, 1, 0, [R1]⟩], fun p => fullC (S1 p), owedBy [R1] fun _ => 0⟩
def B2 : Bk := ⟨[⟨1, 2024, 1, 0, [R1]⟩, ⟨2, 2024, 2, 0, [R2]⟩], fun p => fullC (S2 p), owedBy [R2] B1.owed⟩
theorem S1_none {p : Int} (h : p ≠ 1) : S1 p = [] := by unfold S1; rw [if_neg h]
theorem S2_none {p : Int} (h : p ≠ 1) : S2 p = [] := by unfold S2; rw [if_neg h]
theorem do1 {hs ps : List Int} (hw : Who noBk S1 hs ps) : doG noBk 2024 1 0 S1 hs ps = (B1, ⟨1, 2024, 1, 0, [R1]⟩, 0) := by
 have h0 : headE noBk.runs 2024 1 0 = 0 := by rfl
 have h1 : handsE (2024, 1) S1 hs = 0 := hands_only hand1 (fun p hp => S1_none hp) hs
 have h2 : rowsG (2024, 1) noBk S1 [] ps = (0, [R1]) := by
  have := rows_one (q := (2024, 1)) (B := noBk) (S := S1) (a := 1) row1 (fun h => by cases h.1) (acc := []) hw.one (hw.all 1 (.inl (by intro h; cases h))) (fun p _ hp => ⟨S1_none hp, rfl⟩)
  exact this
 unfold doG
 rw [h0, h1, h2, if_neg (by simp), if_neg (by simp), if_neg (by simp)]
 rfl
theorem do2 {hs ps : List Int} (hw : Who B1 S2 hs ps) : doG B1 2024 2 0 S2 hs ps = (B2, ⟨2, 2024, 2, 0, [R2]⟩, 0) := by
 have h0 : headE B1.runs 2024 2 0 = 0 := by rfl
 have h1 : handsE (2024, 2) S2 hs = 0 := hands_only hand2 (fun p hp => S2_none hp) hs
 have h2 : rowsG (2024, 2) B1 S2 [] ps = (0, [R2]) := by
  have := rows_one (q := (2024, 2)) (B := B1) (S := S2) (a := 1) row2 (fun h => by cases h.1) (acc := []) hw.one (hw.all 1 (.inl (by intro h; cases h))) (fun p _ hp => ⟨S2_none hp, by show fullC (S1 p) = []; rw [S1_none hp]; rfl⟩)
  exact this
 unfold doG
 rw [h0, h1, h2, if_neg (by simp), if_neg (by simp), if_neg (by simp)]
 rfl
theorem b1_ok : BkOk B1 := by
 have hb := behind_of (B := noBk) (y := 2024) (i := 1) (k := 0) (S := S1) (hs := [1]) (ps := [1]) bkOk_none ⟨fun p hp => by
   by_cases e : p = 1
   ·simp [e]
   ·exact absurd (S1_none e) hp, fun p hp => by
   by_cases e : p = 1
   ·simp [e]
   ·rcases hp with hp | hp
    ·exact absurd (S1_none e) hp
    ·exact absurd rfl hp, by simp, by simp⟩ (do_ok (do1 (hs := [1]) (ps := [1]) ⟨fun p hp => by
   by_cases e : p = 1
   ·simp [e]
   ·exact absurd (S1_none e) hp, fun p hp => by
   by_cases e : p = 1
   ·simp [e]
   ·rcases hp with hp | hp
    ·exact absurd (S1_none e) hp
    ·exact absurd rfl hp, by simp, by simp⟩))
 exact hb.ok
end Wb
end Go.Proofs.YtnefdpnolojojaaGreatDoor
namespace Go.Proofs.YtnefdpnolojojaaGreatDoor
open Go.RowKit Go.Sort Go.Lib Go.Maps
set_option maxRecDepth 8000
attribute [local go_sem ↓] Go.wp_at_zero Go.wp_at_succ
def oneS (C : List Wb.Ct) (p : Int) : List Wb.Ct := if p = 1 then C else []
theorem bk_none (F : Nat → Prop) (w : World) : BkF F w (.slice none 0 0) none none Wb.noBk [] 0 :=
 ⟨⟨[], fun w2 _ => ⟨Tbl.nil, (fun r hr => by cases hr), by simp, fun r hr => by cases hr⟩, rfl⟩, ⟨0, fun _ => none, ⟨(fun _ _ _ => rfl), (fun p => ⟨[], fun w2 _ => ⟨⟨.inl ⟨rfl, none, 0, rfl⟩, fun s hs => by cases hs⟩, by simp, fun s hs => by cases hs⟩, rfl⟩), fun p hp => absurd rfl hp⟩, Nat.le_refl _, fun p _ h => by cases h⟩, ⟨0, fun _ => none, (fun _ _ _ => rfl), Nat.le_refl _, (fun p => rfl), fun p _ h => by cases h⟩⟩
theorem awake_do1 (F0 : Nat → Prop) (W : World) (M : Nat) (h : ∃ f, SMapF F0 W (some M) 1 f (oneS [Wb.salC 2024 1 10000]) ∧ KeysAre kU32 f [1]) :
  Calls Tryz.prog 5 #[BkV (.slice none 0 0) none none, .int .i64 2024, .int .i64 1, .int .i64 0, .map (some M)] W fun e w' => ∃ (rv' : Value) (mp' mo' : Option Nat) (r : RnM), e = .returned (.tuple #[BkV rv' mp' mo', RnV 1 2024 1 0 r.rv, .int .i64 0]) ∧ BkF (fun q => q < W.heap.size → F0 q) w' rv' mp' mo' Wb.B1 [1] 1 ∧ (∀ w2, Kept (fun q => q < W.heap.size → F0 q) w' w2 → RowsM w2 r.rv r.rows) ∧ r.rows.map RwM.c = [Wb.R1] ∧ Wb.Ext W w' := by
 obtain ⟨f, h1, h2⟩ := h
 refine (do31_any F0 (.slice none 0 0) none none (some M) 1 f (oneS [Wb.salC 2024 1 10000]) Wb.noBk [] [1] 0 2024 1 0 W (bk_none F0 W) Wb.bkOk_none (fun r hr => by cases hr) (by decide) (fun p => by show (0 : Nat) ≤ _; omega) (by omega) (by simp) h1 (by omega) (by decide) h2 (by simp) (fun p => by
  unfold oneS
  split <;> simp)).mono ?_
 rintro e w' ⟨ps, rv', mp', mo', r, B', E, hw, hd, rfl, hb, hr, hx⟩
 have hS : (oneS [Wb.salC 2024 1 10000]) = Wb.S1 := rfl
 rw [hS] at hw hd
 rw [Wb.do1 hw] at hd
 simp only [Prod.mk.injEq] at hd
 obtain ⟨rfl, hrc, rfl⟩ := hd
 have e1 : r.n = 1 := (congrArg Wb.Rn.n hrc).symm
 have e2 : r.y = 2024 := (congrArg Wb.Rn.y hrc).symm
 have e3 : r.i = 1 := (congrArg Wb.Rn.i hrc).symm
 have e4 : r.k = 0 := (congrArg Wb.Rn.k hrc).symm
 have e5 : r.rows.map RwM.c = [Wb.R1] := (congrArg Wb.Rn.rows hrc).symm
 exact ⟨rv', mp', mo', r, by rw [e1, e2, e3, e4], hb, hr, e5, hx⟩
theorem awake_do2 (F0 : Nat → Prop) (W : World) (M : Nat) (rv : Value) (mp mo : Option Nat) (hb : BkF F0 W rv mp mo Wb.B1 [1] 1) (h : ∃ f, SMapF F0 W (some M) 1 f (oneS [Wb.salC 2024 1 9000, Wb.salC 2024 2 10000]) ∧ KeysAre kU32 f [1]) :
  Calls Tryz.prog 5 #[BkV rv mp mo, .int .i64 2024, .int .i64 2, .int .i64 0, .map (some M)] W fun e w' => ∃ (rv' : Value) (mp' mo' : Option Nat) (r : RnM), e = .returned (.tuple #[BkV rv' mp' mo', RnV 2 2024 2 0 r.rv, .int .i64 0]) ∧ BkF (fun q => q < W.heap.size → F0 q) w' rv' mp' mo' Wb.B2 [1, 1] 3 ∧ (∀ w2, Kept (fun q => q < W.heap.size → F0 q) w' w2 → RowsM w2 r.rv r.rows) ∧ r.rows.map RwM.c = [Wb.R2] ∧ Wb.Ext W w' := by
 obtain ⟨f, h1, h2⟩ := h
 refine (do31_any F0 rv mp mo (some M) 1 f (oneS [Wb.salC 2024 1 9000, Wb.salC 2024 2 10000]) Wb.B1 [1] [1] 1 2024 2 0 W hb Wb.b1_ok (fun r hr => by
  simp [Wb.B1] at hr
  subst hr
  decide) (by decide) (fun p => by
  show (Wb.fullC (Wb.S1 p)).length ≤ 4096
  refine Nat.le_trans (List.length_filter_le _ _) ?_
  unfold Wb.S1
  split <;> simp) (by omega) (by simp) h1 (by omega) (by decide) h2 (by simp) (fun p => by
  unfold oneS
  split <;> simp)).mono ?_
 rintro e w' ⟨ps, rv', mp', mo', r, B', E, hw, hd, rfl, hb, hr, hx⟩
 have hS : (oneS [Wb.salC 2024 1 9000, Wb.salC 2024 2 10000]) = Wb.S2 := rfl
 rw [hS] at hw hd
 rw [Wb.do2 hw] at hd
 simp only [Prod.mk.injEq] at hd
 obtain ⟨rfl, hrc, rfl⟩ := hd
 have e1 : r.n = 2 := (congrArg Wb.Rn.n hrc).symm
 have e2 : r.y = 2024 := (congrArg Wb.Rn.y hrc).symm
 have e3 : r.i = 2 := (congrArg Wb.Rn.i hrc).symm
 have e4 : r.k = 0 := (congrArg Wb.Rn.k hrc).symm
 have e5 : r.rows.map RwM.c = [Wb.R2] := (congrArg Wb.Rn.rows hrc).symm
 exact ⟨rv', mp', mo', r, by rw [e1, e2, e3, e4], hb, hr, e5, hx⟩
end Go.Proofs.YtnefdpnolojojaaGreatDoor
namespace Go.Proofs.YtnefdpnolojojaaGreatDoor
open Go.RowKit Go.Sort Go.Lib Go.Maps
set_option maxRecDepth 8000
attribute [local go_sem ↓] Go.wp_at_zero Go.wp_at_succ
theorem sal_sized (c : Int) : Sized (salL c) := ⟨by simp [salL], fun x hx => by simp [salL] at hx; subst hx; simp [salB]⟩
theorem sls_one {X w2 : World} {B g : Nat} {y i c : Int} {F : Nat → Prop} (hc : X.cell? ⟨B, 0, none⟩ = some (.int .i64 y) ∧ X.cell? ⟨B, 1, none⟩ = some (.int .i64 i) ∧ X.cell? ⟨B, 2, none⟩ = some (.slice (some ⟨g, 0, none⟩) 1 1)) (hl : LnsC X (.slice (some ⟨g, 0, none⟩) 1 1) (salL c)) (hB : F B) (hg : F g) (k : Kept F X w2) :
  SlsK w2 (.slice (some ⟨B, 0, none⟩) 1 1) [⟨y, i, .slice (some ⟨g, 0, none⟩) 1 1, salL c⟩] := by
 refine ⟨⟨.inr ⟨B, 0, 1, rfl, fun j x hj t u hu => ?_⟩, fun s hs => ?_⟩, by simp, fun s hs => ?_⟩
 ·rcases j with _ | j
  ·obtain rfl : _ = x := by simpa using hj
   match t, hu with
   | 0, hu => simp [slc] at hu; subst hu; simpa using k.cell hB hc.1
   | 1, hu => simp [slc] at hu; subst hu; simpa using k.cell hB hc.2.1
   | 2, hu => simp [slc] at hu; subst hu; simpa using k.cell hB hc.2.2
   | t + 3, hu => simp [slc] at hu
  ·simp at hj
 ·obtain rfl : s = _ := by simpa using hs
  exact ⟨k.lns hl (fun _ q hq => by cases hq; exact hg), sal_sized c⟩
 ·obtain rfl : s = _ := by simpa using hs
  simp [salL]
end Go.Proofs.YtnefdpnolojojaaGreatDoor
namespace Go.Proofs.YtnefdpnolojojaaGreatDoor
open Go.RowKit Go.Sort Go.Lib Go.Maps
set_option maxRecDepth 8000
attribute [local go_sem ↓] Go.wp_at_zero Go.wp_at_succ
def NewM (W : World) (M : Nat) : Prop := KMap kU32 W M 0 (.slice none 0 0) (fun _ => none)
theorem NewM.ext {W W2 : World} {M : Nat} (h : NewM W M) (k : Wb.Ext W W2) : NewM W2 M := KMap.ext h k
theorem newM_made (W : World) : NewM (W.alloc (.map #[] 0)) W.heap.size := kmap_made kU32 W _ _ rfl
noncomputable def insW (M : Nat) (V : Value) (W : World) : World := match (Instr.mapUpdate 24 (.map (some M)) (.int .u32 1) V).run Tryz.prog W with
 | .ok _ w => w
 | _ => W
theorem ins_run (M : Nat) (V : Value) (W : World) (h : NewM W M) : (Instr.mapUpdate 24 (.map (some M)) (.int .u32 1) V).run Tryz.prog W = .ok () (insW M V W) := by
 obtain ⟨w12, hrun, _, _⟩ := KMap.update h Tryz.underlying24 (by unfold maxLen; omega) (show kU32.ok 1 from u32_ok (by omega)) V
 have hrun2 : (Instr.mapUpdate 24 (.map (some M)) (.int .u32 1) V).run Tryz.prog W = .ok () w12 := hrun
 rw [hrun2]
 unfold insW
 rw [hrun2]
theorem ins_grown {M : Nat} (V : Value) {W : World} (h : NewM W M) : W.grownBy (insW M V W) (some M) := by
 obtain ⟨w12, hrun, _, hg⟩ := KMap.update h Tryz.underlying24 (by unfold maxLen; omega) (show kU32.ok 1 from u32_ok (by omega)) V
 have hrun2 : (Instr.mapUpdate 24 (.map (some M)) (.int .u32 1) V).run Tryz.prog W = .ok () w12 := hrun
 have e : insW M V W = w12 := by unfold insW; rw [hrun2]
 rw [e]; exact hg
theorem ins_map {F : Nat → Prop} {X : World} {M : Nat} {v : Value} {L : List Wb.Sl} (hF : F M) (hm : NewM X M) (hL : ∀ w2, Kept (fun q => F q ∧ q ≠ M) X w2 → SlsK w2 v L) :
  ∃ f, SMapF F (insW M v X) (some M) 1 f (oneS (L.map Wb.ct)) ∧ KeysAre kU32 f [1] := by
 have hok : kU32.ok 1 := u32_ok (by omega)
 obtain ⟨w12, hrun, hm2, hg⟩ := KMap.update hm Tryz.underlying24 (by unfold maxLen; omega) hok v
 have hrun2 : (Instr.mapUpdate 24 (.map (some M)) (.int .u32 1) v).run Tryz.prog X = .ok () w12 := hrun
 have e : insW M v X = w12 := by unfold insW; rw [hrun2]
 rw [e]
 have hk : Kept (fun q => F q ∧ q ≠ M) X w12 := .grown hg (fun q e _ hq => by cases e; exact hq.2 rfl)
 refine ⟨fun q => if (1 : Int) = q then some v else none, ⟨fun w2 h2 => (hm2.keptF h2 hF).opt, fun p => ?_, fun p hp => ?_⟩, by simp, fun p => ?_⟩
 ·by_cases e : (1 : Int) = p
  ·subst e
   exact ⟨L, fun w2 h2 => by rw [if_pos rfl]; exact hL w2 (hk.trans (h2.mono fun q _ hq => hq.1)), by simp [oneS]⟩
  ·have e2 : ¬ p = 1 := fun h => e h.symm
   exact ⟨[], fun w2 h2 => by rw [if_neg e]; exact ⟨⟨.inl ⟨rfl, none, 0, rfl⟩, fun s hs => by cases hs⟩, by simp, fun s hs => by cases hs⟩, by simp [oneS, e2]⟩
 ·by_cases e : p = 1
  ·subst e; exact ⟨hok, rfl⟩
  ·simp [oneS, e] at hp
 ·by_cases e : p = 1
  ·subst e; simp [hok]
  ·have e2 : ¬ (1 : Int) = p := fun h => e h.symm
   simp [e, e2]
def Pre1 (W1 W : World) (M : Nat) (F : Nat → Prop) : Prop := (∃ f, SMapF F W (some M) 1 f (oneS [Wb.salC 2024 1 10000]) ∧ KeysAre kU32 f [1]) ∧ Wb.Ext W1 W
theorem Pre1.alloc {W1 W : World} {M : Nat} {F : Nat → Prop} (h : Pre1 W1 W M F) (o : Obj) : Pre1 W1 (W.alloc o) M F := by
 obtain ⟨⟨f, h1, h2⟩, h3⟩ := h
 exact ⟨⟨f, h1.kept (.ext ((Wb.Ext.refl _).alloc o)), h2⟩, h3.alloc o⟩
theorem pre1_ins {W1 W' W : World} {M B g : Nat} (h1 : Wb.Ext W1 W) (hw : Wb.Ext W' W) (hN : NewM W M) (hM : W1.heap.size ≤ M) (hgM : g ≠ M) (hBM : B ≠ M)
  (hl : LnsC W' (.slice (some ⟨g, 0, none⟩) 1 1) (salL 10000))
  (hc : W.cell? ⟨B, 0, none⟩ = some (.int .i64 2024) ∧ W.cell? ⟨B, 1, none⟩ = some (.int .i64 1) ∧ W.cell? ⟨B, 2, none⟩ = some (.slice (some ⟨g, 0, none⟩) 1 1)) :
  Pre1 W1 (insW M (.slice (some ⟨B, 0, none⟩) 1 1) W) M (fun q => q = M ∨ q = B ∨ q = g) := by
 refine ⟨ins_map (L := [⟨2024, 1, .slice (some ⟨g, 0, none⟩) 1 1, salL 10000⟩]) (.inl rfl) hN (fun w2 k => sls_one hc (hl.ext hw) (F := fun q => (q = M ∨ q = B ∨ q = g) ∧ q ≠ M) ⟨.inr (.inl rfl), hBM⟩ ⟨.inr (.inr rfl), hgM⟩ k), h1.grown (ins_grown _ hN) (fun k e => by cases e; exact hM)⟩
def BoxZ (w : World) (X : Nat) : Prop := w.cell? ⟨X, 0, none⟩ = some (.int .i64 0) ∧ w.cell? ⟨X, 1, none⟩ = some (.int .i64 0) ∧ w.cell? ⟨X, 2, none⟩ = some (.int .i64 0) ∧ w.cell? ⟨X, 3, none⟩ = some (.int .i64 0) ∧ w.cell? ⟨X, 4, none⟩ = some (.slice none 0 0) ∧ ∀ j, w.frozen? ⟨X, j, none⟩ = false
theorem BoxZ.lt {w : World} {X : Nat} (h : BoxZ w X) : X < w.heap.size := Wb.cell_size h.1
theorem BoxZ.ext {w w2 : World} {X : Nat} (h : BoxZ w X) (k : Wb.Ext w w2) : BoxZ w2 X := by
 have hl := h.lt
 obtain ⟨h0, h1, h2, h3, h4, h5⟩ := h
 exact ⟨k.keep h0, k.keep h1, k.keep h2, k.keep h3, k.keep h4, fun j => (k.cells.2 _ _ hl).trans (h5 j)⟩
theorem BoxZ.ins {w : World} {X M : Nat} (h : BoxZ w X) (V : Value) (hN : NewM w M) : BoxZ (insW M V w) X := by
 have hl := h.lt
 have hne : X ≠ M := by
  rintro rfl
  have h0 := h.1
  rw [kmap_nocell hN] at h0; cases h0
 have hk : Kept (fun q => q ≠ M) w (insW M V w) := .grown (ins_grown V hN) (fun q e _ hq => by cases e; exact hq rfl)
 obtain ⟨h0, h1, h2, h3, h4, h5⟩ := h
 exact ⟨hk.cell hne h0, hk.cell hne h1, hk.cell hne h2, hk.cell hne h3, hk.cell hne h4, fun j => hk.frozen hne hl (h5 j)⟩
theorem sls_two {X w2 : World} {B g k2 : Nat} {y i c y2 i2 c2 : Int} {F : Nat → Prop} (hc : X.cell? ⟨B, 0, none⟩ = some (.int .i64 y) ∧ X.cell? ⟨B, 1, none⟩ = some (.int .i64 i) ∧ X.cell? ⟨B, 2, none⟩ = some (.slice (some ⟨g, 0, none⟩) 1 1))
  (hd : X.cell? ⟨B, 3, none⟩ = some (.int .i64 y2) ∧ X.cell? ⟨B, 4, none⟩ = some (.int .i64 i2) ∧ X.cell? ⟨B, 5, none⟩ = some (.slice (some ⟨k2, 0, none⟩) 1 1))
  (hl : LnsC X (.slice (some ⟨g, 0, none⟩) 1 1) (salL c)) (hm : LnsC X (.slice (some ⟨k2, 0, none⟩) 1 1) (salL c2)) (hB : F B) (hg : F g) (hh : F k2) (k : Kept F X w2) :
  SlsK w2 (.slice (some ⟨B, 0, none⟩) 2 2) [⟨y, i, .slice (some ⟨g, 0, none⟩) 1 1, salL c⟩, ⟨y2, i2, .slice (some ⟨k2, 0, none⟩) 1 1, salL c2⟩] := by
 refine ⟨⟨.inr ⟨B, 0, 2, rfl, fun j x hj t u hu => ?_⟩, fun s hs => ?_⟩, by simp, fun s hs => ?_⟩
 ·rcases j with _ | _ | j
  ·obtain rfl : _ = x := by simpa using hj
   match t, hu with
   | 0, hu => simp [slc] at hu; subst hu; simpa using k.cell hB hc.1
   | 1, hu => simp [slc] at hu; subst hu; simpa using k.cell hB hc.2.1
   | 2, hu => simp [slc] at hu; subst hu; simpa using k.cell hB hc.2.2
   | t + 3, hu => simp [slc] at hu
  ·obtain rfl : _ = x := by simpa using hj
   match t, hu with
   | 0, hu => simp [slc] at hu; subst hu; simpa using k.cell hB hd.1
   | 1, hu => simp [slc] at hu; subst hu; simpa using k.cell hB hd.2.1
   | 2, hu => simp [slc] at hu; subst hu; simpa using k.cell hB hd.2.2
   | t + 3, hu => simp [slc] at hu
  ·simp at hj
 ·have : s = ⟨y, i, .slice (some ⟨g, 0, none⟩) 1 1, salL c⟩ ∨ s = ⟨y2, i2, .slice (some ⟨k2, 0, none⟩) 1 1, salL c2⟩ := by simpa using hs
  rcases this with rfl | rfl
  ·exact ⟨k.lns hl (fun _ q hq => by cases hq; exact hg), sal_sized c⟩
  ·exact ⟨k.lns hm (fun _ q hq => by cases hq; exact hh), sal_sized c2⟩
 ·have : s = ⟨y, i, .slice (some ⟨g, 0, none⟩) 1 1, salL c⟩ ∨ s = ⟨y2, i2, .slice (some ⟨k2, 0, none⟩) 1 1, salL c2⟩ := by simpa using hs
  rcases this with rfl | rfl <;> simp [salL]
def Pre2 (W1 W : World) (M : Nat) (F : Nat → Prop) : Prop := (∃ f, SMapF F W (some M) 1 f (oneS [Wb.salC 2024 1 9000, Wb.salC 2024 2 10000]) ∧ KeysAre kU32 f [1]) ∧ Wb.Ext W1 W
theorem Pre2.alloc {W1 W : World} {M : Nat} {F : Nat → Prop} (h : Pre2 W1 W M F) (o : Obj) : Pre2 W1 (W.alloc o) M F := by
 obtain ⟨⟨f, h1, h2⟩, h3⟩ := h
 exact ⟨⟨f, h1.kept (.ext ((Wb.Ext.refl _).alloc o)), h2⟩, h3.alloc o⟩
theorem pre2_ins {W1 Wa Wb' W : World} {M B g k2 : Nat} (h1 : Wb.Ext W1 W) (ha : Wb.Ext Wa W) (hb : Wb.Ext Wb' W) (hN : NewM W M) (hM : W1.heap.size ≤ M) (hgM : g ≠ M) (hkM : k2 ≠ M) (hBM : B ≠ M)
  (hl : LnsC Wa (.slice (some ⟨g, 0, none⟩) 1 1) (salL 9000)) (hm : LnsC Wb' (.slice (some ⟨k2, 0, none⟩) 1 1) (salL 10000))
  (hc : W.cell? ⟨B, 0, none⟩ = some (.int .i64 2024) ∧ W.cell? ⟨B, 1, none⟩ = some (.int .i64 1) ∧ W.cell? ⟨B, 2, none⟩ = some (.slice (some ⟨g, 0, none⟩) 1 1))
  (hd : W.cell? ⟨B, 3, none⟩ = some (.int .i64 2024) ∧ W.cell? ⟨B, 4, none⟩ = some (.int .i64 2) ∧ W.cell? ⟨B, 5, none⟩ = some (.slice (some ⟨k2, 0, none⟩) 1 1)) :
  Pre2 W1 (insW M (.slice (some ⟨B, 0, none⟩) 2 2) W) M (fun q => q = M ∨ q = B ∨ q = g ∨ q = k2) := by
 refine ⟨ins_map (L := [⟨2024, 1, .slice (some ⟨g, 0, none⟩) 1 1, salL 9000⟩, ⟨2024, 2, .slice (some ⟨k2, 0, none⟩) 1 1, salL 10000⟩]) (.inl rfl) hN (fun w2 k => sls_two hc hd (hl.ext ha) (hm.ext hb) (F := fun q => (q = M ∨ q = B ∨ q = g ∨ q = k2) ∧ q ≠ M) ⟨.inr (.inl rfl), hBM⟩ ⟨.inr (.inr (.inl rfl)), hgM⟩ ⟨.inr (.inr (.inr rfl)), hkM⟩ k), h1.grown (ins_grown _ hN) (fun k e => by cases e; exact hM)⟩
theorem boxz_cut {P : Prop} {w w2 : World} {X : Nat} (k : Wb.Ext w w2) (h : BoxZ w X) (f : BoxZ w2 X → P) : P := f (h.ext k)
theorem boxi_cut {P : Prop} {Wy w2 : World} {X M n : Nat} {V : Value} (hn : n = (insW M V Wy).heap.size) (k : Wb.Ext (insW M V Wy) w2) (hN : NewM Wy M) (h : BoxZ Wy X) (f : X < n → BoxZ w2 X → P) : P :=
 f (by rw [hn]; exact (h.ins V hN).lt) ((h.ins V hN).ext k)
theorem boxa_cut {P : Prop} {Wy w2 : World} {M n A : Nat} {V : Value} {T : TypeId} (hn : n = ((insW M V Wy).alloc (.cells #[.int .i64 0, .int .i64 0, .int .i64 0, .int .i64 0, .slice none 0 0] T)).heap.size) (k : Wb.Ext ((insW M V Wy).alloc (.cells #[.int .i64 0, .int .i64 0, .int .i64 0, .int .i64 0, .slice none 0 0] T)) w2) (hN : NewM Wy M) (hA : A < Wy.heap.size)
  (f : ¬ A = (insW M V Wy).heap.size → ¬ (insW M V Wy).heap.size = A → A < (insW M V Wy).heap.size → Wy.heap.size ≤ (insW M V Wy).heap.size → (insW M V Wy).heap.size < n → BoxZ w2 (insW M V Wy).heap.size → P) : P := by
 have hz : BoxZ ((insW M V Wy).alloc (.cells #[.int .i64 0, .int .i64 0, .int .i64 0, .int .i64 0, .slice none 0 0] T)) (insW M V Wy).heap.size := by simp [BoxZ, go_sem]
 have hs := (ins_grown V hN).size
 exact f (by omega) (by omega) (by omega) hs (by rw [hn]; exact hz.lt) (hz.ext k)
def CutP (w : World) (A n X : Nat) (B : Wb.Bk) (ks : List Int) (N : Nat) (R : Wb.Rw) (wx : World) : Prop :=
 ∃ (ra : Option Addr) (rl rc : Nat) (mp mo : Option Nat) (qa : Option Addr) (qc : Nat) (rows : List RwM), X ≠ A ∧ n ≤ X ∧ X < wx.heap.size ∧ A < wx.heap.size ∧ wx.cell? ⟨A, 0, none⟩ = some (.slice ra rl rc) ∧ wx.cell? ⟨A, 1, none⟩ = some (.map mp) ∧ wx.cell? ⟨A, 2, none⟩ = some (.map mo) ∧ (∀ j, wx.frozen? ⟨A, j, none⟩ = false) ∧ wx.cell? ⟨X, 4, none⟩ = some (.slice qa 1 qc) ∧
  BkF (fun q => q ≠ A) wx (.slice ra rl rc) mp mo B ks N ∧ (∀ w2, Kept (fun q => q ≠ A) wx w2 → RowsM w2 (.slice qa 1 qc) rows) ∧ rows.map RwM.c = [R] ∧ Wb.Ext w wx
theorem Kept.alloc' {F : Nat → Prop} {w w' : World} (h : Kept F w w') (o : Obj) : Kept F w (w'.alloc o) := h.trans (.ext ((Wb.Ext.refl _).alloc o))
theorem cut_at {w w1 wx : World} {A X n n0 : Nat} {G : Nat → Prop} {ra : Option Addr} {rl rc : Nat} {mp mo : Option Nat} {qa : Option Addr} {qc : Nat} {rows : List RwM} {Bk : Wb.Bk} {ks : List Int} {N : Nat} {R : Wb.Rw}
  (hb : BkF (fun q => q < n → G q) w1 (.slice ra rl rc) mp mo Bk ks N) (hr : ∀ w2, Kept (fun q => q < n → G q) w1 w2 → RowsM w2 (.slice qa 1 qc) rows) (hc : rows.map RwM.c = [R]) (hx : Wb.Ext w wx)
  (hk : Kept (fun q => q < w1.heap.size ∧ (q < n → G q)) w1 wx) (hA : A < n) (hGA : ¬ G A) (hXA : X ≠ A) (hn0 : n0 ≤ X)
  (a0 : wx.cell? ⟨A, 0, none⟩ = some (.slice ra rl rc)) (a1 : wx.cell? ⟨A, 1, none⟩ = some (.map mp)) (a2 : wx.cell? ⟨A, 2, none⟩ = some (.map mo)) (af : ∀ j, wx.frozen? ⟨A, j, none⟩ = false) (x4 : wx.cell? ⟨X, 4, none⟩ = some (.slice qa 1 qc)) :
  CutP w A n0 X Bk ks N R wx := by
 have hk2 : Kept (fun q => q < n → G q) w1 wx := hk.mono fun i h1 h2 => ⟨h1, h2⟩
 refine ⟨ra, rl, rc, mp, mo, qa, qc, rows, hXA, hn0, Wb.cell_size x4, Wb.cell_size a0, a0, a1, a2, af, x4, (hb.kept hk2).mono (fun q _ h e => ?_), fun w3 h3 => hr w3 (hk2.trans (h3.mono fun q _ h e => ?_)), hc, hx⟩
 ·subst e; exact hGA (h hA)
 ·subst e; exact hGA (h hA)
end Go.Proofs.YtnefdpnolojojaaGreatDoor
namespace Go.Proofs.YtnefdpnolojojaaGreatDoor
open Go.RowKit Go.Sort Go.Lib Go.Maps
set_option maxRecDepth 8000
attribute [local go_sem ↓] Go.wp_at_zero Go.wp_at_succ
structure BkI (j : Nat) (B : Wb.Bk) (ks : List Int) (N : Nat) : Prop where
 ok : Wb.BkOk B
 runs : RunsOk B.runs
 len : B.runs.length ≤ j
 few : ∀ p, (B.paid p).length ≤ 60
 many : N ≤ 1000 * j
 keys : ks.length ≤ 20 * j
theorem bki_none : BkI 0 Wb.noBk [] 0 := ⟨Wb.bkOk_none, (fun r hr => by cases hr), Nat.zero_le _, fun p => Nat.zero_le _, Nat.zero_le _, Nat.zero_le _⟩
theorem BkI.step {j : Nat} {B B' : Wb.Bk} {ks hs ps : List Int} {N : Nat} {y i k : Int} {S : Int → List Wb.Ct} {R : Wb.Rn} {E : Int} (h : BkI j B ks N) (hj : j ≤ 40) (hw : Wb.Who B S hs ps) (hd : Wb.doG B y i k S hs ps = (B', R, E)) (hl : hs.length ≤ 20) (hS : ∀ p, (S p).length ≤ 60) :
  BkI (j + 1) B' (ks ++ hs) (N + ks.length + hs.length) := by
 have hk := h.keys
 have hn := h.many
 have hlen := h.len
 by_cases e : E = 0
 ·subst e
  have ho := Wb.do_ok hd
  have hb := Wb.behind_of h.ok hw ho
  have hh := Wb.head_ok ho.head
  refine ⟨hb.ok, fun r hr => ?_, by rw [ho.runs]; simp; omega, fun p => ?_, by omega, by simp; omega⟩
  ·rw [ho.runs] at hr
   rcases List.mem_append.1 hr with hr | hr
   ·exact h.runs r hr
   ·obtain rfl : r = R := by simpa using hr
    rw [ho.run.2.1, ho.run.2.2.1]
    exact ⟨hh.1, hh.2.1, hh.2.2.1, hh.2.2.2.1⟩
  ·rw [hb.paid]
   exact Nat.le_trans (List.length_filter_le _ _) (hS p)
 ·obtain ⟨rfl, rfl⟩ := Wb.do_bad hd e
  exact ⟨h.ok, h.runs, by omega, h.few, by omega, by simp; omega⟩
theorem keysH_of {hs : List HdM} (hk : ∀ h ∈ hs, kU32.ok h.p) : ∃ l, KeysAre kU32 (fH hs) l ∧ l.Pairwise (· ≤ ·) ∧ l.length ≤ hs.length := by
 obtain ⟨ps, h1, h2⟩ := exists_nodup (hs.map HdM.p)
 have hp := List.mergeSort_perm ps (fun a b => decide (a ≤ b))
 refine ⟨ps.mergeSort (fun a b => decide (a ≤ b)), ⟨hp.nodup_iff.2 h1, fun p => ?_⟩, ?_, ?_⟩
 ·rw [hp.mem_iff, h2]
  unfold fH
  constructor
  ·intro h
   obtain ⟨x, hx, rfl⟩ := List.mem_map.1 h
   refine ⟨hk x hx, ?_⟩
   rw [Option.isSome_map]
   unfold findH
   exact List.find?_isSome.2 ⟨x, hx, by simp⟩
  ·rintro ⟨-, h⟩
   rw [Option.isSome_map] at h
   obtain ⟨x, hx⟩ := Option.isSome_iff_exists.1 h
   obtain ⟨a, b⟩ := find_in hx
   exact List.mem_map.2 ⟨x, a, b⟩
 ·have := List.pairwise_mergeSort (le := fun a b : Int => decide (a ≤ b)) (fun a b c h1 h2 => by simp at *; omega) (fun a b => by simp; omega) ps
  exact this.imp fun {a b} h => by simpa using h
 ·rw [hp.length_eq]
  have := nodup_le h1 (fun x hx => (h2 x).1 hx)
  simpa using this
theorem hds_small {w : World} {v : Value} {hs : List HdM} (h : HdsW w v hs) (k : ∀ x ∈ hs, SmallH 1500 x) : HdsM w v hs :=
 ⟨h.tab, fun x hx => ⟨⟨(h.each x hx).1, by have := (k x hx).1; omega, fun s hs => by have := (k x hx).2 s hs; omega⟩, (h.each x hx).2⟩⟩
theorem sh_few {hs : List HdM} (k : ∀ x ∈ hs, SmallH 1500 x) (p : Int) : (SH hs p).length ≤ 60 := by
 unfold SH
 rcases hf : findH hs p with _ | x
 ·simp
 ·rw [List.length_map]; exact (k x (find_in hf).1).1
def BokZ (w : World) (X : Nat) : Prop := w.cell? ⟨X, 0, none⟩ = some (.slice none 0 0) ∧ w.cell? ⟨X, 1, none⟩ = some (.map none) ∧ w.cell? ⟨X, 2, none⟩ = some (.map none) ∧ ∀ j, w.frozen? ⟨X, j, none⟩ = false
theorem BokZ.lt {w : World} {X : Nat} (h : BokZ w X) : X < w.heap.size := Wb.cell_size h.1
theorem BokZ.ext {w w2 : World} {X : Nat} (h : BokZ w X) (k : Wb.Ext w w2) : BokZ w2 X := by
 have hl := h.lt
 obtain ⟨h0, h1, h2, h5⟩ := h
 exact ⟨k.keep h0, k.keep h1, k.keep h2, fun j => (k.cells.2 _ _ hl).trans (h5 j)⟩
theorem bokz_cut {P : Prop} {w w2 : World} {X : Nat} (k : Wb.Ext w w2) (h : BokZ w X) (f : BokZ w2 X → P) : P := f (h.ext k)
def TabH (w0 : World) (lo : Nat) (W : World) (M : Nat) (hs : List HdM) : Prop := SMapF (fun q => q < lo → q < w0.heap.size) W (some M) hs.length (fH hs) (SH hs)
theorem tab_law {w0 W : World} {v : Value} {hs : List HdM} (h : HdsM w0 v hs) (hl : hs.length ≤ 20) (hx : Wb.Ext w0 W) :
  Calls Tryz.prog 11 #[v] W fun e w' => ∃ M, e = .returned (.map (some M)) ∧ TabH w0 W.heap.size w' M hs ∧ W.heap.size ≤ M ∧ M < w'.heap.size ∧ Wb.Ext W w' := by
 refine (table31_any (fun q => q < w0.heap.size) v hs W (fun w2 k => h.ext (k.old hx (fun i hi => hi))) (by omega)).mono ?_
 rintro e w' ⟨M, rfl, h1, h2, h3⟩
 exact ⟨M, rfl, h1, h2, h1.now.map.lt M rfl, h3⟩
def Ok0 (P : Nat → Prop) (n0 lo hi q : Nat) : Prop := (¬ P q ∧ q < n0) ∨ (lo ≤ q ∧ q < hi)
structure DidF (F : Nat → Prop) (w : World) (rv : Value) (mp mo : Option Nat) (B B' : Wb.Bk) (y i k : Int) (S : Int → List Wb.Ct) (hs ks : List Int) (N : Nat) (r : RnM) (E : Int) : Prop where
 did : ∃ ps, Wb.Who B S hs ps ∧ Wb.doG B y i k S hs ps = (B', r.c, E)
 book : BkF F w rv mp mo B' (ks ++ hs) (N + ks.length + hs.length)
 rows : ∀ w2, Kept F w w2 → RowsM w2 r.rv r.rows
theorem DidF.kept {F : Nat → Prop} {w w' : World} {rv : Value} {mp mo : Option Nat} {B B' : Wb.Bk} {y i k : Int} {S : Int → List Wb.Ct} {hs ks : List Int} {N : Nat} {r : RnM} {E : Int} (h : DidF F w rv mp mo B B' y i k S hs ks N r E) (kk : Kept F w w') : DidF F w' rv mp mo B B' y i k S hs ks N r E :=
 ⟨h.did, h.book.kept kk, fun w2 h2 => h.rows w2 (kk.trans h2)⟩
theorem DidF.mono {F G : Nat → Prop} {w : World} {rv : Value} {mp mo : Option Nat} {B B' : Wb.Bk} {y i k : Int} {S : Int → List Wb.Ct} {hs ks : List Int} {N : Nat} {r : RnM} {E : Int} (h : DidF F w rv mp mo B B' y i k S hs ks N r E) (kk : ∀ q, q < w.heap.size → F q → G q) : DidF G w rv mp mo B B' y i k S hs ks N r E :=
 ⟨h.did, h.book.mono kk, fun w2 h2 => h.rows w2 (h2.mono kk)⟩
theorem did_law {P : Nat → Prop} {w0 WR W' W : World} {lo M j : Nat} {rv : Value} {mp mo : Option Nat} {B : Wb.Bk} {ks hs : List Int} {N : Nat} {HS : List HdM} {y i k : Int}
  (hb : BkF (fun q => ¬ P q) WR rv mp mo B ks N) (hi : BkI j B ks N) (hj : j ≤ 40) (hT : TabH w0 lo W' M HS) (h0R : w0.heap.size ≤ WR.heap.size) (hP : ∀ q, P q → w0.heap.size ≤ q ∧ q < WR.heap.size) (_hlo : WR.heap.size ≤ lo)
  (hRW : Wb.Ext WR W) (hTW : Wb.Ext W' W) (hk : KeysAre kU32 (fH HS) hs) (hr : hs.Pairwise (· ≤ ·)) (hl : HS.length ≤ 20) (hhl : hs.length ≤ HS.length) (hS : ∀ p, (SH HS p).length ≤ 60) :
  Calls Tryz.prog 5 #[BkV rv mp mo, .int .i64 y, .int .i64 i, .int .i64 k, .map (some M)] W fun e w' => ∃ (ra : Option Addr) (rl rc : Nat) (mp' mo' : Option Nat) (B' : Wb.Bk) (n1 y1 i1 k1 : Int) (qa : Option Addr) (qc : Nat) (rows : List RwM) (E : Int), e = .returned (.tuple #[BkV (.slice ra rl rc) mp' mo', RnV n1 y1 i1 k1 (.slice qa rows.length qc), .int .i64 E]) ∧
   DidF (fun q => q < W.heap.size → Ok0 P WR.heap.size lo W'.heap.size q) w' (.slice ra rl rc) mp' mo' B B' y i k (SH HS) hs ks N ⟨n1, y1, i1, k1, .slice qa rows.length qc, rows⟩ E ∧ BkI (j + 1) B' (ks ++ hs) (N + ks.length + hs.length) ∧ Wb.Ext W w' := by
 have h1 : BkF (Ok0 P WR.heap.size lo W'.heap.size) W rv mp mo B ks N := (hb.mono (fun q h1 h2 => .inl ⟨h2, h1⟩)).kept (.ext hRW)
 have h2 : SMapF (Ok0 P WR.heap.size lo W'.heap.size) W (some M) HS.length (fH HS) (SH HS) := (SMapF.mono hT (fun q h1 h2 => by
  by_cases e : q < lo
  ·have := h2 e
   refine .inl ⟨fun h => ?_, by omega⟩
   have := hP q h; omega
  ·exact .inr ⟨by omega, h1⟩)).kept (.ext hTW)
 have hlen := hi.len
 have hmany := hi.many
 have hkeys := hi.keys
 refine (do31_any (Ok0 P WR.heap.size lo W'.heap.size) rv mp mo (some M) HS.length (fH HS) (SH HS) B ks hs N y i k W h1 hi.ok hi.runs (by omega) (fun p => by have := hi.few p; omega) (by omega) (by omega) h2 (by omega) (by omega) hk hr (fun p => by have := hS p; omega)).mono ?_
 rintro e w' ⟨ps, rv', mp', mo', r, B', E, hw, hd, rfl, hb', hr', hx⟩
 obtain ⟨ra, rc, rfl⟩ := hb'.now.shape
 obtain ⟨qa, qc, hq⟩ := (hr' w' .refl).tab.shape
 obtain ⟨n1, y1, i1, k1, rv1, rows⟩ := r
 simp only at hq
 subst hq
 exact ⟨ra, _, rc, mp', mo', B', n1, y1, i1, k1, qa, qc, rows, E, rfl, ⟨⟨ps, hw, hd⟩, hb', hr'⟩, hi.step hj hw hd (by omega) hS, hx⟩
theorem did_at {P : Nat → Prop} {w1 wx : World} {nW n0 lo hi : Nat} {rv : Value} {mp mo : Option Nat} {B B' : Wb.Bk} {y i k : Int} {S : Int → List Wb.Ct} {hs ks : List Int} {N : Nat} {r : RnM} {E : Int}
  (hd : DidF (fun q => q < nW → Ok0 P n0 lo hi q) w1 rv mp mo B B' y i k S hs ks N r E) (hk : Kept (fun q => q < w1.heap.size ∧ (q < nW → Ok0 P n0 lo hi q)) w1 wx) (hP : ∀ q, P q → q < n0) (hlo : n0 ≤ lo) (hW : n0 ≤ nW) :
  DidF (fun q => ¬ P q) wx rv mp mo B B' y i k S hs ks N r E := by
 have hk2 : Kept (fun q => q < nW → Ok0 P n0 lo hi q) w1 wx := hk.mono fun i h1 h2 => ⟨h1, h2⟩
 refine (hd.kept hk2).mono (fun q _ h e => ?_)
 have hq := hP q e
 rcases h (by omega) with h | h
 ·exact h.1 e
 ·omega
end Go.Proofs.YtnefdpnolojojaaGreatDoor
namespace Go.Proofs.YtnefdpnolojojaaGreatDoor
namespace Wb
def addR (s : Int → Int) : List Rw → Int → Int
 | [], p => s p
 | r :: l, p => addR (fun q => if r.p = q then s q + r.paid else s q) l p
end Wb
end Go.Proofs.YtnefdpnolojojaaGreatDoor
namespace Go.Proofs.YtnefdpnolojojaaGreatDoor
open Go.RowKit Go.Sort Go.Lib Go.Maps
set_option maxRecDepth 8000
attribute [local go_sem ↓] Go.wp_at_zero Go.wp_at_succ
structure SumI (w : World) (A M j : Nat) (wr : World) (ra : Option Addr) (rl rc : Nat) (mp mo : Option Nat) (B : Wb.Bk) (ks : List Int) (N : Nat) (sum : Int → Int) : Prop where
 a0 : wr.cell? ⟨A, 0, none⟩ = some (.slice ra rl rc)
 a1 : wr.cell? ⟨A, 1, none⟩ = some (.map mp)
 a2 : wr.cell? ⟨A, 2, none⟩ = some (.map mo)
 af : ∀ j, wr.frozen? ⟨A, j, none⟩ = false
 book : BkF (fun q => ¬ (q = A ∨ q = M)) wr (.slice ra rl rc) mp mo B ks N
 ok : BkI j B ks N
 map : ∃ f, KMap kU32 wr M (100000 * j) (.int .i64 0) f ∧ ∀ p, kU32.ok p → (f p).getD (.int .i64 0) = .int .i64 (sum p)
 eq : ∀ p, sum p - B.owed p = Wb.nlC (B.paid p)
 low : ∀ p, 0 ≤ sum p ∧ sum p ≤ 1125899906842624 * j
 lt : A < wr.heap.size ∧ M < wr.heap.size ∧ w.heap.size ≤ A ∧ w.heap.size ≤ M
 ext : Wb.Ext w wr
theorem BkI.up {j : Nat} {B : Wb.Bk} {ks : List Int} {N : Nat} (h : BkI j B ks N) : BkI (j + 1) B ks N :=
 ⟨h.ok, h.runs, by have := h.len; omega, h.few, by have := h.many; omega, by have := h.keys; omega⟩
theorem SumI.skip {w : World} {A M j : Nat} {wr w2 : World} {ra : Option Addr} {rl rc : Nat} {mp mo : Option Nat} {B : Wb.Bk} {ks : List Int} {N : Nat} {sum : Int → Int} (h : SumI w A M j wr ra rl rc mp mo B ks N sum) (k : Wb.Ext wr w2) : SumI w A M (j + 1) w2 ra rl rc mp mo B ks N sum :=
 ⟨k.keep h.a0, k.keep h.a1, k.keep h.a2, (fun i => (k.cells.2 _ _ h.lt.1).trans (h.af i)), h.book.kept (.ext k), h.ok.up, by obtain ⟨f, h1, h2⟩ := h.map; exact ⟨f, (h1.ext k).mono (by omega), h2⟩, h.eq, (fun p => by have := h.low p; omega), ⟨Nat.lt_of_lt_of_le h.lt.1 k.size, Nat.lt_of_lt_of_le h.lt.2.1 k.size, h.lt.2.2.1, h.lt.2.2.2⟩, h.ext.trans k⟩
structure SumK (wA : World) (M j : Nat) (wr : World) (sum : Int → Int) (rows : List Wb.Rw) (k : Nat) : Prop where
 map : ∃ f, KMap kU32 wr M (100000 * j + k) (.int .i64 0) f ∧ ∀ p, kU32.ok p → (f p).getD (.int .i64 0) = .int .i64 (Wb.addR sum (rows.take k) p)
 kept : Kept (fun q => q ≠ M) wA wr
 size : wA.heap.size ≤ wr.heap.size
theorem SumK.ext {wA wr w2 : World} {M j k : Nat} {sum : Int → Int} {rows : List Wb.Rw} (h : SumK wA M j wr sum rows k) (e : Wb.Ext wr w2) : SumK wA M j w2 sum rows k :=
 ⟨by obtain ⟨f, h1, h2⟩ := h.map; exact ⟨f, h1.ext e, h2⟩, h.kept.trans (.ext e), Nat.le_trans h.size e.size⟩
end Go.Proofs.YtnefdpnolojojaaGreatDoor
namespace Go.Proofs.YtnefdpnolojojaaGreatDoor
open Go
theorem sA {α : Type} (l : List α) (i : Nat) (v : α) : l.toArray.setIfInBounds i v = (l.set i v).toArray := List.setIfInBounds_toArray ..
theorem sB {α : Type} (a b : α) (l : List α) : (a :: l).set 0 b = b :: l := List.set_cons_zero
theorem sC {α : Type} (a b : α) (l : List α) (n : Nat) : (a :: l).set (n + 1) b = a :: l.set n b := List.set_cons_succ
section
variable {P : Program} {ops : Array Oper} {Q : Exit → Act → World → Prop} {md : Region.Mode} {S T : World → Prop} {J : Nat → Bool}
def wpAnyJ (P : Program) (md : Region.Mode) (ops : Array Oper) (Q : Exit → Act → World → Prop) (S : World → Prop) (J : Nat → Bool) : Nat → Array Bool → Act → World → Prop
 | 0, listed, a, w => Region.ready md ops listed = [] ∧ Q .normal a w
 | n + 1, listed, a, w => (Region.ready md ops listed = [] → Q .normal a w) ∧
   ∀ i ∈ Region.ready md ops listed, wpOp P ops Q i (fun a' w' => (J i = true → S w') ∧ wpAnyJ P md ops Q S J n (listed.setIfInBounds i true) a' w') a w
theorem wpAny_of_J : ∀ (n : Nat) (listed : Array Bool) (a : Act) (w : World), wpAnyJ P md ops Q S J n listed a w → wpAny P md ops Q n listed a w
 | 0, _, _, _, h => h
 | n + 1, _, _, _, h => ⟨h.1, fun i hi => wpOp_mono (fun _ _ k => wpAny_of_J n _ _ _ k.2) (h.2 i hi)⟩
theorem wpAnyJ_first {i : Nat} {oi : Oper} {v : Value} {D : Nat → Bool} (hi : ops[i]? = some oi) (hsel : ∀ (j : Nat) (o : Oper) cs b, ops[j]? = some o → o.op ≠ .select cs b)
  (hQ : ∀ c a w, Q (.panic c) (a.put oi.dst v) w → Q (.panic c) a w) (hST : J i = true → ∀ w, T w → S w) (hDi : D i = false)
  (hD : ∀ (d : Nat) (od : Oper), ops[d]? = some od → D d = true → ∃ e ∈ od.after, Region.binds md e = true ∧ (e.on = i ∨ D e.on = true))
  (hc : ∀ (j : Nat) (oj : Oper), ops[j]? = some oj → j ≠ i → D j = false → ∀ w, (J j = true → S w) → T w) :
  ∀ (n : Nat) (listed : Array Bool) (a : Act) (w : World),
   (∀ j oj, ops[j]? = some oj → j ≠ i → listed.getD j true = false → (∀ e ∈ oj.after, Region.binds md e = true → e.on ≠ i) → oi.apart ops oj = true) →
   (∀ d, D d = true → listed.getD d true = false) →
   i ∈ Region.ready md ops listed → YieldsIf P ops T oi v a → T w →
   wpAnyJ P md ops Q S J n (listed.setIfInBounds i true) (a.put oi.dst v) w → wpAnyJ P md ops Q S J (n + 1) listed a w := by
 intro n
 induction n with
 | zero =>
  intro listed a w _ _ hr hy hT h
  refine ⟨fun k => absurd hr (by rw [k]; exact List.not_mem_nil), fun j hj => ?_⟩
  by_cases e : j = i
  ·subst e; exact hy.wpOp hi hT ⟨fun k => hST k _ hT, h⟩
  ·exact absurd (ready_mono hj e) (by rw [h.1]; exact List.not_mem_nil)
 | succ n ih =>
  intro listed a w hf hl hr hy hT h
  refine ⟨fun k => absurd hr (by rw [k]; exact List.not_mem_nil), fun j hj => ?_⟩
  by_cases e : j = i
  ·subst e; exact hy.wpOp hi hT ⟨fun k => hST k _ hT, h⟩
  obtain ⟨hun, oj, hoj, hall⟩ := mem_ready.1 hj
  have listed_on : ∀ d ∈ oj.after, Region.binds md d = true → listed.getD d.on true = true := fun d hd hb => by
   have k1 := hall d hd hb
   rcases Nat.lt_or_ge d.on listed.size with hs | hs
   ·simp [hs] at k1; simp [Array.getD, hs, k1]
   ·simp [Array.getElem?_eq_none hs] at k1
  have hun_i : listed.getD i true = false := by
   have k0 := (mem_ready.1 hr).1
   rcases Nat.lt_or_ge i listed.size with hs | hs
   ·simpa [hs] using k0
   ·simp [Array.getD, Nat.not_lt.2 hs] at k0
  have free : ∀ d ∈ oj.after, Region.binds md d = true → d.on ≠ i := fun d hd hb he => by
   have k1 := listed_on d hd hb
   rw [he, hun_i] at k1; cases k1
  have hDj : D j = false := by
   rcases hx : D j with _ | _
   ·rfl
   ·obtain ⟨d, hd, hb, he⟩ := hD j oj hoj hx
    rcases he with he | he
    ·exact absurd he (free d hd hb)
    ·have k1 := listed_on d hd hb
     rw [hl _ he] at k1; cases k1
  have step := wpOp_putIf hoj (hf j oj hoj e hun free) (fun cs b => hsel i oi cs b hi) (fun cs b => hsel j oj cs b hoj) hQ hy (h.2 j (ready_mono hj e))
  refine wpOp_mono (fun a' w' k => ⟨k.2.1, ih _ a' w' (fun t ot ht hti hut hno => hf t ot ht hti ?_ hno) (fun d hd => ?_) (ready_mono hr (Ne.symm e)) k.1 (hc j oj hoj e hDj w' k.2.1) ?_⟩) step
  ·by_cases e2 : j = t
   ·subst e2; exact hun
   ·rwa [getD_set_ne true e2] at hut
  ·have e2 : j ≠ d := fun k => by subst k; rw [hDj] at hd; cases hd
   rw [getD_set_ne true e2]; exact hl d hd
  ·rw [Array.setIfInBounds_comm _ _ e]; exact k.2.2
def depJ (md : Region.Mode) (ops : Array Oper) (D : Nat → Bool) (i : Nat) : Bool := !D i && (List.range ops.size).all fun d => !D d || match ops[d]? with
 | none => true
 | some od => od.after.any fun e => Region.binds md e && (e.on == i || D e.on)
theorem depJ_spec {D : Nat → Bool} {i : Nat} (h : depJ md ops D i = true) : D i = false ∧ ∀ (d : Nat) (od : Oper), ops[d]? = some od → D d = true → ∃ e ∈ od.after, Region.binds md e = true ∧ (e.on = i ∨ D e.on = true) := by
 unfold depJ at h
 simp only [Bool.and_eq_true, Bool.not_eq_true'] at h
 refine ⟨h.1, fun d od hd hx => ?_⟩
 have hlt := (Array.getElem?_eq_some_iff.1 hd).1
 have := List.all_eq_true.1 h.2 d (List.mem_range.2 hlt)
 rw [hd, hx] at this
 simp only [Bool.not_true, Bool.false_or] at this
 obtain ⟨e, he, hb⟩ := Array.any_eq_true'.1 this
 simp only [Bool.and_eq_true, Bool.or_eq_true, beq_iff_eq] at hb
 exact ⟨e, he, hb.1, hb.2⟩
def unlJ (n : Nat) (D : Nat → Bool) (listed : Array Bool) : Bool := (List.range n).all fun d => !D d || !listed.getD d true
def allJ (n i : Nat) (D J : Nat → Bool) : Bool := (List.range n).all fun j => j == i || D j || J j
theorem takeJ (D : Nat → Bool) {i d : Nat} {oi : Oper} {v : Value} {n : Nat} {listed : Array Bool} {a : Act} {w : World} (hi : ops[i]? = some oi) (hd : oi.dst = some d)
  (hs : Region.noSelect ops = true) (hf : Region.free md ops listed i = true) (hr : (Region.ready md ops listed).contains i = true) (hw : depJ md ops D i = true) (hu : unlJ ops.size D listed = true) (hb : ∀ d, D d = true → d < ops.size) (ha : allJ ops.size i D J = true)
  (hQ : ∀ c a w, Q (.panic c) (a.put (some d) v) w → Q (.panic c) a w) (hy : YieldsIf P ops S oi v a) (hS : S w)
  (h : wpAnyJ P md ops Q S J n (listed.setIfInBounds i true) (a.put (some d) v) w) : wpAnyJ P md ops Q S J (n + 1) listed a w := by
 rw [← hd] at hQ h
 obtain ⟨k1, k2⟩ := depJ_spec hw
 refine wpAnyJ_first (T := S) (D := D) hi (Region.noSelect_spec hs) hQ (fun _ _ k => k) k1 k2 (fun j oj hj hne hDj w k => ?_) n listed a w (Region.free_spec hi hf) (fun d hd => ?_) (by simpa using hr) hy hS h
 ·have := List.all_eq_true.1 ha j (List.mem_range.2 (Array.getElem?_eq_some_iff.1 hj).1)
  simp only [hDj, Bool.or_false, Bool.or_eq_true, beq_iff_eq, hne, false_or] at this
  exact k this
 ·have := List.all_eq_true.1 hu d (List.mem_range.2 (hb d hd))
  simpa [hd] using this
theorem pureJ {i d : Nat} {oi : Oper} {v : Value} {n : Nat} {listed : Array Bool} {a : Act} {w : World} (hi : ops[i]? = some oi) (hd : oi.dst = some d)
  (hs : Region.noSelect ops = true) (hf : Region.free md ops listed i = true) (hr : (Region.ready md ops listed).contains i = true) (hJ : J i = false)
  (hQ : ∀ c a w, Q (.panic c) (a.put (some d) v) w → Q (.panic c) a w) (hy : YieldsIf P ops (fun _ => True) oi v a)
  (h : wpAnyJ P md ops Q S J n (listed.setIfInBounds i true) (a.put (some d) v) w) : wpAnyJ P md ops Q S J (n + 1) listed a w := by
 rw [← hd] at hQ h
 exact wpAnyJ_first (T := fun _ => True) (D := fun _ => false) hi (Region.noSelect_spec hs) hQ (fun k => by rw [hJ] at k; cases k) rfl (fun d od _ k => by cases k) (fun _ _ _ _ _ _ _ => trivial) n listed a w (Region.free_spec hi hf) (fun d k => by cases k) (by simpa using hr) hy trivial h
theorem wpAnyJ_all {rs : List Nat} {n : Nat} {listed : Array Bool} {a : Act} {w : World} (hr : Region.ready md ops listed = rs) (hne : rs ≠ [])
  (h : ∀ i ∈ rs, wpOp P ops Q i (fun a' w' => (J i = true → S w') ∧ wpAnyJ P md ops Q S J n (listed.setIfInBounds i true) a' w') a w) : wpAnyJ P md ops Q S J (n + 1) listed a w :=
 ⟨fun k => absurd (hr.symm.trans k) hne, by rw [hr]; exact h⟩
theorem doneJ {listed : Array Bool} {a : Act} {w : World} (hr : Region.ready md ops listed = []) (h : Q .normal a w) : ∀ n, wpAnyJ P md ops Q S J n listed a w
 | 0 => ⟨hr, h⟩
 | _ + 1 => ⟨fun _ => h, fun i hi => absurd hi (by rw [hr]; exact List.not_mem_nil)⟩
theorem startJ {id : Nat} {a : Act} {w : World} {n : Nat} {l : Array Bool} (hm : P.follows .mixedOrders = true) (hn : ops.size = n) (hl : Array.replicate n false = l)
  (h : wpAnyJ P .any ops Q S J n l a w.drew) : (Code.region id ops true).wp P Q a w := by
 subst hn hl
 exact wp_region_any hm (wpAny_of_J _ _ _ _ h)
theorem opJ {n : Nat} {listed : Array Bool} {a : Act} {w : World} {i : Nat} {o : Oper} (ho : ops[i]? = some o)
  (h : ∀ K' : Act → World → Prop, Shut (∀ a w, (J i = true → S w) → wpAnyJ P md ops Q S J n (listed.setIfInBounds i true) a w → K' a w) → if Region.wanted o (yielded ops a.tmps) = true then Oper.wp P o a w K' Q else K' (a.put o.dst undef) w) :
  wpOp P ops Q i (fun a' w' => (J i = true → S w') ∧ wpAnyJ P md ops Q S J n (listed.setIfInBounds i true) a' w') a w :=
 wpOp_step ho fun K' hK => h K' fun a w k1 k2 => hK a w ⟨k1, k2⟩
theorem oneJ {i : Nat} {R : Nat → Prop} (h : R i) : ∀ j ∈ [i], R j := fun j hj => by simp at hj; subst hj; exact h
theorem moreJ {i : Nat} {rs : List Nat} {R : Nat → Prop} (h : R i) (k : ∀ j ∈ rs, R j) : ∀ j ∈ i :: rs, R j := fun j hj => by
 rcases List.mem_cons.1 hj with rfl | hj
 ·exact h
 ·exact k j hj
end
end Go.Proofs.YtnefdpnolojojaaGreatDoor
namespace Go.Proofs.YtnefdpnolojojaaGreatDoor
open Go
section
variable {P : Program} {ops : Array Oper} {Q : Exit → Act → World → Prop} {md : Region.Mode} {S : World → Prop} {J : Nat → Bool}
theorem tJ (D : Nat → Bool) (i : Nat) {m : Nat} (hb : ∀ d, D d = true → d < m) {d : Nat} {oi : Oper} {v : Value} {n : Nat} {listed : Array Bool} {a : Act} {w : World} {G : Prop} (h : G) (hi : ops[i]? = some oi := by rfl) (hd : oi.dst = some d := by rfl) (hm : ops.size = m := by kernel_rfl)
  (hs : Region.noSelect ops = true := by kernel_rfl) (hf : Region.free md ops listed i = true := by kernel_rfl) (hr : (Region.ready md ops listed).contains i = true := by kernel_rfl) (hw : depJ md ops D i = true := by kernel_rfl) (hu : unlJ ops.size D listed = true := by kernel_rfl) (ha : allJ ops.size i D J = true := by kernel_rfl)
  (h0 : Region.wanted oi (yielded ops a.tmps) = true := by rfl)
  (hv : ∀ w, S w → (execOp a.eval oi).run P w = .ok (.value v) w := by (intro w hSw; (try dsimp only at hSw); go_simp; (try with_reducible rfl)))
  (hQ : ∀ c a w, Q (.panic c) (a.put (some d) v) w → Q (.panic c) a w := by exact fun _ _ _ h => h) (hS : S w := by assumption)
  (hG : wpAnyJ P md ops Q S J n (listed.setIfInBounds i true) (a.put (some d) v) w = G := by (try simp only [Act.put, sA, sB, sC]); rfl) : wpAnyJ P md ops Q S J (n + 1) listed a w :=
 takeJ D hi hd hs hf hr hw hu (hm ▸ hb) ha hQ (.inl ⟨h0, hv⟩) hS (hG ▸ h)
theorem pJ (i : Nat) {d : Nat} {oi : Oper} {v : Value} {n : Nat} {listed : Array Bool} {a : Act} {w : World} {G : Prop} (h : G) (hi : ops[i]? = some oi := by rfl) (hd : oi.dst = some d := by rfl)
  (hs : Region.noSelect ops = true := by kernel_rfl) (hf : Region.free md ops listed i = true := by kernel_rfl) (hr : (Region.ready md ops listed).contains i = true := by kernel_rfl) (hJ : J i = false := by kernel_rfl)
  (h0 : Region.wanted oi (yielded ops a.tmps) = true := by rfl)
  (hv : ∀ w, (fun _ : World => True) w → (execOp a.eval oi).run P w = .ok (.value v) w := by (intro w hSw; go_simp; (try with_reducible rfl)))
  (hQ : ∀ c a w, Q (.panic c) (a.put (some d) v) w → Q (.panic c) a w := by exact fun _ _ _ h => h)
  (hG : wpAnyJ P md ops Q S J n (listed.setIfInBounds i true) (a.put (some d) v) w = G := by (try simp only [Act.put, sA, sB, sC]); rfl) : wpAnyJ P md ops Q S J (n + 1) listed a w :=
 pureJ hi hd hs hf hr hJ hQ (.inl ⟨h0, hv⟩) (hG ▸ h)
theorem o1J (i : Nat) {n : Nat} {listed : Array Bool} {a : Act} {w : World} {o : Oper}
  (h : ∀ K' : Act → World → Prop, Shut (∀ a w, (J i = true → S w) → wpAnyJ P md ops Q S J n (listed.setIfInBounds i true) a w → K' a w) → if Region.wanted o (yielded ops a.tmps) = true then Oper.wp P o a w K' Q else K' (a.put o.dst undef) w)
  (ho : ops[i]? = some o := by rfl) (hr : Region.ready md ops listed = [i] := by kernel_rfl) : wpAnyJ P md ops Q S J (n + 1) listed a w :=
 wpAnyJ_all hr (List.cons_ne_nil _ _) (oneJ (opJ ho h))
theorem o2J (i j : Nat) {n : Nat} {listed : Array Bool} {a : Act} {w : World} {o q : Oper}
  (h : ∀ K' : Act → World → Prop, Shut (∀ a w, (J i = true → S w) → wpAnyJ P md ops Q S J n (listed.setIfInBounds i true) a w → K' a w) → if Region.wanted o (yielded ops a.tmps) = true then Oper.wp P o a w K' Q else K' (a.put o.dst undef) w)
  (k : ∀ K' : Act → World → Prop, Shut (∀ a w, (J j = true → S w) → wpAnyJ P md ops Q S J n (listed.setIfInBounds j true) a w → K' a w) → if Region.wanted q (yielded ops a.tmps) = true then Oper.wp P q a w K' Q else K' (a.put q.dst undef) w)
  (ho : ops[i]? = some o := by rfl) (hq : ops[j]? = some q := by rfl) (hr : Region.ready md ops listed = [i, j] := by kernel_rfl) : wpAnyJ P md ops Q S J (n + 1) listed a w :=
 wpAnyJ_all hr (List.cons_ne_nil _ _) (moreJ (opJ ho h) (oneJ (opJ hq k)))
theorem o3J (i j m : Nat) {n : Nat} {listed : Array Bool} {a : Act} {w : World} {o q r : Oper}
  (h : ∀ K' : Act → World → Prop, Shut (∀ a w, (J i = true → S w) → wpAnyJ P md ops Q S J n (listed.setIfInBounds i true) a w → K' a w) → if Region.wanted o (yielded ops a.tmps) = true then Oper.wp P o a w K' Q else K' (a.put o.dst undef) w)
  (k : ∀ K' : Act → World → Prop, Shut (∀ a w, (J j = true → S w) → wpAnyJ P md ops Q S J n (listed.setIfInBounds j true) a w → K' a w) → if Region.wanted q (yielded ops a.tmps) = true then Oper.wp P q a w K' Q else K' (a.put q.dst undef) w)
  (l : ∀ K' : Act → World → Prop, Shut (∀ a w, (J m = true → S w) → wpAnyJ P md ops Q S J n (listed.setIfInBounds m true) a w → K' a w) → if Region.wanted r (yielded ops a.tmps) = true then Oper.wp P r a w K' Q else K' (a.put r.dst undef) w)
  (ho : ops[i]? = some o := by rfl) (hq : ops[j]? = some q := by rfl) (hm : ops[m]? = some r := by rfl) (hr : Region.ready md ops listed = [i, j, m] := by kernel_rfl) : wpAnyJ P md ops Q S J (n + 1) listed a w :=
 wpAnyJ_all hr (List.cons_ne_nil _ _) (moreJ (opJ ho h) (moreJ (opJ hq k) (oneJ (opJ hm l))))
theorem psJ {n i : Nat} {listed : Array Bool} {K : Act → World → Prop} {a : Act} {w : World} {G : Prop}
  (hK : Shut (∀ a w, (J i = true → S w) → wpAnyJ P md ops Q S J n (listed.setIfInBounds i true) a w → K a w)) (hS : S w) (h : S w → G)
  (hG : wpAnyJ P md ops Q S J n (listed.setIfInBounds i true) a w = G := by (try simp only [sA, sB, sC]); rfl) : K a w := hK.out a w (fun _ => hS) (hG ▸ h hS)
theorem psD {n i : Nat} {listed : Array Bool} {K : Act → World → Prop} {a : Act} {w : World} {G : Prop}
  (hK : Shut (∀ a w, (J i = true → S w) → wpAnyJ P md ops Q S J n (listed.setIfInBounds i true) a w → K a w)) (h : G) (hJ : J i = false := by rfl)
  (hG : wpAnyJ P md ops Q S J n (listed.setIfInBounds i true) a w = G := by (try simp only [sA, sB, sC]); rfl) : K a w := hK.out a w (fun h => by rw [hJ] at h; cases h) (hG ▸ h)
end
end Go.Proofs.YtnefdpnolojojaaGreatDoor
namespace Go.Proofs.YtnefdpnolojojaaGreatDoor
namespace Wb
end Wb
end Go.Proofs.YtnefdpnolojojaaGreatDoor
