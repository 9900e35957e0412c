/- MPx -/
import Derived.Test.YtnefdpnolojojaaGreatDoorMPm
import Derived.Test.YtnefdpnolojojaaGreatDoorMTx
namespace Go.Proofs.YtnefdpnolojojaaGreatDoor
namespace Wb
def lineW (x : Ln) : List UInt8 := itoaZ x.part ++ 32 :: (x.code ++ 32 :: text x.cents)
def linesT (h : List UInt8) (L : List Ln) : List UInt8 := L.flatMap fun x => h ++ 32 :: (lineW x ++ [10])
def headN : List UInt8 := [110, 111, 119]
def headB (y i : Int) : List UInt8 := [98, 97, 99, 107, 32] ++ (itoaZ y ++ 32 :: itoaZ i)
def personT (r : Rw) : List UInt8 := [112, 101, 114, 115, 111, 110, 32] ++ (itoaZ r.p ++ 32 :: (text r.due ++ 32 :: (text r.paid ++ 32 :: (text r.owed ++ [10]))))
def backT (B : List Ct) : List UInt8 := B.flatMap fun d => linesT (headB d.1 d.2.1) d.2.2
def rowT (r : Rw) : List UInt8 := personT r ++ (linesT headN r.now.2.2 ++ backT r.back)
def runH (r : Rn) : List UInt8 := [114, 117, 110, 32] ++ (itoaZ r.n ++ 32 :: (itoaZ r.y ++ 32 :: (itoaZ r.i ++ 32 :: (itoaZ r.k ++ [10]))))
def rowsT (R : List Rw) : List UInt8 := R.flatMap rowT
def runT (r : Rn) : List UInt8 := runH r ++ rowsT r.rows
def LnOk (x : Ln) : Prop := (-9223372036854775807 ≤ x.part ∧ x.part ≤ 9223372036854775807) ∧ x.code.length ≤ 32
structure CtOk (c : Ct) : Prop where
 y : -9223372036854775807 ≤ c.1 ∧ c.1 ≤ 9223372036854775807
 i : -9223372036854775807 ≤ c.2.1 ∧ c.2.1 ≤ 9223372036854775807
 few : c.2.2.length ≤ 1000
 ln : ∀ x ∈ c.2.2, LnOk x
structure RwOk (r : Rw) : Prop where
 p : 0 ≤ r.p ∧ r.p ≤ 4294967295
 now : CtOk r.now
 few : r.back.length ≤ 1000
 back : ∀ c ∈ r.back, CtOk c
theorem text_le (c : Int) : (text c).length ≤ 21 := by
 unfold text textZ textN
 split
 ·rename_i hf
  have hf' := (fits_iff c).1 hf
  have := digs_length 13 (c.natAbs / 100) (by omega)
  split <;> rw [digs_lt (n := c.natAbs / 10 % 10) (by omega), digs_lt (n := c.natAbs % 10) (by omega)] <;> simp <;> omega
 ·simp
theorem lineW_le {x : Ln} (h : LnOk x) : (lineW x).length ≤ 80 := by
 have h1 := itoaZ_len x.part h.1
 have h2 := text_le x.cents
 have h3 := h.2
 unfold lineW
 simp; omega
theorem linesT_le {h : List UInt8} (hh : h.length ≤ 60) : ∀ {L : List Ln}, (∀ x ∈ L, LnOk x) → (linesT h L).length ≤ L.length * 150
 | [], _ => by simp [linesT]
 | x :: L, k => by
  have h1 := lineW_le (k x (List.mem_cons_self ..))
  have h2 := linesT_le hh (L := L) (fun y hy => k y (List.mem_cons_of_mem _ hy))
  unfold linesT at h2 ⊢
  rw [List.flatMap_cons]
  simp only [List.length_append, List.length_cons, List.length_nil] at h2 ⊢
  omega
theorem headB_le {c : Ct} (h : CtOk c) : (headB c.1 c.2.1).length ≤ 60 := by
 have h1 := itoaZ_len c.1 h.y
 have h2 := itoaZ_len c.2.1 h.i
 unfold headB
 simp; omega
theorem backT_le : ∀ {B : List Ct}, (∀ c ∈ B, CtOk c) → (backT B).length ≤ B.length * 150000
 | [], _ => by simp [backT]
 | c :: B, k => by
  have h0 := k c (List.mem_cons_self ..)
  have h1 := linesT_le (headB_le h0) h0.ln
  have h2 := backT_le (B := B) (fun y hy => k y (List.mem_cons_of_mem _ hy))
  have h3 := h0.few
  unfold backT at h2 ⊢
  rw [List.flatMap_cons]
  simp only [List.length_append, List.length_cons] at h2 ⊢
  omega
theorem rowT_le {r : Rw} (h : RwOk r) : (rowT r).length ≤ 200000000 := by
 have h1 := itoaZ_len r.p (by have := h.p; omega)
 have h2 := text_le r.due
 have h3 := text_le r.paid
 have h4 := text_le r.owed
 have h5 := linesT_le (h := headN) (by decide) h.now.ln
 have h6 := backT_le h.back
 have h7 := h.now.few
 have h8 := h.few
 unfold rowT personT
 simp only [List.length_append, List.length_cons, List.length_nil]
 omega
theorem rowsT_le : ∀ {R : List Rw}, (∀ r ∈ R, RwOk r) → (rowsT R).length ≤ R.length * 200000000
 | [], _ => by simp [rowsT]
 | r :: R, k => by
  have h1 := rowT_le (k r (List.mem_cons_self ..))
  have h2 := rowsT_le (R := R) (fun y hy => k y (List.mem_cons_of_mem _ hy))
  unfold rowsT at h2 ⊢
  rw [List.flatMap_cons]
  simp only [List.length_append, List.length_cons] at h2 ⊢
  omega
theorem linesT_snoc {h : List UInt8} {L : List Ln} {k : Nat} {x : Ln} (hx : L[k]? = some x) : linesT h (L.take (k + 1)) = linesT h (L.take k) ++ (h ++ 32 :: (lineW x ++ [10])) := by
 obtain ⟨h1, h2⟩ := List.getElem?_eq_some_iff.1 hx
 rw [List.take_succ_eq_append_getElem h1, linesT, List.flatMap_append, h2]
 simp [linesT]
theorem backT_snoc {B : List Ct} {k : Nat} {d : Ct} (hx : B[k]? = some d) : backT (B.take (k + 1)) = backT (B.take k) ++ linesT (headB d.1 d.2.1) d.2.2 := by
 obtain ⟨h1, h2⟩ := List.getElem?_eq_some_iff.1 hx
 rw [List.take_succ_eq_append_getElem h1, backT, List.flatMap_append, h2]
 simp [backT]
theorem rowsT_snoc {R : List Rw} {k : Nat} {r : Rw} (hx : R[k]? = some r) : rowsT (R.take (k + 1)) = rowsT (R.take k) ++ rowT r := by
 obtain ⟨h1, h2⟩ := List.getElem?_eq_some_iff.1 hx
 rw [List.take_succ_eq_append_getElem h1, rowsT, List.flatMap_append, h2]
 simp [rowsT]
end Wb
end Go.Proofs.YtnefdpnolojojaaGreatDoor
namespace Go.Proofs.YtnefdpnolojojaaGreatDoor
namespace Wb
theorem ln_okX {x : Ln} (h : lineErr x = 0) : LnOk x := by
 unfold lineErr at h
 split at h
 ·omega
 ·split at h
  ·omega
  ·rename_i h1 h2
   refine ⟨by omega, ?_⟩
   have : codeOk x.code = true := by simpa using h2
   unfold codeOk at this
   simp only [Bool.and_eq_true, decide_eq_true_eq] at this
   exact this.1.2
theorem delta_okX {a b r : List Ln} (h : IsDelta a b r) (ha : ∀ x ∈ a, lineErr x = 0) (hb : ∀ x ∈ b, lineErr x = 0) : ∀ x ∈ r, LnOk x := by
 intro x hx
 have h1 := lval_mem h.rise hx
 have h2 : x.cents ≠ 0 := h.nonz x hx
 rw [h.val] at h1
 have from_ {l : List Ln} (hl : ∀ x ∈ l, lineErr x = 0) (hv : lval x.part x.code l ≠ 0) : LnOk x := by
  apply Classical.byContradiction
  intro hn
  refine hv (lval_none fun z hz e => hn ?_)
  have hz' := ln_okX (hl z hz)
  unfold LnOk at hz' ⊢
  rw [e.1, e.2] at hz'
  exact hz'
 by_cases k : lval x.part x.code b = 0
 ·exact from_ ha (by omega)
 ·exact from_ hb k
def HeadOk (y i : Int) : Prop := (0 ≤ y ∧ y ≤ 2199) ∧ 0 ≤ i ∧ i ≤ 400
theorem of_okX {a b c : Ct} (h : ofC a b = (0, c)) (ha : HeadOk a.1 a.2.1) (hb : HeadOk b.1 b.2.1) : CtOk c := by
 have k := ofF_is a.1 a.2.1 a.2.2 b.1 b.2.1 b.2.2
 have h' : ofF a.1 a.2.1 a.2.2 b.1 b.2.1 b.2.2 = (0, c) := h
 rw [h'] at k
 obtain ⟨c1, c2, c3⟩ := c
 simp only at k
 obtain ⟨⟨p1, p2⟩, p3, p4⟩ := ha
 obtain ⟨⟨q1, q2⟩, q3, q4⟩ := hb
 generalize he : (0 : Int) = e at k
 cases k with
 | bad1 h1 => exact absurd he.symm h1
 | bad2 h1 h2 => exact absurd he.symm h2
 | state => cases he
 | over => cases he
 | many => cases he
 | ok r h1 h2 h3 h4 h5 h6 =>
  refine ⟨?_, ?_, by show c3.length ≤ 1000; omega, delta_okX h4 (wrong_ok h1).2.2 (wrong_ok h2).2.2⟩
  ·show _ ∧ _
   simp only
   split <;> omega
  ·show _ ∧ _
   simp only
   split <;> omega
theorem check_okX {y i : Int} {l : List Ln} (h : check y i l = 0) : CtOk (y, i, l) ∧ HeadOk y i := by
 unfold check at h
 split at h
 ·omega
 ·split at h
  ·omega
  ·rename_i h1 h2
   exact ⟨⟨by constructor <;> show _ <;> simp only <;> omega, by constructor <;> show _ <;> simp only <;> omega, by show l.length ≤ 1000; omega, fun x hx => ln_okX (chk_lines h x hx)⟩, ⟨by omega, by omega⟩, by omega, by omega⟩
def CtsOk (C : List Ct) : Prop := C.length ≤ 100 ∧ ∀ c ∈ C, CtOk c ∧ HeadOk c.1 c.2.1
theorem hand_okX {q : Int × Int} : ∀ {C : List Ct} {p : Option (Int × Int)}, handE q p (lst C) = 0 → ∀ c ∈ C, CtOk c ∧ HeadOk c.1 c.2.1
 | [], _, _, _, hc => by cases hc
 | d :: C, p, h, c, hc => by
  have h' : handE q p (slO d :: lst C) = 0 := h
  rw [handE] at h'
  split at h'
  ·exact absurd h' (by assumption)
  ·rename_i h1
   have h1 : check d.1 d.2.1 d.2.2 = 0 := by simpa [slO] using h1
   split at h'
   ·cases h'
   ·rcases List.mem_cons.1 hc with rfl | hc
    ·exact check_okX h1
    ·exact hand_okX h' c hc
theorem hands_okX {q : Int × Int} {S : Int → List Ct} : ∀ {hs : List Int}, handsE q S hs = 0 → ∀ p ∈ hs, ∀ c ∈ S p, CtOk c ∧ HeadOk c.1 c.2.1
 | [], _, _, hp => by cases hp
 | r :: hs, h, p, hp => by
  rw [handsE] at h
  split at h
  ·exact absurd h (by assumption)
  ·rename_i h1
   have h1 : handE q none (lst (S r)) = 0 := by simpa using h1
   rcases List.mem_cons.1 hp with rfl | hp
   ·exact hand_okX h1
   ·exact hands_okX h p hp
theorem find_okX {C : List Ct} (h : ∀ c ∈ C, CtOk c ∧ HeadOk c.1 c.2.1) (p : Int × Int) {s : Sl} (hs : findS (lst C) p = some s) : CtOk (ct s) ∧ HeadOk s.y s.i := by
 have hm : s ∈ lst C := by
  unfold findS at hs
  exact List.mem_of_find?_eq_some hs
 obtain ⟨c, hc, rfl⟩ := List.mem_map.1 hm
 exact h c hc
theorem pers_okX {A B : List Ct} (ha : ∀ c ∈ A, CtOk c ∧ HeadOk c.1 c.2.1) (hb : ∀ c ∈ B, CtOk c ∧ HeadOk c.1 c.2.1) : ∀ p ∈ persP (lst A) (lst B), HeadOk p.1 p.2 := by
 intro p hp
 have key {C : List Ct} (h : ∀ c ∈ C, CtOk c ∧ HeadOk c.1 c.2.1) (k : hasP (lst C) p) : HeadOk p.1 p.2 := by
  obtain ⟨s, hs, rfl⟩ := k
  obtain ⟨c, hc, rfl⟩ := List.mem_map.1 hs
  exact (h c hc).2
 rcases ((persP_of (lst A) (lst B)).2 p).1 hp with k | k
 ·exact key ha k
 ·exact key hb k
theorem now_okX {B : List Ct} (hb : ∀ c ∈ B, CtOk c ∧ HeadOk c.1 c.2.1) {p : Int × Int} (hp : HeadOk p.1 p.2) : CtOk (nowO p (findS (lst B) p)) ∧ HeadOk (nowO p (findS (lst B) p)).1 (nowO p (findS (lst B) p)).2.1 := by
 rcases hf : findS (lst B) p with _ | s
 ·obtain ⟨⟨p1, p2⟩, p3, p4⟩ := hp
  exact ⟨⟨⟨by show _ ≤ p.1; omega, by show p.1 ≤ _; omega⟩, ⟨by show _ ≤ p.2; omega, by show p.2 ≤ _; omega⟩, by simp [nowO], fun x hx => by simp [nowO] at hx⟩, ⟨p1, p2⟩, p3, p4⟩
 ·exact find_okX hb p hf
theorem con_okX {A : List Ct} (ha : ∀ c ∈ A, CtOk c ∧ HeadOk c.1 c.2.1) (p : Int × Int) : HeadOk (conO (findS (lst A) p)).1 (conO (findS (lst A) p)).2.1 := by
 rcases hf : findS (lst A) p with _ | s
 ·exact ⟨⟨by simp [conO], by simp [conO]⟩, by simp [conO], by simp [conO]⟩
 ·exact (find_okX ha p hf).2
theorem back_okX {A B : List Ct} (ha : ∀ c ∈ A, CtOk c ∧ HeadOk c.1 c.2.1) (hb : ∀ c ∈ B, CtOk c ∧ HeadOk c.1 c.2.1) (q : Int × Int) : ∀ (ps : List (Int × Int)) (acc : List Ct), (∀ p ∈ ps, HeadOk p.1 p.2) → (∀ c ∈ acc, CtOk c) →
  (∀ c ∈ (backG (lst A) (lst B) q acc ps).2, CtOk c) ∧ (backG (lst A) (lst B) q acc ps).2.length ≤ acc.length + ps.length
 | [], acc, _, h => ⟨h, by simp [backG]⟩
 | p :: r, acc, hp, h => by
  have hp0 := hp p (List.mem_cons_self ..)
  have hr : ∀ p ∈ r, HeadOk p.1 p.2 := fun x hx => hp x (List.mem_cons_of_mem _ hx)
  rw [backG]
  split
  ·obtain ⟨k1, k2⟩ := back_okX ha hb q r acc hr h
   exact ⟨k1, by rw [List.length_cons]; omega⟩
  ·split
   ·exact ⟨fun c hc => (by cases hc), by simp⟩
   ·rename_i h1
    have h1 : (ofC (conO (findS (lst A) p)) (nowO p (findS (lst B) p))).1 = 0 := by simpa using h1
    split
    ·obtain ⟨k1, k2⟩ := back_okX ha hb q r acc hr h
     exact ⟨k1, by rw [List.length_cons]; omega⟩
    ·have hok : CtOk (ofC (conO (findS (lst A) p)) (nowO p (findS (lst B) p))).2 := of_okX (by rw [← h1]) (con_okX ha p) (now_okX hb hp0).2
     obtain ⟨k1, k2⟩ := back_okX ha hb q r (acc ++ [(ofC (conO (findS (lst A) p)) (nowO p (findS (lst B) p))).2]) hr (fun c hc => by
      rcases List.mem_append.1 hc with hc | hc
      ·exact h c hc
      ·rw [List.mem_singleton.1 hc]; exact hok)
     refine ⟨k1, ?_⟩
     rw [List.length_append] at k2
     simp only [List.length_cons, List.length_nil] at k2 ⊢
     omega
theorem row_okX {p : Int} {q : Int × Int} {A B : List Ct} {o : Int} (hp : 0 ≤ p ∧ p ≤ 4294967295) (hq : HeadOk q.1 q.2) (ha : CtsOk A) (hb : CtsOk B) : RwOk (rowG p q (lst A) (lst B) o).1 := by
 have hps := heads_len (lst A ++ lst B)
 have hl : (lst A ++ lst B).length = A.length + B.length := by simp [lst]
 have k := back_okX ha.2 hb.2 q (persP (lst A) (lst B)) [] (pers_okX ha.2 hb.2) (fun c hc => by cases hc)
 have hn := now_okX hb.2 hq
 have h0 : RwOk noRw := ⟨by decide, ⟨by decide, by decide, by decide, fun x hx => by cases hx⟩, by decide, fun c hc => by cases hc⟩
 have ha1 := ha.1
 have hb1 := hb.1
 unfold rowG
 split
 ·exact h0
 ·split
  ·exact h0
  ·refine ⟨hp, hn.1, ?_, k.1⟩
   have k2 := k.2
   unfold persP at k2
   simp only [List.length_nil] at k2
   show (backG (lst A) (lst B) q [] (persP (lst A) (lst B))).2.length ≤ 1000
   unfold persP
   omega
theorem rows_okX {q : Int × Int} {B : Bk} {S : Int → List Ct} (hq : HeadOk q.1 q.2) : ∀ {ps : List Int} {acc : List Rw}, (∀ p ∈ ps, (¬ (S p = [] ∧ B.paid p = []) → 0 ≤ p ∧ p ≤ 4294967295) ∧ CtsOk (B.paid p) ∧ CtsOk (S p)) → (∀ r ∈ acc, RwOk r) → (rowsG q B S acc ps).1 = 0 → ∀ r ∈ (rowsG q B S acc ps).2, RwOk r
 | [], acc, _, h, _ => h
 | p :: ps, acc, hp, h, h0 => by
  have hp0 := hp p (List.mem_cons_self ..)
  have hr : ∀ x ∈ ps, (¬ (S x = [] ∧ B.paid x = []) → 0 ≤ x ∧ x ≤ 4294967295) ∧ CtsOk (B.paid x) ∧ CtsOk (S x) := fun x hx => hp x (List.mem_cons_of_mem _ hx)
  rw [rowsG] at h0 ⊢
  split
  ·rename_i h1
   rw [if_pos h1] at h0
   exact rows_okX hq hr h h0
  ·rename_i h1
   rw [if_neg h1] at h0
   split
   ·rename_i h2
    rw [if_pos h2] at h0
    exact absurd h0 h2
   ·rename_i h2
    rw [if_neg h2] at h0
    refine rows_okX hq hr (fun r hr => ?_) h0
    rcases List.mem_append.1 hr with hr | hr
    ·exact h r hr
    ·rw [List.mem_singleton.1 hr]
     exact row_okX (hp0.1 h1) hq hp0.2.1 hp0.2.2
end Wb
end Go.Proofs.YtnefdpnolojojaaGreatDoor
namespace Go.Proofs.YtnefdpnolojojaaGreatDoor
namespace Wb
structure RnOk (r : Rn) : Prop where
 n : -9223372036854775807 ≤ r.n ∧ r.n ≤ 9223372036854775807
 y : -9223372036854775807 ≤ r.y ∧ r.y ≤ 9223372036854775807
 i : -9223372036854775807 ≤ r.i ∧ r.i ≤ 9223372036854775807
 k : -9223372036854775807 ≤ r.k ∧ r.k ≤ 9223372036854775807
 rows : ∀ w ∈ r.rows, RwOk w
def PaidOk (B : Bk) : Prop := ∀ p, CtsOk (B.paid p)
theorem paid_no : PaidOk noBk := fun _ => ⟨by simp [noBk], fun c hc => by simp [noBk] at hc⟩
theorem head_okX {R : List Rn} {y i k : Int} (h : headE R y i k = 0) : HeadOk y i ∧ 0 ≤ k := by
 unfold headE at h
 split at h
 ·omega
 ·rename_i h1
  exact ⟨⟨⟨by omega, by omega⟩, by omega, by omega⟩, by omega⟩
theorem do_okX {B B' : Bk} {y i k : Int} {S : Int → List Ct} {hs ps : List Int} {r : Rn} (h : doG B y i k S hs ps = (B', r, 0)) (hk : k ≤ 9223372036854775807) (hB : PaidOk B) (hl : B.runs.length ≤ 1000000)
  (hS : ∀ p, (S p).length ≤ 100) (hn : ∀ p, p ∉ hs → S p = []) (hp : ∀ p, ¬ (S p = [] ∧ B.paid p = []) → 0 ≤ p ∧ p ≤ 4294967295) : PaidOk B' ∧ RnOk r := by
 unfold doG at h
 split at h
 ·rename_i h0
  injection h with _ h
  injection h with _ h
  exact absurd h h0
 ·rename_i h0
  have h0 : headE B.runs y i k = 0 := by simpa using h0
  split at h
  ·rename_i h1
   injection h with _ h
   injection h with _ h
   exact absurd h h1
  ·rename_i h1
   have h1 : handsE (y, i) S hs = 0 := by simpa using h1
   split at h
   ·rename_i h2
    injection h with _ h
    injection h with _ h
    exact absurd h h2
   ·rename_i h2
    have h2 : (rowsG (y, i) B S [] ps).1 = 0 := by simpa using h2
    injection h with e1 h
    injection h with e2 _
    obtain ⟨hh, hk0⟩ := head_okX h0
    have hSo : ∀ p, CtsOk (S p) := fun p => by
     by_cases hm : p ∈ hs
     ·exact ⟨hS p, hands_okX h1 p hm⟩
     ·rw [hn p hm]; exact ⟨by simp, fun c hc => by cases hc⟩
    obtain ⟨⟨a1, a2⟩, a3, a4⟩ := hh
    subst e1 e2
    refine ⟨fun p => ⟨?_, fun c hc => (hSo p).2 c (List.mem_filter.1 hc).1⟩, ⟨?_, ?_, ?_, ?_, rows_okX ⟨⟨a1, a2⟩, a3, a4⟩ (fun p _ => ⟨hp p, hB p, hSo p⟩) (fun r hr => by cases hr) h2⟩⟩
    ·have := (hSo p).1
     have h9 := List.length_filter_le (fun c : Ct => !c.2.2.isEmpty) (S p)
     show (fullC (S p)).length ≤ 100
     unfold fullC
     omega
    ·show _ ∧ _
     simp only
     omega
    ·show _ ∧ _
     simp only
     omega
    ·show _ ∧ _
     simp only
     omega
    ·show _ ∧ _
     simp only
     omega
end Wb
end Go.Proofs.YtnefdpnolojojaaGreatDoor
