/- Mod3 -/
import Derived.Test.YtnefdpnolojojaaGreatMSt
import Derived.Test.YtnefdpnolojojaaGreatMRf
namespace Go.Proofs.YtnefdpnolojojaaGreat
open Go.RowKit Go.Sort Go.Lib Go.Maps
set_option maxRecDepth 8000
attribute [local go_sem ↓] Go.wp_at_zero Go.wp_at_succ
set_option maxHeartbeats 1000000 in
theorem rless31_any (y i a b : Int) (w : World) : Calls Tryz.prog 50 #[.int .i64 y, .int .i64 i, .int .i64 a, .int .i64 b] w fun e w' => e = .returned (.bool (prLt (y, i) (a, b))) ∧ w = w' := by
 obtain ⟨g, hg⟩ : ∃ g, prLt (y, i) (a, b) = g := ⟨_, rfl⟩
 rw [hg]
 have HG := Lib.hid hg
 clear hg
 go_enter Tryz.func50, Tryz.ntmps50
 by_cases h1 : y < a
 ·obtain rfl : g = true := by rw [← HG.out]; exact (prLt_iff _ _).2 (.inl h1)
  have d1 : decide (y < a) = true := by simpa using h1
  clear h1
  go_wp2
  go_ret
  exact ⟨rfl, rfl⟩
 have d1 : decide (y < a) = false := by simpa using h1
 by_cases h2 : y = a
 ·have d2 : (y == a) = true := by simpa using h2
  by_cases h3 : i < b
  ·obtain rfl : g = true := by rw [← HG.out]; exact (prLt_iff _ _).2 (.inr ⟨h2, h3⟩)
   have d3 : decide (i < b) = true := by simpa using h3
   clear h1 h2 h3
   go_wp2
   go_ret
   exact ⟨rfl, rfl⟩
  ·obtain rfl : g = false := by rw [← HG.out, Bool.eq_false_iff]; intro h; rcases (prLt_iff _ _).1 h with h | h <;> simp at h <;> omega
   have d3 : decide (i < b) = false := by simpa using h3
   clear h1 h2 h3
   go_wp2
   go_ret
   exact ⟨rfl, rfl⟩
 ·obtain rfl : g = false := by rw [← HG.out, Bool.eq_false_iff]; intro h; rcases (prLt_iff _ _).1 h with h | h <;> simp at h <;> omega
  have d2 : (y == a) = false := by simpa using h2
  clear h1 h2
  go_wp2
  go_ret
  exact ⟨rfl, rfl⟩
def atV (L : List Wb.Sl) (p : Int × Int) : Value := match Wb.findS L p with
 | none => .slice none 0 0
 | some s => s.v
theorem find_at {L : List Wb.Sl} {k : Nat} {s : Wb.Sl} {p : Int × Int} (h0 : ∀ t x, L[t]? = some x → t < k → Wb.perS x ≠ p) (hs : L[k]? = some s) (hp : Wb.perS s = p) : Wb.findS L p = some s := by
 unfold Wb.findS
 rw [List.find?_eq_some_iff_getElem]
 obtain ⟨hk, he⟩ := List.getElem?_eq_some_iff.1 hs
 refine ⟨by simpa using hp, k, hk, he, fun j hj => ?_⟩
 have := h0 j _ (List.getElem?_eq_getElem (by omega)) hj
 simpa using this
theorem find_no {L : List Wb.Sl} {p : Int × Int} (h0 : ∀ t x, L[t]? = some x → t < L.length → Wb.perS x ≠ p) : Wb.findS L p = none := by
 unfold Wb.findS
 rw [List.find?_eq_none]
 intro x hx
 obtain ⟨t, ht⟩ := List.getElem?_of_mem hx
 have := h0 t x ht (List.getElem?_eq_some_iff.1 ht).1
 simpa using this
set_option maxHeartbeats 2000000 in
theorem rat31_any (v : Value) (L : List Wb.Sl) (y i : Int) (w : World) (hL : Sls w v L) (hl : L.length ≤ 1000000) :
  Calls Tryz.prog 77 #[v, .int .i64 y, .int .i64 i] w fun e w' => e = .returned (.agg #[.int .i64 y, .int .i64 i, atV L (y, i)]) ∧ Wb.Ext w w' := by
 obtain ⟨va, vc, rfl⟩ := hL.1.shape
 have HL := Lib.hid hL
 clear hL
 obtain ⟨Z, hZ⟩ : ∃ Z, atV L (y, i) = Z := ⟨_, rfl⟩
 rw [hZ]
 have HZ := Lib.hid hZ
 clear hZ
 go_enter Tryz.func77, Tryz.ntmps77
 go_upto_region 1 with (fail)
 refine Wb.wp_at fun W0 hW0 => ?_
 obtain ⟨A, hA⟩ : ∃ A, w.heap.size = A := ⟨_, rfl⟩
 have HX0 := Lib.hid (show Wb.Ext w W0 by rw [hW0]; (repeat' (first | (with_reducible assumption) | (with_reducible exact Wb.Ext.refl _) | (with_reducible refine Wb.Ext.drew ?_) | (with_reducible refine Wb.Ext.drewN ?_ _) | (with_reducible refine Wb.Ext.alloc ?_ _) | (with_reducible refine Wb.Ext.trans ?_ (by assumption)))))
 have b0 : W0.cell? ⟨A, 0, none⟩ = some (.int .i64 0) := by rw [hW0, ← hA]; simp [go_sem]
 have b1 : W0.cell? ⟨A, 1, none⟩ = some (.int .i64 0) := by rw [hW0, ← hA]; simp [go_sem]
 have b2 : W0.cell? ⟨A, 2, none⟩ = some (.slice none 0 0) := by rw [hW0, ← hA]; simp [go_sem]
 have bf : ∀ j, W0.frozen? ⟨A, j, none⟩ = false := fun j => by rw [hW0, ← hA]; simp [go_sem]
 have hwA : w.heap.size ≤ A := by omega
 have hAs := Wb.cell_size b0
 have HSET := Lib.hid (show ∀ u0 u1 u2, Wb.Ext w (((W0.setCell ⟨A, 0, none⟩ u0).setCell ⟨A, 1, none⟩ u1).setCell ⟨A, 2, none⟩ u2) from fun u0 u1 u2 => Kept.old (F := fun q => q ≠ A) (by (repeat' (first | (with_reducible exact Kept.refl) | (with_reducible refine Kept.setj ?_ ?_) | (exact fun h => h rfl)))) HX0.out (fun i hi => by omega))
 rw [hA]
 clear hW0 hA
 go_wp2_with fail
 go_loopw [7] (fun iv wr => ∃ k : Nat, k ≤ L.length ∧ iv = .int .i64 k ∧ Hid (∀ t x, L[t]? = some x → t < k → Wb.perS x ≠ (y, i)) ∧ W0 = wr) (fun iv _ => L.length - (intOf iv).toNat)
 case atStart => exact ⟨0, Nat.zero_le _, rfl, Lib.hid (fun t x _ h => absurd h (Nat.not_lt_zero _)), rfl⟩
 case round =>
  obtain ⟨k, hk, rfl, HN, rfl⟩ := hrel
  by_cases hlt : k < L.length
  case neg =>
   obtain rfl : k = L.length := by omega
   have HF := Lib.hid (show atV L (y, i) = .slice none 0 0 by unfold atV; rw [find_no HN.out])
   have d1 : decide ((L.length : Int) < (L.length : Int)) = false := by simp
   clear hlt
   go_wp2
   exact bodyPost_ret (v := .agg #[.int .i64 y, .int .i64 i, .slice none 0 0]) (by simp [results, Tryz.results77, go_sem, b0, b1, b2]) rfl ⟨by rw [← HZ.out, HF.out], HSET.out _ _ _⟩
  obtain ⟨s, hs⟩ := Wb.get_ex hlt
  obtain ⟨b, off, rfl, c0, c1, c2⟩ := (HL.out.ext HX0.out).cells hs
  obtain ⟨sa, sc, hsv⟩ := (HL.out.2 s (List.mem_of_getElem? hs)).1.1.shape
  rw [hsv] at c2
  have HSV := Lib.hid hsv
  clear hsv
  have d1 : decide ((k : Int) < (L.length : Int)) = true := by simp; omega
  have hki : (k : Int) < L.length := by omega
  have hnx : ∀ (hp : Wb.perS s ≠ (y, i)), Hid (∀ t x, L[t]? = some x → t < k + 1 → Wb.perS x ≠ (y, i)) := fun hp => Lib.hid (fun t x hx ht => by
   by_cases e : t = k
   ·subst e; rw [hs] at hx; cases hx; exact hp
   ·exact HN.out t x hx (by omega))
  by_cases h1 : s.y = y
  ·have d2 : (s.y == y) = true := by simpa using h1
   by_cases h2 : s.i = i
   ·have d3 : (s.i == i) = true := by simpa using h2
    have HF := Lib.hid (show atV L (y, i) = s.v by unfold atV; rw [find_at HN.out hs (by unfold Wb.perS; rw [h1, h2])])
    subst h1 h2
    clear hnx hs hlt
    go_wp2
    exact bodyPost_ret (v := .agg #[.int .i64 s.y, .int .i64 s.i, .slice sa s.l.length sc]) (by simp [results, Tryz.results77, go_sem, b0, b1, b2]) rfl ⟨by rw [← HZ.out, HF.out, HSV.out], HSET.out _ _ _⟩
   ·have d3 : (s.i == i) = false := by simpa using h2
    have HNX := hnx (fun e => h2 (congrArg Prod.snd e))
    clear h1 h2 hnx hs hlt
    go_wp2
    go_roundw
    case rel => exact ⟨k + 1, by omega, by go_num, HNX, by first | rfl | trivial⟩
    case measure => first | (simp [intOf]; done) | (simp [intOf]; omega)
  ·have d2 : (s.y == y) = false := by simpa using h1
   have HNX := hnx (fun e => h1 (congrArg Prod.fst e))
   clear h1 hnx hs hlt
   go_wp2
   go_roundw
   case rel => exact ⟨k + 1, by omega, by go_num, HNX, by first | rfl | trivial⟩
   case measure => first | (simp [intOf]; done) | (simp [intOf]; omega)
end Go.Proofs.YtnefdpnolojojaaGreat
