/- The walk of Set.Days. -/
import Derived.Test.YtheofklbmknipaaSpn7
import Derived.Deep.Cut
import Derived.RegionTactic
namespace Go.Proofs.Ytheofklbmknipaa
open Go.RowKit
set_option maxRecDepth 8000
attribute [local go_sem ↓] Go.wp_at_zero Go.wp_at_succ

/-- how many days, at most 2^62 -/
def daysL (l : List Wb.Sp) : Int := l.foldl (fun n s => min n (4611686018427387904 - lenS s) + lenS s) 0
theorem daysL_snoc (l : List Wb.Sp) (s : Wb.Sp) : daysL (l ++ [s]) = min (daysL l) (4611686018427387904 - lenS s) + lenS s := by rw [daysL, daysL, List.foldl_append]; rfl
theorem daysL_ok (l : List Wb.Sp) : 0 ≤ daysL l ∧ daysL l ≤ 4611686018427387904 := by
  induction l using Wb.snocI with
  | h0 => exact ⟨Int.le_refl _, by decide⟩
  | h1 l s ih => rw [daysL_snoc]; have := lenS_ok s; omega
theorem daysL_take {l : List Wb.Sp} {k : Nat} {s : Wb.Sp} (h : l[k]? = some s) : daysL (l.take (k + 1)) = min (daysL (l.take k)) (4611686018427387904 - lenS s) + lenS s := by
  obtain ⟨h1, rfl⟩ := List.getElem?_eq_some_iff.1 h
  rw [List.take_succ_eq_append_getElem h1, daysL_snoc]

set_option maxHeartbeats 4000000 in
theorem days_any (v : Value) (l : List Wb.Sp) (w : World) (hv : Spans w v l) (hb : BdL l) (hl : l.length ≤ 1000000) :
    Calls Try.prog 27 #[SetV v] w fun e w' => e = .returned (.int .i64 (daysL l)) ∧ Wb.Ext w w' := by
  obtain ⟨va, vc, rfl⟩ := hv.shape
  have HV := Lib.hid hv
  have HB := Lib.hid hb
  clear hv hb
  go_enter Try.func27, Try.ntmps27
  go_wp2_with fail
  go_loopw [3, 9] (fun sv iv wr => ∃ k : Nat, k ≤ l.length ∧ iv = .int .i64 k ∧ sv = .int .i64 (daysL (l.take k)) ∧ Wb.Ext w wr) (fun _ iv _ => l.length - (intOf iv).toNat)
  case atStart => exact ⟨0, Nat.zero_le _, rfl, rfl, by (repeat' (first | (with_reducible assumption) | (with_reducible exact Wb.Ext.refl _) | (with_reducible refine Wb.Ext.drew ?_) | (with_reducible refine Wb.Ext.drewN ?_ _) | (with_reducible refine Wb.Ext.alloc ?_ _) | (with_reducible refine Wb.Ext.trans ?_ (by assumption))))⟩
  case round =>
    obtain ⟨k, hk, rfl, rfl, hext⟩ := hrel
    by_cases hlt : k < l.length
    · obtain ⟨y, hy⟩ := Wb.get_ex hlt
      obtain ⟨b, off, rfl, hcells⟩ := (HV.out.ext hext).opened (tne hlt)
      have c0 := hcells _ y hy 0 _ rfl
      have c1 := hcells _ y hy 1 _ rfl
      have hki : (k : Int) < l.length := by omega
      have HYB := Lib.hid (HB.out y (List.mem_of_getElem? hy))
      obtain ⟨n, hn⟩ : ∃ n, daysL (l.take k) = n := ⟨_, rfl⟩
      obtain ⟨L, hL⟩ : ∃ L, lenS y = L := ⟨_, rfl⟩
      obtain ⟨m, hm⟩ : ∃ m, min n (4611686018427387904 - L) = m := ⟨_, rfl⟩
      have n1 : 0 ≤ n ∧ n ≤ 4611686018427387904 := by rw [← hn]; exact daysL_ok _
      have n2 : 0 ≤ L ∧ L ≤ 4611686018427387904 := by rw [← hL]; exact lenS_ok _
      obtain ⟨n3, n4⟩ := n1
      obtain ⟨n5, n6⟩ := n2
      have hmn : (if 4611686018427387904 - L < n then 4611686018427387904 - L else n) = m := by rw [← hm]; split <;> omega
      have m1 : 0 ≤ m := by omega
      have m2 : m + L ≤ 4611686018427387904 := by omega
      have HS := Lib.hid (show daysL (l.take (k + 1)) = m + L by rw [daysL_take hy, hn, hL, hm])
      have HLN := Lib.hid hL
      have HM := Lib.hid hm
      rw [hn]
      clear hcells hy hn hL hm
      simp only [Nat.add_zero] at c0
      go_upto_region 5 with (fail)
      refine Wb.wp_at fun w1 hw1 => ?_
      have hx1 : Wb.Ext wr w1 := by rw [hw1]; (repeat' (first | (with_reducible assumption) | (with_reducible exact Wb.Ext.refl _) | (with_reducible refine Wb.Ext.drew ?_) | (with_reducible refine Wb.Ext.drewN ?_ _) | (with_reducible refine Wb.Ext.alloc ?_ _) | (with_reducible refine Wb.ext_set ?_ (by first | assumption | (simp; done) | (simp; omega) | omega) _) | (with_reducible refine Wb.Ext.trans ?_ (by assumption))))
      have q0 : w1.cell? ⟨wr.heap.size, 0, none⟩ = some (.int .i64 y.1) := by rw [hw1]; simp [go_sem]
      have q1 : w1.cell? ⟨wr.heap.size, 1, none⟩ = some (.int .i64 y.2) := by rw [hw1]; simp [go_sem]
      have HXR := Lib.hid (hext.trans hx1)
      clear hw1 hext hx1
      refine wp_region_held_drew (S := (fun w' => w'.cell? ⟨wr.heap.size, 0, none⟩ = some (.int .i64 y.1) ∧ w'.cell? ⟨wr.heap.size, 1, none⟩ = some (.int .i64 y.2))) (by kernel_rfl) ⟨q0, q1⟩ (fun hHeld => ?_)
      refine take_d (i := 0) (d := 13) (v := ?_) rfl rfl (by kernel_rfl) (by kernel_rfl) (by kernel_rfl) (fun _ _ _ h => h) (Or.inl ⟨by rfl, ?_⟩) (by assumption) ?_
      rotate_left
      · (intro w hSw; (try dsimp only at hSw); go_simp; (try with_reducible rfl))
      (try simp only [Act.put, List.setIfInBounds_toArray, List.set_cons_zero, List.set_cons_succ])
      refine take_d (i := 1) (d := 14) (v := ?_) rfl rfl (by kernel_rfl) (by kernel_rfl) (by kernel_rfl) (fun _ _ _ h => h) (Or.inl ⟨by rfl, ?_⟩) (by assumption) ?_
      rotate_left
      · (intro w hSw; (try dsimp only at hSw); go_simp; (try with_reducible rfl))
      (try simp only [Act.put, List.setIfInBounds_toArray, List.set_cons_zero, List.set_cons_succ])
      refine take_d (i := 5) (d := 18) (v := ?_) rfl rfl (by kernel_rfl) (by kernel_rfl) (by kernel_rfl) (fun _ _ _ h => h) (Or.inl ⟨by rfl, ?_⟩) (by assumption) ?_
      rotate_left
      · (intro w hSw; (try dsimp only at hSw); go_simp; (try with_reducible rfl))
      (try simp only [Act.put, List.setIfInBounds_toArray, List.set_cons_zero, List.set_cons_succ])
      refine wpAnyH_ready (rs := [2]) (by kernel_rfl) (by simp) ?_
      refine AllReadyH.cons (o := _) rfl (fun K hK => ?_) ?_
      · go_simp
        go_at_call 25
        go_fit (length_any y HYB.out _)
        rintro e w2 ⟨rfl, hb2⟩
        rw [HLN.out]
        refine hK.out _ _ ⟨Wb.Ext.keep (w := w1) (by (repeat' (first | (with_reducible assumption) | (with_reducible exact Wb.Ext.refl _) | (with_reducible refine Wb.Ext.drew ?_) | (with_reducible refine Wb.Ext.drewN ?_ _) | (with_reducible refine Wb.Ext.alloc ?_ _) | (with_reducible refine Wb.Ext.trans ?_ (by assumption))))) q0, Wb.Ext.keep (w := w1) (by (repeat' (first | (with_reducible assumption) | (with_reducible exact Wb.Ext.refl _) | (with_reducible refine Wb.Ext.drew ?_) | (with_reducible refine Wb.Ext.drewN ?_ _) | (with_reducible refine Wb.Ext.alloc ?_ _) | (with_reducible refine Wb.Ext.trans ?_ (by assumption))))) q1⟩ (fun hHeld => ?_)
        clear hK K
        (try simp only [Act.put, List.setIfInBounds_toArray, List.set_cons_zero, List.set_cons_succ])
        refine take_d (i := 3) (d := 16) (v := ?_) rfl rfl (by kernel_rfl) (by kernel_rfl) (by kernel_rfl) (fun _ _ _ h => h) (Or.inl ⟨by rfl, ?_⟩) (by assumption) ?_
        rotate_left
        · (intro w hSw; (try dsimp only at hSw); go_simp; (try with_reducible rfl))
        (try simp only [Act.put, List.setIfInBounds_toArray, List.set_cons_zero, List.set_cons_succ])
        refine take_d (i := 4) (d := 17) (v := ?_) rfl rfl (by kernel_rfl) (by kernel_rfl) (by kernel_rfl) (fun _ _ _ h => h) (Or.inl ⟨by rfl, ?_⟩) (by assumption) ?_
        rotate_left
        · (intro w hSw; (try dsimp only at hSw); go_simp; (try with_reducible rfl))
        (try simp only [Act.put, List.setIfInBounds_toArray, List.set_cons_zero, List.set_cons_succ])
        refine wpAnyH_ready (rs := [6]) (by kernel_rfl) (by simp) ?_
        refine AllReadyH.cons (o := _) rfl (fun K hK => ?_) ?_
        · go_simp
          go_at_call 25
          go_fit (length_any y HYB.out _)
          rintro e w3 ⟨rfl, hb3⟩
          rw [HLN.out]
          refine hK.out _ _ ⟨Wb.Ext.keep (w := w1) (by (repeat' (first | (with_reducible assumption) | (with_reducible exact Wb.Ext.refl _) | (with_reducible refine Wb.Ext.drew ?_) | (with_reducible refine Wb.Ext.drewN ?_ _) | (with_reducible refine Wb.Ext.alloc ?_ _) | (with_reducible refine Wb.Ext.trans ?_ (by assumption))))) q0, Wb.Ext.keep (w := w1) (by (repeat' (first | (with_reducible assumption) | (with_reducible exact Wb.Ext.refl _) | (with_reducible refine Wb.Ext.drew ?_) | (with_reducible refine Wb.Ext.drewN ?_ _) | (with_reducible refine Wb.Ext.alloc ?_ _) | (with_reducible refine Wb.Ext.trans ?_ (by assumption))))) q1⟩ (fun hHeld => ?_)
          clear hK K
          (try simp only [Act.put, List.setIfInBounds_toArray, List.set_cons_zero, List.set_cons_succ])
          refine take_d (i := 7) (d := 20) (v := ?_) rfl rfl (by kernel_rfl) (by kernel_rfl) (by kernel_rfl) (fun _ _ _ h => h) (Or.inl ⟨by rfl, ?_⟩) (by assumption) ?_
          rotate_left
          · (intro w hSw; (try dsimp only at hSw); go_simp; (try with_reducible rfl))
          (try simp only [Act.put, List.setIfInBounds_toArray, List.set_cons_zero, List.set_cons_succ])
          refine take_d (i := 8) (d := 3) (v := ?_) rfl rfl (by kernel_rfl) (by kernel_rfl) (by kernel_rfl) (fun _ _ _ h => h) (Or.inl ⟨by rfl, ?_⟩) (by assumption) ?_
          rotate_left
          · (intro w hSw; (try dsimp only at hSw); go_simp; (try with_reducible rfl))
          (try simp only [Act.put, List.setIfInBounds_toArray, List.set_cons_zero, List.set_cons_succ])
          refine wpAnyH_done (by kernel_rfl) ?_ _
          go_wp2
          go_roundw
          case rel => exact ⟨k + 1, by omega, by go_num, by rw [HS.out, IntWalk.i64_in (4611686018427387904 - L) (by omega), HM.out, IntWalk.i64_in (m + L) (by omega)], HXR.out.trans (by (repeat' (first | (with_reducible assumption) | (with_reducible exact Wb.Ext.refl _) | (with_reducible refine Wb.Ext.drew ?_) | (with_reducible refine Wb.Ext.drewN ?_ _) | (with_reducible refine Wb.Ext.alloc ?_ _) | (with_reducible refine Wb.Ext.trans ?_ (by assumption)))))⟩
          case measure => simp [intOf]; omega
        exact AllReadyH.nil
      exact AllReadyH.nil
    · obtain rfl : k = l.length := by omega
      rw [List.take_length]
      go_wp2
      go_ret
      exact ⟨rfl, by (repeat' (first | (with_reducible assumption) | (with_reducible exact Wb.Ext.refl _) | (with_reducible refine Wb.Ext.drew ?_) | (with_reducible refine Wb.Ext.drewN ?_ _) | (with_reducible refine Wb.Ext.alloc ?_ _) | (with_reducible refine Wb.Ext.trans ?_ (by assumption))))⟩

end Go.Proofs.Ytheofklbmknipaa
