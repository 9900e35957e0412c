/- Chapter 20: the law's 'of': pieces as the reference has them. -/
import Derived.Test.YtheofklbmknipaaPro0
import Derived.Test.YtheofklbmknipaaApp1
import Derived.Deep.RegionHeld3
import Derived.Deep.DeepCutAuto
namespace Go.Proofs.Ytheofklbmknipaa
open Go.RowKit Go.Lib
set_option maxRecDepth 8000
attribute [local go_sem ↓] Go.wp_at_zero Go.wp_at_succ

theorem infoRPc : (Try.prog.info? 66).map (fun i => (i.zero, i.size, i.bytes)) = some (some (.agg #[.int .i64 0, .int .i64 0, .int .i64 0, .int .i64 0]), 4, 32) := by kernel_rfl
theorem rpc_one9 (l : List Pc) : ∀ u ∈ rowsOf pcc l, u.oneCell' = true := by
  intro u hu
  obtain ⟨x, _, hx⟩ := List.mem_flatMap.1 hu
  simp [pcc] at hx
  rcases hx with rfl | rfl | rfl | rfl <;> rfl
set_option maxHeartbeats 4000000 in
theorem lof_any (v : Value) (l : List Pc) (w : World) (hv : Tbl 4 pcc w v l) (hl : l.length ≤ 80) :
    Calls Try.prog 16 #[v] w fun e w' => ∃ u, e = .returned u ∧ Tbl 4 pcc w' u l ∧ Wb.Ext w w' := by
  obtain ⟨va, vc, rfl⟩ := hv.shape
  have HV := Lib.hid hv
  clear hv
  obtain ⟨i0, hz, hz0, hz1, hz2⟩ := info_parts infoRPc
  have HIN := Lib.hid (show Try.prog.info? 66 = some i0 ∧ i0.zero = some (.agg #[.int .i64 0, .int .i64 0, .int .i64 0, .int .i64 0]) ∧ i0.size = 4 ∧ i0.bytes = 32 from ⟨hz, hz0, hz1, hz2⟩)
  clear hz hz0 hz1 hz2
  go_enter Try.func16, Try.ntmps16
  go_wp2_with fail
  go_loopw [3, 4] (fun ov iv wr => ∃ k : Nat, k ≤ l.length ∧ iv = .int .i64 k ∧ Hid (wr.ownsRow w.heap.size 66 4 ov k (rowsOf pcc (l.take k))) ∧ Wb.Ext w wr) (fun _ iv _ => l.length - (intOf iv).toNat)
  case atStart => exact ⟨0, Nat.zero_le _, rfl, Lib.hid ⟨by simp [rowsOf], .inl ⟨rfl, by simp [rowsOf]⟩⟩, by (repeat' (first | (with_reducible assumption) | (with_reducible exact Wb.Ext.refl _) | (with_reducible refine Wb.Ext.drew ?_) | (with_reducible refine Wb.Ext.drewN ?_ _) | (with_reducible refine Wb.Ext.alloc ?_ _) | (with_reducible refine Wb.Ext.trans ?_ (by assumption))))⟩
  case round =>
    obtain ⟨k, hk, rfl, HO, hxr⟩ := hrel
    obtain ⟨oa, oc, rfl⟩ := row_shape HO.out
    by_cases hlt : k < l.length
    case neg =>
      obtain rfl : k = l.length := by omega
      have HT := Lib.hid (show Tbl 4 pcc wr (.slice oa l.length oc) l by have := HO.out; rw [List.take_length] at this; exact row_tbl pcc_len (by decide) this)
      go_wp2
      refine bodyPost_ret (v := .slice oa l.length oc) (by simp [results, Try.results16, go_sem]) rfl ⟨_, rfl, HT.out, by (repeat' (first | (with_reducible assumption) | (with_reducible exact Wb.Ext.refl _) | (with_reducible refine Wb.Ext.drew ?_) | (with_reducible refine Wb.Ext.drewN ?_ _) | (with_reducible refine Wb.Ext.alloc ?_ _) | (with_reducible refine Wb.Ext.trans ?_ (by assumption))))⟩
    obtain ⟨x, hx⟩ := Wb.get_ex hlt
    obtain ⟨b, off, rfl, hcells⟩ := HV.out.opened (tne hlt)
    have d0 := hcells _ x hx 0 _ rfl
    have d1 := hcells _ x hx 1 _ rfl
    have d2 := hcells _ x hx 2 _ rfl
    have d3 := hcells _ x hx 3 _ rfl
    simp only [Nat.add_zero] at d0
    have HBL := Lib.hid (Wb.cell_size d0)
    have c0 := hxr.keep d0
    have c1 := hxr.keep d1
    have c2 := hxr.keep d2
    have c3 := hxr.keep d3
    have hki : (k : Int) < l.length := by omega
    have HTA := Lib.hid (take_at hx)
    have HXR := Lib.hid hxr
    have HOr := Lib.hid HO.out.drew
    clear hcells hx d0 d1 d2 d3
    go_wp2_with fail
    refine region_start (S := (fun w' => w'.cell? ⟨b, off + k * 4, none⟩ = some (.int .i64 (x.d.1)) ∧ w'.cell? ⟨b, off + k * 4 + 1, none⟩ = some (.int .i64 (x.d.2)) ∧ w'.cell? ⟨b, off + k * 4 + 2, none⟩ = some (.int .i64 (x.y)) ∧ w'.cell? ⟨b, off + k * 4 + 3, none⟩ = some (.int .i64 (x.part)))) (n := 20) (l := #[false, false, false, false, false, false, false, false, false, false, false, false, false, false, false, false, false, false, false, false]) (by kernel_rfl) ⟨c0, c1, c2, c3⟩ (by kernel_rfl) (by kernel_rfl) (fun hHeld => ?_)
    refine take_d (i := 0) (d := 11) (v := ?_) rfl rfl (by kernel_rfl) (by kernel_rfl) (by kernel_rfl) (fun _ _ _ h => h) (Or.inl ⟨by rfl, ?_⟩) (by assumption) ?_
    rotate_left
    · (intro w hSw; (try dsimp only at hSw); go_simp; (try with_reducible rfl))
    (try simp only [Act.put, List.setIfInBounds_toArray, List.set_cons_zero, List.set_cons_succ])
    refine take_d (i := 1) (d := 12) (v := ?_) rfl rfl (by kernel_rfl) (by kernel_rfl) (by kernel_rfl) (fun _ _ _ h => h) (Or.inl ⟨by rfl, ?_⟩) (by assumption) ?_
    rotate_left
    · (intro w hSw; (try dsimp only at hSw); go_simp; (try with_reducible rfl))
    (try simp only [Act.put, List.setIfInBounds_toArray, List.set_cons_zero, List.set_cons_succ])
    refine take_d (i := 2) (d := 13) (v := ?_) rfl rfl (by kernel_rfl) (by kernel_rfl) (by kernel_rfl) (fun _ _ _ h => h) (Or.inl ⟨by rfl, ?_⟩) (by assumption) ?_
    rotate_left
    · (intro w hSw; (try dsimp only at hSw); go_simp; (try with_reducible rfl))
    (try simp only [Act.put, List.setIfInBounds_toArray, List.set_cons_zero, List.set_cons_succ])
    refine take_d (i := 3) (d := 14) (v := ?_) rfl rfl (by kernel_rfl) (by kernel_rfl) (by kernel_rfl) (fun _ _ _ h => h) (Or.inl ⟨by rfl, ?_⟩) (by assumption) ?_
    rotate_left
    · (intro w hSw; (try dsimp only at hSw); go_simp; (try with_reducible rfl))
    (try simp only [Act.put, List.setIfInBounds_toArray, List.set_cons_zero, List.set_cons_succ])
    refine take_d (i := 4) (d := 15) (v := ?_) rfl rfl (by kernel_rfl) (by kernel_rfl) (by kernel_rfl) (fun _ _ _ h => h) (Or.inl ⟨by rfl, ?_⟩) (by assumption) ?_
    rotate_left
    · (intro w hSw; (try dsimp only at hSw); go_simp; (try with_reducible rfl))
    (try simp only [Act.put, List.setIfInBounds_toArray, List.set_cons_zero, List.set_cons_succ])
    refine take_d (i := 5) (d := 16) (v := ?_) rfl rfl (by kernel_rfl) (by kernel_rfl) (by kernel_rfl) (fun _ _ _ h => h) (Or.inl ⟨by rfl, ?_⟩) (by assumption) ?_
    rotate_left
    · (intro w hSw; (try dsimp only at hSw); go_simp; (try with_reducible rfl))
    (try simp only [Act.put, List.setIfInBounds_toArray, List.set_cons_zero, List.set_cons_succ])
    refine take_d (i := 6) (d := 17) (v := ?_) rfl rfl (by kernel_rfl) (by kernel_rfl) (by kernel_rfl) (fun _ _ _ h => h) (Or.inl ⟨by rfl, ?_⟩) (by assumption) ?_
    rotate_left
    · (intro w hSw; (try dsimp only at hSw); go_simp; (try with_reducible rfl))
    (try simp only [Act.put, List.setIfInBounds_toArray, List.set_cons_zero, List.set_cons_succ])
    refine take_d (i := 7) (d := 18) (v := ?_) rfl rfl (by kernel_rfl) (by kernel_rfl) (by kernel_rfl) (fun _ _ _ h => h) (Or.inl ⟨by rfl, ?_⟩) (by assumption) ?_
    rotate_left
    · (intro w hSw; (try dsimp only at hSw); go_simp; (try with_reducible rfl))
    (try simp only [Act.put, List.setIfInBounds_toArray, List.set_cons_zero, List.set_cons_succ])
    refine take_d (i := 8) (d := 19) (v := ?_) rfl rfl (by kernel_rfl) (by kernel_rfl) (by kernel_rfl) (fun _ _ _ h => h) (Or.inl ⟨by rfl, ?_⟩) (by assumption) ?_
    rotate_left
    · (intro w hSw; (try dsimp only at hSw); go_simp; (try with_reducible rfl))
    (try simp only [Act.put, List.setIfInBounds_toArray, List.set_cons_zero, List.set_cons_succ])
    refine take_d (i := 9) (d := 20) (v := ?_) rfl rfl (by kernel_rfl) (by kernel_rfl) (by kernel_rfl) (fun _ _ _ h => h) (Or.inl ⟨by rfl, ?_⟩) (by assumption) ?_
    rotate_left
    · (intro w hSw; (try dsimp only at hSw); go_simp; (try with_reducible rfl))
    (try simp only [Act.put, List.setIfInBounds_toArray, List.set_cons_zero, List.set_cons_succ])
    refine take_d (i := 10) (d := 21) (v := ?_) rfl rfl (by kernel_rfl) (by kernel_rfl) (by kernel_rfl) (fun _ _ _ h => h) (Or.inl ⟨by rfl, ?_⟩) (by assumption) ?_
    rotate_left
    · (intro w hSw; (try dsimp only at hSw); go_simp; (try with_reducible rfl))
    (try simp only [Act.put, List.setIfInBounds_toArray, List.set_cons_zero, List.set_cons_succ])
    refine take_d (i := 11) (d := 22) (v := ?_) rfl rfl (by kernel_rfl) (by kernel_rfl) (by kernel_rfl) (fun _ _ _ h => h) (Or.inl ⟨by rfl, ?_⟩) (by assumption) ?_
    rotate_left
    · (intro w hSw; (try dsimp only at hSw); go_simp; (try with_reducible rfl))
    (try simp only [Act.put, List.setIfInBounds_toArray, List.set_cons_zero, List.set_cons_succ])
    refine take_d (i := 12) (d := 23) (v := ?_) rfl rfl (by kernel_rfl) (by kernel_rfl) (by kernel_rfl) (fun _ _ _ h => h) (Or.inl ⟨by rfl, ?_⟩) (by assumption) ?_
    rotate_left
    · (intro w hSw; (try dsimp only at hSw); go_simp; (try with_reducible rfl))
    (try simp only [Act.put, List.setIfInBounds_toArray, List.set_cons_zero, List.set_cons_succ])
    refine take_d (i := 13) (d := 24) (v := ?_) rfl rfl (by kernel_rfl) (by kernel_rfl) (by kernel_rfl) (fun _ _ _ h => h) (Or.inl ⟨by rfl, ?_⟩) (by assumption) ?_
    rotate_left
    · (intro w hSw; (try dsimp only at hSw); go_simp; (try with_reducible rfl))
    (try simp only [Act.put, List.setIfInBounds_toArray, List.set_cons_zero, List.set_cons_succ])
    refine take_d (i := 14) (d := 25) (v := ?_) rfl rfl (by kernel_rfl) (by kernel_rfl) (by kernel_rfl) (fun _ _ _ h => h) (Or.inl ⟨by rfl, ?_⟩) (by assumption) ?_
    rotate_left
    · (intro w hSw; (try dsimp only at hSw); go_simp; (try with_reducible rfl))
    (try simp only [Act.put, List.setIfInBounds_toArray, List.set_cons_zero, List.set_cons_succ])
    refine take_d (i := 15) (d := 26) (v := ?_) rfl rfl (by kernel_rfl) (by kernel_rfl) (by kernel_rfl) (fun _ _ _ h => h) (Or.inl ⟨by rfl, ?_⟩) (by assumption) ?_
    rotate_left
    · (intro w hSw; (try dsimp only at hSw); go_simp; (try with_reducible rfl))
    (try simp only [Act.put, List.setIfInBounds_toArray, List.set_cons_zero, List.set_cons_succ])
    refine take_d (i := 16) (d := 27) (v := ?_) rfl rfl (by kernel_rfl) (by kernel_rfl) (by kernel_rfl) (fun _ _ _ h => h) (Or.inl ⟨by rfl, ?_⟩) (by assumption) ?_
    rotate_left
    · (intro w hSw; (try dsimp only at hSw); go_simp; (try with_reducible rfl))
    (try simp only [Act.put, List.setIfInBounds_toArray, List.set_cons_zero, List.set_cons_succ])
    refine wpAnyH_ready (rs := [17]) (by kernel_rfl) (by simp) ?_
    refine AllReadyH.cons (o := _) rfl (fun K hK => ?_) AllReadyH.nil
    go_simp
    refine atK fun w1 hw1 => ?_
    have hx1 : Wb.Ext w w1 := by rw [hw1]; exact Wb.Ext.alloc (hxr.drew) _
    have HO1r := Lib.hid (show w1.ownsRow w.heap.size 66 4 _ _ _ by rw [hw1]; exact HOr.out.alloc _)
    obtain ⟨gx, gxe⟩ : ∃ g, wr.heap.size = g := ⟨_, rfl⟩
    have gxh : gx < w1.heap.size := by rw [hw1, ← gxe]; simp
    have HLx := Lib.hid (show Wb.SrcRow w1 4 (.slice (some ⟨gx, 0, none⟩) 1 1) 1 (rowsOf pcc [x]) by rw [hw1, ← gxe]; exact src_lit wr _ rfl (rowsOf pcc [x]) _ _)
    (try rw [gxe])
    have hk1 : Wb.Ext wr w1 := by rw [hw1]; exact Wb.Ext.alloc (.drew (.refl _)) _
    clear hw1 gxe
    have kp1 : ∀ {a : Nat} {j : Nat} {v : Value}, wr.cell? ⟨a, j, none⟩ = some v → w1.cell? ⟨a, j, none⟩ = some v := fun h => hk1.keep h
    refine hK.out _ _ ⟨kp1 c0, kp1 c1, kp1 c2, kp1 c3⟩ (fun hHeld => ?_)
    clear hK K
    (try simp only [List.setIfInBounds_toArray, List.set_cons_zero, List.set_cons_succ])
    refine wpAnyH_ready (rs := [18]) (by kernel_rfl) (by simp) ?_
    refine AllReadyH.cons (o := _) rfl (fun K hK => ?_) AllReadyH.nil
    obtain ⟨hi, hz0, hz1, hz2⟩ := HIN.out
    refine Wb.step_append_row (by rfl) _ _ _ (by rfl) w.heap.size 66 i0 (.agg #[.int .i64 0, .int .i64 0, .int .i64 0, .int .i64 0]) 4 32 Try.underlying37 hi hz0 hz1 hz2 (by rfl) (by decide) _ (k) ((rowsOf pcc (l.take k))) (by rfl) (HO1r.out) _ (by rfl) (1) (rowsOf pcc [x]) (HLx.out) (rpc_one9 _) (by unfold maxLen; omega) (by omega) (Below.size (show Wb.Ext w w1 from hx1)) ?_
    intro v2 w2 ho2 hg2 hat2
    obtain ⟨N2, hN2⟩ : ∃ n, n = k + (1) := ⟨_, rfl⟩
    rw [← hN2] at ho2
    have HN2 := Lib.hid hN2
    have hNb2 : N2 ≤ k + (1) := Nat.le_of_eq hN2
    clear hN2
    have HO2 := Lib.hid ho2
    have hx2 : Wb.Ext w w2 := Wb.Ext.grown hx1 hg2 (fun q hq => (HO1r.out.lt q hq).1)
    obtain ⟨ra2, rc2, rfl⟩ := row_shape ho2
    replace gxh : gx < w2.heap.size := Nat.lt_of_lt_of_le gxh hg2.size
    have kq : ∀ {j : Nat} {v : Value}, wr.cell? ⟨b, j, none⟩ = some v → w2.cell? ⟨b, j, none⟩ = some v := fun {j} {v} h => (World.grownBy.cell_far hg2 ⟨b, j, none⟩ (Wb.cell_size (kp1 h)) (by intro e; have hq := (HOr.out.lt _ e.symm).1; have := HBL.out; simp at hq; omega)).trans (kp1 h)
    clear hi hz0 hz1 hz2 ho2 hg2 hat2
    have kp2 : ∀ {j : Nat} {v : Value}, wr.cell? ⟨b, j, none⟩ = some v → w2.cell? ⟨b, j, none⟩ = some v := kq
    refine hK.out _ _ ⟨kp2 c0, kp2 c1, kp2 c2, kp2 c3⟩ (fun hHeld => ?_)
    clear hK K
    (try simp only [List.setIfInBounds_toArray, List.set_cons_zero, List.set_cons_succ])
    refine take_d (i := 19) (d := 3) (v := ?_) rfl rfl (by kernel_rfl) (by kernel_rfl) (by kernel_rfl) (fun _ _ _ h => h) (Or.inl ⟨by rfl, ?_⟩) (by assumption) ?_
    rotate_left
    · (intro w hSw; (try dsimp only at hSw); go_simp; (try with_reducible rfl))
    (try simp only [Act.put, List.setIfInBounds_toArray, List.set_cons_zero, List.set_cons_succ])
    refine wpAnyH_done (by kernel_rfl) ?_ _
    have hN : N2 = k + 1 := HN2.out
    rw [hN]
    have HOF := Lib.hid (show w2.ownsRow w.heap.size 66 4 (.slice ra2 (k + 1) rc2) (k + 1) (rowsOf pcc (l.take (k + 1))) by
      have := HO2.out
      rw [hN] at this
      rw [HTA.out, rowsOf_app]
      exact this)
    have HXF := Lib.hid hx2
    clear hN
    go_wp2
    go_roundw
    case rel => exact ⟨k + 1, by omega, by go_num, HOF, HXF.out⟩
    case measure => first | (simp [intOf]; done) | (simp [intOf]; omega)

end Go.Proofs.Ytheofklbmknipaa
