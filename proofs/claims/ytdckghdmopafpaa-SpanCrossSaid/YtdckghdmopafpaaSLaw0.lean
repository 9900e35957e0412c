/- The example of chapter 05's laws. -/
import Derived.Test.YtdckghdmopafpaaRSpn8
import Derived.Deep.DeepCutAuto
namespace Go.Proofs.Ytdckghdmopafpaa
open Go.RowKit Go.Lib
set_option maxRecDepth 8000
attribute [local go_sem ↓] Go.wp_at_zero Go.wp_at_succ

set_option maxHeartbeats 8000000 in
theorem awake_any (w : World) : Calls Try.prog 11 #[] w fun e w' => e = .returned (.bool true) ∧ Wb.Ext w w' := by
  have q : ∀ (w : World) (a b c d : Int), (binOp .eql 24 (.agg #[.int .i64 a, .int .i64 b]) (.agg #[.int .i64 c, .int .i64 d])).run Try.prog w = .ok (.bool (a == c && b == d)) w := by
    intro w a b c d
    go_simp
    by_cases h1 : a = c <;> by_cases h2 : b = d <;> simp [h1, h2]
  go_enter Try.func11, Try.ntmps11
  go_wp2_with fail
  go_fit (of_any _ [(1, 3), (3, 5), (9, 9), (7, 8)] _ (spl_at (g := w.heap.size) _ (by
    intro j u hj
    match j, hj with
    | 0, hj | 1, hj | 2, hj | 3, hj | 4, hj | 5, hj | 6, hj | 7, hj => simp [rowsOf, spc] at hj; subst hj; simp [go_sem]
    | j + 8, hj => simp [rowsOf, spc] at hj)) (bd_lits (by simp)) (by simp)); rintro e w1 ⟨v1, s, rfl, hs, hp, hb1⟩
  have hsr := awake_s hs
  subst hsr
  obtain ⟨sa, sc, rfl⟩ := hp.1.shape
  have HS := Lib.hid hs
  have HP := Lib.hid hp
  have hx1 : Wb.Ext w w1 := Wb.Ext.trans (by (repeat' (first | (with_reducible assumption) | (with_reducible exact Wb.Ext.refl _) | (with_reducible refine Wb.Ext.drew ?_) | (with_reducible refine Wb.Ext.drewN ?_ _) | (with_reducible refine Wb.Ext.alloc ?_ _) | (with_reducible refine Wb.Ext.trans ?_ (by assumption))))) hb1
  clear hs hp hb1
  go_wp2_with fail
  go_fit (all_any _ [(1, 5), (7, 8)] _ (HP.out.ext (by (repeat' (first | (with_reducible assumption) | (with_reducible exact Wb.Ext.refl _) | (with_reducible refine Wb.Ext.drew ?_) | (with_reducible refine Wb.Ext.drewN ?_ _) | (with_reducible refine Wb.Ext.alloc ?_ _) | (with_reducible refine Wb.Ext.trans ?_ (by assumption)))))) (by simp)); rintro e w2 ⟨v2, rfl, hp2, hb2⟩
  have hx12 : Wb.Ext w1 w2 := Wb.Ext.trans (by (repeat' (first | (with_reducible assumption) | (with_reducible exact Wb.Ext.refl _) | (with_reducible refine Wb.Ext.drew ?_) | (with_reducible refine Wb.Ext.drewN ?_ _) | (with_reducible refine Wb.Ext.alloc ?_ _) | (with_reducible refine Wb.Ext.trans ?_ (by assumption))))) hb2
  have z0 : w2.cell? ⟨w1.heap.size, 0, none⟩ = some (.slice sa 2 sc) := hb2.keep (by simp [go_sem])
  obtain ⟨la, lc, rfl⟩ := hp2.1.shape
  obtain ⟨lb, lo, rfl, hcells⟩ := hp2.1.opened (by simp)
  have l0 := hcells 0 (1, 5) rfl 0 _ rfl
  have l1 := hcells 0 (1, 5) rfl 1 _ rfl
  simp only [Nat.zero_mul, Nat.add_zero] at l0 l1
  replace HP := Lib.hid (HP.out.ext hx12)
  have hx2 := hx1.trans hx12
  clear hb2 hx12 hx1 hp2 hcells
  go_upto_region 3 with (fail)
  refine Wb.wp_at fun W0 hW0 => ?_
  have hx : Wb.Ext w2 W0 := by rw [hW0]; (repeat' (first | (with_reducible assumption) | (with_reducible exact Wb.Ext.refl _) | (with_reducible refine Wb.Ext.drew ?_) | (with_reducible refine Wb.Ext.drewN ?_ _) | (with_reducible refine Wb.Ext.alloc ?_ _) | (with_reducible refine Wb.Ext.trans ?_ (by assumption))))
  have hxW := hx2.trans hx
  have z0 := hx.keep z0
  have l0 := hx.keep l0
  have l1 := hx.keep l1
  replace HP := Lib.hid (HP.out.ext hx)
  clear hW0 hx hx2
  go_cut [3] (fun s3 wx => ∃ B ta tc, s3 = .pointer (some ⟨B, 0, none⟩) ∧ wx.cell? ⟨B, 0, none⟩ = some (.slice ta 3 tc) ∧ SpL wx (.slice ta 3 tc) [(1, 2), (4, 5), (7, 8)] ∧ Wb.Ext W0 wx)
  case first =>
    refine wp_region_held_drew (S := (fun w' => w'.cell? ⟨w1.heap.size, 0, none⟩ = some (.slice sa 2 sc))) (by kernel_rfl) z0 (fun hHeld => ?_)
    refine take_d (i := 0) (d := 13) (v := ?_) rfl rfl (by kernel_rfl) (by kernel_rfl) (by kernel_rfl) (fun _ _ _ h => h) (Or.inl ⟨by rfl, ?_⟩) (by assumption) ?_
    rotate_left
    · (intro w hSw; (try dsimp only at hSw); go_simp; (try with_reducible rfl))
    (try simp only [Act.put, List.setIfInBounds_toArray, List.set_cons_zero, List.set_cons_succ])
    refine take_d (i := 1) (d := 14) (v := ?_) rfl rfl (by kernel_rfl) (by kernel_rfl) (by kernel_rfl) (fun _ _ _ h => h) (Or.inl ⟨by rfl, ?_⟩) (by assumption) ?_
    rotate_left
    · (intro w hSw; (try dsimp only at hSw); go_simp; (try with_reducible rfl))
    (try simp only [Act.put, List.setIfInBounds_toArray, List.set_cons_zero, List.set_cons_succ])
    refine wpAnyH_ready (rs := [2, 5]) (by kernel_rfl) (by simp) ?_
    refine AllReadyH.cons (o := _) rfl (fun K hK => ?_) ?_
    · go_simp
      refine atK fun w11 hw11 => ?_
      have hb11 : Wb.Ext W0 w11 := by rw [hw11]; (repeat' (first | (with_reducible assumption) | (with_reducible exact Wb.Ext.refl _) | (with_reducible refine Wb.Ext.drew ?_) | (with_reducible refine Wb.Ext.drewN ?_ _) | (with_reducible refine Wb.Ext.alloc ?_ _) | (with_reducible refine Wb.Ext.trans ?_ (by assumption))))
      have HP11 := Lib.hid (show SpL w11 (.slice (some ⟨W0.heap.size, 0, none⟩) 1 1) [(2, 4)] by rw [hw11]; exact spl_cells (2, 4) (by simp [go_sem]) (by simp [go_sem]))
      clear hw11
      replace hb11 : Wb.Ext W0 w11 := Wb.Ext.trans (by (repeat' (first | (with_reducible assumption) | (with_reducible exact Wb.Ext.refl _) | (with_reducible refine Wb.Ext.drew ?_) | (with_reducible refine Wb.Ext.drewN ?_ _) | (with_reducible refine Wb.Ext.alloc ?_ _) | (with_reducible refine Wb.Ext.trans ?_ (by assumption))))) hb11
      have hx11 : Wb.Ext W0 w11 := Wb.Ext.trans (by (repeat' (first | (with_reducible assumption) | (with_reducible exact Wb.Ext.refl _) | (with_reducible refine Wb.Ext.drew ?_) | (with_reducible refine Wb.Ext.drewN ?_ _) | (with_reducible refine Wb.Ext.alloc ?_ _) | (with_reducible refine Wb.Ext.trans ?_ (by assumption))))) hb11
      clear hb11
      refine hK.out _ _ (Wb.Ext.keep (w := W0) (by (repeat' (first | (with_reducible assumption) | (with_reducible exact Wb.Ext.refl _) | (with_reducible refine Wb.Ext.drew ?_) | (with_reducible refine Wb.Ext.drewN ?_ _) | (with_reducible refine Wb.Ext.alloc ?_ _) | (with_reducible refine Wb.Ext.trans ?_ (by assumption))))) z0) (fun hHeld => ?_)
      clear hK K
      (try simp only [Act.put, List.setIfInBounds_toArray, List.set_cons_zero, List.set_cons_succ])
      refine wpAnyH_ready (rs := [3, 5]) (by kernel_rfl) (by simp) ?_
      refine AllReadyH.cons (o := _) rfl (fun K hK => ?_) ?_
      · go_simp
        go_at_call 14
        go_fit (of_any _ [(2, 4)] _ (HP11.out.ext (by (repeat' (first | (with_reducible assumption) | (with_reducible exact Wb.Ext.refl _) | (with_reducible refine Wb.Ext.drew ?_) | (with_reducible refine Wb.Ext.drewN ?_ _) | (with_reducible refine Wb.Ext.alloc ?_ _) | (with_reducible refine Wb.Ext.trans ?_ (by assumption)))))) (bd_lits (by simp)) (by simp))
        rintro e w12 ⟨v12, r12, rfl, hs12, hp12, hb12⟩
        obtain ⟨sa12, sc12, rfl⟩ := hp12.1.shape
        have HS12 := Lib.hid hs12
        have hl12 : r12.length ≤ 1 := by have := hs12.len; simp only [List.length_cons, List.length_nil] at this; omega
        have HE12 := Lib.hid (has_of hs12)
        replace hb12 : Wb.Ext w11 w12 := Wb.Ext.trans (by (repeat' (first | (with_reducible assumption) | (with_reducible exact Wb.Ext.refl _) | (with_reducible refine Wb.Ext.drew ?_) | (with_reducible refine Wb.Ext.drewN ?_ _) | (with_reducible refine Wb.Ext.alloc ?_ _) | (with_reducible refine Wb.Ext.trans ?_ (by assumption))))) hb12
        replace HP11 := Lib.hid (HP11.out.ext hb12)
        have hx12 : Wb.Ext W0 w12 := Wb.Ext.trans (by (repeat' (first | (with_reducible assumption) | (with_reducible exact Wb.Ext.refl _) | (with_reducible refine Wb.Ext.drew ?_) | (with_reducible refine Wb.Ext.drewN ?_ _) | (with_reducible refine Wb.Ext.alloc ?_ _) | (with_reducible refine Wb.Ext.trans ?_ (by assumption))))) hb12
        clear hb12
        have HP12 := Lib.hid hp12
        clear hs12 hp12
        refine hK.out _ _ (Wb.Ext.keep (w := W0) (by (repeat' (first | (with_reducible assumption) | (with_reducible exact Wb.Ext.refl _) | (with_reducible refine Wb.Ext.drew ?_) | (with_reducible refine Wb.Ext.drewN ?_ _) | (with_reducible refine Wb.Ext.alloc ?_ _) | (with_reducible refine Wb.Ext.trans ?_ (by assumption))))) z0) (fun hHeld => ?_)
        clear hK K
        (try simp only [Act.put, List.setIfInBounds_toArray, List.set_cons_zero, List.set_cons_succ])
        refine wpAnyH_ready (rs := [4, 5]) (by kernel_rfl) (by simp) ?_
        refine AllReadyH.cons (o := _) rfl (fun K hK => ?_) ?_
        · go_simp
          go_at_call 21
          go_fit (minus_any _ _ [(1, 5), (7, 8)] r12 _ (HP.out.ext (by (repeat' (first | (with_reducible assumption) | (with_reducible exact Wb.Ext.refl _) | (with_reducible refine Wb.Ext.drew ?_) | (with_reducible refine Wb.Ext.drewN ?_ _) | (with_reducible refine Wb.Ext.alloc ?_ _) | (with_reducible refine Wb.Ext.trans ?_ (by assumption)))))) (HP12.out.ext (by (repeat' (first | (with_reducible assumption) | (with_reducible exact Wb.Ext.refl _) | (with_reducible refine Wb.Ext.drew ?_) | (with_reducible refine Wb.Ext.drewN ?_ _) | (with_reducible refine Wb.Ext.alloc ?_ _) | (with_reducible refine Wb.Ext.trans ?_ (by assumption)))))) HS.out.canon HS12.out.canon HS.out.bd HS12.out.bd (by simp) (by omega))
          rintro e w13 ⟨v13, r13, rfl, hs13, hp13, hb13⟩
          have hr13 := awake_t HS.out HS12.out hs13
          subst hr13
          obtain ⟨ta, tc, rfl⟩ := hp13.1.shape
          have HT := Lib.hid hs13
          replace hb13 : Wb.Ext w12 w13 := Wb.Ext.trans (by (repeat' (first | (with_reducible assumption) | (with_reducible exact Wb.Ext.refl _) | (with_reducible refine Wb.Ext.drew ?_) | (with_reducible refine Wb.Ext.drewN ?_ _) | (with_reducible refine Wb.Ext.alloc ?_ _) | (with_reducible refine Wb.Ext.trans ?_ (by assumption))))) hb13
          have hx13 : Wb.Ext W0 w13 := Wb.Ext.trans (by (repeat' (first | (with_reducible assumption) | (with_reducible exact Wb.Ext.refl _) | (with_reducible refine Wb.Ext.drew ?_) | (with_reducible refine Wb.Ext.drewN ?_ _) | (with_reducible refine Wb.Ext.alloc ?_ _) | (with_reducible refine Wb.Ext.trans ?_ (by assumption))))) hb13
          clear hb13
          have HTP := Lib.hid hp13
          clear hs13 hp13
          refine hK.out _ _ (Wb.Ext.keep (w := W0) (by (repeat' (first | (with_reducible assumption) | (with_reducible exact Wb.Ext.refl _) | (with_reducible refine Wb.Ext.drew ?_) | (with_reducible refine Wb.Ext.drewN ?_ _) | (with_reducible refine Wb.Ext.alloc ?_ _) | (with_reducible refine Wb.Ext.trans ?_ (by assumption))))) z0) (fun hHeld => ?_)
          clear hK K
          (try simp only [Act.put, List.setIfInBounds_toArray, List.set_cons_zero, List.set_cons_succ])
          refine wpAnyH_ready (rs := [5]) (by kernel_rfl) (by simp) ?_
          refine AllReadyH.cons (o := _) rfl (fun K hK => ?_) ?_
          · go_simp
            refine atK fun w14 hw14 => ?_
            have hb14 : Wb.Ext w13 w14 := by rw [hw14]; (repeat' (first | (with_reducible assumption) | (with_reducible exact Wb.Ext.refl _) | (with_reducible refine Wb.Ext.drew ?_) | (with_reducible refine Wb.Ext.drewN ?_ _) | (with_reducible refine Wb.Ext.alloc ?_ _) | (with_reducible refine Wb.Ext.trans ?_ (by assumption))))
            replace hb14 : Wb.Ext w13 w14 := Wb.Ext.trans (by (repeat' (first | (with_reducible assumption) | (with_reducible exact Wb.Ext.refl _) | (with_reducible refine Wb.Ext.drew ?_) | (with_reducible refine Wb.Ext.drewN ?_ _) | (with_reducible refine Wb.Ext.alloc ?_ _) | (with_reducible refine Wb.Ext.trans ?_ (by assumption))))) hb14
            replace HTP := Lib.hid (HTP.out.ext hb14)
            have hx14 : Wb.Ext W0 w14 := Wb.Ext.trans (by (repeat' (first | (with_reducible assumption) | (with_reducible exact Wb.Ext.refl _) | (with_reducible refine Wb.Ext.drew ?_) | (with_reducible refine Wb.Ext.drewN ?_ _) | (with_reducible refine Wb.Ext.alloc ?_ _) | (with_reducible refine Wb.Ext.trans ?_ (by assumption))))) hb14
            have yt : w14.cell? ⟨w13.heap.size, 0, none⟩ = some (.slice none 0 0) := by rw [hw14]; simp [go_sem]
            have yft : w14.frozen? ⟨w13.heap.size, 0, none⟩ = false := by rw [hw14]; simp [go_sem]
            have ybt : W0.heap.size ≤ w13.heap.size ∧ w13.heap.size < w14.heap.size := ⟨(show Wb.Ext W0 w13 by (repeat' (first | (with_reducible assumption) | (with_reducible exact Wb.Ext.refl _) | (with_reducible refine Wb.Ext.drew ?_) | (with_reducible refine Wb.Ext.drewN ?_ _) | (with_reducible refine Wb.Ext.alloc ?_ _) | (with_reducible refine Wb.Ext.trans ?_ (by assumption))))).size, by rw [hw14]; simp⟩
            clear hw14 hb14
            refine hK.out _ _ (Wb.Ext.keep (w := W0) (by (repeat' (first | (with_reducible assumption) | (with_reducible exact Wb.Ext.refl _) | (with_reducible refine Wb.Ext.drew ?_) | (with_reducible refine Wb.Ext.drewN ?_ _) | (with_reducible refine Wb.Ext.alloc ?_ _) | (with_reducible refine Wb.Ext.trans ?_ (by assumption))))) z0) (fun hHeld => ?_)
            clear hK K
            (try simp only [Act.put, List.setIfInBounds_toArray, List.set_cons_zero, List.set_cons_succ])
            refine wpAnyH_ready (rs := [6]) (by kernel_rfl) (by simp) ?_
            refine AllReadyH.cons (o := _) rfl (fun K hK => ?_) ?_
            · go_simp
              refine atK fun w15 hw15 => ?_
              have hx15 : Wb.Ext W0 w15 := by rw [hw15]; exact Wb.ext_set (by (repeat' (first | (with_reducible assumption) | (with_reducible exact Wb.Ext.refl _) | (with_reducible refine Wb.Ext.drew ?_) | (with_reducible refine Wb.Ext.drewN ?_ _) | (with_reducible refine Wb.Ext.alloc ?_ _) | (with_reducible refine Wb.Ext.trans ?_ (by assumption))))) ybt.1 _
              replace HTP := Lib.hid (show SpL w15 _ [(1, 2), (4, 5), (7, 8)] by rw [hw15]; exact HTP.out.set yt _)
              have Yt : w15.cell? ⟨w13.heap.size, 0, none⟩ = some (.slice ta 3 tc) := by rw [hw15]; simp [go_sem, yt]
              clear hw15
              refine hK.out _ _ (Wb.Ext.keep (w := W0) (by (repeat' (first | (with_reducible assumption) | (with_reducible exact Wb.Ext.refl _) | (with_reducible refine Wb.Ext.drew ?_) | (with_reducible refine Wb.Ext.drewN ?_ _) | (with_reducible refine Wb.Ext.alloc ?_ _) | (with_reducible refine Wb.Ext.trans ?_ (by assumption))))) z0) (fun hHeld => ?_)
              clear hK K
              (try simp only [Act.put, List.setIfInBounds_toArray, List.set_cons_zero, List.set_cons_succ])
              refine wpAnyH_done (by kernel_rfl) ?_ _
              go_wp2_with fail
              go_meet
              exact ⟨w13.heap.size, ta, tc, rfl, Yt, HTP.out, (show Wb.Ext W0 w15 by (repeat' (first | (with_reducible assumption) | (with_reducible exact Wb.Ext.refl _) | (with_reducible refine Wb.Ext.drew ?_) | (with_reducible refine Wb.Ext.drewN ?_ _) | (with_reducible refine Wb.Ext.alloc ?_ _) | (with_reducible refine Wb.Ext.trans ?_ (by assumption)))))⟩
            exact AllReadyH.nil
          exact AllReadyH.nil
        refine AllReadyH.cons (o := _) rfl (fun K hK => ?_) ?_
        · go_simp
          refine atK fun w13 hw13 => ?_
          have hb13 : Wb.Ext w12 w13 := by rw [hw13]; (repeat' (first | (with_reducible assumption) | (with_reducible exact Wb.Ext.refl _) | (with_reducible refine Wb.Ext.drew ?_) | (with_reducible refine Wb.Ext.drewN ?_ _) | (with_reducible refine Wb.Ext.alloc ?_ _) | (with_reducible refine Wb.Ext.trans ?_ (by assumption))))
          replace hb13 : Wb.Ext w12 w13 := Wb.Ext.trans (by (repeat' (first | (with_reducible assumption) | (with_reducible exact Wb.Ext.refl _) | (with_reducible refine Wb.Ext.drew ?_) | (with_reducible refine Wb.Ext.drewN ?_ _) | (with_reducible refine Wb.Ext.alloc ?_ _) | (with_reducible refine Wb.Ext.trans ?_ (by assumption))))) hb13
          replace HP11 := Lib.hid (HP11.out.ext hb13)
          replace HP12 := Lib.hid (HP12.out.ext hb13)
          have hx13 : Wb.Ext W0 w13 := Wb.Ext.trans (by (repeat' (first | (with_reducible assumption) | (with_reducible exact Wb.Ext.refl _) | (with_reducible refine Wb.Ext.drew ?_) | (with_reducible refine Wb.Ext.drewN ?_ _) | (with_reducible refine Wb.Ext.alloc ?_ _) | (with_reducible refine Wb.Ext.trans ?_ (by assumption))))) hb13
          have yt : w13.cell? ⟨w12.heap.size, 0, none⟩ = some (.slice none 0 0) := by rw [hw13]; simp [go_sem]
          have yft : w13.frozen? ⟨w12.heap.size, 0, none⟩ = false := by rw [hw13]; simp [go_sem]
          have ybt : W0.heap.size ≤ w12.heap.size ∧ w12.heap.size < w13.heap.size := ⟨(show Wb.Ext W0 w12 by (repeat' (first | (with_reducible assumption) | (with_reducible exact Wb.Ext.refl _) | (with_reducible refine Wb.Ext.drew ?_) | (with_reducible refine Wb.Ext.drewN ?_ _) | (with_reducible refine Wb.Ext.alloc ?_ _) | (with_reducible refine Wb.Ext.trans ?_ (by assumption))))).size, by rw [hw13]; simp⟩
          clear hw13 hb13
          refine hK.out _ _ (Wb.Ext.keep (w := W0) (by (repeat' (first | (with_reducible assumption) | (with_reducible exact Wb.Ext.refl _) | (with_reducible refine Wb.Ext.drew ?_) | (with_reducible refine Wb.Ext.drewN ?_ _) | (with_reducible refine Wb.Ext.alloc ?_ _) | (with_reducible refine Wb.Ext.trans ?_ (by assumption))))) z0) (fun hHeld => ?_)
          clear hK K
          (try simp only [Act.put, List.setIfInBounds_toArray, List.set_cons_zero, List.set_cons_succ])
          refine wpAnyH_ready (rs := [4]) (by kernel_rfl) (by simp) ?_
          refine AllReadyH.cons (o := _) rfl (fun K hK => ?_) ?_
          · go_simp
            go_at_call 21
            go_fit (minus_any _ _ [(1, 5), (7, 8)] r12 _ (HP.out.ext (by (repeat' (first | (with_reducible assumption) | (with_reducible exact Wb.Ext.refl _) | (with_reducible refine Wb.Ext.drew ?_) | (with_reducible refine Wb.Ext.drewN ?_ _) | (with_reducible refine Wb.Ext.alloc ?_ _) | (with_reducible refine Wb.Ext.trans ?_ (by assumption)))))) (HP12.out.ext (by (repeat' (first | (with_reducible assumption) | (with_reducible exact Wb.Ext.refl _) | (with_reducible refine Wb.Ext.drew ?_) | (with_reducible refine Wb.Ext.drewN ?_ _) | (with_reducible refine Wb.Ext.alloc ?_ _) | (with_reducible refine Wb.Ext.trans ?_ (by assumption)))))) HS.out.canon HS12.out.canon HS.out.bd HS12.out.bd (by simp) (by omega))
            rintro e w14 ⟨v14, r14, rfl, hs14, hp14, hb14⟩
            have hr14 := awake_t HS.out HS12.out hs14
            subst hr14
            obtain ⟨ta, tc, rfl⟩ := hp14.1.shape
            have HT := Lib.hid hs14
            replace hb14 : Wb.Ext w13 w14 := Wb.Ext.trans (by (repeat' (first | (with_reducible assumption) | (with_reducible exact Wb.Ext.refl _) | (with_reducible refine Wb.Ext.drew ?_) | (with_reducible refine Wb.Ext.drewN ?_ _) | (with_reducible refine Wb.Ext.alloc ?_ _) | (with_reducible refine Wb.Ext.trans ?_ (by assumption))))) hb14
            have yft := (Below.frozen hb14 ybt.2).trans yft
            have yt := hb14.keep yt
            have ybt := And.intro ybt.1 (Nat.lt_of_lt_of_le ybt.2 hb14.size)
            have hx14 : Wb.Ext W0 w14 := Wb.Ext.trans (by (repeat' (first | (with_reducible assumption) | (with_reducible exact Wb.Ext.refl _) | (with_reducible refine Wb.Ext.drew ?_) | (with_reducible refine Wb.Ext.drewN ?_ _) | (with_reducible refine Wb.Ext.alloc ?_ _) | (with_reducible refine Wb.Ext.trans ?_ (by assumption))))) hb14
            clear hb14
            have HTP := Lib.hid hp14
            clear hs14 hp14
            refine hK.out _ _ (Wb.Ext.keep (w := W0) (by (repeat' (first | (with_reducible assumption) | (with_reducible exact Wb.Ext.refl _) | (with_reducible refine Wb.Ext.drew ?_) | (with_reducible refine Wb.Ext.drewN ?_ _) | (with_reducible refine Wb.Ext.alloc ?_ _) | (with_reducible refine Wb.Ext.trans ?_ (by assumption))))) z0) (fun hHeld => ?_)
            clear hK K
            (try simp only [Act.put, List.setIfInBounds_toArray, List.set_cons_zero, List.set_cons_succ])
            refine wpAnyH_ready (rs := [6]) (by kernel_rfl) (by simp) ?_
            refine AllReadyH.cons (o := _) rfl (fun K hK => ?_) ?_
            · go_simp
              refine atK fun w15 hw15 => ?_
              have hx15 : Wb.Ext W0 w15 := by rw [hw15]; exact Wb.ext_set (by (repeat' (first | (with_reducible assumption) | (with_reducible exact Wb.Ext.refl _) | (with_reducible refine Wb.Ext.drew ?_) | (with_reducible refine Wb.Ext.drewN ?_ _) | (with_reducible refine Wb.Ext.alloc ?_ _) | (with_reducible refine Wb.Ext.trans ?_ (by assumption))))) ybt.1 _
              replace HTP := Lib.hid (show SpL w15 _ [(1, 2), (4, 5), (7, 8)] by rw [hw15]; exact HTP.out.set yt _)
              have Yt : w15.cell? ⟨w12.heap.size, 0, none⟩ = some (.slice ta 3 tc) := by rw [hw15]; simp [go_sem, yt]
              clear hw15
              refine hK.out _ _ (Wb.Ext.keep (w := W0) (by (repeat' (first | (with_reducible assumption) | (with_reducible exact Wb.Ext.refl _) | (with_reducible refine Wb.Ext.drew ?_) | (with_reducible refine Wb.Ext.drewN ?_ _) | (with_reducible refine Wb.Ext.alloc ?_ _) | (with_reducible refine Wb.Ext.trans ?_ (by assumption))))) z0) (fun hHeld => ?_)
              clear hK K
              (try simp only [Act.put, List.setIfInBounds_toArray, List.set_cons_zero, List.set_cons_succ])
              refine wpAnyH_done (by kernel_rfl) ?_ _
              go_wp2_with fail
              go_meet
              exact ⟨w12.heap.size, ta, tc, rfl, Yt, HTP.out, (show Wb.Ext W0 w15 by (repeat' (first | (with_reducible assumption) | (with_reducible exact Wb.Ext.refl _) | (with_reducible refine Wb.Ext.drew ?_) | (with_reducible refine Wb.Ext.drewN ?_ _) | (with_reducible refine Wb.Ext.alloc ?_ _) | (with_reducible refine Wb.Ext.trans ?_ (by assumption)))))⟩
            exact AllReadyH.nil
          exact AllReadyH.nil
        exact AllReadyH.nil
      refine AllReadyH.cons (o := _) rfl (fun K hK => ?_) ?_
      · go_simp
        refine atK fun w12 hw12 => ?_
        have hb12 : Wb.Ext w11 w12 := by rw [hw12]; (repeat' (first | (with_reducible assumption) | (with_reducible exact Wb.Ext.refl _) | (with_reducible refine Wb.Ext.drew ?_) | (with_reducible refine Wb.Ext.drewN ?_ _) | (with_reducible refine Wb.Ext.alloc ?_ _) | (with_reducible refine Wb.Ext.trans ?_ (by assumption))))
        replace hb12 : Wb.Ext w11 w12 := Wb.Ext.trans (by (repeat' (first | (with_reducible assumption) | (with_reducible exact Wb.Ext.refl _) | (with_reducible refine Wb.Ext.drew ?_) | (with_reducible refine Wb.Ext.drewN ?_ _) | (with_reducible refine Wb.Ext.alloc ?_ _) | (with_reducible refine Wb.Ext.trans ?_ (by assumption))))) hb12
        replace HP11 := Lib.hid (HP11.out.ext hb12)
        have hx12 : Wb.Ext W0 w12 := Wb.Ext.trans (by (repeat' (first | (with_reducible assumption) | (with_reducible exact Wb.Ext.refl _) | (with_reducible refine Wb.Ext.drew ?_) | (with_reducible refine Wb.Ext.drewN ?_ _) | (with_reducible refine Wb.Ext.alloc ?_ _) | (with_reducible refine Wb.Ext.trans ?_ (by assumption))))) hb12
        have yt : w12.cell? ⟨w11.heap.size, 0, none⟩ = some (.slice none 0 0) := by rw [hw12]; simp [go_sem]
        have yft : w12.frozen? ⟨w11.heap.size, 0, none⟩ = false := by rw [hw12]; simp [go_sem]
        have ybt : W0.heap.size ≤ w11.heap.size ∧ w11.heap.size < w12.heap.size := ⟨(show Wb.Ext W0 w11 by (repeat' (first | (with_reducible assumption) | (with_reducible exact Wb.Ext.refl _) | (with_reducible refine Wb.Ext.drew ?_) | (with_reducible refine Wb.Ext.drewN ?_ _) | (with_reducible refine Wb.Ext.alloc ?_ _) | (with_reducible refine Wb.Ext.trans ?_ (by assumption))))).size, by rw [hw12]; simp⟩
        clear hw12 hb12
        refine hK.out _ _ (Wb.Ext.keep (w := W0) (by (repeat' (first | (with_reducible assumption) | (with_reducible exact Wb.Ext.refl _) | (with_reducible refine Wb.Ext.drew ?_) | (with_reducible refine Wb.Ext.drewN ?_ _) | (with_reducible refine Wb.Ext.alloc ?_ _) | (with_reducible refine Wb.Ext.trans ?_ (by assumption))))) z0) (fun hHeld => ?_)
        clear hK K
        (try simp only [Act.put, List.setIfInBounds_toArray, List.set_cons_zero, List.set_cons_succ])
        refine wpAnyH_ready (rs := [3]) (by kernel_rfl) (by simp) ?_
        refine AllReadyH.cons (o := _) rfl (fun K hK => ?_) ?_
        · go_simp
          go_at_call 14
          go_fit (of_any _ [(2, 4)] _ (HP11.out.ext (by (repeat' (first | (with_reducible assumption) | (with_reducible exact Wb.Ext.refl _) | (with_reducible refine Wb.Ext.drew ?_) | (with_reducible refine Wb.Ext.drewN ?_ _) | (with_reducible refine Wb.Ext.alloc ?_ _) | (with_reducible refine Wb.Ext.trans ?_ (by assumption)))))) (bd_lits (by simp)) (by simp))
          rintro e w13 ⟨v13, r13, rfl, hs13, hp13, hb13⟩
          obtain ⟨sa13, sc13, rfl⟩ := hp13.1.shape
          have HS13 := Lib.hid hs13
          have hl13 : r13.length ≤ 1 := by have := hs13.len; simp only [List.length_cons, List.length_nil] at this; omega
          have HE13 := Lib.hid (has_of hs13)
          replace hb13 : Wb.Ext w12 w13 := Wb.Ext.trans (by (repeat' (first | (with_reducible assumption) | (with_reducible exact Wb.Ext.refl _) | (with_reducible refine Wb.Ext.drew ?_) | (with_reducible refine Wb.Ext.drewN ?_ _) | (with_reducible refine Wb.Ext.alloc ?_ _) | (with_reducible refine Wb.Ext.trans ?_ (by assumption))))) hb13
          replace HP11 := Lib.hid (HP11.out.ext hb13)
          have yft := (Below.frozen hb13 ybt.2).trans yft
          have yt := hb13.keep yt
          have ybt := And.intro ybt.1 (Nat.lt_of_lt_of_le ybt.2 hb13.size)
          have hx13 : Wb.Ext W0 w13 := Wb.Ext.trans (by (repeat' (first | (with_reducible assumption) | (with_reducible exact Wb.Ext.refl _) | (with_reducible refine Wb.Ext.drew ?_) | (with_reducible refine Wb.Ext.drewN ?_ _) | (with_reducible refine Wb.Ext.alloc ?_ _) | (with_reducible refine Wb.Ext.trans ?_ (by assumption))))) hb13
          clear hb13
          have HP13 := Lib.hid hp13
          clear hs13 hp13
          refine hK.out _ _ (Wb.Ext.keep (w := W0) (by (repeat' (first | (with_reducible assumption) | (with_reducible exact Wb.Ext.refl _) | (with_reducible refine Wb.Ext.drew ?_) | (with_reducible refine Wb.Ext.drewN ?_ _) | (with_reducible refine Wb.Ext.alloc ?_ _) | (with_reducible refine Wb.Ext.trans ?_ (by assumption))))) z0) (fun hHeld => ?_)
          clear hK K
          (try simp only [Act.put, List.setIfInBounds_toArray, List.set_cons_zero, List.set_cons_succ])
          refine wpAnyH_ready (rs := [4]) (by kernel_rfl) (by simp) ?_
          refine AllReadyH.cons (o := _) rfl (fun K hK => ?_) ?_
          · go_simp
            go_at_call 21
            go_fit (minus_any _ _ [(1, 5), (7, 8)] r13 _ (HP.out.ext (by (repeat' (first | (with_reducible assumption) | (with_reducible exact Wb.Ext.refl _) | (with_reducible refine Wb.Ext.drew ?_) | (with_reducible refine Wb.Ext.drewN ?_ _) | (with_reducible refine Wb.Ext.alloc ?_ _) | (with_reducible refine Wb.Ext.trans ?_ (by assumption)))))) (HP13.out.ext (by (repeat' (first | (with_reducible assumption) | (with_reducible exact Wb.Ext.refl _) | (with_reducible refine Wb.Ext.drew ?_) | (with_reducible refine Wb.Ext.drewN ?_ _) | (with_reducible refine Wb.Ext.alloc ?_ _) | (with_reducible refine Wb.Ext.trans ?_ (by assumption)))))) HS.out.canon HS13.out.canon HS.out.bd HS13.out.bd (by simp) (by omega))
            rintro e w14 ⟨v14, r14, rfl, hs14, hp14, hb14⟩
            have hr14 := awake_t HS.out HS13.out hs14
            subst hr14
            obtain ⟨ta, tc, rfl⟩ := hp14.1.shape
            have HT := Lib.hid hs14
            replace hb14 : Wb.Ext w13 w14 := Wb.Ext.trans (by (repeat' (first | (with_reducible assumption) | (with_reducible exact Wb.Ext.refl _) | (with_reducible refine Wb.Ext.drew ?_) | (with_reducible refine Wb.Ext.drewN ?_ _) | (with_reducible refine Wb.Ext.alloc ?_ _) | (with_reducible refine Wb.Ext.trans ?_ (by assumption))))) hb14
            have yft := (Below.frozen hb14 ybt.2).trans yft
            have yt := hb14.keep yt
            have ybt := And.intro ybt.1 (Nat.lt_of_lt_of_le ybt.2 hb14.size)
            have hx14 : Wb.Ext W0 w14 := Wb.Ext.trans (by (repeat' (first | (with_reducible assumption) | (with_reducible exact Wb.Ext.refl _) | (with_reducible refine Wb.Ext.drew ?_) | (with_reducible refine Wb.Ext.drewN ?_ _) | (with_reducible refine Wb.Ext.alloc ?_ _) | (with_reducible refine Wb.Ext.trans ?_ (by assumption))))) hb14
            clear hb14
            have HTP := Lib.hid hp14
            clear hs14 hp14
            refine hK.out _ _ (Wb.Ext.keep (w := W0) (by (repeat' (first | (with_reducible assumption) | (with_reducible exact Wb.Ext.refl _) | (with_reducible refine Wb.Ext.drew ?_) | (with_reducible refine Wb.Ext.drewN ?_ _) | (with_reducible refine Wb.Ext.alloc ?_ _) | (with_reducible refine Wb.Ext.trans ?_ (by assumption))))) z0) (fun hHeld => ?_)
            clear hK K
            (try simp only [Act.put, List.setIfInBounds_toArray, List.set_cons_zero, List.set_cons_succ])
            refine wpAnyH_ready (rs := [6]) (by kernel_rfl) (by simp) ?_
            refine AllReadyH.cons (o := _) rfl (fun K hK => ?_) ?_
            · go_simp
              refine atK fun w15 hw15 => ?_
              have hx15 : Wb.Ext W0 w15 := by rw [hw15]; exact Wb.ext_set (by (repeat' (first | (with_reducible assumption) | (with_reducible exact Wb.Ext.refl _) | (with_reducible refine Wb.Ext.drew ?_) | (with_reducible refine Wb.Ext.drewN ?_ _) | (with_reducible refine Wb.Ext.alloc ?_ _) | (with_reducible refine Wb.Ext.trans ?_ (by assumption))))) ybt.1 _
              replace HTP := Lib.hid (show SpL w15 _ [(1, 2), (4, 5), (7, 8)] by rw [hw15]; exact HTP.out.set yt _)
              have Yt : w15.cell? ⟨w11.heap.size, 0, none⟩ = some (.slice ta 3 tc) := by rw [hw15]; simp [go_sem, yt]
              clear hw15
              refine hK.out _ _ (Wb.Ext.keep (w := W0) (by (repeat' (first | (with_reducible assumption) | (with_reducible exact Wb.Ext.refl _) | (with_reducible refine Wb.Ext.drew ?_) | (with_reducible refine Wb.Ext.drewN ?_ _) | (with_reducible refine Wb.Ext.alloc ?_ _) | (with_reducible refine Wb.Ext.trans ?_ (by assumption))))) z0) (fun hHeld => ?_)
              clear hK K
              (try simp only [Act.put, List.setIfInBounds_toArray, List.set_cons_zero, List.set_cons_succ])
              refine wpAnyH_done (by kernel_rfl) ?_ _
              go_wp2_with fail
              go_meet
              exact ⟨w11.heap.size, ta, tc, rfl, Yt, HTP.out, (show Wb.Ext W0 w15 by (repeat' (first | (with_reducible assumption) | (with_reducible exact Wb.Ext.refl _) | (with_reducible refine Wb.Ext.drew ?_) | (with_reducible refine Wb.Ext.drewN ?_ _) | (with_reducible refine Wb.Ext.alloc ?_ _) | (with_reducible refine Wb.Ext.trans ?_ (by assumption)))))⟩
            exact AllReadyH.nil
          exact AllReadyH.nil
        exact AllReadyH.nil
      exact AllReadyH.nil
    refine AllReadyH.cons (o := _) rfl (fun K hK => ?_) ?_
    · go_simp
      refine atK fun w11 hw11 => ?_
      have hb11 : Wb.Ext W0 w11 := by rw [hw11]; (repeat' (first | (with_reducible assumption) | (with_reducible exact Wb.Ext.refl _) | (with_reducible refine Wb.Ext.drew ?_) | (with_reducible refine Wb.Ext.drewN ?_ _) | (with_reducible refine Wb.Ext.alloc ?_ _) | (with_reducible refine Wb.Ext.trans ?_ (by assumption))))
      replace hb11 : Wb.Ext W0 w11 := Wb.Ext.trans (by (repeat' (first | (with_reducible assumption) | (with_reducible exact Wb.Ext.refl _) | (with_reducible refine Wb.Ext.drew ?_) | (with_reducible refine Wb.Ext.drewN ?_ _) | (with_reducible refine Wb.Ext.alloc ?_ _) | (with_reducible refine Wb.Ext.trans ?_ (by assumption))))) hb11
      have hx11 : Wb.Ext W0 w11 := Wb.Ext.trans (by (repeat' (first | (with_reducible assumption) | (with_reducible exact Wb.Ext.refl _) | (with_reducible refine Wb.Ext.drew ?_) | (with_reducible refine Wb.Ext.drewN ?_ _) | (with_reducible refine Wb.Ext.alloc ?_ _) | (with_reducible refine Wb.Ext.trans ?_ (by assumption))))) hb11
      have yt : w11.cell? ⟨W0.heap.size, 0, none⟩ = some (.slice none 0 0) := by rw [hw11]; simp [go_sem]
      have yft : w11.frozen? ⟨W0.heap.size, 0, none⟩ = false := by rw [hw11]; simp [go_sem]
      have ybt : W0.heap.size ≤ W0.heap.size ∧ W0.heap.size < w11.heap.size := ⟨(show Wb.Ext W0 W0 by (repeat' (first | (with_reducible assumption) | (with_reducible exact Wb.Ext.refl _) | (with_reducible refine Wb.Ext.drew ?_) | (with_reducible refine Wb.Ext.drewN ?_ _) | (with_reducible refine Wb.Ext.alloc ?_ _) | (with_reducible refine Wb.Ext.trans ?_ (by assumption))))).size, by rw [hw11]; simp⟩
      clear hw11 hb11
      refine hK.out _ _ (Wb.Ext.keep (w := W0) (by (repeat' (first | (with_reducible assumption) | (with_reducible exact Wb.Ext.refl _) | (with_reducible refine Wb.Ext.drew ?_) | (with_reducible refine Wb.Ext.drewN ?_ _) | (with_reducible refine Wb.Ext.alloc ?_ _) | (with_reducible refine Wb.Ext.trans ?_ (by assumption))))) z0) (fun hHeld => ?_)
      clear hK K
      (try simp only [Act.put, List.setIfInBounds_toArray, List.set_cons_zero, List.set_cons_succ])
      refine wpAnyH_ready (rs := [2]) (by kernel_rfl) (by simp) ?_
      refine AllReadyH.cons (o := _) rfl (fun K hK => ?_) ?_
      · go_simp
        refine atK fun w12 hw12 => ?_
        have hb12 : Wb.Ext w11 w12 := by rw [hw12]; (repeat' (first | (with_reducible assumption) | (with_reducible exact Wb.Ext.refl _) | (with_reducible refine Wb.Ext.drew ?_) | (with_reducible refine Wb.Ext.drewN ?_ _) | (with_reducible refine Wb.Ext.alloc ?_ _) | (with_reducible refine Wb.Ext.trans ?_ (by assumption))))
        have HP12 := Lib.hid (show SpL w12 (.slice (some ⟨w11.heap.size, 0, none⟩) 1 1) [(2, 4)] by rw [hw12]; exact spl_cells (2, 4) (by simp [go_sem]) (by simp [go_sem]))
        clear hw12
        replace hb12 : Wb.Ext w11 w12 := Wb.Ext.trans (by (repeat' (first | (with_reducible assumption) | (with_reducible exact Wb.Ext.refl _) | (with_reducible refine Wb.Ext.drew ?_) | (with_reducible refine Wb.Ext.drewN ?_ _) | (with_reducible refine Wb.Ext.alloc ?_ _) | (with_reducible refine Wb.Ext.trans ?_ (by assumption))))) hb12
        have yft := (Below.frozen hb12 ybt.2).trans yft
        have yt := hb12.keep yt
        have ybt := And.intro ybt.1 (Nat.lt_of_lt_of_le ybt.2 hb12.size)
        have hx12 : Wb.Ext W0 w12 := Wb.Ext.trans (by (repeat' (first | (with_reducible assumption) | (with_reducible exact Wb.Ext.refl _) | (with_reducible refine Wb.Ext.drew ?_) | (with_reducible refine Wb.Ext.drewN ?_ _) | (with_reducible refine Wb.Ext.alloc ?_ _) | (with_reducible refine Wb.Ext.trans ?_ (by assumption))))) hb12
        clear hb12
        refine hK.out _ _ (Wb.Ext.keep (w := W0) (by (repeat' (first | (with_reducible assumption) | (with_reducible exact Wb.Ext.refl _) | (with_reducible refine Wb.Ext.drew ?_) | (with_reducible refine Wb.Ext.drewN ?_ _) | (with_reducible refine Wb.Ext.alloc ?_ _) | (with_reducible refine Wb.Ext.trans ?_ (by assumption))))) z0) (fun hHeld => ?_)
        clear hK K
        (try simp only [Act.put, List.setIfInBounds_toArray, List.set_cons_zero, List.set_cons_succ])
        refine wpAnyH_ready (rs := [3]) (by kernel_rfl) (by simp) ?_
        refine AllReadyH.cons (o := _) rfl (fun K hK => ?_) ?_
        · go_simp
          go_at_call 14
          go_fit (of_any _ [(2, 4)] _ (HP12.out.ext (by (repeat' (first | (with_reducible assumption) | (with_reducible exact Wb.Ext.refl _) | (with_reducible refine Wb.Ext.drew ?_) | (with_reducible refine Wb.Ext.drewN ?_ _) | (with_reducible refine Wb.Ext.alloc ?_ _) | (with_reducible refine Wb.Ext.trans ?_ (by assumption)))))) (bd_lits (by simp)) (by simp))
          rintro e w13 ⟨v13, r13, rfl, hs13, hp13, hb13⟩
          obtain ⟨sa13, sc13, rfl⟩ := hp13.1.shape
          have HS13 := Lib.hid hs13
          have hl13 : r13.length ≤ 1 := by have := hs13.len; simp only [List.length_cons, List.length_nil] at this; omega
          have HE13 := Lib.hid (has_of hs13)
          replace hb13 : Wb.Ext w12 w13 := Wb.Ext.trans (by (repeat' (first | (with_reducible assumption) | (with_reducible exact Wb.Ext.refl _) | (with_reducible refine Wb.Ext.drew ?_) | (with_reducible refine Wb.Ext.drewN ?_ _) | (with_reducible refine Wb.Ext.alloc ?_ _) | (with_reducible refine Wb.Ext.trans ?_ (by assumption))))) hb13
          replace HP12 := Lib.hid (HP12.out.ext hb13)
          have yft := (Below.frozen hb13 ybt.2).trans yft
          have yt := hb13.keep yt
          have ybt := And.intro ybt.1 (Nat.lt_of_lt_of_le ybt.2 hb13.size)
          have hx13 : Wb.Ext W0 w13 := Wb.Ext.trans (by (repeat' (first | (with_reducible assumption) | (with_reducible exact Wb.Ext.refl _) | (with_reducible refine Wb.Ext.drew ?_) | (with_reducible refine Wb.Ext.drewN ?_ _) | (with_reducible refine Wb.Ext.alloc ?_ _) | (with_reducible refine Wb.Ext.trans ?_ (by assumption))))) hb13
          clear hb13
          have HP13 := Lib.hid hp13
          clear hs13 hp13
          refine hK.out _ _ (Wb.Ext.keep (w := W0) (by (repeat' (first | (with_reducible assumption) | (with_reducible exact Wb.Ext.refl _) | (with_reducible refine Wb.Ext.drew ?_) | (with_reducible refine Wb.Ext.drewN ?_ _) | (with_reducible refine Wb.Ext.alloc ?_ _) | (with_reducible refine Wb.Ext.trans ?_ (by assumption))))) z0) (fun hHeld => ?_)
          clear hK K
          (try simp only [Act.put, List.setIfInBounds_toArray, List.set_cons_zero, List.set_cons_succ])
          refine wpAnyH_ready (rs := [4]) (by kernel_rfl) (by simp) ?_
          refine AllReadyH.cons (o := _) rfl (fun K hK => ?_) ?_
          · go_simp
            go_at_call 21
            go_fit (minus_any _ _ [(1, 5), (7, 8)] r13 _ (HP.out.ext (by (repeat' (first | (with_reducible assumption) | (with_reducible exact Wb.Ext.refl _) | (with_reducible refine Wb.Ext.drew ?_) | (with_reducible refine Wb.Ext.drewN ?_ _) | (with_reducible refine Wb.Ext.alloc ?_ _) | (with_reducible refine Wb.Ext.trans ?_ (by assumption)))))) (HP13.out.ext (by (repeat' (first | (with_reducible assumption) | (with_reducible exact Wb.Ext.refl _) | (with_reducible refine Wb.Ext.drew ?_) | (with_reducible refine Wb.Ext.drewN ?_ _) | (with_reducible refine Wb.Ext.alloc ?_ _) | (with_reducible refine Wb.Ext.trans ?_ (by assumption)))))) HS.out.canon HS13.out.canon HS.out.bd HS13.out.bd (by simp) (by omega))
            rintro e w14 ⟨v14, r14, rfl, hs14, hp14, hb14⟩
            have hr14 := awake_t HS.out HS13.out hs14
            subst hr14
            obtain ⟨ta, tc, rfl⟩ := hp14.1.shape
            have HT := Lib.hid hs14
            replace hb14 : Wb.Ext w13 w14 := Wb.Ext.trans (by (repeat' (first | (with_reducible assumption) | (with_reducible exact Wb.Ext.refl _) | (with_reducible refine Wb.Ext.drew ?_) | (with_reducible refine Wb.Ext.drewN ?_ _) | (with_reducible refine Wb.Ext.alloc ?_ _) | (with_reducible refine Wb.Ext.trans ?_ (by assumption))))) hb14
            have yft := (Below.frozen hb14 ybt.2).trans yft
            have yt := hb14.keep yt
            have ybt := And.intro ybt.1 (Nat.lt_of_lt_of_le ybt.2 hb14.size)
            have hx14 : Wb.Ext W0 w14 := Wb.Ext.trans (by (repeat' (first | (with_reducible assumption) | (with_reducible exact Wb.Ext.refl _) | (with_reducible refine Wb.Ext.drew ?_) | (with_reducible refine Wb.Ext.drewN ?_ _) | (with_reducible refine Wb.Ext.alloc ?_ _) | (with_reducible refine Wb.Ext.trans ?_ (by assumption))))) hb14
            clear hb14
            have HTP := Lib.hid hp14
            clear hs14 hp14
            refine hK.out _ _ (Wb.Ext.keep (w := W0) (by (repeat' (first | (with_reducible assumption) | (with_reducible exact Wb.Ext.refl _) | (with_reducible refine Wb.Ext.drew ?_) | (with_reducible refine Wb.Ext.drewN ?_ _) | (with_reducible refine Wb.Ext.alloc ?_ _) | (with_reducible refine Wb.Ext.trans ?_ (by assumption))))) z0) (fun hHeld => ?_)
            clear hK K
            (try simp only [Act.put, List.setIfInBounds_toArray, List.set_cons_zero, List.set_cons_succ])
            refine wpAnyH_ready (rs := [6]) (by kernel_rfl) (by simp) ?_
            refine AllReadyH.cons (o := _) rfl (fun K hK => ?_) ?_
            · go_simp
              refine atK fun w15 hw15 => ?_
              have hx15 : Wb.Ext W0 w15 := by rw [hw15]; exact Wb.ext_set (by (repeat' (first | (with_reducible assumption) | (with_reducible exact Wb.Ext.refl _) | (with_reducible refine Wb.Ext.drew ?_) | (with_reducible refine Wb.Ext.drewN ?_ _) | (with_reducible refine Wb.Ext.alloc ?_ _) | (with_reducible refine Wb.Ext.trans ?_ (by assumption))))) ybt.1 _
              replace HTP := Lib.hid (show SpL w15 _ [(1, 2), (4, 5), (7, 8)] by rw [hw15]; exact HTP.out.set yt _)
              have Yt : w15.cell? ⟨W0.heap.size, 0, none⟩ = some (.slice ta 3 tc) := by rw [hw15]; simp [go_sem, yt]
              clear hw15
              refine hK.out _ _ (Wb.Ext.keep (w := W0) (by (repeat' (first | (with_reducible assumption) | (with_reducible exact Wb.Ext.refl _) | (with_reducible refine Wb.Ext.drew ?_) | (with_reducible refine Wb.Ext.drewN ?_ _) | (with_reducible refine Wb.Ext.alloc ?_ _) | (with_reducible refine Wb.Ext.trans ?_ (by assumption))))) z0) (fun hHeld => ?_)
              clear hK K
              (try simp only [Act.put, List.setIfInBounds_toArray, List.set_cons_zero, List.set_cons_succ])
              refine wpAnyH_done (by kernel_rfl) ?_ _
              go_wp2_with fail
              go_meet
              exact ⟨W0.heap.size, ta, tc, rfl, Yt, HTP.out, (show Wb.Ext W0 w15 by (repeat' (first | (with_reducible assumption) | (with_reducible exact Wb.Ext.refl _) | (with_reducible refine Wb.Ext.drew ?_) | (with_reducible refine Wb.Ext.drewN ?_ _) | (with_reducible refine Wb.Ext.alloc ?_ _) | (with_reducible refine Wb.Ext.trans ?_ (by assumption)))))⟩
            exact AllReadyH.nil
          exact AllReadyH.nil
        exact AllReadyH.nil
      exact AllReadyH.nil
    exact AllReadyH.nil
  case rest =>
    obtain ⟨B, ta, tc, rfl, z1, hT, hx⟩ := hcut
    have HTP := Lib.hid hT
    have z0 := hx.keep z0
    have l0 := hx.keep l0
    have l1 := hx.keep l1
    replace HP := Lib.hid (HP.out.ext hx)
    have hxW := hxW.trans hx
    clear hT hx
    go_wp2_with fail
    go_fit (ppieces_any (1, 5) _ [3, 1, 9] _ (dayl_at _ (by
      intro j u hj
      match j, hj with
      | 0, hj | 1, hj | 2, hj => simp [days] at hj; subst hj; simp [go_sem]
      | j + 3, hj => simp [days] at hj)) (by simp)); rintro e w3 ⟨v3, rfl, r3, hr3⟩
    have hpr := awake_p hr3
    subst hpr
    obtain ⟨pa, pc, rfl⟩ := hr3.row.1.shape
    obtain ⟨pb, po, rfl, hcells⟩ := hr3.row.1.opened (by simp)
    have p0 := hcells 1 (3, 5) rfl 0 _ rfl
    have p1 := hcells 1 (3, 5) rfl 1 _ rfl
    simp only [Nat.one_mul, Nat.add_zero] at p0 p1
    have hx := Wb.Ext.trans (show Wb.Ext wc _ by (repeat' (first | (with_reducible assumption) | (with_reducible exact Wb.Ext.refl _) | (with_reducible refine Wb.Ext.drew ?_) | (with_reducible refine Wb.Ext.drewN ?_ _) | (with_reducible refine Wb.Ext.alloc ?_ _) | (with_reducible refine Wb.Ext.trans ?_ (by assumption))))) hr3.ext
    have z0 := hx.keep z0
    have z1 := hx.keep z1
    have l0 := hx.keep l0
    have l1 := hx.keep l1
    replace HP := Lib.hid (HP.out.ext hx)
    replace HTP := Lib.hid (HTP.out.ext hx)
    have hxW := hxW.trans hx
    clear hx hr3 hcells
    go_wp2_with fail
    go_fit (days_any _ [(1, 5), (7, 8)] _ (HP.out.1.ext (by (repeat' (first | (with_reducible assumption) | (with_reducible exact Wb.Ext.refl _) | (with_reducible refine Wb.Ext.drew ?_) | (with_reducible refine Wb.Ext.drewN ?_ _) | (with_reducible refine Wb.Ext.alloc ?_ _) | (with_reducible refine Wb.Ext.trans ?_ (by assumption)))))) HS.out.bd (by simp)); rintro e w4 ⟨rfl, hb4⟩
    rw [show daysL [(1, 5), (7, 8)] = 5 from by decide]
    have z0 := hb4.keep z0
    have z1 := hb4.keep z1
    have p0 := hb4.keep p0
    have p1 := hb4.keep p1
    go_wp2_with fail
    go_fit (has05_any _ [(1, 5), (7, 8)] 7 _ (HP.out.1.ext (by (repeat' (first | (with_reducible assumption) | (with_reducible exact Wb.Ext.refl _) | (with_reducible refine Wb.Ext.drew ?_) | (with_reducible refine Wb.Ext.drewN ?_ _) | (with_reducible refine Wb.Ext.alloc ?_ _) | (with_reducible refine Wb.Ext.trans ?_ (by assumption)))))) HS.out.canon (by simp)); rintro e w5 ⟨rfl, hb5⟩
    rw [show Wb.hasL [(1, 5), (7, 8)] 7 = true from by decide]
    have z0 := hb5.keep z0
    have z1 := hb5.keep z1
    have p0 := hb5.keep p0
    have p1 := hb5.keep p1
    go_wp2_with fail
    go_fit (has05_any _ [(1, 5), (7, 8)] 5 _ (HP.out.1.ext (by (repeat' (first | (with_reducible assumption) | (with_reducible exact Wb.Ext.refl _) | (with_reducible refine Wb.Ext.drew ?_) | (with_reducible refine Wb.Ext.drewN ?_ _) | (with_reducible refine Wb.Ext.alloc ?_ _) | (with_reducible refine Wb.Ext.trans ?_ (by assumption)))))) HS.out.canon (by simp)); rintro e w6 ⟨rfl, hb6⟩
    rw [show Wb.hasL [(1, 5), (7, 8)] 5 = false from by decide]
    have z1 := hb6.keep z1
    have p0 := hb6.keep p0
    have p1 := hb6.keep p1
    go_wp2_with fail
    go_fit (all_any _ [(1, 2), (4, 5), (7, 8)] _ (HTP.out.ext (by (repeat' (first | (with_reducible assumption) | (with_reducible exact Wb.Ext.refl _) | (with_reducible refine Wb.Ext.drew ?_) | (with_reducible refine Wb.Ext.drewN ?_ _) | (with_reducible refine Wb.Ext.alloc ?_ _) | (with_reducible refine Wb.Ext.trans ?_ (by assumption)))))) (by simp)); rintro e w7 ⟨v7, rfl, hp7, hb7⟩
    obtain ⟨ua, uc, rfl⟩ := hp7.1.shape
    have p0 := hb7.keep p0
    have p1 := hb7.keep p1
    clear hp7
    go_wp2
    go_ret
    exact ⟨rfl, hxW.trans (by (repeat' (first | (with_reducible assumption) | (with_reducible exact Wb.Ext.refl _) | (with_reducible refine Wb.Ext.drew ?_) | (with_reducible refine Wb.Ext.drewN ?_ _) | (with_reducible refine Wb.Ext.alloc ?_ _) | (with_reducible refine Wb.Ext.trans ?_ (by assumption)))))⟩

end Go.Proofs.Ytdckghdmopafpaa

