/- The walk of wagebooklaw05.SpanLaws. -/
import Derived.Test.YtdckghdmopafpaaSLaw0
import Derived.Deep.DeepCutAuto
namespace Go.Proofs.Ytdckghdmopafpaa
open Go.RowKit Go.Lib
set_option maxRecDepth 8000
attribute [local go_sem ↓] Go.wp_at_zero Go.wp_at_succ

set_option maxHeartbeats 16000000 in
theorem laws_walk (W : World) (va : Value) (a : List Wb.Sp) (hva : SpL W va a) (hba : BdL a) (vb : Value) (b : List Wb.Sp) (hvb : SpL W vb b) (hbb : BdL b) (vc : Value) (c : List Wb.Sp) (hvc : SpL W vc c) (hbc : BdL c) :
    Calls Try.prog 8 #[va, vb, vc] W fun e w' => e = .returned (.bool true) ∧ Wb.Ext W w' := by
  obtain ⟨aA, aK, rfl⟩ := hva.1.shape
  have HVa := Lib.hid hva
  have HBa := Lib.hid hba
  clear hva hba
  obtain ⟨bA, bK, rfl⟩ := hvb.1.shape
  have HVb := Lib.hid hvb
  have HBb := Lib.hid hbb
  clear hvb hbb
  obtain ⟨cA, cK, rfl⟩ := hvc.1.shape
  have HVc := Lib.hid hvc
  have HBc := Lib.hid hbc
  clear hvc hbc
  by_cases hla : 20 < a.length
  · have da : decide ((20 : Int) < (a.length : Int)) = true := by simp; omega
    go_enter Try.func8, Try.ntmps8
    go_wp2_with fail
    go_fit (awake_any _); rintro e w0 ⟨rfl, hx0⟩
    go_wp2
    go_ret
    exact ⟨rfl, hx0⟩
  · have da : decide ((20 : Int) < (a.length : Int)) = false := by simp; omega
    have hma : a.length ≤ 20 := by omega
    by_cases hlb : 20 < b.length
    · have db : decide ((20 : Int) < (b.length : Int)) = true := by simp; omega
      go_enter Try.func8, Try.ntmps8
      go_wp2_with fail
      go_fit (awake_any _); rintro e w0 ⟨rfl, hx0⟩
      go_wp2
      go_ret
      exact ⟨rfl, hx0⟩
    · have db : decide ((20 : Int) < (b.length : Int)) = false := by simp; omega
      have hmb : b.length ≤ 20 := by omega
      by_cases hlc : 20 < c.length
      · have dc : decide ((20 : Int) < (c.length : Int)) = true := by simp; omega
        go_enter Try.func8, Try.ntmps8
        go_wp2_with fail
        go_fit (awake_any _); rintro e w0 ⟨rfl, hx0⟩
        go_wp2
        go_ret
        exact ⟨rfl, hx0⟩
      · have dc : decide ((20 : Int) < (c.length : Int)) = false := by simp; omega
        have hmc : c.length ≤ 20 := by omega
        go_enter Try.func8, Try.ntmps8
        go_wp2_with fail
        go_fit (awake_any _); rintro e w0 ⟨rfl, hx0⟩
        go_wp2_with fail
        go_fit (of_any _ a _ (HVa.out.ext (Wb.Ext.trans hx0 (by (repeat' (first | (with_reducible assumption) | (with_reducible exact Wb.Ext.refl _) | (with_reducible refine Wb.Ext.drew ?_) | (with_reducible refine Wb.Ext.drewN ?_ _) | (with_reducible refine Wb.Ext.alloc ?_ _) | (with_reducible refine Wb.Ext.trans ?_ (by assumption))))))) HBa.out (by omega)); rintro e w1 ⟨v1, s, rfl, hs1, hp1, hb1⟩
        obtain ⟨sA, sK, rfl⟩ := hp1.1.shape
        have HSs := Lib.hid hs1
        have HEs := Lib.hid (has_of hs1)
        have hls : s.length ≤ 20 := by have := hs1.len; omega
        replace hb1 : Wb.Ext w0 w1 := Wb.Ext.trans (by (repeat' (first | (with_reducible assumption) | (with_reducible exact Wb.Ext.refl _) | (with_reducible refine Wb.Ext.drew ?_) | (with_reducible refine Wb.Ext.drewN ?_ _) | (with_reducible refine Wb.Ext.alloc ?_ _) | (with_reducible refine Wb.Ext.trans ?_ (by assumption))))) hb1
        have HPs := Lib.hid hp1
        have hx1 : Wb.Ext W w1 := Wb.Ext.trans hx0 hb1
        clear hs1 hp1 hb1
        go_wp2_with fail
        go_fit (of_any _ b _ (HVb.out.ext (Wb.Ext.trans hx1 (by (repeat' (first | (with_reducible assumption) | (with_reducible exact Wb.Ext.refl _) | (with_reducible refine Wb.Ext.drew ?_) | (with_reducible refine Wb.Ext.drewN ?_ _) | (with_reducible refine Wb.Ext.alloc ?_ _) | (with_reducible refine Wb.Ext.trans ?_ (by assumption))))))) HBb.out (by omega)); rintro e w2 ⟨v2, t, rfl, hs2, hp2, hb2⟩
        obtain ⟨tA, tK, rfl⟩ := hp2.1.shape
        have HSt := Lib.hid hs2
        have HEt := Lib.hid (has_of hs2)
        have hlt : t.length ≤ 20 := by have := hs2.len; omega
        replace hb2 : Wb.Ext w1 w2 := Wb.Ext.trans (by (repeat' (first | (with_reducible assumption) | (with_reducible exact Wb.Ext.refl _) | (with_reducible refine Wb.Ext.drew ?_) | (with_reducible refine Wb.Ext.drewN ?_ _) | (with_reducible refine Wb.Ext.alloc ?_ _) | (with_reducible refine Wb.Ext.trans ?_ (by assumption))))) hb2
        replace HPs := Lib.hid (HPs.out.ext hb2)
        have HPt := Lib.hid hp2
        have hx2 : Wb.Ext W w2 := Wb.Ext.trans hx1 hb2
        clear hs2 hp2 hb2
        go_wp2_with fail
        go_fit (of_any _ c _ (HVc.out.ext (Wb.Ext.trans hx2 (by (repeat' (first | (with_reducible assumption) | (with_reducible exact Wb.Ext.refl _) | (with_reducible refine Wb.Ext.drew ?_) | (with_reducible refine Wb.Ext.drewN ?_ _) | (with_reducible refine Wb.Ext.alloc ?_ _) | (with_reducible refine Wb.Ext.trans ?_ (by assumption))))))) HBc.out (by omega)); rintro e w3 ⟨v3, u, rfl, hs3, hp3, hb3⟩
        obtain ⟨uA, uK, rfl⟩ := hp3.1.shape
        have HSu := Lib.hid hs3
        have HEu := Lib.hid (has_of hs3)
        have hlu : u.length ≤ 20 := by have := hs3.len; omega
        replace hb3 : Wb.Ext w2 w3 := Wb.Ext.trans (by (repeat' (first | (with_reducible assumption) | (with_reducible exact Wb.Ext.refl _) | (with_reducible refine Wb.Ext.drew ?_) | (with_reducible refine Wb.Ext.drewN ?_ _) | (with_reducible refine Wb.Ext.alloc ?_ _) | (with_reducible refine Wb.Ext.trans ?_ (by assumption))))) hb3
        replace HPs := Lib.hid (HPs.out.ext hb3)
        replace HPt := Lib.hid (HPt.out.ext hb3)
        have HPu := Lib.hid hp3
        have hx3 : Wb.Ext W w3 := Wb.Ext.trans hx2 hb3
        clear hs3 hp3 hb3
        go_upto_region 6 with (fail)
        refine Wb.wp_at fun W0 hW0 => ?_
        have hb : Wb.Ext w3 W0 := by rw [hW0]; (repeat' (first | (with_reducible assumption) | (with_reducible exact Wb.Ext.refl _) | (with_reducible refine Wb.Ext.drew ?_) | (with_reducible refine Wb.Ext.drewN ?_ _) | (with_reducible refine Wb.Ext.alloc ?_ _) | (with_reducible refine Wb.ext_set ?_ (by first | assumption | (simp; done) | (simp; omega) | omega) _) | (with_reducible refine Wb.Ext.trans ?_ (by assumption))))
        have zs : W0.cell? ⟨w3.heap.size, 0, none⟩ = some (.slice sA s.length sK) := by rw [hW0]; simp [go_sem]
        have zt : W0.cell? ⟨w3.heap.size + 1, 0, none⟩ = some (.slice tA t.length tK) := by rw [hW0]; simp [go_sem]
        have zu : W0.cell? ⟨w3.heap.size + 1 + 1, 0, none⟩ = some (.slice uA u.length uK) := by rw [hW0]; simp [go_sem]
        replace HPs := Lib.hid (HPs.out.ext hb)
        replace HPt := Lib.hid (HPt.out.ext hb)
        replace HPu := Lib.hid (HPu.out.ext hb)
        have hxW : Wb.Ext W W0 := hx3.trans hb
        clear hW0 hb
        refine region_start (S := (fun w' => w'.cell? ⟨w3.heap.size, 0, none⟩ = some (.slice sA s.length sK) ∧ w'.cell? ⟨w3.heap.size + 1, 0, none⟩ = some (.slice tA t.length tK) ∧ w'.cell? ⟨w3.heap.size + 1 + 1, 0, none⟩ = some (.slice uA u.length uK))) (n := 63) (l := #[false, false, false, false, false, false, false, false, false, false, false, false, false, false, false, false, false, false, false, false, false, false, false, false, false, false, false, false, false, false, false, false, false, false, false, false, false, false, false, false, false, false, false, false, false, false, false, false, false, false, false, false, false, false, false, false, false, false, false, false, false, false, false]) (by kernel_rfl) ⟨zs, zt, zu⟩ (by kernel_rfl) (by kernel_rfl) (fun hHeld => ?_)
        refine take_d (i := 0) (d := 31) (v := ?_) rfl rfl (by kernel_rfl) (by kernel_rfl) (by kernel_rfl) (fun _ _ _ h => h) (Or.inl ⟨by rfl, ?_⟩) (by assumption) ?_
        rotate_left
        · (intro w hSw; (try dsimp only at hSw); go_simp; (try with_reducible rfl))
        (try simp only [Act.put, List.setIfInBounds_toArray, List.set_cons_zero, List.set_cons_succ])
        refine take_d (i := 1) (d := 32) (v := ?_) rfl rfl (by kernel_rfl) (by kernel_rfl) (by kernel_rfl) (fun _ _ _ h => h) (Or.inl ⟨by rfl, ?_⟩) (by assumption) ?_
        rotate_left
        · (intro w hSw; (try dsimp only at hSw); go_simp; (try with_reducible rfl))
        (try simp only [Act.put, List.setIfInBounds_toArray, List.set_cons_zero, List.set_cons_succ])
        refine take_d (i := 2) (d := 33) (v := ?_) rfl rfl (by kernel_rfl) (by kernel_rfl) (by kernel_rfl) (fun _ _ _ h => h) (Or.inl ⟨by rfl, ?_⟩) (by assumption) ?_
        rotate_left
        · (intro w hSw; (try dsimp only at hSw); go_simp; (try with_reducible rfl))
        (try simp only [Act.put, List.setIfInBounds_toArray, List.set_cons_zero, List.set_cons_succ])
        refine take_d (i := 6) (d := 37) (v := ?_) rfl rfl (by kernel_rfl) (by kernel_rfl) (by kernel_rfl) (fun _ _ _ h => h) (Or.inl ⟨by rfl, ?_⟩) (by assumption) ?_
        rotate_left
        · (intro w hSw; (try dsimp only at hSw); go_simp; (try with_reducible rfl))
        (try simp only [Act.put, List.setIfInBounds_toArray, List.set_cons_zero, List.set_cons_succ])
        refine take_d (i := 7) (d := 38) (v := ?_) rfl rfl (by kernel_rfl) (by kernel_rfl) (by kernel_rfl) (fun _ _ _ h => h) (Or.inl ⟨by rfl, ?_⟩) (by assumption) ?_
        rotate_left
        · (intro w hSw; (try dsimp only at hSw); go_simp; (try with_reducible rfl))
        (try simp only [Act.put, List.setIfInBounds_toArray, List.set_cons_zero, List.set_cons_succ])
        refine take_d (i := 9) (d := 40) (v := ?_) rfl rfl (by kernel_rfl) (by kernel_rfl) (by kernel_rfl) (fun _ _ _ h => h) (Or.inl ⟨by rfl, ?_⟩) (by assumption) ?_
        rotate_left
        · (intro w hSw; (try dsimp only at hSw); go_simp; (try with_reducible rfl))
        (try simp only [Act.put, List.setIfInBounds_toArray, List.set_cons_zero, List.set_cons_succ])
        refine take_d (i := 10) (d := 41) (v := ?_) rfl rfl (by kernel_rfl) (by kernel_rfl) (by kernel_rfl) (fun _ _ _ h => h) (Or.inl ⟨by rfl, ?_⟩) (by assumption) ?_
        rotate_left
        · (intro w hSw; (try dsimp only at hSw); go_simp; (try with_reducible rfl))
        (try simp only [Act.put, List.setIfInBounds_toArray, List.set_cons_zero, List.set_cons_succ])
        refine wpAnyH_ready (rs := [3]) (by kernel_rfl) (by simp) ?_
        refine AllReadyH.cons (o := _) rfl (fun K hK => ?_) ?_
        · go_simp
          go_at_call 18
          go_fit (union_any _ _ t u _ (HPt.out.ext (by (repeat' (first | (with_reducible assumption) | (with_reducible exact Wb.Ext.refl _) | (with_reducible refine Wb.Ext.drew ?_) | (with_reducible refine Wb.Ext.drewN ?_ _) | (with_reducible refine Wb.Ext.alloc ?_ _) | (with_reducible refine Wb.Ext.trans ?_ (by assumption)))))) (HPu.out.ext (by (repeat' (first | (with_reducible assumption) | (with_reducible exact Wb.Ext.refl _) | (with_reducible refine Wb.Ext.drew ?_) | (with_reducible refine Wb.Ext.drewN ?_ _) | (with_reducible refine Wb.Ext.alloc ?_ _) | (with_reducible refine Wb.Ext.trans ?_ (by assumption)))))) HSt.out.canon HSu.out.canon HSt.out.bd HSu.out.bd (by omega) (by omega))
          rintro e w11 ⟨v11, r11, rfl, hs11, hp11, hb11⟩
          obtain ⟨sa11, sc11, rfl⟩ := hp11.1.shape
          have HS11 := Lib.hid hs11
          have hl11 : r11.length ≤ 80 := by have := hs11.len; (try simp only [List.length_cons, List.length_nil] at this); omega
          have HE11 := Lib.hid (has_uni hs11)
          replace hb11 : Wb.Ext W0 w11 := Wb.Ext.trans (by (repeat' (first | (with_reducible assumption) | (with_reducible exact Wb.Ext.refl _) | (with_reducible refine Wb.Ext.drew ?_) | (with_reducible refine Wb.Ext.drewN ?_ _) | (with_reducible refine Wb.Ext.alloc ?_ _) | (with_reducible refine Wb.Ext.trans ?_ (by assumption))))) hb11
          have hx11 : Wb.Ext W0 w11 := Wb.Ext.trans (by (repeat' (first | (with_reducible assumption) | (with_reducible exact Wb.Ext.refl _) | (with_reducible refine Wb.Ext.drew ?_) | (with_reducible refine Wb.Ext.drewN ?_ _) | (with_reducible refine Wb.Ext.alloc ?_ _) | (with_reducible refine Wb.Ext.trans ?_ (by assumption))))) hb11
          clear hb11
          have HP11 := Lib.hid hp11
          clear hs11 hp11
          refine hK.out _ _ ⟨Wb.Ext.keep (w := W0) (by (repeat' (first | (with_reducible assumption) | (with_reducible exact Wb.Ext.refl _) | (with_reducible refine Wb.Ext.drew ?_) | (with_reducible refine Wb.Ext.drewN ?_ _) | (with_reducible refine Wb.Ext.alloc ?_ _) | (with_reducible refine Wb.Ext.trans ?_ (by assumption))))) zs, Wb.Ext.keep (w := W0) (by (repeat' (first | (with_reducible assumption) | (with_reducible exact Wb.Ext.refl _) | (with_reducible refine Wb.Ext.drew ?_) | (with_reducible refine Wb.Ext.drewN ?_ _) | (with_reducible refine Wb.Ext.alloc ?_ _) | (with_reducible refine Wb.Ext.trans ?_ (by assumption))))) zt, Wb.Ext.keep (w := W0) (by (repeat' (first | (with_reducible assumption) | (with_reducible exact Wb.Ext.refl _) | (with_reducible refine Wb.Ext.drew ?_) | (with_reducible refine Wb.Ext.drewN ?_ _) | (with_reducible refine Wb.Ext.alloc ?_ _) | (with_reducible refine Wb.Ext.trans ?_ (by assumption))))) zu⟩ (fun hHeld => ?_)
          clear hK K
          (try simp only [Act.put, List.setIfInBounds_toArray, List.set_cons_zero, List.set_cons_succ])
          refine wpAnyH_ready (rs := [4]) (by kernel_rfl) (by simp) ?_
          refine AllReadyH.cons (o := _) rfl (fun K hK => ?_) ?_
          · go_simp
            go_at_call 20
            go_fit (meet_any _ _ s r11 _ (HPs.out.ext (by (repeat' (first | (with_reducible assumption) | (with_reducible exact Wb.Ext.refl _) | (with_reducible refine Wb.Ext.drew ?_) | (with_reducible refine Wb.Ext.drewN ?_ _) | (with_reducible refine Wb.Ext.alloc ?_ _) | (with_reducible refine Wb.Ext.trans ?_ (by assumption)))))) (HP11.out.ext (by (repeat' (first | (with_reducible assumption) | (with_reducible exact Wb.Ext.refl _) | (with_reducible refine Wb.Ext.drew ?_) | (with_reducible refine Wb.Ext.drewN ?_ _) | (with_reducible refine Wb.Ext.alloc ?_ _) | (with_reducible refine Wb.Ext.trans ?_ (by assumption)))))) HSs.out.canon HS11.out.canon HSs.out.bd HS11.out.bd (by omega) (by omega))
            rintro e w12 ⟨v12, r12, rfl, hs12, hp12, hb12⟩
            obtain ⟨sa12, sc12, rfl⟩ := hp12.1.shape
            have HS12 := Lib.hid hs12
            have hl12 : r12.length ≤ 200 := by have := hs12.len; (try simp only [List.length_cons, List.length_nil] at this); omega
            have HE12 := Lib.hid (has_met hs12)
            replace hb12 : Wb.Ext w11 w12 := Wb.Ext.trans (by (repeat' (first | (with_reducible assumption) | (with_reducible exact Wb.Ext.refl _) | (with_reducible refine Wb.Ext.drew ?_) | (with_reducible refine Wb.Ext.drewN ?_ _) | (with_reducible refine Wb.Ext.alloc ?_ _) | (with_reducible refine Wb.Ext.trans ?_ (by assumption))))) hb12
            replace HP11 := Lib.hid (HP11.out.ext hb12)
            have hx12 : Wb.Ext W0 w12 := Wb.Ext.trans (by (repeat' (first | (with_reducible assumption) | (with_reducible exact Wb.Ext.refl _) | (with_reducible refine Wb.Ext.drew ?_) | (with_reducible refine Wb.Ext.drewN ?_ _) | (with_reducible refine Wb.Ext.alloc ?_ _) | (with_reducible refine Wb.Ext.trans ?_ (by assumption))))) hb12
            clear hb12
            have HP12 := Lib.hid hp12
            clear hs12 hp12
            refine hK.out _ _ ⟨Wb.Ext.keep (w := W0) (by (repeat' (first | (with_reducible assumption) | (with_reducible exact Wb.Ext.refl _) | (with_reducible refine Wb.Ext.drew ?_) | (with_reducible refine Wb.Ext.drewN ?_ _) | (with_reducible refine Wb.Ext.alloc ?_ _) | (with_reducible refine Wb.Ext.trans ?_ (by assumption))))) zs, Wb.Ext.keep (w := W0) (by (repeat' (first | (with_reducible assumption) | (with_reducible exact Wb.Ext.refl _) | (with_reducible refine Wb.Ext.drew ?_) | (with_reducible refine Wb.Ext.drewN ?_ _) | (with_reducible refine Wb.Ext.alloc ?_ _) | (with_reducible refine Wb.Ext.trans ?_ (by assumption))))) zt, Wb.Ext.keep (w := W0) (by (repeat' (first | (with_reducible assumption) | (with_reducible exact Wb.Ext.refl _) | (with_reducible refine Wb.Ext.drew ?_) | (with_reducible refine Wb.Ext.drewN ?_ _) | (with_reducible refine Wb.Ext.alloc ?_ _) | (with_reducible refine Wb.Ext.trans ?_ (by assumption))))) zu⟩ (fun hHeld => ?_)
            clear hK K
            (try simp only [Act.put, List.setIfInBounds_toArray, List.set_cons_zero, List.set_cons_succ])
            refine wpAnyH_ready (rs := [5]) (by kernel_rfl) (by simp) ?_
            refine AllReadyH.cons (o := _) rfl (fun K hK => ?_) ?_
            · go_simp
              go_at_call 17
              go_fit (all_any _ r12 _ (HP12.out.ext (by (repeat' (first | (with_reducible assumption) | (with_reducible exact Wb.Ext.refl _) | (with_reducible refine Wb.Ext.drew ?_) | (with_reducible refine Wb.Ext.drewN ?_ _) | (with_reducible refine Wb.Ext.alloc ?_ _) | (with_reducible refine Wb.Ext.trans ?_ (by assumption)))))) (by omega))
              rintro e w13 ⟨v13, rfl, hp13, hb13⟩
              obtain ⟨sa13, sc13, rfl⟩ := hp13.1.shape
              replace hb13 : Wb.Ext w12 w13 := Wb.Ext.trans (by (repeat' (first | (with_reducible assumption) | (with_reducible exact Wb.Ext.refl _) | (with_reducible refine Wb.Ext.drew ?_) | (with_reducible refine Wb.Ext.drewN ?_ _) | (with_reducible refine Wb.Ext.alloc ?_ _) | (with_reducible refine Wb.Ext.trans ?_ (by assumption))))) hb13
              replace HP11 := Lib.hid (HP11.out.ext hb13)
              replace HP12 := Lib.hid (HP12.out.ext hb13)
              have hx13 : Wb.Ext W0 w13 := Wb.Ext.trans (by (repeat' (first | (with_reducible assumption) | (with_reducible exact Wb.Ext.refl _) | (with_reducible refine Wb.Ext.drew ?_) | (with_reducible refine Wb.Ext.drewN ?_ _) | (with_reducible refine Wb.Ext.alloc ?_ _) | (with_reducible refine Wb.Ext.trans ?_ (by assumption))))) hb13
              clear hb13
              have HP13 := Lib.hid hp13
              clear hp13
              refine hK.out _ _ ⟨Wb.Ext.keep (w := W0) (by (repeat' (first | (with_reducible assumption) | (with_reducible exact Wb.Ext.refl _) | (with_reducible refine Wb.Ext.drew ?_) | (with_reducible refine Wb.Ext.drewN ?_ _) | (with_reducible refine Wb.Ext.alloc ?_ _) | (with_reducible refine Wb.Ext.trans ?_ (by assumption))))) zs, Wb.Ext.keep (w := W0) (by (repeat' (first | (with_reducible assumption) | (with_reducible exact Wb.Ext.refl _) | (with_reducible refine Wb.Ext.drew ?_) | (with_reducible refine Wb.Ext.drewN ?_ _) | (with_reducible refine Wb.Ext.alloc ?_ _) | (with_reducible refine Wb.Ext.trans ?_ (by assumption))))) zt, Wb.Ext.keep (w := W0) (by (repeat' (first | (with_reducible assumption) | (with_reducible exact Wb.Ext.refl _) | (with_reducible refine Wb.Ext.drew ?_) | (with_reducible refine Wb.Ext.drewN ?_ _) | (with_reducible refine Wb.Ext.alloc ?_ _) | (with_reducible refine Wb.Ext.trans ?_ (by assumption))))) zu⟩ (fun hHeld => ?_)
              clear hK K
              (try simp only [Act.put, List.setIfInBounds_toArray, List.set_cons_zero, List.set_cons_succ])
              refine wpAnyH_ready (rs := [8]) (by kernel_rfl) (by simp) ?_
              refine AllReadyH.cons (o := _) rfl (fun K hK => ?_) ?_
              · go_simp
                go_at_call 20
                go_fit (meet_any _ _ s t _ (HPs.out.ext (by (repeat' (first | (with_reducible assumption) | (with_reducible exact Wb.Ext.refl _) | (with_reducible refine Wb.Ext.drew ?_) | (with_reducible refine Wb.Ext.drewN ?_ _) | (with_reducible refine Wb.Ext.alloc ?_ _) | (with_reducible refine Wb.Ext.trans ?_ (by assumption)))))) (HPt.out.ext (by (repeat' (first | (with_reducible assumption) | (with_reducible exact Wb.Ext.refl _) | (with_reducible refine Wb.Ext.drew ?_) | (with_reducible refine Wb.Ext.drewN ?_ _) | (with_reducible refine Wb.Ext.alloc ?_ _) | (with_reducible refine Wb.Ext.trans ?_ (by assumption)))))) HSs.out.canon HSt.out.canon HSs.out.bd HSt.out.bd (by omega) (by omega))
                rintro e w14 ⟨v14, r14, rfl, hs14, hp14, hb14⟩
                obtain ⟨sa14, sc14, rfl⟩ := hp14.1.shape
                have HS14 := Lib.hid hs14
                have hl14 : r14.length ≤ 80 := by have := hs14.len; (try simp only [List.length_cons, List.length_nil] at this); omega
                have HE14 := Lib.hid (has_met hs14)
                replace hb14 : Wb.Ext w13 w14 := Wb.Ext.trans (by (repeat' (first | (with_reducible assumption) | (with_reducible exact Wb.Ext.refl _) | (with_reducible refine Wb.Ext.drew ?_) | (with_reducible refine Wb.Ext.drewN ?_ _) | (with_reducible refine Wb.Ext.alloc ?_ _) | (with_reducible refine Wb.Ext.trans ?_ (by assumption))))) hb14
                replace HP11 := Lib.hid (HP11.out.ext hb14)
                replace HP12 := Lib.hid (HP12.out.ext hb14)
                replace HP13 := Lib.hid (HP13.out.ext hb14)
                have hx14 : Wb.Ext W0 w14 := Wb.Ext.trans (by (repeat' (first | (with_reducible assumption) | (with_reducible exact Wb.Ext.refl _) | (with_reducible refine Wb.Ext.drew ?_) | (with_reducible refine Wb.Ext.drewN ?_ _) | (with_reducible refine Wb.Ext.alloc ?_ _) | (with_reducible refine Wb.Ext.trans ?_ (by assumption))))) hb14
                clear hb14
                have HP14 := Lib.hid hp14
                clear hs14 hp14
                refine hK.out _ _ ⟨Wb.Ext.keep (w := W0) (by (repeat' (first | (with_reducible assumption) | (with_reducible exact Wb.Ext.refl _) | (with_reducible refine Wb.Ext.drew ?_) | (with_reducible refine Wb.Ext.drewN ?_ _) | (with_reducible refine Wb.Ext.alloc ?_ _) | (with_reducible refine Wb.Ext.trans ?_ (by assumption))))) zs, Wb.Ext.keep (w := W0) (by (repeat' (first | (with_reducible assumption) | (with_reducible exact Wb.Ext.refl _) | (with_reducible refine Wb.Ext.drew ?_) | (with_reducible refine Wb.Ext.drewN ?_ _) | (with_reducible refine Wb.Ext.alloc ?_ _) | (with_reducible refine Wb.Ext.trans ?_ (by assumption))))) zt, Wb.Ext.keep (w := W0) (by (repeat' (first | (with_reducible assumption) | (with_reducible exact Wb.Ext.refl _) | (with_reducible refine Wb.Ext.drew ?_) | (with_reducible refine Wb.Ext.drewN ?_ _) | (with_reducible refine Wb.Ext.alloc ?_ _) | (with_reducible refine Wb.Ext.trans ?_ (by assumption))))) zu⟩ (fun hHeld => ?_)
                clear hK K
                (try simp only [Act.put, List.setIfInBounds_toArray, List.set_cons_zero, List.set_cons_succ])
                refine wpAnyH_ready (rs := [11]) (by kernel_rfl) (by simp) ?_
                refine AllReadyH.cons (o := _) rfl (fun K hK => ?_) ?_
                · go_simp
                  go_at_call 20
                  go_fit (meet_any _ _ s u _ (HPs.out.ext (by (repeat' (first | (with_reducible assumption) | (with_reducible exact Wb.Ext.refl _) | (with_reducible refine Wb.Ext.drew ?_) | (with_reducible refine Wb.Ext.drewN ?_ _) | (with_reducible refine Wb.Ext.alloc ?_ _) | (with_reducible refine Wb.Ext.trans ?_ (by assumption)))))) (HPu.out.ext (by (repeat' (first | (with_reducible assumption) | (with_reducible exact Wb.Ext.refl _) | (with_reducible refine Wb.Ext.drew ?_) | (with_reducible refine Wb.Ext.drewN ?_ _) | (with_reducible refine Wb.Ext.alloc ?_ _) | (with_reducible refine Wb.Ext.trans ?_ (by assumption)))))) HSs.out.canon HSu.out.canon HSs.out.bd HSu.out.bd (by omega) (by omega))
                  rintro e w15 ⟨v15, r15, rfl, hs15, hp15, hb15⟩
                  obtain ⟨sa15, sc15, rfl⟩ := hp15.1.shape
                  have HS15 := Lib.hid hs15
                  have hl15 : r15.length ≤ 80 := by have := hs15.len; (try simp only [List.length_cons, List.length_nil] at this); omega
                  have HE15 := Lib.hid (has_met hs15)
                  replace hb15 : Wb.Ext w14 w15 := Wb.Ext.trans (by (repeat' (first | (with_reducible assumption) | (with_reducible exact Wb.Ext.refl _) | (with_reducible refine Wb.Ext.drew ?_) | (with_reducible refine Wb.Ext.drewN ?_ _) | (with_reducible refine Wb.Ext.alloc ?_ _) | (with_reducible refine Wb.Ext.trans ?_ (by assumption))))) hb15
                  replace HP11 := Lib.hid (HP11.out.ext hb15)
                  replace HP12 := Lib.hid (HP12.out.ext hb15)
                  replace HP13 := Lib.hid (HP13.out.ext hb15)
                  replace HP14 := Lib.hid (HP14.out.ext hb15)
                  have hx15 : Wb.Ext W0 w15 := Wb.Ext.trans (by (repeat' (first | (with_reducible assumption) | (with_reducible exact Wb.Ext.refl _) | (with_reducible refine Wb.Ext.drew ?_) | (with_reducible refine Wb.Ext.drewN ?_ _) | (with_reducible refine Wb.Ext.alloc ?_ _) | (with_reducible refine Wb.Ext.trans ?_ (by assumption))))) hb15
                  clear hb15
                  have HP15 := Lib.hid hp15
                  clear hs15 hp15
                  refine hK.out _ _ ⟨Wb.Ext.keep (w := W0) (by (repeat' (first | (with_reducible assumption) | (with_reducible exact Wb.Ext.refl _) | (with_reducible refine Wb.Ext.drew ?_) | (with_reducible refine Wb.Ext.drewN ?_ _) | (with_reducible refine Wb.Ext.alloc ?_ _) | (with_reducible refine Wb.Ext.trans ?_ (by assumption))))) zs, Wb.Ext.keep (w := W0) (by (repeat' (first | (with_reducible assumption) | (with_reducible exact Wb.Ext.refl _) | (with_reducible refine Wb.Ext.drew ?_) | (with_reducible refine Wb.Ext.drewN ?_ _) | (with_reducible refine Wb.Ext.alloc ?_ _) | (with_reducible refine Wb.Ext.trans ?_ (by assumption))))) zt, Wb.Ext.keep (w := W0) (by (repeat' (first | (with_reducible assumption) | (with_reducible exact Wb.Ext.refl _) | (with_reducible refine Wb.Ext.drew ?_) | (with_reducible refine Wb.Ext.drewN ?_ _) | (with_reducible refine Wb.Ext.alloc ?_ _) | (with_reducible refine Wb.Ext.trans ?_ (by assumption))))) zu⟩ (fun hHeld => ?_)
                  clear hK K
                  (try simp only [Act.put, List.setIfInBounds_toArray, List.set_cons_zero, List.set_cons_succ])
                  refine wpAnyH_ready (rs := [12]) (by kernel_rfl) (by simp) ?_
                  refine AllReadyH.cons (o := _) rfl (fun K hK => ?_) ?_
                  · go_simp
                    go_at_call 18
                    go_fit (union_any _ _ r14 r15 _ (HP14.out.ext (by (repeat' (first | (with_reducible assumption) | (with_reducible exact Wb.Ext.refl _) | (with_reducible refine Wb.Ext.drew ?_) | (with_reducible refine Wb.Ext.drewN ?_ _) | (with_reducible refine Wb.Ext.alloc ?_ _) | (with_reducible refine Wb.Ext.trans ?_ (by assumption)))))) (HP15.out.ext (by (repeat' (first | (with_reducible assumption) | (with_reducible exact Wb.Ext.refl _) | (with_reducible refine Wb.Ext.drew ?_) | (with_reducible refine Wb.Ext.drewN ?_ _) | (with_reducible refine Wb.Ext.alloc ?_ _) | (with_reducible refine Wb.Ext.trans ?_ (by assumption)))))) HS14.out.canon HS15.out.canon HS14.out.bd HS15.out.bd (by omega) (by omega))
                    rintro e w16 ⟨v16, r16, rfl, hs16, hp16, hb16⟩
                    obtain ⟨sa16, sc16, rfl⟩ := hp16.1.shape
                    have HS16 := Lib.hid hs16
                    have hl16 : r16.length ≤ 320 := by have := hs16.len; (try simp only [List.length_cons, List.length_nil] at this); omega
                    have HE16 := Lib.hid (has_uni hs16)
                    replace hb16 : Wb.Ext w15 w16 := Wb.Ext.trans (by (repeat' (first | (with_reducible assumption) | (with_reducible exact Wb.Ext.refl _) | (with_reducible refine Wb.Ext.drew ?_) | (with_reducible refine Wb.Ext.drewN ?_ _) | (with_reducible refine Wb.Ext.alloc ?_ _) | (with_reducible refine Wb.Ext.trans ?_ (by assumption))))) hb16
                    replace HP11 := Lib.hid (HP11.out.ext hb16)
                    replace HP12 := Lib.hid (HP12.out.ext hb16)
                    replace HP13 := Lib.hid (HP13.out.ext hb16)
                    replace HP14 := Lib.hid (HP14.out.ext hb16)
                    replace HP15 := Lib.hid (HP15.out.ext hb16)
                    have hx16 : Wb.Ext W0 w16 := Wb.Ext.trans (by (repeat' (first | (with_reducible assumption) | (with_reducible exact Wb.Ext.refl _) | (with_reducible refine Wb.Ext.drew ?_) | (with_reducible refine Wb.Ext.drewN ?_ _) | (with_reducible refine Wb.Ext.alloc ?_ _) | (with_reducible refine Wb.Ext.trans ?_ (by assumption))))) hb16
                    clear hb16
                    have HP16 := Lib.hid hp16
                    clear hs16 hp16
                    refine hK.out _ _ ⟨Wb.Ext.keep (w := W0) (by (repeat' (first | (with_reducible assumption) | (with_reducible exact Wb.Ext.refl _) | (with_reducible refine Wb.Ext.drew ?_) | (with_reducible refine Wb.Ext.drewN ?_ _) | (with_reducible refine Wb.Ext.alloc ?_ _) | (with_reducible refine Wb.Ext.trans ?_ (by assumption))))) zs, Wb.Ext.keep (w := W0) (by (repeat' (first | (with_reducible assumption) | (with_reducible exact Wb.Ext.refl _) | (with_reducible refine Wb.Ext.drew ?_) | (with_reducible refine Wb.Ext.drewN ?_ _) | (with_reducible refine Wb.Ext.alloc ?_ _) | (with_reducible refine Wb.Ext.trans ?_ (by assumption))))) zt, Wb.Ext.keep (w := W0) (by (repeat' (first | (with_reducible assumption) | (with_reducible exact Wb.Ext.refl _) | (with_reducible refine Wb.Ext.drew ?_) | (with_reducible refine Wb.Ext.drewN ?_ _) | (with_reducible refine Wb.Ext.alloc ?_ _) | (with_reducible refine Wb.Ext.trans ?_ (by assumption))))) zu⟩ (fun hHeld => ?_)
                    clear hK K
                    (try simp only [Act.put, List.setIfInBounds_toArray, List.set_cons_zero, List.set_cons_succ])
                    refine wpAnyH_ready (rs := [13]) (by kernel_rfl) (by simp) ?_
                    refine AllReadyH.cons (o := _) rfl (fun K hK => ?_) ?_
                    · go_simp
                      go_at_call 17
                      go_fit (all_any _ r16 _ (HP16.out.ext (by (repeat' (first | (with_reducible assumption) | (with_reducible exact Wb.Ext.refl _) | (with_reducible refine Wb.Ext.drew ?_) | (with_reducible refine Wb.Ext.drewN ?_ _) | (with_reducible refine Wb.Ext.alloc ?_ _) | (with_reducible refine Wb.Ext.trans ?_ (by assumption)))))) (by omega))
                      rintro e w17 ⟨v17, rfl, hp17, hb17⟩
                      obtain ⟨sa17, sc17, rfl⟩ := hp17.1.shape
                      replace hb17 : Wb.Ext w16 w17 := Wb.Ext.trans (by (repeat' (first | (with_reducible assumption) | (with_reducible exact Wb.Ext.refl _) | (with_reducible refine Wb.Ext.drew ?_) | (with_reducible refine Wb.Ext.drewN ?_ _) | (with_reducible refine Wb.Ext.alloc ?_ _) | (with_reducible refine Wb.Ext.trans ?_ (by assumption))))) hb17
                      replace HP11 := Lib.hid (HP11.out.ext hb17)
                      replace HP12 := Lib.hid (HP12.out.ext hb17)
                      replace HP13 := Lib.hid (HP13.out.ext hb17)
                      replace HP14 := Lib.hid (HP14.out.ext hb17)
                      replace HP15 := Lib.hid (HP15.out.ext hb17)
                      replace HP16 := Lib.hid (HP16.out.ext hb17)
                      have hx17 : Wb.Ext W0 w17 := Wb.Ext.trans (by (repeat' (first | (with_reducible assumption) | (with_reducible exact Wb.Ext.refl _) | (with_reducible refine Wb.Ext.drew ?_) | (with_reducible refine Wb.Ext.drewN ?_ _) | (with_reducible refine Wb.Ext.alloc ?_ _) | (with_reducible refine Wb.Ext.trans ?_ (by assumption))))) hb17
                      clear hb17
                      have HP17 := Lib.hid hp17
                      clear hp17
                      refine hK.out _ _ ⟨Wb.Ext.keep (w := W0) (by (repeat' (first | (with_reducible assumption) | (with_reducible exact Wb.Ext.refl _) | (with_reducible refine Wb.Ext.drew ?_) | (with_reducible refine Wb.Ext.drewN ?_ _) | (with_reducible refine Wb.Ext.alloc ?_ _) | (with_reducible refine Wb.Ext.trans ?_ (by assumption))))) zs, Wb.Ext.keep (w := W0) (by (repeat' (first | (with_reducible assumption) | (with_reducible exact Wb.Ext.refl _) | (with_reducible refine Wb.Ext.drew ?_) | (with_reducible refine Wb.Ext.drewN ?_ _) | (with_reducible refine Wb.Ext.alloc ?_ _) | (with_reducible refine Wb.Ext.trans ?_ (by assumption))))) zt, Wb.Ext.keep (w := W0) (by (repeat' (first | (with_reducible assumption) | (with_reducible exact Wb.Ext.refl _) | (with_reducible refine Wb.Ext.drew ?_) | (with_reducible refine Wb.Ext.drewN ?_ _) | (with_reducible refine Wb.Ext.alloc ?_ _) | (with_reducible refine Wb.Ext.trans ?_ (by assumption))))) zu⟩ (fun hHeld => ?_)
                      clear hK K
                      (try simp only [Act.put, List.setIfInBounds_toArray, List.set_cons_zero, List.set_cons_succ])
                      refine wpAnyH_ready (rs := [14]) (by kernel_rfl) (by simp) ?_
                      refine AllReadyH.cons (o := _) rfl (fun K hK => ?_) ?_
                      · go_simp
                        go_at_call 16
                        go_fit (same2_any _ _ r12 r16 _ (canon_eq HS16.out.canon HS12.out.canon (fun d => by simp only [HE12.out d, HE11.out d, HE16.out d, HE14.out d, HE15.out d, HEs.out d, HEt.out d, HEu.out d] <;> (cases Wb.hasL a d <;> cases Wb.hasL b d <;> cases Wb.hasL c d <;> rfl))) (HP13.out.1.ext (by (repeat' (first | (with_reducible assumption) | (with_reducible exact Wb.Ext.refl _) | (with_reducible refine Wb.Ext.drew ?_) | (with_reducible refine Wb.Ext.drewN ?_ _) | (with_reducible refine Wb.Ext.alloc ?_ _) | (with_reducible refine Wb.Ext.trans ?_ (by assumption)))))) (HP17.out.1.ext (by (repeat' (first | (with_reducible assumption) | (with_reducible exact Wb.Ext.refl _) | (with_reducible refine Wb.Ext.drew ?_) | (with_reducible refine Wb.Ext.drewN ?_ _) | (with_reducible refine Wb.Ext.alloc ?_ _) | (with_reducible refine Wb.Ext.trans ?_ (by assumption)))))) (by omega))
                        rintro e w18 ⟨rfl, hb18⟩
                        replace hb18 : Wb.Ext w17 w18 := Wb.Ext.trans (by (repeat' (first | (with_reducible assumption) | (with_reducible exact Wb.Ext.refl _) | (with_reducible refine Wb.Ext.drew ?_) | (with_reducible refine Wb.Ext.drewN ?_ _) | (with_reducible refine Wb.Ext.alloc ?_ _) | (with_reducible refine Wb.Ext.trans ?_ (by assumption))))) hb18
                        replace HP11 := Lib.hid (HP11.out.ext hb18)
                        replace HP12 := Lib.hid (HP12.out.ext hb18)
                        replace HP14 := Lib.hid (HP14.out.ext hb18)
                        replace HP15 := Lib.hid (HP15.out.ext hb18)
                        replace HP16 := Lib.hid (HP16.out.ext hb18)
                        have hx18 : Wb.Ext W0 w18 := Wb.Ext.trans (by (repeat' (first | (with_reducible assumption) | (with_reducible exact Wb.Ext.refl _) | (with_reducible refine Wb.Ext.drew ?_) | (with_reducible refine Wb.Ext.drewN ?_ _) | (with_reducible refine Wb.Ext.alloc ?_ _) | (with_reducible refine Wb.Ext.trans ?_ (by assumption))))) hb18
                        clear hb18
                        refine hK.out _ _ ⟨Wb.Ext.keep (w := W0) (by (repeat' (first | (with_reducible assumption) | (with_reducible exact Wb.Ext.refl _) | (with_reducible refine Wb.Ext.drew ?_) | (with_reducible refine Wb.Ext.drewN ?_ _) | (with_reducible refine Wb.Ext.alloc ?_ _) | (with_reducible refine Wb.Ext.trans ?_ (by assumption))))) zs, Wb.Ext.keep (w := W0) (by (repeat' (first | (with_reducible assumption) | (with_reducible exact Wb.Ext.refl _) | (with_reducible refine Wb.Ext.drew ?_) | (with_reducible refine Wb.Ext.drewN ?_ _) | (with_reducible refine Wb.Ext.alloc ?_ _) | (with_reducible refine Wb.Ext.trans ?_ (by assumption))))) zt, Wb.Ext.keep (w := W0) (by (repeat' (first | (with_reducible assumption) | (with_reducible exact Wb.Ext.refl _) | (with_reducible refine Wb.Ext.drew ?_) | (with_reducible refine Wb.Ext.drewN ?_ _) | (with_reducible refine Wb.Ext.alloc ?_ _) | (with_reducible refine Wb.Ext.trans ?_ (by assumption))))) zu⟩ (fun hHeld => ?_)
                        clear hK K
                        (try simp only [Act.put, List.setIfInBounds_toArray, List.set_cons_zero, List.set_cons_succ])
                        refine take_d (i := 15) (d := 46) (v := ?_) rfl rfl (by kernel_rfl) (by kernel_rfl) (by kernel_rfl) (fun _ _ _ h => h) (Or.inl ⟨by rfl, ?_⟩) (by assumption) ?_
                        rotate_left
                        · (intro w hSw; (try dsimp only at hSw); go_simp; (try with_reducible rfl))
                        (try simp only [Act.put, List.setIfInBounds_toArray, List.set_cons_zero, List.set_cons_succ])
                        refine take_d (i := 16) (d := 47) (v := ?_) rfl rfl (by kernel_rfl) (by kernel_rfl) (by kernel_rfl) (fun _ _ _ h => h) (Or.inl ⟨by rfl, ?_⟩) (by assumption) ?_
                        rotate_left
                        · (intro w hSw; (try dsimp only at hSw); go_simp; (try with_reducible rfl))
                        (try simp only [Act.put, List.setIfInBounds_toArray, List.set_cons_zero, List.set_cons_succ])
                        refine take_d (i := 17) (d := 48) (v := ?_) rfl rfl (by kernel_rfl) (by kernel_rfl) (by kernel_rfl) (fun _ _ _ h => h) (Or.inl ⟨by rfl, ?_⟩) (by assumption) ?_
                        rotate_left
                        · (intro w hSw; (try dsimp only at hSw); go_simp; (try with_reducible rfl))
                        (try simp only [Act.put, List.setIfInBounds_toArray, List.set_cons_zero, List.set_cons_succ])
                        refine take_d (i := 18) (d := 49) (v := ?_) rfl rfl (by kernel_rfl) (by kernel_rfl) (by kernel_rfl) (fun _ _ _ h => h) (Or.inl ⟨by rfl, ?_⟩) (by assumption) ?_
                        rotate_left
                        · (intro w hSw; (try dsimp only at hSw); go_simp; (try with_reducible rfl))
                        (try simp only [Act.put, List.setIfInBounds_toArray, List.set_cons_zero, List.set_cons_succ])
                        refine take_d (i := 22) (d := 53) (v := ?_) rfl rfl (by kernel_rfl) (by kernel_rfl) (by kernel_rfl) (fun _ _ _ h => h) (Or.inl ⟨by rfl, ?_⟩) (by assumption) ?_
                        rotate_left
                        · (intro w hSw; (try dsimp only at hSw); go_simp; (try with_reducible rfl))
                        (try simp only [Act.put, List.setIfInBounds_toArray, List.set_cons_zero, List.set_cons_succ])
                        refine take_d (i := 23) (d := 54) (v := ?_) rfl rfl (by kernel_rfl) (by kernel_rfl) (by kernel_rfl) (fun _ _ _ h => h) (Or.inl ⟨by rfl, ?_⟩) (by assumption) ?_
                        rotate_left
                        · (intro w hSw; (try dsimp only at hSw); go_simp; (try with_reducible rfl))
                        (try simp only [Act.put, List.setIfInBounds_toArray, List.set_cons_zero, List.set_cons_succ])
                        refine take_d (i := 25) (d := 56) (v := ?_) rfl rfl (by kernel_rfl) (by kernel_rfl) (by kernel_rfl) (fun _ _ _ h => h) (Or.inl ⟨by rfl, ?_⟩) (by assumption) ?_
                        rotate_left
                        · (intro w hSw; (try dsimp only at hSw); go_simp; (try with_reducible rfl))
                        (try simp only [Act.put, List.setIfInBounds_toArray, List.set_cons_zero, List.set_cons_succ])
                        refine wpAnyH_ready (rs := [19]) (by kernel_rfl) (by simp) ?_
                        refine AllReadyH.cons (o := _) rfl (fun K hK => ?_) ?_
                        · go_simp
                          go_at_call 18
                          go_fit (union_any _ _ t u _ (HPt.out.ext (by (repeat' (first | (with_reducible assumption) | (with_reducible exact Wb.Ext.refl _) | (with_reducible refine Wb.Ext.drew ?_) | (with_reducible refine Wb.Ext.drewN ?_ _) | (with_reducible refine Wb.Ext.alloc ?_ _) | (with_reducible refine Wb.Ext.trans ?_ (by assumption)))))) (HPu.out.ext (by (repeat' (first | (with_reducible assumption) | (with_reducible exact Wb.Ext.refl _) | (with_reducible refine Wb.Ext.drew ?_) | (with_reducible refine Wb.Ext.drewN ?_ _) | (with_reducible refine Wb.Ext.alloc ?_ _) | (with_reducible refine Wb.Ext.trans ?_ (by assumption)))))) HSt.out.canon HSu.out.canon HSt.out.bd HSu.out.bd (by omega) (by omega))
                          rintro e w19 ⟨v19, r19, rfl, hs19, hp19, hb19⟩
                          obtain ⟨sa19, sc19, rfl⟩ := hp19.1.shape
                          have HS19 := Lib.hid hs19
                          have hl19 : r19.length ≤ 80 := by have := hs19.len; (try simp only [List.length_cons, List.length_nil] at this); omega
                          have HE19 := Lib.hid (has_uni hs19)
                          replace hb19 : Wb.Ext w18 w19 := Wb.Ext.trans (by (repeat' (first | (with_reducible assumption) | (with_reducible exact Wb.Ext.refl _) | (with_reducible refine Wb.Ext.drew ?_) | (with_reducible refine Wb.Ext.drewN ?_ _) | (with_reducible refine Wb.Ext.alloc ?_ _) | (with_reducible refine Wb.Ext.trans ?_ (by assumption))))) hb19
                          replace HP11 := Lib.hid (HP11.out.ext hb19)
                          replace HP12 := Lib.hid (HP12.out.ext hb19)
                          replace HP14 := Lib.hid (HP14.out.ext hb19)
                          replace HP15 := Lib.hid (HP15.out.ext hb19)
                          replace HP16 := Lib.hid (HP16.out.ext hb19)
                          have hx19 : Wb.Ext W0 w19 := Wb.Ext.trans (by (repeat' (first | (with_reducible assumption) | (with_reducible exact Wb.Ext.refl _) | (with_reducible refine Wb.Ext.drew ?_) | (with_reducible refine Wb.Ext.drewN ?_ _) | (with_reducible refine Wb.Ext.alloc ?_ _) | (with_reducible refine Wb.Ext.trans ?_ (by assumption))))) hb19
                          clear hb19
                          have HP19 := Lib.hid hp19
                          clear hs19 hp19
                          refine hK.out _ _ ⟨Wb.Ext.keep (w := W0) (by (repeat' (first | (with_reducible assumption) | (with_reducible exact Wb.Ext.refl _) | (with_reducible refine Wb.Ext.drew ?_) | (with_reducible refine Wb.Ext.drewN ?_ _) | (with_reducible refine Wb.Ext.alloc ?_ _) | (with_reducible refine Wb.Ext.trans ?_ (by assumption))))) zs, Wb.Ext.keep (w := W0) (by (repeat' (first | (with_reducible assumption) | (with_reducible exact Wb.Ext.refl _) | (with_reducible refine Wb.Ext.drew ?_) | (with_reducible refine Wb.Ext.drewN ?_ _) | (with_reducible refine Wb.Ext.alloc ?_ _) | (with_reducible refine Wb.Ext.trans ?_ (by assumption))))) zt, Wb.Ext.keep (w := W0) (by (repeat' (first | (with_reducible assumption) | (with_reducible exact Wb.Ext.refl _) | (with_reducible refine Wb.Ext.drew ?_) | (with_reducible refine Wb.Ext.drewN ?_ _) | (with_reducible refine Wb.Ext.alloc ?_ _) | (with_reducible refine Wb.Ext.trans ?_ (by assumption))))) zu⟩ (fun hHeld => ?_)
                          clear hK K
                          (try simp only [Act.put, List.setIfInBounds_toArray, List.set_cons_zero, List.set_cons_succ])
                          refine wpAnyH_ready (rs := [20]) (by kernel_rfl) (by simp) ?_
                          refine AllReadyH.cons (o := _) rfl (fun K hK => ?_) ?_
                          · go_simp
                            go_at_call 21
                            go_fit (minus_any _ _ s r19 _ (HPs.out.ext (by (repeat' (first | (with_reducible assumption) | (with_reducible exact Wb.Ext.refl _) | (with_reducible refine Wb.Ext.drew ?_) | (with_reducible refine Wb.Ext.drewN ?_ _) | (with_reducible refine Wb.Ext.alloc ?_ _) | (with_reducible refine Wb.Ext.trans ?_ (by assumption)))))) (HP19.out.ext (by (repeat' (first | (with_reducible assumption) | (with_reducible exact Wb.Ext.refl _) | (with_reducible refine Wb.Ext.drew ?_) | (with_reducible refine Wb.Ext.drewN ?_ _) | (with_reducible refine Wb.Ext.alloc ?_ _) | (with_reducible refine Wb.Ext.trans ?_ (by assumption)))))) HSs.out.canon HS19.out.canon HSs.out.bd HS19.out.bd (by omega) (by omega))
                            rintro e w20 ⟨v20, r20, rfl, hs20, hp20, hb20⟩
                            obtain ⟨sa20, sc20, rfl⟩ := hp20.1.shape
                            have HS20 := Lib.hid hs20
                            have hl20 : r20.length ≤ 200 := by have := hs20.len; (try simp only [List.length_cons, List.length_nil] at this); omega
                            have HE20 := Lib.hid (has_min hs20)
                            replace hb20 : Wb.Ext w19 w20 := Wb.Ext.trans (by (repeat' (first | (with_reducible assumption) | (with_reducible exact Wb.Ext.refl _) | (with_reducible refine Wb.Ext.drew ?_) | (with_reducible refine Wb.Ext.drewN ?_ _) | (with_reducible refine Wb.Ext.alloc ?_ _) | (with_reducible refine Wb.Ext.trans ?_ (by assumption))))) hb20
                            replace HP11 := Lib.hid (HP11.out.ext hb20)
                            replace HP12 := Lib.hid (HP12.out.ext hb20)
                            replace HP14 := Lib.hid (HP14.out.ext hb20)
                            replace HP15 := Lib.hid (HP15.out.ext hb20)
                            replace HP16 := Lib.hid (HP16.out.ext hb20)
                            replace HP19 := Lib.hid (HP19.out.ext hb20)
                            have hx20 : Wb.Ext W0 w20 := Wb.Ext.trans (by (repeat' (first | (with_reducible assumption) | (with_reducible exact Wb.Ext.refl _) | (with_reducible refine Wb.Ext.drew ?_) | (with_reducible refine Wb.Ext.drewN ?_ _) | (with_reducible refine Wb.Ext.alloc ?_ _) | (with_reducible refine Wb.Ext.trans ?_ (by assumption))))) hb20
                            clear hb20
                            have HP20 := Lib.hid hp20
                            clear hs20 hp20
                            refine hK.out _ _ ⟨Wb.Ext.keep (w := W0) (by (repeat' (first | (with_reducible assumption) | (with_reducible exact Wb.Ext.refl _) | (with_reducible refine Wb.Ext.drew ?_) | (with_reducible refine Wb.Ext.drewN ?_ _) | (with_reducible refine Wb.Ext.alloc ?_ _) | (with_reducible refine Wb.Ext.trans ?_ (by assumption))))) zs, Wb.Ext.keep (w := W0) (by (repeat' (first | (with_reducible assumption) | (with_reducible exact Wb.Ext.refl _) | (with_reducible refine Wb.Ext.drew ?_) | (with_reducible refine Wb.Ext.drewN ?_ _) | (with_reducible refine Wb.Ext.alloc ?_ _) | (with_reducible refine Wb.Ext.trans ?_ (by assumption))))) zt, Wb.Ext.keep (w := W0) (by (repeat' (first | (with_reducible assumption) | (with_reducible exact Wb.Ext.refl _) | (with_reducible refine Wb.Ext.drew ?_) | (with_reducible refine Wb.Ext.drewN ?_ _) | (with_reducible refine Wb.Ext.alloc ?_ _) | (with_reducible refine Wb.Ext.trans ?_ (by assumption))))) zu⟩ (fun hHeld => ?_)
                            clear hK K
                            (try simp only [Act.put, List.setIfInBounds_toArray, List.set_cons_zero, List.set_cons_succ])
                            refine wpAnyH_ready (rs := [21]) (by kernel_rfl) (by simp) ?_
                            refine AllReadyH.cons (o := _) rfl (fun K hK => ?_) ?_
                            · go_simp
                              go_at_call 17
                              go_fit (all_any _ r20 _ (HP20.out.ext (by (repeat' (first | (with_reducible assumption) | (with_reducible exact Wb.Ext.refl _) | (with_reducible refine Wb.Ext.drew ?_) | (with_reducible refine Wb.Ext.drewN ?_ _) | (with_reducible refine Wb.Ext.alloc ?_ _) | (with_reducible refine Wb.Ext.trans ?_ (by assumption)))))) (by omega))
                              rintro e w21 ⟨v21, rfl, hp21, hb21⟩
                              obtain ⟨sa21, sc21, rfl⟩ := hp21.1.shape
                              replace hb21 : Wb.Ext w20 w21 := Wb.Ext.trans (by (repeat' (first | (with_reducible assumption) | (with_reducible exact Wb.Ext.refl _) | (with_reducible refine Wb.Ext.drew ?_) | (with_reducible refine Wb.Ext.drewN ?_ _) | (with_reducible refine Wb.Ext.alloc ?_ _) | (with_reducible refine Wb.Ext.trans ?_ (by assumption))))) hb21
                              replace HP11 := Lib.hid (HP11.out.ext hb21)
                              replace HP12 := Lib.hid (HP12.out.ext hb21)
                              replace HP14 := Lib.hid (HP14.out.ext hb21)
                              replace HP15 := Lib.hid (HP15.out.ext hb21)
                              replace HP16 := Lib.hid (HP16.out.ext hb21)
                              replace HP19 := Lib.hid (HP19.out.ext hb21)
                              replace HP20 := Lib.hid (HP20.out.ext hb21)
                              have hx21 : Wb.Ext W0 w21 := Wb.Ext.trans (by (repeat' (first | (with_reducible assumption) | (with_reducible exact Wb.Ext.refl _) | (with_reducible refine Wb.Ext.drew ?_) | (with_reducible refine Wb.Ext.drewN ?_ _) | (with_reducible refine Wb.Ext.alloc ?_ _) | (with_reducible refine Wb.Ext.trans ?_ (by assumption))))) hb21
                              clear hb21
                              have HP21 := Lib.hid hp21
                              clear hp21
                              refine hK.out _ _ ⟨Wb.Ext.keep (w := W0) (by (repeat' (first | (with_reducible assumption) | (with_reducible exact Wb.Ext.refl _) | (with_reducible refine Wb.Ext.drew ?_) | (with_reducible refine Wb.Ext.drewN ?_ _) | (with_reducible refine Wb.Ext.alloc ?_ _) | (with_reducible refine Wb.Ext.trans ?_ (by assumption))))) zs, Wb.Ext.keep (w := W0) (by (repeat' (first | (with_reducible assumption) | (with_reducible exact Wb.Ext.refl _) | (with_reducible refine Wb.Ext.drew ?_) | (with_reducible refine Wb.Ext.drewN ?_ _) | (with_reducible refine Wb.Ext.alloc ?_ _) | (with_reducible refine Wb.Ext.trans ?_ (by assumption))))) zt, Wb.Ext.keep (w := W0) (by (repeat' (first | (with_reducible assumption) | (with_reducible exact Wb.Ext.refl _) | (with_reducible refine Wb.Ext.drew ?_) | (with_reducible refine Wb.Ext.drewN ?_ _) | (with_reducible refine Wb.Ext.alloc ?_ _) | (with_reducible refine Wb.Ext.trans ?_ (by assumption))))) zu⟩ (fun hHeld => ?_)
                              clear hK K
                              (try simp only [Act.put, List.setIfInBounds_toArray, List.set_cons_zero, List.set_cons_succ])
                              refine wpAnyH_ready (rs := [24]) (by kernel_rfl) (by simp) ?_
                              refine AllReadyH.cons (o := _) rfl (fun K hK => ?_) ?_
                              · go_simp
                                go_at_call 21
                                go_fit (minus_any _ _ s t _ (HPs.out.ext (by (repeat' (first | (with_reducible assumption) | (with_reducible exact Wb.Ext.refl _) | (with_reducible refine Wb.Ext.drew ?_) | (with_reducible refine Wb.Ext.drewN ?_ _) | (with_reducible refine Wb.Ext.alloc ?_ _) | (with_reducible refine Wb.Ext.trans ?_ (by assumption)))))) (HPt.out.ext (by (repeat' (first | (with_reducible assumption) | (with_reducible exact Wb.Ext.refl _) | (with_reducible refine Wb.Ext.drew ?_) | (with_reducible refine Wb.Ext.drewN ?_ _) | (with_reducible refine Wb.Ext.alloc ?_ _) | (with_reducible refine Wb.Ext.trans ?_ (by assumption)))))) HSs.out.canon HSt.out.canon HSs.out.bd HSt.out.bd (by omega) (by omega))
                                rintro e w22 ⟨v22, r22, rfl, hs22, hp22, hb22⟩
                                obtain ⟨sa22, sc22, rfl⟩ := hp22.1.shape
                                have HS22 := Lib.hid hs22
                                have hl22 : r22.length ≤ 80 := by have := hs22.len; (try simp only [List.length_cons, List.length_nil] at this); omega
                                have HE22 := Lib.hid (has_min hs22)
                                replace hb22 : Wb.Ext w21 w22 := Wb.Ext.trans (by (repeat' (first | (with_reducible assumption) | (with_reducible exact Wb.Ext.refl _) | (with_reducible refine Wb.Ext.drew ?_) | (with_reducible refine Wb.Ext.drewN ?_ _) | (with_reducible refine Wb.Ext.alloc ?_ _) | (with_reducible refine Wb.Ext.trans ?_ (by assumption))))) hb22
                                replace HP11 := Lib.hid (HP11.out.ext hb22)
                                replace HP12 := Lib.hid (HP12.out.ext hb22)
                                replace HP14 := Lib.hid (HP14.out.ext hb22)
                                replace HP15 := Lib.hid (HP15.out.ext hb22)
                                replace HP16 := Lib.hid (HP16.out.ext hb22)
                                replace HP19 := Lib.hid (HP19.out.ext hb22)
                                replace HP20 := Lib.hid (HP20.out.ext hb22)
                                replace HP21 := Lib.hid (HP21.out.ext hb22)
                                have hx22 : Wb.Ext W0 w22 := Wb.Ext.trans (by (repeat' (first | (with_reducible assumption) | (with_reducible exact Wb.Ext.refl _) | (with_reducible refine Wb.Ext.drew ?_) | (with_reducible refine Wb.Ext.drewN ?_ _) | (with_reducible refine Wb.Ext.alloc ?_ _) | (with_reducible refine Wb.Ext.trans ?_ (by assumption))))) hb22
                                clear hb22
                                have HP22 := Lib.hid hp22
                                clear hs22 hp22
                                refine hK.out _ _ ⟨Wb.Ext.keep (w := W0) (by (repeat' (first | (with_reducible assumption) | (with_reducible exact Wb.Ext.refl _) | (with_reducible refine Wb.Ext.drew ?_) | (with_reducible refine Wb.Ext.drewN ?_ _) | (with_reducible refine Wb.Ext.alloc ?_ _) | (with_reducible refine Wb.Ext.trans ?_ (by assumption))))) zs, Wb.Ext.keep (w := W0) (by (repeat' (first | (with_reducible assumption) | (with_reducible exact Wb.Ext.refl _) | (with_reducible refine Wb.Ext.drew ?_) | (with_reducible refine Wb.Ext.drewN ?_ _) | (with_reducible refine Wb.Ext.alloc ?_ _) | (with_reducible refine Wb.Ext.trans ?_ (by assumption))))) zt, Wb.Ext.keep (w := W0) (by (repeat' (first | (with_reducible assumption) | (with_reducible exact Wb.Ext.refl _) | (with_reducible refine Wb.Ext.drew ?_) | (with_reducible refine Wb.Ext.drewN ?_ _) | (with_reducible refine Wb.Ext.alloc ?_ _) | (with_reducible refine Wb.Ext.trans ?_ (by assumption))))) zu⟩ (fun hHeld => ?_)
                                clear hK K
                                (try simp only [Act.put, List.setIfInBounds_toArray, List.set_cons_zero, List.set_cons_succ])
                                refine wpAnyH_ready (rs := [26]) (by kernel_rfl) (by simp) ?_
                                refine AllReadyH.cons (o := _) rfl (fun K hK => ?_) ?_
                                · go_simp
                                  go_at_call 21
                                  go_fit (minus_any _ _ r22 u _ (HP22.out.ext (by (repeat' (first | (with_reducible assumption) | (with_reducible exact Wb.Ext.refl _) | (with_reducible refine Wb.Ext.drew ?_) | (with_reducible refine Wb.Ext.drewN ?_ _) | (with_reducible refine Wb.Ext.alloc ?_ _) | (with_reducible refine Wb.Ext.trans ?_ (by assumption)))))) (HPu.out.ext (by (repeat' (first | (with_reducible assumption) | (with_reducible exact Wb.Ext.refl _) | (with_reducible refine Wb.Ext.drew ?_) | (with_reducible refine Wb.Ext.drewN ?_ _) | (with_reducible refine Wb.Ext.alloc ?_ _) | (with_reducible refine Wb.Ext.trans ?_ (by assumption)))))) HS22.out.canon HSu.out.canon HS22.out.bd HSu.out.bd (by omega) (by omega))
                                  rintro e w23 ⟨v23, r23, rfl, hs23, hp23, hb23⟩
                                  obtain ⟨sa23, sc23, rfl⟩ := hp23.1.shape
                                  have HS23 := Lib.hid hs23
                                  have hl23 : r23.length ≤ 200 := by have := hs23.len; (try simp only [List.length_cons, List.length_nil] at this); omega
                                  have HE23 := Lib.hid (has_min hs23)
                                  replace hb23 : Wb.Ext w22 w23 := Wb.Ext.trans (by (repeat' (first | (with_reducible assumption) | (with_reducible exact Wb.Ext.refl _) | (with_reducible refine Wb.Ext.drew ?_) | (with_reducible refine Wb.Ext.drewN ?_ _) | (with_reducible refine Wb.Ext.alloc ?_ _) | (with_reducible refine Wb.Ext.trans ?_ (by assumption))))) hb23
                                  replace HP11 := Lib.hid (HP11.out.ext hb23)
                                  replace HP12 := Lib.hid (HP12.out.ext hb23)
                                  replace HP14 := Lib.hid (HP14.out.ext hb23)
                                  replace HP15 := Lib.hid (HP15.out.ext hb23)
                                  replace HP16 := Lib.hid (HP16.out.ext hb23)
                                  replace HP19 := Lib.hid (HP19.out.ext hb23)
                                  replace HP20 := Lib.hid (HP20.out.ext hb23)
                                  replace HP21 := Lib.hid (HP21.out.ext hb23)
                                  replace HP22 := Lib.hid (HP22.out.ext hb23)
                                  have hx23 : Wb.Ext W0 w23 := Wb.Ext.trans (by (repeat' (first | (with_reducible assumption) | (with_reducible exact Wb.Ext.refl _) | (with_reducible refine Wb.Ext.drew ?_) | (with_reducible refine Wb.Ext.drewN ?_ _) | (with_reducible refine Wb.Ext.alloc ?_ _) | (with_reducible refine Wb.Ext.trans ?_ (by assumption))))) hb23
                                  clear hb23
                                  have HP23 := Lib.hid hp23
                                  clear hs23 hp23
                                  refine hK.out _ _ ⟨Wb.Ext.keep (w := W0) (by (repeat' (first | (with_reducible assumption) | (with_reducible exact Wb.Ext.refl _) | (with_reducible refine Wb.Ext.drew ?_) | (with_reducible refine Wb.Ext.drewN ?_ _) | (with_reducible refine Wb.Ext.alloc ?_ _) | (with_reducible refine Wb.Ext.trans ?_ (by assumption))))) zs, Wb.Ext.keep (w := W0) (by (repeat' (first | (with_reducible assumption) | (with_reducible exact Wb.Ext.refl _) | (with_reducible refine Wb.Ext.drew ?_) | (with_reducible refine Wb.Ext.drewN ?_ _) | (with_reducible refine Wb.Ext.alloc ?_ _) | (with_reducible refine Wb.Ext.trans ?_ (by assumption))))) zt, Wb.Ext.keep (w := W0) (by (repeat' (first | (with_reducible assumption) | (with_reducible exact Wb.Ext.refl _) | (with_reducible refine Wb.Ext.drew ?_) | (with_reducible refine Wb.Ext.drewN ?_ _) | (with_reducible refine Wb.Ext.alloc ?_ _) | (with_reducible refine Wb.Ext.trans ?_ (by assumption))))) zu⟩ (fun hHeld => ?_)
                                  clear hK K
                                  (try simp only [Act.put, List.setIfInBounds_toArray, List.set_cons_zero, List.set_cons_succ])
                                  refine wpAnyH_ready (rs := [27]) (by kernel_rfl) (by simp) ?_
                                  refine AllReadyH.cons (o := _) rfl (fun K hK => ?_) ?_
                                  · go_simp
                                    go_at_call 17
                                    go_fit (all_any _ r23 _ (HP23.out.ext (by (repeat' (first | (with_reducible assumption) | (with_reducible exact Wb.Ext.refl _) | (with_reducible refine Wb.Ext.drew ?_) | (with_reducible refine Wb.Ext.drewN ?_ _) | (with_reducible refine Wb.Ext.alloc ?_ _) | (with_reducible refine Wb.Ext.trans ?_ (by assumption)))))) (by omega))
                                    rintro e w24 ⟨v24, rfl, hp24, hb24⟩
                                    obtain ⟨sa24, sc24, rfl⟩ := hp24.1.shape
                                    replace hb24 : Wb.Ext w23 w24 := Wb.Ext.trans (by (repeat' (first | (with_reducible assumption) | (with_reducible exact Wb.Ext.refl _) | (with_reducible refine Wb.Ext.drew ?_) | (with_reducible refine Wb.Ext.drewN ?_ _) | (with_reducible refine Wb.Ext.alloc ?_ _) | (with_reducible refine Wb.Ext.trans ?_ (by assumption))))) hb24
                                    replace HP11 := Lib.hid (HP11.out.ext hb24)
                                    replace HP12 := Lib.hid (HP12.out.ext hb24)
                                    replace HP14 := Lib.hid (HP14.out.ext hb24)
                                    replace HP15 := Lib.hid (HP15.out.ext hb24)
                                    replace HP16 := Lib.hid (HP16.out.ext hb24)
                                    replace HP19 := Lib.hid (HP19.out.ext hb24)
                                    replace HP20 := Lib.hid (HP20.out.ext hb24)
                                    replace HP21 := Lib.hid (HP21.out.ext hb24)
                                    replace HP22 := Lib.hid (HP22.out.ext hb24)
                                    replace HP23 := Lib.hid (HP23.out.ext hb24)
                                    have hx24 : Wb.Ext W0 w24 := Wb.Ext.trans (by (repeat' (first | (with_reducible assumption) | (with_reducible exact Wb.Ext.refl _) | (with_reducible refine Wb.Ext.drew ?_) | (with_reducible refine Wb.Ext.drewN ?_ _) | (with_reducible refine Wb.Ext.alloc ?_ _) | (with_reducible refine Wb.Ext.trans ?_ (by assumption))))) hb24
                                    clear hb24
                                    have HP24 := Lib.hid hp24
                                    clear hp24
                                    refine hK.out _ _ ⟨Wb.Ext.keep (w := W0) (by (repeat' (first | (with_reducible assumption) | (with_reducible exact Wb.Ext.refl _) | (with_reducible refine Wb.Ext.drew ?_) | (with_reducible refine Wb.Ext.drewN ?_ _) | (with_reducible refine Wb.Ext.alloc ?_ _) | (with_reducible refine Wb.Ext.trans ?_ (by assumption))))) zs, Wb.Ext.keep (w := W0) (by (repeat' (first | (with_reducible assumption) | (with_reducible exact Wb.Ext.refl _) | (with_reducible refine Wb.Ext.drew ?_) | (with_reducible refine Wb.Ext.drewN ?_ _) | (with_reducible refine Wb.Ext.alloc ?_ _) | (with_reducible refine Wb.Ext.trans ?_ (by assumption))))) zt, Wb.Ext.keep (w := W0) (by (repeat' (first | (with_reducible assumption) | (with_reducible exact Wb.Ext.refl _) | (with_reducible refine Wb.Ext.drew ?_) | (with_reducible refine Wb.Ext.drewN ?_ _) | (with_reducible refine Wb.Ext.alloc ?_ _) | (with_reducible refine Wb.Ext.trans ?_ (by assumption))))) zu⟩ (fun hHeld => ?_)
                                    clear hK K
                                    (try simp only [Act.put, List.setIfInBounds_toArray, List.set_cons_zero, List.set_cons_succ])
                                    refine wpAnyH_ready (rs := [28]) (by kernel_rfl) (by simp) ?_
                                    refine AllReadyH.cons (o := _) rfl (fun K hK => ?_) ?_
                                    · go_simp
                                      go_at_call 16
                                      go_fit (same2_any _ _ r20 r23 _ (canon_eq HS23.out.canon HS20.out.canon (fun d => by simp only [HE20.out d, HE19.out d, HE23.out d, HE22.out d, HEs.out d, HEt.out d, HEu.out d] <;> (cases Wb.hasL a d <;> cases Wb.hasL b d <;> cases Wb.hasL c d <;> rfl))) (HP21.out.1.ext (by (repeat' (first | (with_reducible assumption) | (with_reducible exact Wb.Ext.refl _) | (with_reducible refine Wb.Ext.drew ?_) | (with_reducible refine Wb.Ext.drewN ?_ _) | (with_reducible refine Wb.Ext.alloc ?_ _) | (with_reducible refine Wb.Ext.trans ?_ (by assumption)))))) (HP24.out.1.ext (by (repeat' (first | (with_reducible assumption) | (with_reducible exact Wb.Ext.refl _) | (with_reducible refine Wb.Ext.drew ?_) | (with_reducible refine Wb.Ext.drewN ?_ _) | (with_reducible refine Wb.Ext.alloc ?_ _) | (with_reducible refine Wb.Ext.trans ?_ (by assumption)))))) (by omega))
                                      rintro e w25 ⟨rfl, hb25⟩
                                      replace hb25 : Wb.Ext w24 w25 := Wb.Ext.trans (by (repeat' (first | (with_reducible assumption) | (with_reducible exact Wb.Ext.refl _) | (with_reducible refine Wb.Ext.drew ?_) | (with_reducible refine Wb.Ext.drewN ?_ _) | (with_reducible refine Wb.Ext.alloc ?_ _) | (with_reducible refine Wb.Ext.trans ?_ (by assumption))))) hb25
                                      replace HP11 := Lib.hid (HP11.out.ext hb25)
                                      replace HP12 := Lib.hid (HP12.out.ext hb25)
                                      replace HP14 := Lib.hid (HP14.out.ext hb25)
                                      replace HP15 := Lib.hid (HP15.out.ext hb25)
                                      replace HP16 := Lib.hid (HP16.out.ext hb25)
                                      replace HP19 := Lib.hid (HP19.out.ext hb25)
                                      replace HP20 := Lib.hid (HP20.out.ext hb25)
                                      replace HP22 := Lib.hid (HP22.out.ext hb25)
                                      replace HP23 := Lib.hid (HP23.out.ext hb25)
                                      have hx25 : Wb.Ext W0 w25 := Wb.Ext.trans (by (repeat' (first | (with_reducible assumption) | (with_reducible exact Wb.Ext.refl _) | (with_reducible refine Wb.Ext.drew ?_) | (with_reducible refine Wb.Ext.drewN ?_ _) | (with_reducible refine Wb.Ext.alloc ?_ _) | (with_reducible refine Wb.Ext.trans ?_ (by assumption))))) hb25
                                      clear hb25
                                      refine hK.out _ _ ⟨Wb.Ext.keep (w := W0) (by (repeat' (first | (with_reducible assumption) | (with_reducible exact Wb.Ext.refl _) | (with_reducible refine Wb.Ext.drew ?_) | (with_reducible refine Wb.Ext.drewN ?_ _) | (with_reducible refine Wb.Ext.alloc ?_ _) | (with_reducible refine Wb.Ext.trans ?_ (by assumption))))) zs, Wb.Ext.keep (w := W0) (by (repeat' (first | (with_reducible assumption) | (with_reducible exact Wb.Ext.refl _) | (with_reducible refine Wb.Ext.drew ?_) | (with_reducible refine Wb.Ext.drewN ?_ _) | (with_reducible refine Wb.Ext.alloc ?_ _) | (with_reducible refine Wb.Ext.trans ?_ (by assumption))))) zt, Wb.Ext.keep (w := W0) (by (repeat' (first | (with_reducible assumption) | (with_reducible exact Wb.Ext.refl _) | (with_reducible refine Wb.Ext.drew ?_) | (with_reducible refine Wb.Ext.drewN ?_ _) | (with_reducible refine Wb.Ext.alloc ?_ _) | (with_reducible refine Wb.Ext.trans ?_ (by assumption))))) zu⟩ (fun hHeld => ?_)
                                      clear hK K
                                      (try simp only [Act.put, List.setIfInBounds_toArray, List.set_cons_zero, List.set_cons_succ])
                                      refine take_d (i := 29) (d := 60) (v := ?_) rfl rfl (by kernel_rfl) (by kernel_rfl) (by kernel_rfl) (fun _ _ _ h => h) (Or.inl ⟨by rfl, ?_⟩) (by assumption) ?_
                                      rotate_left
                                      · (intro w hSw; (try dsimp only at hSw); go_simp; (try with_reducible rfl))
                                      (try simp only [Act.put, List.setIfInBounds_toArray, List.set_cons_zero, List.set_cons_succ])
                                      refine take_d (i := 30) (d := 61) (v := ?_) rfl rfl (by kernel_rfl) (by kernel_rfl) (by kernel_rfl) (fun _ _ _ h => h) (Or.inl ⟨by rfl, ?_⟩) (by assumption) ?_
                                      rotate_left
                                      · (intro w hSw; (try dsimp only at hSw); go_simp; (try with_reducible rfl))
                                      (try simp only [Act.put, List.setIfInBounds_toArray, List.set_cons_zero, List.set_cons_succ])
                                      refine take_d (i := 31) (d := 62) (v := ?_) rfl rfl (by kernel_rfl) (by kernel_rfl) (by kernel_rfl) (fun _ _ _ h => h) (Or.inl ⟨by rfl, ?_⟩) (by assumption) ?_
                                      rotate_left
                                      · (intro w hSw; (try dsimp only at hSw); go_simp; (try with_reducible rfl))
                                      (try simp only [Act.put, List.setIfInBounds_toArray, List.set_cons_zero, List.set_cons_succ])
                                      refine take_d (i := 32) (d := 63) (v := ?_) rfl rfl (by kernel_rfl) (by kernel_rfl) (by kernel_rfl) (fun _ _ _ h => h) (Or.inl ⟨by rfl, ?_⟩) (by assumption) ?_
                                      rotate_left
                                      · (intro w hSw; (try dsimp only at hSw); go_simp; (try with_reducible rfl))
                                      (try simp only [Act.put, List.setIfInBounds_toArray, List.set_cons_zero, List.set_cons_succ])
                                      refine take_d (i := 33) (d := 64) (v := ?_) rfl rfl (by kernel_rfl) (by kernel_rfl) (by kernel_rfl) (fun _ _ _ h => h) (Or.inl ⟨by rfl, ?_⟩) (by assumption) ?_
                                      rotate_left
                                      · (intro w hSw; (try dsimp only at hSw); go_simp; (try with_reducible rfl))
                                      (try simp only [Act.put, List.setIfInBounds_toArray, List.set_cons_zero, List.set_cons_succ])
                                      refine take_d (i := 37) (d := 68) (v := ?_) rfl rfl (by kernel_rfl) (by kernel_rfl) (by kernel_rfl) (fun _ _ _ h => h) (Or.inl ⟨by rfl, ?_⟩) (by assumption) ?_
                                      rotate_left
                                      · (intro w hSw; (try dsimp only at hSw); go_simp; (try with_reducible rfl))
                                      (try simp only [Act.put, List.setIfInBounds_toArray, List.set_cons_zero, List.set_cons_succ])
                                      refine take_d (i := 38) (d := 69) (v := ?_) rfl rfl (by kernel_rfl) (by kernel_rfl) (by kernel_rfl) (fun _ _ _ h => h) (Or.inl ⟨by rfl, ?_⟩) (by assumption) ?_
                                      rotate_left
                                      · (intro w hSw; (try dsimp only at hSw); go_simp; (try with_reducible rfl))
                                      (try simp only [Act.put, List.setIfInBounds_toArray, List.set_cons_zero, List.set_cons_succ])
                                      refine take_d (i := 40) (d := 71) (v := ?_) rfl rfl (by kernel_rfl) (by kernel_rfl) (by kernel_rfl) (fun _ _ _ h => h) (Or.inl ⟨by rfl, ?_⟩) (by assumption) ?_
                                      rotate_left
                                      · (intro w hSw; (try dsimp only at hSw); go_simp; (try with_reducible rfl))
                                      (try simp only [Act.put, List.setIfInBounds_toArray, List.set_cons_zero, List.set_cons_succ])
                                      refine take_d (i := 41) (d := 72) (v := ?_) rfl rfl (by kernel_rfl) (by kernel_rfl) (by kernel_rfl) (fun _ _ _ h => h) (Or.inl ⟨by rfl, ?_⟩) (by assumption) ?_
                                      rotate_left
                                      · (intro w hSw; (try dsimp only at hSw); go_simp; (try with_reducible rfl))
                                      (try simp only [Act.put, List.setIfInBounds_toArray, List.set_cons_zero, List.set_cons_succ])
                                      refine wpAnyH_ready (rs := [34]) (by kernel_rfl) (by simp) ?_
                                      refine AllReadyH.cons (o := _) rfl (fun K hK => ?_) ?_
                                      · go_simp
                                        go_at_call 20
                                        go_fit (meet_any _ _ t u _ (HPt.out.ext (by (repeat' (first | (with_reducible assumption) | (with_reducible exact Wb.Ext.refl _) | (with_reducible refine Wb.Ext.drew ?_) | (with_reducible refine Wb.Ext.drewN ?_ _) | (with_reducible refine Wb.Ext.alloc ?_ _) | (with_reducible refine Wb.Ext.trans ?_ (by assumption)))))) (HPu.out.ext (by (repeat' (first | (with_reducible assumption) | (with_reducible exact Wb.Ext.refl _) | (with_reducible refine Wb.Ext.drew ?_) | (with_reducible refine Wb.Ext.drewN ?_ _) | (with_reducible refine Wb.Ext.alloc ?_ _) | (with_reducible refine Wb.Ext.trans ?_ (by assumption)))))) HSt.out.canon HSu.out.canon HSt.out.bd HSu.out.bd (by omega) (by omega))
                                        rintro e w26 ⟨v26, r26, rfl, hs26, hp26, hb26⟩
                                        obtain ⟨sa26, sc26, rfl⟩ := hp26.1.shape
                                        have HS26 := Lib.hid hs26
                                        have hl26 : r26.length ≤ 80 := by have := hs26.len; (try simp only [List.length_cons, List.length_nil] at this); omega
                                        have HE26 := Lib.hid (has_met hs26)
                                        replace hb26 : Wb.Ext w25 w26 := Wb.Ext.trans (by (repeat' (first | (with_reducible assumption) | (with_reducible exact Wb.Ext.refl _) | (with_reducible refine Wb.Ext.drew ?_) | (with_reducible refine Wb.Ext.drewN ?_ _) | (with_reducible refine Wb.Ext.alloc ?_ _) | (with_reducible refine Wb.Ext.trans ?_ (by assumption))))) hb26
                                        replace HP11 := Lib.hid (HP11.out.ext hb26)
                                        replace HP12 := Lib.hid (HP12.out.ext hb26)
                                        replace HP14 := Lib.hid (HP14.out.ext hb26)
                                        replace HP15 := Lib.hid (HP15.out.ext hb26)
                                        replace HP16 := Lib.hid (HP16.out.ext hb26)
                                        replace HP19 := Lib.hid (HP19.out.ext hb26)
                                        replace HP20 := Lib.hid (HP20.out.ext hb26)
                                        replace HP22 := Lib.hid (HP22.out.ext hb26)
                                        replace HP23 := Lib.hid (HP23.out.ext hb26)
                                        have hx26 : Wb.Ext W0 w26 := Wb.Ext.trans (by (repeat' (first | (with_reducible assumption) | (with_reducible exact Wb.Ext.refl _) | (with_reducible refine Wb.Ext.drew ?_) | (with_reducible refine Wb.Ext.drewN ?_ _) | (with_reducible refine Wb.Ext.alloc ?_ _) | (with_reducible refine Wb.Ext.trans ?_ (by assumption))))) hb26
                                        clear hb26
                                        have HP26 := Lib.hid hp26
                                        clear hs26 hp26
                                        refine hK.out _ _ ⟨Wb.Ext.keep (w := W0) (by (repeat' (first | (with_reducible assumption) | (with_reducible exact Wb.Ext.refl _) | (with_reducible refine Wb.Ext.drew ?_) | (with_reducible refine Wb.Ext.drewN ?_ _) | (with_reducible refine Wb.Ext.alloc ?_ _) | (with_reducible refine Wb.Ext.trans ?_ (by assumption))))) zs, Wb.Ext.keep (w := W0) (by (repeat' (first | (with_reducible assumption) | (with_reducible exact Wb.Ext.refl _) | (with_reducible refine Wb.Ext.drew ?_) | (with_reducible refine Wb.Ext.drewN ?_ _) | (with_reducible refine Wb.Ext.alloc ?_ _) | (with_reducible refine Wb.Ext.trans ?_ (by assumption))))) zt, Wb.Ext.keep (w := W0) (by (repeat' (first | (with_reducible assumption) | (with_reducible exact Wb.Ext.refl _) | (with_reducible refine Wb.Ext.drew ?_) | (with_reducible refine Wb.Ext.drewN ?_ _) | (with_reducible refine Wb.Ext.alloc ?_ _) | (with_reducible refine Wb.Ext.trans ?_ (by assumption))))) zu⟩ (fun hHeld => ?_)
                                        clear hK K
                                        (try simp only [Act.put, List.setIfInBounds_toArray, List.set_cons_zero, List.set_cons_succ])
                                        refine wpAnyH_ready (rs := [35]) (by kernel_rfl) (by simp) ?_
                                        refine AllReadyH.cons (o := _) rfl (fun K hK => ?_) ?_
                                        · go_simp
                                          go_at_call 21
                                          go_fit (minus_any _ _ s r26 _ (HPs.out.ext (by (repeat' (first | (with_reducible assumption) | (with_reducible exact Wb.Ext.refl _) | (with_reducible refine Wb.Ext.drew ?_) | (with_reducible refine Wb.Ext.drewN ?_ _) | (with_reducible refine Wb.Ext.alloc ?_ _) | (with_reducible refine Wb.Ext.trans ?_ (by assumption)))))) (HP26.out.ext (by (repeat' (first | (with_reducible assumption) | (with_reducible exact Wb.Ext.refl _) | (with_reducible refine Wb.Ext.drew ?_) | (with_reducible refine Wb.Ext.drewN ?_ _) | (with_reducible refine Wb.Ext.alloc ?_ _) | (with_reducible refine Wb.Ext.trans ?_ (by assumption)))))) HSs.out.canon HS26.out.canon HSs.out.bd HS26.out.bd (by omega) (by omega))
                                          rintro e w27 ⟨v27, r27, rfl, hs27, hp27, hb27⟩
                                          obtain ⟨sa27, sc27, rfl⟩ := hp27.1.shape
                                          have HS27 := Lib.hid hs27
                                          have hl27 : r27.length ≤ 200 := by have := hs27.len; (try simp only [List.length_cons, List.length_nil] at this); omega
                                          have HE27 := Lib.hid (has_min hs27)
                                          replace hb27 : Wb.Ext w26 w27 := Wb.Ext.trans (by (repeat' (first | (with_reducible assumption) | (with_reducible exact Wb.Ext.refl _) | (with_reducible refine Wb.Ext.drew ?_) | (with_reducible refine Wb.Ext.drewN ?_ _) | (with_reducible refine Wb.Ext.alloc ?_ _) | (with_reducible refine Wb.Ext.trans ?_ (by assumption))))) hb27
                                          replace HP11 := Lib.hid (HP11.out.ext hb27)
                                          replace HP12 := Lib.hid (HP12.out.ext hb27)
                                          replace HP14 := Lib.hid (HP14.out.ext hb27)
                                          replace HP15 := Lib.hid (HP15.out.ext hb27)
                                          replace HP16 := Lib.hid (HP16.out.ext hb27)
                                          replace HP19 := Lib.hid (HP19.out.ext hb27)
                                          replace HP20 := Lib.hid (HP20.out.ext hb27)
                                          replace HP22 := Lib.hid (HP22.out.ext hb27)
                                          replace HP23 := Lib.hid (HP23.out.ext hb27)
                                          replace HP26 := Lib.hid (HP26.out.ext hb27)
                                          have hx27 : Wb.Ext W0 w27 := Wb.Ext.trans (by (repeat' (first | (with_reducible assumption) | (with_reducible exact Wb.Ext.refl _) | (with_reducible refine Wb.Ext.drew ?_) | (with_reducible refine Wb.Ext.drewN ?_ _) | (with_reducible refine Wb.Ext.alloc ?_ _) | (with_reducible refine Wb.Ext.trans ?_ (by assumption))))) hb27
                                          clear hb27
                                          have HP27 := Lib.hid hp27
                                          clear hs27 hp27
                                          refine hK.out _ _ ⟨Wb.Ext.keep (w := W0) (by (repeat' (first | (with_reducible assumption) | (with_reducible exact Wb.Ext.refl _) | (with_reducible refine Wb.Ext.drew ?_) | (with_reducible refine Wb.Ext.drewN ?_ _) | (with_reducible refine Wb.Ext.alloc ?_ _) | (with_reducible refine Wb.Ext.trans ?_ (by assumption))))) zs, Wb.Ext.keep (w := W0) (by (repeat' (first | (with_reducible assumption) | (with_reducible exact Wb.Ext.refl _) | (with_reducible refine Wb.Ext.drew ?_) | (with_reducible refine Wb.Ext.drewN ?_ _) | (with_reducible refine Wb.Ext.alloc ?_ _) | (with_reducible refine Wb.Ext.trans ?_ (by assumption))))) zt, Wb.Ext.keep (w := W0) (by (repeat' (first | (with_reducible assumption) | (with_reducible exact Wb.Ext.refl _) | (with_reducible refine Wb.Ext.drew ?_) | (with_reducible refine Wb.Ext.drewN ?_ _) | (with_reducible refine Wb.Ext.alloc ?_ _) | (with_reducible refine Wb.Ext.trans ?_ (by assumption))))) zu⟩ (fun hHeld => ?_)
                                          clear hK K
                                          (try simp only [Act.put, List.setIfInBounds_toArray, List.set_cons_zero, List.set_cons_succ])
                                          refine wpAnyH_ready (rs := [36]) (by kernel_rfl) (by simp) ?_
                                          refine AllReadyH.cons (o := _) rfl (fun K hK => ?_) ?_
                                          · go_simp
                                            go_at_call 17
                                            go_fit (all_any _ r27 _ (HP27.out.ext (by (repeat' (first | (with_reducible assumption) | (with_reducible exact Wb.Ext.refl _) | (with_reducible refine Wb.Ext.drew ?_) | (with_reducible refine Wb.Ext.drewN ?_ _) | (with_reducible refine Wb.Ext.alloc ?_ _) | (with_reducible refine Wb.Ext.trans ?_ (by assumption)))))) (by omega))
                                            rintro e w28 ⟨v28, rfl, hp28, hb28⟩
                                            obtain ⟨sa28, sc28, rfl⟩ := hp28.1.shape
                                            replace hb28 : Wb.Ext w27 w28 := Wb.Ext.trans (by (repeat' (first | (with_reducible assumption) | (with_reducible exact Wb.Ext.refl _) | (with_reducible refine Wb.Ext.drew ?_) | (with_reducible refine Wb.Ext.drewN ?_ _) | (with_reducible refine Wb.Ext.alloc ?_ _) | (with_reducible refine Wb.Ext.trans ?_ (by assumption))))) hb28
                                            replace HP11 := Lib.hid (HP11.out.ext hb28)
                                            replace HP12 := Lib.hid (HP12.out.ext hb28)
                                            replace HP14 := Lib.hid (HP14.out.ext hb28)
                                            replace HP15 := Lib.hid (HP15.out.ext hb28)
                                            replace HP16 := Lib.hid (HP16.out.ext hb28)
                                            replace HP19 := Lib.hid (HP19.out.ext hb28)
                                            replace HP20 := Lib.hid (HP20.out.ext hb28)
                                            replace HP22 := Lib.hid (HP22.out.ext hb28)
                                            replace HP23 := Lib.hid (HP23.out.ext hb28)
                                            replace HP26 := Lib.hid (HP26.out.ext hb28)
                                            replace HP27 := Lib.hid (HP27.out.ext hb28)
                                            have hx28 : Wb.Ext W0 w28 := Wb.Ext.trans (by (repeat' (first | (with_reducible assumption) | (with_reducible exact Wb.Ext.refl _) | (with_reducible refine Wb.Ext.drew ?_) | (with_reducible refine Wb.Ext.drewN ?_ _) | (with_reducible refine Wb.Ext.alloc ?_ _) | (with_reducible refine Wb.Ext.trans ?_ (by assumption))))) hb28
                                            clear hb28
                                            have HP28 := Lib.hid hp28
                                            clear hp28
                                            refine hK.out _ _ ⟨Wb.Ext.keep (w := W0) (by (repeat' (first | (with_reducible assumption) | (with_reducible exact Wb.Ext.refl _) | (with_reducible refine Wb.Ext.drew ?_) | (with_reducible refine Wb.Ext.drewN ?_ _) | (with_reducible refine Wb.Ext.alloc ?_ _) | (with_reducible refine Wb.Ext.trans ?_ (by assumption))))) zs, Wb.Ext.keep (w := W0) (by (repeat' (first | (with_reducible assumption) | (with_reducible exact Wb.Ext.refl _) | (with_reducible refine Wb.Ext.drew ?_) | (with_reducible refine Wb.Ext.drewN ?_ _) | (with_reducible refine Wb.Ext.alloc ?_ _) | (with_reducible refine Wb.Ext.trans ?_ (by assumption))))) zt, Wb.Ext.keep (w := W0) (by (repeat' (first | (with_reducible assumption) | (with_reducible exact Wb.Ext.refl _) | (with_reducible refine Wb.Ext.drew ?_) | (with_reducible refine Wb.Ext.drewN ?_ _) | (with_reducible refine Wb.Ext.alloc ?_ _) | (with_reducible refine Wb.Ext.trans ?_ (by assumption))))) zu⟩ (fun hHeld => ?_)
                                            clear hK K
                                            (try simp only [Act.put, List.setIfInBounds_toArray, List.set_cons_zero, List.set_cons_succ])
                                            refine wpAnyH_ready (rs := [39]) (by kernel_rfl) (by simp) ?_
                                            refine AllReadyH.cons (o := _) rfl (fun K hK => ?_) ?_
                                            · go_simp
                                              go_at_call 21
                                              go_fit (minus_any _ _ s t _ (HPs.out.ext (by (repeat' (first | (with_reducible assumption) | (with_reducible exact Wb.Ext.refl _) | (with_reducible refine Wb.Ext.drew ?_) | (with_reducible refine Wb.Ext.drewN ?_ _) | (with_reducible refine Wb.Ext.alloc ?_ _) | (with_reducible refine Wb.Ext.trans ?_ (by assumption)))))) (HPt.out.ext (by (repeat' (first | (with_reducible assumption) | (with_reducible exact Wb.Ext.refl _) | (with_reducible refine Wb.Ext.drew ?_) | (with_reducible refine Wb.Ext.drewN ?_ _) | (with_reducible refine Wb.Ext.alloc ?_ _) | (with_reducible refine Wb.Ext.trans ?_ (by assumption)))))) HSs.out.canon HSt.out.canon HSs.out.bd HSt.out.bd (by omega) (by omega))
                                              rintro e w29 ⟨v29, r29, rfl, hs29, hp29, hb29⟩
                                              obtain ⟨sa29, sc29, rfl⟩ := hp29.1.shape
                                              have HS29 := Lib.hid hs29
                                              have hl29 : r29.length ≤ 80 := by have := hs29.len; (try simp only [List.length_cons, List.length_nil] at this); omega
                                              have HE29 := Lib.hid (has_min hs29)
                                              replace hb29 : Wb.Ext w28 w29 := Wb.Ext.trans (by (repeat' (first | (with_reducible assumption) | (with_reducible exact Wb.Ext.refl _) | (with_reducible refine Wb.Ext.drew ?_) | (with_reducible refine Wb.Ext.drewN ?_ _) | (with_reducible refine Wb.Ext.alloc ?_ _) | (with_reducible refine Wb.Ext.trans ?_ (by assumption))))) hb29
                                              replace HP11 := Lib.hid (HP11.out.ext hb29)
                                              replace HP12 := Lib.hid (HP12.out.ext hb29)
                                              replace HP14 := Lib.hid (HP14.out.ext hb29)
                                              replace HP15 := Lib.hid (HP15.out.ext hb29)
                                              replace HP16 := Lib.hid (HP16.out.ext hb29)
                                              replace HP19 := Lib.hid (HP19.out.ext hb29)
                                              replace HP20 := Lib.hid (HP20.out.ext hb29)
                                              replace HP22 := Lib.hid (HP22.out.ext hb29)
                                              replace HP23 := Lib.hid (HP23.out.ext hb29)
                                              replace HP26 := Lib.hid (HP26.out.ext hb29)
                                              replace HP27 := Lib.hid (HP27.out.ext hb29)
                                              replace HP28 := Lib.hid (HP28.out.ext hb29)
                                              have hx29 : Wb.Ext W0 w29 := Wb.Ext.trans (by (repeat' (first | (with_reducible assumption) | (with_reducible exact Wb.Ext.refl _) | (with_reducible refine Wb.Ext.drew ?_) | (with_reducible refine Wb.Ext.drewN ?_ _) | (with_reducible refine Wb.Ext.alloc ?_ _) | (with_reducible refine Wb.Ext.trans ?_ (by assumption))))) hb29
                                              clear hb29
                                              have HP29 := Lib.hid hp29
                                              clear hs29 hp29
                                              refine hK.out _ _ ⟨Wb.Ext.keep (w := W0) (by (repeat' (first | (with_reducible assumption) | (with_reducible exact Wb.Ext.refl _) | (with_reducible refine Wb.Ext.drew ?_) | (with_reducible refine Wb.Ext.drewN ?_ _) | (with_reducible refine Wb.Ext.alloc ?_ _) | (with_reducible refine Wb.Ext.trans ?_ (by assumption))))) zs, Wb.Ext.keep (w := W0) (by (repeat' (first | (with_reducible assumption) | (with_reducible exact Wb.Ext.refl _) | (with_reducible refine Wb.Ext.drew ?_) | (with_reducible refine Wb.Ext.drewN ?_ _) | (with_reducible refine Wb.Ext.alloc ?_ _) | (with_reducible refine Wb.Ext.trans ?_ (by assumption))))) zt, Wb.Ext.keep (w := W0) (by (repeat' (first | (with_reducible assumption) | (with_reducible exact Wb.Ext.refl _) | (with_reducible refine Wb.Ext.drew ?_) | (with_reducible refine Wb.Ext.drewN ?_ _) | (with_reducible refine Wb.Ext.alloc ?_ _) | (with_reducible refine Wb.Ext.trans ?_ (by assumption))))) zu⟩ (fun hHeld => ?_)
                                              clear hK K
                                              (try simp only [Act.put, List.setIfInBounds_toArray, List.set_cons_zero, List.set_cons_succ])
                                              refine wpAnyH_ready (rs := [42]) (by kernel_rfl) (by simp) ?_
                                              refine AllReadyH.cons (o := _) rfl (fun K hK => ?_) ?_
                                              · go_simp
                                                go_at_call 21
                                                go_fit (minus_any _ _ s u _ (HPs.out.ext (by (repeat' (first | (with_reducible assumption) | (with_reducible exact Wb.Ext.refl _) | (with_reducible refine Wb.Ext.drew ?_) | (with_reducible refine Wb.Ext.drewN ?_ _) | (with_reducible refine Wb.Ext.alloc ?_ _) | (with_reducible refine Wb.Ext.trans ?_ (by assumption)))))) (HPu.out.ext (by (repeat' (first | (with_reducible assumption) | (with_reducible exact Wb.Ext.refl _) | (with_reducible refine Wb.Ext.drew ?_) | (with_reducible refine Wb.Ext.drewN ?_ _) | (with_reducible refine Wb.Ext.alloc ?_ _) | (with_reducible refine Wb.Ext.trans ?_ (by assumption)))))) HSs.out.canon HSu.out.canon HSs.out.bd HSu.out.bd (by omega) (by omega))
                                                rintro e w30 ⟨v30, r30, rfl, hs30, hp30, hb30⟩
                                                obtain ⟨sa30, sc30, rfl⟩ := hp30.1.shape
                                                have HS30 := Lib.hid hs30
                                                have hl30 : r30.length ≤ 80 := by have := hs30.len; (try simp only [List.length_cons, List.length_nil] at this); omega
                                                have HE30 := Lib.hid (has_min hs30)
                                                replace hb30 : Wb.Ext w29 w30 := Wb.Ext.trans (by (repeat' (first | (with_reducible assumption) | (with_reducible exact Wb.Ext.refl _) | (with_reducible refine Wb.Ext.drew ?_) | (with_reducible refine Wb.Ext.drewN ?_ _) | (with_reducible refine Wb.Ext.alloc ?_ _) | (with_reducible refine Wb.Ext.trans ?_ (by assumption))))) hb30
                                                replace HP11 := Lib.hid (HP11.out.ext hb30)
                                                replace HP12 := Lib.hid (HP12.out.ext hb30)
                                                replace HP14 := Lib.hid (HP14.out.ext hb30)
                                                replace HP15 := Lib.hid (HP15.out.ext hb30)
                                                replace HP16 := Lib.hid (HP16.out.ext hb30)
                                                replace HP19 := Lib.hid (HP19.out.ext hb30)
                                                replace HP20 := Lib.hid (HP20.out.ext hb30)
                                                replace HP22 := Lib.hid (HP22.out.ext hb30)
                                                replace HP23 := Lib.hid (HP23.out.ext hb30)
                                                replace HP26 := Lib.hid (HP26.out.ext hb30)
                                                replace HP27 := Lib.hid (HP27.out.ext hb30)
                                                replace HP28 := Lib.hid (HP28.out.ext hb30)
                                                replace HP29 := Lib.hid (HP29.out.ext hb30)
                                                have hx30 : Wb.Ext W0 w30 := Wb.Ext.trans (by (repeat' (first | (with_reducible assumption) | (with_reducible exact Wb.Ext.refl _) | (with_reducible refine Wb.Ext.drew ?_) | (with_reducible refine Wb.Ext.drewN ?_ _) | (with_reducible refine Wb.Ext.alloc ?_ _) | (with_reducible refine Wb.Ext.trans ?_ (by assumption))))) hb30
                                                clear hb30
                                                have HP30 := Lib.hid hp30
                                                clear hs30 hp30
                                                refine hK.out _ _ ⟨Wb.Ext.keep (w := W0) (by (repeat' (first | (with_reducible assumption) | (with_reducible exact Wb.Ext.refl _) | (with_reducible refine Wb.Ext.drew ?_) | (with_reducible refine Wb.Ext.drewN ?_ _) | (with_reducible refine Wb.Ext.alloc ?_ _) | (with_reducible refine Wb.Ext.trans ?_ (by assumption))))) zs, Wb.Ext.keep (w := W0) (by (repeat' (first | (with_reducible assumption) | (with_reducible exact Wb.Ext.refl _) | (with_reducible refine Wb.Ext.drew ?_) | (with_reducible refine Wb.Ext.drewN ?_ _) | (with_reducible refine Wb.Ext.alloc ?_ _) | (with_reducible refine Wb.Ext.trans ?_ (by assumption))))) zt, Wb.Ext.keep (w := W0) (by (repeat' (first | (with_reducible assumption) | (with_reducible exact Wb.Ext.refl _) | (with_reducible refine Wb.Ext.drew ?_) | (with_reducible refine Wb.Ext.drewN ?_ _) | (with_reducible refine Wb.Ext.alloc ?_ _) | (with_reducible refine Wb.Ext.trans ?_ (by assumption))))) zu⟩ (fun hHeld => ?_)
                                                clear hK K
                                                (try simp only [Act.put, List.setIfInBounds_toArray, List.set_cons_zero, List.set_cons_succ])
                                                refine wpAnyH_ready (rs := [43]) (by kernel_rfl) (by simp) ?_
                                                refine AllReadyH.cons (o := _) rfl (fun K hK => ?_) ?_
                                                · go_simp
                                                  go_at_call 18
                                                  go_fit (union_any _ _ r29 r30 _ (HP29.out.ext (by (repeat' (first | (with_reducible assumption) | (with_reducible exact Wb.Ext.refl _) | (with_reducible refine Wb.Ext.drew ?_) | (with_reducible refine Wb.Ext.drewN ?_ _) | (with_reducible refine Wb.Ext.alloc ?_ _) | (with_reducible refine Wb.Ext.trans ?_ (by assumption)))))) (HP30.out.ext (by (repeat' (first | (with_reducible assumption) | (with_reducible exact Wb.Ext.refl _) | (with_reducible refine Wb.Ext.drew ?_) | (with_reducible refine Wb.Ext.drewN ?_ _) | (with_reducible refine Wb.Ext.alloc ?_ _) | (with_reducible refine Wb.Ext.trans ?_ (by assumption)))))) HS29.out.canon HS30.out.canon HS29.out.bd HS30.out.bd (by omega) (by omega))
                                                  rintro e w31 ⟨v31, r31, rfl, hs31, hp31, hb31⟩
                                                  obtain ⟨sa31, sc31, rfl⟩ := hp31.1.shape
                                                  have HS31 := Lib.hid hs31
                                                  have hl31 : r31.length ≤ 320 := by have := hs31.len; (try simp only [List.length_cons, List.length_nil] at this); omega
                                                  have HE31 := Lib.hid (has_uni hs31)
                                                  replace hb31 : Wb.Ext w30 w31 := Wb.Ext.trans (by (repeat' (first | (with_reducible assumption) | (with_reducible exact Wb.Ext.refl _) | (with_reducible refine Wb.Ext.drew ?_) | (with_reducible refine Wb.Ext.drewN ?_ _) | (with_reducible refine Wb.Ext.alloc ?_ _) | (with_reducible refine Wb.Ext.trans ?_ (by assumption))))) hb31
                                                  replace HP11 := Lib.hid (HP11.out.ext hb31)
                                                  replace HP12 := Lib.hid (HP12.out.ext hb31)
                                                  replace HP14 := Lib.hid (HP14.out.ext hb31)
                                                  replace HP15 := Lib.hid (HP15.out.ext hb31)
                                                  replace HP16 := Lib.hid (HP16.out.ext hb31)
                                                  replace HP19 := Lib.hid (HP19.out.ext hb31)
                                                  replace HP20 := Lib.hid (HP20.out.ext hb31)
                                                  replace HP22 := Lib.hid (HP22.out.ext hb31)
                                                  replace HP23 := Lib.hid (HP23.out.ext hb31)
                                                  replace HP26 := Lib.hid (HP26.out.ext hb31)
                                                  replace HP27 := Lib.hid (HP27.out.ext hb31)
                                                  replace HP28 := Lib.hid (HP28.out.ext hb31)
                                                  replace HP29 := Lib.hid (HP29.out.ext hb31)
                                                  replace HP30 := Lib.hid (HP30.out.ext hb31)
                                                  have hx31 : Wb.Ext W0 w31 := Wb.Ext.trans (by (repeat' (first | (with_reducible assumption) | (with_reducible exact Wb.Ext.refl _) | (with_reducible refine Wb.Ext.drew ?_) | (with_reducible refine Wb.Ext.drewN ?_ _) | (with_reducible refine Wb.Ext.alloc ?_ _) | (with_reducible refine Wb.Ext.trans ?_ (by assumption))))) hb31
                                                  clear hb31
                                                  have HP31 := Lib.hid hp31
                                                  clear hs31 hp31
                                                  refine hK.out _ _ ⟨Wb.Ext.keep (w := W0) (by (repeat' (first | (with_reducible assumption) | (with_reducible exact Wb.Ext.refl _) | (with_reducible refine Wb.Ext.drew ?_) | (with_reducible refine Wb.Ext.drewN ?_ _) | (with_reducible refine Wb.Ext.alloc ?_ _) | (with_reducible refine Wb.Ext.trans ?_ (by assumption))))) zs, Wb.Ext.keep (w := W0) (by (repeat' (first | (with_reducible assumption) | (with_reducible exact Wb.Ext.refl _) | (with_reducible refine Wb.Ext.drew ?_) | (with_reducible refine Wb.Ext.drewN ?_ _) | (with_reducible refine Wb.Ext.alloc ?_ _) | (with_reducible refine Wb.Ext.trans ?_ (by assumption))))) zt, Wb.Ext.keep (w := W0) (by (repeat' (first | (with_reducible assumption) | (with_reducible exact Wb.Ext.refl _) | (with_reducible refine Wb.Ext.drew ?_) | (with_reducible refine Wb.Ext.drewN ?_ _) | (with_reducible refine Wb.Ext.alloc ?_ _) | (with_reducible refine Wb.Ext.trans ?_ (by assumption))))) zu⟩ (fun hHeld => ?_)
                                                  clear hK K
                                                  (try simp only [Act.put, List.setIfInBounds_toArray, List.set_cons_zero, List.set_cons_succ])
                                                  refine wpAnyH_ready (rs := [44]) (by kernel_rfl) (by simp) ?_
                                                  refine AllReadyH.cons (o := _) rfl (fun K hK => ?_) ?_
                                                  · go_simp
                                                    go_at_call 17
                                                    go_fit (all_any _ r31 _ (HP31.out.ext (by (repeat' (first | (with_reducible assumption) | (with_reducible exact Wb.Ext.refl _) | (with_reducible refine Wb.Ext.drew ?_) | (with_reducible refine Wb.Ext.drewN ?_ _) | (with_reducible refine Wb.Ext.alloc ?_ _) | (with_reducible refine Wb.Ext.trans ?_ (by assumption)))))) (by omega))
                                                    rintro e w32 ⟨v32, rfl, hp32, hb32⟩
                                                    obtain ⟨sa32, sc32, rfl⟩ := hp32.1.shape
                                                    replace hb32 : Wb.Ext w31 w32 := Wb.Ext.trans (by (repeat' (first | (with_reducible assumption) | (with_reducible exact Wb.Ext.refl _) | (with_reducible refine Wb.Ext.drew ?_) | (with_reducible refine Wb.Ext.drewN ?_ _) | (with_reducible refine Wb.Ext.alloc ?_ _) | (with_reducible refine Wb.Ext.trans ?_ (by assumption))))) hb32
                                                    replace HP11 := Lib.hid (HP11.out.ext hb32)
                                                    replace HP12 := Lib.hid (HP12.out.ext hb32)
                                                    replace HP14 := Lib.hid (HP14.out.ext hb32)
                                                    replace HP15 := Lib.hid (HP15.out.ext hb32)
                                                    replace HP16 := Lib.hid (HP16.out.ext hb32)
                                                    replace HP19 := Lib.hid (HP19.out.ext hb32)
                                                    replace HP20 := Lib.hid (HP20.out.ext hb32)
                                                    replace HP22 := Lib.hid (HP22.out.ext hb32)
                                                    replace HP23 := Lib.hid (HP23.out.ext hb32)
                                                    replace HP26 := Lib.hid (HP26.out.ext hb32)
                                                    replace HP27 := Lib.hid (HP27.out.ext hb32)
                                                    replace HP28 := Lib.hid (HP28.out.ext hb32)
                                                    replace HP29 := Lib.hid (HP29.out.ext hb32)
                                                    replace HP30 := Lib.hid (HP30.out.ext hb32)
                                                    replace HP31 := Lib.hid (HP31.out.ext hb32)
                                                    have hx32 : Wb.Ext W0 w32 := Wb.Ext.trans (by (repeat' (first | (with_reducible assumption) | (with_reducible exact Wb.Ext.refl _) | (with_reducible refine Wb.Ext.drew ?_) | (with_reducible refine Wb.Ext.drewN ?_ _) | (with_reducible refine Wb.Ext.alloc ?_ _) | (with_reducible refine Wb.Ext.trans ?_ (by assumption))))) hb32
                                                    clear hb32
                                                    have HP32 := Lib.hid hp32
                                                    clear hp32
                                                    refine hK.out _ _ ⟨Wb.Ext.keep (w := W0) (by (repeat' (first | (with_reducible assumption) | (with_reducible exact Wb.Ext.refl _) | (with_reducible refine Wb.Ext.drew ?_) | (with_reducible refine Wb.Ext.drewN ?_ _) | (with_reducible refine Wb.Ext.alloc ?_ _) | (with_reducible refine Wb.Ext.trans ?_ (by assumption))))) zs, Wb.Ext.keep (w := W0) (by (repeat' (first | (with_reducible assumption) | (with_reducible exact Wb.Ext.refl _) | (with_reducible refine Wb.Ext.drew ?_) | (with_reducible refine Wb.Ext.drewN ?_ _) | (with_reducible refine Wb.Ext.alloc ?_ _) | (with_reducible refine Wb.Ext.trans ?_ (by assumption))))) zt, Wb.Ext.keep (w := W0) (by (repeat' (first | (with_reducible assumption) | (with_reducible exact Wb.Ext.refl _) | (with_reducible refine Wb.Ext.drew ?_) | (with_reducible refine Wb.Ext.drewN ?_ _) | (with_reducible refine Wb.Ext.alloc ?_ _) | (with_reducible refine Wb.Ext.trans ?_ (by assumption))))) zu⟩ (fun hHeld => ?_)
                                                    clear hK K
                                                    (try simp only [Act.put, List.setIfInBounds_toArray, List.set_cons_zero, List.set_cons_succ])
                                                    refine wpAnyH_ready (rs := [45]) (by kernel_rfl) (by simp) ?_
                                                    refine AllReadyH.cons (o := _) rfl (fun K hK => ?_) ?_
                                                    · go_simp
                                                      go_at_call 16
                                                      go_fit (same2_any _ _ r27 r31 _ (canon_eq HS31.out.canon HS27.out.canon (fun d => by simp only [HE27.out d, HE26.out d, HE31.out d, HE29.out d, HE30.out d, HEs.out d, HEt.out d, HEu.out d] <;> (cases Wb.hasL a d <;> cases Wb.hasL b d <;> cases Wb.hasL c d <;> rfl))) (HP28.out.1.ext (by (repeat' (first | (with_reducible assumption) | (with_reducible exact Wb.Ext.refl _) | (with_reducible refine Wb.Ext.drew ?_) | (with_reducible refine Wb.Ext.drewN ?_ _) | (with_reducible refine Wb.Ext.alloc ?_ _) | (with_reducible refine Wb.Ext.trans ?_ (by assumption)))))) (HP32.out.1.ext (by (repeat' (first | (with_reducible assumption) | (with_reducible exact Wb.Ext.refl _) | (with_reducible refine Wb.Ext.drew ?_) | (with_reducible refine Wb.Ext.drewN ?_ _) | (with_reducible refine Wb.Ext.alloc ?_ _) | (with_reducible refine Wb.Ext.trans ?_ (by assumption)))))) (by omega))
                                                      rintro e w33 ⟨rfl, hb33⟩
                                                      replace hb33 : Wb.Ext w32 w33 := Wb.Ext.trans (by (repeat' (first | (with_reducible assumption) | (with_reducible exact Wb.Ext.refl _) | (with_reducible refine Wb.Ext.drew ?_) | (with_reducible refine Wb.Ext.drewN ?_ _) | (with_reducible refine Wb.Ext.alloc ?_ _) | (with_reducible refine Wb.Ext.trans ?_ (by assumption))))) hb33
                                                      replace HP11 := Lib.hid (HP11.out.ext hb33)
                                                      replace HP12 := Lib.hid (HP12.out.ext hb33)
                                                      replace HP14 := Lib.hid (HP14.out.ext hb33)
                                                      replace HP15 := Lib.hid (HP15.out.ext hb33)
                                                      replace HP16 := Lib.hid (HP16.out.ext hb33)
                                                      replace HP19 := Lib.hid (HP19.out.ext hb33)
                                                      replace HP20 := Lib.hid (HP20.out.ext hb33)
                                                      replace HP22 := Lib.hid (HP22.out.ext hb33)
                                                      replace HP23 := Lib.hid (HP23.out.ext hb33)
                                                      replace HP26 := Lib.hid (HP26.out.ext hb33)
                                                      replace HP27 := Lib.hid (HP27.out.ext hb33)
                                                      replace HP29 := Lib.hid (HP29.out.ext hb33)
                                                      replace HP30 := Lib.hid (HP30.out.ext hb33)
                                                      replace HP31 := Lib.hid (HP31.out.ext hb33)
                                                      have hx33 : Wb.Ext W0 w33 := Wb.Ext.trans (by (repeat' (first | (with_reducible assumption) | (with_reducible exact Wb.Ext.refl _) | (with_reducible refine Wb.Ext.drew ?_) | (with_reducible refine Wb.Ext.drewN ?_ _) | (with_reducible refine Wb.Ext.alloc ?_ _) | (with_reducible refine Wb.Ext.trans ?_ (by assumption))))) hb33
                                                      clear hb33
                                                      refine hK.out _ _ ⟨Wb.Ext.keep (w := W0) (by (repeat' (first | (with_reducible assumption) | (with_reducible exact Wb.Ext.refl _) | (with_reducible refine Wb.Ext.drew ?_) | (with_reducible refine Wb.Ext.drewN ?_ _) | (with_reducible refine Wb.Ext.alloc ?_ _) | (with_reducible refine Wb.Ext.trans ?_ (by assumption))))) zs, Wb.Ext.keep (w := W0) (by (repeat' (first | (with_reducible assumption) | (with_reducible exact Wb.Ext.refl _) | (with_reducible refine Wb.Ext.drew ?_) | (with_reducible refine Wb.Ext.drewN ?_ _) | (with_reducible refine Wb.Ext.alloc ?_ _) | (with_reducible refine Wb.Ext.trans ?_ (by assumption))))) zt, Wb.Ext.keep (w := W0) (by (repeat' (first | (with_reducible assumption) | (with_reducible exact Wb.Ext.refl _) | (with_reducible refine Wb.Ext.drew ?_) | (with_reducible refine Wb.Ext.drewN ?_ _) | (with_reducible refine Wb.Ext.alloc ?_ _) | (with_reducible refine Wb.Ext.trans ?_ (by assumption))))) zu⟩ (fun hHeld => ?_)
                                                      clear hK K
                                                      (try simp only [Act.put, List.setIfInBounds_toArray, List.set_cons_zero, List.set_cons_succ])
                                                      refine take_d (i := 46) (d := 77) (v := ?_) rfl rfl (by kernel_rfl) (by kernel_rfl) (by kernel_rfl) (fun _ _ _ h => h) (Or.inl ⟨by rfl, ?_⟩) (by assumption) ?_
                                                      rotate_left
                                                      · (intro w hSw; (try dsimp only at hSw); go_simp; (try with_reducible rfl))
                                                      (try simp only [Act.put, List.setIfInBounds_toArray, List.set_cons_zero, List.set_cons_succ])
                                                      refine take_d (i := 47) (d := 78) (v := ?_) rfl rfl (by kernel_rfl) (by kernel_rfl) (by kernel_rfl) (fun _ _ _ h => h) (Or.inl ⟨by rfl, ?_⟩) (by assumption) ?_
                                                      rotate_left
                                                      · (intro w hSw; (try dsimp only at hSw); go_simp; (try with_reducible rfl))
                                                      (try simp only [Act.put, List.setIfInBounds_toArray, List.set_cons_zero, List.set_cons_succ])
                                                      refine take_d (i := 48) (d := 79) (v := ?_) rfl rfl (by kernel_rfl) (by kernel_rfl) (by kernel_rfl) (fun _ _ _ h => h) (Or.inl ⟨by rfl, ?_⟩) (by assumption) ?_
                                                      rotate_left
                                                      · (intro w hSw; (try dsimp only at hSw); go_simp; (try with_reducible rfl))
                                                      (try simp only [Act.put, List.setIfInBounds_toArray, List.set_cons_zero, List.set_cons_succ])
                                                      refine take_d (i := 49) (d := 80) (v := ?_) rfl rfl (by kernel_rfl) (by kernel_rfl) (by kernel_rfl) (fun _ _ _ h => h) (Or.inl ⟨by rfl, ?_⟩) (by assumption) ?_
                                                      rotate_left
                                                      · (intro w hSw; (try dsimp only at hSw); go_simp; (try with_reducible rfl))
                                                      (try simp only [Act.put, List.setIfInBounds_toArray, List.set_cons_zero, List.set_cons_succ])
                                                      refine take_d (i := 50) (d := 81) (v := ?_) rfl rfl (by kernel_rfl) (by kernel_rfl) (by kernel_rfl) (fun _ _ _ h => h) (Or.inl ⟨by rfl, ?_⟩) (by assumption) ?_
                                                      rotate_left
                                                      · (intro w hSw; (try dsimp only at hSw); go_simp; (try with_reducible rfl))
                                                      (try simp only [Act.put, List.setIfInBounds_toArray, List.set_cons_zero, List.set_cons_succ])
                                                      refine take_d (i := 54) (d := 85) (v := ?_) rfl rfl (by kernel_rfl) (by kernel_rfl) (by kernel_rfl) (fun _ _ _ h => h) (Or.inl ⟨by rfl, ?_⟩) (by assumption) ?_
                                                      rotate_left
                                                      · (intro w hSw; (try dsimp only at hSw); go_simp; (try with_reducible rfl))
                                                      (try simp only [Act.put, List.setIfInBounds_toArray, List.set_cons_zero, List.set_cons_succ])
                                                      refine take_d (i := 55) (d := 86) (v := ?_) rfl rfl (by kernel_rfl) (by kernel_rfl) (by kernel_rfl) (fun _ _ _ h => h) (Or.inl ⟨by rfl, ?_⟩) (by assumption) ?_
                                                      rotate_left
                                                      · (intro w hSw; (try dsimp only at hSw); go_simp; (try with_reducible rfl))
                                                      (try simp only [Act.put, List.setIfInBounds_toArray, List.set_cons_zero, List.set_cons_succ])
                                                      refine take_d (i := 57) (d := 88) (v := ?_) rfl rfl (by kernel_rfl) (by kernel_rfl) (by kernel_rfl) (fun _ _ _ h => h) (Or.inl ⟨by rfl, ?_⟩) (by assumption) ?_
                                                      rotate_left
                                                      · (intro w hSw; (try dsimp only at hSw); go_simp; (try with_reducible rfl))
                                                      (try simp only [Act.put, List.setIfInBounds_toArray, List.set_cons_zero, List.set_cons_succ])
                                                      refine wpAnyH_ready (rs := [51]) (by kernel_rfl) (by simp) ?_
                                                      refine AllReadyH.cons (o := _) rfl (fun K hK => ?_) ?_
                                                      · go_simp
                                                        go_at_call 18
                                                        go_fit (union_any _ _ t u _ (HPt.out.ext (by (repeat' (first | (with_reducible assumption) | (with_reducible exact Wb.Ext.refl _) | (with_reducible refine Wb.Ext.drew ?_) | (with_reducible refine Wb.Ext.drewN ?_ _) | (with_reducible refine Wb.Ext.alloc ?_ _) | (with_reducible refine Wb.Ext.trans ?_ (by assumption)))))) (HPu.out.ext (by (repeat' (first | (with_reducible assumption) | (with_reducible exact Wb.Ext.refl _) | (with_reducible refine Wb.Ext.drew ?_) | (with_reducible refine Wb.Ext.drewN ?_ _) | (with_reducible refine Wb.Ext.alloc ?_ _) | (with_reducible refine Wb.Ext.trans ?_ (by assumption)))))) HSt.out.canon HSu.out.canon HSt.out.bd HSu.out.bd (by omega) (by omega))
                                                        rintro e w34 ⟨v34, r34, rfl, hs34, hp34, hb34⟩
                                                        obtain ⟨sa34, sc34, rfl⟩ := hp34.1.shape
                                                        have HS34 := Lib.hid hs34
                                                        have hl34 : r34.length ≤ 80 := by have := hs34.len; (try simp only [List.length_cons, List.length_nil] at this); omega
                                                        have HE34 := Lib.hid (has_uni hs34)
                                                        replace hb34 : Wb.Ext w33 w34 := Wb.Ext.trans (by (repeat' (first | (with_reducible assumption) | (with_reducible exact Wb.Ext.refl _) | (with_reducible refine Wb.Ext.drew ?_) | (with_reducible refine Wb.Ext.drewN ?_ _) | (with_reducible refine Wb.Ext.alloc ?_ _) | (with_reducible refine Wb.Ext.trans ?_ (by assumption))))) hb34
                                                        replace HP11 := Lib.hid (HP11.out.ext hb34)
                                                        replace HP12 := Lib.hid (HP12.out.ext hb34)
                                                        replace HP14 := Lib.hid (HP14.out.ext hb34)
                                                        replace HP15 := Lib.hid (HP15.out.ext hb34)
                                                        replace HP16 := Lib.hid (HP16.out.ext hb34)
                                                        replace HP19 := Lib.hid (HP19.out.ext hb34)
                                                        replace HP20 := Lib.hid (HP20.out.ext hb34)
                                                        replace HP22 := Lib.hid (HP22.out.ext hb34)
                                                        replace HP23 := Lib.hid (HP23.out.ext hb34)
                                                        replace HP26 := Lib.hid (HP26.out.ext hb34)
                                                        replace HP27 := Lib.hid (HP27.out.ext hb34)
                                                        replace HP29 := Lib.hid (HP29.out.ext hb34)
                                                        replace HP30 := Lib.hid (HP30.out.ext hb34)
                                                        replace HP31 := Lib.hid (HP31.out.ext hb34)
                                                        have hx34 : Wb.Ext W0 w34 := Wb.Ext.trans (by (repeat' (first | (with_reducible assumption) | (with_reducible exact Wb.Ext.refl _) | (with_reducible refine Wb.Ext.drew ?_) | (with_reducible refine Wb.Ext.drewN ?_ _) | (with_reducible refine Wb.Ext.alloc ?_ _) | (with_reducible refine Wb.Ext.trans ?_ (by assumption))))) hb34
                                                        clear hb34
                                                        have HP34 := Lib.hid hp34
                                                        clear hs34 hp34
                                                        refine hK.out _ _ ⟨Wb.Ext.keep (w := W0) (by (repeat' (first | (with_reducible assumption) | (with_reducible exact Wb.Ext.refl _) | (with_reducible refine Wb.Ext.drew ?_) | (with_reducible refine Wb.Ext.drewN ?_ _) | (with_reducible refine Wb.Ext.alloc ?_ _) | (with_reducible refine Wb.Ext.trans ?_ (by assumption))))) zs, Wb.Ext.keep (w := W0) (by (repeat' (first | (with_reducible assumption) | (with_reducible exact Wb.Ext.refl _) | (with_reducible refine Wb.Ext.drew ?_) | (with_reducible refine Wb.Ext.drewN ?_ _) | (with_reducible refine Wb.Ext.alloc ?_ _) | (with_reducible refine Wb.Ext.trans ?_ (by assumption))))) zt, Wb.Ext.keep (w := W0) (by (repeat' (first | (with_reducible assumption) | (with_reducible exact Wb.Ext.refl _) | (with_reducible refine Wb.Ext.drew ?_) | (with_reducible refine Wb.Ext.drewN ?_ _) | (with_reducible refine Wb.Ext.alloc ?_ _) | (with_reducible refine Wb.Ext.trans ?_ (by assumption))))) zu⟩ (fun hHeld => ?_)
                                                        clear hK K
                                                        (try simp only [Act.put, List.setIfInBounds_toArray, List.set_cons_zero, List.set_cons_succ])
                                                        refine wpAnyH_ready (rs := [52]) (by kernel_rfl) (by simp) ?_
                                                        refine AllReadyH.cons (o := _) rfl (fun K hK => ?_) ?_
                                                        · go_simp
                                                          go_at_call 18
                                                          go_fit (union_any _ _ s r34 _ (HPs.out.ext (by (repeat' (first | (with_reducible assumption) | (with_reducible exact Wb.Ext.refl _) | (with_reducible refine Wb.Ext.drew ?_) | (with_reducible refine Wb.Ext.drewN ?_ _) | (with_reducible refine Wb.Ext.alloc ?_ _) | (with_reducible refine Wb.Ext.trans ?_ (by assumption)))))) (HP34.out.ext (by (repeat' (first | (with_reducible assumption) | (with_reducible exact Wb.Ext.refl _) | (with_reducible refine Wb.Ext.drew ?_) | (with_reducible refine Wb.Ext.drewN ?_ _) | (with_reducible refine Wb.Ext.alloc ?_ _) | (with_reducible refine Wb.Ext.trans ?_ (by assumption)))))) HSs.out.canon HS34.out.canon HSs.out.bd HS34.out.bd (by omega) (by omega))
                                                          rintro e w35 ⟨v35, r35, rfl, hs35, hp35, hb35⟩
                                                          obtain ⟨sa35, sc35, rfl⟩ := hp35.1.shape
                                                          have HS35 := Lib.hid hs35
                                                          have hl35 : r35.length ≤ 200 := by have := hs35.len; (try simp only [List.length_cons, List.length_nil] at this); omega
                                                          have HE35 := Lib.hid (has_uni hs35)
                                                          replace hb35 : Wb.Ext w34 w35 := Wb.Ext.trans (by (repeat' (first | (with_reducible assumption) | (with_reducible exact Wb.Ext.refl _) | (with_reducible refine Wb.Ext.drew ?_) | (with_reducible refine Wb.Ext.drewN ?_ _) | (with_reducible refine Wb.Ext.alloc ?_ _) | (with_reducible refine Wb.Ext.trans ?_ (by assumption))))) hb35
                                                          replace HP11 := Lib.hid (HP11.out.ext hb35)
                                                          replace HP12 := Lib.hid (HP12.out.ext hb35)
                                                          replace HP14 := Lib.hid (HP14.out.ext hb35)
                                                          replace HP15 := Lib.hid (HP15.out.ext hb35)
                                                          replace HP16 := Lib.hid (HP16.out.ext hb35)
                                                          replace HP19 := Lib.hid (HP19.out.ext hb35)
                                                          replace HP20 := Lib.hid (HP20.out.ext hb35)
                                                          replace HP22 := Lib.hid (HP22.out.ext hb35)
                                                          replace HP23 := Lib.hid (HP23.out.ext hb35)
                                                          replace HP26 := Lib.hid (HP26.out.ext hb35)
                                                          replace HP27 := Lib.hid (HP27.out.ext hb35)
                                                          replace HP29 := Lib.hid (HP29.out.ext hb35)
                                                          replace HP30 := Lib.hid (HP30.out.ext hb35)
                                                          replace HP31 := Lib.hid (HP31.out.ext hb35)
                                                          replace HP34 := Lib.hid (HP34.out.ext hb35)
                                                          have hx35 : Wb.Ext W0 w35 := Wb.Ext.trans (by (repeat' (first | (with_reducible assumption) | (with_reducible exact Wb.Ext.refl _) | (with_reducible refine Wb.Ext.drew ?_) | (with_reducible refine Wb.Ext.drewN ?_ _) | (with_reducible refine Wb.Ext.alloc ?_ _) | (with_reducible refine Wb.Ext.trans ?_ (by assumption))))) hb35
                                                          clear hb35
                                                          have HP35 := Lib.hid hp35
                                                          clear hs35 hp35
                                                          refine hK.out _ _ ⟨Wb.Ext.keep (w := W0) (by (repeat' (first | (with_reducible assumption) | (with_reducible exact Wb.Ext.refl _) | (with_reducible refine Wb.Ext.drew ?_) | (with_reducible refine Wb.Ext.drewN ?_ _) | (with_reducible refine Wb.Ext.alloc ?_ _) | (with_reducible refine Wb.Ext.trans ?_ (by assumption))))) zs, Wb.Ext.keep (w := W0) (by (repeat' (first | (with_reducible assumption) | (with_reducible exact Wb.Ext.refl _) | (with_reducible refine Wb.Ext.drew ?_) | (with_reducible refine Wb.Ext.drewN ?_ _) | (with_reducible refine Wb.Ext.alloc ?_ _) | (with_reducible refine Wb.Ext.trans ?_ (by assumption))))) zt, Wb.Ext.keep (w := W0) (by (repeat' (first | (with_reducible assumption) | (with_reducible exact Wb.Ext.refl _) | (with_reducible refine Wb.Ext.drew ?_) | (with_reducible refine Wb.Ext.drewN ?_ _) | (with_reducible refine Wb.Ext.alloc ?_ _) | (with_reducible refine Wb.Ext.trans ?_ (by assumption))))) zu⟩ (fun hHeld => ?_)
                                                          clear hK K
                                                          (try simp only [Act.put, List.setIfInBounds_toArray, List.set_cons_zero, List.set_cons_succ])
                                                          refine wpAnyH_ready (rs := [53]) (by kernel_rfl) (by simp) ?_
                                                          refine AllReadyH.cons (o := _) rfl (fun K hK => ?_) ?_
                                                          · go_simp
                                                            go_at_call 17
                                                            go_fit (all_any _ r35 _ (HP35.out.ext (by (repeat' (first | (with_reducible assumption) | (with_reducible exact Wb.Ext.refl _) | (with_reducible refine Wb.Ext.drew ?_) | (with_reducible refine Wb.Ext.drewN ?_ _) | (with_reducible refine Wb.Ext.alloc ?_ _) | (with_reducible refine Wb.Ext.trans ?_ (by assumption)))))) (by omega))
                                                            rintro e w36 ⟨v36, rfl, hp36, hb36⟩
                                                            obtain ⟨sa36, sc36, rfl⟩ := hp36.1.shape
                                                            replace hb36 : Wb.Ext w35 w36 := Wb.Ext.trans (by (repeat' (first | (with_reducible assumption) | (with_reducible exact Wb.Ext.refl _) | (with_reducible refine Wb.Ext.drew ?_) | (with_reducible refine Wb.Ext.drewN ?_ _) | (with_reducible refine Wb.Ext.alloc ?_ _) | (with_reducible refine Wb.Ext.trans ?_ (by assumption))))) hb36
                                                            replace HP11 := Lib.hid (HP11.out.ext hb36)
                                                            replace HP12 := Lib.hid (HP12.out.ext hb36)
                                                            replace HP14 := Lib.hid (HP14.out.ext hb36)
                                                            replace HP15 := Lib.hid (HP15.out.ext hb36)
                                                            replace HP16 := Lib.hid (HP16.out.ext hb36)
                                                            replace HP19 := Lib.hid (HP19.out.ext hb36)
                                                            replace HP20 := Lib.hid (HP20.out.ext hb36)
                                                            replace HP22 := Lib.hid (HP22.out.ext hb36)
                                                            replace HP23 := Lib.hid (HP23.out.ext hb36)
                                                            replace HP26 := Lib.hid (HP26.out.ext hb36)
                                                            replace HP27 := Lib.hid (HP27.out.ext hb36)
                                                            replace HP29 := Lib.hid (HP29.out.ext hb36)
                                                            replace HP30 := Lib.hid (HP30.out.ext hb36)
                                                            replace HP31 := Lib.hid (HP31.out.ext hb36)
                                                            replace HP34 := Lib.hid (HP34.out.ext hb36)
                                                            replace HP35 := Lib.hid (HP35.out.ext hb36)
                                                            have hx36 : Wb.Ext W0 w36 := Wb.Ext.trans (by (repeat' (first | (with_reducible assumption) | (with_reducible exact Wb.Ext.refl _) | (with_reducible refine Wb.Ext.drew ?_) | (with_reducible refine Wb.Ext.drewN ?_ _) | (with_reducible refine Wb.Ext.alloc ?_ _) | (with_reducible refine Wb.Ext.trans ?_ (by assumption))))) hb36
                                                            clear hb36
                                                            have HP36 := Lib.hid hp36
                                                            clear hp36
                                                            refine hK.out _ _ ⟨Wb.Ext.keep (w := W0) (by (repeat' (first | (with_reducible assumption) | (with_reducible exact Wb.Ext.refl _) | (with_reducible refine Wb.Ext.drew ?_) | (with_reducible refine Wb.Ext.drewN ?_ _) | (with_reducible refine Wb.Ext.alloc ?_ _) | (with_reducible refine Wb.Ext.trans ?_ (by assumption))))) zs, Wb.Ext.keep (w := W0) (by (repeat' (first | (with_reducible assumption) | (with_reducible exact Wb.Ext.refl _) | (with_reducible refine Wb.Ext.drew ?_) | (with_reducible refine Wb.Ext.drewN ?_ _) | (with_reducible refine Wb.Ext.alloc ?_ _) | (with_reducible refine Wb.Ext.trans ?_ (by assumption))))) zt, Wb.Ext.keep (w := W0) (by (repeat' (first | (with_reducible assumption) | (with_reducible exact Wb.Ext.refl _) | (with_reducible refine Wb.Ext.drew ?_) | (with_reducible refine Wb.Ext.drewN ?_ _) | (with_reducible refine Wb.Ext.alloc ?_ _) | (with_reducible refine Wb.Ext.trans ?_ (by assumption))))) zu⟩ (fun hHeld => ?_)
                                                            clear hK K
                                                            (try simp only [Act.put, List.setIfInBounds_toArray, List.set_cons_zero, List.set_cons_succ])
                                                            refine wpAnyH_ready (rs := [56]) (by kernel_rfl) (by simp) ?_
                                                            refine AllReadyH.cons (o := _) rfl (fun K hK => ?_) ?_
                                                            · go_simp
                                                              go_at_call 18
                                                              go_fit (union_any _ _ s t _ (HPs.out.ext (by (repeat' (first | (with_reducible assumption) | (with_reducible exact Wb.Ext.refl _) | (with_reducible refine Wb.Ext.drew ?_) | (with_reducible refine Wb.Ext.drewN ?_ _) | (with_reducible refine Wb.Ext.alloc ?_ _) | (with_reducible refine Wb.Ext.trans ?_ (by assumption)))))) (HPt.out.ext (by (repeat' (first | (with_reducible assumption) | (with_reducible exact Wb.Ext.refl _) | (with_reducible refine Wb.Ext.drew ?_) | (with_reducible refine Wb.Ext.drewN ?_ _) | (with_reducible refine Wb.Ext.alloc ?_ _) | (with_reducible refine Wb.Ext.trans ?_ (by assumption)))))) HSs.out.canon HSt.out.canon HSs.out.bd HSt.out.bd (by omega) (by omega))
                                                              rintro e w37 ⟨v37, r37, rfl, hs37, hp37, hb37⟩
                                                              obtain ⟨sa37, sc37, rfl⟩ := hp37.1.shape
                                                              have HS37 := Lib.hid hs37
                                                              have hl37 : r37.length ≤ 80 := by have := hs37.len; (try simp only [List.length_cons, List.length_nil] at this); omega
                                                              have HE37 := Lib.hid (has_uni hs37)
                                                              replace hb37 : Wb.Ext w36 w37 := Wb.Ext.trans (by (repeat' (first | (with_reducible assumption) | (with_reducible exact Wb.Ext.refl _) | (with_reducible refine Wb.Ext.drew ?_) | (with_reducible refine Wb.Ext.drewN ?_ _) | (with_reducible refine Wb.Ext.alloc ?_ _) | (with_reducible refine Wb.Ext.trans ?_ (by assumption))))) hb37
                                                              replace HP11 := Lib.hid (HP11.out.ext hb37)
                                                              replace HP12 := Lib.hid (HP12.out.ext hb37)
                                                              replace HP14 := Lib.hid (HP14.out.ext hb37)
                                                              replace HP15 := Lib.hid (HP15.out.ext hb37)
                                                              replace HP16 := Lib.hid (HP16.out.ext hb37)
                                                              replace HP19 := Lib.hid (HP19.out.ext hb37)
                                                              replace HP20 := Lib.hid (HP20.out.ext hb37)
                                                              replace HP22 := Lib.hid (HP22.out.ext hb37)
                                                              replace HP23 := Lib.hid (HP23.out.ext hb37)
                                                              replace HP26 := Lib.hid (HP26.out.ext hb37)
                                                              replace HP27 := Lib.hid (HP27.out.ext hb37)
                                                              replace HP29 := Lib.hid (HP29.out.ext hb37)
                                                              replace HP30 := Lib.hid (HP30.out.ext hb37)
                                                              replace HP31 := Lib.hid (HP31.out.ext hb37)
                                                              replace HP34 := Lib.hid (HP34.out.ext hb37)
                                                              replace HP35 := Lib.hid (HP35.out.ext hb37)
                                                              replace HP36 := Lib.hid (HP36.out.ext hb37)
                                                              have hx37 : Wb.Ext W0 w37 := Wb.Ext.trans (by (repeat' (first | (with_reducible assumption) | (with_reducible exact Wb.Ext.refl _) | (with_reducible refine Wb.Ext.drew ?_) | (with_reducible refine Wb.Ext.drewN ?_ _) | (with_reducible refine Wb.Ext.alloc ?_ _) | (with_reducible refine Wb.Ext.trans ?_ (by assumption))))) hb37
                                                              clear hb37
                                                              have HP37 := Lib.hid hp37
                                                              clear hs37 hp37
                                                              refine hK.out _ _ ⟨Wb.Ext.keep (w := W0) (by (repeat' (first | (with_reducible assumption) | (with_reducible exact Wb.Ext.refl _) | (with_reducible refine Wb.Ext.drew ?_) | (with_reducible refine Wb.Ext.drewN ?_ _) | (with_reducible refine Wb.Ext.alloc ?_ _) | (with_reducible refine Wb.Ext.trans ?_ (by assumption))))) zs, Wb.Ext.keep (w := W0) (by (repeat' (first | (with_reducible assumption) | (with_reducible exact Wb.Ext.refl _) | (with_reducible refine Wb.Ext.drew ?_) | (with_reducible refine Wb.Ext.drewN ?_ _) | (with_reducible refine Wb.Ext.alloc ?_ _) | (with_reducible refine Wb.Ext.trans ?_ (by assumption))))) zt, Wb.Ext.keep (w := W0) (by (repeat' (first | (with_reducible assumption) | (with_reducible exact Wb.Ext.refl _) | (with_reducible refine Wb.Ext.drew ?_) | (with_reducible refine Wb.Ext.drewN ?_ _) | (with_reducible refine Wb.Ext.alloc ?_ _) | (with_reducible refine Wb.Ext.trans ?_ (by assumption))))) zu⟩ (fun hHeld => ?_)
                                                              clear hK K
                                                              (try simp only [Act.put, List.setIfInBounds_toArray, List.set_cons_zero, List.set_cons_succ])
                                                              refine wpAnyH_ready (rs := [58]) (by kernel_rfl) (by simp) ?_
                                                              refine AllReadyH.cons (o := _) rfl (fun K hK => ?_) ?_
                                                              · go_simp
                                                                go_at_call 18
                                                                go_fit (union_any _ _ r37 u _ (HP37.out.ext (by (repeat' (first | (with_reducible assumption) | (with_reducible exact Wb.Ext.refl _) | (with_reducible refine Wb.Ext.drew ?_) | (with_reducible refine Wb.Ext.drewN ?_ _) | (with_reducible refine Wb.Ext.alloc ?_ _) | (with_reducible refine Wb.Ext.trans ?_ (by assumption)))))) (HPu.out.ext (by (repeat' (first | (with_reducible assumption) | (with_reducible exact Wb.Ext.refl _) | (with_reducible refine Wb.Ext.drew ?_) | (with_reducible refine Wb.Ext.drewN ?_ _) | (with_reducible refine Wb.Ext.alloc ?_ _) | (with_reducible refine Wb.Ext.trans ?_ (by assumption)))))) HS37.out.canon HSu.out.canon HS37.out.bd HSu.out.bd (by omega) (by omega))
                                                                rintro e w38 ⟨v38, r38, rfl, hs38, hp38, hb38⟩
                                                                obtain ⟨sa38, sc38, rfl⟩ := hp38.1.shape
                                                                have HS38 := Lib.hid hs38
                                                                have hl38 : r38.length ≤ 200 := by have := hs38.len; (try simp only [List.length_cons, List.length_nil] at this); omega
                                                                have HE38 := Lib.hid (has_uni hs38)
                                                                replace hb38 : Wb.Ext w37 w38 := Wb.Ext.trans (by (repeat' (first | (with_reducible assumption) | (with_reducible exact Wb.Ext.refl _) | (with_reducible refine Wb.Ext.drew ?_) | (with_reducible refine Wb.Ext.drewN ?_ _) | (with_reducible refine Wb.Ext.alloc ?_ _) | (with_reducible refine Wb.Ext.trans ?_ (by assumption))))) hb38
                                                                replace HP11 := Lib.hid (HP11.out.ext hb38)
                                                                replace HP12 := Lib.hid (HP12.out.ext hb38)
                                                                replace HP14 := Lib.hid (HP14.out.ext hb38)
                                                                replace HP15 := Lib.hid (HP15.out.ext hb38)
                                                                replace HP16 := Lib.hid (HP16.out.ext hb38)
                                                                replace HP19 := Lib.hid (HP19.out.ext hb38)
                                                                replace HP20 := Lib.hid (HP20.out.ext hb38)
                                                                replace HP22 := Lib.hid (HP22.out.ext hb38)
                                                                replace HP23 := Lib.hid (HP23.out.ext hb38)
                                                                replace HP26 := Lib.hid (HP26.out.ext hb38)
                                                                replace HP27 := Lib.hid (HP27.out.ext hb38)
                                                                replace HP29 := Lib.hid (HP29.out.ext hb38)
                                                                replace HP30 := Lib.hid (HP30.out.ext hb38)
                                                                replace HP31 := Lib.hid (HP31.out.ext hb38)
                                                                replace HP34 := Lib.hid (HP34.out.ext hb38)
                                                                replace HP35 := Lib.hid (HP35.out.ext hb38)
                                                                replace HP36 := Lib.hid (HP36.out.ext hb38)
                                                                replace HP37 := Lib.hid (HP37.out.ext hb38)
                                                                have hx38 : Wb.Ext W0 w38 := Wb.Ext.trans (by (repeat' (first | (with_reducible assumption) | (with_reducible exact Wb.Ext.refl _) | (with_reducible refine Wb.Ext.drew ?_) | (with_reducible refine Wb.Ext.drewN ?_ _) | (with_reducible refine Wb.Ext.alloc ?_ _) | (with_reducible refine Wb.Ext.trans ?_ (by assumption))))) hb38
                                                                clear hb38
                                                                have HP38 := Lib.hid hp38
                                                                clear hs38 hp38
                                                                refine hK.out _ _ ⟨Wb.Ext.keep (w := W0) (by (repeat' (first | (with_reducible assumption) | (with_reducible exact Wb.Ext.refl _) | (with_reducible refine Wb.Ext.drew ?_) | (with_reducible refine Wb.Ext.drewN ?_ _) | (with_reducible refine Wb.Ext.alloc ?_ _) | (with_reducible refine Wb.Ext.trans ?_ (by assumption))))) zs, Wb.Ext.keep (w := W0) (by (repeat' (first | (with_reducible assumption) | (with_reducible exact Wb.Ext.refl _) | (with_reducible refine Wb.Ext.drew ?_) | (with_reducible refine Wb.Ext.drewN ?_ _) | (with_reducible refine Wb.Ext.alloc ?_ _) | (with_reducible refine Wb.Ext.trans ?_ (by assumption))))) zt, Wb.Ext.keep (w := W0) (by (repeat' (first | (with_reducible assumption) | (with_reducible exact Wb.Ext.refl _) | (with_reducible refine Wb.Ext.drew ?_) | (with_reducible refine Wb.Ext.drewN ?_ _) | (with_reducible refine Wb.Ext.alloc ?_ _) | (with_reducible refine Wb.Ext.trans ?_ (by assumption))))) zu⟩ (fun hHeld => ?_)
                                                                clear hK K
                                                                (try simp only [Act.put, List.setIfInBounds_toArray, List.set_cons_zero, List.set_cons_succ])
                                                                refine wpAnyH_ready (rs := [59]) (by kernel_rfl) (by simp) ?_
                                                                refine AllReadyH.cons (o := _) rfl (fun K hK => ?_) ?_
                                                                · go_simp
                                                                  go_at_call 17
                                                                  go_fit (all_any _ r38 _ (HP38.out.ext (by (repeat' (first | (with_reducible assumption) | (with_reducible exact Wb.Ext.refl _) | (with_reducible refine Wb.Ext.drew ?_) | (with_reducible refine Wb.Ext.drewN ?_ _) | (with_reducible refine Wb.Ext.alloc ?_ _) | (with_reducible refine Wb.Ext.trans ?_ (by assumption)))))) (by omega))
                                                                  rintro e w39 ⟨v39, rfl, hp39, hb39⟩
                                                                  obtain ⟨sa39, sc39, rfl⟩ := hp39.1.shape
                                                                  replace hb39 : Wb.Ext w38 w39 := Wb.Ext.trans (by (repeat' (first | (with_reducible assumption) | (with_reducible exact Wb.Ext.refl _) | (with_reducible refine Wb.Ext.drew ?_) | (with_reducible refine Wb.Ext.drewN ?_ _) | (with_reducible refine Wb.Ext.alloc ?_ _) | (with_reducible refine Wb.Ext.trans ?_ (by assumption))))) hb39
                                                                  replace HP11 := Lib.hid (HP11.out.ext hb39)
                                                                  replace HP12 := Lib.hid (HP12.out.ext hb39)
                                                                  replace HP14 := Lib.hid (HP14.out.ext hb39)
                                                                  replace HP15 := Lib.hid (HP15.out.ext hb39)
                                                                  replace HP16 := Lib.hid (HP16.out.ext hb39)
                                                                  replace HP19 := Lib.hid (HP19.out.ext hb39)
                                                                  replace HP20 := Lib.hid (HP20.out.ext hb39)
                                                                  replace HP22 := Lib.hid (HP22.out.ext hb39)
                                                                  replace HP23 := Lib.hid (HP23.out.ext hb39)
                                                                  replace HP26 := Lib.hid (HP26.out.ext hb39)
                                                                  replace HP27 := Lib.hid (HP27.out.ext hb39)
                                                                  replace HP29 := Lib.hid (HP29.out.ext hb39)
                                                                  replace HP30 := Lib.hid (HP30.out.ext hb39)
                                                                  replace HP31 := Lib.hid (HP31.out.ext hb39)
                                                                  replace HP34 := Lib.hid (HP34.out.ext hb39)
                                                                  replace HP35 := Lib.hid (HP35.out.ext hb39)
                                                                  replace HP36 := Lib.hid (HP36.out.ext hb39)
                                                                  replace HP37 := Lib.hid (HP37.out.ext hb39)
                                                                  replace HP38 := Lib.hid (HP38.out.ext hb39)
                                                                  have hx39 : Wb.Ext W0 w39 := Wb.Ext.trans (by (repeat' (first | (with_reducible assumption) | (with_reducible exact Wb.Ext.refl _) | (with_reducible refine Wb.Ext.drew ?_) | (with_reducible refine Wb.Ext.drewN ?_ _) | (with_reducible refine Wb.Ext.alloc ?_ _) | (with_reducible refine Wb.Ext.trans ?_ (by assumption))))) hb39
                                                                  clear hb39
                                                                  have HP39 := Lib.hid hp39
                                                                  clear hp39
                                                                  refine hK.out _ _ ⟨Wb.Ext.keep (w := W0) (by (repeat' (first | (with_reducible assumption) | (with_reducible exact Wb.Ext.refl _) | (with_reducible refine Wb.Ext.drew ?_) | (with_reducible refine Wb.Ext.drewN ?_ _) | (with_reducible refine Wb.Ext.alloc ?_ _) | (with_reducible refine Wb.Ext.trans ?_ (by assumption))))) zs, Wb.Ext.keep (w := W0) (by (repeat' (first | (with_reducible assumption) | (with_reducible exact Wb.Ext.refl _) | (with_reducible refine Wb.Ext.drew ?_) | (with_reducible refine Wb.Ext.drewN ?_ _) | (with_reducible refine Wb.Ext.alloc ?_ _) | (with_reducible refine Wb.Ext.trans ?_ (by assumption))))) zt, Wb.Ext.keep (w := W0) (by (repeat' (first | (with_reducible assumption) | (with_reducible exact Wb.Ext.refl _) | (with_reducible refine Wb.Ext.drew ?_) | (with_reducible refine Wb.Ext.drewN ?_ _) | (with_reducible refine Wb.Ext.alloc ?_ _) | (with_reducible refine Wb.Ext.trans ?_ (by assumption))))) zu⟩ (fun hHeld => ?_)
                                                                  clear hK K
                                                                  (try simp only [Act.put, List.setIfInBounds_toArray, List.set_cons_zero, List.set_cons_succ])
                                                                  refine wpAnyH_ready (rs := [60]) (by kernel_rfl) (by simp) ?_
                                                                  refine AllReadyH.cons (o := _) rfl (fun K hK => ?_) ?_
                                                                  · go_simp
                                                                    go_at_call 16
                                                                    go_fit (same2_any _ _ r35 r38 _ (canon_eq HS38.out.canon HS35.out.canon (fun d => by simp only [HE35.out d, HE34.out d, HE38.out d, HE37.out d, HEs.out d, HEt.out d, HEu.out d] <;> (cases Wb.hasL a d <;> cases Wb.hasL b d <;> cases Wb.hasL c d <;> rfl))) (HP36.out.1.ext (by (repeat' (first | (with_reducible assumption) | (with_reducible exact Wb.Ext.refl _) | (with_reducible refine Wb.Ext.drew ?_) | (with_reducible refine Wb.Ext.drewN ?_ _) | (with_reducible refine Wb.Ext.alloc ?_ _) | (with_reducible refine Wb.Ext.trans ?_ (by assumption)))))) (HP39.out.1.ext (by (repeat' (first | (with_reducible assumption) | (with_reducible exact Wb.Ext.refl _) | (with_reducible refine Wb.Ext.drew ?_) | (with_reducible refine Wb.Ext.drewN ?_ _) | (with_reducible refine Wb.Ext.alloc ?_ _) | (with_reducible refine Wb.Ext.trans ?_ (by assumption)))))) (by omega))
                                                                    rintro e w40 ⟨rfl, hb40⟩
                                                                    replace hb40 : Wb.Ext w39 w40 := Wb.Ext.trans (by (repeat' (first | (with_reducible assumption) | (with_reducible exact Wb.Ext.refl _) | (with_reducible refine Wb.Ext.drew ?_) | (with_reducible refine Wb.Ext.drewN ?_ _) | (with_reducible refine Wb.Ext.alloc ?_ _) | (with_reducible refine Wb.Ext.trans ?_ (by assumption))))) hb40
                                                                    replace HP11 := Lib.hid (HP11.out.ext hb40)
                                                                    replace HP12 := Lib.hid (HP12.out.ext hb40)
                                                                    replace HP14 := Lib.hid (HP14.out.ext hb40)
                                                                    replace HP15 := Lib.hid (HP15.out.ext hb40)
                                                                    replace HP16 := Lib.hid (HP16.out.ext hb40)
                                                                    replace HP19 := Lib.hid (HP19.out.ext hb40)
                                                                    replace HP20 := Lib.hid (HP20.out.ext hb40)
                                                                    replace HP22 := Lib.hid (HP22.out.ext hb40)
                                                                    replace HP23 := Lib.hid (HP23.out.ext hb40)
                                                                    replace HP26 := Lib.hid (HP26.out.ext hb40)
                                                                    replace HP27 := Lib.hid (HP27.out.ext hb40)
                                                                    replace HP29 := Lib.hid (HP29.out.ext hb40)
                                                                    replace HP30 := Lib.hid (HP30.out.ext hb40)
                                                                    replace HP31 := Lib.hid (HP31.out.ext hb40)
                                                                    replace HP34 := Lib.hid (HP34.out.ext hb40)
                                                                    replace HP35 := Lib.hid (HP35.out.ext hb40)
                                                                    replace HP37 := Lib.hid (HP37.out.ext hb40)
                                                                    replace HP38 := Lib.hid (HP38.out.ext hb40)
                                                                    have hx40 : Wb.Ext W0 w40 := Wb.Ext.trans (by (repeat' (first | (with_reducible assumption) | (with_reducible exact Wb.Ext.refl _) | (with_reducible refine Wb.Ext.drew ?_) | (with_reducible refine Wb.Ext.drewN ?_ _) | (with_reducible refine Wb.Ext.alloc ?_ _) | (with_reducible refine Wb.Ext.trans ?_ (by assumption))))) hb40
                                                                    clear hb40
                                                                    refine hK.out _ _ ⟨Wb.Ext.keep (w := W0) (by (repeat' (first | (with_reducible assumption) | (with_reducible exact Wb.Ext.refl _) | (with_reducible refine Wb.Ext.drew ?_) | (with_reducible refine Wb.Ext.drewN ?_ _) | (with_reducible refine Wb.Ext.alloc ?_ _) | (with_reducible refine Wb.Ext.trans ?_ (by assumption))))) zs, Wb.Ext.keep (w := W0) (by (repeat' (first | (with_reducible assumption) | (with_reducible exact Wb.Ext.refl _) | (with_reducible refine Wb.Ext.drew ?_) | (with_reducible refine Wb.Ext.drewN ?_ _) | (with_reducible refine Wb.Ext.alloc ?_ _) | (with_reducible refine Wb.Ext.trans ?_ (by assumption))))) zt, Wb.Ext.keep (w := W0) (by (repeat' (first | (with_reducible assumption) | (with_reducible exact Wb.Ext.refl _) | (with_reducible refine Wb.Ext.drew ?_) | (with_reducible refine Wb.Ext.drewN ?_ _) | (with_reducible refine Wb.Ext.alloc ?_ _) | (with_reducible refine Wb.Ext.trans ?_ (by assumption))))) zu⟩ (fun hHeld => ?_)
                                                                    clear hK K
                                                                    (try simp only [Act.put, List.setIfInBounds_toArray, List.set_cons_zero, List.set_cons_succ])
                                                                    refine take_d (i := 61) (d := 92) (v := ?_) rfl rfl (by kernel_rfl) (by kernel_rfl) (by kernel_rfl) (fun _ _ _ h => h) (Or.inl ⟨by rfl, ?_⟩) (by assumption) ?_
                                                                    rotate_left
                                                                    · (intro w hSw; (try dsimp only at hSw); go_simp; (try with_reducible rfl))
                                                                    (try simp only [Act.put, List.setIfInBounds_toArray, List.set_cons_zero, List.set_cons_succ])
                                                                    refine take_d (i := 62) (d := 6) (v := ?_) rfl rfl (by kernel_rfl) (by kernel_rfl) (by kernel_rfl) (fun _ _ _ h => h) (Or.inl ⟨by rfl, ?_⟩) (by assumption) ?_
                                                                    rotate_left
                                                                    · (intro w hSw; (try dsimp only at hSw); go_simp; (try with_reducible rfl))
                                                                    (try simp only [Act.put, List.setIfInBounds_toArray, List.set_cons_zero, List.set_cons_succ])
                                                                    refine wpAnyH_done (by kernel_rfl) ?_ _
                                                                    go_wp2
                                                                    go_ret
                                                                    exact ⟨rfl, hxW.trans (by (repeat' (first | (with_reducible assumption) | (with_reducible exact Wb.Ext.refl _) | (with_reducible refine Wb.Ext.drew ?_) | (with_reducible refine Wb.Ext.drewN ?_ _) | (with_reducible refine Wb.Ext.alloc ?_ _) | (with_reducible refine Wb.Ext.trans ?_ (by assumption)))))⟩
                                                                  exact AllReadyH.nil
                                                                exact AllReadyH.nil
                                                              exact AllReadyH.nil
                                                            exact AllReadyH.nil
                                                          exact AllReadyH.nil
                                                        exact AllReadyH.nil
                                                      exact AllReadyH.nil
                                                    exact AllReadyH.nil
                                                  exact AllReadyH.nil
                                                exact AllReadyH.nil
                                              exact AllReadyH.nil
                                            exact AllReadyH.nil
                                          exact AllReadyH.nil
                                        exact AllReadyH.nil
                                      exact AllReadyH.nil
                                    exact AllReadyH.nil
                                  exact AllReadyH.nil
                                exact AllReadyH.nil
                              exact AllReadyH.nil
                            exact AllReadyH.nil
                          exact AllReadyH.nil
                        exact AllReadyH.nil
                      exact AllReadyH.nil
                    exact AllReadyH.nil
                  exact AllReadyH.nil
                exact AllReadyH.nil
              exact AllReadyH.nil
            exact AllReadyH.nil
          exact AllReadyH.nil
        exact AllReadyH.nil

end Go.Proofs.Ytdckghdmopafpaa
