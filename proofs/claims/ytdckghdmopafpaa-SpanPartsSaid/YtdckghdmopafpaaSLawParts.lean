/- The walk of wagebooklaw05.SpanParts. -/
import Derived.Test.YtdckghdmopafpaaSLaw0
import Derived.Deep.DeepCutAuto
namespace Go.Proofs.Ytdckghdmopafpaa
open Go.RowKit Go.Lib
set_option maxRecDepth 8000
attribute [local go_sem ↓] Go.wp_at_zero Go.wp_at_succ

set_option maxHeartbeats 16000000 in
theorem parts_walk (W : World) (va : Value) (a : List Wb.Sp) (hva : SpL W va a) (hba : BdL a) (vb : Value) (b : List Wb.Sp) (hvb : SpL W vb b) (hbb : BdL b) :
    Calls Try.prog 6 #[va, vb] W fun e w' => e = .returned (.bool true) ∧ Wb.Ext W w' := by
  obtain ⟨aA, aK, rfl⟩ := hva.1.shape
  have HVa := Lib.hid hva
  have HBa := Lib.hid hba
  clear hva hba
  obtain ⟨bA, bK, rfl⟩ := hvb.1.shape
  have HVb := Lib.hid hvb
  have HBb := Lib.hid hbb
  clear hvb hbb
  by_cases hla : 40 < a.length
  · have da : decide ((40 : Int) < (a.length : Int)) = true := by simp; omega
    go_enter Try.func6, Try.ntmps6
    go_wp2_with fail
    go_fit (awake_any _); rintro e w0 ⟨rfl, hx0⟩
    go_wp2
    go_ret
    exact ⟨rfl, hx0⟩
  · have da : decide ((40 : Int) < (a.length : Int)) = false := by simp; omega
    have hma : a.length ≤ 40 := by omega
    by_cases hlb : 40 < b.length
    · have db : decide ((40 : Int) < (b.length : Int)) = true := by simp; omega
      go_enter Try.func6, Try.ntmps6
      go_wp2_with fail
      go_fit (awake_any _); rintro e w0 ⟨rfl, hx0⟩
      go_wp2
      go_ret
      exact ⟨rfl, hx0⟩
    · have db : decide ((40 : Int) < (b.length : Int)) = false := by simp; omega
      have hmb : b.length ≤ 40 := by omega
      go_enter Try.func6, Try.ntmps6
      go_wp2_with fail
      go_fit (awake_any _); rintro e w0 ⟨rfl, hx0⟩
      go_wp2_with fail
      refine Wb.wp_at fun W1 hW1 => ?_
      have hb1 : Wb.Ext w0 W1 := by rw [hW1]; (repeat' (first | (with_reducible assumption) | (with_reducible exact Wb.Ext.refl _) | (with_reducible refine Wb.Ext.drew ?_) | (with_reducible refine Wb.Ext.drewN ?_ _) | (with_reducible refine Wb.Ext.alloc ?_ _) | (with_reducible refine Wb.Ext.trans ?_ (by assumption))))
      have s0 : W1.cell? ⟨w0.heap.size, 0, none⟩ = some (.slice aA a.length aK) := by rw [hW1]; simp [go_sem]
      have s1 : W1.cell? ⟨w0.heap.size, 1, none⟩ = some (.slice bA b.length bK) := by rw [hW1]; simp [go_sem]
      have HX1 := Lib.hid (hx0.trans hb1)
      clear hW1 hb1
      go_loopw [26, 6, 7] (fun iv _ _ wr => ∃ k : Nat, k ≤ 2 ∧ iv = .int .i64 k ∧ Hid (0 < k → (∀ s ∈ a, -1099511627776 ≤ s.1 ∧ s.2 ≤ 1099511627776)) ∧ Hid (1 < k → (∀ s ∈ b, -1099511627776 ≤ s.1 ∧ s.2 ≤ 1099511627776)) ∧ W1 = wr) (fun iv _ _ _ => 2 - (intOf iv).toNat)
      case atStart => exact ⟨0, Nat.zero_le _, rfl, Lib.hid (fun h => absurd h (by omega)), Lib.hid (fun h => absurd h (by omega)), rfl⟩
      case round =>
        obtain ⟨k, hk, rfl, HWa, HWb, rfl⟩ := hrel
        by_cases hlt : k < 2
        · have hki : (k : Int) < 2 := by omega
          obtain ⟨xA, xK, x, hsp, hxl, hc0, hnext⟩ : ∃ xA xK x, SpL W (.slice xA x.length xK) x ∧ x.length ≤ 40 ∧ W1.cell? ⟨w0.heap.size, k, none⟩ = some (.slice xA x.length xK) ∧ ((∀ s ∈ x, -1099511627776 ≤ s.1 ∧ s.2 ≤ 1099511627776) → (0 < k + 1 → (∀ s ∈ a, -1099511627776 ≤ s.1 ∧ s.2 ≤ 1099511627776)) ∧ (1 < k + 1 → (∀ s ∈ b, -1099511627776 ≤ s.1 ∧ s.2 ≤ 1099511627776))) := by
            have : k = 0 ∨ k = 1 := by omega
            rcases this with rfl | rfl
            · exact ⟨aA, aK, a, HVa.out, hma, s0, fun h => ⟨fun _ => h, fun h => absurd h (by omega)⟩⟩
            · exact ⟨bA, bK, b, HVb.out, hmb, s1, fun h => ⟨fun _ => HWa.out (by omega), fun _ => h⟩⟩
          have HSP := Lib.hid (hsp.1.ext HX1.out)
          have HNX := Lib.hid hnext
          clear hsp hnext
          go_wp2_with fail
          go_loopw [7] (fun iv wr => ∃ j : Nat, j ≤ x.length ∧ iv = .int .i64 j ∧ Hid (∀ t s, x[t]? = some s → t < j → -1099511627776 ≤ s.1 ∧ s.2 ≤ 1099511627776) ∧ W1 = wr) (fun iv _ => x.length - (intOf iv).toNat)
          case atStart => exact ⟨0, Nat.zero_le _, rfl, Lib.hid (fun t s _ h => absurd h (Nat.not_lt_zero _)), rfl⟩
          case round =>
            obtain ⟨j, hj, rfl, HLO, rfl⟩ := hrel
            by_cases hjl : j < x.length
            · obtain ⟨y, hy⟩ := Wb.get_ex hjl
              obtain ⟨bb, off, rfl, hcells⟩ := HSP.out.opened (tne hjl)
              have c0 := hcells _ y hy 0 _ rfl
              have c1 := hcells _ y hy 1 _ rfl
              have hji : (j : Int) < x.length := by omega
              have HY := Lib.hid hy
              clear hcells hy
              simp only [Nat.add_zero] at c0
              by_cases h1 : y.1 < -1099511627776
              · go_wp2
                go_ret
                exact ⟨rfl, HX1.out⟩
              · have d1 : decide (y.1 < -1099511627776) = false := by simpa using h1
                by_cases h2 : 1099511627776 < y.2
                · go_wp2
                  go_ret
                  exact ⟨rfl, HX1.out⟩
                · have d2 : decide (1099511627776 < y.2) = false := by simpa using h2
                  have HLO2 : Hid (∀ t s, x[t]? = some s → t < j + 1 → -1099511627776 ≤ s.1 ∧ s.2 ≤ 1099511627776) := Lib.hid (fun t s ht htk => by
                    rcases Nat.lt_or_ge t j with q | q
                    · exact HLO.out t s ht q
                    · obtain rfl : t = j := by omega
                      rw [HY.out] at ht; cases ht; omega)
                  go_wp2
                  go_roundw
                  case rel => exact ⟨j + 1, by omega, by go_num, HLO2, by first | rfl | trivial⟩
                  case measure => simp [intOf]; omega
            · obtain rfl : j = x.length := by omega
              have HN := Lib.hid (HNX.out (fun s hs => by
                obtain ⟨t, ht⟩ := List.getElem?_of_mem hs
                exact HLO.out t s ht (List.getElem?_eq_some_iff.1 ht).1))
              go_wp2
              go_roundw
              case rel => exact ⟨k + 1, by omega, by go_num, Lib.hid HN.out.1, Lib.hid HN.out.2, by first | rfl | trivial⟩
              case measure => simp [intOf]; omega
        · obtain rfl : k = 2 := by omega
          have HWA := Lib.hid (HWa.out (by omega))
          have HWB := Lib.hid (HWb.out (by omega))
          go_wp2_with fail
          go_fit (of_any _ a _ (HVa.out.ext (Wb.Ext.trans HX1.out (by (repeat' (first | (with_reducible assumption) | (with_reducible exact Wb.Ext.refl _) | (with_reducible refine Wb.Ext.drew ?_) | (with_reducible refine Wb.Ext.drewN ?_ _) | (with_reducible refine Wb.Ext.alloc ?_ _) | (with_reducible refine Wb.Ext.trans ?_ (by assumption))))))) HBa.out (by omega)); rintro e w1 ⟨v1, s, rfl, hs1, hp1, hb1⟩
          obtain ⟨sA, sK, rfl⟩ := hp1.1.shape
          have HSs := Lib.hid hs1
          have HEs := Lib.hid (has_of hs1)
          have hls : s.length ≤ 40 := by have := hs1.len; omega
          replace hb1 : Wb.Ext W1 w1 := Wb.Ext.trans (by (repeat' (first | (with_reducible assumption) | (with_reducible exact Wb.Ext.refl _) | (with_reducible refine Wb.Ext.drew ?_) | (with_reducible refine Wb.Ext.drewN ?_ _) | (with_reducible refine Wb.Ext.alloc ?_ _) | (with_reducible refine Wb.Ext.trans ?_ (by assumption))))) hb1
          have HPs := Lib.hid hp1
          have hx1 : Wb.Ext W w1 := Wb.Ext.trans HX1.out hb1
          clear hs1 hp1 hb1
          go_wp2_with fail
          go_fit (of_any _ b _ (HVb.out.ext (Wb.Ext.trans hx1 (by (repeat' (first | (with_reducible assumption) | (with_reducible exact Wb.Ext.refl _) | (with_reducible refine Wb.Ext.drew ?_) | (with_reducible refine Wb.Ext.drewN ?_ _) | (with_reducible refine Wb.Ext.alloc ?_ _) | (with_reducible refine Wb.Ext.trans ?_ (by assumption))))))) HBb.out (by omega)); rintro e w2 ⟨v2, t, rfl, hs2, hp2, hb2⟩
          obtain ⟨tA, tK, rfl⟩ := hp2.1.shape
          have HSt := Lib.hid hs2
          have HEt := Lib.hid (has_of hs2)
          have hlt : t.length ≤ 40 := by have := hs2.len; omega
          replace hb2 : Wb.Ext w1 w2 := Wb.Ext.trans (by (repeat' (first | (with_reducible assumption) | (with_reducible exact Wb.Ext.refl _) | (with_reducible refine Wb.Ext.drew ?_) | (with_reducible refine Wb.Ext.drewN ?_ _) | (with_reducible refine Wb.Ext.alloc ?_ _) | (with_reducible refine Wb.Ext.trans ?_ (by assumption))))) hb2
          replace HPs := Lib.hid (HPs.out.ext hb2)
          have HPt := Lib.hid hp2
          have hx2 : Wb.Ext W w2 := Wb.Ext.trans hx1 hb2
          clear hs2 hp2 hb2
          go_upto_region 15 with (fail)
          refine Wb.wp_at fun W0 hW0 => ?_
          have hb : Wb.Ext w2 W0 := by rw [hW0]; (repeat' (first | (with_reducible assumption) | (with_reducible exact Wb.Ext.refl _) | (with_reducible refine Wb.Ext.drew ?_) | (with_reducible refine Wb.Ext.drewN ?_ _) | (with_reducible refine Wb.Ext.alloc ?_ _) | (with_reducible refine Wb.ext_set ?_ (by first | assumption | (simp; done) | (simp; omega) | omega) _) | (with_reducible refine Wb.Ext.trans ?_ (by assumption))))
          have zs : W0.cell? ⟨w2.heap.size, 0, none⟩ = some (.slice sA s.length sK) := by rw [hW0]; simp [go_sem]
          have zt : W0.cell? ⟨w2.heap.size + 1, 0, none⟩ = some (.slice tA t.length tK) := by rw [hW0]; simp [go_sem]
          replace HPs := Lib.hid (HPs.out.ext hb)
          replace HPt := Lib.hid (HPt.out.ext hb)
          have hxW : Wb.Ext W W0 := hx2.trans hb
          clear hW0 hb
          go_cut [10, 11] (fun s10 s11 wx => ∃ P Q pA pK p qA qK q, s10 = .pointer (some ⟨P, 0, none⟩) ∧ s11 = .pointer (some ⟨Q, 0, none⟩) ∧ wx.cell? ⟨P, 0, none⟩ = some (.slice pA p.length pK) ∧ wx.cell? ⟨Q, 0, none⟩ = some (.slice qA q.length qK) ∧ SpL wx (.slice pA p.length pK) p ∧ SpL wx (.slice qA q.length qK) q ∧ IsSet p (fun d => (fun p q : Bool => p && q) (Wb.hasL s d) (Wb.hasL t d) = true) ((s.length + t.length) * 2) ∧ IsSet q (fun d => (fun p q : Bool => p && !q) (Wb.hasL s d) (Wb.hasL t d) = true) ((s.length + t.length) * 2) ∧ Wb.Ext W0 wx)
          case first =>
            refine region_start (S := (fun w' => w'.cell? ⟨w2.heap.size, 0, none⟩ = some (.slice sA s.length sK) ∧ w'.cell? ⟨w2.heap.size + 1, 0, none⟩ = some (.slice tA t.length tK))) (n := 10) (l := #[false, false, false, false, false, false, false, false, false, false]) (by kernel_rfl) ⟨zs, zt⟩ (by kernel_rfl) (by kernel_rfl) (fun hHeld => ?_)
            refine take_d (i := 0) (d := 55) (v := ?_) rfl rfl (by kernel_rfl) (by kernel_rfl) (by kernel_rfl) (fun _ _ _ h => h) (Or.inl ⟨by rfl, ?_⟩) (by assumption) ?_
            rotate_left
            · (intro w hSw; (try dsimp only at hSw); go_simp; (try with_reducible rfl))
            (try simp only [Act.put, List.setIfInBounds_toArray, List.set_cons_zero, List.set_cons_succ])
            refine take_d (i := 1) (d := 56) (v := ?_) rfl rfl (by kernel_rfl) (by kernel_rfl) (by kernel_rfl) (fun _ _ _ h => h) (Or.inl ⟨by rfl, ?_⟩) (by assumption) ?_
            rotate_left
            · (intro w hSw; (try dsimp only at hSw); go_simp; (try with_reducible rfl))
            (try simp only [Act.put, List.setIfInBounds_toArray, List.set_cons_zero, List.set_cons_succ])
            refine take_d (i := 3) (d := 58) (v := ?_) rfl rfl (by kernel_rfl) (by kernel_rfl) (by kernel_rfl) (fun _ _ _ h => h) (Or.inl ⟨by rfl, ?_⟩) (by assumption) ?_
            rotate_left
            · (intro w hSw; (try dsimp only at hSw); go_simp; (try with_reducible rfl))
            (try simp only [Act.put, List.setIfInBounds_toArray, List.set_cons_zero, List.set_cons_succ])
            refine take_d (i := 4) (d := 59) (v := ?_) rfl rfl (by kernel_rfl) (by kernel_rfl) (by kernel_rfl) (fun _ _ _ h => h) (Or.inl ⟨by rfl, ?_⟩) (by assumption) ?_
            rotate_left
            · (intro w hSw; (try dsimp only at hSw); go_simp; (try with_reducible rfl))
            (try simp only [Act.put, List.setIfInBounds_toArray, List.set_cons_zero, List.set_cons_succ])
            refine wpAnyH_ready (rs := [2, 6, 7]) (by kernel_rfl) (by simp) ?_
            refine AllReadyH.cons (o := _) rfl (fun K hK => ?_) ?_
            · go_simp
              go_at_call 20
              go_fit (meet_any _ _ s t _ (HPs.out.ext (by (repeat' (first | (with_reducible assumption) | (with_reducible exact Wb.Ext.refl _) | (with_reducible refine Wb.Ext.drew ?_) | (with_reducible refine Wb.Ext.drewN ?_ _) | (with_reducible refine Wb.Ext.alloc ?_ _) | (with_reducible refine Wb.Ext.trans ?_ (by assumption)))))) (HPt.out.ext (by (repeat' (first | (with_reducible assumption) | (with_reducible exact Wb.Ext.refl _) | (with_reducible refine Wb.Ext.drew ?_) | (with_reducible refine Wb.Ext.drewN ?_ _) | (with_reducible refine Wb.Ext.alloc ?_ _) | (with_reducible refine Wb.Ext.trans ?_ (by assumption)))))) HSs.out.canon HSt.out.canon HSs.out.bd HSt.out.bd (by omega) (by omega))
              rintro e w11 ⟨v11, r11, rfl, hs11, hp11, hb11⟩
              obtain ⟨sa11, sc11, rfl⟩ := hp11.1.shape
              have HS11 := Lib.hid hs11
              have hl11 : r11.length ≤ 160 := by have := hs11.len; (try simp only [List.length_cons, List.length_nil] at this); omega
              have HE11 := Lib.hid (has_met hs11)
              replace hb11 : Wb.Ext W0 w11 := Wb.Ext.trans (by (repeat' (first | (with_reducible assumption) | (with_reducible exact Wb.Ext.refl _) | (with_reducible refine Wb.Ext.drew ?_) | (with_reducible refine Wb.Ext.drewN ?_ _) | (with_reducible refine Wb.Ext.alloc ?_ _) | (with_reducible refine Wb.Ext.trans ?_ (by assumption))))) hb11
              have hx11 : Wb.Ext W0 w11 := Wb.Ext.trans (by (repeat' (first | (with_reducible assumption) | (with_reducible exact Wb.Ext.refl _) | (with_reducible refine Wb.Ext.drew ?_) | (with_reducible refine Wb.Ext.drewN ?_ _) | (with_reducible refine Wb.Ext.alloc ?_ _) | (with_reducible refine Wb.Ext.trans ?_ (by assumption))))) hb11
              clear hb11
              have HP11 := Lib.hid hp11
              clear hs11 hp11
              refine hK.out _ _ ⟨Wb.Ext.keep (w := W0) (by (repeat' (first | (with_reducible assumption) | (with_reducible exact Wb.Ext.refl _) | (with_reducible refine Wb.Ext.drew ?_) | (with_reducible refine Wb.Ext.drewN ?_ _) | (with_reducible refine Wb.Ext.alloc ?_ _) | (with_reducible refine Wb.Ext.trans ?_ (by assumption))))) zs, Wb.Ext.keep (w := W0) (by (repeat' (first | (with_reducible assumption) | (with_reducible exact Wb.Ext.refl _) | (with_reducible refine Wb.Ext.drew ?_) | (with_reducible refine Wb.Ext.drewN ?_ _) | (with_reducible refine Wb.Ext.alloc ?_ _) | (with_reducible refine Wb.Ext.trans ?_ (by assumption))))) zt⟩ (fun hHeld => ?_)
              clear hK K
              (try simp only [Act.put, List.setIfInBounds_toArray, List.set_cons_zero, List.set_cons_succ])
              refine wpAnyH_ready (rs := [5, 6, 7]) (by kernel_rfl) (by simp) ?_
              refine AllReadyH.cons (o := _) rfl (fun K hK => ?_) ?_
              · go_simp
                go_at_call 21
                go_fit (minus_any _ _ s t _ (HPs.out.ext (by (repeat' (first | (with_reducible assumption) | (with_reducible exact Wb.Ext.refl _) | (with_reducible refine Wb.Ext.drew ?_) | (with_reducible refine Wb.Ext.drewN ?_ _) | (with_reducible refine Wb.Ext.alloc ?_ _) | (with_reducible refine Wb.Ext.trans ?_ (by assumption)))))) (HPt.out.ext (by (repeat' (first | (with_reducible assumption) | (with_reducible exact Wb.Ext.refl _) | (with_reducible refine Wb.Ext.drew ?_) | (with_reducible refine Wb.Ext.drewN ?_ _) | (with_reducible refine Wb.Ext.alloc ?_ _) | (with_reducible refine Wb.Ext.trans ?_ (by assumption)))))) HSs.out.canon HSt.out.canon HSs.out.bd HSt.out.bd (by omega) (by omega))
                rintro e w12 ⟨v12, r12, rfl, hs12, hp12, hb12⟩
                obtain ⟨sa12, sc12, rfl⟩ := hp12.1.shape
                have HS12 := Lib.hid hs12
                have hl12 : r12.length ≤ 160 := by have := hs12.len; (try simp only [List.length_cons, List.length_nil] at this); omega
                have HE12 := Lib.hid (has_min hs12)
                replace hb12 : Wb.Ext w11 w12 := Wb.Ext.trans (by (repeat' (first | (with_reducible assumption) | (with_reducible exact Wb.Ext.refl _) | (with_reducible refine Wb.Ext.drew ?_) | (with_reducible refine Wb.Ext.drewN ?_ _) | (with_reducible refine Wb.Ext.alloc ?_ _) | (with_reducible refine Wb.Ext.trans ?_ (by assumption))))) hb12
                replace HP11 := Lib.hid (HP11.out.ext hb12)
                have hx12 : Wb.Ext W0 w12 := Wb.Ext.trans (by (repeat' (first | (with_reducible assumption) | (with_reducible exact Wb.Ext.refl _) | (with_reducible refine Wb.Ext.drew ?_) | (with_reducible refine Wb.Ext.drewN ?_ _) | (with_reducible refine Wb.Ext.alloc ?_ _) | (with_reducible refine Wb.Ext.trans ?_ (by assumption))))) hb12
                clear hb12
                have HP12 := Lib.hid hp12
                clear hs12 hp12
                refine hK.out _ _ ⟨Wb.Ext.keep (w := W0) (by (repeat' (first | (with_reducible assumption) | (with_reducible exact Wb.Ext.refl _) | (with_reducible refine Wb.Ext.drew ?_) | (with_reducible refine Wb.Ext.drewN ?_ _) | (with_reducible refine Wb.Ext.alloc ?_ _) | (with_reducible refine Wb.Ext.trans ?_ (by assumption))))) zs, Wb.Ext.keep (w := W0) (by (repeat' (first | (with_reducible assumption) | (with_reducible exact Wb.Ext.refl _) | (with_reducible refine Wb.Ext.drew ?_) | (with_reducible refine Wb.Ext.drewN ?_ _) | (with_reducible refine Wb.Ext.alloc ?_ _) | (with_reducible refine Wb.Ext.trans ?_ (by assumption))))) zt⟩ (fun hHeld => ?_)
                clear hK K
                (try simp only [Act.put, List.setIfInBounds_toArray, List.set_cons_zero, List.set_cons_succ])
                refine wpAnyH_ready (rs := [6, 7]) (by kernel_rfl) (by simp) ?_
                refine AllReadyH.cons (o := _) rfl (fun K hK => ?_) ?_
                · go_simp
                  refine atK fun w13 hw13 => ?_
                  have hb13 : Wb.Ext w12 w13 := by rw [hw13]; (repeat' (first | (with_reducible assumption) | (with_reducible exact Wb.Ext.refl _) | (with_reducible refine Wb.Ext.drew ?_) | (with_reducible refine Wb.Ext.drewN ?_ _) | (with_reducible refine Wb.Ext.alloc ?_ _) | (with_reducible refine Wb.Ext.trans ?_ (by assumption))))
                  replace hb13 : Wb.Ext w12 w13 := Wb.Ext.trans (by (repeat' (first | (with_reducible assumption) | (with_reducible exact Wb.Ext.refl _) | (with_reducible refine Wb.Ext.drew ?_) | (with_reducible refine Wb.Ext.drewN ?_ _) | (with_reducible refine Wb.Ext.alloc ?_ _) | (with_reducible refine Wb.Ext.trans ?_ (by assumption))))) hb13
                  replace HP11 := Lib.hid (HP11.out.ext hb13)
                  replace HP12 := Lib.hid (HP12.out.ext hb13)
                  have hx13 : Wb.Ext W0 w13 := Wb.Ext.trans (by (repeat' (first | (with_reducible assumption) | (with_reducible exact Wb.Ext.refl _) | (with_reducible refine Wb.Ext.drew ?_) | (with_reducible refine Wb.Ext.drewN ?_ _) | (with_reducible refine Wb.Ext.alloc ?_ _) | (with_reducible refine Wb.Ext.trans ?_ (by assumption))))) hb13
                  have yp : w13.cell? ⟨w12.heap.size, 0, none⟩ = some (.slice none 0 0) := by rw [hw13]; simp [go_sem]
                  have yfp : w13.frozen? ⟨w12.heap.size, 0, none⟩ = false := by rw [hw13]; simp [go_sem]
                  have ybp : W0.heap.size ≤ w12.heap.size ∧ w12.heap.size < w13.heap.size := ⟨(show Wb.Ext W0 w12 by (repeat' (first | (with_reducible assumption) | (with_reducible exact Wb.Ext.refl _) | (with_reducible refine Wb.Ext.drew ?_) | (with_reducible refine Wb.Ext.drewN ?_ _) | (with_reducible refine Wb.Ext.alloc ?_ _) | (with_reducible refine Wb.Ext.trans ?_ (by assumption))))).size, by rw [hw13]; simp⟩
                  clear hw13 hb13
                  refine hK.out _ _ ⟨Wb.Ext.keep (w := W0) (by (repeat' (first | (with_reducible assumption) | (with_reducible exact Wb.Ext.refl _) | (with_reducible refine Wb.Ext.drew ?_) | (with_reducible refine Wb.Ext.drewN ?_ _) | (with_reducible refine Wb.Ext.alloc ?_ _) | (with_reducible refine Wb.Ext.trans ?_ (by assumption))))) zs, Wb.Ext.keep (w := W0) (by (repeat' (first | (with_reducible assumption) | (with_reducible exact Wb.Ext.refl _) | (with_reducible refine Wb.Ext.drew ?_) | (with_reducible refine Wb.Ext.drewN ?_ _) | (with_reducible refine Wb.Ext.alloc ?_ _) | (with_reducible refine Wb.Ext.trans ?_ (by assumption))))) zt⟩ (fun hHeld => ?_)
                  clear hK K
                  (try simp only [Act.put, List.setIfInBounds_toArray, List.set_cons_zero, List.set_cons_succ])
                  refine wpAnyH_ready (rs := [7]) (by kernel_rfl) (by simp) ?_
                  refine AllReadyH.cons (o := _) rfl (fun K hK => ?_) ?_
                  · go_simp
                    have npq : w12.heap.size ≠ w13.heap.size := Nat.ne_of_lt ybp.2
                    refine atK fun w14 hw14 => ?_
                    have hb14 : Wb.Ext w13 w14 := by rw [hw14]; (repeat' (first | (with_reducible assumption) | (with_reducible exact Wb.Ext.refl _) | (with_reducible refine Wb.Ext.drew ?_) | (with_reducible refine Wb.Ext.drewN ?_ _) | (with_reducible refine Wb.Ext.alloc ?_ _) | (with_reducible refine Wb.Ext.trans ?_ (by assumption))))
                    replace hb14 : Wb.Ext w13 w14 := Wb.Ext.trans (by (repeat' (first | (with_reducible assumption) | (with_reducible exact Wb.Ext.refl _) | (with_reducible refine Wb.Ext.drew ?_) | (with_reducible refine Wb.Ext.drewN ?_ _) | (with_reducible refine Wb.Ext.alloc ?_ _) | (with_reducible refine Wb.Ext.trans ?_ (by assumption))))) hb14
                    replace HP11 := Lib.hid (HP11.out.ext hb14)
                    replace HP12 := Lib.hid (HP12.out.ext hb14)
                    have yfp := (Below.frozen hb14 ybp.2).trans yfp
                    have yp := hb14.keep yp
                    have ybp := And.intro ybp.1 (Nat.lt_of_lt_of_le ybp.2 hb14.size)
                    have hx14 : Wb.Ext W0 w14 := Wb.Ext.trans (by (repeat' (first | (with_reducible assumption) | (with_reducible exact Wb.Ext.refl _) | (with_reducible refine Wb.Ext.drew ?_) | (with_reducible refine Wb.Ext.drewN ?_ _) | (with_reducible refine Wb.Ext.alloc ?_ _) | (with_reducible refine Wb.Ext.trans ?_ (by assumption))))) hb14
                    have yq : w14.cell? ⟨w13.heap.size, 0, none⟩ = some (.slice none 0 0) := by rw [hw14]; simp [go_sem]
                    have yfq : w14.frozen? ⟨w13.heap.size, 0, none⟩ = false := by rw [hw14]; simp [go_sem]
                    have ybq : W0.heap.size ≤ w13.heap.size ∧ w13.heap.size < w14.heap.size := ⟨(show Wb.Ext W0 w13 by (repeat' (first | (with_reducible assumption) | (with_reducible exact Wb.Ext.refl _) | (with_reducible refine Wb.Ext.drew ?_) | (with_reducible refine Wb.Ext.drewN ?_ _) | (with_reducible refine Wb.Ext.alloc ?_ _) | (with_reducible refine Wb.Ext.trans ?_ (by assumption))))).size, by rw [hw14]; simp⟩
                    clear hw14 hb14
                    refine hK.out _ _ ⟨Wb.Ext.keep (w := W0) (by (repeat' (first | (with_reducible assumption) | (with_reducible exact Wb.Ext.refl _) | (with_reducible refine Wb.Ext.drew ?_) | (with_reducible refine Wb.Ext.drewN ?_ _) | (with_reducible refine Wb.Ext.alloc ?_ _) | (with_reducible refine Wb.Ext.trans ?_ (by assumption))))) zs, Wb.Ext.keep (w := W0) (by (repeat' (first | (with_reducible assumption) | (with_reducible exact Wb.Ext.refl _) | (with_reducible refine Wb.Ext.drew ?_) | (with_reducible refine Wb.Ext.drewN ?_ _) | (with_reducible refine Wb.Ext.alloc ?_ _) | (with_reducible refine Wb.Ext.trans ?_ (by assumption))))) zt⟩ (fun hHeld => ?_)
                    clear hK K
                    (try simp only [Act.put, List.setIfInBounds_toArray, List.set_cons_zero, List.set_cons_succ])
                    refine wpAnyH_ready (rs := [8]) (by kernel_rfl) (by simp) ?_
                    refine AllReadyH.cons (o := _) rfl (fun K hK => ?_) ?_
                    · go_simp
                      refine atK fun w15 hw15 => ?_
                      have hx15 : Wb.Ext W0 w15 := by rw [hw15]; exact Wb.ext_set (by (repeat' (first | (with_reducible assumption) | (with_reducible exact Wb.Ext.refl _) | (with_reducible refine Wb.Ext.drew ?_) | (with_reducible refine Wb.Ext.drewN ?_ _) | (with_reducible refine Wb.Ext.alloc ?_ _) | (with_reducible refine Wb.Ext.trans ?_ (by assumption))))) ybp.1 _
                      replace HP11 := Lib.hid (show SpL w15 _ r11 by rw [hw15]; exact HP11.out.set yp _)
                      replace HP12 := Lib.hid (show SpL w15 _ r12 by rw [hw15]; exact HP12.out.set yp _)
                      have yq : w15.cell? ⟨w13.heap.size, 0, none⟩ = some (.slice none 0 0) := by rw [hw15]; exact (World.cell?_setCell_other _ _ _ _ (fun e => npq (congrArg Addr.block e))).trans yq
                      have yfq : w15.frozen? ⟨w13.heap.size, 0, none⟩ = false := by rw [hw15]; exact (World.frozen?_setCell _ _ _ _).trans yfq
                      have ybq := And.intro ybq.1 (show w13.heap.size < w15.heap.size by rw [hw15]; simpa [go_sem] using ybq.2)
                      have Yp : w15.cell? ⟨w12.heap.size, 0, none⟩ = some (.slice sa11 r11.length sc11) := by rw [hw15]; simp [go_sem, yp]
                      clear hw15
                      refine hK.out _ _ ⟨Wb.Ext.keep (w := W0) (by (repeat' (first | (with_reducible assumption) | (with_reducible exact Wb.Ext.refl _) | (with_reducible refine Wb.Ext.drew ?_) | (with_reducible refine Wb.Ext.drewN ?_ _) | (with_reducible refine Wb.Ext.alloc ?_ _) | (with_reducible refine Wb.Ext.trans ?_ (by assumption))))) zs, Wb.Ext.keep (w := W0) (by (repeat' (first | (with_reducible assumption) | (with_reducible exact Wb.Ext.refl _) | (with_reducible refine Wb.Ext.drew ?_) | (with_reducible refine Wb.Ext.drewN ?_ _) | (with_reducible refine Wb.Ext.alloc ?_ _) | (with_reducible refine Wb.Ext.trans ?_ (by assumption))))) zt⟩ (fun hHeld => ?_)
                      clear hK K
                      (try simp only [Act.put, List.setIfInBounds_toArray, List.set_cons_zero, List.set_cons_succ])
                      refine wpAnyH_ready (rs := [9]) (by kernel_rfl) (by simp) ?_
                      refine AllReadyH.cons (o := _) rfl (fun K hK => ?_) ?_
                      · go_simp
                        refine atK fun w16 hw16 => ?_
                        have hx16 : Wb.Ext W0 w16 := by rw [hw16]; exact Wb.ext_set (by (repeat' (first | (with_reducible assumption) | (with_reducible exact Wb.Ext.refl _) | (with_reducible refine Wb.Ext.drew ?_) | (with_reducible refine Wb.Ext.drewN ?_ _) | (with_reducible refine Wb.Ext.alloc ?_ _) | (with_reducible refine Wb.Ext.trans ?_ (by assumption))))) ybq.1 _
                        replace HP11 := Lib.hid (show SpL w16 _ r11 by rw [hw16]; exact HP11.out.set yq _)
                        replace HP12 := Lib.hid (show SpL w16 _ r12 by rw [hw16]; exact HP12.out.set yq _)
                        have Yp : w16.cell? ⟨w12.heap.size, 0, none⟩ = some (.slice sa11 r11.length sc11) := by rw [hw16]; exact (World.cell?_setCell_other _ _ _ _ (fun e => npq (congrArg Addr.block e).symm)).trans Yp
                        have Yq : w16.cell? ⟨w13.heap.size, 0, none⟩ = some (.slice sa12 r12.length sc12) := by rw [hw16]; simp [go_sem, yq]
                        clear hw16
                        refine hK.out _ _ ⟨Wb.Ext.keep (w := W0) (by (repeat' (first | (with_reducible assumption) | (with_reducible exact Wb.Ext.refl _) | (with_reducible refine Wb.Ext.drew ?_) | (with_reducible refine Wb.Ext.drewN ?_ _) | (with_reducible refine Wb.Ext.alloc ?_ _) | (with_reducible refine Wb.Ext.trans ?_ (by assumption))))) zs, Wb.Ext.keep (w := W0) (by (repeat' (first | (with_reducible assumption) | (with_reducible exact Wb.Ext.refl _) | (with_reducible refine Wb.Ext.drew ?_) | (with_reducible refine Wb.Ext.drewN ?_ _) | (with_reducible refine Wb.Ext.alloc ?_ _) | (with_reducible refine Wb.Ext.trans ?_ (by assumption))))) zt⟩ (fun hHeld => ?_)
                        clear hK K
                        (try simp only [Act.put, List.setIfInBounds_toArray, List.set_cons_zero, List.set_cons_succ])
                        refine wpAnyH_done (by kernel_rfl) ?_ _
                        go_wp2_with fail
                        go_meet
                        exact ⟨w12.heap.size, w13.heap.size, sa11, sc11, r11, sa12, sc12, r12, rfl, rfl, Yp, Yq, HP11.out, HP12.out, HS11.out, HS12.out, (show Wb.Ext W0 w16 by (repeat' (first | (with_reducible assumption) | (with_reducible exact Wb.Ext.refl _) | (with_reducible refine Wb.Ext.drew ?_) | (with_reducible refine Wb.Ext.drewN ?_ _) | (with_reducible refine Wb.Ext.alloc ?_ _) | (with_reducible refine Wb.Ext.trans ?_ (by assumption)))))⟩
                      exact AllReadyH.nil
                    exact AllReadyH.nil
                  exact AllReadyH.nil
                refine AllReadyH.cons (o := _) rfl (fun K hK => ?_) ?_
                · go_simp
                  refine atK fun w13 hw13 => ?_
                  have hb13 : Wb.Ext w12 w13 := by rw [hw13]; (repeat' (first | (with_reducible assumption) | (with_reducible exact Wb.Ext.refl _) | (with_reducible refine Wb.Ext.drew ?_) | (with_reducible refine Wb.Ext.drewN ?_ _) | (with_reducible refine Wb.Ext.alloc ?_ _) | (with_reducible refine Wb.Ext.trans ?_ (by assumption))))
                  replace hb13 : Wb.Ext w12 w13 := Wb.Ext.trans (by (repeat' (first | (with_reducible assumption) | (with_reducible exact Wb.Ext.refl _) | (with_reducible refine Wb.Ext.drew ?_) | (with_reducible refine Wb.Ext.drewN ?_ _) | (with_reducible refine Wb.Ext.alloc ?_ _) | (with_reducible refine Wb.Ext.trans ?_ (by assumption))))) hb13
                  replace HP11 := Lib.hid (HP11.out.ext hb13)
                  replace HP12 := Lib.hid (HP12.out.ext hb13)
                  have hx13 : Wb.Ext W0 w13 := Wb.Ext.trans (by (repeat' (first | (with_reducible assumption) | (with_reducible exact Wb.Ext.refl _) | (with_reducible refine Wb.Ext.drew ?_) | (with_reducible refine Wb.Ext.drewN ?_ _) | (with_reducible refine Wb.Ext.alloc ?_ _) | (with_reducible refine Wb.Ext.trans ?_ (by assumption))))) hb13
                  have yq : w13.cell? ⟨w12.heap.size, 0, none⟩ = some (.slice none 0 0) := by rw [hw13]; simp [go_sem]
                  have yfq : w13.frozen? ⟨w12.heap.size, 0, none⟩ = false := by rw [hw13]; simp [go_sem]
                  have ybq : W0.heap.size ≤ w12.heap.size ∧ w12.heap.size < w13.heap.size := ⟨(show Wb.Ext W0 w12 by (repeat' (first | (with_reducible assumption) | (with_reducible exact Wb.Ext.refl _) | (with_reducible refine Wb.Ext.drew ?_) | (with_reducible refine Wb.Ext.drewN ?_ _) | (with_reducible refine Wb.Ext.alloc ?_ _) | (with_reducible refine Wb.Ext.trans ?_ (by assumption))))).size, by rw [hw13]; simp⟩
                  clear hw13 hb13
                  refine hK.out _ _ ⟨Wb.Ext.keep (w := W0) (by (repeat' (first | (with_reducible assumption) | (with_reducible exact Wb.Ext.refl _) | (with_reducible refine Wb.Ext.drew ?_) | (with_reducible refine Wb.Ext.drewN ?_ _) | (with_reducible refine Wb.Ext.alloc ?_ _) | (with_reducible refine Wb.Ext.trans ?_ (by assumption))))) zs, Wb.Ext.keep (w := W0) (by (repeat' (first | (with_reducible assumption) | (with_reducible exact Wb.Ext.refl _) | (with_reducible refine Wb.Ext.drew ?_) | (with_reducible refine Wb.Ext.drewN ?_ _) | (with_reducible refine Wb.Ext.alloc ?_ _) | (with_reducible refine Wb.Ext.trans ?_ (by assumption))))) zt⟩ (fun hHeld => ?_)
                  clear hK K
                  (try simp only [Act.put, List.setIfInBounds_toArray, List.set_cons_zero, List.set_cons_succ])
                  refine wpAnyH_ready (rs := [6]) (by kernel_rfl) (by simp) ?_
                  refine AllReadyH.cons (o := _) rfl (fun K hK => ?_) ?_
                  · go_simp
                    have nqp : w12.heap.size ≠ w13.heap.size := Nat.ne_of_lt ybq.2
                    refine atK fun w14 hw14 => ?_
                    have hb14 : Wb.Ext w13 w14 := by rw [hw14]; (repeat' (first | (with_reducible assumption) | (with_reducible exact Wb.Ext.refl _) | (with_reducible refine Wb.Ext.drew ?_) | (with_reducible refine Wb.Ext.drewN ?_ _) | (with_reducible refine Wb.Ext.alloc ?_ _) | (with_reducible refine Wb.Ext.trans ?_ (by assumption))))
                    replace hb14 : Wb.Ext w13 w14 := Wb.Ext.trans (by (repeat' (first | (with_reducible assumption) | (with_reducible exact Wb.Ext.refl _) | (with_reducible refine Wb.Ext.drew ?_) | (with_reducible refine Wb.Ext.drewN ?_ _) | (with_reducible refine Wb.Ext.alloc ?_ _) | (with_reducible refine Wb.Ext.trans ?_ (by assumption))))) hb14
                    replace HP11 := Lib.hid (HP11.out.ext hb14)
                    replace HP12 := Lib.hid (HP12.out.ext hb14)
                    have yfq := (Below.frozen hb14 ybq.2).trans yfq
                    have yq := hb14.keep yq
                    have ybq := And.intro ybq.1 (Nat.lt_of_lt_of_le ybq.2 hb14.size)
                    have hx14 : Wb.Ext W0 w14 := Wb.Ext.trans (by (repeat' (first | (with_reducible assumption) | (with_reducible exact Wb.Ext.refl _) | (with_reducible refine Wb.Ext.drew ?_) | (with_reducible refine Wb.Ext.drewN ?_ _) | (with_reducible refine Wb.Ext.alloc ?_ _) | (with_reducible refine Wb.Ext.trans ?_ (by assumption))))) hb14
                    have yp : w14.cell? ⟨w13.heap.size, 0, none⟩ = some (.slice none 0 0) := by rw [hw14]; simp [go_sem]
                    have yfp : w14.frozen? ⟨w13.heap.size, 0, none⟩ = false := by rw [hw14]; simp [go_sem]
                    have ybp : W0.heap.size ≤ w13.heap.size ∧ w13.heap.size < w14.heap.size := ⟨(show Wb.Ext W0 w13 by (repeat' (first | (with_reducible assumption) | (with_reducible exact Wb.Ext.refl _) | (with_reducible refine Wb.Ext.drew ?_) | (with_reducible refine Wb.Ext.drewN ?_ _) | (with_reducible refine Wb.Ext.alloc ?_ _) | (with_reducible refine Wb.Ext.trans ?_ (by assumption))))).size, by rw [hw14]; simp⟩
                    clear hw14 hb14
                    refine hK.out _ _ ⟨Wb.Ext.keep (w := W0) (by (repeat' (first | (with_reducible assumption) | (with_reducible exact Wb.Ext.refl _) | (with_reducible refine Wb.Ext.drew ?_) | (with_reducible refine Wb.Ext.drewN ?_ _) | (with_reducible refine Wb.Ext.alloc ?_ _) | (with_reducible refine Wb.Ext.trans ?_ (by assumption))))) zs, Wb.Ext.keep (w := W0) (by (repeat' (first | (with_reducible assumption) | (with_reducible exact Wb.Ext.refl _) | (with_reducible refine Wb.Ext.drew ?_) | (with_reducible refine Wb.Ext.drewN ?_ _) | (with_reducible refine Wb.Ext.alloc ?_ _) | (with_reducible refine Wb.Ext.trans ?_ (by assumption))))) zt⟩ (fun hHeld => ?_)
                    clear hK K
                    (try simp only [Act.put, List.setIfInBounds_toArray, List.set_cons_zero, List.set_cons_succ])
                    refine wpAnyH_ready (rs := [8]) (by kernel_rfl) (by simp) ?_
                    refine AllReadyH.cons (o := _) rfl (fun K hK => ?_) ?_
                    · go_simp
                      refine atK fun w15 hw15 => ?_
                      have hx15 : Wb.Ext W0 w15 := by rw [hw15]; exact Wb.ext_set (by (repeat' (first | (with_reducible assumption) | (with_reducible exact Wb.Ext.refl _) | (with_reducible refine Wb.Ext.drew ?_) | (with_reducible refine Wb.Ext.drewN ?_ _) | (with_reducible refine Wb.Ext.alloc ?_ _) | (with_reducible refine Wb.Ext.trans ?_ (by assumption))))) ybp.1 _
                      replace HP11 := Lib.hid (show SpL w15 _ r11 by rw [hw15]; exact HP11.out.set yp _)
                      replace HP12 := Lib.hid (show SpL w15 _ r12 by rw [hw15]; exact HP12.out.set yp _)
                      have yq : w15.cell? ⟨w12.heap.size, 0, none⟩ = some (.slice none 0 0) := by rw [hw15]; exact (World.cell?_setCell_other _ _ _ _ (fun e => nqp (congrArg Addr.block e).symm)).trans yq
                      have yfq : w15.frozen? ⟨w12.heap.size, 0, none⟩ = false := by rw [hw15]; exact (World.frozen?_setCell _ _ _ _).trans yfq
                      have ybq := And.intro ybq.1 (show w12.heap.size < w15.heap.size by rw [hw15]; simpa [go_sem] using ybq.2)
                      have Yp : w15.cell? ⟨w13.heap.size, 0, none⟩ = some (.slice sa11 r11.length sc11) := by rw [hw15]; simp [go_sem, yp]
                      clear hw15
                      refine hK.out _ _ ⟨Wb.Ext.keep (w := W0) (by (repeat' (first | (with_reducible assumption) | (with_reducible exact Wb.Ext.refl _) | (with_reducible refine Wb.Ext.drew ?_) | (with_reducible refine Wb.Ext.drewN ?_ _) | (with_reducible refine Wb.Ext.alloc ?_ _) | (with_reducible refine Wb.Ext.trans ?_ (by assumption))))) zs, Wb.Ext.keep (w := W0) (by (repeat' (first | (with_reducible assumption) | (with_reducible exact Wb.Ext.refl _) | (with_reducible refine Wb.Ext.drew ?_) | (with_reducible refine Wb.Ext.drewN ?_ _) | (with_reducible refine Wb.Ext.alloc ?_ _) | (with_reducible refine Wb.Ext.trans ?_ (by assumption))))) zt⟩ (fun hHeld => ?_)
                      clear hK K
                      (try simp only [Act.put, List.setIfInBounds_toArray, List.set_cons_zero, List.set_cons_succ])
                      refine wpAnyH_ready (rs := [9]) (by kernel_rfl) (by simp) ?_
                      refine AllReadyH.cons (o := _) rfl (fun K hK => ?_) ?_
                      · go_simp
                        refine atK fun w16 hw16 => ?_
                        have hx16 : Wb.Ext W0 w16 := by rw [hw16]; exact Wb.ext_set (by (repeat' (first | (with_reducible assumption) | (with_reducible exact Wb.Ext.refl _) | (with_reducible refine Wb.Ext.drew ?_) | (with_reducible refine Wb.Ext.drewN ?_ _) | (with_reducible refine Wb.Ext.alloc ?_ _) | (with_reducible refine Wb.Ext.trans ?_ (by assumption))))) ybq.1 _
                        replace HP11 := Lib.hid (show SpL w16 _ r11 by rw [hw16]; exact HP11.out.set yq _)
                        replace HP12 := Lib.hid (show SpL w16 _ r12 by rw [hw16]; exact HP12.out.set yq _)
                        have Yp : w16.cell? ⟨w13.heap.size, 0, none⟩ = some (.slice sa11 r11.length sc11) := by rw [hw16]; exact (World.cell?_setCell_other _ _ _ _ (fun e => nqp (congrArg Addr.block e))).trans Yp
                        have Yq : w16.cell? ⟨w12.heap.size, 0, none⟩ = some (.slice sa12 r12.length sc12) := by rw [hw16]; simp [go_sem, yq]
                        clear hw16
                        refine hK.out _ _ ⟨Wb.Ext.keep (w := W0) (by (repeat' (first | (with_reducible assumption) | (with_reducible exact Wb.Ext.refl _) | (with_reducible refine Wb.Ext.drew ?_) | (with_reducible refine Wb.Ext.drewN ?_ _) | (with_reducible refine Wb.Ext.alloc ?_ _) | (with_reducible refine Wb.Ext.trans ?_ (by assumption))))) zs, Wb.Ext.keep (w := W0) (by (repeat' (first | (with_reducible assumption) | (with_reducible exact Wb.Ext.refl _) | (with_reducible refine Wb.Ext.drew ?_) | (with_reducible refine Wb.Ext.drewN ?_ _) | (with_reducible refine Wb.Ext.alloc ?_ _) | (with_reducible refine Wb.Ext.trans ?_ (by assumption))))) zt⟩ (fun hHeld => ?_)
                        clear hK K
                        (try simp only [Act.put, List.setIfInBounds_toArray, List.set_cons_zero, List.set_cons_succ])
                        refine wpAnyH_done (by kernel_rfl) ?_ _
                        go_wp2_with fail
                        go_meet
                        exact ⟨w13.heap.size, w12.heap.size, sa11, sc11, r11, sa12, sc12, r12, rfl, rfl, Yp, Yq, HP11.out, HP12.out, HS11.out, HS12.out, (show Wb.Ext W0 w16 by (repeat' (first | (with_reducible assumption) | (with_reducible exact Wb.Ext.refl _) | (with_reducible refine Wb.Ext.drew ?_) | (with_reducible refine Wb.Ext.drewN ?_ _) | (with_reducible refine Wb.Ext.alloc ?_ _) | (with_reducible refine Wb.Ext.trans ?_ (by assumption)))))⟩
                      exact AllReadyH.nil
                    exact AllReadyH.nil
                  exact AllReadyH.nil
                exact AllReadyH.nil
              refine AllReadyH.cons (o := _) rfl (fun K hK => ?_) ?_
              · go_simp
                refine atK fun w12 hw12 => ?_
                have hb12 : Wb.Ext w11 w12 := by rw [hw12]; (repeat' (first | (with_reducible assumption) | (with_reducible exact Wb.Ext.refl _) | (with_reducible refine Wb.Ext.drew ?_) | (with_reducible refine Wb.Ext.drewN ?_ _) | (with_reducible refine Wb.Ext.alloc ?_ _) | (with_reducible refine Wb.Ext.trans ?_ (by assumption))))
                replace hb12 : Wb.Ext w11 w12 := Wb.Ext.trans (by (repeat' (first | (with_reducible assumption) | (with_reducible exact Wb.Ext.refl _) | (with_reducible refine Wb.Ext.drew ?_) | (with_reducible refine Wb.Ext.drewN ?_ _) | (with_reducible refine Wb.Ext.alloc ?_ _) | (with_reducible refine Wb.Ext.trans ?_ (by assumption))))) hb12
                replace HP11 := Lib.hid (HP11.out.ext hb12)
                have hx12 : Wb.Ext W0 w12 := Wb.Ext.trans (by (repeat' (first | (with_reducible assumption) | (with_reducible exact Wb.Ext.refl _) | (with_reducible refine Wb.Ext.drew ?_) | (with_reducible refine Wb.Ext.drewN ?_ _) | (with_reducible refine Wb.Ext.alloc ?_ _) | (with_reducible refine Wb.Ext.trans ?_ (by assumption))))) hb12
                have yp : w12.cell? ⟨w11.heap.size, 0, none⟩ = some (.slice none 0 0) := by rw [hw12]; simp [go_sem]
                have yfp : w12.frozen? ⟨w11.heap.size, 0, none⟩ = false := by rw [hw12]; simp [go_sem]
                have ybp : W0.heap.size ≤ w11.heap.size ∧ w11.heap.size < w12.heap.size := ⟨(show Wb.Ext W0 w11 by (repeat' (first | (with_reducible assumption) | (with_reducible exact Wb.Ext.refl _) | (with_reducible refine Wb.Ext.drew ?_) | (with_reducible refine Wb.Ext.drewN ?_ _) | (with_reducible refine Wb.Ext.alloc ?_ _) | (with_reducible refine Wb.Ext.trans ?_ (by assumption))))).size, by rw [hw12]; simp⟩
                clear hw12 hb12
                refine hK.out _ _ ⟨Wb.Ext.keep (w := W0) (by (repeat' (first | (with_reducible assumption) | (with_reducible exact Wb.Ext.refl _) | (with_reducible refine Wb.Ext.drew ?_) | (with_reducible refine Wb.Ext.drewN ?_ _) | (with_reducible refine Wb.Ext.alloc ?_ _) | (with_reducible refine Wb.Ext.trans ?_ (by assumption))))) zs, Wb.Ext.keep (w := W0) (by (repeat' (first | (with_reducible assumption) | (with_reducible exact Wb.Ext.refl _) | (with_reducible refine Wb.Ext.drew ?_) | (with_reducible refine Wb.Ext.drewN ?_ _) | (with_reducible refine Wb.Ext.alloc ?_ _) | (with_reducible refine Wb.Ext.trans ?_ (by assumption))))) zt⟩ (fun hHeld => ?_)
                clear hK K
                (try simp only [Act.put, List.setIfInBounds_toArray, List.set_cons_zero, List.set_cons_succ])
                refine wpAnyH_ready (rs := [5, 7]) (by kernel_rfl) (by simp) ?_
                refine AllReadyH.cons (o := _) rfl (fun K hK => ?_) ?_
                · go_simp
                  go_at_call 21
                  go_fit (minus_any _ _ s t _ (HPs.out.ext (by (repeat' (first | (with_reducible assumption) | (with_reducible exact Wb.Ext.refl _) | (with_reducible refine Wb.Ext.drew ?_) | (with_reducible refine Wb.Ext.drewN ?_ _) | (with_reducible refine Wb.Ext.alloc ?_ _) | (with_reducible refine Wb.Ext.trans ?_ (by assumption)))))) (HPt.out.ext (by (repeat' (first | (with_reducible assumption) | (with_reducible exact Wb.Ext.refl _) | (with_reducible refine Wb.Ext.drew ?_) | (with_reducible refine Wb.Ext.drewN ?_ _) | (with_reducible refine Wb.Ext.alloc ?_ _) | (with_reducible refine Wb.Ext.trans ?_ (by assumption)))))) HSs.out.canon HSt.out.canon HSs.out.bd HSt.out.bd (by omega) (by omega))
                  rintro e w13 ⟨v13, r13, rfl, hs13, hp13, hb13⟩
                  obtain ⟨sa13, sc13, rfl⟩ := hp13.1.shape
                  have HS13 := Lib.hid hs13
                  have hl13 : r13.length ≤ 160 := by have := hs13.len; (try simp only [List.length_cons, List.length_nil] at this); omega
                  have HE13 := Lib.hid (has_min hs13)
                  replace hb13 : Wb.Ext w12 w13 := Wb.Ext.trans (by (repeat' (first | (with_reducible assumption) | (with_reducible exact Wb.Ext.refl _) | (with_reducible refine Wb.Ext.drew ?_) | (with_reducible refine Wb.Ext.drewN ?_ _) | (with_reducible refine Wb.Ext.alloc ?_ _) | (with_reducible refine Wb.Ext.trans ?_ (by assumption))))) hb13
                  replace HP11 := Lib.hid (HP11.out.ext hb13)
                  have yfp := (Below.frozen hb13 ybp.2).trans yfp
                  have yp := hb13.keep yp
                  have ybp := And.intro ybp.1 (Nat.lt_of_lt_of_le ybp.2 hb13.size)
                  have hx13 : Wb.Ext W0 w13 := Wb.Ext.trans (by (repeat' (first | (with_reducible assumption) | (with_reducible exact Wb.Ext.refl _) | (with_reducible refine Wb.Ext.drew ?_) | (with_reducible refine Wb.Ext.drewN ?_ _) | (with_reducible refine Wb.Ext.alloc ?_ _) | (with_reducible refine Wb.Ext.trans ?_ (by assumption))))) hb13
                  clear hb13
                  have HP13 := Lib.hid hp13
                  clear hs13 hp13
                  refine hK.out _ _ ⟨Wb.Ext.keep (w := W0) (by (repeat' (first | (with_reducible assumption) | (with_reducible exact Wb.Ext.refl _) | (with_reducible refine Wb.Ext.drew ?_) | (with_reducible refine Wb.Ext.drewN ?_ _) | (with_reducible refine Wb.Ext.alloc ?_ _) | (with_reducible refine Wb.Ext.trans ?_ (by assumption))))) zs, Wb.Ext.keep (w := W0) (by (repeat' (first | (with_reducible assumption) | (with_reducible exact Wb.Ext.refl _) | (with_reducible refine Wb.Ext.drew ?_) | (with_reducible refine Wb.Ext.drewN ?_ _) | (with_reducible refine Wb.Ext.alloc ?_ _) | (with_reducible refine Wb.Ext.trans ?_ (by assumption))))) zt⟩ (fun hHeld => ?_)
                  clear hK K
                  (try simp only [Act.put, List.setIfInBounds_toArray, List.set_cons_zero, List.set_cons_succ])
                  refine wpAnyH_ready (rs := [7]) (by kernel_rfl) (by simp) ?_
                  refine AllReadyH.cons (o := _) rfl (fun K hK => ?_) ?_
                  · go_simp
                    have npq : w11.heap.size ≠ w13.heap.size := Nat.ne_of_lt ybp.2
                    refine atK fun w14 hw14 => ?_
                    have hb14 : Wb.Ext w13 w14 := by rw [hw14]; (repeat' (first | (with_reducible assumption) | (with_reducible exact Wb.Ext.refl _) | (with_reducible refine Wb.Ext.drew ?_) | (with_reducible refine Wb.Ext.drewN ?_ _) | (with_reducible refine Wb.Ext.alloc ?_ _) | (with_reducible refine Wb.Ext.trans ?_ (by assumption))))
                    replace hb14 : Wb.Ext w13 w14 := Wb.Ext.trans (by (repeat' (first | (with_reducible assumption) | (with_reducible exact Wb.Ext.refl _) | (with_reducible refine Wb.Ext.drew ?_) | (with_reducible refine Wb.Ext.drewN ?_ _) | (with_reducible refine Wb.Ext.alloc ?_ _) | (with_reducible refine Wb.Ext.trans ?_ (by assumption))))) hb14
                    replace HP11 := Lib.hid (HP11.out.ext hb14)
                    replace HP13 := Lib.hid (HP13.out.ext hb14)
                    have yfp := (Below.frozen hb14 ybp.2).trans yfp
                    have yp := hb14.keep yp
                    have ybp := And.intro ybp.1 (Nat.lt_of_lt_of_le ybp.2 hb14.size)
                    have hx14 : Wb.Ext W0 w14 := Wb.Ext.trans (by (repeat' (first | (with_reducible assumption) | (with_reducible exact Wb.Ext.refl _) | (with_reducible refine Wb.Ext.drew ?_) | (with_reducible refine Wb.Ext.drewN ?_ _) | (with_reducible refine Wb.Ext.alloc ?_ _) | (with_reducible refine Wb.Ext.trans ?_ (by assumption))))) hb14
                    have yq : w14.cell? ⟨w13.heap.size, 0, none⟩ = some (.slice none 0 0) := by rw [hw14]; simp [go_sem]
                    have yfq : w14.frozen? ⟨w13.heap.size, 0, none⟩ = false := by rw [hw14]; simp [go_sem]
                    have ybq : W0.heap.size ≤ w13.heap.size ∧ w13.heap.size < w14.heap.size := ⟨(show Wb.Ext W0 w13 by (repeat' (first | (with_reducible assumption) | (with_reducible exact Wb.Ext.refl _) | (with_reducible refine Wb.Ext.drew ?_) | (with_reducible refine Wb.Ext.drewN ?_ _) | (with_reducible refine Wb.Ext.alloc ?_ _) | (with_reducible refine Wb.Ext.trans ?_ (by assumption))))).size, by rw [hw14]; simp⟩
                    clear hw14 hb14
                    refine hK.out _ _ ⟨Wb.Ext.keep (w := W0) (by (repeat' (first | (with_reducible assumption) | (with_reducible exact Wb.Ext.refl _) | (with_reducible refine Wb.Ext.drew ?_) | (with_reducible refine Wb.Ext.drewN ?_ _) | (with_reducible refine Wb.Ext.alloc ?_ _) | (with_reducible refine Wb.Ext.trans ?_ (by assumption))))) zs, Wb.Ext.keep (w := W0) (by (repeat' (first | (with_reducible assumption) | (with_reducible exact Wb.Ext.refl _) | (with_reducible refine Wb.Ext.drew ?_) | (with_reducible refine Wb.Ext.drewN ?_ _) | (with_reducible refine Wb.Ext.alloc ?_ _) | (with_reducible refine Wb.Ext.trans ?_ (by assumption))))) zt⟩ (fun hHeld => ?_)
                    clear hK K
                    (try simp only [Act.put, List.setIfInBounds_toArray, List.set_cons_zero, List.set_cons_succ])
                    refine wpAnyH_ready (rs := [8]) (by kernel_rfl) (by simp) ?_
                    refine AllReadyH.cons (o := _) rfl (fun K hK => ?_) ?_
                    · go_simp
                      refine atK fun w15 hw15 => ?_
                      have hx15 : Wb.Ext W0 w15 := by rw [hw15]; exact Wb.ext_set (by (repeat' (first | (with_reducible assumption) | (with_reducible exact Wb.Ext.refl _) | (with_reducible refine Wb.Ext.drew ?_) | (with_reducible refine Wb.Ext.drewN ?_ _) | (with_reducible refine Wb.Ext.alloc ?_ _) | (with_reducible refine Wb.Ext.trans ?_ (by assumption))))) ybp.1 _
                      replace HP11 := Lib.hid (show SpL w15 _ r11 by rw [hw15]; exact HP11.out.set yp _)
                      replace HP13 := Lib.hid (show SpL w15 _ r13 by rw [hw15]; exact HP13.out.set yp _)
                      have yq : w15.cell? ⟨w13.heap.size, 0, none⟩ = some (.slice none 0 0) := by rw [hw15]; exact (World.cell?_setCell_other _ _ _ _ (fun e => npq (congrArg Addr.block e))).trans yq
                      have yfq : w15.frozen? ⟨w13.heap.size, 0, none⟩ = false := by rw [hw15]; exact (World.frozen?_setCell _ _ _ _).trans yfq
                      have ybq := And.intro ybq.1 (show w13.heap.size < w15.heap.size by rw [hw15]; simpa [go_sem] using ybq.2)
                      have Yp : w15.cell? ⟨w11.heap.size, 0, none⟩ = some (.slice sa11 r11.length sc11) := by rw [hw15]; simp [go_sem, yp]
                      clear hw15
                      refine hK.out _ _ ⟨Wb.Ext.keep (w := W0) (by (repeat' (first | (with_reducible assumption) | (with_reducible exact Wb.Ext.refl _) | (with_reducible refine Wb.Ext.drew ?_) | (with_reducible refine Wb.Ext.drewN ?_ _) | (with_reducible refine Wb.Ext.alloc ?_ _) | (with_reducible refine Wb.Ext.trans ?_ (by assumption))))) zs, Wb.Ext.keep (w := W0) (by (repeat' (first | (with_reducible assumption) | (with_reducible exact Wb.Ext.refl _) | (with_reducible refine Wb.Ext.drew ?_) | (with_reducible refine Wb.Ext.drewN ?_ _) | (with_reducible refine Wb.Ext.alloc ?_ _) | (with_reducible refine Wb.Ext.trans ?_ (by assumption))))) zt⟩ (fun hHeld => ?_)
                      clear hK K
                      (try simp only [Act.put, List.setIfInBounds_toArray, List.set_cons_zero, List.set_cons_succ])
                      refine wpAnyH_ready (rs := [9]) (by kernel_rfl) (by simp) ?_
                      refine AllReadyH.cons (o := _) rfl (fun K hK => ?_) ?_
                      · go_simp
                        refine atK fun w16 hw16 => ?_
                        have hx16 : Wb.Ext W0 w16 := by rw [hw16]; exact Wb.ext_set (by (repeat' (first | (with_reducible assumption) | (with_reducible exact Wb.Ext.refl _) | (with_reducible refine Wb.Ext.drew ?_) | (with_reducible refine Wb.Ext.drewN ?_ _) | (with_reducible refine Wb.Ext.alloc ?_ _) | (with_reducible refine Wb.Ext.trans ?_ (by assumption))))) ybq.1 _
                        replace HP11 := Lib.hid (show SpL w16 _ r11 by rw [hw16]; exact HP11.out.set yq _)
                        replace HP13 := Lib.hid (show SpL w16 _ r13 by rw [hw16]; exact HP13.out.set yq _)
                        have Yp : w16.cell? ⟨w11.heap.size, 0, none⟩ = some (.slice sa11 r11.length sc11) := by rw [hw16]; exact (World.cell?_setCell_other _ _ _ _ (fun e => npq (congrArg Addr.block e).symm)).trans Yp
                        have Yq : w16.cell? ⟨w13.heap.size, 0, none⟩ = some (.slice sa13 r13.length sc13) := by rw [hw16]; simp [go_sem, yq]
                        clear hw16
                        refine hK.out _ _ ⟨Wb.Ext.keep (w := W0) (by (repeat' (first | (with_reducible assumption) | (with_reducible exact Wb.Ext.refl _) | (with_reducible refine Wb.Ext.drew ?_) | (with_reducible refine Wb.Ext.drewN ?_ _) | (with_reducible refine Wb.Ext.alloc ?_ _) | (with_reducible refine Wb.Ext.trans ?_ (by assumption))))) zs, Wb.Ext.keep (w := W0) (by (repeat' (first | (with_reducible assumption) | (with_reducible exact Wb.Ext.refl _) | (with_reducible refine Wb.Ext.drew ?_) | (with_reducible refine Wb.Ext.drewN ?_ _) | (with_reducible refine Wb.Ext.alloc ?_ _) | (with_reducible refine Wb.Ext.trans ?_ (by assumption))))) zt⟩ (fun hHeld => ?_)
                        clear hK K
                        (try simp only [Act.put, List.setIfInBounds_toArray, List.set_cons_zero, List.set_cons_succ])
                        refine wpAnyH_done (by kernel_rfl) ?_ _
                        go_wp2_with fail
                        go_meet
                        exact ⟨w11.heap.size, w13.heap.size, sa11, sc11, r11, sa13, sc13, r13, rfl, rfl, Yp, Yq, HP11.out, HP13.out, HS11.out, HS13.out, (show Wb.Ext W0 w16 by (repeat' (first | (with_reducible assumption) | (with_reducible exact Wb.Ext.refl _) | (with_reducible refine Wb.Ext.drew ?_) | (with_reducible refine Wb.Ext.drewN ?_ _) | (with_reducible refine Wb.Ext.alloc ?_ _) | (with_reducible refine Wb.Ext.trans ?_ (by assumption)))))⟩
                      exact AllReadyH.nil
                    exact AllReadyH.nil
                  exact AllReadyH.nil
                refine AllReadyH.cons (o := _) rfl (fun K hK => ?_) ?_
                · go_simp
                  have npq : w11.heap.size ≠ w12.heap.size := Nat.ne_of_lt ybp.2
                  refine atK fun w13 hw13 => ?_
                  have hb13 : Wb.Ext w12 w13 := by rw [hw13]; (repeat' (first | (with_reducible assumption) | (with_reducible exact Wb.Ext.refl _) | (with_reducible refine Wb.Ext.drew ?_) | (with_reducible refine Wb.Ext.drewN ?_ _) | (with_reducible refine Wb.Ext.alloc ?_ _) | (with_reducible refine Wb.Ext.trans ?_ (by assumption))))
                  replace hb13 : Wb.Ext w12 w13 := Wb.Ext.trans (by (repeat' (first | (with_reducible assumption) | (with_reducible exact Wb.Ext.refl _) | (with_reducible refine Wb.Ext.drew ?_) | (with_reducible refine Wb.Ext.drewN ?_ _) | (with_reducible refine Wb.Ext.alloc ?_ _) | (with_reducible refine Wb.Ext.trans ?_ (by assumption))))) hb13
                  replace HP11 := Lib.hid (HP11.out.ext hb13)
                  have yfp := (Below.frozen hb13 ybp.2).trans yfp
                  have yp := hb13.keep yp
                  have ybp := And.intro ybp.1 (Nat.lt_of_lt_of_le ybp.2 hb13.size)
                  have hx13 : Wb.Ext W0 w13 := Wb.Ext.trans (by (repeat' (first | (with_reducible assumption) | (with_reducible exact Wb.Ext.refl _) | (with_reducible refine Wb.Ext.drew ?_) | (with_reducible refine Wb.Ext.drewN ?_ _) | (with_reducible refine Wb.Ext.alloc ?_ _) | (with_reducible refine Wb.Ext.trans ?_ (by assumption))))) hb13
                  have yq : w13.cell? ⟨w12.heap.size, 0, none⟩ = some (.slice none 0 0) := by rw [hw13]; simp [go_sem]
                  have yfq : w13.frozen? ⟨w12.heap.size, 0, none⟩ = false := by rw [hw13]; simp [go_sem]
                  have ybq : W0.heap.size ≤ w12.heap.size ∧ w12.heap.size < w13.heap.size := ⟨(show Wb.Ext W0 w12 by (repeat' (first | (with_reducible assumption) | (with_reducible exact Wb.Ext.refl _) | (with_reducible refine Wb.Ext.drew ?_) | (with_reducible refine Wb.Ext.drewN ?_ _) | (with_reducible refine Wb.Ext.alloc ?_ _) | (with_reducible refine Wb.Ext.trans ?_ (by assumption))))).size, by rw [hw13]; simp⟩
                  clear hw13 hb13
                  refine hK.out _ _ ⟨Wb.Ext.keep (w := W0) (by (repeat' (first | (with_reducible assumption) | (with_reducible exact Wb.Ext.refl _) | (with_reducible refine Wb.Ext.drew ?_) | (with_reducible refine Wb.Ext.drewN ?_ _) | (with_reducible refine Wb.Ext.alloc ?_ _) | (with_reducible refine Wb.Ext.trans ?_ (by assumption))))) zs, Wb.Ext.keep (w := W0) (by (repeat' (first | (with_reducible assumption) | (with_reducible exact Wb.Ext.refl _) | (with_reducible refine Wb.Ext.drew ?_) | (with_reducible refine Wb.Ext.drewN ?_ _) | (with_reducible refine Wb.Ext.alloc ?_ _) | (with_reducible refine Wb.Ext.trans ?_ (by assumption))))) zt⟩ (fun hHeld => ?_)
                  clear hK K
                  (try simp only [Act.put, List.setIfInBounds_toArray, List.set_cons_zero, List.set_cons_succ])
                  refine wpAnyH_ready (rs := [5]) (by kernel_rfl) (by simp) ?_
                  refine AllReadyH.cons (o := _) rfl (fun K hK => ?_) ?_
                  · go_simp
                    go_at_call 21
                    go_fit (minus_any _ _ s t _ (HPs.out.ext (by (repeat' (first | (with_reducible assumption) | (with_reducible exact Wb.Ext.refl _) | (with_reducible refine Wb.Ext.drew ?_) | (with_reducible refine Wb.Ext.drewN ?_ _) | (with_reducible refine Wb.Ext.alloc ?_ _) | (with_reducible refine Wb.Ext.trans ?_ (by assumption)))))) (HPt.out.ext (by (repeat' (first | (with_reducible assumption) | (with_reducible exact Wb.Ext.refl _) | (with_reducible refine Wb.Ext.drew ?_) | (with_reducible refine Wb.Ext.drewN ?_ _) | (with_reducible refine Wb.Ext.alloc ?_ _) | (with_reducible refine Wb.Ext.trans ?_ (by assumption)))))) HSs.out.canon HSt.out.canon HSs.out.bd HSt.out.bd (by omega) (by omega))
                    rintro e w14 ⟨v14, r14, rfl, hs14, hp14, hb14⟩
                    obtain ⟨sa14, sc14, rfl⟩ := hp14.1.shape
                    have HS14 := Lib.hid hs14
                    have hl14 : r14.length ≤ 160 := by have := hs14.len; (try simp only [List.length_cons, List.length_nil] at this); omega
                    have HE14 := Lib.hid (has_min hs14)
                    replace hb14 : Wb.Ext w13 w14 := Wb.Ext.trans (by (repeat' (first | (with_reducible assumption) | (with_reducible exact Wb.Ext.refl _) | (with_reducible refine Wb.Ext.drew ?_) | (with_reducible refine Wb.Ext.drewN ?_ _) | (with_reducible refine Wb.Ext.alloc ?_ _) | (with_reducible refine Wb.Ext.trans ?_ (by assumption))))) hb14
                    replace HP11 := Lib.hid (HP11.out.ext hb14)
                    have yfp := (Below.frozen hb14 ybp.2).trans yfp
                    have yp := hb14.keep yp
                    have ybp := And.intro ybp.1 (Nat.lt_of_lt_of_le ybp.2 hb14.size)
                    have yfq := (Below.frozen hb14 ybq.2).trans yfq
                    have yq := hb14.keep yq
                    have ybq := And.intro ybq.1 (Nat.lt_of_lt_of_le ybq.2 hb14.size)
                    have hx14 : Wb.Ext W0 w14 := Wb.Ext.trans (by (repeat' (first | (with_reducible assumption) | (with_reducible exact Wb.Ext.refl _) | (with_reducible refine Wb.Ext.drew ?_) | (with_reducible refine Wb.Ext.drewN ?_ _) | (with_reducible refine Wb.Ext.alloc ?_ _) | (with_reducible refine Wb.Ext.trans ?_ (by assumption))))) hb14
                    clear hb14
                    have HP14 := Lib.hid hp14
                    clear hs14 hp14
                    refine hK.out _ _ ⟨Wb.Ext.keep (w := W0) (by (repeat' (first | (with_reducible assumption) | (with_reducible exact Wb.Ext.refl _) | (with_reducible refine Wb.Ext.drew ?_) | (with_reducible refine Wb.Ext.drewN ?_ _) | (with_reducible refine Wb.Ext.alloc ?_ _) | (with_reducible refine Wb.Ext.trans ?_ (by assumption))))) zs, Wb.Ext.keep (w := W0) (by (repeat' (first | (with_reducible assumption) | (with_reducible exact Wb.Ext.refl _) | (with_reducible refine Wb.Ext.drew ?_) | (with_reducible refine Wb.Ext.drewN ?_ _) | (with_reducible refine Wb.Ext.alloc ?_ _) | (with_reducible refine Wb.Ext.trans ?_ (by assumption))))) zt⟩ (fun hHeld => ?_)
                    clear hK K
                    (try simp only [Act.put, List.setIfInBounds_toArray, List.set_cons_zero, List.set_cons_succ])
                    refine wpAnyH_ready (rs := [8]) (by kernel_rfl) (by simp) ?_
                    refine AllReadyH.cons (o := _) rfl (fun K hK => ?_) ?_
                    · go_simp
                      refine atK fun w15 hw15 => ?_
                      have hx15 : Wb.Ext W0 w15 := by rw [hw15]; exact Wb.ext_set (by (repeat' (first | (with_reducible assumption) | (with_reducible exact Wb.Ext.refl _) | (with_reducible refine Wb.Ext.drew ?_) | (with_reducible refine Wb.Ext.drewN ?_ _) | (with_reducible refine Wb.Ext.alloc ?_ _) | (with_reducible refine Wb.Ext.trans ?_ (by assumption))))) ybp.1 _
                      replace HP11 := Lib.hid (show SpL w15 _ r11 by rw [hw15]; exact HP11.out.set yp _)
                      replace HP14 := Lib.hid (show SpL w15 _ r14 by rw [hw15]; exact HP14.out.set yp _)
                      have yq : w15.cell? ⟨w12.heap.size, 0, none⟩ = some (.slice none 0 0) := by rw [hw15]; exact (World.cell?_setCell_other _ _ _ _ (fun e => npq (congrArg Addr.block e))).trans yq
                      have yfq : w15.frozen? ⟨w12.heap.size, 0, none⟩ = false := by rw [hw15]; exact (World.frozen?_setCell _ _ _ _).trans yfq
                      have ybq := And.intro ybq.1 (show w12.heap.size < w15.heap.size by rw [hw15]; simpa [go_sem] using ybq.2)
                      have Yp : w15.cell? ⟨w11.heap.size, 0, none⟩ = some (.slice sa11 r11.length sc11) := by rw [hw15]; simp [go_sem, yp]
                      clear hw15
                      refine hK.out _ _ ⟨Wb.Ext.keep (w := W0) (by (repeat' (first | (with_reducible assumption) | (with_reducible exact Wb.Ext.refl _) | (with_reducible refine Wb.Ext.drew ?_) | (with_reducible refine Wb.Ext.drewN ?_ _) | (with_reducible refine Wb.Ext.alloc ?_ _) | (with_reducible refine Wb.Ext.trans ?_ (by assumption))))) zs, Wb.Ext.keep (w := W0) (by (repeat' (first | (with_reducible assumption) | (with_reducible exact Wb.Ext.refl _) | (with_reducible refine Wb.Ext.drew ?_) | (with_reducible refine Wb.Ext.drewN ?_ _) | (with_reducible refine Wb.Ext.alloc ?_ _) | (with_reducible refine Wb.Ext.trans ?_ (by assumption))))) zt⟩ (fun hHeld => ?_)
                      clear hK K
                      (try simp only [Act.put, List.setIfInBounds_toArray, List.set_cons_zero, List.set_cons_succ])
                      refine wpAnyH_ready (rs := [9]) (by kernel_rfl) (by simp) ?_
                      refine AllReadyH.cons (o := _) rfl (fun K hK => ?_) ?_
                      · go_simp
                        refine atK fun w16 hw16 => ?_
                        have hx16 : Wb.Ext W0 w16 := by rw [hw16]; exact Wb.ext_set (by (repeat' (first | (with_reducible assumption) | (with_reducible exact Wb.Ext.refl _) | (with_reducible refine Wb.Ext.drew ?_) | (with_reducible refine Wb.Ext.drewN ?_ _) | (with_reducible refine Wb.Ext.alloc ?_ _) | (with_reducible refine Wb.Ext.trans ?_ (by assumption))))) ybq.1 _
                        replace HP11 := Lib.hid (show SpL w16 _ r11 by rw [hw16]; exact HP11.out.set yq _)
                        replace HP14 := Lib.hid (show SpL w16 _ r14 by rw [hw16]; exact HP14.out.set yq _)
                        have Yp : w16.cell? ⟨w11.heap.size, 0, none⟩ = some (.slice sa11 r11.length sc11) := by rw [hw16]; exact (World.cell?_setCell_other _ _ _ _ (fun e => npq (congrArg Addr.block e).symm)).trans Yp
                        have Yq : w16.cell? ⟨w12.heap.size, 0, none⟩ = some (.slice sa14 r14.length sc14) := by rw [hw16]; simp [go_sem, yq]
                        clear hw16
                        refine hK.out _ _ ⟨Wb.Ext.keep (w := W0) (by (repeat' (first | (with_reducible assumption) | (with_reducible exact Wb.Ext.refl _) | (with_reducible refine Wb.Ext.drew ?_) | (with_reducible refine Wb.Ext.drewN ?_ _) | (with_reducible refine Wb.Ext.alloc ?_ _) | (with_reducible refine Wb.Ext.trans ?_ (by assumption))))) zs, Wb.Ext.keep (w := W0) (by (repeat' (first | (with_reducible assumption) | (with_reducible exact Wb.Ext.refl _) | (with_reducible refine Wb.Ext.drew ?_) | (with_reducible refine Wb.Ext.drewN ?_ _) | (with_reducible refine Wb.Ext.alloc ?_ _) | (with_reducible refine Wb.Ext.trans ?_ (by assumption))))) zt⟩ (fun hHeld => ?_)
                        clear hK K
                        (try simp only [Act.put, List.setIfInBounds_toArray, List.set_cons_zero, List.set_cons_succ])
                        refine wpAnyH_done (by kernel_rfl) ?_ _
                        go_wp2_with fail
                        go_meet
                        exact ⟨w11.heap.size, w12.heap.size, sa11, sc11, r11, sa14, sc14, r14, rfl, rfl, Yp, Yq, HP11.out, HP14.out, HS11.out, HS14.out, (show Wb.Ext W0 w16 by (repeat' (first | (with_reducible assumption) | (with_reducible exact Wb.Ext.refl _) | (with_reducible refine Wb.Ext.drew ?_) | (with_reducible refine Wb.Ext.drewN ?_ _) | (with_reducible refine Wb.Ext.alloc ?_ _) | (with_reducible refine Wb.Ext.trans ?_ (by assumption)))))⟩
                      exact AllReadyH.nil
                    exact AllReadyH.nil
                  exact AllReadyH.nil
                exact AllReadyH.nil
              refine AllReadyH.cons (o := _) rfl (fun K hK => ?_) ?_
              · go_simp
                refine atK fun w12 hw12 => ?_
                have hb12 : Wb.Ext w11 w12 := by rw [hw12]; (repeat' (first | (with_reducible assumption) | (with_reducible exact Wb.Ext.refl _) | (with_reducible refine Wb.Ext.drew ?_) | (with_reducible refine Wb.Ext.drewN ?_ _) | (with_reducible refine Wb.Ext.alloc ?_ _) | (with_reducible refine Wb.Ext.trans ?_ (by assumption))))
                replace hb12 : Wb.Ext w11 w12 := Wb.Ext.trans (by (repeat' (first | (with_reducible assumption) | (with_reducible exact Wb.Ext.refl _) | (with_reducible refine Wb.Ext.drew ?_) | (with_reducible refine Wb.Ext.drewN ?_ _) | (with_reducible refine Wb.Ext.alloc ?_ _) | (with_reducible refine Wb.Ext.trans ?_ (by assumption))))) hb12
                replace HP11 := Lib.hid (HP11.out.ext hb12)
                have hx12 : Wb.Ext W0 w12 := Wb.Ext.trans (by (repeat' (first | (with_reducible assumption) | (with_reducible exact Wb.Ext.refl _) | (with_reducible refine Wb.Ext.drew ?_) | (with_reducible refine Wb.Ext.drewN ?_ _) | (with_reducible refine Wb.Ext.alloc ?_ _) | (with_reducible refine Wb.Ext.trans ?_ (by assumption))))) hb12
                have yq : w12.cell? ⟨w11.heap.size, 0, none⟩ = some (.slice none 0 0) := by rw [hw12]; simp [go_sem]
                have yfq : w12.frozen? ⟨w11.heap.size, 0, none⟩ = false := by rw [hw12]; simp [go_sem]
                have ybq : W0.heap.size ≤ w11.heap.size ∧ w11.heap.size < w12.heap.size := ⟨(show Wb.Ext W0 w11 by (repeat' (first | (with_reducible assumption) | (with_reducible exact Wb.Ext.refl _) | (with_reducible refine Wb.Ext.drew ?_) | (with_reducible refine Wb.Ext.drewN ?_ _) | (with_reducible refine Wb.Ext.alloc ?_ _) | (with_reducible refine Wb.Ext.trans ?_ (by assumption))))).size, by rw [hw12]; simp⟩
                clear hw12 hb12
                refine hK.out _ _ ⟨Wb.Ext.keep (w := W0) (by (repeat' (first | (with_reducible assumption) | (with_reducible exact Wb.Ext.refl _) | (with_reducible refine Wb.Ext.drew ?_) | (with_reducible refine Wb.Ext.drewN ?_ _) | (with_reducible refine Wb.Ext.alloc ?_ _) | (with_reducible refine Wb.Ext.trans ?_ (by assumption))))) zs, Wb.Ext.keep (w := W0) (by (repeat' (first | (with_reducible assumption) | (with_reducible exact Wb.Ext.refl _) | (with_reducible refine Wb.Ext.drew ?_) | (with_reducible refine Wb.Ext.drewN ?_ _) | (with_reducible refine Wb.Ext.alloc ?_ _) | (with_reducible refine Wb.Ext.trans ?_ (by assumption))))) zt⟩ (fun hHeld => ?_)
                clear hK K
                (try simp only [Act.put, List.setIfInBounds_toArray, List.set_cons_zero, List.set_cons_succ])
                refine wpAnyH_ready (rs := [5, 6]) (by kernel_rfl) (by simp) ?_
                refine AllReadyH.cons (o := _) rfl (fun K hK => ?_) ?_
                · go_simp
                  go_at_call 21
                  go_fit (minus_any _ _ s t _ (HPs.out.ext (by (repeat' (first | (with_reducible assumption) | (with_reducible exact Wb.Ext.refl _) | (with_reducible refine Wb.Ext.drew ?_) | (with_reducible refine Wb.Ext.drewN ?_ _) | (with_reducible refine Wb.Ext.alloc ?_ _) | (with_reducible refine Wb.Ext.trans ?_ (by assumption)))))) (HPt.out.ext (by (repeat' (first | (with_reducible assumption) | (with_reducible exact Wb.Ext.refl _) | (with_reducible refine Wb.Ext.drew ?_) | (with_reducible refine Wb.Ext.drewN ?_ _) | (with_reducible refine Wb.Ext.alloc ?_ _) | (with_reducible refine Wb.Ext.trans ?_ (by assumption)))))) HSs.out.canon HSt.out.canon HSs.out.bd HSt.out.bd (by omega) (by omega))
                  rintro e w13 ⟨v13, r13, rfl, hs13, hp13, hb13⟩
                  obtain ⟨sa13, sc13, rfl⟩ := hp13.1.shape
                  have HS13 := Lib.hid hs13
                  have hl13 : r13.length ≤ 160 := by have := hs13.len; (try simp only [List.length_cons, List.length_nil] at this); omega
                  have HE13 := Lib.hid (has_min hs13)
                  replace hb13 : Wb.Ext w12 w13 := Wb.Ext.trans (by (repeat' (first | (with_reducible assumption) | (with_reducible exact Wb.Ext.refl _) | (with_reducible refine Wb.Ext.drew ?_) | (with_reducible refine Wb.Ext.drewN ?_ _) | (with_reducible refine Wb.Ext.alloc ?_ _) | (with_reducible refine Wb.Ext.trans ?_ (by assumption))))) hb13
                  replace HP11 := Lib.hid (HP11.out.ext hb13)
                  have yfq := (Below.frozen hb13 ybq.2).trans yfq
                  have yq := hb13.keep yq
                  have ybq := And.intro ybq.1 (Nat.lt_of_lt_of_le ybq.2 hb13.size)
                  have hx13 : Wb.Ext W0 w13 := Wb.Ext.trans (by (repeat' (first | (with_reducible assumption) | (with_reducible exact Wb.Ext.refl _) | (with_reducible refine Wb.Ext.drew ?_) | (with_reducible refine Wb.Ext.drewN ?_ _) | (with_reducible refine Wb.Ext.alloc ?_ _) | (with_reducible refine Wb.Ext.trans ?_ (by assumption))))) hb13
                  clear hb13
                  have HP13 := Lib.hid hp13
                  clear hs13 hp13
                  refine hK.out _ _ ⟨Wb.Ext.keep (w := W0) (by (repeat' (first | (with_reducible assumption) | (with_reducible exact Wb.Ext.refl _) | (with_reducible refine Wb.Ext.drew ?_) | (with_reducible refine Wb.Ext.drewN ?_ _) | (with_reducible refine Wb.Ext.alloc ?_ _) | (with_reducible refine Wb.Ext.trans ?_ (by assumption))))) zs, Wb.Ext.keep (w := W0) (by (repeat' (first | (with_reducible assumption) | (with_reducible exact Wb.Ext.refl _) | (with_reducible refine Wb.Ext.drew ?_) | (with_reducible refine Wb.Ext.drewN ?_ _) | (with_reducible refine Wb.Ext.alloc ?_ _) | (with_reducible refine Wb.Ext.trans ?_ (by assumption))))) zt⟩ (fun hHeld => ?_)
                  clear hK K
                  (try simp only [Act.put, List.setIfInBounds_toArray, List.set_cons_zero, List.set_cons_succ])
                  refine wpAnyH_ready (rs := [6]) (by kernel_rfl) (by simp) ?_
                  refine AllReadyH.cons (o := _) rfl (fun K hK => ?_) ?_
                  · go_simp
                    have nqp : w11.heap.size ≠ w13.heap.size := Nat.ne_of_lt ybq.2
                    refine atK fun w14 hw14 => ?_
                    have hb14 : Wb.Ext w13 w14 := by rw [hw14]; (repeat' (first | (with_reducible assumption) | (with_reducible exact Wb.Ext.refl _) | (with_reducible refine Wb.Ext.drew ?_) | (with_reducible refine Wb.Ext.drewN ?_ _) | (with_reducible refine Wb.Ext.alloc ?_ _) | (with_reducible refine Wb.Ext.trans ?_ (by assumption))))
                    replace hb14 : Wb.Ext w13 w14 := Wb.Ext.trans (by (repeat' (first | (with_reducible assumption) | (with_reducible exact Wb.Ext.refl _) | (with_reducible refine Wb.Ext.drew ?_) | (with_reducible refine Wb.Ext.drewN ?_ _) | (with_reducible refine Wb.Ext.alloc ?_ _) | (with_reducible refine Wb.Ext.trans ?_ (by assumption))))) hb14
                    replace HP11 := Lib.hid (HP11.out.ext hb14)
                    replace HP13 := Lib.hid (HP13.out.ext hb14)
                    have yfq := (Below.frozen hb14 ybq.2).trans yfq
                    have yq := hb14.keep yq
                    have ybq := And.intro ybq.1 (Nat.lt_of_lt_of_le ybq.2 hb14.size)
                    have hx14 : Wb.Ext W0 w14 := Wb.Ext.trans (by (repeat' (first | (with_reducible assumption) | (with_reducible exact Wb.Ext.refl _) | (with_reducible refine Wb.Ext.drew ?_) | (with_reducible refine Wb.Ext.drewN ?_ _) | (with_reducible refine Wb.Ext.alloc ?_ _) | (with_reducible refine Wb.Ext.trans ?_ (by assumption))))) hb14
                    have yp : w14.cell? ⟨w13.heap.size, 0, none⟩ = some (.slice none 0 0) := by rw [hw14]; simp [go_sem]
                    have yfp : w14.frozen? ⟨w13.heap.size, 0, none⟩ = false := by rw [hw14]; simp [go_sem]
                    have ybp : W0.heap.size ≤ w13.heap.size ∧ w13.heap.size < w14.heap.size := ⟨(show Wb.Ext W0 w13 by (repeat' (first | (with_reducible assumption) | (with_reducible exact Wb.Ext.refl _) | (with_reducible refine Wb.Ext.drew ?_) | (with_reducible refine Wb.Ext.drewN ?_ _) | (with_reducible refine Wb.Ext.alloc ?_ _) | (with_reducible refine Wb.Ext.trans ?_ (by assumption))))).size, by rw [hw14]; simp⟩
                    clear hw14 hb14
                    refine hK.out _ _ ⟨Wb.Ext.keep (w := W0) (by (repeat' (first | (with_reducible assumption) | (with_reducible exact Wb.Ext.refl _) | (with_reducible refine Wb.Ext.drew ?_) | (with_reducible refine Wb.Ext.drewN ?_ _) | (with_reducible refine Wb.Ext.alloc ?_ _) | (with_reducible refine Wb.Ext.trans ?_ (by assumption))))) zs, Wb.Ext.keep (w := W0) (by (repeat' (first | (with_reducible assumption) | (with_reducible exact Wb.Ext.refl _) | (with_reducible refine Wb.Ext.drew ?_) | (with_reducible refine Wb.Ext.drewN ?_ _) | (with_reducible refine Wb.Ext.alloc ?_ _) | (with_reducible refine Wb.Ext.trans ?_ (by assumption))))) zt⟩ (fun hHeld => ?_)
                    clear hK K
                    (try simp only [Act.put, List.setIfInBounds_toArray, List.set_cons_zero, List.set_cons_succ])
                    refine wpAnyH_ready (rs := [8]) (by kernel_rfl) (by simp) ?_
                    refine AllReadyH.cons (o := _) rfl (fun K hK => ?_) ?_
                    · go_simp
                      refine atK fun w15 hw15 => ?_
                      have hx15 : Wb.Ext W0 w15 := by rw [hw15]; exact Wb.ext_set (by (repeat' (first | (with_reducible assumption) | (with_reducible exact Wb.Ext.refl _) | (with_reducible refine Wb.Ext.drew ?_) | (with_reducible refine Wb.Ext.drewN ?_ _) | (with_reducible refine Wb.Ext.alloc ?_ _) | (with_reducible refine Wb.Ext.trans ?_ (by assumption))))) ybp.1 _
                      replace HP11 := Lib.hid (show SpL w15 _ r11 by rw [hw15]; exact HP11.out.set yp _)
                      replace HP13 := Lib.hid (show SpL w15 _ r13 by rw [hw15]; exact HP13.out.set yp _)
                      have yq : w15.cell? ⟨w11.heap.size, 0, none⟩ = some (.slice none 0 0) := by rw [hw15]; exact (World.cell?_setCell_other _ _ _ _ (fun e => nqp (congrArg Addr.block e).symm)).trans yq
                      have yfq : w15.frozen? ⟨w11.heap.size, 0, none⟩ = false := by rw [hw15]; exact (World.frozen?_setCell _ _ _ _).trans yfq
                      have ybq := And.intro ybq.1 (show w11.heap.size < w15.heap.size by rw [hw15]; simpa [go_sem] using ybq.2)
                      have Yp : w15.cell? ⟨w13.heap.size, 0, none⟩ = some (.slice sa11 r11.length sc11) := by rw [hw15]; simp [go_sem, yp]
                      clear hw15
                      refine hK.out _ _ ⟨Wb.Ext.keep (w := W0) (by (repeat' (first | (with_reducible assumption) | (with_reducible exact Wb.Ext.refl _) | (with_reducible refine Wb.Ext.drew ?_) | (with_reducible refine Wb.Ext.drewN ?_ _) | (with_reducible refine Wb.Ext.alloc ?_ _) | (with_reducible refine Wb.Ext.trans ?_ (by assumption))))) zs, Wb.Ext.keep (w := W0) (by (repeat' (first | (with_reducible assumption) | (with_reducible exact Wb.Ext.refl _) | (with_reducible refine Wb.Ext.drew ?_) | (with_reducible refine Wb.Ext.drewN ?_ _) | (with_reducible refine Wb.Ext.alloc ?_ _) | (with_reducible refine Wb.Ext.trans ?_ (by assumption))))) zt⟩ (fun hHeld => ?_)
                      clear hK K
                      (try simp only [Act.put, List.setIfInBounds_toArray, List.set_cons_zero, List.set_cons_succ])
                      refine wpAnyH_ready (rs := [9]) (by kernel_rfl) (by simp) ?_
                      refine AllReadyH.cons (o := _) rfl (fun K hK => ?_) ?_
                      · go_simp
                        refine atK fun w16 hw16 => ?_
                        have hx16 : Wb.Ext W0 w16 := by rw [hw16]; exact Wb.ext_set (by (repeat' (first | (with_reducible assumption) | (with_reducible exact Wb.Ext.refl _) | (with_reducible refine Wb.Ext.drew ?_) | (with_reducible refine Wb.Ext.drewN ?_ _) | (with_reducible refine Wb.Ext.alloc ?_ _) | (with_reducible refine Wb.Ext.trans ?_ (by assumption))))) ybq.1 _
                        replace HP11 := Lib.hid (show SpL w16 _ r11 by rw [hw16]; exact HP11.out.set yq _)
                        replace HP13 := Lib.hid (show SpL w16 _ r13 by rw [hw16]; exact HP13.out.set yq _)
                        have Yp : w16.cell? ⟨w13.heap.size, 0, none⟩ = some (.slice sa11 r11.length sc11) := by rw [hw16]; exact (World.cell?_setCell_other _ _ _ _ (fun e => nqp (congrArg Addr.block e))).trans Yp
                        have Yq : w16.cell? ⟨w11.heap.size, 0, none⟩ = some (.slice sa13 r13.length sc13) := by rw [hw16]; simp [go_sem, yq]
                        clear hw16
                        refine hK.out _ _ ⟨Wb.Ext.keep (w := W0) (by (repeat' (first | (with_reducible assumption) | (with_reducible exact Wb.Ext.refl _) | (with_reducible refine Wb.Ext.drew ?_) | (with_reducible refine Wb.Ext.drewN ?_ _) | (with_reducible refine Wb.Ext.alloc ?_ _) | (with_reducible refine Wb.Ext.trans ?_ (by assumption))))) zs, Wb.Ext.keep (w := W0) (by (repeat' (first | (with_reducible assumption) | (with_reducible exact Wb.Ext.refl _) | (with_reducible refine Wb.Ext.drew ?_) | (with_reducible refine Wb.Ext.drewN ?_ _) | (with_reducible refine Wb.Ext.alloc ?_ _) | (with_reducible refine Wb.Ext.trans ?_ (by assumption))))) zt⟩ (fun hHeld => ?_)
                        clear hK K
                        (try simp only [Act.put, List.setIfInBounds_toArray, List.set_cons_zero, List.set_cons_succ])
                        refine wpAnyH_done (by kernel_rfl) ?_ _
                        go_wp2_with fail
                        go_meet
                        exact ⟨w13.heap.size, w11.heap.size, sa11, sc11, r11, sa13, sc13, r13, rfl, rfl, Yp, Yq, HP11.out, HP13.out, HS11.out, HS13.out, (show Wb.Ext W0 w16 by (repeat' (first | (with_reducible assumption) | (with_reducible exact Wb.Ext.refl _) | (with_reducible refine Wb.Ext.drew ?_) | (with_reducible refine Wb.Ext.drewN ?_ _) | (with_reducible refine Wb.Ext.alloc ?_ _) | (with_reducible refine Wb.Ext.trans ?_ (by assumption)))))⟩
                      exact AllReadyH.nil
                    exact AllReadyH.nil
                  exact AllReadyH.nil
                refine AllReadyH.cons (o := _) rfl (fun K hK => ?_) ?_
                · go_simp
                  have nqp : w11.heap.size ≠ w12.heap.size := Nat.ne_of_lt ybq.2
                  refine atK fun w13 hw13 => ?_
                  have hb13 : Wb.Ext w12 w13 := by rw [hw13]; (repeat' (first | (with_reducible assumption) | (with_reducible exact Wb.Ext.refl _) | (with_reducible refine Wb.Ext.drew ?_) | (with_reducible refine Wb.Ext.drewN ?_ _) | (with_reducible refine Wb.Ext.alloc ?_ _) | (with_reducible refine Wb.Ext.trans ?_ (by assumption))))
                  replace hb13 : Wb.Ext w12 w13 := Wb.Ext.trans (by (repeat' (first | (with_reducible assumption) | (with_reducible exact Wb.Ext.refl _) | (with_reducible refine Wb.Ext.drew ?_) | (with_reducible refine Wb.Ext.drewN ?_ _) | (with_reducible refine Wb.Ext.alloc ?_ _) | (with_reducible refine Wb.Ext.trans ?_ (by assumption))))) hb13
                  replace HP11 := Lib.hid (HP11.out.ext hb13)
                  have yfq := (Below.frozen hb13 ybq.2).trans yfq
                  have yq := hb13.keep yq
                  have ybq := And.intro ybq.1 (Nat.lt_of_lt_of_le ybq.2 hb13.size)
                  have hx13 : Wb.Ext W0 w13 := Wb.Ext.trans (by (repeat' (first | (with_reducible assumption) | (with_reducible exact Wb.Ext.refl _) | (with_reducible refine Wb.Ext.drew ?_) | (with_reducible refine Wb.Ext.drewN ?_ _) | (with_reducible refine Wb.Ext.alloc ?_ _) | (with_reducible refine Wb.Ext.trans ?_ (by assumption))))) hb13
                  have yp : w13.cell? ⟨w12.heap.size, 0, none⟩ = some (.slice none 0 0) := by rw [hw13]; simp [go_sem]
                  have yfp : w13.frozen? ⟨w12.heap.size, 0, none⟩ = false := by rw [hw13]; simp [go_sem]
                  have ybp : W0.heap.size ≤ w12.heap.size ∧ w12.heap.size < w13.heap.size := ⟨(show Wb.Ext W0 w12 by (repeat' (first | (with_reducible assumption) | (with_reducible exact Wb.Ext.refl _) | (with_reducible refine Wb.Ext.drew ?_) | (with_reducible refine Wb.Ext.drewN ?_ _) | (with_reducible refine Wb.Ext.alloc ?_ _) | (with_reducible refine Wb.Ext.trans ?_ (by assumption))))).size, by rw [hw13]; simp⟩
                  clear hw13 hb13
                  refine hK.out _ _ ⟨Wb.Ext.keep (w := W0) (by (repeat' (first | (with_reducible assumption) | (with_reducible exact Wb.Ext.refl _) | (with_reducible refine Wb.Ext.drew ?_) | (with_reducible refine Wb.Ext.drewN ?_ _) | (with_reducible refine Wb.Ext.alloc ?_ _) | (with_reducible refine Wb.Ext.trans ?_ (by assumption))))) zs, Wb.Ext.keep (w := W0) (by (repeat' (first | (with_reducible assumption) | (with_reducible exact Wb.Ext.refl _) | (with_reducible refine Wb.Ext.drew ?_) | (with_reducible refine Wb.Ext.drewN ?_ _) | (with_reducible refine Wb.Ext.alloc ?_ _) | (with_reducible refine Wb.Ext.trans ?_ (by assumption))))) zt⟩ (fun hHeld => ?_)
                  clear hK K
                  (try simp only [Act.put, List.setIfInBounds_toArray, List.set_cons_zero, List.set_cons_succ])
                  refine wpAnyH_ready (rs := [5]) (by kernel_rfl) (by simp) ?_
                  refine AllReadyH.cons (o := _) rfl (fun K hK => ?_) ?_
                  · go_simp
                    go_at_call 21
                    go_fit (minus_any _ _ s t _ (HPs.out.ext (by (repeat' (first | (with_reducible assumption) | (with_reducible exact Wb.Ext.refl _) | (with_reducible refine Wb.Ext.drew ?_) | (with_reducible refine Wb.Ext.drewN ?_ _) | (with_reducible refine Wb.Ext.alloc ?_ _) | (with_reducible refine Wb.Ext.trans ?_ (by assumption)))))) (HPt.out.ext (by (repeat' (first | (with_reducible assumption) | (with_reducible exact Wb.Ext.refl _) | (with_reducible refine Wb.Ext.drew ?_) | (with_reducible refine Wb.Ext.drewN ?_ _) | (with_reducible refine Wb.Ext.alloc ?_ _) | (with_reducible refine Wb.Ext.trans ?_ (by assumption)))))) HSs.out.canon HSt.out.canon HSs.out.bd HSt.out.bd (by omega) (by omega))
                    rintro e w14 ⟨v14, r14, rfl, hs14, hp14, hb14⟩
                    obtain ⟨sa14, sc14, rfl⟩ := hp14.1.shape
                    have HS14 := Lib.hid hs14
                    have hl14 : r14.length ≤ 160 := by have := hs14.len; (try simp only [List.length_cons, List.length_nil] at this); omega
                    have HE14 := Lib.hid (has_min hs14)
                    replace hb14 : Wb.Ext w13 w14 := Wb.Ext.trans (by (repeat' (first | (with_reducible assumption) | (with_reducible exact Wb.Ext.refl _) | (with_reducible refine Wb.Ext.drew ?_) | (with_reducible refine Wb.Ext.drewN ?_ _) | (with_reducible refine Wb.Ext.alloc ?_ _) | (with_reducible refine Wb.Ext.trans ?_ (by assumption))))) hb14
                    replace HP11 := Lib.hid (HP11.out.ext hb14)
                    have yfq := (Below.frozen hb14 ybq.2).trans yfq
                    have yq := hb14.keep yq
                    have ybq := And.intro ybq.1 (Nat.lt_of_lt_of_le ybq.2 hb14.size)
                    have yfp := (Below.frozen hb14 ybp.2).trans yfp
                    have yp := hb14.keep yp
                    have ybp := And.intro ybp.1 (Nat.lt_of_lt_of_le ybp.2 hb14.size)
                    have hx14 : Wb.Ext W0 w14 := Wb.Ext.trans (by (repeat' (first | (with_reducible assumption) | (with_reducible exact Wb.Ext.refl _) | (with_reducible refine Wb.Ext.drew ?_) | (with_reducible refine Wb.Ext.drewN ?_ _) | (with_reducible refine Wb.Ext.alloc ?_ _) | (with_reducible refine Wb.Ext.trans ?_ (by assumption))))) hb14
                    clear hb14
                    have HP14 := Lib.hid hp14
                    clear hs14 hp14
                    refine hK.out _ _ ⟨Wb.Ext.keep (w := W0) (by (repeat' (first | (with_reducible assumption) | (with_reducible exact Wb.Ext.refl _) | (with_reducible refine Wb.Ext.drew ?_) | (with_reducible refine Wb.Ext.drewN ?_ _) | (with_reducible refine Wb.Ext.alloc ?_ _) | (with_reducible refine Wb.Ext.trans ?_ (by assumption))))) zs, Wb.Ext.keep (w := W0) (by (repeat' (first | (with_reducible assumption) | (with_reducible exact Wb.Ext.refl _) | (with_reducible refine Wb.Ext.drew ?_) | (with_reducible refine Wb.Ext.drewN ?_ _) | (with_reducible refine Wb.Ext.alloc ?_ _) | (with_reducible refine Wb.Ext.trans ?_ (by assumption))))) zt⟩ (fun hHeld => ?_)
                    clear hK K
                    (try simp only [Act.put, List.setIfInBounds_toArray, List.set_cons_zero, List.set_cons_succ])
                    refine wpAnyH_ready (rs := [8]) (by kernel_rfl) (by simp) ?_
                    refine AllReadyH.cons (o := _) rfl (fun K hK => ?_) ?_
                    · go_simp
                      refine atK fun w15 hw15 => ?_
                      have hx15 : Wb.Ext W0 w15 := by rw [hw15]; exact Wb.ext_set (by (repeat' (first | (with_reducible assumption) | (with_reducible exact Wb.Ext.refl _) | (with_reducible refine Wb.Ext.drew ?_) | (with_reducible refine Wb.Ext.drewN ?_ _) | (with_reducible refine Wb.Ext.alloc ?_ _) | (with_reducible refine Wb.Ext.trans ?_ (by assumption))))) ybp.1 _
                      replace HP11 := Lib.hid (show SpL w15 _ r11 by rw [hw15]; exact HP11.out.set yp _)
                      replace HP14 := Lib.hid (show SpL w15 _ r14 by rw [hw15]; exact HP14.out.set yp _)
                      have yq : w15.cell? ⟨w11.heap.size, 0, none⟩ = some (.slice none 0 0) := by rw [hw15]; exact (World.cell?_setCell_other _ _ _ _ (fun e => nqp (congrArg Addr.block e).symm)).trans yq
                      have yfq : w15.frozen? ⟨w11.heap.size, 0, none⟩ = false := by rw [hw15]; exact (World.frozen?_setCell _ _ _ _).trans yfq
                      have ybq := And.intro ybq.1 (show w11.heap.size < w15.heap.size by rw [hw15]; simpa [go_sem] using ybq.2)
                      have Yp : w15.cell? ⟨w12.heap.size, 0, none⟩ = some (.slice sa11 r11.length sc11) := by rw [hw15]; simp [go_sem, yp]
                      clear hw15
                      refine hK.out _ _ ⟨Wb.Ext.keep (w := W0) (by (repeat' (first | (with_reducible assumption) | (with_reducible exact Wb.Ext.refl _) | (with_reducible refine Wb.Ext.drew ?_) | (with_reducible refine Wb.Ext.drewN ?_ _) | (with_reducible refine Wb.Ext.alloc ?_ _) | (with_reducible refine Wb.Ext.trans ?_ (by assumption))))) zs, Wb.Ext.keep (w := W0) (by (repeat' (first | (with_reducible assumption) | (with_reducible exact Wb.Ext.refl _) | (with_reducible refine Wb.Ext.drew ?_) | (with_reducible refine Wb.Ext.drewN ?_ _) | (with_reducible refine Wb.Ext.alloc ?_ _) | (with_reducible refine Wb.Ext.trans ?_ (by assumption))))) zt⟩ (fun hHeld => ?_)
                      clear hK K
                      (try simp only [Act.put, List.setIfInBounds_toArray, List.set_cons_zero, List.set_cons_succ])
                      refine wpAnyH_ready (rs := [9]) (by kernel_rfl) (by simp) ?_
                      refine AllReadyH.cons (o := _) rfl (fun K hK => ?_) ?_
                      · go_simp
                        refine atK fun w16 hw16 => ?_
                        have hx16 : Wb.Ext W0 w16 := by rw [hw16]; exact Wb.ext_set (by (repeat' (first | (with_reducible assumption) | (with_reducible exact Wb.Ext.refl _) | (with_reducible refine Wb.Ext.drew ?_) | (with_reducible refine Wb.Ext.drewN ?_ _) | (with_reducible refine Wb.Ext.alloc ?_ _) | (with_reducible refine Wb.Ext.trans ?_ (by assumption))))) ybq.1 _
                        replace HP11 := Lib.hid (show SpL w16 _ r11 by rw [hw16]; exact HP11.out.set yq _)
                        replace HP14 := Lib.hid (show SpL w16 _ r14 by rw [hw16]; exact HP14.out.set yq _)
                        have Yp : w16.cell? ⟨w12.heap.size, 0, none⟩ = some (.slice sa11 r11.length sc11) := by rw [hw16]; exact (World.cell?_setCell_other _ _ _ _ (fun e => nqp (congrArg Addr.block e))).trans Yp
                        have Yq : w16.cell? ⟨w11.heap.size, 0, none⟩ = some (.slice sa14 r14.length sc14) := by rw [hw16]; simp [go_sem, yq]
                        clear hw16
                        refine hK.out _ _ ⟨Wb.Ext.keep (w := W0) (by (repeat' (first | (with_reducible assumption) | (with_reducible exact Wb.Ext.refl _) | (with_reducible refine Wb.Ext.drew ?_) | (with_reducible refine Wb.Ext.drewN ?_ _) | (with_reducible refine Wb.Ext.alloc ?_ _) | (with_reducible refine Wb.Ext.trans ?_ (by assumption))))) zs, Wb.Ext.keep (w := W0) (by (repeat' (first | (with_reducible assumption) | (with_reducible exact Wb.Ext.refl _) | (with_reducible refine Wb.Ext.drew ?_) | (with_reducible refine Wb.Ext.drewN ?_ _) | (with_reducible refine Wb.Ext.alloc ?_ _) | (with_reducible refine Wb.Ext.trans ?_ (by assumption))))) zt⟩ (fun hHeld => ?_)
                        clear hK K
                        (try simp only [Act.put, List.setIfInBounds_toArray, List.set_cons_zero, List.set_cons_succ])
                        refine wpAnyH_done (by kernel_rfl) ?_ _
                        go_wp2_with fail
                        go_meet
                        exact ⟨w12.heap.size, w11.heap.size, sa11, sc11, r11, sa14, sc14, r14, rfl, rfl, Yp, Yq, HP11.out, HP14.out, HS11.out, HS14.out, (show Wb.Ext W0 w16 by (repeat' (first | (with_reducible assumption) | (with_reducible exact Wb.Ext.refl _) | (with_reducible refine Wb.Ext.drew ?_) | (with_reducible refine Wb.Ext.drewN ?_ _) | (with_reducible refine Wb.Ext.alloc ?_ _) | (with_reducible refine Wb.Ext.trans ?_ (by assumption)))))⟩
                      exact AllReadyH.nil
                    exact AllReadyH.nil
                  exact AllReadyH.nil
                exact AllReadyH.nil
              exact AllReadyH.nil
            refine AllReadyH.cons (o := _) rfl (fun K hK => ?_) ?_
            · go_simp
              refine atK fun w11 hw11 => ?_
              have hb11 : Wb.Ext W0 w11 := by rw [hw11]; (repeat' (first | (with_reducible assumption) | (with_reducible exact Wb.Ext.refl _) | (with_reducible refine Wb.Ext.drew ?_) | (with_reducible refine Wb.Ext.drewN ?_ _) | (with_reducible refine Wb.Ext.alloc ?_ _) | (with_reducible refine Wb.Ext.trans ?_ (by assumption))))
              replace hb11 : Wb.Ext W0 w11 := Wb.Ext.trans (by (repeat' (first | (with_reducible assumption) | (with_reducible exact Wb.Ext.refl _) | (with_reducible refine Wb.Ext.drew ?_) | (with_reducible refine Wb.Ext.drewN ?_ _) | (with_reducible refine Wb.Ext.alloc ?_ _) | (with_reducible refine Wb.Ext.trans ?_ (by assumption))))) hb11
              have hx11 : Wb.Ext W0 w11 := Wb.Ext.trans (by (repeat' (first | (with_reducible assumption) | (with_reducible exact Wb.Ext.refl _) | (with_reducible refine Wb.Ext.drew ?_) | (with_reducible refine Wb.Ext.drewN ?_ _) | (with_reducible refine Wb.Ext.alloc ?_ _) | (with_reducible refine Wb.Ext.trans ?_ (by assumption))))) hb11
              have yp : w11.cell? ⟨W0.heap.size, 0, none⟩ = some (.slice none 0 0) := by rw [hw11]; simp [go_sem]
              have yfp : w11.frozen? ⟨W0.heap.size, 0, none⟩ = false := by rw [hw11]; simp [go_sem]
              have ybp : W0.heap.size ≤ W0.heap.size ∧ W0.heap.size < w11.heap.size := ⟨(show Wb.Ext W0 W0 by (repeat' (first | (with_reducible assumption) | (with_reducible exact Wb.Ext.refl _) | (with_reducible refine Wb.Ext.drew ?_) | (with_reducible refine Wb.Ext.drewN ?_ _) | (with_reducible refine Wb.Ext.alloc ?_ _) | (with_reducible refine Wb.Ext.trans ?_ (by assumption))))).size, by rw [hw11]; simp⟩
              clear hw11 hb11
              refine hK.out _ _ ⟨Wb.Ext.keep (w := W0) (by (repeat' (first | (with_reducible assumption) | (with_reducible exact Wb.Ext.refl _) | (with_reducible refine Wb.Ext.drew ?_) | (with_reducible refine Wb.Ext.drewN ?_ _) | (with_reducible refine Wb.Ext.alloc ?_ _) | (with_reducible refine Wb.Ext.trans ?_ (by assumption))))) zs, Wb.Ext.keep (w := W0) (by (repeat' (first | (with_reducible assumption) | (with_reducible exact Wb.Ext.refl _) | (with_reducible refine Wb.Ext.drew ?_) | (with_reducible refine Wb.Ext.drewN ?_ _) | (with_reducible refine Wb.Ext.alloc ?_ _) | (with_reducible refine Wb.Ext.trans ?_ (by assumption))))) zt⟩ (fun hHeld => ?_)
              clear hK K
              (try simp only [Act.put, List.setIfInBounds_toArray, List.set_cons_zero, List.set_cons_succ])
              refine wpAnyH_ready (rs := [2, 7]) (by kernel_rfl) (by simp) ?_
              refine AllReadyH.cons (o := _) rfl (fun K hK => ?_) ?_
              · go_simp
                go_at_call 20
                go_fit (meet_any _ _ s t _ (HPs.out.ext (by (repeat' (first | (with_reducible assumption) | (with_reducible exact Wb.Ext.refl _) | (with_reducible refine Wb.Ext.drew ?_) | (with_reducible refine Wb.Ext.drewN ?_ _) | (with_reducible refine Wb.Ext.alloc ?_ _) | (with_reducible refine Wb.Ext.trans ?_ (by assumption)))))) (HPt.out.ext (by (repeat' (first | (with_reducible assumption) | (with_reducible exact Wb.Ext.refl _) | (with_reducible refine Wb.Ext.drew ?_) | (with_reducible refine Wb.Ext.drewN ?_ _) | (with_reducible refine Wb.Ext.alloc ?_ _) | (with_reducible refine Wb.Ext.trans ?_ (by assumption)))))) HSs.out.canon HSt.out.canon HSs.out.bd HSt.out.bd (by omega) (by omega))
                rintro e w12 ⟨v12, r12, rfl, hs12, hp12, hb12⟩
                obtain ⟨sa12, sc12, rfl⟩ := hp12.1.shape
                have HS12 := Lib.hid hs12
                have hl12 : r12.length ≤ 160 := by have := hs12.len; (try simp only [List.length_cons, List.length_nil] at this); omega
                have HE12 := Lib.hid (has_met hs12)
                replace hb12 : Wb.Ext w11 w12 := Wb.Ext.trans (by (repeat' (first | (with_reducible assumption) | (with_reducible exact Wb.Ext.refl _) | (with_reducible refine Wb.Ext.drew ?_) | (with_reducible refine Wb.Ext.drewN ?_ _) | (with_reducible refine Wb.Ext.alloc ?_ _) | (with_reducible refine Wb.Ext.trans ?_ (by assumption))))) hb12
                have yfp := (Below.frozen hb12 ybp.2).trans yfp
                have yp := hb12.keep yp
                have ybp := And.intro ybp.1 (Nat.lt_of_lt_of_le ybp.2 hb12.size)
                have hx12 : Wb.Ext W0 w12 := Wb.Ext.trans (by (repeat' (first | (with_reducible assumption) | (with_reducible exact Wb.Ext.refl _) | (with_reducible refine Wb.Ext.drew ?_) | (with_reducible refine Wb.Ext.drewN ?_ _) | (with_reducible refine Wb.Ext.alloc ?_ _) | (with_reducible refine Wb.Ext.trans ?_ (by assumption))))) hb12
                clear hb12
                have HP12 := Lib.hid hp12
                clear hs12 hp12
                refine hK.out _ _ ⟨Wb.Ext.keep (w := W0) (by (repeat' (first | (with_reducible assumption) | (with_reducible exact Wb.Ext.refl _) | (with_reducible refine Wb.Ext.drew ?_) | (with_reducible refine Wb.Ext.drewN ?_ _) | (with_reducible refine Wb.Ext.alloc ?_ _) | (with_reducible refine Wb.Ext.trans ?_ (by assumption))))) zs, Wb.Ext.keep (w := W0) (by (repeat' (first | (with_reducible assumption) | (with_reducible exact Wb.Ext.refl _) | (with_reducible refine Wb.Ext.drew ?_) | (with_reducible refine Wb.Ext.drewN ?_ _) | (with_reducible refine Wb.Ext.alloc ?_ _) | (with_reducible refine Wb.Ext.trans ?_ (by assumption))))) zt⟩ (fun hHeld => ?_)
                clear hK K
                (try simp only [Act.put, List.setIfInBounds_toArray, List.set_cons_zero, List.set_cons_succ])
                refine wpAnyH_ready (rs := [5, 7]) (by kernel_rfl) (by simp) ?_
                refine AllReadyH.cons (o := _) rfl (fun K hK => ?_) ?_
                · go_simp
                  go_at_call 21
                  go_fit (minus_any _ _ s t _ (HPs.out.ext (by (repeat' (first | (with_reducible assumption) | (with_reducible exact Wb.Ext.refl _) | (with_reducible refine Wb.Ext.drew ?_) | (with_reducible refine Wb.Ext.drewN ?_ _) | (with_reducible refine Wb.Ext.alloc ?_ _) | (with_reducible refine Wb.Ext.trans ?_ (by assumption)))))) (HPt.out.ext (by (repeat' (first | (with_reducible assumption) | (with_reducible exact Wb.Ext.refl _) | (with_reducible refine Wb.Ext.drew ?_) | (with_reducible refine Wb.Ext.drewN ?_ _) | (with_reducible refine Wb.Ext.alloc ?_ _) | (with_reducible refine Wb.Ext.trans ?_ (by assumption)))))) HSs.out.canon HSt.out.canon HSs.out.bd HSt.out.bd (by omega) (by omega))
                  rintro e w13 ⟨v13, r13, rfl, hs13, hp13, hb13⟩
                  obtain ⟨sa13, sc13, rfl⟩ := hp13.1.shape
                  have HS13 := Lib.hid hs13
                  have hl13 : r13.length ≤ 160 := by have := hs13.len; (try simp only [List.length_cons, List.length_nil] at this); omega
                  have HE13 := Lib.hid (has_min hs13)
                  replace hb13 : Wb.Ext w12 w13 := Wb.Ext.trans (by (repeat' (first | (with_reducible assumption) | (with_reducible exact Wb.Ext.refl _) | (with_reducible refine Wb.Ext.drew ?_) | (with_reducible refine Wb.Ext.drewN ?_ _) | (with_reducible refine Wb.Ext.alloc ?_ _) | (with_reducible refine Wb.Ext.trans ?_ (by assumption))))) hb13
                  replace HP12 := Lib.hid (HP12.out.ext hb13)
                  have yfp := (Below.frozen hb13 ybp.2).trans yfp
                  have yp := hb13.keep yp
                  have ybp := And.intro ybp.1 (Nat.lt_of_lt_of_le ybp.2 hb13.size)
                  have hx13 : Wb.Ext W0 w13 := Wb.Ext.trans (by (repeat' (first | (with_reducible assumption) | (with_reducible exact Wb.Ext.refl _) | (with_reducible refine Wb.Ext.drew ?_) | (with_reducible refine Wb.Ext.drewN ?_ _) | (with_reducible refine Wb.Ext.alloc ?_ _) | (with_reducible refine Wb.Ext.trans ?_ (by assumption))))) hb13
                  clear hb13
                  have HP13 := Lib.hid hp13
                  clear hs13 hp13
                  refine hK.out _ _ ⟨Wb.Ext.keep (w := W0) (by (repeat' (first | (with_reducible assumption) | (with_reducible exact Wb.Ext.refl _) | (with_reducible refine Wb.Ext.drew ?_) | (with_reducible refine Wb.Ext.drewN ?_ _) | (with_reducible refine Wb.Ext.alloc ?_ _) | (with_reducible refine Wb.Ext.trans ?_ (by assumption))))) zs, Wb.Ext.keep (w := W0) (by (repeat' (first | (with_reducible assumption) | (with_reducible exact Wb.Ext.refl _) | (with_reducible refine Wb.Ext.drew ?_) | (with_reducible refine Wb.Ext.drewN ?_ _) | (with_reducible refine Wb.Ext.alloc ?_ _) | (with_reducible refine Wb.Ext.trans ?_ (by assumption))))) zt⟩ (fun hHeld => ?_)
                  clear hK K
                  (try simp only [Act.put, List.setIfInBounds_toArray, List.set_cons_zero, List.set_cons_succ])
                  refine wpAnyH_ready (rs := [7]) (by kernel_rfl) (by simp) ?_
                  refine AllReadyH.cons (o := _) rfl (fun K hK => ?_) ?_
                  · go_simp
                    have npq : W0.heap.size ≠ w13.heap.size := Nat.ne_of_lt ybp.2
                    refine atK fun w14 hw14 => ?_
                    have hb14 : Wb.Ext w13 w14 := by rw [hw14]; (repeat' (first | (with_reducible assumption) | (with_reducible exact Wb.Ext.refl _) | (with_reducible refine Wb.Ext.drew ?_) | (with_reducible refine Wb.Ext.drewN ?_ _) | (with_reducible refine Wb.Ext.alloc ?_ _) | (with_reducible refine Wb.Ext.trans ?_ (by assumption))))
                    replace hb14 : Wb.Ext w13 w14 := Wb.Ext.trans (by (repeat' (first | (with_reducible assumption) | (with_reducible exact Wb.Ext.refl _) | (with_reducible refine Wb.Ext.drew ?_) | (with_reducible refine Wb.Ext.drewN ?_ _) | (with_reducible refine Wb.Ext.alloc ?_ _) | (with_reducible refine Wb.Ext.trans ?_ (by assumption))))) hb14
                    replace HP12 := Lib.hid (HP12.out.ext hb14)
                    replace HP13 := Lib.hid (HP13.out.ext hb14)
                    have yfp := (Below.frozen hb14 ybp.2).trans yfp
                    have yp := hb14.keep yp
                    have ybp := And.intro ybp.1 (Nat.lt_of_lt_of_le ybp.2 hb14.size)
                    have hx14 : Wb.Ext W0 w14 := Wb.Ext.trans (by (repeat' (first | (with_reducible assumption) | (with_reducible exact Wb.Ext.refl _) | (with_reducible refine Wb.Ext.drew ?_) | (with_reducible refine Wb.Ext.drewN ?_ _) | (with_reducible refine Wb.Ext.alloc ?_ _) | (with_reducible refine Wb.Ext.trans ?_ (by assumption))))) hb14
                    have yq : w14.cell? ⟨w13.heap.size, 0, none⟩ = some (.slice none 0 0) := by rw [hw14]; simp [go_sem]
                    have yfq : w14.frozen? ⟨w13.heap.size, 0, none⟩ = false := by rw [hw14]; simp [go_sem]
                    have ybq : W0.heap.size ≤ w13.heap.size ∧ w13.heap.size < w14.heap.size := ⟨(show Wb.Ext W0 w13 by (repeat' (first | (with_reducible assumption) | (with_reducible exact Wb.Ext.refl _) | (with_reducible refine Wb.Ext.drew ?_) | (with_reducible refine Wb.Ext.drewN ?_ _) | (with_reducible refine Wb.Ext.alloc ?_ _) | (with_reducible refine Wb.Ext.trans ?_ (by assumption))))).size, by rw [hw14]; simp⟩
                    clear hw14 hb14
                    refine hK.out _ _ ⟨Wb.Ext.keep (w := W0) (by (repeat' (first | (with_reducible assumption) | (with_reducible exact Wb.Ext.refl _) | (with_reducible refine Wb.Ext.drew ?_) | (with_reducible refine Wb.Ext.drewN ?_ _) | (with_reducible refine Wb.Ext.alloc ?_ _) | (with_reducible refine Wb.Ext.trans ?_ (by assumption))))) zs, Wb.Ext.keep (w := W0) (by (repeat' (first | (with_reducible assumption) | (with_reducible exact Wb.Ext.refl _) | (with_reducible refine Wb.Ext.drew ?_) | (with_reducible refine Wb.Ext.drewN ?_ _) | (with_reducible refine Wb.Ext.alloc ?_ _) | (with_reducible refine Wb.Ext.trans ?_ (by assumption))))) zt⟩ (fun hHeld => ?_)
                    clear hK K
                    (try simp only [Act.put, List.setIfInBounds_toArray, List.set_cons_zero, List.set_cons_succ])
                    refine wpAnyH_ready (rs := [8]) (by kernel_rfl) (by simp) ?_
                    refine AllReadyH.cons (o := _) rfl (fun K hK => ?_) ?_
                    · go_simp
                      refine atK fun w15 hw15 => ?_
                      have hx15 : Wb.Ext W0 w15 := by rw [hw15]; exact Wb.ext_set (by (repeat' (first | (with_reducible assumption) | (with_reducible exact Wb.Ext.refl _) | (with_reducible refine Wb.Ext.drew ?_) | (with_reducible refine Wb.Ext.drewN ?_ _) | (with_reducible refine Wb.Ext.alloc ?_ _) | (with_reducible refine Wb.Ext.trans ?_ (by assumption))))) ybp.1 _
                      replace HP12 := Lib.hid (show SpL w15 _ r12 by rw [hw15]; exact HP12.out.set yp _)
                      replace HP13 := Lib.hid (show SpL w15 _ r13 by rw [hw15]; exact HP13.out.set yp _)
                      have yq : w15.cell? ⟨w13.heap.size, 0, none⟩ = some (.slice none 0 0) := by rw [hw15]; exact (World.cell?_setCell_other _ _ _ _ (fun e => npq (congrArg Addr.block e))).trans yq
                      have yfq : w15.frozen? ⟨w13.heap.size, 0, none⟩ = false := by rw [hw15]; exact (World.frozen?_setCell _ _ _ _).trans yfq
                      have ybq := And.intro ybq.1 (show w13.heap.size < w15.heap.size by rw [hw15]; simpa [go_sem] using ybq.2)
                      have Yp : w15.cell? ⟨W0.heap.size, 0, none⟩ = some (.slice sa12 r12.length sc12) := by rw [hw15]; simp [go_sem, yp]
                      clear hw15
                      refine hK.out _ _ ⟨Wb.Ext.keep (w := W0) (by (repeat' (first | (with_reducible assumption) | (with_reducible exact Wb.Ext.refl _) | (with_reducible refine Wb.Ext.drew ?_) | (with_reducible refine Wb.Ext.drewN ?_ _) | (with_reducible refine Wb.Ext.alloc ?_ _) | (with_reducible refine Wb.Ext.trans ?_ (by assumption))))) zs, Wb.Ext.keep (w := W0) (by (repeat' (first | (with_reducible assumption) | (with_reducible exact Wb.Ext.refl _) | (with_reducible refine Wb.Ext.drew ?_) | (with_reducible refine Wb.Ext.drewN ?_ _) | (with_reducible refine Wb.Ext.alloc ?_ _) | (with_reducible refine Wb.Ext.trans ?_ (by assumption))))) zt⟩ (fun hHeld => ?_)
                      clear hK K
                      (try simp only [Act.put, List.setIfInBounds_toArray, List.set_cons_zero, List.set_cons_succ])
                      refine wpAnyH_ready (rs := [9]) (by kernel_rfl) (by simp) ?_
                      refine AllReadyH.cons (o := _) rfl (fun K hK => ?_) ?_
                      · go_simp
                        refine atK fun w16 hw16 => ?_
                        have hx16 : Wb.Ext W0 w16 := by rw [hw16]; exact Wb.ext_set (by (repeat' (first | (with_reducible assumption) | (with_reducible exact Wb.Ext.refl _) | (with_reducible refine Wb.Ext.drew ?_) | (with_reducible refine Wb.Ext.drewN ?_ _) | (with_reducible refine Wb.Ext.alloc ?_ _) | (with_reducible refine Wb.Ext.trans ?_ (by assumption))))) ybq.1 _
                        replace HP12 := Lib.hid (show SpL w16 _ r12 by rw [hw16]; exact HP12.out.set yq _)
                        replace HP13 := Lib.hid (show SpL w16 _ r13 by rw [hw16]; exact HP13.out.set yq _)
                        have Yp : w16.cell? ⟨W0.heap.size, 0, none⟩ = some (.slice sa12 r12.length sc12) := by rw [hw16]; exact (World.cell?_setCell_other _ _ _ _ (fun e => npq (congrArg Addr.block e).symm)).trans Yp
                        have Yq : w16.cell? ⟨w13.heap.size, 0, none⟩ = some (.slice sa13 r13.length sc13) := by rw [hw16]; simp [go_sem, yq]
                        clear hw16
                        refine hK.out _ _ ⟨Wb.Ext.keep (w := W0) (by (repeat' (first | (with_reducible assumption) | (with_reducible exact Wb.Ext.refl _) | (with_reducible refine Wb.Ext.drew ?_) | (with_reducible refine Wb.Ext.drewN ?_ _) | (with_reducible refine Wb.Ext.alloc ?_ _) | (with_reducible refine Wb.Ext.trans ?_ (by assumption))))) zs, Wb.Ext.keep (w := W0) (by (repeat' (first | (with_reducible assumption) | (with_reducible exact Wb.Ext.refl _) | (with_reducible refine Wb.Ext.drew ?_) | (with_reducible refine Wb.Ext.drewN ?_ _) | (with_reducible refine Wb.Ext.alloc ?_ _) | (with_reducible refine Wb.Ext.trans ?_ (by assumption))))) zt⟩ (fun hHeld => ?_)
                        clear hK K
                        (try simp only [Act.put, List.setIfInBounds_toArray, List.set_cons_zero, List.set_cons_succ])
                        refine wpAnyH_done (by kernel_rfl) ?_ _
                        go_wp2_with fail
                        go_meet
                        exact ⟨W0.heap.size, w13.heap.size, sa12, sc12, r12, sa13, sc13, r13, rfl, rfl, Yp, Yq, HP12.out, HP13.out, HS12.out, HS13.out, (show Wb.Ext W0 w16 by (repeat' (first | (with_reducible assumption) | (with_reducible exact Wb.Ext.refl _) | (with_reducible refine Wb.Ext.drew ?_) | (with_reducible refine Wb.Ext.drewN ?_ _) | (with_reducible refine Wb.Ext.alloc ?_ _) | (with_reducible refine Wb.Ext.trans ?_ (by assumption)))))⟩
                      exact AllReadyH.nil
                    exact AllReadyH.nil
                  exact AllReadyH.nil
                refine AllReadyH.cons (o := _) rfl (fun K hK => ?_) ?_
                · go_simp
                  have npq : W0.heap.size ≠ w12.heap.size := Nat.ne_of_lt ybp.2
                  refine atK fun w13 hw13 => ?_
                  have hb13 : Wb.Ext w12 w13 := by rw [hw13]; (repeat' (first | (with_reducible assumption) | (with_reducible exact Wb.Ext.refl _) | (with_reducible refine Wb.Ext.drew ?_) | (with_reducible refine Wb.Ext.drewN ?_ _) | (with_reducible refine Wb.Ext.alloc ?_ _) | (with_reducible refine Wb.Ext.trans ?_ (by assumption))))
                  replace hb13 : Wb.Ext w12 w13 := Wb.Ext.trans (by (repeat' (first | (with_reducible assumption) | (with_reducible exact Wb.Ext.refl _) | (with_reducible refine Wb.Ext.drew ?_) | (with_reducible refine Wb.Ext.drewN ?_ _) | (with_reducible refine Wb.Ext.alloc ?_ _) | (with_reducible refine Wb.Ext.trans ?_ (by assumption))))) hb13
                  replace HP12 := Lib.hid (HP12.out.ext hb13)
                  have yfp := (Below.frozen hb13 ybp.2).trans yfp
                  have yp := hb13.keep yp
                  have ybp := And.intro ybp.1 (Nat.lt_of_lt_of_le ybp.2 hb13.size)
                  have hx13 : Wb.Ext W0 w13 := Wb.Ext.trans (by (repeat' (first | (with_reducible assumption) | (with_reducible exact Wb.Ext.refl _) | (with_reducible refine Wb.Ext.drew ?_) | (with_reducible refine Wb.Ext.drewN ?_ _) | (with_reducible refine Wb.Ext.alloc ?_ _) | (with_reducible refine Wb.Ext.trans ?_ (by assumption))))) hb13
                  have yq : w13.cell? ⟨w12.heap.size, 0, none⟩ = some (.slice none 0 0) := by rw [hw13]; simp [go_sem]
                  have yfq : w13.frozen? ⟨w12.heap.size, 0, none⟩ = false := by rw [hw13]; simp [go_sem]
                  have ybq : W0.heap.size ≤ w12.heap.size ∧ w12.heap.size < w13.heap.size := ⟨(show Wb.Ext W0 w12 by (repeat' (first | (with_reducible assumption) | (with_reducible exact Wb.Ext.refl _) | (with_reducible refine Wb.Ext.drew ?_) | (with_reducible refine Wb.Ext.drewN ?_ _) | (with_reducible refine Wb.Ext.alloc ?_ _) | (with_reducible refine Wb.Ext.trans ?_ (by assumption))))).size, by rw [hw13]; simp⟩
                  clear hw13 hb13
                  refine hK.out _ _ ⟨Wb.Ext.keep (w := W0) (by (repeat' (first | (with_reducible assumption) | (with_reducible exact Wb.Ext.refl _) | (with_reducible refine Wb.Ext.drew ?_) | (with_reducible refine Wb.Ext.drewN ?_ _) | (with_reducible refine Wb.Ext.alloc ?_ _) | (with_reducible refine Wb.Ext.trans ?_ (by assumption))))) zs, Wb.Ext.keep (w := W0) (by (repeat' (first | (with_reducible assumption) | (with_reducible exact Wb.Ext.refl _) | (with_reducible refine Wb.Ext.drew ?_) | (with_reducible refine Wb.Ext.drewN ?_ _) | (with_reducible refine Wb.Ext.alloc ?_ _) | (with_reducible refine Wb.Ext.trans ?_ (by assumption))))) zt⟩ (fun hHeld => ?_)
                  clear hK K
                  (try simp only [Act.put, List.setIfInBounds_toArray, List.set_cons_zero, List.set_cons_succ])
                  refine wpAnyH_ready (rs := [5]) (by kernel_rfl) (by simp) ?_
                  refine AllReadyH.cons (o := _) rfl (fun K hK => ?_) ?_
                  · go_simp
                    go_at_call 21
                    go_fit (minus_any _ _ s t _ (HPs.out.ext (by (repeat' (first | (with_reducible assumption) | (with_reducible exact Wb.Ext.refl _) | (with_reducible refine Wb.Ext.drew ?_) | (with_reducible refine Wb.Ext.drewN ?_ _) | (with_reducible refine Wb.Ext.alloc ?_ _) | (with_reducible refine Wb.Ext.trans ?_ (by assumption)))))) (HPt.out.ext (by (repeat' (first | (with_reducible assumption) | (with_reducible exact Wb.Ext.refl _) | (with_reducible refine Wb.Ext.drew ?_) | (with_reducible refine Wb.Ext.drewN ?_ _) | (with_reducible refine Wb.Ext.alloc ?_ _) | (with_reducible refine Wb.Ext.trans ?_ (by assumption)))))) HSs.out.canon HSt.out.canon HSs.out.bd HSt.out.bd (by omega) (by omega))
                    rintro e w14 ⟨v14, r14, rfl, hs14, hp14, hb14⟩
                    obtain ⟨sa14, sc14, rfl⟩ := hp14.1.shape
                    have HS14 := Lib.hid hs14
                    have hl14 : r14.length ≤ 160 := by have := hs14.len; (try simp only [List.length_cons, List.length_nil] at this); omega
                    have HE14 := Lib.hid (has_min hs14)
                    replace hb14 : Wb.Ext w13 w14 := Wb.Ext.trans (by (repeat' (first | (with_reducible assumption) | (with_reducible exact Wb.Ext.refl _) | (with_reducible refine Wb.Ext.drew ?_) | (with_reducible refine Wb.Ext.drewN ?_ _) | (with_reducible refine Wb.Ext.alloc ?_ _) | (with_reducible refine Wb.Ext.trans ?_ (by assumption))))) hb14
                    replace HP12 := Lib.hid (HP12.out.ext hb14)
                    have yfp := (Below.frozen hb14 ybp.2).trans yfp
                    have yp := hb14.keep yp
                    have ybp := And.intro ybp.1 (Nat.lt_of_lt_of_le ybp.2 hb14.size)
                    have yfq := (Below.frozen hb14 ybq.2).trans yfq
                    have yq := hb14.keep yq
                    have ybq := And.intro ybq.1 (Nat.lt_of_lt_of_le ybq.2 hb14.size)
                    have hx14 : Wb.Ext W0 w14 := Wb.Ext.trans (by (repeat' (first | (with_reducible assumption) | (with_reducible exact Wb.Ext.refl _) | (with_reducible refine Wb.Ext.drew ?_) | (with_reducible refine Wb.Ext.drewN ?_ _) | (with_reducible refine Wb.Ext.alloc ?_ _) | (with_reducible refine Wb.Ext.trans ?_ (by assumption))))) hb14
                    clear hb14
                    have HP14 := Lib.hid hp14
                    clear hs14 hp14
                    refine hK.out _ _ ⟨Wb.Ext.keep (w := W0) (by (repeat' (first | (with_reducible assumption) | (with_reducible exact Wb.Ext.refl _) | (with_reducible refine Wb.Ext.drew ?_) | (with_reducible refine Wb.Ext.drewN ?_ _) | (with_reducible refine Wb.Ext.alloc ?_ _) | (with_reducible refine Wb.Ext.trans ?_ (by assumption))))) zs, Wb.Ext.keep (w := W0) (by (repeat' (first | (with_reducible assumption) | (with_reducible exact Wb.Ext.refl _) | (with_reducible refine Wb.Ext.drew ?_) | (with_reducible refine Wb.Ext.drewN ?_ _) | (with_reducible refine Wb.Ext.alloc ?_ _) | (with_reducible refine Wb.Ext.trans ?_ (by assumption))))) zt⟩ (fun hHeld => ?_)
                    clear hK K
                    (try simp only [Act.put, List.setIfInBounds_toArray, List.set_cons_zero, List.set_cons_succ])
                    refine wpAnyH_ready (rs := [8]) (by kernel_rfl) (by simp) ?_
                    refine AllReadyH.cons (o := _) rfl (fun K hK => ?_) ?_
                    · go_simp
                      refine atK fun w15 hw15 => ?_
                      have hx15 : Wb.Ext W0 w15 := by rw [hw15]; exact Wb.ext_set (by (repeat' (first | (with_reducible assumption) | (with_reducible exact Wb.Ext.refl _) | (with_reducible refine Wb.Ext.drew ?_) | (with_reducible refine Wb.Ext.drewN ?_ _) | (with_reducible refine Wb.Ext.alloc ?_ _) | (with_reducible refine Wb.Ext.trans ?_ (by assumption))))) ybp.1 _
                      replace HP12 := Lib.hid (show SpL w15 _ r12 by rw [hw15]; exact HP12.out.set yp _)
                      replace HP14 := Lib.hid (show SpL w15 _ r14 by rw [hw15]; exact HP14.out.set yp _)
                      have yq : w15.cell? ⟨w12.heap.size, 0, none⟩ = some (.slice none 0 0) := by rw [hw15]; exact (World.cell?_setCell_other _ _ _ _ (fun e => npq (congrArg Addr.block e))).trans yq
                      have yfq : w15.frozen? ⟨w12.heap.size, 0, none⟩ = false := by rw [hw15]; exact (World.frozen?_setCell _ _ _ _).trans yfq
                      have ybq := And.intro ybq.1 (show w12.heap.size < w15.heap.size by rw [hw15]; simpa [go_sem] using ybq.2)
                      have Yp : w15.cell? ⟨W0.heap.size, 0, none⟩ = some (.slice sa12 r12.length sc12) := by rw [hw15]; simp [go_sem, yp]
                      clear hw15
                      refine hK.out _ _ ⟨Wb.Ext.keep (w := W0) (by (repeat' (first | (with_reducible assumption) | (with_reducible exact Wb.Ext.refl _) | (with_reducible refine Wb.Ext.drew ?_) | (with_reducible refine Wb.Ext.drewN ?_ _) | (with_reducible refine Wb.Ext.alloc ?_ _) | (with_reducible refine Wb.Ext.trans ?_ (by assumption))))) zs, Wb.Ext.keep (w := W0) (by (repeat' (first | (with_reducible assumption) | (with_reducible exact Wb.Ext.refl _) | (with_reducible refine Wb.Ext.drew ?_) | (with_reducible refine Wb.Ext.drewN ?_ _) | (with_reducible refine Wb.Ext.alloc ?_ _) | (with_reducible refine Wb.Ext.trans ?_ (by assumption))))) zt⟩ (fun hHeld => ?_)
                      clear hK K
                      (try simp only [Act.put, List.setIfInBounds_toArray, List.set_cons_zero, List.set_cons_succ])
                      refine wpAnyH_ready (rs := [9]) (by kernel_rfl) (by simp) ?_
                      refine AllReadyH.cons (o := _) rfl (fun K hK => ?_) ?_
                      · go_simp
                        refine atK fun w16 hw16 => ?_
                        have hx16 : Wb.Ext W0 w16 := by rw [hw16]; exact Wb.ext_set (by (repeat' (first | (with_reducible assumption) | (with_reducible exact Wb.Ext.refl _) | (with_reducible refine Wb.Ext.drew ?_) | (with_reducible refine Wb.Ext.drewN ?_ _) | (with_reducible refine Wb.Ext.alloc ?_ _) | (with_reducible refine Wb.Ext.trans ?_ (by assumption))))) ybq.1 _
                        replace HP12 := Lib.hid (show SpL w16 _ r12 by rw [hw16]; exact HP12.out.set yq _)
                        replace HP14 := Lib.hid (show SpL w16 _ r14 by rw [hw16]; exact HP14.out.set yq _)
                        have Yp : w16.cell? ⟨W0.heap.size, 0, none⟩ = some (.slice sa12 r12.length sc12) := by rw [hw16]; exact (World.cell?_setCell_other _ _ _ _ (fun e => npq (congrArg Addr.block e).symm)).trans Yp
                        have Yq : w16.cell? ⟨w12.heap.size, 0, none⟩ = some (.slice sa14 r14.length sc14) := by rw [hw16]; simp [go_sem, yq]
                        clear hw16
                        refine hK.out _ _ ⟨Wb.Ext.keep (w := W0) (by (repeat' (first | (with_reducible assumption) | (with_reducible exact Wb.Ext.refl _) | (with_reducible refine Wb.Ext.drew ?_) | (with_reducible refine Wb.Ext.drewN ?_ _) | (with_reducible refine Wb.Ext.alloc ?_ _) | (with_reducible refine Wb.Ext.trans ?_ (by assumption))))) zs, Wb.Ext.keep (w := W0) (by (repeat' (first | (with_reducible assumption) | (with_reducible exact Wb.Ext.refl _) | (with_reducible refine Wb.Ext.drew ?_) | (with_reducible refine Wb.Ext.drewN ?_ _) | (with_reducible refine Wb.Ext.alloc ?_ _) | (with_reducible refine Wb.Ext.trans ?_ (by assumption))))) zt⟩ (fun hHeld => ?_)
                        clear hK K
                        (try simp only [Act.put, List.setIfInBounds_toArray, List.set_cons_zero, List.set_cons_succ])
                        refine wpAnyH_done (by kernel_rfl) ?_ _
                        go_wp2_with fail
                        go_meet
                        exact ⟨W0.heap.size, w12.heap.size, sa12, sc12, r12, sa14, sc14, r14, rfl, rfl, Yp, Yq, HP12.out, HP14.out, HS12.out, HS14.out, (show Wb.Ext W0 w16 by (repeat' (first | (with_reducible assumption) | (with_reducible exact Wb.Ext.refl _) | (with_reducible refine Wb.Ext.drew ?_) | (with_reducible refine Wb.Ext.drewN ?_ _) | (with_reducible refine Wb.Ext.alloc ?_ _) | (with_reducible refine Wb.Ext.trans ?_ (by assumption)))))⟩
                      exact AllReadyH.nil
                    exact AllReadyH.nil
                  exact AllReadyH.nil
                exact AllReadyH.nil
              refine AllReadyH.cons (o := _) rfl (fun K hK => ?_) ?_
              · go_simp
                have npq : W0.heap.size ≠ w11.heap.size := Nat.ne_of_lt ybp.2
                refine atK fun w12 hw12 => ?_
                have hb12 : Wb.Ext w11 w12 := by rw [hw12]; (repeat' (first | (with_reducible assumption) | (with_reducible exact Wb.Ext.refl _) | (with_reducible refine Wb.Ext.drew ?_) | (with_reducible refine Wb.Ext.drewN ?_ _) | (with_reducible refine Wb.Ext.alloc ?_ _) | (with_reducible refine Wb.Ext.trans ?_ (by assumption))))
                replace hb12 : Wb.Ext w11 w12 := Wb.Ext.trans (by (repeat' (first | (with_reducible assumption) | (with_reducible exact Wb.Ext.refl _) | (with_reducible refine Wb.Ext.drew ?_) | (with_reducible refine Wb.Ext.drewN ?_ _) | (with_reducible refine Wb.Ext.alloc ?_ _) | (with_reducible refine Wb.Ext.trans ?_ (by assumption))))) hb12
                have yfp := (Below.frozen hb12 ybp.2).trans yfp
                have yp := hb12.keep yp
                have ybp := And.intro ybp.1 (Nat.lt_of_lt_of_le ybp.2 hb12.size)
                have hx12 : Wb.Ext W0 w12 := Wb.Ext.trans (by (repeat' (first | (with_reducible assumption) | (with_reducible exact Wb.Ext.refl _) | (with_reducible refine Wb.Ext.drew ?_) | (with_reducible refine Wb.Ext.drewN ?_ _) | (with_reducible refine Wb.Ext.alloc ?_ _) | (with_reducible refine Wb.Ext.trans ?_ (by assumption))))) hb12
                have yq : w12.cell? ⟨w11.heap.size, 0, none⟩ = some (.slice none 0 0) := by rw [hw12]; simp [go_sem]
                have yfq : w12.frozen? ⟨w11.heap.size, 0, none⟩ = false := by rw [hw12]; simp [go_sem]
                have ybq : W0.heap.size ≤ w11.heap.size ∧ w11.heap.size < w12.heap.size := ⟨(show Wb.Ext W0 w11 by (repeat' (first | (with_reducible assumption) | (with_reducible exact Wb.Ext.refl _) | (with_reducible refine Wb.Ext.drew ?_) | (with_reducible refine Wb.Ext.drewN ?_ _) | (with_reducible refine Wb.Ext.alloc ?_ _) | (with_reducible refine Wb.Ext.trans ?_ (by assumption))))).size, by rw [hw12]; simp⟩
                clear hw12 hb12
                refine hK.out _ _ ⟨Wb.Ext.keep (w := W0) (by (repeat' (first | (with_reducible assumption) | (with_reducible exact Wb.Ext.refl _) | (with_reducible refine Wb.Ext.drew ?_) | (with_reducible refine Wb.Ext.drewN ?_ _) | (with_reducible refine Wb.Ext.alloc ?_ _) | (with_reducible refine Wb.Ext.trans ?_ (by assumption))))) zs, Wb.Ext.keep (w := W0) (by (repeat' (first | (with_reducible assumption) | (with_reducible exact Wb.Ext.refl _) | (with_reducible refine Wb.Ext.drew ?_) | (with_reducible refine Wb.Ext.drewN ?_ _) | (with_reducible refine Wb.Ext.alloc ?_ _) | (with_reducible refine Wb.Ext.trans ?_ (by assumption))))) zt⟩ (fun hHeld => ?_)
                clear hK K
                (try simp only [Act.put, List.setIfInBounds_toArray, List.set_cons_zero, List.set_cons_succ])
                refine wpAnyH_ready (rs := [2]) (by kernel_rfl) (by simp) ?_
                refine AllReadyH.cons (o := _) rfl (fun K hK => ?_) ?_
                · go_simp
                  go_at_call 20
                  go_fit (meet_any _ _ s t _ (HPs.out.ext (by (repeat' (first | (with_reducible assumption) | (with_reducible exact Wb.Ext.refl _) | (with_reducible refine Wb.Ext.drew ?_) | (with_reducible refine Wb.Ext.drewN ?_ _) | (with_reducible refine Wb.Ext.alloc ?_ _) | (with_reducible refine Wb.Ext.trans ?_ (by assumption)))))) (HPt.out.ext (by (repeat' (first | (with_reducible assumption) | (with_reducible exact Wb.Ext.refl _) | (with_reducible refine Wb.Ext.drew ?_) | (with_reducible refine Wb.Ext.drewN ?_ _) | (with_reducible refine Wb.Ext.alloc ?_ _) | (with_reducible refine Wb.Ext.trans ?_ (by assumption)))))) HSs.out.canon HSt.out.canon HSs.out.bd HSt.out.bd (by omega) (by omega))
                  rintro e w13 ⟨v13, r13, rfl, hs13, hp13, hb13⟩
                  obtain ⟨sa13, sc13, rfl⟩ := hp13.1.shape
                  have HS13 := Lib.hid hs13
                  have hl13 : r13.length ≤ 160 := by have := hs13.len; (try simp only [List.length_cons, List.length_nil] at this); omega
                  have HE13 := Lib.hid (has_met hs13)
                  replace hb13 : Wb.Ext w12 w13 := Wb.Ext.trans (by (repeat' (first | (with_reducible assumption) | (with_reducible exact Wb.Ext.refl _) | (with_reducible refine Wb.Ext.drew ?_) | (with_reducible refine Wb.Ext.drewN ?_ _) | (with_reducible refine Wb.Ext.alloc ?_ _) | (with_reducible refine Wb.Ext.trans ?_ (by assumption))))) hb13
                  have yfp := (Below.frozen hb13 ybp.2).trans yfp
                  have yp := hb13.keep yp
                  have ybp := And.intro ybp.1 (Nat.lt_of_lt_of_le ybp.2 hb13.size)
                  have yfq := (Below.frozen hb13 ybq.2).trans yfq
                  have yq := hb13.keep yq
                  have ybq := And.intro ybq.1 (Nat.lt_of_lt_of_le ybq.2 hb13.size)
                  have hx13 : Wb.Ext W0 w13 := Wb.Ext.trans (by (repeat' (first | (with_reducible assumption) | (with_reducible exact Wb.Ext.refl _) | (with_reducible refine Wb.Ext.drew ?_) | (with_reducible refine Wb.Ext.drewN ?_ _) | (with_reducible refine Wb.Ext.alloc ?_ _) | (with_reducible refine Wb.Ext.trans ?_ (by assumption))))) hb13
                  clear hb13
                  have HP13 := Lib.hid hp13
                  clear hs13 hp13
                  refine hK.out _ _ ⟨Wb.Ext.keep (w := W0) (by (repeat' (first | (with_reducible assumption) | (with_reducible exact Wb.Ext.refl _) | (with_reducible refine Wb.Ext.drew ?_) | (with_reducible refine Wb.Ext.drewN ?_ _) | (with_reducible refine Wb.Ext.alloc ?_ _) | (with_reducible refine Wb.Ext.trans ?_ (by assumption))))) zs, Wb.Ext.keep (w := W0) (by (repeat' (first | (with_reducible assumption) | (with_reducible exact Wb.Ext.refl _) | (with_reducible refine Wb.Ext.drew ?_) | (with_reducible refine Wb.Ext.drewN ?_ _) | (with_reducible refine Wb.Ext.alloc ?_ _) | (with_reducible refine Wb.Ext.trans ?_ (by assumption))))) zt⟩ (fun hHeld => ?_)
                  clear hK K
                  (try simp only [Act.put, List.setIfInBounds_toArray, List.set_cons_zero, List.set_cons_succ])
                  refine wpAnyH_ready (rs := [5]) (by kernel_rfl) (by simp) ?_
                  refine AllReadyH.cons (o := _) rfl (fun K hK => ?_) ?_
                  · go_simp
                    go_at_call 21
                    go_fit (minus_any _ _ s t _ (HPs.out.ext (by (repeat' (first | (with_reducible assumption) | (with_reducible exact Wb.Ext.refl _) | (with_reducible refine Wb.Ext.drew ?_) | (with_reducible refine Wb.Ext.drewN ?_ _) | (with_reducible refine Wb.Ext.alloc ?_ _) | (with_reducible refine Wb.Ext.trans ?_ (by assumption)))))) (HPt.out.ext (by (repeat' (first | (with_reducible assumption) | (with_reducible exact Wb.Ext.refl _) | (with_reducible refine Wb.Ext.drew ?_) | (with_reducible refine Wb.Ext.drewN ?_ _) | (with_reducible refine Wb.Ext.alloc ?_ _) | (with_reducible refine Wb.Ext.trans ?_ (by assumption)))))) HSs.out.canon HSt.out.canon HSs.out.bd HSt.out.bd (by omega) (by omega))
                    rintro e w14 ⟨v14, r14, rfl, hs14, hp14, hb14⟩
                    obtain ⟨sa14, sc14, rfl⟩ := hp14.1.shape
                    have HS14 := Lib.hid hs14
                    have hl14 : r14.length ≤ 160 := by have := hs14.len; (try simp only [List.length_cons, List.length_nil] at this); omega
                    have HE14 := Lib.hid (has_min hs14)
                    replace hb14 : Wb.Ext w13 w14 := Wb.Ext.trans (by (repeat' (first | (with_reducible assumption) | (with_reducible exact Wb.Ext.refl _) | (with_reducible refine Wb.Ext.drew ?_) | (with_reducible refine Wb.Ext.drewN ?_ _) | (with_reducible refine Wb.Ext.alloc ?_ _) | (with_reducible refine Wb.Ext.trans ?_ (by assumption))))) hb14
                    replace HP13 := Lib.hid (HP13.out.ext hb14)
                    have yfp := (Below.frozen hb14 ybp.2).trans yfp
                    have yp := hb14.keep yp
                    have ybp := And.intro ybp.1 (Nat.lt_of_lt_of_le ybp.2 hb14.size)
                    have yfq := (Below.frozen hb14 ybq.2).trans yfq
                    have yq := hb14.keep yq
                    have ybq := And.intro ybq.1 (Nat.lt_of_lt_of_le ybq.2 hb14.size)
                    have hx14 : Wb.Ext W0 w14 := Wb.Ext.trans (by (repeat' (first | (with_reducible assumption) | (with_reducible exact Wb.Ext.refl _) | (with_reducible refine Wb.Ext.drew ?_) | (with_reducible refine Wb.Ext.drewN ?_ _) | (with_reducible refine Wb.Ext.alloc ?_ _) | (with_reducible refine Wb.Ext.trans ?_ (by assumption))))) hb14
                    clear hb14
                    have HP14 := Lib.hid hp14
                    clear hs14 hp14
                    refine hK.out _ _ ⟨Wb.Ext.keep (w := W0) (by (repeat' (first | (with_reducible assumption) | (with_reducible exact Wb.Ext.refl _) | (with_reducible refine Wb.Ext.drew ?_) | (with_reducible refine Wb.Ext.drewN ?_ _) | (with_reducible refine Wb.Ext.alloc ?_ _) | (with_reducible refine Wb.Ext.trans ?_ (by assumption))))) zs, Wb.Ext.keep (w := W0) (by (repeat' (first | (with_reducible assumption) | (with_reducible exact Wb.Ext.refl _) | (with_reducible refine Wb.Ext.drew ?_) | (with_reducible refine Wb.Ext.drewN ?_ _) | (with_reducible refine Wb.Ext.alloc ?_ _) | (with_reducible refine Wb.Ext.trans ?_ (by assumption))))) zt⟩ (fun hHeld => ?_)
                    clear hK K
                    (try simp only [Act.put, List.setIfInBounds_toArray, List.set_cons_zero, List.set_cons_succ])
                    refine wpAnyH_ready (rs := [8]) (by kernel_rfl) (by simp) ?_
                    refine AllReadyH.cons (o := _) rfl (fun K hK => ?_) ?_
                    · go_simp
                      refine atK fun w15 hw15 => ?_
                      have hx15 : Wb.Ext W0 w15 := by rw [hw15]; exact Wb.ext_set (by (repeat' (first | (with_reducible assumption) | (with_reducible exact Wb.Ext.refl _) | (with_reducible refine Wb.Ext.drew ?_) | (with_reducible refine Wb.Ext.drewN ?_ _) | (with_reducible refine Wb.Ext.alloc ?_ _) | (with_reducible refine Wb.Ext.trans ?_ (by assumption))))) ybp.1 _
                      replace HP13 := Lib.hid (show SpL w15 _ r13 by rw [hw15]; exact HP13.out.set yp _)
                      replace HP14 := Lib.hid (show SpL w15 _ r14 by rw [hw15]; exact HP14.out.set yp _)
                      have yq : w15.cell? ⟨w11.heap.size, 0, none⟩ = some (.slice none 0 0) := by rw [hw15]; exact (World.cell?_setCell_other _ _ _ _ (fun e => npq (congrArg Addr.block e))).trans yq
                      have yfq : w15.frozen? ⟨w11.heap.size, 0, none⟩ = false := by rw [hw15]; exact (World.frozen?_setCell _ _ _ _).trans yfq
                      have ybq := And.intro ybq.1 (show w11.heap.size < w15.heap.size by rw [hw15]; simpa [go_sem] using ybq.2)
                      have Yp : w15.cell? ⟨W0.heap.size, 0, none⟩ = some (.slice sa13 r13.length sc13) := by rw [hw15]; simp [go_sem, yp]
                      clear hw15
                      refine hK.out _ _ ⟨Wb.Ext.keep (w := W0) (by (repeat' (first | (with_reducible assumption) | (with_reducible exact Wb.Ext.refl _) | (with_reducible refine Wb.Ext.drew ?_) | (with_reducible refine Wb.Ext.drewN ?_ _) | (with_reducible refine Wb.Ext.alloc ?_ _) | (with_reducible refine Wb.Ext.trans ?_ (by assumption))))) zs, Wb.Ext.keep (w := W0) (by (repeat' (first | (with_reducible assumption) | (with_reducible exact Wb.Ext.refl _) | (with_reducible refine Wb.Ext.drew ?_) | (with_reducible refine Wb.Ext.drewN ?_ _) | (with_reducible refine Wb.Ext.alloc ?_ _) | (with_reducible refine Wb.Ext.trans ?_ (by assumption))))) zt⟩ (fun hHeld => ?_)
                      clear hK K
                      (try simp only [Act.put, List.setIfInBounds_toArray, List.set_cons_zero, List.set_cons_succ])
                      refine wpAnyH_ready (rs := [9]) (by kernel_rfl) (by simp) ?_
                      refine AllReadyH.cons (o := _) rfl (fun K hK => ?_) ?_
                      · go_simp
                        refine atK fun w16 hw16 => ?_
                        have hx16 : Wb.Ext W0 w16 := by rw [hw16]; exact Wb.ext_set (by (repeat' (first | (with_reducible assumption) | (with_reducible exact Wb.Ext.refl _) | (with_reducible refine Wb.Ext.drew ?_) | (with_reducible refine Wb.Ext.drewN ?_ _) | (with_reducible refine Wb.Ext.alloc ?_ _) | (with_reducible refine Wb.Ext.trans ?_ (by assumption))))) ybq.1 _
                        replace HP13 := Lib.hid (show SpL w16 _ r13 by rw [hw16]; exact HP13.out.set yq _)
                        replace HP14 := Lib.hid (show SpL w16 _ r14 by rw [hw16]; exact HP14.out.set yq _)
                        have Yp : w16.cell? ⟨W0.heap.size, 0, none⟩ = some (.slice sa13 r13.length sc13) := by rw [hw16]; exact (World.cell?_setCell_other _ _ _ _ (fun e => npq (congrArg Addr.block e).symm)).trans Yp
                        have Yq : w16.cell? ⟨w11.heap.size, 0, none⟩ = some (.slice sa14 r14.length sc14) := by rw [hw16]; simp [go_sem, yq]
                        clear hw16
                        refine hK.out _ _ ⟨Wb.Ext.keep (w := W0) (by (repeat' (first | (with_reducible assumption) | (with_reducible exact Wb.Ext.refl _) | (with_reducible refine Wb.Ext.drew ?_) | (with_reducible refine Wb.Ext.drewN ?_ _) | (with_reducible refine Wb.Ext.alloc ?_ _) | (with_reducible refine Wb.Ext.trans ?_ (by assumption))))) zs, Wb.Ext.keep (w := W0) (by (repeat' (first | (with_reducible assumption) | (with_reducible exact Wb.Ext.refl _) | (with_reducible refine Wb.Ext.drew ?_) | (with_reducible refine Wb.Ext.drewN ?_ _) | (with_reducible refine Wb.Ext.alloc ?_ _) | (with_reducible refine Wb.Ext.trans ?_ (by assumption))))) zt⟩ (fun hHeld => ?_)
                        clear hK K
                        (try simp only [Act.put, List.setIfInBounds_toArray, List.set_cons_zero, List.set_cons_succ])
                        refine wpAnyH_done (by kernel_rfl) ?_ _
                        go_wp2_with fail
                        go_meet
                        exact ⟨W0.heap.size, w11.heap.size, sa13, sc13, r13, sa14, sc14, r14, rfl, rfl, Yp, Yq, HP13.out, HP14.out, HS13.out, HS14.out, (show Wb.Ext W0 w16 by (repeat' (first | (with_reducible assumption) | (with_reducible exact Wb.Ext.refl _) | (with_reducible refine Wb.Ext.drew ?_) | (with_reducible refine Wb.Ext.drewN ?_ _) | (with_reducible refine Wb.Ext.alloc ?_ _) | (with_reducible refine Wb.Ext.trans ?_ (by assumption)))))⟩
                      exact AllReadyH.nil
                    exact AllReadyH.nil
                  exact AllReadyH.nil
                exact AllReadyH.nil
              exact AllReadyH.nil
            refine AllReadyH.cons (o := _) rfl (fun K hK => ?_) ?_
            · go_simp
              refine atK fun w11 hw11 => ?_
              have hb11 : Wb.Ext W0 w11 := by rw [hw11]; (repeat' (first | (with_reducible assumption) | (with_reducible exact Wb.Ext.refl _) | (with_reducible refine Wb.Ext.drew ?_) | (with_reducible refine Wb.Ext.drewN ?_ _) | (with_reducible refine Wb.Ext.alloc ?_ _) | (with_reducible refine Wb.Ext.trans ?_ (by assumption))))
              replace hb11 : Wb.Ext W0 w11 := Wb.Ext.trans (by (repeat' (first | (with_reducible assumption) | (with_reducible exact Wb.Ext.refl _) | (with_reducible refine Wb.Ext.drew ?_) | (with_reducible refine Wb.Ext.drewN ?_ _) | (with_reducible refine Wb.Ext.alloc ?_ _) | (with_reducible refine Wb.Ext.trans ?_ (by assumption))))) hb11
              have hx11 : Wb.Ext W0 w11 := Wb.Ext.trans (by (repeat' (first | (with_reducible assumption) | (with_reducible exact Wb.Ext.refl _) | (with_reducible refine Wb.Ext.drew ?_) | (with_reducible refine Wb.Ext.drewN ?_ _) | (with_reducible refine Wb.Ext.alloc ?_ _) | (with_reducible refine Wb.Ext.trans ?_ (by assumption))))) hb11
              have yq : w11.cell? ⟨W0.heap.size, 0, none⟩ = some (.slice none 0 0) := by rw [hw11]; simp [go_sem]
              have yfq : w11.frozen? ⟨W0.heap.size, 0, none⟩ = false := by rw [hw11]; simp [go_sem]
              have ybq : W0.heap.size ≤ W0.heap.size ∧ W0.heap.size < w11.heap.size := ⟨(show Wb.Ext W0 W0 by (repeat' (first | (with_reducible assumption) | (with_reducible exact Wb.Ext.refl _) | (with_reducible refine Wb.Ext.drew ?_) | (with_reducible refine Wb.Ext.drewN ?_ _) | (with_reducible refine Wb.Ext.alloc ?_ _) | (with_reducible refine Wb.Ext.trans ?_ (by assumption))))).size, by rw [hw11]; simp⟩
              clear hw11 hb11
              refine hK.out _ _ ⟨Wb.Ext.keep (w := W0) (by (repeat' (first | (with_reducible assumption) | (with_reducible exact Wb.Ext.refl _) | (with_reducible refine Wb.Ext.drew ?_) | (with_reducible refine Wb.Ext.drewN ?_ _) | (with_reducible refine Wb.Ext.alloc ?_ _) | (with_reducible refine Wb.Ext.trans ?_ (by assumption))))) zs, Wb.Ext.keep (w := W0) (by (repeat' (first | (with_reducible assumption) | (with_reducible exact Wb.Ext.refl _) | (with_reducible refine Wb.Ext.drew ?_) | (with_reducible refine Wb.Ext.drewN ?_ _) | (with_reducible refine Wb.Ext.alloc ?_ _) | (with_reducible refine Wb.Ext.trans ?_ (by assumption))))) zt⟩ (fun hHeld => ?_)
              clear hK K
              (try simp only [Act.put, List.setIfInBounds_toArray, List.set_cons_zero, List.set_cons_succ])
              refine wpAnyH_ready (rs := [2, 6]) (by kernel_rfl) (by simp) ?_
              refine AllReadyH.cons (o := _) rfl (fun K hK => ?_) ?_
              · go_simp
                go_at_call 20
                go_fit (meet_any _ _ s t _ (HPs.out.ext (by (repeat' (first | (with_reducible assumption) | (with_reducible exact Wb.Ext.refl _) | (with_reducible refine Wb.Ext.drew ?_) | (with_reducible refine Wb.Ext.drewN ?_ _) | (with_reducible refine Wb.Ext.alloc ?_ _) | (with_reducible refine Wb.Ext.trans ?_ (by assumption)))))) (HPt.out.ext (by (repeat' (first | (with_reducible assumption) | (with_reducible exact Wb.Ext.refl _) | (with_reducible refine Wb.Ext.drew ?_) | (with_reducible refine Wb.Ext.drewN ?_ _) | (with_reducible refine Wb.Ext.alloc ?_ _) | (with_reducible refine Wb.Ext.trans ?_ (by assumption)))))) HSs.out.canon HSt.out.canon HSs.out.bd HSt.out.bd (by omega) (by omega))
                rintro e w12 ⟨v12, r12, rfl, hs12, hp12, hb12⟩
                obtain ⟨sa12, sc12, rfl⟩ := hp12.1.shape
                have HS12 := Lib.hid hs12
                have hl12 : r12.length ≤ 160 := by have := hs12.len; (try simp only [List.length_cons, List.length_nil] at this); omega
                have HE12 := Lib.hid (has_met hs12)
                replace hb12 : Wb.Ext w11 w12 := Wb.Ext.trans (by (repeat' (first | (with_reducible assumption) | (with_reducible exact Wb.Ext.refl _) | (with_reducible refine Wb.Ext.drew ?_) | (with_reducible refine Wb.Ext.drewN ?_ _) | (with_reducible refine Wb.Ext.alloc ?_ _) | (with_reducible refine Wb.Ext.trans ?_ (by assumption))))) hb12
                have yfq := (Below.frozen hb12 ybq.2).trans yfq
                have yq := hb12.keep yq
                have ybq := And.intro ybq.1 (Nat.lt_of_lt_of_le ybq.2 hb12.size)
                have hx12 : Wb.Ext W0 w12 := Wb.Ext.trans (by (repeat' (first | (with_reducible assumption) | (with_reducible exact Wb.Ext.refl _) | (with_reducible refine Wb.Ext.drew ?_) | (with_reducible refine Wb.Ext.drewN ?_ _) | (with_reducible refine Wb.Ext.alloc ?_ _) | (with_reducible refine Wb.Ext.trans ?_ (by assumption))))) hb12
                clear hb12
                have HP12 := Lib.hid hp12
                clear hs12 hp12
                refine hK.out _ _ ⟨Wb.Ext.keep (w := W0) (by (repeat' (first | (with_reducible assumption) | (with_reducible exact Wb.Ext.refl _) | (with_reducible refine Wb.Ext.drew ?_) | (with_reducible refine Wb.Ext.drewN ?_ _) | (with_reducible refine Wb.Ext.alloc ?_ _) | (with_reducible refine Wb.Ext.trans ?_ (by assumption))))) zs, Wb.Ext.keep (w := W0) (by (repeat' (first | (with_reducible assumption) | (with_reducible exact Wb.Ext.refl _) | (with_reducible refine Wb.Ext.drew ?_) | (with_reducible refine Wb.Ext.drewN ?_ _) | (with_reducible refine Wb.Ext.alloc ?_ _) | (with_reducible refine Wb.Ext.trans ?_ (by assumption))))) zt⟩ (fun hHeld => ?_)
                clear hK K
                (try simp only [Act.put, List.setIfInBounds_toArray, List.set_cons_zero, List.set_cons_succ])
                refine wpAnyH_ready (rs := [5, 6]) (by kernel_rfl) (by simp) ?_
                refine AllReadyH.cons (o := _) rfl (fun K hK => ?_) ?_
                · go_simp
                  go_at_call 21
                  go_fit (minus_any _ _ s t _ (HPs.out.ext (by (repeat' (first | (with_reducible assumption) | (with_reducible exact Wb.Ext.refl _) | (with_reducible refine Wb.Ext.drew ?_) | (with_reducible refine Wb.Ext.drewN ?_ _) | (with_reducible refine Wb.Ext.alloc ?_ _) | (with_reducible refine Wb.Ext.trans ?_ (by assumption)))))) (HPt.out.ext (by (repeat' (first | (with_reducible assumption) | (with_reducible exact Wb.Ext.refl _) | (with_reducible refine Wb.Ext.drew ?_) | (with_reducible refine Wb.Ext.drewN ?_ _) | (with_reducible refine Wb.Ext.alloc ?_ _) | (with_reducible refine Wb.Ext.trans ?_ (by assumption)))))) HSs.out.canon HSt.out.canon HSs.out.bd HSt.out.bd (by omega) (by omega))
                  rintro e w13 ⟨v13, r13, rfl, hs13, hp13, hb13⟩
                  obtain ⟨sa13, sc13, rfl⟩ := hp13.1.shape
                  have HS13 := Lib.hid hs13
                  have hl13 : r13.length ≤ 160 := by have := hs13.len; (try simp only [List.length_cons, List.length_nil] at this); omega
                  have HE13 := Lib.hid (has_min hs13)
                  replace hb13 : Wb.Ext w12 w13 := Wb.Ext.trans (by (repeat' (first | (with_reducible assumption) | (with_reducible exact Wb.Ext.refl _) | (with_reducible refine Wb.Ext.drew ?_) | (with_reducible refine Wb.Ext.drewN ?_ _) | (with_reducible refine Wb.Ext.alloc ?_ _) | (with_reducible refine Wb.Ext.trans ?_ (by assumption))))) hb13
                  replace HP12 := Lib.hid (HP12.out.ext hb13)
                  have yfq := (Below.frozen hb13 ybq.2).trans yfq
                  have yq := hb13.keep yq
                  have ybq := And.intro ybq.1 (Nat.lt_of_lt_of_le ybq.2 hb13.size)
                  have hx13 : Wb.Ext W0 w13 := Wb.Ext.trans (by (repeat' (first | (with_reducible assumption) | (with_reducible exact Wb.Ext.refl _) | (with_reducible refine Wb.Ext.drew ?_) | (with_reducible refine Wb.Ext.drewN ?_ _) | (with_reducible refine Wb.Ext.alloc ?_ _) | (with_reducible refine Wb.Ext.trans ?_ (by assumption))))) hb13
                  clear hb13
                  have HP13 := Lib.hid hp13
                  clear hs13 hp13
                  refine hK.out _ _ ⟨Wb.Ext.keep (w := W0) (by (repeat' (first | (with_reducible assumption) | (with_reducible exact Wb.Ext.refl _) | (with_reducible refine Wb.Ext.drew ?_) | (with_reducible refine Wb.Ext.drewN ?_ _) | (with_reducible refine Wb.Ext.alloc ?_ _) | (with_reducible refine Wb.Ext.trans ?_ (by assumption))))) zs, Wb.Ext.keep (w := W0) (by (repeat' (first | (with_reducible assumption) | (with_reducible exact Wb.Ext.refl _) | (with_reducible refine Wb.Ext.drew ?_) | (with_reducible refine Wb.Ext.drewN ?_ _) | (with_reducible refine Wb.Ext.alloc ?_ _) | (with_reducible refine Wb.Ext.trans ?_ (by assumption))))) zt⟩ (fun hHeld => ?_)
                  clear hK K
                  (try simp only [Act.put, List.setIfInBounds_toArray, List.set_cons_zero, List.set_cons_succ])
                  refine wpAnyH_ready (rs := [6]) (by kernel_rfl) (by simp) ?_
                  refine AllReadyH.cons (o := _) rfl (fun K hK => ?_) ?_
                  · go_simp
                    have nqp : W0.heap.size ≠ w13.heap.size := Nat.ne_of_lt ybq.2
                    refine atK fun w14 hw14 => ?_
                    have hb14 : Wb.Ext w13 w14 := by rw [hw14]; (repeat' (first | (with_reducible assumption) | (with_reducible exact Wb.Ext.refl _) | (with_reducible refine Wb.Ext.drew ?_) | (with_reducible refine Wb.Ext.drewN ?_ _) | (with_reducible refine Wb.Ext.alloc ?_ _) | (with_reducible refine Wb.Ext.trans ?_ (by assumption))))
                    replace hb14 : Wb.Ext w13 w14 := Wb.Ext.trans (by (repeat' (first | (with_reducible assumption) | (with_reducible exact Wb.Ext.refl _) | (with_reducible refine Wb.Ext.drew ?_) | (with_reducible refine Wb.Ext.drewN ?_ _) | (with_reducible refine Wb.Ext.alloc ?_ _) | (with_reducible refine Wb.Ext.trans ?_ (by assumption))))) hb14
                    replace HP12 := Lib.hid (HP12.out.ext hb14)
                    replace HP13 := Lib.hid (HP13.out.ext hb14)
                    have yfq := (Below.frozen hb14 ybq.2).trans yfq
                    have yq := hb14.keep yq
                    have ybq := And.intro ybq.1 (Nat.lt_of_lt_of_le ybq.2 hb14.size)
                    have hx14 : Wb.Ext W0 w14 := Wb.Ext.trans (by (repeat' (first | (with_reducible assumption) | (with_reducible exact Wb.Ext.refl _) | (with_reducible refine Wb.Ext.drew ?_) | (with_reducible refine Wb.Ext.drewN ?_ _) | (with_reducible refine Wb.Ext.alloc ?_ _) | (with_reducible refine Wb.Ext.trans ?_ (by assumption))))) hb14
                    have yp : w14.cell? ⟨w13.heap.size, 0, none⟩ = some (.slice none 0 0) := by rw [hw14]; simp [go_sem]
                    have yfp : w14.frozen? ⟨w13.heap.size, 0, none⟩ = false := by rw [hw14]; simp [go_sem]
                    have ybp : W0.heap.size ≤ w13.heap.size ∧ w13.heap.size < w14.heap.size := ⟨(show Wb.Ext W0 w13 by (repeat' (first | (with_reducible assumption) | (with_reducible exact Wb.Ext.refl _) | (with_reducible refine Wb.Ext.drew ?_) | (with_reducible refine Wb.Ext.drewN ?_ _) | (with_reducible refine Wb.Ext.alloc ?_ _) | (with_reducible refine Wb.Ext.trans ?_ (by assumption))))).size, by rw [hw14]; simp⟩
                    clear hw14 hb14
                    refine hK.out _ _ ⟨Wb.Ext.keep (w := W0) (by (repeat' (first | (with_reducible assumption) | (with_reducible exact Wb.Ext.refl _) | (with_reducible refine Wb.Ext.drew ?_) | (with_reducible refine Wb.Ext.drewN ?_ _) | (with_reducible refine Wb.Ext.alloc ?_ _) | (with_reducible refine Wb.Ext.trans ?_ (by assumption))))) zs, Wb.Ext.keep (w := W0) (by (repeat' (first | (with_reducible assumption) | (with_reducible exact Wb.Ext.refl _) | (with_reducible refine Wb.Ext.drew ?_) | (with_reducible refine Wb.Ext.drewN ?_ _) | (with_reducible refine Wb.Ext.alloc ?_ _) | (with_reducible refine Wb.Ext.trans ?_ (by assumption))))) zt⟩ (fun hHeld => ?_)
                    clear hK K
                    (try simp only [Act.put, List.setIfInBounds_toArray, List.set_cons_zero, List.set_cons_succ])
                    refine wpAnyH_ready (rs := [8]) (by kernel_rfl) (by simp) ?_
                    refine AllReadyH.cons (o := _) rfl (fun K hK => ?_) ?_
                    · go_simp
                      refine atK fun w15 hw15 => ?_
                      have hx15 : Wb.Ext W0 w15 := by rw [hw15]; exact Wb.ext_set (by (repeat' (first | (with_reducible assumption) | (with_reducible exact Wb.Ext.refl _) | (with_reducible refine Wb.Ext.drew ?_) | (with_reducible refine Wb.Ext.drewN ?_ _) | (with_reducible refine Wb.Ext.alloc ?_ _) | (with_reducible refine Wb.Ext.trans ?_ (by assumption))))) ybp.1 _
                      replace HP12 := Lib.hid (show SpL w15 _ r12 by rw [hw15]; exact HP12.out.set yp _)
                      replace HP13 := Lib.hid (show SpL w15 _ r13 by rw [hw15]; exact HP13.out.set yp _)
                      have yq : w15.cell? ⟨W0.heap.size, 0, none⟩ = some (.slice none 0 0) := by rw [hw15]; exact (World.cell?_setCell_other _ _ _ _ (fun e => nqp (congrArg Addr.block e).symm)).trans yq
                      have yfq : w15.frozen? ⟨W0.heap.size, 0, none⟩ = false := by rw [hw15]; exact (World.frozen?_setCell _ _ _ _).trans yfq
                      have ybq := And.intro ybq.1 (show W0.heap.size < w15.heap.size by rw [hw15]; simpa [go_sem] using ybq.2)
                      have Yp : w15.cell? ⟨w13.heap.size, 0, none⟩ = some (.slice sa12 r12.length sc12) := by rw [hw15]; simp [go_sem, yp]
                      clear hw15
                      refine hK.out _ _ ⟨Wb.Ext.keep (w := W0) (by (repeat' (first | (with_reducible assumption) | (with_reducible exact Wb.Ext.refl _) | (with_reducible refine Wb.Ext.drew ?_) | (with_reducible refine Wb.Ext.drewN ?_ _) | (with_reducible refine Wb.Ext.alloc ?_ _) | (with_reducible refine Wb.Ext.trans ?_ (by assumption))))) zs, Wb.Ext.keep (w := W0) (by (repeat' (first | (with_reducible assumption) | (with_reducible exact Wb.Ext.refl _) | (with_reducible refine Wb.Ext.drew ?_) | (with_reducible refine Wb.Ext.drewN ?_ _) | (with_reducible refine Wb.Ext.alloc ?_ _) | (with_reducible refine Wb.Ext.trans ?_ (by assumption))))) zt⟩ (fun hHeld => ?_)
                      clear hK K
                      (try simp only [Act.put, List.setIfInBounds_toArray, List.set_cons_zero, List.set_cons_succ])
                      refine wpAnyH_ready (rs := [9]) (by kernel_rfl) (by simp) ?_
                      refine AllReadyH.cons (o := _) rfl (fun K hK => ?_) ?_
                      · go_simp
                        refine atK fun w16 hw16 => ?_
                        have hx16 : Wb.Ext W0 w16 := by rw [hw16]; exact Wb.ext_set (by (repeat' (first | (with_reducible assumption) | (with_reducible exact Wb.Ext.refl _) | (with_reducible refine Wb.Ext.drew ?_) | (with_reducible refine Wb.Ext.drewN ?_ _) | (with_reducible refine Wb.Ext.alloc ?_ _) | (with_reducible refine Wb.Ext.trans ?_ (by assumption))))) ybq.1 _
                        replace HP12 := Lib.hid (show SpL w16 _ r12 by rw [hw16]; exact HP12.out.set yq _)
                        replace HP13 := Lib.hid (show SpL w16 _ r13 by rw [hw16]; exact HP13.out.set yq _)
                        have Yp : w16.cell? ⟨w13.heap.size, 0, none⟩ = some (.slice sa12 r12.length sc12) := by rw [hw16]; exact (World.cell?_setCell_other _ _ _ _ (fun e => nqp (congrArg Addr.block e))).trans Yp
                        have Yq : w16.cell? ⟨W0.heap.size, 0, none⟩ = some (.slice sa13 r13.length sc13) := by rw [hw16]; simp [go_sem, yq]
                        clear hw16
                        refine hK.out _ _ ⟨Wb.Ext.keep (w := W0) (by (repeat' (first | (with_reducible assumption) | (with_reducible exact Wb.Ext.refl _) | (with_reducible refine Wb.Ext.drew ?_) | (with_reducible refine Wb.Ext.drewN ?_ _) | (with_reducible refine Wb.Ext.alloc ?_ _) | (with_reducible refine Wb.Ext.trans ?_ (by assumption))))) zs, Wb.Ext.keep (w := W0) (by (repeat' (first | (with_reducible assumption) | (with_reducible exact Wb.Ext.refl _) | (with_reducible refine Wb.Ext.drew ?_) | (with_reducible refine Wb.Ext.drewN ?_ _) | (with_reducible refine Wb.Ext.alloc ?_ _) | (with_reducible refine Wb.Ext.trans ?_ (by assumption))))) zt⟩ (fun hHeld => ?_)
                        clear hK K
                        (try simp only [Act.put, List.setIfInBounds_toArray, List.set_cons_zero, List.set_cons_succ])
                        refine wpAnyH_done (by kernel_rfl) ?_ _
                        go_wp2_with fail
                        go_meet
                        exact ⟨w13.heap.size, W0.heap.size, sa12, sc12, r12, sa13, sc13, r13, rfl, rfl, Yp, Yq, HP12.out, HP13.out, HS12.out, HS13.out, (show Wb.Ext W0 w16 by (repeat' (first | (with_reducible assumption) | (with_reducible exact Wb.Ext.refl _) | (with_reducible refine Wb.Ext.drew ?_) | (with_reducible refine Wb.Ext.drewN ?_ _) | (with_reducible refine Wb.Ext.alloc ?_ _) | (with_reducible refine Wb.Ext.trans ?_ (by assumption)))))⟩
                      exact AllReadyH.nil
                    exact AllReadyH.nil
                  exact AllReadyH.nil
                refine AllReadyH.cons (o := _) rfl (fun K hK => ?_) ?_
                · go_simp
                  have nqp : W0.heap.size ≠ w12.heap.size := Nat.ne_of_lt ybq.2
                  refine atK fun w13 hw13 => ?_
                  have hb13 : Wb.Ext w12 w13 := by rw [hw13]; (repeat' (first | (with_reducible assumption) | (with_reducible exact Wb.Ext.refl _) | (with_reducible refine Wb.Ext.drew ?_) | (with_reducible refine Wb.Ext.drewN ?_ _) | (with_reducible refine Wb.Ext.alloc ?_ _) | (with_reducible refine Wb.Ext.trans ?_ (by assumption))))
                  replace hb13 : Wb.Ext w12 w13 := Wb.Ext.trans (by (repeat' (first | (with_reducible assumption) | (with_reducible exact Wb.Ext.refl _) | (with_reducible refine Wb.Ext.drew ?_) | (with_reducible refine Wb.Ext.drewN ?_ _) | (with_reducible refine Wb.Ext.alloc ?_ _) | (with_reducible refine Wb.Ext.trans ?_ (by assumption))))) hb13
                  replace HP12 := Lib.hid (HP12.out.ext hb13)
                  have yfq := (Below.frozen hb13 ybq.2).trans yfq
                  have yq := hb13.keep yq
                  have ybq := And.intro ybq.1 (Nat.lt_of_lt_of_le ybq.2 hb13.size)
                  have hx13 : Wb.Ext W0 w13 := Wb.Ext.trans (by (repeat' (first | (with_reducible assumption) | (with_reducible exact Wb.Ext.refl _) | (with_reducible refine Wb.Ext.drew ?_) | (with_reducible refine Wb.Ext.drewN ?_ _) | (with_reducible refine Wb.Ext.alloc ?_ _) | (with_reducible refine Wb.Ext.trans ?_ (by assumption))))) hb13
                  have yp : w13.cell? ⟨w12.heap.size, 0, none⟩ = some (.slice none 0 0) := by rw [hw13]; simp [go_sem]
                  have yfp : w13.frozen? ⟨w12.heap.size, 0, none⟩ = false := by rw [hw13]; simp [go_sem]
                  have ybp : W0.heap.size ≤ w12.heap.size ∧ w12.heap.size < w13.heap.size := ⟨(show Wb.Ext W0 w12 by (repeat' (first | (with_reducible assumption) | (with_reducible exact Wb.Ext.refl _) | (with_reducible refine Wb.Ext.drew ?_) | (with_reducible refine Wb.Ext.drewN ?_ _) | (with_reducible refine Wb.Ext.alloc ?_ _) | (with_reducible refine Wb.Ext.trans ?_ (by assumption))))).size, by rw [hw13]; simp⟩
                  clear hw13 hb13
                  refine hK.out _ _ ⟨Wb.Ext.keep (w := W0) (by (repeat' (first | (with_reducible assumption) | (with_reducible exact Wb.Ext.refl _) | (with_reducible refine Wb.Ext.drew ?_) | (with_reducible refine Wb.Ext.drewN ?_ _) | (with_reducible refine Wb.Ext.alloc ?_ _) | (with_reducible refine Wb.Ext.trans ?_ (by assumption))))) zs, Wb.Ext.keep (w := W0) (by (repeat' (first | (with_reducible assumption) | (with_reducible exact Wb.Ext.refl _) | (with_reducible refine Wb.Ext.drew ?_) | (with_reducible refine Wb.Ext.drewN ?_ _) | (with_reducible refine Wb.Ext.alloc ?_ _) | (with_reducible refine Wb.Ext.trans ?_ (by assumption))))) zt⟩ (fun hHeld => ?_)
                  clear hK K
                  (try simp only [Act.put, List.setIfInBounds_toArray, List.set_cons_zero, List.set_cons_succ])
                  refine wpAnyH_ready (rs := [5]) (by kernel_rfl) (by simp) ?_
                  refine AllReadyH.cons (o := _) rfl (fun K hK => ?_) ?_
                  · go_simp
                    go_at_call 21
                    go_fit (minus_any _ _ s t _ (HPs.out.ext (by (repeat' (first | (with_reducible assumption) | (with_reducible exact Wb.Ext.refl _) | (with_reducible refine Wb.Ext.drew ?_) | (with_reducible refine Wb.Ext.drewN ?_ _) | (with_reducible refine Wb.Ext.alloc ?_ _) | (with_reducible refine Wb.Ext.trans ?_ (by assumption)))))) (HPt.out.ext (by (repeat' (first | (with_reducible assumption) | (with_reducible exact Wb.Ext.refl _) | (with_reducible refine Wb.Ext.drew ?_) | (with_reducible refine Wb.Ext.drewN ?_ _) | (with_reducible refine Wb.Ext.alloc ?_ _) | (with_reducible refine Wb.Ext.trans ?_ (by assumption)))))) HSs.out.canon HSt.out.canon HSs.out.bd HSt.out.bd (by omega) (by omega))
                    rintro e w14 ⟨v14, r14, rfl, hs14, hp14, hb14⟩
                    obtain ⟨sa14, sc14, rfl⟩ := hp14.1.shape
                    have HS14 := Lib.hid hs14
                    have hl14 : r14.length ≤ 160 := by have := hs14.len; (try simp only [List.length_cons, List.length_nil] at this); omega
                    have HE14 := Lib.hid (has_min hs14)
                    replace hb14 : Wb.Ext w13 w14 := Wb.Ext.trans (by (repeat' (first | (with_reducible assumption) | (with_reducible exact Wb.Ext.refl _) | (with_reducible refine Wb.Ext.drew ?_) | (with_reducible refine Wb.Ext.drewN ?_ _) | (with_reducible refine Wb.Ext.alloc ?_ _) | (with_reducible refine Wb.Ext.trans ?_ (by assumption))))) hb14
                    replace HP12 := Lib.hid (HP12.out.ext hb14)
                    have yfq := (Below.frozen hb14 ybq.2).trans yfq
                    have yq := hb14.keep yq
                    have ybq := And.intro ybq.1 (Nat.lt_of_lt_of_le ybq.2 hb14.size)
                    have yfp := (Below.frozen hb14 ybp.2).trans yfp
                    have yp := hb14.keep yp
                    have ybp := And.intro ybp.1 (Nat.lt_of_lt_of_le ybp.2 hb14.size)
                    have hx14 : Wb.Ext W0 w14 := Wb.Ext.trans (by (repeat' (first | (with_reducible assumption) | (with_reducible exact Wb.Ext.refl _) | (with_reducible refine Wb.Ext.drew ?_) | (with_reducible refine Wb.Ext.drewN ?_ _) | (with_reducible refine Wb.Ext.alloc ?_ _) | (with_reducible refine Wb.Ext.trans ?_ (by assumption))))) hb14
                    clear hb14
                    have HP14 := Lib.hid hp14
                    clear hs14 hp14
                    refine hK.out _ _ ⟨Wb.Ext.keep (w := W0) (by (repeat' (first | (with_reducible assumption) | (with_reducible exact Wb.Ext.refl _) | (with_reducible refine Wb.Ext.drew ?_) | (with_reducible refine Wb.Ext.drewN ?_ _) | (with_reducible refine Wb.Ext.alloc ?_ _) | (with_reducible refine Wb.Ext.trans ?_ (by assumption))))) zs, Wb.Ext.keep (w := W0) (by (repeat' (first | (with_reducible assumption) | (with_reducible exact Wb.Ext.refl _) | (with_reducible refine Wb.Ext.drew ?_) | (with_reducible refine Wb.Ext.drewN ?_ _) | (with_reducible refine Wb.Ext.alloc ?_ _) | (with_reducible refine Wb.Ext.trans ?_ (by assumption))))) zt⟩ (fun hHeld => ?_)
                    clear hK K
                    (try simp only [Act.put, List.setIfInBounds_toArray, List.set_cons_zero, List.set_cons_succ])
                    refine wpAnyH_ready (rs := [8]) (by kernel_rfl) (by simp) ?_
                    refine AllReadyH.cons (o := _) rfl (fun K hK => ?_) ?_
                    · go_simp
                      refine atK fun w15 hw15 => ?_
                      have hx15 : Wb.Ext W0 w15 := by rw [hw15]; exact Wb.ext_set (by (repeat' (first | (with_reducible assumption) | (with_reducible exact Wb.Ext.refl _) | (with_reducible refine Wb.Ext.drew ?_) | (with_reducible refine Wb.Ext.drewN ?_ _) | (with_reducible refine Wb.Ext.alloc ?_ _) | (with_reducible refine Wb.Ext.trans ?_ (by assumption))))) ybp.1 _
                      replace HP12 := Lib.hid (show SpL w15 _ r12 by rw [hw15]; exact HP12.out.set yp _)
                      replace HP14 := Lib.hid (show SpL w15 _ r14 by rw [hw15]; exact HP14.out.set yp _)
                      have yq : w15.cell? ⟨W0.heap.size, 0, none⟩ = some (.slice none 0 0) := by rw [hw15]; exact (World.cell?_setCell_other _ _ _ _ (fun e => nqp (congrArg Addr.block e).symm)).trans yq
                      have yfq : w15.frozen? ⟨W0.heap.size, 0, none⟩ = false := by rw [hw15]; exact (World.frozen?_setCell _ _ _ _).trans yfq
                      have ybq := And.intro ybq.1 (show W0.heap.size < w15.heap.size by rw [hw15]; simpa [go_sem] using ybq.2)
                      have Yp : w15.cell? ⟨w12.heap.size, 0, none⟩ = some (.slice sa12 r12.length sc12) := by rw [hw15]; simp [go_sem, yp]
                      clear hw15
                      refine hK.out _ _ ⟨Wb.Ext.keep (w := W0) (by (repeat' (first | (with_reducible assumption) | (with_reducible exact Wb.Ext.refl _) | (with_reducible refine Wb.Ext.drew ?_) | (with_reducible refine Wb.Ext.drewN ?_ _) | (with_reducible refine Wb.Ext.alloc ?_ _) | (with_reducible refine Wb.Ext.trans ?_ (by assumption))))) zs, Wb.Ext.keep (w := W0) (by (repeat' (first | (with_reducible assumption) | (with_reducible exact Wb.Ext.refl _) | (with_reducible refine Wb.Ext.drew ?_) | (with_reducible refine Wb.Ext.drewN ?_ _) | (with_reducible refine Wb.Ext.alloc ?_ _) | (with_reducible refine Wb.Ext.trans ?_ (by assumption))))) zt⟩ (fun hHeld => ?_)
                      clear hK K
                      (try simp only [Act.put, List.setIfInBounds_toArray, List.set_cons_zero, List.set_cons_succ])
                      refine wpAnyH_ready (rs := [9]) (by kernel_rfl) (by simp) ?_
                      refine AllReadyH.cons (o := _) rfl (fun K hK => ?_) ?_
                      · go_simp
                        refine atK fun w16 hw16 => ?_
                        have hx16 : Wb.Ext W0 w16 := by rw [hw16]; exact Wb.ext_set (by (repeat' (first | (with_reducible assumption) | (with_reducible exact Wb.Ext.refl _) | (with_reducible refine Wb.Ext.drew ?_) | (with_reducible refine Wb.Ext.drewN ?_ _) | (with_reducible refine Wb.Ext.alloc ?_ _) | (with_reducible refine Wb.Ext.trans ?_ (by assumption))))) ybq.1 _
                        replace HP12 := Lib.hid (show SpL w16 _ r12 by rw [hw16]; exact HP12.out.set yq _)
                        replace HP14 := Lib.hid (show SpL w16 _ r14 by rw [hw16]; exact HP14.out.set yq _)
                        have Yp : w16.cell? ⟨w12.heap.size, 0, none⟩ = some (.slice sa12 r12.length sc12) := by rw [hw16]; exact (World.cell?_setCell_other _ _ _ _ (fun e => nqp (congrArg Addr.block e))).trans Yp
                        have Yq : w16.cell? ⟨W0.heap.size, 0, none⟩ = some (.slice sa14 r14.length sc14) := by rw [hw16]; simp [go_sem, yq]
                        clear hw16
                        refine hK.out _ _ ⟨Wb.Ext.keep (w := W0) (by (repeat' (first | (with_reducible assumption) | (with_reducible exact Wb.Ext.refl _) | (with_reducible refine Wb.Ext.drew ?_) | (with_reducible refine Wb.Ext.drewN ?_ _) | (with_reducible refine Wb.Ext.alloc ?_ _) | (with_reducible refine Wb.Ext.trans ?_ (by assumption))))) zs, Wb.Ext.keep (w := W0) (by (repeat' (first | (with_reducible assumption) | (with_reducible exact Wb.Ext.refl _) | (with_reducible refine Wb.Ext.drew ?_) | (with_reducible refine Wb.Ext.drewN ?_ _) | (with_reducible refine Wb.Ext.alloc ?_ _) | (with_reducible refine Wb.Ext.trans ?_ (by assumption))))) zt⟩ (fun hHeld => ?_)
                        clear hK K
                        (try simp only [Act.put, List.setIfInBounds_toArray, List.set_cons_zero, List.set_cons_succ])
                        refine wpAnyH_done (by kernel_rfl) ?_ _
                        go_wp2_with fail
                        go_meet
                        exact ⟨w12.heap.size, W0.heap.size, sa12, sc12, r12, sa14, sc14, r14, rfl, rfl, Yp, Yq, HP12.out, HP14.out, HS12.out, HS14.out, (show Wb.Ext W0 w16 by (repeat' (first | (with_reducible assumption) | (with_reducible exact Wb.Ext.refl _) | (with_reducible refine Wb.Ext.drew ?_) | (with_reducible refine Wb.Ext.drewN ?_ _) | (with_reducible refine Wb.Ext.alloc ?_ _) | (with_reducible refine Wb.Ext.trans ?_ (by assumption)))))⟩
                      exact AllReadyH.nil
                    exact AllReadyH.nil
                  exact AllReadyH.nil
                exact AllReadyH.nil
              refine AllReadyH.cons (o := _) rfl (fun K hK => ?_) ?_
              · go_simp
                have nqp : W0.heap.size ≠ w11.heap.size := Nat.ne_of_lt ybq.2
                refine atK fun w12 hw12 => ?_
                have hb12 : Wb.Ext w11 w12 := by rw [hw12]; (repeat' (first | (with_reducible assumption) | (with_reducible exact Wb.Ext.refl _) | (with_reducible refine Wb.Ext.drew ?_) | (with_reducible refine Wb.Ext.drewN ?_ _) | (with_reducible refine Wb.Ext.alloc ?_ _) | (with_reducible refine Wb.Ext.trans ?_ (by assumption))))
                replace hb12 : Wb.Ext w11 w12 := Wb.Ext.trans (by (repeat' (first | (with_reducible assumption) | (with_reducible exact Wb.Ext.refl _) | (with_reducible refine Wb.Ext.drew ?_) | (with_reducible refine Wb.Ext.drewN ?_ _) | (with_reducible refine Wb.Ext.alloc ?_ _) | (with_reducible refine Wb.Ext.trans ?_ (by assumption))))) hb12
                have yfq := (Below.frozen hb12 ybq.2).trans yfq
                have yq := hb12.keep yq
                have ybq := And.intro ybq.1 (Nat.lt_of_lt_of_le ybq.2 hb12.size)
                have hx12 : Wb.Ext W0 w12 := Wb.Ext.trans (by (repeat' (first | (with_reducible assumption) | (with_reducible exact Wb.Ext.refl _) | (with_reducible refine Wb.Ext.drew ?_) | (with_reducible refine Wb.Ext.drewN ?_ _) | (with_reducible refine Wb.Ext.alloc ?_ _) | (with_reducible refine Wb.Ext.trans ?_ (by assumption))))) hb12
                have yp : w12.cell? ⟨w11.heap.size, 0, none⟩ = some (.slice none 0 0) := by rw [hw12]; simp [go_sem]
                have yfp : w12.frozen? ⟨w11.heap.size, 0, none⟩ = false := by rw [hw12]; simp [go_sem]
                have ybp : W0.heap.size ≤ w11.heap.size ∧ w11.heap.size < w12.heap.size := ⟨(show Wb.Ext W0 w11 by (repeat' (first | (with_reducible assumption) | (with_reducible exact Wb.Ext.refl _) | (with_reducible refine Wb.Ext.drew ?_) | (with_reducible refine Wb.Ext.drewN ?_ _) | (with_reducible refine Wb.Ext.alloc ?_ _) | (with_reducible refine Wb.Ext.trans ?_ (by assumption))))).size, by rw [hw12]; simp⟩
                clear hw12 hb12
                refine hK.out _ _ ⟨Wb.Ext.keep (w := W0) (by (repeat' (first | (with_reducible assumption) | (with_reducible exact Wb.Ext.refl _) | (with_reducible refine Wb.Ext.drew ?_) | (with_reducible refine Wb.Ext.drewN ?_ _) | (with_reducible refine Wb.Ext.alloc ?_ _) | (with_reducible refine Wb.Ext.trans ?_ (by assumption))))) zs, Wb.Ext.keep (w := W0) (by (repeat' (first | (with_reducible assumption) | (with_reducible exact Wb.Ext.refl _) | (with_reducible refine Wb.Ext.drew ?_) | (with_reducible refine Wb.Ext.drewN ?_ _) | (with_reducible refine Wb.Ext.alloc ?_ _) | (with_reducible refine Wb.Ext.trans ?_ (by assumption))))) zt⟩ (fun hHeld => ?_)
                clear hK K
                (try simp only [Act.put, List.setIfInBounds_toArray, List.set_cons_zero, List.set_cons_succ])
                refine wpAnyH_ready (rs := [2]) (by kernel_rfl) (by simp) ?_
                refine AllReadyH.cons (o := _) rfl (fun K hK => ?_) ?_
                · go_simp
                  go_at_call 20
                  go_fit (meet_any _ _ s t _ (HPs.out.ext (by (repeat' (first | (with_reducible assumption) | (with_reducible exact Wb.Ext.refl _) | (with_reducible refine Wb.Ext.drew ?_) | (with_reducible refine Wb.Ext.drewN ?_ _) | (with_reducible refine Wb.Ext.alloc ?_ _) | (with_reducible refine Wb.Ext.trans ?_ (by assumption)))))) (HPt.out.ext (by (repeat' (first | (with_reducible assumption) | (with_reducible exact Wb.Ext.refl _) | (with_reducible refine Wb.Ext.drew ?_) | (with_reducible refine Wb.Ext.drewN ?_ _) | (with_reducible refine Wb.Ext.alloc ?_ _) | (with_reducible refine Wb.Ext.trans ?_ (by assumption)))))) HSs.out.canon HSt.out.canon HSs.out.bd HSt.out.bd (by omega) (by omega))
                  rintro e w13 ⟨v13, r13, rfl, hs13, hp13, hb13⟩
                  obtain ⟨sa13, sc13, rfl⟩ := hp13.1.shape
                  have HS13 := Lib.hid hs13
                  have hl13 : r13.length ≤ 160 := by have := hs13.len; (try simp only [List.length_cons, List.length_nil] at this); omega
                  have HE13 := Lib.hid (has_met hs13)
                  replace hb13 : Wb.Ext w12 w13 := Wb.Ext.trans (by (repeat' (first | (with_reducible assumption) | (with_reducible exact Wb.Ext.refl _) | (with_reducible refine Wb.Ext.drew ?_) | (with_reducible refine Wb.Ext.drewN ?_ _) | (with_reducible refine Wb.Ext.alloc ?_ _) | (with_reducible refine Wb.Ext.trans ?_ (by assumption))))) hb13
                  have yfq := (Below.frozen hb13 ybq.2).trans yfq
                  have yq := hb13.keep yq
                  have ybq := And.intro ybq.1 (Nat.lt_of_lt_of_le ybq.2 hb13.size)
                  have yfp := (Below.frozen hb13 ybp.2).trans yfp
                  have yp := hb13.keep yp
                  have ybp := And.intro ybp.1 (Nat.lt_of_lt_of_le ybp.2 hb13.size)
                  have hx13 : Wb.Ext W0 w13 := Wb.Ext.trans (by (repeat' (first | (with_reducible assumption) | (with_reducible exact Wb.Ext.refl _) | (with_reducible refine Wb.Ext.drew ?_) | (with_reducible refine Wb.Ext.drewN ?_ _) | (with_reducible refine Wb.Ext.alloc ?_ _) | (with_reducible refine Wb.Ext.trans ?_ (by assumption))))) hb13
                  clear hb13
                  have HP13 := Lib.hid hp13
                  clear hs13 hp13
                  refine hK.out _ _ ⟨Wb.Ext.keep (w := W0) (by (repeat' (first | (with_reducible assumption) | (with_reducible exact Wb.Ext.refl _) | (with_reducible refine Wb.Ext.drew ?_) | (with_reducible refine Wb.Ext.drewN ?_ _) | (with_reducible refine Wb.Ext.alloc ?_ _) | (with_reducible refine Wb.Ext.trans ?_ (by assumption))))) zs, Wb.Ext.keep (w := W0) (by (repeat' (first | (with_reducible assumption) | (with_reducible exact Wb.Ext.refl _) | (with_reducible refine Wb.Ext.drew ?_) | (with_reducible refine Wb.Ext.drewN ?_ _) | (with_reducible refine Wb.Ext.alloc ?_ _) | (with_reducible refine Wb.Ext.trans ?_ (by assumption))))) zt⟩ (fun hHeld => ?_)
                  clear hK K
                  (try simp only [Act.put, List.setIfInBounds_toArray, List.set_cons_zero, List.set_cons_succ])
                  refine wpAnyH_ready (rs := [5]) (by kernel_rfl) (by simp) ?_
                  refine AllReadyH.cons (o := _) rfl (fun K hK => ?_) ?_
                  · go_simp
                    go_at_call 21
                    go_fit (minus_any _ _ s t _ (HPs.out.ext (by (repeat' (first | (with_reducible assumption) | (with_reducible exact Wb.Ext.refl _) | (with_reducible refine Wb.Ext.drew ?_) | (with_reducible refine Wb.Ext.drewN ?_ _) | (with_reducible refine Wb.Ext.alloc ?_ _) | (with_reducible refine Wb.Ext.trans ?_ (by assumption)))))) (HPt.out.ext (by (repeat' (first | (with_reducible assumption) | (with_reducible exact Wb.Ext.refl _) | (with_reducible refine Wb.Ext.drew ?_) | (with_reducible refine Wb.Ext.drewN ?_ _) | (with_reducible refine Wb.Ext.alloc ?_ _) | (with_reducible refine Wb.Ext.trans ?_ (by assumption)))))) HSs.out.canon HSt.out.canon HSs.out.bd HSt.out.bd (by omega) (by omega))
                    rintro e w14 ⟨v14, r14, rfl, hs14, hp14, hb14⟩
                    obtain ⟨sa14, sc14, rfl⟩ := hp14.1.shape
                    have HS14 := Lib.hid hs14
                    have hl14 : r14.length ≤ 160 := by have := hs14.len; (try simp only [List.length_cons, List.length_nil] at this); omega
                    have HE14 := Lib.hid (has_min hs14)
                    replace hb14 : Wb.Ext w13 w14 := Wb.Ext.trans (by (repeat' (first | (with_reducible assumption) | (with_reducible exact Wb.Ext.refl _) | (with_reducible refine Wb.Ext.drew ?_) | (with_reducible refine Wb.Ext.drewN ?_ _) | (with_reducible refine Wb.Ext.alloc ?_ _) | (with_reducible refine Wb.Ext.trans ?_ (by assumption))))) hb14
                    replace HP13 := Lib.hid (HP13.out.ext hb14)
                    have yfq := (Below.frozen hb14 ybq.2).trans yfq
                    have yq := hb14.keep yq
                    have ybq := And.intro ybq.1 (Nat.lt_of_lt_of_le ybq.2 hb14.size)
                    have yfp := (Below.frozen hb14 ybp.2).trans yfp
                    have yp := hb14.keep yp
                    have ybp := And.intro ybp.1 (Nat.lt_of_lt_of_le ybp.2 hb14.size)
                    have hx14 : Wb.Ext W0 w14 := Wb.Ext.trans (by (repeat' (first | (with_reducible assumption) | (with_reducible exact Wb.Ext.refl _) | (with_reducible refine Wb.Ext.drew ?_) | (with_reducible refine Wb.Ext.drewN ?_ _) | (with_reducible refine Wb.Ext.alloc ?_ _) | (with_reducible refine Wb.Ext.trans ?_ (by assumption))))) hb14
                    clear hb14
                    have HP14 := Lib.hid hp14
                    clear hs14 hp14
                    refine hK.out _ _ ⟨Wb.Ext.keep (w := W0) (by (repeat' (first | (with_reducible assumption) | (with_reducible exact Wb.Ext.refl _) | (with_reducible refine Wb.Ext.drew ?_) | (with_reducible refine Wb.Ext.drewN ?_ _) | (with_reducible refine Wb.Ext.alloc ?_ _) | (with_reducible refine Wb.Ext.trans ?_ (by assumption))))) zs, Wb.Ext.keep (w := W0) (by (repeat' (first | (with_reducible assumption) | (with_reducible exact Wb.Ext.refl _) | (with_reducible refine Wb.Ext.drew ?_) | (with_reducible refine Wb.Ext.drewN ?_ _) | (with_reducible refine Wb.Ext.alloc ?_ _) | (with_reducible refine Wb.Ext.trans ?_ (by assumption))))) zt⟩ (fun hHeld => ?_)
                    clear hK K
                    (try simp only [Act.put, List.setIfInBounds_toArray, List.set_cons_zero, List.set_cons_succ])
                    refine wpAnyH_ready (rs := [8]) (by kernel_rfl) (by simp) ?_
                    refine AllReadyH.cons (o := _) rfl (fun K hK => ?_) ?_
                    · go_simp
                      refine atK fun w15 hw15 => ?_
                      have hx15 : Wb.Ext W0 w15 := by rw [hw15]; exact Wb.ext_set (by (repeat' (first | (with_reducible assumption) | (with_reducible exact Wb.Ext.refl _) | (with_reducible refine Wb.Ext.drew ?_) | (with_reducible refine Wb.Ext.drewN ?_ _) | (with_reducible refine Wb.Ext.alloc ?_ _) | (with_reducible refine Wb.Ext.trans ?_ (by assumption))))) ybp.1 _
                      replace HP13 := Lib.hid (show SpL w15 _ r13 by rw [hw15]; exact HP13.out.set yp _)
                      replace HP14 := Lib.hid (show SpL w15 _ r14 by rw [hw15]; exact HP14.out.set yp _)
                      have yq : w15.cell? ⟨W0.heap.size, 0, none⟩ = some (.slice none 0 0) := by rw [hw15]; exact (World.cell?_setCell_other _ _ _ _ (fun e => nqp (congrArg Addr.block e).symm)).trans yq
                      have yfq : w15.frozen? ⟨W0.heap.size, 0, none⟩ = false := by rw [hw15]; exact (World.frozen?_setCell _ _ _ _).trans yfq
                      have ybq := And.intro ybq.1 (show W0.heap.size < w15.heap.size by rw [hw15]; simpa [go_sem] using ybq.2)
                      have Yp : w15.cell? ⟨w11.heap.size, 0, none⟩ = some (.slice sa13 r13.length sc13) := by rw [hw15]; simp [go_sem, yp]
                      clear hw15
                      refine hK.out _ _ ⟨Wb.Ext.keep (w := W0) (by (repeat' (first | (with_reducible assumption) | (with_reducible exact Wb.Ext.refl _) | (with_reducible refine Wb.Ext.drew ?_) | (with_reducible refine Wb.Ext.drewN ?_ _) | (with_reducible refine Wb.Ext.alloc ?_ _) | (with_reducible refine Wb.Ext.trans ?_ (by assumption))))) zs, Wb.Ext.keep (w := W0) (by (repeat' (first | (with_reducible assumption) | (with_reducible exact Wb.Ext.refl _) | (with_reducible refine Wb.Ext.drew ?_) | (with_reducible refine Wb.Ext.drewN ?_ _) | (with_reducible refine Wb.Ext.alloc ?_ _) | (with_reducible refine Wb.Ext.trans ?_ (by assumption))))) zt⟩ (fun hHeld => ?_)
                      clear hK K
                      (try simp only [Act.put, List.setIfInBounds_toArray, List.set_cons_zero, List.set_cons_succ])
                      refine wpAnyH_ready (rs := [9]) (by kernel_rfl) (by simp) ?_
                      refine AllReadyH.cons (o := _) rfl (fun K hK => ?_) ?_
                      · go_simp
                        refine atK fun w16 hw16 => ?_
                        have hx16 : Wb.Ext W0 w16 := by rw [hw16]; exact Wb.ext_set (by (repeat' (first | (with_reducible assumption) | (with_reducible exact Wb.Ext.refl _) | (with_reducible refine Wb.Ext.drew ?_) | (with_reducible refine Wb.Ext.drewN ?_ _) | (with_reducible refine Wb.Ext.alloc ?_ _) | (with_reducible refine Wb.Ext.trans ?_ (by assumption))))) ybq.1 _
                        replace HP13 := Lib.hid (show SpL w16 _ r13 by rw [hw16]; exact HP13.out.set yq _)
                        replace HP14 := Lib.hid (show SpL w16 _ r14 by rw [hw16]; exact HP14.out.set yq _)
                        have Yp : w16.cell? ⟨w11.heap.size, 0, none⟩ = some (.slice sa13 r13.length sc13) := by rw [hw16]; exact (World.cell?_setCell_other _ _ _ _ (fun e => nqp (congrArg Addr.block e))).trans Yp
                        have Yq : w16.cell? ⟨W0.heap.size, 0, none⟩ = some (.slice sa14 r14.length sc14) := by rw [hw16]; simp [go_sem, yq]
                        clear hw16
                        refine hK.out _ _ ⟨Wb.Ext.keep (w := W0) (by (repeat' (first | (with_reducible assumption) | (with_reducible exact Wb.Ext.refl _) | (with_reducible refine Wb.Ext.drew ?_) | (with_reducible refine Wb.Ext.drewN ?_ _) | (with_reducible refine Wb.Ext.alloc ?_ _) | (with_reducible refine Wb.Ext.trans ?_ (by assumption))))) zs, Wb.Ext.keep (w := W0) (by (repeat' (first | (with_reducible assumption) | (with_reducible exact Wb.Ext.refl _) | (with_reducible refine Wb.Ext.drew ?_) | (with_reducible refine Wb.Ext.drewN ?_ _) | (with_reducible refine Wb.Ext.alloc ?_ _) | (with_reducible refine Wb.Ext.trans ?_ (by assumption))))) zt⟩ (fun hHeld => ?_)
                        clear hK K
                        (try simp only [Act.put, List.setIfInBounds_toArray, List.set_cons_zero, List.set_cons_succ])
                        refine wpAnyH_done (by kernel_rfl) ?_ _
                        go_wp2_with fail
                        go_meet
                        exact ⟨w11.heap.size, W0.heap.size, sa13, sc13, r13, sa14, sc14, r14, rfl, rfl, Yp, Yq, HP13.out, HP14.out, HS13.out, HS14.out, (show Wb.Ext W0 w16 by (repeat' (first | (with_reducible assumption) | (with_reducible exact Wb.Ext.refl _) | (with_reducible refine Wb.Ext.drew ?_) | (with_reducible refine Wb.Ext.drewN ?_ _) | (with_reducible refine Wb.Ext.alloc ?_ _) | (with_reducible refine Wb.Ext.trans ?_ (by assumption)))))⟩
                      exact AllReadyH.nil
                    exact AllReadyH.nil
                  exact AllReadyH.nil
                exact AllReadyH.nil
              exact AllReadyH.nil
            exact AllReadyH.nil
          case rest =>
            obtain ⟨P, Q, pA, pK, p, qA, qK, q, rfl, rfl, zp, zq, hp, hq, hsp, hsq, hx⟩ := hcut
            have HPp := Lib.hid hp
            have HPq := Lib.hid hq
            have HSp := Lib.hid hsp
            have HSq := Lib.hid hsq
            have HEp := Lib.hid (has_met hsp)
            have HEq := Lib.hid (has_min hsq)
            have hlp : p.length ≤ 160 := by have := hsp.len; omega
            have hlq : q.length ≤ 160 := by have := hsq.len; omega
            have HXC := Lib.hid hx
            have HWs := Lib.hid (within_of HSs.out HWA.out)
            have HWt := Lib.hid (within_of HSt.out HWB.out)
            have HWp := Lib.hid (within_two (f := fun p q : Bool => p && q) hsp rfl HWs.out HWt.out)
            have HWq := Lib.hid (within_two (f := fun p q : Bool => p && !q) hsq rfl HWs.out HWt.out)
            have zs := hx.keep zs
            have zt := hx.keep zt
            clear hp hq hsp hsq hx
            have HD := Lib.hid (days_add (lo := -1099511627776) (n := 2199023255552) (by omega) HSp.out.canon HSq.out.canon HSs.out.canon Wb.Canon.nil (by simpa using HWp.out) (by simpa using HWq.out) (by simpa using HWs.out) (fun x h => by cases h) (fun d => by simp only [HEp.out d, HEq.out d]; cases Wb.hasL s d <;> cases Wb.hasL t d <;> rfl))
            have HU : Hid (∀ u m, IsSet u (fun d => (fun p q : Bool => p || q) (Wb.hasL s d) (Wb.hasL t d) = true) m → daysL u + daysL p = daysL s + daysL t) := Lib.hid (fun u m hu => days_add (lo := -1099511627776) (n := 2199023255552) (by omega) hu.canon HSp.out.canon HSs.out.canon HSt.out.canon (by simpa using within_two (f := fun p q : Bool => p || q) hu rfl HWs.out HWt.out) (by simpa using HWp.out) (by simpa using HWs.out) (by simpa using HWt.out) (fun d => by simp only [has_uni hu d, HEp.out d]; cases Wb.hasL s d <;> cases Wb.hasL t d <;> rfl))
            obtain ⟨np, hnp⟩ : ∃ n, daysL p = n := ⟨_, rfl⟩
            obtain ⟨nq, hnq⟩ : ∃ n, daysL q = n := ⟨_, rfl⟩
            obtain ⟨ns, hns⟩ : ∃ n, daysL s = n := ⟨_, rfl⟩
            obtain ⟨nt, hnt⟩ : ∃ n, daysL t = n := ⟨_, rfl⟩
            have hd1 : np + nq = ns := by have := HD.out; rw [hnp, hnq, hns] at this; simpa [daysL] using this
            have hb1 : 0 ≤ ns ∧ ns ≤ 4611686018427387904 := hns ▸ daysL_ok s
            have hb2 : 0 ≤ nt ∧ nt ≤ 4611686018427387904 := hnt ▸ daysL_ok t
            have hb3 : ns + nt ≤ 9223372036854775807 := by
              have h1 := days_le (lo := -1099511627776) (n := 2199023255552) (by omega) s HSs.out.canon (by simpa using HWs.out)
              rw [hns] at h1
              omega
            obtain ⟨ks, hks⟩ : ∃ n, ns + nt = n := ⟨_, rfl⟩
            have e1 : IntKind.i64.wrap (np + nq) = ns := by rw [hd1]; exact IntWalk.i64_in _ (by omega)
            have e2 : IntKind.i64.wrap (ns + nt) = ks := by rw [hks]; exact IntWalk.i64_in _ (by omega)
            have HB := Lib.hid (show IntKind.i64.wrap ks = ks from IntWalk.i64_in _ (by omega))
            have HNp := Lib.hid hnp
            have HNq := Lib.hid hnq
            have HNs := Lib.hid hns
            have HNt := Lib.hid hnt
            have HKS := Lib.hid hks
            clear hnp hnq hns hnt hd1 hb1 hb2 hb3 hks
            go_upto_region 16 with (fail)
            refine Wb.wp_at fun W5 hW5 => ?_
            have hb : Wb.Ext wc W5 := by rw [hW5]; (repeat' (first | (with_reducible assumption) | (with_reducible exact Wb.Ext.refl _) | (with_reducible refine Wb.Ext.drew ?_) | (with_reducible refine Wb.Ext.drewN ?_ _) | (with_reducible refine Wb.Ext.alloc ?_ _) | (with_reducible refine Wb.Ext.trans ?_ (by assumption))))
            have zs := hb.keep zs
            have zt := hb.keep zt
            have zp := hb.keep zp
            have zq := hb.keep zq
            have hc5 := HXC.out.trans hb
            replace HPp := Lib.hid (HPp.out.ext hb)
            replace HPq := Lib.hid (HPq.out.ext hb)
            replace HPs := Lib.hid (HPs.out.ext hc5)
            replace HPt := Lib.hid (HPt.out.ext hc5)
            have hxW := hxW.trans hc5
            clear hW5 hb hc5
            refine region_start (S := (fun w' => w'.cell? ⟨w2.heap.size, 0, none⟩ = some (.slice sA s.length sK) ∧ w'.cell? ⟨w2.heap.size + 1, 0, none⟩ = some (.slice tA t.length tK) ∧ w'.cell? ⟨P, 0, none⟩ = some (.slice pA p.length pK) ∧ w'.cell? ⟨Q, 0, none⟩ = some (.slice qA q.length qK))) (n := 41) (l := #[false, false, false, false, false, false, false, false, false, false, false, false, false, false, false, false, false, false, false, false, false, false, false, false, false, false, false, false, false, false, false, false, false, false, false, false, false, false, false, false, false]) (by kernel_rfl) ⟨zs, zt, zp, zq⟩ (by kernel_rfl) (by kernel_rfl) (fun hHeld => ?_)
            refine take_d (i := 0) (d := 61) (v := ?_) rfl rfl (by kernel_rfl) (by kernel_rfl) (by kernel_rfl) (fun _ _ _ h => h) (Or.inl ⟨by rfl, ?_⟩) (by assumption) ?_
            rotate_left
            · (intro w hSw; (try dsimp only at hSw); go_simp; (try with_reducible rfl))
            (try simp only [Act.put, List.setIfInBounds_toArray, List.set_cons_zero, List.set_cons_succ])
            refine take_d (i := 1) (d := 62) (v := ?_) rfl rfl (by kernel_rfl) (by kernel_rfl) (by kernel_rfl) (fun _ _ _ h => h) (Or.inl ⟨by rfl, ?_⟩) (by assumption) ?_
            rotate_left
            · (intro w hSw; (try dsimp only at hSw); go_simp; (try with_reducible rfl))
            (try simp only [Act.put, List.setIfInBounds_toArray, List.set_cons_zero, List.set_cons_succ])
            refine wpAnyH_ready (rs := [2]) (by kernel_rfl) (by simp) ?_
            refine AllReadyH.cons (o := _) rfl (fun K hK => ?_) ?_
            · go_simp
              go_at_call 20
              go_fit (meet_any _ _ p q _ (HPp.out.ext (by (repeat' (first | (with_reducible assumption) | (with_reducible exact Wb.Ext.refl _) | (with_reducible refine Wb.Ext.drew ?_) | (with_reducible refine Wb.Ext.drewN ?_ _) | (with_reducible refine Wb.Ext.alloc ?_ _) | (with_reducible refine Wb.Ext.trans ?_ (by assumption)))))) (HPq.out.ext (by (repeat' (first | (with_reducible assumption) | (with_reducible exact Wb.Ext.refl _) | (with_reducible refine Wb.Ext.drew ?_) | (with_reducible refine Wb.Ext.drewN ?_ _) | (with_reducible refine Wb.Ext.alloc ?_ _) | (with_reducible refine Wb.Ext.trans ?_ (by assumption)))))) HSp.out.canon HSq.out.canon HSp.out.bd HSq.out.bd (by omega) (by omega))
              rintro e w51 ⟨v51, r51, rfl, hs51, hp51, hb51⟩
              obtain ⟨sa51, sc51, rfl⟩ := hp51.1.shape
              have HS51 := Lib.hid hs51
              have hl51 : r51.length ≤ 640 := by have := hs51.len; (try simp only [List.length_cons, List.length_nil] at this); omega
              have HE51 := Lib.hid (has_met hs51)
              replace hb51 : Wb.Ext W5 w51 := Wb.Ext.trans (by (repeat' (first | (with_reducible assumption) | (with_reducible exact Wb.Ext.refl _) | (with_reducible refine Wb.Ext.drew ?_) | (with_reducible refine Wb.Ext.drewN ?_ _) | (with_reducible refine Wb.Ext.alloc ?_ _) | (with_reducible refine Wb.Ext.trans ?_ (by assumption))))) hb51
              have hx51 : Wb.Ext W5 w51 := Wb.Ext.trans (by (repeat' (first | (with_reducible assumption) | (with_reducible exact Wb.Ext.refl _) | (with_reducible refine Wb.Ext.drew ?_) | (with_reducible refine Wb.Ext.drewN ?_ _) | (with_reducible refine Wb.Ext.alloc ?_ _) | (with_reducible refine Wb.Ext.trans ?_ (by assumption))))) hb51
              clear hb51
              have HP51 := Lib.hid hp51
              clear hs51 hp51
              refine hK.out _ _ ⟨Wb.Ext.keep (w := W5) (by (repeat' (first | (with_reducible assumption) | (with_reducible exact Wb.Ext.refl _) | (with_reducible refine Wb.Ext.drew ?_) | (with_reducible refine Wb.Ext.drewN ?_ _) | (with_reducible refine Wb.Ext.alloc ?_ _) | (with_reducible refine Wb.Ext.trans ?_ (by assumption))))) zs, Wb.Ext.keep (w := W5) (by (repeat' (first | (with_reducible assumption) | (with_reducible exact Wb.Ext.refl _) | (with_reducible refine Wb.Ext.drew ?_) | (with_reducible refine Wb.Ext.drewN ?_ _) | (with_reducible refine Wb.Ext.alloc ?_ _) | (with_reducible refine Wb.Ext.trans ?_ (by assumption))))) zt, Wb.Ext.keep (w := W5) (by (repeat' (first | (with_reducible assumption) | (with_reducible exact Wb.Ext.refl _) | (with_reducible refine Wb.Ext.drew ?_) | (with_reducible refine Wb.Ext.drewN ?_ _) | (with_reducible refine Wb.Ext.alloc ?_ _) | (with_reducible refine Wb.Ext.trans ?_ (by assumption))))) zp, Wb.Ext.keep (w := W5) (by (repeat' (first | (with_reducible assumption) | (with_reducible exact Wb.Ext.refl _) | (with_reducible refine Wb.Ext.drew ?_) | (with_reducible refine Wb.Ext.drewN ?_ _) | (with_reducible refine Wb.Ext.alloc ?_ _) | (with_reducible refine Wb.Ext.trans ?_ (by assumption))))) zq⟩ (fun hHeld => ?_)
              clear hK K
              (try simp only [Act.put, List.setIfInBounds_toArray, List.set_cons_zero, List.set_cons_succ])
              refine wpAnyH_ready (rs := [3]) (by kernel_rfl) (by simp) ?_
              refine AllReadyH.cons (o := _) rfl (fun K hK => ?_) ?_
              · go_simp
                go_at_call 17
                go_fit (all_any _ r51 _ (HP51.out.ext (by (repeat' (first | (with_reducible assumption) | (with_reducible exact Wb.Ext.refl _) | (with_reducible refine Wb.Ext.drew ?_) | (with_reducible refine Wb.Ext.drewN ?_ _) | (with_reducible refine Wb.Ext.alloc ?_ _) | (with_reducible refine Wb.Ext.trans ?_ (by assumption)))))) (by omega))
                rintro e w52 ⟨v52, rfl, hp52, hb52⟩
                obtain ⟨sa52, sc52, rfl⟩ := hp52.1.shape
                replace hb52 : Wb.Ext w51 w52 := Wb.Ext.trans (by (repeat' (first | (with_reducible assumption) | (with_reducible exact Wb.Ext.refl _) | (with_reducible refine Wb.Ext.drew ?_) | (with_reducible refine Wb.Ext.drewN ?_ _) | (with_reducible refine Wb.Ext.alloc ?_ _) | (with_reducible refine Wb.Ext.trans ?_ (by assumption))))) hb52
                replace HP51 := Lib.hid (HP51.out.ext hb52)
                have hx52 : Wb.Ext W5 w52 := Wb.Ext.trans (by (repeat' (first | (with_reducible assumption) | (with_reducible exact Wb.Ext.refl _) | (with_reducible refine Wb.Ext.drew ?_) | (with_reducible refine Wb.Ext.drewN ?_ _) | (with_reducible refine Wb.Ext.alloc ?_ _) | (with_reducible refine Wb.Ext.trans ?_ (by assumption))))) hb52
                clear hb52
                have HP52 := Lib.hid hp52
                clear hp52
                have hnl52 := canon_eq HS51.out.canon Wb.Canon.nil (fun d => by simp only [HE51.out d, HEp.out d, HEq.out d]; show _ = false; cases Wb.hasL s d <;> cases Wb.hasL t d <;> rfl)
                rw [hnl52]
                clear hnl52
                refine hK.out _ _ ⟨Wb.Ext.keep (w := W5) (by (repeat' (first | (with_reducible assumption) | (with_reducible exact Wb.Ext.refl _) | (with_reducible refine Wb.Ext.drew ?_) | (with_reducible refine Wb.Ext.drewN ?_ _) | (with_reducible refine Wb.Ext.alloc ?_ _) | (with_reducible refine Wb.Ext.trans ?_ (by assumption))))) zs, Wb.Ext.keep (w := W5) (by (repeat' (first | (with_reducible assumption) | (with_reducible exact Wb.Ext.refl _) | (with_reducible refine Wb.Ext.drew ?_) | (with_reducible refine Wb.Ext.drewN ?_ _) | (with_reducible refine Wb.Ext.alloc ?_ _) | (with_reducible refine Wb.Ext.trans ?_ (by assumption))))) zt, Wb.Ext.keep (w := W5) (by (repeat' (first | (with_reducible assumption) | (with_reducible exact Wb.Ext.refl _) | (with_reducible refine Wb.Ext.drew ?_) | (with_reducible refine Wb.Ext.drewN ?_ _) | (with_reducible refine Wb.Ext.alloc ?_ _) | (with_reducible refine Wb.Ext.trans ?_ (by assumption))))) zp, Wb.Ext.keep (w := W5) (by (repeat' (first | (with_reducible assumption) | (with_reducible exact Wb.Ext.refl _) | (with_reducible refine Wb.Ext.drew ?_) | (with_reducible refine Wb.Ext.drewN ?_ _) | (with_reducible refine Wb.Ext.alloc ?_ _) | (with_reducible refine Wb.Ext.trans ?_ (by assumption))))) zq⟩ (fun hHeld => ?_)
                clear hK K
                (try simp only [Act.put, List.setIfInBounds_toArray, List.set_cons_zero, List.set_cons_succ])
                refine take_d (i := 4) (d := 65) (v := ?_) rfl rfl (by kernel_rfl) (by kernel_rfl) (by kernel_rfl) (fun _ _ _ h => h) (Or.inl ⟨by rfl, ?_⟩) (by assumption) ?_
                rotate_left
                · (intro w hSw; (try dsimp only at hSw); go_simp; (try with_reducible rfl))
                (try simp only [Act.put, List.setIfInBounds_toArray, List.set_cons_zero, List.set_cons_succ])
                refine take_d (i := 5) (d := 66) (v := ?_) rfl rfl (by kernel_rfl) (by kernel_rfl) (by kernel_rfl) (fun _ _ _ h => h) (Or.inl ⟨by rfl, ?_⟩) (by assumption) ?_
                rotate_left
                · (intro w hSw; (try dsimp only at hSw); go_simp; (try with_reducible rfl))
                (try simp only [Act.put, List.setIfInBounds_toArray, List.set_cons_zero, List.set_cons_succ])
                refine take_d (i := 6) (d := 67) (v := ?_) rfl rfl (by kernel_rfl) (by kernel_rfl) (by kernel_rfl) (fun _ _ _ h => h) (Or.inl ⟨by rfl, ?_⟩) (by assumption) ?_
                rotate_left
                · (intro w hSw; (try dsimp only at hSw); go_simp; (try with_reducible rfl))
                (try simp only [Act.put, List.setIfInBounds_toArray, List.set_cons_zero, List.set_cons_succ])
                refine take_d (i := 7) (d := 68) (v := ?_) rfl rfl (by kernel_rfl) (by kernel_rfl) (by kernel_rfl) (fun _ _ _ h => h) (Or.inl ⟨by rfl, ?_⟩) (by assumption) ?_
                rotate_left
                · (intro w hSw; (try dsimp only at hSw); go_simp; (try with_reducible rfl))
                (try simp only [Act.put, List.setIfInBounds_toArray, List.set_cons_zero, List.set_cons_succ])
                refine take_d (i := 8) (d := 69) (v := ?_) rfl rfl (by kernel_rfl) (by kernel_rfl) (by kernel_rfl) (fun _ _ _ h => h) (Or.inl ⟨by rfl, ?_⟩) (by assumption) ?_
                rotate_left
                · (intro w hSw; (try dsimp only at hSw); go_simp; (try with_reducible rfl))
                (try simp only [Act.put, List.setIfInBounds_toArray, List.set_cons_zero, List.set_cons_succ])
                refine take_d (i := 11) (d := 72) (v := ?_) rfl rfl (by kernel_rfl) (by kernel_rfl) (by kernel_rfl) (fun _ _ _ h => h) (Or.inl ⟨by rfl, ?_⟩) (by assumption) ?_
                rotate_left
                · (intro w hSw; (try dsimp only at hSw); go_simp; (try with_reducible rfl))
                (try simp only [Act.put, List.setIfInBounds_toArray, List.set_cons_zero, List.set_cons_succ])
                refine wpAnyH_ready (rs := [9]) (by kernel_rfl) (by simp) ?_
                refine AllReadyH.cons (o := _) rfl (fun K hK => ?_) ?_
                · go_simp
                  go_at_call 18
                  go_fit (union_any _ _ p q _ (HPp.out.ext (by (repeat' (first | (with_reducible assumption) | (with_reducible exact Wb.Ext.refl _) | (with_reducible refine Wb.Ext.drew ?_) | (with_reducible refine Wb.Ext.drewN ?_ _) | (with_reducible refine Wb.Ext.alloc ?_ _) | (with_reducible refine Wb.Ext.trans ?_ (by assumption)))))) (HPq.out.ext (by (repeat' (first | (with_reducible assumption) | (with_reducible exact Wb.Ext.refl _) | (with_reducible refine Wb.Ext.drew ?_) | (with_reducible refine Wb.Ext.drewN ?_ _) | (with_reducible refine Wb.Ext.alloc ?_ _) | (with_reducible refine Wb.Ext.trans ?_ (by assumption)))))) HSp.out.canon HSq.out.canon HSp.out.bd HSq.out.bd (by omega) (by omega))
                  rintro e w53 ⟨v53, r53, rfl, hs53, hp53, hb53⟩
                  obtain ⟨sa53, sc53, rfl⟩ := hp53.1.shape
                  have HS53 := Lib.hid hs53
                  have hl53 : r53.length ≤ 640 := by have := hs53.len; (try simp only [List.length_cons, List.length_nil] at this); omega
                  have HE53 := Lib.hid (has_uni hs53)
                  replace hb53 : Wb.Ext w52 w53 := Wb.Ext.trans (by (repeat' (first | (with_reducible assumption) | (with_reducible exact Wb.Ext.refl _) | (with_reducible refine Wb.Ext.drew ?_) | (with_reducible refine Wb.Ext.drewN ?_ _) | (with_reducible refine Wb.Ext.alloc ?_ _) | (with_reducible refine Wb.Ext.trans ?_ (by assumption))))) hb53
                  replace HP51 := Lib.hid (HP51.out.ext hb53)
                  have hx53 : Wb.Ext W5 w53 := Wb.Ext.trans (by (repeat' (first | (with_reducible assumption) | (with_reducible exact Wb.Ext.refl _) | (with_reducible refine Wb.Ext.drew ?_) | (with_reducible refine Wb.Ext.drewN ?_ _) | (with_reducible refine Wb.Ext.alloc ?_ _) | (with_reducible refine Wb.Ext.trans ?_ (by assumption))))) hb53
                  clear hb53
                  have HP53 := Lib.hid hp53
                  clear hs53 hp53
                  refine hK.out _ _ ⟨Wb.Ext.keep (w := W5) (by (repeat' (first | (with_reducible assumption) | (with_reducible exact Wb.Ext.refl _) | (with_reducible refine Wb.Ext.drew ?_) | (with_reducible refine Wb.Ext.drewN ?_ _) | (with_reducible refine Wb.Ext.alloc ?_ _) | (with_reducible refine Wb.Ext.trans ?_ (by assumption))))) zs, Wb.Ext.keep (w := W5) (by (repeat' (first | (with_reducible assumption) | (with_reducible exact Wb.Ext.refl _) | (with_reducible refine Wb.Ext.drew ?_) | (with_reducible refine Wb.Ext.drewN ?_ _) | (with_reducible refine Wb.Ext.alloc ?_ _) | (with_reducible refine Wb.Ext.trans ?_ (by assumption))))) zt, Wb.Ext.keep (w := W5) (by (repeat' (first | (with_reducible assumption) | (with_reducible exact Wb.Ext.refl _) | (with_reducible refine Wb.Ext.drew ?_) | (with_reducible refine Wb.Ext.drewN ?_ _) | (with_reducible refine Wb.Ext.alloc ?_ _) | (with_reducible refine Wb.Ext.trans ?_ (by assumption))))) zp, Wb.Ext.keep (w := W5) (by (repeat' (first | (with_reducible assumption) | (with_reducible exact Wb.Ext.refl _) | (with_reducible refine Wb.Ext.drew ?_) | (with_reducible refine Wb.Ext.drewN ?_ _) | (with_reducible refine Wb.Ext.alloc ?_ _) | (with_reducible refine Wb.Ext.trans ?_ (by assumption))))) zq⟩ (fun hHeld => ?_)
                  clear hK K
                  (try simp only [Act.put, List.setIfInBounds_toArray, List.set_cons_zero, List.set_cons_succ])
                  refine wpAnyH_ready (rs := [10]) (by kernel_rfl) (by simp) ?_
                  refine AllReadyH.cons (o := _) rfl (fun K hK => ?_) ?_
                  · go_simp
                    go_at_call 17
                    go_fit (all_any _ r53 _ (HP53.out.ext (by (repeat' (first | (with_reducible assumption) | (with_reducible exact Wb.Ext.refl _) | (with_reducible refine Wb.Ext.drew ?_) | (with_reducible refine Wb.Ext.drewN ?_ _) | (with_reducible refine Wb.Ext.alloc ?_ _) | (with_reducible refine Wb.Ext.trans ?_ (by assumption)))))) (by omega))
                    rintro e w54 ⟨v54, rfl, hp54, hb54⟩
                    obtain ⟨sa54, sc54, rfl⟩ := hp54.1.shape
                    replace hb54 : Wb.Ext w53 w54 := Wb.Ext.trans (by (repeat' (first | (with_reducible assumption) | (with_reducible exact Wb.Ext.refl _) | (with_reducible refine Wb.Ext.drew ?_) | (with_reducible refine Wb.Ext.drewN ?_ _) | (with_reducible refine Wb.Ext.alloc ?_ _) | (with_reducible refine Wb.Ext.trans ?_ (by assumption))))) hb54
                    replace HP51 := Lib.hid (HP51.out.ext hb54)
                    replace HP53 := Lib.hid (HP53.out.ext hb54)
                    have hx54 : Wb.Ext W5 w54 := Wb.Ext.trans (by (repeat' (first | (with_reducible assumption) | (with_reducible exact Wb.Ext.refl _) | (with_reducible refine Wb.Ext.drew ?_) | (with_reducible refine Wb.Ext.drewN ?_ _) | (with_reducible refine Wb.Ext.alloc ?_ _) | (with_reducible refine Wb.Ext.trans ?_ (by assumption))))) hb54
                    clear hb54
                    have HP54 := Lib.hid hp54
                    clear hp54
                    refine hK.out _ _ ⟨Wb.Ext.keep (w := W5) (by (repeat' (first | (with_reducible assumption) | (with_reducible exact Wb.Ext.refl _) | (with_reducible refine Wb.Ext.drew ?_) | (with_reducible refine Wb.Ext.drewN ?_ _) | (with_reducible refine Wb.Ext.alloc ?_ _) | (with_reducible refine Wb.Ext.trans ?_ (by assumption))))) zs, Wb.Ext.keep (w := W5) (by (repeat' (first | (with_reducible assumption) | (with_reducible exact Wb.Ext.refl _) | (with_reducible refine Wb.Ext.drew ?_) | (with_reducible refine Wb.Ext.drewN ?_ _) | (with_reducible refine Wb.Ext.alloc ?_ _) | (with_reducible refine Wb.Ext.trans ?_ (by assumption))))) zt, Wb.Ext.keep (w := W5) (by (repeat' (first | (with_reducible assumption) | (with_reducible exact Wb.Ext.refl _) | (with_reducible refine Wb.Ext.drew ?_) | (with_reducible refine Wb.Ext.drewN ?_ _) | (with_reducible refine Wb.Ext.alloc ?_ _) | (with_reducible refine Wb.Ext.trans ?_ (by assumption))))) zp, Wb.Ext.keep (w := W5) (by (repeat' (first | (with_reducible assumption) | (with_reducible exact Wb.Ext.refl _) | (with_reducible refine Wb.Ext.drew ?_) | (with_reducible refine Wb.Ext.drewN ?_ _) | (with_reducible refine Wb.Ext.alloc ?_ _) | (with_reducible refine Wb.Ext.trans ?_ (by assumption))))) zq⟩ (fun hHeld => ?_)
                    clear hK K
                    (try simp only [Act.put, List.setIfInBounds_toArray, List.set_cons_zero, List.set_cons_succ])
                    refine wpAnyH_ready (rs := [12]) (by kernel_rfl) (by simp) ?_
                    refine AllReadyH.cons (o := _) rfl (fun K hK => ?_) ?_
                    · go_simp
                      go_at_call 17
                      go_fit (all_any _ s _ (HPs.out.ext (by (repeat' (first | (with_reducible assumption) | (with_reducible exact Wb.Ext.refl _) | (with_reducible refine Wb.Ext.drew ?_) | (with_reducible refine Wb.Ext.drewN ?_ _) | (with_reducible refine Wb.Ext.alloc ?_ _) | (with_reducible refine Wb.Ext.trans ?_ (by assumption)))))) (by omega))
                      rintro e w55 ⟨v55, rfl, hp55, hb55⟩
                      obtain ⟨sa55, sc55, rfl⟩ := hp55.1.shape
                      replace hb55 : Wb.Ext w54 w55 := Wb.Ext.trans (by (repeat' (first | (with_reducible assumption) | (with_reducible exact Wb.Ext.refl _) | (with_reducible refine Wb.Ext.drew ?_) | (with_reducible refine Wb.Ext.drewN ?_ _) | (with_reducible refine Wb.Ext.alloc ?_ _) | (with_reducible refine Wb.Ext.trans ?_ (by assumption))))) hb55
                      replace HP51 := Lib.hid (HP51.out.ext hb55)
                      replace HP53 := Lib.hid (HP53.out.ext hb55)
                      replace HP54 := Lib.hid (HP54.out.ext hb55)
                      have hx55 : Wb.Ext W5 w55 := Wb.Ext.trans (by (repeat' (first | (with_reducible assumption) | (with_reducible exact Wb.Ext.refl _) | (with_reducible refine Wb.Ext.drew ?_) | (with_reducible refine Wb.Ext.drewN ?_ _) | (with_reducible refine Wb.Ext.alloc ?_ _) | (with_reducible refine Wb.Ext.trans ?_ (by assumption))))) hb55
                      clear hb55
                      have HP55 := Lib.hid hp55
                      clear hp55
                      refine hK.out _ _ ⟨Wb.Ext.keep (w := W5) (by (repeat' (first | (with_reducible assumption) | (with_reducible exact Wb.Ext.refl _) | (with_reducible refine Wb.Ext.drew ?_) | (with_reducible refine Wb.Ext.drewN ?_ _) | (with_reducible refine Wb.Ext.alloc ?_ _) | (with_reducible refine Wb.Ext.trans ?_ (by assumption))))) zs, Wb.Ext.keep (w := W5) (by (repeat' (first | (with_reducible assumption) | (with_reducible exact Wb.Ext.refl _) | (with_reducible refine Wb.Ext.drew ?_) | (with_reducible refine Wb.Ext.drewN ?_ _) | (with_reducible refine Wb.Ext.alloc ?_ _) | (with_reducible refine Wb.Ext.trans ?_ (by assumption))))) zt, Wb.Ext.keep (w := W5) (by (repeat' (first | (with_reducible assumption) | (with_reducible exact Wb.Ext.refl _) | (with_reducible refine Wb.Ext.drew ?_) | (with_reducible refine Wb.Ext.drewN ?_ _) | (with_reducible refine Wb.Ext.alloc ?_ _) | (with_reducible refine Wb.Ext.trans ?_ (by assumption))))) zp, Wb.Ext.keep (w := W5) (by (repeat' (first | (with_reducible assumption) | (with_reducible exact Wb.Ext.refl _) | (with_reducible refine Wb.Ext.drew ?_) | (with_reducible refine Wb.Ext.drewN ?_ _) | (with_reducible refine Wb.Ext.alloc ?_ _) | (with_reducible refine Wb.Ext.trans ?_ (by assumption))))) zq⟩ (fun hHeld => ?_)
                      clear hK K
                      (try simp only [Act.put, List.setIfInBounds_toArray, List.set_cons_zero, List.set_cons_succ])
                      refine wpAnyH_ready (rs := [13]) (by kernel_rfl) (by simp) ?_
                      refine AllReadyH.cons (o := _) rfl (fun K hK => ?_) ?_
                      · go_simp
                        go_at_call 16
                        go_fit (same2_any _ _ r53 s _ (canon_eq HSs.out.canon HS53.out.canon (fun d => by simp only [HE53.out d, HEp.out d, HEq.out d] <;> (cases Wb.hasL s d <;> cases Wb.hasL t d <;> rfl))) (HP54.out.1.ext (by (repeat' (first | (with_reducible assumption) | (with_reducible exact Wb.Ext.refl _) | (with_reducible refine Wb.Ext.drew ?_) | (with_reducible refine Wb.Ext.drewN ?_ _) | (with_reducible refine Wb.Ext.alloc ?_ _) | (with_reducible refine Wb.Ext.trans ?_ (by assumption)))))) (HP55.out.1.ext (by (repeat' (first | (with_reducible assumption) | (with_reducible exact Wb.Ext.refl _) | (with_reducible refine Wb.Ext.drew ?_) | (with_reducible refine Wb.Ext.drewN ?_ _) | (with_reducible refine Wb.Ext.alloc ?_ _) | (with_reducible refine Wb.Ext.trans ?_ (by assumption)))))) (by omega))
                        rintro e w56 ⟨rfl, hb56⟩
                        replace hb56 : Wb.Ext w55 w56 := Wb.Ext.trans (by (repeat' (first | (with_reducible assumption) | (with_reducible exact Wb.Ext.refl _) | (with_reducible refine Wb.Ext.drew ?_) | (with_reducible refine Wb.Ext.drewN ?_ _) | (with_reducible refine Wb.Ext.alloc ?_ _) | (with_reducible refine Wb.Ext.trans ?_ (by assumption))))) hb56
                        replace HP51 := Lib.hid (HP51.out.ext hb56)
                        replace HP53 := Lib.hid (HP53.out.ext hb56)
                        have hx56 : Wb.Ext W5 w56 := Wb.Ext.trans (by (repeat' (first | (with_reducible assumption) | (with_reducible exact Wb.Ext.refl _) | (with_reducible refine Wb.Ext.drew ?_) | (with_reducible refine Wb.Ext.drewN ?_ _) | (with_reducible refine Wb.Ext.alloc ?_ _) | (with_reducible refine Wb.Ext.trans ?_ (by assumption))))) hb56
                        clear hb56
                        refine hK.out _ _ ⟨Wb.Ext.keep (w := W5) (by (repeat' (first | (with_reducible assumption) | (with_reducible exact Wb.Ext.refl _) | (with_reducible refine Wb.Ext.drew ?_) | (with_reducible refine Wb.Ext.drewN ?_ _) | (with_reducible refine Wb.Ext.alloc ?_ _) | (with_reducible refine Wb.Ext.trans ?_ (by assumption))))) zs, Wb.Ext.keep (w := W5) (by (repeat' (first | (with_reducible assumption) | (with_reducible exact Wb.Ext.refl _) | (with_reducible refine Wb.Ext.drew ?_) | (with_reducible refine Wb.Ext.drewN ?_ _) | (with_reducible refine Wb.Ext.alloc ?_ _) | (with_reducible refine Wb.Ext.trans ?_ (by assumption))))) zt, Wb.Ext.keep (w := W5) (by (repeat' (first | (with_reducible assumption) | (with_reducible exact Wb.Ext.refl _) | (with_reducible refine Wb.Ext.drew ?_) | (with_reducible refine Wb.Ext.drewN ?_ _) | (with_reducible refine Wb.Ext.alloc ?_ _) | (with_reducible refine Wb.Ext.trans ?_ (by assumption))))) zp, Wb.Ext.keep (w := W5) (by (repeat' (first | (with_reducible assumption) | (with_reducible exact Wb.Ext.refl _) | (with_reducible refine Wb.Ext.drew ?_) | (with_reducible refine Wb.Ext.drewN ?_ _) | (with_reducible refine Wb.Ext.alloc ?_ _) | (with_reducible refine Wb.Ext.trans ?_ (by assumption))))) zq⟩ (fun hHeld => ?_)
                        clear hK K
                        (try simp only [Act.put, List.setIfInBounds_toArray, List.set_cons_zero, List.set_cons_succ])
                        refine take_d (i := 14) (d := 75) (v := ?_) rfl rfl (by kernel_rfl) (by kernel_rfl) (by kernel_rfl) (fun _ _ _ h => h) (Or.inl ⟨by rfl, ?_⟩) (by assumption) ?_
                        rotate_left
                        · (intro w hSw; (try dsimp only at hSw); go_simp; (try with_reducible rfl))
                        (try simp only [Act.put, List.setIfInBounds_toArray, List.set_cons_zero, List.set_cons_succ])
                        refine take_d (i := 15) (d := 76) (v := ?_) rfl rfl (by kernel_rfl) (by kernel_rfl) (by kernel_rfl) (fun _ _ _ h => h) (Or.inl ⟨by rfl, ?_⟩) (by assumption) ?_
                        rotate_left
                        · (intro w hSw; (try dsimp only at hSw); go_simp; (try with_reducible rfl))
                        (try simp only [Act.put, List.setIfInBounds_toArray, List.set_cons_zero, List.set_cons_succ])
                        refine take_d (i := 16) (d := 77) (v := ?_) rfl rfl (by kernel_rfl) (by kernel_rfl) (by kernel_rfl) (fun _ _ _ h => h) (Or.inl ⟨by rfl, ?_⟩) (by assumption) ?_
                        rotate_left
                        · (intro w hSw; (try dsimp only at hSw); go_simp; (try with_reducible rfl))
                        (try simp only [Act.put, List.setIfInBounds_toArray, List.set_cons_zero, List.set_cons_succ])
                        refine take_d (i := 18) (d := 79) (v := ?_) rfl rfl (by kernel_rfl) (by kernel_rfl) (by kernel_rfl) (fun _ _ _ h => h) (Or.inl ⟨by rfl, ?_⟩) (by assumption) ?_
                        rotate_left
                        · (intro w hSw; (try dsimp only at hSw); go_simp; (try with_reducible rfl))
                        (try simp only [Act.put, List.setIfInBounds_toArray, List.set_cons_zero, List.set_cons_succ])
                        refine take_d (i := 21) (d := 82) (v := ?_) rfl rfl (by kernel_rfl) (by kernel_rfl) (by kernel_rfl) (fun _ _ _ h => h) (Or.inl ⟨by rfl, ?_⟩) (by assumption) ?_
                        rotate_left
                        · (intro w hSw; (try dsimp only at hSw); go_simp; (try with_reducible rfl))
                        (try simp only [Act.put, List.setIfInBounds_toArray, List.set_cons_zero, List.set_cons_succ])
                        refine wpAnyH_ready (rs := [17]) (by kernel_rfl) (by simp) ?_
                        refine AllReadyH.cons (o := _) rfl (fun K hK => ?_) ?_
                        · go_simp
                          go_at_call 24
                          go_fit (days_any _ p _ (HPp.out.ext (by (repeat' (first | (with_reducible assumption) | (with_reducible exact Wb.Ext.refl _) | (with_reducible refine Wb.Ext.drew ?_) | (with_reducible refine Wb.Ext.drewN ?_ _) | (with_reducible refine Wb.Ext.alloc ?_ _) | (with_reducible refine Wb.Ext.trans ?_ (by assumption)))))).1 HSp.out.bd (by omega))
                          rintro e w57 ⟨rfl, hb57⟩
                          rw [HNp.out]
                          replace hb57 : Wb.Ext w56 w57 := Wb.Ext.trans (by (repeat' (first | (with_reducible assumption) | (with_reducible exact Wb.Ext.refl _) | (with_reducible refine Wb.Ext.drew ?_) | (with_reducible refine Wb.Ext.drewN ?_ _) | (with_reducible refine Wb.Ext.alloc ?_ _) | (with_reducible refine Wb.Ext.trans ?_ (by assumption))))) hb57
                          replace HP51 := Lib.hid (HP51.out.ext hb57)
                          replace HP53 := Lib.hid (HP53.out.ext hb57)
                          have hx57 : Wb.Ext W5 w57 := Wb.Ext.trans (by (repeat' (first | (with_reducible assumption) | (with_reducible exact Wb.Ext.refl _) | (with_reducible refine Wb.Ext.drew ?_) | (with_reducible refine Wb.Ext.drewN ?_ _) | (with_reducible refine Wb.Ext.alloc ?_ _) | (with_reducible refine Wb.Ext.trans ?_ (by assumption))))) hb57
                          clear hb57
                          refine hK.out _ _ ⟨Wb.Ext.keep (w := W5) (by (repeat' (first | (with_reducible assumption) | (with_reducible exact Wb.Ext.refl _) | (with_reducible refine Wb.Ext.drew ?_) | (with_reducible refine Wb.Ext.drewN ?_ _) | (with_reducible refine Wb.Ext.alloc ?_ _) | (with_reducible refine Wb.Ext.trans ?_ (by assumption))))) zs, Wb.Ext.keep (w := W5) (by (repeat' (first | (with_reducible assumption) | (with_reducible exact Wb.Ext.refl _) | (with_reducible refine Wb.Ext.drew ?_) | (with_reducible refine Wb.Ext.drewN ?_ _) | (with_reducible refine Wb.Ext.alloc ?_ _) | (with_reducible refine Wb.Ext.trans ?_ (by assumption))))) zt, Wb.Ext.keep (w := W5) (by (repeat' (first | (with_reducible assumption) | (with_reducible exact Wb.Ext.refl _) | (with_reducible refine Wb.Ext.drew ?_) | (with_reducible refine Wb.Ext.drewN ?_ _) | (with_reducible refine Wb.Ext.alloc ?_ _) | (with_reducible refine Wb.Ext.trans ?_ (by assumption))))) zp, Wb.Ext.keep (w := W5) (by (repeat' (first | (with_reducible assumption) | (with_reducible exact Wb.Ext.refl _) | (with_reducible refine Wb.Ext.drew ?_) | (with_reducible refine Wb.Ext.drewN ?_ _) | (with_reducible refine Wb.Ext.alloc ?_ _) | (with_reducible refine Wb.Ext.trans ?_ (by assumption))))) zq⟩ (fun hHeld => ?_)
                          clear hK K
                          (try simp only [Act.put, List.setIfInBounds_toArray, List.set_cons_zero, List.set_cons_succ])
                          refine wpAnyH_ready (rs := [19]) (by kernel_rfl) (by simp) ?_
                          refine AllReadyH.cons (o := _) rfl (fun K hK => ?_) ?_
                          · go_simp
                            go_at_call 24
                            go_fit (days_any _ q _ (HPq.out.ext (by (repeat' (first | (with_reducible assumption) | (with_reducible exact Wb.Ext.refl _) | (with_reducible refine Wb.Ext.drew ?_) | (with_reducible refine Wb.Ext.drewN ?_ _) | (with_reducible refine Wb.Ext.alloc ?_ _) | (with_reducible refine Wb.Ext.trans ?_ (by assumption)))))).1 HSq.out.bd (by omega))
                            rintro e w58 ⟨rfl, hb58⟩
                            rw [HNq.out]
                            replace hb58 : Wb.Ext w57 w58 := Wb.Ext.trans (by (repeat' (first | (with_reducible assumption) | (with_reducible exact Wb.Ext.refl _) | (with_reducible refine Wb.Ext.drew ?_) | (with_reducible refine Wb.Ext.drewN ?_ _) | (with_reducible refine Wb.Ext.alloc ?_ _) | (with_reducible refine Wb.Ext.trans ?_ (by assumption))))) hb58
                            replace HP51 := Lib.hid (HP51.out.ext hb58)
                            replace HP53 := Lib.hid (HP53.out.ext hb58)
                            have hx58 : Wb.Ext W5 w58 := Wb.Ext.trans (by (repeat' (first | (with_reducible assumption) | (with_reducible exact Wb.Ext.refl _) | (with_reducible refine Wb.Ext.drew ?_) | (with_reducible refine Wb.Ext.drewN ?_ _) | (with_reducible refine Wb.Ext.alloc ?_ _) | (with_reducible refine Wb.Ext.trans ?_ (by assumption))))) hb58
                            clear hb58
                            refine hK.out _ _ ⟨Wb.Ext.keep (w := W5) (by (repeat' (first | (with_reducible assumption) | (with_reducible exact Wb.Ext.refl _) | (with_reducible refine Wb.Ext.drew ?_) | (with_reducible refine Wb.Ext.drewN ?_ _) | (with_reducible refine Wb.Ext.alloc ?_ _) | (with_reducible refine Wb.Ext.trans ?_ (by assumption))))) zs, Wb.Ext.keep (w := W5) (by (repeat' (first | (with_reducible assumption) | (with_reducible exact Wb.Ext.refl _) | (with_reducible refine Wb.Ext.drew ?_) | (with_reducible refine Wb.Ext.drewN ?_ _) | (with_reducible refine Wb.Ext.alloc ?_ _) | (with_reducible refine Wb.Ext.trans ?_ (by assumption))))) zt, Wb.Ext.keep (w := W5) (by (repeat' (first | (with_reducible assumption) | (with_reducible exact Wb.Ext.refl _) | (with_reducible refine Wb.Ext.drew ?_) | (with_reducible refine Wb.Ext.drewN ?_ _) | (with_reducible refine Wb.Ext.alloc ?_ _) | (with_reducible refine Wb.Ext.trans ?_ (by assumption))))) zp, Wb.Ext.keep (w := W5) (by (repeat' (first | (with_reducible assumption) | (with_reducible exact Wb.Ext.refl _) | (with_reducible refine Wb.Ext.drew ?_) | (with_reducible refine Wb.Ext.drewN ?_ _) | (with_reducible refine Wb.Ext.alloc ?_ _) | (with_reducible refine Wb.Ext.trans ?_ (by assumption))))) zq⟩ (fun hHeld => ?_)
                            clear hK K
                            (try simp only [Act.put, List.setIfInBounds_toArray, List.set_cons_zero, List.set_cons_succ])
                            refine take_d (i := 20) (d := 81) (v := ?_) rfl rfl (by kernel_rfl) (by kernel_rfl) (by kernel_rfl) (fun _ _ _ h => h) (Or.inl ⟨by rfl, ?_⟩) (by assumption) ?_
                            rotate_left
                            · (intro w hSw; (try dsimp only at hSw); go_simp; (try with_reducible rfl))
                            (try simp only [Act.put, List.setIfInBounds_toArray, List.set_cons_zero, List.set_cons_succ])
                            refine wpAnyH_ready (rs := [22]) (by kernel_rfl) (by simp) ?_
                            refine AllReadyH.cons (o := _) rfl (fun K hK => ?_) ?_
                            · go_simp
                              go_at_call 24
                              go_fit (days_any _ s _ (HPs.out.ext (by (repeat' (first | (with_reducible assumption) | (with_reducible exact Wb.Ext.refl _) | (with_reducible refine Wb.Ext.drew ?_) | (with_reducible refine Wb.Ext.drewN ?_ _) | (with_reducible refine Wb.Ext.alloc ?_ _) | (with_reducible refine Wb.Ext.trans ?_ (by assumption)))))).1 HSs.out.bd (by omega))
                              rintro e w59 ⟨rfl, hb59⟩
                              rw [HNs.out]
                              replace hb59 : Wb.Ext w58 w59 := Wb.Ext.trans (by (repeat' (first | (with_reducible assumption) | (with_reducible exact Wb.Ext.refl _) | (with_reducible refine Wb.Ext.drew ?_) | (with_reducible refine Wb.Ext.drewN ?_ _) | (with_reducible refine Wb.Ext.alloc ?_ _) | (with_reducible refine Wb.Ext.trans ?_ (by assumption))))) hb59
                              replace HP51 := Lib.hid (HP51.out.ext hb59)
                              replace HP53 := Lib.hid (HP53.out.ext hb59)
                              have hx59 : Wb.Ext W5 w59 := Wb.Ext.trans (by (repeat' (first | (with_reducible assumption) | (with_reducible exact Wb.Ext.refl _) | (with_reducible refine Wb.Ext.drew ?_) | (with_reducible refine Wb.Ext.drewN ?_ _) | (with_reducible refine Wb.Ext.alloc ?_ _) | (with_reducible refine Wb.Ext.trans ?_ (by assumption))))) hb59
                              clear hb59
                              refine hK.out _ _ ⟨Wb.Ext.keep (w := W5) (by (repeat' (first | (with_reducible assumption) | (with_reducible exact Wb.Ext.refl _) | (with_reducible refine Wb.Ext.drew ?_) | (with_reducible refine Wb.Ext.drewN ?_ _) | (with_reducible refine Wb.Ext.alloc ?_ _) | (with_reducible refine Wb.Ext.trans ?_ (by assumption))))) zs, Wb.Ext.keep (w := W5) (by (repeat' (first | (with_reducible assumption) | (with_reducible exact Wb.Ext.refl _) | (with_reducible refine Wb.Ext.drew ?_) | (with_reducible refine Wb.Ext.drewN ?_ _) | (with_reducible refine Wb.Ext.alloc ?_ _) | (with_reducible refine Wb.Ext.trans ?_ (by assumption))))) zt, Wb.Ext.keep (w := W5) (by (repeat' (first | (with_reducible assumption) | (with_reducible exact Wb.Ext.refl _) | (with_reducible refine Wb.Ext.drew ?_) | (with_reducible refine Wb.Ext.drewN ?_ _) | (with_reducible refine Wb.Ext.alloc ?_ _) | (with_reducible refine Wb.Ext.trans ?_ (by assumption))))) zp, Wb.Ext.keep (w := W5) (by (repeat' (first | (with_reducible assumption) | (with_reducible exact Wb.Ext.refl _) | (with_reducible refine Wb.Ext.drew ?_) | (with_reducible refine Wb.Ext.drewN ?_ _) | (with_reducible refine Wb.Ext.alloc ?_ _) | (with_reducible refine Wb.Ext.trans ?_ (by assumption))))) zq⟩ (fun hHeld => ?_)
                              clear hK K
                              (try simp only [Act.put, List.setIfInBounds_toArray, List.set_cons_zero, List.set_cons_succ])
                              refine take_d (i := 23) (d := 84) (v := ?_) rfl rfl (by kernel_rfl) (by kernel_rfl) (by kernel_rfl) (fun _ _ _ h => h) (Or.inl ⟨by rfl, ?_⟩) (by assumption) ?_
                              rotate_left
                              · (intro w hSw; (try dsimp only at hSw); go_simp; (try with_reducible rfl))
                              (try simp only [Act.put, List.setIfInBounds_toArray, List.set_cons_zero, List.set_cons_succ])
                              refine take_d (i := 24) (d := 85) (v := ?_) rfl rfl (by kernel_rfl) (by kernel_rfl) (by kernel_rfl) (fun _ _ _ h => h) (Or.inl ⟨by rfl, ?_⟩) (by assumption) ?_
                              rotate_left
                              · (intro w hSw; (try dsimp only at hSw); go_simp; (try with_reducible rfl))
                              (try simp only [Act.put, List.setIfInBounds_toArray, List.set_cons_zero, List.set_cons_succ])
                              refine take_d (i := 25) (d := 86) (v := ?_) rfl rfl (by kernel_rfl) (by kernel_rfl) (by kernel_rfl) (fun _ _ _ h => h) (Or.inl ⟨by rfl, ?_⟩) (by assumption) ?_
                              rotate_left
                              · (intro w hSw; (try dsimp only at hSw); go_simp; (try with_reducible rfl))
                              (try simp only [Act.put, List.setIfInBounds_toArray, List.set_cons_zero, List.set_cons_succ])
                              refine take_d (i := 26) (d := 87) (v := ?_) rfl rfl (by kernel_rfl) (by kernel_rfl) (by kernel_rfl) (fun _ _ _ h => h) (Or.inl ⟨by rfl, ?_⟩) (by assumption) ?_
                              rotate_left
                              · (intro w hSw; (try dsimp only at hSw); go_simp; (try with_reducible rfl))
                              (try simp only [Act.put, List.setIfInBounds_toArray, List.set_cons_zero, List.set_cons_succ])
                              refine take_d (i := 27) (d := 88) (v := ?_) rfl rfl (by kernel_rfl) (by kernel_rfl) (by kernel_rfl) (fun _ _ _ h => h) (Or.inl ⟨by rfl, ?_⟩) (by assumption) ?_
                              rotate_left
                              · (intro w hSw; (try dsimp only at hSw); go_simp; (try with_reducible rfl))
                              (try simp only [Act.put, List.setIfInBounds_toArray, List.set_cons_zero, List.set_cons_succ])
                              refine take_d (i := 30) (d := 91) (v := ?_) rfl rfl (by kernel_rfl) (by kernel_rfl) (by kernel_rfl) (fun _ _ _ h => h) (Or.inl ⟨by rfl, ?_⟩) (by assumption) ?_
                              rotate_left
                              · (intro w hSw; (try dsimp only at hSw); go_simp; (try with_reducible rfl))
                              (try simp only [Act.put, List.setIfInBounds_toArray, List.set_cons_zero, List.set_cons_succ])
                              refine take_d (i := 33) (d := 94) (v := ?_) rfl rfl (by kernel_rfl) (by kernel_rfl) (by kernel_rfl) (fun _ _ _ h => h) (Or.inl ⟨by rfl, ?_⟩) (by assumption) ?_
                              rotate_left
                              · (intro w hSw; (try dsimp only at hSw); go_simp; (try with_reducible rfl))
                              (try simp only [Act.put, List.setIfInBounds_toArray, List.set_cons_zero, List.set_cons_succ])
                              refine take_d (i := 35) (d := 96) (v := ?_) rfl rfl (by kernel_rfl) (by kernel_rfl) (by kernel_rfl) (fun _ _ _ h => h) (Or.inl ⟨by rfl, ?_⟩) (by assumption) ?_
                              rotate_left
                              · (intro w hSw; (try dsimp only at hSw); go_simp; (try with_reducible rfl))
                              (try simp only [Act.put, List.setIfInBounds_toArray, List.set_cons_zero, List.set_cons_succ])
                              refine wpAnyH_ready (rs := [28]) (by kernel_rfl) (by simp) ?_
                              refine AllReadyH.cons (o := _) rfl (fun K hK => ?_) ?_
                              · go_simp
                                go_at_call 18
                                go_fit (union_any _ _ s t _ (HPs.out.ext (by (repeat' (first | (with_reducible assumption) | (with_reducible exact Wb.Ext.refl _) | (with_reducible refine Wb.Ext.drew ?_) | (with_reducible refine Wb.Ext.drewN ?_ _) | (with_reducible refine Wb.Ext.alloc ?_ _) | (with_reducible refine Wb.Ext.trans ?_ (by assumption)))))) (HPt.out.ext (by (repeat' (first | (with_reducible assumption) | (with_reducible exact Wb.Ext.refl _) | (with_reducible refine Wb.Ext.drew ?_) | (with_reducible refine Wb.Ext.drewN ?_ _) | (with_reducible refine Wb.Ext.alloc ?_ _) | (with_reducible refine Wb.Ext.trans ?_ (by assumption)))))) HSs.out.canon HSt.out.canon HSs.out.bd HSt.out.bd (by omega) (by omega))
                                rintro e w60 ⟨v60, r60, rfl, hs60, hp60, hb60⟩
                                obtain ⟨sa60, sc60, rfl⟩ := hp60.1.shape
                                have HS60 := Lib.hid hs60
                                have hl60 : r60.length ≤ 160 := by have := hs60.len; (try simp only [List.length_cons, List.length_nil] at this); omega
                                have HE60 := Lib.hid (has_uni hs60)
                                replace hb60 : Wb.Ext w59 w60 := Wb.Ext.trans (by (repeat' (first | (with_reducible assumption) | (with_reducible exact Wb.Ext.refl _) | (with_reducible refine Wb.Ext.drew ?_) | (with_reducible refine Wb.Ext.drewN ?_ _) | (with_reducible refine Wb.Ext.alloc ?_ _) | (with_reducible refine Wb.Ext.trans ?_ (by assumption))))) hb60
                                replace HP51 := Lib.hid (HP51.out.ext hb60)
                                replace HP53 := Lib.hid (HP53.out.ext hb60)
                                have hx60 : Wb.Ext W5 w60 := Wb.Ext.trans (by (repeat' (first | (with_reducible assumption) | (with_reducible exact Wb.Ext.refl _) | (with_reducible refine Wb.Ext.drew ?_) | (with_reducible refine Wb.Ext.drewN ?_ _) | (with_reducible refine Wb.Ext.alloc ?_ _) | (with_reducible refine Wb.Ext.trans ?_ (by assumption))))) hb60
                                clear hb60
                                have HP60 := Lib.hid hp60
                                clear hs60 hp60
                                refine hK.out _ _ ⟨Wb.Ext.keep (w := W5) (by (repeat' (first | (with_reducible assumption) | (with_reducible exact Wb.Ext.refl _) | (with_reducible refine Wb.Ext.drew ?_) | (with_reducible refine Wb.Ext.drewN ?_ _) | (with_reducible refine Wb.Ext.alloc ?_ _) | (with_reducible refine Wb.Ext.trans ?_ (by assumption))))) zs, Wb.Ext.keep (w := W5) (by (repeat' (first | (with_reducible assumption) | (with_reducible exact Wb.Ext.refl _) | (with_reducible refine Wb.Ext.drew ?_) | (with_reducible refine Wb.Ext.drewN ?_ _) | (with_reducible refine Wb.Ext.alloc ?_ _) | (with_reducible refine Wb.Ext.trans ?_ (by assumption))))) zt, Wb.Ext.keep (w := W5) (by (repeat' (first | (with_reducible assumption) | (with_reducible exact Wb.Ext.refl _) | (with_reducible refine Wb.Ext.drew ?_) | (with_reducible refine Wb.Ext.drewN ?_ _) | (with_reducible refine Wb.Ext.alloc ?_ _) | (with_reducible refine Wb.Ext.trans ?_ (by assumption))))) zp, Wb.Ext.keep (w := W5) (by (repeat' (first | (with_reducible assumption) | (with_reducible exact Wb.Ext.refl _) | (with_reducible refine Wb.Ext.drew ?_) | (with_reducible refine Wb.Ext.drewN ?_ _) | (with_reducible refine Wb.Ext.alloc ?_ _) | (with_reducible refine Wb.Ext.trans ?_ (by assumption))))) zq⟩ (fun hHeld => ?_)
                                clear hK K
                                (try simp only [Act.put, List.setIfInBounds_toArray, List.set_cons_zero, List.set_cons_succ])
                                refine wpAnyH_ready (rs := [29]) (by kernel_rfl) (by simp) ?_
                                refine AllReadyH.cons (o := _) rfl (fun K hK => ?_) ?_
                                · go_simp
                                  go_at_call 24
                                  go_fit (days_any _ r60 _ (HP60.out.ext (by (repeat' (first | (with_reducible assumption) | (with_reducible exact Wb.Ext.refl _) | (with_reducible refine Wb.Ext.drew ?_) | (with_reducible refine Wb.Ext.drewN ?_ _) | (with_reducible refine Wb.Ext.alloc ?_ _) | (with_reducible refine Wb.Ext.trans ?_ (by assumption)))))).1 HS60.out.bd (by omega))
                                  rintro e w61 ⟨rfl, hb61⟩
                                  obtain ⟨nu, hnu⟩ : ∃ n, daysL r60 = n := ⟨_, rfl⟩
                                  rw [hnu]
                                  have e3 : IntKind.i64.wrap (nu + np) = ks := by
                                    have h := HU.out r60 _ HS60.out
                                    rw [hnu, HNp.out, HNs.out, HNt.out, HKS.out] at h
                                    rw [h]; exact HB.out
                                  clear hnu
                                  replace hb61 : Wb.Ext w60 w61 := Wb.Ext.trans (by (repeat' (first | (with_reducible assumption) | (with_reducible exact Wb.Ext.refl _) | (with_reducible refine Wb.Ext.drew ?_) | (with_reducible refine Wb.Ext.drewN ?_ _) | (with_reducible refine Wb.Ext.alloc ?_ _) | (with_reducible refine Wb.Ext.trans ?_ (by assumption))))) hb61
                                  replace HP51 := Lib.hid (HP51.out.ext hb61)
                                  replace HP53 := Lib.hid (HP53.out.ext hb61)
                                  replace HP60 := Lib.hid (HP60.out.ext hb61)
                                  have hx61 : Wb.Ext W5 w61 := Wb.Ext.trans (by (repeat' (first | (with_reducible assumption) | (with_reducible exact Wb.Ext.refl _) | (with_reducible refine Wb.Ext.drew ?_) | (with_reducible refine Wb.Ext.drewN ?_ _) | (with_reducible refine Wb.Ext.alloc ?_ _) | (with_reducible refine Wb.Ext.trans ?_ (by assumption))))) hb61
                                  clear hb61
                                  refine hK.out _ _ ⟨Wb.Ext.keep (w := W5) (by (repeat' (first | (with_reducible assumption) | (with_reducible exact Wb.Ext.refl _) | (with_reducible refine Wb.Ext.drew ?_) | (with_reducible refine Wb.Ext.drewN ?_ _) | (with_reducible refine Wb.Ext.alloc ?_ _) | (with_reducible refine Wb.Ext.trans ?_ (by assumption))))) zs, Wb.Ext.keep (w := W5) (by (repeat' (first | (with_reducible assumption) | (with_reducible exact Wb.Ext.refl _) | (with_reducible refine Wb.Ext.drew ?_) | (with_reducible refine Wb.Ext.drewN ?_ _) | (with_reducible refine Wb.Ext.alloc ?_ _) | (with_reducible refine Wb.Ext.trans ?_ (by assumption))))) zt, Wb.Ext.keep (w := W5) (by (repeat' (first | (with_reducible assumption) | (with_reducible exact Wb.Ext.refl _) | (with_reducible refine Wb.Ext.drew ?_) | (with_reducible refine Wb.Ext.drewN ?_ _) | (with_reducible refine Wb.Ext.alloc ?_ _) | (with_reducible refine Wb.Ext.trans ?_ (by assumption))))) zp, Wb.Ext.keep (w := W5) (by (repeat' (first | (with_reducible assumption) | (with_reducible exact Wb.Ext.refl _) | (with_reducible refine Wb.Ext.drew ?_) | (with_reducible refine Wb.Ext.drewN ?_ _) | (with_reducible refine Wb.Ext.alloc ?_ _) | (with_reducible refine Wb.Ext.trans ?_ (by assumption))))) zq⟩ (fun hHeld => ?_)
                                  clear hK K
                                  (try simp only [Act.put, List.setIfInBounds_toArray, List.set_cons_zero, List.set_cons_succ])
                                  refine wpAnyH_ready (rs := [31]) (by kernel_rfl) (by simp) ?_
                                  refine AllReadyH.cons (o := _) rfl (fun K hK => ?_) ?_
                                  · go_simp
                                    go_at_call 24
                                    go_fit (days_any _ p _ (HPp.out.ext (by (repeat' (first | (with_reducible assumption) | (with_reducible exact Wb.Ext.refl _) | (with_reducible refine Wb.Ext.drew ?_) | (with_reducible refine Wb.Ext.drewN ?_ _) | (with_reducible refine Wb.Ext.alloc ?_ _) | (with_reducible refine Wb.Ext.trans ?_ (by assumption)))))).1 HSp.out.bd (by omega))
                                    rintro e w62 ⟨rfl, hb62⟩
                                    rw [HNp.out]
                                    replace hb62 : Wb.Ext w61 w62 := Wb.Ext.trans (by (repeat' (first | (with_reducible assumption) | (with_reducible exact Wb.Ext.refl _) | (with_reducible refine Wb.Ext.drew ?_) | (with_reducible refine Wb.Ext.drewN ?_ _) | (with_reducible refine Wb.Ext.alloc ?_ _) | (with_reducible refine Wb.Ext.trans ?_ (by assumption))))) hb62
                                    replace HP51 := Lib.hid (HP51.out.ext hb62)
                                    replace HP53 := Lib.hid (HP53.out.ext hb62)
                                    replace HP60 := Lib.hid (HP60.out.ext hb62)
                                    have hx62 : Wb.Ext W5 w62 := Wb.Ext.trans (by (repeat' (first | (with_reducible assumption) | (with_reducible exact Wb.Ext.refl _) | (with_reducible refine Wb.Ext.drew ?_) | (with_reducible refine Wb.Ext.drewN ?_ _) | (with_reducible refine Wb.Ext.alloc ?_ _) | (with_reducible refine Wb.Ext.trans ?_ (by assumption))))) hb62
                                    clear hb62
                                    refine hK.out _ _ ⟨Wb.Ext.keep (w := W5) (by (repeat' (first | (with_reducible assumption) | (with_reducible exact Wb.Ext.refl _) | (with_reducible refine Wb.Ext.drew ?_) | (with_reducible refine Wb.Ext.drewN ?_ _) | (with_reducible refine Wb.Ext.alloc ?_ _) | (with_reducible refine Wb.Ext.trans ?_ (by assumption))))) zs, Wb.Ext.keep (w := W5) (by (repeat' (first | (with_reducible assumption) | (with_reducible exact Wb.Ext.refl _) | (with_reducible refine Wb.Ext.drew ?_) | (with_reducible refine Wb.Ext.drewN ?_ _) | (with_reducible refine Wb.Ext.alloc ?_ _) | (with_reducible refine Wb.Ext.trans ?_ (by assumption))))) zt, Wb.Ext.keep (w := W5) (by (repeat' (first | (with_reducible assumption) | (with_reducible exact Wb.Ext.refl _) | (with_reducible refine Wb.Ext.drew ?_) | (with_reducible refine Wb.Ext.drewN ?_ _) | (with_reducible refine Wb.Ext.alloc ?_ _) | (with_reducible refine Wb.Ext.trans ?_ (by assumption))))) zp, Wb.Ext.keep (w := W5) (by (repeat' (first | (with_reducible assumption) | (with_reducible exact Wb.Ext.refl _) | (with_reducible refine Wb.Ext.drew ?_) | (with_reducible refine Wb.Ext.drewN ?_ _) | (with_reducible refine Wb.Ext.alloc ?_ _) | (with_reducible refine Wb.Ext.trans ?_ (by assumption))))) zq⟩ (fun hHeld => ?_)
                                    clear hK K
                                    (try simp only [Act.put, List.setIfInBounds_toArray, List.set_cons_zero, List.set_cons_succ])
                                    refine take_d (i := 32) (d := 93) (v := ?_) rfl rfl (by kernel_rfl) (by kernel_rfl) (by kernel_rfl) (fun _ _ _ h => h) (Or.inl ⟨by rfl, ?_⟩) (by assumption) ?_
                                    rotate_left
                                    · (intro w hSw; (try dsimp only at hSw); go_simp; (try with_reducible rfl))
                                    (try simp only [Act.put, List.setIfInBounds_toArray, List.set_cons_zero, List.set_cons_succ])
                                    refine wpAnyH_ready (rs := [34]) (by kernel_rfl) (by simp) ?_
                                    refine AllReadyH.cons (o := _) rfl (fun K hK => ?_) ?_
                                    · go_simp
                                      go_at_call 24
                                      go_fit (days_any _ s _ (HPs.out.ext (by (repeat' (first | (with_reducible assumption) | (with_reducible exact Wb.Ext.refl _) | (with_reducible refine Wb.Ext.drew ?_) | (with_reducible refine Wb.Ext.drewN ?_ _) | (with_reducible refine Wb.Ext.alloc ?_ _) | (with_reducible refine Wb.Ext.trans ?_ (by assumption)))))).1 HSs.out.bd (by omega))
                                      rintro e w63 ⟨rfl, hb63⟩
                                      rw [HNs.out]
                                      replace hb63 : Wb.Ext w62 w63 := Wb.Ext.trans (by (repeat' (first | (with_reducible assumption) | (with_reducible exact Wb.Ext.refl _) | (with_reducible refine Wb.Ext.drew ?_) | (with_reducible refine Wb.Ext.drewN ?_ _) | (with_reducible refine Wb.Ext.alloc ?_ _) | (with_reducible refine Wb.Ext.trans ?_ (by assumption))))) hb63
                                      replace HP51 := Lib.hid (HP51.out.ext hb63)
                                      replace HP53 := Lib.hid (HP53.out.ext hb63)
                                      replace HP60 := Lib.hid (HP60.out.ext hb63)
                                      have hx63 : Wb.Ext W5 w63 := Wb.Ext.trans (by (repeat' (first | (with_reducible assumption) | (with_reducible exact Wb.Ext.refl _) | (with_reducible refine Wb.Ext.drew ?_) | (with_reducible refine Wb.Ext.drewN ?_ _) | (with_reducible refine Wb.Ext.alloc ?_ _) | (with_reducible refine Wb.Ext.trans ?_ (by assumption))))) hb63
                                      clear hb63
                                      refine hK.out _ _ ⟨Wb.Ext.keep (w := W5) (by (repeat' (first | (with_reducible assumption) | (with_reducible exact Wb.Ext.refl _) | (with_reducible refine Wb.Ext.drew ?_) | (with_reducible refine Wb.Ext.drewN ?_ _) | (with_reducible refine Wb.Ext.alloc ?_ _) | (with_reducible refine Wb.Ext.trans ?_ (by assumption))))) zs, Wb.Ext.keep (w := W5) (by (repeat' (first | (with_reducible assumption) | (with_reducible exact Wb.Ext.refl _) | (with_reducible refine Wb.Ext.drew ?_) | (with_reducible refine Wb.Ext.drewN ?_ _) | (with_reducible refine Wb.Ext.alloc ?_ _) | (with_reducible refine Wb.Ext.trans ?_ (by assumption))))) zt, Wb.Ext.keep (w := W5) (by (repeat' (first | (with_reducible assumption) | (with_reducible exact Wb.Ext.refl _) | (with_reducible refine Wb.Ext.drew ?_) | (with_reducible refine Wb.Ext.drewN ?_ _) | (with_reducible refine Wb.Ext.alloc ?_ _) | (with_reducible refine Wb.Ext.trans ?_ (by assumption))))) zp, Wb.Ext.keep (w := W5) (by (repeat' (first | (with_reducible assumption) | (with_reducible exact Wb.Ext.refl _) | (with_reducible refine Wb.Ext.drew ?_) | (with_reducible refine Wb.Ext.drewN ?_ _) | (with_reducible refine Wb.Ext.alloc ?_ _) | (with_reducible refine Wb.Ext.trans ?_ (by assumption))))) zq⟩ (fun hHeld => ?_)
                                      clear hK K
                                      (try simp only [Act.put, List.setIfInBounds_toArray, List.set_cons_zero, List.set_cons_succ])
                                      refine wpAnyH_ready (rs := [36]) (by kernel_rfl) (by simp) ?_
                                      refine AllReadyH.cons (o := _) rfl (fun K hK => ?_) ?_
                                      · go_simp
                                        go_at_call 24
                                        go_fit (days_any _ t _ (HPt.out.ext (by (repeat' (first | (with_reducible assumption) | (with_reducible exact Wb.Ext.refl _) | (with_reducible refine Wb.Ext.drew ?_) | (with_reducible refine Wb.Ext.drewN ?_ _) | (with_reducible refine Wb.Ext.alloc ?_ _) | (with_reducible refine Wb.Ext.trans ?_ (by assumption)))))).1 HSt.out.bd (by omega))
                                        rintro e w64 ⟨rfl, hb64⟩
                                        rw [HNt.out]
                                        replace hb64 : Wb.Ext w63 w64 := Wb.Ext.trans (by (repeat' (first | (with_reducible assumption) | (with_reducible exact Wb.Ext.refl _) | (with_reducible refine Wb.Ext.drew ?_) | (with_reducible refine Wb.Ext.drewN ?_ _) | (with_reducible refine Wb.Ext.alloc ?_ _) | (with_reducible refine Wb.Ext.trans ?_ (by assumption))))) hb64
                                        replace HP51 := Lib.hid (HP51.out.ext hb64)
                                        replace HP53 := Lib.hid (HP53.out.ext hb64)
                                        replace HP60 := Lib.hid (HP60.out.ext hb64)
                                        have hx64 : Wb.Ext W5 w64 := Wb.Ext.trans (by (repeat' (first | (with_reducible assumption) | (with_reducible exact Wb.Ext.refl _) | (with_reducible refine Wb.Ext.drew ?_) | (with_reducible refine Wb.Ext.drewN ?_ _) | (with_reducible refine Wb.Ext.alloc ?_ _) | (with_reducible refine Wb.Ext.trans ?_ (by assumption))))) hb64
                                        clear hb64
                                        refine hK.out _ _ ⟨Wb.Ext.keep (w := W5) (by (repeat' (first | (with_reducible assumption) | (with_reducible exact Wb.Ext.refl _) | (with_reducible refine Wb.Ext.drew ?_) | (with_reducible refine Wb.Ext.drewN ?_ _) | (with_reducible refine Wb.Ext.alloc ?_ _) | (with_reducible refine Wb.Ext.trans ?_ (by assumption))))) zs, Wb.Ext.keep (w := W5) (by (repeat' (first | (with_reducible assumption) | (with_reducible exact Wb.Ext.refl _) | (with_reducible refine Wb.Ext.drew ?_) | (with_reducible refine Wb.Ext.drewN ?_ _) | (with_reducible refine Wb.Ext.alloc ?_ _) | (with_reducible refine Wb.Ext.trans ?_ (by assumption))))) zt, Wb.Ext.keep (w := W5) (by (repeat' (first | (with_reducible assumption) | (with_reducible exact Wb.Ext.refl _) | (with_reducible refine Wb.Ext.drew ?_) | (with_reducible refine Wb.Ext.drewN ?_ _) | (with_reducible refine Wb.Ext.alloc ?_ _) | (with_reducible refine Wb.Ext.trans ?_ (by assumption))))) zp, Wb.Ext.keep (w := W5) (by (repeat' (first | (with_reducible assumption) | (with_reducible exact Wb.Ext.refl _) | (with_reducible refine Wb.Ext.drew ?_) | (with_reducible refine Wb.Ext.drewN ?_ _) | (with_reducible refine Wb.Ext.alloc ?_ _) | (with_reducible refine Wb.Ext.trans ?_ (by assumption))))) zq⟩ (fun hHeld => ?_)
                                        clear hK K
                                        (try simp only [Act.put, List.setIfInBounds_toArray, List.set_cons_zero, List.set_cons_succ])
                                        refine take_d (i := 37) (d := 98) (v := ?_) rfl rfl (by kernel_rfl) (by kernel_rfl) (by kernel_rfl) (fun _ _ _ h => h) (Or.inl ⟨by rfl, ?_⟩) (by assumption) ?_
                                        rotate_left
                                        · (intro w hSw; (try dsimp only at hSw); go_simp; (try with_reducible rfl))
                                        (try simp only [Act.put, List.setIfInBounds_toArray, List.set_cons_zero, List.set_cons_succ])
                                        refine take_d (i := 38) (d := 99) (v := ?_) rfl rfl (by kernel_rfl) (by kernel_rfl) (by kernel_rfl) (fun _ _ _ h => h) (Or.inl ⟨by rfl, ?_⟩) (by assumption) ?_
                                        rotate_left
                                        · (intro w hSw; (try dsimp only at hSw); go_simp; (try with_reducible rfl))
                                        (try simp only [Act.put, List.setIfInBounds_toArray, List.set_cons_zero, List.set_cons_succ])
                                        refine take_d (i := 39) (d := 100) (v := ?_) rfl rfl (by kernel_rfl) (by kernel_rfl) (by kernel_rfl) (fun _ _ _ h => h) (Or.inl ⟨by rfl, ?_⟩) (by assumption) ?_
                                        rotate_left
                                        · (intro w hSw; (try dsimp only at hSw); go_simp; (try with_reducible rfl))
                                        (try simp only [Act.put, List.setIfInBounds_toArray, List.set_cons_zero, List.set_cons_succ])
                                        refine take_d (i := 40) (d := 4) (v := ?_) rfl rfl (by kernel_rfl) (by kernel_rfl) (by kernel_rfl) (fun _ _ _ h => h) (Or.inl ⟨by rfl, ?_⟩) (by assumption) ?_
                                        rotate_left
                                        · (intro w hSw; (try dsimp only at hSw); go_simp; (try with_reducible rfl))
                                        (try simp only [Act.put, List.setIfInBounds_toArray, List.set_cons_zero, List.set_cons_succ])
                                        refine wpAnyH_done (by kernel_rfl) ?_ _
                                        go_wp2
                                        go_ret
                                        exact ⟨rfl, hxW.trans (by (repeat' (first | (with_reducible assumption) | (with_reducible exact Wb.Ext.refl _) | (with_reducible refine Wb.Ext.drew ?_) | (with_reducible refine Wb.Ext.drewN ?_ _) | (with_reducible refine Wb.Ext.alloc ?_ _) | (with_reducible refine Wb.Ext.trans ?_ (by assumption)))))⟩
                                      exact AllReadyH.nil
                                    exact AllReadyH.nil
                                  exact AllReadyH.nil
                                exact AllReadyH.nil
                              exact AllReadyH.nil
                            exact AllReadyH.nil
                          exact AllReadyH.nil
                        exact AllReadyH.nil
                      exact AllReadyH.nil
                    exact AllReadyH.nil
                  exact AllReadyH.nil
                exact AllReadyH.nil
              exact AllReadyH.nil
            exact AllReadyH.nil

end Go.Proofs.Ytdckghdmopafpaa
