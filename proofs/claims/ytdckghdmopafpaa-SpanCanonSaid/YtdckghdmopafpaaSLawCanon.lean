/- The walk of wagebooklaw05.SpanCanon. -/
import Derived.Test.YtdckghdmopafpaaSLaw0
import Derived.Deep.DeepCutAuto
namespace Go.Proofs.Ytdckghdmopafpaa
open Go.RowKit Go.Lib
set_option maxRecDepth 8000
attribute [local go_sem ↓] Go.wp_at_zero Go.wp_at_succ

set_option maxHeartbeats 16000000 in
theorem canon_walk (W : World) (va : Value) (a : List Wb.Sp) (hva : SpL W va a) (hba : BdL a) (vb : Value) (b : List Wb.Sp) (hvb : SpL W vb b) (hbb : BdL b) :
    Calls Try.prog 7 #[va, vb] W fun e w' => e = .returned (.bool true) ∧ Wb.Ext W w' := by
  obtain ⟨i0, hi, hz0, hz1, hz2⟩ := info_parts infoSpan
  have HIN := Lib.hid (show Try.prog.info? 24 = some i0 ∧ i0.zero = some (.agg #[.int .i64 0, .int .i64 0]) ∧ i0.size = 2 ∧ i0.bytes = 16 from ⟨hi, hz0, hz1, hz2⟩)
  clear hi hz0 hz1 hz2
  obtain ⟨aA, aK, rfl⟩ := hva.1.shape
  have HVa := Lib.hid hva
  have HBa := Lib.hid hba
  clear hva hba
  obtain ⟨bA, bK, rfl⟩ := hvb.1.shape
  have HVb := Lib.hid hvb
  have HBb := Lib.hid hbb
  clear hvb hbb
  by_cases hla : 40 < a.length
  · have da : decide ((40 : Int) < (a.length : Int)) = true := by simp; omega
    go_enter Try.func7, Try.ntmps7
    go_wp2_with fail
    go_fit (awake_any _); rintro e w0 ⟨rfl, hx0⟩
    go_wp2
    go_ret
    exact ⟨rfl, hx0⟩
  · have da : decide ((40 : Int) < (a.length : Int)) = false := by simp; omega
    have hma : a.length ≤ 40 := by omega
    by_cases hlb : 40 < b.length
    · have db : decide ((40 : Int) < (b.length : Int)) = true := by simp; omega
      go_enter Try.func7, Try.ntmps7
      go_wp2_with fail
      go_fit (awake_any _); rintro e w0 ⟨rfl, hx0⟩
      go_wp2
      go_ret
      exact ⟨rfl, hx0⟩
    · have db : decide ((40 : Int) < (b.length : Int)) = false := by simp; omega
      have hmb : b.length ≤ 40 := by omega
      go_enter Try.func7, Try.ntmps7
      go_wp2_with fail
      go_fit (awake_any _); rintro e w0 ⟨rfl, hx0⟩
      go_wp2_with fail
      go_fit (of_any _ a _ (HVa.out.ext (Wb.Ext.trans hx0 (by (repeat' (first | (with_reducible assumption) | (with_reducible exact Wb.Ext.refl _) | (with_reducible refine Wb.Ext.drew ?_) | (with_reducible refine Wb.Ext.drewN ?_ _) | (with_reducible refine Wb.Ext.alloc ?_ _) | (with_reducible refine Wb.Ext.trans ?_ (by assumption))))))) HBa.out (by omega)); rintro e w1 ⟨v1, s, rfl, hs1, hp1, hb1⟩
      obtain ⟨sA, sK, rfl⟩ := hp1.1.shape
      have HSs := Lib.hid hs1
      have HEs := Lib.hid (has_of hs1)
      have hls : s.length ≤ 40 := by have := hs1.len; omega
      replace hb1 : Wb.Ext w0 w1 := Wb.Ext.trans (by (repeat' (first | (with_reducible assumption) | (with_reducible exact Wb.Ext.refl _) | (with_reducible refine Wb.Ext.drew ?_) | (with_reducible refine Wb.Ext.drewN ?_ _) | (with_reducible refine Wb.Ext.alloc ?_ _) | (with_reducible refine Wb.Ext.trans ?_ (by assumption))))) hb1
      have HPs := Lib.hid hp1
      have hx1 : Wb.Ext W w1 := Wb.Ext.trans hx0 hb1
      clear hs1 hp1 hb1
      go_wp2_with fail
      go_fit (of_any _ b _ (HVb.out.ext (Wb.Ext.trans hx1 (by (repeat' (first | (with_reducible assumption) | (with_reducible exact Wb.Ext.refl _) | (with_reducible refine Wb.Ext.drew ?_) | (with_reducible refine Wb.Ext.drewN ?_ _) | (with_reducible refine Wb.Ext.alloc ?_ _) | (with_reducible refine Wb.Ext.trans ?_ (by assumption))))))) HBb.out (by omega)); rintro e w2 ⟨v2, t, rfl, hs2, hp2, hb2⟩
      obtain ⟨tA, tK, rfl⟩ := hp2.1.shape
      have HSt := Lib.hid hs2
      have HEt := Lib.hid (has_of hs2)
      have hlt : t.length ≤ 40 := by have := hs2.len; omega
      replace hb2 : Wb.Ext w1 w2 := Wb.Ext.trans (by (repeat' (first | (with_reducible assumption) | (with_reducible exact Wb.Ext.refl _) | (with_reducible refine Wb.Ext.drew ?_) | (with_reducible refine Wb.Ext.drewN ?_ _) | (with_reducible refine Wb.Ext.alloc ?_ _) | (with_reducible refine Wb.Ext.trans ?_ (by assumption))))) hb2
      replace HPs := Lib.hid (HPs.out.ext hb2)
      have HPt := Lib.hid hp2
      have hx2 : Wb.Ext W w2 := Wb.Ext.trans hx1 hb2
      clear hs2 hp2 hb2
      go_wp2_with fail
      refine Wb.calls_at fun W0 hW0 => ?_
      have hb : Wb.Ext w2 W0 := by rw [hW0]; (repeat' (first | (with_reducible assumption) | (with_reducible exact Wb.Ext.refl _) | (with_reducible refine Wb.Ext.drew ?_) | (with_reducible refine Wb.Ext.drewN ?_ _) | (with_reducible refine Wb.Ext.alloc ?_ _) | (with_reducible refine Wb.ext_set ?_ (by first | assumption | (simp; done) | (simp; omega) | omega) _) | (with_reducible refine Wb.Ext.trans ?_ (by assumption))))
      have zs : W0.cell? ⟨w2.heap.size, 0, none⟩ = some (.slice sA s.length sK) := by rw [hW0]; simp [go_sem]
      have zt : W0.cell? ⟨w2.heap.size + 1, 0, none⟩ = some (.slice tA t.length tK) := by rw [hW0]; simp [go_sem]
      replace HPs := Lib.hid (HPs.out.ext hb)
      replace HPt := Lib.hid (HPt.out.ext hb)
      have hxW : Wb.Ext W W0 := hx2.trans hb
      clear hW0 hb
      have HPa := Lib.hid (HVa.out.ext hxW)
      have HPb := Lib.hid (HVb.out.ext hxW)
      go_fit (all_any _ s _ HPs.out (by omega)); rintro e w3 ⟨v3, rfl, hp3, hb3⟩
      obtain ⟨lA, lK, rfl⟩ := hp3.1.shape
      have HPl := Lib.hid hp3
      have HX3 := Lib.hid hb3
      clear hp3 hb3
      go_wp2_with fail
      go_loopw [8] (fun iv wr => ∃ k : Nat, k ≤ s.length ∧ iv = .int .i64 k ∧ Wb.Ext w3 wr) (fun iv _ => s.length - (intOf iv).toNat)
      case atStart => exact ⟨0, Nat.zero_le _, rfl, .refl _⟩
      case round =>
        obtain ⟨k, hk, rfl, hext⟩ := hrel
        by_cases hlt : k < s.length
        · obtain ⟨y, hy⟩ := Wb.get_ex hlt
          obtain ⟨bb, off, rfl, hcells⟩ := (HPl.out.1.ext hext).opened (tne hlt)
          have c0 := hcells _ y hy 0 _ rfl
          have c1 := hcells _ y hy 1 _ rfl
          have hki : (k : Int) < s.length := by omega
          have hy1 := HSs.out.canon.1 y (List.mem_of_getElem? hy)
          have d1 : decide (y.2 ≤ y.1) = false := by simp; omega
          simp only [Nat.add_zero] at c0
          rcases k with _ | m
          · have HXR := Lib.hid hext
            clear hcells hy hy1
            simp only [Nat.zero_mul, Nat.add_zero] at c0 c1
            go_wp2_with fail
            go_quiet (fail)
            go_wp2
            go_roundw
            case rel => exact ⟨0 + 1, by omega, by go_num, HXR.out.trans (by (repeat' (first | (with_reducible assumption) | (with_reducible exact Wb.Ext.refl _) | (with_reducible refine Wb.Ext.drew ?_) | (with_reducible refine Wb.Ext.drewN ?_ _) | (with_reducible refine Wb.Ext.alloc ?_ _) | (with_reducible refine Wb.Ext.trans ?_ (by assumption)))))⟩
            case measure => simp [intOf]; omega
          · obtain ⟨x, hx⟩ := Wb.get_ex (l := s) (k := m) (by omega)
            have x1 := hcells _ x hx 1 _ rfl
            have hxy := canon_lt HSs.out.canon hx hy (by omega)
            have d2 : decide (y.1 ≤ x.2) = false := by simp; omega
            have e0 : -9223372036854775808 ≤ (m : Int) ∧ (m : Int) ≤ 9223372036854775807 := by omega
            have e1 : ((m + 1 : Nat) : Int) - 1 = m := by omega
            have e2 : IntKind.i64.wrap (((m + 1 : Nat) : Int) - 1) = m := by rw [e1]; exact IntWalk.i64_in _ e0
            have e3 : wrap64 (m : Int) = m := IntWalk.wrap64_in _ e0
            have d0 : decide ((0 : Int) < ((m + 1 : Nat) : Int)) = true := by rw [decide_eq_true_iff]; omega
            have d00 : decide ((0 : Int) < (m : Int) + 1) = true := by rw [decide_eq_true_iff]; omega
            have e4 : (m : Int) + 1 - 1 = m := by omega
            have e5 : IntKind.i64.wrap ((m : Int) + 1 - 1) = m := by rw [e4]; exact IntWalk.i64_in _ e0
            have hmi : (m : Int) < s.length := by omega
            have hmi1 : (m : Int) + 1 < s.length := by omega
            have HXR := Lib.hid hext
            clear hcells hy hy1 hx hxy e0
            go_wp2_with fail
            go_quiet (fail)
            clear e1 e2 e3 e4 e5
            go_wp2
            go_roundw
            case rel => exact ⟨m + 1 + 1, by omega, by go_num, HXR.out.trans (by (repeat' (first | (with_reducible assumption) | (with_reducible exact Wb.Ext.refl _) | (with_reducible refine Wb.Ext.drew ?_) | (with_reducible refine Wb.Ext.drewN ?_ _) | (with_reducible refine Wb.Ext.alloc ?_ _) | (with_reducible refine Wb.Ext.trans ?_ (by assumption)))))⟩
            case measure => simp [intOf]; omega
        · obtain rfl : k = s.length := by omega
          have HXR := Lib.hid hext
          have HPb2 := Lib.hid (HPb.out.ext (HX3.out.trans HXR.out))
          have HPa2 := Lib.hid (HPa.out.ext (HX3.out.trans HXR.out))
          have hown0 : (wr.alloc (.cells #[] 24)).ownsRow wr.heap.size 24 2 (.slice (some ⟨wr.heap.size, 0, none⟩) 0 0) 0 [] :=
            ⟨by simp, .inr ⟨wr.heap.size, 0, #[], rfl, Nat.le_refl _, by show (wr.heap.push _)[wr.heap.size]? = _; simp, by simp, by simp, by simp, by simp⟩⟩
          clear hext
          obtain ⟨hi, hz0, hz1, hz2⟩ := HIN.out
          go_wp2_with (at_builtin; go_loud (refine Wb.wpList_append_row rfl (.tmp 61) (.tmp 62) 27 rfl wr.heap.size 24 i0 (.agg #[.int .i64 0, .int .i64 0]) 2 16 Try.underlying27 hi hz0 hz1 hz2 rfl (by decide) _ _ _ rfl hown0 _ rfl b.length (rowsOf spc b) ?c11 ?c12 ?c13 ?c14 ?c15 ?_))
          case c11 => exact HPb2.out.2.ext ((Wb.Ext.refl wr).alloc _)
          case c12 => exact spc_one b
          case c13 => unfold maxLen; omega
          case c14 => omega
          case c15 => simp
          intro v5 w5 hown1 hg1 hnil1
          have HG1 := Lib.hid (show Wb.Ext wr w5 from ((Wb.Ext.refl wr).alloc (.cells #[] 24)).grown hg1 (by intro k hk; cases hk; exact Nat.le_refl _))
          have HO1 := Lib.hid hown1
          obtain ⟨ra1, rc1, rfl⟩ := row_shape hown1
          clear hi hz0 hz1 hz2 hown1 hg1 hnil1 hown0
          obtain ⟨hi, hz0, hz1, hz2⟩ := HIN.out
          go_wp2_with (at_builtin; go_loud (refine Wb.wpList_append_row rfl (.tmp 63) (.tmp 64) 27 rfl wr.heap.size 24 i0 (.agg #[.int .i64 0, .int .i64 0]) 2 16 Try.underlying27 hi hz0 hz1 hz2 rfl (by decide) _ _ _ rfl HO1.out _ rfl a.length (rowsOf spc a) ?c21 ?c22 ?c23 ?c24 ?c25 ?_))
          case c21 => exact HPa2.out.2.ext HG1.out
          case c22 => exact spc_one a
          case c23 => unfold maxLen; omega
          case c24 => omega
          case c25 => exact HG1.out.size
          intro v6 w6 hown2 hg2 hnil2
          have HG2 := Lib.hid (show Wb.Ext wr w6 from HG1.out.grown hg2 (fun k hk => (HO1.out.lt k hk).1))
          obtain ⟨ra2, rc2, rfl⟩ := row_shape hown2
          have HSP := Lib.hid (show SpL w6 (.slice ra2 (b.length + a.length) rc2) (b ++ a) from spl_row (n := b.length + a.length) (by rw [rowsOf_app]; simpa using hown2))
          have HBD : Hid (BdL (b ++ a)) := Lib.hid (fun x hx => (List.mem_append.1 hx).elim (HBb.out x) (HBa.out x))
          clear hi hz0 hz1 hz2 hown2 hg2 hnil2
          go_wp2_with fail
          go_fit (of_any (.slice ra2 (b.length + a.length) rc2) (b ++ a) w6 HSP.out HBD.out (by rw [List.length_append]; omega)); rintro e w7 ⟨v7, v, rfl, hs7, hp7, hb7⟩
          obtain ⟨vA, vK, rfl⟩ := hp7.1.shape
          have HSv := Lib.hid hs7
          have HEv := Lib.hid (has_of hs7)
          have hlv : v.length ≤ 80 := by have := hs7.len; rw [List.length_append] at this; omega
          have HPv := Lib.hid hp7
          have HX7 := Lib.hid (HX3.out.trans (HXR.out.trans (HG2.out.trans hb7)))
          have HX73 := Lib.hid (HXR.out.trans (HG2.out.trans hb7))
          have HAB : Hid (∀ d, Wb.hasL (b ++ a) d = (Wb.hasL b d || Wb.hasL a d)) := Lib.hid (fun d => by simp [Wb.hasL])
          clear hs7 hp7 hb7
          go_upto_region 13 with (fail)
          refine Wb.wp_at fun W5 hW5 => ?_
          have hb : Wb.Ext w7 W5 := by rw [hW5]; (repeat' (first | (with_reducible assumption) | (with_reducible exact Wb.Ext.refl _) | (with_reducible refine Wb.Ext.drew ?_) | (with_reducible refine Wb.Ext.drewN ?_ _) | (with_reducible refine Wb.Ext.alloc ?_ _) | (with_reducible refine Wb.ext_set ?_ (by first | assumption | (simp; done) | (simp; omega) | omega) _) | (with_reducible refine Wb.Ext.trans ?_ (by assumption))))
          have zv : W5.cell? ⟨w7.heap.size, 0, none⟩ = some (.slice vA v.length vK) := by rw [hW5]; simp [go_sem]
          have hc5 := HX7.out.trans hb
          have zs := hc5.keep zs
          have zt := hc5.keep zt
          replace HPv := Lib.hid (HPv.out.ext hb)
          replace HPs := Lib.hid (HPs.out.ext hc5)
          replace HPt := Lib.hid (HPt.out.ext hc5)
          replace HPl := Lib.hid (HPl.out.ext (HX73.out.trans hb))
          have hxW := hxW.trans hc5
          clear hW5 hb hc5
          refine region_start (S := (fun w' => w'.cell? ⟨w2.heap.size, 0, none⟩ = some (.slice sA s.length sK) ∧ w'.cell? ⟨w2.heap.size + 1, 0, none⟩ = some (.slice tA t.length tK) ∧ w'.cell? ⟨w7.heap.size, 0, none⟩ = some (.slice vA v.length vK))) (n := 61) (l := #[false, false, false, false, false, false, false, false, false, false, false, false, false, false, false, false, false, false, false, false, false, false, false, false, false, false, false, false, false, false, false, false, false, false, false, false, false, false, false, false, false, false, false, false, false, false, false, false, false, false, false, false, false, false, false, false, false, false, false, false, false]) (by kernel_rfl) ⟨zs, zt, zv⟩ (by kernel_rfl) (by kernel_rfl) (fun hHeld => ?_)
          refine take_d (i := 0) (d := 67) (v := ?_) rfl rfl (by kernel_rfl) (by kernel_rfl) (by kernel_rfl) (fun _ _ _ h => h) (Or.inl ⟨by rfl, ?_⟩) (by assumption) ?_
          rotate_left
          · (intro w hSw; (try dsimp only at hSw); go_simp; (try with_reducible rfl))
          (try simp only [Act.put, List.setIfInBounds_toArray, List.set_cons_zero, List.set_cons_succ])
          refine take_d (i := 3) (d := 70) (v := ?_) rfl rfl (by kernel_rfl) (by kernel_rfl) (by kernel_rfl) (fun _ _ _ h => h) (Or.inl ⟨by rfl, ?_⟩) (by assumption) ?_
          rotate_left
          · (intro w hSw; (try dsimp only at hSw); go_simp; (try with_reducible rfl))
          (try simp only [Act.put, List.setIfInBounds_toArray, List.set_cons_zero, List.set_cons_succ])
          refine wpAnyH_ready (rs := [1]) (by kernel_rfl) (by simp) ?_
          refine AllReadyH.cons (o := _) rfl (fun K hK => ?_) ?_
          · go_simp
            go_at_call 14
            go_fit (of_any _ s _ (HPl.out.ext (by (repeat' (first | (with_reducible assumption) | (with_reducible exact Wb.Ext.refl _) | (with_reducible refine Wb.Ext.drew ?_) | (with_reducible refine Wb.Ext.drewN ?_ _) | (with_reducible refine Wb.Ext.alloc ?_ _) | (with_reducible refine Wb.Ext.trans ?_ (by assumption)))))) HSs.out.bd (by omega))
            rintro e w51 ⟨v51, r51, rfl, hs51, hp51, hb51⟩
            obtain ⟨sa51, sc51, rfl⟩ := hp51.1.shape
            have HS51 := Lib.hid hs51
            have hl51 : r51.length ≤ 40 := by have := hs51.len; (try simp only [List.length_cons, List.length_nil] at this); omega
            have HE51 := Lib.hid (has_of hs51)
            replace hb51 : Wb.Ext W5 w51 := Wb.Ext.trans (by (repeat' (first | (with_reducible assumption) | (with_reducible exact Wb.Ext.refl _) | (with_reducible refine Wb.Ext.drew ?_) | (with_reducible refine Wb.Ext.drewN ?_ _) | (with_reducible refine Wb.Ext.alloc ?_ _) | (with_reducible refine Wb.Ext.trans ?_ (by assumption))))) hb51
            have hx51 : Wb.Ext W5 w51 := Wb.Ext.trans (by (repeat' (first | (with_reducible assumption) | (with_reducible exact Wb.Ext.refl _) | (with_reducible refine Wb.Ext.drew ?_) | (with_reducible refine Wb.Ext.drewN ?_ _) | (with_reducible refine Wb.Ext.alloc ?_ _) | (with_reducible refine Wb.Ext.trans ?_ (by assumption))))) hb51
            clear hb51
            have HP51 := Lib.hid hp51
            clear hs51 hp51
            refine hK.out _ _ ⟨Wb.Ext.keep (w := W5) (by (repeat' (first | (with_reducible assumption) | (with_reducible exact Wb.Ext.refl _) | (with_reducible refine Wb.Ext.drew ?_) | (with_reducible refine Wb.Ext.drewN ?_ _) | (with_reducible refine Wb.Ext.alloc ?_ _) | (with_reducible refine Wb.Ext.trans ?_ (by assumption))))) zs, Wb.Ext.keep (w := W5) (by (repeat' (first | (with_reducible assumption) | (with_reducible exact Wb.Ext.refl _) | (with_reducible refine Wb.Ext.drew ?_) | (with_reducible refine Wb.Ext.drewN ?_ _) | (with_reducible refine Wb.Ext.alloc ?_ _) | (with_reducible refine Wb.Ext.trans ?_ (by assumption))))) zt, Wb.Ext.keep (w := W5) (by (repeat' (first | (with_reducible assumption) | (with_reducible exact Wb.Ext.refl _) | (with_reducible refine Wb.Ext.drew ?_) | (with_reducible refine Wb.Ext.drewN ?_ _) | (with_reducible refine Wb.Ext.alloc ?_ _) | (with_reducible refine Wb.Ext.trans ?_ (by assumption))))) zv⟩ (fun hHeld => ?_)
            clear hK K
            (try simp only [Act.put, List.setIfInBounds_toArray, List.set_cons_zero, List.set_cons_succ])
            refine wpAnyH_ready (rs := [2]) (by kernel_rfl) (by simp) ?_
            refine AllReadyH.cons (o := _) rfl (fun K hK => ?_) ?_
            · go_simp
              go_at_call 17
              go_fit (all_any _ r51 _ (HP51.out.ext (by (repeat' (first | (with_reducible assumption) | (with_reducible exact Wb.Ext.refl _) | (with_reducible refine Wb.Ext.drew ?_) | (with_reducible refine Wb.Ext.drewN ?_ _) | (with_reducible refine Wb.Ext.alloc ?_ _) | (with_reducible refine Wb.Ext.trans ?_ (by assumption)))))) (by omega))
              rintro e w52 ⟨v52, rfl, hp52, hb52⟩
              obtain ⟨sa52, sc52, rfl⟩ := hp52.1.shape
              replace hb52 : Wb.Ext w51 w52 := Wb.Ext.trans (by (repeat' (first | (with_reducible assumption) | (with_reducible exact Wb.Ext.refl _) | (with_reducible refine Wb.Ext.drew ?_) | (with_reducible refine Wb.Ext.drewN ?_ _) | (with_reducible refine Wb.Ext.alloc ?_ _) | (with_reducible refine Wb.Ext.trans ?_ (by assumption))))) hb52
              replace HP51 := Lib.hid (HP51.out.ext hb52)
              have hx52 : Wb.Ext W5 w52 := Wb.Ext.trans (by (repeat' (first | (with_reducible assumption) | (with_reducible exact Wb.Ext.refl _) | (with_reducible refine Wb.Ext.drew ?_) | (with_reducible refine Wb.Ext.drewN ?_ _) | (with_reducible refine Wb.Ext.alloc ?_ _) | (with_reducible refine Wb.Ext.trans ?_ (by assumption))))) hb52
              clear hb52
              have HP52 := Lib.hid hp52
              clear hp52
              refine hK.out _ _ ⟨Wb.Ext.keep (w := W5) (by (repeat' (first | (with_reducible assumption) | (with_reducible exact Wb.Ext.refl _) | (with_reducible refine Wb.Ext.drew ?_) | (with_reducible refine Wb.Ext.drewN ?_ _) | (with_reducible refine Wb.Ext.alloc ?_ _) | (with_reducible refine Wb.Ext.trans ?_ (by assumption))))) zs, Wb.Ext.keep (w := W5) (by (repeat' (first | (with_reducible assumption) | (with_reducible exact Wb.Ext.refl _) | (with_reducible refine Wb.Ext.drew ?_) | (with_reducible refine Wb.Ext.drewN ?_ _) | (with_reducible refine Wb.Ext.alloc ?_ _) | (with_reducible refine Wb.Ext.trans ?_ (by assumption))))) zt, Wb.Ext.keep (w := W5) (by (repeat' (first | (with_reducible assumption) | (with_reducible exact Wb.Ext.refl _) | (with_reducible refine Wb.Ext.drew ?_) | (with_reducible refine Wb.Ext.drewN ?_ _) | (with_reducible refine Wb.Ext.alloc ?_ _) | (with_reducible refine Wb.Ext.trans ?_ (by assumption))))) zv⟩ (fun hHeld => ?_)
              clear hK K
              (try simp only [Act.put, List.setIfInBounds_toArray, List.set_cons_zero, List.set_cons_succ])
              refine wpAnyH_ready (rs := [4]) (by kernel_rfl) (by simp) ?_
              refine AllReadyH.cons (o := _) rfl (fun K hK => ?_) ?_
              · go_simp
                go_at_call 16
                go_fit (same2_any _ _ r51 s _ (canon_eq HSs.out.canon HS51.out.canon (fun d => by simp only [HE51.out d] <;> (cases Wb.hasL s d <;> rfl))) (HP52.out.1.ext (by (repeat' (first | (with_reducible assumption) | (with_reducible exact Wb.Ext.refl _) | (with_reducible refine Wb.Ext.drew ?_) | (with_reducible refine Wb.Ext.drewN ?_ _) | (with_reducible refine Wb.Ext.alloc ?_ _) | (with_reducible refine Wb.Ext.trans ?_ (by assumption)))))) (HPl.out.1.ext (by (repeat' (first | (with_reducible assumption) | (with_reducible exact Wb.Ext.refl _) | (with_reducible refine Wb.Ext.drew ?_) | (with_reducible refine Wb.Ext.drewN ?_ _) | (with_reducible refine Wb.Ext.alloc ?_ _) | (with_reducible refine Wb.Ext.trans ?_ (by assumption)))))) (by omega))
                rintro e w53 ⟨rfl, hb53⟩
                replace hb53 : Wb.Ext w52 w53 := Wb.Ext.trans (by (repeat' (first | (with_reducible assumption) | (with_reducible exact Wb.Ext.refl _) | (with_reducible refine Wb.Ext.drew ?_) | (with_reducible refine Wb.Ext.drewN ?_ _) | (with_reducible refine Wb.Ext.alloc ?_ _) | (with_reducible refine Wb.Ext.trans ?_ (by assumption))))) hb53
                replace HP51 := Lib.hid (HP51.out.ext hb53)
                have hx53 : Wb.Ext W5 w53 := Wb.Ext.trans (by (repeat' (first | (with_reducible assumption) | (with_reducible exact Wb.Ext.refl _) | (with_reducible refine Wb.Ext.drew ?_) | (with_reducible refine Wb.Ext.drewN ?_ _) | (with_reducible refine Wb.Ext.alloc ?_ _) | (with_reducible refine Wb.Ext.trans ?_ (by assumption))))) hb53
                clear hb53
                refine hK.out _ _ ⟨Wb.Ext.keep (w := W5) (by (repeat' (first | (with_reducible assumption) | (with_reducible exact Wb.Ext.refl _) | (with_reducible refine Wb.Ext.drew ?_) | (with_reducible refine Wb.Ext.drewN ?_ _) | (with_reducible refine Wb.Ext.alloc ?_ _) | (with_reducible refine Wb.Ext.trans ?_ (by assumption))))) zs, Wb.Ext.keep (w := W5) (by (repeat' (first | (with_reducible assumption) | (with_reducible exact Wb.Ext.refl _) | (with_reducible refine Wb.Ext.drew ?_) | (with_reducible refine Wb.Ext.drewN ?_ _) | (with_reducible refine Wb.Ext.alloc ?_ _) | (with_reducible refine Wb.Ext.trans ?_ (by assumption))))) zt, Wb.Ext.keep (w := W5) (by (repeat' (first | (with_reducible assumption) | (with_reducible exact Wb.Ext.refl _) | (with_reducible refine Wb.Ext.drew ?_) | (with_reducible refine Wb.Ext.drewN ?_ _) | (with_reducible refine Wb.Ext.alloc ?_ _) | (with_reducible refine Wb.Ext.trans ?_ (by assumption))))) zv⟩ (fun hHeld => ?_)
                clear hK K
                (try simp only [Act.put, List.setIfInBounds_toArray, List.set_cons_zero, List.set_cons_succ])
                refine take_d (i := 5) (d := 72) (v := ?_) rfl rfl (by kernel_rfl) (by kernel_rfl) (by kernel_rfl) (fun _ _ _ h => h) (Or.inl ⟨by rfl, ?_⟩) (by assumption) ?_
                rotate_left
                · (intro w hSw; (try dsimp only at hSw); go_simp; (try with_reducible rfl))
                (try simp only [Act.put, List.setIfInBounds_toArray, List.set_cons_zero, List.set_cons_succ])
                refine take_d (i := 6) (d := 73) (v := ?_) rfl rfl (by kernel_rfl) (by kernel_rfl) (by kernel_rfl) (fun _ _ _ h => h) (Or.inl ⟨by rfl, ?_⟩) (by assumption) ?_
                rotate_left
                · (intro w hSw; (try dsimp only at hSw); go_simp; (try with_reducible rfl))
                (try simp only [Act.put, List.setIfInBounds_toArray, List.set_cons_zero, List.set_cons_succ])
                refine take_d (i := 7) (d := 74) (v := ?_) rfl rfl (by kernel_rfl) (by kernel_rfl) (by kernel_rfl) (fun _ _ _ h => h) (Or.inl ⟨by rfl, ?_⟩) (by assumption) ?_
                rotate_left
                · (intro w hSw; (try dsimp only at hSw); go_simp; (try with_reducible rfl))
                (try simp only [Act.put, List.setIfInBounds_toArray, List.set_cons_zero, List.set_cons_succ])
                refine take_d (i := 10) (d := 77) (v := ?_) rfl rfl (by kernel_rfl) (by kernel_rfl) (by kernel_rfl) (fun _ _ _ h => h) (Or.inl ⟨by rfl, ?_⟩) (by assumption) ?_
                rotate_left
                · (intro w hSw; (try dsimp only at hSw); go_simp; (try with_reducible rfl))
                (try simp only [Act.put, List.setIfInBounds_toArray, List.set_cons_zero, List.set_cons_succ])
                refine take_d (i := 11) (d := 78) (v := ?_) rfl rfl (by kernel_rfl) (by kernel_rfl) (by kernel_rfl) (fun _ _ _ h => h) (Or.inl ⟨by rfl, ?_⟩) (by assumption) ?_
                rotate_left
                · (intro w hSw; (try dsimp only at hSw); go_simp; (try with_reducible rfl))
                (try simp only [Act.put, List.setIfInBounds_toArray, List.set_cons_zero, List.set_cons_succ])
                refine wpAnyH_ready (rs := [8]) (by kernel_rfl) (by simp) ?_
                refine AllReadyH.cons (o := _) rfl (fun K hK => ?_) ?_
                · go_simp
                  go_at_call 18
                  go_fit (union_any _ _ s t _ (HPs.out.ext (by (repeat' (first | (with_reducible assumption) | (with_reducible exact Wb.Ext.refl _) | (with_reducible refine Wb.Ext.drew ?_) | (with_reducible refine Wb.Ext.drewN ?_ _) | (with_reducible refine Wb.Ext.alloc ?_ _) | (with_reducible refine Wb.Ext.trans ?_ (by assumption)))))) (HPt.out.ext (by (repeat' (first | (with_reducible assumption) | (with_reducible exact Wb.Ext.refl _) | (with_reducible refine Wb.Ext.drew ?_) | (with_reducible refine Wb.Ext.drewN ?_ _) | (with_reducible refine Wb.Ext.alloc ?_ _) | (with_reducible refine Wb.Ext.trans ?_ (by assumption)))))) HSs.out.canon HSt.out.canon HSs.out.bd HSt.out.bd (by omega) (by omega))
                  rintro e w54 ⟨v54, r54, rfl, hs54, hp54, hb54⟩
                  obtain ⟨sa54, sc54, rfl⟩ := hp54.1.shape
                  have HS54 := Lib.hid hs54
                  have hl54 : r54.length ≤ 160 := by have := hs54.len; (try simp only [List.length_cons, List.length_nil] at this); omega
                  have HE54 := Lib.hid (has_uni hs54)
                  replace hb54 : Wb.Ext w53 w54 := Wb.Ext.trans (by (repeat' (first | (with_reducible assumption) | (with_reducible exact Wb.Ext.refl _) | (with_reducible refine Wb.Ext.drew ?_) | (with_reducible refine Wb.Ext.drewN ?_ _) | (with_reducible refine Wb.Ext.alloc ?_ _) | (with_reducible refine Wb.Ext.trans ?_ (by assumption))))) hb54
                  replace HP51 := Lib.hid (HP51.out.ext hb54)
                  have hx54 : Wb.Ext W5 w54 := Wb.Ext.trans (by (repeat' (first | (with_reducible assumption) | (with_reducible exact Wb.Ext.refl _) | (with_reducible refine Wb.Ext.drew ?_) | (with_reducible refine Wb.Ext.drewN ?_ _) | (with_reducible refine Wb.Ext.alloc ?_ _) | (with_reducible refine Wb.Ext.trans ?_ (by assumption))))) hb54
                  clear hb54
                  have HP54 := Lib.hid hp54
                  clear hs54 hp54
                  refine hK.out _ _ ⟨Wb.Ext.keep (w := W5) (by (repeat' (first | (with_reducible assumption) | (with_reducible exact Wb.Ext.refl _) | (with_reducible refine Wb.Ext.drew ?_) | (with_reducible refine Wb.Ext.drewN ?_ _) | (with_reducible refine Wb.Ext.alloc ?_ _) | (with_reducible refine Wb.Ext.trans ?_ (by assumption))))) zs, Wb.Ext.keep (w := W5) (by (repeat' (first | (with_reducible assumption) | (with_reducible exact Wb.Ext.refl _) | (with_reducible refine Wb.Ext.drew ?_) | (with_reducible refine Wb.Ext.drewN ?_ _) | (with_reducible refine Wb.Ext.alloc ?_ _) | (with_reducible refine Wb.Ext.trans ?_ (by assumption))))) zt, Wb.Ext.keep (w := W5) (by (repeat' (first | (with_reducible assumption) | (with_reducible exact Wb.Ext.refl _) | (with_reducible refine Wb.Ext.drew ?_) | (with_reducible refine Wb.Ext.drewN ?_ _) | (with_reducible refine Wb.Ext.alloc ?_ _) | (with_reducible refine Wb.Ext.trans ?_ (by assumption))))) zv⟩ (fun hHeld => ?_)
                  clear hK K
                  (try simp only [Act.put, List.setIfInBounds_toArray, List.set_cons_zero, List.set_cons_succ])
                  refine wpAnyH_ready (rs := [9]) (by kernel_rfl) (by simp) ?_
                  refine AllReadyH.cons (o := _) rfl (fun K hK => ?_) ?_
                  · go_simp
                    go_at_call 17
                    go_fit (all_any _ r54 _ (HP54.out.ext (by (repeat' (first | (with_reducible assumption) | (with_reducible exact Wb.Ext.refl _) | (with_reducible refine Wb.Ext.drew ?_) | (with_reducible refine Wb.Ext.drewN ?_ _) | (with_reducible refine Wb.Ext.alloc ?_ _) | (with_reducible refine Wb.Ext.trans ?_ (by assumption)))))) (by omega))
                    rintro e w55 ⟨v55, rfl, hp55, hb55⟩
                    obtain ⟨sa55, sc55, rfl⟩ := hp55.1.shape
                    replace hb55 : Wb.Ext w54 w55 := Wb.Ext.trans (by (repeat' (first | (with_reducible assumption) | (with_reducible exact Wb.Ext.refl _) | (with_reducible refine Wb.Ext.drew ?_) | (with_reducible refine Wb.Ext.drewN ?_ _) | (with_reducible refine Wb.Ext.alloc ?_ _) | (with_reducible refine Wb.Ext.trans ?_ (by assumption))))) hb55
                    replace HP51 := Lib.hid (HP51.out.ext hb55)
                    replace HP54 := Lib.hid (HP54.out.ext hb55)
                    have hx55 : Wb.Ext W5 w55 := Wb.Ext.trans (by (repeat' (first | (with_reducible assumption) | (with_reducible exact Wb.Ext.refl _) | (with_reducible refine Wb.Ext.drew ?_) | (with_reducible refine Wb.Ext.drewN ?_ _) | (with_reducible refine Wb.Ext.alloc ?_ _) | (with_reducible refine Wb.Ext.trans ?_ (by assumption))))) hb55
                    clear hb55
                    have HP55 := Lib.hid hp55
                    clear hp55
                    refine hK.out _ _ ⟨Wb.Ext.keep (w := W5) (by (repeat' (first | (with_reducible assumption) | (with_reducible exact Wb.Ext.refl _) | (with_reducible refine Wb.Ext.drew ?_) | (with_reducible refine Wb.Ext.drewN ?_ _) | (with_reducible refine Wb.Ext.alloc ?_ _) | (with_reducible refine Wb.Ext.trans ?_ (by assumption))))) zs, Wb.Ext.keep (w := W5) (by (repeat' (first | (with_reducible assumption) | (with_reducible exact Wb.Ext.refl _) | (with_reducible refine Wb.Ext.drew ?_) | (with_reducible refine Wb.Ext.drewN ?_ _) | (with_reducible refine Wb.Ext.alloc ?_ _) | (with_reducible refine Wb.Ext.trans ?_ (by assumption))))) zt, Wb.Ext.keep (w := W5) (by (repeat' (first | (with_reducible assumption) | (with_reducible exact Wb.Ext.refl _) | (with_reducible refine Wb.Ext.drew ?_) | (with_reducible refine Wb.Ext.drewN ?_ _) | (with_reducible refine Wb.Ext.alloc ?_ _) | (with_reducible refine Wb.Ext.trans ?_ (by assumption))))) zv⟩ (fun hHeld => ?_)
                    clear hK K
                    (try simp only [Act.put, List.setIfInBounds_toArray, List.set_cons_zero, List.set_cons_succ])
                    refine wpAnyH_ready (rs := [12]) (by kernel_rfl) (by simp) ?_
                    refine AllReadyH.cons (o := _) rfl (fun K hK => ?_) ?_
                    · go_simp
                      go_at_call 18
                      go_fit (union_any _ _ t s _ (HPt.out.ext (by (repeat' (first | (with_reducible assumption) | (with_reducible exact Wb.Ext.refl _) | (with_reducible refine Wb.Ext.drew ?_) | (with_reducible refine Wb.Ext.drewN ?_ _) | (with_reducible refine Wb.Ext.alloc ?_ _) | (with_reducible refine Wb.Ext.trans ?_ (by assumption)))))) (HPs.out.ext (by (repeat' (first | (with_reducible assumption) | (with_reducible exact Wb.Ext.refl _) | (with_reducible refine Wb.Ext.drew ?_) | (with_reducible refine Wb.Ext.drewN ?_ _) | (with_reducible refine Wb.Ext.alloc ?_ _) | (with_reducible refine Wb.Ext.trans ?_ (by assumption)))))) HSt.out.canon HSs.out.canon HSt.out.bd HSs.out.bd (by omega) (by omega))
                      rintro e w56 ⟨v56, r56, rfl, hs56, hp56, hb56⟩
                      obtain ⟨sa56, sc56, rfl⟩ := hp56.1.shape
                      have HS56 := Lib.hid hs56
                      have hl56 : r56.length ≤ 160 := by have := hs56.len; (try simp only [List.length_cons, List.length_nil] at this); omega
                      have HE56 := Lib.hid (has_uni hs56)
                      replace hb56 : Wb.Ext w55 w56 := Wb.Ext.trans (by (repeat' (first | (with_reducible assumption) | (with_reducible exact Wb.Ext.refl _) | (with_reducible refine Wb.Ext.drew ?_) | (with_reducible refine Wb.Ext.drewN ?_ _) | (with_reducible refine Wb.Ext.alloc ?_ _) | (with_reducible refine Wb.Ext.trans ?_ (by assumption))))) hb56
                      replace HP51 := Lib.hid (HP51.out.ext hb56)
                      replace HP54 := Lib.hid (HP54.out.ext hb56)
                      replace HP55 := Lib.hid (HP55.out.ext hb56)
                      have hx56 : Wb.Ext W5 w56 := Wb.Ext.trans (by (repeat' (first | (with_reducible assumption) | (with_reducible exact Wb.Ext.refl _) | (with_reducible refine Wb.Ext.drew ?_) | (with_reducible refine Wb.Ext.drewN ?_ _) | (with_reducible refine Wb.Ext.alloc ?_ _) | (with_reducible refine Wb.Ext.trans ?_ (by assumption))))) hb56
                      clear hb56
                      have HP56 := Lib.hid hp56
                      clear hs56 hp56
                      refine hK.out _ _ ⟨Wb.Ext.keep (w := W5) (by (repeat' (first | (with_reducible assumption) | (with_reducible exact Wb.Ext.refl _) | (with_reducible refine Wb.Ext.drew ?_) | (with_reducible refine Wb.Ext.drewN ?_ _) | (with_reducible refine Wb.Ext.alloc ?_ _) | (with_reducible refine Wb.Ext.trans ?_ (by assumption))))) zs, Wb.Ext.keep (w := W5) (by (repeat' (first | (with_reducible assumption) | (with_reducible exact Wb.Ext.refl _) | (with_reducible refine Wb.Ext.drew ?_) | (with_reducible refine Wb.Ext.drewN ?_ _) | (with_reducible refine Wb.Ext.alloc ?_ _) | (with_reducible refine Wb.Ext.trans ?_ (by assumption))))) zt, Wb.Ext.keep (w := W5) (by (repeat' (first | (with_reducible assumption) | (with_reducible exact Wb.Ext.refl _) | (with_reducible refine Wb.Ext.drew ?_) | (with_reducible refine Wb.Ext.drewN ?_ _) | (with_reducible refine Wb.Ext.alloc ?_ _) | (with_reducible refine Wb.Ext.trans ?_ (by assumption))))) zv⟩ (fun hHeld => ?_)
                      clear hK K
                      (try simp only [Act.put, List.setIfInBounds_toArray, List.set_cons_zero, List.set_cons_succ])
                      refine wpAnyH_ready (rs := [13]) (by kernel_rfl) (by simp) ?_
                      refine AllReadyH.cons (o := _) rfl (fun K hK => ?_) ?_
                      · go_simp
                        go_at_call 17
                        go_fit (all_any _ r56 _ (HP56.out.ext (by (repeat' (first | (with_reducible assumption) | (with_reducible exact Wb.Ext.refl _) | (with_reducible refine Wb.Ext.drew ?_) | (with_reducible refine Wb.Ext.drewN ?_ _) | (with_reducible refine Wb.Ext.alloc ?_ _) | (with_reducible refine Wb.Ext.trans ?_ (by assumption)))))) (by omega))
                        rintro e w57 ⟨v57, rfl, hp57, hb57⟩
                        obtain ⟨sa57, sc57, rfl⟩ := hp57.1.shape
                        replace hb57 : Wb.Ext w56 w57 := Wb.Ext.trans (by (repeat' (first | (with_reducible assumption) | (with_reducible exact Wb.Ext.refl _) | (with_reducible refine Wb.Ext.drew ?_) | (with_reducible refine Wb.Ext.drewN ?_ _) | (with_reducible refine Wb.Ext.alloc ?_ _) | (with_reducible refine Wb.Ext.trans ?_ (by assumption))))) hb57
                        replace HP51 := Lib.hid (HP51.out.ext hb57)
                        replace HP54 := Lib.hid (HP54.out.ext hb57)
                        replace HP55 := Lib.hid (HP55.out.ext hb57)
                        replace HP56 := Lib.hid (HP56.out.ext hb57)
                        have hx57 : Wb.Ext W5 w57 := Wb.Ext.trans (by (repeat' (first | (with_reducible assumption) | (with_reducible exact Wb.Ext.refl _) | (with_reducible refine Wb.Ext.drew ?_) | (with_reducible refine Wb.Ext.drewN ?_ _) | (with_reducible refine Wb.Ext.alloc ?_ _) | (with_reducible refine Wb.Ext.trans ?_ (by assumption))))) hb57
                        clear hb57
                        have HP57 := Lib.hid hp57
                        clear hp57
                        refine hK.out _ _ ⟨Wb.Ext.keep (w := W5) (by (repeat' (first | (with_reducible assumption) | (with_reducible exact Wb.Ext.refl _) | (with_reducible refine Wb.Ext.drew ?_) | (with_reducible refine Wb.Ext.drewN ?_ _) | (with_reducible refine Wb.Ext.alloc ?_ _) | (with_reducible refine Wb.Ext.trans ?_ (by assumption))))) zs, Wb.Ext.keep (w := W5) (by (repeat' (first | (with_reducible assumption) | (with_reducible exact Wb.Ext.refl _) | (with_reducible refine Wb.Ext.drew ?_) | (with_reducible refine Wb.Ext.drewN ?_ _) | (with_reducible refine Wb.Ext.alloc ?_ _) | (with_reducible refine Wb.Ext.trans ?_ (by assumption))))) zt, Wb.Ext.keep (w := W5) (by (repeat' (first | (with_reducible assumption) | (with_reducible exact Wb.Ext.refl _) | (with_reducible refine Wb.Ext.drew ?_) | (with_reducible refine Wb.Ext.drewN ?_ _) | (with_reducible refine Wb.Ext.alloc ?_ _) | (with_reducible refine Wb.Ext.trans ?_ (by assumption))))) zv⟩ (fun hHeld => ?_)
                        clear hK K
                        (try simp only [Act.put, List.setIfInBounds_toArray, List.set_cons_zero, List.set_cons_succ])
                        refine wpAnyH_ready (rs := [14]) (by kernel_rfl) (by simp) ?_
                        refine AllReadyH.cons (o := _) rfl (fun K hK => ?_) ?_
                        · go_simp
                          go_at_call 16
                          go_fit (same2_any _ _ r54 r56 _ (canon_eq HS56.out.canon HS54.out.canon (fun d => by simp only [HE54.out d, HE56.out d, HEv.out d, HAB.out d, HEs.out d, HEt.out d] <;> (cases Wb.hasL a d <;> cases Wb.hasL b d <;> rfl))) (HP55.out.1.ext (by (repeat' (first | (with_reducible assumption) | (with_reducible exact Wb.Ext.refl _) | (with_reducible refine Wb.Ext.drew ?_) | (with_reducible refine Wb.Ext.drewN ?_ _) | (with_reducible refine Wb.Ext.alloc ?_ _) | (with_reducible refine Wb.Ext.trans ?_ (by assumption)))))) (HP57.out.1.ext (by (repeat' (first | (with_reducible assumption) | (with_reducible exact Wb.Ext.refl _) | (with_reducible refine Wb.Ext.drew ?_) | (with_reducible refine Wb.Ext.drewN ?_ _) | (with_reducible refine Wb.Ext.alloc ?_ _) | (with_reducible refine Wb.Ext.trans ?_ (by assumption)))))) (by omega))
                          rintro e w58 ⟨rfl, hb58⟩
                          replace hb58 : Wb.Ext w57 w58 := Wb.Ext.trans (by (repeat' (first | (with_reducible assumption) | (with_reducible exact Wb.Ext.refl _) | (with_reducible refine Wb.Ext.drew ?_) | (with_reducible refine Wb.Ext.drewN ?_ _) | (with_reducible refine Wb.Ext.alloc ?_ _) | (with_reducible refine Wb.Ext.trans ?_ (by assumption))))) hb58
                          replace HP51 := Lib.hid (HP51.out.ext hb58)
                          replace HP54 := Lib.hid (HP54.out.ext hb58)
                          replace HP56 := Lib.hid (HP56.out.ext hb58)
                          have hx58 : Wb.Ext W5 w58 := Wb.Ext.trans (by (repeat' (first | (with_reducible assumption) | (with_reducible exact Wb.Ext.refl _) | (with_reducible refine Wb.Ext.drew ?_) | (with_reducible refine Wb.Ext.drewN ?_ _) | (with_reducible refine Wb.Ext.alloc ?_ _) | (with_reducible refine Wb.Ext.trans ?_ (by assumption))))) hb58
                          clear hb58
                          refine hK.out _ _ ⟨Wb.Ext.keep (w := W5) (by (repeat' (first | (with_reducible assumption) | (with_reducible exact Wb.Ext.refl _) | (with_reducible refine Wb.Ext.drew ?_) | (with_reducible refine Wb.Ext.drewN ?_ _) | (with_reducible refine Wb.Ext.alloc ?_ _) | (with_reducible refine Wb.Ext.trans ?_ (by assumption))))) zs, Wb.Ext.keep (w := W5) (by (repeat' (first | (with_reducible assumption) | (with_reducible exact Wb.Ext.refl _) | (with_reducible refine Wb.Ext.drew ?_) | (with_reducible refine Wb.Ext.drewN ?_ _) | (with_reducible refine Wb.Ext.alloc ?_ _) | (with_reducible refine Wb.Ext.trans ?_ (by assumption))))) zt, Wb.Ext.keep (w := W5) (by (repeat' (first | (with_reducible assumption) | (with_reducible exact Wb.Ext.refl _) | (with_reducible refine Wb.Ext.drew ?_) | (with_reducible refine Wb.Ext.drewN ?_ _) | (with_reducible refine Wb.Ext.alloc ?_ _) | (with_reducible refine Wb.Ext.trans ?_ (by assumption))))) zv⟩ (fun hHeld => ?_)
                          clear hK K
                          (try simp only [Act.put, List.setIfInBounds_toArray, List.set_cons_zero, List.set_cons_succ])
                          refine take_d (i := 15) (d := 82) (v := ?_) rfl rfl (by kernel_rfl) (by kernel_rfl) (by kernel_rfl) (fun _ _ _ h => h) (Or.inl ⟨by rfl, ?_⟩) (by assumption) ?_
                          rotate_left
                          · (intro w hSw; (try dsimp only at hSw); go_simp; (try with_reducible rfl))
                          (try simp only [Act.put, List.setIfInBounds_toArray, List.set_cons_zero, List.set_cons_succ])
                          refine take_d (i := 16) (d := 83) (v := ?_) rfl rfl (by kernel_rfl) (by kernel_rfl) (by kernel_rfl) (fun _ _ _ h => h) (Or.inl ⟨by rfl, ?_⟩) (by assumption) ?_
                          rotate_left
                          · (intro w hSw; (try dsimp only at hSw); go_simp; (try with_reducible rfl))
                          (try simp only [Act.put, List.setIfInBounds_toArray, List.set_cons_zero, List.set_cons_succ])
                          refine take_d (i := 17) (d := 84) (v := ?_) rfl rfl (by kernel_rfl) (by kernel_rfl) (by kernel_rfl) (fun _ _ _ h => h) (Or.inl ⟨by rfl, ?_⟩) (by assumption) ?_
                          rotate_left
                          · (intro w hSw; (try dsimp only at hSw); go_simp; (try with_reducible rfl))
                          (try simp only [Act.put, List.setIfInBounds_toArray, List.set_cons_zero, List.set_cons_succ])
                          refine take_d (i := 19) (d := 86) (v := ?_) rfl rfl (by kernel_rfl) (by kernel_rfl) (by kernel_rfl) (fun _ _ _ h => h) (Or.inl ⟨by rfl, ?_⟩) (by assumption) ?_
                          rotate_left
                          · (intro w hSw; (try dsimp only at hSw); go_simp; (try with_reducible rfl))
                          (try simp only [Act.put, List.setIfInBounds_toArray, List.set_cons_zero, List.set_cons_succ])
                          refine take_d (i := 20) (d := 87) (v := ?_) rfl rfl (by kernel_rfl) (by kernel_rfl) (by kernel_rfl) (fun _ _ _ h => h) (Or.inl ⟨by rfl, ?_⟩) (by assumption) ?_
                          rotate_left
                          · (intro w hSw; (try dsimp only at hSw); go_simp; (try with_reducible rfl))
                          (try simp only [Act.put, List.setIfInBounds_toArray, List.set_cons_zero, List.set_cons_succ])
                          refine wpAnyH_ready (rs := [18]) (by kernel_rfl) (by simp) ?_
                          refine AllReadyH.cons (o := _) rfl (fun K hK => ?_) ?_
                          · go_simp
                            go_at_call 17
                            go_fit (all_any _ v _ (HPv.out.ext (by (repeat' (first | (with_reducible assumption) | (with_reducible exact Wb.Ext.refl _) | (with_reducible refine Wb.Ext.drew ?_) | (with_reducible refine Wb.Ext.drewN ?_ _) | (with_reducible refine Wb.Ext.alloc ?_ _) | (with_reducible refine Wb.Ext.trans ?_ (by assumption)))))) (by omega))
                            rintro e w59 ⟨v59, rfl, hp59, hb59⟩
                            obtain ⟨sa59, sc59, rfl⟩ := hp59.1.shape
                            replace hb59 : Wb.Ext w58 w59 := Wb.Ext.trans (by (repeat' (first | (with_reducible assumption) | (with_reducible exact Wb.Ext.refl _) | (with_reducible refine Wb.Ext.drew ?_) | (with_reducible refine Wb.Ext.drewN ?_ _) | (with_reducible refine Wb.Ext.alloc ?_ _) | (with_reducible refine Wb.Ext.trans ?_ (by assumption))))) hb59
                            replace HP51 := Lib.hid (HP51.out.ext hb59)
                            replace HP54 := Lib.hid (HP54.out.ext hb59)
                            replace HP56 := Lib.hid (HP56.out.ext hb59)
                            have hx59 : Wb.Ext W5 w59 := Wb.Ext.trans (by (repeat' (first | (with_reducible assumption) | (with_reducible exact Wb.Ext.refl _) | (with_reducible refine Wb.Ext.drew ?_) | (with_reducible refine Wb.Ext.drewN ?_ _) | (with_reducible refine Wb.Ext.alloc ?_ _) | (with_reducible refine Wb.Ext.trans ?_ (by assumption))))) hb59
                            clear hb59
                            have HP59 := Lib.hid hp59
                            clear hp59
                            refine hK.out _ _ ⟨Wb.Ext.keep (w := W5) (by (repeat' (first | (with_reducible assumption) | (with_reducible exact Wb.Ext.refl _) | (with_reducible refine Wb.Ext.drew ?_) | (with_reducible refine Wb.Ext.drewN ?_ _) | (with_reducible refine Wb.Ext.alloc ?_ _) | (with_reducible refine Wb.Ext.trans ?_ (by assumption))))) zs, Wb.Ext.keep (w := W5) (by (repeat' (first | (with_reducible assumption) | (with_reducible exact Wb.Ext.refl _) | (with_reducible refine Wb.Ext.drew ?_) | (with_reducible refine Wb.Ext.drewN ?_ _) | (with_reducible refine Wb.Ext.alloc ?_ _) | (with_reducible refine Wb.Ext.trans ?_ (by assumption))))) zt, Wb.Ext.keep (w := W5) (by (repeat' (first | (with_reducible assumption) | (with_reducible exact Wb.Ext.refl _) | (with_reducible refine Wb.Ext.drew ?_) | (with_reducible refine Wb.Ext.drewN ?_ _) | (with_reducible refine Wb.Ext.alloc ?_ _) | (with_reducible refine Wb.Ext.trans ?_ (by assumption))))) zv⟩ (fun hHeld => ?_)
                            clear hK K
                            (try simp only [Act.put, List.setIfInBounds_toArray, List.set_cons_zero, List.set_cons_succ])
                            refine wpAnyH_ready (rs := [21]) (by kernel_rfl) (by simp) ?_
                            refine AllReadyH.cons (o := _) rfl (fun K hK => ?_) ?_
                            · go_simp
                              go_at_call 18
                              go_fit (union_any _ _ s t _ (HPs.out.ext (by (repeat' (first | (with_reducible assumption) | (with_reducible exact Wb.Ext.refl _) | (with_reducible refine Wb.Ext.drew ?_) | (with_reducible refine Wb.Ext.drewN ?_ _) | (with_reducible refine Wb.Ext.alloc ?_ _) | (with_reducible refine Wb.Ext.trans ?_ (by assumption)))))) (HPt.out.ext (by (repeat' (first | (with_reducible assumption) | (with_reducible exact Wb.Ext.refl _) | (with_reducible refine Wb.Ext.drew ?_) | (with_reducible refine Wb.Ext.drewN ?_ _) | (with_reducible refine Wb.Ext.alloc ?_ _) | (with_reducible refine Wb.Ext.trans ?_ (by assumption)))))) HSs.out.canon HSt.out.canon HSs.out.bd HSt.out.bd (by omega) (by omega))
                              rintro e w60 ⟨v60, r60, rfl, hs60, hp60, hb60⟩
                              obtain ⟨sa60, sc60, rfl⟩ := hp60.1.shape
                              have HS60 := Lib.hid hs60
                              have hl60 : r60.length ≤ 160 := by have := hs60.len; (try simp only [List.length_cons, List.length_nil] at this); omega
                              have HE60 := Lib.hid (has_uni hs60)
                              replace hb60 : Wb.Ext w59 w60 := Wb.Ext.trans (by (repeat' (first | (with_reducible assumption) | (with_reducible exact Wb.Ext.refl _) | (with_reducible refine Wb.Ext.drew ?_) | (with_reducible refine Wb.Ext.drewN ?_ _) | (with_reducible refine Wb.Ext.alloc ?_ _) | (with_reducible refine Wb.Ext.trans ?_ (by assumption))))) hb60
                              replace HP51 := Lib.hid (HP51.out.ext hb60)
                              replace HP54 := Lib.hid (HP54.out.ext hb60)
                              replace HP56 := Lib.hid (HP56.out.ext hb60)
                              replace HP59 := Lib.hid (HP59.out.ext hb60)
                              have hx60 : Wb.Ext W5 w60 := Wb.Ext.trans (by (repeat' (first | (with_reducible assumption) | (with_reducible exact Wb.Ext.refl _) | (with_reducible refine Wb.Ext.drew ?_) | (with_reducible refine Wb.Ext.drewN ?_ _) | (with_reducible refine Wb.Ext.alloc ?_ _) | (with_reducible refine Wb.Ext.trans ?_ (by assumption))))) hb60
                              clear hb60
                              have HP60 := Lib.hid hp60
                              clear hs60 hp60
                              refine hK.out _ _ ⟨Wb.Ext.keep (w := W5) (by (repeat' (first | (with_reducible assumption) | (with_reducible exact Wb.Ext.refl _) | (with_reducible refine Wb.Ext.drew ?_) | (with_reducible refine Wb.Ext.drewN ?_ _) | (with_reducible refine Wb.Ext.alloc ?_ _) | (with_reducible refine Wb.Ext.trans ?_ (by assumption))))) zs, Wb.Ext.keep (w := W5) (by (repeat' (first | (with_reducible assumption) | (with_reducible exact Wb.Ext.refl _) | (with_reducible refine Wb.Ext.drew ?_) | (with_reducible refine Wb.Ext.drewN ?_ _) | (with_reducible refine Wb.Ext.alloc ?_ _) | (with_reducible refine Wb.Ext.trans ?_ (by assumption))))) zt, Wb.Ext.keep (w := W5) (by (repeat' (first | (with_reducible assumption) | (with_reducible exact Wb.Ext.refl _) | (with_reducible refine Wb.Ext.drew ?_) | (with_reducible refine Wb.Ext.drewN ?_ _) | (with_reducible refine Wb.Ext.alloc ?_ _) | (with_reducible refine Wb.Ext.trans ?_ (by assumption))))) zv⟩ (fun hHeld => ?_)
                              clear hK K
                              (try simp only [Act.put, List.setIfInBounds_toArray, List.set_cons_zero, List.set_cons_succ])
                              refine wpAnyH_ready (rs := [22]) (by kernel_rfl) (by simp) ?_
                              refine AllReadyH.cons (o := _) rfl (fun K hK => ?_) ?_
                              · go_simp
                                go_at_call 17
                                go_fit (all_any _ r60 _ (HP60.out.ext (by (repeat' (first | (with_reducible assumption) | (with_reducible exact Wb.Ext.refl _) | (with_reducible refine Wb.Ext.drew ?_) | (with_reducible refine Wb.Ext.drewN ?_ _) | (with_reducible refine Wb.Ext.alloc ?_ _) | (with_reducible refine Wb.Ext.trans ?_ (by assumption)))))) (by omega))
                                rintro e w61 ⟨v61, rfl, hp61, hb61⟩
                                obtain ⟨sa61, sc61, rfl⟩ := hp61.1.shape
                                replace hb61 : Wb.Ext w60 w61 := Wb.Ext.trans (by (repeat' (first | (with_reducible assumption) | (with_reducible exact Wb.Ext.refl _) | (with_reducible refine Wb.Ext.drew ?_) | (with_reducible refine Wb.Ext.drewN ?_ _) | (with_reducible refine Wb.Ext.alloc ?_ _) | (with_reducible refine Wb.Ext.trans ?_ (by assumption))))) hb61
                                replace HP51 := Lib.hid (HP51.out.ext hb61)
                                replace HP54 := Lib.hid (HP54.out.ext hb61)
                                replace HP56 := Lib.hid (HP56.out.ext hb61)
                                replace HP59 := Lib.hid (HP59.out.ext hb61)
                                replace HP60 := Lib.hid (HP60.out.ext hb61)
                                have hx61 : Wb.Ext W5 w61 := Wb.Ext.trans (by (repeat' (first | (with_reducible assumption) | (with_reducible exact Wb.Ext.refl _) | (with_reducible refine Wb.Ext.drew ?_) | (with_reducible refine Wb.Ext.drewN ?_ _) | (with_reducible refine Wb.Ext.alloc ?_ _) | (with_reducible refine Wb.Ext.trans ?_ (by assumption))))) hb61
                                clear hb61
                                have HP61 := Lib.hid hp61
                                clear hp61
                                refine hK.out _ _ ⟨Wb.Ext.keep (w := W5) (by (repeat' (first | (with_reducible assumption) | (with_reducible exact Wb.Ext.refl _) | (with_reducible refine Wb.Ext.drew ?_) | (with_reducible refine Wb.Ext.drewN ?_ _) | (with_reducible refine Wb.Ext.alloc ?_ _) | (with_reducible refine Wb.Ext.trans ?_ (by assumption))))) zs, Wb.Ext.keep (w := W5) (by (repeat' (first | (with_reducible assumption) | (with_reducible exact Wb.Ext.refl _) | (with_reducible refine Wb.Ext.drew ?_) | (with_reducible refine Wb.Ext.drewN ?_ _) | (with_reducible refine Wb.Ext.alloc ?_ _) | (with_reducible refine Wb.Ext.trans ?_ (by assumption))))) zt, Wb.Ext.keep (w := W5) (by (repeat' (first | (with_reducible assumption) | (with_reducible exact Wb.Ext.refl _) | (with_reducible refine Wb.Ext.drew ?_) | (with_reducible refine Wb.Ext.drewN ?_ _) | (with_reducible refine Wb.Ext.alloc ?_ _) | (with_reducible refine Wb.Ext.trans ?_ (by assumption))))) zv⟩ (fun hHeld => ?_)
                                clear hK K
                                (try simp only [Act.put, List.setIfInBounds_toArray, List.set_cons_zero, List.set_cons_succ])
                                refine wpAnyH_ready (rs := [23]) (by kernel_rfl) (by simp) ?_
                                refine AllReadyH.cons (o := _) rfl (fun K hK => ?_) ?_
                                · go_simp
                                  go_at_call 16
                                  go_fit (same2_any _ _ v r60 _ (canon_eq HS60.out.canon HSv.out.canon (fun d => by simp only [HE60.out d, HEv.out d, HAB.out d, HEs.out d, HEt.out d] <;> (cases Wb.hasL a d <;> cases Wb.hasL b d <;> rfl))) (HP59.out.1.ext (by (repeat' (first | (with_reducible assumption) | (with_reducible exact Wb.Ext.refl _) | (with_reducible refine Wb.Ext.drew ?_) | (with_reducible refine Wb.Ext.drewN ?_ _) | (with_reducible refine Wb.Ext.alloc ?_ _) | (with_reducible refine Wb.Ext.trans ?_ (by assumption)))))) (HP61.out.1.ext (by (repeat' (first | (with_reducible assumption) | (with_reducible exact Wb.Ext.refl _) | (with_reducible refine Wb.Ext.drew ?_) | (with_reducible refine Wb.Ext.drewN ?_ _) | (with_reducible refine Wb.Ext.alloc ?_ _) | (with_reducible refine Wb.Ext.trans ?_ (by assumption)))))) (by omega))
                                  rintro e w62 ⟨rfl, hb62⟩
                                  replace hb62 : Wb.Ext w61 w62 := Wb.Ext.trans (by (repeat' (first | (with_reducible assumption) | (with_reducible exact Wb.Ext.refl _) | (with_reducible refine Wb.Ext.drew ?_) | (with_reducible refine Wb.Ext.drewN ?_ _) | (with_reducible refine Wb.Ext.alloc ?_ _) | (with_reducible refine Wb.Ext.trans ?_ (by assumption))))) hb62
                                  replace HP51 := Lib.hid (HP51.out.ext hb62)
                                  replace HP54 := Lib.hid (HP54.out.ext hb62)
                                  replace HP56 := Lib.hid (HP56.out.ext hb62)
                                  replace HP60 := Lib.hid (HP60.out.ext hb62)
                                  have hx62 : Wb.Ext W5 w62 := Wb.Ext.trans (by (repeat' (first | (with_reducible assumption) | (with_reducible exact Wb.Ext.refl _) | (with_reducible refine Wb.Ext.drew ?_) | (with_reducible refine Wb.Ext.drewN ?_ _) | (with_reducible refine Wb.Ext.alloc ?_ _) | (with_reducible refine Wb.Ext.trans ?_ (by assumption))))) hb62
                                  clear hb62
                                  refine hK.out _ _ ⟨Wb.Ext.keep (w := W5) (by (repeat' (first | (with_reducible assumption) | (with_reducible exact Wb.Ext.refl _) | (with_reducible refine Wb.Ext.drew ?_) | (with_reducible refine Wb.Ext.drewN ?_ _) | (with_reducible refine Wb.Ext.alloc ?_ _) | (with_reducible refine Wb.Ext.trans ?_ (by assumption))))) zs, Wb.Ext.keep (w := W5) (by (repeat' (first | (with_reducible assumption) | (with_reducible exact Wb.Ext.refl _) | (with_reducible refine Wb.Ext.drew ?_) | (with_reducible refine Wb.Ext.drewN ?_ _) | (with_reducible refine Wb.Ext.alloc ?_ _) | (with_reducible refine Wb.Ext.trans ?_ (by assumption))))) zt, Wb.Ext.keep (w := W5) (by (repeat' (first | (with_reducible assumption) | (with_reducible exact Wb.Ext.refl _) | (with_reducible refine Wb.Ext.drew ?_) | (with_reducible refine Wb.Ext.drewN ?_ _) | (with_reducible refine Wb.Ext.alloc ?_ _) | (with_reducible refine Wb.Ext.trans ?_ (by assumption))))) zv⟩ (fun hHeld => ?_)
                                  clear hK K
                                  (try simp only [Act.put, List.setIfInBounds_toArray, List.set_cons_zero, List.set_cons_succ])
                                  refine take_d (i := 24) (d := 91) (v := ?_) rfl rfl (by kernel_rfl) (by kernel_rfl) (by kernel_rfl) (fun _ _ _ h => h) (Or.inl ⟨by rfl, ?_⟩) (by assumption) ?_
                                  rotate_left
                                  · (intro w hSw; (try dsimp only at hSw); go_simp; (try with_reducible rfl))
                                  (try simp only [Act.put, List.setIfInBounds_toArray, List.set_cons_zero, List.set_cons_succ])
                                  refine take_d (i := 25) (d := 92) (v := ?_) rfl rfl (by kernel_rfl) (by kernel_rfl) (by kernel_rfl) (fun _ _ _ h => h) (Or.inl ⟨by rfl, ?_⟩) (by assumption) ?_
                                  rotate_left
                                  · (intro w hSw; (try dsimp only at hSw); go_simp; (try with_reducible rfl))
                                  (try simp only [Act.put, List.setIfInBounds_toArray, List.set_cons_zero, List.set_cons_succ])
                                  refine take_d (i := 26) (d := 93) (v := ?_) rfl rfl (by kernel_rfl) (by kernel_rfl) (by kernel_rfl) (fun _ _ _ h => h) (Or.inl ⟨by rfl, ?_⟩) (by assumption) ?_
                                  rotate_left
                                  · (intro w hSw; (try dsimp only at hSw); go_simp; (try with_reducible rfl))
                                  (try simp only [Act.put, List.setIfInBounds_toArray, List.set_cons_zero, List.set_cons_succ])
                                  refine take_d (i := 27) (d := 94) (v := ?_) rfl rfl (by kernel_rfl) (by kernel_rfl) (by kernel_rfl) (fun _ _ _ h => h) (Or.inl ⟨by rfl, ?_⟩) (by assumption) ?_
                                  rotate_left
                                  · (intro w hSw; (try dsimp only at hSw); go_simp; (try with_reducible rfl))
                                  (try simp only [Act.put, List.setIfInBounds_toArray, List.set_cons_zero, List.set_cons_succ])
                                  refine take_d (i := 30) (d := 97) (v := ?_) rfl rfl (by kernel_rfl) (by kernel_rfl) (by kernel_rfl) (fun _ _ _ h => h) (Or.inl ⟨by rfl, ?_⟩) (by assumption) ?_
                                  rotate_left
                                  · (intro w hSw; (try dsimp only at hSw); go_simp; (try with_reducible rfl))
                                  (try simp only [Act.put, List.setIfInBounds_toArray, List.set_cons_zero, List.set_cons_succ])
                                  refine take_d (i := 31) (d := 98) (v := ?_) rfl rfl (by kernel_rfl) (by kernel_rfl) (by kernel_rfl) (fun _ _ _ h => h) (Or.inl ⟨by rfl, ?_⟩) (by assumption) ?_
                                  rotate_left
                                  · (intro w hSw; (try dsimp only at hSw); go_simp; (try with_reducible rfl))
                                  (try simp only [Act.put, List.setIfInBounds_toArray, List.set_cons_zero, List.set_cons_succ])
                                  refine wpAnyH_ready (rs := [28]) (by kernel_rfl) (by simp) ?_
                                  refine AllReadyH.cons (o := _) rfl (fun K hK => ?_) ?_
                                  · go_simp
                                    go_at_call 20
                                    go_fit (meet_any _ _ s t _ (HPs.out.ext (by (repeat' (first | (with_reducible assumption) | (with_reducible exact Wb.Ext.refl _) | (with_reducible refine Wb.Ext.drew ?_) | (with_reducible refine Wb.Ext.drewN ?_ _) | (with_reducible refine Wb.Ext.alloc ?_ _) | (with_reducible refine Wb.Ext.trans ?_ (by assumption)))))) (HPt.out.ext (by (repeat' (first | (with_reducible assumption) | (with_reducible exact Wb.Ext.refl _) | (with_reducible refine Wb.Ext.drew ?_) | (with_reducible refine Wb.Ext.drewN ?_ _) | (with_reducible refine Wb.Ext.alloc ?_ _) | (with_reducible refine Wb.Ext.trans ?_ (by assumption)))))) HSs.out.canon HSt.out.canon HSs.out.bd HSt.out.bd (by omega) (by omega))
                                    rintro e w63 ⟨v63, r63, rfl, hs63, hp63, hb63⟩
                                    obtain ⟨sa63, sc63, rfl⟩ := hp63.1.shape
                                    have HS63 := Lib.hid hs63
                                    have hl63 : r63.length ≤ 160 := by have := hs63.len; (try simp only [List.length_cons, List.length_nil] at this); omega
                                    have HE63 := Lib.hid (has_met hs63)
                                    replace hb63 : Wb.Ext w62 w63 := Wb.Ext.trans (by (repeat' (first | (with_reducible assumption) | (with_reducible exact Wb.Ext.refl _) | (with_reducible refine Wb.Ext.drew ?_) | (with_reducible refine Wb.Ext.drewN ?_ _) | (with_reducible refine Wb.Ext.alloc ?_ _) | (with_reducible refine Wb.Ext.trans ?_ (by assumption))))) hb63
                                    replace HP51 := Lib.hid (HP51.out.ext hb63)
                                    replace HP54 := Lib.hid (HP54.out.ext hb63)
                                    replace HP56 := Lib.hid (HP56.out.ext hb63)
                                    replace HP60 := Lib.hid (HP60.out.ext hb63)
                                    have hx63 : Wb.Ext W5 w63 := Wb.Ext.trans (by (repeat' (first | (with_reducible assumption) | (with_reducible exact Wb.Ext.refl _) | (with_reducible refine Wb.Ext.drew ?_) | (with_reducible refine Wb.Ext.drewN ?_ _) | (with_reducible refine Wb.Ext.alloc ?_ _) | (with_reducible refine Wb.Ext.trans ?_ (by assumption))))) hb63
                                    clear hb63
                                    have HP63 := Lib.hid hp63
                                    clear hs63 hp63
                                    refine hK.out _ _ ⟨Wb.Ext.keep (w := W5) (by (repeat' (first | (with_reducible assumption) | (with_reducible exact Wb.Ext.refl _) | (with_reducible refine Wb.Ext.drew ?_) | (with_reducible refine Wb.Ext.drewN ?_ _) | (with_reducible refine Wb.Ext.alloc ?_ _) | (with_reducible refine Wb.Ext.trans ?_ (by assumption))))) zs, Wb.Ext.keep (w := W5) (by (repeat' (first | (with_reducible assumption) | (with_reducible exact Wb.Ext.refl _) | (with_reducible refine Wb.Ext.drew ?_) | (with_reducible refine Wb.Ext.drewN ?_ _) | (with_reducible refine Wb.Ext.alloc ?_ _) | (with_reducible refine Wb.Ext.trans ?_ (by assumption))))) zt, Wb.Ext.keep (w := W5) (by (repeat' (first | (with_reducible assumption) | (with_reducible exact Wb.Ext.refl _) | (with_reducible refine Wb.Ext.drew ?_) | (with_reducible refine Wb.Ext.drewN ?_ _) | (with_reducible refine Wb.Ext.alloc ?_ _) | (with_reducible refine Wb.Ext.trans ?_ (by assumption))))) zv⟩ (fun hHeld => ?_)
                                    clear hK K
                                    (try simp only [Act.put, List.setIfInBounds_toArray, List.set_cons_zero, List.set_cons_succ])
                                    refine wpAnyH_ready (rs := [29]) (by kernel_rfl) (by simp) ?_
                                    refine AllReadyH.cons (o := _) rfl (fun K hK => ?_) ?_
                                    · go_simp
                                      go_at_call 17
                                      go_fit (all_any _ r63 _ (HP63.out.ext (by (repeat' (first | (with_reducible assumption) | (with_reducible exact Wb.Ext.refl _) | (with_reducible refine Wb.Ext.drew ?_) | (with_reducible refine Wb.Ext.drewN ?_ _) | (with_reducible refine Wb.Ext.alloc ?_ _) | (with_reducible refine Wb.Ext.trans ?_ (by assumption)))))) (by omega))
                                      rintro e w64 ⟨v64, rfl, hp64, hb64⟩
                                      obtain ⟨sa64, sc64, rfl⟩ := hp64.1.shape
                                      replace hb64 : Wb.Ext w63 w64 := Wb.Ext.trans (by (repeat' (first | (with_reducible assumption) | (with_reducible exact Wb.Ext.refl _) | (with_reducible refine Wb.Ext.drew ?_) | (with_reducible refine Wb.Ext.drewN ?_ _) | (with_reducible refine Wb.Ext.alloc ?_ _) | (with_reducible refine Wb.Ext.trans ?_ (by assumption))))) hb64
                                      replace HP51 := Lib.hid (HP51.out.ext hb64)
                                      replace HP54 := Lib.hid (HP54.out.ext hb64)
                                      replace HP56 := Lib.hid (HP56.out.ext hb64)
                                      replace HP60 := Lib.hid (HP60.out.ext hb64)
                                      replace HP63 := Lib.hid (HP63.out.ext hb64)
                                      have hx64 : Wb.Ext W5 w64 := Wb.Ext.trans (by (repeat' (first | (with_reducible assumption) | (with_reducible exact Wb.Ext.refl _) | (with_reducible refine Wb.Ext.drew ?_) | (with_reducible refine Wb.Ext.drewN ?_ _) | (with_reducible refine Wb.Ext.alloc ?_ _) | (with_reducible refine Wb.Ext.trans ?_ (by assumption))))) hb64
                                      clear hb64
                                      have HP64 := Lib.hid hp64
                                      clear hp64
                                      refine hK.out _ _ ⟨Wb.Ext.keep (w := W5) (by (repeat' (first | (with_reducible assumption) | (with_reducible exact Wb.Ext.refl _) | (with_reducible refine Wb.Ext.drew ?_) | (with_reducible refine Wb.Ext.drewN ?_ _) | (with_reducible refine Wb.Ext.alloc ?_ _) | (with_reducible refine Wb.Ext.trans ?_ (by assumption))))) zs, Wb.Ext.keep (w := W5) (by (repeat' (first | (with_reducible assumption) | (with_reducible exact Wb.Ext.refl _) | (with_reducible refine Wb.Ext.drew ?_) | (with_reducible refine Wb.Ext.drewN ?_ _) | (with_reducible refine Wb.Ext.alloc ?_ _) | (with_reducible refine Wb.Ext.trans ?_ (by assumption))))) zt, Wb.Ext.keep (w := W5) (by (repeat' (first | (with_reducible assumption) | (with_reducible exact Wb.Ext.refl _) | (with_reducible refine Wb.Ext.drew ?_) | (with_reducible refine Wb.Ext.drewN ?_ _) | (with_reducible refine Wb.Ext.alloc ?_ _) | (with_reducible refine Wb.Ext.trans ?_ (by assumption))))) zv⟩ (fun hHeld => ?_)
                                      clear hK K
                                      (try simp only [Act.put, List.setIfInBounds_toArray, List.set_cons_zero, List.set_cons_succ])
                                      refine wpAnyH_ready (rs := [32]) (by kernel_rfl) (by simp) ?_
                                      refine AllReadyH.cons (o := _) rfl (fun K hK => ?_) ?_
                                      · go_simp
                                        go_at_call 20
                                        go_fit (meet_any _ _ t s _ (HPt.out.ext (by (repeat' (first | (with_reducible assumption) | (with_reducible exact Wb.Ext.refl _) | (with_reducible refine Wb.Ext.drew ?_) | (with_reducible refine Wb.Ext.drewN ?_ _) | (with_reducible refine Wb.Ext.alloc ?_ _) | (with_reducible refine Wb.Ext.trans ?_ (by assumption)))))) (HPs.out.ext (by (repeat' (first | (with_reducible assumption) | (with_reducible exact Wb.Ext.refl _) | (with_reducible refine Wb.Ext.drew ?_) | (with_reducible refine Wb.Ext.drewN ?_ _) | (with_reducible refine Wb.Ext.alloc ?_ _) | (with_reducible refine Wb.Ext.trans ?_ (by assumption)))))) HSt.out.canon HSs.out.canon HSt.out.bd HSs.out.bd (by omega) (by omega))
                                        rintro e w65 ⟨v65, r65, rfl, hs65, hp65, hb65⟩
                                        obtain ⟨sa65, sc65, rfl⟩ := hp65.1.shape
                                        have HS65 := Lib.hid hs65
                                        have hl65 : r65.length ≤ 160 := by have := hs65.len; (try simp only [List.length_cons, List.length_nil] at this); omega
                                        have HE65 := Lib.hid (has_met hs65)
                                        replace hb65 : Wb.Ext w64 w65 := Wb.Ext.trans (by (repeat' (first | (with_reducible assumption) | (with_reducible exact Wb.Ext.refl _) | (with_reducible refine Wb.Ext.drew ?_) | (with_reducible refine Wb.Ext.drewN ?_ _) | (with_reducible refine Wb.Ext.alloc ?_ _) | (with_reducible refine Wb.Ext.trans ?_ (by assumption))))) hb65
                                        replace HP51 := Lib.hid (HP51.out.ext hb65)
                                        replace HP54 := Lib.hid (HP54.out.ext hb65)
                                        replace HP56 := Lib.hid (HP56.out.ext hb65)
                                        replace HP60 := Lib.hid (HP60.out.ext hb65)
                                        replace HP63 := Lib.hid (HP63.out.ext hb65)
                                        replace HP64 := Lib.hid (HP64.out.ext hb65)
                                        have hx65 : Wb.Ext W5 w65 := Wb.Ext.trans (by (repeat' (first | (with_reducible assumption) | (with_reducible exact Wb.Ext.refl _) | (with_reducible refine Wb.Ext.drew ?_) | (with_reducible refine Wb.Ext.drewN ?_ _) | (with_reducible refine Wb.Ext.alloc ?_ _) | (with_reducible refine Wb.Ext.trans ?_ (by assumption))))) hb65
                                        clear hb65
                                        have HP65 := Lib.hid hp65
                                        clear hs65 hp65
                                        refine hK.out _ _ ⟨Wb.Ext.keep (w := W5) (by (repeat' (first | (with_reducible assumption) | (with_reducible exact Wb.Ext.refl _) | (with_reducible refine Wb.Ext.drew ?_) | (with_reducible refine Wb.Ext.drewN ?_ _) | (with_reducible refine Wb.Ext.alloc ?_ _) | (with_reducible refine Wb.Ext.trans ?_ (by assumption))))) zs, Wb.Ext.keep (w := W5) (by (repeat' (first | (with_reducible assumption) | (with_reducible exact Wb.Ext.refl _) | (with_reducible refine Wb.Ext.drew ?_) | (with_reducible refine Wb.Ext.drewN ?_ _) | (with_reducible refine Wb.Ext.alloc ?_ _) | (with_reducible refine Wb.Ext.trans ?_ (by assumption))))) zt, Wb.Ext.keep (w := W5) (by (repeat' (first | (with_reducible assumption) | (with_reducible exact Wb.Ext.refl _) | (with_reducible refine Wb.Ext.drew ?_) | (with_reducible refine Wb.Ext.drewN ?_ _) | (with_reducible refine Wb.Ext.alloc ?_ _) | (with_reducible refine Wb.Ext.trans ?_ (by assumption))))) zv⟩ (fun hHeld => ?_)
                                        clear hK K
                                        (try simp only [Act.put, List.setIfInBounds_toArray, List.set_cons_zero, List.set_cons_succ])
                                        refine wpAnyH_ready (rs := [33]) (by kernel_rfl) (by simp) ?_
                                        refine AllReadyH.cons (o := _) rfl (fun K hK => ?_) ?_
                                        · go_simp
                                          go_at_call 17
                                          go_fit (all_any _ r65 _ (HP65.out.ext (by (repeat' (first | (with_reducible assumption) | (with_reducible exact Wb.Ext.refl _) | (with_reducible refine Wb.Ext.drew ?_) | (with_reducible refine Wb.Ext.drewN ?_ _) | (with_reducible refine Wb.Ext.alloc ?_ _) | (with_reducible refine Wb.Ext.trans ?_ (by assumption)))))) (by omega))
                                          rintro e w66 ⟨v66, rfl, hp66, hb66⟩
                                          obtain ⟨sa66, sc66, rfl⟩ := hp66.1.shape
                                          replace hb66 : Wb.Ext w65 w66 := Wb.Ext.trans (by (repeat' (first | (with_reducible assumption) | (with_reducible exact Wb.Ext.refl _) | (with_reducible refine Wb.Ext.drew ?_) | (with_reducible refine Wb.Ext.drewN ?_ _) | (with_reducible refine Wb.Ext.alloc ?_ _) | (with_reducible refine Wb.Ext.trans ?_ (by assumption))))) hb66
                                          replace HP51 := Lib.hid (HP51.out.ext hb66)
                                          replace HP54 := Lib.hid (HP54.out.ext hb66)
                                          replace HP56 := Lib.hid (HP56.out.ext hb66)
                                          replace HP60 := Lib.hid (HP60.out.ext hb66)
                                          replace HP63 := Lib.hid (HP63.out.ext hb66)
                                          replace HP64 := Lib.hid (HP64.out.ext hb66)
                                          replace HP65 := Lib.hid (HP65.out.ext hb66)
                                          have hx66 : Wb.Ext W5 w66 := Wb.Ext.trans (by (repeat' (first | (with_reducible assumption) | (with_reducible exact Wb.Ext.refl _) | (with_reducible refine Wb.Ext.drew ?_) | (with_reducible refine Wb.Ext.drewN ?_ _) | (with_reducible refine Wb.Ext.alloc ?_ _) | (with_reducible refine Wb.Ext.trans ?_ (by assumption))))) hb66
                                          clear hb66
                                          have HP66 := Lib.hid hp66
                                          clear hp66
                                          refine hK.out _ _ ⟨Wb.Ext.keep (w := W5) (by (repeat' (first | (with_reducible assumption) | (with_reducible exact Wb.Ext.refl _) | (with_reducible refine Wb.Ext.drew ?_) | (with_reducible refine Wb.Ext.drewN ?_ _) | (with_reducible refine Wb.Ext.alloc ?_ _) | (with_reducible refine Wb.Ext.trans ?_ (by assumption))))) zs, Wb.Ext.keep (w := W5) (by (repeat' (first | (with_reducible assumption) | (with_reducible exact Wb.Ext.refl _) | (with_reducible refine Wb.Ext.drew ?_) | (with_reducible refine Wb.Ext.drewN ?_ _) | (with_reducible refine Wb.Ext.alloc ?_ _) | (with_reducible refine Wb.Ext.trans ?_ (by assumption))))) zt, Wb.Ext.keep (w := W5) (by (repeat' (first | (with_reducible assumption) | (with_reducible exact Wb.Ext.refl _) | (with_reducible refine Wb.Ext.drew ?_) | (with_reducible refine Wb.Ext.drewN ?_ _) | (with_reducible refine Wb.Ext.alloc ?_ _) | (with_reducible refine Wb.Ext.trans ?_ (by assumption))))) zv⟩ (fun hHeld => ?_)
                                          clear hK K
                                          (try simp only [Act.put, List.setIfInBounds_toArray, List.set_cons_zero, List.set_cons_succ])
                                          refine wpAnyH_ready (rs := [34]) (by kernel_rfl) (by simp) ?_
                                          refine AllReadyH.cons (o := _) rfl (fun K hK => ?_) ?_
                                          · go_simp
                                            go_at_call 16
                                            go_fit (same2_any _ _ r63 r65 _ (canon_eq HS65.out.canon HS63.out.canon (fun d => by simp only [HE63.out d, HE65.out d, HEv.out d, HAB.out d, HEs.out d, HEt.out d] <;> (cases Wb.hasL a d <;> cases Wb.hasL b d <;> rfl))) (HP64.out.1.ext (by (repeat' (first | (with_reducible assumption) | (with_reducible exact Wb.Ext.refl _) | (with_reducible refine Wb.Ext.drew ?_) | (with_reducible refine Wb.Ext.drewN ?_ _) | (with_reducible refine Wb.Ext.alloc ?_ _) | (with_reducible refine Wb.Ext.trans ?_ (by assumption)))))) (HP66.out.1.ext (by (repeat' (first | (with_reducible assumption) | (with_reducible exact Wb.Ext.refl _) | (with_reducible refine Wb.Ext.drew ?_) | (with_reducible refine Wb.Ext.drewN ?_ _) | (with_reducible refine Wb.Ext.alloc ?_ _) | (with_reducible refine Wb.Ext.trans ?_ (by assumption)))))) (by omega))
                                            rintro e w67 ⟨rfl, hb67⟩
                                            replace hb67 : Wb.Ext w66 w67 := Wb.Ext.trans (by (repeat' (first | (with_reducible assumption) | (with_reducible exact Wb.Ext.refl _) | (with_reducible refine Wb.Ext.drew ?_) | (with_reducible refine Wb.Ext.drewN ?_ _) | (with_reducible refine Wb.Ext.alloc ?_ _) | (with_reducible refine Wb.Ext.trans ?_ (by assumption))))) hb67
                                            replace HP51 := Lib.hid (HP51.out.ext hb67)
                                            replace HP54 := Lib.hid (HP54.out.ext hb67)
                                            replace HP56 := Lib.hid (HP56.out.ext hb67)
                                            replace HP60 := Lib.hid (HP60.out.ext hb67)
                                            replace HP63 := Lib.hid (HP63.out.ext hb67)
                                            replace HP65 := Lib.hid (HP65.out.ext hb67)
                                            have hx67 : Wb.Ext W5 w67 := Wb.Ext.trans (by (repeat' (first | (with_reducible assumption) | (with_reducible exact Wb.Ext.refl _) | (with_reducible refine Wb.Ext.drew ?_) | (with_reducible refine Wb.Ext.drewN ?_ _) | (with_reducible refine Wb.Ext.alloc ?_ _) | (with_reducible refine Wb.Ext.trans ?_ (by assumption))))) hb67
                                            clear hb67
                                            refine hK.out _ _ ⟨Wb.Ext.keep (w := W5) (by (repeat' (first | (with_reducible assumption) | (with_reducible exact Wb.Ext.refl _) | (with_reducible refine Wb.Ext.drew ?_) | (with_reducible refine Wb.Ext.drewN ?_ _) | (with_reducible refine Wb.Ext.alloc ?_ _) | (with_reducible refine Wb.Ext.trans ?_ (by assumption))))) zs, Wb.Ext.keep (w := W5) (by (repeat' (first | (with_reducible assumption) | (with_reducible exact Wb.Ext.refl _) | (with_reducible refine Wb.Ext.drew ?_) | (with_reducible refine Wb.Ext.drewN ?_ _) | (with_reducible refine Wb.Ext.alloc ?_ _) | (with_reducible refine Wb.Ext.trans ?_ (by assumption))))) zt, Wb.Ext.keep (w := W5) (by (repeat' (first | (with_reducible assumption) | (with_reducible exact Wb.Ext.refl _) | (with_reducible refine Wb.Ext.drew ?_) | (with_reducible refine Wb.Ext.drewN ?_ _) | (with_reducible refine Wb.Ext.alloc ?_ _) | (with_reducible refine Wb.Ext.trans ?_ (by assumption))))) zv⟩ (fun hHeld => ?_)
                                            clear hK K
                                            (try simp only [Act.put, List.setIfInBounds_toArray, List.set_cons_zero, List.set_cons_succ])
                                            refine take_d (i := 35) (d := 102) (v := ?_) rfl rfl (by kernel_rfl) (by kernel_rfl) (by kernel_rfl) (fun _ _ _ h => h) (Or.inl ⟨by rfl, ?_⟩) (by assumption) ?_
                                            rotate_left
                                            · (intro w hSw; (try dsimp only at hSw); go_simp; (try with_reducible rfl))
                                            (try simp only [Act.put, List.setIfInBounds_toArray, List.set_cons_zero, List.set_cons_succ])
                                            refine take_d (i := 36) (d := 103) (v := ?_) rfl rfl (by kernel_rfl) (by kernel_rfl) (by kernel_rfl) (fun _ _ _ h => h) (Or.inl ⟨by rfl, ?_⟩) (by assumption) ?_
                                            rotate_left
                                            · (intro w hSw; (try dsimp only at hSw); go_simp; (try with_reducible rfl))
                                            (try simp only [Act.put, List.setIfInBounds_toArray, List.set_cons_zero, List.set_cons_succ])
                                            refine take_d (i := 37) (d := 104) (v := ?_) rfl rfl (by kernel_rfl) (by kernel_rfl) (by kernel_rfl) (fun _ _ _ h => h) (Or.inl ⟨by rfl, ?_⟩) (by assumption) ?_
                                            rotate_left
                                            · (intro w hSw; (try dsimp only at hSw); go_simp; (try with_reducible rfl))
                                            (try simp only [Act.put, List.setIfInBounds_toArray, List.set_cons_zero, List.set_cons_succ])
                                            refine take_d (i := 38) (d := 105) (v := ?_) rfl rfl (by kernel_rfl) (by kernel_rfl) (by kernel_rfl) (fun _ _ _ h => h) (Or.inl ⟨by rfl, ?_⟩) (by assumption) ?_
                                            rotate_left
                                            · (intro w hSw; (try dsimp only at hSw); go_simp; (try with_reducible rfl))
                                            (try simp only [Act.put, List.setIfInBounds_toArray, List.set_cons_zero, List.set_cons_succ])
                                            refine take_d (i := 41) (d := 108) (v := ?_) rfl rfl (by kernel_rfl) (by kernel_rfl) (by kernel_rfl) (fun _ _ _ h => h) (Or.inl ⟨by rfl, ?_⟩) (by assumption) ?_
                                            rotate_left
                                            · (intro w hSw; (try dsimp only at hSw); go_simp; (try with_reducible rfl))
                                            (try simp only [Act.put, List.setIfInBounds_toArray, List.set_cons_zero, List.set_cons_succ])
                                            refine wpAnyH_ready (rs := [39]) (by kernel_rfl) (by simp) ?_
                                            refine AllReadyH.cons (o := _) rfl (fun K hK => ?_) ?_
                                            · go_simp
                                              go_at_call 18
                                              go_fit (union_any _ _ s s _ (HPs.out.ext (by (repeat' (first | (with_reducible assumption) | (with_reducible exact Wb.Ext.refl _) | (with_reducible refine Wb.Ext.drew ?_) | (with_reducible refine Wb.Ext.drewN ?_ _) | (with_reducible refine Wb.Ext.alloc ?_ _) | (with_reducible refine Wb.Ext.trans ?_ (by assumption)))))) (HPs.out.ext (by (repeat' (first | (with_reducible assumption) | (with_reducible exact Wb.Ext.refl _) | (with_reducible refine Wb.Ext.drew ?_) | (with_reducible refine Wb.Ext.drewN ?_ _) | (with_reducible refine Wb.Ext.alloc ?_ _) | (with_reducible refine Wb.Ext.trans ?_ (by assumption)))))) HSs.out.canon HSs.out.canon HSs.out.bd HSs.out.bd (by omega) (by omega))
                                              rintro e w68 ⟨v68, r68, rfl, hs68, hp68, hb68⟩
                                              obtain ⟨sa68, sc68, rfl⟩ := hp68.1.shape
                                              have HS68 := Lib.hid hs68
                                              have hl68 : r68.length ≤ 160 := by have := hs68.len; (try simp only [List.length_cons, List.length_nil] at this); omega
                                              have HE68 := Lib.hid (has_uni hs68)
                                              replace hb68 : Wb.Ext w67 w68 := Wb.Ext.trans (by (repeat' (first | (with_reducible assumption) | (with_reducible exact Wb.Ext.refl _) | (with_reducible refine Wb.Ext.drew ?_) | (with_reducible refine Wb.Ext.drewN ?_ _) | (with_reducible refine Wb.Ext.alloc ?_ _) | (with_reducible refine Wb.Ext.trans ?_ (by assumption))))) hb68
                                              replace HP51 := Lib.hid (HP51.out.ext hb68)
                                              replace HP54 := Lib.hid (HP54.out.ext hb68)
                                              replace HP56 := Lib.hid (HP56.out.ext hb68)
                                              replace HP60 := Lib.hid (HP60.out.ext hb68)
                                              replace HP63 := Lib.hid (HP63.out.ext hb68)
                                              replace HP65 := Lib.hid (HP65.out.ext hb68)
                                              have hx68 : Wb.Ext W5 w68 := Wb.Ext.trans (by (repeat' (first | (with_reducible assumption) | (with_reducible exact Wb.Ext.refl _) | (with_reducible refine Wb.Ext.drew ?_) | (with_reducible refine Wb.Ext.drewN ?_ _) | (with_reducible refine Wb.Ext.alloc ?_ _) | (with_reducible refine Wb.Ext.trans ?_ (by assumption))))) hb68
                                              clear hb68
                                              have HP68 := Lib.hid hp68
                                              clear hs68 hp68
                                              refine hK.out _ _ ⟨Wb.Ext.keep (w := W5) (by (repeat' (first | (with_reducible assumption) | (with_reducible exact Wb.Ext.refl _) | (with_reducible refine Wb.Ext.drew ?_) | (with_reducible refine Wb.Ext.drewN ?_ _) | (with_reducible refine Wb.Ext.alloc ?_ _) | (with_reducible refine Wb.Ext.trans ?_ (by assumption))))) zs, Wb.Ext.keep (w := W5) (by (repeat' (first | (with_reducible assumption) | (with_reducible exact Wb.Ext.refl _) | (with_reducible refine Wb.Ext.drew ?_) | (with_reducible refine Wb.Ext.drewN ?_ _) | (with_reducible refine Wb.Ext.alloc ?_ _) | (with_reducible refine Wb.Ext.trans ?_ (by assumption))))) zt, Wb.Ext.keep (w := W5) (by (repeat' (first | (with_reducible assumption) | (with_reducible exact Wb.Ext.refl _) | (with_reducible refine Wb.Ext.drew ?_) | (with_reducible refine Wb.Ext.drewN ?_ _) | (with_reducible refine Wb.Ext.alloc ?_ _) | (with_reducible refine Wb.Ext.trans ?_ (by assumption))))) zv⟩ (fun hHeld => ?_)
                                              clear hK K
                                              (try simp only [Act.put, List.setIfInBounds_toArray, List.set_cons_zero, List.set_cons_succ])
                                              refine wpAnyH_ready (rs := [40]) (by kernel_rfl) (by simp) ?_
                                              refine AllReadyH.cons (o := _) rfl (fun K hK => ?_) ?_
                                              · go_simp
                                                go_at_call 17
                                                go_fit (all_any _ r68 _ (HP68.out.ext (by (repeat' (first | (with_reducible assumption) | (with_reducible exact Wb.Ext.refl _) | (with_reducible refine Wb.Ext.drew ?_) | (with_reducible refine Wb.Ext.drewN ?_ _) | (with_reducible refine Wb.Ext.alloc ?_ _) | (with_reducible refine Wb.Ext.trans ?_ (by assumption)))))) (by omega))
                                                rintro e w69 ⟨v69, rfl, hp69, hb69⟩
                                                obtain ⟨sa69, sc69, rfl⟩ := hp69.1.shape
                                                replace hb69 : Wb.Ext w68 w69 := Wb.Ext.trans (by (repeat' (first | (with_reducible assumption) | (with_reducible exact Wb.Ext.refl _) | (with_reducible refine Wb.Ext.drew ?_) | (with_reducible refine Wb.Ext.drewN ?_ _) | (with_reducible refine Wb.Ext.alloc ?_ _) | (with_reducible refine Wb.Ext.trans ?_ (by assumption))))) hb69
                                                replace HP51 := Lib.hid (HP51.out.ext hb69)
                                                replace HP54 := Lib.hid (HP54.out.ext hb69)
                                                replace HP56 := Lib.hid (HP56.out.ext hb69)
                                                replace HP60 := Lib.hid (HP60.out.ext hb69)
                                                replace HP63 := Lib.hid (HP63.out.ext hb69)
                                                replace HP65 := Lib.hid (HP65.out.ext hb69)
                                                replace HP68 := Lib.hid (HP68.out.ext hb69)
                                                have hx69 : Wb.Ext W5 w69 := Wb.Ext.trans (by (repeat' (first | (with_reducible assumption) | (with_reducible exact Wb.Ext.refl _) | (with_reducible refine Wb.Ext.drew ?_) | (with_reducible refine Wb.Ext.drewN ?_ _) | (with_reducible refine Wb.Ext.alloc ?_ _) | (with_reducible refine Wb.Ext.trans ?_ (by assumption))))) hb69
                                                clear hb69
                                                have HP69 := Lib.hid hp69
                                                clear hp69
                                                refine hK.out _ _ ⟨Wb.Ext.keep (w := W5) (by (repeat' (first | (with_reducible assumption) | (with_reducible exact Wb.Ext.refl _) | (with_reducible refine Wb.Ext.drew ?_) | (with_reducible refine Wb.Ext.drewN ?_ _) | (with_reducible refine Wb.Ext.alloc ?_ _) | (with_reducible refine Wb.Ext.trans ?_ (by assumption))))) zs, Wb.Ext.keep (w := W5) (by (repeat' (first | (with_reducible assumption) | (with_reducible exact Wb.Ext.refl _) | (with_reducible refine Wb.Ext.drew ?_) | (with_reducible refine Wb.Ext.drewN ?_ _) | (with_reducible refine Wb.Ext.alloc ?_ _) | (with_reducible refine Wb.Ext.trans ?_ (by assumption))))) zt, Wb.Ext.keep (w := W5) (by (repeat' (first | (with_reducible assumption) | (with_reducible exact Wb.Ext.refl _) | (with_reducible refine Wb.Ext.drew ?_) | (with_reducible refine Wb.Ext.drewN ?_ _) | (with_reducible refine Wb.Ext.alloc ?_ _) | (with_reducible refine Wb.Ext.trans ?_ (by assumption))))) zv⟩ (fun hHeld => ?_)
                                                clear hK K
                                                (try simp only [Act.put, List.setIfInBounds_toArray, List.set_cons_zero, List.set_cons_succ])
                                                refine wpAnyH_ready (rs := [42]) (by kernel_rfl) (by simp) ?_
                                                refine AllReadyH.cons (o := _) rfl (fun K hK => ?_) ?_
                                                · go_simp
                                                  go_at_call 16
                                                  go_fit (same2_any _ _ r68 s _ (canon_eq HSs.out.canon HS68.out.canon (fun d => by simp only [HE68.out d] <;> (cases Wb.hasL s d <;> rfl))) (HP69.out.1.ext (by (repeat' (first | (with_reducible assumption) | (with_reducible exact Wb.Ext.refl _) | (with_reducible refine Wb.Ext.drew ?_) | (with_reducible refine Wb.Ext.drewN ?_ _) | (with_reducible refine Wb.Ext.alloc ?_ _) | (with_reducible refine Wb.Ext.trans ?_ (by assumption)))))) (HPl.out.1.ext (by (repeat' (first | (with_reducible assumption) | (with_reducible exact Wb.Ext.refl _) | (with_reducible refine Wb.Ext.drew ?_) | (with_reducible refine Wb.Ext.drewN ?_ _) | (with_reducible refine Wb.Ext.alloc ?_ _) | (with_reducible refine Wb.Ext.trans ?_ (by assumption)))))) (by omega))
                                                  rintro e w70 ⟨rfl, hb70⟩
                                                  replace hb70 : Wb.Ext w69 w70 := Wb.Ext.trans (by (repeat' (first | (with_reducible assumption) | (with_reducible exact Wb.Ext.refl _) | (with_reducible refine Wb.Ext.drew ?_) | (with_reducible refine Wb.Ext.drewN ?_ _) | (with_reducible refine Wb.Ext.alloc ?_ _) | (with_reducible refine Wb.Ext.trans ?_ (by assumption))))) hb70
                                                  replace HP51 := Lib.hid (HP51.out.ext hb70)
                                                  replace HP54 := Lib.hid (HP54.out.ext hb70)
                                                  replace HP56 := Lib.hid (HP56.out.ext hb70)
                                                  replace HP60 := Lib.hid (HP60.out.ext hb70)
                                                  replace HP63 := Lib.hid (HP63.out.ext hb70)
                                                  replace HP65 := Lib.hid (HP65.out.ext hb70)
                                                  replace HP68 := Lib.hid (HP68.out.ext hb70)
                                                  have hx70 : Wb.Ext W5 w70 := Wb.Ext.trans (by (repeat' (first | (with_reducible assumption) | (with_reducible exact Wb.Ext.refl _) | (with_reducible refine Wb.Ext.drew ?_) | (with_reducible refine Wb.Ext.drewN ?_ _) | (with_reducible refine Wb.Ext.alloc ?_ _) | (with_reducible refine Wb.Ext.trans ?_ (by assumption))))) hb70
                                                  clear hb70
                                                  refine hK.out _ _ ⟨Wb.Ext.keep (w := W5) (by (repeat' (first | (with_reducible assumption) | (with_reducible exact Wb.Ext.refl _) | (with_reducible refine Wb.Ext.drew ?_) | (with_reducible refine Wb.Ext.drewN ?_ _) | (with_reducible refine Wb.Ext.alloc ?_ _) | (with_reducible refine Wb.Ext.trans ?_ (by assumption))))) zs, Wb.Ext.keep (w := W5) (by (repeat' (first | (with_reducible assumption) | (with_reducible exact Wb.Ext.refl _) | (with_reducible refine Wb.Ext.drew ?_) | (with_reducible refine Wb.Ext.drewN ?_ _) | (with_reducible refine Wb.Ext.alloc ?_ _) | (with_reducible refine Wb.Ext.trans ?_ (by assumption))))) zt, Wb.Ext.keep (w := W5) (by (repeat' (first | (with_reducible assumption) | (with_reducible exact Wb.Ext.refl _) | (with_reducible refine Wb.Ext.drew ?_) | (with_reducible refine Wb.Ext.drewN ?_ _) | (with_reducible refine Wb.Ext.alloc ?_ _) | (with_reducible refine Wb.Ext.trans ?_ (by assumption))))) zv⟩ (fun hHeld => ?_)
                                                  clear hK K
                                                  (try simp only [Act.put, List.setIfInBounds_toArray, List.set_cons_zero, List.set_cons_succ])
                                                  refine take_d (i := 43) (d := 110) (v := ?_) rfl rfl (by kernel_rfl) (by kernel_rfl) (by kernel_rfl) (fun _ _ _ h => h) (Or.inl ⟨by rfl, ?_⟩) (by assumption) ?_
                                                  rotate_left
                                                  · (intro w hSw; (try dsimp only at hSw); go_simp; (try with_reducible rfl))
                                                  (try simp only [Act.put, List.setIfInBounds_toArray, List.set_cons_zero, List.set_cons_succ])
                                                  refine take_d (i := 44) (d := 111) (v := ?_) rfl rfl (by kernel_rfl) (by kernel_rfl) (by kernel_rfl) (fun _ _ _ h => h) (Or.inl ⟨by rfl, ?_⟩) (by assumption) ?_
                                                  rotate_left
                                                  · (intro w hSw; (try dsimp only at hSw); go_simp; (try with_reducible rfl))
                                                  (try simp only [Act.put, List.setIfInBounds_toArray, List.set_cons_zero, List.set_cons_succ])
                                                  refine take_d (i := 45) (d := 112) (v := ?_) rfl rfl (by kernel_rfl) (by kernel_rfl) (by kernel_rfl) (fun _ _ _ h => h) (Or.inl ⟨by rfl, ?_⟩) (by assumption) ?_
                                                  rotate_left
                                                  · (intro w hSw; (try dsimp only at hSw); go_simp; (try with_reducible rfl))
                                                  (try simp only [Act.put, List.setIfInBounds_toArray, List.set_cons_zero, List.set_cons_succ])
                                                  refine take_d (i := 46) (d := 113) (v := ?_) rfl rfl (by kernel_rfl) (by kernel_rfl) (by kernel_rfl) (fun _ _ _ h => h) (Or.inl ⟨by rfl, ?_⟩) (by assumption) ?_
                                                  rotate_left
                                                  · (intro w hSw; (try dsimp only at hSw); go_simp; (try with_reducible rfl))
                                                  (try simp only [Act.put, List.setIfInBounds_toArray, List.set_cons_zero, List.set_cons_succ])
                                                  refine take_d (i := 49) (d := 116) (v := ?_) rfl rfl (by kernel_rfl) (by kernel_rfl) (by kernel_rfl) (fun _ _ _ h => h) (Or.inl ⟨by rfl, ?_⟩) (by assumption) ?_
                                                  rotate_left
                                                  · (intro w hSw; (try dsimp only at hSw); go_simp; (try with_reducible rfl))
                                                  (try simp only [Act.put, List.setIfInBounds_toArray, List.set_cons_zero, List.set_cons_succ])
                                                  refine wpAnyH_ready (rs := [47]) (by kernel_rfl) (by simp) ?_
                                                  refine AllReadyH.cons (o := _) rfl (fun K hK => ?_) ?_
                                                  · go_simp
                                                    go_at_call 20
                                                    go_fit (meet_any _ _ s s _ (HPs.out.ext (by (repeat' (first | (with_reducible assumption) | (with_reducible exact Wb.Ext.refl _) | (with_reducible refine Wb.Ext.drew ?_) | (with_reducible refine Wb.Ext.drewN ?_ _) | (with_reducible refine Wb.Ext.alloc ?_ _) | (with_reducible refine Wb.Ext.trans ?_ (by assumption)))))) (HPs.out.ext (by (repeat' (first | (with_reducible assumption) | (with_reducible exact Wb.Ext.refl _) | (with_reducible refine Wb.Ext.drew ?_) | (with_reducible refine Wb.Ext.drewN ?_ _) | (with_reducible refine Wb.Ext.alloc ?_ _) | (with_reducible refine Wb.Ext.trans ?_ (by assumption)))))) HSs.out.canon HSs.out.canon HSs.out.bd HSs.out.bd (by omega) (by omega))
                                                    rintro e w71 ⟨v71, r71, rfl, hs71, hp71, hb71⟩
                                                    obtain ⟨sa71, sc71, rfl⟩ := hp71.1.shape
                                                    have HS71 := Lib.hid hs71
                                                    have hl71 : r71.length ≤ 160 := by have := hs71.len; (try simp only [List.length_cons, List.length_nil] at this); omega
                                                    have HE71 := Lib.hid (has_met hs71)
                                                    replace hb71 : Wb.Ext w70 w71 := Wb.Ext.trans (by (repeat' (first | (with_reducible assumption) | (with_reducible exact Wb.Ext.refl _) | (with_reducible refine Wb.Ext.drew ?_) | (with_reducible refine Wb.Ext.drewN ?_ _) | (with_reducible refine Wb.Ext.alloc ?_ _) | (with_reducible refine Wb.Ext.trans ?_ (by assumption))))) hb71
                                                    replace HP51 := Lib.hid (HP51.out.ext hb71)
                                                    replace HP54 := Lib.hid (HP54.out.ext hb71)
                                                    replace HP56 := Lib.hid (HP56.out.ext hb71)
                                                    replace HP60 := Lib.hid (HP60.out.ext hb71)
                                                    replace HP63 := Lib.hid (HP63.out.ext hb71)
                                                    replace HP65 := Lib.hid (HP65.out.ext hb71)
                                                    replace HP68 := Lib.hid (HP68.out.ext hb71)
                                                    have hx71 : Wb.Ext W5 w71 := Wb.Ext.trans (by (repeat' (first | (with_reducible assumption) | (with_reducible exact Wb.Ext.refl _) | (with_reducible refine Wb.Ext.drew ?_) | (with_reducible refine Wb.Ext.drewN ?_ _) | (with_reducible refine Wb.Ext.alloc ?_ _) | (with_reducible refine Wb.Ext.trans ?_ (by assumption))))) hb71
                                                    clear hb71
                                                    have HP71 := Lib.hid hp71
                                                    clear hs71 hp71
                                                    refine hK.out _ _ ⟨Wb.Ext.keep (w := W5) (by (repeat' (first | (with_reducible assumption) | (with_reducible exact Wb.Ext.refl _) | (with_reducible refine Wb.Ext.drew ?_) | (with_reducible refine Wb.Ext.drewN ?_ _) | (with_reducible refine Wb.Ext.alloc ?_ _) | (with_reducible refine Wb.Ext.trans ?_ (by assumption))))) zs, Wb.Ext.keep (w := W5) (by (repeat' (first | (with_reducible assumption) | (with_reducible exact Wb.Ext.refl _) | (with_reducible refine Wb.Ext.drew ?_) | (with_reducible refine Wb.Ext.drewN ?_ _) | (with_reducible refine Wb.Ext.alloc ?_ _) | (with_reducible refine Wb.Ext.trans ?_ (by assumption))))) zt, Wb.Ext.keep (w := W5) (by (repeat' (first | (with_reducible assumption) | (with_reducible exact Wb.Ext.refl _) | (with_reducible refine Wb.Ext.drew ?_) | (with_reducible refine Wb.Ext.drewN ?_ _) | (with_reducible refine Wb.Ext.alloc ?_ _) | (with_reducible refine Wb.Ext.trans ?_ (by assumption))))) zv⟩ (fun hHeld => ?_)
                                                    clear hK K
                                                    (try simp only [Act.put, List.setIfInBounds_toArray, List.set_cons_zero, List.set_cons_succ])
                                                    refine wpAnyH_ready (rs := [48]) (by kernel_rfl) (by simp) ?_
                                                    refine AllReadyH.cons (o := _) rfl (fun K hK => ?_) ?_
                                                    · go_simp
                                                      go_at_call 17
                                                      go_fit (all_any _ r71 _ (HP71.out.ext (by (repeat' (first | (with_reducible assumption) | (with_reducible exact Wb.Ext.refl _) | (with_reducible refine Wb.Ext.drew ?_) | (with_reducible refine Wb.Ext.drewN ?_ _) | (with_reducible refine Wb.Ext.alloc ?_ _) | (with_reducible refine Wb.Ext.trans ?_ (by assumption)))))) (by omega))
                                                      rintro e w72 ⟨v72, rfl, hp72, hb72⟩
                                                      obtain ⟨sa72, sc72, rfl⟩ := hp72.1.shape
                                                      replace hb72 : Wb.Ext w71 w72 := Wb.Ext.trans (by (repeat' (first | (with_reducible assumption) | (with_reducible exact Wb.Ext.refl _) | (with_reducible refine Wb.Ext.drew ?_) | (with_reducible refine Wb.Ext.drewN ?_ _) | (with_reducible refine Wb.Ext.alloc ?_ _) | (with_reducible refine Wb.Ext.trans ?_ (by assumption))))) hb72
                                                      replace HP51 := Lib.hid (HP51.out.ext hb72)
                                                      replace HP54 := Lib.hid (HP54.out.ext hb72)
                                                      replace HP56 := Lib.hid (HP56.out.ext hb72)
                                                      replace HP60 := Lib.hid (HP60.out.ext hb72)
                                                      replace HP63 := Lib.hid (HP63.out.ext hb72)
                                                      replace HP65 := Lib.hid (HP65.out.ext hb72)
                                                      replace HP68 := Lib.hid (HP68.out.ext hb72)
                                                      replace HP71 := Lib.hid (HP71.out.ext hb72)
                                                      have hx72 : Wb.Ext W5 w72 := Wb.Ext.trans (by (repeat' (first | (with_reducible assumption) | (with_reducible exact Wb.Ext.refl _) | (with_reducible refine Wb.Ext.drew ?_) | (with_reducible refine Wb.Ext.drewN ?_ _) | (with_reducible refine Wb.Ext.alloc ?_ _) | (with_reducible refine Wb.Ext.trans ?_ (by assumption))))) hb72
                                                      clear hb72
                                                      have HP72 := Lib.hid hp72
                                                      clear hp72
                                                      refine hK.out _ _ ⟨Wb.Ext.keep (w := W5) (by (repeat' (first | (with_reducible assumption) | (with_reducible exact Wb.Ext.refl _) | (with_reducible refine Wb.Ext.drew ?_) | (with_reducible refine Wb.Ext.drewN ?_ _) | (with_reducible refine Wb.Ext.alloc ?_ _) | (with_reducible refine Wb.Ext.trans ?_ (by assumption))))) zs, Wb.Ext.keep (w := W5) (by (repeat' (first | (with_reducible assumption) | (with_reducible exact Wb.Ext.refl _) | (with_reducible refine Wb.Ext.drew ?_) | (with_reducible refine Wb.Ext.drewN ?_ _) | (with_reducible refine Wb.Ext.alloc ?_ _) | (with_reducible refine Wb.Ext.trans ?_ (by assumption))))) zt, Wb.Ext.keep (w := W5) (by (repeat' (first | (with_reducible assumption) | (with_reducible exact Wb.Ext.refl _) | (with_reducible refine Wb.Ext.drew ?_) | (with_reducible refine Wb.Ext.drewN ?_ _) | (with_reducible refine Wb.Ext.alloc ?_ _) | (with_reducible refine Wb.Ext.trans ?_ (by assumption))))) zv⟩ (fun hHeld => ?_)
                                                      clear hK K
                                                      (try simp only [Act.put, List.setIfInBounds_toArray, List.set_cons_zero, List.set_cons_succ])
                                                      refine wpAnyH_ready (rs := [50]) (by kernel_rfl) (by simp) ?_
                                                      refine AllReadyH.cons (o := _) rfl (fun K hK => ?_) ?_
                                                      · go_simp
                                                        go_at_call 16
                                                        go_fit (same2_any _ _ r71 s _ (canon_eq HSs.out.canon HS71.out.canon (fun d => by simp only [HE71.out d] <;> (cases Wb.hasL s d <;> rfl))) (HP72.out.1.ext (by (repeat' (first | (with_reducible assumption) | (with_reducible exact Wb.Ext.refl _) | (with_reducible refine Wb.Ext.drew ?_) | (with_reducible refine Wb.Ext.drewN ?_ _) | (with_reducible refine Wb.Ext.alloc ?_ _) | (with_reducible refine Wb.Ext.trans ?_ (by assumption)))))) (HPl.out.1.ext (by (repeat' (first | (with_reducible assumption) | (with_reducible exact Wb.Ext.refl _) | (with_reducible refine Wb.Ext.drew ?_) | (with_reducible refine Wb.Ext.drewN ?_ _) | (with_reducible refine Wb.Ext.alloc ?_ _) | (with_reducible refine Wb.Ext.trans ?_ (by assumption)))))) (by omega))
                                                        rintro e w73 ⟨rfl, hb73⟩
                                                        replace hb73 : Wb.Ext w72 w73 := Wb.Ext.trans (by (repeat' (first | (with_reducible assumption) | (with_reducible exact Wb.Ext.refl _) | (with_reducible refine Wb.Ext.drew ?_) | (with_reducible refine Wb.Ext.drewN ?_ _) | (with_reducible refine Wb.Ext.alloc ?_ _) | (with_reducible refine Wb.Ext.trans ?_ (by assumption))))) hb73
                                                        replace HP51 := Lib.hid (HP51.out.ext hb73)
                                                        replace HP54 := Lib.hid (HP54.out.ext hb73)
                                                        replace HP56 := Lib.hid (HP56.out.ext hb73)
                                                        replace HP60 := Lib.hid (HP60.out.ext hb73)
                                                        replace HP63 := Lib.hid (HP63.out.ext hb73)
                                                        replace HP65 := Lib.hid (HP65.out.ext hb73)
                                                        replace HP68 := Lib.hid (HP68.out.ext hb73)
                                                        replace HP71 := Lib.hid (HP71.out.ext hb73)
                                                        have hx73 : Wb.Ext W5 w73 := Wb.Ext.trans (by (repeat' (first | (with_reducible assumption) | (with_reducible exact Wb.Ext.refl _) | (with_reducible refine Wb.Ext.drew ?_) | (with_reducible refine Wb.Ext.drewN ?_ _) | (with_reducible refine Wb.Ext.alloc ?_ _) | (with_reducible refine Wb.Ext.trans ?_ (by assumption))))) hb73
                                                        clear hb73
                                                        refine hK.out _ _ ⟨Wb.Ext.keep (w := W5) (by (repeat' (first | (with_reducible assumption) | (with_reducible exact Wb.Ext.refl _) | (with_reducible refine Wb.Ext.drew ?_) | (with_reducible refine Wb.Ext.drewN ?_ _) | (with_reducible refine Wb.Ext.alloc ?_ _) | (with_reducible refine Wb.Ext.trans ?_ (by assumption))))) zs, Wb.Ext.keep (w := W5) (by (repeat' (first | (with_reducible assumption) | (with_reducible exact Wb.Ext.refl _) | (with_reducible refine Wb.Ext.drew ?_) | (with_reducible refine Wb.Ext.drewN ?_ _) | (with_reducible refine Wb.Ext.alloc ?_ _) | (with_reducible refine Wb.Ext.trans ?_ (by assumption))))) zt, Wb.Ext.keep (w := W5) (by (repeat' (first | (with_reducible assumption) | (with_reducible exact Wb.Ext.refl _) | (with_reducible refine Wb.Ext.drew ?_) | (with_reducible refine Wb.Ext.drewN ?_ _) | (with_reducible refine Wb.Ext.alloc ?_ _) | (with_reducible refine Wb.Ext.trans ?_ (by assumption))))) zv⟩ (fun hHeld => ?_)
                                                        clear hK K
                                                        (try simp only [Act.put, List.setIfInBounds_toArray, List.set_cons_zero, List.set_cons_succ])
                                                        refine take_d (i := 51) (d := 118) (v := ?_) rfl rfl (by kernel_rfl) (by kernel_rfl) (by kernel_rfl) (fun _ _ _ h => h) (Or.inl ⟨by rfl, ?_⟩) (by assumption) ?_
                                                        rotate_left
                                                        · (intro w hSw; (try dsimp only at hSw); go_simp; (try with_reducible rfl))
                                                        (try simp only [Act.put, List.setIfInBounds_toArray, List.set_cons_zero, List.set_cons_succ])
                                                        refine take_d (i := 52) (d := 119) (v := ?_) rfl rfl (by kernel_rfl) (by kernel_rfl) (by kernel_rfl) (fun _ _ _ h => h) (Or.inl ⟨by rfl, ?_⟩) (by assumption) ?_
                                                        rotate_left
                                                        · (intro w hSw; (try dsimp only at hSw); go_simp; (try with_reducible rfl))
                                                        (try simp only [Act.put, List.setIfInBounds_toArray, List.set_cons_zero, List.set_cons_succ])
                                                        refine take_d (i := 53) (d := 120) (v := ?_) rfl rfl (by kernel_rfl) (by kernel_rfl) (by kernel_rfl) (fun _ _ _ h => h) (Or.inl ⟨by rfl, ?_⟩) (by assumption) ?_
                                                        rotate_left
                                                        · (intro w hSw; (try dsimp only at hSw); go_simp; (try with_reducible rfl))
                                                        (try simp only [Act.put, List.setIfInBounds_toArray, List.set_cons_zero, List.set_cons_succ])
                                                        refine take_d (i := 54) (d := 121) (v := ?_) rfl rfl (by kernel_rfl) (by kernel_rfl) (by kernel_rfl) (fun _ _ _ h => h) (Or.inl ⟨by rfl, ?_⟩) (by assumption) ?_
                                                        rotate_left
                                                        · (intro w hSw; (try dsimp only at hSw); go_simp; (try with_reducible rfl))
                                                        (try simp only [Act.put, List.setIfInBounds_toArray, List.set_cons_zero, List.set_cons_succ])
                                                        refine wpAnyH_ready (rs := [55]) (by kernel_rfl) (by simp) ?_
                                                        refine AllReadyH.cons (o := _) rfl (fun K hK => ?_) ?_
                                                        · go_simp
                                                          go_at_call 21
                                                          go_fit (minus_any _ _ s s _ (HPs.out.ext (by (repeat' (first | (with_reducible assumption) | (with_reducible exact Wb.Ext.refl _) | (with_reducible refine Wb.Ext.drew ?_) | (with_reducible refine Wb.Ext.drewN ?_ _) | (with_reducible refine Wb.Ext.alloc ?_ _) | (with_reducible refine Wb.Ext.trans ?_ (by assumption)))))) (HPs.out.ext (by (repeat' (first | (with_reducible assumption) | (with_reducible exact Wb.Ext.refl _) | (with_reducible refine Wb.Ext.drew ?_) | (with_reducible refine Wb.Ext.drewN ?_ _) | (with_reducible refine Wb.Ext.alloc ?_ _) | (with_reducible refine Wb.Ext.trans ?_ (by assumption)))))) HSs.out.canon HSs.out.canon HSs.out.bd HSs.out.bd (by omega) (by omega))
                                                          rintro e w74 ⟨v74, r74, rfl, hs74, hp74, hb74⟩
                                                          obtain ⟨sa74, sc74, rfl⟩ := hp74.1.shape
                                                          have HS74 := Lib.hid hs74
                                                          have hl74 : r74.length ≤ 160 := by have := hs74.len; (try simp only [List.length_cons, List.length_nil] at this); omega
                                                          have HE74 := Lib.hid (has_min hs74)
                                                          replace hb74 : Wb.Ext w73 w74 := Wb.Ext.trans (by (repeat' (first | (with_reducible assumption) | (with_reducible exact Wb.Ext.refl _) | (with_reducible refine Wb.Ext.drew ?_) | (with_reducible refine Wb.Ext.drewN ?_ _) | (with_reducible refine Wb.Ext.alloc ?_ _) | (with_reducible refine Wb.Ext.trans ?_ (by assumption))))) hb74
                                                          replace HP51 := Lib.hid (HP51.out.ext hb74)
                                                          replace HP54 := Lib.hid (HP54.out.ext hb74)
                                                          replace HP56 := Lib.hid (HP56.out.ext hb74)
                                                          replace HP60 := Lib.hid (HP60.out.ext hb74)
                                                          replace HP63 := Lib.hid (HP63.out.ext hb74)
                                                          replace HP65 := Lib.hid (HP65.out.ext hb74)
                                                          replace HP68 := Lib.hid (HP68.out.ext hb74)
                                                          replace HP71 := Lib.hid (HP71.out.ext hb74)
                                                          have hx74 : Wb.Ext W5 w74 := Wb.Ext.trans (by (repeat' (first | (with_reducible assumption) | (with_reducible exact Wb.Ext.refl _) | (with_reducible refine Wb.Ext.drew ?_) | (with_reducible refine Wb.Ext.drewN ?_ _) | (with_reducible refine Wb.Ext.alloc ?_ _) | (with_reducible refine Wb.Ext.trans ?_ (by assumption))))) hb74
                                                          clear hb74
                                                          have HP74 := Lib.hid hp74
                                                          clear hs74 hp74
                                                          refine hK.out _ _ ⟨Wb.Ext.keep (w := W5) (by (repeat' (first | (with_reducible assumption) | (with_reducible exact Wb.Ext.refl _) | (with_reducible refine Wb.Ext.drew ?_) | (with_reducible refine Wb.Ext.drewN ?_ _) | (with_reducible refine Wb.Ext.alloc ?_ _) | (with_reducible refine Wb.Ext.trans ?_ (by assumption))))) zs, Wb.Ext.keep (w := W5) (by (repeat' (first | (with_reducible assumption) | (with_reducible exact Wb.Ext.refl _) | (with_reducible refine Wb.Ext.drew ?_) | (with_reducible refine Wb.Ext.drewN ?_ _) | (with_reducible refine Wb.Ext.alloc ?_ _) | (with_reducible refine Wb.Ext.trans ?_ (by assumption))))) zt, Wb.Ext.keep (w := W5) (by (repeat' (first | (with_reducible assumption) | (with_reducible exact Wb.Ext.refl _) | (with_reducible refine Wb.Ext.drew ?_) | (with_reducible refine Wb.Ext.drewN ?_ _) | (with_reducible refine Wb.Ext.alloc ?_ _) | (with_reducible refine Wb.Ext.trans ?_ (by assumption))))) zv⟩ (fun hHeld => ?_)
                                                          clear hK K
                                                          (try simp only [Act.put, List.setIfInBounds_toArray, List.set_cons_zero, List.set_cons_succ])
                                                          refine wpAnyH_ready (rs := [56]) (by kernel_rfl) (by simp) ?_
                                                          refine AllReadyH.cons (o := _) rfl (fun K hK => ?_) ?_
                                                          · go_simp
                                                            go_at_call 17
                                                            go_fit (all_any _ r74 _ (HP74.out.ext (by (repeat' (first | (with_reducible assumption) | (with_reducible exact Wb.Ext.refl _) | (with_reducible refine Wb.Ext.drew ?_) | (with_reducible refine Wb.Ext.drewN ?_ _) | (with_reducible refine Wb.Ext.alloc ?_ _) | (with_reducible refine Wb.Ext.trans ?_ (by assumption)))))) (by omega))
                                                            rintro e w75 ⟨v75, rfl, hp75, hb75⟩
                                                            obtain ⟨sa75, sc75, rfl⟩ := hp75.1.shape
                                                            replace hb75 : Wb.Ext w74 w75 := Wb.Ext.trans (by (repeat' (first | (with_reducible assumption) | (with_reducible exact Wb.Ext.refl _) | (with_reducible refine Wb.Ext.drew ?_) | (with_reducible refine Wb.Ext.drewN ?_ _) | (with_reducible refine Wb.Ext.alloc ?_ _) | (with_reducible refine Wb.Ext.trans ?_ (by assumption))))) hb75
                                                            replace HP51 := Lib.hid (HP51.out.ext hb75)
                                                            replace HP54 := Lib.hid (HP54.out.ext hb75)
                                                            replace HP56 := Lib.hid (HP56.out.ext hb75)
                                                            replace HP60 := Lib.hid (HP60.out.ext hb75)
                                                            replace HP63 := Lib.hid (HP63.out.ext hb75)
                                                            replace HP65 := Lib.hid (HP65.out.ext hb75)
                                                            replace HP68 := Lib.hid (HP68.out.ext hb75)
                                                            replace HP71 := Lib.hid (HP71.out.ext hb75)
                                                            replace HP74 := Lib.hid (HP74.out.ext hb75)
                                                            have hx75 : Wb.Ext W5 w75 := Wb.Ext.trans (by (repeat' (first | (with_reducible assumption) | (with_reducible exact Wb.Ext.refl _) | (with_reducible refine Wb.Ext.drew ?_) | (with_reducible refine Wb.Ext.drewN ?_ _) | (with_reducible refine Wb.Ext.alloc ?_ _) | (with_reducible refine Wb.Ext.trans ?_ (by assumption))))) hb75
                                                            clear hb75
                                                            have HP75 := Lib.hid hp75
                                                            clear hp75
                                                            have hnl75 := canon_eq HS74.out.canon Wb.Canon.nil (fun d => by simp only [HE74.out d]; show _ = false; cases Wb.hasL s d <;> rfl)
                                                            rw [hnl75]
                                                            clear hnl75
                                                            refine hK.out _ _ ⟨Wb.Ext.keep (w := W5) (by (repeat' (first | (with_reducible assumption) | (with_reducible exact Wb.Ext.refl _) | (with_reducible refine Wb.Ext.drew ?_) | (with_reducible refine Wb.Ext.drewN ?_ _) | (with_reducible refine Wb.Ext.alloc ?_ _) | (with_reducible refine Wb.Ext.trans ?_ (by assumption))))) zs, Wb.Ext.keep (w := W5) (by (repeat' (first | (with_reducible assumption) | (with_reducible exact Wb.Ext.refl _) | (with_reducible refine Wb.Ext.drew ?_) | (with_reducible refine Wb.Ext.drewN ?_ _) | (with_reducible refine Wb.Ext.alloc ?_ _) | (with_reducible refine Wb.Ext.trans ?_ (by assumption))))) zt, Wb.Ext.keep (w := W5) (by (repeat' (first | (with_reducible assumption) | (with_reducible exact Wb.Ext.refl _) | (with_reducible refine Wb.Ext.drew ?_) | (with_reducible refine Wb.Ext.drewN ?_ _) | (with_reducible refine Wb.Ext.alloc ?_ _) | (with_reducible refine Wb.Ext.trans ?_ (by assumption))))) zv⟩ (fun hHeld => ?_)
                                                            clear hK K
                                                            (try simp only [Act.put, List.setIfInBounds_toArray, List.set_cons_zero, List.set_cons_succ])
                                                            refine take_d (i := 57) (d := 124) (v := ?_) rfl rfl (by kernel_rfl) (by kernel_rfl) (by kernel_rfl) (fun _ _ _ h => h) (Or.inl ⟨by rfl, ?_⟩) (by assumption) ?_
                                                            rotate_left
                                                            · (intro w hSw; (try dsimp only at hSw); go_simp; (try with_reducible rfl))
                                                            (try simp only [Act.put, List.setIfInBounds_toArray, List.set_cons_zero, List.set_cons_succ])
                                                            refine take_d (i := 58) (d := 125) (v := ?_) rfl rfl (by kernel_rfl) (by kernel_rfl) (by kernel_rfl) (fun _ _ _ h => h) (Or.inl ⟨by rfl, ?_⟩) (by assumption) ?_
                                                            rotate_left
                                                            · (intro w hSw; (try dsimp only at hSw); go_simp; (try with_reducible rfl))
                                                            (try simp only [Act.put, List.setIfInBounds_toArray, List.set_cons_zero, List.set_cons_succ])
                                                            refine take_d (i := 59) (d := 126) (v := ?_) rfl rfl (by kernel_rfl) (by kernel_rfl) (by kernel_rfl) (fun _ _ _ h => h) (Or.inl ⟨by rfl, ?_⟩) (by assumption) ?_
                                                            rotate_left
                                                            · (intro w hSw; (try dsimp only at hSw); go_simp; (try with_reducible rfl))
                                                            (try simp only [Act.put, List.setIfInBounds_toArray, List.set_cons_zero, List.set_cons_succ])
                                                            refine take_d (i := 60) (d := 4) (v := ?_) rfl rfl (by kernel_rfl) (by kernel_rfl) (by kernel_rfl) (fun _ _ _ h => h) (Or.inl ⟨by rfl, ?_⟩) (by assumption) ?_
                                                            rotate_left
                                                            · (intro w hSw; (try dsimp only at hSw); go_simp; (try with_reducible rfl))
                                                            (try simp only [Act.put, List.setIfInBounds_toArray, List.set_cons_zero, List.set_cons_succ])
                                                            refine wpAnyH_done (by kernel_rfl) ?_ _
                                                            go_wp2
                                                            go_ret
                                                            exact ⟨rfl, hxW.trans (by (repeat' (first | (with_reducible assumption) | (with_reducible exact Wb.Ext.refl _) | (with_reducible refine Wb.Ext.drew ?_) | (with_reducible refine Wb.Ext.drewN ?_ _) | (with_reducible refine Wb.Ext.alloc ?_ _) | (with_reducible refine Wb.Ext.trans ?_ (by assumption)))))⟩
                                                          exact AllReadyH.nil
                                                        exact AllReadyH.nil
                                                      exact AllReadyH.nil
                                                    exact AllReadyH.nil
                                                  exact AllReadyH.nil
                                                exact AllReadyH.nil
                                              exact AllReadyH.nil
                                            exact AllReadyH.nil
                                          exact AllReadyH.nil
                                        exact AllReadyH.nil
                                      exact AllReadyH.nil
                                    exact AllReadyH.nil
                                  exact AllReadyH.nil
                                exact AllReadyH.nil
                              exact AllReadyH.nil
                            exact AllReadyH.nil
                          exact AllReadyH.nil
                        exact AllReadyH.nil
                      exact AllReadyH.nil
                    exact AllReadyH.nil
                  exact AllReadyH.nil
                exact AllReadyH.nil
              exact AllReadyH.nil
            exact AllReadyH.nil
          exact AllReadyH.nil

end Go.Proofs.Ytdckghdmopafpaa
