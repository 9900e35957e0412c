/- The reference of package span: Together, Of. -/
import Derived.Test.YtdckghdmopafpaaRSpn4
namespace Go.Proofs.Ytdckghdmopafpaa
open Go.RowKit Go.Lib
set_option maxRecDepth 8000
attribute [local go_sem ↓] Go.wp_at_zero Go.wp_at_succ

theorem isB_no (n : Nat) : isB n false false = false := by unfold isB; split <;> (try split) <;> rfl
/-- what the document's Together yields -/
structure IsTog (w w' : World) (p : Int → Prop) (n : Nat) (v : Value) (r : List Wb.Sp) : Prop where
  canon : Wb.Canon r
  mem : ∀ d, Wb.memL r d ↔ p d
  len : r.length ≤ n
  row : SpL w' v r
  ext : Wb.Ext w w'
/-- what may be kept at a day: how long what is told is -/
theorem tog_len (kp : Int → Bool) (l : List Int) : (Wb.tog kp l).1.length ≤ l.length := by
  induction l using Wb.snocI with
  | h0 => exact Nat.le_refl _
  | h1 l e ih =>
    rw [Wb.tog_snoc]
    obtain ⟨⟨r, o⟩, hro⟩ : ∃ R, Wb.tog kp l = R := ⟨_, rfl⟩
    have hn := Wb.tog_ne kp l
    rw [hro] at ih hn ⊢
    simp only at ih hn
    rcases hk : kp e with _ | _ <;> cases o
    · rw [Wb.stepT_off hk]; simp; omega
    · obtain ⟨p, f, rfl⟩ := hn rfl
      rw [Wb.stepT_close hk]; simp at ih ⊢; omega
    · rw [Wb.stepT_open hk]; simp; omega
    · rw [Wb.stepT_on hk]; simp; omega

set_option maxHeartbeats 4000000 in
theorem together_any (n : Nat) (hn : n = 1 ∨ n = 2 ∨ n = 3) (va vb : Value) (a b : List Wb.Sp) (w : World) (hva : SpL w va a) (hvb : SpL w vb b) (hla : a.length ≤ 10000) (hlb : b.length ≤ 10000) :
    Calls Try.prog 19 #[va, vb, .int .i64 (n : Int)] w fun e w' => ∃ v', e = .returned v' ∧ ∃ r, IsTog w w' (fun d => isB n (Wb.hasL a d) (Wb.hasL b d) = true) ((a.length + b.length) * 2) v' r := by
  obtain ⟨i0, hi, hz0, hz1, hz2⟩ := info_parts infoSpan
  have HIN := Lib.hid (show Try.prog.info? 24 = some i0 ∧ i0.zero = some (.agg #[.int .i64 0, .int .i64 0]) ∧ i0.size = 2 ∧ i0.bytes = 16 from ⟨hi, hz0, hz1, hz2⟩)
  clear hi hz0 hz1 hz2
  obtain ⟨sa, sc, rfl⟩ := hva.1.shape
  obtain ⟨ta, tc, rfl⟩ := hvb.1.shape
  have HA := Lib.hid hva
  have HB := Lib.hid hvb
  have HN := Lib.hid hn
  clear hva hvb hn
  have hown0 : (w.alloc (.cells #[] 24)).ownsRow w.heap.size 24 2 (.slice (some ⟨w.heap.size, 0, none⟩) 0 0) 0 [] :=
    ⟨by simp, .inr ⟨w.heap.size, 0, #[], rfl, Nat.le_refl _, by show (w.heap.push _)[w.heap.size]? = _; simp, by simp, by simp, by simp, by simp⟩⟩
  go_enter Try.func19, Try.ntmps19
  obtain ⟨hi, hz0, hz1, hz2⟩ := HIN.out
  go_wp2_with (at_builtin; go_loud (refine Wb.wpList_append_row rfl (.tmp 12) (.tmp 13) 27 rfl w.heap.size 24 i0 (.agg #[.int .i64 0, .int .i64 0]) 2 16 Try.underlying27 hi hz0 hz1 hz2 rfl (by decide) _ _ _ rfl hown0 _ rfl a.length (rowsOf spc a) ?c11 ?c12 ?c13 ?c14 ?c15 ?_))
  case c11 => exact HA.out.2.ext ((Wb.Ext.refl w).alloc _)
  case c12 => exact spc_one a
  case c13 => unfold maxLen; omega
  case c14 => omega
  case c15 => simp
  intro v1 w1 hown1 hg1 hnil1
  have HG1 := Lib.hid (show Wb.Ext w w1 from ((Wb.Ext.refl w).alloc (.cells #[] 24)).grown hg1 (by intro k hk; cases hk; exact Nat.le_refl _))
  have HO1 := Lib.hid hown1
  obtain ⟨ra1, rc1, rfl⟩ := row_shape hown1
  clear hi hz0 hz1 hz2 hown1 hg1 hnil1 hown0
  obtain ⟨hi, hz0, hz1, hz2⟩ := HIN.out
  go_wp2_with (at_builtin; go_loud (refine Wb.wpList_append_row rfl (.tmp 14) (.tmp 15) 27 rfl w.heap.size 24 i0 (.agg #[.int .i64 0, .int .i64 0]) 2 16 Try.underlying27 hi hz0 hz1 hz2 rfl (by decide) _ _ _ rfl HO1.out _ rfl b.length (rowsOf spc b) ?c21 ?c22 ?c23 ?c24 ?c25 ?_))
  case c21 => exact HB.out.2.ext HG1.out
  case c22 => exact spc_one b
  case c23 => unfold maxLen; omega
  case c24 => omega
  case c25 => exact HG1.out.size
  intro v2 w2 hown2 hg2 hnil2
  have HG2 := Lib.hid (show Wb.Ext w w2 from HG1.out.grown hg2 (fun k hk => (HO1.out.lt k hk).1))
  obtain ⟨ra2, rc2, rfl⟩ := row_shape hown2
  have HSP := Lib.hid (show SpL w2 (.slice ra2 (a.length + b.length) rc2) (a ++ b) from spl_row (n := a.length + b.length) (by rw [rowsOf_app]; simpa using hown2))
  clear hi hz0 hz1 hz2 hown2 hg2 hnil2
  go_wp2_with fail
  go_fit (ends_any (.slice ra2 (a.length + b.length) rc2) (a ++ b) w2 HSP.out.1 (by rw [List.length_append]; omega)); rintro e w3 ⟨v3, rfl, E, hE⟩
  obtain ⟨ea, ec, rfl⟩ := hE.row.shape
  have HE := Lib.hid hE
  have HX3 := Lib.hid (HG2.out.trans hE.ext)
  have hel : E.length ≤ (a.length + b.length) * 2 := by have := hE.len; rw [List.length_append] at this; exact this
  clear hE
  go_wp2_with fail
  obtain ⟨kp, hkp⟩ : ∃ kp, (fun d => isB n (Wb.hasL a d) (Wb.hasL b d)) = kp := ⟨_, rfl⟩
  have HKP := Lib.hid hkp
  clear hkp
  go_loopw [8, 9, 10] (fun ov bv iv wr => ∃ k : Nat, k ≤ E.length ∧ iv = .int .i64 k ∧ bv = .bool (Wb.tog kp (E.take k)).2 ∧ wr.ownsRow w3.heap.size 24 2 ov (Wb.tog kp (E.take k)).1.length (rowsOf spc (Wb.tog kp (E.take k)).1) ∧ Wb.Ext w3 wr) (fun _ _ iv _ => E.length - (intOf iv).toNat)
  case atStart => exact ⟨0, Nat.zero_le _, rfl, rfl, own_none, .refl _⟩
  case round =>
    obtain ⟨k, hk, rfl, rfl, hown, hext⟩ := hrel
    have hcl := tog_len kp (E.take k)
    have HNE := Lib.hid (Wb.tog_ne kp (E.take k))
    rw [List.length_take, Nat.min_eq_left hk] at hcl
    obtain ⟨R, hR⟩ : ∃ R, Wb.tog kp (E.take k) = R := ⟨_, rfl⟩
    rw [hR] at hown hcl HNE ⊢
    obtain ⟨r, o⟩ := R
    simp only at hown hcl HNE ⊢
    obtain ⟨oa, oc, rfl⟩ := row_shape hown
    have HOW := Lib.hid hown
    have HEX := Lib.hid hext
    have HSZ := Lib.hid hext.size
    have HR := Lib.hid hR
    clear hown hext hR
    by_cases hlt : k < E.length
    · obtain ⟨y, hy⟩ := Wb.get_ex hlt
      have HT := Lib.hid (Wb.tog_take (kp := kp) hy)
      rcases HE.out.row.cases with ⟨h1, h2⟩ | ⟨g, cap, hvv, hcap, hmx, hcells⟩
      · exfalso; rw [h2] at hlt; simp at hlt
      cases hvv
      have z0 := HEX.out.keep (hcells k y hy)
      have hki : (k : Int) < E.length := by omega
      have HP := Lib.hid (show isB n (Wb.hasL a y) (Wb.hasL b y) = kp y by rw [← HKP.out])
      obtain ⟨p, hp⟩ : ∃ p, kp y = p := ⟨_, rfl⟩
      have HPP := Lib.hid hp
      clear hy hcells hcap hmx hp
      go_wp2_with fail
      go_fit (is_any n HN.out _ _ a b y _ (HA.out.1.ext (HX3.out.trans (HEX.out.trans (by (repeat' (first | (with_reducible assumption) | (with_reducible exact Wb.Ext.refl _) | (with_reducible refine Wb.Ext.drew ?_) | (with_reducible refine Wb.Ext.drewN ?_ _) | (with_reducible refine Wb.Ext.alloc ?_ _) | (with_reducible refine Wb.Ext.trans ?_ (by assumption)))))))) (HB.out.1.ext (HX3.out.trans (HEX.out.trans (by (repeat' (first | (with_reducible assumption) | (with_reducible exact Wb.Ext.refl _) | (with_reducible refine Wb.Ext.drew ?_) | (with_reducible refine Wb.Ext.drewN ?_ _) | (with_reducible refine Wb.Ext.alloc ?_ _) | (with_reducible refine Wb.Ext.trans ?_ (by assumption)))))))) (by omega) (by omega)); rintro e w4 ⟨rfl, hb4⟩
      rw [HP.out, HPP.out]
      have HX4 := Lib.hid (HEX.out.trans hb4)
      have HOW4 := Lib.hid (Wb.row_ext HOW.out hb4)
      have z0 := hb4.keep z0
      have hs4 := hb4.size
      clear hb4
      cases p <;> cases o
      · have HS := Lib.hid (show Wb.tog kp (E.take (k + 1)) = (r, false) by rw [HT.out, HR.out]; exact Wb.stepT_off HPP.out)
        go_wp2
        go_roundw
        case rel => exact ⟨k + 1, by omega, by go_num, by rw [HS.out], by rw [HS.out]; exact HOW4.out, HX4.out⟩
        case measure => simp [intOf]; omega
      · obtain ⟨q, f, hq⟩ := HNE.out rfl
        subst hq
        have HS := Lib.hid (show Wb.tog kp (E.take (k + 1)) = (q ++ [(f, y)], false) by rw [HT.out, HR.out]; exact Wb.stepT_close HPP.out)
        have hql : (q ++ [(f, (0 : Int))]).length = q.length + 1 := by simp
        have hne : Value.slice oa (q ++ [(f, (0 : Int))]).length oc ≠ .slice none 0 0 := by intro e; injection e; omega
        obtain ⟨g2, cap2, hvv2, hgb2, _, _, hcell2⟩ := Wb.ownsRow_at HOW4.out hne
        cases hvv2
        have c1 := hcell2 (q.length * 2 + 1) (.int .i64 0) (rowsOf_get spc_len (l := q ++ [(f, 0)]) (j := q.length) (x := (f, 0)) (by simp) 1 (by decide))
        have f1 := own_free HOW4.out
        have HGB := Lib.hid hgb2
        clear hne hcell2 hgb2
        rw [hql] at HOW4 ⊢
        have e0 : -9223372036854775808 ≤ (q.length : Int) ∧ (q.length : Int) ≤ 9223372036854775807 := by omega
        have e1 : ((q.length + 1 : Nat) : Int) - 1 = q.length := by omega
        have e2 : IntKind.i64.wrap (((q.length + 1 : Nat) : Int) - 1) = q.length := by rw [e1]; exact IntWalk.i64_in _ e0
        have e3 : wrap64 (q.length : Int) = q.length := IntWalk.wrap64_in _ e0
        clear e0
        have HQL := Lib.hid hql
        clear hql
        go_wp2
        clear e1 e2 e3
        go_roundw
        case rel =>
          refine ⟨k + 1, by omega, by go_num, by rw [HS.out], ?_, Wb.ext_set HX4.out (by simpa using HGB.out) _⟩
          have h := own_set HOW4.out (k := q.length * 2 + 1) (by omega) (.int .i64 y)
          rw [rows_set] at h
          rw [HS.out, List.length_append]
          simpa using h
        case measure => simp [intOf]; omega
      · have HS := Lib.hid (show Wb.tog kp (E.take (k + 1)) = (r ++ [(y, 0)], true) by rw [HT.out, HR.out]; exact Wb.stepT_open HPP.out)
        obtain ⟨hi, hz0, hz1, hz2⟩ := HIN.out
        go_wp2_with (at_builtin; go_loud (refine Wb.wpList_append_row rfl (.tmp 37) (.tmp 43) 27 rfl w3.heap.size 24 i0 (.agg #[.int .i64 0, .int .i64 0]) 2 16 Try.underlying27 hi hz0 hz1 hz2 rfl (by decide) _ _ _ rfl (HOW4.out.alloc _) _ rfl 1 (spc (y, 0)) ?c31 ?c32 ?c33 ?c34 ?c35 ?_))
        case c31 => exact src_lit w4 _ rfl (spc (y, 0)) _ _
        case c32 => intro u hu; simp [spc] at hu; rcases hu with rfl | rfl <;> rfl
        case c33 => unfold maxLen; omega
        case c34 => omega
        case c35 => have := HSZ.out; simp; omega
        intro u2 w6 hown2 hg2 hnil2
        have HG := Lib.hid (show Wb.Ext w3 w6 from Wb.Ext.grown (Wb.Ext.trans HX4.out (by (repeat' (first | (with_reducible assumption) | (with_reducible exact Wb.Ext.refl _) | (with_reducible refine Wb.Ext.drew ?_) | (with_reducible refine Wb.Ext.drewN ?_ _) | (with_reducible refine Wb.Ext.alloc ?_ _) | (with_reducible refine Wb.Ext.trans ?_ (by assumption)))))) hg2 (fun n hn => (HOW4.out.lt n hn).1))
        have HO := Lib.hid hown2
        clear hi hz0 hz1 hz2 hg2 hown2 hnil2
        go_wp2
        go_roundw
        case rel => exact ⟨k + 1, by omega, by go_num, by rw [HS.out], by rw [HS.out, List.length_append, rowsOf_app, rowsOf_one]; exact HO.out, HG.out⟩
        case measure => simp [intOf]; omega
      · have HS := Lib.hid (show Wb.tog kp (E.take (k + 1)) = (r, true) by rw [HT.out, HR.out]; exact Wb.stepT_on HPP.out)
        go_wp2
        go_roundw
        case rel => exact ⟨k + 1, by omega, by go_num, by rw [HS.out], by rw [HS.out]; exact HOW4.out, HX4.out⟩
        case measure => simp [intOf]; omega
    · obtain rfl : k = E.length := by omega
      have HRR := Lib.hid (show r = (Wb.tog kp E).1 by have := HR.out; rw [List.take_length] at this; rw [this])
      go_wp2
      go_ret
      obtain ⟨t1, t2⟩ := Wb.together_ok HE.out.ends (isB_no n) (r := r) (by rw [HRR.out, ← HKP.out])
      exact ⟨_, rfl, r, t1, t2, by omega, spl_row HOW.out, HX3.out.trans HEX.out⟩

theorem rof_any (v : Value) (l : List Wb.Sp) (w : World) (hv : SpL w v l) (hl : l.length ≤ 10000) :
    Calls Try.prog 15 #[v] w fun e w' => ∃ v', e = .returned v' ∧ ∃ r, IsTog w w' (Wb.memL l) (l.length * 2) v' r := by
  obtain ⟨va, vc, rfl⟩ := hv.1.shape
  have HV := Lib.hid hv
  clear hv
  go_enter Try.func15, Try.ntmps15
  go_wp2_with fail
  go_fit (together_any 1 (.inl rfl) _ _ l [] _ HV.out SpL.nil hl (Nat.zero_le _)); rintro e w1 ⟨v1, rfl, r, hr⟩
  have HR := Lib.hid hr
  clear hr
  go_wp2
  go_ret
  refine ⟨_, rfl, r, HR.out.canon, fun d => ?_, by have := HR.out.len; simpa using this, HR.out.row, HR.out.ext⟩
  rw [HR.out.mem, ← Wb.hasL_iff]
  simp [isB, show Wb.hasL [] d = false from rfl]

end Go.Proofs.Ytdckghdmopafpaa
