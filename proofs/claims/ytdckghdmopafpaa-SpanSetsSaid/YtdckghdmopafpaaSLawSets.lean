/- The walk of wagebooklaw05.SpanSets. -/
import Derived.Test.YtdckghdmopafpaaSLaw0
namespace Go.Proofs.Ytdckghdmopafpaa
open Go.RowKit Go.Lib
set_option maxRecDepth 8000
attribute [local go_sem ↓] Go.wp_at_zero Go.wp_at_succ

set_option maxHeartbeats 8000000 in
theorem sets_walk (W : World) (va : Value) (a : List Wb.Sp) (hva : SpL W va a) (hba : BdL a) (vb : Value) (b : List Wb.Sp) (hvb : SpL W vb b) (hbb : BdL b) (d : Int) :
    Calls Try.prog 4 #[va, vb, .int .i64 d] W fun e w' => e = .returned (.bool true) ∧ Wb.Ext W w' := by
  obtain ⟨aA, aK, rfl⟩ := hva.1.shape
  have HVa := Lib.hid hva
  have HBa := Lib.hid hba
  clear hva hba
  obtain ⟨bA, bK, rfl⟩ := hvb.1.shape
  have HVb := Lib.hid hvb
  have HBb := Lib.hid hbb
  clear hvb hbb
  by_cases hla : 40 < a.length
  · have da : decide ((40 : Int) < (a.length : Int)) = true := by simp; omega
    go_enter Try.func4, Try.ntmps4
    go_wp2_with fail
    go_fit (awake_any _); rintro e w0 ⟨rfl, hx0⟩
    go_wp2
    go_ret
    exact ⟨rfl, hx0⟩
  · have da : decide ((40 : Int) < (a.length : Int)) = false := by simp; omega
    have hma : a.length ≤ 40 := by omega
    by_cases hlb : 40 < b.length
    · have db : decide ((40 : Int) < (b.length : Int)) = true := by simp; omega
      go_enter Try.func4, Try.ntmps4
      go_wp2_with fail
      go_fit (awake_any _); rintro e w0 ⟨rfl, hx0⟩
      go_wp2
      go_ret
      exact ⟨rfl, hx0⟩
    · have db : decide ((40 : Int) < (b.length : Int)) = false := by simp; omega
      have hmb : b.length ≤ 40 := by omega
      go_enter Try.func4, Try.ntmps4
      go_wp2_with fail
      go_fit (awake_any _); rintro e w0 ⟨rfl, hx0⟩
      go_wp2_with fail
      go_fit (of_any _ a _ (HVa.out.ext (Wb.Ext.trans hx0 (by (repeat' (first | (with_reducible assumption) | (with_reducible exact Wb.Ext.refl _) | (with_reducible refine Wb.Ext.drew ?_) | (with_reducible refine Wb.Ext.drewN ?_ _) | (with_reducible refine Wb.Ext.alloc ?_ _) | (with_reducible refine Wb.Ext.trans ?_ (by assumption))))))) HBa.out (by omega)); rintro e w1 ⟨v1, s, rfl, hs1, hp1, hb1⟩
      obtain ⟨sA, sK, rfl⟩ := hp1.1.shape
      have HSs := Lib.hid hs1
      have HEs := Lib.hid (has_of hs1)
      have hls : s.length ≤ 40 := by have := hs1.len; omega
      replace hb1 : Wb.Ext w0 w1 := Wb.Ext.trans (by (repeat' (first | (with_reducible assumption) | (with_reducible exact Wb.Ext.refl _) | (with_reducible refine Wb.Ext.drew ?_) | (with_reducible refine Wb.Ext.drewN ?_ _) | (with_reducible refine Wb.Ext.alloc ?_ _) | (with_reducible refine Wb.Ext.trans ?_ (by assumption))))) hb1
      have HPs := Lib.hid hp1
      have hx1 : Wb.Ext W w1 := Wb.Ext.trans hx0 hb1
      clear hs1 hp1 hb1
      go_wp2_with fail
      go_fit (of_any _ b _ (HVb.out.ext (Wb.Ext.trans hx1 (by (repeat' (first | (with_reducible assumption) | (with_reducible exact Wb.Ext.refl _) | (with_reducible refine Wb.Ext.drew ?_) | (with_reducible refine Wb.Ext.drewN ?_ _) | (with_reducible refine Wb.Ext.alloc ?_ _) | (with_reducible refine Wb.Ext.trans ?_ (by assumption))))))) HBb.out (by omega)); rintro e w2 ⟨v2, t, rfl, hs2, hp2, hb2⟩
      obtain ⟨tA, tK, rfl⟩ := hp2.1.shape
      have HSt := Lib.hid hs2
      have HEt := Lib.hid (has_of hs2)
      have hlt : t.length ≤ 40 := by have := hs2.len; omega
      replace hb2 : Wb.Ext w1 w2 := Wb.Ext.trans (by (repeat' (first | (with_reducible assumption) | (with_reducible exact Wb.Ext.refl _) | (with_reducible refine Wb.Ext.drew ?_) | (with_reducible refine Wb.Ext.drewN ?_ _) | (with_reducible refine Wb.Ext.alloc ?_ _) | (with_reducible refine Wb.Ext.trans ?_ (by assumption))))) hb2
      replace HPs := Lib.hid (HPs.out.ext hb2)
      have HPt := Lib.hid hp2
      have hx2 : Wb.Ext W w2 := Wb.Ext.trans hx1 hb2
      clear hs2 hp2 hb2
      go_wp2_with fail
      refine Wb.calls_at fun W0 hW0 => ?_
      have hb : Wb.Ext w2 W0 := by rw [hW0]; (repeat' (first | (with_reducible assumption) | (with_reducible exact Wb.Ext.refl _) | (with_reducible refine Wb.Ext.drew ?_) | (with_reducible refine Wb.Ext.drewN ?_ _) | (with_reducible refine Wb.Ext.alloc ?_ _) | (with_reducible refine Wb.ext_set ?_ (by first | assumption | (simp; done) | (simp; omega) | omega) _) | (with_reducible refine Wb.Ext.trans ?_ (by assumption))))
      have zs : W0.cell? ⟨w2.heap.size, 0, none⟩ = some (.slice sA s.length sK) := by rw [hW0]; simp [go_sem]
      have zt : W0.cell? ⟨w2.heap.size + 1, 0, none⟩ = some (.slice tA t.length tK) := by rw [hW0]; simp [go_sem]
      replace HPs := Lib.hid (HPs.out.ext hb)
      replace HPt := Lib.hid (HPt.out.ext hb)
      have hxW : Wb.Ext W W0 := hx2.trans hb
      clear hW0 hb
      have HPa := Lib.hid (HVa.out.ext hxW)
      have HPb := Lib.hid (HVb.out.ext hxW)
      go_fit (rof_any _ a _ HPa.out (by omega)); rintro e w11 ⟨v11, rfl, l, hs11⟩
      obtain ⟨lA, lK, rfl⟩ := hs11.row.1.shape
      have HSl := Lib.hid hs11
      have HEl := Lib.hid (has_rof hs11)
      have hll : l.length ≤ 80 := by have := hs11.len; omega
      have hx11 := hs11.ext
      have HPl := Lib.hid hs11.row
      clear hs11
      have HQL := Lib.hid (canon_eq HSl.out.canon HSs.out.canon (fun d => by simp only [HEl.out d, HEs.out d]))
      have zs11 := hx11.keep zs
      have zt11 := hx11.keep zt
      go_wp2_with fail
      go_fit (all_any _ s _ (HPs.out.ext (by (repeat' (first | (with_reducible assumption) | (with_reducible exact Wb.Ext.refl _) | (with_reducible refine Wb.Ext.drew ?_) | (with_reducible refine Wb.Ext.drewN ?_ _) | (with_reducible refine Wb.Ext.alloc ?_ _) | (with_reducible refine Wb.Ext.trans ?_ (by assumption)))))) (by omega))
      rintro e w12 ⟨v12, rfl, hp12, hb12⟩
      obtain ⟨sa12, sc12, rfl⟩ := hp12.1.shape
      replace hb12 : Wb.Ext w11 w12 := Wb.Ext.trans (by (repeat' (first | (with_reducible assumption) | (with_reducible exact Wb.Ext.refl _) | (with_reducible refine Wb.Ext.drew ?_) | (with_reducible refine Wb.Ext.drewN ?_ _) | (with_reducible refine Wb.Ext.alloc ?_ _) | (with_reducible refine Wb.Ext.trans ?_ (by assumption))))) hb12
      replace HPl := Lib.hid (HPl.out.ext hb12)
      have hx12 : Wb.Ext W0 w12 := Wb.Ext.trans (by (repeat' (first | (with_reducible assumption) | (with_reducible exact Wb.Ext.refl _) | (with_reducible refine Wb.Ext.drew ?_) | (with_reducible refine Wb.Ext.drewN ?_ _) | (with_reducible refine Wb.Ext.alloc ?_ _) | (with_reducible refine Wb.Ext.trans ?_ (by assumption))))) hb12
      clear hb12
      have HP12 := Lib.hid hp12
      clear hp12
      have zs12 := hx12.keep zs
      have zt12 := hx12.keep zt
      go_wp2_with fail
      go_fit (same2_any _ _ s l _ (canon_eq HSl.out.canon HSs.out.canon (fun d => by simp only [HEl.out d, HEs.out d] <;> (cases Wb.hasL a d <;> rfl))) (HP12.out.1.ext (by (repeat' (first | (with_reducible assumption) | (with_reducible exact Wb.Ext.refl _) | (with_reducible refine Wb.Ext.drew ?_) | (with_reducible refine Wb.Ext.drewN ?_ _) | (with_reducible refine Wb.Ext.alloc ?_ _) | (with_reducible refine Wb.Ext.trans ?_ (by assumption)))))) (HPl.out.1.ext (by (repeat' (first | (with_reducible assumption) | (with_reducible exact Wb.Ext.refl _) | (with_reducible refine Wb.Ext.drew ?_) | (with_reducible refine Wb.Ext.drewN ?_ _) | (with_reducible refine Wb.Ext.alloc ?_ _) | (with_reducible refine Wb.Ext.trans ?_ (by assumption)))))) (by omega))
      rintro e w13 ⟨rfl, hb13⟩
      replace hb13 : Wb.Ext w12 w13 := Wb.Ext.trans (by (repeat' (first | (with_reducible assumption) | (with_reducible exact Wb.Ext.refl _) | (with_reducible refine Wb.Ext.drew ?_) | (with_reducible refine Wb.Ext.drewN ?_ _) | (with_reducible refine Wb.Ext.alloc ?_ _) | (with_reducible refine Wb.Ext.trans ?_ (by assumption))))) hb13
      replace HPl := Lib.hid (HPl.out.ext hb13)
      have hx13 : Wb.Ext W0 w13 := Wb.Ext.trans (by (repeat' (first | (with_reducible assumption) | (with_reducible exact Wb.Ext.refl _) | (with_reducible refine Wb.Ext.drew ?_) | (with_reducible refine Wb.Ext.drewN ?_ _) | (with_reducible refine Wb.Ext.alloc ?_ _) | (with_reducible refine Wb.Ext.trans ?_ (by assumption))))) hb13
      clear hb13
      have zs13 := hx13.keep zs
      have zt13 := hx13.keep zt
      go_wp2_with fail
      go_fit (union_any _ _ s t _ (HPs.out.ext (by (repeat' (first | (with_reducible assumption) | (with_reducible exact Wb.Ext.refl _) | (with_reducible refine Wb.Ext.drew ?_) | (with_reducible refine Wb.Ext.drewN ?_ _) | (with_reducible refine Wb.Ext.alloc ?_ _) | (with_reducible refine Wb.Ext.trans ?_ (by assumption)))))) (HPt.out.ext (by (repeat' (first | (with_reducible assumption) | (with_reducible exact Wb.Ext.refl _) | (with_reducible refine Wb.Ext.drew ?_) | (with_reducible refine Wb.Ext.drewN ?_ _) | (with_reducible refine Wb.Ext.alloc ?_ _) | (with_reducible refine Wb.Ext.trans ?_ (by assumption)))))) HSs.out.canon HSt.out.canon HSs.out.bd HSt.out.bd (by omega) (by omega))
      rintro e w14 ⟨v14, r14, rfl, hs14, hp14, hb14⟩
      obtain ⟨sa14, sc14, rfl⟩ := hp14.1.shape
      have HS14 := Lib.hid hs14
      have hl14 : r14.length ≤ 160 := by have := hs14.len; (try simp only [List.length_cons, List.length_nil] at this); omega
      have HE14 := Lib.hid (has_uni hs14)
      replace hb14 : Wb.Ext w13 w14 := Wb.Ext.trans (by (repeat' (first | (with_reducible assumption) | (with_reducible exact Wb.Ext.refl _) | (with_reducible refine Wb.Ext.drew ?_) | (with_reducible refine Wb.Ext.drewN ?_ _) | (with_reducible refine Wb.Ext.alloc ?_ _) | (with_reducible refine Wb.Ext.trans ?_ (by assumption))))) hb14
      replace HPl := Lib.hid (HPl.out.ext hb14)
      have hx14 : Wb.Ext W0 w14 := Wb.Ext.trans (by (repeat' (first | (with_reducible assumption) | (with_reducible exact Wb.Ext.refl _) | (with_reducible refine Wb.Ext.drew ?_) | (with_reducible refine Wb.Ext.drewN ?_ _) | (with_reducible refine Wb.Ext.alloc ?_ _) | (with_reducible refine Wb.Ext.trans ?_ (by assumption))))) hb14
      clear hb14
      have HP14 := Lib.hid hp14
      clear hs14 hp14
      have zs14 := hx14.keep zs
      have zt14 := hx14.keep zt
      go_wp2_with fail
      go_fit (all_any _ r14 _ (HP14.out.ext (by (repeat' (first | (with_reducible assumption) | (with_reducible exact Wb.Ext.refl _) | (with_reducible refine Wb.Ext.drew ?_) | (with_reducible refine Wb.Ext.drewN ?_ _) | (with_reducible refine Wb.Ext.alloc ?_ _) | (with_reducible refine Wb.Ext.trans ?_ (by assumption)))))) (by omega))
      rintro e w15 ⟨v15, rfl, hp15, hb15⟩
      obtain ⟨sa15, sc15, rfl⟩ := hp15.1.shape
      replace hb15 : Wb.Ext w14 w15 := Wb.Ext.trans (by (repeat' (first | (with_reducible assumption) | (with_reducible exact Wb.Ext.refl _) | (with_reducible refine Wb.Ext.drew ?_) | (with_reducible refine Wb.Ext.drewN ?_ _) | (with_reducible refine Wb.Ext.alloc ?_ _) | (with_reducible refine Wb.Ext.trans ?_ (by assumption))))) hb15
      replace HPl := Lib.hid (HPl.out.ext hb15)
      replace HP14 := Lib.hid (HP14.out.ext hb15)
      have hx15 : Wb.Ext W0 w15 := Wb.Ext.trans (by (repeat' (first | (with_reducible assumption) | (with_reducible exact Wb.Ext.refl _) | (with_reducible refine Wb.Ext.drew ?_) | (with_reducible refine Wb.Ext.drewN ?_ _) | (with_reducible refine Wb.Ext.alloc ?_ _) | (with_reducible refine Wb.Ext.trans ?_ (by assumption))))) hb15
      clear hb15
      have HP15 := Lib.hid hp15
      clear hp15
      have zs15 := hx15.keep zs
      have zt15 := hx15.keep zt
      go_wp2_with fail
      go_fit (together_any 1 (.inl rfl) _ _ a b _ (HPa.out.ext (by (repeat' (first | (with_reducible assumption) | (with_reducible exact Wb.Ext.refl _) | (with_reducible refine Wb.Ext.drew ?_) | (with_reducible refine Wb.Ext.drewN ?_ _) | (with_reducible refine Wb.Ext.alloc ?_ _) | (with_reducible refine Wb.Ext.trans ?_ (by assumption)))))) (HPb.out.ext (by (repeat' (first | (with_reducible assumption) | (with_reducible exact Wb.Ext.refl _) | (with_reducible refine Wb.Ext.drew ?_) | (with_reducible refine Wb.Ext.drewN ?_ _) | (with_reducible refine Wb.Ext.alloc ?_ _) | (with_reducible refine Wb.Ext.trans ?_ (by assumption)))))) (by omega) (by omega))
      rintro e w16 ⟨v16, rfl, r16, hs16⟩
      obtain ⟨sa16, sc16, rfl⟩ := hs16.row.1.shape
      have hb16 := hs16.ext
      have HS16 := Lib.hid hs16
      have HE16 := Lib.hid (has_tog hs16)
      have hl16 : r16.length ≤ 160 := by have := hs16.len; omega
      replace hb16 : Wb.Ext w15 w16 := Wb.Ext.trans (by (repeat' (first | (with_reducible assumption) | (with_reducible exact Wb.Ext.refl _) | (with_reducible refine Wb.Ext.drew ?_) | (with_reducible refine Wb.Ext.drewN ?_ _) | (with_reducible refine Wb.Ext.alloc ?_ _) | (with_reducible refine Wb.Ext.trans ?_ (by assumption))))) hb16
      replace HPl := Lib.hid (HPl.out.ext hb16)
      replace HP14 := Lib.hid (HP14.out.ext hb16)
      replace HP15 := Lib.hid (HP15.out.ext hb16)
      have hx16 : Wb.Ext W0 w16 := Wb.Ext.trans (by (repeat' (first | (with_reducible assumption) | (with_reducible exact Wb.Ext.refl _) | (with_reducible refine Wb.Ext.drew ?_) | (with_reducible refine Wb.Ext.drewN ?_ _) | (with_reducible refine Wb.Ext.alloc ?_ _) | (with_reducible refine Wb.Ext.trans ?_ (by assumption))))) hb16
      clear hb16
      have HP16 := Lib.hid hs16.row
      clear hs16
      have zs16 := hx16.keep zs
      have zt16 := hx16.keep zt
      go_wp2_with fail
      go_fit (same2_any _ _ r14 r16 _ (canon_eq HS16.out.canon HS14.out.canon (fun d => by simp only [HE16.out d, HE14.out d, HEs.out d, HEt.out d] <;> (cases Wb.hasL a d <;> cases Wb.hasL b d <;> rfl))) (HP15.out.1.ext (by (repeat' (first | (with_reducible assumption) | (with_reducible exact Wb.Ext.refl _) | (with_reducible refine Wb.Ext.drew ?_) | (with_reducible refine Wb.Ext.drewN ?_ _) | (with_reducible refine Wb.Ext.alloc ?_ _) | (with_reducible refine Wb.Ext.trans ?_ (by assumption)))))) (HP16.out.1.ext (by (repeat' (first | (with_reducible assumption) | (with_reducible exact Wb.Ext.refl _) | (with_reducible refine Wb.Ext.drew ?_) | (with_reducible refine Wb.Ext.drewN ?_ _) | (with_reducible refine Wb.Ext.alloc ?_ _) | (with_reducible refine Wb.Ext.trans ?_ (by assumption)))))) (by omega))
      rintro e w17 ⟨rfl, hb17⟩
      replace hb17 : Wb.Ext w16 w17 := Wb.Ext.trans (by (repeat' (first | (with_reducible assumption) | (with_reducible exact Wb.Ext.refl _) | (with_reducible refine Wb.Ext.drew ?_) | (with_reducible refine Wb.Ext.drewN ?_ _) | (with_reducible refine Wb.Ext.alloc ?_ _) | (with_reducible refine Wb.Ext.trans ?_ (by assumption))))) hb17
      replace HPl := Lib.hid (HPl.out.ext hb17)
      replace HP14 := Lib.hid (HP14.out.ext hb17)
      have hx17 : Wb.Ext W0 w17 := Wb.Ext.trans (by (repeat' (first | (with_reducible assumption) | (with_reducible exact Wb.Ext.refl _) | (with_reducible refine Wb.Ext.drew ?_) | (with_reducible refine Wb.Ext.drewN ?_ _) | (with_reducible refine Wb.Ext.alloc ?_ _) | (with_reducible refine Wb.Ext.trans ?_ (by assumption))))) hb17
      clear hb17
      have zs17 := hx17.keep zs
      have zt17 := hx17.keep zt
      go_wp2_with fail
      go_fit (meet_any _ _ s t _ (HPs.out.ext (by (repeat' (first | (with_reducible assumption) | (with_reducible exact Wb.Ext.refl _) | (with_reducible refine Wb.Ext.drew ?_) | (with_reducible refine Wb.Ext.drewN ?_ _) | (with_reducible refine Wb.Ext.alloc ?_ _) | (with_reducible refine Wb.Ext.trans ?_ (by assumption)))))) (HPt.out.ext (by (repeat' (first | (with_reducible assumption) | (with_reducible exact Wb.Ext.refl _) | (with_reducible refine Wb.Ext.drew ?_) | (with_reducible refine Wb.Ext.drewN ?_ _) | (with_reducible refine Wb.Ext.alloc ?_ _) | (with_reducible refine Wb.Ext.trans ?_ (by assumption)))))) HSs.out.canon HSt.out.canon HSs.out.bd HSt.out.bd (by omega) (by omega))
      rintro e w18 ⟨v18, r18, rfl, hs18, hp18, hb18⟩
      obtain ⟨sa18, sc18, rfl⟩ := hp18.1.shape
      have HS18 := Lib.hid hs18
      have hl18 : r18.length ≤ 160 := by have := hs18.len; (try simp only [List.length_cons, List.length_nil] at this); omega
      have HE18 := Lib.hid (has_met hs18)
      replace hb18 : Wb.Ext w17 w18 := Wb.Ext.trans (by (repeat' (first | (with_reducible assumption) | (with_reducible exact Wb.Ext.refl _) | (with_reducible refine Wb.Ext.drew ?_) | (with_reducible refine Wb.Ext.drewN ?_ _) | (with_reducible refine Wb.Ext.alloc ?_ _) | (with_reducible refine Wb.Ext.trans ?_ (by assumption))))) hb18
      replace HPl := Lib.hid (HPl.out.ext hb18)
      replace HP14 := Lib.hid (HP14.out.ext hb18)
      have hx18 : Wb.Ext W0 w18 := Wb.Ext.trans (by (repeat' (first | (with_reducible assumption) | (with_reducible exact Wb.Ext.refl _) | (with_reducible refine Wb.Ext.drew ?_) | (with_reducible refine Wb.Ext.drewN ?_ _) | (with_reducible refine Wb.Ext.alloc ?_ _) | (with_reducible refine Wb.Ext.trans ?_ (by assumption))))) hb18
      clear hb18
      have HP18 := Lib.hid hp18
      clear hs18 hp18
      have zs18 := hx18.keep zs
      have zt18 := hx18.keep zt
      go_wp2_with fail
      go_fit (all_any _ r18 _ (HP18.out.ext (by (repeat' (first | (with_reducible assumption) | (with_reducible exact Wb.Ext.refl _) | (with_reducible refine Wb.Ext.drew ?_) | (with_reducible refine Wb.Ext.drewN ?_ _) | (with_reducible refine Wb.Ext.alloc ?_ _) | (with_reducible refine Wb.Ext.trans ?_ (by assumption)))))) (by omega))
      rintro e w19 ⟨v19, rfl, hp19, hb19⟩
      obtain ⟨sa19, sc19, rfl⟩ := hp19.1.shape
      replace hb19 : Wb.Ext w18 w19 := Wb.Ext.trans (by (repeat' (first | (with_reducible assumption) | (with_reducible exact Wb.Ext.refl _) | (with_reducible refine Wb.Ext.drew ?_) | (with_reducible refine Wb.Ext.drewN ?_ _) | (with_reducible refine Wb.Ext.alloc ?_ _) | (with_reducible refine Wb.Ext.trans ?_ (by assumption))))) hb19
      replace HPl := Lib.hid (HPl.out.ext hb19)
      replace HP14 := Lib.hid (HP14.out.ext hb19)
      replace HP18 := Lib.hid (HP18.out.ext hb19)
      have hx19 : Wb.Ext W0 w19 := Wb.Ext.trans (by (repeat' (first | (with_reducible assumption) | (with_reducible exact Wb.Ext.refl _) | (with_reducible refine Wb.Ext.drew ?_) | (with_reducible refine Wb.Ext.drewN ?_ _) | (with_reducible refine Wb.Ext.alloc ?_ _) | (with_reducible refine Wb.Ext.trans ?_ (by assumption))))) hb19
      clear hb19
      have HP19 := Lib.hid hp19
      clear hp19
      have zs19 := hx19.keep zs
      have zt19 := hx19.keep zt
      go_wp2_with fail
      go_fit (together_any 2 (.inr (.inl rfl)) _ _ a b _ (HPa.out.ext (by (repeat' (first | (with_reducible assumption) | (with_reducible exact Wb.Ext.refl _) | (with_reducible refine Wb.Ext.drew ?_) | (with_reducible refine Wb.Ext.drewN ?_ _) | (with_reducible refine Wb.Ext.alloc ?_ _) | (with_reducible refine Wb.Ext.trans ?_ (by assumption)))))) (HPb.out.ext (by (repeat' (first | (with_reducible assumption) | (with_reducible exact Wb.Ext.refl _) | (with_reducible refine Wb.Ext.drew ?_) | (with_reducible refine Wb.Ext.drewN ?_ _) | (with_reducible refine Wb.Ext.alloc ?_ _) | (with_reducible refine Wb.Ext.trans ?_ (by assumption)))))) (by omega) (by omega))
      rintro e w20 ⟨v20, rfl, r20, hs20⟩
      obtain ⟨sa20, sc20, rfl⟩ := hs20.row.1.shape
      have hb20 := hs20.ext
      have HS20 := Lib.hid hs20
      have HE20 := Lib.hid (has_tog hs20)
      have hl20 : r20.length ≤ 160 := by have := hs20.len; omega
      replace hb20 : Wb.Ext w19 w20 := Wb.Ext.trans (by (repeat' (first | (with_reducible assumption) | (with_reducible exact Wb.Ext.refl _) | (with_reducible refine Wb.Ext.drew ?_) | (with_reducible refine Wb.Ext.drewN ?_ _) | (with_reducible refine Wb.Ext.alloc ?_ _) | (with_reducible refine Wb.Ext.trans ?_ (by assumption))))) hb20
      replace HPl := Lib.hid (HPl.out.ext hb20)
      replace HP14 := Lib.hid (HP14.out.ext hb20)
      replace HP18 := Lib.hid (HP18.out.ext hb20)
      replace HP19 := Lib.hid (HP19.out.ext hb20)
      have hx20 : Wb.Ext W0 w20 := Wb.Ext.trans (by (repeat' (first | (with_reducible assumption) | (with_reducible exact Wb.Ext.refl _) | (with_reducible refine Wb.Ext.drew ?_) | (with_reducible refine Wb.Ext.drewN ?_ _) | (with_reducible refine Wb.Ext.alloc ?_ _) | (with_reducible refine Wb.Ext.trans ?_ (by assumption))))) hb20
      clear hb20
      have HP20 := Lib.hid hs20.row
      clear hs20
      have zs20 := hx20.keep zs
      have zt20 := hx20.keep zt
      go_wp2_with fail
      go_fit (same2_any _ _ r18 r20 _ (canon_eq HS20.out.canon HS18.out.canon (fun d => by simp only [HE20.out d, HE18.out d, HEs.out d, HEt.out d] <;> (cases Wb.hasL a d <;> cases Wb.hasL b d <;> rfl))) (HP19.out.1.ext (by (repeat' (first | (with_reducible assumption) | (with_reducible exact Wb.Ext.refl _) | (with_reducible refine Wb.Ext.drew ?_) | (with_reducible refine Wb.Ext.drewN ?_ _) | (with_reducible refine Wb.Ext.alloc ?_ _) | (with_reducible refine Wb.Ext.trans ?_ (by assumption)))))) (HP20.out.1.ext (by (repeat' (first | (with_reducible assumption) | (with_reducible exact Wb.Ext.refl _) | (with_reducible refine Wb.Ext.drew ?_) | (with_reducible refine Wb.Ext.drewN ?_ _) | (with_reducible refine Wb.Ext.alloc ?_ _) | (with_reducible refine Wb.Ext.trans ?_ (by assumption)))))) (by omega))
      rintro e w21 ⟨rfl, hb21⟩
      replace hb21 : Wb.Ext w20 w21 := Wb.Ext.trans (by (repeat' (first | (with_reducible assumption) | (with_reducible exact Wb.Ext.refl _) | (with_reducible refine Wb.Ext.drew ?_) | (with_reducible refine Wb.Ext.drewN ?_ _) | (with_reducible refine Wb.Ext.alloc ?_ _) | (with_reducible refine Wb.Ext.trans ?_ (by assumption))))) hb21
      replace HPl := Lib.hid (HPl.out.ext hb21)
      replace HP14 := Lib.hid (HP14.out.ext hb21)
      replace HP18 := Lib.hid (HP18.out.ext hb21)
      have hx21 : Wb.Ext W0 w21 := Wb.Ext.trans (by (repeat' (first | (with_reducible assumption) | (with_reducible exact Wb.Ext.refl _) | (with_reducible refine Wb.Ext.drew ?_) | (with_reducible refine Wb.Ext.drewN ?_ _) | (with_reducible refine Wb.Ext.alloc ?_ _) | (with_reducible refine Wb.Ext.trans ?_ (by assumption))))) hb21
      clear hb21
      have zs21 := hx21.keep zs
      have zt21 := hx21.keep zt
      go_wp2_with fail
      go_fit (minus_any _ _ s t _ (HPs.out.ext (by (repeat' (first | (with_reducible assumption) | (with_reducible exact Wb.Ext.refl _) | (with_reducible refine Wb.Ext.drew ?_) | (with_reducible refine Wb.Ext.drewN ?_ _) | (with_reducible refine Wb.Ext.alloc ?_ _) | (with_reducible refine Wb.Ext.trans ?_ (by assumption)))))) (HPt.out.ext (by (repeat' (first | (with_reducible assumption) | (with_reducible exact Wb.Ext.refl _) | (with_reducible refine Wb.Ext.drew ?_) | (with_reducible refine Wb.Ext.drewN ?_ _) | (with_reducible refine Wb.Ext.alloc ?_ _) | (with_reducible refine Wb.Ext.trans ?_ (by assumption)))))) HSs.out.canon HSt.out.canon HSs.out.bd HSt.out.bd (by omega) (by omega))
      rintro e w22 ⟨v22, r22, rfl, hs22, hp22, hb22⟩
      obtain ⟨sa22, sc22, rfl⟩ := hp22.1.shape
      have HS22 := Lib.hid hs22
      have hl22 : r22.length ≤ 160 := by have := hs22.len; (try simp only [List.length_cons, List.length_nil] at this); omega
      have HE22 := Lib.hid (has_min hs22)
      replace hb22 : Wb.Ext w21 w22 := Wb.Ext.trans (by (repeat' (first | (with_reducible assumption) | (with_reducible exact Wb.Ext.refl _) | (with_reducible refine Wb.Ext.drew ?_) | (with_reducible refine Wb.Ext.drewN ?_ _) | (with_reducible refine Wb.Ext.alloc ?_ _) | (with_reducible refine Wb.Ext.trans ?_ (by assumption))))) hb22
      replace HPl := Lib.hid (HPl.out.ext hb22)
      replace HP14 := Lib.hid (HP14.out.ext hb22)
      replace HP18 := Lib.hid (HP18.out.ext hb22)
      have hx22 : Wb.Ext W0 w22 := Wb.Ext.trans (by (repeat' (first | (with_reducible assumption) | (with_reducible exact Wb.Ext.refl _) | (with_reducible refine Wb.Ext.drew ?_) | (with_reducible refine Wb.Ext.drewN ?_ _) | (with_reducible refine Wb.Ext.alloc ?_ _) | (with_reducible refine Wb.Ext.trans ?_ (by assumption))))) hb22
      clear hb22
      have HP22 := Lib.hid hp22
      clear hs22 hp22
      have zs22 := hx22.keep zs
      have zt22 := hx22.keep zt
      go_wp2_with fail
      go_fit (all_any _ r22 _ (HP22.out.ext (by (repeat' (first | (with_reducible assumption) | (with_reducible exact Wb.Ext.refl _) | (with_reducible refine Wb.Ext.drew ?_) | (with_reducible refine Wb.Ext.drewN ?_ _) | (with_reducible refine Wb.Ext.alloc ?_ _) | (with_reducible refine Wb.Ext.trans ?_ (by assumption)))))) (by omega))
      rintro e w23 ⟨v23, rfl, hp23, hb23⟩
      obtain ⟨sa23, sc23, rfl⟩ := hp23.1.shape
      replace hb23 : Wb.Ext w22 w23 := Wb.Ext.trans (by (repeat' (first | (with_reducible assumption) | (with_reducible exact Wb.Ext.refl _) | (with_reducible refine Wb.Ext.drew ?_) | (with_reducible refine Wb.Ext.drewN ?_ _) | (with_reducible refine Wb.Ext.alloc ?_ _) | (with_reducible refine Wb.Ext.trans ?_ (by assumption))))) hb23
      replace HPl := Lib.hid (HPl.out.ext hb23)
      replace HP14 := Lib.hid (HP14.out.ext hb23)
      replace HP18 := Lib.hid (HP18.out.ext hb23)
      replace HP22 := Lib.hid (HP22.out.ext hb23)
      have hx23 : Wb.Ext W0 w23 := Wb.Ext.trans (by (repeat' (first | (with_reducible assumption) | (with_reducible exact Wb.Ext.refl _) | (with_reducible refine Wb.Ext.drew ?_) | (with_reducible refine Wb.Ext.drewN ?_ _) | (with_reducible refine Wb.Ext.alloc ?_ _) | (with_reducible refine Wb.Ext.trans ?_ (by assumption))))) hb23
      clear hb23
      have HP23 := Lib.hid hp23
      clear hp23
      have zs23 := hx23.keep zs
      have zt23 := hx23.keep zt
      go_wp2_with fail
      go_fit (together_any 3 (.inr (.inr rfl)) _ _ a b _ (HPa.out.ext (by (repeat' (first | (with_reducible assumption) | (with_reducible exact Wb.Ext.refl _) | (with_reducible refine Wb.Ext.drew ?_) | (with_reducible refine Wb.Ext.drewN ?_ _) | (with_reducible refine Wb.Ext.alloc ?_ _) | (with_reducible refine Wb.Ext.trans ?_ (by assumption)))))) (HPb.out.ext (by (repeat' (first | (with_reducible assumption) | (with_reducible exact Wb.Ext.refl _) | (with_reducible refine Wb.Ext.drew ?_) | (with_reducible refine Wb.Ext.drewN ?_ _) | (with_reducible refine Wb.Ext.alloc ?_ _) | (with_reducible refine Wb.Ext.trans ?_ (by assumption)))))) (by omega) (by omega))
      rintro e w24 ⟨v24, rfl, r24, hs24⟩
      obtain ⟨sa24, sc24, rfl⟩ := hs24.row.1.shape
      have hb24 := hs24.ext
      have HS24 := Lib.hid hs24
      have HE24 := Lib.hid (has_tog hs24)
      have hl24 : r24.length ≤ 160 := by have := hs24.len; omega
      replace hb24 : Wb.Ext w23 w24 := Wb.Ext.trans (by (repeat' (first | (with_reducible assumption) | (with_reducible exact Wb.Ext.refl _) | (with_reducible refine Wb.Ext.drew ?_) | (with_reducible refine Wb.Ext.drewN ?_ _) | (with_reducible refine Wb.Ext.alloc ?_ _) | (with_reducible refine Wb.Ext.trans ?_ (by assumption))))) hb24
      replace HPl := Lib.hid (HPl.out.ext hb24)
      replace HP14 := Lib.hid (HP14.out.ext hb24)
      replace HP18 := Lib.hid (HP18.out.ext hb24)
      replace HP22 := Lib.hid (HP22.out.ext hb24)
      replace HP23 := Lib.hid (HP23.out.ext hb24)
      have hx24 : Wb.Ext W0 w24 := Wb.Ext.trans (by (repeat' (first | (with_reducible assumption) | (with_reducible exact Wb.Ext.refl _) | (with_reducible refine Wb.Ext.drew ?_) | (with_reducible refine Wb.Ext.drewN ?_ _) | (with_reducible refine Wb.Ext.alloc ?_ _) | (with_reducible refine Wb.Ext.trans ?_ (by assumption))))) hb24
      clear hb24
      have HP24 := Lib.hid hs24.row
      clear hs24
      have zs24 := hx24.keep zs
      have zt24 := hx24.keep zt
      go_wp2_with fail
      go_fit (same2_any _ _ r22 r24 _ (canon_eq HS24.out.canon HS22.out.canon (fun d => by simp only [HE24.out d, HE22.out d, HEs.out d, HEt.out d] <;> (cases Wb.hasL a d <;> cases Wb.hasL b d <;> rfl))) (HP23.out.1.ext (by (repeat' (first | (with_reducible assumption) | (with_reducible exact Wb.Ext.refl _) | (with_reducible refine Wb.Ext.drew ?_) | (with_reducible refine Wb.Ext.drewN ?_ _) | (with_reducible refine Wb.Ext.alloc ?_ _) | (with_reducible refine Wb.Ext.trans ?_ (by assumption)))))) (HP24.out.1.ext (by (repeat' (first | (with_reducible assumption) | (with_reducible exact Wb.Ext.refl _) | (with_reducible refine Wb.Ext.drew ?_) | (with_reducible refine Wb.Ext.drewN ?_ _) | (with_reducible refine Wb.Ext.alloc ?_ _) | (with_reducible refine Wb.Ext.trans ?_ (by assumption)))))) (by omega))
      rintro e w25 ⟨rfl, hb25⟩
      replace hb25 : Wb.Ext w24 w25 := Wb.Ext.trans (by (repeat' (first | (with_reducible assumption) | (with_reducible exact Wb.Ext.refl _) | (with_reducible refine Wb.Ext.drew ?_) | (with_reducible refine Wb.Ext.drewN ?_ _) | (with_reducible refine Wb.Ext.alloc ?_ _) | (with_reducible refine Wb.Ext.trans ?_ (by assumption))))) hb25
      replace HPl := Lib.hid (HPl.out.ext hb25)
      replace HP14 := Lib.hid (HP14.out.ext hb25)
      replace HP18 := Lib.hid (HP18.out.ext hb25)
      replace HP22 := Lib.hid (HP22.out.ext hb25)
      have hx25 : Wb.Ext W0 w25 := Wb.Ext.trans (by (repeat' (first | (with_reducible assumption) | (with_reducible exact Wb.Ext.refl _) | (with_reducible refine Wb.Ext.drew ?_) | (with_reducible refine Wb.Ext.drewN ?_ _) | (with_reducible refine Wb.Ext.alloc ?_ _) | (with_reducible refine Wb.Ext.trans ?_ (by assumption))))) hb25
      clear hb25
      have zs25 := hx25.keep zs
      have zt25 := hx25.keep zt
      go_wp2_with fail
      go_fit (has05_any _ s d _ (HPs.out.1.ext (by (repeat' (first | (with_reducible assumption) | (with_reducible exact Wb.Ext.refl _) | (with_reducible refine Wb.Ext.drew ?_) | (with_reducible refine Wb.Ext.drewN ?_ _) | (with_reducible refine Wb.Ext.alloc ?_ _) | (with_reducible refine Wb.Ext.trans ?_ (by assumption)))))) HSs.out.canon (by omega))
      rintro e w26 ⟨rfl, hb26⟩
      rw [HEs.out d]
      replace hb26 : Wb.Ext w25 w26 := Wb.Ext.trans (by (repeat' (first | (with_reducible assumption) | (with_reducible exact Wb.Ext.refl _) | (with_reducible refine Wb.Ext.drew ?_) | (with_reducible refine Wb.Ext.drewN ?_ _) | (with_reducible refine Wb.Ext.alloc ?_ _) | (with_reducible refine Wb.Ext.trans ?_ (by assumption))))) hb26
      replace HPl := Lib.hid (HPl.out.ext hb26)
      replace HP14 := Lib.hid (HP14.out.ext hb26)
      replace HP18 := Lib.hid (HP18.out.ext hb26)
      replace HP22 := Lib.hid (HP22.out.ext hb26)
      have hx26 : Wb.Ext W0 w26 := Wb.Ext.trans (by (repeat' (first | (with_reducible assumption) | (with_reducible exact Wb.Ext.refl _) | (with_reducible refine Wb.Ext.drew ?_) | (with_reducible refine Wb.Ext.drewN ?_ _) | (with_reducible refine Wb.Ext.alloc ?_ _) | (with_reducible refine Wb.Ext.trans ?_ (by assumption))))) hb26
      clear hb26
      have zs26 := hx26.keep zs
      have zt26 := hx26.keep zt
      go_wp2_with fail
      go_fit (rany_any _ a d _ (HPa.out.1.ext (by (repeat' (first | (with_reducible assumption) | (with_reducible exact Wb.Ext.refl _) | (with_reducible refine Wb.Ext.drew ?_) | (with_reducible refine Wb.Ext.drewN ?_ _) | (with_reducible refine Wb.Ext.alloc ?_ _) | (with_reducible refine Wb.Ext.trans ?_ (by assumption)))))) (by omega))
      rintro e w27 ⟨rfl, hb27⟩
      replace hb27 : Wb.Ext w26 w27 := Wb.Ext.trans (by (repeat' (first | (with_reducible assumption) | (with_reducible exact Wb.Ext.refl _) | (with_reducible refine Wb.Ext.drew ?_) | (with_reducible refine Wb.Ext.drewN ?_ _) | (with_reducible refine Wb.Ext.alloc ?_ _) | (with_reducible refine Wb.Ext.trans ?_ (by assumption))))) hb27
      replace HPl := Lib.hid (HPl.out.ext hb27)
      replace HP14 := Lib.hid (HP14.out.ext hb27)
      replace HP18 := Lib.hid (HP18.out.ext hb27)
      replace HP22 := Lib.hid (HP22.out.ext hb27)
      have hx27 : Wb.Ext W0 w27 := Wb.Ext.trans (by (repeat' (first | (with_reducible assumption) | (with_reducible exact Wb.Ext.refl _) | (with_reducible refine Wb.Ext.drew ?_) | (with_reducible refine Wb.Ext.drewN ?_ _) | (with_reducible refine Wb.Ext.alloc ?_ _) | (with_reducible refine Wb.Ext.trans ?_ (by assumption))))) hb27
      clear hb27
      have zs27 := hx27.keep zs
      have zt27 := hx27.keep zt
      go_wp2_with fail
      go_fit (days_any _ s _ (HPs.out.1.ext (by (repeat' (first | (with_reducible assumption) | (with_reducible exact Wb.Ext.refl _) | (with_reducible refine Wb.Ext.drew ?_) | (with_reducible refine Wb.Ext.drewN ?_ _) | (with_reducible refine Wb.Ext.alloc ?_ _) | (with_reducible refine Wb.Ext.trans ?_ (by assumption)))))) HSs.out.bd (by omega))
      rintro e w28 ⟨rfl, hb28⟩
      replace hb28 : Wb.Ext w27 w28 := Wb.Ext.trans (by (repeat' (first | (with_reducible assumption) | (with_reducible exact Wb.Ext.refl _) | (with_reducible refine Wb.Ext.drew ?_) | (with_reducible refine Wb.Ext.drewN ?_ _) | (with_reducible refine Wb.Ext.alloc ?_ _) | (with_reducible refine Wb.Ext.trans ?_ (by assumption))))) hb28
      replace HPl := Lib.hid (HPl.out.ext hb28)
      replace HP14 := Lib.hid (HP14.out.ext hb28)
      replace HP18 := Lib.hid (HP18.out.ext hb28)
      replace HP22 := Lib.hid (HP22.out.ext hb28)
      have hx28 : Wb.Ext W0 w28 := Wb.Ext.trans (by (repeat' (first | (with_reducible assumption) | (with_reducible exact Wb.Ext.refl _) | (with_reducible refine Wb.Ext.drew ?_) | (with_reducible refine Wb.Ext.drewN ?_ _) | (with_reducible refine Wb.Ext.alloc ?_ _) | (with_reducible refine Wb.Ext.trans ?_ (by assumption))))) hb28
      clear hb28
      have zs28 := hx28.keep zs
      have zt28 := hx28.keep zt
      go_wp2_with fail
      go_fit (rdays_any _ l _ (HPl.out.1.ext (by (repeat' (first | (with_reducible assumption) | (with_reducible exact Wb.Ext.refl _) | (with_reducible refine Wb.Ext.drew ?_) | (with_reducible refine Wb.Ext.drewN ?_ _) | (with_reducible refine Wb.Ext.alloc ?_ _) | (with_reducible refine Wb.Ext.trans ?_ (by assumption)))))) (by rw [HQL.out]; exact HSs.out.bd) (by omega))
      rintro e w29 ⟨rfl, hb29⟩
      rw [HQL.out]
      replace hb29 : Wb.Ext w28 w29 := Wb.Ext.trans (by (repeat' (first | (with_reducible assumption) | (with_reducible exact Wb.Ext.refl _) | (with_reducible refine Wb.Ext.drew ?_) | (with_reducible refine Wb.Ext.drewN ?_ _) | (with_reducible refine Wb.Ext.alloc ?_ _) | (with_reducible refine Wb.Ext.trans ?_ (by assumption))))) hb29
      replace HPl := Lib.hid (HPl.out.ext hb29)
      replace HP14 := Lib.hid (HP14.out.ext hb29)
      replace HP18 := Lib.hid (HP18.out.ext hb29)
      replace HP22 := Lib.hid (HP22.out.ext hb29)
      have hx29 : Wb.Ext W0 w29 := Wb.Ext.trans (by (repeat' (first | (with_reducible assumption) | (with_reducible exact Wb.Ext.refl _) | (with_reducible refine Wb.Ext.drew ?_) | (with_reducible refine Wb.Ext.drewN ?_ _) | (with_reducible refine Wb.Ext.alloc ?_ _) | (with_reducible refine Wb.Ext.trans ?_ (by assumption))))) hb29
      clear hb29
      go_wp2
      go_ret
      exact ⟨rfl, hxW.trans (by (repeat' (first | (with_reducible assumption) | (with_reducible exact Wb.Ext.refl _) | (with_reducible refine Wb.Ext.drew ?_) | (with_reducible refine Wb.Ext.drewN ?_ _) | (with_reducible refine Wb.Ext.alloc ?_ _) | (with_reducible refine Wb.Ext.trans ?_ (by assumption)))))⟩

end Go.Proofs.Ytdckghdmopafpaa
