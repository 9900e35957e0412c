/- MSt -/
import Derived.Test.YtnefdpnolojojaaGreatMRd
import Derived.Test.YtnefdpnolojojaaGreatMRc
import Derived.Test.YtnefdpnolojojaaGreatMDa
import Derived.Test.YtnefdpnolojojaaGreatRun26
import Derived.Test.YtnefdpnolojojaaGreatMRa
import Derived.Deep.RegionHeld
namespace Go.Proofs.YtnefdpnolojojaaGreat
open Go.RowKit Go.Sort Go.Lib Go.Maps
set_option maxRecDepth 8000
attribute [local go_sem ↓] Go.wp_at_zero Go.wp_at_succ
def NumR (base : Nat) (w : World) (v : Value) (l : List Int) : Prop := w.ownsRow base 35 1 v l.length (rowsOf u32c l)
theorem NumR.ext {base : Nat} {w w' : World} {v : Value} {l : List Int} (h : NumR base w v l) (k : Wb.Ext w w') : NumR base w' v l := row_ext3 h k
theorem NumR.shape {base : Nat} {w : World} {v : Value} {l : List Int} (h : NumR base w v l) : ∃ a c, v = .slice a l.length c := row_shape h
theorem NumR.tbl {base : Nat} {w : World} {v : Value} {l : List Int} (h : NumR base w v l) : Tbl 1 u32c w v l := row_tbl u32c_len (by decide) h
theorem NumR.nil {base : Nat} {w : World} : NumR base w (.slice none 0 0) [] := own_none
theorem NumR.mono {base base' : Nat} {w : World} {v : Value} {l : List Int} (h : NumR base w v l) (hb : base' ≤ base) : NumR base' w v l := by
 obtain ⟨h1, h2 | ⟨g, cap, cur, hv, hg, rest⟩⟩ := h
 ·exact ⟨h1, .inl h2⟩
 ·exact ⟨h1, .inr ⟨g, cap, cur, hv, Nat.le_trans hb hg, rest⟩⟩
theorem num_rows : ∀ l : List Int, rowsOf u32c l = l.map (Value.int .u32)
 | l => (rows_u32 l).symm
theorem num_get {l : List Int} {j : Nat} {u : Value} (h : (rowsOf u32c l)[j]? = some u) : ∃ p, l[j]? = some p ∧ u = .int .u32 p := by
 rw [num_rows, List.getElem?_map] at h
 rcases hl : l[j]? with _ | p
 ·rw [hl] at h; cases h
 ·rw [hl] at h; cases h; exact ⟨p, rfl, rfl⟩
theorem num_len (l : List Int) : (rowsOf u32c l).length = l.length := by rw [num_rows, List.length_map]
theorem num_one (l : List Int) : ∀ u ∈ rowsOf u32c l, u.oneCell' = true := by
 intro u hu
 rw [num_rows] at hu
 obtain ⟨x, -, rfl⟩ := List.mem_map.1 hu
 rfl
theorem src_nums {w : World} {g o n : Nat} (l : List Int) (c : Nat) (hn : n = l.length) (h : ∀ j p, l[j]? = some p → w.cell? ⟨g, o + j, none⟩ = some (.int .u32 p)) : Wb.SrcRow w 1 (.slice (some ⟨g, o, none⟩) n c) n (rowsOf u32c l) := by
 subst hn
 refine ⟨by rw [num_len, Nat.mul_one], .inr ⟨_, _, rfl, fun j u hj => ?_⟩⟩
 obtain ⟨p, hp, rfl⟩ := num_get hj
 have hadd : ((⟨g, o, none⟩ : Addr).add j) = ⟨g, o + j, none⟩ := by
  by_cases hi : j = 0
  ·subst hi; rfl
  ·simp [Addr.add, hi]
 rw [hadd]
 exact h j p hp
theorem nums_cut {base : Nat} {w : World} {v : Value} {l : List Int} (h : NumR base w v l) {k : Nat} (hk : k ≤ l.length) : ∃ V1 V2, (∀ W : World, (Instr.sliceAt 74 v none (some (.int .i64 k)) none).run Tryz.prog W = .ok V1 W) ∧ Wb.SrcRow w 1 V1 k (rowsOf u32c (l.take k)) ∧
  (∀ W : World, (Instr.sliceAt 74 v (some (.int .i64 k)) none none).run Tryz.prog W = .ok V2 W) ∧ Wb.SrcRow w 1 V2 (l.length - k) (rowsOf u32c (l.drop k)) := by
 by_cases hv : v = .slice none 0 0
 ·have hl : l = [] := by
   obtain ⟨_, h2 | ⟨g, cap, cur, hv', _⟩⟩ := h
   ·exact List.length_eq_zero_iff.1 h2.2
   ·rw [hv] at hv'; cases hv'
  subst hv hl
  obtain rfl : k = 0 := by simpa using hk
  exact ⟨.slice none 0 0, .slice none 0 0, fun W => by simp [go_sem, Tryz.underlying74], ⟨rfl, .inl ⟨rfl, rfl⟩⟩, fun W => by simp [go_sem, Tryz.underlying74], ⟨rfl, .inl ⟨rfl, rfl⟩⟩⟩
 ·obtain ⟨_, h2 | ⟨g, cap, cur, hv', _, _, hcap, _⟩⟩ := id h
  ·exact absurd h2.1 hv
  ·obtain ⟨g2, cap2, hv2, _, _, _, hcell⟩ := Wb.ownsRow_at h hv
   rw [hv'] at hv2; cases hv2
   subst hv'
   have hc : ∀ j p, l[j]? = some p → w.cell? ⟨g, 0 + j, none⟩ = some (.int .u32 p) := fun j p hj => by
    rw [Nat.zero_add]
    exact hcell _ _ (by rw [num_rows, List.getElem?_map, hj]; rfl)
   have hk1 : ¬ ((l.length : Int) < (k : Int)) := by omega
   have hk2 : ¬ ((cap : Int) < (k : Int)) := by omega
   have hk3 : (k : Int) ≤ l.length := by omega
   have hk4 : (k : Int) ≤ cap := by omega
   refine ⟨.slice (some ⟨g, 0, none⟩) k cap, ?_⟩
   have s1 : Wb.SrcRow w 1 (.slice (some ⟨g, 0, none⟩) k cap) k (rowsOf u32c (l.take k)) := src_nums (l.take k) cap (by simp; omega) (fun j x hj => by
    rw [List.getElem?_take] at hj
    split at hj
    ·exact hc j x hj
    ·cases hj)
   by_cases hck : cap = k
   ·have hkl : k = l.length := by omega
    refine ⟨.slice (some ⟨g, 0, none⟩) (l.length - k) (cap - k), fun W => by simp [go_sem, Tryz.underlying74, hk4], s1, fun W => by simp [go_sem, Tryz.underlying74, hck, hk3], ?_⟩
    subst hkl
    rw [Nat.sub_self]
    exact ⟨by simp [rowsOf], .inr ⟨_, _, rfl, fun j u hj => by simp [rowsOf] at hj⟩⟩
   ·refine ⟨.slice (some ⟨g, k, none⟩) (l.length - k) (cap - k), fun W => by simp [go_sem, Tryz.underlying74, hk4], s1, fun W => by simp [go_sem, Tryz.underlying74, hck, hk3], ?_⟩
    exact src_nums (l.drop k) _ (by simp) (fun j x hj => by
     rw [List.getElem?_drop] at hj
     have := hc _ x hj
     rw [Nat.zero_add] at this
     exact this)
set_option maxHeartbeats 2000000 in
theorem put31_any (base : Nat) (v : Value) (l : List Int) (p : Int) (w : World) (hv : NumR base w v l) (hbase : base ≤ w.heap.size) (hr : l.Pairwise (· < ·)) (hl : l.length ≤ 1000000) :
  Calls Tryz.prog 30 #[v, .int .u32 p] w fun e w' => ∃ v', e = .returned v' ∧ NumR base w' v' (Wb.putU l p) ∧ (v' = v ∨ ∀ q, v'.ownBlock = some q → w.heap.size ≤ q) ∧ Wb.Ext w w' := by
 have HIN := Lib.hid (info_parts colU_info)
 obtain ⟨va, vc, rfl⟩ := hv.shape
 have HV := Lib.hid hv
 have HR := Lib.hid hr
 clear hv hr
 go_enter Tryz.func30, Tryz.ntmps30
 go_wp2_with fail
 go_loopw [5] (fun iv wr => ∃ k : Nat, k ≤ l.length ∧ iv = .int .i64 k ∧ Hid (∀ j x, l[j]? = some x → k ≤ j → p < x) ∧ w = wr) (fun iv _ => (intOf iv).toNat)
 case atStart => exact ⟨l.length, Nat.le_refl _, rfl, Lib.hid (fun j x hx hj => by have := (List.getElem?_eq_some_iff.1 hx).1; omega), rfl⟩
 case round =>
  obtain ⟨k, hk, rfl, HHI, rfl⟩ := hrel
  rcases k with _ | k
  ·have d1 : decide ((0 : Int) < ((0 : Nat) : Int)) = false := by simp
   have HPUT := Lib.hid (Wb.putU_new (Nat.zero_le _) HR.out HHI.out (fun x h => absurd h (by omega)))
   obtain ⟨V1, V2, hs1, hc1, hs2, hc2⟩ := nums_cut HV.out hk
   have HC1 := Lib.hid hc1
   have HC2 := Lib.hid hc2
   have htl : (l.take (0)).length = 0 := by rw [List.length_take]; omega
   have hs1 : ∀ W : World, (Instr.sliceAt 74 (.slice va l.length vc) none (some (.int .i64 0)) none).run Tryz.prog W = .ok V1 W := hs1
   have hs2 : ∀ W : World, (Instr.sliceAt 74 (.slice va l.length vc) (some (.int .i64 0)) none none).run Tryz.prog W = .ok V2 W := hs2
   clear hc1 hc2
   obtain ⟨hi, hz0, hz1, hz2⟩ := HIN.out.choose_spec
   go_wp2_with (at_builtin; go_loud (refine wpList_append_row2 rfl (.tmp 30) (.tmp 33) 74 rfl w.heap.size 35 _ (.int .u32 0) 1 4 Tryz.underlying74 hi hz0 hz1 hz2 rfl (by decide) _ _ _ rfl (own_empty (w := w) (Nat.le_refl _)) _ rfl (0) (rowsOf u32c (l.take (0))) (HC1.out.ext (.alloc (.refl _) _)) (num_one _) (by unfold maxLen; omega) (by omega) (by simp) ?_))
   intro u1 w1 hown1 hg1 hblk1
   have hx1 : Wb.Ext w w1 := Wb.Ext.grown (.alloc (.refl _) _) hg1 (fun q hq => by simp [Value.ownBlock] at hq; omega)
   obtain ⟨ua, uc, rfl⟩ := row_shape hown1
   have HO1 := Lib.hid hown1
   have HX1 := Lib.hid hx1
   clear hown1 hg1 hblk1 hx1 hs1
   go_wp2_with (at_builtin; go_loud (refine wpList_append_row2 rfl (.tmp 35) (.tmp 37) 74 rfl w.heap.size 35 _ (.int .u32 0) 1 4 Tryz.underlying74 hi hz0 hz1 hz2 rfl (by decide) _ _ _ rfl (row_ext3 HO1.out ((Wb.Ext.refl _).alloc _)) _ rfl 1 (rowsOf u32c [p]) (src_lit _ _ (by rfl) (rowsOf u32c [p]) _ _) (num_one _) (by unfold maxLen; omega) (by omega) (by have := HX1.out.size; simp; omega) ?_))
   intro u2 w2 hown2 hg2 hblk2
   have hx2 : Wb.Ext w w2 := Wb.Ext.grown (.alloc HX1.out _) hg2 (fun q hq => (HO1.out.lt q hq).1)
   obtain ⟨ub, ud, rfl⟩ := row_shape hown2
   have HO2 := Lib.hid hown2
   have HX2 := Lib.hid hx2
   clear hown2 hg2 hblk2 hx2
   go_wp2_with (at_builtin; go_loud (refine wpList_append_row2 rfl (.tmp 39) (.tmp 42) 74 rfl w.heap.size 35 _ (.int .u32 0) 1 4 Tryz.underlying74 hi hz0 hz1 hz2 rfl (by decide) _ _ _ rfl HO2.out _ rfl (l.length - (0)) (rowsOf u32c (l.drop (0))) (HC2.out.ext HX2.out) (num_one _) (by unfold maxLen; omega) (by omega) HX2.out.size ?_))
   intro u3 w3 hown3 hg3 hblk3
   have hx3 : Wb.Ext w w3 := Wb.Ext.grown HX2.out hg3 (fun q hq => (HO2.out.lt q hq).1)
   obtain ⟨uf, ug, rfl⟩ := row_shape hown3
   have HO3 := Lib.hid (show NumR w.heap.size w3 (.slice uf (Wb.putU l p).length ug) (Wb.putU l p) by
    have hl3 : (Wb.putU l p).length = 0 + (0) + 1 + (l.length - (0)) := by rw [HPUT.out, List.length_append, List.length_cons, htl, List.length_drop]; omega
    unfold NumR
    rw [hl3, HPUT.out, show l.take (0) ++ p :: l.drop (0) = l.take (0) ++ [p] ++ l.drop (0) by simp, rowsOf_app, rowsOf_app]
    exact hown3)
   have hl3 : (Wb.putU l p).length = l.length + 1 := by rw [HPUT.out, List.length_append, List.length_cons, htl, List.length_drop]; omega
   have HX3 := Lib.hid hx3
   have hl4 : 1 + l.length = (Wb.putU l p).length := by omega
   rw [hl4]
   clear hown3 hg3 hblk3 hx3 hl3 hs2 htl hl4
   go_wp2
   refine bodyPost_ret (v := .slice uf (Wb.putU l p).length ug) (by simp [results, Tryz.results30, go_sem]) rfl ⟨_, rfl, HO3.out.mono hbase, .inr (fun q hq => (HO3.out.lt q hq).1), HX3.out⟩
  have hkl : k < l.length := by omega
  obtain ⟨x, hx⟩ := Wb.get_ex hkl
  obtain ⟨b, off, cap, hvv, hc⟩ := look_tbl HV.out.tbl hx
  cases hvv
  have d1 : decide ((0 : Int) < ((k + 1 : Nat) : Int)) = true := by simp
  have hw1 : IntKind.i64.wrap (((k + 1 : Nat) : Int) - 1) = (k : Int) := by rw [show (((k + 1 : Nat) : Int) - 1) = (k : Int) by omega]; exact IntWalk.i64_in _ (by omega)
  have hki : (k : Int) < l.length := by omega
  by_cases hle : p ≤ x
  case neg =>
   have d2 : decide (p ≤ x) = false := by simpa using hle
   have HPUT := Lib.hid (Wb.putU_new hk HR.out HHI.out (fun y _ hy => by simp at hy; rw [hx] at hy; cases hy; omega))
   obtain ⟨V1, V2, hs1, hc1, hs2, hc2⟩ := nums_cut HV.out hk
   have HC1 := Lib.hid hc1
   have HC2 := Lib.hid hc2
   have htl : (l.take (k + 1)).length = k + 1 := by rw [List.length_take]; omega
   have hs1 : ∀ W : World, (Instr.sliceAt 74 (.slice (some ⟨b, off, none⟩) l.length vc) none (some (.int .i64 ((k : Int) + 1))) none).run Tryz.prog W = .ok V1 W := hs1
   have hs2 : ∀ W : World, (Instr.sliceAt 74 (.slice (some ⟨b, off, none⟩) l.length vc) (some (.int .i64 ((k : Int) + 1))) none none).run Tryz.prog W = .ok V2 W := hs2
   clear hc1 hc2
   obtain ⟨hi, hz0, hz1, hz2⟩ := HIN.out.choose_spec
   go_wp2_with (at_builtin; go_loud (refine wpList_append_row2 rfl (.tmp 30) (.tmp 33) 74 rfl w.heap.size 35 _ (.int .u32 0) 1 4 Tryz.underlying74 hi hz0 hz1 hz2 rfl (by decide) _ _ _ rfl (own_empty (w := w) (Nat.le_refl _)) _ rfl (k + 1) (rowsOf u32c (l.take (k + 1))) (HC1.out.ext (.alloc (.refl _) _)) (num_one _) (by unfold maxLen; omega) (by omega) (by simp) ?_))
   intro u1 w1 hown1 hg1 hblk1
   have hx1 : Wb.Ext w w1 := Wb.Ext.grown (.alloc (.refl _) _) hg1 (fun q hq => by simp [Value.ownBlock] at hq; omega)
   obtain ⟨ua, uc, rfl⟩ := row_shape hown1
   have HO1 := Lib.hid hown1
   have HX1 := Lib.hid hx1
   clear hown1 hg1 hblk1 hx1 hs1
   go_wp2_with (at_builtin; go_loud (refine wpList_append_row2 rfl (.tmp 35) (.tmp 37) 74 rfl w.heap.size 35 _ (.int .u32 0) 1 4 Tryz.underlying74 hi hz0 hz1 hz2 rfl (by decide) _ _ _ rfl (row_ext3 HO1.out ((Wb.Ext.refl _).alloc _)) _ rfl 1 (rowsOf u32c [p]) (src_lit _ _ (by rfl) (rowsOf u32c [p]) _ _) (num_one _) (by unfold maxLen; omega) (by omega) (by have := HX1.out.size; simp; omega) ?_))
   intro u2 w2 hown2 hg2 hblk2
   have hx2 : Wb.Ext w w2 := Wb.Ext.grown (.alloc HX1.out _) hg2 (fun q hq => (HO1.out.lt q hq).1)
   obtain ⟨ub, ud, rfl⟩ := row_shape hown2
   have HO2 := Lib.hid hown2
   have HX2 := Lib.hid hx2
   clear hown2 hg2 hblk2 hx2
   go_wp2_with (at_builtin; go_loud (refine wpList_append_row2 rfl (.tmp 39) (.tmp 42) 74 rfl w.heap.size 35 _ (.int .u32 0) 1 4 Tryz.underlying74 hi hz0 hz1 hz2 rfl (by decide) _ _ _ rfl HO2.out _ rfl (l.length - (k + 1)) (rowsOf u32c (l.drop (k + 1))) (HC2.out.ext HX2.out) (num_one _) (by unfold maxLen; omega) (by omega) HX2.out.size ?_))
   intro u3 w3 hown3 hg3 hblk3
   have hx3 : Wb.Ext w w3 := Wb.Ext.grown HX2.out hg3 (fun q hq => (HO2.out.lt q hq).1)
   obtain ⟨uf, ug, rfl⟩ := row_shape hown3
   have HO3 := Lib.hid (show NumR w.heap.size w3 (.slice uf (Wb.putU l p).length ug) (Wb.putU l p) by
    have hl3 : (Wb.putU l p).length = (k + 1) + 1 + (l.length - (k + 1)) := by rw [HPUT.out, List.length_append, List.length_cons, htl, List.length_drop]; omega
    unfold NumR
    rw [hl3, HPUT.out, show l.take (k + 1) ++ p :: l.drop (k + 1) = l.take (k + 1) ++ ([p] ++ l.drop (k + 1)) by simp, rowsOf_app, rowsOf_app]
    exact hown3)
   have hl3 : (Wb.putU l p).length = l.length + 1 := by rw [HPUT.out, List.length_append, List.length_cons, htl, List.length_drop]; omega
   have HX3 := Lib.hid hx3
   have hl4 : k + 1 + 1 + (l.length - (k + 1)) = (Wb.putU l p).length := by omega
   rw [hl4]
   clear hown3 hg3 hblk3 hx3 hl3 hs2 htl hl4
   go_wp2
   refine bodyPost_ret (v := .slice uf (Wb.putU l p).length ug) (by simp [results, Tryz.results30, go_sem]) rfl ⟨_, rfl, HO3.out.mono hbase, .inr (fun q hq => (HO3.out.lt q hq).1), HX3.out⟩
  have d2 : decide (p ≤ x) = true := by simpa using hle
  by_cases he : x = p
  ·have d3 : (x == p) = true := by simpa using he
   have HPUT := Lib.hid (Wb.putU_same HR.out (he ▸ hx))
   clear he hx
   go_wp2
   refine bodyPost_ret (v := .slice (some ⟨b, off, none⟩) l.length vc) (by simp [results, Tryz.results30, go_sem]) rfl ⟨_, rfl, by rw [HPUT.out]; exact HV.out, .inl rfl, .refl _⟩
  have d3 : (x == p) = false := by simpa using he
  have HLO := Lib.hid (show ∀ j y, l[j]? = some y → k ≤ j → p < y from fun j y hy hj => by
   by_cases e : j = k
   ·subst e; rw [hx] at hy; cases hy; omega
   ·exact HHI.out j y hy (by omega))
  clear he hle hx
  go_wp2
  go_roundw
  case rel => exact ⟨k, by omega, by go_num, HLO, by first | rfl | trivial⟩
  case measure => first | (simp [intOf]; done) | (simp [intOf]; omega)
end Go.Proofs.YtnefdpnolojojaaGreat
namespace Go.Proofs.YtnefdpnolojojaaGreat
open Go.RowKit Go.Sort Go.Lib Go.Maps
set_option maxRecDepth 8000
attribute [local go_sem ↓] Go.wp_at_zero Go.wp_at_succ
structure PsAt (w wr : World) (v : Value) (l : List Int) (l0 ss : List Int) : Prop where
 row : NumR w.heap.size wr v l
 rise : l.Pairwise (· < ·)
 mem : ∀ p, p ∈ l ↔ p ∈ l0 ∨ p ∈ ss
 len : l.length ≤ l0.length + ss.length
 ext : Wb.Ext w wr
theorem PsAt.put {w wr w2 : World} {v v' : Value} {l l0 ss : List Int} {p : Int} (h : PsAt w wr v l l0 ss) (k : NumR w.heap.size w2 v' (Wb.putU l p)) (e : Wb.Ext wr w2) : PsAt w w2 v' (Wb.putU l p) l0 (ss ++ [p]) :=
 ⟨k, Wb.putU_rise h.rise, fun q => by rw [Wb.putU_mem, h.mem, List.mem_append, List.mem_singleton]; exact ⟨fun h => h.elim (fun a => .inr (.inr a)) (fun b => b.elim .inl (fun c => .inr (.inl c))), fun h => h.elim (fun a => .inr (.inl a)) (fun b => b.elim (fun c => .inr (.inr c)) .inl)⟩, by have := Wb.putU_len (l := l) (p := p); have := h.len; rw [List.length_append]; simp; omega, h.ext.trans e⟩
set_option maxHeartbeats 4000000 in
theorem persons31_any (ma mb : Option Nat) (na nb : Nat) (za zb : Value) (f g : Int → Option Value) (w : World) (ha : KMapO kU32 w ma na za f) (hb : KMapO kU32 w mb nb zb g) (hna : na ≤ 100000) (hnb : nb ≤ 100000) :
  Calls Tryz.prog 31 #[.map ma, .map mb] w fun e w' => ∃ v ss, e = .returned v ∧ NumR w.heap.size w' v ss ∧ ss.Pairwise (· < ·) ∧ (∀ p, p ∈ ss ↔ kU32.ok p ∧ ((f p).isSome = true ∨ (g p).isSome = true)) ∧ ss.length ≤ na + nb ∧ Wb.Ext w w' := by
 have HB := Lib.hid hb
 clear hb
 go_enter Tryz.func31, Tryz.ntmps31
 go_wp2_with (first
  | (at_range; refine wpList_range_km (K := kU32) rfl _ 24 39 rfl Tryz.underlying24 ma na za f rfl ha ?_; intro w0 cnt0 hrg0 hc0 hg0 hs0)
  | go_in)
 (try go_frame)
 have HX0 := Lib.hid (Wb.Ext.grown (.refl w) hg0 (fun k h => by cases h))
 obtain ⟨X, hX⟩ : ∃ X, w.heap.size = X := ⟨_, rfl⟩
 have HRG0 := Lib.hid hrg0
 rw [hX] at HRG0 ⊢
 have hXs : w.heap.size ≤ X := by omega
 have HP0 : Hid (PsAt w w0 (.slice none 0 0) [] [] []) := Lib.hid ⟨.nil, List.Pairwise.nil, (fun p => by simp), by simp, HX0.out⟩
 clear ha hg0 hs0 hrg0 hX HX0
 go_loopw [5] (fun ov wr => ∃ (cnt : Nat) (ss l : List Int) (oa : Option Addr) (oc : Nat), ov = .slice oa l.length oc ∧ Hid (KRng kU32 wr ma X na za f ss cnt) ∧ ss.length + cnt ≤ na ∧ Hid (PsAt w wr (.slice oa l.length oc) l [] ss)) (fun _ wr => kLeft ma X wr)
 case atStart => exact ⟨cnt0, [], [], none, 0, rfl, HRG0, by simpa using hc0, HP0⟩
 case round =>
  clear HRG0 HP0
  obtain ⟨cnt, ss, l, oa, oc, rfl, HRG, hcs, HP⟩ := hrel
  obtain ⟨wO, hwz⟩ : ∃ z, z = wr := ⟨_, rfl⟩
  subst hwz
  have hrg := HRG.out
  go_wp2_with (first
   | (at_next; refine wpList_next_km (K := kU32) rfl _ rfl rfl hrg ?_ ?_)
   | go_in)
  ·intro hall
   have HL : Hid (∀ p, p ∈ l ↔ kU32.ok p ∧ (f p).isSome = true) := Lib.hid (fun p => by
    rw [HP.out.mem]
    exact ⟨fun h => h.elim (fun h => by cases h) (fun h => HRG.out.ok p h), fun h => .inr (hall p h.1 h.2)⟩)
   have hll : l.length ≤ na := by have := HP.out.len; simp at this; omega
   have hb2 : KMapO kU32 wO mb nb zb g := HB.out.ext HP.out.ext
   clear hall hrg HRG hcs HB
   go_wp2_with (first
    | (at_range; refine wpList_range_km (K := kU32) rfl _ 24 39 rfl Tryz.underlying24 mb nb zb g rfl hb2 ?_; intro w1 cnt1 hrg1 hc1 hg1 hs1)
    | go_in)
   (try go_frame)
   have hx1 := Wb.Ext.grown (.refl wO) hg1 (fun k h => by cases h)
   obtain ⟨Y, hY⟩ : ∃ Y, wO.heap.size = Y := ⟨_, rfl⟩
   have HRG1 := Lib.hid hrg1
   rw [hY] at HRG1 ⊢
   have hYs : w.heap.size ≤ Y := by have := HP.out.ext.size; omega
   have HP1 : Hid (PsAt w w1 (.slice oa l.length oc) l l []) := Lib.hid ⟨HP.out.row.ext hx1, HP.out.rise, (fun p => by simp), by simp, HP.out.ext.trans hx1⟩
   clear hb2 hg1 hs1 hrg1 hY hx1 HP
   go_loopw [5] (fun ov wr => ∃ (cnt : Nat) (ss m : List Int) (oa : Option Addr) (oc : Nat), ov = .slice oa m.length oc ∧ Hid (KRng kU32 wr mb Y nb zb g ss cnt) ∧ ss.length + cnt ≤ nb ∧ Hid (PsAt w wr (.slice oa m.length oc) m l ss)) (fun _ wr => kLeft mb Y wr)
   case atStart => exact ⟨cnt1, [], l, oa, oc, rfl, HRG1, by simpa using hc1, HP1⟩
   case round =>
    clear HRG1 HP1
    obtain ⟨cnt, ss, m, oa, oc, rfl, HRG, hcs, HP⟩ := hrel
    obtain ⟨wO, hwz⟩ : ∃ z, z = wr := ⟨_, rfl⟩
    subst hwz
    have hrg := HRG.out
    go_wp2_with (first
     | (at_next; refine wpList_next_km (K := kU32) rfl _ rfl rfl hrg ?_ ?_)
     | go_in)
    ·intro hall
     have HM : Hid (∀ p, p ∈ m ↔ kU32.ok p ∧ ((f p).isSome = true ∨ (g p).isSome = true)) := Lib.hid (fun p => by
      rw [HP.out.mem, HL.out]
      exact ⟨fun h => h.elim (fun h => ⟨h.1, .inl h.2⟩) (fun h => ⟨(HRG.out.ok p h).1, .inr (HRG.out.ok p h).2⟩), fun h => h.2.elim (fun k => .inl ⟨h.1, k⟩) (fun k => .inr (hall p h.1 k))⟩)
     have hml : m.length ≤ na + nb := by have := HP.out.len; omega
     clear hall hrg HRG hcs
     go_wp2
     exact bodyPost_ret (v := .slice oa m.length oc) (by simp [results, Tryz.results31, go_sem]) rfl ⟨_, m, rfl, HP.out.row, HP.out.rise, HM.out, hml, HP.out.ext⟩
    ·intro x v w2 cnt2 hok hfx hnr hrg2 hlt hg2 hs2 hen
     replace hg2 : wO.grownBy w2 (some Y) := hg2
     replace hen : (Instr.entry (.pointer (some ⟨Y, 0, none⟩))).run Tryz.prog w2 = .ok (.tuple #[.int .u32 x, v]) w2 := hen
     have HN2 := Lib.hid (show NumR w.heap.size w2 (.slice oa m.length oc) m from row_abides HP.out.row hg2 (fun r hr => by cases hr; exact HRG.out.walk))
     have hx2 : Wb.Ext w w2 := Wb.Ext.grown HP.out.ext hg2 (fun k h => by cases h; exact hYs)
     have HP2 : Hid (PsAt w w2 (.slice oa m.length oc) m l ss) := Lib.hid ⟨HN2.out, HP.out.rise, HP.out.mem, HP.out.len, hx2⟩
     have HRG2 := Lib.hid hrg2
     have hl0 : kLeft mb Y wO = cnt := HRG.out.left
     have hlen : m.length ≤ 1000000 := by have := HP.out.len; omega
     have hsx2 := hx2.size
     clear hg2 hs2 hrg2 hfx hnr hok hrg HN2 hx2
     (try go_frame)
     go_wp2_with fail
     go_fit (put31_any w.heap.size _ m x _ HP2.out.row hsx2 HP2.out.rise hlen); rintro e w3 ⟨v3, rfl, hn3, -, hx3⟩
     obtain ⟨ua, uc, rfl⟩ := hn3.shape
     have HP3 := Lib.hid (HP2.out.put hn3 hx3)
     have HRG3 := Lib.hid (HRG2.out.ext hx3)
     clear hn3 hx3
     go_wp2
     go_roundw
     case rel => exact ⟨cnt2, ss ++ [x], Wb.putU m x, ua, uc, rfl, HRG3, by simp; omega, HP3⟩
     case measure => rw [HRG3.out.left, hl0]; exact hlt
  ·intro x v w2 cnt2 hok hfx hnr hrg2 hlt hg2 hs2 hen
   replace hg2 : wO.grownBy w2 (some X) := hg2
   replace hen : (Instr.entry (.pointer (some ⟨X, 0, none⟩))).run Tryz.prog w2 = .ok (.tuple #[.int .u32 x, v]) w2 := hen
   have HN2 := Lib.hid (show NumR w.heap.size w2 (.slice oa l.length oc) l from row_abides HP.out.row hg2 (fun r hr => by cases hr; exact HRG.out.walk))
   have hx2 : Wb.Ext w w2 := Wb.Ext.grown HP.out.ext hg2 (fun k h => by cases h; exact hXs)
   have HP2 : Hid (PsAt w w2 (.slice oa l.length oc) l [] ss) := Lib.hid ⟨HN2.out, HP.out.rise, HP.out.mem, HP.out.len, hx2⟩
   have HRG2 := Lib.hid hrg2
   have hl0 : kLeft ma X wO = cnt := HRG.out.left
   have hlen : l.length ≤ 1000000 := by have := HP.out.len; simp at this; omega
   have hsx2 := hx2.size
   clear hg2 hs2 hrg2 hfx hnr hok hrg HN2 hx2
   (try go_frame)
   go_wp2_with fail
   go_fit (put31_any w.heap.size _ l x _ HP2.out.row hsx2 HP2.out.rise hlen); rintro e w3 ⟨v3, rfl, hn3, -, hx3⟩
   obtain ⟨ua, uc, rfl⟩ := hn3.shape
   have HP3 := Lib.hid (HP2.out.put hn3 hx3)
   have HRG3 := Lib.hid (HRG2.out.ext hx3)
   clear hn3 hx3
   go_wp2
   go_roundw
   case rel => exact ⟨cnt2, ss ++ [x], Wb.putU l x, ua, uc, rfl, HRG3, by simp; omega, HP3⟩
   case measure => rw [HRG3.out.left, hl0]; exact hlt
end Go.Proofs.YtnefdpnolojojaaGreat
namespace Go.Proofs.YtnefdpnolojojaaGreat
open Go.RowKit Go.Sort Go.Lib Go.Maps
set_option maxRecDepth 8000
attribute [local go_sem ↓] Go.wp_at_zero Go.wp_at_succ
end Go.Proofs.YtnefdpnolojojaaGreat
namespace Go.Proofs.YtnefdpnolojojaaGreat
open Go.RowKit Go.Sort Go.Lib Go.Maps
set_option maxRecDepth 8000
attribute [local go_sem ↓] Go.wp_at_zero Go.wp_at_succ
end Go.Proofs.YtnefdpnolojojaaGreat
namespace Go.Proofs.YtnefdpnolojojaaGreat
open Go.RowKit Go.Sort Go.Lib Go.Maps
set_option maxRecDepth 8000
attribute [local go_sem ↓] Go.wp_at_zero Go.wp_at_succ
structure SsM where
 v : Value
 L : List Wb.Sl
def ssv (x : SsM) : List Value := [x.v]
structure StP (n0 : Nat) (wr : World) (pv : Value) (B : Wb.Bk) (l : List Int) (PL : List SsM) : Prop where
 row : wr.ownsRow n0 39 1 pv PL.length (rowsOf ssv PL)
 each : ∀ x ∈ PL, ∀ w2, Kept (fun q => n0 ≤ q ∧ pv.ownBlock ≠ some q) wr w2 → Sls w2 x.v x.L
 paid : PL.map (fun x => x.L.map Wb.ct) = l.map B.paid
theorem StP.nil {n0 : Nat} {wr : World} {B : Wb.Bk} : StP n0 wr (.slice none 0 0) B [] [] := ⟨own_none, (fun x hx => by cases hx), rfl⟩
theorem StP.ext {n0 : Nat} {wr w2 : World} {pv : Value} {B : Wb.Bk} {l : List Int} {PL : List SsM} (h : StP n0 wr pv B l PL) (k : Wb.Ext wr w2) : StP n0 w2 pv B l PL :=
 ⟨row_ext3 h.row k, fun x hx w3 h3 => h.each x hx w3 ((Kept.ext k).trans h3), h.paid⟩
theorem StP.step {n0 : Nat} {wr W W' wa w6 : World} {pv v' u : Value} {B : Wb.Bk} {l : List Int} {p : Int} {PL : List SsM} {D : List Wb.Sl} (h : StP n0 wr pv B l PL) (h0 : n0 ≤ wr.heap.size) (hx : Wb.Ext wr W) (hu : SlR W.heap.size W' u D) (hn : ∀ s ∈ D, ∀ q, s.v.ownBlock = some q → W.heap.size ≤ q) (hD : D.map Wb.ct = B.paid p) (hx2 : Wb.Ext W W') (hxa : Wb.Ext W' wa)
  (hown : w6.ownsRow n0 39 1 v' (PL.length + 1) (rowsOf ssv PL ++ [u])) (hg : wa.grownBy w6 pv.ownBlock) (hblk : v'.ownBlock = pv.ownBlock ∨ v'.ownBlock = some wa.heap.size) : StP n0 w6 v' B (l ++ [p]) (PL ++ [⟨u, D⟩]) := by
 have s1 := hx.size
 have s2 := hx2.size
 have s3 := hxa.size
 have hlo := h.row.lt
 have hk6 : Kept (fun q => pv.ownBlock ≠ some q) wa w6 := .grown hg (fun q e _ hne => hne e)
 have hb2 : ∀ w2, Kept (fun q => n0 ≤ q ∧ v'.ownBlock ≠ some q) w6 w2 → Kept (fun q => n0 ≤ q ∧ pv.ownBlock ≠ some q) wa w2 := fun w2 h2 =>
  ⟨h2.os.trans hk6.os, h2.tape.trans hk6.tape, h2.output.trans hk6.output, Nat.le_trans hk6.size h2.size, fun q hq hf => by
   refine (h2.block q (Nat.lt_of_lt_of_le hq hk6.size) ⟨hf.1, fun e => ?_⟩).trans (hk6.block q hq hf.2)
   rcases hblk with e2 | e2
   ·exact hf.2 (e2 ▸ e)
   ·rw [e2] at e; injection e with e; omega⟩
 refine ⟨?_, fun x hm w2 h2 => ?_, ?_⟩
 ·rw [List.length_append, rowsOf_app, show rowsOf ssv [(⟨u, D⟩ : SsM)] = [u] from rfl]
  exact hown
 ·rcases List.mem_append.1 hm with hm | hm
  ·exact h.each x hm w2 ((Kept.ext (hx.trans (hx2.trans hxa))).trans (hb2 w2 h2))
  ·obtain rfl : x = ⟨u, D⟩ := by simpa using hm
   have hk : Kept (fun q => W.heap.size ≤ q ∧ q < W'.heap.size) W' w2 := ((Kept.ext hxa).trans (hb2 w2 h2)).mono fun q hq hf => ⟨by omega, fun e => by have := (hlo q e).2; omega⟩
   have hlu := hu.1.lt
   refine ((hk.mono (G := fun q => W.heap.size ≤ q) fun q hq hf => ⟨hf, hq⟩).sls hu.sls (fun q hq => (hlu q hq).1) fun s hs _ q hq => hn s hs q hq)
 ·rw [List.map_append, List.map_append, h.paid]
  simp [hD]
end Go.Proofs.YtnefdpnolojojaaGreat
namespace Go.Proofs.YtnefdpnolojojaaGreat
open Go.RowKit Go.Sort Go.Lib Go.Maps
set_option maxRecDepth 8000
attribute [local go_sem ↓] Go.wp_at_zero Go.wp_at_succ
end Go.Proofs.YtnefdpnolojojaaGreat
