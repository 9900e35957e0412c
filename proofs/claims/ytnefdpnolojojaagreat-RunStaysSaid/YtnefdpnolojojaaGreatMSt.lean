/- Several texts in one. -/
import Derived.Test.YtnefdpnolojojaaGreatMRd
import Derived.Test.YtnefdpnolojojaaGreatMRc
import Derived.Test.YtnefdpnolojojaaGreatRun26
import Derived.Test.YtnefdpnolojojaaGreatMRa
import Derived.Deep.RegionHeld
/- Chapter 31's model: put, persons: numbers that rise. -/
namespace Go.Proofs.YtnefdpnolojojaaGreat
open Go.RowKit Go.Sort Go.Lib Go.Maps
set_option maxRecDepth 8000
attribute [local go_sem ↓] Go.wp_at_zero Go.wp_at_succ

/-- a row of numbers, made by the law's own calls -/
def NumR (base : Nat) (w : World) (v : Value) (l : List Int) : Prop := w.ownsRow base 35 1 v l.length (rowsOf u32c l)
theorem NumR.ext {base : Nat} {w w' : World} {v : Value} {l : List Int} (h : NumR base w v l) (k : Wb.Ext w w') : NumR base w' v l := row_ext3 h k
theorem NumR.shape {base : Nat} {w : World} {v : Value} {l : List Int} (h : NumR base w v l) : ∃ a c, v = .slice a l.length c := row_shape h
theorem NumR.tbl {base : Nat} {w : World} {v : Value} {l : List Int} (h : NumR base w v l) : Tbl 1 u32c w v l := row_tbl u32c_len (by decide) h
theorem NumR.nil {base : Nat} {w : World} : NumR base w (.slice none 0 0) [] := own_none
theorem NumR.mono {base base' : Nat} {w : World} {v : Value} {l : List Int} (h : NumR base w v l) (hb : base' ≤ base) : NumR base' w v l := by
  obtain ⟨h1, h2 | ⟨g, cap, cur, hv, hg, rest⟩⟩ := h
  · exact ⟨h1, .inl h2⟩
  · exact ⟨h1, .inr ⟨g, cap, cur, hv, Nat.le_trans hb hg, rest⟩⟩
theorem num_rows : ∀ l : List Int, rowsOf u32c l = l.map (Value.int .u32)
  | l => (rows_u32 l).symm
theorem num_get {l : List Int} {j : Nat} {u : Value} (h : (rowsOf u32c l)[j]? = some u) : ∃ p, l[j]? = some p ∧ u = .int .u32 p := by
  rw [num_rows, List.getElem?_map] at h
  rcases hl : l[j]? with _ | p
  · rw [hl] at h; cases h
  · rw [hl] at h; cases h; exact ⟨p, rfl, rfl⟩
theorem num_len (l : List Int) : (rowsOf u32c l).length = l.length := by rw [num_rows, List.length_map]
theorem num_one (l : List Int) : ∀ u ∈ rowsOf u32c l, u.oneCell' = true := by
  intro u hu
  rw [num_rows] at hu
  obtain ⟨x, -, rfl⟩ := List.mem_map.1 hu
  rfl
theorem src_nums {w : World} {g o n : Nat} (l : List Int) (c : Nat) (hn : n = l.length) (h : ∀ j p, l[j]? = some p → w.cell? ⟨g, o + j, none⟩ = some (.int .u32 p)) : Wb.SrcRow w 1 (.slice (some ⟨g, o, none⟩) n c) n (rowsOf u32c l) := by
  subst hn
  refine ⟨by rw [num_len, Nat.mul_one], .inr ⟨_, _, rfl, fun j u hj => ?_⟩⟩
  obtain ⟨p, hp, rfl⟩ := num_get hj
  have hadd : ((⟨g, o, none⟩ : Addr).add j) = ⟨g, o + j, none⟩ := by
    by_cases hi : j = 0
    · subst hi; rfl
    · simp [Addr.add, hi]
  rw [hadd]
  exact h j p hp
/-- a row of numbers, cut -/
theorem nums_cut {base : Nat} {w : World} {v : Value} {l : List Int} (h : NumR base w v l) {k : Nat} (hk : k ≤ l.length) : ∃ V1 V2, (∀ W : World, (Instr.sliceAt 74 v none (some (.int .i64 k)) none).run Tryz.prog W = .ok V1 W) ∧ Wb.SrcRow w 1 V1 k (rowsOf u32c (l.take k)) ∧
    (∀ W : World, (Instr.sliceAt 74 v (some (.int .i64 k)) none none).run Tryz.prog W = .ok V2 W) ∧ Wb.SrcRow w 1 V2 (l.length - k) (rowsOf u32c (l.drop k)) := by
  by_cases hv : v = .slice none 0 0
  · have hl : l = [] := by
      obtain ⟨_, h2 | ⟨g, cap, cur, hv', _⟩⟩ := h
      · exact List.length_eq_zero_iff.1 h2.2
      · rw [hv] at hv'; cases hv'
    subst hv hl
    obtain rfl : k = 0 := by simpa using hk
    exact ⟨.slice none 0 0, .slice none 0 0, fun W => by simp [go_sem, Tryz.underlying74], ⟨rfl, .inl ⟨rfl, rfl⟩⟩, fun W => by simp [go_sem, Tryz.underlying74], ⟨rfl, .inl ⟨rfl, rfl⟩⟩⟩
  · obtain ⟨_, h2 | ⟨g, cap, cur, hv', _, _, hcap, _⟩⟩ := id h
    · exact absurd h2.1 hv
    · obtain ⟨g2, cap2, hv2, _, _, _, hcell⟩ := Wb.ownsRow_at h hv
      rw [hv'] at hv2; cases hv2
      subst hv'
      have hc : ∀ j p, l[j]? = some p → w.cell? ⟨g, 0 + j, none⟩ = some (.int .u32 p) := fun j p hj => by
        rw [Nat.zero_add]
        exact hcell _ _ (by rw [num_rows, List.getElem?_map, hj]; rfl)
      have hk1 : ¬ ((l.length : Int) < (k : Int)) := by omega
      have hk2 : ¬ ((cap : Int) < (k : Int)) := by omega
      have hk3 : (k : Int) ≤ l.length := by omega
      have hk4 : (k : Int) ≤ cap := by omega
      refine ⟨.slice (some ⟨g, 0, none⟩) k cap, ?_⟩
      have s1 : Wb.SrcRow w 1 (.slice (some ⟨g, 0, none⟩) k cap) k (rowsOf u32c (l.take k)) := src_nums (l.take k) cap (by simp; omega) (fun j x hj => by
        rw [List.getElem?_take] at hj
        split at hj
        · exact hc j x hj
        · cases hj)
      by_cases hck : cap = k
      · have hkl : k = l.length := by omega
        refine ⟨.slice (some ⟨g, 0, none⟩) (l.length - k) (cap - k), fun W => by simp [go_sem, Tryz.underlying74, hk4], s1, fun W => by simp [go_sem, Tryz.underlying74, hck, hk3], ?_⟩
        subst hkl
        rw [Nat.sub_self]
        exact ⟨by simp [rowsOf], .inr ⟨_, _, rfl, fun j u hj => by simp [rowsOf] at hj⟩⟩
      · refine ⟨.slice (some ⟨g, k, none⟩) (l.length - k) (cap - k), fun W => by simp [go_sem, Tryz.underlying74, hk4], s1, fun W => by simp [go_sem, Tryz.underlying74, hck, hk3], ?_⟩
        exact src_nums (l.drop k) _ (by simp) (fun j x hj => by
          rw [List.getElem?_drop] at hj
          have := hc _ x hj
          rw [Nat.zero_add] at this
          exact this)
set_option maxHeartbeats 2000000 in
theorem put31_any (base : Nat) (v : Value) (l : List Int) (p : Int) (w : World) (hv : NumR base w v l) (hbase : base ≤ w.heap.size) (hr : l.Pairwise (· < ·)) (hl : l.length ≤ 1000000) :
    Calls Tryz.prog 30 #[v, .int .u32 p] w fun e w' => ∃ v', e = .returned v' ∧ NumR base w' v' (Wb.putU l p) ∧ (v' = v ∨ ∀ q, v'.ownBlock = some q → w.heap.size ≤ q) ∧ Wb.Ext w w' := by
  have HIN := Lib.hid (info_parts colU_info)
  obtain ⟨va, vc, rfl⟩ := hv.shape
  have HV := Lib.hid hv
  have HR := Lib.hid hr
  clear hv hr
  go_enter Tryz.func30, Tryz.ntmps30
  go_wp2_with fail
  go_loopw [5] (fun iv wr => ∃ k : Nat, k ≤ l.length ∧ iv = .int .i64 k ∧ Hid (∀ j x, l[j]? = some x → k ≤ j → p < x) ∧ w = wr) (fun iv _ => (intOf iv).toNat)
  case atStart => exact ⟨l.length, Nat.le_refl _, rfl, Lib.hid (fun j x hx hj => by have := (List.getElem?_eq_some_iff.1 hx).1; omega), rfl⟩
  case round =>
    obtain ⟨k, hk, rfl, HHI, rfl⟩ := hrel
    rcases k with _ | k
    · have d1 : decide ((0 : Int) < ((0 : Nat) : Int)) = false := by simp
      have HPUT := Lib.hid (Wb.putU_new (Nat.zero_le _) HR.out HHI.out (fun x h => absurd h (by omega)))
      --TAIL 0
      --END
      obtain ⟨V1, V2, hs1, hc1, hs2, hc2⟩ := nums_cut HV.out hk
      have HC1 := Lib.hid hc1
      have HC2 := Lib.hid hc2
      have htl : (l.take (0)).length = 0 := by rw [List.length_take]; omega
      have hs1 : ∀ W : World, (Instr.sliceAt 74 (.slice va l.length vc) none (some (.int .i64 0)) none).run Tryz.prog W = .ok V1 W := hs1
      have hs2 : ∀ W : World, (Instr.sliceAt 74 (.slice va l.length vc) (some (.int .i64 0)) none none).run Tryz.prog W = .ok V2 W := hs2
      clear hc1 hc2
      obtain ⟨hi, hz0, hz1, hz2⟩ := HIN.out.choose_spec
      go_wp2_with (at_builtin; go_loud (refine wpList_append_row2 rfl (.tmp 30) (.tmp 33) 74 rfl w.heap.size 35 _ (.int .u32 0) 1 4 Tryz.underlying74 hi hz0 hz1 hz2 rfl (by decide) _ _ _ rfl (own_empty (w := w) (Nat.le_refl _)) _ rfl (0) (rowsOf u32c (l.take (0))) (HC1.out.ext (.alloc (.refl _) _)) (num_one _) (by unfold maxLen; omega) (by omega) (by simp) ?_))
      intro u1 w1 hown1 hg1 hblk1
      have hx1 : Wb.Ext w w1 := Wb.Ext.grown (.alloc (.refl _) _) hg1 (fun q hq => by simp [Value.ownBlock] at hq; omega)
      obtain ⟨ua, uc, rfl⟩ := row_shape hown1
      have HO1 := Lib.hid hown1
      have HX1 := Lib.hid hx1
      clear hown1 hg1 hblk1 hx1 hs1
      go_wp2_with (at_builtin; go_loud (refine wpList_append_row2 rfl (.tmp 35) (.tmp 37) 74 rfl w.heap.size 35 _ (.int .u32 0) 1 4 Tryz.underlying74 hi hz0 hz1 hz2 rfl (by decide) _ _ _ rfl (row_ext3 HO1.out ((Wb.Ext.refl _).alloc _)) _ rfl 1 (rowsOf u32c [p]) (src_lit _ _ (by rfl) (rowsOf u32c [p]) _ _) (num_one _) (by unfold maxLen; omega) (by omega) (by have := HX1.out.size; simp; omega) ?_))
      intro u2 w2 hown2 hg2 hblk2
      have hx2 : Wb.Ext w w2 := Wb.Ext.grown (.alloc HX1.out _) hg2 (fun q hq => (HO1.out.lt q hq).1)
      obtain ⟨ub, ud, rfl⟩ := row_shape hown2
      have HO2 := Lib.hid hown2
      have HX2 := Lib.hid hx2
      clear hown2 hg2 hblk2 hx2
      go_wp2_with (at_builtin; go_loud (refine wpList_append_row2 rfl (.tmp 39) (.tmp 42) 74 rfl w.heap.size 35 _ (.int .u32 0) 1 4 Tryz.underlying74 hi hz0 hz1 hz2 rfl (by decide) _ _ _ rfl HO2.out _ rfl (l.length - (0)) (rowsOf u32c (l.drop (0))) (HC2.out.ext HX2.out) (num_one _) (by unfold maxLen; omega) (by omega) HX2.out.size ?_))
      intro u3 w3 hown3 hg3 hblk3
      have hx3 : Wb.Ext w w3 := Wb.Ext.grown HX2.out hg3 (fun q hq => (HO2.out.lt q hq).1)
      obtain ⟨uf, ug, rfl⟩ := row_shape hown3
      have HO3 := Lib.hid (show NumR w.heap.size w3 (.slice uf (Wb.putU l p).length ug) (Wb.putU l p) by
        have hl3 : (Wb.putU l p).length = 0 + (0) + 1 + (l.length - (0)) := by rw [HPUT.out, List.length_append, List.length_cons, htl, List.length_drop]; omega
        unfold NumR
        rw [hl3, HPUT.out, show l.take (0) ++ p :: l.drop (0) = l.take (0) ++ [p] ++ l.drop (0) by simp, rowsOf_app, rowsOf_app]
        exact hown3)
      have hl3 : (Wb.putU l p).length = l.length + 1 := by rw [HPUT.out, List.length_append, List.length_cons, htl, List.length_drop]; omega
      have HX3 := Lib.hid hx3
      have hl4 : 1 + l.length = (Wb.putU l p).length := by omega
      rw [hl4]
      clear hown3 hg3 hblk3 hx3 hl3 hs2 htl hl4
      go_wp2
      refine bodyPost_ret (v := .slice uf (Wb.putU l p).length ug) (by simp [results, Tryz.results30, go_sem]) rfl ⟨_, rfl, HO3.out.mono hbase, .inr (fun q hq => (HO3.out.lt q hq).1), HX3.out⟩
    have hkl : k < l.length := by omega
    obtain ⟨x, hx⟩ := Wb.get_ex hkl
    obtain ⟨b, off, cap, hvv, hc⟩ := look_tbl HV.out.tbl hx
    cases hvv
    have d1 : decide ((0 : Int) < ((k + 1 : Nat) : Int)) = true := by simp
    have hw1 : IntKind.i64.wrap (((k + 1 : Nat) : Int) - 1) = (k : Int) := by rw [show (((k + 1 : Nat) : Int) - 1) = (k : Int) by omega]; exact IntWalk.i64_in _ (by omega)
    have hki : (k : Int) < l.length := by omega
    by_cases hle : p ≤ x
    case neg =>
      have d2 : decide (p ≤ x) = false := by simpa using hle
      have HPUT := Lib.hid (Wb.putU_new hk HR.out HHI.out (fun y _ hy => by simp at hy; rw [hx] at hy; cases hy; omega))
      --TAIL k + 1
      --END
      obtain ⟨V1, V2, hs1, hc1, hs2, hc2⟩ := nums_cut HV.out hk
      have HC1 := Lib.hid hc1
      have HC2 := Lib.hid hc2
      have htl : (l.take (k + 1)).length = k + 1 := by rw [List.length_take]; omega
      have hs1 : ∀ W : World, (Instr.sliceAt 74 (.slice (some ⟨b, off, none⟩) l.length vc) none (some (.int .i64 ((k : Int) + 1))) none).run Tryz.prog W = .ok V1 W := hs1
      have hs2 : ∀ W : World, (Instr.sliceAt 74 (.slice (some ⟨b, off, none⟩) l.length vc) (some (.int .i64 ((k : Int) + 1))) none none).run Tryz.prog W = .ok V2 W := hs2
      clear hc1 hc2
      obtain ⟨hi, hz0, hz1, hz2⟩ := HIN.out.choose_spec
      go_wp2_with (at_builtin; go_loud (refine wpList_append_row2 rfl (.tmp 30) (.tmp 33) 74 rfl w.heap.size 35 _ (.int .u32 0) 1 4 Tryz.underlying74 hi hz0 hz1 hz2 rfl (by decide) _ _ _ rfl (own_empty (w := w) (Nat.le_refl _)) _ rfl (k + 1) (rowsOf u32c (l.take (k + 1))) (HC1.out.ext (.alloc (.refl _) _)) (num_one _) (by unfold maxLen; omega) (by omega) (by simp) ?_))
      intro u1 w1 hown1 hg1 hblk1
      have hx1 : Wb.Ext w w1 := Wb.Ext.grown (.alloc (.refl _) _) hg1 (fun q hq => by simp [Value.ownBlock] at hq; omega)
      obtain ⟨ua, uc, rfl⟩ := row_shape hown1
      have HO1 := Lib.hid hown1
      have HX1 := Lib.hid hx1
      clear hown1 hg1 hblk1 hx1 hs1
      go_wp2_with (at_builtin; go_loud (refine wpList_append_row2 rfl (.tmp 35) (.tmp 37) 74 rfl w.heap.size 35 _ (.int .u32 0) 1 4 Tryz.underlying74 hi hz0 hz1 hz2 rfl (by decide) _ _ _ rfl (row_ext3 HO1.out ((Wb.Ext.refl _).alloc _)) _ rfl 1 (rowsOf u32c [p]) (src_lit _ _ (by rfl) (rowsOf u32c [p]) _ _) (num_one _) (by unfold maxLen; omega) (by omega) (by have := HX1.out.size; simp; omega) ?_))
      intro u2 w2 hown2 hg2 hblk2
      have hx2 : Wb.Ext w w2 := Wb.Ext.grown (.alloc HX1.out _) hg2 (fun q hq => (HO1.out.lt q hq).1)
      obtain ⟨ub, ud, rfl⟩ := row_shape hown2
      have HO2 := Lib.hid hown2
      have HX2 := Lib.hid hx2
      clear hown2 hg2 hblk2 hx2
      go_wp2_with (at_builtin; go_loud (refine wpList_append_row2 rfl (.tmp 39) (.tmp 42) 74 rfl w.heap.size 35 _ (.int .u32 0) 1 4 Tryz.underlying74 hi hz0 hz1 hz2 rfl (by decide) _ _ _ rfl HO2.out _ rfl (l.length - (k + 1)) (rowsOf u32c (l.drop (k + 1))) (HC2.out.ext HX2.out) (num_one _) (by unfold maxLen; omega) (by omega) HX2.out.size ?_))
      intro u3 w3 hown3 hg3 hblk3
      have hx3 : Wb.Ext w w3 := Wb.Ext.grown HX2.out hg3 (fun q hq => (HO2.out.lt q hq).1)
      obtain ⟨uf, ug, rfl⟩ := row_shape hown3
      have HO3 := Lib.hid (show NumR w.heap.size w3 (.slice uf (Wb.putU l p).length ug) (Wb.putU l p) by
        have hl3 : (Wb.putU l p).length = (k + 1) + 1 + (l.length - (k + 1)) := by rw [HPUT.out, List.length_append, List.length_cons, htl, List.length_drop]; omega
        unfold NumR
        rw [hl3, HPUT.out, show l.take (k + 1) ++ p :: l.drop (k + 1) = l.take (k + 1) ++ ([p] ++ l.drop (k + 1)) by simp, rowsOf_app, rowsOf_app]
        exact hown3)
      have hl3 : (Wb.putU l p).length = l.length + 1 := by rw [HPUT.out, List.length_append, List.length_cons, htl, List.length_drop]; omega
      have HX3 := Lib.hid hx3
      have hl4 : k + 1 + 1 + (l.length - (k + 1)) = (Wb.putU l p).length := by omega
      rw [hl4]
      clear hown3 hg3 hblk3 hx3 hl3 hs2 htl hl4
      go_wp2
      refine bodyPost_ret (v := .slice uf (Wb.putU l p).length ug) (by simp [results, Tryz.results30, go_sem]) rfl ⟨_, rfl, HO3.out.mono hbase, .inr (fun q hq => (HO3.out.lt q hq).1), HX3.out⟩
    have d2 : decide (p ≤ x) = true := by simpa using hle
    by_cases he : x = p
    · have d3 : (x == p) = true := by simpa using he
      have HPUT := Lib.hid (Wb.putU_same HR.out (he ▸ hx))
      clear he hx
      go_wp2
      refine bodyPost_ret (v := .slice (some ⟨b, off, none⟩) l.length vc) (by simp [results, Tryz.results30, go_sem]) rfl ⟨_, rfl, by rw [HPUT.out]; exact HV.out, .inl rfl, .refl _⟩
    have d3 : (x == p) = false := by simpa using he
    have HLO := Lib.hid (show ∀ j y, l[j]? = some y → k ≤ j → p < y from fun j y hy hj => by
      by_cases e : j = k
      · subst e; rw [hx] at hy; cases hy; omega
      · exact HHI.out j y hy (by omega))
    clear he hle hx
    go_wp2
    go_roundw
    case rel => exact ⟨k, by omega, by go_num, HLO, by first | rfl | trivial⟩
    case measure => first | (simp [intOf]; done) | (simp [intOf]; omega)
end Go.Proofs.YtnefdpnolojojaaGreat
/- Chapter 31's model: persons: the keys of two maps, rising. -/
namespace Go.Proofs.YtnefdpnolojojaaGreat
open Go.RowKit Go.Sort Go.Lib Go.Maps
set_option maxRecDepth 8000
attribute [local go_sem ↓] Go.wp_at_zero Go.wp_at_succ

/-- what stands at a round: ss have come, l is what was put of them behind l0 -/
structure PsAt (w wr : World) (v : Value) (l : List Int) (l0 ss : List Int) : Prop where
  row : NumR w.heap.size wr v l
  rise : l.Pairwise (· < ·)
  mem : ∀ p, p ∈ l ↔ p ∈ l0 ∨ p ∈ ss
  len : l.length ≤ l0.length + ss.length
  ext : Wb.Ext w wr
theorem PsAt.put {w wr w2 : World} {v v' : Value} {l l0 ss : List Int} {p : Int} (h : PsAt w wr v l l0 ss) (k : NumR w.heap.size w2 v' (Wb.putU l p)) (e : Wb.Ext wr w2) : PsAt w w2 v' (Wb.putU l p) l0 (ss ++ [p]) :=
  ⟨k, Wb.putU_rise h.rise, fun q => by rw [Wb.putU_mem, h.mem, List.mem_append, List.mem_singleton]; exact ⟨fun h => h.elim (fun a => .inr (.inr a)) (fun b => b.elim .inl (fun c => .inr (.inl c))), fun h => h.elim (fun a => .inr (.inl a)) (fun b => b.elim (fun c => .inr (.inr c)) .inl)⟩, by have := Wb.putU_len (l := l) (p := p); have := h.len; rw [List.length_append]; simp; omega, h.ext.trans e⟩
set_option maxHeartbeats 4000000 in
theorem persons31_any (ma mb : Option Nat) (na nb : Nat) (za zb : Value) (f g : Int → Option Value) (w : World) (ha : KMapO kU32 w ma na za f) (hb : KMapO kU32 w mb nb zb g) (hna : na ≤ 100000) (hnb : nb ≤ 100000) :
    Calls Tryz.prog 31 #[.map ma, .map mb] w fun e w' => ∃ v ss, e = .returned v ∧ NumR w.heap.size w' v ss ∧ ss.Pairwise (· < ·) ∧ (∀ p, p ∈ ss ↔ kU32.ok p ∧ ((f p).isSome = true ∨ (g p).isSome = true)) ∧ ss.length ≤ na + nb ∧ Wb.Ext w w' := by
  have HB := Lib.hid hb
  clear hb
  go_enter Tryz.func31, Tryz.ntmps31
  go_wp2_with (first
    | (at_range; refine wpList_range_km (K := kU32) rfl _ 24 39 rfl Tryz.underlying24 ma na za f rfl ha ?_; intro w0 cnt0 hrg0 hc0 hg0 hs0)
    | go_in)
  (try go_frame)
  have HX0 := Lib.hid (Wb.Ext.grown (.refl w) hg0 (fun k h => by cases h))
  obtain ⟨X, hX⟩ : ∃ X, w.heap.size = X := ⟨_, rfl⟩
  have HRG0 := Lib.hid hrg0
  rw [hX] at HRG0 ⊢
  have hXs : w.heap.size ≤ X := by omega
  have HP0 : Hid (PsAt w w0 (.slice none 0 0) [] [] []) := Lib.hid ⟨.nil, List.Pairwise.nil, (fun p => by simp), by simp, HX0.out⟩
  clear ha hg0 hs0 hrg0 hX HX0
  go_loopw [5] (fun ov wr => ∃ (cnt : Nat) (ss l : List Int) (oa : Option Addr) (oc : Nat), ov = .slice oa l.length oc ∧ Hid (KRng kU32 wr ma X na za f ss cnt) ∧ ss.length + cnt ≤ na ∧ Hid (PsAt w wr (.slice oa l.length oc) l [] ss)) (fun _ wr => kLeft ma X wr)
  case atStart => exact ⟨cnt0, [], [], none, 0, rfl, HRG0, by simpa using hc0, HP0⟩
  case round =>
    clear HRG0 HP0
    obtain ⟨cnt, ss, l, oa, oc, rfl, HRG, hcs, HP⟩ := hrel
    obtain ⟨wO, hwz⟩ : ∃ z, z = wr := ⟨_, rfl⟩
    subst hwz
    have hrg := HRG.out
    go_wp2_with (first
      | (at_next; refine wpList_next_km (K := kU32) rfl _ rfl rfl hrg ?_ ?_)
      | go_in)
    · intro hall
      have HL : Hid (∀ p, p ∈ l ↔ kU32.ok p ∧ (f p).isSome = true) := Lib.hid (fun p => by
        rw [HP.out.mem]
        exact ⟨fun h => h.elim (fun h => by cases h) (fun h => HRG.out.ok p h), fun h => .inr (hall p h.1 h.2)⟩)
      have hll : l.length ≤ na := by have := HP.out.len; simp at this; omega
      have hb2 : KMapO kU32 wO mb nb zb g := HB.out.ext HP.out.ext
      clear hall hrg HRG hcs HB
      go_wp2_with (first
        | (at_range; refine wpList_range_km (K := kU32) rfl _ 24 39 rfl Tryz.underlying24 mb nb zb g rfl hb2 ?_; intro w1 cnt1 hrg1 hc1 hg1 hs1)
        | go_in)
      (try go_frame)
      have hx1 := Wb.Ext.grown (.refl wO) hg1 (fun k h => by cases h)
      obtain ⟨Y, hY⟩ : ∃ Y, wO.heap.size = Y := ⟨_, rfl⟩
      have HRG1 := Lib.hid hrg1
      rw [hY] at HRG1 ⊢
      have hYs : w.heap.size ≤ Y := by have := HP.out.ext.size; omega
      have HP1 : Hid (PsAt w w1 (.slice oa l.length oc) l l []) := Lib.hid ⟨HP.out.row.ext hx1, HP.out.rise, (fun p => by simp), by simp, HP.out.ext.trans hx1⟩
      clear hb2 hg1 hs1 hrg1 hY hx1 HP
      go_loopw [5] (fun ov wr => ∃ (cnt : Nat) (ss m : List Int) (oa : Option Addr) (oc : Nat), ov = .slice oa m.length oc ∧ Hid (KRng kU32 wr mb Y nb zb g ss cnt) ∧ ss.length + cnt ≤ nb ∧ Hid (PsAt w wr (.slice oa m.length oc) m l ss)) (fun _ wr => kLeft mb Y wr)
      case atStart => exact ⟨cnt1, [], l, oa, oc, rfl, HRG1, by simpa using hc1, HP1⟩
      case round =>
        clear HRG1 HP1
        obtain ⟨cnt, ss, m, oa, oc, rfl, HRG, hcs, HP⟩ := hrel
        obtain ⟨wO, hwz⟩ : ∃ z, z = wr := ⟨_, rfl⟩
        subst hwz
        have hrg := HRG.out
        go_wp2_with (first
          | (at_next; refine wpList_next_km (K := kU32) rfl _ rfl rfl hrg ?_ ?_)
          | go_in)
        · intro hall
          have HM : Hid (∀ p, p ∈ m ↔ kU32.ok p ∧ ((f p).isSome = true ∨ (g p).isSome = true)) := Lib.hid (fun p => by
            rw [HP.out.mem, HL.out]
            exact ⟨fun h => h.elim (fun h => ⟨h.1, .inl h.2⟩) (fun h => ⟨(HRG.out.ok p h).1, .inr (HRG.out.ok p h).2⟩), fun h => h.2.elim (fun k => .inl ⟨h.1, k⟩) (fun k => .inr (hall p h.1 k))⟩)
          have hml : m.length ≤ na + nb := by have := HP.out.len; omega
          clear hall hrg HRG hcs
          go_wp2
          exact bodyPost_ret (v := .slice oa m.length oc) (by simp [results, Tryz.results31, go_sem]) rfl ⟨_, m, rfl, HP.out.row, HP.out.rise, HM.out, hml, HP.out.ext⟩
        · intro x v w2 cnt2 hok hfx hnr hrg2 hlt hg2 hs2 hen
          replace hg2 : wO.grownBy w2 (some Y) := hg2
          replace hen : (Instr.entry (.pointer (some ⟨Y, 0, none⟩))).run Tryz.prog w2 = .ok (.tuple #[.int .u32 x, v]) w2 := hen
          have HN2 := Lib.hid (show NumR w.heap.size w2 (.slice oa m.length oc) m from row_abides HP.out.row hg2 (fun r hr => by cases hr; exact HRG.out.walk))
          have hx2 : Wb.Ext w w2 := Wb.Ext.grown HP.out.ext hg2 (fun k h => by cases h; exact hYs)
          have HP2 : Hid (PsAt w w2 (.slice oa m.length oc) m l ss) := Lib.hid ⟨HN2.out, HP.out.rise, HP.out.mem, HP.out.len, hx2⟩
          have HRG2 := Lib.hid hrg2
          have hl0 : kLeft mb Y wO = cnt := HRG.out.left
          have hlen : m.length ≤ 1000000 := by have := HP.out.len; omega
          have hsx2 := hx2.size
          clear hg2 hs2 hrg2 hfx hnr hok hrg HN2 hx2
          (try go_frame)
          go_wp2_with fail
          go_fit (put31_any w.heap.size _ m x _ HP2.out.row hsx2 HP2.out.rise hlen); rintro e w3 ⟨v3, rfl, hn3, -, hx3⟩
          obtain ⟨ua, uc, rfl⟩ := hn3.shape
          have HP3 := Lib.hid (HP2.out.put hn3 hx3)
          have HRG3 := Lib.hid (HRG2.out.ext hx3)
          clear hn3 hx3
          go_wp2
          go_roundw
          case rel => exact ⟨cnt2, ss ++ [x], Wb.putU m x, ua, uc, rfl, HRG3, by simp; omega, HP3⟩
          case measure => rw [HRG3.out.left, hl0]; exact hlt
    · intro x v w2 cnt2 hok hfx hnr hrg2 hlt hg2 hs2 hen
      replace hg2 : wO.grownBy w2 (some X) := hg2
      replace hen : (Instr.entry (.pointer (some ⟨X, 0, none⟩))).run Tryz.prog w2 = .ok (.tuple #[.int .u32 x, v]) w2 := hen
      have HN2 := Lib.hid (show NumR w.heap.size w2 (.slice oa l.length oc) l from row_abides HP.out.row hg2 (fun r hr => by cases hr; exact HRG.out.walk))
      have hx2 : Wb.Ext w w2 := Wb.Ext.grown HP.out.ext hg2 (fun k h => by cases h; exact hXs)
      have HP2 : Hid (PsAt w w2 (.slice oa l.length oc) l [] ss) := Lib.hid ⟨HN2.out, HP.out.rise, HP.out.mem, HP.out.len, hx2⟩
      have HRG2 := Lib.hid hrg2
      have hl0 : kLeft ma X wO = cnt := HRG.out.left
      have hlen : l.length ≤ 1000000 := by have := HP.out.len; simp at this; omega
      have hsx2 := hx2.size
      clear hg2 hs2 hrg2 hfx hnr hok hrg HN2 hx2
      (try go_frame)
      go_wp2_with fail
      go_fit (put31_any w.heap.size _ l x _ HP2.out.row hsx2 HP2.out.rise hlen); rintro e w3 ⟨v3, rfl, hn3, -, hx3⟩
      obtain ⟨ua, uc, rfl⟩ := hn3.shape
      have HP3 := Lib.hid (HP2.out.put hn3 hx3)
      have HRG3 := Lib.hid (HRG2.out.ext hx3)
      clear hn3 hx3
      go_wp2
      go_roundw
      case rel => exact ⟨cnt2, ss ++ [x], Wb.putU l x, ua, uc, rfl, HRG3, by simp; omega, HP3⟩
      case measure => rw [HRG3.out.left, hl0]; exact hlt
end Go.Proofs.YtnefdpnolojojaaGreat
/- RunStays: the runs and one more. -/
namespace Go.Proofs.YtnefdpnolojojaaGreat
open Go.RowKit Go.Sort Go.Lib Go.Maps
set_option maxRecDepth 8000
attribute [local go_sem ↓] Go.wp_at_zero Go.wp_at_succ

def acZ : Value := .agg #[.int .i64 0, .int .i64 0, .int .i64 0, .slice none 0 0]
theorem infoAct : (Tryz.prog.info? 58).map (fun i => (i.zero, i.size, i.bytes)) = some (some acZ, 4, 48) := by kernel_rfl
theorem acc_one {w : World} {al : List AcM} (h : ∀ a ∈ al, HdsW w a.v a.hs) : ∀ u ∈ rowsOf acc al, u.oneCell' = true := by
  intro u hu
  obtain ⟨x, hm, hx⟩ := List.mem_flatMap.1 hu
  obtain ⟨a, c, hv⟩ := (h x hm).tab.shape
  simp [acc] at hx
  rcases hx with rfl | rfl | rfl | rfl
  · rfl
  · rfl
  · rfl
  · rw [hv]; rfl
/-- no slice but nil lies nowhere -/
def Laid (v : Value) : Prop := v = .slice none 0 0 ∨ ∃ ad n c, v = .slice (some ad) n c
theorem acts_src {w : World} {v : Value} {al : List AcM} (h : Tbl 4 acc w v al) (hl : Laid v) : Wb.SrcRow w 4 v al.length (rowsOf acc al) := by
  rcases hl with rfl | ⟨ad, n, c, rfl⟩
  · obtain ⟨a, c, hv⟩ := h.shape
    injection hv with h1 h2 h3
    have : al = [] := List.length_eq_zero_iff.1 h2.symm
    subst this
    exact ⟨rfl, .inl ⟨rfl, rfl⟩⟩
  · obtain ⟨a, c', hv⟩ := h.shape
    injection hv with h1 h2 h3
    subst h2
    exact src_tbl acc_len (by decide) h
noncomputable def st1R : Code := ((Tryz.f10.body.bind (findReg 1)).getD .skip)
set_option maxHeartbeats 100000000 in
theorem st1 (x1 x2 x4 x5 x6 x7 x8 x9 x10 x11 x12 x13 x14 x15 x16 x17 x18 x19 x20 x21 x22 x23 x24 x25 x26 x27 x28 x29 x30 x31 x32 x33 x34 x35 x36 x37 x38 x39 x40 x41 x42 x43 x44 x45 x46 x47 x48 x49 x50 x51 x52 x53 x54 x55 x56 x57 x58 x59 x60 x61 x62 x63 x64 x65 x66 x67 x68 x69 x70 x71 x72 x73 x74 x75 x76 x77 x78 x79 x80 x81 x82 x83 x84 x85 x86 x87 x88 x89 x90 x91 x92 x93 x94 x95 x96 x97 x98 x99 x100 x101 x102 x103 x104 x105 x106 x107 x108 x109 x110 x111 x112 x113 x114 x115 x116 x117 x118 x119 x120 x121 x122 x123 x124 x125 x126 x127 x128 x129 x130 x131 x132 x133 x134 x135 x136 x137 x138 x139 x140 x141 x142 x143 x144 x145 x146 x147 x148 x149 x150 x151 x152 x153 x154 x155 x156 x157 x158 x159 x160 x161 x162 x163 x164 x165 x166 x167 x168 x169 x170 x171 x172 x173 : Value) (ds) (w0 : World) (X : Nat) (va : Option Addr) (vc : Nat) (al : List AcM) (m : AcM) (ma : Option Addr) (mc : Nat) (hmv : m.v = .slice ma m.hs.length mc) (ha : ActsM w0 (.slice va al.length vc) al) (hla : Laid (.slice va al.length vc)) (hm : HdsW w0 m.v m.hs) (hz : FitA (al ++ [m])) (hb : (al.length + 1) * 48 ≤ 140737488355328)
    (c0 : w0.cell? ⟨X, 0, none⟩ = some (.int .i64 m.y)) (c1 : w0.cell? ⟨X, 1, none⟩ = some (.int .i64 m.i)) (c2 : w0.cell? ⟨X, 2, none⟩ = some (.int .i64 m.k)) (c3 : w0.cell? ⟨X, 3, none⟩ = some (.slice ma m.hs.length mc)) :
    Code.wp Tryz.prog st1R (OnEnd fun a' wx => ∃ (g : Bool) (u18 u19 u20 u21 u22 u23 : Value), a' = ⟨#[.slice va al.length vc, x1, x2, .pointer (some ⟨X, 0, none⟩), x4, x5, x6, x7, x8, x9, x10, x11, x12, x13, x14, x15, x16, x17, u18, u19, u20, u21, u22, u23, .bool g, x25, x26, x27, x28, x29, x30, x31, x32, x33, x34, x35, x36, x37, x38, x39, x40, x41, x42, x43, x44, x45, x46, x47, x48, x49, x50, x51, x52, x53, x54, x55, x56, x57, x58, x59, x60, x61, x62, x63, x64, x65, x66, x67, x68, x69, x70, x71, x72, x73, x74, x75, x76, x77, x78, x79, x80, x81, x82, x83, x84, x85, x86, x87, x88, x89, x90, x91, x92, x93, x94, x95, x96, x97, x98, x99, x100, x101, x102, x103, x104, x105, x106, x107, x108, x109, x110, x111, x112, x113, x114, x115, x116, x117, x118, x119, x120, x121, x122, x123, x124, x125, x126, x127, x128, x129, x130, x131, x132, x133, x134, x135, x136, x137, x138, x139, x140, x141, x142, x143, x144, x145, x146, x147, x148, x149, x150, x151, x152, x153, x154, x155, x156, x157, x158, x159, x160, x161, x162, x163, x164, x165, x166, x167, x168, x169, x170, x171, x172, x173], ds⟩ ∧ (g = false → SmallL (al ++ [m])) ∧ Wb.Ext w0 wx) ⟨#[.slice va al.length vc, x1, x2, .pointer (some ⟨X, 0, none⟩), x4, x5, x6, x7, x8, x9, x10, x11, x12, x13, x14, x15, x16, x17, x18, x19, x20, x21, x22, x23, x24, x25, x26, x27, x28, x29, x30, x31, x32, x33, x34, x35, x36, x37, x38, x39, x40, x41, x42, x43, x44, x45, x46, x47, x48, x49, x50, x51, x52, x53, x54, x55, x56, x57, x58, x59, x60, x61, x62, x63, x64, x65, x66, x67, x68, x69, x70, x71, x72, x73, x74, x75, x76, x77, x78, x79, x80, x81, x82, x83, x84, x85, x86, x87, x88, x89, x90, x91, x92, x93, x94, x95, x96, x97, x98, x99, x100, x101, x102, x103, x104, x105, x106, x107, x108, x109, x110, x111, x112, x113, x114, x115, x116, x117, x118, x119, x120, x121, x122, x123, x124, x125, x126, x127, x128, x129, x130, x131, x132, x133, x134, x135, x136, x137, x138, x139, x140, x141, x142, x143, x144, x145, x146, x147, x148, x149, x150, x151, x152, x153, x154, x155, x156, x157, x158, x159, x160, x161, x162, x163, x164, x165, x166, x167, x168, x169, x170, x171, x172, x173], ds⟩ w0 := by
  have HIN := Lib.hid (info_parts infoAct)
  have HA := Lib.hid ha
  have HM := Lib.hid hm
  have HZ := Lib.hid hz
  have HSRC := Lib.hid (acts_src ha.tab hla)
  have HONE := Lib.hid (acc_one ha.each)
  have HMV := Lib.hid hmv
  have hb2 : al.length * 48 ≤ 140737488355328 := by omega
  have k0 : ∀ x, Wb.Ext w0 x → x.cell? ⟨X, 0, none⟩ = some (.int .i64 m.y) := fun x h => h.keep c0
  have k1 : ∀ x, Wb.Ext w0 x → x.cell? ⟨X, 1, none⟩ = some (.int .i64 m.i) := fun x h => h.keep c1
  have k2 : ∀ x, Wb.Ext w0 x → x.cell? ⟨X, 2, none⟩ = some (.int .i64 m.k) := fun x h => h.keep c2
  have k3 : ∀ x, Wb.Ext w0 x → x.cell? ⟨X, 3, none⟩ = some (.slice ma m.hs.length mc) := fun x h => h.keep c3
  clear ha hm hz hla hmv c0 c1 c2 c3
  conv => arg 2; whnf
  refine region_start (S := Wb.Ext w0) (n := 7) (l := #[false, false, false, false, false, false, false]) (by kernel_rfl) (.drew (.refl w0)) (by kernel_rfl) (by kernel_rfl) (fun hHeld => ?_)
  refine take_d (i := 1) (d := 19) (v := ?_) rfl rfl (by kernel_rfl) (by kernel_rfl) (by kernel_rfl) (fun _ _ _ h => h) (Or.inl ⟨by rfl, ?_⟩) (by assumption) ?_
  rotate_left
  · (intro w hSw; (try dsimp only at hSw); go_simp; (try with_reducible rfl))
  (try simp only [Act.put, List.setIfInBounds_toArray, List.set_cons_zero, List.set_cons_succ])
  refine take_d (i := 3) (d := 21) (v := ?_) rfl rfl (by kernel_rfl) (by kernel_rfl) (by kernel_rfl) (fun _ _ _ h => h) (Or.inl ⟨by rfl, ?_⟩) (by assumption) ?_
  rotate_left
  · (intro w hSw; (try dsimp only at hSw); go_simp; (try with_reducible rfl))
  (try simp only [Act.put, List.setIfInBounds_toArray, List.set_cons_zero, List.set_cons_succ])
  refine wpAnyH_ready (rs := [0, 4]) (by kernel_rfl) (by simp) ?_
  refine AllReadyH.cons (o := _) rfl (fun K hK => ?_) ?_
  · go_simp
    refine atK fun w1 hw1 => ?_
    have hx1 : Wb.Ext w0 w1 := by rw [hw1]; exact Wb.Ext.alloc (Wb.Ext.drew (.refl w0)) _
    obtain ⟨gr, gre⟩ : ∃ g, w0.heap.size = g := ⟨_, rfl⟩
    have grh : gr < w1.heap.size := by rw [hw1, ← gre]; simp
    have grl : w0.heap.size ≤ gr := by rw [← gre]; exact Nat.le_refl _
    have HO1 := Lib.hid (show w1.ownsRow w0.heap.size 58 4 (.slice (some ⟨gr, 0, none⟩) 0 0) 0 [] by rw [hw1, ← gre]; exact own_empty (w := w0.drew) ((Wb.Ext.drew (.refl w0))).size)
    (try rw [gre])
    (try clear gre hw1)
    refine hK.out _ _ hx1 (fun hHeld => ?_)
    clear hK K
    (try simp only [List.setIfInBounds_toArray, List.set_cons_zero])
    refine wpAnyH_ready (rs := [2, 4]) (by kernel_rfl) (by simp) ?_
    refine AllReadyH.cons (o := _) rfl (fun K hK => ?_) ?_
    · obtain ⟨hi, hz0, hz1, hz2⟩ := HIN.out.choose_spec
      refine Wb.step_append_row (by rfl) _ _ _ (by rfl) w0.heap.size 58 _ acZ 4 48 Tryz.underlying51 hi hz0 hz1 hz2 (by rfl) (by decide) _ 0 [] (by rfl) HO1.out _ (by rfl) al.length (rowsOf acc al) (HSRC.out.ext hx1) HONE.out (by unfold maxLen; omega) (by omega) (hx1).size ?_
      intro v2 w2 ho2 hg2 hat2
      have hx2 : Wb.Ext w0 w2 := Wb.Ext.grown hx1 hg2 (fun q hq => (HO1.out.lt q hq).1)
      obtain ⟨NN, hNN⟩ : ∃ n, n = 0 + al.length := ⟨_, rfl⟩
      rw [← hNN] at ho2
      have hNb : NN ≤ al.length := by omega
      clear hNN
      obtain ⟨ra2, rc2, rfl⟩ := row_shape ho2
      have HO2 := Lib.hid ho2
      replace grh : gr < w2.heap.size := Nat.lt_of_lt_of_le grh hg2.size
      clear hi hz0 hz1 hz2 ho2 hg2 hat2
      refine hK.out _ _ hx2 (fun hHeld => ?_)
      clear hK K
      (try simp only [Act.put, List.setIfInBounds_toArray, List.set_cons_zero, List.set_cons_succ])
      refine wpAnyH_ready (rs := [4]) (by kernel_rfl) (by simp) ?_
      refine AllReadyH.cons (o := _) rfl (fun K hK => ?_) ?_
      · go_simp
        refine atK fun w3 hw3 => ?_
        have hx3 : Wb.Ext w0 w3 := by rw [hw3]; exact Wb.Ext.alloc hx2 _
        obtain ⟨gx, gxe⟩ : ∃ g, w2.heap.size = g := ⟨_, rfl⟩
        have gxh : gx < w3.heap.size := by rw [hw3, ← gxe]; simp
        have HL3 := Lib.hid (show Wb.SrcRow w3 4 (.slice (some ⟨gx, 0, none⟩) 1 1) 1 [.int .i64 m.y, .int .i64 m.i, .int .i64 m.k, .slice ma m.hs.length mc] by rw [hw3, ← gxe]; exact src_lit w2 _ rfl [.int .i64 m.y, .int .i64 m.i, .int .i64 m.k, .slice ma m.hs.length mc] _ _)
        have gxn : gx ≠ gr := by rw [← gxe]; omega
        replace grh : gr < w3.heap.size := Nat.lt_of_lt_of_le grh (by rw [hw3]; simp)
        have HO3 := Lib.hid (show w3.ownsRow _ _ _ _ _ _ by rw [hw3]; exact row_ext3 HO2.out (Wb.Ext.alloc (.refl _) _))
        (try rw [gxe])
        (try clear gxe hw3)
        refine hK.out _ _ hx3 (fun hHeld => ?_)
        clear hK K
        (try simp only [List.setIfInBounds_toArray, List.set_cons_zero, List.set_cons_succ])
        refine wpAnyH_ready (rs := [5]) (by kernel_rfl) (by simp) ?_
        refine AllReadyH.cons (o := _) rfl (fun K hK => ?_) ?_
        · obtain ⟨hi, hz0, hz1, hz2⟩ := HIN.out.choose_spec
          refine Wb.step_append_row (by rfl) _ _ _ (by rfl) w0.heap.size 58 _ acZ 4 48 Tryz.underlying51 hi hz0 hz1 hz2 (by rfl) (by decide) _ NN ([] ++ rowsOf acc al) (by rfl) HO3.out _ (by rfl) 1 [.int .i64 m.y, .int .i64 m.i, .int .i64 m.k, .slice ma m.hs.length mc] HL3.out (by intro u hu; simp at hu; rcases hu with rfl | rfl | rfl | rfl <;> rfl) (by unfold maxLen; omega) (by omega) (hx3).size ?_
          intro v4 w4 ho4 hg4 hat4
          have hx4 : Wb.Ext w0 w4 := Wb.Ext.grown hx3 hg4 (fun q hq => (HO3.out.lt q hq).1)
          have HAM := Lib.hid (show ActsM w4 v4 (al ++ [m]) by
            have e9 : rowsOf acc (al ++ [m]) = [] ++ rowsOf acc al ++ [.int .i64 m.y, .int .i64 m.i, .int .i64 m.k, .slice ma m.hs.length mc] := by simp [rowsOf, acc, HMV.out]
            refine ⟨row_tbl acc_len (by decide) (n := NN + 1) (by rw [e9]; exact ho4), fun x hx9 => ?_⟩
            rcases List.mem_append.1 hx9 with hx9 | hx9
            · exact (HA.out.each x hx9).ext hx4
            · obtain rfl : x = m := by simpa using hx9
              exact HM.out.ext hx4)
          clear hi hz0 hz1 hz2 ho4 hg4 hat4
          refine hK.out _ _ hx4 (fun hHeld => ?_)
          clear hK K
          (try simp only [Act.put, List.setIfInBounds_toArray, List.set_cons_zero, List.set_cons_succ])
          refine wpAnyH_ready (rs := [6]) (by kernel_rfl) (by simp) ?_
          refine AllReadyH.cons (o := _) rfl (fun K hK => ?_) ?_
          · go_simp
            go_at_call 18
            refine (great31_any _ (al ++ [m]) _ HAM.out HZ.out).mono ?_
            rintro e w5 ⟨g, rfl, hgs, hy5⟩
            have hx5 : Wb.Ext w0 w5 := (hx4).trans hy5
            refine hK.out _ _ hx5 (fun hHeld => ?_)
            clear hK K
            (try simp only [List.setIfInBounds_toArray, List.set_cons_zero, List.set_cons_succ])
            refine wpAnyH_done (by kernel_rfl) ?_ _
            exact ⟨g, _, _, _, _, _, _, rfl, hgs, hx5⟩
          exact AllReadyH.nil
        exact AllReadyH.nil
      exact AllReadyH.nil
    refine AllReadyH.cons (o := _) rfl (fun K hK => ?_) ?_
    · go_simp
      refine atK fun w2 hw2 => ?_
      have hx2 : Wb.Ext w0 w2 := by rw [hw2]; exact Wb.Ext.alloc hx1 _
      obtain ⟨gx, gxe⟩ : ∃ g, w1.heap.size = g := ⟨_, rfl⟩
      have gxh : gx < w2.heap.size := by rw [hw2, ← gxe]; simp
      have HL2 := Lib.hid (show Wb.SrcRow w2 4 (.slice (some ⟨gx, 0, none⟩) 1 1) 1 [.int .i64 m.y, .int .i64 m.i, .int .i64 m.k, .slice ma m.hs.length mc] by rw [hw2, ← gxe]; exact src_lit w1 _ rfl [.int .i64 m.y, .int .i64 m.i, .int .i64 m.k, .slice ma m.hs.length mc] _ _)
      have gxn : gx ≠ gr := by rw [← gxe]; omega
      replace grh : gr < w2.heap.size := Nat.lt_of_lt_of_le grh (by rw [hw2]; simp)
      have HO2 := Lib.hid (show w2.ownsRow _ _ _ _ _ _ by rw [hw2]; exact row_ext3 HO1.out (Wb.Ext.alloc (.refl _) _))
      (try rw [gxe])
      (try clear gxe hw2)
      refine hK.out _ _ hx2 (fun hHeld => ?_)
      clear hK K
      (try simp only [List.setIfInBounds_toArray, List.set_cons_zero, List.set_cons_succ])
      refine wpAnyH_ready (rs := [2]) (by kernel_rfl) (by simp) ?_
      refine AllReadyH.cons (o := _) rfl (fun K hK => ?_) ?_
      · obtain ⟨hi, hz0, hz1, hz2⟩ := HIN.out.choose_spec
        refine Wb.step_append_row (by rfl) _ _ _ (by rfl) w0.heap.size 58 _ acZ 4 48 Tryz.underlying51 hi hz0 hz1 hz2 (by rfl) (by decide) _ 0 [] (by rfl) HO2.out _ (by rfl) al.length (rowsOf acc al) (HSRC.out.ext hx2) HONE.out (by unfold maxLen; omega) (by omega) (hx2).size ?_
        intro v3 w3 ho3 hg3 hat3
        have hx3 : Wb.Ext w0 w3 := Wb.Ext.grown hx2 hg3 (fun q hq => (HO2.out.lt q hq).1)
        obtain ⟨NN, hNN⟩ : ∃ n, n = 0 + al.length := ⟨_, rfl⟩
        rw [← hNN] at ho3
        have hNb : NN ≤ al.length := by omega
        clear hNN
        obtain ⟨ra3, rc3, rfl⟩ := row_shape ho3
        have HO3 := Lib.hid ho3
        replace grh : gr < w3.heap.size := Nat.lt_of_lt_of_le grh hg3.size
        have HL3 := Lib.hid (src_grown HL2.out hg3 (fun a m9 c e => by cases e; intro hq; simp [Value.ownBlock] at hq; omega))
        replace gxh : gx < w3.heap.size := Nat.lt_of_lt_of_le gxh hg3.size
        clear hi hz0 hz1 hz2 ho3 hg3 hat3
        refine hK.out _ _ hx3 (fun hHeld => ?_)
        clear hK K
        (try simp only [Act.put, List.setIfInBounds_toArray, List.set_cons_zero, List.set_cons_succ])
        refine wpAnyH_ready (rs := [5]) (by kernel_rfl) (by simp) ?_
        refine AllReadyH.cons (o := _) rfl (fun K hK => ?_) ?_
        · obtain ⟨hi, hz0, hz1, hz2⟩ := HIN.out.choose_spec
          refine Wb.step_append_row (by rfl) _ _ _ (by rfl) w0.heap.size 58 _ acZ 4 48 Tryz.underlying51 hi hz0 hz1 hz2 (by rfl) (by decide) _ NN ([] ++ rowsOf acc al) (by rfl) HO3.out _ (by rfl) 1 [.int .i64 m.y, .int .i64 m.i, .int .i64 m.k, .slice ma m.hs.length mc] HL3.out (by intro u hu; simp at hu; rcases hu with rfl | rfl | rfl | rfl <;> rfl) (by unfold maxLen; omega) (by omega) (hx3).size ?_
          intro v4 w4 ho4 hg4 hat4
          have hx4 : Wb.Ext w0 w4 := Wb.Ext.grown hx3 hg4 (fun q hq => (HO3.out.lt q hq).1)
          have HAM := Lib.hid (show ActsM w4 v4 (al ++ [m]) by
            have e9 : rowsOf acc (al ++ [m]) = [] ++ rowsOf acc al ++ [.int .i64 m.y, .int .i64 m.i, .int .i64 m.k, .slice ma m.hs.length mc] := by simp [rowsOf, acc, HMV.out]
            refine ⟨row_tbl acc_len (by decide) (n := NN + 1) (by rw [e9]; exact ho4), fun x hx9 => ?_⟩
            rcases List.mem_append.1 hx9 with hx9 | hx9
            · exact (HA.out.each x hx9).ext hx4
            · obtain rfl : x = m := by simpa using hx9
              exact HM.out.ext hx4)
          clear hi hz0 hz1 hz2 ho4 hg4 hat4
          refine hK.out _ _ hx4 (fun hHeld => ?_)
          clear hK K
          (try simp only [Act.put, List.setIfInBounds_toArray, List.set_cons_zero, List.set_cons_succ])
          refine wpAnyH_ready (rs := [6]) (by kernel_rfl) (by simp) ?_
          refine AllReadyH.cons (o := _) rfl (fun K hK => ?_) ?_
          · go_simp
            go_at_call 18
            refine (great31_any _ (al ++ [m]) _ HAM.out HZ.out).mono ?_
            rintro e w5 ⟨g, rfl, hgs, hy5⟩
            have hx5 : Wb.Ext w0 w5 := (hx4).trans hy5
            refine hK.out _ _ hx5 (fun hHeld => ?_)
            clear hK K
            (try simp only [List.setIfInBounds_toArray, List.set_cons_zero, List.set_cons_succ])
            refine wpAnyH_done (by kernel_rfl) ?_ _
            exact ⟨g, _, _, _, _, _, _, rfl, hgs, hx5⟩
          exact AllReadyH.nil
        exact AllReadyH.nil
      exact AllReadyH.nil
    exact AllReadyH.nil
  refine AllReadyH.cons (o := _) rfl (fun K hK => ?_) ?_
  · go_simp
    refine atK fun w1 hw1 => ?_
    have hx1 : Wb.Ext w0 w1 := by rw [hw1]; exact Wb.Ext.alloc (Wb.Ext.drew (.refl w0)) _
    obtain ⟨gx, gxe⟩ : ∃ g, w0.heap.size = g := ⟨_, rfl⟩
    have gxh : gx < w1.heap.size := by rw [hw1, ← gxe]; simp
    have HL1 := Lib.hid (show Wb.SrcRow w1 4 (.slice (some ⟨gx, 0, none⟩) 1 1) 1 [.int .i64 m.y, .int .i64 m.i, .int .i64 m.k, .slice ma m.hs.length mc] by rw [hw1, ← gxe]; exact src_lit w0.drew _ rfl [.int .i64 m.y, .int .i64 m.i, .int .i64 m.k, .slice ma m.hs.length mc] _ _)
    (try rw [gxe])
    (try clear gxe hw1)
    refine hK.out _ _ hx1 (fun hHeld => ?_)
    clear hK K
    (try simp only [List.setIfInBounds_toArray, List.set_cons_zero, List.set_cons_succ])
    refine wpAnyH_ready (rs := [0]) (by kernel_rfl) (by simp) ?_
    refine AllReadyH.cons (o := _) rfl (fun K hK => ?_) ?_
    · go_simp
      refine atK fun w2 hw2 => ?_
      have hx2 : Wb.Ext w0 w2 := by rw [hw2]; exact Wb.Ext.alloc hx1 _
      obtain ⟨gr, gre⟩ : ∃ g, w1.heap.size = g := ⟨_, rfl⟩
      have grh : gr < w2.heap.size := by rw [hw2, ← gre]; simp
      have grl : w0.heap.size ≤ gr := by rw [← gre]; exact (hx1).size
      have HO2 := Lib.hid (show w2.ownsRow w0.heap.size 58 4 (.slice (some ⟨gr, 0, none⟩) 0 0) 0 [] by rw [hw2, ← gre]; exact own_empty (w := w1) (hx1).size)
      have gxn : gx ≠ gr := by rw [← gre]; omega
      replace gxh : gx < w2.heap.size := Nat.lt_of_lt_of_le gxh (by rw [hw2]; simp)
      have HL2 := Lib.hid (show Wb.SrcRow w2 4 (.slice (some ⟨gx, 0, none⟩) 1 1) 1 [.int .i64 m.y, .int .i64 m.i, .int .i64 m.k, .slice ma m.hs.length mc] by rw [hw2]; exact (HL1.out.ext (Wb.Ext.alloc (.refl _) _)))
      (try rw [gre])
      (try clear gre hw2)
      refine hK.out _ _ hx2 (fun hHeld => ?_)
      clear hK K
      (try simp only [List.setIfInBounds_toArray, List.set_cons_zero])
      refine wpAnyH_ready (rs := [2]) (by kernel_rfl) (by simp) ?_
      refine AllReadyH.cons (o := _) rfl (fun K hK => ?_) ?_
      · obtain ⟨hi, hz0, hz1, hz2⟩ := HIN.out.choose_spec
        refine Wb.step_append_row (by rfl) _ _ _ (by rfl) w0.heap.size 58 _ acZ 4 48 Tryz.underlying51 hi hz0 hz1 hz2 (by rfl) (by decide) _ 0 [] (by rfl) HO2.out _ (by rfl) al.length (rowsOf acc al) (HSRC.out.ext hx2) HONE.out (by unfold maxLen; omega) (by omega) (hx2).size ?_
        intro v3 w3 ho3 hg3 hat3
        have hx3 : Wb.Ext w0 w3 := Wb.Ext.grown hx2 hg3 (fun q hq => (HO2.out.lt q hq).1)
        obtain ⟨NN, hNN⟩ : ∃ n, n = 0 + al.length := ⟨_, rfl⟩
        rw [← hNN] at ho3
        have hNb : NN ≤ al.length := by omega
        clear hNN
        obtain ⟨ra3, rc3, rfl⟩ := row_shape ho3
        have HO3 := Lib.hid ho3
        replace grh : gr < w3.heap.size := Nat.lt_of_lt_of_le grh hg3.size
        have HL3 := Lib.hid (src_grown HL2.out hg3 (fun a m9 c e => by cases e; intro hq; simp [Value.ownBlock] at hq; omega))
        replace gxh : gx < w3.heap.size := Nat.lt_of_lt_of_le gxh hg3.size
        clear hi hz0 hz1 hz2 ho3 hg3 hat3
        refine hK.out _ _ hx3 (fun hHeld => ?_)
        clear hK K
        (try simp only [Act.put, List.setIfInBounds_toArray, List.set_cons_zero, List.set_cons_succ])
        refine wpAnyH_ready (rs := [5]) (by kernel_rfl) (by simp) ?_
        refine AllReadyH.cons (o := _) rfl (fun K hK => ?_) ?_
        · obtain ⟨hi, hz0, hz1, hz2⟩ := HIN.out.choose_spec
          refine Wb.step_append_row (by rfl) _ _ _ (by rfl) w0.heap.size 58 _ acZ 4 48 Tryz.underlying51 hi hz0 hz1 hz2 (by rfl) (by decide) _ NN ([] ++ rowsOf acc al) (by rfl) HO3.out _ (by rfl) 1 [.int .i64 m.y, .int .i64 m.i, .int .i64 m.k, .slice ma m.hs.length mc] HL3.out (by intro u hu; simp at hu; rcases hu with rfl | rfl | rfl | rfl <;> rfl) (by unfold maxLen; omega) (by omega) (hx3).size ?_
          intro v4 w4 ho4 hg4 hat4
          have hx4 : Wb.Ext w0 w4 := Wb.Ext.grown hx3 hg4 (fun q hq => (HO3.out.lt q hq).1)
          have HAM := Lib.hid (show ActsM w4 v4 (al ++ [m]) by
            have e9 : rowsOf acc (al ++ [m]) = [] ++ rowsOf acc al ++ [.int .i64 m.y, .int .i64 m.i, .int .i64 m.k, .slice ma m.hs.length mc] := by simp [rowsOf, acc, HMV.out]
            refine ⟨row_tbl acc_len (by decide) (n := NN + 1) (by rw [e9]; exact ho4), fun x hx9 => ?_⟩
            rcases List.mem_append.1 hx9 with hx9 | hx9
            · exact (HA.out.each x hx9).ext hx4
            · obtain rfl : x = m := by simpa using hx9
              exact HM.out.ext hx4)
          clear hi hz0 hz1 hz2 ho4 hg4 hat4
          refine hK.out _ _ hx4 (fun hHeld => ?_)
          clear hK K
          (try simp only [Act.put, List.setIfInBounds_toArray, List.set_cons_zero, List.set_cons_succ])
          refine wpAnyH_ready (rs := [6]) (by kernel_rfl) (by simp) ?_
          refine AllReadyH.cons (o := _) rfl (fun K hK => ?_) ?_
          · go_simp
            go_at_call 18
            refine (great31_any _ (al ++ [m]) _ HAM.out HZ.out).mono ?_
            rintro e w5 ⟨g, rfl, hgs, hy5⟩
            have hx5 : Wb.Ext w0 w5 := (hx4).trans hy5
            refine hK.out _ _ hx5 (fun hHeld => ?_)
            clear hK K
            (try simp only [List.setIfInBounds_toArray, List.set_cons_zero, List.set_cons_succ])
            refine wpAnyH_done (by kernel_rfl) ?_ _
            exact ⟨g, _, _, _, _, _, _, rfl, hgs, hx5⟩
          exact AllReadyH.nil
        exact AllReadyH.nil
      exact AllReadyH.nil
    exact AllReadyH.nil
  exact AllReadyH.nil
end Go.Proofs.YtnefdpnolojojaaGreat
/- RunStays: its runs' region. -/
namespace Go.Proofs.YtnefdpnolojojaaGreat
open Go.RowKit Go.Sort Go.Lib Go.Maps
set_option maxRecDepth 8000
attribute [local go_sem ↓] Go.wp_at_zero Go.wp_at_succ

def st7J (j : Nat) : Bool := j != 22 && j != 23 && j != 24 && j != 25 && j != 26 && j != 27
noncomputable def st7R : Code := ((Tryz.f10.body.bind (findReg 7)).getD .skip)
set_option maxHeartbeats 100000000 in
theorem st7 (x1 x2 x3 x4 x7 x8 x9 x10 x11 x12 x13 x14 x15 x16 x17 x18 x19 x20 x21 x22 x23 x24 x25 x26 x27 x28 x29 x30 x31 x59 x60 x61 x62 x63 x64 x65 x66 x67 x68 x69 x70 x71 x72 x73 x74 x75 x76 x77 x78 x79 x80 x81 x82 x83 x84 x85 x86 x87 x88 x89 x90 x91 x92 x93 x94 x95 x96 x97 x98 x99 x100 x101 x102 x103 x104 x105 x106 x107 x108 x109 x110 x111 x112 x113 x114 x115 x116 x117 x118 x119 x120 x121 x122 x123 x124 x125 x126 x127 x128 x129 x130 x131 x132 x133 x134 x135 x136 x137 x138 x139 x140 x141 x142 x143 x144 x145 x146 x147 x148 x149 x150 x151 x152 x153 x154 x155 x156 x157 x158 x159 x160 x161 x162 x163 x164 x165 x166 x167 x168 x169 x170 x171 x172 x173 x32 x33 x34 x35 x36 x37 x38 x39 x40 x41 x42 x43 x44 x45 x46 x47 x48 x49 x50 x51 x52 x53 x54 x55 x56 x57 x58 : Value) (ds) (w wO : World) (b off vc j na : Nat) (xa ra : Option Addr) (xc rl rc N : Nat) (mp mo : Option Nat) (B : Wb.Bk) (ks hs : List Int) (a : AcM) (A : Nat)
    (hji : (j : Int) < na) (hA : A < wO.heap.size) (hP : ∀ q, q = A → q < wO.heap.size)
    (l0 : ∀ w2, Wb.Ext wO w2 → w2.cell? ⟨b, off + j * 4, none⟩ = some (.int .i64 a.y)) (l1 : ∀ w2, Wb.Ext wO w2 → w2.cell? ⟨b, off + j * 4 + 1, none⟩ = some (.int .i64 a.i)) (l2 : ∀ w2, Wb.Ext wO w2 → w2.cell? ⟨b, off + j * 4 + 2, none⟩ = some (.int .i64 a.k)) (l3 : ∀ w2, Wb.Ext wO w2 → w2.cell? ⟨b, off + j * 4 + 3, none⟩ = some (.slice xa a.hs.length xc))
    (k0 : ∀ w2, Wb.Ext wO w2 → w2.cell? ⟨A, 0, none⟩ = some (.slice ra rl rc)) (k1 : ∀ w2, Wb.Ext wO w2 → w2.cell? ⟨A, 1, none⟩ = some (.map mp)) (k2 : ∀ w2, Wb.Ext wO w2 → w2.cell? ⟨A, 2, none⟩ = some (.map mo)) (kf : ∀ x, Wb.Ext wO x → ∀ j, x.frozen? ⟨A, j, none⟩ = false)
    (ht : ∀ W, Wb.Ext wO W → Calls Tryz.prog 20 #[.slice xa a.hs.length xc] W fun e w' => ∃ M lo, e = .returned (.map (some M)) ∧ lo = W.heap.size ∧ Hid (TabH w lo w' M a.hs) ∧ wO.heap.size ≤ lo ∧ lo ≤ M ∧ M < w'.heap.size ∧ Wb.Ext W w')
    (hdo : ∀ W' W lo M, Hid (TabH w lo W' M a.hs) → wO.heap.size ≤ lo → Wb.Ext wO W → Wb.Ext W' W → Calls Tryz.prog 12 #[.agg #[.slice ra rl rc, .map mp, .map mo], .int .i64 a.y, .int .i64 a.i, .int .i64 a.k, .map (some M)] W fun e w' => ∃ (ra' : Option Addr) (rl' rc' : Nat) (mp' mo' : Option Nat) (B' : Wb.Bk) (n1 y1 i1 k1 : Int) (qa : Option Addr) (qc : Nat) (rows : List RwM) (E : Int) (nW : Nat), e = .returned (.tuple #[.agg #[.slice ra' rl' rc', .map mp', .map mo'], .agg #[.int .i64 n1, .int .i64 y1, .int .i64 i1, .int .i64 k1, .slice qa rows.length qc], .int .i64 E]) ∧
    nW = W.heap.size ∧ wO.heap.size ≤ nW ∧ Hid (DidF (fun q => q < nW → Ok0 (fun q => q = A) wO.heap.size lo W'.heap.size q) w' (.slice ra' rl' rc') mp' mo' B B' a.y a.i a.k (SH a.hs) hs ks N ⟨n1, y1, i1, k1, .slice qa rows.length qc, rows⟩ E) ∧ Hid (BkI (j + 1) B' (ks ++ hs) (N + (ks).length + hs.length)) ∧ Wb.Ext W w') :
    Code.wp Tryz.prog st7R (OnEnd fun a' wx => ∃ (ra' : Option Addr) (rl' rc' : Nat) (mp' mo' : Option Nat) (B' : Wb.Bk) (n1 y1 i1 k1 : Int) (qa : Option Addr) (qc : Nat) (rows : List RwM) (E : Int) (u32 u33 u34 u35 u36 u37 u38 u39 u40 u41 u42 u43 u44 u45 u46 u47 u48 u49 u50 u51 u52 u53 u54 u55 u56 u57 u58 : Value), a' = ⟨#[.slice (some ⟨b, off, none⟩) na vc, x1, x2, x3, x4, .pointer (some ⟨A, 0, none⟩), .int .i64 j, x7, x8, x9, x10, x11, x12, x13, x14, x15, x16, x17, x18, x19, x20, x21, x22, x23, x24, x25, x26, x27, x28, x29, x30, x31, u32, u33, u34, u35, u36, u37, u38, u39, u40, u41, u42, u43, u44, u45, u46, u47, u48, u49, u50, u51, u52, u53, u54, u55, u56, u57, u58, x59, x60, x61, x62, x63, x64, x65, x66, x67, x68, x69, x70, x71, x72, x73, x74, x75, x76, x77, x78, x79, x80, x81, x82, x83, x84, x85, x86, x87, x88, x89, x90, x91, x92, x93, x94, x95, x96, x97, x98, x99, x100, x101, x102, x103, x104, x105, x106, x107, x108, x109, x110, x111, x112, x113, x114, x115, x116, x117, x118, x119, x120, x121, x122, x123, x124, x125, x126, x127, x128, x129, x130, x131, x132, x133, x134, x135, x136, x137, x138, x139, x140, x141, x142, x143, x144, x145, x146, x147, x148, x149, x150, x151, x152, x153, x154, x155, x156, x157, x158, x159, x160, x161, x162, x163, x164, x165, x166, x167, x168, x169, x170, x171, x172, x173], ds⟩ ∧ Hid (BkI (j + 1) B' (ks ++ hs) (N + (ks).length + hs.length)) ∧
      (DidF (fun q => ¬ (q = A)) wx (.slice ra' rl' rc') mp' mo' B B' a.y a.i a.k (SH a.hs) hs ks N ⟨n1, y1, i1, k1, .slice qa rows.length qc, rows⟩ E ∧ wx.cell? ⟨A, 0, none⟩ = some (.slice ra' rl' rc') ∧ wx.cell? ⟨A, 1, none⟩ = some (.map mp') ∧ wx.cell? ⟨A, 2, none⟩ = some (.map mo') ∧ (∀ j, wx.frozen? ⟨A, j, none⟩ = false) ∧ Kept (fun q => q ≠ A) wO wx)) ⟨#[.slice (some ⟨b, off, none⟩) na vc, x1, x2, x3, x4, .pointer (some ⟨A, 0, none⟩), .int .i64 j, x7, x8, x9, x10, x11, x12, x13, x14, x15, x16, x17, x18, x19, x20, x21, x22, x23, x24, x25, x26, x27, x28, x29, x30, x31, x32, x33, x34, x35, x36, x37, x38, x39, x40, x41, x42, x43, x44, x45, x46, x47, x48, x49, x50, x51, x52, x53, x54, x55, x56, x57, x58, x59, x60, x61, x62, x63, x64, x65, x66, x67, x68, x69, x70, x71, x72, x73, x74, x75, x76, x77, x78, x79, x80, x81, x82, x83, x84, x85, x86, x87, x88, x89, x90, x91, x92, x93, x94, x95, x96, x97, x98, x99, x100, x101, x102, x103, x104, x105, x106, x107, x108, x109, x110, x111, x112, x113, x114, x115, x116, x117, x118, x119, x120, x121, x122, x123, x124, x125, x126, x127, x128, x129, x130, x131, x132, x133, x134, x135, x136, x137, x138, x139, x140, x141, x142, x143, x144, x145, x146, x147, x148, x149, x150, x151, x152, x153, x154, x155, x156, x157, x158, x159, x160, x161, x162, x163, x164, x165, x166, x167, x168, x169, x170, x171, x172, x173], ds⟩ wO := by
  have HT := Lib.hid ht
  have HDO := Lib.hid hdo
  have HPP := Lib.hid hP
  clear ht hdo hP
  conv => arg 2; whnf
  refine startJ (S := Wb.Ext wO) (J := st7J) (n := 28) (l := #[false, false, false, false, false, false, false, false, false, false, false, false, false, false, false, false, false, false, false, false, false, false, false, false, false, false, false, false]) (by kernel_rfl) (by kernel_rfl) (by kernel_rfl) ?_
  have hHeld := Wb.Ext.drew (.refl wO)
  refine takeJ (inJ [22, 23, 24, 25, 26, 27]) (i := 0) (d := 33) (v := ?_) rfl rfl (by kernel_rfl) (by kernel_rfl) (by kernel_rfl) (by kernel_rfl) (by kernel_rfl) (inJ_lt (by kernel_rfl)) (by kernel_rfl) (fun _ _ _ h => h) (Or.inl ⟨by rfl, ?_⟩) hHeld ?_
  rotate_left
  · (intro w hSw; (try dsimp only at hSw); go_simp; (try with_reducible rfl))
  (try simp only [Act.put, sA, sB, sC])
  refine takeJ (inJ [3, 4, 5, 22, 23, 24, 25, 26, 27]) (i := 1) (d := 34) (v := ?_) rfl rfl (by kernel_rfl) (by kernel_rfl) (by kernel_rfl) (by kernel_rfl) (by kernel_rfl) (inJ_lt (by kernel_rfl)) (by kernel_rfl) (fun _ _ _ h => h) (Or.inl ⟨by rfl, ?_⟩) hHeld ?_
  rotate_left
  · (intro w hSw; (try dsimp only at hSw); go_simp; (try with_reducible rfl))
  (try simp only [Act.put, sA, sB, sC])
  refine takeJ (inJ [3, 4, 5, 22, 23, 24, 25, 26, 27]) (i := 2) (d := 35) (v := ?_) rfl rfl (by kernel_rfl) (by kernel_rfl) (by kernel_rfl) (by kernel_rfl) (by kernel_rfl) (inJ_lt (by kernel_rfl)) (by kernel_rfl) (fun _ _ _ h => h) (Or.inl ⟨by rfl, ?_⟩) hHeld ?_
  rotate_left
  · (intro w hSw; (try dsimp only at hSw); go_simp; (try with_reducible rfl))
  (try simp only [Act.put, sA, sB, sC])
  refine takeJ (inJ [4, 5, 22, 23, 24, 25, 26, 27]) (i := 3) (d := 36) (v := ?_) rfl rfl (by kernel_rfl) (by kernel_rfl) (by kernel_rfl) (by kernel_rfl) (by kernel_rfl) (inJ_lt (by kernel_rfl)) (by kernel_rfl) (fun _ _ _ h => h) (Or.inl ⟨by rfl, ?_⟩) hHeld ?_
  rotate_left
  · (intro w hSw; (try dsimp only at hSw); go_simp; (try with_reducible rfl))
  (try simp only [Act.put, sA, sB, sC])
  refine takeJ (inJ [5, 22, 23, 24, 25, 26, 27]) (i := 4) (d := 37) (v := ?_) rfl rfl (by kernel_rfl) (by kernel_rfl) (by kernel_rfl) (by kernel_rfl) (by kernel_rfl) (inJ_lt (by kernel_rfl)) (by kernel_rfl) (fun _ _ _ h => h) (Or.inl ⟨by rfl, ?_⟩) hHeld ?_
  rotate_left
  · (intro w hSw; (try dsimp only at hSw); go_simp; (try with_reducible rfl))
  (try simp only [Act.put, sA, sB, sC])
  refine takeJ (inJ [22, 23, 24, 25, 26, 27]) (i := 5) (d := 38) (v := ?_) rfl rfl (by kernel_rfl) (by kernel_rfl) (by kernel_rfl) (by kernel_rfl) (by kernel_rfl) (inJ_lt (by kernel_rfl)) (by kernel_rfl) (fun _ _ _ h => h) (Or.inl ⟨by rfl, ?_⟩) hHeld ?_
  rotate_left
  · (intro w hSw; (try dsimp only at hSw); go_simp; (try with_reducible rfl))
  (try simp only [Act.put, sA, sB, sC])
  refine takeJ (inJ [8, 9, 10, 22, 23, 24, 25, 26, 27]) (i := 6) (d := 39) (v := ?_) rfl rfl (by kernel_rfl) (by kernel_rfl) (by kernel_rfl) (by kernel_rfl) (by kernel_rfl) (inJ_lt (by kernel_rfl)) (by kernel_rfl) (fun _ _ _ h => h) (Or.inl ⟨by rfl, ?_⟩) hHeld ?_
  rotate_left
  · (intro w hSw; (try dsimp only at hSw); go_simp; (try with_reducible rfl))
  (try simp only [Act.put, sA, sB, sC])
  refine takeJ (inJ [8, 9, 10, 22, 23, 24, 25, 26, 27]) (i := 7) (d := 40) (v := ?_) rfl rfl (by kernel_rfl) (by kernel_rfl) (by kernel_rfl) (by kernel_rfl) (by kernel_rfl) (inJ_lt (by kernel_rfl)) (by kernel_rfl) (fun _ _ _ h => h) (Or.inl ⟨by rfl, ?_⟩) hHeld ?_
  rotate_left
  · (intro w hSw; (try dsimp only at hSw); go_simp; (try with_reducible rfl))
  (try simp only [Act.put, sA, sB, sC])
  refine takeJ (inJ [9, 10, 22, 23, 24, 25, 26, 27]) (i := 8) (d := 41) (v := ?_) rfl rfl (by kernel_rfl) (by kernel_rfl) (by kernel_rfl) (by kernel_rfl) (by kernel_rfl) (inJ_lt (by kernel_rfl)) (by kernel_rfl) (fun _ _ _ h => h) (Or.inl ⟨by rfl, ?_⟩) hHeld ?_
  rotate_left
  · (intro w hSw; (try dsimp only at hSw); go_simp; (try with_reducible rfl))
  (try simp only [Act.put, sA, sB, sC])
  refine takeJ (inJ [10, 22, 23, 24, 25, 26, 27]) (i := 9) (d := 42) (v := ?_) rfl rfl (by kernel_rfl) (by kernel_rfl) (by kernel_rfl) (by kernel_rfl) (by kernel_rfl) (inJ_lt (by kernel_rfl)) (by kernel_rfl) (fun _ _ _ h => h) (Or.inl ⟨by rfl, ?_⟩) hHeld ?_
  rotate_left
  · (intro w hSw; (try dsimp only at hSw); go_simp; (try with_reducible rfl))
  (try simp only [Act.put, sA, sB, sC])
  refine takeJ (inJ [22, 23, 24, 25, 26, 27]) (i := 10) (d := 43) (v := ?_) rfl rfl (by kernel_rfl) (by kernel_rfl) (by kernel_rfl) (by kernel_rfl) (by kernel_rfl) (inJ_lt (by kernel_rfl)) (by kernel_rfl) (fun _ _ _ h => h) (Or.inl ⟨by rfl, ?_⟩) hHeld ?_
  rotate_left
  · (intro w hSw; (try dsimp only at hSw); go_simp; (try with_reducible rfl))
  (try simp only [Act.put, sA, sB, sC])
  refine takeJ (inJ [13, 14, 15, 22, 23, 24, 25, 26, 27]) (i := 11) (d := 44) (v := ?_) rfl rfl (by kernel_rfl) (by kernel_rfl) (by kernel_rfl) (by kernel_rfl) (by kernel_rfl) (inJ_lt (by kernel_rfl)) (by kernel_rfl) (fun _ _ _ h => h) (Or.inl ⟨by rfl, ?_⟩) hHeld ?_
  rotate_left
  · (intro w hSw; (try dsimp only at hSw); go_simp; (try with_reducible rfl))
  (try simp only [Act.put, sA, sB, sC])
  refine takeJ (inJ [13, 14, 15, 22, 23, 24, 25, 26, 27]) (i := 12) (d := 45) (v := ?_) rfl rfl (by kernel_rfl) (by kernel_rfl) (by kernel_rfl) (by kernel_rfl) (by kernel_rfl) (inJ_lt (by kernel_rfl)) (by kernel_rfl) (fun _ _ _ h => h) (Or.inl ⟨by rfl, ?_⟩) hHeld ?_
  rotate_left
  · (intro w hSw; (try dsimp only at hSw); go_simp; (try with_reducible rfl))
  (try simp only [Act.put, sA, sB, sC])
  refine takeJ (inJ [14, 15, 22, 23, 24, 25, 26, 27]) (i := 13) (d := 46) (v := ?_) rfl rfl (by kernel_rfl) (by kernel_rfl) (by kernel_rfl) (by kernel_rfl) (by kernel_rfl) (inJ_lt (by kernel_rfl)) (by kernel_rfl) (fun _ _ _ h => h) (Or.inl ⟨by rfl, ?_⟩) hHeld ?_
  rotate_left
  · (intro w hSw; (try dsimp only at hSw); go_simp; (try with_reducible rfl))
  (try simp only [Act.put, sA, sB, sC])
  refine takeJ (inJ [15, 22, 23, 24, 25, 26, 27]) (i := 14) (d := 47) (v := ?_) rfl rfl (by kernel_rfl) (by kernel_rfl) (by kernel_rfl) (by kernel_rfl) (by kernel_rfl) (inJ_lt (by kernel_rfl)) (by kernel_rfl) (fun _ _ _ h => h) (Or.inl ⟨by rfl, ?_⟩) hHeld ?_
  rotate_left
  · (intro w hSw; (try dsimp only at hSw); go_simp; (try with_reducible rfl))
  (try simp only [Act.put, sA, sB, sC])
  refine takeJ (inJ [22, 23, 24, 25, 26, 27]) (i := 15) (d := 48) (v := ?_) rfl rfl (by kernel_rfl) (by kernel_rfl) (by kernel_rfl) (by kernel_rfl) (by kernel_rfl) (inJ_lt (by kernel_rfl)) (by kernel_rfl) (fun _ _ _ h => h) (Or.inl ⟨by rfl, ?_⟩) hHeld ?_
  rotate_left
  · (intro w hSw; (try dsimp only at hSw); go_simp; (try with_reducible rfl))
  (try simp only [Act.put, sA, sB, sC])
  refine takeJ (inJ [18, 19, 20, 21, 22, 23, 24, 25, 26, 27]) (i := 16) (d := 49) (v := ?_) rfl rfl (by kernel_rfl) (by kernel_rfl) (by kernel_rfl) (by kernel_rfl) (by kernel_rfl) (inJ_lt (by kernel_rfl)) (by kernel_rfl) (fun _ _ _ h => h) (Or.inl ⟨by rfl, ?_⟩) hHeld ?_
  rotate_left
  · (intro w hSw; (try dsimp only at hSw); go_simp; (try with_reducible rfl))
  (try simp only [Act.put, sA, sB, sC])
  refine takeJ (inJ [18, 19, 20, 21, 22, 23, 24, 25, 26, 27]) (i := 17) (d := 50) (v := ?_) rfl rfl (by kernel_rfl) (by kernel_rfl) (by kernel_rfl) (by kernel_rfl) (by kernel_rfl) (inJ_lt (by kernel_rfl)) (by kernel_rfl) (fun _ _ _ h => h) (Or.inl ⟨by rfl, ?_⟩) hHeld ?_
  rotate_left
  · (intro w hSw; (try dsimp only at hSw); go_simp; (try with_reducible rfl))
  (try simp only [Act.put, sA, sB, sC])
  refine takeJ (inJ [19, 20, 21, 22, 23, 24, 25, 26, 27]) (i := 18) (d := 51) (v := ?_) rfl rfl (by kernel_rfl) (by kernel_rfl) (by kernel_rfl) (by kernel_rfl) (by kernel_rfl) (inJ_lt (by kernel_rfl)) (by kernel_rfl) (fun _ _ _ h => h) (Or.inl ⟨by rfl, ?_⟩) hHeld ?_
  rotate_left
  · (intro w hSw; (try dsimp only at hSw); go_simp; (try with_reducible rfl))
  (try simp only [Act.put, sA, sB, sC])
  refine takeJ (inJ [20, 21, 22, 23, 24, 25, 26, 27]) (i := 19) (d := 52) (v := ?_) rfl rfl (by kernel_rfl) (by kernel_rfl) (by kernel_rfl) (by kernel_rfl) (by kernel_rfl) (inJ_lt (by kernel_rfl)) (by kernel_rfl) (fun _ _ _ h => h) (Or.inl ⟨by rfl, ?_⟩) hHeld ?_
  rotate_left
  · (intro w hSw; (try dsimp only at hSw); go_simp; (try with_reducible rfl))
  (try simp only [Act.put, sA, sB, sC])
  refine takeJ (inJ [21, 22, 23, 24, 25, 26, 27]) (i := 20) (d := 53) (v := ?_) rfl rfl (by kernel_rfl) (by kernel_rfl) (by kernel_rfl) (by kernel_rfl) (by kernel_rfl) (inJ_lt (by kernel_rfl)) (by kernel_rfl) (fun _ _ _ h => h) (Or.inl ⟨by rfl, ?_⟩) hHeld ?_
  rotate_left
  · (intro w hSw; (try dsimp only at hSw); go_simp; (try with_reducible rfl))
  (try simp only [Act.put, sA, sB, sC])
  refine wpAnyJ_all (rs := [21]) (by kernel_rfl) (by simp) (oneJ ?_)
  show wpOp _ _ _ _ _ _ _
  refine opJ (o := _) rfl (fun K hK => ?_)
  go_simp
  go_at_call 20
  refine (HT.out _ hHeld).mono ?_
  rintro e w' ⟨M, lo, rfl, hlw, hT, hlo, hM1, hM2, hx⟩
  have hE1 := hHeld.trans hx
  (try simp at hlw)
  (try go_simp)
  refine passJ hK hE1 (fun hHeld => ?_)
  clear hK K
  (try simp only [sA, sB, sC])
  refine wpAnyJ_all (rs := [22]) (by kernel_rfl) (by simp) (oneJ ?_)
  show wpOp _ _ _ _ _ _ _
  refine opJ (o := _) rfl (fun K hK => ?_)
  go_simp
  go_at_call 12
  refine (HDO.out _ _ _ _ hT hlo hHeld (.refl _)).mono ?_
  rintro e w9 ⟨ra', rl', rc', mp', mo', B', n1, y1, i1, k1, qa, qc, rows, E, nW, rfl, hnW, hnO, hD9, hI9, hx9⟩
  have hE9 : Wb.Ext wO w9 := hHeld.trans hx9
  have hs9 := hE9.size
  have hs1 := hHeld.size
  (try simp at hnW)
  (try go_simp)
  refine hK.out _ _ (fun h => absurd h (by decide)) ?_
  clear hK K
  (try simp only [sA, sB, sC])
  refine pureJ (i := 23) (d := 32) (v := ?_) rfl rfl (by kernel_rfl) (by kernel_rfl) (by kernel_rfl) (by kernel_rfl) (fun _ _ _ h => h) (Or.inl ⟨by rfl, ?_⟩) ?_
  rotate_left
  · (intro w hSw; go_simp; (try with_reducible rfl))
  (try simp only [Act.put, sA, sB, sC])
  refine pureJ (i := 24) (d := 56) (v := ?_) rfl rfl (by kernel_rfl) (by kernel_rfl) (by kernel_rfl) (by kernel_rfl) (fun _ _ _ h => h) (Or.inl ⟨by rfl, ?_⟩) ?_
  rotate_left
  · (intro w hSw; go_simp; (try with_reducible rfl))
  (try simp only [Act.put, sA, sB, sC])
  refine pureJ (i := 25) (d := 57) (v := ?_) rfl rfl (by kernel_rfl) (by kernel_rfl) (by kernel_rfl) (by kernel_rfl) (fun _ _ _ h => h) (Or.inl ⟨by rfl, ?_⟩) ?_
  rotate_left
  · (intro w hSw; go_simp; (try with_reducible rfl))
  (try simp only [Act.put, sA, sB, sC])
  refine pureJ (i := 26) (d := 58) (v := ?_) rfl rfl (by kernel_rfl) (by kernel_rfl) (by kernel_rfl) (by kernel_rfl) (fun _ _ _ h => h) (Or.inl ⟨by rfl, ?_⟩) ?_
  rotate_left
  · (intro w hSw; go_simp; (try with_reducible rfl))
  (try simp only [Act.put, sA, sB, sC])
  refine wpAnyJ_all (rs := [27]) (by kernel_rfl) (by simp) (oneJ ?_)
  show wpOp _ _ _ _ _ _ _
  refine opJ (o := _) rfl (fun K hK => ?_)
  go_simp
  refine hK.out _ _ (fun h => absurd h (by decide)) ?_
  clear hK K
  (try simp only [sA, sB, sC])
  refine doneJ (by kernel_rfl) ?_ _
  exact ⟨ra', rl', rc', mp', mo', B', n1, y1, i1, k1, qa, qc, rows, E, _, _, _, _, _, _, _, _, _, _, _, _, _, _, _, _, _, _, _, _, _, _, _, _, _, _, _, rfl, hI9, did_at hD9.out (by (repeat' (first | (with_reducible exact Kept.refl) | (with_reducible refine Kept.alloc' ?_ _) | (with_reducible refine Kept.setj ?_ ?_) | (dsimp only [Ok0]; omega) | (exact fun h => h.2 rfl)))) (fun q hq => HPP.out q hq) hlo hnO, by go_simp, by go_simp, by go_simp, by intro j; go_simp, Kept.mono (F := fun q => q < wO.heap.size ∧ q ≠ A) (Kept.trans (.ext hE9) (by (repeat' (first | (with_reducible exact Kept.refl) | (with_reducible refine Kept.alloc' ?_ _) | (with_reducible refine Kept.setj ?_ ?_) | (dsimp only [Ok0]; omega) | (exact fun h => h.2 rfl))))) (fun i h1 h2 => ⟨h1, h2⟩)⟩
end Go.Proofs.YtnefdpnolojojaaGreat
/- RunStays: what each person is paid for, one behind the other. -/
namespace Go.Proofs.YtnefdpnolojojaaGreat
open Go.RowKit Go.Sort Go.Lib Go.Maps
set_option maxRecDepth 8000
attribute [local go_sem ↓] Go.wp_at_zero Go.wp_at_succ

/-- a list of slips, in memory -/
structure SsM where
  v : Value
  L : List Wb.Sl
def ssv (x : SsM) : List Value := [x.v]
theorem ssv_len (x : SsM) : (ssv x).length = 1 := rfl
theorem infoSs : (Tryz.prog.info? 39).map (fun i => (i.zero, i.size, i.bytes)) = some (some (.slice none 0 0), 1, 24) := by kernel_rfl
/-- what is paid for, person by person, in a row of the law's own -/
structure StP (n0 : Nat) (wr : World) (pv : Value) (B : Wb.Bk) (l : List Int) (PL : List SsM) : Prop where
  row : wr.ownsRow n0 39 1 pv PL.length (rowsOf ssv PL)
  each : ∀ x ∈ PL, ∀ w2, Kept (fun q => n0 ≤ q ∧ pv.ownBlock ≠ some q) wr w2 → Sls w2 x.v x.L
  paid : PL.map (fun x => x.L.map Wb.ct) = l.map B.paid
theorem StP.nil {n0 : Nat} {wr : World} {B : Wb.Bk} : StP n0 wr (.slice none 0 0) B [] [] := ⟨own_none, (fun x hx => by cases hx), rfl⟩
theorem StP.ext {n0 : Nat} {wr w2 : World} {pv : Value} {B : Wb.Bk} {l : List Int} {PL : List SsM} (h : StP n0 wr pv B l PL) (k : Wb.Ext wr w2) : StP n0 w2 pv B l PL :=
  ⟨row_ext3 h.row k, fun x hx w3 h3 => h.each x hx w3 ((Kept.ext k).trans h3), h.paid⟩
theorem StP.step {n0 : Nat} {wr W W' wa w6 : World} {pv v' u : Value} {B : Wb.Bk} {l : List Int} {p : Int} {PL : List SsM} {D : List Wb.Sl} (h : StP n0 wr pv B l PL) (h0 : n0 ≤ wr.heap.size) (hx : Wb.Ext wr W) (hu : SlR W.heap.size W' u D) (hn : ∀ s ∈ D, ∀ q, s.v.ownBlock = some q → W.heap.size ≤ q) (hD : D.map Wb.ct = B.paid p) (hx2 : Wb.Ext W W') (hxa : Wb.Ext W' wa)
    (hown : w6.ownsRow n0 39 1 v' (PL.length + 1) (rowsOf ssv PL ++ [u])) (hg : wa.grownBy w6 pv.ownBlock) (hblk : v'.ownBlock = pv.ownBlock ∨ v'.ownBlock = some wa.heap.size) : StP n0 w6 v' B (l ++ [p]) (PL ++ [⟨u, D⟩]) := by
  have s1 := hx.size
  have s2 := hx2.size
  have s3 := hxa.size
  have hlo := h.row.lt
  have hk6 : Kept (fun q => pv.ownBlock ≠ some q) wa w6 := .grown hg (fun q e _ hne => hne e)
  have hb2 : ∀ w2, Kept (fun q => n0 ≤ q ∧ v'.ownBlock ≠ some q) w6 w2 → Kept (fun q => n0 ≤ q ∧ pv.ownBlock ≠ some q) wa w2 := fun w2 h2 =>
    ⟨h2.os.trans hk6.os, h2.tape.trans hk6.tape, h2.output.trans hk6.output, Nat.le_trans hk6.size h2.size, fun q hq hf => by
      refine (h2.block q (Nat.lt_of_lt_of_le hq hk6.size) ⟨hf.1, fun e => ?_⟩).trans (hk6.block q hq hf.2)
      rcases hblk with e2 | e2
      · exact hf.2 (e2 ▸ e)
      · rw [e2] at e; injection e with e; omega⟩
  refine ⟨?_, fun x hm w2 h2 => ?_, ?_⟩
  · rw [List.length_append, rowsOf_app, show rowsOf ssv [(⟨u, D⟩ : SsM)] = [u] from rfl]
    exact hown
  · rcases List.mem_append.1 hm with hm | hm
    · exact h.each x hm w2 ((Kept.ext (hx.trans (hx2.trans hxa))).trans (hb2 w2 h2))
    · obtain rfl : x = ⟨u, D⟩ := by simpa using hm
      have hk : Kept (fun q => W.heap.size ≤ q ∧ q < W'.heap.size) W' w2 := ((Kept.ext hxa).trans (hb2 w2 h2)).mono fun q hq hf => ⟨by omega, fun e => by have := (hlo q e).2; omega⟩
      have hlu := hu.1.lt
      refine ((hk.mono (G := fun q => W.heap.size ≤ q) fun q hq hf => ⟨hf, hq⟩).sls hu.sls (fun q hq => (hlu q hq).1) fun s hs _ q hq => hn s hs q hq)
  · rw [List.map_append, List.map_append, h.paid]
    simp [hD]
def st15J (j : Nat) : Bool := j != 8 && j != 9
noncomputable def st15R : Code := ((Tryz.f10.body.bind (findReg 15)).getD .skip)
set_option maxHeartbeats 100000000 in
theorem st15 (x0 x1 x2 x3 x4 x6 x7 x8 x12 x13 x14 x15 x16 x17 x18 x19 x20 x21 x22 x23 x24 x25 x26 x27 x28 x29 x30 x31 x32 x33 x34 x35 x36 x37 x38 x39 x40 x41 x42 x43 x44 x45 x46 x47 x48 x49 x50 x51 x52 x53 x54 x55 x56 x57 x58 x59 x60 x61 x62 x63 x64 x65 x66 x67 x68 x69 x70 x71 x72 x73 x74 x75 x76 x77 x78 x79 x80 x81 x82 x83 x84 x85 x86 x87 x88 x89 x90 x91 x92 x93 x94 x95 x96 x97 x98 x99 x100 x101 x102 x103 x104 x105 x106 x107 x108 x109 x110 x111 x112 x113 x114 x115 x116 x117 x118 x119 x120 x121 x122 x123 x124 x125 x126 x127 x128 x129 x130 x131 x132 x133 x134 x135 x136 x137 x138 x139 x140 x141 x142 x143 x144 x145 x146 x147 x148 x149 x150 x151 x152 x153 x154 x155 x156 x157 x158 x159 x160 x161 x162 x163 x164 x165 x166 x167 x168 x169 x170 x171 x172 x173 : Value) (ds) (wB wO : World) (A n0 k : Nat) (ra sa pa : Option Addr) (rl rc sc pc : Nat) (mp mo : Option Nat) (B : Wb.Bk) (ss : List Int) (PL : List SsM) (p : Int) (hp : ss[k]? = some p) (hsl : ss.length ≤ 1000) (hpl : PL.length = k)
    (hwB : wB.heap.size = n0) (hx0 : Wb.Ext wB wO) (hn0 : n0 ≤ wO.heap.size) (k0 : ∀ x, Wb.Ext wO x → x.cell? ⟨A, 0, none⟩ = some (.slice ra rl rc)) (k1 : ∀ x, Wb.Ext wO x → x.cell? ⟨A, 1, none⟩ = some (.map mp)) (k2 : ∀ x, Wb.Ext wO x → x.cell? ⟨A, 2, none⟩ = some (.map mo))
    (hs : Tbl 1 u32c wO (.slice sa ss.length sc) ss) (hst : StP n0 wO (.slice pa PL.length pc) B (ss.take k) PL)
    (hpd : ∀ W, Wb.Ext wO W → Calls Tryz.prog 15 #[.agg #[.slice ra rl rc, .map mp, .map mo], .int .u32 p] W fun e w' => ∃ (ua : Option Addr) (uc : Nat) (D : List Wb.Sl), e = .returned (.slice ua D.length uc) ∧ Hid (SlR W.heap.size w' (.slice ua D.length uc) D ∧ (∀ s ∈ D, ∀ q, s.v.ownBlock = some q → W.heap.size ≤ q) ∧ D.map Wb.ct = B.paid p) ∧ Wb.Ext W w') :
    Code.wp Tryz.prog st15R (OnEnd fun a' wx => ∃ (qa : Option Addr) (qc : Nat) (ua : Option Addr) (uc : Nat) (D : List Wb.Sl) (u72 u73 u74 u75 u76 u77 u78 u79 u80 : Value), a' = ⟨#[x0, x1, x2, x3, x4, .pointer (some ⟨A, 0, none⟩), x6, x7, x8, .slice qa (PL.length + 1) qc, .slice sa ss.length sc, .int .i64 k, x12, x13, x14, x15, x16, x17, x18, x19, x20, x21, x22, x23, x24, x25, x26, x27, x28, x29, x30, x31, x32, x33, x34, x35, x36, x37, x38, x39, x40, x41, x42, x43, x44, x45, x46, x47, x48, x49, x50, x51, x52, x53, x54, x55, x56, x57, x58, x59, x60, x61, x62, x63, x64, x65, x66, x67, x68, x69, x70, x71, u72, u73, u74, u75, u76, u77, u78, u79, u80, x81, x82, x83, x84, x85, x86, x87, x88, x89, x90, x91, x92, x93, x94, x95, x96, x97, x98, x99, x100, x101, x102, x103, x104, x105, x106, x107, x108, x109, x110, x111, x112, x113, x114, x115, x116, x117, x118, x119, x120, x121, x122, x123, x124, x125, x126, x127, x128, x129, x130, x131, x132, x133, x134, x135, x136, x137, x138, x139, x140, x141, x142, x143, x144, x145, x146, x147, x148, x149, x150, x151, x152, x153, x154, x155, x156, x157, x158, x159, x160, x161, x162, x163, x164, x165, x166, x167, x168, x169, x170, x171, x172, x173], ds⟩ ∧ Hid (StP n0 wx (.slice qa (PL.length + 1) qc) B (ss.take k ++ [p]) (PL ++ [⟨.slice ua D.length uc, D⟩])) ∧ Wb.Ext wB wx) ⟨#[x0, x1, x2, x3, x4, .pointer (some ⟨A, 0, none⟩), x6, x7, x8, .slice pa PL.length pc, .slice sa ss.length sc, .int .i64 k, x12, x13, x14, x15, x16, x17, x18, x19, x20, x21, x22, x23, x24, x25, x26, x27, x28, x29, x30, x31, x32, x33, x34, x35, x36, x37, x38, x39, x40, x41, x42, x43, x44, x45, x46, x47, x48, x49, x50, x51, x52, x53, x54, x55, x56, x57, x58, x59, x60, x61, x62, x63, x64, x65, x66, x67, x68, x69, x70, x71, x72, x73, x74, x75, x76, x77, x78, x79, x80, x81, x82, x83, x84, x85, x86, x87, x88, x89, x90, x91, x92, x93, x94, x95, x96, x97, x98, x99, x100, x101, x102, x103, x104, x105, x106, x107, x108, x109, x110, x111, x112, x113, x114, x115, x116, x117, x118, x119, x120, x121, x122, x123, x124, x125, x126, x127, x128, x129, x130, x131, x132, x133, x134, x135, x136, x137, x138, x139, x140, x141, x142, x143, x144, x145, x146, x147, x148, x149, x150, x151, x152, x153, x154, x155, x156, x157, x158, x159, x160, x161, x162, x163, x164, x165, x166, x167, x168, x169, x170, x171, x172, x173], ds⟩ wO := by
  have HIN := Lib.hid (info_parts infoSs)
  have HPD := Lib.hid hpd
  have HP := Lib.hid hst
  obtain ⟨b, off, cap, hvv, hc⟩ := look_tbl hs hp
  cases hvv
  have hki : (k : Int) < ss.length := by have := (List.getElem?_eq_some_iff.1 hp).1; omega
  have l0 : ∀ x, Wb.Ext wO x → x.cell? ⟨b, off + k, none⟩ = some (.int .u32 p) := fun x h => h.keep hc
  have hplb : PL.length ≤ 1000 := by omega
  clear hpd hst hs hp hc hpl
  conv => arg 2; whnf
  refine startJ (S := Wb.Ext wO) (J := st15J) (n := 10) (l := #[false, false, false, false, false, false, false, false, false, false]) (by kernel_rfl) (by kernel_rfl) (by kernel_rfl) ?_
  have hHeld := Wb.Ext.drew (.refl wO)
  refine takeJ (inJ [8, 9]) (i := 0) (d := 72) (v := ?_) rfl rfl (by kernel_rfl) (by kernel_rfl) (by kernel_rfl) (by kernel_rfl) (by kernel_rfl) (inJ_lt (by kernel_rfl)) (by kernel_rfl) (fun _ _ _ h => h) (Or.inl ⟨by rfl, ?_⟩) hHeld ?_
  rotate_left
  · (intro w hSw; (try dsimp only at hSw); go_simp; (try with_reducible rfl))
  (try simp only [Act.put, sA, sB, sC])
  refine takeJ (inJ [6, 7, 8, 9]) (i := 1) (d := 73) (v := ?_) rfl rfl (by kernel_rfl) (by kernel_rfl) (by kernel_rfl) (by kernel_rfl) (by kernel_rfl) (inJ_lt (by kernel_rfl)) (by kernel_rfl) (fun _ _ _ h => h) (Or.inl ⟨by rfl, ?_⟩) hHeld ?_
  rotate_left
  · (intro w hSw; (try dsimp only at hSw); go_simp; (try with_reducible rfl))
  (try simp only [Act.put, sA, sB, sC])
  refine takeJ (inJ [4, 5, 6, 7, 8, 9]) (i := 2) (d := 74) (v := ?_) rfl rfl (by kernel_rfl) (by kernel_rfl) (by kernel_rfl) (by kernel_rfl) (by kernel_rfl) (inJ_lt (by kernel_rfl)) (by kernel_rfl) (fun _ _ _ h => h) (Or.inl ⟨by rfl, ?_⟩) hHeld ?_
  rotate_left
  · (intro w hSw; (try dsimp only at hSw); go_simp; (try with_reducible rfl))
  (try simp only [Act.put, sA, sB, sC])
  refine takeJ (inJ [4, 5, 6, 7, 8, 9]) (i := 3) (d := 75) (v := ?_) rfl rfl (by kernel_rfl) (by kernel_rfl) (by kernel_rfl) (by kernel_rfl) (by kernel_rfl) (inJ_lt (by kernel_rfl)) (by kernel_rfl) (fun _ _ _ h => h) (Or.inl ⟨by rfl, ?_⟩) hHeld ?_
  rotate_left
  · (intro w hSw; (try dsimp only at hSw); go_simp; (try with_reducible rfl))
  (try simp only [Act.put, sA, sB, sC])
  refine takeJ (inJ [5, 6, 7, 8, 9]) (i := 4) (d := 76) (v := ?_) rfl rfl (by kernel_rfl) (by kernel_rfl) (by kernel_rfl) (by kernel_rfl) (by kernel_rfl) (inJ_lt (by kernel_rfl)) (by kernel_rfl) (fun _ _ _ h => h) (Or.inl ⟨by rfl, ?_⟩) hHeld ?_
  rotate_left
  · (intro w hSw; (try dsimp only at hSw); go_simp; (try with_reducible rfl))
  (try simp only [Act.put, sA, sB, sC])
  refine takeJ (inJ [6, 7, 8, 9]) (i := 5) (d := 77) (v := ?_) rfl rfl (by kernel_rfl) (by kernel_rfl) (by kernel_rfl) (by kernel_rfl) (by kernel_rfl) (inJ_lt (by kernel_rfl)) (by kernel_rfl) (fun _ _ _ h => h) (Or.inl ⟨by rfl, ?_⟩) hHeld ?_
  rotate_left
  · (intro w hSw; (try dsimp only at hSw); go_simp; (try with_reducible rfl))
  (try simp only [Act.put, sA, sB, sC])
  refine wpAnyJ_all (rs := [6]) (by kernel_rfl) (by simp) (oneJ ?_)
  show wpOp _ _ _ _ _ _ _
  refine opJ (o := _) rfl (fun K hK => ?_)
  go_simp
  go_at_call 15
  refine (HPD.out _ hHeld).mono ?_
  rintro e w1 ⟨ua, uc, Dl, rfl, hD1, hx1⟩
  have hE1 : Wb.Ext wO w1 := hHeld.trans hx1
  have hs0 := hHeld.size
  have hE0 := hHeld
  (try go_simp)
  refine passJ hK hE1 (fun hHeld => ?_)
  clear hK K
  (try simp only [sA, sB, sC])
  refine wpAnyJ_all (rs := [7]) (by kernel_rfl) (by simp) (oneJ ?_)
  show wpOp _ _ _ _ _ _ _
  refine opJ (o := _) rfl (fun K hK => ?_)
  go_simp
  refine atK fun w2 hw2 => ?_
  have hxa : Wb.Ext w1 w2 := by rw [hw2]; exact Wb.Ext.alloc (.refl _) _
  obtain ⟨gx, gxe⟩ : ∃ g, w1.heap.size = g := ⟨_, rfl⟩
  have HL := Lib.hid (show Wb.SrcRow w2 1 (.slice (some ⟨gx, 0, none⟩) 1 1) 1 [.slice ua Dl.length uc] by rw [hw2, ← gxe]; exact src_lit w1 _ rfl [.slice ua Dl.length uc] _ _)
  (try rw [gxe])
  clear hw2 gxe
  refine passJ hK (hE1.trans hxa) (fun hHeld => ?_)
  clear hK K
  (try simp only [sA, sB, sC])
  refine wpAnyJ_all (rs := [8]) (by kernel_rfl) (by simp) (oneJ ?_)
  show wpOp _ _ _ _ _ _ _
  refine opJ (o := _) rfl (fun K hK => ?_)
  obtain ⟨hi, hz0, hz1, hz2⟩ := HIN.out.choose_spec
  refine Wb.step_append_row (by rfl) _ _ _ (by rfl) n0 39 _ (.slice none 0 0) 1 24 Tryz.underlying77 hi hz0 hz1 hz2 (by rfl) (by decide) _ PL.length (rowsOf ssv PL) (by rfl) (row_ext3 HP.out.row (hE1.trans hxa)) _ (by rfl) 1 [.slice ua Dl.length uc] HL.out (by intro u hu; simp at hu; subst hu; rfl) (by unfold maxLen; omega) (by omega) (Nat.le_trans hn0 (hE1.trans hxa).size) ?_
  intro v6 w6 ho6 hg6 hat6
  obtain ⟨qa, qc, rfl⟩ := row_shape ho6
  have hbs := HP.out.row.lt
  have HS6 := Lib.hid (StP.step HP.out hn0 hE0 hD1.out.1 hD1.out.2.1 hD1.out.2.2 hx1 hxa ho6 hg6 hat6)
  have hx6 : Wb.Ext wB w6 := Wb.Ext.grown (hx0.trans (hE1.trans hxa)) hg6 (fun q hq => by rw [hwB]; exact (hbs q hq).1)
  clear hi hz0 hz1 hz2 ho6 hg6 hat6
  refine hK.out _ _ (fun h => absurd h (by decide)) ?_
  clear hK K
  (try simp only [Act.put, sA, sB, sC])
  refine pureJ (i := 9) (d := 9) (v := ?_) rfl rfl (by kernel_rfl) (by kernel_rfl) (by kernel_rfl) (by kernel_rfl) (fun _ _ _ h => h) (Or.inl ⟨by rfl, ?_⟩) ?_
  rotate_left
  · (intro w hSw; go_simp; (try with_reducible rfl))
  (try simp only [Act.put, sA, sB, sC])
  refine doneJ (by kernel_rfl) ?_ _
  exact ⟨qa, qc, ua, uc, Dl, _, _, _, _, _, _, _, _, _, rfl, HS6, hx6⟩
end Go.Proofs.YtnefdpnolojojaaGreat
/- RunStays: its conditions. -/
namespace Go.Proofs.YtnefdpnolojojaaGreat
open Go.RowKit Go.Sort Go.Lib Go.Maps
set_option maxRecDepth 8000
attribute [local go_sem ↓] Go.wp_at_zero Go.wp_at_succ

noncomputable def st23R : Code := ((Tryz.f10.body.bind (findReg 23)).getD .skip)
set_option maxHeartbeats 100000000 in
theorem st23 (x0 x1 x2 x3 x4 x5 x6 x8 x9 x10 x11 x13 x14 x17 x18 x19 x20 x21 x22 x23 x24 x25 x26 x27 x28 x29 x30 x31 x32 x33 x34 x35 x36 x37 x38 x39 x40 x41 x42 x43 x44 x45 x46 x47 x48 x49 x50 x51 x52 x53 x54 x55 x56 x57 x58 x59 x60 x61 x62 x63 x64 x65 x66 x67 x68 x69 x70 x71 x72 x73 x74 x75 x76 x77 x78 x79 x80 x81 x82 x83 x84 x85 x86 x87 x88 x89 x90 x91 x92 x93 x94 x95 x96 x97 x98 x99 x100 x101 x102 x103 x104 x105 x106 x107 x108 x109 x110 x111 x112 x113 x114 x115 x116 x117 x118 x119 x120 x121 x122 x123 x124 x125 x126 x127 x128 x129 x130 x131 x132 x133 x134 x135 x136 x137 x138 x139 x140 x141 x142 x143 x144 x145 x146 x147 x148 x149 x150 x151 x152 x153 x154 x155 x156 x157 x158 x159 x160 x161 x162 x163 x164 x165 x166 x167 x168 x169 x170 x171 x172 x173 : Value) (ds) (wO : World) (b off wc d eo nc nl k C xl xc yl yc cl cc : Nat) (xa ya ca : Option Addr) (mp mo : Option Nat) (n y i kn : Int)
    (hk : (k : Int) < nl) (l0 : ∀ w2, Wb.Ext wO w2 → w2.cell? ⟨b, off + k * 5, none⟩ = some (.int .i64 n)) (l1 : ∀ w2, Wb.Ext wO w2 → w2.cell? ⟨b, off + k * 5 + 1, none⟩ = some (.int .i64 y)) (l2 : ∀ w2, Wb.Ext wO w2 → w2.cell? ⟨b, off + k * 5 + 2, none⟩ = some (.int .i64 i)) (l3 : ∀ w2, Wb.Ext wO w2 → w2.cell? ⟨b, off + k * 5 + 3, none⟩ = some (.int .i64 kn)) (l4 : ∀ w2, Wb.Ext wO w2 → w2.cell? ⟨b, off + k * 5 + 4, none⟩ = some (.slice xa xl xc))
    (m0 : ∀ w2, Wb.Ext wO w2 → w2.cell? ⟨d, eo + k * 5, none⟩ = some (.int .i64 n)) (m1 : ∀ w2, Wb.Ext wO w2 → w2.cell? ⟨d, eo + k * 5 + 1, none⟩ = some (.int .i64 y)) (m2 : ∀ w2, Wb.Ext wO w2 → w2.cell? ⟨d, eo + k * 5 + 2, none⟩ = some (.int .i64 i)) (m3 : ∀ w2, Wb.Ext wO w2 → w2.cell? ⟨d, eo + k * 5 + 3, none⟩ = some (.int .i64 kn)) (m4 : ∀ w2, Wb.Ext wO w2 → w2.cell? ⟨d, eo + k * 5 + 4, none⟩ = some (.slice ya yl yc))
    (c0 : ∀ w2, Wb.Ext wO w2 → w2.cell? ⟨C, 0, none⟩ = some (.slice ca cl cc)) (c1 : ∀ w2, Wb.Ext wO w2 → w2.cell? ⟨C, 1, none⟩ = some (.map mp)) (c2 : ∀ w2, Wb.Ext wO w2 → w2.cell? ⟨C, 2, none⟩ = some (.map mo))
    (hs1 : ∀ W, Wb.Ext wO W → Calls Tryz.prog 22 #[.agg #[.int .i64 n, .int .i64 y, .int .i64 i, .int .i64 kn, .slice xa xl xc], .agg #[.int .i64 n, .int .i64 y, .int .i64 i, .int .i64 kn, .slice ya yl yc]] W fun e w' => e = .returned (.bool true) ∧ Wb.Ext W w')
    (hr : ∀ W, Wb.Ext wO W → Calls Tryz.prog 28 #[.agg #[.slice ca cl cc, .map mp, .map mo]] W fun e w' => ∃ (g go gl gc : Nat) (za : Option Addr) (zl zc : Nat), e = .returned (.slice (some ⟨g, go, none⟩) gl gc) ∧ (k : Int) < gl ∧ w'.cell? ⟨g, go + k * 5, none⟩ = some (.int .i64 n) ∧ w'.cell? ⟨g, go + k * 5 + 1, none⟩ = some (.int .i64 y) ∧ w'.cell? ⟨g, go + k * 5 + 2, none⟩ = some (.int .i64 i) ∧ w'.cell? ⟨g, go + k * 5 + 3, none⟩ = some (.int .i64 kn) ∧ w'.cell? ⟨g, go + k * 5 + 4, none⟩ = some (.slice za zl zc) ∧ Hid (∀ W2, Wb.Ext w' W2 → Calls Tryz.prog 22 #[.agg #[.int .i64 n, .int .i64 y, .int .i64 i, .int .i64 kn, .slice za zl zc], .agg #[.int .i64 n, .int .i64 y, .int .i64 i, .int .i64 kn, .slice xa xl xc]] W2 fun e w' => e = .returned (.bool true) ∧ Wb.Ext W2 w') ∧ Wb.Ext W w') :
    Code.wp Tryz.prog st23R (OnEnd fun a' wx => ∃ (u132 u133 u134 u135 u136 u137 u138 u139 u140 u141 u142 u143 u144 u145 u146 u147 u148 u149 u150 u151 u152 u153 : Value), a' = ⟨#[x0, x1, x2, x3, x4, x5, x6, .slice (some ⟨b, off, none⟩) nl wc, x8, x9, x10, x11, .pointer (some ⟨C, 0, none⟩), x13, x14, .slice (some ⟨d, eo, none⟩) nl nc, .int .i64 k, x17, x18, x19, x20, x21, x22, x23, x24, x25, x26, x27, x28, x29, x30, x31, x32, x33, x34, x35, x36, x37, x38, x39, x40, x41, x42, x43, x44, x45, x46, x47, x48, x49, x50, x51, x52, x53, x54, x55, x56, x57, x58, x59, x60, x61, x62, x63, x64, x65, x66, x67, x68, x69, x70, x71, x72, x73, x74, x75, x76, x77, x78, x79, x80, x81, x82, x83, x84, x85, x86, x87, x88, x89, x90, x91, x92, x93, x94, x95, x96, x97, x98, x99, x100, x101, x102, x103, x104, x105, x106, x107, x108, x109, x110, x111, x112, x113, x114, x115, x116, x117, x118, x119, x120, x121, x122, x123, x124, x125, x126, x127, x128, x129, x130, x131, u132, u133, u134, u135, u136, u137, u138, u139, u140, u141, u142, u143, u144, u145, u146, u147, u148, u149, u150, u151, u152, u153, .bool false, x155, x156, x157, x158, x159, x160, x161, x162, x163, x164, x165, x166, x167, x168, x169, x170, x171, x172, x173], ds⟩ ∧ Wb.Ext wO wx) ⟨#[x0, x1, x2, x3, x4, x5, x6, .slice (some ⟨b, off, none⟩) nl wc, x8, x9, x10, x11, .pointer (some ⟨C, 0, none⟩), x13, x14, .slice (some ⟨d, eo, none⟩) nl nc, .int .i64 k, x17, x18, x19, x20, x21, x22, x23, x24, x25, x26, x27, x28, x29, x30, x31, x32, x33, x34, x35, x36, x37, x38, x39, x40, x41, x42, x43, x44, x45, x46, x47, x48, x49, x50, x51, x52, x53, x54, x55, x56, x57, x58, x59, x60, x61, x62, x63, x64, x65, x66, x67, x68, x69, x70, x71, x72, x73, x74, x75, x76, x77, x78, x79, x80, x81, x82, x83, x84, x85, x86, x87, x88, x89, x90, x91, x92, x93, x94, x95, x96, x97, x98, x99, x100, x101, x102, x103, x104, x105, x106, x107, x108, x109, x110, x111, x112, x113, x114, x115, x116, x117, x118, x119, x120, x121, x122, x123, x124, x125, x126, x127, x128, x129, x130, x131, x132, x133, x134, x135, x136, x137, x138, x139, x140, x141, x142, x143, x144, x145, x146, x147, x148, x149, x150, x151, x152, x153, x154, x155, x156, x157, x158, x159, x160, x161, x162, x163, x164, x165, x166, x167, x168, x169, x170, x171, x172, x173], ds⟩ wO := by
  have HS1 := Lib.hid hs1
  have HR := Lib.hid hr
  clear hs1 hr
  conv => arg 2; whnf
  refine region_start (S := Wb.Ext wO) (n := 23) (l := #[false, false, false, false, false, false, false, false, false, false, false, false, false, false, false, false, false, false, false, false, false, false, false]) (by kernel_rfl) (.drew (.refl wO)) (by kernel_rfl) (by kernel_rfl) (fun hHeld => ?_)
  refine take_d (i := 0) (d := 132) (v := ?_) rfl rfl (by kernel_rfl) (by kernel_rfl) (by kernel_rfl) (fun _ _ _ h => h) (Or.inl ⟨by rfl, ?_⟩) (by assumption) ?_
  rotate_left
  · (intro w hSw; (try dsimp only at hSw); go_simp; (try with_reducible rfl))
  (try simp only [Act.put, List.setIfInBounds_toArray, List.set_cons_zero, List.set_cons_succ])
  refine take_d (i := 1) (d := 133) (v := ?_) rfl rfl (by kernel_rfl) (by kernel_rfl) (by kernel_rfl) (fun _ _ _ h => h) (Or.inl ⟨by rfl, ?_⟩) (by assumption) ?_
  rotate_left
  · (intro w hSw; (try dsimp only at hSw); go_simp; (try with_reducible rfl))
  (try simp only [Act.put, List.setIfInBounds_toArray, List.set_cons_zero, List.set_cons_succ])
  refine take_d (i := 2) (d := 134) (v := ?_) rfl rfl (by kernel_rfl) (by kernel_rfl) (by kernel_rfl) (fun _ _ _ h => h) (Or.inl ⟨by rfl, ?_⟩) (by assumption) ?_
  rotate_left
  · (intro w hSw; (try dsimp only at hSw); go_simp; (try with_reducible rfl))
  (try simp only [Act.put, List.setIfInBounds_toArray, List.set_cons_zero, List.set_cons_succ])
  refine take_d (i := 3) (d := 135) (v := ?_) rfl rfl (by kernel_rfl) (by kernel_rfl) (by kernel_rfl) (fun _ _ _ h => h) (Or.inl ⟨by rfl, ?_⟩) (by assumption) ?_
  rotate_left
  · (intro w hSw; (try dsimp only at hSw); go_simp; (try with_reducible rfl))
  (try simp only [Act.put, List.setIfInBounds_toArray, List.set_cons_zero, List.set_cons_succ])
  refine take_d (i := 4) (d := 136) (v := ?_) rfl rfl (by kernel_rfl) (by kernel_rfl) (by kernel_rfl) (fun _ _ _ h => h) (Or.inl ⟨by rfl, ?_⟩) (by assumption) ?_
  rotate_left
  · (intro w hSw; (try dsimp only at hSw); go_simp; (try with_reducible rfl))
  (try simp only [Act.put, List.setIfInBounds_toArray, List.set_cons_zero, List.set_cons_succ])
  refine take_d (i := 5) (d := 137) (v := ?_) rfl rfl (by kernel_rfl) (by kernel_rfl) (by kernel_rfl) (fun _ _ _ h => h) (Or.inl ⟨by rfl, ?_⟩) (by assumption) ?_
  rotate_left
  · (intro w hSw; (try dsimp only at hSw); go_simp; (try with_reducible rfl))
  (try simp only [Act.put, List.setIfInBounds_toArray, List.set_cons_zero, List.set_cons_succ])
  refine take_d (i := 6) (d := 138) (v := ?_) rfl rfl (by kernel_rfl) (by kernel_rfl) (by kernel_rfl) (fun _ _ _ h => h) (Or.inl ⟨by rfl, ?_⟩) (by assumption) ?_
  rotate_left
  · (intro w hSw; (try dsimp only at hSw); go_simp; (try with_reducible rfl))
  (try simp only [Act.put, List.setIfInBounds_toArray, List.set_cons_zero, List.set_cons_succ])
  refine take_d (i := 7) (d := 139) (v := ?_) rfl rfl (by kernel_rfl) (by kernel_rfl) (by kernel_rfl) (fun _ _ _ h => h) (Or.inl ⟨by rfl, ?_⟩) (by assumption) ?_
  rotate_left
  · (intro w hSw; (try dsimp only at hSw); go_simp; (try with_reducible rfl))
  (try simp only [Act.put, List.setIfInBounds_toArray, List.set_cons_zero, List.set_cons_succ])
  refine wpAnyH_ready (rs := [8]) (by kernel_rfl) (by simp) ?_
  refine AllReadyH.cons (o := _) rfl (fun K hK => ?_) AllReadyH.nil
  go_simp
  go_at_call 22
  refine (HS1.out _ hHeld).mono ?_
  rintro e w1 ⟨rfl, hx1⟩
  have hE1 : Wb.Ext wO w1 := hHeld.trans hx1
  (try go_simp)
  refine hK.out _ _ hE1 (fun hHeld => ?_)
  clear hK K
  (try simp only [List.setIfInBounds_toArray, List.set_cons_zero, List.set_cons_succ])
  refine take_d (i := 9) (d := 141) (v := ?_) rfl rfl (by kernel_rfl) (by kernel_rfl) (by kernel_rfl) (fun _ _ _ h => h) (Or.inl ⟨by rfl, ?_⟩) (by assumption) ?_
  rotate_left
  · (intro w hSw; (try dsimp only at hSw); go_simp; (try with_reducible rfl))
  (try simp only [Act.put, List.setIfInBounds_toArray, List.set_cons_zero, List.set_cons_succ])
  refine take_d (i := 10) (d := 142) (v := ?_) rfl rfl (by kernel_rfl) (by kernel_rfl) (by kernel_rfl) (fun _ _ _ h => h) (Or.inl ⟨by rfl, ?_⟩) (by assumption) ?_
  rotate_left
  · (intro w hSw; (try dsimp only at hSw); go_simp; (try with_reducible rfl))
  (try simp only [Act.put, List.setIfInBounds_toArray, List.set_cons_zero, List.set_cons_succ])
  refine take_d (i := 11) (d := 143) (v := ?_) rfl rfl (by kernel_rfl) (by kernel_rfl) (by kernel_rfl) (fun _ _ _ h => h) (Or.inl ⟨by rfl, ?_⟩) (by assumption) ?_
  rotate_left
  · (intro w hSw; (try dsimp only at hSw); go_simp; (try with_reducible rfl))
  (try simp only [Act.put, List.setIfInBounds_toArray, List.set_cons_zero, List.set_cons_succ])
  refine take_d (i := 13) (d := 145) (v := ?_) rfl rfl (by kernel_rfl) (by kernel_rfl) (by kernel_rfl) (fun _ _ _ h => h) (Or.inl ⟨by rfl, ?_⟩) (by assumption) ?_
  rotate_left
  · (intro w hSw; (try dsimp only at hSw); go_simp; (try with_reducible rfl))
  (try simp only [Act.put, List.setIfInBounds_toArray, List.set_cons_zero, List.set_cons_succ])
  refine take_d (i := 16) (d := 148) (v := ?_) rfl rfl (by kernel_rfl) (by kernel_rfl) (by kernel_rfl) (fun _ _ _ h => h) (Or.inl ⟨by rfl, ?_⟩) (by assumption) ?_
  rotate_left
  · (intro w hSw; (try dsimp only at hSw); go_simp; (try with_reducible rfl))
  (try simp only [Act.put, List.setIfInBounds_toArray, List.set_cons_zero, List.set_cons_succ])
  refine take_d (i := 17) (d := 149) (v := ?_) rfl rfl (by kernel_rfl) (by kernel_rfl) (by kernel_rfl) (fun _ _ _ h => h) (Or.inl ⟨by rfl, ?_⟩) (by assumption) ?_
  rotate_left
  · (intro w hSw; (try dsimp only at hSw); go_simp; (try with_reducible rfl))
  (try simp only [Act.put, List.setIfInBounds_toArray, List.set_cons_zero, List.set_cons_succ])
  refine take_d (i := 18) (d := 150) (v := ?_) rfl rfl (by kernel_rfl) (by kernel_rfl) (by kernel_rfl) (fun _ _ _ h => h) (Or.inl ⟨by rfl, ?_⟩) (by assumption) ?_
  rotate_left
  · (intro w hSw; (try dsimp only at hSw); go_simp; (try with_reducible rfl))
  (try simp only [Act.put, List.setIfInBounds_toArray, List.set_cons_zero, List.set_cons_succ])
  refine take_d (i := 19) (d := 151) (v := ?_) rfl rfl (by kernel_rfl) (by kernel_rfl) (by kernel_rfl) (fun _ _ _ h => h) (Or.inl ⟨by rfl, ?_⟩) (by assumption) ?_
  rotate_left
  · (intro w hSw; (try dsimp only at hSw); go_simp; (try with_reducible rfl))
  (try simp only [Act.put, List.setIfInBounds_toArray, List.set_cons_zero, List.set_cons_succ])
  refine wpAnyH_ready (rs := [12]) (by kernel_rfl) (by simp) ?_
  refine AllReadyH.cons (o := _) rfl (fun K hK => ?_) AllReadyH.nil
  go_simp
  go_at_call 28
  refine (HR.out _ hHeld).mono ?_
  rintro e w2 ⟨g, go, gl, gc, za, zl, zc, rfl, hgl, f0, f1, f2, f3, f4, HS2, hx2⟩
  have hE2 : Wb.Ext wO w2 := hHeld.trans hx2
  (try go_simp)
  refine hK.out _ _ hE2 (fun hHeld => ?_)
  clear hK K
  (try simp only [List.setIfInBounds_toArray, List.set_cons_zero, List.set_cons_succ])
  refine take_d (i := 14) (d := 146) (v := ?_) rfl rfl (by kernel_rfl) (by kernel_rfl) (by kernel_rfl) (fun _ _ _ h => h) (Or.inl ⟨by rfl, ?_⟩) (by assumption) ?_
  rotate_left
  · (intro w hSw; (try dsimp only at hSw); go_simp; (try with_reducible rfl))
  (try simp only [Act.put, List.setIfInBounds_toArray, List.set_cons_zero, List.set_cons_succ])
  refine wpAnyH_ready (rs := [15]) (by kernel_rfl) (by simp) ?_
  refine AllReadyH.cons (o := _) rfl (fun K hK => ?_) AllReadyH.nil
  go_simp
  refine hK.out _ _ hHeld (fun hHeld => ?_)
  clear hK K
  (try simp only [List.setIfInBounds_toArray, List.set_cons_zero, List.set_cons_succ])
  refine wpAnyH_ready (rs := [20]) (by kernel_rfl) (by simp) ?_
  refine AllReadyH.cons (o := _) rfl (fun K hK => ?_) AllReadyH.nil
  go_simp
  go_at_call 22
  refine (HS2.out _ (.refl _)).mono ?_
  rintro e w3 ⟨rfl, hx3⟩
  have hE3 : Wb.Ext wO w3 := hHeld.trans hx3
  (try go_simp)
  refine hK.out _ _ hE3 (fun hHeld => ?_)
  clear hK K
  (try simp only [List.setIfInBounds_toArray, List.set_cons_zero, List.set_cons_succ])
  refine take_d (i := 21) (d := 153) (v := ?_) rfl rfl (by kernel_rfl) (by kernel_rfl) (by kernel_rfl) (fun _ _ _ h => h) (Or.inl ⟨by rfl, ?_⟩) (by assumption) ?_
  rotate_left
  · (intro w hSw; (try dsimp only at hSw); go_simp; (try with_reducible rfl))
  (try simp only [Act.put, List.setIfInBounds_toArray, List.set_cons_zero, List.set_cons_succ])
  refine take_d (i := 22) (d := 154) (v := ?_) rfl rfl (by kernel_rfl) (by kernel_rfl) (by kernel_rfl) (fun _ _ _ h => h) (Or.inl ⟨by rfl, ?_⟩) (by assumption) ?_
  rotate_left
  · (intro w hSw; (try dsimp only at hSw); go_simp; (try with_reducible rfl))
  (try simp only [Act.put, List.setIfInBounds_toArray, List.set_cons_zero, List.set_cons_succ])
  refine wpAnyH_done (by kernel_rfl) ?_ _
  exact ⟨_, _, _, _, _, _, _, _, _, _, _, _, _, _, _, _, _, _, _, _, _, _, rfl, hHeld⟩
end Go.Proofs.YtnefdpnolojojaaGreat
