/- Chapter 1: the law of two lists, one behind the other. -/
import Derived.Test.YthjfnljjiglnbaaCents4
import Derived.Test.YthjfnljjiglnbaaRows0
namespace Go.Proofs.Ythjfnljjiglnbaa
open Go.RowKit
set_option maxRecDepth 4000

theorem infoCents : (Try.prog.info? 22).map (fun i => (i.zero, i.size, i.bytes)) = some (some (.int .i64 0), 1, 8) := by kernel_rfl

def lints (l : List Int) : List Value := l.map (Value.int .i64)
theorem lints_one (l : List Int) : ∀ u ∈ lints l, u.oneCell' = true := by
  intro u hu; obtain ⟨x, _, rfl⟩ := List.mem_map.1 hu; rfl
theorem lints_get {l : List Int} {j : Nat} (h : j < l.length) : (lints l)[j]? = some (.int .i64 (l.getD j 0)) := by
  simp [lints, List.getD, h]

/-- a list that came in -/
def IntsIn (w : World) (v : Value) (l : List Int) : Prop := Wb.SrcRow w 1 v l.length (lints l)
theorem IntsIn.ext {w w' : World} {v : Value} {l : List Int} (h : IntsIn w v l) (k : Wb.Ext w w') : IntsIn w' v l := Wb.SrcRow.ext h k
theorem IntsIn.ints {w : World} {v : Value} {l : List Int} (h : IntsIn w v l) : Ints w v l := by
  obtain ⟨_, ⟨rfl, h⟩ | ⟨ad, c, rfl, hc⟩⟩ := h
  · exact .inl ⟨List.eq_nil_of_length_eq_zero h, _, _, rfl⟩
  · by_cases h0 : l = []
    · subst h0; exact .inl ⟨rfl, _, _, rfl⟩
    · obtain ⟨b, off, rfl, hc'⟩ := ints_at (w := w) (a := ad) (k := .i64) (zs := l) (fun i hi => hc i _ (lints_get hi)) (List.length_pos_iff.2 h0)
      exact .inr ⟨b, off, c, rfl, hc'⟩

set_option maxHeartbeats 800000 in
theorem chains_walk (va vb : Value) (a b : List Int) (w : World) (ha : IntsIn w va a) (hb : IntsIn w vb b) (hla : a.length ≤ 9223372036854775807) (hlb : b.length ≤ 9223372036854775807) :
    Calls Try.prog 8 #[va, vb] w fun e w' => e = .returned (.bool true) ∧ Wb.Ext w w' := by
  obtain ⟨i0, hi, hz0, hz1, hz2⟩ := info_parts infoCents
  have HA := Lib.hid ha
  have HB := Lib.hid hb
  obtain ⟨xa, ca, rfl⟩ : ∃ x c, va = .slice x a.length c := by
    obtain ⟨_, ⟨rfl, h⟩ | ⟨ad, c, rfl, _⟩⟩ := ha
    · exact ⟨_, _, by rw [h]⟩
    · exact ⟨_, _, rfl⟩
  obtain ⟨xb, cb, rfl⟩ : ∃ x c, vb = .slice x b.length c := by
    obtain ⟨_, ⟨rfl, h⟩ | ⟨ad, c, rfl, _⟩⟩ := hb
    · exact ⟨_, _, by rw [h]⟩
    · exact ⟨_, _, rfl⟩
  clear ha hb
  by_cases h1 : 100 < a.length
  · go_enter Try.func8, Try.ntmps8
    go_wp2_with (go_at_call 12; refine (awake_any _).mono ?_; rintro e w' ⟨rfl, rfl⟩)
    go_ret
    exact ⟨rfl, Wb.Ext.refl _⟩
  · have d1 : decide (100 < (a.length : Int)) = false := by simp; omega
    by_cases h2 : 100 < b.length
    · go_enter Try.func8, Try.ntmps8
      go_wp2_with (go_at_call 12; refine (awake_any _).mono ?_; rintro e w' ⟨rfl, rfl⟩)
      go_ret
      exact ⟨rfl, Wb.Ext.refl _⟩
    · have d2 : decide (100 < (b.length : Int)) = false := by simp; omega
      have hown0 : (w.alloc (.cells #[] 22)).ownsRow w.heap.size 22 1 (.slice (some ⟨w.heap.size, 0, none⟩) 0 0) 0 [] :=
        ⟨rfl, .inr ⟨w.heap.size, 0, #[], rfl, Nat.le_refl _, by show (w.heap.push _)[w.heap.size]? = _; simp, by simp, by simp, by simp, by simp⟩⟩
      go_enter Try.func8, Try.ntmps8
      go_wp2_with (first | (at_builtin; refine Wb.wpList_append_row rfl (.tmp 24) (.tmp 25) 39 rfl w.heap.size 22 i0 (.int .i64 0) 1 8 Try.underlying39 hi hz0 hz1 hz2 rfl (by decide) _ _ _ rfl hown0 _ rfl a.length (lints a) ?c1 (lints_one a) ?c2 ?c3 ?c4 ?_))
      case c1 => exact HA.out.ext ((Wb.Ext.refl _).alloc _)
      case c2 => unfold maxLen; omega
      case c3 => omega
      case c4 => simp
      intro v1 w1 hown1 hg1 hnil1
      try simp only [Nat.zero_add, List.nil_append] at hown1
      have hext1 : Wb.Ext w w1 := ((Wb.Ext.refl w).alloc _).grown hg1 (by intro k hk; cases hk; exact Nat.le_refl _)
      have hn1 : v1 ≠ .slice none 0 0 := hnil1
      clear hnil1 hown0
      go_wp2_with (at_builtin; refine Wb.wpList_append_row rfl (.tmp 26) (.tmp 27) 39 rfl w.heap.size 22 i0 (.int .i64 0) 1 8 Try.underlying39 hi hz0 hz1 hz2 rfl (by decide) _ _ _ rfl hown1 _ rfl b.length (lints b) ?d1 (lints_one b) ?d2 ?d3 ?d4 ?_)
      case d1 => exact HB.out.ext hext1
      case d2 => unfold maxLen; omega
      case d3 => omega
      case d4 => exact hext1.size
      intro v2 w2 hown2 hg2 hnil2
      have hext2 : Wb.Ext w w2 := hext1.grown hg2 (by intro k hk; obtain ⟨g, c, hv, hb, _⟩ := Wb.ownsRow_at hown1 hn1; rw [hv] at hk; cases hk; exact hb)
      have hn2 : v2 ≠ .slice none 0 0 := hnil2
      obtain ⟨g, cap, rfl, hgb, hgl, hgm, hcells⟩ := Wb.ownsRow_at hown2 hn2
      have HC : Hid (∀ j, j < (a ++ b).length → w2.cell? ⟨g, j, none⟩ = some (.int .i64 ((a ++ b).getD j 0))) := fun j hj => hcells j _ (by
        have := lints_get (l := a ++ b) hj; simpa [lints] using this)
      have HX := Lib.hid hext2
      clear hcells hnil2 hown2 hg2 hext2 hown1 hg1 hext1 hn1 hn2
      have hll : (a ++ b).length = a.length + b.length := List.length_append
      have HL := Lib.hid hll
      rw [← hll]
      clear hll
      have hle : (a ++ b).length ≤ 200 := by rw [HL.out]; omega
      generalize hall : a ++ b = all at HC HL hle
      have HALL := Lib.hid hall; clear hall
      go_wp2
      go_loop [6] (fun i => ∃ k : Nat, k ≤ all.length ∧ i = .int .i64 k ∧ ∀ j, j < k → -1099511627776 ≤ all.getD j 0 ∧ all.getD j 0 ≤ 1099511627776) (fun i => all.length - (intOf i).toNat)
      case atStart => exact ⟨0, by omega, rfl, by intro j h; omega⟩
      case round =>
        obtain ⟨k, hk, rfl, hsm⟩ := hrel
        have HS := Lib.hid hsm; clear hsm
        by_cases hlt : k < all.length
        · have hcell := HC.out k hlt
          have HY := Lib.hid (rfl : all.getD k 0 = all.getD k 0)
          obtain ⟨y, hy⟩ : ∃ y, all.getD k 0 = y := ⟨_, rfl⟩
          have HY := Lib.hid hy
          rw [hy] at hcell
          clear hy
          by_cases h3 : 1099511627776 < y
          · go_wp2_with (go_at_call 12; refine (awake_any _).mono ?_; rintro e w' ⟨rfl, rfl⟩)
            go_ret
            exact ⟨rfl, HX.out⟩
          · have d3 : decide (1099511627776 < y) = false := by simpa using h3
            by_cases h4 : y < -1099511627776
            · go_wp2_with (go_at_call 12; refine (awake_any _).mono ?_; rintro e w' ⟨rfl, rfl⟩)
              go_ret
              exact ⟨rfl, HX.out⟩
            · have d4 : decide (y < -1099511627776) = false := by simpa using h4
              go_wp2
              go_round
              case rel =>
                refine ⟨k + 1, by omega, by go_num, fun j hj => ?_⟩
                by_cases hjk : j = k
                · subst hjk; rw [HY.out]; omega
                · exact HS.out j (by omega)
              case measure => simp [intOf]; omega
        · obtain rfl : k = all.length := by omega
          have HM : Hid (∀ x ∈ a ++ b, -1099511627776 ≤ x ∧ x ≤ 1099511627776) := by
            intro x hx
            rw [HALL.out] at hx
            obtain ⟨j, hj, rfl⟩ := List.getElem_of_mem hx
            have := HS.out j hj
            simpa [List.getD, hj] using this
          have H := Lib.hid (Wb.chains (by omega) (by omega) HM.out)
          have hia := Lib.hid ((IntsIn.ext HA.out HX.out).ints)
          have hib := Lib.hid ((IntsIn.ext HB.out HX.out).ints)
          have hic : Hid (Ints w2 (.slice (some ⟨g, 0, none⟩) all.length cap) all) := .inr ⟨g, 0, cap, rfl, fun j hj => by rw [Nat.zero_add]; exact HC.out j hj⟩
          go_wp2_with fail
          refine (sum_any _ a _ hia.out hla).mono ?_; rintro e w' ⟨rfl, rfl⟩
          rw [H.out.1]
          go_wp2_with fail
          refine (sum_any _ b _ hib.out hlb).mono ?_; rintro e w' ⟨rfl, rfl⟩
          rw [H.out.2.1]
          go_wp2_with fail
          refine (sum_any _ all _ hic.out (by omega)).mono ?_; rintro e w' ⟨rfl, rfl⟩
          rw [← HALL.out, H.out.2.2.1]
          go_wp2_with fail
          refine (add_any _ _ _).mono ?_; rintro e w' ⟨rfl, rfl⟩
          rw [H.out.2.2.2]
          go_wp2_with (go_at_call 12; refine (awake_any _).mono ?_; rintro e w' ⟨rfl, rfl⟩)
          go_ret
          exact ⟨rfl, HX.out⟩

theorem intsIn_of {w : World} {x : Addr} {len cap : Nat} {zs : List Int} (hl : len ≤ cap) (hm : cap ≤ maxLen) (hz : zs.length = cap)
    (hcell : ∀ i, i < zs.length → w.cell? (x.add i) = some (.int .i64 (zs.getD i 0))) :
    ∃ zs, IntsIn w (.slice (some x) len cap) zs ∧ zs.length ≤ 9223372036854775807 := by
  unfold maxLen at hm
  have hlen : (zs.take len).length = len := by simp; omega
  refine ⟨zs.take len, ⟨by simp [lints], .inr ⟨x, cap, by rw [hlen], fun j u hj => ?_⟩⟩, by omega⟩
  simp only [lints, List.getElem?_map, List.getElem?_take, Option.map_eq_some_iff] at hj
  obtain ⟨y, hy, rfl⟩ := hj
  split at hy
  · rw [hcell j (by omega)]; simp [List.getD, hy]
  · cases hy
end Go.Proofs.Ythjfnljjiglnbaa
