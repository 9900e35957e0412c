/- The walks of slices.Clone at spans, of Set.All, of Of's closure, and of the set's closures. -/
import Derived.Test.YtheofklbmknipaaSpn2
import Derived.Sort.Grow
namespace Go.Proofs.Ytheofklbmknipaa
open Go.RowKit Go.Sort
set_option maxRecDepth 8000
attribute [local go_sem ↓] Go.wp_at_zero Go.wp_at_succ

/-- a slice of spans that lies in memory: its cells, read and copied -/
def SpL (w : World) (v : Value) (l : List Wb.Sp) : Prop := Spans w v l ∧ Wb.SrcRow w 2 v l.length (rowsOf spc l)
theorem SpL.ext {w w' : World} {v : Value} {l : List Wb.Sp} (h : SpL w v l) (k : Wb.Ext w w') : SpL w' v l := ⟨Tbl.ext h.1 k, Wb.SrcRow.ext h.2 k⟩
theorem SpL.nil {w : World} : SpL w (.slice none 0 0) [] := ⟨Tbl.nil, rfl, .inl ⟨rfl, rfl⟩⟩
theorem spl_row {w : World} {base n : Nat} {v : Value} {l : List Wb.Sp} (h : w.ownsRow base 24 2 v n (rowsOf spc l)) : SpL w v l := by
  have hn : n = l.length := by
    have := h.1
    rw [rowsOf_length spc_len] at this
    exact Nat.eq_of_mul_eq_mul_right (by decide : 0 < 2) this.symm
  subst hn
  refine ⟨row_tbl spc_len (by decide) h, rowsOf_length spc_len l, ?_⟩
  by_cases hv : v = .slice none 0 0
  · obtain ⟨_, h2 | ⟨g, cap, cur, hv', _⟩⟩ := h
    · exact .inl ⟨hv, h2.2⟩
    · rw [hv] at hv'; cases hv'
  · obtain ⟨g, cap, rfl, _, _, _, hc⟩ := Wb.ownsRow_at h hv
    exact .inr ⟨_, _, rfl, fun j u hj => by
      have := hc j u hj
      by_cases h0 : j = 0
      · subst h0; simpa [Addr.add] using this
      · simpa [Addr.add, h0] using this⟩
theorem own_none {w : World} {base e s : Nat} : w.ownsRow base e s (.slice none 0 0) 0 [] := ⟨by simp, .inl ⟨rfl, rfl⟩⟩
theorem spc_one (l : List Wb.Sp) : ∀ u ∈ rowsOf spc l, u.oneCell' = true := by
  intro u hu
  obtain ⟨x, _, hx⟩ := List.mem_flatMap.1 hu
  simp [spc] at hx
  rcases hx with rfl | rfl <;> rfl

theorem clone_any (v : Value) (l : List Wb.Sp) (w : World) (h : SpL w v l) (hl : l.length ≤ 1000000) :
    Calls Try.prog 41 #[v] w fun e w' => ∃ v', e = .returned v' ∧ w'.ownsRow w.heap.size 24 2 v' l.length (rowsOf spc l) ∧ Wb.Ext w w' := by
  obtain ⟨i0, hi, hz0, hz1, hz2⟩ := info_parts infoSpan
  have HIN := Lib.hid (show Try.prog.info? 24 = some i0 ∧ i0.zero = some (.agg #[.int .i64 0, .int .i64 0]) ∧ i0.size = 2 ∧ i0.bytes = 16 from ⟨hi, hz0, hz1, hz2⟩)
  clear hi hz0 hz1 hz2
  obtain ⟨_, hs⟩ := h
  have q : ∀ (w : World) (a : Option Addr) (n c n' c' : Nat), (binOp .eql 56 (.slice a n c) (.slice none n' c')).run Try.prog w = .ok (.bool a.isNone) w := fun w a n c n' c' => Lib.run_eql_slice_nil w _ _ a n c n' c' Try.underlying56
  obtain ⟨hl2, ⟨rfl, h0⟩ | ⟨ad, c, rfl, hc⟩⟩ := id hs
  · obtain rfl : l = [] := List.length_eq_zero_iff.1 h0
    go_enter Try.func41, Try.ntmps41
    go_wp2
    go_ret
    exact ⟨_, rfl, own_none, .refl _⟩
  · have HS := Lib.hid hs
    have HL := Lib.hid hl
    clear hs hc hl2 hl
    have hown0 : (w.alloc (.cells #[] 24)).ownsRow w.heap.size 24 2 (.slice (some ⟨w.heap.size, 0, none⟩) 0 0) 0 [] :=
      ⟨by simp, .inr ⟨w.heap.size, 0, #[], rfl, Nat.le_refl _, by show (w.heap.push _)[w.heap.size]? = _; simp, by simp, by simp, by simp, by simp⟩⟩
    go_enter Try.func41, Try.ntmps41
    obtain ⟨hi, hz0, hz1, hz2⟩ := HIN.out
    go_wp2_with (at_builtin; go_loud (refine Wb.wpList_append_row rfl (.tmp 5) (.tmp 6) 56 rfl w.heap.size 24 i0 (.agg #[.int .i64 0, .int .i64 0]) 2 16 Try.underlying56 hi hz0 hz1 hz2 rfl (by decide) _ _ _ rfl hown0 _ rfl l.length (rowsOf spc l) ?c1 ?c2 ?c3 ?c4 ?c5 ?_))
    case c1 => exact HS.out.ext ((Wb.Ext.refl w).alloc _)
    case c2 => exact spc_one l
    case c3 => have := HL.out; unfold maxLen; omega
    case c4 => have := HL.out; omega
    case c5 => simp
    intro u2 w6 hown2 hg2 hnil2
    have HX := Lib.hid (((Wb.Ext.refl w).alloc (.cells #[] 24)).grown hg2 (by intro k hk; cases hk; exact Nat.le_refl _))
    have HO := Lib.hid hown2
    clear hi hz0 hz1 hz2 hg2 hown2 hnil2 hown0
    go_wp2
    go_ret
    exact ⟨_, rfl, HO.out, HX.out⟩

/-- a set, as the program holds it: a struct of one slice -/
abbrev SetV (v : Value) : Value := .agg #[v]
theorem ofc_any (s t : Wb.Sp) (w : World) :
    Calls Try.prog 43 #[SpV s, SpV t] w fun e w' => e = .returned (.int .i64 (cmpI s.1 t.1)) ∧ ∃ q os', w' = grow (w.drewN q) os' := by
  obtain ⟨f, t0⟩ := s
  obtain ⟨g, u⟩ := t
  go_enter Try.func43, Try.ntmps43
  go_wp2_with fail
  go_fit (compare_any f g _); rintro e w' ⟨rfl, rfl⟩
  go_wp2
  go_ret
  exact ⟨rfl, 0, _, by rw [alloc_eq_grow, alloc_eq_grow, grow_grow]; rfl⟩

theorem uni_any (a b : Bool) (w : World) : Calls Try.prog 49 #[.bool a, .bool b] w fun e w' => e = .returned (.bool (a || b)) ∧ w = w' := by
  cases a <;> cases b <;> (go_enter Try.func49, Try.ntmps49; go_wp2; go_ret; exact ⟨rfl, rfl⟩)
theorem met_any (a b : Bool) (w : World) : Calls Try.prog 47 #[.bool a, .bool b] w fun e w' => e = .returned (.bool (a && b)) ∧ w = w' := by
  cases a <;> cases b <;> (go_enter Try.func47, Try.ntmps47; go_wp2; go_ret; exact ⟨rfl, rfl⟩)
end Go.Proofs.Ytheofklbmknipaa
