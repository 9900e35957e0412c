/- Chapter 1: the laws' walks. -/
import Derived.Test.YthjfnljjiglnbaaCents3
import Derived.OpenShut
namespace Go.Proofs.Ythjfnljjiglnbaa
open Go.RowKit
set_option maxRecDepth 4000

theorem text_5 : Wb.text (-5) = [45, 48, 46, 48, 53] := by
  rw [Wb.text, if_pos (by decide), Wb.textZ, if_pos (by decide), show (-5 : Int).natAbs = 5 from rfl, Wb.textN, Wb.digs_lt (n := 5 / 100) (by decide), Wb.digs_lt (n := 5 % 10) (by decide)]; rfl
theorem text_123450 : Wb.text 123450 = [49, 50, 51, 52, 46, 53, 48] := by
  rw [Wb.text, if_pos (by decide), Wb.textZ, if_neg (by decide), show (123450 : Int).natAbs = 123450 from rfl, Wb.textN, show 123450 / 100 = 1234 from rfl, Wb.digs_ge (by decide), show 1234 / 10 = 123 from rfl, Wb.digs_ge (by decide), show 123 / 10 = 12 from rfl, Wb.digs_ge (by decide),
    Wb.digs_lt (n := 12 / 10) (by decide), Wb.digs_lt (n := 123450 / 10 % 10) (by decide), Wb.digs_lt (n := 123450 % 10) (by decide)]; rfl
theorem parse_123450 : Wb.parse [49, 50, 51, 52, 46, 53, 48] = (123450, 0) := by rw [← text_123450]; exact Wb.parse_text (by decide)

theorem awake_any (w : World) :
    Calls Try.prog 12 #[] w fun e w' => e = .returned (.bool true) ∧ w = w' := by
  have H1 := Lib.hid parse_123450
  have H2 := Lib.hid text_5
  have H3 := Lib.hid (show Wb.told 1125899906842624 1 (1125899906842624 + 1) = (0, 9) by decide)
  go_enter Try.func12, Try.ntmps12
  go_wp2_with fail
  refine (parse_any [49, 50, 51, 52, 46, 53, 48] (by simp) _).mono ?_; rintro e w' ⟨rfl, rfl⟩
  rw [H1.out]
  go_wp2_with fail
  refine (add_any _ _ _).mono ?_; rintro e w' ⟨rfl, rfl⟩
  rw [H3.out]
  go_wp2_with fail
  refine (text_any _ _).mono ?_; rintro e w' ⟨rfl, rfl⟩
  rw [H2.out]
  go_wp2
  go_ret
  exact ⟨rfl, rfl⟩

theorem adds_walk (a b : Int) (h2 : -9223372036854775808 ≤ b ∧ b ≤ 9223372036854775807) (w : World) :
    Calls Try.prog 5 #[.int .i64 a, .int .i64 b] w fun e w' => e = .returned (.bool true) ∧ w = w' := by
  cases hb : Wb.fits b
  · have H := Lib.hid (Wb.told_nofit (a := a) (c := a - b) (by rw [hb]; decide))
    go_enter Try.func5, Try.ntmps5
    go_wp2_with (first | (go_at_call 16; refine (add_any _ _ _).mono ?_; rintro e w' ⟨rfl, rfl⟩) | (go_at_call 18; refine (radd_any _ _ _).mono ?_; rintro e w' ⟨rfl, rfl⟩) | (go_at_call 19; refine (fits_any _ _).mono ?_; rintro e w' ⟨rfl, rfl⟩) | (go_at_call 11; refine (rfits_any _ _).mono ?_; rintro e w' ⟨rfl, rfl⟩) | (go_at_call 12; refine (awake_any _).mono ?_; rintro e w' ⟨rfl, rfl⟩) | (go_at_call 17; refine (sub_any _ _ _).mono ?_; rintro e w' ⟨rfl, rfl⟩; rw [H.out]))
    go_ret
    exact ⟨rfl, rfl⟩
  · have hb' := (Wb.fits_iff b).1 hb
    have H := Lib.hid (Wb.told_neg (a := a) (b := b))
    go_enter Try.func5, Try.ntmps5
    go_wp2_with fail
    refine (add_any _ _ _).mono ?_; rintro e w' ⟨rfl, rfl⟩
    go_wp2_with (first | (go_at_call 17; refine (sub_any _ _ _).mono ?_; rintro e w' ⟨rfl, rfl⟩) | (go_at_call 19; refine (fits_any _ _).mono ?_; rintro e w' ⟨rfl, rfl⟩) | (go_at_call 11; refine (rfits_any _ _).mono ?_; rintro e w' ⟨rfl, rfl⟩) | (go_at_call 12; refine (awake_any _).mono ?_; rintro e w' ⟨rfl, rfl⟩) | (go_at_call 18; refine (radd_any _ _ _).mono ?_; rintro e w' ⟨rfl, rfl⟩; try rw [H.out]))
    go_ret
    exact ⟨rfl, rfl⟩

theorem between_walk (c a b : Int) (w : World) :
    Calls Try.prog 6 #[.int .i64 c, .int .i64 a, .int .i64 b] w fun e w' => e = .returned (.bool true) ∧ w = w' := by
  by_cases h1 : b < c
  · have hne : (b == c) = false := by simp; omega
    by_cases h2 : c < a
    · have e4 : max a b = a := by omega
      have e1 : max a (min c b) = a := by omega
      have e2 : min c b = b := by omega
      have e3 : max c b = c := by omega
      go_enter Try.func6, Try.ntmps6
      go_wp2_with (first | (go_at_call 20; refine (least_any _ _ _).mono ?_; rintro e w' ⟨rfl, rfl⟩) | (go_at_call 21; refine (greatest_any _ _ _).mono ?_; rintro e w' ⟨rfl, rfl⟩) | (go_at_call 22; refine (clamp_any _ _ _ _).mono ?_; rintro e w' ⟨rfl, rfl⟩) | (go_at_call 12; refine (awake_any _).mono ?_; rintro e w' ⟨rfl, rfl⟩))
      go_ret
      exact ⟨rfl, rfl⟩
    · by_cases h3 : b < a
      · have e4 : max a b = a := by omega
        have d2 : decide (c < a) = false := by simpa using h2
        have e1 : max a (min c b) = a := by omega
        have e2 : min c b = b := by omega
        have e3 : max c b = c := by omega
        go_enter Try.func6, Try.ntmps6
        go_wp2_with (first | (go_at_call 20; refine (least_any _ _ _).mono ?_; rintro e w' ⟨rfl, rfl⟩) | (go_at_call 21; refine (greatest_any _ _ _).mono ?_; rintro e w' ⟨rfl, rfl⟩) | (go_at_call 22; refine (clamp_any _ _ _ _).mono ?_; rintro e w' ⟨rfl, rfl⟩) | (go_at_call 12; refine (awake_any _).mono ?_; rintro e w' ⟨rfl, rfl⟩))
        go_ret
        exact ⟨rfl, rfl⟩
      · have e4 : max a b = b := by omega
        have d2 : decide (c < a) = false := by simpa using h2
        have d3 : decide (b < a) = false := by simpa using h3
        have e1 : max a (min c b) = b := by omega
        have e2 : min c b = b := by omega
        have e3 : max c b = c := by omega
        go_enter Try.func6, Try.ntmps6
        go_wp2_with (first | (go_at_call 20; refine (least_any _ _ _).mono ?_; rintro e w' ⟨rfl, rfl⟩) | (go_at_call 21; refine (greatest_any _ _ _).mono ?_; rintro e w' ⟨rfl, rfl⟩) | (go_at_call 22; refine (clamp_any _ _ _ _).mono ?_; rintro e w' ⟨rfl, rfl⟩) | (go_at_call 12; refine (awake_any _).mono ?_; rintro e w' ⟨rfl, rfl⟩))
        go_ret
        exact ⟨rfl, rfl⟩
  · by_cases h2 : c < a
    · have e4 : max a c = a := by omega
      have e1 : max a (min c b) = a := by omega
      have e2 : min c b = c := by omega
      have e3 : max c b = b := by omega
      go_enter Try.func6, Try.ntmps6
      go_wp2_with (first | (go_at_call 20; refine (least_any _ _ _).mono ?_; rintro e w' ⟨rfl, rfl⟩) | (go_at_call 21; refine (greatest_any _ _ _).mono ?_; rintro e w' ⟨rfl, rfl⟩) | (go_at_call 22; refine (clamp_any _ _ _ _).mono ?_; rintro e w' ⟨rfl, rfl⟩) | (go_at_call 12; refine (awake_any _).mono ?_; rintro e w' ⟨rfl, rfl⟩))
      go_ret
      exact ⟨rfl, rfl⟩
    · have e4 : max a c = c := by omega
      have d2 : decide (c < a) = false := by simpa using h2
      have d3 : decide (b < a) = false := by simp; omega
      have e1 : max a (min c b) = c := by omega
      have e2 : min c b = c := by omega
      have e3 : max c b = b := by omega
      go_enter Try.func6, Try.ntmps6
      go_wp2_with (first | (go_at_call 20; refine (least_any _ _ _).mono ?_; rintro e w' ⟨rfl, rfl⟩) | (go_at_call 21; refine (greatest_any _ _ _).mono ?_; rintro e w' ⟨rfl, rfl⟩) | (go_at_call 22; refine (clamp_any _ _ _ _).mono ?_; rintro e w' ⟨rfl, rfl⟩) | (go_at_call 12; refine (awake_any _).mono ?_; rintro e w' ⟨rfl, rfl⟩))
      go_ret
      exact ⟨rfl, rfl⟩

theorem ints_two (w : World) (a b : Int) : Ints (w.alloc (.cells #[.int .i64 a, .int .i64 b] 22)) (.slice (some ⟨w.heap.size, 0, none⟩) 2 2) [a, b] := by
  refine .inr ⟨w.heap.size, 0, 2, rfl, fun j hj => ?_⟩
  have : j = 0 ∨ j = 1 := by simp at hj; omega
  rcases this with rfl | rfl <;> simp [go_sem]

theorem back_walk (a b : Int) (w : World) :
    Calls Try.prog 9 #[.int .i64 a, .int .i64 b] w fun e w' => e = .returned (.bool true) ∧ Wb.Ext w w' := by
  have HC := Lib.hid (Wb.told_comm a b)
  cases h : ((Wb.told a b (a + b)).2 == 0)
  · have H0 := Lib.hid (Wb.told_bad (a := a) (b := b) (c := a + b) (by simpa using h))
    obtain ⟨x, y, hxy⟩ : ∃ x y, Wb.told a b (a + b) = (x, y) := ⟨_, _, rfl⟩
    have H1 := Lib.hid hxy
    have hy : (y == 0) = false := by rw [hxy] at h; exact h
    have hx : x = 0 := by have := H0.out; rw [hxy] at this; exact this
    subst hx
    clear h hxy
    go_enter Try.func9, Try.ntmps9
    go_wp2_with fail
    refine (add_any _ _ _).mono ?_; rintro e w' ⟨rfl, rfl⟩
    rw [H1.out]
    go_wp2_with fail
    refine (add_any _ _ _).mono ?_; rintro e w' ⟨rfl, rfl⟩
    rw [HC.out, H1.out]
    go_wp2_with (go_at_call 12; refine (awake_any _).mono ?_; rintro e w' ⟨rfl, rfl⟩)
    go_ret
    exact ⟨rfl, Wb.Ext.refl _⟩
  · have HB := Lib.hid (Wb.told_back (a := a) (b := b) (by simpa using h))
    have H1 := Lib.hid (show Wb.told a b (a + b) = (a + b, 0) from Prod.ext HB.out.1 (by simpa using h))
    have hf := HB.out.2.2.2
    clear h
    go_enter Try.func9, Try.ntmps9
    go_wp2_with fail
    refine (add_any _ _ _).mono ?_; rintro e w' ⟨rfl, rfl⟩
    rw [H1.out]
    go_wp2_with fail
    refine (add_any _ _ _).mono ?_; rintro e w' ⟨rfl, rfl⟩
    rw [HC.out, H1.out]
    go_wp2_with fail
    refine (sub_any _ _ _).mono ?_; rintro e w' ⟨rfl, rfl⟩
    rw [HB.out.2.1]
    go_wp2_with fail
    refine (sum_any _ [a, b] _ (ints_two _ _ _) (by simp)).mono ?_; rintro e w' ⟨rfl, rfl⟩
    rw [HB.out.2.2.1]
    go_wp2_with (first | (go_at_call 19; refine (fits_any _ _).mono ?_; rintro e w' ⟨rfl, rfl⟩) | (go_at_call 12; refine (awake_any _).mono ?_; rintro e w' ⟨rfl, rfl⟩))
    go_ret
    exact ⟨rfl, (Wb.Ext.refl _).alloc _⟩

theorem texts_walk (c : Int) (w : World) :
    Calls Try.prog 3 #[.int .i64 c] w fun e w' => e = .returned (.bool true) ∧ Wb.Ext w w' := by
  cases hf : Wb.fits c
  · have H := Lib.hid (Wb.fits_false hf)
    go_enter Try.func3, Try.ntmps3
    go_wp2_with fail
    refine (text_any _ _).mono ?_; rintro e w' ⟨rfl, rfl⟩
    rw [H.out]
    go_wp2_with (first | (go_at_call 11; refine (rfits_any _ _).mono ?_; rintro e w' ⟨rfl, rfl⟩) | (go_at_call 12; refine (awake_any _).mono ?_; rintro e w' ⟨rfl, rfl⟩))
    go_ret
    exact ⟨rfl, Wb.Ext.refl _⟩
  · have H := Lib.hid (Wb.parse_text hf)
    have hl : (Wb.text c).length ≤ 9223372036854775807 := by
      have := textN_len _ (Wb.natAbs_fits hf)
      rw [Wb.text, if_pos hf, Wb.textZ]; split <;> simp <;> omega
    go_enter Try.func3, Try.ntmps3
    go_wp2_with fail
    refine (text_any _ _).mono ?_; rintro e w' ⟨rfl, rfl⟩
    go_wp2_with (go_at_call 11; refine (rfits_any _ _).mono ?_; rintro e w' ⟨rfl, rfl⟩)
    refine (parse_any _ hl _).mono ?_; rintro e w' ⟨rfl, rfl⟩
    rw [H.out]
    go_wp2_with (first | (go_at_call 12; refine (awake_any _).mono ?_; rintro e w' ⟨rfl, rfl⟩) | (go_at_call 14; refine (rtext_any _ hf _).mono ?_; rintro e w' ⟨rfl, hb⟩))
    go_ret
    exact ⟨rfl, hb⟩

theorem parses_walk (l : List UInt8) (hl : l.length ≤ 9223372036854775807) (w : World) :
    Calls Try.prog 4 #[.string (Wb.S l)] w fun e w' => e = .returned (.bool true) ∧ w = w' := by
  by_cases h3 : 300 < l.length
  · go_enter Try.func4, Try.ntmps4
    go_wp2_with (go_at_call 12; refine (awake_any _).mono ?_; rintro e w' ⟨rfl, rfl⟩)
    go_ret
    exact ⟨rfl, rfl⟩
  · obtain ⟨x, y, hxy, hy⟩ : ∃ x y, Wb.parse l = (x, y) ∧ (y = 0 ∨ y = 3) := ⟨_, _, rfl, Wb.parse_snd l⟩
    have H := Lib.hid hxy; clear hxy
    rcases hy with rfl | rfl
    all_goals
      go_enter Try.func4, Try.ntmps4
      go_wp2_with fail
      refine (parse_any _ hl _).mono ?_; rintro e w' ⟨rfl, rfl⟩
      rw [H.out]
      go_wp2_with fail
      refine (rparse_any _ hl _).mono ?_; rintro e w' ⟨rfl, rfl⟩
      rw [H.out]
      go_wp2_with (go_at_call 12; refine (awake_any _).mono ?_; rintro e w' ⟨rfl, rfl⟩)
      go_ret
      exact ⟨rfl, rfl⟩

theorem sums_walk (v : Value) (l : List Int) (w : World) (hv : Ints w v l) (hlen : l.length ≤ 9223372036854775807) :
    Calls Try.prog 7 #[v] w fun e w' => e = .returned (.bool true) ∧ w = w' := by
  have HV := Lib.hid hv
  have hvs : ∃ a cap, v = .slice a l.length cap := by
    rcases hv with ⟨rfl, a, cap, rfl⟩ | ⟨b, off, cap, rfl, _⟩
    · exact ⟨_, _, rfl⟩
    · exact ⟨_, _, rfl⟩
  obtain ⟨a, cap, rfl⟩ := hvs
  clear hv
  by_cases h2 : 200 < l.length
  · go_enter Try.func7, Try.ntmps7
    go_wp2_with (go_at_call 12; refine (awake_any _).mono ?_; rintro e w' ⟨rfl, rfl⟩)
    go_ret
    exact ⟨rfl, rfl⟩
  · go_enter Try.func7, Try.ntmps7
    go_wp2_with (first | (go_at_call 23; refine (sum_any _ l _ HV.out hlen).mono ?_; rintro e w' ⟨rfl, rfl⟩) | (go_at_call 24; refine (rsum_any _ l _ HV.out hlen).mono ?_; rintro e w' ⟨rfl, rfl⟩) | (go_at_call 12; refine (awake_any _).mono ?_; rintro e w' ⟨rfl, rfl⟩))
    go_ret
    exact ⟨rfl, rfl⟩

theorem ints_of {w : World} {x : Addr} {len cap : Nat} {zs : List Int} (hl : len ≤ cap) (hm : cap ≤ maxLen) (hz : zs.length = cap)
    (hcell : ∀ i, i < zs.length → w.cell? (x.add i) = some (.int .i64 (zs.getD i 0))) (hwz : ∀ n ∈ zs, (Lit.int .i64 n).wf = true) :
    ∃ zs, Ints w (.slice (some x) len cap) zs ∧ zs.length ≤ 9223372036854775807 ∧ ∀ n ∈ zs, (Lit.int .i64 n).wf = true := by
  unfold maxLen at hm
  refine ⟨zs.take len, ?_, by simp; omega, fun n hn => hwz n (List.mem_of_mem_take hn)⟩
  have hlen : (zs.take len).length = len := by simp; omega
  by_cases h0 : len = 0
  · subst h0; exact .inl ⟨by simp, _, _, rfl⟩
  · obtain ⟨b, off, rfl, hc⟩ := ints_at hcell (by omega)
    refine .inr ⟨b, off, cap, by rw [hlen], fun j hj => ?_⟩
    rw [hlen] at hj
    rw [hc j (by omega)]
    simp [List.getD, hj]
end Go.Proofs.Ythjfnljjiglnbaa
