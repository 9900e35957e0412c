/- The walks of chapter 1 (cents): what each function of the program and of the reference comes to. -/
import Derived.Test.YtdfmlgjemfcmlaaBase
import Derived.Test.YtdfmlgjemfcmlaaPlain01
namespace Go.Proofs.Ytdfmlgjemfcmlaa
open Go.RowKit
set_option maxRecDepth 4000

theorem fits_any (c : Int) (w : World) :
    Calls Try.prog 35 #[.int .i64 c] w fun e w' => e = .returned (.bool (Wb.fits c)) ∧ w = w' := by
  by_cases h : -1125899906842624 ≤ c
  · go_enter Try.func35, Try.ntmps35
    go_wp2
    go_ret
    exact ⟨by simp [Wb.fits, h], rfl⟩
  · have h' : decide (-1125899906842624 ≤ c) = false := by simpa using h
    go_enter Try.func35, Try.ntmps35
    go_wp2
    go_ret
    exact ⟨by rw [Wb.fits, h']; rfl, rfl⟩

theorem enc_dig (k : Nat) (h : k < 10) : Utf8.encode (48 + (k : Int)) = Wb.S [Wb.dig k] := by
  have : k = 0 ∨ k = 1 ∨ k = 2 ∨ k = 3 ∨ k = 4 ∨ k = 5 ∨ k = 6 ∨ k = 7 ∨ k = 8 ∨ k = 9 := by omega
  rcases this with h | h | h | h | h | h | h | h | h | h <;> subst h <;> rfl

/-- the sum wraps only where it isn't asked for -/
theorem told_wrap (a b : Int) : Wb.told a b (wrap64 (a + b)) = Wb.told a b (a + b) := by
  unfold Wb.told
  by_cases h : Wb.fits a = true ∧ Wb.fits b = true
  · have ha := (Wb.fits_iff a).1 h.1
    have hb := (Wb.fits_iff b).1 h.2
    rw [IntWalk.wrap64_in _ (by omega)]
  · simp [h]
theorem told_wrap' (a b : Int) : Wb.told a b (wrap64 (a - b)) = Wb.told a b (a - b) := by
  unfold Wb.told
  by_cases h : Wb.fits a = true ∧ Wb.fits b = true
  · have ha := (Wb.fits_iff a).1 h.1
    have hb := (Wb.fits_iff b).1 h.2
    rw [IntWalk.wrap64_in _ (by omega)]
  · simp [h]

abbrev Two (x : Int × Int) : Ending := .returned (.tuple #[.int .i64 x.1, .int .i64 x.2])

theorem told_any (a b c : Int) (w : World) :
    Calls Try.prog 61 #[.int .i64 a, .int .i64 b, .int .i64 c] w fun e w' => e = Two (Wb.told a b c) ∧ w = w' := by
  by_cases ha : Wb.fits a = true
  · by_cases hb : Wb.fits b = true
    · by_cases hc : Wb.fits c = true
      all_goals
        go_enter Try.func61, Try.ntmps61
        go_wp2_with (go_at_call 35; refine (fits_any _ _).mono ?_; rintro e w' ⟨rfl, rfl⟩)
        go_ret2
        exact ⟨by simp [Two, Wb.told, *], rfl⟩
    · go_enter Try.func61, Try.ntmps61
      go_wp2_with (go_at_call 35; refine (fits_any _ _).mono ?_; rintro e w' ⟨rfl, rfl⟩)
      go_ret2
      exact ⟨by simp [Two, Wb.told, *], rfl⟩
  · go_enter Try.func61, Try.ntmps61
    go_wp2_with (go_at_call 35; refine (fits_any _ _).mono ?_; rintro e w' ⟨rfl, rfl⟩)
    go_ret2
    exact ⟨by simp [Two, Wb.told, *], rfl⟩

theorem add_any (a b : Int) (w : World) :
    Calls Try.prog 40 #[.int .i64 a, .int .i64 b] w fun e w' => e = Two (Wb.told a b (a + b)) ∧ w = w' := by
  have H := Lib.hid (told_wrap a b)
  go_enter Try.func40, Try.ntmps40
  go_wp2_with fail
  refine (told_any _ _ _ _).mono ?_; rintro e w' ⟨rfl, rfl⟩
  rw [H.out]
  go_wp2
  go_ret2
  exact ⟨rfl, rfl⟩

theorem told_in {a b c : Int} (ha : Wb.fits a = true) (hb : Wb.fits b = true) (hc : Wb.fits c = true) : Wb.told a b c = (c, 0) := by simp [Wb.told, *]
theorem told_over {a b c : Int} (ha : Wb.fits a = true) (hb : Wb.fits b = true) (hc : ¬ Wb.fits c = true) : Wb.told a b c = (0, 9) := by simp [Wb.told, *]
theorem told_out {a b c : Int} (h : ¬ (Wb.fits a = true ∧ Wb.fits b = true)) : Wb.told a b c = (0, 2) := by rw [Wb.told, if_neg h]

/-- a list of amounts in memory -/
def Ints (w : World) (v : Value) (l : List Int) : Prop :=
  (l = [] ∧ ∃ a cap, v = .slice a 0 cap) ∨ ∃ b off cap, v = .slice (some ⟨b, off, none⟩) l.length cap ∧ ∀ j, j < l.length → w.cell? ⟨b, off + j, none⟩ = some (.int .i64 (l.getD j 0))

theorem Ints.ext {w w' : World} {v : Value} {l : List Int} (h : Ints w v l) (k : Wb.Ext w w') : Ints w' v l := by
  rcases h with h | ⟨b, off, cap, h1, h2⟩
  · exact .inl h
  · exact .inr ⟨b, off, cap, h1, fun j hj => k.keep (h2 j hj)⟩

theorem sumTo_cons {l : List Int} {k : Nat} (s : Int) (h : k < l.length) :
    Wb.sumTo s (l.drop k) = if (Wb.told s (l.getD k 0) (s + l.getD k 0)).2 = 0 then Wb.sumTo (Wb.told s (l.getD k 0) (s + l.getD k 0)).1 (l.drop (k + 1)) else (0, (Wb.told s (l.getD k 0) (s + l.getD k 0)).2) := by
  rw [List.drop_eq_getElem_cons h, Wb.sumTo]; simp [List.getD, h]

end Go.Proofs.Ytdfmlgjemfcmlaa
