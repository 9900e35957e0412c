/- Chapter 20: ProrateYear. -/
import Derived.Test.YtheofklbmknipaaQLaw0
namespace Go.Proofs.Ytheofklbmknipaa
open Go.RowKit Go.Lib
set_option maxRecDepth 8000
attribute [local go_sem ↓] Go.wp_at_zero Go.wp_at_succ

def loQ (c : Int) (n : Nat) : Int := if c < 0 then -((c.natAbs / n : Nat) : Int) - 1 else ((c.natAbs / n : Nat) : Int)
theorem loQ_b {c : Int} (n : Nat) (h : Wb.fits c = true) : -1125899906842625 ≤ loQ c n ∧ loQ c n ≤ 1125899906842624 := by
  have := (Wb.fits_iff _).1 h
  have := Nat.div_le_self c.natAbs n
  unfold loQ
  generalize c.natAbs / n = q at *
  split <;> omega
theorem upT_b {c : Int} {k n : Nat} (h : Wb.fits c = true) (hn : 0 < n) (hk : k ≤ n) : -1125899906842624 ≤ Wb.upT c k n ∧ Wb.upT c k n ≤ 1125899906842624 := by
  have := (Wb.fits_iff _).1 h
  have := Wb.upT_abs (c := c) hn hk
  omega
theorem year_step {c : Int} {k n : Nat} (h : Wb.fits c = true) (hk : k < n) (hn : n ≤ 400) : ∃ d, perR ((k : Int) + 1) n c = (d, 0) ∧ Wb.upT c k n + d = Wb.upT c (k + 1) n ∧ loQ c n ≤ d ∧ d ≤ loQ c n + 1 := by
  obtain ⟨m, h1, h2, h3⟩ := Wb.upT_one (c := c) (i := k) (d := n) (by omega)
  refine ⟨m, ?_, by omega, ?_, ?_⟩
  · rw [perR, show less1 ((k : Int) + 1) = k by unfold less1; rw [if_neg (by omega)]; omega, Wb.betw_ok h (by omega) (by omega) (by omega) (by omega) (by omega), ← h1]
    rw [show ((k : Int) + 1).toNat = k + 1 by omega, show ((n : Int)).toNat = n by omega, show ((k : Int)).toNat = k by omega]
  · unfold loQ
    generalize c.natAbs / n = q at *
    split at h2 <;> rename_i hc
    · rw [if_pos hc]; exact h2
    · rw [if_neg hc]; exact h2
  · unfold loQ
    generalize c.natAbs / n = q at *
    split at h3 <;> rename_i hc
    · rw [if_pos hc]; omega
    · rw [if_neg hc]; omega
def YearI (c : Int) (n k : Nat) (s l m : Int) : Prop := s = Wb.upT c k n ∧ ((k = 0 ∧ l = 0 ∧ m = 0) ∨ (0 < k ∧ loQ c n ≤ l ∧ l ≤ loQ c n + 1 ∧ loQ c n ≤ m ∧ m ≤ loQ c n + 1))
set_option maxHeartbeats 4000000 in
theorem year_walk (c many : Int) (w : World) (hm : 0 ≤ many ∧ many < 65536) :
    Calls Try.prog 6 #[.int .i64 c, .int .u16 many] w fun e w' => e = .returned (.bool true) ∧ Wb.Ext w w' := by
  obtain ⟨hm0, hm1⟩ := hm
  obtain ⟨N, hN⟩ : ∃ N : Nat, many % 400 + 1 = N := ⟨(many % 400 + 1).toNat, by omega⟩
  have hN2 : Int.tmod many 400 + 1 = N := by rw [Int.tmod_eq_emod_of_nonneg hm0]; exact hN
  have hn1 : 1 ≤ N := by omega
  have hn2 : N ≤ 400 := by omega
  by_cases hf : Wb.fits c = true
  · have HF := Lib.hid hf
    obtain ⟨b1, b2⟩ := loQ_b N hf
    obtain ⟨L, hL⟩ : ∃ L, loQ c N = L := ⟨_, rfl⟩
    rw [hL] at b1 b2
    have HL := Lib.hid hL
    clear hf hL
    go_enter Try.func6, Try.ntmps6
    go_wp2_with fail
    go_fit (awake20_any _); rintro e w1 ⟨rfl, hb1⟩
    go_wp2_with fail
    go_loopw [9, 6, 7, 8] (fun iv sv lv mv wr => ∃ (k : Nat) (s l m : Int), k ≤ N ∧ iv = .int .i64 ((k : Int) + 1) ∧ sv = .int .i64 s ∧ lv = .int .i64 l ∧ mv = .int .i64 m ∧ Hid (YearI c N k s l m) ∧ Wb.Ext w wr) (fun iv _ _ _ _ => N + 1 - (intOf iv).toNat)
    case atStart => exact ⟨0, 0, 0, 0, Nat.zero_le _, rfl, rfl, rfl, rfl, Lib.hid ⟨(Wb.upT_zero (by omega)).symm, .inl ⟨rfl, rfl, rfl⟩⟩, hb1⟩
    case round =>
      obtain ⟨k, s, l, m, hk, rfl, rfl, rfl, rfl, HI, hext⟩ := hrel
      by_cases hlt : k < N
      · obtain ⟨d, hd, hs1, hd1, hd2⟩ := year_step HF.out hlt hn2
        rw [HL.out] at hd1 hd2
        have HD := Lib.hid hd
        have hs := HI.out.1
        rw [← hs] at hs1
        obtain ⟨u1, u2⟩ := upT_b HF.out (by omega) (Nat.le_of_lt hlt)
        obtain ⟨u3, u4⟩ := upT_b (k := k + 1) HF.out (by omega) hlt
        rw [← hs] at u1 u2
        rw [← hs1] at u3 u4
        have HS1 := Lib.hid hs1
        clear hs hs1 hd
        have hki : decide ((k : Int) + 1 ≤ N) = true := by simp; omega
        by_cases h0 : k = 0
        · subst h0
          have HN : Hid (YearI c N (0 + 1) (s + d) d d) := Lib.hid ⟨HS1.out, .inr ⟨by omega, by rw [HL.out]; omega, by rw [HL.out]; omega, by rw [HL.out]; omega, by rw [HL.out]; omega⟩⟩
          go_wp2_with fail
          go_fit (period_any 0 1 N (0, 0) 0 c (by omega) _); rintro e w2 ⟨rfl, hb2⟩
          rw [show perR 1 N c = (d, 0) from HD.out]
          have hx2 := hext.trans hb2
          clear hb2
          go_wp2
          go_roundw
          case rel => exact ⟨1, s + d, d, d, by omega, by first | rfl | go_num, rfl, rfl, rfl, HN, hx2⟩
          case measure => simp [intOf]; omega
        · have hkn : ((k : Int) + 1 == 1) = false := by simp; omega
          obtain ⟨v1, hv1⟩ : ∃ v1, (if d < l then d else l) = v1 := ⟨_, rfl⟩
          obtain ⟨v2, hv2⟩ : ∃ v2, (if m < d then d else m) = v2 := ⟨_, rfl⟩
          have HN : Hid (YearI c N (k + 1) (s + d) v1 v2) := by
            obtain ⟨_, q | ⟨_, q1, q2, q3, q4⟩⟩ := HI.out
            · exact absurd q.1 h0
            · rw [HL.out] at q1 q2 q3 q4
              refine Lib.hid ⟨HS1.out, .inr ⟨by omega, ?_⟩⟩
              rw [HL.out, ← hv1, ← hv2]
              refine ⟨?_, ?_, ?_, ?_⟩ <;> split <;> omega
          go_wp2_with fail
          go_fit (period_any 0 ((k : Int) + 1) N (0, 0) 0 c (by omega) _); rintro e w2 ⟨rfl, hb2⟩
          rw [HD.out]
          have hx2 := hext.trans hb2
          clear hb2
          go_wp2
          go_roundw
          case rel => exact ⟨k + 1, s + d, v1, v2, by omega, by go_num, rfl, by first | rfl | go_num, by first | rfl | go_num, HN, hx2⟩
          case measure => simp [intOf]; omega
      · obtain rfl : k = N := by omega
        obtain ⟨hs, q⟩ := HI.out
        rw [Wb.upT_all (by omega)] at hs
        subst hs
        have hki : decide ((k : Int) + 1 ≤ k) = false := by simp; omega
        have q' : L ≤ l ∧ l ≤ L + 1 ∧ L ≤ m ∧ m ≤ L + 1 := by
          rcases q with q | ⟨_, q⟩
          · omega
          · rw [HL.out] at q; exact q
        clear q
        obtain ⟨q1, q2, q3, q4⟩ := q'
        have hd : decide (m - l ≤ 1) = true := by simp; omega
        go_wp2
        go_ret
        exact ⟨rfl, hext⟩
  · have hf' : Wb.fits c = false := by simpa using hf
    have hb : c < -1125899906842624 ∨ 1125899906842624 < c := by
      rcases Int.lt_or_le 1125899906842624 c with h | h
      · exact .inr h
      · rcases Int.lt_or_le c (-1125899906842624) with h' | h'
        · exact .inl h'
        · exact absurd ((Wb.fits_iff _).2 (by omega)) hf
    have HP : Hid (perR 1 N c = (0, 9)) := Lib.hid (by rw [perR, Wb.betw, if_pos hf'])
    clear hf hf'
    go_enter Try.func6, Try.ntmps6
    go_wp2_with fail
    go_fit (awake20_any _); rintro e w1 ⟨rfl, hb1⟩
    go_wp2_with fail
    go_loopw [9, 6, 7, 8] (fun iv sv lv mv wr => iv = .int .i64 1 ∧ Wb.Ext w wr) (fun iv _ _ _ _ => 0)
    case atStart => exact ⟨rfl, hb1⟩
    case round =>
      obtain ⟨rfl, hext⟩ := hrel
      have hki : decide ((1 : Int) ≤ N) = true := by simp; omega
      go_wp2_with fail
      go_fit (period_any 0 1 N (0, 0) 0 c (by omega) _); rintro e w2 ⟨rfl, hb2⟩
      rw [HP.out]
      have hx2 := hext.trans hb2
      clear hb2
      by_cases h1 : 1125899906842624 < c
      · have d1 : decide (1125899906842624 < c) = true := by simpa using h1
        go_wp2
        go_ret
        exact ⟨rfl, hx2⟩
      · have d1 : decide (1125899906842624 < c) = false := by simpa using h1
        have d2 : decide (c < -1125899906842624) = true := by simp; omega
        go_wp2
        go_ret
        exact ⟨rfl, hx2⟩

end Go.Proofs.Ytheofklbmknipaa
