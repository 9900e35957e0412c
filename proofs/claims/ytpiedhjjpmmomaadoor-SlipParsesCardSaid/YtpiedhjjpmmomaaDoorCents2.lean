/- The walks of chapter 1 (cents), second part: texts. -/
import Derived.Test.YtpiedhjjpmmomaaDoorCents
namespace Go.Proofs.YtpiedhjjpmmomaaDoor
open Go.RowKit
set_option maxRecDepth 4000

theorem textN_len (n : Nat) (h : n ≤ 1125899906842624) : (Wb.textN n).length ≤ 20 := by
  have := Wb.digs_length 13 (n / 100) (by omega)
  unfold Wb.textN
  rw [Wb.digs_lt (n := n / 10 % 10) (by omega), Wb.digs_lt (n := n % 10) (by omega)]
  simp; omega

theorem textN_eq (n : Nat) : Wb.textN n = Wb.digs (n / 100) ++ 46 :: (Wb.digs (n % 100 / 10) ++ Wb.digs (n % 10)) := by
  unfold Wb.textN
  rw [show n / 10 % 10 = n % 100 / 10 by omega]; simp

theorem text_any (c : Int) (w : World) :
    Calls Tryd.prog 35 #[.int .i64 c] w fun e w' => e = .returned (.string (Wb.S (Wb.text c))) ∧ w = w' := by
  by_cases hf : Wb.fits c = true
  · have hf' := (Wb.fits_iff c).1 hf
    by_cases h0 : c < 0
    · obtain ⟨n, hn, hc⟩ : ∃ n : Nat, (n : Int) ≤ 1125899906842624 ∧ c = -n := ⟨c.natAbs, by omega, by omega⟩
      subst hc
      have hl := Wb.digs_length 13 (n / 100) (by omega)
      have hl1 := Wb.digs_length 0 (n % 100 / 10) (by omega)
      have hl2 := Wb.digs_length 0 (n % 10) (by omega)
      have H := Lib.hid (show Wb.text (-(n : Int)) = 45 :: Wb.textN n by rw [Wb.text, if_pos hf, Wb.textZ, if_pos h0]; simp)
      go_enter Tryd.func35, Tryd.ntmps35
      go_wp2_with (first | (go_at_call 29; refine (fits_any _ _).mono ?_; rintro e w' ⟨rfl, rfl⟩) | (go_at_call 49; refine (whole_any _ (by omega) (by omega) _).mono ?_; rintro e w' ⟨rfl, rfl⟩))
      go_ret
      exact ⟨Wb.ret_str (by rw [H.out, textN_eq]), rfl⟩
    · obtain ⟨n, hn, hc⟩ : ∃ n : Nat, (n : Int) ≤ 1125899906842624 ∧ c = n := ⟨c.natAbs, by omega, by omega⟩
      subst hc
      have hl := Wb.digs_length 13 (n / 100) (by omega)
      have hl1 := Wb.digs_length 0 (n % 100 / 10) (by omega)
      have hl2 := Wb.digs_length 0 (n % 10) (by omega)
      have H := Lib.hid (show Wb.text (n : Int) = Wb.textN n by rw [Wb.text, if_pos hf, Wb.textZ, if_neg h0]; simp)
      go_enter Tryd.func35, Tryd.ntmps35
      go_wp2_with (first | (go_at_call 29; refine (fits_any _ _).mono ?_; rintro e w' ⟨rfl, rfl⟩) | (go_at_call 49; refine (whole_any _ (by omega) (by omega) _).mono ?_; rintro e w' ⟨rfl, rfl⟩))
      go_ret
      exact ⟨Wb.ret_str (by rw [H.out, textN_eq]), rfl⟩
  · have H : Wb.text c = [] := by simp [Wb.text, hf]
    go_enter Tryd.func35, Tryd.ntmps35
    go_wp2_with (go_at_call 29; refine (fits_any _ _).mono ?_; rintro e w' ⟨rfl, rfl⟩)
    go_ret
    exact ⟨by rw [H]; rfl, rfl⟩

theorem conv1 (w : World) (n : Int) (h : 0 ≤ n ∧ n ≤ 255) :
    (convert 90 9 (.slice (some ⟨w.heap.size, 0, none⟩) 1 1)).run Tryd.prog (w.alloc (.cells #[.int .u8 n] 5)) = .ok (.string (Wb.S [UInt8.ofNat n.toNat])) (w.alloc (.cells #[.int .u8 n] 5)) := by
  refine run_convert_bytes_back (w.alloc (.cells #[.int .u8 n] 5)) 90 9 5 ⟨w.heap.size, 0, none⟩ 1 [UInt8.ofNat n.toNat] Tryd.underlying90 Tryd.underlying5 Tryd.underlying9 (fun j hj => ?_)
  have hj0 : j = 0 := by simpa using hj
  subst hj0
  have e : ((n.toNat % 256 : Nat) : Int) = n := by omega
  simp only [List.getElem_cons_zero, UInt8.toNat_ofNat', e]
  simp [Addr.add, go_sem]

theorem digits_any (n : Int) (h0 : 0 ≤ n) (h1 : n ≤ 1125899906842624) (w : World) :
    Calls Tryd.prog 60 #[.int .i64 n] w fun e w' => e = .returned (.string (Wb.S (Wb.digs n.toNat))) ∧ Wb.Ext w w' := by
  obtain ⟨m, rfl⟩ := Int.eq_ofNat_of_zero_le h0
  go_enter Tryd.func60, Tryd.ntmps60
  go_wp2
  go_loopw [0, 3] (fun n s wr => ∃ (k : Nat) (t : List UInt8), k ≤ m ∧ n = .int .i64 k ∧ s = .string (Wb.S t) ∧ t.length ≤ 20 ∧ Below w.heap.size w wr ∧ ((t = [] ∧ k = m) ∨ (t ≠ [] ∧ k = 0 ∧ t = Wb.digs m) ∨ (t ≠ [] ∧ 0 < k ∧ Wb.digs k ++ t = Wb.digs m))) (fun n s _ => (intOf n).toNat + (1 - Wb.strOf s))
  case atStart => exact ⟨m, [], by omega, rfl, by simp [Wb.S], by simp, Below.refl _ _, .inl ⟨rfl, rfl⟩⟩
  case round =>
    obtain ⟨k, t, hk, rfl, rfl, ht, hb, hrel⟩ := hrel
    have HR := Lib.hid hrel; clear hrel
    have hsz := hb.size
    have kc : ∀ w : World, (convert 90 9 (.slice (some ⟨w.heap.size, 0, none⟩) 1 1)).run Tryd.prog (w.alloc (.cells #[.int .u8 (48 + (k : Int) % 10)] 5)) = .ok (.string (Wb.S [Wb.dig (k % 10)])) (w.alloc (.cells #[.int .u8 (48 + (k : Int) % 10)] 5)) := by
      intro w
      have := conv1 w (48 + (k : Int) % 10) (by omega)
      rw [this, show (48 + (k : Int) % 10).toNat = 48 + k % 10 by omega]; rfl
    by_cases hk0 : 0 < k
    · have Hg : Hid (10 ≤ k → Wb.digs k = Wb.digs (k / 10) ++ [Wb.dig (k % 10)]) := fun h => Wb.digs_ge h
      have Hs : Hid (k < 10 → Wb.digs k = [Wb.dig (k % 10)]) := fun h => by rw [Wb.digs_lt h, Nat.mod_eq_of_lt h]
      by_cases ht0 : t = []
      · subst ht0
        have hkm : k = m := by rcases HR.out with h | h | h <;> simp_all
        subst hkm
        go_wp2
        go_roundw
        case rel =>
          refine ⟨k / 10, [Wb.dig (k % 10)], by omega, by go_num, rfl, by simp, by go_grown, ?_⟩
          by_cases h10 : 10 ≤ k
          · exact .inr (.inr ⟨by simp, by omega, (Hg.out h10).symm⟩)
          · exact .inr (.inl ⟨by simp, by omega, (Hs.out (by omega)).symm⟩)
        case measure => simp [intOf, Wb.strOf, go_sem]; omega
      · have ht1 : t.isEmpty = false := by simpa using ht0
        have ht2 : (t == []) = false := by simpa using ht0
        have hq := Lib.hid (show Wb.digs k ++ t = Wb.digs m by rcases HR.out with h | h | h <;> simp_all)
        have hl0 := Wb.digs_length 15 m (by omega)
        have hl1 : (Wb.digs k).length + t.length ≤ 16 := by rw [← hq.out] at hl0; simpa using hl0
        have hl2 := Wb.digs_pos k
        go_wp2
        go_roundw
        case rel =>
          refine ⟨k / 10, Wb.dig (k % 10) :: t, by omega, by go_num, rfl, by simp; omega, by go_grown, ?_⟩
          by_cases h10 : 10 ≤ k
          · exact .inr (.inr ⟨by simp, by omega, by rw [← hq.out, Hg.out h10]; simp⟩)
          · exact .inr (.inl ⟨by simp, by omega, by rw [← hq.out, Hs.out (by omega)]; simp⟩)
        case measure => simp [intOf, Wb.strOf, go_sem]; omega
    · have hk1 : k = 0 := by omega
      subst hk1
      by_cases ht0 : t = []
      · subst ht0
        have hkm : m = 0 := by rcases HR.out with h | h | h <;> simp_all
        subst hkm
        have kc0 : ∀ w : World, (convert 90 9 (.slice (some ⟨w.heap.size, 0, none⟩) 1 1)).run Tryd.prog (w.alloc (.cells #[.int .u8 48] 5)) = .ok (.string (Wb.S [Wb.dig 0])) (w.alloc (.cells #[.int .u8 48] 5)) := kc
        clear kc
        have Hs := Lib.hid (show Wb.digs 0 = [Wb.dig 0] from Wb.digs_lt (by omega))
        go_wp2
        go_roundw
        case rel =>
          exact ⟨0, [Wb.dig 0], by omega, by go_num, rfl, by simp, by go_grown, .inr (.inl ⟨by simp, rfl, Hs.out.symm⟩)⟩
        case measure => simp [intOf, Wb.strOf, go_sem]
      · have ht1 : t.isEmpty = false := by simpa using ht0
        have ht2 : (t == []) = false := by simpa using ht0
        have hq := Lib.hid (show t = Wb.digs m by rcases HR.out with h | h | h <;> simp_all)
        go_wp2
        go_ret
        exact ⟨Wb.ret_str hq.out, hb⟩


theorem parse_any (l : List UInt8) (hlen : l.length ≤ 9223372036854775807) (w : World) :
    Calls Tryd.prog 56 #[.string (Wb.S l)] w fun e w' => e = Two (Wb.parse l) ∧ w = w' := by
  go_enter Tryd.func56, Tryd.ntmps56
  go_wp2
  go_loop [4, 5, 10] (fun c bl i => ∃ (k : Nat) (acc : Int) (b : Bool), k ≤ l.length ∧ i = .int .i64 k ∧ c = .int .i64 acc ∧ bl = .bool b ∧ 0 ≤ acc ∧ acc ≤ 11258999068426250 ∧ Wb.scan 0 false true l = Wb.scan acc b (decide (k = 0)) (l.drop k)) (fun _ _ i => l.length - (intOf i).toNat)
  case atStart => exact ⟨0, 0, false, by omega, rfl, rfl, rfl, by omega, by omega, rfl⟩
  case round =>
    obtain ⟨k, acc, bl, hk, rfl, rfl, rfl, ha0, ha1, hs⟩ := hrel
    have HS := Lib.hid hs; clear hs
    by_cases hlt : k < l.length
    · obtain ⟨b, hb, hd⟩ := Wb.byte_ex hlt
      have hb8 : (b.toNat : Int) < 256 := by have := b.toNat_lt; omega
      have HD := Lib.hid hd; clear hd
      by_cases hk0 : k = 0
      · subst hk0
        have HS0 := Lib.hid (show Wb.scan 0 false true l = Wb.scan acc bl true (b :: l.drop (0 + 1)) by rw [HS.out, HD.out]; rfl)
        cases h45 : ((b.toNat : Int) == 45)
        · have g45 := Lib.hid (show ¬ (b.toNat : Int) = 45 by simpa using h45)
          cases h46 : ((b.toNat : Int) == 46)
          · have g46 := Lib.hid (show ¬ (b.toNat : Int) = 46 by simpa using h46)
            by_cases h48 : (b.toNat : Int) < 48
            · have H := Lib.hid (Wb.parse_scan_none (HS0.out.trans (Wb.stepBad (by simp [g45.out]) g46.out (.inl h48) _)))
              go_wp2
              go_ret2
              exact ⟨by rw [H.out]; rfl, rfl⟩
            · have d48 : decide ((b.toNat : Int) < 48) = false := by simpa using h48
              by_cases h57 : 57 < (b.toNat : Int)
              · have H := Lib.hid (Wb.parse_scan_none (HS0.out.trans (Wb.stepBad (by simp [g45.out]) g46.out (.inr (.inl h57)) _)))
                go_wp2
                go_ret2
                exact ⟨by rw [H.out]; rfl, rfl⟩
              · have d57 : decide (57 < (b.toNat : Int)) = false := by simpa using h57
                by_cases hm : 1125899906842624 < acc
                · have H := Lib.hid (Wb.parse_scan_none (HS0.out.trans (Wb.stepBad (by simp [g45.out]) g46.out (.inr (.inr hm)) _)))
                  go_wp2
                  go_ret2
                  exact ⟨by rw [H.out]; rfl, rfl⟩
                · have dm : decide (1125899906842624 < acc) = false := by simpa using hm
                  have H := Lib.hid (HS0.out.trans (Wb.stepDig (by omega) (by omega) (by omega) bl true _))
                  go_wp2
                  go_round
                  case rel => exact ⟨0 + 1, _, bl, by omega, by go_num, rfl, rfl, by omega, by omega, H.out⟩
                  case measure => simp [intOf]; omega
          · have g46 := Lib.hid (show (b.toNat : Int) = 46 by simpa using h46)
            go_wp2
            go_round
            case rel => exact ⟨0 + 1, acc, bl, by omega, by go_num, rfl, rfl, ha0, ha1, HS0.out.trans (Wb.step46 g46.out _ _ _ _)⟩
            case measure => simp [intOf]; omega
        · have g45 := Lib.hid (show (b.toNat : Int) = 45 by simpa using h45)
          go_wp2
          go_round
          case rel => exact ⟨0 + 1, acc, true, by omega, by go_num, rfl, rfl, ha0, ha1, HS0.out.trans (Wb.step45 g45.out _ _ _)⟩
          case measure => simp [intOf]; omega
      · have hki : ((k : Int) == 0) = false := by simpa using hk0
        have hkn : (k == 0) = false := by simpa using hk0
        have HS0 := Lib.hid (show Wb.scan 0 false true l = Wb.scan acc bl false (b :: l.drop (k + 1)) by rw [HS.out, HD.out, decide_eq_false hk0])
        cases h46 : ((b.toNat : Int) == 46)
        · have g46 := Lib.hid (show ¬ (b.toNat : Int) = 46 by simpa using h46)
          by_cases h48 : (b.toNat : Int) < 48
          · have H := Lib.hid (Wb.parse_scan_none (HS0.out.trans (Wb.stepBad (by simp) g46.out (.inl h48) _)))
            go_wp2
            go_ret2
            exact ⟨by rw [H.out]; rfl, rfl⟩
          · have d48 : decide ((b.toNat : Int) < 48) = false := by simpa using h48
            by_cases h57 : 57 < (b.toNat : Int)
            · have H := Lib.hid (Wb.parse_scan_none (HS0.out.trans (Wb.stepBad (by simp) g46.out (.inr (.inl h57)) _)))
              go_wp2
              go_ret2
              exact ⟨by rw [H.out]; rfl, rfl⟩
            · have d57 : decide (57 < (b.toNat : Int)) = false := by simpa using h57
              by_cases hm : 1125899906842624 < acc
              · have H := Lib.hid (Wb.parse_scan_none (HS0.out.trans (Wb.stepBad (by simp) g46.out (.inr (.inr hm)) _)))
                go_wp2
                go_ret2
                exact ⟨by rw [H.out]; rfl, rfl⟩
              · have dm : decide (1125899906842624 < acc) = false := by simpa using hm
                have H := Lib.hid (HS0.out.trans (Wb.stepDig (by omega) (by omega) (by omega) bl false _))
                go_wp2
                go_round
                case rel => exact ⟨k + 1, _, bl, by omega, by go_num, rfl, rfl, by omega, by omega, H.out⟩
                case measure => simp [intOf]; omega
        · have g46 := Lib.hid (show (b.toNat : Int) = 46 by simpa using h46)
          go_wp2
          go_round
          case rel => exact ⟨k + 1, acc, bl, by omega, by go_num, rfl, rfl, ha0, ha1, HS0.out.trans (Wb.step46 g46.out _ _ _ _)⟩
          case measure => simp [intOf]; omega
    · have HE := Lib.hid (show Wb.scan 0 false true l = some (acc, bl) by rw [HS.out, List.drop_of_length_le (by omega)]; rfl)
      clear HS
      by_cases hl0 : l = []
      · subst hl0
        have H := Lib.hid Wb.parse_nil
        cases bl
        all_goals
          go_wp2
          go_ret2
          exact ⟨by rw [H.out]; rfl, rfl⟩
      · have hl1 : l.isEmpty = false := by simpa using hl0
        have hl2 : (l == []) = false := by simpa using hl0
        have HL := Lib.hid hl0; clear hl0
        cases bl
        · cases ht : (Wb.text acc == l)
          · have H := Lib.hid (Wb.parse_scan_not HE.out (by simpa using ht))
            go_wp2_with (go_at_call 35; refine (text_any _ _).mono ?_; rintro e w' ⟨rfl, rfl⟩)
            go_ret2
            exact ⟨by rw [H.out]; rfl, rfl⟩
          · have H := Lib.hid (Wb.parse_scan_ok HL.out (v := acc) (by simpa using ht))
            go_wp2_with (go_at_call 35; refine (text_any _ _).mono ?_; rintro e w' ⟨rfl, rfl⟩)
            go_ret2
            exact ⟨by rw [H.out]; rfl, rfl⟩
        · cases ht : (Wb.text (-acc) == l)
          · have H := Lib.hid (Wb.parse_scan_not HE.out (by simpa using ht))
            go_wp2_with (go_at_call 35; refine (text_any _ _).mono ?_; rintro e w' ⟨rfl, rfl⟩)
            go_ret2
            exact ⟨by rw [H.out]; rfl, rfl⟩
          · have H := Lib.hid (Wb.parse_scan_ok HL.out (v := -acc) (by simpa using ht))
            go_wp2_with (go_at_call 35; refine (text_any _ _).mono ?_; rintro e w' ⟨rfl, rfl⟩)
            go_ret2
            exact ⟨by rw [H.out]; rfl, rfl⟩

end Go.Proofs.YtpiedhjjpmmomaaDoor
