/- The walks of chapter 1 (cents), third part: the reference's texts; sums. -/
import Derived.Test.YtpiedhjjpmmomaaDoorCents2
import Derived.Deep.QuietTactic
import Derived.BigQuiet
namespace Go.Proofs.YtpiedhjjpmmomaaDoor
open Go.RowKit
set_option maxRecDepth 4000

theorem rtext_nn (n : Nat) (hn : n ≤ 1125899906842624) (w : World) :
    Calls Tryd.prog 47 #[.int .i64 n] w fun e w' => e = .returned (.string (Wb.S (Wb.textN n))) ∧ Wb.Ext w w' := by
  have hl := Wb.digs_length 13 (n / 100) (by omega)
  have hl1 := Wb.digs_length 0 (n / 10 % 10) (by omega)
  have hl2 := Wb.digs_length 0 (n % 10) (by omega)
  go_enter Tryd.func47, Tryd.ntmps47
  go_wp2_with (go_at_call 60; refine (digits_any _ (by omega) (by omega) _).mono ?_; rintro e w' ⟨rfl, hb⟩)
  go_ret
  exact ⟨Wb.ret_str (by simp [Wb.textN]), by repeat (first | assumption | refine Wb.Ext.trans ?_ (by assumption))⟩

theorem rtext_any (c : Int) (hf : Wb.fits c = true) (w : World) :
    Calls Tryd.prog 47 #[.int .i64 c] w fun e w' => e = .returned (.string (Wb.S (Wb.text c))) ∧ Wb.Ext w w' := by
  have hn0 := Wb.natAbs_fits hf
  by_cases h0 : c < 0
  · have H := Lib.hid (show Wb.text c = 45 :: Wb.textN c.natAbs by rw [Wb.text, if_pos hf, Wb.textZ, if_pos h0])
    obtain ⟨n, hn, hc⟩ : ∃ n : Nat, n ≤ 1125899906842624 ∧ c = -n := ⟨c.natAbs, by omega, by omega⟩
    clear hn0; subst hc
    have hl := textN_len n hn
    go_enter Tryd.func47, Tryd.ntmps47
    go_wp2_with (go_at_call 47; refine (rtext_nn n hn _).mono ?_; rintro e w' ⟨rfl, hb⟩)
    go_ret
    exact ⟨Wb.ret_str (by rw [H.out]; simp), hb⟩
  · have H := Lib.hid (show Wb.text c = Wb.textN c.natAbs by rw [Wb.text, if_pos hf, Wb.textZ, if_neg h0])
    obtain ⟨n, hn, hc⟩ : ∃ n : Nat, n ≤ 1125899906842624 ∧ c = n := ⟨c.natAbs, by omega, by omega⟩
    clear hn0; subst hc
    rw [H.out, Int.natAbs_natCast]
    exact rtext_nn n hn w


/-- what the reference's Parse comes to -/
abbrev RP (x : Int × Int) : Ending := .returned (.tuple #[.int .i64 x.1, .bool (x.2 == 0)])

set_option maxHeartbeats 1000000 in
theorem rparse_minus (t : List UInt8) (hlen : (45 :: t).length ≤ 9223372036854775807) (w : World) :
    Calls Tryd.prog 44 #[.string (Wb.S (45 :: t))] w fun e w' => e = RP (Wb.parse (45 :: t)) ∧ w = w' := by
  have HC := Lib.hid (show Wb.Case true (45 :: t) t from .inl ⟨rfl, rfl⟩)
  have hx0 : Wb.byteAt (45 :: t) 0 = 45 := Wb.byteAt_cons0 _ _
  simp only [List.length_cons] at hlen
  by_cases h4 : t.length < 4
  · have H := Lib.hid (Wb.fin_not HC.out (fun h => by have := h.1.1; omega))
    go_enter Tryd.func44, Tryd.ntmps44
    go_wp2
    go_ret2
    exact ⟨by rw [H.out]; rfl, rfl⟩
  have g4 : decide ((t.length : Int) < 4) = false := by simp; omega
  by_cases h17 : 17 < t.length
  · have H := Lib.hid (Wb.fin_not HC.out (fun h => by have := h.1.2.1; omega))
    go_enter Tryd.func44, Tryd.ntmps44
    go_wp2
    go_ret2
    exact ⟨by rw [H.out]; rfl, rfl⟩
  have g17 : decide (17 < (t.length : Int)) = false := by simp; omega
  obtain ⟨p, hp⟩ : ∃ p, Wb.byteAt t (t.length - 3) = p := ⟨_, rfl⟩
  cases hp46 : ((p.toNat : Int) != 46)
  case true =>
    have H := Lib.hid (Wb.fin_not HC.out (fun h => by have := h.1.2.2.1; rw [hp] at this; rw [this] at hp46; simp at hp46))
    go_enter Tryd.func44, Tryd.ntmps44
    go_wp2
    go_ret2
    exact ⟨by rw [H.out]; rfl, rfl⟩
  have HP := Lib.hid (show Wb.byteAt t (t.length - 3) = 46 by rw [hp]; exact (Wb.u8_eq (n := 46) (by omega)).2 (by simpa using hp46))
  go_enter Tryd.func44, Tryd.ntmps44
  go_wp2
  go_loop [5, 6] (fun n i => ∃ k : Nat, k ≤ t.length ∧ i = .int .i64 k ∧ n = .int .i64 (Wb.num t k) ∧ ∀ j, j < k → j ≠ t.length - 3 → Wb.Dg (Wb.byteAt t j)) (fun _ i => t.length - (intOf i).toNat)
  case atStart => exact ⟨0, by omega, rfl, by rw [Wb.num_zero]; rfl, by intro j h; omega⟩
  case round =>
    obtain ⟨k, hk, rfl, rfl, hdg⟩ := hrel
    have HG := Lib.hid hdg; clear hdg
    by_cases hlt : k < t.length
    · by_cases hk3 : k = t.length - 3
      · have HN := Lib.hid (Wb.num_point hk3 (by omega))
        have hki : ((k : Int) == (t.length : Int) - 3) = true := by simp; omega
        have HK := Lib.hid hk3; clear hk3
        go_wp2
        go_round
        case rel => exact ⟨k + 1, by omega, by go_num, by rw [HN.out], fun j hj h3 => by have := HK.out; exact HG.out j (by omega) h3⟩
        case measure => simp [intOf]; omega
      · have hki : ((k : Int) == (t.length : Int) - 3) = false := by simp; omega
        obtain ⟨b, hb⟩ : ∃ b, Wb.byteAt t k = b := ⟨_, rfl⟩
        have hb8 : (b.toNat : Int) < 256 := by have := b.toNat_lt; omega
        have HB := Lib.hid hb
        by_cases h48 : (b.toNat : Int) < 48
        · have H := Lib.hid (Wb.fin_not HC.out (fun h => by have := (h.1.2.2.2.1 k hlt hk3).1; rw [HB.out] at this; omega))
          go_wp2
          go_ret2
          exact ⟨by rw [H.out]; rfl, rfl⟩
        · have d48 : decide ((b.toNat : Int) < 48) = false := by simpa using h48
          by_cases h57 : 57 < (b.toNat : Int)
          · have H := Lib.hid (Wb.fin_not HC.out (fun h => by have := (h.1.2.2.2.1 k hlt hk3).2; rw [HB.out] at this; omega))
            go_wp2
            go_ret2
            exact ⟨by rw [H.out]; rfl, rfl⟩
          · have d57 : decide (57 < (b.toNat : Int)) = false := by simpa using h57
            have hn : Wb.num t k < 10000000000000000 := Nat.lt_of_lt_of_le (Wb.num_lt (by omega) hk HG.out) (Nat.pow_le_pow_right (n := 10) (j := 16) (by omega) (by omega))
            have HN : Hid (Wb.num t (k + 1) = 10 * Wb.num t k + (b.toNat - 48)) := by
              rcases Nat.lt_or_ge k (t.length - 3) with h | h
              · exact (Wb.num_left h).trans (by rw [HB.out])
              · exact (Wb.num_right (by omega) hlt).trans (by rw [HB.out])
            have HK := Lib.hid hk3; clear hk3
            go_wp2
            go_round
            case rel =>
              refine ⟨k + 1, by omega, by go_num, by rw [HN.out]; congr 1; omega, fun j hj h3 => ?_⟩
              by_cases hjk : j = k
              · subst hjk; rw [HB.out]; exact ⟨by omega, by omega⟩
              · exact HG.out j (by omega) h3
            case measure => simp [intOf]; omega
    · obtain rfl : k = t.length := by omega
      obtain ⟨b, hb⟩ : ∃ b, Wb.byteAt t 0 = b := ⟨_, rfl⟩
      have HB := Lib.hid hb
      cases hb48 : ((b.toNat : Int) == 48)
      · have HF := Lib.hid (show Wb.Form t from ⟨by omega, by omega, HP.out, HG.out, fun h => by rw [HB.out] at h; rw [h.1] at hb48; simp at hb48⟩)
        by_cases hm : 1125899906842624 < Wb.num t t.length
        · have H := Lib.hid (Wb.fin_not HC.out (fun h => by have := h.2.1; omega))
          go_wp2
          go_ret2
          exact ⟨by rw [H.out]; rfl, rfl⟩
        · have dm : decide (1125899906842624 < (Wb.num t t.length : Int)) = false := by simp; omega
          cases hz : ((Wb.num t t.length : Int) == 0)
          · have H := Lib.hid (Wb.fin_ok HC.out HF.out (by omega) (fun _ => by simp at hz; omega))
            have hz2 : (Wb.num t t.length == 0) = false := by simpa using hz
            go_wp2
            go_ret2
            exact ⟨by rw [H.out]; rfl, rfl⟩
          · have H := Lib.hid (Wb.fin_not HC.out (fun h => h.2.2 rfl (by simp at hz; omega)))
            have hz2 : (Wb.num t t.length == 0) = true := by simpa using hz
            go_wp2
            go_ret2
            exact ⟨by rw [H.out]; rfl, rfl⟩
      · by_cases ht4 : 4 < t.length
        · have H := Lib.hid (Wb.fin_not HC.out (fun h => h.1.2.2.2.2 ⟨by rw [HB.out]; exact (Wb.u8_eq (n := 48) (by omega)).2 (by simpa using hb48), ht4⟩))
          go_wp2
          go_ret2
          exact ⟨by rw [H.out]; rfl, rfl⟩
        · have HF := Lib.hid (show Wb.Form t from ⟨by omega, by omega, HP.out, HG.out, fun h => by omega⟩)
          have d4 : decide (4 < (t.length : Int)) = false := by simp; omega
          by_cases hm : 1125899906842624 < Wb.num t t.length
          · have H := Lib.hid (Wb.fin_not HC.out (fun h => by have := h.2.1; omega))
            go_wp2
            go_ret2
            exact ⟨by rw [H.out]; rfl, rfl⟩
          · have dm : decide (1125899906842624 < (Wb.num t t.length : Int)) = false := by simp; omega
            cases hz : ((Wb.num t t.length : Int) == 0)
            · have H := Lib.hid (Wb.fin_ok HC.out HF.out (by omega) (fun _ => by simp at hz; omega))
              have hz2 : (Wb.num t t.length == 0) = false := by simpa using hz
              go_wp2
              go_ret2
              exact ⟨by rw [H.out]; rfl, rfl⟩
            · have H := Lib.hid (Wb.fin_not HC.out (fun h => h.2.2 rfl (by simp at hz; omega)))
              have hz2 : (Wb.num t t.length == 0) = true := by simpa using hz
              go_wp2
              go_ret2
              exact ⟨by rw [H.out]; rfl, rfl⟩

set_option maxHeartbeats 1000000 in
theorem rparse_plain (t : List UInt8) (q : UInt8) (hq : Wb.byteAt t 0 = q) (h45 : ((q.toNat : Int) == 45) = false) (hpos : 0 < t.length) (hlen : t.length ≤ 9223372036854775807) (w : World) :
    Calls Tryd.prog 44 #[.string (Wb.S t)] w fun e w' => e = RP (Wb.parse t) ∧ w = w' := by
  have HC := Lib.hid (show Wb.Case false t t from .inr ⟨rfl, rfl, .inl (by rw [hq]; intro e; rw [e] at h45; simp at h45)⟩)
  by_cases h4 : t.length < 4
  · have H := Lib.hid (Wb.fin_not HC.out (fun h => by have := h.1.1; omega))
    go_enter Tryd.func44, Tryd.ntmps44
    go_wp2
    go_ret2
    exact ⟨by rw [H.out]; rfl, rfl⟩
  have g4 : decide ((t.length : Int) < 4) = false := by simp; omega
  by_cases h17 : 17 < t.length
  · have H := Lib.hid (Wb.fin_not HC.out (fun h => by have := h.1.2.1; omega))
    go_enter Tryd.func44, Tryd.ntmps44
    go_wp2
    go_ret2
    exact ⟨by rw [H.out]; rfl, rfl⟩
  have g17 : decide (17 < (t.length : Int)) = false := by simp; omega
  obtain ⟨p, hp⟩ : ∃ p, Wb.byteAt t (t.length - 3) = p := ⟨_, rfl⟩
  cases hp46 : ((p.toNat : Int) != 46)
  case true =>
    have H := Lib.hid (Wb.fin_not HC.out (fun h => by have := h.1.2.2.1; rw [hp] at this; rw [this] at hp46; simp at hp46))
    go_enter Tryd.func44, Tryd.ntmps44
    go_wp2
    go_ret2
    exact ⟨by rw [H.out]; rfl, rfl⟩
  have HP := Lib.hid (show Wb.byteAt t (t.length - 3) = 46 by rw [hp]; exact (Wb.u8_eq (n := 46) (by omega)).2 (by simpa using hp46))
  go_enter Tryd.func44, Tryd.ntmps44
  go_wp2
  go_loop [5, 6] (fun n i => ∃ k : Nat, k ≤ t.length ∧ i = .int .i64 k ∧ n = .int .i64 (Wb.num t k) ∧ ∀ j, j < k → j ≠ t.length - 3 → Wb.Dg (Wb.byteAt t j)) (fun _ i => t.length - (intOf i).toNat)
  case atStart => exact ⟨0, by omega, rfl, by rw [Wb.num_zero]; rfl, by intro j h; omega⟩
  case round =>
    obtain ⟨k, hk, rfl, rfl, hdg⟩ := hrel
    have HG := Lib.hid hdg; clear hdg
    by_cases hlt : k < t.length
    · by_cases hk3 : k = t.length - 3
      · have HN := Lib.hid (Wb.num_point hk3 (by omega))
        have hki : ((k : Int) == (t.length : Int) - 3) = true := by simp; omega
        have HK := Lib.hid hk3; clear hk3
        go_wp2
        go_round
        case rel => exact ⟨k + 1, by omega, by go_num, by rw [HN.out], fun j hj h3 => by have := HK.out; exact HG.out j (by omega) h3⟩
        case measure => simp [intOf]; omega
      · have hki : ((k : Int) == (t.length : Int) - 3) = false := by simp; omega
        obtain ⟨b, hb⟩ : ∃ b, Wb.byteAt t k = b := ⟨_, rfl⟩
        have hb8 : (b.toNat : Int) < 256 := by have := b.toNat_lt; omega
        have HB := Lib.hid hb
        by_cases h48 : (b.toNat : Int) < 48
        · have H := Lib.hid (Wb.fin_not HC.out (fun h => by have := (h.1.2.2.2.1 k hlt hk3).1; rw [HB.out] at this; omega))
          go_wp2
          go_ret2
          exact ⟨by rw [H.out]; rfl, rfl⟩
        · have d48 : decide ((b.toNat : Int) < 48) = false := by simpa using h48
          by_cases h57 : 57 < (b.toNat : Int)
          · have H := Lib.hid (Wb.fin_not HC.out (fun h => by have := (h.1.2.2.2.1 k hlt hk3).2; rw [HB.out] at this; omega))
            go_wp2
            go_ret2
            exact ⟨by rw [H.out]; rfl, rfl⟩
          · have d57 : decide (57 < (b.toNat : Int)) = false := by simpa using h57
            have hn : Wb.num t k < 10000000000000000 := Nat.lt_of_lt_of_le (Wb.num_lt (by omega) hk HG.out) (Nat.pow_le_pow_right (n := 10) (j := 16) (by omega) (by omega))
            have HN : Hid (Wb.num t (k + 1) = 10 * Wb.num t k + (b.toNat - 48)) := by
              rcases Nat.lt_or_ge k (t.length - 3) with h | h
              · exact (Wb.num_left h).trans (by rw [HB.out])
              · exact (Wb.num_right (by omega) hlt).trans (by rw [HB.out])
            have HK := Lib.hid hk3; clear hk3
            go_wp2
            go_round
            case rel =>
              refine ⟨k + 1, by omega, by go_num, by rw [HN.out]; congr 1; omega, fun j hj h3 => ?_⟩
              by_cases hjk : j = k
              · subst hjk; rw [HB.out]; exact ⟨by omega, by omega⟩
              · exact HG.out j (by omega) h3
            case measure => simp [intOf]; omega
    · obtain rfl : k = t.length := by omega
      have HB := Lib.hid hq
      cases hb48 : ((q.toNat : Int) == 48)
      · have HF := Lib.hid (show Wb.Form t from ⟨by omega, by omega, HP.out, HG.out, fun h => by rw [HB.out] at h; rw [h.1] at hb48; simp at hb48⟩)
        by_cases hm : 1125899906842624 < Wb.num t t.length
        · have H := Lib.hid (Wb.fin_not HC.out (fun h => by have := h.2.1; omega))
          go_wp2
          go_ret2
          exact ⟨by rw [H.out]; rfl, rfl⟩
        · have dm : decide (1125899906842624 < (Wb.num t t.length : Int)) = false := by simp; omega
          have H := Lib.hid (Wb.fin_ok HC.out HF.out (by omega) (fun x => by cases x))
          go_wp2
          go_ret2
          exact ⟨by rw [H.out]; rfl, rfl⟩
      · by_cases ht4 : 4 < t.length
        · have H := Lib.hid (Wb.fin_not HC.out (fun h => h.1.2.2.2.2 ⟨by rw [HB.out]; exact (Wb.u8_eq (n := 48) (by omega)).2 (by simpa using hb48), ht4⟩))
          go_wp2
          go_ret2
          exact ⟨by rw [H.out]; rfl, rfl⟩
        · have HF := Lib.hid (show Wb.Form t from ⟨by omega, by omega, HP.out, HG.out, fun h => by omega⟩)
          have d4 : decide (4 < (t.length : Int)) = false := by simp; omega
          by_cases hm : 1125899906842624 < Wb.num t t.length
          · have H := Lib.hid (Wb.fin_not HC.out (fun h => by have := h.2.1; omega))
            go_wp2
            go_ret2
            exact ⟨by rw [H.out]; rfl, rfl⟩
          · have dm : decide (1125899906842624 < (Wb.num t t.length : Int)) = false := by simp; omega
            have H := Lib.hid (Wb.fin_ok HC.out HF.out (by omega) (fun x => by cases x))
            go_wp2
            go_ret2
            exact ⟨by rw [H.out]; rfl, rfl⟩

theorem rparse_any (l : List UInt8) (hlen : l.length ≤ 9223372036854775807) (w : World) :
    Calls Tryd.prog 44 #[.string (Wb.S l)] w fun e w' => e = RP (Wb.parse l) ∧ w = w' := by
  match l, hlen with
  | [], _ =>
    have H := Lib.hid Wb.parse_nil
    go_enter Tryd.func44, Tryd.ntmps44
    go_wp2
    go_ret2
    exact ⟨by rw [H.out]; rfl, rfl⟩
  | q :: t, hlen =>
    cases h : ((q.toNat : Int) == 45)
    · exact rparse_plain (q :: t) q (Wb.byteAt_cons0 _ _) h (by simp) hlen w
    · obtain rfl : q = 45 := (Wb.u8_eq (b := q) (n := 45) (by omega)).2 (by simpa using h)
      exact rparse_minus t hlen w

end Go.Proofs.YtpiedhjjpmmomaaDoor
