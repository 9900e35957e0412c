/- The reference of chapter 02: Divided (product's answer is asked for as a premise here). -/
import Derived.Test.YtheofklbmknipaaRef2
import Derived.Test.YtheofklbmknipaaPlainDvd
namespace Go.Proofs.Ytheofklbmknipaa
open Go.RowKit Go.Lib
set_option maxRecDepth 8000

/-- bits in memory, the lowest first -/
def BitsV (w : World) (v : Value) (l : List Nat) : Prop := ∃ g c, v = .slice (some ⟨g, 0, none⟩) 128 c ∧ l.length = 128 ∧ (∀ x ∈ l, x ≤ 1) ∧ ∀ j x, l[j]? = some x → w.cell? ⟨g, j, none⟩ = some (.int .u64 (x : Nat))
set_option maxHeartbeats 4000000 in
theorem divided_of (hp : ∀ (a b : Nat) (w : World), a < 18446744073709551616 → b < 18446744073709551616 → Calls Try.prog 75 #[.int .u64 a, .int .u64 b] w fun e w' => ∃ v, e = .returned v ∧ ∃ l, BitsV w' v l ∧ Wb.valB l = a * b ∧ Wb.Ext w w')
    (a b d : Nat) (ha : a < 18446744073709551616) (hb : b < 18446744073709551616) (hd : 0 < d) (hd2 : d < 9223372036854775808) (w : World) :
    Calls Try.prog 56 #[.int .u64 a, .int .u64 b, .int .u64 d] w fun e w' => ∃ (q : Nat) (few : Bool), e = .returned (.tuple #[.int .u64 q, .int .u64 ((a * b % d : Nat) : Int), .bool few]) ∧ Wb.DvI d (a * b) q few ∧ q < 18446744073709551616 ∧ Wb.Ext w w' := by
  go_enter Try.func56, Try.ntmps56
  go_wp2_with fail
  go_fit (hp a b _ ha hb); rintro e w1 ⟨v, rfl, l, ⟨g, c, rfl, hl, hbits, hcells⟩, hv, hb1⟩
  have HC := Lib.hid hcells
  have HB := Lib.hid hbits
  have HV := Lib.hid hv
  clear hp hcells hbits hv
  go_wp2_with fail
  go_loopw [10, 11, 12, 13] (fun qv rv fv iv wr => ∃ (j q r : Nat) (few : Bool) (z : Int), j ≤ 128 ∧ iv = .int .i64 z ∧ Hid (z = (j : Int) - 1) ∧ qv = .int .u64 q ∧ rv = .int .u64 r ∧ fv = .bool few ∧ q < 18446744073709551616 ∧ Hid (r = Wb.valB (l.drop j) % d) ∧ Hid (Wb.DvI d (Wb.valB (l.drop j)) q few) ∧ w1 = wr) (fun _ _ _ iv _ => ((intOf iv) + 1).toNat)
  case atStart =>
    have h0 : Wb.valB (l.drop 128) = 0 := by rw [List.drop_eq_nil_of_le (by omega)]; rfl
    exact ⟨128, 0, 0, true, 127, by omega, rfl, Lib.hid (by omega), rfl, rfl, rfl, by omega, Lib.hid (by rw [h0]; simp), Lib.hid (by rw [h0]; exact Wb.dvI_start d), by first | rfl | trivial⟩
  case round =>
    obtain ⟨j, q, r, few, z, hj, rfl, HZ, rfl, rfl, rfl, hq, HR, HI, rfl⟩ := hrel
    by_cases hj0 : j = 0
    case pos =>
      subst hj0
      obtain rfl : z = -1 := by have := HZ.out; omega
      have HR2 := Lib.hid (show a * b % d = r by have := HR.out; rw [List.drop_zero, HV.out] at this; exact this.symm)
      have HI2 := Lib.hid (show Wb.DvI d (a * b) q few by have := HI.out; rw [List.drop_zero, HV.out] at this; exact this)
      go_wp2
      refine bodyPost_ret (v := .tuple #[.int .u64 q, .int .u64 r, .bool few]) (by simp [results, Try.results56, go_sem]) rfl ⟨q, few, by rw [HR2.out], HI2.out, hq, hb1⟩
    obtain ⟨i, rfl⟩ : ∃ i, j = i + 1 := ⟨j - 1, by omega⟩
    obtain rfl : z = (i : Int) := by have := HZ.out; omega
    have hi : decide ((0 : Int) ≤ i) = true := by simp
    have hil : i < l.length := by omega
    have hi2 : (i : Int) < 128 := by omega
    obtain ⟨x, hx⟩ := Wb.get_ex hil
    have hx1 : x ≤ 1 := HB.out x (List.mem_of_getElem? hx)
    have c0 := HC.out i x hx
    have hP := Wb.valB_drop hx
    obtain ⟨P, hPP⟩ : ∃ P, Wb.valB (l.drop (i + 1)) = P := ⟨_, rfl⟩
    rw [hPP] at hP
    have hr : r < d := by have := HR.out; rw [this]; exact Nat.mod_lt _ hd
    have hrP : r = P % d := by have := HR.out; rw [hPP] at this; exact this
    have HIP := Lib.hid (show Wb.DvI d P q few by have := HI.out; rw [hPP] at this; exact this)
    have HP := Lib.hid hP
    obtain ⟨s1, s2⟩ := Wb.dv_step (P := P) (b := x) hd hx1
    rw [← hrP] at s1 s2
    have HS2 := Lib.hid s2
    have HrP := Lib.hid hrP
    obtain ⟨q2, hq2, hq2b⟩ : ∃ q2 : Nat, IntKind.u64.wrap (2 * (q : Int)) = q2 ∧ q2 < 18446744073709551616 := ⟨(2 * q) % 18446744073709551616, by rw [IntKind.wrap_u64]; omega, by omega⟩
    obtain ⟨q3, hq3, hq3b⟩ : ∃ q3 : Nat, IntKind.u64.wrap ((q2 : Int) + 1) = q3 ∧ q3 < 18446744073709551616 := ⟨(q2 + 1) % 18446744073709551616, by rw [IntKind.wrap_u64]; omega, by omega⟩
    clear hx hP hPP s1 s2 hrP
    by_cases hsm : q < 2305843009213693952
    · obtain rfl : q2 = 2 * q := by rw [IntKind.wrap_u64] at hq2; omega
      obtain rfl : q3 = 2 * q + 1 := by rw [IntKind.wrap_u64] at hq3; omega
      have ds : decide ((q : Int) < 2305843009213693952) = true := by simp; omega
      clear hq2 hq3
      by_cases hc : d ≤ 2 * r + x
      · have dc : decide ((d : Int) ≤ 2 * (r : Int) + (x : Int)) = true := by simp; omega
        have HN := Lib.hid (Wb.dvI_step hd hx1 HIP.out (2 * q + 1) (fun _ _ => by rw [← HrP.out, if_pos hc]))
        have HM := Lib.hid (show 2 * r + x - d = (2 * P + x) % d by rw [HS2.out, if_pos hc])
        cases few <;> (go_wp2; go_roundw; (case rel => exact ⟨i, 2 * q + 1, 2 * r + x - d, _, (i : Int) - 1, by omega, by go_num, Lib.hid rfl, by go_num, by go_num, rfl, by omega, Lib.hid (by rw [HP.out]; exact HM.out), Lib.hid (by rw [HP.out]; have := HN.out; rw [decide_eq_true hsm] at this; exact this), by first | rfl | trivial⟩); (case measure => first | (simp [intOf]; done) | (simp [intOf]; omega)))
      · have dc : decide ((d : Int) ≤ 2 * (r : Int) + (x : Int)) = false := by simp; omega
        have HN := Lib.hid (Wb.dvI_step hd hx1 HIP.out (2 * q) (fun _ _ => by rw [← HrP.out, if_neg hc, Nat.add_zero]))
        have HM := Lib.hid (show 2 * r + x = (2 * P + x) % d by rw [HS2.out, if_neg hc])
        cases few <;> (go_wp2; go_roundw; (case rel => exact ⟨i, 2 * q, 2 * r + x, _, (i : Int) - 1, by omega, by go_num, Lib.hid rfl, by go_num, by go_num, rfl, by omega, Lib.hid (by rw [HP.out]; exact HM.out), Lib.hid (by rw [HP.out]; have := HN.out; rw [decide_eq_true hsm] at this; exact this), by first | rfl | trivial⟩); (case measure => first | (simp [intOf]; done) | (simp [intOf]; omega)))
    · have ds : decide ((q : Int) < 2305843009213693952) = false := by simp; omega
      by_cases hc : d ≤ 2 * r + x
      · have dc : decide ((d : Int) ≤ 2 * (r : Int) + (x : Int)) = true := by simp; omega
        have HN := Lib.hid (Wb.dvI_step hd hx1 HIP.out q3 (fun _ h => absurd h hsm))
        have HM := Lib.hid (show 2 * r + x - d = (2 * P + x) % d by rw [HS2.out, if_pos hc])
        cases few <;> (go_wp2; go_roundw; (case rel => exact ⟨i, q3, 2 * r + x - d, _, (i : Int) - 1, by omega, by go_num, Lib.hid rfl, by go_num, by go_num, rfl, by omega, Lib.hid (by rw [HP.out]; exact HM.out), Lib.hid (by rw [HP.out]; have := HN.out; rw [decide_eq_false hsm] at this; exact this), by first | rfl | trivial⟩); (case measure => first | (simp [intOf]; done) | (simp [intOf]; omega)))
      · have dc : decide ((d : Int) ≤ 2 * (r : Int) + (x : Int)) = false := by simp; omega
        have HN := Lib.hid (Wb.dvI_step hd hx1 HIP.out q2 (fun _ h => absurd h hsm))
        have HM := Lib.hid (show 2 * r + x = (2 * P + x) % d by rw [HS2.out, if_neg hc])
        cases few <;> (go_wp2; go_roundw; (case rel => exact ⟨i, q2, 2 * r + x, _, (i : Int) - 1, by omega, by go_num, Lib.hid rfl, by go_num, by go_num, rfl, by omega, Lib.hid (by rw [HP.out]; exact HM.out), Lib.hid (by rw [HP.out]; have := HN.out; rw [decide_eq_false hsm] at this; exact this), by first | rfl | trivial⟩); (case measure => first | (simp [intOf]; done) | (simp [intOf]; omega)))

end Go.Proofs.Ytheofklbmknipaa
