/- Chapter 27: the reference's head. -/
import Derived.Test.YtpiedhjjpmmomaaDoorSlip23
namespace Go.Proofs.YtpiedhjjpmmomaaDoor
open Go.RowKit
set_option maxRecDepth 4000

theorem at_then24 {K : Act → World → Prop} {Q : Exit → Act → World → Prop} {e : Exit} {a : Act} {w : World} (h : ∀ w', w' = w → Exit.then K Q e a w') : Exit.then K Q e a w := h w rfl
/-- what the reference's 'head' comes to -/
def RHeadV : Option (Int × Int) → Value
  | none => .tuple #[.int .i64 0, .int .i64 0, .bool false]
  | some p => .tuple #[.int .i64 p.1, .int .i64 p.2, .bool true]
theorem numOk_two {b : List UInt8} (h1 : Wb.numOk 1 b = true) (h2 : 2 ≤ b.length) : Wb.numOk 2 b = true := by
  rw [Wb.numOk_iff] at h1 ⊢; exact ⟨h2, h1.2⟩

set_option maxHeartbeats 2000000 in
theorem rhead_any (s : List UInt8) (hs : s.length < 4294967281) (w : World) :
    Calls Tryd.prog 42 #[.string (Wb.S s)] w fun e w' => e = .returned (RHeadV (Wb.headOf s)) ∧ Wb.Ext w w' := by
  obtain ⟨L, hL⟩ : ∃ L, Wb.splitOn 32 s = L := ⟨_, rfl⟩
  have hle : ∀ a ∈ L, a.length < 4294967281 := fun a ha => by have := Wb.splitOn_le (c := 32) (l := s) (a := a) (by rw [hL]; exact ha); omega
  have HLE := Lib.hid hle
  have HL := Lib.hid hL
  clear hL hle
  go_enter Tryd.func42, Tryd.ntmps42
  go_wp2_with fail
  refine (rcut_any s 32 hs _).mono ?_; rintro e w1 ⟨g, cap, rfl, hst, hb1⟩
  rw [HL.out] at hst ⊢
  by_cases h2 : L.length = 2
  case neg =>
    have h2i : ((L.length : Int) != 2) = true := by simp; omega
    have H := Lib.hid (show Wb.headOf s = none from Wb.head_ref_two fun w1 e => h2 (by rw [HL.out] at e; rw [e]; rfl))
    go_wp2
    go_ret3
    exact ⟨by rw [H.out]; rfl, by (repeat' (first | (with_reducible assumption) | (with_reducible exact Wb.Ext.refl _) | (with_reducible refine Wb.Ext.drew ?_) | (with_reducible refine Wb.Ext.drewN ?_ _) | (with_reducible refine Wb.Ext.alloc ?_ _) | (with_reducible refine Wb.Ext.trans ?_ (by assumption))))⟩
  obtain ⟨w0, v, rfl⟩ : ∃ a b, L = [a, b] := by
    match L, h2 with
    | [a, b], _ => exact ⟨a, b, rfl⟩
  have s0 : w1.cell? ⟨g, 0, none⟩ = some (.string (Wb.S w0)) := by have := hst 0 w0 rfl; simpa using this
  have s1 : w1.cell? ⟨g, 1, none⟩ = some (.string (Wb.S v)) := by have := hst 1 v rfl; simpa using this
  have hvl := HLE.out v (by simp)
  clear hst h2 HLE
  simp only [List.length_cons, List.length_nil]
  cases hw : (w0 == [115, 108, 105, 112])
  case false =>
    have H := Lib.hid (show Wb.headOf s = none from Wb.head_ref_two fun w1 e => by rw [HL.out] at e; simp at e; simp [e.1] at hw)
    go_wp2
    go_ret3
    exact ⟨by rw [H.out]; rfl, by (repeat' (first | (with_reducible assumption) | (with_reducible exact Wb.Ext.refl _) | (with_reducible refine Wb.Ext.drew ?_) | (with_reducible refine Wb.Ext.drewN ?_ _) | (with_reducible refine Wb.Ext.alloc ?_ _) | (with_reducible refine Wb.Ext.trans ?_ (by assumption))))⟩
  obtain rfl : w0 = [115, 108, 105, 112] := by simpa using hw
  clear hw
  obtain ⟨D, hD⟩ : ∃ D, Wb.splitOn 47 v = D := ⟨_, rfl⟩
  have HD := Lib.hid hD
  clear hD
  go_wp2_with fail
  refine (rcut_any v 47 hvl _).mono ?_; rintro e w2 ⟨g2, cap2, rfl, hst, hb2⟩
  rw [HD.out] at hst ⊢
  have he2 : Wb.Ext w w2 := hb1.trans hb2
  clear s0 s1 hb1 hb2
  by_cases h2 : D.length = 2
  case neg =>
    have h2i : ((D.length : Int) != 2) = true := by simp; omega
    have H := Lib.hid (show Wb.headOf s = none from Wb.head_ref_day HL.out fun a b e => h2 (by rw [HD.out] at e; rw [e]; rfl))
    go_wp2
    go_ret3
    exact ⟨by rw [H.out]; rfl, he2⟩
  obtain ⟨a, b, rfl⟩ : ∃ a b, D = [a, b] := by
    match D, h2 with
    | [a, b], _ => exact ⟨a, b, rfl⟩
  have s0 : w2.cell? ⟨g2, 0, none⟩ = some (.string (Wb.S a)) := by have := hst 0 a rfl; simpa using this
  have s1 : w2.cell? ⟨g2, 1, none⟩ = some (.string (Wb.S b)) := by have := hst 1 b rfl; simpa using this
  clear hst h2
  simp only [List.length_cons, List.length_nil]
  have HR := Lib.hid (Wb.head_ref HL.out HD.out)
  obtain ⟨v1, hv1⟩ : ∃ x, rnum a = x := ⟨_, rfl⟩
  obtain ⟨v2, hv2⟩ : ∃ x, rnum b = x := ⟨_, rfl⟩
  have HV1 := Lib.hid hv1
  have HV2 := Lib.hid hv2
  clear hv1 hv2
  go_wp2_with fail
  go_region_held3 (fun w' => w'.cell? ⟨g2, 0, none⟩ = some (.string (Wb.S a)) ∧ w'.cell? ⟨g2, 1, none⟩ = some (.string (Wb.S b))) (first | with_reducible exact ⟨s0, s1⟩ | assumption | go_keep) (first | (go_at_call 57; go_fit (rnumber_any a _); rintro e w' ⟨rfl, rfl⟩; rw [HV1.out]) | (go_at_call 57; go_fit (rnumber_any b _); rintro e w' ⟨rfl, rfl⟩; rw [HV2.out]))
  all_goals
    refine at_then24 fun w3 hw3 => ?_
    have he23 : Wb.Ext w2 w3 := by rw [hw3]; (repeat' (first | (with_reducible assumption) | (with_reducible exact Wb.Ext.refl _) | (with_reducible refine Wb.Ext.drew ?_) | (with_reducible refine Wb.Ext.drewN ?_ _) | (with_reducible refine Wb.Ext.alloc ?_ _) | (with_reducible refine Wb.Ext.trans ?_ (by assumption))))
    have s0 := he23.keep s0
    have s1 := he23.keep s1
    have he3 : Wb.Ext w w3 := he2.trans he23
    clear hw3 he23
    cases n1 : Wb.numOk 1 a
    case false =>
      have hv : v1 = -1 := by rw [← HV1.out, rnum, n1]; rfl
      have H := Lib.hid (show Wb.headOf s = none by rw [HR.out, n1, if_neg (by simp)])
      subst hv
      go_wp2
      go_ret3
      exact ⟨by rw [H.out]; rfl, he3⟩
    have hv : v1 = (Wb.val a : Int) := by rw [← HV1.out, rnum, n1]; rfl
    subst hv
    cases n2 : Wb.numOk 1 b
    case false =>
      have hv : v2 = -1 := by rw [← HV2.out, rnum, n2]; rfl
      have H := Lib.hid (show Wb.headOf s = none by rw [HR.out, if_neg]; intro h; have h2 := Wb.numOk_iff.1 h.2.1; rw [Wb.numOk_iff.2 ⟨by omega, h2.2⟩] at n2; cases n2)
      have hval : decide ((Wb.val a : Int) < 0) = false := by simp
      subst hv
      go_wp2
      go_ret3
      exact ⟨by rw [H.out]; rfl, he3⟩
    have hv : v2 = (Wb.val b : Int) := by rw [← HV2.out, rnum, n2]; rfl
    subst hv
    have la := (Wb.numOk_iff.1 n1).1
    have la7 := (Wb.numOk_iff.1 n1).2.1
    have lb := (Wb.numOk_iff.1 n2).1
    have lb7 := (Wb.numOk_iff.1 n2).2.1
    have N1 := Lib.hid n1
    have N2 := Lib.hid n2
    clear n1 n2 HV1 HV2
    have hva : decide ((Wb.val a : Int) < 0) = false := by simp
    have hvb : decide ((Wb.val b : Int) < 0) = false := by simp
    have ha0 : 0 < a.length := by omega
    have hb0 : 0 < b.length := by omega
    have u48 : ∀ x : UInt8, ((x.toNat : Int) == 48) = false → x ≠ 48 := fun x h e => by subst e; simp at h
    have v48 : ∀ x : UInt8, ((x.toNat : Int) == 48) = true → x = 48 := fun x h => UInt8.toNat_inj.1 (by have h2 := beq_iff_eq.1 h; show x.toNat = 48; omega)
    have HU := Lib.hid u48
    have HV := Lib.hid v48
    clear u48 v48
    have HA1 := Lib.hid (show (a.length = 1 ∨ Wb.byteAt a 0 ≠ 48) ∨ (1 < a.length ∧ ((Wb.byteAt a 0).toNat : Int) = 48) by
      by_cases h1 : a.length = 1
      · exact .inl (.inl h1)
      · cases hz : (((Wb.byteAt a 0).toNat : Int) == 48)
        · exact .inl (.inr (HU.out _ hz))
        · exact .inr ⟨by omega, beq_iff_eq.1 hz⟩)
    have HB1 := Lib.hid (show (b.length = 2 ∨ Wb.byteAt b 0 ≠ 48) ∨ (b.length ≠ 2 ∧ Wb.byteAt b 0 = 48) by
      by_cases h1 : b.length = 2
      · exact .inl (.inl h1)
      · by_cases hz : Wb.byteAt b 0 = 48
        · exact .inr ⟨h1, hz⟩
        · exact .inl (.inr hz))
    by_cases c1 : 1 < a.length ∧ (((Wb.byteAt a 0).toNat : Int) == 48) = true
    case pos =>
      obtain ⟨c11, c12⟩ := c1
      have c13 : (1 : Int) < a.length := by omega
      have H := Lib.hid (show Wb.headOf s = none by rw [HR.out, if_neg]; intro h; exact h.2.2.1.elim (fun k => by omega) (fun k => k (HV.out _ c12)))
      go_wp2
      go_ret3
      exact ⟨by rw [H.out]; rfl, he3⟩
    have C1 := Lib.hid (show a.length = 1 ∨ Wb.byteAt a 0 ≠ 48 by
      rcases HA1.out with h | ⟨h1, h2⟩
      · exact h
      · exact absurd ⟨h1, by simpa using h2⟩ c1)
    have c1b : (decide ((1 : Int) < a.length) = false) ∨ (decide ((1 : Int) < a.length) = true ∧ (((Wb.byteAt a 0).toNat : Int) == 48) = false) := by
      by_cases h1 : 1 < a.length
      · right
        refine ⟨by simp; omega, ?_⟩
        cases hz : (((Wb.byteAt a 0).toNat : Int) == 48)
        · rfl
        · exact absurd ⟨h1, hz⟩ c1
      · left; simp; omega
    clear c1 HA1
    by_cases b2 : b.length < 2
    case pos =>
      have b2i : (b.length : Int) < 2 := by omega
      have H := Lib.hid (show Wb.headOf s = none by rw [HR.out, if_neg]; intro h; have := (Wb.numOk_iff.1 h.2.1).1; omega)
      rcases c1b with h1 | ⟨h1, h2⟩
      all_goals
        go_wp2
        go_ret3
        exact ⟨by rw [H.out]; rfl, he3⟩
    have b2d : decide ((b.length : Int) < 2) = false := decide_eq_false (by omega)
    have N3 := Lib.hid (numOk_two N2.out (Nat.le_of_not_lt b2))
    have HR2 := Lib.hid (show Wb.headOf s = if b.length = 2 ∨ Wb.byteAt b 0 ≠ 48 then some ((Wb.val a : Int), (Wb.val b : Int)) else none by
      rw [HR.out]
      by_cases hq : b.length = 2 ∨ Wb.byteAt b 0 ≠ 48
      · rw [if_pos ⟨N1.out, N3.out, C1.out, hq⟩, if_pos hq]
      · rw [if_neg (fun h => hq h.2.2.2), if_neg hq])
    have b2n : 2 ≤ b.length := Nat.le_of_not_lt b2
    clear b2 HB1 HR
    by_cases b3 : b.length = 2
    · have b3d : decide ((2 : Int) < b.length) = false := by simp; omega
      have H := Lib.hid (show Wb.headOf s = some ((Wb.val a : Int), (Wb.val b : Int)) by rw [HR2.out, if_pos (.inl b3)])
      clear b3
      rcases c1b with h1 | ⟨h1, h2⟩
      all_goals
        go_wp2
        go_ret3
        exact ⟨by rw [H.out]; rfl, he3⟩
    · have b3d : (2 : Int) < b.length := by omega
      cases hz : (((Wb.byteAt b 0).toNat : Int) == 48)
      · have H := Lib.hid (show Wb.headOf s = some ((Wb.val a : Int), (Wb.val b : Int)) by rw [HR2.out, if_pos (.inr (HU.out _ hz))])
        clear b3
        rcases c1b with h1 | ⟨h1, h2⟩
        all_goals
          go_wp2
          go_ret3
          exact ⟨by rw [H.out]; rfl, he3⟩
      · have H := Lib.hid (show Wb.headOf s = none by rw [HR2.out, if_neg]; intro h; exact h.elim b3 (fun k => k (HV.out _ hz)))
        clear b3
        rcases c1b with h1 | ⟨h1, h2⟩
        all_goals
          go_wp2
          go_ret3
          exact ⟨by rw [H.out]; rfl, he3⟩

end Go.Proofs.YtpiedhjjpmmomaaDoor
