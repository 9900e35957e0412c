/- Chapter 27: the reference's Check. -/
import Derived.Test.YtdfmlgjemfcmlaaSlip4
namespace Go.Proofs.Ytdfmlgjemfcmlaa
open Go.RowKit
set_option maxRecDepth 4000

set_option maxHeartbeats 2000000 in
theorem rcheck_any (y i : Int) (v : Value) (l : List Wb.Ln) (w : World) (hl : Lns w v l) (hs : Sized l) :
    Calls Try.prog 52 #[.agg #[.int .i64 y, .int .i64 i, v]] w fun e w' => e = .returned (.int .i64 (Wb.check y i l)) ∧ Wb.Ext w w' := by
  have HS := Lib.hid hs
  have hlen := hs.1
  clear hs
  obtain ⟨a, cap, rfl⟩ := hl.shape
  have HL := Lib.hid hl; clear hl
  by_cases hy : y < 1900
  · have H := Lib.hid (show Wb.check y i l = 2 by rw [Wb.check, if_pos (by omega)])
    go_enter Try.func52, Try.ntmps52
    go_wp2
    go_ret
    exact ⟨by rw [H.out]; rfl, by (repeat' (first | (with_reducible assumption) | (with_reducible exact Wb.Ext.refl _) | (with_reducible refine Wb.Ext.drew ?_) | (with_reducible refine Wb.Ext.drewN ?_ _) | (with_reducible refine Wb.Ext.alloc ?_ _) | (with_reducible refine Wb.Ext.trans ?_ (by assumption))))⟩
  · have dy : decide (y < 1900) = false := by simpa using hy
    by_cases hy2 : 2199 < y
    · have H := Lib.hid (show Wb.check y i l = 2 by rw [Wb.check, if_pos (by omega)])
      go_enter Try.func52, Try.ntmps52
      go_wp2
      go_ret
      exact ⟨by rw [H.out]; rfl, by (repeat' (first | (with_reducible assumption) | (with_reducible exact Wb.Ext.refl _) | (with_reducible refine Wb.Ext.drew ?_) | (with_reducible refine Wb.Ext.drewN ?_ _) | (with_reducible refine Wb.Ext.alloc ?_ _) | (with_reducible refine Wb.Ext.trans ?_ (by assumption))))⟩
    · have dy2 : decide (2199 < y) = false := by simpa using hy2
      by_cases hi : i < 1
      · have H := Lib.hid (show Wb.check y i l = 2 by rw [Wb.check, if_pos (by omega)])
        go_enter Try.func52, Try.ntmps52
        go_wp2
        go_ret
        exact ⟨by rw [H.out]; rfl, by (repeat' (first | (with_reducible assumption) | (with_reducible exact Wb.Ext.refl _) | (with_reducible refine Wb.Ext.drew ?_) | (with_reducible refine Wb.Ext.drewN ?_ _) | (with_reducible refine Wb.Ext.alloc ?_ _) | (with_reducible refine Wb.Ext.trans ?_ (by assumption))))⟩
      · have di : decide (i < 1) = false := by simpa using hi
        by_cases hi2 : 400 < i
        · have H := Lib.hid (show Wb.check y i l = 2 by rw [Wb.check, if_pos (by omega)])
          go_enter Try.func52, Try.ntmps52
          go_wp2
          go_ret
          exact ⟨by rw [H.out]; rfl, by (repeat' (first | (with_reducible assumption) | (with_reducible exact Wb.Ext.refl _) | (with_reducible refine Wb.Ext.drew ?_) | (with_reducible refine Wb.Ext.drewN ?_ _) | (with_reducible refine Wb.Ext.alloc ?_ _) | (with_reducible refine Wb.Ext.trans ?_ (by assumption))))⟩
        · have di2 : decide (400 < i) = false := by simpa using hi2
          by_cases hm : 448 < l.length
          · have H := Lib.hid (show Wb.check y i l = 5 by rw [Wb.check, if_neg (by omega), if_pos hm])
            go_enter Try.func52, Try.ntmps52
            go_wp2
            go_ret
            exact ⟨by rw [H.out]; rfl, by (repeat' (first | (with_reducible assumption) | (with_reducible exact Wb.Ext.refl _) | (with_reducible refine Wb.Ext.drew ?_) | (with_reducible refine Wb.Ext.drewN ?_ _) | (with_reducible refine Wb.Ext.alloc ?_ _) | (with_reducible refine Wb.Ext.trans ?_ (by assumption))))⟩
          · have dm : decide (448 < (l.length : Int)) = false := by simp; omega
            have HCK := Lib.hid (show Wb.check y i l = Wb.chk none l by rw [Wb.check, if_neg (by omega), if_neg hm])
            go_enter Try.func52, Try.ntmps52
            go_wp2
            go_loopw [3] (fun iv wr => ∃ k : Nat, k ≤ l.length ∧ iv = .int .i64 k ∧ Wb.Ext (w.alloc (.cells #[.int .i64 y, .int .i64 i, .slice a l.length cap] 24)) wr ∧ Wb.chk none l = Wb.chk (Wb.ahead l k) (l.drop k)) (fun iv _ => l.length - (intOf iv).toNat)
            case atStart => exact ⟨0, by omega, rfl, by (repeat' (first | (with_reducible assumption) | (with_reducible exact Wb.Ext.refl _) | (with_reducible refine Wb.Ext.drew ?_) | (with_reducible refine Wb.Ext.drewN ?_ _) | (with_reducible refine Wb.Ext.alloc ?_ _) | (with_reducible refine Wb.Ext.trans ?_ (by assumption)))), rfl⟩
            case round =>
              obtain ⟨k, hk, rfl, hext, hchk⟩ := hrel
              have HK := Lib.hid hchk; clear hchk
              have hew : Wb.Ext w wr := by (repeat' (first | (with_reducible assumption) | (with_reducible exact Wb.Ext.refl _) | (with_reducible refine Wb.Ext.drew ?_) | (with_reducible refine Wb.Ext.drewN ?_ _) | (with_reducible refine Wb.Ext.alloc ?_ _) | (with_reducible refine Wb.Ext.trans ?_ (by assumption))))
              have hsz := hext.size
              have hz1 : w.heap.size < wr.heap.size := by simp at hsz; omega
              have hz2 : w.heap.size < wr.heap.size + 1 := by omega
              obtain ⟨hce, hfe⟩ := hext.cells
              by_cases hlt : k < l.length
              · obtain ⟨x, hx⟩ := Wb.get_ex hlt
                have HX := Lib.hid hx
                obtain ⟨b, off, rfl, hcells⟩ := (HL.out.ext hew).opened (ne_of_lt hlt)
                have HC := Lib.hid hcells; clear hcells
                obtain ⟨hcp, hcc, hcn⟩ := HC.out k x hx
                have HD := Lib.hid (Wb.drop_get hx)
                have hcl := HS.out.2 x (List.mem_of_getElem? hx)
                clear hx
                have hbs := Wb.cell_size hcp
                have hbs1 : b < wr.heap.size + 1 := by omega
                obtain ⟨xp, xc, xn⟩ := x
                simp only at hcp hcc hcn hcl
                by_cases hp : xp < 0
                · have HE := Lib.hid (show Wb.lineErr ⟨xp, xc, xn⟩ = 11 by simp [Wb.lineErr, hp])
                  have HR := Lib.hid (show Wb.check y i l = 11 by rw [HCK.out, HK.out, HD.out, Wb.chk_err (by rw [HE.out]; simp), HE.out])
                  go_wp2_with (first | (go_at_call 69; refine (name_any xc (by omega) _).mono ?_; rintro e w' ⟨rfl, rfl⟩) | (go_at_call 63; refine (fits27_any _ _).mono ?_; rintro e w' ⟨rfl, rfl⟩))
                  go_ret
                  exact ⟨by rw [HR.out]; rfl, by (repeat' (first | (with_reducible assumption) | (with_reducible exact Wb.Ext.refl _) | (with_reducible refine Wb.Ext.drew ?_) | (with_reducible refine Wb.Ext.drewN ?_ _) | (with_reducible refine Wb.Ext.alloc ?_ _) | (with_reducible refine Wb.Ext.trans ?_ (by assumption))))⟩
                · have dp : decide (xp < 0) = false := by simpa using hp
                  by_cases hp7 : 6 < xp
                  · have HE := Lib.hid (show Wb.lineErr ⟨xp, xc, xn⟩ = 11 by simp only [Wb.lineErr]; rw [if_pos (by omega)])
                    have HR := Lib.hid (show Wb.check y i l = 11 by rw [HCK.out, HK.out, HD.out, Wb.chk_err (by rw [HE.out]; simp), HE.out])
                    go_wp2_with (first | (go_at_call 69; refine (name_any xc (by omega) _).mono ?_; rintro e w' ⟨rfl, rfl⟩) | (go_at_call 63; refine (fits27_any _ _).mono ?_; rintro e w' ⟨rfl, rfl⟩))
                    go_ret
                    exact ⟨by rw [HR.out]; rfl, by (repeat' (first | (with_reducible assumption) | (with_reducible exact Wb.Ext.refl _) | (with_reducible refine Wb.Ext.drew ?_) | (with_reducible refine Wb.Ext.drewN ?_ _) | (with_reducible refine Wb.Ext.alloc ?_ _) | (with_reducible refine Wb.Ext.trans ?_ (by assumption))))⟩
                  · have dp7 : decide (6 < xp) = false := by simpa using hp7
                    have hpn : ¬ (xp < 0 ∨ 7 ≤ xp) := by omega
                    cases hc : Wb.codeOk xc
                    · have HE := Lib.hid (show Wb.lineErr ⟨xp, xc, xn⟩ = 12 by simp only [Wb.lineErr]; rw [if_neg hpn, if_pos hc])
                      have HR := Lib.hid (show Wb.check y i l = 12 by rw [HCK.out, HK.out, HD.out, Wb.chk_err (by rw [HE.out]; simp), HE.out])
                      go_wp2_with (first | (go_at_call 69; refine (name_any xc (by omega) _).mono ?_; rintro e w' ⟨rfl, rfl⟩) | (go_at_call 63; refine (fits27_any _ _).mono ?_; rintro e w' ⟨rfl, rfl⟩))
                      go_ret
                      exact ⟨by rw [HR.out]; rfl, by (repeat' (first | (with_reducible assumption) | (with_reducible exact Wb.Ext.refl _) | (with_reducible refine Wb.Ext.drew ?_) | (with_reducible refine Wb.Ext.drewN ?_ _) | (with_reducible refine Wb.Ext.alloc ?_ _) | (with_reducible refine Wb.Ext.trans ?_ (by assumption))))⟩
                    · have hcn2 : ¬ Wb.codeOk xc = false := by rw [hc]; simp
                      cases hz : (xn == 0)
                      · have hzn : ¬ xn = 0 := by simpa using hz
                        cases hf : Wb.fits xn
                        · have HE := Lib.hid (show Wb.lineErr ⟨xp, xc, xn⟩ = 9 by simp only [Wb.lineErr]; rw [if_neg hpn, if_neg hcn2, if_neg hzn, if_pos hf])
                          have HR := Lib.hid (show Wb.check y i l = 9 by rw [HCK.out, HK.out, HD.out, Wb.chk_err (by rw [HE.out]; simp), HE.out])
                          go_wp2_with (first | (go_at_call 69; refine (name_any xc (by omega) _).mono ?_; rintro e w' ⟨rfl, rfl⟩) | (go_at_call 63; refine (fits27_any _ _).mono ?_; rintro e w' ⟨rfl, rfl⟩))
                          go_ret
                          exact ⟨by rw [HR.out]; rfl, by (repeat' (first | (with_reducible assumption) | (with_reducible exact Wb.Ext.refl _) | (with_reducible refine Wb.Ext.drew ?_) | (with_reducible refine Wb.Ext.drewN ?_ _) | (with_reducible refine Wb.Ext.alloc ?_ _) | (with_reducible refine Wb.Ext.trans ?_ (by assumption))))⟩
                        · have HE0 := Lib.hid (show Wb.lineErr ⟨xp, xc, xn⟩ = 0 by simp only [Wb.lineErr]; rw [if_neg hpn, if_neg hcn2, if_neg hzn, if_neg (by rw [hf]; simp)])
                          by_cases hk0 : k = 0
                          · subst hk0
                            simp only [Nat.zero_mul, Nat.add_zero] at hcp hcc hcn
                            go_wp2_with (first | (go_at_call 69; refine (name_any xc (by omega) _).mono ?_; rintro e w' ⟨rfl, rfl⟩) | (go_at_call 63; refine (fits27_any _ _).mono ?_; rintro e w' ⟨rfl, rfl⟩))
                            go_roundw
                            case rel =>
                              refine ⟨0 + 1, by omega, by go_num, by (repeat' (first | (with_reducible assumption) | (with_reducible exact Wb.Ext.refl _) | (with_reducible refine Wb.Ext.drew ?_) | (with_reducible refine Wb.Ext.drewN ?_ _) | (with_reducible refine Wb.Ext.alloc ?_ _) | (with_reducible refine Wb.Ext.trans ?_ (by assumption)))), ?_⟩
                              rw [HK.out, HD.out, Wb.ahead_zero, Wb.chk_none HE0.out, Wb.ahead_succ, HX.out]
                            case measure => simp [intOf]; omega
                          · have hk0' : ((k : Int) == 0) = false := by simpa using hk0
                            have hk0n : (k == 0) = false := by simpa using hk0
                            obtain ⟨q, hq⟩ := Wb.get_ex (l := l) (k := k - 1) (by omega)
                            obtain ⟨hqp, hqc, hqn⟩ := HC.out (k - 1) q hq
                            have HA := Lib.hid (show Wb.ahead l k = some q by rw [Wb.ahead, if_neg hk0, hq])
                            clear hq
                            have hp1 : 1 ≤ k := by omega
                            have HN : Hid (Wb.ahead l (k + 1) = some ⟨xp, xc, xn⟩) := by rw [Wb.ahead_succ]; exact HX.out
                            obtain ⟨qp, qc, qn⟩ := q
                            simp only at hqp hqc hqn
                            have HCK1 : Hid (Wb.chk none l = if qp = xp ∧ qc = xc then 7 else if Wb.lnLt ⟨qp, qc, qn⟩ ⟨xp, xc, xn⟩ = false then 8 else Wb.chk (some ⟨xp, xc, xn⟩) (l.drop (k + 1))) := by
                              exact (HK.out.trans (by rw [HD.out, HA.out])).trans (Wb.chk_some HE0.out _ _)
                            cases hpe : (qp == xp)
                            · have HPN := Lib.hid (show ¬ (qp = xp ∧ qc = xc) by intro h; simp at hpe; exact hpe h.1)
                              by_cases hgt : xp < qp
                              · have HL2 := Lib.hid (show Wb.lnLt ⟨qp, qc, qn⟩ ⟨xp, xc, xn⟩ = false by simp only [Wb.lnLt, hpe]; simp; omega)
                                have HR := Lib.hid (show Wb.check y i l = 8 by rw [HCK.out, HCK1.out, if_neg HPN.out, if_pos HL2.out])
                                go_wp2_with (first | (go_at_call 69; refine (name_any xc (by omega) _).mono ?_; rintro e w' ⟨rfl, rfl⟩) | (go_at_call 63; refine (fits27_any _ _).mono ?_; rintro e w' ⟨rfl, rfl⟩))
                                go_ret
                                exact ⟨by rw [HR.out]; rfl, by (repeat' (first | (with_reducible assumption) | (with_reducible exact Wb.Ext.refl _) | (with_reducible refine Wb.Ext.drew ?_) | (with_reducible refine Wb.Ext.drewN ?_ _) | (with_reducible refine Wb.Ext.alloc ?_ _) | (with_reducible refine Wb.Ext.trans ?_ (by assumption))))⟩
                              · have dgt : decide (xp < qp) = false := by simpa using hgt
                                have HL2 := Lib.hid (show ¬ Wb.lnLt ⟨qp, qc, qn⟩ ⟨xp, xc, xn⟩ = false by simp at hpe; simp [Wb.lnLt]; intro h; omega)
                                have HR := Lib.hid (show Wb.chk none l = Wb.chk (some ⟨xp, xc, xn⟩) (l.drop (k + 1)) by rw [HCK1.out, if_neg HPN.out, if_neg HL2.out])
                                go_wp2_with (first | (go_at_call 69; refine (name_any xc (by omega) _).mono ?_; rintro e w' ⟨rfl, rfl⟩) | (go_at_call 63; refine (fits27_any _ _).mono ?_; rintro e w' ⟨rfl, rfl⟩))
                                go_roundw
                                case rel => exact ⟨k + 1, by omega, by go_num, by (repeat' (first | (with_reducible assumption) | (with_reducible exact Wb.Ext.refl _) | (with_reducible refine Wb.Ext.drew ?_) | (with_reducible refine Wb.Ext.drewN ?_ _) | (with_reducible refine Wb.Ext.alloc ?_ _) | (with_reducible refine Wb.Ext.trans ?_ (by assumption)))), by rw [HR.out, HN.out]⟩
                                case measure => simp [intOf]; omega
                            · have dgt : decide (xp < qp) = false := by simp at hpe; simp; omega
                              have HEQ := Lib.hid (show qp = xp by simpa using hpe)
                              cases hce2 : (qc == xc)
                              · have HPN := Lib.hid (show ¬ (qp = xp ∧ qc = xc) by intro h; simp at hce2; exact hce2 h.2)
                                cases hbl : Op.bytesLess qc xc
                                · have HL2 := Lib.hid (show Wb.lnLt ⟨qp, qc, qn⟩ ⟨xp, xc, xn⟩ = false by simp only [Wb.lnLt, hbl]; simp; have := HEQ.out; omega)
                                  have HR := Lib.hid (show Wb.check y i l = 8 by rw [HCK.out, HCK1.out, if_neg HPN.out, if_pos HL2.out])
                                  go_wp2_with (first | (go_at_call 69; refine (name_any xc (by omega) _).mono ?_; rintro e w' ⟨rfl, rfl⟩) | (go_at_call 63; refine (fits27_any _ _).mono ?_; rintro e w' ⟨rfl, rfl⟩))
                                  go_ret
                                  exact ⟨by rw [HR.out]; rfl, by (repeat' (first | (with_reducible assumption) | (with_reducible exact Wb.Ext.refl _) | (with_reducible refine Wb.Ext.drew ?_) | (with_reducible refine Wb.Ext.drewN ?_ _) | (with_reducible refine Wb.Ext.alloc ?_ _) | (with_reducible refine Wb.Ext.trans ?_ (by assumption))))⟩
                                · have HL2 := Lib.hid (show ¬ Wb.lnLt ⟨qp, qc, qn⟩ ⟨xp, xc, xn⟩ = false by simp [Wb.lnLt, hbl, HEQ.out])
                                  have HR := Lib.hid (show Wb.chk none l = Wb.chk (some ⟨xp, xc, xn⟩) (l.drop (k + 1)) by rw [HCK1.out, if_neg HPN.out, if_neg HL2.out])
                                  go_wp2_with (first | (go_at_call 69; refine (name_any xc (by omega) _).mono ?_; rintro e w' ⟨rfl, rfl⟩) | (go_at_call 63; refine (fits27_any _ _).mono ?_; rintro e w' ⟨rfl, rfl⟩))
                                  go_roundw
                                  case rel => exact ⟨k + 1, by omega, by go_num, by (repeat' (first | (with_reducible assumption) | (with_reducible exact Wb.Ext.refl _) | (with_reducible refine Wb.Ext.drew ?_) | (with_reducible refine Wb.Ext.drewN ?_ _) | (with_reducible refine Wb.Ext.alloc ?_ _) | (with_reducible refine Wb.Ext.trans ?_ (by assumption)))), by rw [HR.out, HN.out]⟩
                                  case measure => simp [intOf]; omega
                              · have HPE := Lib.hid (show qp = xp ∧ qc = xc from ⟨HEQ.out, by simpa using hce2⟩)
                                have HR := Lib.hid (show Wb.check y i l = 7 by rw [HCK.out, HCK1.out, if_pos HPE.out])
                                go_wp2_with (first | (go_at_call 69; refine (name_any xc (by omega) _).mono ?_; rintro e w' ⟨rfl, rfl⟩) | (go_at_call 63; refine (fits27_any _ _).mono ?_; rintro e w' ⟨rfl, rfl⟩))
                                go_ret
                                exact ⟨by rw [HR.out]; rfl, by (repeat' (first | (with_reducible assumption) | (with_reducible exact Wb.Ext.refl _) | (with_reducible refine Wb.Ext.drew ?_) | (with_reducible refine Wb.Ext.drewN ?_ _) | (with_reducible refine Wb.Ext.alloc ?_ _) | (with_reducible refine Wb.Ext.trans ?_ (by assumption))))⟩
                      · have hzn : xn = 0 := by simpa using hz
                        have HE := Lib.hid (show Wb.lineErr ⟨xp, xc, xn⟩ = 22 by simp only [Wb.lineErr]; rw [if_neg hpn, if_neg hcn2, if_pos hzn])
                        have HR := Lib.hid (show Wb.check y i l = 22 by rw [HCK.out, HK.out, HD.out, Wb.chk_err (by rw [HE.out]; simp), HE.out])
                        clear hzn
                        go_wp2_with (first | (go_at_call 69; refine (name_any xc (by omega) _).mono ?_; rintro e w' ⟨rfl, rfl⟩) | (go_at_call 63; refine (fits27_any _ _).mono ?_; rintro e w' ⟨rfl, rfl⟩))
                        go_ret
                        exact ⟨by rw [HR.out]; rfl, by (repeat' (first | (with_reducible assumption) | (with_reducible exact Wb.Ext.refl _) | (with_reducible refine Wb.Ext.drew ?_) | (with_reducible refine Wb.Ext.drewN ?_ _) | (with_reducible refine Wb.Ext.alloc ?_ _) | (with_reducible refine Wb.Ext.trans ?_ (by assumption))))⟩
              · have HR := Lib.hid (show Wb.check y i l = 0 by rw [HCK.out, HK.out, List.drop_of_length_le (by omega)]; rfl)
                go_wp2
                go_ret
                exact ⟨by rw [HR.out]; rfl, by (repeat' (first | (with_reducible assumption) | (with_reducible exact Wb.Ext.refl _) | (with_reducible refine Wb.Ext.drew ?_) | (with_reducible refine Wb.Ext.drewN ?_ _) | (with_reducible refine Wb.Ext.alloc ?_ _) | (with_reducible refine Wb.Ext.trans ?_ (by assumption))))⟩

end Go.Proofs.Ytdfmlgjemfcmlaa
