/- Chapter 27: a part's text, the program's and the reference's. -/
import Derived.Test.YtpiedhjjpmmomaaDoorSlip10
import Derived.Test.YtpiedhjjpmmomaaDoorPlain27c
namespace Go.Proofs.YtpiedhjjpmmomaaDoor
open Go.RowKit
set_option maxRecDepth 4000

def itemText (x : Wb.Ln) : List UInt8 := x.code ++ [32] ++ Wb.text x.cents ++ [10]
def itemsText (l : List Wb.Ln) : List UInt8 := l.flatMap itemText
def whyText (y i : Int) (l : List Wb.Ln) (p : Int) : List UInt8 :=
  if Wb.check y i l ≠ 0 ∨ p < 0 ∨ 6 < p ∨ Wb.fits (Wb.sumOf p p l) = false then [] else itemsText (Wb.partOf p l) ++ [61, 32] ++ Wb.text (Wb.sumOf p p l) ++ [10]
theorem itemsText_snoc {l : List Wb.Ln} {k : Nat} {x : Wb.Ln} (h : l[k]? = some x) : itemsText (l.take (k + 1)) = itemsText (l.take k) ++ itemText x := by
  obtain ⟨h1, h2⟩ := List.getElem?_eq_some_iff.1 h
  rw [List.take_succ_eq_append_getElem h1, h2]; simp [itemsText]
theorem part_ok {p : Int} {l : List Wb.Ln} (hl : ∀ x ∈ l, Wb.lineErr x = 0) : ∀ x ∈ Wb.partOf p l, x.code.length ≤ 32 ∧ Wb.fits x.cents = true := by
  intro x hx
  have hx2 : x ∈ l := by simp [Wb.partOf] at hx; exact hx.1
  obtain ⟨_, _, h3, _, h5⟩ := Wb.lineErr_ok (hl x hx2)
  exact ⟨by simp [Wb.codeOk] at h3; exact h3.1.2, h5⟩

set_option maxHeartbeats 2000000 in
theorem why_any (y i : Int) (v : Value) (l : List Wb.Ln) (p : Int) (w : World) (hl : Lns w v l) (hs : Sized l) :
    Calls Tryd.prog 19 #[.agg #[.int .i64 y, .int .i64 i, v], .int .i64 p] w fun e w' => e = .returned (.string (Wb.S (whyText y i l p))) ∧ Wb.Ext w w' := by
  have HL := Lib.hid hl
  have HS := Lib.hid hs
  clear hl hs
  obtain ⟨va, vc, rfl⟩ := HL.out.shape
  cases hck : (Wb.check y i l != 0)
  case true =>
    have HCK := Lib.hid (show Wb.check y i l ≠ 0 by simpa using hck)
    have H := Lib.hid (show whyText y i l p = [] by rw [whyText, if_pos (.inl HCK.out)])
    go_enter Tryd.func19, Tryd.ntmps19
    go_wp2_with fail
    refine (check_any y i _ l _ (HL.out.ext (by (repeat' (first | (with_reducible assumption) | (with_reducible exact Wb.Ext.refl _) | (with_reducible refine Wb.Ext.drew ?_) | (with_reducible refine Wb.Ext.drewN ?_ _) | (with_reducible refine Wb.Ext.alloc ?_ _) | (with_reducible refine Wb.Ext.trans ?_ (by assumption)))))) HS.out).mono ?_; rintro e w1 ⟨rfl, hb1⟩
    have he1 : Wb.Ext w w1 := by (repeat' (first | (with_reducible assumption) | (with_reducible exact Wb.Ext.refl _) | (with_reducible refine Wb.Ext.drew ?_) | (with_reducible refine Wb.Ext.drewN ?_ _) | (with_reducible refine Wb.Ext.alloc ?_ _) | (with_reducible refine Wb.Ext.trans ?_ (by assumption))))
    clear hb1
    go_wp2
    go_ret
    exact ⟨by rw [H.out]; rfl, he1⟩
  have HK := Lib.hid (show Wb.check y i l = 0 by simpa using hck)
  have HF := Lib.hid (Wb.check_fit HK.out)
  have HLI := Lib.hid (Wb.check_ok HK.out).2.2.2.2.2.2
  have hn := (Wb.check_ok HK.out).2.2.2.2.1
  have HPO := Lib.hid (part_ok (p := p) HLI.out)
  have hpl : (Wb.partOf p l).length ≤ 448 := Nat.le_trans (List.length_filter_le _ _) hn
  clear hck
  obtain ⟨sm, hsm⟩ : ∃ s, Wb.sumOf p p l = s := ⟨_, rfl⟩
  have HSM := Lib.hid hsm
  obtain ⟨L, hL⟩ : ∃ L, Wb.partOf p l = L := ⟨_, rfl⟩
  have HLP := Lib.hid hL
  rw [hL] at hpl
  clear hsm hL
  go_enter Tryd.func19, Tryd.ntmps19
  go_wp2_with fail
  refine (check_any y i _ l _ (HL.out.ext (by (repeat' (first | (with_reducible assumption) | (with_reducible exact Wb.Ext.refl _) | (with_reducible refine Wb.Ext.drew ?_) | (with_reducible refine Wb.Ext.drewN ?_ _) | (with_reducible refine Wb.Ext.alloc ?_ _) | (with_reducible refine Wb.Ext.trans ?_ (by assumption)))))) HS.out).mono ?_; rintro e w1 ⟨rfl, hb1⟩
  rw [HK.out]
  have he1 : Wb.Ext w w1 := by (repeat' (first | (with_reducible assumption) | (with_reducible exact Wb.Ext.refl _) | (with_reducible refine Wb.Ext.drew ?_) | (with_reducible refine Wb.Ext.drewN ?_ _) | (with_reducible refine Wb.Ext.alloc ?_ _) | (with_reducible refine Wb.Ext.trans ?_ (by assumption))))
  obtain ⟨k0, k1, k2⟩ := box3 _ _ _ _ _ hb1
  clear hb1
  by_cases h0 : p < 0
  case pos =>
    have H := Lib.hid (show whyText y i l p = [] by rw [whyText, if_pos (.inr (.inl h0))])
    go_wp2
    go_ret
    exact ⟨by rw [H.out]; rfl, he1⟩
  have d0 : decide (p < 0) = false := by simpa using h0
  by_cases h7 : 7 ≤ p
  case pos =>
    have H := Lib.hid (show whyText y i l p = [] by rw [whyText, if_pos (.inr (.inr (.inl (by omega))))])
    go_wp2
    go_ret
    exact ⟨by rw [H.out]; rfl, he1⟩
  have d7 : decide (7 ≤ p) = false := by simpa using h7
  go_wp2_with fail
  refine (sum_any27 y i _ l p p _ (HL.out.ext (by (repeat' (first | (with_reducible assumption) | (with_reducible exact Wb.Ext.refl _) | (with_reducible refine Wb.Ext.drew ?_) | (with_reducible refine Wb.Ext.drewN ?_ _) | (with_reducible refine Wb.Ext.alloc ?_ _) | (with_reducible refine Wb.Ext.trans ?_ (by assumption)))))) HF.out hn).mono ?_; rintro e w2 ⟨rfl, hb2⟩
  rw [HSM.out]
  have he2 : Wb.Ext w w2 := he1.trans hb2
  have k0 := hb2.keep k0
  have k1 := hb2.keep k1
  have k2 := hb2.keep k2
  clear hb2 he1
  cases hfs : Wb.fits sm with
  | false =>
    have H := Lib.hid (show whyText y i l p = [] by rw [whyText, if_pos (.inr (.inr (.inr (by rw [HSM.out]; exact hfs))))])
    go_wp2_with (go_at_call 29; refine (fits_any sm _).mono ?_; rintro e w' ⟨rfl, rfl⟩; rw [hfs])
    go_ret
    exact ⟨by rw [H.out]; rfl, he2⟩
  | true =>
    have HFS := Lib.hid hfs
    have HW := Lib.hid (show whyText y i l p = itemsText L ++ [61, 32] ++ Wb.text sm ++ [10] by
      rw [whyText, if_neg, HSM.out, HLP.out]
      rw [HSM.out, HK.out, hfs]; simp; omega)
    clear hfs h0 h7
    go_wp2_with (first | (go_at_call 29; refine (fits_any sm _).mono ?_; rintro e w' ⟨rfl, rfl⟩; rw [HFS.out]) | fail)
    refine (part_any y i _ l p _ (HL.out.ext (by (repeat' (first | (with_reducible assumption) | (with_reducible exact Wb.Ext.refl _) | (with_reducible refine Wb.Ext.drew ?_) | (with_reducible refine Wb.Ext.drewN ?_ _) | (with_reducible refine Wb.Ext.alloc ?_ _) | (with_reducible refine Wb.Ext.trans ?_ (by assumption)))))) HS.out).mono ?_; rintro e w3 ⟨u, rfl, hu, hb3⟩
    rw [HLP.out] at hu
    have he3 : Wb.Ext w w3 := he2.trans hb3
    have k0 := hb3.keep k0
    have k1 := hb3.keep k1
    have k2 := hb3.keep k2
    clear hb3 he2
    obtain ⟨ia, ic, rfl⟩ := hu.shape
    have HU := Lib.hid hu
    clear hu
    go_wp2
    go_loopw [5, 31] (fun ov iv wr => ∃ (k : Nat) (o : List UInt8), k ≤ L.length ∧ iv = .int .i64 k ∧ ov = .string (Wb.S o) ∧ o.length ≤ 55 * k ∧ o = itemsText (L.take k) ∧ Wb.Ext w3 wr) (fun _ iv _ => L.length - (intOf iv).toNat)
    case atStart => exact ⟨0, [], by omega, rfl, rfl, by simp, by simp [itemsText], by (repeat' (first | (with_reducible assumption) | (with_reducible exact Wb.Ext.refl _) | (with_reducible refine Wb.Ext.drew ?_) | (with_reducible refine Wb.Ext.drewN ?_ _) | (with_reducible refine Wb.Ext.alloc ?_ _) | (with_reducible refine Wb.Ext.trans ?_ (by assumption))))⟩
    case round =>
      obtain ⟨k, o, hk, rfl, rfl, hol, ho, hext⟩ := hrel
      have HO := Lib.hid ho; clear ho
      have hew : Wb.Ext w wr := he3.trans hext
      have k0 := hext.keep k0
      have k1 := hext.keep k1
      have k2 := hext.keep k2
      by_cases hlt : k < L.length
      · obtain ⟨x, hx⟩ := Wb.get_ex hlt
        obtain ⟨b, off, rfl, hcells⟩ := (HU.out.ext hext).opened (ne_of_lt hlt)
        obtain ⟨hcx, hcn⟩ := hcells k x hx
        have hpo := HPO.out x (by rw [HLP.out]; exact List.mem_of_getElem? hx)
        have HT := Lib.hid (itemsText_snoc hx)
        have hxc := hpo.1
        clear hcells hx hpo
        obtain ⟨xp, xc, xn⟩ := x
        simp only at hcx hcn hxc
        obtain ⟨tx, htx⟩ : ∃ tx, Wb.text xn = tx := ⟨_, rfl⟩
        have HTX := Lib.hid htx
        have htl := text_len_le xn
        rw [htx] at htl
        clear htx
        have g1 : ¬ 9223372036854775807 < xc.length + 1 := by omega
        have g2 : ¬ 9223372036854775807 < xc.length + 1 + tx.length := by omega
        have g3 : ¬ 9223372036854775807 < xc.length + (tx.length + 1) + 1 := by omega
        have g4 : ¬ 9223372036854775807 < o.length + (xc.length + (tx.length + 1 + 1)) := by omega
        have hx0 : (wr.alloc (.cells #[.string (Wb.S xc), .int .i64 xn] 37)).cell? ⟨wr.heap.size, 0, none⟩ = some (.string (Wb.S xc)) := by simp [go_sem]
        have hx1 : (wr.alloc (.cells #[.string (Wb.S xc), .int .i64 xn] 37)).cell? ⟨wr.heap.size, 1, none⟩ = some (.int .i64 xn) := by simp [go_sem]
        have hki : (k : Int) < L.length := by omega
        go_wp2_with fail
        go_region_held3 (fun w' => w'.cell? ⟨wr.heap.size, 0, none⟩ = some (.string (Wb.S xc)) ∧ w'.cell? ⟨wr.heap.size, 1, none⟩ = some (.int .i64 xn)) (first | exact ⟨hx0, hx1⟩ | assumption | go_keep) (first | (go_at_call 35; go_fit (text_any xn _); rintro e w' ⟨rfl, rfl⟩; rw [HTX.out]))
        have HNX := Lib.hid (show o ++ (xc ++ 32 :: (tx ++ [10])) = itemsText (L.take (k + 1)) by rw [HT.out, itemText, HTX.out, HO.out]; simp)
        have HLN := Lib.hid (show (o ++ (xc ++ 32 :: (tx ++ [10]))).length ≤ 55 * (k + 1) by simp; omega)
        clear g1 g2 g3 g4
        go_wp2
        go_roundw
        case rel => exact ⟨k + 1, _, by omega, by go_num, rfl, HLN.out, HNX.out, by (repeat' (first | (with_reducible assumption) | (with_reducible exact Wb.Ext.refl _) | (with_reducible refine Wb.Ext.drew ?_) | (with_reducible refine Wb.Ext.drewN ?_ _) | (with_reducible refine Wb.Ext.alloc ?_ _) | (with_reducible refine Wb.Ext.trans ?_ (by assumption))))⟩
        case measure => simp [intOf]; omega
      · have HQ := Lib.hid (show itemsText L = o by rw [HO.out, List.take_of_length_le (by omega)])
        obtain ⟨tx, htx⟩ : ∃ tx, Wb.text sm = tx := ⟨_, rfl⟩
        have HTX := Lib.hid htx
        have htl := text_len_le sm
        rw [htx] at htl
        clear htx
        have g1 : ¬ 9223372036854775807 < o.length + 2 := by omega
        have g2 : ¬ 9223372036854775807 < o.length + 2 + tx.length := by omega
        have g2b : ¬ 9223372036854775807 < o.length + (1 + 1) + tx.length := by omega
        have g3 : ¬ 9223372036854775807 < o.length + (tx.length + 2) + 1 := by omega
        have g3b : ¬ 9223372036854775807 < o.length + (tx.length + 1 + 1) + 1 := by omega
        have hlt2 : decide ((k : Int) < L.length) = false := by simp; omega
        go_wp2_with fail
        refine (sum_any27 y i _ l p p _ (HL.out.ext (by (repeat' (first | (with_reducible assumption) | (with_reducible exact Wb.Ext.refl _) | (with_reducible refine Wb.Ext.drew ?_) | (with_reducible refine Wb.Ext.drewN ?_ _) | (with_reducible refine Wb.Ext.alloc ?_ _) | (with_reducible refine Wb.Ext.trans ?_ (by assumption)))))) HF.out hn).mono ?_; rintro e w5 ⟨rfl, hb5⟩
        rw [HSM.out]
        have he5 : Wb.Ext w w5 := hew.trans hb5
        go_wp2_with (go_at_call 35; refine (text_any sm _).mono ?_; rintro e w' ⟨rfl, rfl⟩; rw [HTX.out])
        go_ret
        exact ⟨Wb.ret_str (by rw [HW.out, HQ.out, HTX.out] <;> simp), he5⟩

set_option maxHeartbeats 2000000 in
theorem rwhy_any (y i : Int) (v : Value) (l : List Wb.Ln) (p : Int) (w : World) (hl : Lns w v l) (hs : Sized l) :
    Calls Tryd.prog 27 #[.agg #[.int .i64 y, .int .i64 i, v], .int .i64 p] w fun e w' => e = .returned (.string (Wb.S (whyText y i l p))) ∧ Wb.Ext w w' := by
  have HL := Lib.hid hl
  have HS := Lib.hid hs
  clear hl hs
  obtain ⟨va, vc, rfl⟩ := HL.out.shape
  cases hck : (Wb.check y i l != 0)
  case true =>
    have HCK := Lib.hid (show Wb.check y i l ≠ 0 by simpa using hck)
    have H := Lib.hid (show whyText y i l p = [] by rw [whyText, if_pos (.inl HCK.out)])
    go_enter Tryd.func27, Tryd.ntmps27
    go_wp2_with fail
    refine (rcheck_any y i _ l _ (HL.out.ext (by (repeat' (first | (with_reducible assumption) | (with_reducible exact Wb.Ext.refl _) | (with_reducible refine Wb.Ext.drew ?_) | (with_reducible refine Wb.Ext.drewN ?_ _) | (with_reducible refine Wb.Ext.alloc ?_ _) | (with_reducible refine Wb.Ext.trans ?_ (by assumption)))))) HS.out).mono ?_; rintro e w1 ⟨rfl, hb1⟩
    have he1 : Wb.Ext w w1 := by (repeat' (first | (with_reducible assumption) | (with_reducible exact Wb.Ext.refl _) | (with_reducible refine Wb.Ext.drew ?_) | (with_reducible refine Wb.Ext.drewN ?_ _) | (with_reducible refine Wb.Ext.alloc ?_ _) | (with_reducible refine Wb.Ext.trans ?_ (by assumption))))
    clear hb1
    go_wp2
    go_ret
    exact ⟨by rw [H.out]; rfl, he1⟩
  have HK := Lib.hid (show Wb.check y i l = 0 by simpa using hck)
  have HF := Lib.hid (Wb.check_fit HK.out)
  have HLI := Lib.hid (Wb.check_ok HK.out).2.2.2.2.2.2
  have hn := (Wb.check_ok HK.out).2.2.2.2.1
  have HPO := Lib.hid (part_ok (p := p) HLI.out)
  have hpl : (Wb.partOf p l).length ≤ 448 := Nat.le_trans (List.length_filter_le _ _) hn
  clear hck
  obtain ⟨sm, hsm⟩ : ∃ s, Wb.sumOf p p l = s := ⟨_, rfl⟩
  have HSM := Lib.hid hsm
  obtain ⟨L, hL⟩ : ∃ L, Wb.partOf p l = L := ⟨_, rfl⟩
  have HLP := Lib.hid hL
  rw [hL] at hpl
  clear hsm hL
  go_enter Tryd.func27, Tryd.ntmps27
  go_wp2_with fail
  refine (rcheck_any y i _ l _ (HL.out.ext (by (repeat' (first | (with_reducible assumption) | (with_reducible exact Wb.Ext.refl _) | (with_reducible refine Wb.Ext.drew ?_) | (with_reducible refine Wb.Ext.drewN ?_ _) | (with_reducible refine Wb.Ext.alloc ?_ _) | (with_reducible refine Wb.Ext.trans ?_ (by assumption)))))) HS.out).mono ?_; rintro e w1 ⟨rfl, hb1⟩
  rw [HK.out]
  have he1 : Wb.Ext w w1 := by (repeat' (first | (with_reducible assumption) | (with_reducible exact Wb.Ext.refl _) | (with_reducible refine Wb.Ext.drew ?_) | (with_reducible refine Wb.Ext.drewN ?_ _) | (with_reducible refine Wb.Ext.alloc ?_ _) | (with_reducible refine Wb.Ext.trans ?_ (by assumption))))
  obtain ⟨k0, k1, k2⟩ := box3 _ _ _ _ _ hb1
  clear hb1
  by_cases h0 : p < 0
  case pos =>
    have H := Lib.hid (show whyText y i l p = [] by rw [whyText, if_pos (.inr (.inl h0))])
    go_wp2
    go_ret
    exact ⟨by rw [H.out]; rfl, he1⟩
  have d0 : decide (p < 0) = false := by simpa using h0
  by_cases h7 : 6 < p
  case pos =>
    have H := Lib.hid (show whyText y i l p = [] by rw [whyText, if_pos (.inr (.inr (.inl (by omega))))])
    go_wp2
    go_ret
    exact ⟨by rw [H.out]; rfl, he1⟩
  have d7 : decide (6 < p) = false := by simpa using h7
  go_wp2_with fail
  refine (rsum_any27 y i _ l p _ (HL.out.ext (by (repeat' (first | (with_reducible assumption) | (with_reducible exact Wb.Ext.refl _) | (with_reducible refine Wb.Ext.drew ?_) | (with_reducible refine Wb.Ext.drewN ?_ _) | (with_reducible refine Wb.Ext.alloc ?_ _) | (with_reducible refine Wb.Ext.trans ?_ (by assumption)))))) HF.out hn).mono ?_; rintro e w2 ⟨rfl, hb2⟩
  rw [HSM.out]
  have he2 : Wb.Ext w w2 := he1.trans hb2
  have k0 := hb2.keep k0
  have k1 := hb2.keep k1
  have k2 := hb2.keep k2
  clear hb2 he1
  cases hfs : Wb.fits sm with
  | false =>
    have H := Lib.hid (show whyText y i l p = [] by rw [whyText, if_pos (.inr (.inr (.inr (by rw [HSM.out]; exact hfs))))])
    go_wp2_with (go_at_call 31; refine (fits27_any sm _).mono ?_; rintro e w' ⟨rfl, rfl⟩; rw [hfs])
    go_ret
    exact ⟨by rw [H.out]; rfl, he2⟩
  | true =>
    have HFS := Lib.hid hfs
    have HW := Lib.hid (show whyText y i l p = itemsText L ++ [61, 32] ++ Wb.text sm ++ [10] by
      rw [whyText, if_neg, HSM.out, HLP.out]
      rw [HSM.out, HK.out, hfs]; simp; omega)
    clear hfs h0 h7
    go_wp2_with (first | (go_at_call 31; refine (fits27_any sm _).mono ?_; rintro e w' ⟨rfl, rfl⟩; rw [HFS.out]) | fail)
    refine (rpart_any y i _ l p _ (HL.out.ext (by (repeat' (first | (with_reducible assumption) | (with_reducible exact Wb.Ext.refl _) | (with_reducible refine Wb.Ext.drew ?_) | (with_reducible refine Wb.Ext.drewN ?_ _) | (with_reducible refine Wb.Ext.alloc ?_ _) | (with_reducible refine Wb.Ext.trans ?_ (by assumption)))))) HS.out).mono ?_; rintro e w3 ⟨u, rfl, hu, hb3⟩
    rw [HLP.out] at hu
    have he3 : Wb.Ext w w3 := he2.trans hb3
    have k0 := hb3.keep k0
    have k1 := hb3.keep k1
    have k2 := hb3.keep k2
    clear hb3 he2
    obtain ⟨ia, ic, rfl⟩ := hu.shape
    have HU := Lib.hid hu
    clear hu
    go_wp2
    go_loopw [5, 7] (fun ov iv wr => ∃ (k : Nat) (o : List UInt8), k ≤ L.length ∧ iv = .int .i64 k ∧ ov = .string (Wb.S o) ∧ o.length ≤ 55 * k ∧ o = itemsText (L.take k) ∧ Wb.Ext w3 wr) (fun _ iv _ => L.length - (intOf iv).toNat)
    case atStart => exact ⟨0, [], by omega, rfl, rfl, by simp, by simp [itemsText], by (repeat' (first | (with_reducible assumption) | (with_reducible exact Wb.Ext.refl _) | (with_reducible refine Wb.Ext.drew ?_) | (with_reducible refine Wb.Ext.drewN ?_ _) | (with_reducible refine Wb.Ext.alloc ?_ _) | (with_reducible refine Wb.Ext.trans ?_ (by assumption))))⟩
    case round =>
      obtain ⟨k, o, hk, rfl, rfl, hol, ho, hext⟩ := hrel
      have HO := Lib.hid ho; clear ho
      have hew : Wb.Ext w wr := he3.trans hext
      have k0 := hext.keep k0
      have k1 := hext.keep k1
      have k2 := hext.keep k2
      by_cases hlt : k < L.length
      · obtain ⟨x, hx⟩ := Wb.get_ex hlt
        obtain ⟨b, off, rfl, hcells⟩ := (HU.out.ext hext).opened (ne_of_lt hlt)
        obtain ⟨hcx, hcn⟩ := hcells k x hx
        have hpo := HPO.out x (by rw [HLP.out]; exact List.mem_of_getElem? hx)
        have HT := Lib.hid (itemsText_snoc hx)
        have hxc := hpo.1
        have HXF := Lib.hid hpo.2
        clear hcells hx hpo
        obtain ⟨xp, xc, xn⟩ := x
        simp only at hcx hcn hxc
        obtain ⟨tx, htx⟩ : ∃ tx, Wb.text xn = tx := ⟨_, rfl⟩
        have HTX := Lib.hid htx
        have htl := text_len_le xn
        rw [htx] at htl
        clear htx
        have g1 : ¬ 9223372036854775807 < o.length + xc.length := by omega
        have g2 : ¬ 9223372036854775807 < o.length + xc.length + 1 := by omega
        have g3 : ¬ 9223372036854775807 < o.length + (xc.length + 1) + tx.length := by omega
        have g4 : ¬ 9223372036854775807 < o.length + (xc.length + (tx.length + 1)) + 1 := by omega
        have hki : (k : Int) < L.length := by omega
        go_wp2_with fail
        go_region_held3 (fun w' => w'.cell? ⟨b, off + k * 2, none⟩ = some (.string (Wb.S xc)) ∧ w'.cell? ⟨b, off + k * 2 + 1, none⟩ = some (.int .i64 xn)) (first | exact ⟨hcx, hcn⟩ | assumption | (obtain ⟨j0, j1⟩ := ‹_ ∧ _›; exact ⟨hb.keep j0, hb.keep j1⟩) | go_keep) (first | (go_at_call 47; go_fit (rtext_any xn HXF.out _); rintro e w' ⟨rfl, hb⟩; rw [HTX.out]))
        have HNX := Lib.hid (show o ++ (xc ++ 32 :: (tx ++ [10])) = itemsText (L.take (k + 1)) by rw [HT.out, itemText, HTX.out, HO.out]; simp)
        have HLN := Lib.hid (show (o ++ (xc ++ 32 :: (tx ++ [10]))).length ≤ 55 * (k + 1) by simp; omega)
        clear g1 g2 g3 g4
        go_wp2
        go_roundw
        case rel => exact ⟨k + 1, _, by omega, by go_num, rfl, HLN.out, HNX.out, by (repeat' (first | (with_reducible assumption) | (with_reducible exact Wb.Ext.refl _) | (with_reducible refine Wb.Ext.drew ?_) | (with_reducible refine Wb.Ext.drewN ?_ _) | (with_reducible refine Wb.Ext.alloc ?_ _) | (with_reducible refine Wb.Ext.trans ?_ (by assumption))))⟩
        case measure => simp [intOf]; omega
      · have HQ := Lib.hid (show itemsText L = o by rw [HO.out, List.take_of_length_le (by omega)])
        obtain ⟨tx, htx⟩ : ∃ tx, Wb.text sm = tx := ⟨_, rfl⟩
        have HTX := Lib.hid htx
        have htl := text_len_le sm
        rw [htx] at htl
        clear htx
        have g1 : ¬ 9223372036854775807 < o.length + 2 := by omega
        have g2 : ¬ 9223372036854775807 < o.length + 2 + tx.length := by omega
        have g2b : ¬ 9223372036854775807 < o.length + (1 + 1) + tx.length := by omega
        have g3 : ¬ 9223372036854775807 < o.length + (tx.length + 2) + 1 := by omega
        have g3b : ¬ 9223372036854775807 < o.length + (tx.length + 1 + 1) + 1 := by omega
        have hlt2 : decide ((k : Int) < L.length) = false := by simp; omega
        go_wp2_with fail
        refine (rsum_any27 y i _ l p _ (HL.out.ext (by (repeat' (first | (with_reducible assumption) | (with_reducible exact Wb.Ext.refl _) | (with_reducible refine Wb.Ext.drew ?_) | (with_reducible refine Wb.Ext.drewN ?_ _) | (with_reducible refine Wb.Ext.alloc ?_ _) | (with_reducible refine Wb.Ext.trans ?_ (by assumption)))))) HF.out hn).mono ?_; rintro e w5 ⟨rfl, hb5⟩
        rw [HSM.out]
        have he5 : Wb.Ext w w5 := hew.trans hb5
        go_wp2_with fail
        refine (rtext_any sm HFS.out _).mono ?_; rintro e w6 ⟨rfl, hb6⟩
        rw [HTX.out]
        have he6 : Wb.Ext w w6 := he5.trans hb6
        go_wp2
        go_ret
        exact ⟨Wb.ret_str (by rw [HW.out, HQ.out, HTX.out] <;> simp), he6⟩

end Go.Proofs.YtpiedhjjpmmomaaDoor
