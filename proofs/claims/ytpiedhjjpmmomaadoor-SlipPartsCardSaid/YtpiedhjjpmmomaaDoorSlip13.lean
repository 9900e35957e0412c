/- Chapter 27: Why of no part; SlipParts. -/
import Derived.Test.YtpiedhjjpmmomaaDoorSlip12
import Derived.Test.YtpiedhjjpmmomaaDoorPlain27c
namespace Go.Proofs.YtpiedhjjpmmomaaDoor
open Go.RowKit
set_option maxRecDepth 4000

def smallF (c : Int) (x : Wb.Ln) : Int := wrap64 (c + (1 + (x.code.length : Int)))
def smallB (l : List Wb.Ln) : Bool := decide (l.foldl smallF 0 ≤ 20000)
theorem smallF_snoc {l : List Wb.Ln} {k : Nat} {x : Wb.Ln} (h : l[k]? = some x) : (l.take (k + 1)).foldl smallF 0 = smallF ((l.take k).foldl smallF 0) x := by
  obtain ⟨h1, h2⟩ := List.getElem?_eq_some_iff.1 h
  rw [List.take_succ_eq_append_getElem h1, List.foldl_append, h2]; rfl

theorem small_fn (y i : Int) (v : Value) (l : List Wb.Ln) (w : World) (hl : Lns w v l) (hs : Sized l) :
    Calls Tryd.prog 10 #[.agg #[.int .i64 y, .int .i64 i, v]] w fun e w' => e = .returned (.bool (smallB l)) ∧ Wb.Ext w w' := by
  obtain ⟨a, cap, rfl⟩ := hl.shape
  have HL := Lib.hid hl; clear hl
  have hlen := hs.1
  have HS := Lib.hid hs; clear hs
  go_enter Tryd.func10, Tryd.ntmps10
  go_wp2
  go_loopw [3, 9] (fun s iv wr => ∃ (k : Nat) (c : Int), k ≤ l.length ∧ iv = .int .i64 k ∧ s = .int .i64 c ∧ c = (l.take k).foldl smallF 0 ∧ Wb.Ext (w.alloc (.cells #[.int .i64 y, .int .i64 i, .slice a l.length cap] 24)) wr) (fun _ iv _ => l.length - (intOf iv).toNat)
  case atStart => exact ⟨0, 0, by omega, rfl, rfl, rfl, by (repeat' (first | (with_reducible assumption) | (with_reducible exact Wb.Ext.refl _) | (with_reducible refine Wb.Ext.drew ?_) | (with_reducible refine Wb.Ext.drewN ?_ _) | (with_reducible refine Wb.Ext.alloc ?_ _) | (with_reducible refine Wb.Ext.trans ?_ (by assumption))))⟩
  case round =>
    obtain ⟨k, c, hk, rfl, rfl, hc, hext⟩ := hrel
    have HCC := Lib.hid hc; clear hc
    have hew : Wb.Ext w wr := by (repeat' (first | (with_reducible assumption) | (with_reducible exact Wb.Ext.refl _) | (with_reducible refine Wb.Ext.drew ?_) | (with_reducible refine Wb.Ext.drewN ?_ _) | (with_reducible refine Wb.Ext.alloc ?_ _) | (with_reducible refine Wb.Ext.trans ?_ (by assumption))))
    have hsz := hext.size
    have hz1 : w.heap.size < wr.heap.size := by simp at hsz; omega
    obtain ⟨hce, hfe⟩ := hext.cells
    by_cases hlt : k < l.length
    · obtain ⟨x, hx⟩ := Wb.get_ex hlt
      obtain ⟨b, off, rfl, hcells⟩ := (HL.out.ext hew).opened (ne_of_lt hlt)
      obtain ⟨hcp, hcx, hcn⟩ := hcells k x hx
      clear hcells
      have hxb := HS.out.2 x (List.mem_of_getElem? hx)
      have HT := Lib.hid (smallF_snoc hx)
      clear hx
      go_wp2
      go_roundw
      case rel => exact ⟨k + 1, _, by omega, by go_num, rfl, by rw [HT.out, ← HCC.out]; rfl, by (repeat' (first | (with_reducible assumption) | (with_reducible exact Wb.Ext.refl _) | (with_reducible refine Wb.Ext.drew ?_) | (with_reducible refine Wb.Ext.drewN ?_ _) | (with_reducible refine Wb.Ext.alloc ?_ _) | (with_reducible refine Wb.Ext.trans ?_ (by assumption))))⟩
      case measure => simp [intOf]; omega
    · have HR := Lib.hid (show l.foldl smallF 0 = c by rw [HCC.out, List.take_of_length_le (by omega)])
      go_wp2
      go_ret
      exact ⟨by rw [smallB, HR.out]; rfl, by (repeat' (first | (with_reducible assumption) | (with_reducible exact Wb.Ext.refl _) | (with_reducible refine Wb.Ext.drew ?_) | (with_reducible refine Wb.Ext.drewN ?_ _) | (with_reducible refine Wb.Ext.alloc ?_ _) | (with_reducible refine Wb.Ext.trans ?_ (by assumption))))⟩

set_option maxHeartbeats 1000000 in
/-- Why of a part that there is not -/
theorem why_none (y i : Int) (v : Value) (l : List Wb.Ln) (p : Int) (hp : p < 0 ∨ 6 < p) (w : World) (hl : Lns w v l) (hs : Sized l) :
    Calls Tryd.prog 19 #[.agg #[.int .i64 y, .int .i64 i, v], .int .i64 p] w fun e w' => e = .returned (.string (Wb.S [])) ∧ Wb.Ext w w' := by
  have HL := Lib.hid hl
  have HS := Lib.hid hs
  clear hl hs
  obtain ⟨ck, hck⟩ : ∃ q, Wb.check y i l = q := ⟨_, rfl⟩
  have HCK := Lib.hid hck; clear hck
  go_enter Tryd.func19, Tryd.ntmps19
  go_wp2_with fail
  refine (check_any y i v l _ (HL.out.ext (by (repeat' (first | (with_reducible assumption) | (with_reducible exact Wb.Ext.refl _) | (with_reducible refine Wb.Ext.drew ?_) | (with_reducible refine Wb.Ext.drewN ?_ _) | (with_reducible refine Wb.Ext.alloc ?_ _) | (with_reducible refine Wb.Ext.trans ?_ (by assumption)))))) HS.out).mono ?_; rintro e w1 ⟨rfl, hb1⟩
  rw [HCK.out]
  have he1 : Wb.Ext w w1 := by (repeat' (first | (with_reducible assumption) | (with_reducible exact Wb.Ext.refl _) | (with_reducible refine Wb.Ext.drew ?_) | (with_reducible refine Wb.Ext.drewN ?_ _) | (with_reducible refine Wb.Ext.alloc ?_ _) | (with_reducible refine Wb.Ext.trans ?_ (by assumption))))
  clear hb1
  cases hc0 : (ck != 0)
  · by_cases h0 : p < 0
    · go_wp2
      go_ret
      exact ⟨rfl, he1⟩
    · have d0 : decide (p < 0) = false := by simpa using h0
      have h7 : 7 ≤ p := by omega
      go_wp2
      go_ret
      exact ⟨rfl, he1⟩
  · go_wp2
    go_ret
    exact ⟨rfl, he1⟩

theorem part_nil (y i : Int) (v : Value) (l : List Wb.Ln) (p : Int) (w : World) (hl : Lns w v l) (hs : Sized l) (hlines : ∀ x ∈ l, Wb.lineErr x = 0) (hp : p < 0 ∨ 6 < p) :
    Calls Tryd.prog 17 #[.agg #[.int .i64 y, .int .i64 i, v], .int .i64 p] w fun e w' => ∃ a c, e = .returned (.slice a 0 c) ∧ Wb.Ext w w' := by
  refine (part_any y i v l p w hl hs).mono ?_; rintro e w1 ⟨u, rfl, hu, hb⟩
  obtain ⟨a, c, rfl⟩ := hu.shape
  rw [Wb.part_none hlines hp]
  exact ⟨a, c, rfl, hb⟩

set_option maxHeartbeats 2000000 in
theorem parts_walk (y i : Int) (v : Value) (l : List Wb.Ln) (p : Int) (w : World) (hl : Lns w v l) (hs : Sized l) (ht : Tab10 w) (hw : Words w) :
    Calls Tryd.prog 4 #[.agg #[.int .i64 y, .int .i64 i, v], .int .i64 p] w fun e w' => e = .returned (.bool true) ∧ Wb.Ext w w' := by
  have HL := Lib.hid hl
  have HS := Lib.hid hs
  have HW := Lib.hid hw
  have HTB := Lib.hid ht
  clear hl hs hw ht
  go_enter Tryd.func4, Tryd.ntmps4
  go_wp2_with fail
  refine (small_fn y i v l _ (HL.out.ext (by (repeat' (first | (with_reducible assumption) | (with_reducible exact Wb.Ext.refl _) | (with_reducible refine Wb.Ext.drew ?_) | (with_reducible refine Wb.Ext.drewN ?_ _) | (with_reducible refine Wb.Ext.alloc ?_ _) | (with_reducible refine Wb.Ext.trans ?_ (by assumption)))))) HS.out).mono ?_; rintro e w1 ⟨rfl, hb1⟩
  obtain ⟨hk0, hk1, hk2⟩ := box3 _ _ _ _ _ hb1
  have he1 : Wb.Ext w w1 := by (repeat' (first | (with_reducible assumption) | (with_reducible exact Wb.Ext.refl _) | (with_reducible refine Wb.Ext.drew ?_) | (with_reducible refine Wb.Ext.drewN ?_ _) | (with_reducible refine Wb.Ext.alloc ?_ _) | (with_reducible refine Wb.Ext.trans ?_ (by assumption))))
  clear hb1
  cases hsm : smallB l
  · go_wp2_with fail
    refine (awake27_any _ (HTB.out.ext he1) (HW.out.ext he1)).mono ?_; rintro e w2 ⟨rfl, hb2⟩
    go_wp2
    go_ret
    exact ⟨rfl, by (repeat' (first | (with_reducible assumption) | (with_reducible exact Wb.Ext.refl _) | (with_reducible refine Wb.Ext.drew ?_) | (with_reducible refine Wb.Ext.drewN ?_ _) | (with_reducible refine Wb.Ext.alloc ?_ _) | (with_reducible refine Wb.Ext.trans ?_ (by assumption))))⟩
  · clear hsm
    obtain ⟨ck, hck⟩ : ∃ q, Wb.check y i l = q := ⟨_, rfl⟩
    have HCK := Lib.hid hck; clear hck
    go_wp2_with fail
    refine (rcheck_any y i v l _ (HL.out.ext he1) HS.out).mono ?_; rintro e w2 ⟨rfl, hb2⟩
    have hm0 := hb2.keep hk0
    have hm1 := hb2.keep hk1
    have hm2 := hb2.keep hk2
    have he2 : Wb.Ext w w2 := by (repeat' (first | (with_reducible assumption) | (with_reducible exact Wb.Ext.refl _) | (with_reducible refine Wb.Ext.drew ?_) | (with_reducible refine Wb.Ext.drewN ?_ _) | (with_reducible refine Wb.Ext.alloc ?_ _) | (with_reducible refine Wb.Ext.trans ?_ (by assumption))))
    rw [HCK.out]
    clear hb2 hk0 hk1 hk2
    cases hc0 : (ck != 0)
    · have hc1 : ck = 0 := by simpa using hc0
      have HK := Lib.hid (show Wb.check y i l = 0 by rw [HCK.out, hc1])
      clear hc1
      obtain ⟨_, _, _, _, hn, hchk, hlines⟩ := Wb.check_ok HK.out
      have HSRT := Lib.hid (Wb.chk_rise hchk).1
      have HLI := Lib.hid hlines
      clear hchk hlines
      obtain ⟨a, cap, rfl⟩ := HL.out.shape
      have hz : w.heap.size < w2.heap.size := Wb.cell_size hm0
      have h0l : (Wb.below 0 l).length = 0 := by rw [(Wb.below_all HLI.out).2]; rfl
      have H0 := Lib.hid h0l; clear h0l
      have H7 := Lib.hid (show (Wb.below 7 l).length = l.length by rw [(Wb.below_all HLI.out).1])
      go_wp2_with fail
      go_loopw [5, 19] (fun av iv wr => ∃ k n : Nat, k ≤ 7 ∧ iv = .int .i64 k ∧ av = .int .i64 n ∧ n = (Wb.below k l).length ∧ Wb.Ext w2 wr) (fun _ iv _ => 7 - (intOf iv).toNat)
      case atStart => exact ⟨0, 0, by omega, rfl, rfl, H0.out.symm, by (repeat' (first | (with_reducible assumption) | (with_reducible exact Wb.Ext.refl _) | (with_reducible refine Wb.Ext.drew ?_) | (with_reducible refine Wb.Ext.drewN ?_ _) | (with_reducible refine Wb.Ext.alloc ?_ _) | (with_reducible refine Wb.Ext.trans ?_ (by assumption))))⟩
      case round =>
        obtain ⟨k, n, hk, rfl, rfl, hnb, hext⟩ := hrel
        have HNB := Lib.hid hnb; clear hnb
        have hew : Wb.Ext w wr := by (repeat' (first | (with_reducible assumption) | (with_reducible exact Wb.Ext.refl _) | (with_reducible refine Wb.Ext.drew ?_) | (with_reducible refine Wb.Ext.drewN ?_ _) | (with_reducible refine Wb.Ext.alloc ?_ _) | (with_reducible refine Wb.Ext.trans ?_ (by assumption))))
        have hr0 := hext.keep hm0
        have hr1 := hext.keep hm1
        have hr2 := hext.keep hm2
        by_cases hk7 : k < 7
        · have hk7i : (k : Int) < 7 := by omega
          go_wp2_with fail
          refine (part_any y i _ l k _ (HL.out.ext hew) HS.out).mono ?_; rintro e w3 ⟨u, rfl, hu, hb3⟩
          obtain ⟨pl, hpl⟩ : ∃ q, Wb.partOf (k : Int) l = q := ⟨_, rfl⟩
          rw [hpl] at hu
          have HPL := Lib.hid hpl; clear hpl
          obtain ⟨ua, ucap, rfl⟩ := hu.shape
          have HU := Lib.hid hu; clear hu
          have hs2 := hb3.keep hr2
          have he3 : Wb.Ext w w3 := by (repeat' (first | (with_reducible assumption) | (with_reducible exact Wb.Ext.refl _) | (with_reducible refine Wb.Ext.drew ?_) | (with_reducible refine Wb.Ext.drewN ?_ _) | (with_reducible refine Wb.Ext.alloc ?_ _) | (with_reducible refine Wb.Ext.trans ?_ (by assumption))))
          have hz3 : w.heap.size < w3.heap.size := Wb.cell_size hs2
          have he23 : Wb.Ext w2 w3 := hext.trans hb3
          have hpll : pl.length ≤ 448 := by rw [← HPL.out]; exact Nat.le_trans (List.length_filter_le _ _) hn
          clear hb3 hr0 hr1 hr2
          go_wp2_with fail
          go_loopw [5, 26] (fun av jv wq => ∃ j q : Nat, j ≤ pl.length ∧ jv = .int .i64 j ∧ av = .int .i64 q ∧ q = n + j ∧ Wb.Ext w3 wq) (fun _ jv _ => pl.length - (intOf jv).toNat)
          case atStart => exact ⟨0, n, by omega, rfl, rfl, rfl, by (repeat' (first | (with_reducible assumption) | (with_reducible exact Wb.Ext.refl _) | (with_reducible refine Wb.Ext.drew ?_) | (with_reducible refine Wb.Ext.drewN ?_ _) | (with_reducible refine Wb.Ext.alloc ?_ _) | (with_reducible refine Wb.Ext.trans ?_ (by assumption))))⟩
          case round =>
            obtain ⟨j, q, hj, rfl, rfl, hq, hext3⟩ := hrel
            have HQ := Lib.hid hq; clear hq
            have heq : Wb.Ext w wr := by (repeat' (first | (with_reducible assumption) | (with_reducible exact Wb.Ext.refl _) | (with_reducible refine Wb.Ext.drew ?_) | (with_reducible refine Wb.Ext.drewN ?_ _) | (with_reducible refine Wb.Ext.alloc ?_ _) | (with_reducible refine Wb.Ext.trans ?_ (by assumption))))
            by_cases hlt : j < pl.length
            · obtain ⟨x, hx⟩ := Wb.get_ex hlt
              have hxl := Wb.parts_get (l := l) (k := (k : Int)) (j := j) (x := x) HSRT.out (by rw [HPL.out]; exact hx)
              rw [← HNB.out, ← HQ.out] at hxl
              have hxk := Wb.part_of (l := l) (k := (k : Int)) (j := j) (x := x) (by rw [HPL.out]; exact hx)
              have hql : q < l.length := (List.getElem?_eq_some_iff.1 hxl).1
              have hqi : (q : Int) < l.length := by omega
              have dq : decide ((l.length : Int) ≤ q) = false := by simp; omega
              have dqn : decide (l.length ≤ q) = false := by simp; omega
              obtain ⟨ub, uoff, rfl, hui⟩ := (HU.out.ext hext3).opened (ne_of_lt hlt)
              obtain ⟨hui1, hui2⟩ := hui j x hx
              obtain ⟨b, off, rfl, hcells⟩ := (HL.out.ext heq).opened (ne_of_lt hql)
              obtain ⟨hl1, hl2, hl3⟩ := hcells q x hxl
              clear hui hcells hx hxl
              obtain ⟨xp, xc, xn⟩ := x
              simp only at hxk hui1 hui2 hl1 hl2 hl3
              subst hxk
              have hs3 := hext3.keep hs2
              have hq0 : (wr.alloc (.cells #[.string (Wb.S xc), .int .i64 xn] 37)).cell? ⟨w.heap.size, 2, none⟩ = some (.slice (some ⟨b, off, none⟩) l.length cap) := ((Wb.Ext.refl wr).alloc _).keep hs3
              have hq1 : (wr.alloc (.cells #[.string (Wb.S xc), .int .i64 xn] 37)).cell? ⟨b, off + q * 3, none⟩ = some (.int .i64 (k : Int)) := ((Wb.Ext.refl wr).alloc _).keep hl1
              have hq2 : (wr.alloc (.cells #[.string (Wb.S xc), .int .i64 xn] 37)).cell? ⟨b, off + q * 3 + 1, none⟩ = some (.string (Wb.S xc)) := ((Wb.Ext.refl wr).alloc _).keep hl2
              have hq3 : (wr.alloc (.cells #[.string (Wb.S xc), .int .i64 xn] 37)).cell? ⟨b, off + q * 3 + 2, none⟩ = some (.int .i64 xn) := ((Wb.Ext.refl wr).alloc _).keep hl3
              have hq4 : (wr.alloc (.cells #[.string (Wb.S xc), .int .i64 xn] 37)).cell? ⟨wr.heap.size, 0, none⟩ = some (.string (Wb.S xc)) := by simp [go_sem]
              have hq5 : (wr.alloc (.cells #[.string (Wb.S xc), .int .i64 xn] 37)).cell? ⟨wr.heap.size, 1, none⟩ = some (.int .i64 xn) := by simp [go_sem]
              clear hl1 hl2 hl3 hs3
              go_wp2_with fail
              go_region_held3 (fun w' => w'.cell? ⟨w.heap.size, 2, none⟩ = some (.slice (some ⟨b, off, none⟩) l.length cap) ∧ w'.cell? ⟨b, off + q * 3, none⟩ = some (.int .i64 (k : Int)) ∧ w'.cell? ⟨b, off + q * 3 + 1, none⟩ = some (.string (Wb.S xc)) ∧ w'.cell? ⟨b, off + q * 3 + 2, none⟩ = some (.int .i64 xn) ∧ w'.cell? ⟨wr.heap.size, 0, none⟩ = some (.string (Wb.S xc)) ∧ w'.cell? ⟨wr.heap.size, 1, none⟩ = some (.int .i64 xn)) (first | exact ⟨hq0, hq1, hq2, hq3, hq4, hq5⟩ | assumption | go_keep) (fail)
              go_wp2
              go_roundw
              case rel => exact ⟨j + 1, q + 1, by omega, by go_num, by go_num, by rw [HQ.out]; omega, by (repeat' (first | (with_reducible assumption) | (with_reducible exact Wb.Ext.refl _) | (with_reducible refine Wb.Ext.drew ?_) | (with_reducible refine Wb.Ext.drewN ?_ _) | (with_reducible refine Wb.Ext.alloc ?_ _) | (with_reducible refine Wb.Ext.trans ?_ (by assumption))))⟩
              case measure => simp [intOf]; omega
            · have HN2 := Lib.hid (show q = (Wb.below (((k + 1 : Nat) : Int)) l).length by
                have := Wb.below_succ (k : Int) l
                rw [HPL.out, ← HNB.out] at this
                rw [HQ.out, show ((k + 1 : Nat) : Int) = (k : Int) + 1 by omega]
                omega)
              go_wp2
              go_roundw
              case rel => exact ⟨k + 1, q, by omega, by go_num, rfl, HN2.out, he23.trans hext3⟩
              case measure => simp [intOf]; omega
        · have hk7e : k = 7 := by omega
          subst hk7e
          have hnl : n = l.length := by rw [HNB.out]; exact H7.out
          subst hnl
          by_cases hp0 : p < 0
          · have HP := Lib.hid (show p < 0 ∨ 6 < p from .inl hp0)
            go_wp2_with fail
            refine (awake27_any _ (HTB.out.ext hew) (HW.out.ext hew)).mono ?_; rintro e w4 ⟨rfl, hb4⟩
            have he4 : Wb.Ext w w4 := hew.trans hb4
            have hr20 := hb4.keep hr0
            have hr21 := hb4.keep hr1
            have hr22 := hb4.keep hr2
            go_wp2_with fail
            refine (part_nil y i _ l p _ (HL.out.ext he4) HS.out HLI.out HP.out).mono ?_; rintro e w5 ⟨pa, pc, rfl, hb5⟩
            have he5 : Wb.Ext w w5 := he4.trans hb5
            have hr30 := hb5.keep hr20
            have hr31 := hb5.keep hr21
            have hr32 := hb5.keep hr22
            go_wp2_with fail
            refine (why_none y i _ l p HP.out _ (HL.out.ext he5) HS.out).mono ?_; rintro e w6 ⟨rfl, hb6⟩
            have hend : Wb.Ext w w6 := he5.trans hb6
            go_wp2
            go_ret
            exact ⟨rfl, hend⟩
          · have dp0 : decide (p < 0) = false := by simpa using hp0
            by_cases hp6 : 6 < p
            · have HP := Lib.hid (show p < 0 ∨ 6 < p from .inr hp6)
              go_wp2_with fail
              refine (awake27_any _ (HTB.out.ext hew) (HW.out.ext hew)).mono ?_; rintro e w4 ⟨rfl, hb4⟩
              have he4 : Wb.Ext w w4 := hew.trans hb4
              have hr20 := hb4.keep hr0
              have hr21 := hb4.keep hr1
              have hr22 := hb4.keep hr2
              go_wp2_with fail
              refine (part_nil y i _ l p _ (HL.out.ext he4) HS.out HLI.out HP.out).mono ?_; rintro e w5 ⟨pa, pc, rfl, hb5⟩
              have he5 : Wb.Ext w w5 := he4.trans hb5
              have hr30 := hb5.keep hr20
              have hr31 := hb5.keep hr21
              have hr32 := hb5.keep hr22
              go_wp2_with fail
              refine (why_none y i _ l p HP.out _ (HL.out.ext he5) HS.out).mono ?_; rintro e w6 ⟨rfl, hb6⟩
              have hend : Wb.Ext w w6 := he5.trans hb6
              go_wp2
              go_ret
              exact ⟨rfl, hend⟩
            · have dp6 : decide (6 < p) = false := by simpa using hp6
              go_wp2_with fail
              refine (awake27_any _ (HTB.out.ext hew) (HW.out.ext hew)).mono ?_; rintro e w4 ⟨rfl, hb4⟩
              have he4 : Wb.Ext w w4 := hew.trans hb4
              have hr20 := hb4.keep hr0
              have hr21 := hb4.keep hr1
              have hr22 := hb4.keep hr2
              go_wp2
              go_ret
              exact ⟨rfl, he4⟩
    · go_wp2_with fail
      refine (awake27_any _ (HTB.out.ext he2) (HW.out.ext he2)).mono ?_; rintro e w3 ⟨rfl, hb3⟩
      go_wp2
      go_ret
      exact ⟨rfl, by (repeat' (first | (with_reducible assumption) | (with_reducible exact Wb.Ext.refl _) | (with_reducible refine Wb.Ext.drew ?_) | (with_reducible refine Wb.Ext.drewN ?_ _) | (with_reducible refine Wb.Ext.alloc ?_ _) | (with_reducible refine Wb.Ext.trans ?_ (by assumption))))⟩

end Go.Proofs.YtpiedhjjpmmomaaDoor
