/- Lists of slips in memory; delta.Zero, delta.Net. -/
import Derived.Test.YtdfmlgjemfcmlaaDel1
import Derived.Test.YtdfmlgjemfcmlaaPlain29d
import Derived.Test.YtdfmlgjemfcmlaaSlip15
namespace Go.Proofs.Ytdfmlgjemfcmlaa
open Go.RowKit Go.Sort
set_option maxRecDepth 8000
attribute [local go_sem ↓] Go.wp_at_zero Go.wp_at_succ

def slc (s : Wb.Sl) : List Value := [.int .i64 s.y, .int .i64 s.i, s.v]
theorem slc_len (s : Wb.Sl) : (slc s).length = 3 := rfl
/-- slips in memory -/
def Sls (w : World) (v : Value) (L : List Wb.Sl) : Prop := Tbl 3 slc w v L ∧ ∀ s ∈ L, LnsC w s.v s.l ∧ Sized s.l
theorem Sls.ext {w w' : World} {v : Value} {L : List Wb.Sl} (h : Sls w v L) (k : Wb.Ext w w') : Sls w' v L := ⟨h.1.ext k, fun s hs => ⟨(h.2 s hs).1.ext k, (h.2 s hs).2⟩⟩
theorem Sls.cells {w : World} {a : Option Addr} {n cap : Nat} {L : List Wb.Sl} (h : Sls w (.slice a n cap) L) {k : Nat} {s : Wb.Sl} (hk : L[k]? = some s) : ∃ b off, a = some ⟨b, off, none⟩ ∧ w.cell? ⟨b, off + k * 3, none⟩ = some (.int .i64 s.y) ∧ w.cell? ⟨b, off + k * 3 + 1, none⟩ = some (.int .i64 s.i) ∧ w.cell? ⟨b, off + k * 3 + 2, none⟩ = some s.v := by
  obtain ⟨b, off, rfl, hc⟩ := h.1.opened (by rintro rfl; simp at hk)
  exact ⟨b, off, rfl, hc k s hk 0 _ rfl, hc k s hk 1 _ rfl, hc k s hk 2 _ rfl⟩
theorem drop_at {α : Type} {l : List α} {k : Nat} {x : α} (h : l[k]? = some x) : l.drop k = x :: l.drop (k + 1) := by
  obtain ⟨h1, rfl⟩ := List.getElem?_eq_some_iff.1 h
  exact List.drop_eq_getElem_cons h1

theorem dzero_any (y i : Int) (v : Value) (l : List Wb.Ln) (w : World) (hl : Lns w v l) :
    Calls Try.prog 18 #[SlV y i v] w fun e w' => e = .returned (.bool l.isEmpty) ∧ Wb.Ext w w' := by
  obtain ⟨a, c, rfl⟩ := hl.shape
  clear hl
  cases l with
  | nil =>
    go_enter Try.func18, Try.ntmps18
    go_wp2
    go_ret
    exact ⟨rfl, by (repeat' (first | (with_reducible assumption) | (with_reducible exact Wb.Ext.refl _) | (with_reducible refine Wb.Ext.drew ?_) | (with_reducible refine Wb.Ext.drewN ?_ _) | (with_reducible refine Wb.Ext.alloc ?_ _) | (with_reducible refine Wb.Ext.trans ?_ (by assumption))))⟩
  | cons x r =>
    have d : (((x :: r).length : Int) == 0) = false := by simp; omega
    have H := Lib.hid (show (x :: r).isEmpty = false from rfl)
    generalize (x :: r).length = n at d ⊢
    go_enter Try.func18, Try.ntmps18
    go_wp2
    go_ret
    exact ⟨Wb.ret_bool H.out.symm, by (repeat' (first | (with_reducible assumption) | (with_reducible exact Wb.Ext.refl _) | (with_reducible refine Wb.Ext.drew ?_) | (with_reducible refine Wb.Ext.drewN ?_ _) | (with_reducible refine Wb.Ext.alloc ?_ _) | (with_reducible refine Wb.Ext.trans ?_ (by assumption))))⟩

theorem net_none {acc : Int} {s : Wb.Sl} {r : List Wb.Sl} (h : Wb.noneB s.y s.i s.l = true) : Wb.netF acc (s :: r) = Wb.netF acc r := by rw [Wb.netF, if_pos h]
theorem net_err {acc a b c d e : Int} {s : Wb.Sl} {r : List Wb.Sl} (h : Wb.noneB s.y s.i s.l = false) (hs : Wb.sums s.y s.i s.l = (a, b, c, d, e)) (he : e ≠ 0) : Wb.netF acc (s :: r) = (0, e) := by
  rw [Wb.netF, if_neg (by rw [h]; exact Bool.false_ne_true), hs, if_pos he]
theorem net_over {acc a b c d : Int} {s : Wb.Sl} {r : List Wb.Sl} (h : Wb.noneB s.y s.i s.l = false) (hs : Wb.sums s.y s.i s.l = (a, b, c, d, 0)) (he : Wb.fits (acc + c) = false) : Wb.netF acc (s :: r) = (0, 9) := by
  rw [Wb.netF, if_neg (by rw [h]; exact Bool.false_ne_true), hs, if_neg (by simp), if_pos he]
theorem net_more {acc a b c d : Int} {s : Wb.Sl} {r : List Wb.Sl} (h : Wb.noneB s.y s.i s.l = false) (hs : Wb.sums s.y s.i s.l = (a, b, c, d, 0)) (he : Wb.fits (acc + c) = true) : Wb.netF acc (s :: r) = Wb.netF (acc + c) r := by
  rw [Wb.netF, if_neg (by rw [h]; exact Bool.false_ne_true), hs, if_neg (by simp), if_neg (by rw [he]; decide)]

set_option maxHeartbeats 2000000 in
theorem dnet_any (v : Value) (L : List Wb.Sl) (w : World) (hL : Sls w v L) (hl : L.length ≤ 1000000) :
    Calls Try.prog 15 #[v] w fun e w' => e = Two (Wb.netF 0 L) ∧ Wb.Ext w w' := by
  obtain ⟨va, vc, rfl⟩ := hL.1.shape
  have HL := Lib.hid hL
  clear hL
  go_enter Try.func15, Try.ntmps15
  go_wp2_with fail
  go_loopw [14, 4] (fun iv sv wr => ∃ (k : Nat) (acc : Int), k ≤ L.length ∧ iv = .int .i64 k ∧ sv = .int .i64 acc ∧ Hid (Wb.fits acc = true ∧ Wb.netF 0 L = Wb.netF acc (L.drop k)) ∧ Wb.Ext w wr) (fun iv _ _ => L.length - (intOf iv).toNat)
  case atStart => exact ⟨0, 0, Nat.zero_le _, rfl, rfl, Lib.hid ⟨by decide, rfl⟩, .refl _⟩
  case round =>
    obtain ⟨k, acc, hk, rfl, rfl, HA, hext⟩ := hrel
    by_cases hlt : k < L.length
    · obtain ⟨s, hs⟩ := Wb.get_ex hlt
      obtain ⟨b, off, rfl, c0, c1, c2⟩ := (HL.out.ext hext).cells hs
      have hki : (k : Int) < L.length := by omega
      have HD := Lib.hid (drop_at hs)
      have HS := Lib.hid ((HL.out.ext hext).2 s (List.mem_of_getElem? hs))
      clear hs
      obtain ⟨sa, sc, hsv⟩ := HS.out.1.1.shape
      rw [hsv] at c2
      have HSV := Lib.hid hsv
      have HS1 := Lib.hid (show Lns wr (.slice sa s.l.length sc) s.l by have := HS.out.1.1; rwa [hsv] at this)
      clear hsv
      go_wp2_with fail
      go_fit (dnone_any s.y s.i _ s.l _ (HS1.out.ext (by (repeat' (first | (with_reducible assumption) | (with_reducible exact Wb.Ext.refl _) | (with_reducible refine Wb.Ext.drew ?_) | (with_reducible refine Wb.Ext.drewN ?_ _) | (with_reducible refine Wb.Ext.alloc ?_ _) | (with_reducible refine Wb.ext_set ?_ (by first | assumption | (simp; done) | (simp; omega) | omega) _) | (with_reducible refine Wb.Ext.trans ?_ (by assumption))))))); rintro e w1 ⟨rfl, hb1⟩
      have d0 : w1.cell? ⟨wr.heap.size, 0, none⟩ = some (.int .i64 s.y) := hb1.keep (by simp [go_sem])
      have d1 : w1.cell? ⟨wr.heap.size, 1, none⟩ = some (.int .i64 s.i) := hb1.keep (by simp [go_sem])
      have d2 : w1.cell? ⟨wr.heap.size, 2, none⟩ = some (.slice sa s.l.length sc) := hb1.keep (by simp [go_sem])
      have hx1 : Wb.Ext wr w1 := Wb.Ext.trans (by (repeat' (first | (with_reducible assumption) | (with_reducible exact Wb.Ext.refl _) | (with_reducible refine Wb.Ext.drew ?_) | (with_reducible refine Wb.Ext.drewN ?_ _) | (with_reducible refine Wb.Ext.alloc ?_ _) | (with_reducible refine Wb.ext_set ?_ (by first | assumption | (simp; done) | (simp; omega) | omega) _) | (with_reducible refine Wb.Ext.trans ?_ (by assumption))))) hb1
      clear hb1 c0 c1 c2
      obtain ⟨p, hp⟩ : ∃ p, Wb.noneB s.y s.i s.l = p := ⟨_, rfl⟩
      have HP := Lib.hid hp
      rw [hp]
      clear hp
      cases p
      · obtain ⟨⟨q1, q2, q3, q4, q5⟩, hq⟩ : ∃ q, Wb.sums s.y s.i s.l = q := ⟨_, rfl⟩
        have HQ := Lib.hid hq
        have HQF := Lib.hid (Wb.sums_law hq)
        clear hq
        go_wp2_with fail
        go_fit (sums_any s.y s.i _ s.l _ (HS1.out.ext hx1) HS.out.2); rintro e w2 ⟨rfl, hb2⟩
        rw [HQ.out]
        have hx2 : Wb.Ext w w2 := (hext.trans hx1).trans hb2
        clear hb2 hx1 d0 d1 d2
        by_cases he : q5 = 0
        · subst he
          go_wp2_with fail
          go_fit (add_any acc q3 _); rintro e w3 ⟨rfl, rfl⟩
          obtain ⟨f, hf⟩ : ∃ f, Wb.fits (acc + q3) = f := ⟨_, rfl⟩
          have HF := Lib.hid hf
          have HQ3 := Lib.hid (show Wb.fits q3 = true from (Wb.fits_iff _).2 HQF.out.2.2.2.1)
          clear hf
          cases f
          · have HT := Lib.hid (told_over HA.out.1 HQ3.out (by rw [HF.out]; exact Bool.false_ne_true))
            have HN := Lib.hid (show Wb.netF 0 L = (0, 9) by rw [HA.out.2, HD.out, net_over HP.out HQ.out HF.out])
            rw [HT.out]
            go_wp2
            refine bodyPost_ret (v := .tuple #[.int .i64 0, .int .i64 9]) (by simp [results, Try.results15, go_sem]) rfl ⟨by rw [HN.out], hx2⟩
          · have HT := Lib.hid (told_in HA.out.1 HQ3.out HF.out)
            have HN := Lib.hid (show Wb.netF 0 L = Wb.netF (acc + q3) (L.drop (k + 1)) by rw [HA.out.2, HD.out, net_more HP.out HQ.out HF.out])
            rw [HT.out]
            go_wp2
            go_roundw
            case rel => exact ⟨k + 1, acc + q3, by omega, by go_num, rfl, Lib.hid ⟨HF.out, HN.out⟩, hx2⟩
            case measure => simp [intOf]; omega
        · have d : (q5 == 0) = false := by simpa using he
          have d2 : (q5 != 0) = true := by simpa using he
          have HN := Lib.hid (show Wb.netF 0 L = (0, q5) by rw [HA.out.2, HD.out, net_err HP.out HQ.out he])
          go_wp2
          refine bodyPost_ret (v := .tuple #[.int .i64 0, .int .i64 q5]) (by simp [results, Try.results15, go_sem]) rfl ⟨by rw [HN.out], hx2⟩
      · have HN := Lib.hid (show Wb.netF 0 L = Wb.netF acc (L.drop (k + 1)) by rw [HA.out.2, HD.out, net_none HP.out])
        go_wp2
        go_roundw
        case rel => exact ⟨k + 1, acc, by omega, by go_num, rfl, Lib.hid ⟨HA.out.1, HN.out⟩, hext.trans hx1⟩
        case measure => simp [intOf]; omega
    · obtain rfl : k = L.length := by omega
      have HN := Lib.hid (show Wb.netF 0 L = (acc, 0) by rw [HA.out.2, List.drop_length, Wb.netF])
      go_wp2
      refine bodyPost_ret (v := .tuple #[.int .i64 acc, .int .i64 0]) (by simp [results, Try.results15, go_sem]) rfl ⟨by rw [HN.out], hext⟩

end Go.Proofs.Ytdfmlgjemfcmlaa
