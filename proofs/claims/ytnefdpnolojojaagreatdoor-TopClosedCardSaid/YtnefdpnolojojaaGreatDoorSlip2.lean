/- Slip2 -/
import Derived.Test.YtnefdpnolojojaaGreatDoorSlip
namespace Go.Proofs.YtnefdpnolojojaaGreatDoor
open Go.RowKit
set_option maxRecDepth 4000
set_option maxHeartbeats 1000000 in
theorem check_any (y i : Int) (v : Value) (l : List Wb.Ln) (w : World) (hl : Lns w v l) (hs : Sized l) :
  Calls Tryz.prog 45 #[.agg #[.int .i64 y, .int .i64 i, v]] w fun e w' => e = .returned (.int .i64 (Wb.check y i l)) ∧ Wb.Ext w w' := by
 have HS := Lib.hid hs
 have hlen := hs.1
 clear hs
 obtain ⟨a, cap, rfl⟩ := hl.shape
 have HL := Lib.hid hl; clear hl
 by_cases hy : y < 1900
 ·have H := Lib.hid (show Wb.check y i l = 2 by rw [Wb.check, if_pos (by omega)])
  go_enter Tryz.func45, Tryz.ntmps45
  go_wp2
  go_ret
  exact ⟨by rw [H.out]; rfl, by (repeat' (first | (with_reducible assumption) | (with_reducible exact Wb.Ext.refl _) | (with_reducible refine Wb.Ext.drew ?_) | (with_reducible refine Wb.Ext.drewN ?_ _) | (with_reducible refine Wb.Ext.alloc ?_ _) | (with_reducible refine Wb.Ext.trans ?_ (by assumption))))⟩
 ·have dy : decide (y < 1900) = false := by simpa using hy
  by_cases hy2 : 2199 < y
  ·have H := Lib.hid (show Wb.check y i l = 2 by rw [Wb.check, if_pos (by omega)])
   go_enter Tryz.func45, Tryz.ntmps45
   go_wp2
   go_ret
   exact ⟨by rw [H.out]; rfl, by (repeat' (first | (with_reducible assumption) | (with_reducible exact Wb.Ext.refl _) | (with_reducible refine Wb.Ext.drew ?_) | (with_reducible refine Wb.Ext.drewN ?_ _) | (with_reducible refine Wb.Ext.alloc ?_ _) | (with_reducible refine Wb.Ext.trans ?_ (by assumption))))⟩
  ·have dy2 : decide (2199 < y) = false := by simpa using hy2
   by_cases hi : i < 1
   ·have H := Lib.hid (show Wb.check y i l = 2 by rw [Wb.check, if_pos (by omega)])
    go_enter Tryz.func45, Tryz.ntmps45
    go_wp2
    go_ret
    exact ⟨by rw [H.out]; rfl, by (repeat' (first | (with_reducible assumption) | (with_reducible exact Wb.Ext.refl _) | (with_reducible refine Wb.Ext.drew ?_) | (with_reducible refine Wb.Ext.drewN ?_ _) | (with_reducible refine Wb.Ext.alloc ?_ _) | (with_reducible refine Wb.Ext.trans ?_ (by assumption))))⟩
   ·have di : decide (i < 1) = false := by simpa using hi
    by_cases hi2 : 400 < i
    ·have H := Lib.hid (show Wb.check y i l = 2 by rw [Wb.check, if_pos (by omega)])
     go_enter Tryz.func45, Tryz.ntmps45
     go_wp2
     go_ret
     exact ⟨by rw [H.out]; rfl, by (repeat' (first | (with_reducible assumption) | (with_reducible exact Wb.Ext.refl _) | (with_reducible refine Wb.Ext.drew ?_) | (with_reducible refine Wb.Ext.drewN ?_ _) | (with_reducible refine Wb.Ext.alloc ?_ _) | (with_reducible refine Wb.Ext.trans ?_ (by assumption))))⟩
    ·have di2 : decide (400 < i) = false := by simpa using hi2
     by_cases hm : 448 < l.length
     ·have H := Lib.hid (show Wb.check y i l = 5 by rw [Wb.check, if_neg (by omega), if_pos hm])
      go_enter Tryz.func45, Tryz.ntmps45
      go_wp2
      go_ret
      exact ⟨by rw [H.out]; rfl, by (repeat' (first | (with_reducible assumption) | (with_reducible exact Wb.Ext.refl _) | (with_reducible refine Wb.Ext.drew ?_) | (with_reducible refine Wb.Ext.drewN ?_ _) | (with_reducible refine Wb.Ext.alloc ?_ _) | (with_reducible refine Wb.Ext.trans ?_ (by assumption))))⟩
     ·have dm : decide (448 < (l.length : Int)) = false := by simp; omega
      have HCK := Lib.hid (show Wb.check y i l = Wb.chk none l by rw [Wb.check, if_neg (by omega), if_neg hm])
      go_enter Tryz.func45, Tryz.ntmps45
      go_wp2
      go_loopw [32] (fun iv wr => ∃ k : Nat, k ≤ l.length ∧ iv = .int .i64 k ∧ Wb.Ext (w.alloc (.cells #[.int .i64 y, .int .i64 i, .slice a l.length cap] 50)) wr ∧ Wb.chk none l = Wb.chk (Wb.ahead l k) (l.drop k)) (fun iv _ => l.length - (intOf iv).toNat)
      case atStart => exact ⟨0, by omega, rfl, by (repeat' (first | (with_reducible assumption) | (with_reducible exact Wb.Ext.refl _) | (with_reducible refine Wb.Ext.drew ?_) | (with_reducible refine Wb.Ext.drewN ?_ _) | (with_reducible refine Wb.Ext.alloc ?_ _) | (with_reducible refine Wb.Ext.trans ?_ (by assumption)))), rfl⟩
      case round =>
       obtain ⟨k, hk, rfl, hext, hchk⟩ := hrel
       have HK := Lib.hid hchk; clear hchk
       have hew : Wb.Ext w wr := by (repeat' (first | (with_reducible assumption) | (with_reducible exact Wb.Ext.refl _) | (with_reducible refine Wb.Ext.drew ?_) | (with_reducible refine Wb.Ext.drewN ?_ _) | (with_reducible refine Wb.Ext.alloc ?_ _) | (with_reducible refine Wb.Ext.trans ?_ (by assumption))))
       by_cases hlt : k < l.length
       ·obtain ⟨x, hx⟩ := Wb.get_ex hlt
        have HX := Lib.hid hx
        obtain ⟨b, off, rfl, hcells⟩ := (HL.out.ext hew).opened (ne_of_lt hlt)
        have HC := Lib.hid hcells; clear hcells
        obtain ⟨hcp, hcc, hcn⟩ := HC.out k x hx
        have HD := Lib.hid (Wb.drop_get hx)
        clear hx
        obtain ⟨hce, hfe⟩ := hext.cells
        have hsz := hext.size
        have hz1 : w.heap.size < wr.heap.size := by simp at hsz; omega
        have hz2 : w.heap.size < wr.heap.size + 1 := by omega
        have hbs := Wb.cell_size hcp
        have hbs1 : b < wr.heap.size + 1 := by omega
        cases he : (Wb.lineErr x != 0)
        ·have he0 : Wb.lineErr x = 0 := by simpa using he
         have HE0 := Lib.hid he0; clear he0
         by_cases hk0 : k = 0
         ·subst hk0
          simp only [Nat.zero_mul, Nat.add_zero] at hcp hcc hcn
          go_wp2_with (go_at_call 62; refine (line_any x (HS.out.2 x (List.mem_of_getElem? HX.out)) _).mono ?_; rintro e w1 ⟨rfl, hb1⟩; obtain ⟨hc1, hf1⟩ := hb1.cells)
          go_roundw
          case rel =>
           refine ⟨0 + 1, by omega, by go_num, by (repeat' (first | (with_reducible assumption) | (with_reducible exact Wb.Ext.refl _) | (with_reducible refine Wb.Ext.drew ?_) | (with_reducible refine Wb.Ext.drewN ?_ _) | (with_reducible refine Wb.Ext.alloc ?_ _) | (with_reducible refine Wb.Ext.trans ?_ (by assumption)))), ?_⟩
           rw [HK.out, HD.out, Wb.ahead_zero, Wb.chk_none HE0.out, Wb.ahead_succ, HX.out]
          case measure => simp [intOf]; omega
         ·have hk0' : ((k : Int) == 0) = false := by simpa using hk0
          have hk0n : (k == 0) = false := by simpa using hk0
          obtain ⟨q, hq⟩ := Wb.get_ex (l := l) (k := k - 1) (by omega)
          obtain ⟨hqp, hqc, hqn⟩ := HC.out (k - 1) q hq
          have HA := Lib.hid (show Wb.ahead l k = some q by rw [Wb.ahead, if_neg hk0, hq])
          clear hq
          have hp1 : 1 ≤ k := by omega
          have HN : Hid (Wb.ahead l (k + 1) = some x) := by rw [Wb.ahead_succ]; exact HX.out
          have HCK1 : Hid (Wb.chk none l = if q.part = x.part ∧ q.code = x.code then 7 else if Wb.lnLt q x = false then 8 else Wb.chk (some x) (l.drop (k + 1))) := by
           exact (HK.out.trans (by rw [HD.out, HA.out])).trans (Wb.chk_some HE0.out q _)
          cases hpe : (q.part == x.part)
          ·have hpn : ¬ (q.part = x.part ∧ q.code = x.code) := by intro h; simp at hpe; exact hpe h.1
           have HPN := Lib.hid hpn; clear hpn
           cases hlt2 : Wb.lnLt q x
           ·have HR := Lib.hid (show Wb.check y i l = 8 by rw [HCK.out, HCK1.out, if_neg HPN.out, if_pos hlt2])
            go_wp2_with (first | (go_at_call 62; refine (line_any x (HS.out.2 x (List.mem_of_getElem? HX.out)) _).mono ?_; rintro e w1 ⟨rfl, hb1⟩; obtain ⟨hc1, hf1⟩ := hb1.cells; have hs1 : wr.heap.size < w1.heap.size := (by have := hb1.size; simp at this; omega); have hs2 : w.heap.size < w1.heap.size := (by omega); have hs3 : b < w1.heap.size := (by omega)) | (go_at_call 63; refine (less_any q x _).mono ?_; rintro e w2 ⟨rfl, hb2⟩; rw [hlt2]))
            go_ret
            exact ⟨by rw [HR.out]; rfl, by (repeat' (first | (with_reducible assumption) | (with_reducible exact Wb.Ext.refl _) | (with_reducible refine Wb.Ext.drew ?_) | (with_reducible refine Wb.Ext.drewN ?_ _) | (with_reducible refine Wb.Ext.alloc ?_ _) | (with_reducible refine Wb.Ext.trans ?_ (by assumption))))⟩
           ·have HR := Lib.hid (show Wb.chk none l = Wb.chk (some x) (l.drop (k + 1)) by rw [HCK1.out, if_neg HPN.out, if_neg (by rw [hlt2]; simp)])
            go_wp2_with (first | (go_at_call 62; refine (line_any x (HS.out.2 x (List.mem_of_getElem? HX.out)) _).mono ?_; rintro e w1 ⟨rfl, hb1⟩; obtain ⟨hc1, hf1⟩ := hb1.cells; have hs1 : wr.heap.size < w1.heap.size := (by have := hb1.size; simp at this; omega); have hs2 : w.heap.size < w1.heap.size := (by omega); have hs3 : b < w1.heap.size := (by omega)) | (go_at_call 63; refine (less_any q x _).mono ?_; rintro e w2 ⟨rfl, hb2⟩; rw [hlt2]))
            go_roundw
            case rel => exact ⟨k + 1, by omega, by go_num, by (repeat' (first | (with_reducible assumption) | (with_reducible exact Wb.Ext.refl _) | (with_reducible refine Wb.Ext.drew ?_) | (with_reducible refine Wb.Ext.drewN ?_ _) | (with_reducible refine Wb.Ext.alloc ?_ _) | (with_reducible refine Wb.Ext.trans ?_ (by assumption)))), by rw [HR.out, HN.out]⟩
            case measure => simp [intOf]; omega
          ·cases hce2 : (q.code == x.code)
           ·have hpn : ¬ (q.part = x.part ∧ q.code = x.code) := by intro h; simp at hce2; exact hce2 h.2
            have HPN := Lib.hid hpn; clear hpn
            cases hlt2 : Wb.lnLt q x
            ·have HR := Lib.hid (show Wb.check y i l = 8 by rw [HCK.out, HCK1.out, if_neg HPN.out, if_pos hlt2])
             go_wp2_with (first | (go_at_call 62; refine (line_any x (HS.out.2 x (List.mem_of_getElem? HX.out)) _).mono ?_; rintro e w1 ⟨rfl, hb1⟩; obtain ⟨hc1, hf1⟩ := hb1.cells; have hs1 : wr.heap.size < w1.heap.size := (by have := hb1.size; simp at this; omega); have hs2 : w.heap.size < w1.heap.size := (by omega); have hs3 : b < w1.heap.size := (by omega)) | (go_at_call 63; refine (less_any q x _).mono ?_; rintro e w2 ⟨rfl, hb2⟩; rw [hlt2]))
             go_ret
             exact ⟨by rw [HR.out]; rfl, by (repeat' (first | (with_reducible assumption) | (with_reducible exact Wb.Ext.refl _) | (with_reducible refine Wb.Ext.drew ?_) | (with_reducible refine Wb.Ext.drewN ?_ _) | (with_reducible refine Wb.Ext.alloc ?_ _) | (with_reducible refine Wb.Ext.trans ?_ (by assumption))))⟩
            ·have HR := Lib.hid (show Wb.chk none l = Wb.chk (some x) (l.drop (k + 1)) by rw [HCK1.out, if_neg HPN.out, if_neg (by rw [hlt2]; simp)])
             go_wp2_with (first | (go_at_call 62; refine (line_any x (HS.out.2 x (List.mem_of_getElem? HX.out)) _).mono ?_; rintro e w1 ⟨rfl, hb1⟩; obtain ⟨hc1, hf1⟩ := hb1.cells; have hs1 : wr.heap.size < w1.heap.size := (by have := hb1.size; simp at this; omega); have hs2 : w.heap.size < w1.heap.size := (by omega); have hs3 : b < w1.heap.size := (by omega)) | (go_at_call 63; refine (less_any q x _).mono ?_; rintro e w2 ⟨rfl, hb2⟩; rw [hlt2]))
             go_roundw
             case rel => exact ⟨k + 1, by omega, by go_num, by (repeat' (first | (with_reducible assumption) | (with_reducible exact Wb.Ext.refl _) | (with_reducible refine Wb.Ext.drew ?_) | (with_reducible refine Wb.Ext.drewN ?_ _) | (with_reducible refine Wb.Ext.alloc ?_ _) | (with_reducible refine Wb.Ext.trans ?_ (by assumption)))), by rw [HR.out, HN.out]⟩
             case measure => simp [intOf]; omega
           ·have HR := Lib.hid (show Wb.check y i l = 7 by rw [HCK.out, HCK1.out, if_pos ⟨by simpa using hpe, by simpa using hce2⟩])
            go_wp2_with (first | (go_at_call 62; refine (line_any x (HS.out.2 x (List.mem_of_getElem? HX.out)) _).mono ?_; rintro e w1 ⟨rfl, hb1⟩; obtain ⟨hc1, hf1⟩ := hb1.cells; have hs1 : wr.heap.size < w1.heap.size := (by have := hb1.size; simp at this; omega); have hs2 : w.heap.size < w1.heap.size := (by omega); have hs3 : b < w1.heap.size := (by omega)) | (go_at_call 63; refine (less_any q x _).mono ?_; rintro e w2 ⟨rfl, hb2⟩))
            go_ret
            exact ⟨by rw [HR.out]; rfl, by (repeat' (first | (with_reducible assumption) | (with_reducible exact Wb.Ext.refl _) | (with_reducible refine Wb.Ext.drew ?_) | (with_reducible refine Wb.Ext.drewN ?_ _) | (with_reducible refine Wb.Ext.alloc ?_ _) | (with_reducible refine Wb.Ext.trans ?_ (by assumption))))⟩
        ·have HR := Lib.hid (show Wb.check y i l = Wb.lineErr x by rw [HCK.out, HK.out, HD.out, Wb.chk_err (by simpa using he)])
         go_wp2_with (go_at_call 62; refine (line_any x (HS.out.2 x (List.mem_of_getElem? HX.out)) _).mono ?_; rintro e w1 ⟨rfl, hb1⟩; obtain ⟨hc1, hf1⟩ := hb1.cells)
         go_ret
         exact ⟨by rw [HR.out]; rfl, by (repeat' (first | (with_reducible assumption) | (with_reducible exact Wb.Ext.refl _) | (with_reducible refine Wb.Ext.drew ?_) | (with_reducible refine Wb.Ext.drewN ?_ _) | (with_reducible refine Wb.Ext.alloc ?_ _) | (with_reducible refine Wb.Ext.trans ?_ (by assumption))))⟩
       ·have HR := Lib.hid (show Wb.check y i l = 0 by rw [HCK.out, HK.out, List.drop_of_length_le (by omega)]; rfl)
        go_wp2
        go_ret
        exact ⟨by rw [HR.out]; rfl, by (repeat' (first | (with_reducible assumption) | (with_reducible exact Wb.Ext.refl _) | (with_reducible refine Wb.Ext.drew ?_) | (with_reducible refine Wb.Ext.drewN ?_ _) | (with_reducible refine Wb.Ext.alloc ?_ _) | (with_reducible refine Wb.Ext.trans ?_ (by assumption))))⟩
end Go.Proofs.YtnefdpnolojojaaGreatDoor
