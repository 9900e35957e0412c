/- Chapter 27: a slip's text. -/
import Derived.Test.YtpiedhjjpmmomaaDoorSlip9
import Derived.Test.YtpiedhjjpmmomaaDoorSlip6
import Derived.Test.YtpiedhjjpmmomaaDoorPer0
import Derived.Test.YtpiedhjjpmmomaaDoorCents2
import Derived.Test.YtpiedhjjpmmomaaDoorCents3
namespace Go.Proofs.YtpiedhjjpmmomaaDoor
open Go.RowKit
set_option maxRecDepth 4000

def wordsL : List (List UInt8) := [[103, 114, 111, 115, 115], [98, 101, 102, 111, 114, 101], [119, 111, 114, 107, 101, 114], [116, 97, 120], [97, 102, 116, 101, 114], [111, 114, 100, 101, 114, 115], [102, 105, 114, 109]]
def wordOf (p : Int) : List UInt8 := wordsL.getD p.toNat []
def lineText (x : Wb.Ln) : List UInt8 := wordOf x.part ++ [32] ++ x.code ++ [32] ++ Wb.text x.cents ++ [10]
def linesText (l : List Wb.Ln) : List UInt8 := l.flatMap lineText
def slText (y i : Int) (l : List Wb.Ln) : List UInt8 := if Wb.check y i l ≠ 0 then [] else [115, 108, 105, 112, 32] ++ ptext y i ++ [10] ++ linesText l
theorem linesText_app (a b : List Wb.Ln) : linesText (a ++ b) = linesText a ++ linesText b := by simp [linesText]
theorem linesText_snoc {l : List Wb.Ln} {k : Nat} {x : Wb.Ln} (h : l[k]? = some x) : linesText (l.take (k + 1)) = linesText (l.take k) ++ lineText x := by
  obtain ⟨h1, h2⟩ := List.getElem?_eq_some_iff.1 h
  rw [List.take_succ_eq_append_getElem h1, linesText_app, h2]; simp [linesText]

theorem text_len_le (c : Int) : (Wb.text c).length ≤ 21 := by
  unfold Wb.text
  split
  · rename_i h
    have hb := (Wb.fits_iff c).1 h
    have := textN_len c.natAbs (by omega)
    unfold Wb.textZ
    split <;> simp <;> omega
  · simp
theorem lineText_len {x : Wb.Ln} (h : Wb.lineErr x = 0) : (lineText x).length ≤ 96 := by
  obtain ⟨h1, h2, h3, h4, h5⟩ := Wb.lineErr_ok h
  have hc : x.code.length ≤ 32 := by simp [Wb.codeOk] at h3; exact h3.1.2
  have ht := text_len_le x.cents
  have hw : (wordOf x.part).length ≤ 6 := by
    have : x.part = 0 ∨ x.part = 1 ∨ x.part = 2 ∨ x.part = 3 ∨ x.part = 4 ∨ x.part = 5 ∨ x.part = 6 := by omega
    rcases this with e | e | e | e | e | e | e <;> rw [e] <;> decide
  simp [lineText]; omega
theorem ptext_len (y i : Int) (hy : -1125899906842624 ≤ y ∧ y ≤ 1125899906842624) (hi : -1125899906842624 ≤ i ∧ i ≤ 1125899906842624) : (ptext y i).length ≤ 64 := by
  have h1 := itoa_len y hy
  have h2 := itoa_len i hi
  unfold ptext
  split <;> simp <;> omega

/-- the words' table as the program lays it -/
def Words (w : World) : Prop := ∀ j s, wordsL[j]? = some s → w.cell? ⟨0, j, none⟩ = some (.string (Wb.S s))
theorem Words.ext {w w' : World} (h : Words w) (k : Wb.Ext w w') : Words w' := fun j s hj => k.keep (h j s hj)

set_option maxHeartbeats 1000000 in
theorem stext_any (y i : Int) (v : Value) (l : List Wb.Ln) (w : World) (hl : Lns w v l) (hs : Sized l) (ht : Tab10 w) (hw : Words w) :
    Calls Tryd.prog 25 #[.agg #[.int .i64 y, .int .i64 i, v]] w fun e w' => e = .returned (.string (Wb.S (slText y i l))) ∧ Wb.Ext w w' := by
  have HL := Lib.hid hl
  have HS := Lib.hid hs
  have HW := Lib.hid hw
  have HTB := Lib.hid ht
  have hlen := hs.1
  clear hs hw ht
  obtain ⟨a, cap, rfl⟩ := hl.shape
  clear hl
  cases hck : (Wb.check y i l != 0)
  · have HK := Lib.hid (show Wb.check y i l = 0 by simpa using hck)
    have HF := Lib.hid (Wb.check_fit HK.out)
    obtain ⟨hy1, hy2, hi1, hi2, hn, _, hlines⟩ := Wb.check_ok HK.out
    have HLI := Lib.hid hlines
    clear hck hlines
    go_enter Tryd.func25, Tryd.ntmps25
    go_wp2_with fail
    refine (check_any y i _ l _ (HL.out.ext (by (repeat' (first | (with_reducible assumption) | (with_reducible exact Wb.Ext.refl _) | (with_reducible refine Wb.Ext.drew ?_) | (with_reducible refine Wb.Ext.drewN ?_ _) | (with_reducible refine Wb.Ext.alloc ?_ _) | (with_reducible refine Wb.Ext.trans ?_ (by assumption)))))) HS.out).mono ?_; rintro e w1 ⟨rfl, hb1⟩
    rw [HK.out]
    obtain ⟨hk0, hk1, hk2⟩ := box3 _ _ _ _ _ hb1
    have he1 : Wb.Ext w w1 := by (repeat' (first | (with_reducible assumption) | (with_reducible exact Wb.Ext.refl _) | (with_reducible refine Wb.Ext.drew ?_) | (with_reducible refine Wb.Ext.drewN ?_ _) | (with_reducible refine Wb.Ext.alloc ?_ _) | (with_reducible refine Wb.Ext.trans ?_ (by assumption))))
    have HT1 := Lib.hid (HTB.out.ext he1)
    have hpl := ptext_len y i (by omega) (by omega)
    obtain ⟨pt, hpt⟩ : ∃ pt, ptext y i = pt := ⟨_, rfl⟩
    have HPT := Lib.hid hpt
    rw [hpt] at hpl
    go_wp2_with (go_at_call 45; refine (ptext_any y i _ _ _ _ (by omega) (by omega) _ HT1.out).mono ?_; rintro e w2 ⟨rfl, hb2⟩; rw [hpt]; obtain ⟨hc2, hf2⟩ := hb2.cells; have hz2 : w.heap.size < w1.heap.size := (by have := hb1.size; simp at this; omega))
    have he2 : Wb.Ext w w2 := by (repeat' (first | (with_reducible assumption) | (with_reducible exact Wb.Ext.refl _) | (with_reducible refine Wb.Ext.drew ?_) | (with_reducible refine Wb.Ext.drewN ?_ _) | (with_reducible refine Wb.Ext.alloc ?_ _) | (with_reducible refine Wb.Ext.trans ?_ (by assumption))))
    obtain ⟨hd, hhd⟩ : ∃ hd, (115 :: 108 :: 105 :: 112 :: 32 :: (pt ++ [10]) : List UInt8) = hd := ⟨_, rfl⟩
    have hdl : hd.length ≤ 70 := by rw [← hhd]; simp; omega
    rw [hhd]
    have HHD := Lib.hid hhd
    have HR := Lib.hid (show slText y i l = hd ++ linesText l by rw [slText, if_neg (by rw [HK.out]; simp), HPT.out, ← HHD.out]; simp)
    clear hhd hpt hc2 hf2
    go_loopw [3, 20] (fun ov iv wr => ∃ (k : Nat) (o : List UInt8), k ≤ l.length ∧ iv = .int .i64 k ∧ ov = .string (Wb.S o) ∧ o.length ≤ 70 + 96 * k ∧ o = hd ++ linesText (l.take k) ∧ Wb.Ext w2 wr) (fun _ iv _ => l.length - (intOf iv).toNat)
    case atStart => exact ⟨0, hd, by omega, rfl, rfl, by omega, by simp [linesText], by (repeat' (first | (with_reducible assumption) | (with_reducible exact Wb.Ext.refl _) | (with_reducible refine Wb.Ext.drew ?_) | (with_reducible refine Wb.Ext.drewN ?_ _) | (with_reducible refine Wb.Ext.alloc ?_ _) | (with_reducible refine Wb.Ext.trans ?_ (by assumption))))⟩
    case round =>
      obtain ⟨k, o, hk, rfl, rfl, hol, ho, hext⟩ := hrel
      have HO := Lib.hid ho; clear ho
      have hew : Wb.Ext w wr := by (repeat' (first | (with_reducible assumption) | (with_reducible exact Wb.Ext.refl _) | (with_reducible refine Wb.Ext.drew ?_) | (with_reducible refine Wb.Ext.drewN ?_ _) | (with_reducible refine Wb.Ext.alloc ?_ _) | (with_reducible refine Wb.Ext.trans ?_ (by assumption))))
      by_cases hlt : k < l.length
      · obtain ⟨x, hx⟩ := Wb.get_ex hlt
        obtain ⟨b, off, rfl, hcells⟩ := (HL.out.ext hew).opened (ne_of_lt hlt)
        obtain ⟨hcp, hcx, hcn⟩ := hcells k x hx
        clear hcells
        have hxl := HLI.out x (List.mem_of_getElem? hx)
        have hln := lineText_len hxl
        obtain ⟨hp1, hp2, hp3, _, _⟩ := Wb.lineErr_ok hxl
        have HT := Lib.hid (linesText_snoc hx)
        clear hx hxl
        have hxc : x.code.length ≤ 32 := by simp [Wb.codeOk] at hp3; exact hp3.1.2
        clear hp3
        obtain ⟨xp, xc, xn⟩ := x
        simp only at hcp hcx hcn hp1 hp2 hxc
        obtain ⟨n, rfl⟩ : ∃ n : Nat, xp = n := ⟨xp.toNat, by omega⟩
        have hn7 : n < 7 := by omega
        obtain ⟨wd, hwd⟩ : ∃ wd, wordsL[n]? = some wd := Wb.get_ex (l := wordsL) (k := n) (by simpa [wordsL] using hn7)
        have hwc := HW.out.ext hew n wd hwd
        have HLT := Lib.hid (show lineText ⟨n, xc, xn⟩ = wd ++ [32] ++ xc ++ [32] ++ Wb.text xn ++ [10] by simp [lineText, wordOf, hwd])
        have hwl : wd.length ≤ 6 := by
          rw [HLT.out] at hln
          have := List.mem_of_getElem? hwd
          simp [wordsL] at this
          rcases this with rfl | rfl | rfl | rfl | rfl | rfl | rfl <;> decide
        have htl := text_len_le xn
        clear hwd hln
        have hb0 := Wb.cell_size hwc
        obtain ⟨tx, htx⟩ : ∃ tx, Wb.text xn = tx := ⟨_, rfl⟩
        have HTX := Lib.hid htx
        rw [htx] at htl
        clear htx
        have hn7i : (n : Int) < 7 := by omega
        have g1 : ¬ 9223372036854775807 < wd.length + 1 := by omega
        have g2 : ¬ 9223372036854775807 < wd.length + 1 + xc.length := by omega
        have g3 : ¬ 9223372036854775807 < wd.length + (xc.length + 1) + 1 := by omega
        have g4 : ¬ 9223372036854775807 < wd.length + (xc.length + 1 + 1) + tx.length := by omega
        have g5 : ¬ 9223372036854775807 < wd.length + (xc.length + (tx.length + 1) + 1) + 1 := by omega
        have g6 : ¬ 9223372036854775807 < o.length + (wd.length + (xc.length + (tx.length + 1 + 1) + 1)) := by omega
        have hx0 : (wr.alloc (.cells #[.int .i64 (n : Int), .string (Wb.S xc), .int .i64 xn] 39)).cell? ⟨wr.heap.size, 0, none⟩ = some (.int .i64 (n : Int)) := by simp [go_sem]
        have hx1 : (wr.alloc (.cells #[.int .i64 (n : Int), .string (Wb.S xc), .int .i64 xn] 39)).cell? ⟨wr.heap.size, 1, none⟩ = some (.string (Wb.S xc)) := by simp [go_sem]
        have hx2 : (wr.alloc (.cells #[.int .i64 (n : Int), .string (Wb.S xc), .int .i64 xn] 39)).cell? ⟨wr.heap.size, 2, none⟩ = some (.int .i64 xn) := by simp [go_sem]
        have hx3 : (wr.alloc (.cells #[.int .i64 (n : Int), .string (Wb.S xc), .int .i64 xn] 39)).cell? ⟨0, n, none⟩ = some (.string (Wb.S wd)) := ((Wb.Ext.refl wr).alloc _).keep hwc
        go_wp2_with fail
        go_region_held3 (fun w' => w'.cell? ⟨wr.heap.size, 0, none⟩ = some (.int .i64 (n : Int)) ∧ w'.cell? ⟨wr.heap.size, 1, none⟩ = some (.string (Wb.S xc)) ∧ w'.cell? ⟨wr.heap.size, 2, none⟩ = some (.int .i64 xn) ∧ w'.cell? ⟨0, n, none⟩ = some (.string (Wb.S wd))) (first | exact ⟨hx0, hx1, hx2, hx3⟩ | assumption | go_keep) (first | (go_at_call 35; go_fit (text_any xn _); rintro e w' ⟨rfl, rfl⟩; rw [HTX.out]))
        have HNX := Lib.hid (show o ++ (wd ++ 32 :: (xc ++ 32 :: (tx ++ [10]))) = hd ++ linesText (l.take (k + 1)) by rw [HT.out, HLT.out, HTX.out, HO.out]; simp)
        have HLN := Lib.hid (show (o ++ (wd ++ 32 :: (xc ++ 32 :: (tx ++ [10])))).length ≤ 70 + 96 * (k + 1) by simp; omega)
        clear g1 g2 g3 g4 g5 g6
        go_wp2
        go_roundw
        case rel => exact ⟨k + 1, _, by omega, by go_num, rfl, HLN.out, HNX.out, by (repeat' (first | (with_reducible assumption) | (with_reducible exact Wb.Ext.refl _) | (with_reducible refine Wb.Ext.drew ?_) | (with_reducible refine Wb.Ext.drewN ?_ _) | (with_reducible refine Wb.Ext.alloc ?_ _) | (with_reducible refine Wb.Ext.trans ?_ (by assumption))))⟩
        case measure => simp [intOf]; omega
      · have HQ := Lib.hid (show slText y i l = o by rw [HR.out, HO.out, List.take_of_length_le (by omega)])
        go_wp2
        go_ret
        exact ⟨Wb.ret_str (by rw [HQ.out]), by (repeat' (first | (with_reducible assumption) | (with_reducible exact Wb.Ext.refl _) | (with_reducible refine Wb.Ext.drew ?_) | (with_reducible refine Wb.Ext.drewN ?_ _) | (with_reducible refine Wb.Ext.alloc ?_ _) | (with_reducible refine Wb.Ext.trans ?_ (by assumption))))⟩
  · have H := Lib.hid (show slText y i l = [] by rw [slText, if_pos (by simpa using hck)])
    go_enter Tryd.func25, Tryd.ntmps25
    go_wp2_with (go_at_call 14; refine (check_any y i _ l _ (HL.out.ext (by (repeat' (first | (with_reducible assumption) | (with_reducible exact Wb.Ext.refl _) | (with_reducible refine Wb.Ext.drew ?_) | (with_reducible refine Wb.Ext.drewN ?_ _) | (with_reducible refine Wb.Ext.alloc ?_ _) | (with_reducible refine Wb.Ext.trans ?_ (by assumption)))))) HS.out).mono ?_; rintro e w1 ⟨rfl, hb1⟩)
    go_ret
    exact ⟨Wb.ret_str (by rw [H.out]), by (repeat' (first | (with_reducible assumption) | (with_reducible exact Wb.Ext.refl _) | (with_reducible refine Wb.Ext.drew ?_) | (with_reducible refine Wb.Ext.drewN ?_ _) | (with_reducible refine Wb.Ext.alloc ?_ _) | (with_reducible refine Wb.Ext.trans ?_ (by assumption))))⟩

/-- the example's lines -/
def exLines : List Wb.Ln := [⟨0, [115, 97, 108, 97, 114, 121], 500000⟩, ⟨3, [116, 97, 120], 80000⟩, ⟨6, [111, 108, 100], 50000⟩]
theorem ex_sums : Wb.sums 2024 2 exLines = (500000, 80000, 420000, 50000, 0) := by decide
theorem ex_t1 : Wb.text 500000 = [53, 48, 48, 48, 46, 48, 48] := by
  rw [Wb.text, if_pos (by decide)]; simp [Wb.textZ, Wb.textN, Wb.digs]; decide
theorem ex_t2 : Wb.text 80000 = [56, 48, 48, 46, 48, 48] := by
  rw [Wb.text, if_pos (by decide)]; simp [Wb.textZ, Wb.textN, Wb.digs]; decide
theorem ex_t3 : Wb.text 50000 = [53, 48, 48, 46, 48, 48] := by
  rw [Wb.text, if_pos (by decide)]; simp [Wb.textZ, Wb.textN, Wb.digs]; decide
theorem ex_p : ptext 2024 2 = [50, 48, 50, 52, 47, 48, 50] := by
  simp [ptext, itoa, Wb.digs]; decide
theorem ex_check : Wb.check 2024 2 exLines = 0 := by decide
theorem ex_text : slText 2024 2 exLines = [115, 108, 105, 112, 32, 50, 48, 50, 52, 47, 48, 50, 10, 103, 114, 111, 115, 115, 32, 115, 97, 108, 97, 114, 121, 32, 53, 48, 48, 48, 46, 48, 48, 10, 116, 97, 120, 32, 116, 97, 120, 32, 56, 48, 48, 46, 48, 48, 10, 102, 105, 114, 109, 32, 111, 108, 100, 32, 53, 48, 48, 46, 48, 48, 10] := by
  rw [slText, if_neg (by rw [ex_check]; simp), ex_p]
  simp only [linesText, exLines, List.flatMap_cons, List.flatMap_nil, lineText, ex_t1, ex_t2, ex_t3]
  rfl

end Go.Proofs.YtpiedhjjpmmomaaDoor
