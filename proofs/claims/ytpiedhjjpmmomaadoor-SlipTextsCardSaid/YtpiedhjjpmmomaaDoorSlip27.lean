/- Chapter 27: the reference's text of a slip. -/
import Derived.Test.YtpiedhjjpmmomaaDoorSlip23
namespace Go.Proofs.YtpiedhjjpmmomaaDoor
open Go.RowKit
set_option maxRecDepth 4000

set_option maxHeartbeats 1000000 in
theorem rtext27_any (y i : Int) (v : Value) (l : List Wb.Ln) (w : World) (hl : Lns w v l) (hs : Sized l) :
    Calls Tryd.prog 26 #[.agg #[.int .i64 y, .int .i64 i, v]] w fun e w' => e = .returned (.string (Wb.S (slText y i l))) ∧ Wb.Ext w w' := by
  have HL := Lib.hid hl
  have HS := Lib.hid hs
  have hlen := hs.1
  clear hs
  obtain ⟨a, cap, rfl⟩ := hl.shape
  clear hl
  cases hck : (Wb.check y i l != 0)
  · have HK := Lib.hid (show Wb.check y i l = 0 by simpa using hck)
    have HF := Lib.hid (Wb.check_fit HK.out)
    obtain ⟨hy1, hy2, hi1, hi2, hn, _, hlines⟩ := Wb.check_ok HK.out
    have HLI := Lib.hid hlines
    clear hck hlines
    go_enter Tryd.func26, Tryd.ntmps26
    go_wp2_with fail
    refine (rcheck_any y i _ l _ (HL.out.ext (by (repeat' (first | (with_reducible assumption) | (with_reducible exact Wb.Ext.refl _) | (with_reducible refine Wb.Ext.drew ?_) | (with_reducible refine Wb.Ext.drewN ?_ _) | (with_reducible refine Wb.Ext.alloc ?_ _) | (with_reducible refine Wb.Ext.trans ?_ (by assumption)))))) HS.out).mono ?_; rintro e w1 ⟨rfl, hb1⟩
    rw [HK.out]
    obtain ⟨hk0, hk1, hk2⟩ := box3 _ _ _ _ _ hb1
    have he1 : Wb.Ext w w1 := by (repeat' (first | (with_reducible assumption) | (with_reducible exact Wb.Ext.refl _) | (with_reducible refine Wb.Ext.drew ?_) | (with_reducible refine Wb.Ext.drewN ?_ _) | (with_reducible refine Wb.Ext.alloc ?_ _) | (with_reducible refine Wb.Ext.trans ?_ (by assumption))))
    have hpl := ptext_len y i (by omega) (by omega)
    obtain ⟨pt, hpt⟩ : ∃ pt, ptext y i = pt := ⟨_, rfl⟩
    have HPT := Lib.hid hpt
    rw [hpt] at hpl
    go_wp2_with (go_at_call 46; refine (rptext_any y i _ _ _ _ (by omega) (by omega) _).mono ?_; rintro e w2 ⟨rfl, hb2⟩; rw [hpt]; obtain ⟨hc2, hf2⟩ := hb2.cells; have hz2 : w.heap.size < w1.heap.size := (by have := hb1.size; simp at this; omega))
    have he2 : Wb.Ext w w2 := by (repeat' (first | (with_reducible assumption) | (with_reducible exact Wb.Ext.refl _) | (with_reducible refine Wb.Ext.drew ?_) | (with_reducible refine Wb.Ext.drewN ?_ _) | (with_reducible refine Wb.Ext.alloc ?_ _) | (with_reducible refine Wb.Ext.trans ?_ (by assumption))))
    have hk2 := hb2.keep hk2
    obtain ⟨hd, hhd⟩ : ∃ hd, (115 :: 108 :: 105 :: 112 :: 32 :: (pt ++ [10]) : List UInt8) = hd := ⟨_, rfl⟩
    have hdl : hd.length ≤ 70 := by rw [← hhd]; simp; omega
    rw [hhd]
    have HHD := Lib.hid hhd
    have HR := Lib.hid (show slText y i l = hd ++ linesText l by rw [slText, if_neg (by rw [HK.out]; simp), HPT.out, ← HHD.out]; simp)
    clear hhd hpt hc2 hf2
    go_loopw [3, 4] (fun ov iv wr => ∃ (k : Nat) (o : List UInt8), k ≤ l.length ∧ iv = .int .i64 k ∧ ov = .string (Wb.S o) ∧ o.length ≤ 70 + 96 * k ∧ o = hd ++ linesText (l.take k) ∧ Wb.Ext w2 wr) (fun _ iv _ => l.length - (intOf iv).toNat)
    case atStart => exact ⟨0, hd, by omega, rfl, rfl, by omega, by simp [linesText], by (repeat' (first | (with_reducible assumption) | (with_reducible exact Wb.Ext.refl _) | (with_reducible refine Wb.Ext.drew ?_) | (with_reducible refine Wb.Ext.drewN ?_ _) | (with_reducible refine Wb.Ext.alloc ?_ _) | (with_reducible refine Wb.Ext.trans ?_ (by assumption))))⟩
    case round =>
      obtain ⟨k, o, hk, rfl, rfl, hol, ho, hext⟩ := hrel
      have HO := Lib.hid ho; clear ho
      have hew : Wb.Ext w wr := by (repeat' (first | (with_reducible assumption) | (with_reducible exact Wb.Ext.refl _) | (with_reducible refine Wb.Ext.drew ?_) | (with_reducible refine Wb.Ext.drewN ?_ _) | (with_reducible refine Wb.Ext.alloc ?_ _) | (with_reducible refine Wb.Ext.trans ?_ (by assumption))))
      have hk2 := hext.keep hk2
      by_cases hlt : k < l.length
      · obtain ⟨x, hx⟩ := Wb.get_ex hlt
        obtain ⟨b, off, rfl, hcells⟩ := (HL.out.ext hew).opened (ne_of_lt hlt)
        obtain ⟨hcp, hcx, hcn⟩ := hcells k x hx
        clear hcells
        have hxl := HLI.out x (List.mem_of_getElem? hx)
        have hln := lineText_len hxl
        obtain ⟨hp1, hp2, hp3, _, hp5⟩ := Wb.lineErr_ok hxl
        have HXF := Lib.hid hp5
        clear hp5
        have HT := Lib.hid (linesText_snoc hx)
        clear hx hxl
        have hxc : x.code.length ≤ 32 := by simp [Wb.codeOk] at hp3; exact hp3.1.2
        clear hp3
        obtain ⟨xp, xc, xn⟩ := x
        simp only at hcp hcx hcn hp1 hp2 hxc
        obtain ⟨n, rfl⟩ : ∃ n : Nat, xp = n := ⟨xp.toNat, by omega⟩
        have hn7 : n < 7 := by omega
        obtain ⟨wd, hwd⟩ : ∃ wd, wordsL[n]? = some wd := Wb.get_ex (l := wordsL) (k := n) (by simpa [wordsL] using hn7)
        have HLT := Lib.hid (show lineText ⟨n, xc, xn⟩ = wd ++ [32] ++ xc ++ [32] ++ Wb.text xn ++ [10] by simp [lineText, wordOf, hwd])
        have hwl : wd.length ≤ 6 := by
          rw [HLT.out] at hln
          have := List.mem_of_getElem? hwd
          simp [wordsL] at this
          rcases this with rfl | rfl | rfl | rfl | rfl | rfl | rfl <;> decide
        have htl := text_len_le xn
        have HWD := Lib.hid hwd
        clear hwd hln
        obtain ⟨tx, htx⟩ : ∃ tx, Wb.text xn = tx := ⟨_, rfl⟩
        have HTX := Lib.hid htx
        rw [htx] at htl
        clear htx
        have hn7i : (n : Int) < 7 := by omega
        have g1 : ¬ 9223372036854775807 < o.length + wd.length := by omega
        have g2 : ¬ 9223372036854775807 < o.length + wd.length + 1 := by omega
        have g3 : ¬ 9223372036854775807 < o.length + (wd.length + 1) + xc.length := by omega
        have g4 : ¬ 9223372036854775807 < o.length + (wd.length + (xc.length + 1)) + 1 := by omega
        have g5 : ¬ 9223372036854775807 < o.length + (wd.length + (xc.length + 1 + 1)) + tx.length := by omega
        have g6 : ¬ 9223372036854775807 < o.length + (wd.length + (xc.length + (tx.length + 1) + 1)) + 1 := by omega
        have hki : (k : Int) < l.length := by omega
        have hx0 : (wr.alloc (.cells #[.int .i64 (n : Int), .string (Wb.S xc), .int .i64 xn] 39)).cell? ⟨wr.heap.size, 0, none⟩ = some (.int .i64 (n : Int)) := by simp [go_sem]
        have hx1 : (wr.alloc (.cells #[.int .i64 (n : Int), .string (Wb.S xc), .int .i64 xn] 39)).cell? ⟨wr.heap.size, 1, none⟩ = some (.string (Wb.S xc)) := by simp [go_sem]
        have hx2 : (wr.alloc (.cells #[.int .i64 (n : Int), .string (Wb.S xc), .int .i64 xn] 39)).cell? ⟨wr.heap.size, 2, none⟩ = some (.int .i64 xn) := by simp [go_sem]
        go_wp2_with fail
        refine wp_region_held_drew (S := (fun w' => w'.cell? ⟨wr.heap.size, 0, none⟩ = some (.int .i64 (n : Int)) ∧ w'.cell? ⟨wr.heap.size, 1, none⟩ = some (.string (Wb.S xc)) ∧ w'.cell? ⟨wr.heap.size, 2, none⟩ = some (.int .i64 xn))) (by kernel_rfl) ⟨hx0, hx1, hx2⟩ (fun hHeld => ?_)
        refine wpAnyH_take (i := 0) (v := ?_) rfl (by kernel_rfl) (by kernel_rfl) (by kernel_rfl) (fun _ _ _ h => h) (Or.inl ⟨by rfl, ?_⟩) (by assumption) ?_
        rotate_left
        · (intro w hSw; (try dsimp only at hSw); go_simp; (try with_reducible rfl))
        (skip; try simp only [Act.put, List.setIfInBounds_toArray])
        refine wpAnyH_take (i := 2) (v := ?_) rfl (by kernel_rfl) (by kernel_rfl) (by kernel_rfl) (fun _ _ _ h => h) (Or.inl ⟨by rfl, ?_⟩) (by assumption) ?_
        rotate_left
        · (intro w hSw; (try dsimp only at hSw); go_simp; (try with_reducible rfl))
        (skip; try simp only [Act.put])
        refine wpAnyH_take (i := 3) (v := ?_) rfl (by kernel_rfl) (by kernel_rfl) (by kernel_rfl) (fun _ _ _ h => h) (Or.inl ⟨by rfl, ?_⟩) (by assumption) ?_
        rotate_left
        · (intro w hSw; (try dsimp only at hSw); go_simp; (try with_reducible rfl))
        (skip; try simp only [Act.put])
        refine wpAnyH_take (i := 8) (v := ?_) rfl (by kernel_rfl) (by kernel_rfl) (by kernel_rfl) (fun _ _ _ h => h) (Or.inl ⟨by rfl, ?_⟩) (by assumption) ?_
        rotate_left
        · (intro w hSw; (try dsimp only at hSw); go_simp; (try with_reducible rfl))
        (skip; try simp only [Act.put])
        refine wpAnyH_take (i := 9) (v := ?_) rfl (by kernel_rfl) (by kernel_rfl) (by kernel_rfl) (fun _ _ _ h => h) (Or.inl ⟨by rfl, ?_⟩) (by assumption) ?_
        rotate_left
        · (intro w hSw; (try dsimp only at hSw); go_simp; (try with_reducible rfl))
        (skip; try simp only [Act.put])
        refine wpAnyH_take (i := 12) (v := ?_) rfl (by kernel_rfl) (by kernel_rfl) (by kernel_rfl) (fun _ _ _ h => h) (Or.inl ⟨by rfl, ?_⟩) (by assumption) ?_
        rotate_left
        · (intro w hSw; (try dsimp only at hSw); go_simp; (try with_reducible rfl))
        (skip; try simp only [Act.put])
        refine wpAnyH_take (i := 13) (v := ?_) rfl (by kernel_rfl) (by kernel_rfl) (by kernel_rfl) (fun _ _ _ h => h) (Or.inl ⟨by rfl, ?_⟩) (by assumption) ?_
        rotate_left
        · (intro w hSw; (try dsimp only at hSw); go_simp; (try with_reducible rfl))
        (skip; try simp only [Act.put])
        refine wpAnyH_ready (rs := [1]) (by kernel_rfl) (by simp) ?_
        refine AllReadyH.cons (o := _) rfl (fun K hK => ?_) ?_
        · go_simp
          go_at_call 43
          go_fit (words_any _)
          rintro e w' ⟨rfl, hws, hb⟩
          have hwq := hws n wd HWD.out
          simp at hwq
          clear hws
          refine hK.out _ _ (by obtain ⟨j0, j1, j2⟩ := hHeld; exact ⟨hb.keep j0, hb.keep j1, hb.keep j2⟩) (fun hHeld => ?_)
          clear hK K
          (skip; try simp only [Act.put, List.setIfInBounds_toArray, List.set_cons_zero, List.set_cons_succ])
          refine wpAnyH_take (i := 4) (v := ?_) rfl (by kernel_rfl) (by kernel_rfl) (by kernel_rfl) (fun _ _ _ h => h) (Or.inl ⟨by rfl, ?_⟩) (by assumption) ?_
          rotate_left
          · (intro w hSw; (try dsimp only at hSw); go_simp; (try with_reducible rfl))
          (skip; try simp only [Act.put, List.setIfInBounds_toArray])
          refine wpAnyH_ready (rs := [5, 14]) (by kernel_rfl) (by simp) ?_
          refine AllReadyH.cons (o := _) rfl (fun K hK => ?_) ?_
          · go_simp
            refine hK.out _ _ (by assumption) (fun hHeld => ?_)
            clear hK K
            (skip; try simp only [Act.put, List.setIfInBounds_toArray, List.set_cons_zero, List.set_cons_succ])
            refine wpAnyH_take (i := 6) (v := ?_) rfl (by kernel_rfl) (by kernel_rfl) (by kernel_rfl) (fun _ _ _ h => h) (Or.inl ⟨by rfl, ?_⟩) (by assumption) ?_
            rotate_left
            · (intro w hSw; (try dsimp only at hSw); go_simp; (try with_reducible rfl))
            (skip; try simp only [Act.put, List.setIfInBounds_toArray])
            refine wpAnyH_take (i := 7) (v := ?_) rfl (by kernel_rfl) (by kernel_rfl) (by kernel_rfl) (fun _ _ _ h => h) (Or.inl ⟨by rfl, ?_⟩) (by assumption) ?_
            rotate_left
            · (intro w hSw; (try dsimp only at hSw); go_simp; (try with_reducible rfl))
            (skip; try simp only [Act.put])
            refine wpAnyH_take (i := 10) (v := ?_) rfl (by kernel_rfl) (by kernel_rfl) (by kernel_rfl) (fun _ _ _ h => h) (Or.inl ⟨by rfl, ?_⟩) (by assumption) ?_
            rotate_left
            · (intro w hSw; (try dsimp only at hSw); go_simp; (try with_reducible rfl))
            (skip; try simp only [Act.put])
            refine wpAnyH_take (i := 11) (v := ?_) rfl (by kernel_rfl) (by kernel_rfl) (by kernel_rfl) (fun _ _ _ h => h) (Or.inl ⟨by rfl, ?_⟩) (by assumption) ?_
            rotate_left
            · (intro w hSw; (try dsimp only at hSw); go_simp; (try with_reducible rfl))
            (skip; try simp only [Act.put])
            refine wpAnyH_ready (rs := [14]) (by kernel_rfl) (by simp) ?_
            refine AllReadyH.cons (o := _) rfl (fun K hK => ?_) ?_
            · go_simp
              go_at_call 47
              go_fit (rtext_any xn HXF.out _)
              rintro e w' ⟨rfl, hb⟩
              rw [HTX.out]
              refine hK.out _ _ (by obtain ⟨j0, j1, j2⟩ := hHeld; exact ⟨hb.keep j0, hb.keep j1, hb.keep j2⟩) (fun hHeld => ?_)
              clear hK K
              (skip; try simp only [Act.put, List.setIfInBounds_toArray, List.set_cons_zero, List.set_cons_succ])
              refine wpAnyH_take (i := 15) (v := ?_) rfl (by kernel_rfl) (by kernel_rfl) (by kernel_rfl) (fun _ _ _ h => h) (Or.inl ⟨by rfl, ?_⟩) (by assumption) ?_
              rotate_left
              · (intro w hSw; (try dsimp only at hSw); go_simp; (try with_reducible rfl))
              (skip; try simp only [Act.put, List.setIfInBounds_toArray])
              refine wpAnyH_take (i := 16) (v := ?_) rfl (by kernel_rfl) (by kernel_rfl) (by kernel_rfl) (fun _ _ _ h => h) (Or.inl ⟨by rfl, ?_⟩) (by assumption) ?_
              rotate_left
              · (intro w hSw; (try dsimp only at hSw); go_simp; (try with_reducible rfl))
              (skip; try simp only [Act.put])
              refine wpAnyH_take (i := 17) (v := ?_) rfl (by kernel_rfl) (by kernel_rfl) (by kernel_rfl) (fun _ _ _ h => h) (Or.inl ⟨by rfl, ?_⟩) (by assumption) ?_
              rotate_left
              · (intro w hSw; (try dsimp only at hSw); go_simp; (try with_reducible rfl))
              (skip; try simp only [Act.put])
              refine wpAnyH_done (by kernel_rfl) ?_ _
              have HNX := Lib.hid (show o ++ (wd ++ 32 :: (xc ++ 32 :: (tx ++ [10]))) = hd ++ linesText (l.take (k + 1)) by rw [HT.out, HLT.out, HTX.out, HO.out]; simp)
              have HLN := Lib.hid (show (o ++ (wd ++ 32 :: (xc ++ 32 :: (tx ++ [10])))).length ≤ 70 + 96 * (k + 1) by simp; omega)
              clear g1 g2 g3 g4 g5 g6
              go_wp2
              go_roundw
              case rel => exact ⟨k + 1, _, by omega, by go_num, rfl, HLN.out, HNX.out, by (repeat' (first | (with_reducible assumption) | (with_reducible exact Wb.Ext.refl _) | (with_reducible refine Wb.Ext.drew ?_) | (with_reducible refine Wb.Ext.drewN ?_ _) | (with_reducible refine Wb.Ext.alloc ?_ _) | (with_reducible refine Wb.Ext.trans ?_ (by assumption))))⟩
              case measure => simp [intOf]; omega
            exact AllReadyH.nil
          refine AllReadyH.cons (o := _) rfl (fun K hK => ?_) ?_
          · go_simp
            go_at_call 47
            go_fit (rtext_any xn HXF.out _)
            rintro e w' ⟨rfl, hb⟩
            rw [HTX.out]
            have hwq := hb.keep hwq
            refine hK.out _ _ (by obtain ⟨j0, j1, j2⟩ := hHeld; exact ⟨hb.keep j0, hb.keep j1, hb.keep j2⟩) (fun hHeld => ?_)
            clear hK K
            (skip; try simp only [Act.put, List.setIfInBounds_toArray, List.set_cons_zero, List.set_cons_succ])
            refine wpAnyH_ready (rs := [5]) (by kernel_rfl) (by simp) ?_
            refine AllReadyH.cons (o := _) rfl (fun K hK => ?_) ?_
            · go_simp
              refine hK.out _ _ (by assumption) (fun hHeld => ?_)
              clear hK K
              (skip; try simp only [Act.put, List.setIfInBounds_toArray, List.set_cons_zero, List.set_cons_succ])
              refine wpAnyH_take (i := 6) (v := ?_) rfl (by kernel_rfl) (by kernel_rfl) (by kernel_rfl) (fun _ _ _ h => h) (Or.inl ⟨by rfl, ?_⟩) (by assumption) ?_
              rotate_left
              · (intro w hSw; (try dsimp only at hSw); go_simp; (try with_reducible rfl))
              (skip; try simp only [Act.put, List.setIfInBounds_toArray])
              refine wpAnyH_take (i := 7) (v := ?_) rfl (by kernel_rfl) (by kernel_rfl) (by kernel_rfl) (fun _ _ _ h => h) (Or.inl ⟨by rfl, ?_⟩) (by assumption) ?_
              rotate_left
              · (intro w hSw; (try dsimp only at hSw); go_simp; (try with_reducible rfl))
              (skip; try simp only [Act.put])
              refine wpAnyH_take (i := 10) (v := ?_) rfl (by kernel_rfl) (by kernel_rfl) (by kernel_rfl) (fun _ _ _ h => h) (Or.inl ⟨by rfl, ?_⟩) (by assumption) ?_
              rotate_left
              · (intro w hSw; (try dsimp only at hSw); go_simp; (try with_reducible rfl))
              (skip; try simp only [Act.put])
              refine wpAnyH_take (i := 11) (v := ?_) rfl (by kernel_rfl) (by kernel_rfl) (by kernel_rfl) (fun _ _ _ h => h) (Or.inl ⟨by rfl, ?_⟩) (by assumption) ?_
              rotate_left
              · (intro w hSw; (try dsimp only at hSw); go_simp; (try with_reducible rfl))
              (skip; try simp only [Act.put])
              refine wpAnyH_take (i := 15) (v := ?_) rfl (by kernel_rfl) (by kernel_rfl) (by kernel_rfl) (fun _ _ _ h => h) (Or.inl ⟨by rfl, ?_⟩) (by assumption) ?_
              rotate_left
              · (intro w hSw; (try dsimp only at hSw); go_simp; (try with_reducible rfl))
              (skip; try simp only [Act.put])
              refine wpAnyH_take (i := 16) (v := ?_) rfl (by kernel_rfl) (by kernel_rfl) (by kernel_rfl) (fun _ _ _ h => h) (Or.inl ⟨by rfl, ?_⟩) (by assumption) ?_
              rotate_left
              · (intro w hSw; (try dsimp only at hSw); go_simp; (try with_reducible rfl))
              (skip; try simp only [Act.put])
              refine wpAnyH_take (i := 17) (v := ?_) rfl (by kernel_rfl) (by kernel_rfl) (by kernel_rfl) (fun _ _ _ h => h) (Or.inl ⟨by rfl, ?_⟩) (by assumption) ?_
              rotate_left
              · (intro w hSw; (try dsimp only at hSw); go_simp; (try with_reducible rfl))
              (skip; try simp only [Act.put])
              refine wpAnyH_done (by kernel_rfl) ?_ _
              have HNX := Lib.hid (show o ++ (wd ++ 32 :: (xc ++ 32 :: (tx ++ [10]))) = hd ++ linesText (l.take (k + 1)) by rw [HT.out, HLT.out, HTX.out, HO.out]; simp)
              have HLN := Lib.hid (show (o ++ (wd ++ 32 :: (xc ++ 32 :: (tx ++ [10])))).length ≤ 70 + 96 * (k + 1) by simp; omega)
              clear g1 g2 g3 g4 g5 g6
              go_wp2
              go_roundw
              case rel => exact ⟨k + 1, _, by omega, by go_num, rfl, HLN.out, HNX.out, by (repeat' (first | (with_reducible assumption) | (with_reducible exact Wb.Ext.refl _) | (with_reducible refine Wb.Ext.drew ?_) | (with_reducible refine Wb.Ext.drewN ?_ _) | (with_reducible refine Wb.Ext.alloc ?_ _) | (with_reducible refine Wb.Ext.trans ?_ (by assumption))))⟩
              case measure => simp [intOf]; omega
            exact AllReadyH.nil
          exact AllReadyH.nil
        exact AllReadyH.nil
      · have HQ := Lib.hid (show slText y i l = o by rw [HR.out, HO.out, List.take_of_length_le (by omega)])
        go_wp2
        go_ret
        exact ⟨Wb.ret_str (by rw [HQ.out]), by (repeat' (first | (with_reducible assumption) | (with_reducible exact Wb.Ext.refl _) | (with_reducible refine Wb.Ext.drew ?_) | (with_reducible refine Wb.Ext.drewN ?_ _) | (with_reducible refine Wb.Ext.alloc ?_ _) | (with_reducible refine Wb.Ext.trans ?_ (by assumption))))⟩
  · have H := Lib.hid (show slText y i l = [] by rw [slText, if_pos (by simpa using hck)])
    go_enter Tryd.func26, Tryd.ntmps26
    go_wp2_with (go_at_call 15; refine (rcheck_any y i _ l _ (HL.out.ext (by (repeat' (first | (with_reducible assumption) | (with_reducible exact Wb.Ext.refl _) | (with_reducible refine Wb.Ext.drew ?_) | (with_reducible refine Wb.Ext.drewN ?_ _) | (with_reducible refine Wb.Ext.alloc ?_ _) | (with_reducible refine Wb.Ext.trans ?_ (by assumption)))))) HS.out).mono ?_; rintro e w1 ⟨rfl, hb1⟩)
    go_ret
    exact ⟨Wb.ret_str (by rw [H.out]), by (repeat' (first | (with_reducible assumption) | (with_reducible exact Wb.Ext.refl _) | (with_reducible refine Wb.Ext.drew ?_) | (with_reducible refine Wb.Ext.drewN ?_ _) | (with_reducible refine Wb.Ext.alloc ?_ _) | (with_reducible refine Wb.Ext.trans ?_ (by assumption))))⟩


end Go.Proofs.YtpiedhjjpmmomaaDoor
