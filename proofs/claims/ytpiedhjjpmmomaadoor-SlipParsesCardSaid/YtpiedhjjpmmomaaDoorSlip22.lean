/- Chapter 27: the program's Parse. -/
import Derived.Test.YtpiedhjjpmmomaaDoorSlip21
import Derived.Test.YtpiedhjjpmmomaaDoorSlip15
namespace Go.Proofs.YtpiedhjjpmmomaaDoor
open Go.RowKit
set_option maxRecDepth 4000

theorem readOf_code {s : List UInt8} {x : Wb.Ln} (h : Wb.readOf s = some x) : x.code.length ≤ s.length := by
  unfold Wb.readOf at h
  split at h
  · rename_i a b c hs
    split at h
    · cases h
    · split at h
      · cases h
      · split at h
        · cases h; exact Wb.splitOn_le (c := 32) (l := s) (a := b) (by rw [hs]; simp)
        · cases h
  · cases h
theorem readAll_sized {N : Nat} : ∀ {ss : List (List UInt8)} {d : List Wb.Ln}, Wb.readAll ss = some d → (∀ s ∈ ss, s.length ≤ N) → d.length = ss.length ∧ ∀ x ∈ d, x.code.length ≤ N
  | [], d, h, _ => by rw [Wb.readAll] at h; cases h; simp
  | s :: r, d, h, hn => by
    rw [Wb.readAll] at h
    cases hs : Wb.readOf s with
    | none => rw [hs] at h; cases h
    | some x =>
      rw [hs] at h
      obtain ⟨m, hm, rfl⟩ := Option.map_eq_some_iff.1 h
      obtain ⟨h1, h2⟩ := readAll_sized hm fun z hz => hn z (by simp [hz])
      refine ⟨by simp [h1], fun z hz => ?_⟩
      rcases List.mem_cons.1 hz with rfl | hz
      · exact Nat.le_trans (readOf_code hs) (hn s (by simp))
      · exact h2 z hz
theorem take_next {α : Type} {l : List α} {k : Nat} {s : α} (h : l[k]? = some s) : l.take (k + 1) = l.take k ++ [s] := by
  obtain ⟨h1, h2⟩ := List.getElem?_eq_some_iff.1 h
  rw [List.take_succ_eq_append_getElem h1, h2]
theorem headOf_nil : Wb.headOf [] = none := Wb.headOf_none fun y i ⟨a, b, e, _⟩ => by simp [Wb.slipW] at e

set_option maxHeartbeats 4000000 in
theorem parse27_any (t : List UInt8) (ht : t.length < 4294967281) (w : World) (hm : MaxL w) (hw : Words w) :
    Calls Tryd.prog 23 #[.string (Wb.S t)] w fun e w' => ∃ m, e = .returned (.tuple #[.agg #[.int .i64 (Wb.parseS t).2.1, .int .i64 (Wb.parseS t).2.2.1, m], .int .i64 (Wb.parseS t).1]) ∧ LnsC w' m (Wb.parseS t).2.2.2 ∧ Wb.Ext w w' := by
  obtain ⟨i0, hi, hz0, hz1, hz2⟩ := info_parts infoLine
  have HIN := Lib.hid (show Tryd.prog.info? 39 = some i0 ∧ i0.zero = some (.agg #[.int .i64 0, .string "".toUTF8, .int .i64 0]) ∧ i0.size = 3 ∧ i0.bytes = 32 from ⟨hi, hz0, hz1, hz2⟩)
  clear hi hz0 hz1 hz2
  have HMX := Lib.hid hm
  have HW := Lib.hid hw
  clear hm hw
  by_cases h0 : t = []
  · subst h0
    have HM := Lib.hid (show Wb.parseS [] = (10, 0, 0, []) by rw [Wb.parseS, if_pos rfl])
    go_enter Tryd.func23, Tryd.ntmps23
    go_wp2
    refine bodyPost_ret (v := .tuple #[.agg #[.int .i64 0, .int .i64 0, .slice none 0 0], .int .i64 10]) (by simp [results, Tryd.results23, go_sem]) rfl ⟨.slice none 0 0, by rw [HM.out] <;> rfl, by rw [HM.out]; exact ⟨.inl ⟨rfl, _, _, rfl⟩, Nat.le_refl _⟩, by (repeat' (first | (with_reducible assumption) | (with_reducible exact Wb.Ext.refl _) | (with_reducible refine Wb.Ext.drew ?_) | (with_reducible refine Wb.Ext.drewN ?_ _) | (with_reducible refine Wb.Ext.alloc ?_ _) | (with_reducible refine Wb.Ext.trans ?_ (by assumption))))⟩
  · have h1 : t.isEmpty = false := by simpa using h0
    have h2 : (t == []) = false := by simpa using h0
    obtain ⟨L, hL⟩ : ∃ L, Wb.splitOn 10 t = L := ⟨_, rfl⟩
    have HPS := Lib.hid (show Wb.parseS t = match Wb.headOf (L.headD []) with
      | none => (3, 0, 0, [])
      | some (y, i) => if L.getLastD [] ≠ [] then (3, 0, 0, []) else
        match Wb.readAll L.tail.dropLast with
        | none => (3, 0, 0, [])
        | some l => if Wb.check y i l ≠ 0 then (Wb.check y i l, 0, 0, []) else (0, y, i, l) by subst hL; rw [Wb.parseS, if_neg h0]; rfl)
    have HLE := Lib.hid (show ∀ a ∈ L, a.length < 4294967281 from fun a ha => by have := Wb.splitOn_le (c := 10) (l := t) (a := a) (by rw [hL]; exact ha); omega)
    have hln : L.length ≤ 4294967281 := by
      rw [← hL, Wb.splitOn_len]; have := List.count_le_length (a := (10 : UInt8)) (l := t); omega
    have hpos := Wb.splitOn_pos 10 t
    rw [hL] at hpos
    have HL := Lib.hid hL
    clear hL h0
    obtain ⟨hd, r, rfl⟩ : ∃ hd r, L = hd :: r := by
      cases L with
      | nil => exact absurd rfl hpos
      | cons hd r => exact ⟨hd, r, rfl⟩
    clear hpos
    have hhl := HLE.out hd (by simp)
    go_enter Tryd.func23, Tryd.ntmps23
    go_wp2_with fail
    refine (split_any t 10 _ (HMX.out.ext (by (repeat' (first | (with_reducible assumption) | (with_reducible exact Wb.Ext.refl _) | (with_reducible refine Wb.Ext.drew ?_) | (with_reducible refine Wb.Ext.drewN ?_ _) | (with_reducible refine Wb.Ext.alloc ?_ _) | (with_reducible refine Wb.Ext.trans ?_ (by assumption)))))) ht).mono ?_; rintro e w1 ⟨rfl, hst, hb1⟩
    rw [HL.out] at hst ⊢
    have he1 : Wb.Ext w w1 := by (repeat' (first | (with_reducible assumption) | (with_reducible exact Wb.Ext.refl _) | (with_reducible refine Wb.Ext.drew ?_) | (with_reducible refine Wb.Ext.drewN ?_ _) | (with_reducible refine Wb.Ext.alloc ?_ _) | (with_reducible refine Wb.Ext.trans ?_ (by assumption))))
    have q0 : w1.cell? ⟨w.heap.size, 0, none⟩ = some (.int .i64 0) := hb1.keep (by simp [go_sem])
    have q1 : w1.cell? ⟨w.heap.size, 1, none⟩ = some (.int .i64 0) := hb1.keep (by simp [go_sem])
    have q2 : w1.cell? ⟨w.heap.size, 2, none⟩ = some (.slice none 0 0) := hb1.keep (by simp [go_sem])
    have qf : ∀ j, w1.frozen? ⟨w.heap.size, j, none⟩ = false := fun j => (Below.frozen hb1 (by simp)).trans (by simp [go_sem])
    have HST := Lib.hid (show Strs w1 (w.heap.size + 1) 0 (hd :: r) by simpa using hst)
    have s0 : w1.cell? ⟨w.heap.size + 1, 0, none⟩ = some (.string (Wb.S hd)) := HST.out 0 hd rfl
    have hz1 := Wb.cell_size s0
    clear hb1 hst
    rw [List.length_cons]
    have hrl : r.length + 1 ≤ 4294967281 := by simpa using hln
    have hri : (0 : Int) < r.length + 1 := by omega
    go_wp2_with fail
    refine (head_any hd hhl _ (HMX.out.ext (by (repeat' (first | (with_reducible assumption) | (with_reducible exact Wb.Ext.refl _) | (with_reducible refine Wb.Ext.drew ?_) | (with_reducible refine Wb.Ext.drewN ?_ _) | (with_reducible refine Wb.Ext.alloc ?_ _) | (with_reducible refine Wb.Ext.trans ?_ (by assumption))))))).mono ?_; rintro e w2 ⟨rfl, hb2⟩
    have q0 := hb2.keep q0
    have q1 := hb2.keep q1
    have q2 := hb2.keep q2
    have qf : ∀ j, w2.frozen? ⟨w.heap.size, j, none⟩ = false := fun j => (Below.frozen hb2 (by simp; omega)).trans (qf j)
    have HST := Lib.hid (HST.out.ext hb2)
    have he2 : Wb.Ext w w2 := he1.trans hb2
    have hz2 := Wb.cell_size (hb2.keep s0)
    clear hb2 he1 s0 hz1
    have hzw : w.heap.size < w2.heap.size := by omega
    have hzw1 : ¬ w.heap.size = w2.heap.size := by omega
    have hzw2 : ¬ w2.heap.size = w.heap.size := by omega
    cases hh : Wb.headOf hd with
    | none =>
      have HM := Lib.hid (show Wb.parseS t = (3, 0, 0, []) by rw [HPS.out]; simp only [List.headD_cons, hh])
      rw [HeadV]
      clear hh
      go_wp2
      refine bodyPost_ret (v := .tuple #[.agg #[.int .i64 0, .int .i64 0, .slice none 0 0], .int .i64 3]) (by simp [results, Tryd.results23, go_sem, q0, q1, q2, hzw]) rfl ⟨.slice none 0 0, by rw [HM.out] <;> rfl, by rw [HM.out]; exact ⟨.inl ⟨rfl, _, _, rfl⟩, Nat.le_refl _⟩, Wb.Ext.alloc (xset (xset (xset he2 (by simp) _) (by simp) _) (by simp) _) _⟩
    | some yi =>
      obtain ⟨y, i⟩ := yi
      have HPS2 := Lib.hid (show Wb.parseS t = if (hd :: r).getLastD [] ≠ [] then (3, 0, 0, []) else
        match Wb.readAll r.dropLast with
        | none => (3, 0, 0, [])
        | some l => if Wb.check y i l ≠ 0 then (Wb.check y i l, 0, 0, []) else (0, y, i, l) by rw [HPS.out]; simp only [List.headD_cons, hh, List.tail_cons])
      have hr0 : r ≠ [] ∨ (r = [] ∧ hd ≠ []) := by
        by_cases hr : r = []
        · exact .inr ⟨hr, fun e => by subst e; rw [headOf_nil] at hh; cases hh⟩
        · exact .inl hr
      have HR0 := Lib.hid hr0
      clear hh hr0 HPS
      simp only [HeadV]
      obtain ⟨la, hla⟩ : ∃ la, (hd :: r)[r.length]? = some la := Wb.get_ex (by simp)
      have HLA := Lib.hid (show (hd :: r).getLastD [] = la by rw [List.getLastD_cons]; have := List.getLast?_eq_getElem? (l := hd :: r); simp only [List.length_cons, Nat.add_sub_cancel] at this; rw [hla] at this; rw [List.getLastD_eq_getLast?]; rw [List.getLast?_cons] at this; simpa using this)
      have sl : w2.cell? ⟨w.heap.size + 1, r.length, none⟩ = some (.string (Wb.S la)) := by have := HST.out _ _ hla; simpa using this
      have HLA2 := Lib.hid hla
      clear hla
      have hbn : ¬ w2.heap.size = w.heap.size + 1 := by omega
      have hbn' : ¬ w.heap.size + 1 = w2.heap.size := by omega
      have hri0 : (0 : Int) ≤ r.length := by omega
      by_cases hle : la = []
      · have HM1 := Lib.hid (show Wb.parseS t = match Wb.readAll r.dropLast with
          | none => (3, 0, 0, [])
          | some l => if Wb.check y i l ≠ 0 then (Wb.check y i l, 0, 0, []) else (0, y, i, l) by rw [HPS2.out, HLA.out, if_neg (by simp [hle])])
        have hr1 : r ≠ [] := by
          rcases HR0.out with h | ⟨h, h2⟩
          · exact h
          · have := HLA2.out
            subst h
            simp at this
            exact absurd (this.trans hle) h2
        obtain ⟨n, hn⟩ : ∃ n, r.length = n + 1 := ⟨r.length - 1, by have := List.length_pos_iff.2 hr1; omega⟩
        subst hle
        rw [hn] at sl hrl hri hri0 ⊢
        rw [show ((n + 1 : Nat) : Int) = (n : Int) + 1 by omega]
        have hn1 : (1 : Int) ≤ (n : Int) + 1 := by omega
        have hn2 : (0 : Int) ≤ n := by omega
        have hml : r.dropLast.length = n := by rw [List.length_dropLast]; omega
        obtain ⟨M, hM⟩ : ∃ M, r.dropLast = M := ⟨_, rfl⟩
        have HSM := Lib.hid (show Strs w2 (w.heap.size + 1) 1 M from fun j a hj => by
          have h1 : (hd :: r)[j + 1]? = some a := by
            rw [List.getElem?_cons_succ, ← hj, ← hM, List.getElem?_dropLast, if_pos]
            have := (List.getElem?_eq_some_iff.1 hj).1; rw [← hM] at this; simpa using this
          have := HST.out _ _ h1
          rw [show 1 + j = 0 + (j + 1) by omega]; exact this)
        have HME := Lib.hid (show ∀ a ∈ M, a.length < 4294967281 from fun a ha => HLE.out a (by rw [← hM] at ha; exact List.mem_cons_of_mem _ (List.dropLast_subset _ ha)))
        have HM2 := Lib.hid (show Wb.parseS t = match Wb.readAll M with
          | none => (3, 0, 0, [])
          | some l => if Wb.check y i l ≠ 0 then (Wb.check y i l, 0, 0, []) else (0, y, i, l) by rw [HM1.out, hM])
        rw [hM] at hml
        clear hn hr1 hM HM1 HST HLE HPS2 HLA HLA2 HR0 hln
        have hM0 : n ≤ 4294967280 := by omega
        go_wp2
        clear hbn hbn' sl
        go_loopw [42] (fun iv wr => ∃ (k : Nat) (d : List Wb.Ln) (ov : Value), iv = .int .i64 k ∧ k ≤ n ∧ Wb.readAll (M.take k) = some d ∧ wr.ownsRow (w2.heap.size + 1) 39 3 ov k (lnvs d) ∧ wr.cell? ⟨w2.heap.size, 0, none⟩ = some (.int .i64 y) ∧ wr.cell? ⟨w2.heap.size, 1, none⟩ = some (.int .i64 i) ∧ wr.cell? ⟨w2.heap.size, 2, none⟩ = some ov ∧ (∀ j, wr.frozen? ⟨w2.heap.size, j, none⟩ = false) ∧ Wb.Ext w2 wr) (fun iv _ => n - (intOf iv).toNat)
        case atStart => exact ⟨0, [], .slice none 0 0, rfl, by omega, rfl, World.ownsRow_nil _ _ _ _, by simp [go_sem], by simp [go_sem], by simp [go_sem], by intro j; simp [go_sem], by (repeat' (first | (with_reducible assumption) | (with_reducible exact Wb.Ext.refl _) | (with_reducible refine Wb.Ext.drew ?_) | (with_reducible refine Wb.Ext.drewN ?_ _) | (with_reducible refine Wb.Ext.alloc ?_ _) | (with_reducible refine Wb.Ext.trans ?_ (by assumption))))⟩
        case round =>
          obtain ⟨k, d, ov, rfl, hk, hrd, hown, hc0, hc1, hc2, hcf, hext⟩ := hrel
          obtain ⟨oa, oc, rfl⟩ := row_shape3 hown
          have HO := Lib.hid hown; clear hown
          have HRD := Lib.hid hrd; clear hrd
          have hew : Wb.Ext w wr := he2.trans hext
          have hzr := Wb.cell_size hc0
          have hne : some w2.heap.size ≠ (Value.slice oa k oc).ownBlock := fun h => by have := HO.out.lt _ h.symm; omega
          have q0 := hext.keep q0
          have q1 := hext.keep q1
          have q2 := hext.keep q2
          have qf : ∀ j, wr.frozen? ⟨w.heap.size, j, none⟩ = false := fun j => (Below.frozen hext (by simp; omega)).trans (qf j)
          by_cases hlt : k < n
          · obtain ⟨s, hs⟩ := Wb.get_ex (l := M) (k := k) (by omega)
            have sk := hext.keep (HSM.out k s hs)
            have hsl := HME.out s (List.mem_of_getElem? hs)
            have HTN := Lib.hid (take_next hs)
            have HDN := Lib.hid (Wb.drop_get hs)
            clear hs
            go_wp2_with fail
            refine (read_any s hsl _ (HMX.out.ext hew) (HW.out.ext hew)).mono ?_; intro e w3 hp
            cases hro : Wb.readOf s with
            | none =>
              rw [hro] at hp
              obtain ⟨⟨p, c, m, rfl⟩, hb⟩ := hp
              have HM3 := Lib.hid (show Wb.parseS t = (3, 0, 0, []) by
                rw [HM2.out, show Wb.readAll M = none by rw [← List.take_append_drop k M, HDN.out]; exact Wb.readAll_none HRD.out hro])
              clear hro
              have q0 := hb.keep q0
              have q1 := hb.keep q1
              have q2 := hb.keep q2
              have qf : ∀ j, w3.frozen? ⟨w.heap.size, j, none⟩ = false := fun j => (Below.frozen hb (by simp; omega)).trans (qf j)
              have hz3 := Wb.cell_size q0
              have hz31 : ¬ w.heap.size = w3.heap.size := by omega
              have hz32 : ¬ w3.heap.size = w.heap.size := by omega
              have he3 : Wb.Ext w w3 := hew.trans hb
              clear hb
              go_wp2
              refine bodyPost_ret (v := .tuple #[.agg #[.int .i64 0, .int .i64 0, .slice none 0 0], .int .i64 3]) (by simp [results, Tryd.results23, go_sem, q0, q1, q2, hz3]) rfl ⟨.slice none 0 0, by rw [HM3.out] <;> rfl, by rw [HM3.out]; exact ⟨.inl ⟨rfl, _, _, rfl⟩, Nat.le_refl _⟩, Wb.Ext.alloc (xset (xset (xset he3 (by simp) _) (by simp) _) (by simp) _) _⟩
            | some x =>
              rw [hro] at hp
              obtain ⟨rfl, hb⟩ := hp
              have HR2 := Lib.hid (show Wb.readAll (M.take (k + 1)) = some (d ++ [x]) by rw [HTN.out, Wb.readAll_snoc, HRD.out]; simp only [hro]; rfl)
              clear hro
              obtain ⟨xp, xs, xn⟩ := x
              have hc0 := hb.keep hc0
              have hc1 := hb.keep hc1
              have hc2 := hb.keep hc2
              have hcf : ∀ j, w3.frozen? ⟨w2.heap.size, j, none⟩ = false := fun j => (Below.frozen hb (by simp; omega)).trans (hcf j)
              have HO := Lib.hid (row_ext HO.out hb)
              have hext : Wb.Ext w2 w3 := hext.trans hb
              have hzr := Wb.cell_size hc0
              have hd1 : ¬ w3.heap.size = w2.heap.size := by omega
              have hd2 : ¬ w2.heap.size = w3.heap.size := by omega
              clear hb q0 q1 q2 sk
              obtain ⟨hi1, hi2, hi3, hi4⟩ := HIN.out
              go_wp2_with (at_builtin; (refine Wb.wpList_append_row rfl (.tmp 55) (.tmp 57) 22 rfl (w2.heap.size + 1) 39 i0 (.agg #[.int .i64 0, .string "".toUTF8, .int .i64 0]) 3 32 Tryd.underlying22 hi1 hi2 hi3 hi4 rfl (by decide) _ _ _ rfl ((HO.out.alloc _).alloc _) (.slice (some ⟨w3.heap.size + 1, 0, none⟩) 1 1) rfl 1 (lnv ⟨xp, xs, xn⟩) (src_three _ _ (by simp) ⟨xp, xs, xn⟩ _ _) (by intro r hr; simp [lnv] at hr; rcases hr with rfl | rfl | rfl <;> rfl) (by unfold maxLen; omega) (by omega) (by simp; omega) ?_); intro ov2 w4 hown4 hg4 _; obtain ⟨na, nc, rfl⟩ := row_shape3 hown4; have g2 : w4.cell? ⟨w2.heap.size, 2, none⟩ = some (.slice oa k oc) := (hg4.cell_far _ (by simp; omega) hne).trans (Wb.Ext.keep (show Wb.Ext w3 _ from (((Wb.Ext.refl w3).alloc _).alloc _)) hc2); have gf : ∀ j, w4.frozen? ⟨w2.heap.size, j, none⟩ = false := fun j => (hg4.frozen_far _ (by simp; omega) hne).trans ((Below.frozen (show Wb.Ext w3 _ from (((Wb.Ext.refl w3).alloc _).alloc _)) (by simp; omega)).trans (hcf j)); have g0 : w4.cell? ⟨w2.heap.size, 0, none⟩ = some (.int .i64 y) := (hg4.cell_far _ (by simp; omega) hne).trans (Wb.Ext.keep (show Wb.Ext w3 _ from (((Wb.Ext.refl w3).alloc _).alloc _)) hc0); have g1 : w4.cell? ⟨w2.heap.size, 1, none⟩ = some (.int .i64 i) := (hg4.cell_far _ (by simp; omega) hne).trans (Wb.Ext.keep (show Wb.Ext w3 _ from (((Wb.Ext.refl w3).alloc _).alloc _)) hc1))
              have hE4 : Wb.Ext w2 w4 := Wb.Ext.grown (show Wb.Ext w2 _ from ((hext.alloc _).alloc _)) hg4 (fun r hr => by have := HO.out.lt r hr; omega)
              have hE5 := ext_set hE4 (p := ⟨w2.heap.size, 2, none⟩) (by simp) (.slice na (k + 1) nc)
              have HO4 := Lib.hid (row_set hown4 (p := ⟨w2.heap.size, 2, none⟩) (by simp) (.slice na (k + 1) nc))
              clear hown4 hg4 hE4
              go_wp2
              go_roundw
              case rel =>
                refine ⟨k + 1, d ++ [⟨xp, xs, xn⟩], .slice na (k + 1) nc, by go_num, by omega, HR2.out, ?_, by simp [go_sem, g0], by simp [go_sem, g1], by simp [go_sem, g2], by intro j; simp [go_sem, gf], hE5⟩
                rw [lnvs_app]
                simpa [lnvs] using HO4.out
              case measure => simp [intOf] <;> omega
          · have hke : k = n := by omega
            subst hke
            have hrd := HRD.out
            rw [List.take_of_length_le (by omega)] at hrd
            obtain ⟨hdl, hdc⟩ := readAll_sized (N := 4294967281) hrd (fun s hs => Nat.le_of_lt (HME.out s hs))
            have HSD := Lib.hid (show Sized d from ⟨by omega, fun x hx => Nat.le_trans (hdc x hx) (by omega)⟩)
            have HM3 := Lib.hid (show Wb.parseS t = if Wb.check y i d ≠ 0 then (Wb.check y i d, 0, 0, []) else (0, y, i, d) by rw [HM2.out, hrd])
            obtain ⟨ck, hck⟩ : ∃ c, Wb.check y i d = c := ⟨_, rfl⟩
            have HCK := Lib.hid hck
            have HLD := Lib.hid (lns_of_row HO.out)
            clear hrd hdl hdc hck
            go_wp2_with fail
            refine (check_any y i _ d _ HLD.out HSD.out).mono ?_; rintro e w3 ⟨rfl, hb⟩
            rw [HCK.out]
            have q0 := hb.keep q0
            have q1 := hb.keep q1
            have q2 := hb.keep q2
            have qf : ∀ j, w3.frozen? ⟨w.heap.size, j, none⟩ = false := fun j => (Below.frozen hb (by simp; omega)).trans (qf j)
            have hc0 := hb.keep hc0
            have hc1 := hb.keep hc1
            have hc2 := hb.keep hc2
            have HO := Lib.hid (row_ext HO.out hb)
            have he3 : Wb.Ext w w3 := hew.trans hb
            clear hb
            cases hc : (ck != 0)
            · have HM4 := Lib.hid (show Wb.parseS t = (0, y, i, d) by rw [HM3.out, HCK.out, if_neg (by simpa using hc)])
              have hes := xset (xset (xset he3 (p := ⟨w.heap.size, 0, none⟩) (by simp) (.int .i64 y)) (p := ⟨w.heap.size, 1, none⟩) (by simp) (.int .i64 i)) (p := ⟨w.heap.size, 2, none⟩) (by simp) (.slice oa k oc)
              go_wp2
              refine bodyPost_ret (v := .tuple #[.agg #[.int .i64 y, .int .i64 i, .slice oa k oc], .int .i64 0]) (by simp [results, Tryd.results23, go_sem, q0, q1, q2]) rfl ⟨.slice oa k oc, by rw [HM4.out] <;> rfl, by rw [HM4.out]; exact lnsC_of_row (row_set (row_set (row_set HO.out (by simp; omega) _) (by simp; omega) _) (by simp; omega) _), hes⟩
            · have HM4 := Lib.hid (show Wb.parseS t = (ck, 0, 0, []) by rw [HM3.out, HCK.out, if_pos (by simpa using hc)])
              go_wp2
              refine bodyPost_ret (v := .tuple #[.agg #[.int .i64 0, .int .i64 0, .slice none 0 0], .int .i64 ck]) (by simp [results, Tryd.results23, go_sem, q0, q1, q2]) rfl ⟨.slice none 0 0, by rw [HM4.out] <;> rfl, by rw [HM4.out]; exact ⟨.inl ⟨rfl, _, _, rfl⟩, Nat.le_refl _⟩, xset (xset (xset he3 (by simp) _) (by simp) _) (by simp) _⟩
      · have hlb : la.isEmpty = false := by simpa using hle
        have hlb2 : (la == []) = false := by simpa using hle
        have hlb3 : (la != []) = true := by simpa using hle
        have HM := Lib.hid (show Wb.parseS t = (3, 0, 0, []) by rw [HPS2.out, HLA.out, if_pos hle])
        clear hle
        go_wp2
        refine bodyPost_ret (v := .tuple #[.agg #[.int .i64 0, .int .i64 0, .slice none 0 0], .int .i64 3]) (by simp [results, Tryd.results23, go_sem, q0, q1, q2, hzw]) rfl ⟨.slice none 0 0, by rw [HM.out] <;> rfl, by rw [HM.out]; exact ⟨.inl ⟨rfl, _, _, rfl⟩, Nat.le_refl _⟩, Wb.Ext.alloc (xset (xset (xset he2 (by simp) _) (by simp) _) (by simp) _) _⟩

end Go.Proofs.YtpiedhjjpmmomaaDoor
