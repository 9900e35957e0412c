/- Chapter 38: JournalBack: the walk. -/
import Derived.Test.YtokdmojbffnfgaaDoorJLaw3
namespace Go.Proofs.YtokdmojbffnfgaaDoor
open Go.RowKit
set_option maxRecDepth 8000
attribute [local go_sem ↓] Go.wp_at_zero Go.wp_at_succ

theorem Wb.okK_ne : ∀ {A : List (List UInt8)} {k : Nat}, Wb.okK k A → ∀ a ∈ A, a ≠ []
  | [], _, _, _, h => by cases h
  | x :: r, k, h, a, ha => by
    rcases List.mem_cons.1 ha with rfl | ha
    · exact h.1.1
    · exact Wb.okK_ne h.2 a ha
theorem strc_one (l : List (List UInt8)) : ∀ u ∈ rowsOf strc l, u.oneCell' = true := by
  intro u hu
  simp only [rowsOf, List.mem_flatMap, strc, List.mem_singleton] at hu
  obtain ⟨x, _, rfl⟩ := hu
  rfl
theorem own_free {w : World} {base e s n m g c : Nat} {xs : List Value} (h : w.ownsRow base e s (.slice (some ⟨g, 0, none⟩) m c) n xs) (k : Nat) : w.frozen? ⟨g, k, none⟩ = false := by
  obtain ⟨_, h2 | ⟨g', cap, cur, hv, hb, hg, _⟩⟩ := h
  · cases h2.1
  · cases hv
    simp [World.frozen?, hg]

set_option maxHeartbeats 16000000 in
theorem back_walk (v : Value) (l : List (List UInt8)) (a b : Nat) (w : World) (hv : Strs1 w v l) (hl : l.length ≤ 9223372036854775807) (hs : ∀ s ∈ l, s.length ≤ 9223372036854775807) (ha : a < 4294967296) (hb : b < 256) (ht : Tab10 w) (hm : MaxL w) :
    Calls Tryd.prog 5 #[v, .int .u32 (a : Int), .int .u8 (b : Int)] w fun e w' => e = .returned (.bool true) ∧ Wb.Ext w w' := by
  obtain ⟨i0, hi, hz0, hz1, hz2⟩ := info_parts infoStr
  have HIN := Lib.hid (show Tryd.prog.info? 9 = some i0 ∧ i0.zero = some (.string "".toUTF8) ∧ i0.size = 1 ∧ i0.bytes = 16 from ⟨hi, hz0, hz1, hz2⟩)
  clear hi hz0 hz1 hz2
  obtain ⟨va, vc, rfl⟩ := hv.shape
  have HV := Lib.hid hv
  have HT := Lib.hid ht
  have HMX := Lib.hid hm
  have HS := Lib.hid hs
  clear hv ht hs hm
  go_enter Tryd.func5, Tryd.ntmps5
  go_wp2_with fail
  go_fit (awake38_any _ HT.out); rintro e w1 ⟨rfl, hb1⟩
  go_wp2_with fail
  go_fit (few_any _ l _ (HV.out.ext hb1) hl HS.out); rintro e w' ⟨rfl, rfl⟩
  cases hf : fewB l
  case false =>
    go_wp2
    go_ret
    exact ⟨rfl, hb1⟩
  case true =>
    obtain ⟨hf1, hf2⟩ := fewB_ok hf
    have HF1 := Lib.hid hf1
    clear hf hf1 hl
    go_wp2_with fail
    go_fit (made_any _ l _ (HV.out.ext hb1) (by omega) (fun s hs => Nat.le_trans (HF1.out s hs) (by omega))); rintro e w2 ⟨x, u, m, rfl, hlog, hrow, hb2⟩
    obtain ⟨A, hA⟩ : ∃ A, madeL l = A := ⟨_, rfl⟩
    have HOK := Lib.hid (show Wb.okK 0 A by rw [← hA]; exact madeL_ok l)
    have HA5 := Lib.hid (show ∀ s ∈ A, s.length ≤ 5000 by rw [← hA]; exact fun s hs => HF1.out s (madeL_mem l s hs))
    have hAl : A.length ≤ 40 := by have := madeL_len l; rw [hA] at this; omega
    rw [hA] at hlog hrow
    obtain ⟨x', m', hee, hr, hmm⟩ := hlog
    obtain ⟨rfl, rfl⟩ : x = x' ∧ m = m' := by simp at hee; exact ⟨hee.1, by omega⟩
    obtain ⟨ao, c, rfl, _, _, _⟩ := hr.shape
    obtain ⟨ao2, c2, rfl, hc2, _, _⟩ := hrow.shape
    have HLOG : Hid (LogV w2 (.agg #[.slice ao A.length c, .int .u64 (m : Int)]) A) := ⟨_, _, rfl, hr, hmm⟩
    have HRG := Lib.hid hr
    have HMMG := Lib.hid hmm
    have HROW := Lib.hid hrow
    have HX2 := Lib.hid (hb1.trans hb2)
    obtain ⟨T, hT⟩ : ∃ T, Wb.textL A = T := ⟨_, rfl⟩
    have hTl : T.length ≤ 1000000 := by rw [← hT]; exact Wb.textL_len HA5.out (by omega)
    have HTT := Lib.hid hT
    clear hA hee hr hmm hrow hT hb1 hb2
    go_wp2_with fail
    go_fit (text_any _ A _ (HLOG.out.ext (by (repeat' (first | (with_reducible assumption) | (with_reducible exact Wb.Ext.refl _) | (with_reducible refine Wb.Ext.drew ?_) | (with_reducible refine Wb.Ext.drewN ?_ _) | (with_reducible refine Wb.Ext.alloc ?_ _) | (with_reducible refine Wb.ext_set ?_ (by first | assumption | (simp; done) | (simp; omega) | omega) _) | (with_reducible refine Wb.Ext.trans ?_ (by assumption)))))) (by omega) (fun s hs => Nat.le_trans (HA5.out s hs) (by omega)) (by rw [HTT.out]; omega) (HT.out.ext (HX2.out.trans (by (repeat' (first | (with_reducible assumption) | (with_reducible exact Wb.Ext.refl _) | (with_reducible refine Wb.Ext.drew ?_) | (with_reducible refine Wb.Ext.drewN ?_ _) | (with_reducible refine Wb.Ext.alloc ?_ _) | (with_reducible refine Wb.ext_set ?_ (by first | assumption | (simp; done) | (simp; omega) | omega) _) | (with_reducible refine Wb.Ext.trans ?_ (by assumption)))))))); rintro e w4 ⟨rfl, hb4⟩
    rw [HTT.out]
    have hx24 : Wb.Ext w2 w4 := by (repeat' (first | (with_reducible assumption) | (with_reducible exact Wb.Ext.refl _) | (with_reducible refine Wb.Ext.drew ?_) | (with_reducible refine Wb.Ext.drewN ?_ _) | (with_reducible refine Wb.Ext.alloc ?_ _) | (with_reducible refine Wb.ext_set ?_ (by first | assumption | (simp; done) | (simp; omega) | omega) _) | (with_reducible refine Wb.Ext.trans ?_ (by assumption))))
    have p0 : w4.cell? ⟨w2.heap.size, 0, none⟩ = some (.slice ao A.length c) := hb4.keep (by simp [go_sem])
    have p1 : w4.cell? ⟨w2.heap.size, 1, none⟩ = some (.int .u64 (m : Int)) := hb4.keep (by simp [go_sem])
    have HX4 := Lib.hid (HX2.out.trans hx24)
    clear hb4
    go_wp2_with fail
    go_fit (read_any T _ hTl (HT.out.ext HX4.out) (HMX.out.ext HX4.out)); rintro e w6 ⟨u3, B, i3, z, rfl, hi3, hlog3, hread3, hz3, hb6⟩
    obtain rfl : A = B := (Wb.IsRead.back HOK.out).uniq (by rw [HTT.out]; exact hread3)
    obtain rfl : i3 = T.length := by rw [hi3, HTT.out]
    obtain rfl : z = 0 := by rcases hz3 with ⟨h, _⟩ | ⟨_, h⟩ <;> omega
    obtain ⟨x3, m3, rfl, hr3, hm3⟩ := hlog3
    obtain ⟨ao3, c3, rfl, _, _, _⟩ := hr3.shape
    have HR6 := Lib.hid hr3
    have HM6 := Lib.hid hm3
    have hx26 := hx24.trans hb6
    have p0 := hb6.keep p0
    have p1 := hb6.keep p1
    clear hi3 hread3 hz3 hr3 hm3 hb6 hx24
    go_upto_region 7 with (fail)
    refine Wb.wp_at fun w7 hw7 => ?_
    have hx67 : Wb.Ext w6 w7 := by rw [hw7]; (repeat' (first | (with_reducible assumption) | (with_reducible exact Wb.Ext.refl _) | (with_reducible refine Wb.Ext.drew ?_) | (with_reducible refine Wb.Ext.drewN ?_ _) | (with_reducible refine Wb.Ext.alloc ?_ _) | (with_reducible refine Wb.ext_set ?_ (by first | assumption | (simp; done) | (simp; omega) | omega) _) | (with_reducible refine Wb.Ext.trans ?_ (by assumption))))
    have q0 : w7.cell? ⟨w6.heap.size, 0, none⟩ = some (.slice ao3 A.length c3) := by rw [hw7]; simp [go_sem]
    have q1 : w7.cell? ⟨w6.heap.size, 1, none⟩ = some (.int .u64 (m3 : Int)) := by rw [hw7]; simp [go_sem]
    have p0 := hx67.keep p0
    have p1 := hx67.keep p1
    have hx27 := hx26.trans hx67
    have HX7 := Lib.hid (HX2.out.trans hx27)
    have HLOG7 := Lib.hid (HLOG.out.ext hx27)
    have HROW7 := Lib.hid (HROW.out.ext hx27)
    have HR7 := Lib.hid (HR6.out.ext hx67)
    obtain ⟨M, hM⟩ : ∃ M, Wb.marksL Wb.mfirst A = M := ⟨_, rfl⟩
    have HMG : Hid (∀ w', Wb.Ext w7 w' → Calls Tryd.prog 14 #[.agg #[.slice ao A.length c, .int .u64 (m : Int)]] w' fun e w'' => e = .returned (.int .u64 (M : Int)) ∧ Wb.Ext w' w'') := fun w' k => by
      have := lmark_any (.slice ao A.length c) A m w' ((HRG.out.ext hx27).ext k).strs.1
      rw [show (if A = [] then Wb.mfirst else m : Nat) = M by
        by_cases h0 : A = []
        · rw [if_pos h0, ← hM, h0, Wb.marksL, List.foldl_nil]
        · rw [if_neg h0, ← hM]; exact HMMG.out h0] at this
      exact this
    have HMH : Hid (∀ w', Wb.Ext w7 w' → Calls Tryd.prog 14 #[.agg #[.slice ao3 A.length c3, .int .u64 (m3 : Int)]] w' fun e w'' => e = .returned (.int .u64 (M : Int)) ∧ Wb.Ext w' w'') := fun w' k => by
      have := lmark_any (.slice ao3 A.length c3) A m3 w' (HR7.out.ext k).strs.1
      rw [show (if A = [] then Wb.mfirst else m3 : Nat) = M by
        by_cases h0 : A = []
        · rw [if_pos h0, ← hM, h0, Wb.marksL, List.foldl_nil]
        · rw [if_neg h0, ← hM]; exact HM6.out h0] at this
      exact this
    have HM := Lib.hid hM
    clear hw7 hx26 hx27 hx67 hM
    refine wp_region_held_drew (S := (fun w' => w'.cell? ⟨w2.heap.size, 0, none⟩ = some (.slice ao A.length c) ∧ w'.cell? ⟨w2.heap.size, 1, none⟩ = some (.int .u64 (m : Int)) ∧ w'.cell? ⟨w6.heap.size, 0, none⟩ = some (.slice ao3 A.length c3) ∧ w'.cell? ⟨w6.heap.size, 1, none⟩ = some (.int .u64 (m3 : Int)))) (by kernel_rfl) ⟨p0, p1, q0, q1⟩ (fun hHeld => ?_)
    refine take_d (i := 0) (d := 34) (v := ?_) rfl rfl (by kernel_rfl) (by kernel_rfl) (by kernel_rfl) (fun _ _ _ h => h) (Or.inl ⟨by rfl, ?_⟩) (by assumption) ?_
    rotate_left
    · (intro w hSw; (try dsimp only at hSw); go_simp; (try with_reducible rfl))
    (try simp only [Act.put, List.setIfInBounds_toArray, List.set_cons_zero, List.set_cons_succ])
    refine take_d (i := 1) (d := 35) (v := ?_) rfl rfl (by kernel_rfl) (by kernel_rfl) (by kernel_rfl) (fun _ _ _ h => h) (Or.inl ⟨by rfl, ?_⟩) (by assumption) ?_
    rotate_left
    · (intro w hSw; (try dsimp only at hSw); go_simp; (try with_reducible rfl))
    (try simp only [Act.put, List.setIfInBounds_toArray, List.set_cons_zero, List.set_cons_succ])
    refine take_d (i := 2) (d := 36) (v := ?_) rfl rfl (by kernel_rfl) (by kernel_rfl) (by kernel_rfl) (fun _ _ _ h => h) (Or.inl ⟨by rfl, ?_⟩) (by assumption) ?_
    rotate_left
    · (intro w hSw; (try dsimp only at hSw); go_simp; (try with_reducible rfl))
    (try simp only [Act.put, List.setIfInBounds_toArray, List.set_cons_zero, List.set_cons_succ])
    refine take_d (i := 3) (d := 37) (v := ?_) rfl rfl (by kernel_rfl) (by kernel_rfl) (by kernel_rfl) (fun _ _ _ h => h) (Or.inl ⟨by rfl, ?_⟩) (by assumption) ?_
    rotate_left
    · (intro w hSw; (try dsimp only at hSw); go_simp; (try with_reducible rfl))
    (try simp only [Act.put, List.setIfInBounds_toArray, List.set_cons_zero, List.set_cons_succ])
    refine take_d (i := 4) (d := 38) (v := ?_) rfl rfl (by kernel_rfl) (by kernel_rfl) (by kernel_rfl) (fun _ _ _ h => h) (Or.inl ⟨by rfl, ?_⟩) (by assumption) ?_
    rotate_left
    · (intro w hSw; (try dsimp only at hSw); go_simp; (try with_reducible rfl))
    (try simp only [Act.put, List.setIfInBounds_toArray, List.set_cons_zero, List.set_cons_succ])
    refine wpAnyH_ready (rs := [5]) (by kernel_rfl) (by simp) ?_
    refine AllReadyH.cons (o := _) rfl (fun K hK => ?_) ?_
    · go_simp
      go_at_call 18
      go_fit (text_any _ A _ (HLOG7.out.ext (by (repeat' (first | (with_reducible assumption) | (with_reducible exact Wb.Ext.refl _) | (with_reducible refine Wb.Ext.drew ?_) | (with_reducible refine Wb.Ext.drewN ?_ _) | (with_reducible refine Wb.Ext.alloc ?_ _) | (with_reducible refine Wb.Ext.trans ?_ (by assumption)))))) (by omega) (fun s hs => Nat.le_trans (HA5.out s hs) (by omega)) (by rw [HTT.out]; omega) ((HT.out.ext HX7.out).ext (by (repeat' (first | (with_reducible assumption) | (with_reducible exact Wb.Ext.refl _) | (with_reducible refine Wb.Ext.drew ?_) | (with_reducible refine Wb.Ext.drewN ?_ _) | (with_reducible refine Wb.Ext.alloc ?_ _) | (with_reducible refine Wb.Ext.trans ?_ (by assumption)))))))
      rintro e wa ⟨rfl, hba⟩
      rw [HTT.out]
      refine hK.out _ _ ⟨Wb.Ext.keep (w := w7) (by (repeat' (first | (with_reducible assumption) | (with_reducible exact Wb.Ext.refl _) | (with_reducible refine Wb.Ext.drew ?_) | (with_reducible refine Wb.Ext.drewN ?_ _) | (with_reducible refine Wb.Ext.alloc ?_ _) | (with_reducible refine Wb.Ext.trans ?_ (by assumption))))) p0, Wb.Ext.keep (w := w7) (by (repeat' (first | (with_reducible assumption) | (with_reducible exact Wb.Ext.refl _) | (with_reducible refine Wb.Ext.drew ?_) | (with_reducible refine Wb.Ext.drewN ?_ _) | (with_reducible refine Wb.Ext.alloc ?_ _) | (with_reducible refine Wb.Ext.trans ?_ (by assumption))))) p1, Wb.Ext.keep (w := w7) (by (repeat' (first | (with_reducible assumption) | (with_reducible exact Wb.Ext.refl _) | (with_reducible refine Wb.Ext.drew ?_) | (with_reducible refine Wb.Ext.drewN ?_ _) | (with_reducible refine Wb.Ext.alloc ?_ _) | (with_reducible refine Wb.Ext.trans ?_ (by assumption))))) q0, Wb.Ext.keep (w := w7) (by (repeat' (first | (with_reducible assumption) | (with_reducible exact Wb.Ext.refl _) | (with_reducible refine Wb.Ext.drew ?_) | (with_reducible refine Wb.Ext.drewN ?_ _) | (with_reducible refine Wb.Ext.alloc ?_ _) | (with_reducible refine Wb.Ext.trans ?_ (by assumption))))) q1⟩ (fun hHeld => ?_)
      clear hK K
      (try simp only [Act.put, List.setIfInBounds_toArray, List.set_cons_zero, List.set_cons_succ])
      refine take_d (i := 6) (d := 40) (v := ?_) rfl rfl (by kernel_rfl) (by kernel_rfl) (by kernel_rfl) (fun _ _ _ h => h) (Or.inl ⟨by rfl, ?_⟩) (by assumption) ?_
      rotate_left
      · (intro w hSw; (try dsimp only at hSw); go_simp; (try with_reducible rfl))
      (try simp only [Act.put, List.setIfInBounds_toArray, List.set_cons_zero, List.set_cons_succ])
      refine take_d (i := 7) (d := 41) (v := ?_) rfl rfl (by kernel_rfl) (by kernel_rfl) (by kernel_rfl) (fun _ _ _ h => h) (Or.inl ⟨by rfl, ?_⟩) (by assumption) ?_
      rotate_left
      · (intro w hSw; (try dsimp only at hSw); go_simp; (try with_reducible rfl))
      (try simp only [Act.put, List.setIfInBounds_toArray, List.set_cons_zero, List.set_cons_succ])
      refine take_d (i := 8) (d := 42) (v := ?_) rfl rfl (by kernel_rfl) (by kernel_rfl) (by kernel_rfl) (fun _ _ _ h => h) (Or.inl ⟨by rfl, ?_⟩) (by assumption) ?_
      rotate_left
      · (intro w hSw; (try dsimp only at hSw); go_simp; (try with_reducible rfl))
      (try simp only [Act.put, List.setIfInBounds_toArray, List.set_cons_zero, List.set_cons_succ])
      refine take_d (i := 9) (d := 43) (v := ?_) rfl rfl (by kernel_rfl) (by kernel_rfl) (by kernel_rfl) (fun _ _ _ h => h) (Or.inl ⟨by rfl, ?_⟩) (by assumption) ?_
      rotate_left
      · (intro w hSw; (try dsimp only at hSw); go_simp; (try with_reducible rfl))
      (try simp only [Act.put, List.setIfInBounds_toArray, List.set_cons_zero, List.set_cons_succ])
      refine take_d (i := 10) (d := 44) (v := ?_) rfl rfl (by kernel_rfl) (by kernel_rfl) (by kernel_rfl) (fun _ _ _ h => h) (Or.inl ⟨by rfl, ?_⟩) (by assumption) ?_
      rotate_left
      · (intro w hSw; (try dsimp only at hSw); go_simp; (try with_reducible rfl))
      (try simp only [Act.put, List.setIfInBounds_toArray, List.set_cons_zero, List.set_cons_succ])
      refine take_d (i := 12) (d := 46) (v := ?_) rfl rfl (by kernel_rfl) (by kernel_rfl) (by kernel_rfl) (fun _ _ _ h => h) (Or.inl ⟨by rfl, ?_⟩) (by assumption) ?_
      rotate_left
      · (intro w hSw; (try dsimp only at hSw); go_simp; (try with_reducible rfl))
      (try simp only [Act.put, List.setIfInBounds_toArray, List.set_cons_zero, List.set_cons_succ])
      refine wpAnyH_ready (rs := [11]) (by kernel_rfl) (by simp) ?_
      refine AllReadyH.cons (o := _) rfl (fun K hK => ?_) ?_
      · go_simp
        go_at_call 17
        go_fit (acts_any (.slice ao3 A.length c3) A m3 _ (HR7.out.ext (by (repeat' (first | (with_reducible assumption) | (with_reducible exact Wb.Ext.refl _) | (with_reducible refine Wb.Ext.drew ?_) | (with_reducible refine Wb.Ext.drewN ?_ _) | (with_reducible refine Wb.Ext.alloc ?_ _) | (with_reducible refine Wb.Ext.trans ?_ (by assumption)))))).strs (by omega))
        rintro e wb ⟨ub, rfl, hub, hbb⟩
        refine hK.out _ _ ⟨Wb.Ext.keep (w := w7) (by (repeat' (first | (with_reducible assumption) | (with_reducible exact Wb.Ext.refl _) | (with_reducible refine Wb.Ext.drew ?_) | (with_reducible refine Wb.Ext.drewN ?_ _) | (with_reducible refine Wb.Ext.alloc ?_ _) | (with_reducible refine Wb.Ext.trans ?_ (by assumption))))) p0, Wb.Ext.keep (w := w7) (by (repeat' (first | (with_reducible assumption) | (with_reducible exact Wb.Ext.refl _) | (with_reducible refine Wb.Ext.drew ?_) | (with_reducible refine Wb.Ext.drewN ?_ _) | (with_reducible refine Wb.Ext.alloc ?_ _) | (with_reducible refine Wb.Ext.trans ?_ (by assumption))))) p1, Wb.Ext.keep (w := w7) (by (repeat' (first | (with_reducible assumption) | (with_reducible exact Wb.Ext.refl _) | (with_reducible refine Wb.Ext.drew ?_) | (with_reducible refine Wb.Ext.drewN ?_ _) | (with_reducible refine Wb.Ext.alloc ?_ _) | (with_reducible refine Wb.Ext.trans ?_ (by assumption))))) q0, Wb.Ext.keep (w := w7) (by (repeat' (first | (with_reducible assumption) | (with_reducible exact Wb.Ext.refl _) | (with_reducible refine Wb.Ext.drew ?_) | (with_reducible refine Wb.Ext.drewN ?_ _) | (with_reducible refine Wb.Ext.alloc ?_ _) | (with_reducible refine Wb.Ext.trans ?_ (by assumption))))) q1⟩ (fun hHeld => ?_)
        clear hK K
        (try simp only [Act.put, List.setIfInBounds_toArray, List.set_cons_zero, List.set_cons_succ])
        refine wpAnyH_ready (rs := [13]) (by kernel_rfl) (by simp) ?_
        refine AllReadyH.cons (o := _) rfl (fun K hK => ?_) ?_
        · go_simp
          go_at_call 16
          go_fit (same38_any ub (.slice ao2 A.length c2) A _ (hub.ext (by (repeat' (first | (with_reducible assumption) | (with_reducible exact Wb.Ext.refl _) | (with_reducible refine Wb.Ext.drew ?_) | (with_reducible refine Wb.Ext.drewN ?_ _) | (with_reducible refine Wb.Ext.alloc ?_ _) | (with_reducible refine Wb.Ext.trans ?_ (by assumption)))))) ((HROW7.out.ext (by (repeat' (first | (with_reducible assumption) | (with_reducible exact Wb.Ext.refl _) | (with_reducible refine Wb.Ext.drew ?_) | (with_reducible refine Wb.Ext.drewN ?_ _) | (with_reducible refine Wb.Ext.alloc ?_ _) | (with_reducible refine Wb.Ext.trans ?_ (by assumption)))))).strs.1) (by omega))
          rintro e wc ⟨rfl, hbc⟩
          clear hub
          refine hK.out _ _ ⟨Wb.Ext.keep (w := w7) (by (repeat' (first | (with_reducible assumption) | (with_reducible exact Wb.Ext.refl _) | (with_reducible refine Wb.Ext.drew ?_) | (with_reducible refine Wb.Ext.drewN ?_ _) | (with_reducible refine Wb.Ext.alloc ?_ _) | (with_reducible refine Wb.Ext.trans ?_ (by assumption))))) p0, Wb.Ext.keep (w := w7) (by (repeat' (first | (with_reducible assumption) | (with_reducible exact Wb.Ext.refl _) | (with_reducible refine Wb.Ext.drew ?_) | (with_reducible refine Wb.Ext.drewN ?_ _) | (with_reducible refine Wb.Ext.alloc ?_ _) | (with_reducible refine Wb.Ext.trans ?_ (by assumption))))) p1, Wb.Ext.keep (w := w7) (by (repeat' (first | (with_reducible assumption) | (with_reducible exact Wb.Ext.refl _) | (with_reducible refine Wb.Ext.drew ?_) | (with_reducible refine Wb.Ext.drewN ?_ _) | (with_reducible refine Wb.Ext.alloc ?_ _) | (with_reducible refine Wb.Ext.trans ?_ (by assumption))))) q0, Wb.Ext.keep (w := w7) (by (repeat' (first | (with_reducible assumption) | (with_reducible exact Wb.Ext.refl _) | (with_reducible refine Wb.Ext.drew ?_) | (with_reducible refine Wb.Ext.drewN ?_ _) | (with_reducible refine Wb.Ext.alloc ?_ _) | (with_reducible refine Wb.Ext.trans ?_ (by assumption))))) q1⟩ (fun hHeld => ?_)
          clear hK K
          (try simp only [Act.put, List.setIfInBounds_toArray, List.set_cons_zero, List.set_cons_succ])
          refine take_d (i := 14) (d := 48) (v := ?_) rfl rfl (by kernel_rfl) (by kernel_rfl) (by kernel_rfl) (fun _ _ _ h => h) (Or.inl ⟨by rfl, ?_⟩) (by assumption) ?_
          rotate_left
          · (intro w hSw; (try dsimp only at hSw); go_simp; (try with_reducible rfl))
          (try simp only [Act.put, List.setIfInBounds_toArray, List.set_cons_zero, List.set_cons_succ])
          refine take_d (i := 15) (d := 49) (v := ?_) rfl rfl (by kernel_rfl) (by kernel_rfl) (by kernel_rfl) (fun _ _ _ h => h) (Or.inl ⟨by rfl, ?_⟩) (by assumption) ?_
          rotate_left
          · (intro w hSw; (try dsimp only at hSw); go_simp; (try with_reducible rfl))
          (try simp only [Act.put, List.setIfInBounds_toArray, List.set_cons_zero, List.set_cons_succ])
          refine take_d (i := 16) (d := 50) (v := ?_) rfl rfl (by kernel_rfl) (by kernel_rfl) (by kernel_rfl) (fun _ _ _ h => h) (Or.inl ⟨by rfl, ?_⟩) (by assumption) ?_
          rotate_left
          · (intro w hSw; (try dsimp only at hSw); go_simp; (try with_reducible rfl))
          (try simp only [Act.put, List.setIfInBounds_toArray, List.set_cons_zero, List.set_cons_succ])
          refine take_d (i := 17) (d := 51) (v := ?_) rfl rfl (by kernel_rfl) (by kernel_rfl) (by kernel_rfl) (fun _ _ _ h => h) (Or.inl ⟨by rfl, ?_⟩) (by assumption) ?_
          rotate_left
          · (intro w hSw; (try dsimp only at hSw); go_simp; (try with_reducible rfl))
          (try simp only [Act.put, List.setIfInBounds_toArray, List.set_cons_zero, List.set_cons_succ])
          refine take_d (i := 19) (d := 53) (v := ?_) rfl rfl (by kernel_rfl) (by kernel_rfl) (by kernel_rfl) (fun _ _ _ h => h) (Or.inl ⟨by rfl, ?_⟩) (by assumption) ?_
          rotate_left
          · (intro w hSw; (try dsimp only at hSw); go_simp; (try with_reducible rfl))
          (try simp only [Act.put, List.setIfInBounds_toArray, List.set_cons_zero, List.set_cons_succ])
          refine wpAnyH_ready (rs := [18]) (by kernel_rfl) (by simp) ?_
          refine AllReadyH.cons (o := _) rfl (fun K hK => ?_) ?_
          · go_simp
            go_at_call 14
            go_fit (HMH.out _ (by (repeat' (first | (with_reducible assumption) | (with_reducible exact Wb.Ext.refl _) | (with_reducible refine Wb.Ext.drew ?_) | (with_reducible refine Wb.Ext.drewN ?_ _) | (with_reducible refine Wb.Ext.alloc ?_ _) | (with_reducible refine Wb.Ext.trans ?_ (by assumption))))))
            rintro e wd ⟨rfl, hbd⟩
            refine hK.out _ _ ⟨Wb.Ext.keep (w := w7) (by (repeat' (first | (with_reducible assumption) | (with_reducible exact Wb.Ext.refl _) | (with_reducible refine Wb.Ext.drew ?_) | (with_reducible refine Wb.Ext.drewN ?_ _) | (with_reducible refine Wb.Ext.alloc ?_ _) | (with_reducible refine Wb.Ext.trans ?_ (by assumption))))) p0, Wb.Ext.keep (w := w7) (by (repeat' (first | (with_reducible assumption) | (with_reducible exact Wb.Ext.refl _) | (with_reducible refine Wb.Ext.drew ?_) | (with_reducible refine Wb.Ext.drewN ?_ _) | (with_reducible refine Wb.Ext.alloc ?_ _) | (with_reducible refine Wb.Ext.trans ?_ (by assumption))))) p1, Wb.Ext.keep (w := w7) (by (repeat' (first | (with_reducible assumption) | (with_reducible exact Wb.Ext.refl _) | (with_reducible refine Wb.Ext.drew ?_) | (with_reducible refine Wb.Ext.drewN ?_ _) | (with_reducible refine Wb.Ext.alloc ?_ _) | (with_reducible refine Wb.Ext.trans ?_ (by assumption))))) q0, Wb.Ext.keep (w := w7) (by (repeat' (first | (with_reducible assumption) | (with_reducible exact Wb.Ext.refl _) | (with_reducible refine Wb.Ext.drew ?_) | (with_reducible refine Wb.Ext.drewN ?_ _) | (with_reducible refine Wb.Ext.alloc ?_ _) | (with_reducible refine Wb.Ext.trans ?_ (by assumption))))) q1⟩ (fun hHeld => ?_)
            clear hK K
            (try simp only [Act.put, List.setIfInBounds_toArray, List.set_cons_zero, List.set_cons_succ])
            refine wpAnyH_ready (rs := [20]) (by kernel_rfl) (by simp) ?_
            refine AllReadyH.cons (o := _) rfl (fun K hK => ?_) ?_
            · go_simp
              go_at_call 14
              go_fit (HMG.out _ (by (repeat' (first | (with_reducible assumption) | (with_reducible exact Wb.Ext.refl _) | (with_reducible refine Wb.Ext.drew ?_) | (with_reducible refine Wb.Ext.drewN ?_ _) | (with_reducible refine Wb.Ext.alloc ?_ _) | (with_reducible refine Wb.Ext.trans ?_ (by assumption))))))
              rintro e we ⟨rfl, hbe⟩
              refine hK.out _ _ ⟨Wb.Ext.keep (w := w7) (by (repeat' (first | (with_reducible assumption) | (with_reducible exact Wb.Ext.refl _) | (with_reducible refine Wb.Ext.drew ?_) | (with_reducible refine Wb.Ext.drewN ?_ _) | (with_reducible refine Wb.Ext.alloc ?_ _) | (with_reducible refine Wb.Ext.trans ?_ (by assumption))))) p0, Wb.Ext.keep (w := w7) (by (repeat' (first | (with_reducible assumption) | (with_reducible exact Wb.Ext.refl _) | (with_reducible refine Wb.Ext.drew ?_) | (with_reducible refine Wb.Ext.drewN ?_ _) | (with_reducible refine Wb.Ext.alloc ?_ _) | (with_reducible refine Wb.Ext.trans ?_ (by assumption))))) p1, Wb.Ext.keep (w := w7) (by (repeat' (first | (with_reducible assumption) | (with_reducible exact Wb.Ext.refl _) | (with_reducible refine Wb.Ext.drew ?_) | (with_reducible refine Wb.Ext.drewN ?_ _) | (with_reducible refine Wb.Ext.alloc ?_ _) | (with_reducible refine Wb.Ext.trans ?_ (by assumption))))) q0, Wb.Ext.keep (w := w7) (by (repeat' (first | (with_reducible assumption) | (with_reducible exact Wb.Ext.refl _) | (with_reducible refine Wb.Ext.drew ?_) | (with_reducible refine Wb.Ext.drewN ?_ _) | (with_reducible refine Wb.Ext.alloc ?_ _) | (with_reducible refine Wb.Ext.trans ?_ (by assumption))))) q1⟩ (fun hHeld => ?_)
              clear hK K
              (try simp only [Act.put, List.setIfInBounds_toArray, List.set_cons_zero, List.set_cons_succ])
              refine take_d (i := 21) (d := 55) (v := ?_) rfl rfl (by kernel_rfl) (by kernel_rfl) (by kernel_rfl) (fun _ _ _ h => h) (Or.inl ⟨by rfl, ?_⟩) (by assumption) ?_
              rotate_left
              · (intro w hSw; (try dsimp only at hSw); go_simp; (try with_reducible rfl))
              (try simp only [Act.put, List.setIfInBounds_toArray, List.set_cons_zero, List.set_cons_succ])
              refine take_d (i := 22) (d := 56) (v := ?_) rfl rfl (by kernel_rfl) (by kernel_rfl) (by kernel_rfl) (fun _ _ _ h => h) (Or.inl ⟨by rfl, ?_⟩) (by assumption) ?_
              rotate_left
              · (intro w hSw; (try dsimp only at hSw); go_simp; (try with_reducible rfl))
              (try simp only [Act.put, List.setIfInBounds_toArray, List.set_cons_zero, List.set_cons_succ])
              refine wpAnyH_done (by kernel_rfl) ?_ _
              have hx7e : Wb.Ext w7 we := by (repeat' (first | (with_reducible assumption) | (with_reducible exact Wb.Ext.refl _) | (with_reducible refine Wb.Ext.drew ?_) | (with_reducible refine Wb.Ext.drewN ?_ _) | (with_reducible refine Wb.Ext.alloc ?_ _) | (with_reducible refine Wb.Ext.trans ?_ (by assumption))))
              have p0 := hx7e.keep p0
              have p1 := hx7e.keep p1
              have HX12 := Lib.hid (HX7.out.trans hx7e)
              have HROW12 := Lib.hid (HROW7.out.ext hx7e)
              have HW12 := Lib.hid hx7e
              clear hba hbb hbc hbd hbe hx7e q0 q1
              by_cases hA0 : A = []
              · have e0 : ((A.length : Int) == 0) = true := by rw [hA0]; rfl
                have e0' : (A.length == 0) = true := by rw [hA0]; rfl
                have HM0 := Lib.hid (show (M : Int) = 14695981039346656037 by
                  rw [← HM.out, hA0, Wb.marksL, List.foldl_nil, Wb.mfirst]; rfl)
                clear hA0
                go_wp2_with fail
                go_fit (HMG.out _ HW12.out); rintro e wf ⟨rfl, hbf⟩
                rw [HM0.out]
                go_wp2_with fail
                go_fit (first_ref _); rintro e w' ⟨rfl, rfl⟩
                go_wp2
                go_ret
                exact ⟨rfl, HX12.out.trans hbf⟩
              · have hAp : 0 < A.length := List.length_pos_iff.2 hA0
                have e0 : ((A.length : Int) == 0) = false := by simp; omega
                have e0' : (A.length == 0) = false := by simp; omega
                obtain ⟨i, hi⟩ : ∃ i, a % A.length = i := ⟨_, rfl⟩
                have hil : i < A.length := by rw [← hi]; exact Nat.mod_lt _ hAp
                have hai : (a : Int) % (A.length : Int) = (i : Int) := by rw [← hi]; rfl
                have hii : (i : Int) < A.length := by omega
                obtain ⟨qa, hqa⟩ : ∃ qa, a / A.length = qa := ⟨_, rfl⟩
                have haq : (a : Int) / (A.length : Int) = (qa : Int) := by rw [← hqa]; rfl
                have hqb : qa ≤ a := by rw [← hqa]; exact Nat.div_le_self _ _
                obtain ⟨s, hs⟩ := Wb.get_ex hil
                have hsA := List.mem_of_getElem? hs
                have hs5 := HA5.out s hsA
                have hsn : 0 < s.length := List.length_pos_iff.2 (Wb.okK_ne HOK.out s hsA)
                obtain ⟨j, hj⟩ : ∃ j, qa % s.length = j := ⟨_, rfl⟩
                have hjl : j < s.length := by rw [← hj]; exact Nat.mod_lt _ hsn
                have haj : (qa : Int) % (s.length : Int) = (j : Int) := by rw [← hj]; rfl
                have hji : (j : Int) < s.length := by omega
                have ha64 : IntKind.i64.wrap (a : Int) = (a : Int) := IntWalk.i64_in _ (by omega)
                obtain ⟨P, Q, hPQ, hPl⟩ : ∃ P Q, A = P ++ s :: Q ∧ P.length = i := by
                  obtain ⟨h1, h2⟩ := List.getElem?_eq_some_iff.1 hs
                  exact ⟨A.take i, A.drop (i + 1), by rw [← h2, ← List.drop_eq_getElem_cons h1, List.take_append_drop], by simp; omega⟩
                obtain ⟨pp, c0, qq, hss, hpl, _, hc0⟩ := split_at hjl
                have HPQ := Lib.hid hPQ
                have HPL := Lib.hid hPl
                have HSS := Lib.hid hss
                have HPP := Lib.hid hpl
                have HC0 := Lib.hid hc0
                have HSI := Lib.hid hs
                clear hA0 hi hqa hs hsA hj hPQ hPl hss hpl hc0
                have hown0 : (we.alloc (.cells #[] 9)).ownsRow we.heap.size 9 1 (.slice (some ⟨we.heap.size, 0, none⟩) 0 0) 0 [] :=
                  ⟨rfl, .inr ⟨we.heap.size, 0, #[], rfl, Nat.le_refl _, by show (we.heap.push _)[we.heap.size]? = _; simp, by simp, by simp, by simp, by simp⟩⟩
                obtain ⟨hi, hz0, hz1', hz2⟩ := HIN.out
                go_wp2_with (at_builtin; go_loud (refine Wb.wpList_append_row rfl (.tmp 64) (.tmp 65) 22 rfl we.heap.size 9 i0 (.string "".toUTF8) 1 16 Tryd.underlying22 hi hz0 hz1' hz2 rfl (by decide) _ _ _ rfl hown0 _ rfl A.length (rowsOf strc A) ?c1 ?c2 ?c3 ?c4 ?c5 ?_))
                case c1 => exact ((HROW12.out.ext ((Wb.Ext.refl we).alloc _)).strs).src
                case c2 => exact strc_one A
                case c3 => unfold maxLen; omega
                case c4 => omega
                case c5 => simp
                intro u2 w14 hown2 hg2 hnil2
                try simp only [Nat.zero_add, List.nil_append] at hown2
                have hx14 : Wb.Ext we w14 := ((Wb.Ext.refl we).alloc _).grown hg2 (by intro k hk; cases hk; exact Nat.le_refl _)
                have hn2 : u2 ≠ .slice none 0 0 := hnil2
                obtain ⟨g2, cap2, rfl, hgb, hgl, _, hcells⟩ := Wb.ownsRow_at hown2 hn2
                have hfz2 : ∀ k, w14.frozen? ⟨g2, k, none⟩ = false := own_free hown2
                have HCELL2 : Hid (∀ k x, A[k]? = some x → w14.cell? ⟨g2, k, none⟩ = some (.string (Wb.S x))) := fun k x hk => by
                  have h4 := rowsOf_get strc_len (l := A) (j := k) (x := x) hk 0 (by decide)
                  rw [Nat.mul_one, Nat.add_zero] at h4
                  exact hcells k _ (h4.trans rfl)
                have hci := HCELL2.out i s HSI.out
                have hfi := hfz2 i
                obtain ⟨w15, cap3, hcv, hx45, hz15, hcellb, hfzb⟩ := conv_bytes2 w14 s
                have HCELLB := Lib.hid hcellb
                have hcj := hcellb j hjl
                rw [← HC0.out] at hcj
                have hfj := hfzb j hjl
                have hxv := turnB_val c0 b hb
                clear hi hz0 hz1' hz2 hown0 hown2 hg2 hnil2 hn2 hcells hcellb hfzb hfz2
                go_upto_region 15 with (fail)
                refine Wb.wp_at fun w16 hw16 => ?_
                obtain ⟨s2, hs2⟩ : ∃ s2, pp ++ turnB c0 b :: qq = s2 := ⟨_, rfl⟩
                have hs2l : s2.length = s.length := by rw [← hs2, HSS.out]; simp
                have hback : (convert 47 9 (.slice (some ⟨w14.heap.size, 0, none⟩) s.length cap3)).run Tryd.prog w16 = .ok (.string (Wb.S s2)) w16 := by
                  have h1 := conv_back w16 w14.heap.size cap3 s2 (fun k hk => by
                    rw [hw16, ← hs2]
                    refine bytes_set (c := c0) (n := s.length) HPP.out (fun k hk => ?_) hjl k (by omega)
                    rw [← HSS.out]; exact HCELLB.out k hk)
                  rw [hs2l] at h1; exact h1
                have hx46 : Wb.Ext w14 w16 := by rw [hw16]; exact Wb.ext_set hx45 (Nat.le_refl _) _
                have hci6 := hx46.keep hci
                have hfi6 : w16.frozen? ⟨g2, i, none⟩ = false := (Below.frozen hx46 (show g2 < w14.heap.size from hgl)).trans hfi
                have HCELL6 : Hid (∀ k x, A[k]? = some x → w16.cell? ⟨g2, k, none⟩ = some (.string (Wb.S x))) := fun k x hk => hx46.keep (HCELL2.out k x hk)
                have HS2 := Lib.hid hs2
                clear hw16 hcv hx45 hz15 hcj hfj hxv hci hfi hs2
                go_upto_region 16 with (fail)
                refine Wb.wp_at fun w17 hw17 => ?_
                obtain ⟨O, hO⟩ : ∃ O, P ++ s2 :: Q = O := ⟨_, rfl⟩
                have hOl : O.length = A.length := by rw [← hO, HPQ.out]; simp
                have hO5 : ∀ x ∈ O, x.length ≤ 50000 := by
                  intro x hx
                  rw [← hO] at hx
                  have h1 : ∀ y ∈ A, y.length ≤ 50000 := fun y hy => Nat.le_trans (HA5.out y hy) (by omega)
                  rw [HPQ.out] at h1
                  rcases List.mem_append.1 hx with q | q
                  · exact h1 x (List.mem_append_left _ q)
                  · rcases List.mem_cons.1 q with rfl | q
                    · omega
                    · exact h1 x (List.mem_append_right _ (List.mem_cons_of_mem _ q))
                have hx67 : Wb.Ext we w17 := by rw [hw17]; exact Wb.ext_set (hx14.trans hx46) hgb _
                have HOS := Lib.hid (show Strs1 w17 (.slice (some ⟨g2, 0, none⟩) A.length cap2) O by
                  refine .inr ⟨g2, 0, cap2, by rw [hOl], fun k x hk e y hy => ?_⟩
                  match e, hy with
                  | 0, hy =>
                    simp [strc] at hy; subst hy
                    rw [Nat.zero_add, Nat.mul_one, Nat.add_zero, hw17]
                    by_cases hki : k = i
                    · subst hki
                      have : x = s2 := by
                        rw [← hO, List.getElem?_append_right (by rw [HPL.out]; exact Nat.le_refl _), HPL.out, Nat.sub_self] at hk
                        simpa using hk.symm
                      subst this
                      simp [go_sem, hci6, Wb.cell_size hci6]
                    · have : A[k]? = some x := by
                        rw [HPQ.out]
                        rw [← hO] at hk
                        rcases Nat.lt_trichotomy k i with q | q | q
                        · rw [List.getElem?_append_left (by rw [HPL.out]; exact q)] at hk ⊢; exact hk
                        · exact absurd q hki
                        · rw [List.getElem?_append_right (by rw [HPL.out]; omega)] at hk ⊢
                          obtain ⟨d, hd⟩ : ∃ d, k - P.length = d + 1 := ⟨k - P.length - 1, by rw [HPL.out]; omega⟩
                          rw [hd, List.getElem?_cons_succ] at hk ⊢; exact hk
                      have h6 := HCELL6.out k x this
                      have hne : ¬ i = k := fun e => hki e.symm
                      simp [go_sem, hne, h6]
                  | e + 1, hy => simp [strc] at hy)
                have HO := Lib.hid hO
                have HOL := Lib.hid hOl
                have HO5 := Lib.hid hO5
                have HX17 := Lib.hid hx67
                have p0 := hx67.keep p0
                have p1 := hx67.keep p1
                clear hw17 hci6 hfi6 hx46 hx14 hx67 hO hO5 hback hOl hgb hgl
                go_wp2_with fail
                go_fit (made_any _ O _ HOS.out (by rw [HOL.out]; omega) HO5.out); rintro e w18 ⟨x5, u5, m5, rfl, hlog5, hrow5, hb18⟩
                obtain ⟨K, hK⟩ : ∃ K, madeL O = K := ⟨_, rfl⟩
                rw [hK] at hlog5 hrow5
                obtain ⟨x6, m6, hee5, hr5, hm5⟩ := hlog5
                obtain ⟨rfl, rfl⟩ : x5 = x6 ∧ m5 = m6 := by simp at hee5; exact ⟨hee5.1, by omega⟩
                obtain ⟨ao5, c5, rfl, _, _, _⟩ := hr5.shape
                obtain ⟨ao6, c6, rfl, _, _, _⟩ := hrow5.shape
                have HKK := Lib.hid hK
                have HR5 := Lib.hid hr5
                have HM5 := Lib.hid hm5
                have p0 := hb18.keep p0
                have p1 := hb18.keep p1
                have HX18 := Lib.hid (HX17.out.trans hb18)
                clear hK hee5 hr5 hm5 hrow5 hb18
                go_upto_region 17 with (fail)
                refine Wb.wp_at fun w19 hw19 => ?_
                have hx89 : Wb.Ext w18 w19 := by rw [hw19]; (repeat' (first | (with_reducible assumption) | (with_reducible exact Wb.Ext.refl _) | (with_reducible refine Wb.Ext.drew ?_) | (with_reducible refine Wb.Ext.drewN ?_ _) | (with_reducible refine Wb.Ext.alloc ?_ _) | (with_reducible refine Wb.ext_set ?_ (by first | assumption | (simp; done) | (simp; omega) | omega) _) | (with_reducible refine Wb.Ext.trans ?_ (by assumption))))
                have q0 : w19.cell? ⟨w18.heap.size, 0, none⟩ = some (.slice ao5 K.length c5) := by rw [hw19]; simp [go_sem]
                have q1 : w19.cell? ⟨w18.heap.size, 1, none⟩ = some (.int .u64 (m5 : Int)) := by rw [hw19]; simp [go_sem]
                have p0 := hx89.keep p0
                have p1 := hx89.keep p1
                have HXE := Lib.hid (HX18.out.trans hx89)
                have HMG := Lib.hid (fun w' (k : Wb.Ext w19 w') => HMG.out w' (HW12.out.trans (HXE.out.trans k)))
                have HX19 := Lib.hid (HX12.out.trans HXE.out)
                obtain ⟨M5, hM5⟩ : ∃ M5, Wb.marksL Wb.mfirst K = M5 := ⟨_, rfl⟩
                have HMP : Hid (∀ w', Wb.Ext w19 w' → Calls Tryd.prog 14 #[.agg #[.slice ao5 K.length c5, .int .u64 (m5 : Int)]] w' fun e w'' => e = .returned (.int .u64 (M5 : Int)) ∧ Wb.Ext w' w'') := fun w' k => by
                  have := lmark_any (.slice ao5 K.length c5) K m5 w' ((HR5.out.ext hx89).ext k).strs.1
                  rw [show (if K = [] then Wb.mfirst else m5 : Nat) = M5 by
                    by_cases h0 : K = []
                    · rw [if_pos h0, ← hM5, h0, Wb.marksL, List.foldl_nil]
                    · rw [if_neg h0, ← hM5]; exact HM5.out h0] at this
                  exact this
                have HM5K := Lib.hid hM5
                clear hw19 hM5
                by_cases hb0 : b = 0
                · have g0 : ((b : Int) == 0) = true := by rw [hb0]; rfl
                  have g0' : (b == 0) = true := by rw [hb0]; rfl
                  clear hb0
                  refine wp_region_held_drew (S := (fun w' => w'.cell? ⟨w2.heap.size, 0, none⟩ = some (.slice ao A.length c) ∧ w'.cell? ⟨w2.heap.size, 1, none⟩ = some (.int .u64 (m : Int)) ∧ w'.cell? ⟨w18.heap.size, 0, none⟩ = some (.slice ao5 K.length c5) ∧ w'.cell? ⟨w18.heap.size, 1, none⟩ = some (.int .u64 (m5 : Int)))) (by kernel_rfl) ⟨p0, p1, q0, q1⟩ (fun hHeld => ?_)
                  refine take_d (i := 0) (d := 101) (v := ?_) rfl rfl (by kernel_rfl) (by kernel_rfl) (by kernel_rfl) (fun _ _ _ h => h) (Or.inl ⟨by rfl, ?_⟩) (by assumption) ?_
                  rotate_left
                  · (intro w hSw; (try dsimp only at hSw); go_simp; (try with_reducible rfl))
                  (try simp only [Act.put, List.setIfInBounds_toArray, List.set_cons_zero, List.set_cons_succ])
                  refine take_d (i := 1) (d := 102) (v := ?_) rfl rfl (by kernel_rfl) (by kernel_rfl) (by kernel_rfl) (fun _ _ _ h => h) (Or.inl ⟨by rfl, ?_⟩) (by assumption) ?_
                  rotate_left
                  · (intro w hSw; (try dsimp only at hSw); go_simp; (try with_reducible rfl))
                  (try simp only [Act.put, List.setIfInBounds_toArray, List.set_cons_zero, List.set_cons_succ])
                  refine take_d (i := 2) (d := 103) (v := ?_) rfl rfl (by kernel_rfl) (by kernel_rfl) (by kernel_rfl) (fun _ _ _ h => h) (Or.inl ⟨by rfl, ?_⟩) (by assumption) ?_
                  rotate_left
                  · (intro w hSw; (try dsimp only at hSw); go_simp; (try with_reducible rfl))
                  (try simp only [Act.put, List.setIfInBounds_toArray, List.set_cons_zero, List.set_cons_succ])
                  refine take_d (i := 3) (d := 104) (v := undef) rfl rfl (by kernel_rfl) (by kernel_rfl) (by kernel_rfl) (fun _ _ _ h => h) (Or.inr ⟨by rfl, rfl⟩) (by assumption) ?_
                  (try simp only [Act.put, List.setIfInBounds_toArray, List.set_cons_zero, List.set_cons_succ])
                  refine take_d (i := 4) (d := 105) (v := undef) rfl rfl (by kernel_rfl) (by kernel_rfl) (by kernel_rfl) (fun _ _ _ h => h) (Or.inr ⟨by rfl, rfl⟩) (by assumption) ?_
                  (try simp only [Act.put, List.setIfInBounds_toArray, List.set_cons_zero, List.set_cons_succ])
                  refine take_d (i := 5) (d := 106) (v := undef) rfl rfl (by kernel_rfl) (by kernel_rfl) (by kernel_rfl) (fun _ _ _ h => h) (Or.inr ⟨by rfl, rfl⟩) (by assumption) ?_
                  (try simp only [Act.put, List.setIfInBounds_toArray, List.set_cons_zero, List.set_cons_succ])
                  refine take_d (i := 6) (d := 107) (v := undef) rfl rfl (by kernel_rfl) (by kernel_rfl) (by kernel_rfl) (fun _ _ _ h => h) (Or.inr ⟨by rfl, rfl⟩) (by assumption) ?_
                  (try simp only [Act.put, List.setIfInBounds_toArray, List.set_cons_zero, List.set_cons_succ])
                  refine take_d (i := 7) (d := 108) (v := undef) rfl rfl (by kernel_rfl) (by kernel_rfl) (by kernel_rfl) (fun _ _ _ h => h) (Or.inr ⟨by rfl, rfl⟩) (by assumption) ?_
                  (try simp only [Act.put, List.setIfInBounds_toArray, List.set_cons_zero, List.set_cons_succ])
                  refine take_d (i := 8) (d := 109) (v := ?_) rfl rfl (by kernel_rfl) (by kernel_rfl) (by kernel_rfl) (fun _ _ _ h => h) (Or.inl ⟨by rfl, ?_⟩) (by assumption) ?_
                  rotate_left
                  · (intro w hSw; (try dsimp only at hSw); go_simp; (try with_reducible rfl))
                  (try simp only [Act.put, List.setIfInBounds_toArray, List.set_cons_zero, List.set_cons_succ])
                  refine take_d (i := 9) (d := 110) (v := ?_) rfl rfl (by kernel_rfl) (by kernel_rfl) (by kernel_rfl) (fun _ _ _ h => h) (Or.inl ⟨by rfl, ?_⟩) (by assumption) ?_
                  rotate_left
                  · (intro w hSw; (try dsimp only at hSw); go_simp; (try with_reducible rfl))
                  (try simp only [Act.put, List.setIfInBounds_toArray, List.set_cons_zero, List.set_cons_succ])
                  refine take_d (i := 10) (d := 111) (v := undef) rfl rfl (by kernel_rfl) (by kernel_rfl) (by kernel_rfl) (fun _ _ _ h => h) (Or.inr ⟨by rfl, rfl⟩) (by assumption) ?_
                  (try simp only [Act.put, List.setIfInBounds_toArray, List.set_cons_zero, List.set_cons_succ])
                  refine take_d (i := 11) (d := 112) (v := undef) rfl rfl (by kernel_rfl) (by kernel_rfl) (by kernel_rfl) (fun _ _ _ h => h) (Or.inr ⟨by rfl, rfl⟩) (by assumption) ?_
                  (try simp only [Act.put, List.setIfInBounds_toArray, List.set_cons_zero, List.set_cons_succ])
                  refine take_d (i := 12) (d := 113) (v := undef) rfl rfl (by kernel_rfl) (by kernel_rfl) (by kernel_rfl) (fun _ _ _ h => h) (Or.inr ⟨by rfl, rfl⟩) (by assumption) ?_
                  (try simp only [Act.put, List.setIfInBounds_toArray, List.set_cons_zero, List.set_cons_succ])
                  refine take_d (i := 13) (d := 114) (v := undef) rfl rfl (by kernel_rfl) (by kernel_rfl) (by kernel_rfl) (fun _ _ _ h => h) (Or.inr ⟨by rfl, rfl⟩) (by assumption) ?_
                  (try simp only [Act.put, List.setIfInBounds_toArray, List.set_cons_zero, List.set_cons_succ])
                  refine take_d (i := 14) (d := 115) (v := undef) rfl rfl (by kernel_rfl) (by kernel_rfl) (by kernel_rfl) (fun _ _ _ h => h) (Or.inr ⟨by rfl, rfl⟩) (by assumption) ?_
                  (try simp only [Act.put, List.setIfInBounds_toArray, List.set_cons_zero, List.set_cons_succ])
                  refine take_d (i := 15) (d := 116) (v := ?_) rfl rfl (by kernel_rfl) (by kernel_rfl) (by kernel_rfl) (fun _ _ _ h => h) (Or.inl ⟨by rfl, ?_⟩) (by assumption) ?_
                  rotate_left
                  · (intro w hSw; (try dsimp only at hSw); go_simp; (try with_reducible rfl))
                  (try simp only [Act.put, List.setIfInBounds_toArray, List.set_cons_zero, List.set_cons_succ])
                  refine take_d (i := 16) (d := 6) (v := ?_) rfl rfl (by kernel_rfl) (by kernel_rfl) (by kernel_rfl) (fun _ _ _ h => h) (Or.inl ⟨by rfl, ?_⟩) (by assumption) ?_
                  rotate_left
                  · (intro w hSw; (try dsimp only at hSw); go_simp; (try with_reducible rfl))
                  (try simp only [Act.put, List.setIfInBounds_toArray, List.set_cons_zero, List.set_cons_succ])
                  refine wpAnyH_done (by kernel_rfl) ?_ _
                  go_wp2
                  go_ret
                  exact ⟨rfl, HX19.out.trans (by (repeat' (first | (with_reducible assumption) | (with_reducible exact Wb.Ext.refl _) | (with_reducible refine Wb.Ext.drew ?_) | (with_reducible refine Wb.Ext.drewN ?_ _) | (with_reducible refine Wb.Ext.alloc ?_ _) | (with_reducible refine Wb.Ext.trans ?_ (by assumption)))))⟩
                · have g0 : ((b : Int) == 0) = false := by simp; omega
                  have g0' : (b == 0) = false := by simpa using hb0
                  have HB0 := Lib.hid hb0
                  clear hb0
                  by_cases hKA : K.length = A.length
                  · have g1 : ((K.length : Int) != (A.length : Int)) = false := by simp; omega
                    have g1' : (K.length != A.length) = false := by simp [hKA]
                    have HNE := Lib.hid (show M5 ≠ M by
                      have hKO : K = O := by rw [← HKK.out]; exact madeL_all (by rw [HKK.out, HOL.out]; exact hKA)
                      rw [← HM5K.out, ← HM.out, hKO, ← HO.out, HPQ.out, HSS.out, ← HS2.out]
                      exact fun e => Wb.marks_apart (turnB_ne c0 b hb HB0.out) e.symm)
                    have g2 : ((M5 : Int) != (M : Int)) = true := by have := HNE.out; simp; omega
                    have g2' : (M5 != M) = true := by have := HNE.out; simpa using this
                    clear hKA
                    refine wp_region_held_drew (S := (fun w' => w'.cell? ⟨w2.heap.size, 0, none⟩ = some (.slice ao A.length c) ∧ w'.cell? ⟨w2.heap.size, 1, none⟩ = some (.int .u64 (m : Int)) ∧ w'.cell? ⟨w18.heap.size, 0, none⟩ = some (.slice ao5 K.length c5) ∧ w'.cell? ⟨w18.heap.size, 1, none⟩ = some (.int .u64 (m5 : Int)))) (by kernel_rfl) ⟨p0, p1, q0, q1⟩ (fun hHeld => ?_)
                    refine take_d (i := 0) (d := 101) (v := ?_) rfl rfl (by kernel_rfl) (by kernel_rfl) (by kernel_rfl) (fun _ _ _ h => h) (Or.inl ⟨by rfl, ?_⟩) (by assumption) ?_
                    rotate_left
                    · (intro w hSw; (try dsimp only at hSw); go_simp; (try with_reducible rfl))
                    (try simp only [Act.put, List.setIfInBounds_toArray, List.set_cons_zero, List.set_cons_succ])
                    refine take_d (i := 1) (d := 102) (v := ?_) rfl rfl (by kernel_rfl) (by kernel_rfl) (by kernel_rfl) (fun _ _ _ h => h) (Or.inl ⟨by rfl, ?_⟩) (by assumption) ?_
                    rotate_left
                    · (intro w hSw; (try dsimp only at hSw); go_simp; (try with_reducible rfl))
                    (try simp only [Act.put, List.setIfInBounds_toArray, List.set_cons_zero, List.set_cons_succ])
                    refine take_d (i := 2) (d := 103) (v := ?_) rfl rfl (by kernel_rfl) (by kernel_rfl) (by kernel_rfl) (fun _ _ _ h => h) (Or.inl ⟨by rfl, ?_⟩) (by assumption) ?_
                    rotate_left
                    · (intro w hSw; (try dsimp only at hSw); go_simp; (try with_reducible rfl))
                    (try simp only [Act.put, List.setIfInBounds_toArray, List.set_cons_zero, List.set_cons_succ])
                    refine take_d (i := 3) (d := 104) (v := ?_) rfl rfl (by kernel_rfl) (by kernel_rfl) (by kernel_rfl) (fun _ _ _ h => h) (Or.inl ⟨by rfl, ?_⟩) (by assumption) ?_
                    rotate_left
                    · (intro w hSw; (try dsimp only at hSw); go_simp; (try with_reducible rfl))
                    (try simp only [Act.put, List.setIfInBounds_toArray, List.set_cons_zero, List.set_cons_succ])
                    refine take_d (i := 4) (d := 105) (v := ?_) rfl rfl (by kernel_rfl) (by kernel_rfl) (by kernel_rfl) (fun _ _ _ h => h) (Or.inl ⟨by rfl, ?_⟩) (by assumption) ?_
                    rotate_left
                    · (intro w hSw; (try dsimp only at hSw); go_simp; (try with_reducible rfl))
                    (try simp only [Act.put, List.setIfInBounds_toArray, List.set_cons_zero, List.set_cons_succ])
                    refine take_d (i := 5) (d := 106) (v := ?_) rfl rfl (by kernel_rfl) (by kernel_rfl) (by kernel_rfl) (fun _ _ _ h => h) (Or.inl ⟨by rfl, ?_⟩) (by assumption) ?_
                    rotate_left
                    · (intro w hSw; (try dsimp only at hSw); go_simp; (try with_reducible rfl))
                    (try simp only [Act.put, List.setIfInBounds_toArray, List.set_cons_zero, List.set_cons_succ])
                    refine take_d (i := 6) (d := 107) (v := ?_) rfl rfl (by kernel_rfl) (by kernel_rfl) (by kernel_rfl) (fun _ _ _ h => h) (Or.inl ⟨by rfl, ?_⟩) (by assumption) ?_
                    rotate_left
                    · (intro w hSw; (try dsimp only at hSw); go_simp; (try with_reducible rfl))
                    (try simp only [Act.put, List.setIfInBounds_toArray, List.set_cons_zero, List.set_cons_succ])
                    refine take_d (i := 7) (d := 108) (v := ?_) rfl rfl (by kernel_rfl) (by kernel_rfl) (by kernel_rfl) (fun _ _ _ h => h) (Or.inl ⟨by rfl, ?_⟩) (by assumption) ?_
                    rotate_left
                    · (intro w hSw; (try dsimp only at hSw); go_simp; (try with_reducible rfl))
                    (try simp only [Act.put, List.setIfInBounds_toArray, List.set_cons_zero, List.set_cons_succ])
                    refine take_d (i := 8) (d := 109) (v := ?_) rfl rfl (by kernel_rfl) (by kernel_rfl) (by kernel_rfl) (fun _ _ _ h => h) (Or.inl ⟨by rfl, ?_⟩) (by assumption) ?_
                    rotate_left
                    · (intro w hSw; (try dsimp only at hSw); go_simp; (try with_reducible rfl))
                    (try simp only [Act.put, List.setIfInBounds_toArray, List.set_cons_zero, List.set_cons_succ])
                    refine take_d (i := 9) (d := 110) (v := ?_) rfl rfl (by kernel_rfl) (by kernel_rfl) (by kernel_rfl) (fun _ _ _ h => h) (Or.inl ⟨by rfl, ?_⟩) (by assumption) ?_
                    rotate_left
                    · (intro w hSw; (try dsimp only at hSw); go_simp; (try with_reducible rfl))
                    (try simp only [Act.put, List.setIfInBounds_toArray, List.set_cons_zero, List.set_cons_succ])
                    refine take_d (i := 10) (d := 111) (v := ?_) rfl rfl (by kernel_rfl) (by kernel_rfl) (by kernel_rfl) (fun _ _ _ h => h) (Or.inl ⟨by rfl, ?_⟩) (by assumption) ?_
                    rotate_left
                    · (intro w hSw; (try dsimp only at hSw); go_simp; (try with_reducible rfl))
                    (try simp only [Act.put, List.setIfInBounds_toArray, List.set_cons_zero, List.set_cons_succ])
                    refine take_d (i := 12) (d := 113) (v := ?_) rfl rfl (by kernel_rfl) (by kernel_rfl) (by kernel_rfl) (fun _ _ _ h => h) (Or.inl ⟨by rfl, ?_⟩) (by assumption) ?_
                    rotate_left
                    · (intro w hSw; (try dsimp only at hSw); go_simp; (try with_reducible rfl))
                    (try simp only [Act.put, List.setIfInBounds_toArray, List.set_cons_zero, List.set_cons_succ])
                    refine wpAnyH_ready (rs := [11]) (by kernel_rfl) (by simp) ?_
                    refine AllReadyH.cons (o := _) rfl (fun K hK => ?_) ?_
                    · go_simp
                      go_at_call 14
                      go_fit (HMP.out _ (by (repeat' (first | (with_reducible assumption) | (with_reducible exact Wb.Ext.refl _) | (with_reducible refine Wb.Ext.drew ?_) | (with_reducible refine Wb.Ext.drewN ?_ _) | (with_reducible refine Wb.Ext.alloc ?_ _) | (with_reducible refine Wb.Ext.trans ?_ (by assumption))))))
                      rintro e wa ⟨rfl, hba⟩
                      refine hK.out _ _ ⟨Wb.Ext.keep (w := w19) (by (repeat' (first | (with_reducible assumption) | (with_reducible exact Wb.Ext.refl _) | (with_reducible refine Wb.Ext.drew ?_) | (with_reducible refine Wb.Ext.drewN ?_ _) | (with_reducible refine Wb.Ext.alloc ?_ _) | (with_reducible refine Wb.Ext.trans ?_ (by assumption))))) p0, Wb.Ext.keep (w := w19) (by (repeat' (first | (with_reducible assumption) | (with_reducible exact Wb.Ext.refl _) | (with_reducible refine Wb.Ext.drew ?_) | (with_reducible refine Wb.Ext.drewN ?_ _) | (with_reducible refine Wb.Ext.alloc ?_ _) | (with_reducible refine Wb.Ext.trans ?_ (by assumption))))) p1, Wb.Ext.keep (w := w19) (by (repeat' (first | (with_reducible assumption) | (with_reducible exact Wb.Ext.refl _) | (with_reducible refine Wb.Ext.drew ?_) | (with_reducible refine Wb.Ext.drewN ?_ _) | (with_reducible refine Wb.Ext.alloc ?_ _) | (with_reducible refine Wb.Ext.trans ?_ (by assumption))))) q0, Wb.Ext.keep (w := w19) (by (repeat' (first | (with_reducible assumption) | (with_reducible exact Wb.Ext.refl _) | (with_reducible refine Wb.Ext.drew ?_) | (with_reducible refine Wb.Ext.drewN ?_ _) | (with_reducible refine Wb.Ext.alloc ?_ _) | (with_reducible refine Wb.Ext.trans ?_ (by assumption))))) q1⟩ (fun hHeld => ?_)
                      clear hK K
                      (try simp only [Act.put, List.setIfInBounds_toArray, List.set_cons_zero, List.set_cons_succ])
                      refine wpAnyH_ready (rs := [13]) (by kernel_rfl) (by simp) ?_
                      refine AllReadyH.cons (o := _) rfl (fun K hK => ?_) ?_
                      · go_simp
                        go_at_call 14
                        go_fit (HMG.out _ (by (repeat' (first | (with_reducible assumption) | (with_reducible exact Wb.Ext.refl _) | (with_reducible refine Wb.Ext.drew ?_) | (with_reducible refine Wb.Ext.drewN ?_ _) | (with_reducible refine Wb.Ext.alloc ?_ _) | (with_reducible refine Wb.Ext.trans ?_ (by assumption))))))
                        rintro e wb ⟨rfl, hbb⟩
                        refine hK.out _ _ ⟨Wb.Ext.keep (w := w19) (by (repeat' (first | (with_reducible assumption) | (with_reducible exact Wb.Ext.refl _) | (with_reducible refine Wb.Ext.drew ?_) | (with_reducible refine Wb.Ext.drewN ?_ _) | (with_reducible refine Wb.Ext.alloc ?_ _) | (with_reducible refine Wb.Ext.trans ?_ (by assumption))))) p0, Wb.Ext.keep (w := w19) (by (repeat' (first | (with_reducible assumption) | (with_reducible exact Wb.Ext.refl _) | (with_reducible refine Wb.Ext.drew ?_) | (with_reducible refine Wb.Ext.drewN ?_ _) | (with_reducible refine Wb.Ext.alloc ?_ _) | (with_reducible refine Wb.Ext.trans ?_ (by assumption))))) p1, Wb.Ext.keep (w := w19) (by (repeat' (first | (with_reducible assumption) | (with_reducible exact Wb.Ext.refl _) | (with_reducible refine Wb.Ext.drew ?_) | (with_reducible refine Wb.Ext.drewN ?_ _) | (with_reducible refine Wb.Ext.alloc ?_ _) | (with_reducible refine Wb.Ext.trans ?_ (by assumption))))) q0, Wb.Ext.keep (w := w19) (by (repeat' (first | (with_reducible assumption) | (with_reducible exact Wb.Ext.refl _) | (with_reducible refine Wb.Ext.drew ?_) | (with_reducible refine Wb.Ext.drewN ?_ _) | (with_reducible refine Wb.Ext.alloc ?_ _) | (with_reducible refine Wb.Ext.trans ?_ (by assumption))))) q1⟩ (fun hHeld => ?_)
                        clear hK K
                        (try simp only [Act.put, List.setIfInBounds_toArray, List.set_cons_zero, List.set_cons_succ])
                        refine take_d (i := 14) (d := 115) (v := ?_) rfl rfl (by kernel_rfl) (by kernel_rfl) (by kernel_rfl) (fun _ _ _ h => h) (Or.inl ⟨by rfl, ?_⟩) (by assumption) ?_
                        rotate_left
                        · (intro w hSw; (try dsimp only at hSw); go_simp; (try with_reducible rfl))
                        (try simp only [Act.put, List.setIfInBounds_toArray, List.set_cons_zero, List.set_cons_succ])
                        refine take_d (i := 15) (d := 116) (v := ?_) rfl rfl (by kernel_rfl) (by kernel_rfl) (by kernel_rfl) (fun _ _ _ h => h) (Or.inl ⟨by rfl, ?_⟩) (by assumption) ?_
                        rotate_left
                        · (intro w hSw; (try dsimp only at hSw); go_simp; (try with_reducible rfl))
                        (try simp only [Act.put, List.setIfInBounds_toArray, List.set_cons_zero, List.set_cons_succ])
                        refine take_d (i := 16) (d := 6) (v := ?_) rfl rfl (by kernel_rfl) (by kernel_rfl) (by kernel_rfl) (fun _ _ _ h => h) (Or.inl ⟨by rfl, ?_⟩) (by assumption) ?_
                        rotate_left
                        · (intro w hSw; (try dsimp only at hSw); go_simp; (try with_reducible rfl))
                        (try simp only [Act.put, List.setIfInBounds_toArray, List.set_cons_zero, List.set_cons_succ])
                        refine wpAnyH_done (by kernel_rfl) ?_ _
                        go_wp2
                        go_ret
                        exact ⟨rfl, HX19.out.trans (by (repeat' (first | (with_reducible assumption) | (with_reducible exact Wb.Ext.refl _) | (with_reducible refine Wb.Ext.drew ?_) | (with_reducible refine Wb.Ext.drewN ?_ _) | (with_reducible refine Wb.Ext.alloc ?_ _) | (with_reducible refine Wb.Ext.trans ?_ (by assumption)))))⟩
                      exact AllReadyH.nil
                    exact AllReadyH.nil
                  · have g1 : ((K.length : Int) != (A.length : Int)) = true := by simp; omega
                    have g1' : (K.length != A.length) = true := by simpa using hKA
                    clear hKA
                    refine wp_region_held_drew (S := (fun w' => w'.cell? ⟨w2.heap.size, 0, none⟩ = some (.slice ao A.length c) ∧ w'.cell? ⟨w2.heap.size, 1, none⟩ = some (.int .u64 (m : Int)) ∧ w'.cell? ⟨w18.heap.size, 0, none⟩ = some (.slice ao5 K.length c5) ∧ w'.cell? ⟨w18.heap.size, 1, none⟩ = some (.int .u64 (m5 : Int)))) (by kernel_rfl) ⟨p0, p1, q0, q1⟩ (fun hHeld => ?_)
                    refine take_d (i := 0) (d := 101) (v := ?_) rfl rfl (by kernel_rfl) (by kernel_rfl) (by kernel_rfl) (fun _ _ _ h => h) (Or.inl ⟨by rfl, ?_⟩) (by assumption) ?_
                    rotate_left
                    · (intro w hSw; (try dsimp only at hSw); go_simp; (try with_reducible rfl))
                    (try simp only [Act.put, List.setIfInBounds_toArray, List.set_cons_zero, List.set_cons_succ])
                    refine take_d (i := 1) (d := 102) (v := ?_) rfl rfl (by kernel_rfl) (by kernel_rfl) (by kernel_rfl) (fun _ _ _ h => h) (Or.inl ⟨by rfl, ?_⟩) (by assumption) ?_
                    rotate_left
                    · (intro w hSw; (try dsimp only at hSw); go_simp; (try with_reducible rfl))
                    (try simp only [Act.put, List.setIfInBounds_toArray, List.set_cons_zero, List.set_cons_succ])
                    refine take_d (i := 2) (d := 103) (v := ?_) rfl rfl (by kernel_rfl) (by kernel_rfl) (by kernel_rfl) (fun _ _ _ h => h) (Or.inl ⟨by rfl, ?_⟩) (by assumption) ?_
                    rotate_left
                    · (intro w hSw; (try dsimp only at hSw); go_simp; (try with_reducible rfl))
                    (try simp only [Act.put, List.setIfInBounds_toArray, List.set_cons_zero, List.set_cons_succ])
                    refine take_d (i := 3) (d := 104) (v := ?_) rfl rfl (by kernel_rfl) (by kernel_rfl) (by kernel_rfl) (fun _ _ _ h => h) (Or.inl ⟨by rfl, ?_⟩) (by assumption) ?_
                    rotate_left
                    · (intro w hSw; (try dsimp only at hSw); go_simp; (try with_reducible rfl))
                    (try simp only [Act.put, List.setIfInBounds_toArray, List.set_cons_zero, List.set_cons_succ])
                    refine take_d (i := 4) (d := 105) (v := ?_) rfl rfl (by kernel_rfl) (by kernel_rfl) (by kernel_rfl) (fun _ _ _ h => h) (Or.inl ⟨by rfl, ?_⟩) (by assumption) ?_
                    rotate_left
                    · (intro w hSw; (try dsimp only at hSw); go_simp; (try with_reducible rfl))
                    (try simp only [Act.put, List.setIfInBounds_toArray, List.set_cons_zero, List.set_cons_succ])
                    refine take_d (i := 5) (d := 106) (v := ?_) rfl rfl (by kernel_rfl) (by kernel_rfl) (by kernel_rfl) (fun _ _ _ h => h) (Or.inl ⟨by rfl, ?_⟩) (by assumption) ?_
                    rotate_left
                    · (intro w hSw; (try dsimp only at hSw); go_simp; (try with_reducible rfl))
                    (try simp only [Act.put, List.setIfInBounds_toArray, List.set_cons_zero, List.set_cons_succ])
                    refine take_d (i := 6) (d := 107) (v := ?_) rfl rfl (by kernel_rfl) (by kernel_rfl) (by kernel_rfl) (fun _ _ _ h => h) (Or.inl ⟨by rfl, ?_⟩) (by assumption) ?_
                    rotate_left
                    · (intro w hSw; (try dsimp only at hSw); go_simp; (try with_reducible rfl))
                    (try simp only [Act.put, List.setIfInBounds_toArray, List.set_cons_zero, List.set_cons_succ])
                    refine take_d (i := 7) (d := 108) (v := ?_) rfl rfl (by kernel_rfl) (by kernel_rfl) (by kernel_rfl) (fun _ _ _ h => h) (Or.inl ⟨by rfl, ?_⟩) (by assumption) ?_
                    rotate_left
                    · (intro w hSw; (try dsimp only at hSw); go_simp; (try with_reducible rfl))
                    (try simp only [Act.put, List.setIfInBounds_toArray, List.set_cons_zero, List.set_cons_succ])
                    refine take_d (i := 8) (d := 109) (v := ?_) rfl rfl (by kernel_rfl) (by kernel_rfl) (by kernel_rfl) (fun _ _ _ h => h) (Or.inl ⟨by rfl, ?_⟩) (by assumption) ?_
                    rotate_left
                    · (intro w hSw; (try dsimp only at hSw); go_simp; (try with_reducible rfl))
                    (try simp only [Act.put, List.setIfInBounds_toArray, List.set_cons_zero, List.set_cons_succ])
                    refine take_d (i := 9) (d := 110) (v := ?_) rfl rfl (by kernel_rfl) (by kernel_rfl) (by kernel_rfl) (fun _ _ _ h => h) (Or.inl ⟨by rfl, ?_⟩) (by assumption) ?_
                    rotate_left
                    · (intro w hSw; (try dsimp only at hSw); go_simp; (try with_reducible rfl))
                    (try simp only [Act.put, List.setIfInBounds_toArray, List.set_cons_zero, List.set_cons_succ])
                    refine take_d (i := 10) (d := 111) (v := undef) rfl rfl (by kernel_rfl) (by kernel_rfl) (by kernel_rfl) (fun _ _ _ h => h) (Or.inr ⟨by rfl, rfl⟩) (by assumption) ?_
                    (try simp only [Act.put, List.setIfInBounds_toArray, List.set_cons_zero, List.set_cons_succ])
                    refine take_d (i := 11) (d := 112) (v := undef) rfl rfl (by kernel_rfl) (by kernel_rfl) (by kernel_rfl) (fun _ _ _ h => h) (Or.inr ⟨by rfl, rfl⟩) (by assumption) ?_
                    (try simp only [Act.put, List.setIfInBounds_toArray, List.set_cons_zero, List.set_cons_succ])
                    refine take_d (i := 12) (d := 113) (v := undef) rfl rfl (by kernel_rfl) (by kernel_rfl) (by kernel_rfl) (fun _ _ _ h => h) (Or.inr ⟨by rfl, rfl⟩) (by assumption) ?_
                    (try simp only [Act.put, List.setIfInBounds_toArray, List.set_cons_zero, List.set_cons_succ])
                    refine take_d (i := 13) (d := 114) (v := undef) rfl rfl (by kernel_rfl) (by kernel_rfl) (by kernel_rfl) (fun _ _ _ h => h) (Or.inr ⟨by rfl, rfl⟩) (by assumption) ?_
                    (try simp only [Act.put, List.setIfInBounds_toArray, List.set_cons_zero, List.set_cons_succ])
                    refine take_d (i := 14) (d := 115) (v := undef) rfl rfl (by kernel_rfl) (by kernel_rfl) (by kernel_rfl) (fun _ _ _ h => h) (Or.inr ⟨by rfl, rfl⟩) (by assumption) ?_
                    (try simp only [Act.put, List.setIfInBounds_toArray, List.set_cons_zero, List.set_cons_succ])
                    refine take_d (i := 15) (d := 116) (v := ?_) rfl rfl (by kernel_rfl) (by kernel_rfl) (by kernel_rfl) (fun _ _ _ h => h) (Or.inl ⟨by rfl, ?_⟩) (by assumption) ?_
                    rotate_left
                    · (intro w hSw; (try dsimp only at hSw); go_simp; (try with_reducible rfl))
                    (try simp only [Act.put, List.setIfInBounds_toArray, List.set_cons_zero, List.set_cons_succ])
                    refine take_d (i := 16) (d := 6) (v := ?_) rfl rfl (by kernel_rfl) (by kernel_rfl) (by kernel_rfl) (fun _ _ _ h => h) (Or.inl ⟨by rfl, ?_⟩) (by assumption) ?_
                    rotate_left
                    · (intro w hSw; (try dsimp only at hSw); go_simp; (try with_reducible rfl))
                    (try simp only [Act.put, List.setIfInBounds_toArray, List.set_cons_zero, List.set_cons_succ])
                    refine wpAnyH_done (by kernel_rfl) ?_ _
                    go_wp2
                    go_ret
                    exact ⟨rfl, HX19.out.trans (by (repeat' (first | (with_reducible assumption) | (with_reducible exact Wb.Ext.refl _) | (with_reducible refine Wb.Ext.drew ?_) | (with_reducible refine Wb.Ext.drewN ?_ _) | (with_reducible refine Wb.Ext.alloc ?_ _) | (with_reducible refine Wb.Ext.trans ?_ (by assumption)))))⟩
            exact AllReadyH.nil
          exact AllReadyH.nil
        exact AllReadyH.nil
      exact AllReadyH.nil
    exact AllReadyH.nil

end Go.Proofs.YtokdmojbffnfgaaDoor
