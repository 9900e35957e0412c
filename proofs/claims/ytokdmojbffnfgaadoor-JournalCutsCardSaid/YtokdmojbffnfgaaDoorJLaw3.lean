/- Chapter 38: JournalTurns: the walk. -/
import Derived.Test.YtokdmojbffnfgaaDoorJrn16
import Derived.Deep.Cut
namespace Go.Proofs.YtokdmojbffnfgaaDoor
open Go.RowKit
set_option maxRecDepth 8000
attribute [local go_sem ↓] Go.wp_at_zero Go.wp_at_succ

theorem Row38.cut {w : World} {v : Value} {l : List (List UInt8)} {ao : Option Addr} {n c : Nat} (h : Row38 w (.slice ao l.length c) l) (hn : n ≤ l.length) : Strs1 w (.slice ao n c) (l.take n) := by
  rcases h with ⟨rfl, h2⟩ | ⟨b, c', h1, h2, h3⟩
  · have : n = 0 := by simpa using hn
    subst this
    exact .inl ⟨rfl, _, _, rfl⟩
  · cases h1
    refine .inr ⟨b, 0, c, by rw [List.length_take, Nat.min_eq_left hn], fun j s hj i u hu => ?_⟩
    have hjn : j < n := by have := (List.getElem?_eq_some_iff.1 hj).1; rw [List.length_take] at this; omega
    rw [List.getElem?_take_of_lt hjn] at hj
    match i, hu with
    | 0, hu => simp [strc] at hu; subst hu; rw [Nat.zero_add, Nat.mul_one, Nat.add_zero]; exact h3 j s hj
    | i + 1, hu => simp [strc] at hu

set_option maxHeartbeats 8000000 in
theorem turns_walk (v : Value) (l : List (List UInt8)) (a b : Nat) (w : World) (hv : Strs1 w v l) (hl : l.length ≤ 9223372036854775807) (hs : ∀ s ∈ l, s.length ≤ 9223372036854775807) (ha : a < 4294967296) (hb : b < 256) (ht : Tab10 w) (hm : MaxL w) :
    Calls Tryd.prog 6 #[v, .int .u32 (a : Int), .int .u8 (b : Int)] w fun e w' => e = .returned (.bool true) ∧ Wb.Ext w w' := by
  obtain ⟨va, vc, rfl⟩ := hv.shape
  have HV := Lib.hid hv
  have HT := Lib.hid ht
  have HMX := Lib.hid hm
  have HS := Lib.hid hs
  clear hv ht hs hm
  go_enter Tryd.func6, Tryd.ntmps6
  go_wp2_with fail
  go_fit (awake38_any _ HT.out); rintro e w1 ⟨rfl, hb1⟩
  go_wp2_with fail
  go_fit (few_any _ l _ (HV.out.ext hb1) hl HS.out); rintro e w' ⟨rfl, rfl⟩
  cases hf : fewB l
  case false =>
    go_wp2
    go_ret
    exact ⟨rfl, hb1⟩
  case true =>
    obtain ⟨hf1, hf2⟩ := fewB_ok hf
    have HF1 := Lib.hid hf1
    clear hf hf1 hl
    by_cases hb0 : b = 0
    · subst hb0
      go_wp2
      go_ret
      exact ⟨rfl, hb1⟩
    · have e0 : ((b : Int) == 0) = false := by simp; omega
      have e0' : (b == 0) = false := by simpa using hb0
      have HB0 := Lib.hid hb0
      clear hb0
      go_wp2_with fail
      go_fit (made_any _ l _ (HV.out.ext hb1) (by omega) (fun s hs => Nat.le_trans (HF1.out s hs) (by omega))); rintro e w2 ⟨x, u, m, rfl, hlog, hrow, hb2⟩
      obtain ⟨A, hA⟩ : ∃ A, madeL l = A := ⟨_, rfl⟩
      have HOK := Lib.hid (show Wb.okK 0 A by rw [← hA]; exact madeL_ok l)
      have HA5 := Lib.hid (show ∀ s ∈ A, s.length ≤ 5000 by rw [← hA]; exact fun s hs => HF1.out s (madeL_mem l s hs))
      have hAl : A.length ≤ 40 := by have := madeL_len l; rw [hA] at this; omega
      rw [hA] at hlog hrow
      obtain ⟨x', m', hee, hr, hmm⟩ := hlog
      obtain ⟨rfl, rfl⟩ : x = x' ∧ m = m' := by simp at hee; exact ⟨hee.1, by omega⟩
      obtain ⟨ao, c, rfl, _, _, _⟩ := hr.shape
      obtain ⟨ao2, c2, rfl, hc2, _, _⟩ := hrow.shape
      have HLOG : Hid (LogV w2 (.agg #[.slice ao A.length c, .int .u64 (m : Int)]) A) := ⟨_, _, rfl, hr, hmm⟩
      have HROW := Lib.hid hrow
      have HX2 := Lib.hid (hb1.trans hb2)
      obtain ⟨T, hT⟩ : ∃ T, Wb.textL A = T := ⟨_, rfl⟩
      have hTl : T.length ≤ 1000000 := by rw [← hT]; exact Wb.textL_len HA5.out (by omega)
      have HTT := Lib.hid hT
      clear hA hee hr hmm hrow hT hb1 hb2
      go_wp2_with fail
      go_fit (text_any _ A _ (HLOG.out.ext (by (repeat' (first | (with_reducible assumption) | (with_reducible exact Wb.Ext.refl _) | (with_reducible refine Wb.Ext.drew ?_) | (with_reducible refine Wb.Ext.drewN ?_ _) | (with_reducible refine Wb.Ext.alloc ?_ _) | (with_reducible refine Wb.ext_set ?_ (by first | assumption | (simp; done) | (simp; omega) | omega) _) | (with_reducible refine Wb.Ext.trans ?_ (by assumption)))))) (by omega) (fun s hs => Nat.le_trans (HA5.out s hs) (by omega)) (by rw [HTT.out]; omega) (HT.out.ext (HX2.out.trans (by (repeat' (first | (with_reducible assumption) | (with_reducible exact Wb.Ext.refl _) | (with_reducible refine Wb.Ext.drew ?_) | (with_reducible refine Wb.Ext.drewN ?_ _) | (with_reducible refine Wb.Ext.alloc ?_ _) | (with_reducible refine Wb.ext_set ?_ (by first | assumption | (simp; done) | (simp; omega) | omega) _) | (with_reducible refine Wb.Ext.trans ?_ (by assumption)))))))); rintro e w4 ⟨rfl, hb4⟩
      rw [HTT.out]
      have hx24 : Wb.Ext w2 w4 := by (repeat' (first | (with_reducible assumption) | (with_reducible exact Wb.Ext.refl _) | (with_reducible refine Wb.Ext.drew ?_) | (with_reducible refine Wb.Ext.drewN ?_ _) | (with_reducible refine Wb.Ext.alloc ?_ _) | (with_reducible refine Wb.ext_set ?_ (by first | assumption | (simp; done) | (simp; omega) | omega) _) | (with_reducible refine Wb.Ext.trans ?_ (by assumption))))
      clear hb4
      by_cases hT0 : T = []
      · subst hT0
        have hx := HX2.out.trans hx24
        go_wp2
        go_ret
        exact ⟨rfl, hx⟩
      · have hTp : 0 < T.length := List.length_pos_iff.2 hT0
        have t0 : (T == []) = false := by simpa using hT0
        have t1 : T.isEmpty = false := by simpa using hT0
        obtain ⟨i, hi⟩ : ∃ i, a % T.length = i := ⟨_, rfl⟩
        have hil : i < T.length := by rw [← hi]; exact Nat.mod_lt _ hTp
        have hai : (a : Int) % (T.length : Int) = (i : Int) := by rw [← hi]; rfl
        have hii : (i : Int) < T.length := by omega
        obtain ⟨u0, c0, v0, hs0, hu0, htk, hc0⟩ := split_at hil
        have HS0 := Lib.hid hs0
        have HU0 := Lib.hid hu0
        have HC0 := Lib.hid hc0
        have HTR := Lib.hid (Wb.IsRead.turn HOK.out (HTT.out.trans hs0) (turnB_ne c0 b hb HB0.out))
        have HX4 := Lib.hid (HX2.out.trans hx24)
        have HROW4 := Lib.hid (HROW.out.ext hx24)
        have hb64 : IntKind.i64.wrap (a : Int) = (a : Int) := IntWalk.i64_in _ (by omega)
        clear hT0 hi hs0 hu0 hc0 hx24
        go_upto_region 10 with (fail)
        refine Wb.wp_at fun w5 hw5 => ?_
        have hx45 : Wb.Ext w4 w5 := by rw [hw5]; (repeat' (first | (with_reducible assumption) | (with_reducible exact Wb.Ext.refl _) | (with_reducible refine Wb.Ext.drew ?_) | (with_reducible refine Wb.Ext.drewN ?_ _) | (with_reducible refine Wb.Ext.alloc ?_ _) | (with_reducible refine Wb.ext_set ?_ (by first | assumption | (simp; done) | (simp; omega) | omega) _) | (with_reducible refine Wb.Ext.trans ?_ (by assumption))))
        clear hw5
        obtain ⟨w6, cap, hcv, hx56, hz6, hcell, hfz⟩ := conv_bytes2 w5 T
        have HCELL := Lib.hid hcell
        have HFZ := Lib.hid hfz
        have hci := hcell i hil
        rw [← HC0.out] at hci
        have hfi := hfz i hil
        have hxv := turnB_val c0 b hb
        clear hcell hfz
        go_upto_region 12 with (fail)
        refine Wb.wp_at fun w7 hw7 => ?_
        obtain ⟨T2, hT2⟩ : ∃ T2, u0 ++ turnB c0 b :: v0 = T2 := ⟨_, rfl⟩
        have hT2l : T2.length = T.length := by rw [← hT2, HS0.out]; simp
        have hback : (convert 47 9 (.slice (some ⟨w5.heap.size, 0, none⟩) T.length cap)).run Tryd.prog w7 = .ok (.string (Wb.S T2)) w7 := by
          have h1 := conv_back w7 w5.heap.size cap T2 (fun j hj => by
            rw [hw7, ← hT2]
            refine bytes_set (c := c0) (n := T.length) HU0.out (fun j hj => ?_) hil j (by omega)
            rw [← HS0.out]; exact HCELL.out j hj)
          rw [hT2l] at h1; exact h1
        have hx57 : Wb.Ext w5 w7 := by rw [hw7]; exact Wb.ext_set hx56 (Nat.le_refl _) _
        have HX7 := Lib.hid ((HX4.out.trans hx45).trans hx57)
        have HROW7 := Lib.hid ((HROW4.out.ext hx45).ext hx57)
        have HT2 := Lib.hid hT2
        have hT2m : T2.length ≤ 1000000 := by omega
        have hT2g : i < T2.length := by omega
        clear hw7 hx45 hx56 hx57 hcv hT2 hT2l hci hfi hxv hz6
        go_wp2_with fail
        go_fit (read_any T2 _ (by omega) (HT.out.ext (HX7.out.trans (by (repeat' (first | (with_reducible assumption) | (with_reducible exact Wb.Ext.refl _) | (with_reducible refine Wb.Ext.drew ?_) | (with_reducible refine Wb.Ext.drewN ?_ _) | (with_reducible refine Wb.Ext.alloc ?_ _) | (with_reducible refine Wb.ext_set ?_ (by first | assumption | (simp; done) | (simp; omega) | omega) _) | (with_reducible refine Wb.Ext.trans ?_ (by assumption))))))) (HMX.out.ext (HX7.out.trans (by (repeat' (first | (with_reducible assumption) | (with_reducible exact Wb.Ext.refl _) | (with_reducible refine Wb.Ext.drew ?_) | (with_reducible refine Wb.Ext.drewN ?_ _) | (with_reducible refine Wb.Ext.alloc ?_ _) | (with_reducible refine Wb.ext_set ?_ (by first | assumption | (simp; done) | (simp; omega) | omega) _) | (with_reducible refine Wb.Ext.trans ?_ (by assumption)))))))); rintro e w8 ⟨u3, B, i3, z, rfl, hi3, hlog3, hread3, hz3, hb8⟩
        have hX8 : Wb.Ext w7 w8 := by (repeat' (first | (with_reducible assumption) | (with_reducible exact Wb.Ext.refl _) | (with_reducible refine Wb.Ext.drew ?_) | (with_reducible refine Wb.Ext.drewN ?_ _) | (with_reducible refine Wb.Ext.alloc ?_ _) | (with_reducible refine Wb.ext_set ?_ (by first | assumption | (simp; done) | (simp; omega) | omega) _) | (with_reducible refine Wb.Ext.trans ?_ (by assumption))))
        obtain ⟨n, hn⟩ : ∃ n, u0.count 10 = n := ⟨_, rfl⟩
        have hBt : A.take n = B := by
          have h1 := HTR.out.1
          rw [hn, HT2.out] at h1
          exact h1.uniq hread3
        have hnl : n ≤ A.length := by have := HTR.out.2.2; rw [hn] at this; exact this
        have hBl : B.length = n := by rw [← hBt, List.length_take, Nat.min_eq_left hnl]
        have hi3u : i3 ≤ i := by
          have h1 := HTR.out.2.1
          rw [hn, hBt, ← hi3, HU0.out] at h1; exact h1
        obtain rfl : z = 20 := by rcases hz3 with ⟨_, h⟩ | ⟨h, _⟩ <;> omega
        obtain ⟨x3, m3, rfl, hr3, hm3⟩ := hlog3
        obtain ⟨ao3, c3, rfl, _, _, _⟩ := hr3.shape
        subst hBl
        have HBT := Lib.hid hBt
        have HR8 := Lib.hid hr3
        have HN := Lib.hid hn
        have HX8 := Lib.hid (HX7.out.trans hX8)
        have HROW8 := Lib.hid (HROW7.out.ext hX8)
        have hBn := Lib.hid hnl
        clear hi3 hread3 hz3 hr3 hm3 hBt hn hb8 hX8 hback
        go_wp2_with fail
        go_fit (count_any u0 _); rintro e w' ⟨rfl, rfl⟩
        rw [HN.out]
        go_upto_region 14 with (fail)
        refine Wb.wp_at fun w9 hw9 => ?_
        have hx89 : Wb.Ext w8 w9 := by rw [hw9]; (repeat' (first | (with_reducible assumption) | (with_reducible exact Wb.Ext.refl _) | (with_reducible refine Wb.Ext.drew ?_) | (with_reducible refine Wb.Ext.drewN ?_ _) | (with_reducible refine Wb.Ext.alloc ?_ _) | (with_reducible refine Wb.ext_set ?_ (by first | assumption | (simp; done) | (simp; omega) | omega) _) | (with_reducible refine Wb.Ext.trans ?_ (by assumption))))
        have q0 : w9.cell? ⟨w8.heap.size, 0, none⟩ = some (.slice ao3 B.length c3) := by rw [hw9]; simp [go_sem]
        have q1 : w9.cell? ⟨w8.heap.size, 1, none⟩ = some (.int .u64 (m3 : Int)) := by rw [hw9]; simp [go_sem]
        have HR3 := Lib.hid (HR8.out.ext hx89)
        have HX9 := Lib.hid (HX8.out.trans hx89)
        have HSL := Lib.hid (show Strs1 w9 (.slice ao2 B.length c2) B by
          have := ((HROW8.out.ext hx89)).cut (v := .bool false) hBn.out
          rw [HBT.out] at this; exact this)
        have hi3i : decide ((i3 : Int) ≤ (i : Int)) = true := by simp; omega
        have hbc : (B.length : Int) ≤ (c2 : Int) := by omega
        have hba : (B.length : Int) ≤ (A.length : Int) := by omega
        clear hw9 hx89
        refine wp_region_held_drew (S := (fun w' => w'.cell? ⟨w8.heap.size, 0, none⟩ = some (.slice ao3 B.length c3) ∧ w'.cell? ⟨w8.heap.size, 1, none⟩ = some (.int .u64 (m3 : Int)))) (by kernel_rfl) ⟨q0, q1⟩ (fun hHeld => ?_)
        refine take_d (i := 0) (d := 59) (v := ?_) rfl rfl (by kernel_rfl) (by kernel_rfl) (by kernel_rfl) (fun _ _ _ h => h) (Or.inl ⟨by rfl, ?_⟩) (by assumption) ?_
        rotate_left
        · (intro w hSw; (try dsimp only at hSw); go_simp; (try with_reducible rfl))
        (try simp only [Act.put, List.setIfInBounds_toArray, List.set_cons_zero, List.set_cons_succ])
        refine take_d (i := 1) (d := 60) (v := ?_) rfl rfl (by kernel_rfl) (by kernel_rfl) (by kernel_rfl) (fun _ _ _ h => h) (Or.inl ⟨by rfl, ?_⟩) (by assumption) ?_
        rotate_left
        · (intro w hSw; (try dsimp only at hSw); go_simp; (try with_reducible rfl))
        (try simp only [Act.put, List.setIfInBounds_toArray, List.set_cons_zero, List.set_cons_succ])
        refine take_d (i := 2) (d := 61) (v := ?_) rfl rfl (by kernel_rfl) (by kernel_rfl) (by kernel_rfl) (fun _ _ _ h => h) (Or.inl ⟨by rfl, ?_⟩) (by assumption) ?_
        rotate_left
        · (intro w hSw; (try dsimp only at hSw); go_simp; (try with_reducible rfl))
        (try simp only [Act.put, List.setIfInBounds_toArray, List.set_cons_zero, List.set_cons_succ])
        refine take_d (i := 3) (d := 62) (v := ?_) rfl rfl (by kernel_rfl) (by kernel_rfl) (by kernel_rfl) (fun _ _ _ h => h) (Or.inl ⟨by rfl, ?_⟩) (by assumption) ?_
        rotate_left
        · (intro w hSw; (try dsimp only at hSw); go_simp; (try with_reducible rfl))
        (try simp only [Act.put, List.setIfInBounds_toArray, List.set_cons_zero, List.set_cons_succ])
        refine take_d (i := 4) (d := 63) (v := ?_) rfl rfl (by kernel_rfl) (by kernel_rfl) (by kernel_rfl) (fun _ _ _ h => h) (Or.inl ⟨by rfl, ?_⟩) (by assumption) ?_
        rotate_left
        · (intro w hSw; (try dsimp only at hSw); go_simp; (try with_reducible rfl))
        (try simp only [Act.put, List.setIfInBounds_toArray, List.set_cons_zero, List.set_cons_succ])
        refine take_d (i := 5) (d := 64) (v := ?_) rfl rfl (by kernel_rfl) (by kernel_rfl) (by kernel_rfl) (fun _ _ _ h => h) (Or.inl ⟨by rfl, ?_⟩) (by assumption) ?_
        rotate_left
        · (intro w hSw; (try dsimp only at hSw); go_simp; (try with_reducible rfl))
        (try simp only [Act.put, List.setIfInBounds_toArray, List.set_cons_zero, List.set_cons_succ])
        refine take_d (i := 6) (d := 65) (v := ?_) rfl rfl (by kernel_rfl) (by kernel_rfl) (by kernel_rfl) (fun _ _ _ h => h) (Or.inl ⟨by rfl, ?_⟩) (by assumption) ?_
        rotate_left
        · (intro w hSw; (try dsimp only at hSw); go_simp; (try with_reducible rfl))
        (try simp only [Act.put, List.setIfInBounds_toArray, List.set_cons_zero, List.set_cons_succ])
        refine take_d (i := 7) (d := 66) (v := ?_) rfl rfl (by kernel_rfl) (by kernel_rfl) (by kernel_rfl) (fun _ _ _ h => h) (Or.inl ⟨by rfl, ?_⟩) (by assumption) ?_
        rotate_left
        · (intro w hSw; (try dsimp only at hSw); go_simp; (try with_reducible rfl))
        (try simp only [Act.put, List.setIfInBounds_toArray, List.set_cons_zero, List.set_cons_succ])
        refine take_d (i := 8) (d := 67) (v := ?_) rfl rfl (by kernel_rfl) (by kernel_rfl) (by kernel_rfl) (fun _ _ _ h => h) (Or.inl ⟨by rfl, ?_⟩) (by assumption) ?_
        rotate_left
        · (intro w hSw; (try dsimp only at hSw); go_simp; (try with_reducible rfl))
        (try simp only [Act.put, List.setIfInBounds_toArray, List.set_cons_zero, List.set_cons_succ])
        refine take_d (i := 10) (d := 69) (v := ?_) rfl rfl (by kernel_rfl) (by kernel_rfl) (by kernel_rfl) (fun _ _ _ h => h) (Or.inl ⟨by rfl, ?_⟩) (by assumption) ?_
        rotate_left
        · (intro w hSw; (try dsimp only at hSw); go_simp; (try with_reducible rfl))
        (try simp only [Act.put, List.setIfInBounds_toArray, List.set_cons_zero, List.set_cons_succ])
        refine wpAnyH_ready (rs := [9]) (by kernel_rfl) (by simp) ?_
        refine AllReadyH.cons (o := _) rfl (fun K hK => ?_) ?_
        · go_simp
          go_at_call 15
          go_fit (llen_s ao3 B.length c3 m3 _)
          rintro e wL ⟨rfl, hbL⟩
          refine hK.out _ _ ⟨Wb.Ext.keep (w := w9) (by (repeat' (first | (with_reducible assumption) | (with_reducible exact Wb.Ext.refl _) | (with_reducible refine Wb.Ext.drew ?_) | (with_reducible refine Wb.Ext.drewN ?_ _) | (with_reducible refine Wb.Ext.alloc ?_ _) | (with_reducible refine Wb.Ext.trans ?_ (by assumption))))) q0, Wb.Ext.keep (w := w9) (by (repeat' (first | (with_reducible assumption) | (with_reducible exact Wb.Ext.refl _) | (with_reducible refine Wb.Ext.drew ?_) | (with_reducible refine Wb.Ext.drewN ?_ _) | (with_reducible refine Wb.Ext.alloc ?_ _) | (with_reducible refine Wb.Ext.trans ?_ (by assumption))))) q1⟩ (fun hHeld => ?_)
          clear hK K
          (try simp only [Act.put, List.setIfInBounds_toArray, List.set_cons_zero, List.set_cons_succ])
          refine take_d (i := 11) (d := 70) (v := ?_) rfl rfl (by kernel_rfl) (by kernel_rfl) (by kernel_rfl) (fun _ _ _ h => h) (Or.inl ⟨by rfl, ?_⟩) (by assumption) ?_
          rotate_left
          · (intro w hSw; (try dsimp only at hSw); go_simp; (try with_reducible rfl))
          (try simp only [Act.put, List.setIfInBounds_toArray, List.set_cons_zero, List.set_cons_succ])
          refine take_d (i := 12) (d := 71) (v := ?_) rfl rfl (by kernel_rfl) (by kernel_rfl) (by kernel_rfl) (fun _ _ _ h => h) (Or.inl ⟨by rfl, ?_⟩) (by assumption) ?_
          rotate_left
          · (intro w hSw; (try dsimp only at hSw); go_simp; (try with_reducible rfl))
          (try simp only [Act.put, List.setIfInBounds_toArray, List.set_cons_zero, List.set_cons_succ])
          refine take_d (i := 13) (d := 72) (v := ?_) rfl rfl (by kernel_rfl) (by kernel_rfl) (by kernel_rfl) (fun _ _ _ h => h) (Or.inl ⟨by rfl, ?_⟩) (by assumption) ?_
          rotate_left
          · (intro w hSw; (try dsimp only at hSw); go_simp; (try with_reducible rfl))
          (try simp only [Act.put, List.setIfInBounds_toArray, List.set_cons_zero, List.set_cons_succ])
          refine take_d (i := 14) (d := 73) (v := ?_) rfl rfl (by kernel_rfl) (by kernel_rfl) (by kernel_rfl) (fun _ _ _ h => h) (Or.inl ⟨by rfl, ?_⟩) (by assumption) ?_
          rotate_left
          · (intro w hSw; (try dsimp only at hSw); go_simp; (try with_reducible rfl))
          (try simp only [Act.put, List.setIfInBounds_toArray, List.set_cons_zero, List.set_cons_succ])
          refine take_d (i := 16) (d := 75) (v := ?_) rfl rfl (by kernel_rfl) (by kernel_rfl) (by kernel_rfl) (fun _ _ _ h => h) (Or.inl ⟨by rfl, ?_⟩) (by assumption) ?_
          rotate_left
          · (intro w hSw; (try dsimp only at hSw); go_simp; (try with_reducible rfl))
          (try simp only [Act.put, List.setIfInBounds_toArray, List.set_cons_zero, List.set_cons_succ])
          refine take_d (i := 17) (d := 76) (v := ?_) rfl rfl (by kernel_rfl) (by kernel_rfl) (by kernel_rfl) (fun _ _ _ h => h) (Or.inl ⟨by rfl, ?_⟩) (by assumption) ?_
          rotate_left
          · (intro w hSw; (try dsimp only at hSw); go_simp; (try with_reducible rfl))
          (try simp only [Act.put, List.setIfInBounds_toArray, List.set_cons_zero, List.set_cons_succ])
          refine wpAnyH_ready (rs := [15]) (by kernel_rfl) (by simp) ?_
          refine AllReadyH.cons (o := _) rfl (fun K hK => ?_) ?_
          · go_simp
            go_at_call 17
            go_fit (acts_any (.slice ao3 B.length c3) B m3 _ (HR3.out.ext (by (repeat' (first | (with_reducible assumption) | (with_reducible exact Wb.Ext.refl _) | (with_reducible refine Wb.Ext.drew ?_) | (with_reducible refine Wb.Ext.drewN ?_ _) | (with_reducible refine Wb.Ext.alloc ?_ _) | (with_reducible refine Wb.Ext.trans ?_ (by assumption)))))).strs (by omega))
            rintro e wA ⟨uA, rfl, huA, hbA⟩
            refine hK.out _ _ ⟨Wb.Ext.keep (w := w9) (by (repeat' (first | (with_reducible assumption) | (with_reducible exact Wb.Ext.refl _) | (with_reducible refine Wb.Ext.drew ?_) | (with_reducible refine Wb.Ext.drewN ?_ _) | (with_reducible refine Wb.Ext.alloc ?_ _) | (with_reducible refine Wb.Ext.trans ?_ (by assumption))))) q0, Wb.Ext.keep (w := w9) (by (repeat' (first | (with_reducible assumption) | (with_reducible exact Wb.Ext.refl _) | (with_reducible refine Wb.Ext.drew ?_) | (with_reducible refine Wb.Ext.drewN ?_ _) | (with_reducible refine Wb.Ext.alloc ?_ _) | (with_reducible refine Wb.Ext.trans ?_ (by assumption))))) q1⟩ (fun hHeld => ?_)
            clear hK K
            (try simp only [Act.put, List.setIfInBounds_toArray, List.set_cons_zero, List.set_cons_succ])
            refine wpAnyH_ready (rs := [18]) (by kernel_rfl) (by simp) ?_
            refine AllReadyH.cons (o := _) rfl (fun K hK => ?_) ?_
            · go_simp
              go_at_call 15
              go_fit (llen_s ao3 B.length c3 m3 _)
              rintro e wM ⟨rfl, hbM⟩
              refine hK.out _ _ ⟨Wb.Ext.keep (w := w9) (by (repeat' (first | (with_reducible assumption) | (with_reducible exact Wb.Ext.refl _) | (with_reducible refine Wb.Ext.drew ?_) | (with_reducible refine Wb.Ext.drewN ?_ _) | (with_reducible refine Wb.Ext.alloc ?_ _) | (with_reducible refine Wb.Ext.trans ?_ (by assumption))))) q0, Wb.Ext.keep (w := w9) (by (repeat' (first | (with_reducible assumption) | (with_reducible exact Wb.Ext.refl _) | (with_reducible refine Wb.Ext.drew ?_) | (with_reducible refine Wb.Ext.drewN ?_ _) | (with_reducible refine Wb.Ext.alloc ?_ _) | (with_reducible refine Wb.Ext.trans ?_ (by assumption))))) q1⟩ (fun hHeld => ?_)
              clear hK K
              (try simp only [Act.put, List.setIfInBounds_toArray, List.set_cons_zero, List.set_cons_succ])
              refine take_d (i := 19) (d := 78) (v := ?_) rfl rfl (by kernel_rfl) (by kernel_rfl) (by kernel_rfl) (fun _ _ _ h => h) (Or.inl ⟨by rfl, ?_⟩) (by assumption) ?_
              rotate_left
              · (intro w hSw; (try dsimp only at hSw); go_simp; (try with_reducible rfl))
              (try simp only [Act.put, List.setIfInBounds_toArray, List.set_cons_zero, List.set_cons_succ])
              refine wpAnyH_ready (rs := [20]) (by kernel_rfl) (by simp) ?_
              refine AllReadyH.cons (o := _) rfl (fun K hK => ?_) ?_
              · go_simp
                go_at_call 16
                go_fit (same38_any uA _ B _ (huA.ext (by (repeat' (first | (with_reducible assumption) | (with_reducible exact Wb.Ext.refl _) | (with_reducible refine Wb.Ext.drew ?_) | (with_reducible refine Wb.Ext.drewN ?_ _) | (with_reducible refine Wb.Ext.alloc ?_ _) | (with_reducible refine Wb.Ext.trans ?_ (by assumption)))))) (HSL.out.ext (by (repeat' (first | (with_reducible assumption) | (with_reducible exact Wb.Ext.refl _) | (with_reducible refine Wb.Ext.drew ?_) | (with_reducible refine Wb.Ext.drewN ?_ _) | (with_reducible refine Wb.Ext.alloc ?_ _) | (with_reducible refine Wb.Ext.trans ?_ (by assumption)))))) (by omega))
                rintro e wS ⟨rfl, hbS⟩
                clear huA
                refine hK.out _ _ ⟨Wb.Ext.keep (w := w9) (by (repeat' (first | (with_reducible assumption) | (with_reducible exact Wb.Ext.refl _) | (with_reducible refine Wb.Ext.drew ?_) | (with_reducible refine Wb.Ext.drewN ?_ _) | (with_reducible refine Wb.Ext.alloc ?_ _) | (with_reducible refine Wb.Ext.trans ?_ (by assumption))))) q0, Wb.Ext.keep (w := w9) (by (repeat' (first | (with_reducible assumption) | (with_reducible exact Wb.Ext.refl _) | (with_reducible refine Wb.Ext.drew ?_) | (with_reducible refine Wb.Ext.drewN ?_ _) | (with_reducible refine Wb.Ext.alloc ?_ _) | (with_reducible refine Wb.Ext.trans ?_ (by assumption))))) q1⟩ (fun hHeld => ?_)
                clear hK K
                (try simp only [Act.put, List.setIfInBounds_toArray, List.set_cons_zero, List.set_cons_succ])
                refine take_d (i := 21) (d := 80) (v := ?_) rfl rfl (by kernel_rfl) (by kernel_rfl) (by kernel_rfl) (fun _ _ _ h => h) (Or.inl ⟨by rfl, ?_⟩) (by assumption) ?_
                rotate_left
                · (intro w hSw; (try dsimp only at hSw); go_simp; (try with_reducible rfl))
                (try simp only [Act.put, List.setIfInBounds_toArray, List.set_cons_zero, List.set_cons_succ])
                refine take_d (i := 22) (d := 6) (v := ?_) rfl rfl (by kernel_rfl) (by kernel_rfl) (by kernel_rfl) (fun _ _ _ h => h) (Or.inl ⟨by rfl, ?_⟩) (by assumption) ?_
                rotate_left
                · (intro w hSw; (try dsimp only at hSw); go_simp; (try with_reducible rfl))
                (try simp only [Act.put, List.setIfInBounds_toArray, List.set_cons_zero, List.set_cons_succ])
                refine wpAnyH_done (by kernel_rfl) ?_ _
                go_wp2
                go_ret
                exact ⟨rfl, HX9.out.trans (by (repeat' (first | (with_reducible assumption) | (with_reducible exact Wb.Ext.refl _) | (with_reducible refine Wb.Ext.drew ?_) | (with_reducible refine Wb.Ext.drewN ?_ _) | (with_reducible refine Wb.Ext.alloc ?_ _) | (with_reducible refine Wb.Ext.trans ?_ (by assumption)))))⟩
              exact AllReadyH.nil
            exact AllReadyH.nil
          exact AllReadyH.nil
        exact AllReadyH.nil

end Go.Proofs.YtokdmojbffnfgaaDoor
