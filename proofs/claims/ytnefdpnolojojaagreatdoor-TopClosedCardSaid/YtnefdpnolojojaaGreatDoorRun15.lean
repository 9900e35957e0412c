/- Run15 -/
import Derived.Test.YtnefdpnolojojaaGreatDoorMRc
namespace Go.Proofs.YtnefdpnolojojaaGreatDoor
open Go.RowKit Go.Sort Go.Lib Go.Maps
set_option maxRecDepth 8000
attribute [local go_sem ↓] Go.wp_at_zero Go.wp_at_succ
set_option maxHeartbeats 16000000 in
theorem do31_any (F0 : Nat → Prop) (rv : Value) (mp mo ms : Option Nat) (n : Nat) (f : Int → Option Value) (S : Int → List Wb.Ct) (B : Wb.Bk) (ks hs : List Int) (N : Nat) (y i k : Int) (w : World)
    (hb : BkF F0 w rv mp mo B ks N) (hB : Wb.BkOk B) (hro : RunsOk B.runs) (hrl : B.runs.length < 4000) (hfew : ∀ p, (B.paid p).length ≤ 4096) (hN : N ≤ 50000) (hkl : ks.length ≤ 10000)
    (hS : SMapF F0 w ms n f S) (hn : n ≤ 256) (hhl : hs.length ≤ 256) (hh : KeysAre kU32 f hs) (hr : hs.Pairwise (· ≤ ·)) (hsf : ∀ p, (S p).length ≤ 4096) :
    Calls Tryz.prog 5 #[BkV rv mp mo, .int .i64 y, .int .i64 i, .int .i64 k, .map ms] w (DoPost F0 B y i k S hs ks N w) := by
  obtain ⟨ra, rc, rfl⟩ := hb.now.shape
  obtain ⟨RL, hRL⟩ : ∃ RL, B.runs.length = RL := ⟨_, rfl⟩
  have HRL := Lib.hid hRL
  rw [hRL] at hb hrl ⊢
  have HBKF := Lib.hid hb
  have HBK := Lib.hid hb.now
  have HBO := Lib.hid hB
  have HRO := Lib.hid hro
  have HFEW := Lib.hid hfew
  have HSMF := Lib.hid hS
  have HSM := Lib.hid hS.now
  have HKH := Lib.hid hh
  have HRI := Lib.hid hr
  have HSF := Lib.hid hsf
  obtain ⟨ps0, hps0⟩ := who_any hb.now hS.now hh
  have HW0 := Lib.hid hps0
  obtain ⟨LR, hlr1, hlr2⟩ := hb.runs
  have HLRF := Lib.hid hlr1
  have HLR := Lib.hid (hlr1 w .refl)
  have HLRC := Lib.hid hlr2
  have hll : LR.length = RL := by rw [← hRL, ← hlr2, List.length_map]
  have HLL := Lib.hid hll
  clear hb hB hro hfew hS hh hr hsf hps0 hlr1 hlr2 hll hRL
  unfold BkV
  go_enter Tryz.func5, Tryz.ntmps5
  go_wp2_with fail
  go_step3
  refine Wb.wp_at fun W1 hW1 => ?_
  obtain ⟨A, hA⟩ : ∃ A, w.heap.size = A := ⟨_, rfl⟩
  have HD := Lib.hid (show DoAt w W1 A ra RL rc mp mo from
    ⟨by rw [hW1, ← hA]; simp [go_sem], by rw [hW1, ← hA]; simp [go_sem], by rw [hW1, ← hA]; simp [go_sem], by rw [hW1, ← hA]; simp [go_sem], by rw [hW1, ← hA]; simp [go_sem], by rw [hW1, ← hA]; simp [go_sem],
     by rw [hW1, ← hA]; simp [go_sem], by rw [hW1, ← hA]; simp [go_sem], by rw [hW1, ← hA]; simp [go_sem], by rw [hW1, ← hA]; simp [go_sem], by rw [hW1, ← hA]; simp [go_sem],
     fun j => by rw [hW1, ← hA]; simp [go_sem], fun j => by rw [hW1, ← hA]; simp [go_sem], hA, by rw [hW1, ← hA]; simp, by rw [hW1]; (repeat' (first | (with_reducible assumption) | (with_reducible exact Wb.Ext.refl _) | (with_reducible refine Wb.Ext.drew ?_) | (with_reducible refine Wb.Ext.drewN ?_ _) | (with_reducible refine Wb.Ext.alloc ?_ _) | (with_reducible refine Wb.ext_set ?_ (by first | assumption | (simp; done) | (simp; omega) | omega) _) | (with_reducible refine Wb.Ext.trans ?_ (by assumption))))⟩)
  rw [hA]
  clear hW1 hA
  have b0 := HD.out.b0
  have b1 := HD.out.b1
  have b2 := HD.out.b2
  go_wp2_with fail
  go_fit (head31_any _ mp mo LR y i k _ (HLR.out.ext HD.out.ext) (by rw [HLRC.out]; exact HRO.out)); rintro e w2 ⟨rfl, hx2⟩
  rw [HLRC.out]
  have HD2 := Lib.hid (HD.out.later hx2)
  obtain ⟨E, hE⟩ : ∃ E, Wb.headE B.runs y i k = E := ⟨_, rfl⟩
  have HE := Lib.hid hE
  rw [hE]
  clear hE HD hx2 b0 b1 b2
  have b0 := HD2.out.b0
  have b1 := HD2.out.b1
  have b2 := HD2.out.b2
  by_cases he : E = 0
  case neg =>
    have dd : (E == 0) = false := by simpa using he
    have dd2 : (E != 0) = true := by simpa using he
    have HP := Lib.hid (show ∀ w', Wb.Ext w w' → DoPost F0 B y i k S hs ks N w (.returned (.tuple #[BkV (.slice ra RL rc) mp mo, RnV 0 0 0 0 (.slice none 0 0), .int .i64 E])) w' from fun w' hx =>
      do_err HBKF.out HW0.out (do_head HE.out he) hx)
    have o0 := HD2.out.o0
    have o1 := HD2.out.o1
    have o2 := HD2.out.o2
    have q0 := HD2.out.q0
    have q1 := HD2.out.q1
    have q2 := HD2.out.q2
    have q3 := HD2.out.q3
    have q4 := HD2.out.q4
    have fo := HD2.out.fo
    have fq := HD2.out.fq
    have hx := HD2.out.ext
    have hlo := HD2.out.lo
    have hlo2 : w.heap.size ≤ A := by omega
    clear he
    go_wp2
    rw [Exit.noGoto_ret]
    refine bodyPost_ret (v := .tuple #[BkV (.slice ra RL rc) mp mo, RnV 0 0 0 0 (.slice none 0 0), .int .i64 E]) (by simp [results, Tryz.results5, go_sem, BkV, RnV, o0, o1, o2, q0, q1, q2, q3, q4]) rfl (HP.out _ (by (repeat' (first | (with_reducible assumption) | (with_reducible exact Wb.Ext.refl _) | (with_reducible refine Wb.Ext.drew ?_) | (with_reducible refine Wb.Ext.drewN ?_ _) | (with_reducible refine Wb.Ext.alloc ?_ _) | (with_reducible refine Wb.ext_set ?_ (by first | assumption | (simp; done) | (simp; omega) | omega) _) | (with_reducible refine Wb.Ext.trans ?_ (by assumption))))))
  subst he
  obtain ⟨cn, hcn, hlen⟩ := (HSM.out.map.ext HD2.out.ext).fin
  have hlen := hlen Tryz.underlying24
  have d1 : decide ((256 : Int) < (cn : Int)) = false := by simp; omega
  have d2 : decide ((4096 : Int) ≤ (RL : Int)) = false := by simp; omega
  have HKS := Lib.hid (show KMapO kU32 w2 ms (n + hs.length) (.slice none 0 0) f from (HSM.out.map.ext HD2.out.ext).mono (by omega))
  have eg : ∀ args w, (callFunc 44 args).run Tryz.prog w = .ok (.enter 44 args) w := enters_of Tryz.func44 (by kernel_rfl) rfl
  have HEG := Lib.hid eg
  clear hcn eg
  go_wp2_with fail
  go_fit (keysS_any ms _); rintro e w3 ⟨rfl, hw3⟩
  obtain ⟨Y, hY⟩ : ∃ Y, w2.heap.size = Y := ⟨_, rfl⟩
  have hb3 : Wb.Ext w2 w3 := by rw [hw3]; (repeat' (first | (with_reducible assumption) | (with_reducible exact Wb.Ext.refl _) | (with_reducible refine Wb.Ext.drew ?_) | (with_reducible refine Wb.Ext.drewN ?_ _) | (with_reducible refine Wb.Ext.alloc ?_ _) | (with_reducible refine Wb.Ext.trans ?_ (by assumption))))
  have hYc : w3.cell? ⟨Y, 0, none⟩ = some (.map ms) := by rw [hw3, ← hY]; simp [go_sem]
  have hYs : Y < w3.heap.size := by rw [hw3, ← hY]; simp
  have HD3 := Lib.hid (HD2.out.later hb3)
  have HQ := Lib.hid (fun m => keysS_gives m Y w3 hYs hYc (HKS.out.ext hb3))
  rw [hY]
  clear hw3 hY hYc hlen b0 b1 b2 hb3
  go_wp2_with fail
  go_fit (sortedU_any 44 #[.pointer (some ⟨Y, 0, none⟩)] HEG.out (KeysAre kU32 f) (fun a b hp hs => ⟨hp.nodup_iff.2 hs.1, fun p => by rw [hp.mem_iff, hs.2]⟩) (n + hs.length) (by omega) (fun s hs9 => Nat.le_trans (nodup_le hs9.1 (fun x hx => (HKH.out.2 x).2 ((hs9.2 x).1 hx))) (Nat.le_add_left _ _)) _ HQ.out); rintro e w4 ⟨v, ss, rfl, hS, hp, hrow, hx⟩
  obtain rfl : ss = hs := keys_hs HKH.out HRI.out hS hp
  rw [rows_u32] at hrow
  have HROW := Lib.hid (row_tbl u32c_len (by decide) hrow)
  have HD4 := Lib.hid (HD3.out.later hx)
  obtain ⟨ta, tc, rfl⟩ := HROW.out.shape
  clear hS hp hrow hx HD3 HD2 HQ HKS hYs
  go_wp2_with fail
  go_loopw [54] (fun iv wr => ∃ j : Nat, j ≤ ss.length ∧ iv = .int .i64 j ∧ Hid (Wb.handsE (y, i) S ss = Wb.handsE (y, i) S (ss.drop j)) ∧ Hid (Tbl 1 u32c wr (.slice ta ss.length tc) ss) ∧ Hid (DoAt w wr A ra RL rc mp mo)) (fun iv _ => ss.length - (intOf iv).toNat)
  case atStart => exact ⟨0, Nat.zero_le _, rfl, Lib.hid rfl, HROW, HD4⟩
  case round =>
    clear HROW HD4
    obtain ⟨j, hj, rfl, HH, HT, HD⟩ := hrel
    obtain ⟨wO, hwz⟩ : ∃ z, z = wr := ⟨_, rfl⟩
    subst hwz
    by_cases hlt : j < ss.length
    · obtain ⟨p, hp⟩ := Wb.get_ex hlt
      have hmem := List.mem_of_getElem? hp
      have hok := ((HKH.out.2 p).1 hmem).1
      obtain ⟨b, off, cap, hv, c0⟩ := look_tbl HT.out hp
      simp only [Value.slice.injEq] at hv
      obtain ⟨rfl, -, rfl⟩ := hv
      have hji : (j : Int) < ss.length := by omega
      obtain ⟨L, hL, hLc⟩ := HSM.out.each p
      obtain ⟨va, vc, hLv⟩ := slsK_shape hL
      have HL := Lib.hid (show SlsK w (.slice va L.length vc) L by rw [← hLv]; exact hL)
      have hlk : (Instr.lookup 24 (.map ms) (.int .u32 p) false).run Tryz.prog wO = .ok (.slice va L.length vc) wO := by
        have := KMapO.look (p := p) (HSM.out.map.ext HD.out.ext) Tryz.underlying24 zeroSlips hok
        rw [hLv] at this; exact this
      have hLl : L.length ≤ 4096 := by have := HSF.out p; rw [← hLc, List.length_map] at this; exact this
      obtain ⟨E, hE⟩ : ∃ E, Wb.handE (y, i) none L = E := ⟨_, rfl⟩
      have HES := Lib.hid (show Wb.handE (y, i) none (Wb.lst (S p)) = E by rw [← hLc, Wb.lst_ct, hand_nrm, hE])
      have HEL := Lib.hid hE
      have HDR := Lib.hid (drop_at hp)
      clear hp hmem hok hL hLv hLc hE
      go_wp2_with fail
      go_fit (check31_any _ L y i _ (HL.out.sls.ext HD.out.ext) hLl); rintro e w5 ⟨rfl, hb5⟩
      rw [HEL.out]
      have HD5 := Lib.hid (HD.out.later hb5)
      have HT5 := Lib.hid (HT.out.ext hb5)
      clear c0 hlk hb5 HD HT
      by_cases he : E = 0
      · subst he
        have HN := Lib.hid (show Wb.handsE (y, i) S ss = Wb.handsE (y, i) S (ss.drop (j + 1)) by
          rw [HH.out, HDR.out, Wb.handsE, HES.out, if_neg (by simp)])
        go_wp2
        go_roundw
        case rel => exact ⟨j + 1, by omega, by go_num, HN, HT5, HD5⟩
        case measure => first | (simp [intOf]; done) | (simp [intOf]; omega)
      · have dd : (E == 0) = false := by simpa using he
        have dd2 : (E != 0) = true := by simpa using he
        have HP := Lib.hid (show ∀ w', Wb.Ext w w' → DoPost F0 B y i k S ss ks N w (.returned (.tuple #[BkV (.slice ra RL rc) mp mo, RnV 0 0 0 0 (.slice none 0 0), .int .i64 E])) w' from fun w' hx =>
          do_err HBKF.out HW0.out (do_hands HE.out (by rw [HH.out, HDR.out, Wb.handsE, HES.out, if_pos he]) he) hx)
        have b0 := HD5.out.b0
        have b1 := HD5.out.b1
        have b2 := HD5.out.b2
        have o0 := HD5.out.o0
        have o1 := HD5.out.o1
        have o2 := HD5.out.o2
        have q0 := HD5.out.q0
        have q1 := HD5.out.q1
        have q2 := HD5.out.q2
        have q3 := HD5.out.q3
        have q4 := HD5.out.q4
        have fo := HD5.out.fo
        have fq := HD5.out.fq
        have hx := HD5.out.ext
        have hlo := HD5.out.lo
        have hlo2 : w.heap.size ≤ A := by omega
        clear he
        go_wp2
        rw [Exit.noGoto_ret]
        refine bodyPost_ret (v := .tuple #[BkV (.slice ra RL rc) mp mo, RnV 0 0 0 0 (.slice none 0 0), .int .i64 E]) (by simp [results, Tryz.results5, go_sem, BkV, RnV, o0, o1, o2, q0, q1, q2, q3, q4]) rfl (HP.out _ (by (repeat' (first | (with_reducible assumption) | (with_reducible exact Wb.Ext.refl _) | (with_reducible refine Wb.Ext.drew ?_) | (with_reducible refine Wb.Ext.drewN ?_ _) | (with_reducible refine Wb.Ext.alloc ?_ _) | (with_reducible refine Wb.ext_set ?_ (by first | assumption | (simp; done) | (simp; omega) | omega) _) | (with_reducible refine Wb.Ext.trans ?_ (by assumption))))))
    obtain rfl : j = ss.length := by omega
    have HHE := Lib.hid (show Wb.handsE (y, i) S ss = 0 by rw [HH.out, List.drop_length]; rfl)
    clear HH hlt hj HT d1 d2 hlen HEG
    have hmm := @run_makeMap Tryz.prog
    go_upto_region 14 with (fail)
    refine Wb.wp_at fun W6 hW6 => ?_
    obtain ⟨M, hM⟩ : ∃ M, wO.heap.size = M := ⟨_, rfl⟩
    have hAM : A + 3 ≤ M := by rw [← hM]; exact HD.out.hi
    have HM0 : Hid (KMap kU32 W6 M 0 (.bool false) (fun _ => none)) := Lib.hid (by rw [hW6]; exact kmap_made kU32 wO (.bool false) M hM.symm)
    have hb6 : Wb.Ext wO W6 := by rw [hW6]; (repeat' (first | (with_reducible assumption) | (with_reducible exact Wb.Ext.refl _) | (with_reducible refine Wb.Ext.drew ?_) | (with_reducible refine Wb.Ext.drewN ?_ _) | (with_reducible refine Wb.Ext.alloc ?_ _) | (with_reducible refine Wb.Ext.trans ?_ (by assumption))))
    have HD6 := Lib.hid (HD.out.later hb6)
    have hMs : M < W6.heap.size := by rw [hW6, ← hM]; simp
    rw [hM]
    clear hW6 hM hb6 hmm HD
    have hms := HSM.out.map.ext HD6.out.ext
    go_wp2_with (first
      | (at_range; refine wpList_range_km (K := kU32) rfl _ 24 51 rfl Tryz.underlying24 ms n (.slice none 0 0) f rfl hms ?_; intro w0 cnt0 hrg0 hc0 hg0 hs0)
      | go_in)
    (try go_frame)
    obtain ⟨X, hX⟩ : ∃ X, W6.heap.size = X := ⟨_, rfl⟩
    have hXM : X ≠ M := by omega
    have hXA : A + 3 ≤ X := by omega
    rw [hX] at hrg0 ⊢
    have HRG0 := Lib.hid hrg0
    have HM00 := Lib.hid (HM0.out.kept hg0 (by simp))
    have HD0 := Lib.hid (show DoAt w w0 A ra RL rc mp mo from HD6.out.kept (F := fun i => i < A + 3) (.grown hg0 (fun b e => by cases e)) (fun i h => h))
    clear hrg0 hs0 hX hms HM0 HD6 hMs hg0
    go_loopw [82] (fun _ wr => ∃ (cnt : Nat) (s2 : List Int), Hid (KRng kU32 wr ms X n (.slice none 0 0) f s2 cnt) ∧ s2.length + cnt ≤ n ∧ Hid (KMap kU32 wr M s2.length (.bool false) (fun p => if p ∈ s2 then some (.bool (!(S p).isEmpty)) else none)) ∧ Hid (DoAt w wr A ra RL rc mp mo)) (fun _ wr => kLeft ms X wr)
    case atStart => exact ⟨cnt0, [], HRG0, by simpa using hc0, Lib.hid (KMap.congr HM00.out (fun p => by simp)), HD0⟩
    case round =>
      clear HRG0 HM00 HD0
      obtain ⟨cnt, s2, HRG, hcs, HM, HD⟩ := hrel
      obtain ⟨wO, hwz⟩ : ∃ z, z = wr := ⟨_, rfl⟩
      subst hwz
      have hrg := HRG.out
      go_wp2_with (first
        | (at_next; refine wpList_next_km (K := kU32) rfl _ rfl rfl hrg ?_ ?_)
        | go_in)
      · intro hall
        have HIN2 := Lib.hid (show ∀ p, p ∈ s2 ↔ p ∈ ss from fun p => by
          rw [HKH.out.2]
          exact ⟨fun h => HRG.out.ok p h, fun h => hall p h.1 h.2⟩)
        have HF := Lib.hid (show KMap kU32 wO M n (.bool false) (fun p => if p ∈ ss then some (.bool (!(S p).isEmpty)) else none) from
          KMap.congr (HM.out.mono (by omega)) (fun p => by simp only [HIN2.out]))
        clear hall hrg HRG HM hcs HIN2
        (try go_frame)
        obtain ⟨n2, f2, hsm2, hn2, hks2⟩ := HBKF.out.paid
        have HSM2F := Lib.hid hsm2
        have HSM2 := Lib.hid hsm2.now
        have HKS2 := Lib.hid hks2
        clear hsm2 hks2
        have b1 := HD.out.b1
        have hms := HSM2.out.map.ext HD.out.ext
        have HMP0 := Lib.hid (show KMap kU32 wO M (n + 0) (.bool false) (fun p => if p ∈ ss ∨ p ∈ ([] : List Int) then some (.bool (!(S p).isEmpty || (decide (p ∈ ([] : List Int)) && !(B.paid p).isEmpty))) else none) from
          KMap.congr HF.out (fun p => by simp))
        clear HF
        go_wp2_with (first
          | (at_range; refine wpList_range_km (K := kU32) rfl _ 24 51 rfl Tryz.underlying24 mp n2 (.slice none 0 0) f2 rfl hms ?_; intro w0 cnt0 hrg0 hc0 hg0 hs0)
          | go_in)
        (try go_frame)
        obtain ⟨X2, hX2⟩ : ∃ X2, wO.heap.size = X2 := ⟨_, rfl⟩
        have hMl : M < wO.heap.size := KMap.lt HMP0.out
        have hXM2 : X2 ≠ M := by omega
        have hXA2 : A + 3 ≤ X2 := by have := HD.out.hi; omega
        rw [hX2] at hrg0 ⊢
        have HRG0 := Lib.hid hrg0
        have HM00 := Lib.hid (HMP0.out.kept hg0 (by simp))
        have HD0 := Lib.hid (show DoAt w w0 A ra RL rc mp mo from HD.out.kept (F := fun i => i < A + 3) (.grown hg0 (fun b e => by cases e)) (fun i h => h))
        clear hrg0 hs0 hX2 hms HMP0 HD b1 hg0 hMl
        go_loopw [100] (fun _ wr => ∃ (cnt : Nat) (s3 : List Int), Hid (KRng kU32 wr mp X2 n2 (.slice none 0 0) f2 s3 cnt) ∧ s3.length + cnt ≤ n2 ∧ Hid (KMap kU32 wr M (n + s3.length) (.bool false) (fun p => if p ∈ ss ∨ p ∈ s3 then some (.bool (!(S p).isEmpty || (decide (p ∈ s3) && !(B.paid p).isEmpty))) else none)) ∧ Hid (DoAt w wr A ra RL rc mp mo)) (fun _ wr => kLeft mp X2 wr)
        case atStart => exact ⟨cnt0, [], HRG0, by simpa using hc0, HM00, HD0⟩
        case round =>
          clear HRG0 HM00 HD0
          obtain ⟨cnt, s3, HRG, hcs, HM, HD⟩ := hrel
          obtain ⟨wO, hwz⟩ : ∃ z, z = wr := ⟨_, rfl⟩
          subst hwz
          have hrg := HRG.out
          go_wp2_with (first
            | (at_next; refine wpList_next_km (K := kU32) rfl _ rfl rfl hrg ?_ ?_)
            | go_in)
          · intro hall
            have HIN3 := Lib.hid (show ∀ p, p ∈ s3 ↔ (kU32.ok p ∧ (f2 p).isSome = true) from fun p => ⟨fun h => HRG.out.ok p h, fun h => hall p h.1 h.2⟩)
            have HPF := Lib.hid (show KMap kU32 wO M (n + s3.length) (.bool false) (fun p => if p ∈ ss ∨ p ∈ s3 then some (.bool (Wb.actB B S p)) else none) from
              KMap.congr HM.out (fun p => by
                by_cases hp : p ∈ ss ∨ p ∈ s3
                · rw [if_pos hp, if_pos hp]
                  unfold Wb.actB
                  by_cases h3 : p ∈ s3
                  · rw [decide_eq_true h3]; simp
                  · have : B.paid p = [] := by
                      by_cases e : B.paid p = []
                      · exact e
                      · exact absurd ((HIN3.out p).2 (HSM2.out.full p e)) h3
                    rw [this]; simp
                · rw [if_neg hp, if_neg hp]))
            have hs3 : s3.length ≤ n2 := by omega
            clear hall hrg HRG HM hcs
            (try go_frame)
            have hw1 : IntKind.i64.wrap ((RL : Int) + 1) = (RL : Int) + 1 := IntWalk.i64_in _ (by omega)
            have b0 := HD.out.b0
            have b1 := HD.out.b1
            have b2 := HD.out.b2
            have hmm := @run_makeMap Tryz.prog
            go_upto_region 23 with (fail)
            refine Wb.wp_at fun W7 hW7 => ?_
            obtain ⟨R, hR⟩ : ∃ R, wO.heap.size = R := ⟨_, rfl⟩
            have hMR : M < R := by rw [← hR]; exact KMap.lt HPF.out
            have r0 : W7.cell? ⟨R, 0, none⟩ = some (.int .i64 ((RL : Int) + 1)) := by rw [hW7, ← hR]; simp [go_sem]
            have r1 : W7.cell? ⟨R, 1, none⟩ = some (.int .i64 y) := by rw [hW7, ← hR]; simp [go_sem]
            have r2 : W7.cell? ⟨R, 2, none⟩ = some (.int .i64 i) := by rw [hW7, ← hR]; simp [go_sem]
            have r3 : W7.cell? ⟨R, 3, none⟩ = some (.int .i64 k) := by rw [hW7, ← hR]; simp [go_sem]
            have r4 : W7.cell? ⟨R, 4, none⟩ = some (.slice none 0 0) := by rw [hW7, ← hR]; simp [go_sem]
            have rf : ∀ j, W7.frozen? ⟨R, j, none⟩ = false := fun j => by rw [hW7, ← hR]; simp [go_sem]
            have hb7 : Wb.Ext wO W7 := by rw [hW7]; (repeat' (first | (with_reducible assumption) | (with_reducible exact Wb.Ext.refl _) | (with_reducible refine Wb.Ext.drew ?_) | (with_reducible refine Wb.Ext.drewN ?_ _) | (with_reducible refine Wb.Ext.alloc ?_ _) | (with_reducible refine Wb.ext_set ?_ (by first | assumption | (simp; done) | (simp; omega) | omega) _) | (with_reducible refine Wb.Ext.trans ?_ (by assumption))))
            have hR7 : R + 1 = W7.heap.size := by rw [hW7, ← hR]; simp
            have HD7 := Lib.hid (HD.out.later hb7)
            have HPF7 := Lib.hid (HPF.out.ext hb7)
            rw [hR]
            clear hW7 hR hb7 HD HPF b0 b1 b2 hw1
            go_upto_region 24 with (fail)
            refine Wb.wp_at fun W8 hW8 => ?_
            rw [← hR7] at hW8 ⊢
            have HA1 : Hid (KMap kU32 W8 (R + 1) 0 (.slice none 0 0) (fun _ => none)) := Lib.hid (KMap.ext (kmap_made kU32 W7 (.slice none 0 0) (R + 1) hR7) (by rw [hW8]; (repeat' (first | (with_reducible assumption) | (with_reducible exact Wb.Ext.refl _) | (with_reducible refine Wb.Ext.drew ?_) | (with_reducible refine Wb.Ext.drewN ?_ _) | (with_reducible refine Wb.Ext.alloc ?_ _) | (with_reducible refine Wb.ext_set ?_ (by first | assumption | (simp; done) | (simp; omega) | omega) _) | (with_reducible refine Wb.Ext.trans ?_ (by assumption))))))
            have HA2 : Hid (KMap kU32 W8 (R + 1 + 1) 0 (.int .i64 0) (fun _ => none)) := Lib.hid (KMap.ext (kmap_made kU32 (W7.alloc (.map #[] 0)) (.int .i64 0) (R + 1 + 1) (by simp [← hR7])) (by rw [hW8]; (repeat' (first | (with_reducible assumption) | (with_reducible exact Wb.Ext.refl _) | (with_reducible refine Wb.Ext.drew ?_) | (with_reducible refine Wb.Ext.drewN ?_ _) | (with_reducible refine Wb.Ext.alloc ?_ _) | (with_reducible refine Wb.ext_set ?_ (by first | assumption | (simp; done) | (simp; omega) | omega) _) | (with_reducible refine Wb.Ext.trans ?_ (by assumption))))))
            have hb8 : Wb.Ext W7 W8 := by rw [hW8]; (repeat' (first | (with_reducible assumption) | (with_reducible exact Wb.Ext.refl _) | (with_reducible refine Wb.Ext.drew ?_) | (with_reducible refine Wb.Ext.drewN ?_ _) | (with_reducible refine Wb.Ext.alloc ?_ _) | (with_reducible refine Wb.ext_set ?_ (by first | assumption | (simp; done) | (simp; omega) | omega) _) | (with_reducible refine Wb.Ext.trans ?_ (by assumption))))
            have u0 : W8.cell? ⟨R + 1 + 1 + 1, 0, none⟩ = some (.slice none 0 0) := by rw [hW8]; simp [go_sem, hR7]
            have u1 : W8.cell? ⟨R + 1 + 1 + 1, 1, none⟩ = some (.map (some (R + 1))) := by rw [hW8]; simp [go_sem, hR7]
            have u2 : W8.cell? ⟨R + 1 + 1 + 1, 2, none⟩ = some (.map (some (R + 1 + 1))) := by rw [hW8]; simp [go_sem, hR7]
            have uf : ∀ j, W8.frozen? ⟨R + 1 + 1 + 1, j, none⟩ = false := fun j => by rw [hW8]; simp [go_sem, hR7]
            have hs8 : R + 4 = W8.heap.size := by rw [hW8]; simp [← hR7]
            have HD8 := Lib.hid (HD7.out.later hb8)
            have HPF8 := Lib.hid (HPF7.out.ext hb8)
            have r0 := hb8.keep r0
            have r1 := hb8.keep r1
            have r2 := hb8.keep r2
            have r3 := hb8.keep r3
            have r4 := hb8.keep r4
            have rf : ∀ j, W8.frozen? ⟨R, j, none⟩ = false := fun j => (hb8.cells.2 _ _ (by omega)).trans (rf j)
            have b1 := HD8.out.b1
            have b2 := HD8.out.b2
            obtain ⟨n3, f3, hm3, hn3, hv3, hk3⟩ := HBK.out.owed
            have HSM3 := Lib.hid hm3
            have HSV3 := Lib.hid hv3
            have HSK3 := Lib.hid hk3
            have hmpR : mp ≠ some (R + 1) := fun e => by have := HSM2.out.map.lt _ e; have := HD8.out.lo; omega
            have hmoR : mo ≠ some (R + 1 + 1) := fun e => by have := hm3.lt _ e; have := HD8.out.lo; omega
            have HLOW : A + 3 ≤ M ∧ M < R := ⟨hAM, hMR⟩
            clear hW8 hb8 HD7 HPF7 hmm hm3 hv3 hk3 hR7
            go_wp2_with fail
            go_fit (copyS_any (R + 1) mp n2 (.slice none 0 0) f2 _ HA1.out (HSM2.out.map.ext HD8.out.ext) hmpR (by omega)); rintro e w9 ⟨rfl, hm9, hg9⟩
            have hk9 : Kept (fun q => q ≠ R + 1) W8 w9 := .grown hg9 (fun q e hq hne => by cases e; exact hne rfl)
            have HB1 := Lib.hid hm9
            have HB2 := Lib.hid (HA2.out.keptF hk9 (by omega))
            have HD9 := Lib.hid (HD8.out.kept hk9 (fun q hq => by omega))
            have HPF9 := Lib.hid (HPF8.out.keptF hk9 (by omega))
            replace u0 := hk9.cell (by omega) u0
            replace u1 := hk9.cell (by omega) u1
            replace u2 := hk9.cell (by omega) u2
            replace uf : ∀ j, w9.frozen? ⟨R + 1 + 1 + 1, j, none⟩ = false := fun j => hk9.frozen (by omega) (by omega) (uf j)
            replace r0 := hk9.cell (by omega) r0
            replace r1 := hk9.cell (by omega) r1
            replace r2 := hk9.cell (by omega) r2
            replace r3 := hk9.cell (by omega) r3
            replace r4 := hk9.cell (by omega) r4
            replace rf : ∀ j, w9.frozen? ⟨R, j, none⟩ = false := fun j => hk9.frozen (by omega) (by omega) (rf j)
            replace b1 := HD9.out.b1
            replace b2 := HD9.out.b2
            have hs9 : R + 4 ≤ w9.heap.size := by have := hk9.size; omega
            clear hm9 hg9 hk9 HA1 HA2 HD8 HPF8 hs8
            go_wp2_with fail
            go_fit (copyC_any (R + 1 + 1) mo n3 (.int .i64 0) f3 _ HB2.out (HSM3.out.ext HD9.out.ext) hmoR (by omega)); rintro e w10 ⟨rfl, hm9, hg9⟩
            have hk9 : Kept (fun q => q ≠ R + 1 + 1) w9 w10 := .grown hg9 (fun q e hq hne => by cases e; exact hne rfl)
            have HC2 := Lib.hid hm9
            have HC1 := Lib.hid (HB1.out.keptF hk9 (by omega))
            have HD10 := Lib.hid (HD9.out.kept hk9 (fun q hq => by omega))
            have HPF10 := Lib.hid (HPF9.out.keptF hk9 (by omega))
            replace u0 := hk9.cell (by omega) u0
            replace u1 := hk9.cell (by omega) u1
            replace u2 := hk9.cell (by omega) u2
            replace uf : ∀ j, w10.frozen? ⟨R + 1 + 1 + 1, j, none⟩ = false := fun j => hk9.frozen (by omega) (by omega) (uf j)
            replace r0 := hk9.cell (by omega) r0
            replace r1 := hk9.cell (by omega) r1
            replace r2 := hk9.cell (by omega) r2
            replace r3 := hk9.cell (by omega) r3
            replace r4 := hk9.cell (by omega) r4
            replace rf : ∀ j, w10.frozen? ⟨R, j, none⟩ = false := fun j => hk9.frozen (by omega) (by omega) (rf j)
            have hs10 : R + 4 ≤ w10.heap.size := by have := hk9.size; omega
            clear hm9 hg9 hk9 HB1 HB2 HD9 HPF9 hs9 b1 b2
            obtain ⟨gP, hgP⟩ : ∃ gP : Int → Option Value, (fun p => if p ∈ ss ∨ p ∈ s3 then some (.bool (Wb.actB B S p)) else none) = gP := ⟨_, rfl⟩
            have HGV := Lib.hid (show ∀ p, (p ∈ ss ∨ p ∈ s3) → gP p = some (.bool (Wb.actB B S p)) from fun p hp => by rw [← hgP]; simp only [if_pos hp])
            have HGI := Lib.hid (show ∀ p, (gP p).isSome = true ↔ (p ∈ ss ∨ p ∈ s3) from fun p => by
              rw [← hgP]
              by_cases hp : p ∈ ss ∨ p ∈ s3
              · simp only [if_pos hp]; simp [hp]
              · simp only [if_neg hp]; simp [hp])
            rw [hgP] at HPF10
            clear hgP
            have HWH := Lib.hid (show ∀ p, p ∈ ss ∨ p ∈ s3 → p ∈ ks ++ ss from fun p hp => by
              rcases hp with hp | hp
              · exact List.mem_append_right _ hp
              · obtain ⟨h1, h2⟩ := (HIN3.out p).1 hp
                exact List.mem_append_left _ (HKS2.out p h1 h2))
            have eg : ∀ args w, (callFunc 46 args).run Tryz.prog w = .ok (.enter 46 args) w := enters_of Tryz.func46 (by kernel_rfl) rfl
            have HEG := Lib.hid eg
            clear eg
            go_wp2_with fail
            go_step3
            go_wp2_with fail
            go_fit (keysB_any (some M) _); rintro e w11 ⟨rfl, hw11⟩
            obtain ⟨Y2, hY2⟩ : ∃ Y2, w10.heap.size = Y2 := ⟨_, rfl⟩
            have hb11 : Wb.Ext w10 w11 := by rw [hw11]; (repeat' (first | (with_reducible assumption) | (with_reducible exact Wb.Ext.refl _) | (with_reducible refine Wb.Ext.drew ?_) | (with_reducible refine Wb.Ext.drewN ?_ _) | (with_reducible refine Wb.Ext.alloc ?_ _) | (with_reducible refine Wb.Ext.trans ?_ (by assumption))))
            have hYc2 : w11.cell? ⟨Y2, 0, none⟩ = some (.map (some M)) := by rw [hw11, ← hY2]; simp [go_sem]
            have hYs2 : Y2 < w11.heap.size := by rw [hw11, ← hY2]; simp
            have HQ2 := Lib.hid (fun m => keysB_gives m Y2 w11 hYs2 hYc2 (KMap.opt ((HPF10.out.ext hb11).mono (show n + s3.length ≤ n + s3.length + (ks ++ ss).length by omega))))
            have hs11 : R + 4 ≤ w11.heap.size := by have := hb11.size; omega
            have HB11 := Lib.hid hb11
            rw [hY2]
            clear hw11 hY2 hYc2 hb11
            go_wp2_with fail
            go_fit (sortedU_any 46 #[.pointer (some ⟨Y2, 0, none⟩)] HEG.out (KeysAre kU32 gP) (fun a b hp hs => ⟨hp.nodup_iff.2 hs.1, fun p => by rw [hp.mem_iff, hs.2]⟩) (n + s3.length + (ks ++ ss).length) (by rw [List.length_append]; omega) (fun s hs9 => Nat.le_trans (nodup_le hs9.1 (fun x hx => HWH.out x ((HGI.out x).1 ((hs9.2 x).1 hx).2))) (Nat.le_add_left _ _)) _ HQ2.out); rintro e w12 ⟨v, ps, rfl, hKP, hp, hrow, hx⟩
            rw [rows_u32] at hrow
            have hlo := hrow.lt
            have HROW := Lib.hid (row_tbl u32c_len (by decide) hrow)
            have HXP := Lib.hid (HB11.out.trans hx)
            have HKP := Lib.hid hKP
            have HPS : Hid (Wb.Who B S ss ps) := Lib.hid ⟨HW0.out.hand, fun p hp => (HKP.out.2 p).2 (by
              have hps : p ∈ ss ∨ p ∈ s3 := by
                rcases hp with hp | hp
                · exact .inl (HW0.out.hand p hp)
                · exact .inr ((HIN3.out p).2 (HSM2.out.full p hp))
              refine ⟨?_, (HGI.out p).2 hps⟩
              rcases hps with h | h
              · exact ((HKH.out.2 p).1 h).1
              · exact ((HIN3.out p).1 h).1), hKP.1, Wb.up_lt hKP.1 hp⟩
            have hpl : ps.length ≤ ks.length + ss.length := by
              have := nodup_le (L := ks ++ ss) hKP.1 (fun x hx => HWH.out x ((HGI.out x).1 ((hKP.2 x).1 hx).2))
              rwa [List.length_append] at this
            obtain ⟨ta, tc, rfl⟩ := HROW.out.shape
            obtain ⟨gl, hgl⟩ : ∃ gl, w12.heap.size = gl := ⟨_, rfl⟩
            have hs12 := hx.size
            have HLP : Hid (LpAt F0 w w12 A M R (n + s3.length) ra RL rc mp mo gP ps (.slice ta ps.length tc) y i k B S (ks ++ ss) (N + 0) (N + 0) none gl 0 [] (ps.take 0) (([] : List RwM).map RwM.c)) := Lib.hid (by
              have e := HXP.out
              refine ⟨HD10.out.later e, HPF10.out.ext e, HROW.out, (fun q hq => by have := hlo q hq; omega), e.keep r0, e.keep r1, e.keep r2, e.keep r3, e.keep r4, (fun j => (e.cells.2 _ _ (by omega)).trans (rf j)), e.keep u0, e.keep u1, e.keep u2, (fun j => (e.cells.2 _ _ (by omega)).trans (uf j)), HLOW, ⟨by omega, by omega⟩,
                ⟨f2, (HC1.out.ext e).mono (by omega), fun p => ?_, fun p hp => ?_, fun p h1 h2 => List.mem_append_left _ (HKS2.out p h1 h2)⟩, ⟨f3, (HC2.out.ext e).mono (by omega), fun p => ?_, fun p h1 h2 => List.mem_append_left _ (HSK3.out p h1 h2)⟩, own_none, fun r hr => by cases hr⟩
              · obtain ⟨L, l1, l2⟩ := HSM2F.out.each p
                refine ⟨L, fun w2 h2 => l1 w2 (Kept.since (HD10.out.ext.trans e) h2 (fun q hq h0 => ⟨?_, (fun e => by cases e), fun _ => h0⟩)), by rw [l2]; simp⟩
                have := HD10.out.lo
                omega
              · simp at hp
                exact HSM2.out.full p hp
              · rw [HSV3.out p]; rfl)
            clear hKP hp hrow hx hlo HROW HD10 HPF10 HC1 HC2 HQ2 hYs2 r0 r1 r2 r3 r4 rf u0 u1 u2 uf hs10 hs11 HB11 hs12 hgl HEG HXP
            go_wp2_with fail
            go_loopw [126] (fun iv wr => ∃ (j : Nat) (ga : Option Addr) (gc : Nat) (rows : List RwM), j ≤ ps.length ∧ iv = .int .i64 j ∧ rows.length ≤ j ∧ Hid (Wb.rowsG (y, i) B S [] ps = Wb.rowsG (y, i) B S (rows.map RwM.c) (ps.drop j)) ∧ Hid (∀ r ∈ rows.map RwM.c, r.p ∈ ps.take j) ∧ Hid (LpAt F0 w wr A M R (n + s3.length) ra RL rc mp mo gP ps (.slice ta ps.length tc) y i k B S (ks ++ ss) (N + j) (N + j) ga gl gc rows (ps.take j) (rows.map RwM.c))) (fun iv _ => ps.length - (intOf iv).toNat)
            case atStart => exact ⟨0, none, 0, [], Nat.zero_le _, rfl, Nat.le_refl _, Lib.hid rfl, Lib.hid (fun r hr => by cases hr), HLP⟩
            case round =>
              clear HLP
              obtain ⟨j, ga, gc, rows, hj, rfl, hrj, HRG, HRP, HLP⟩ := hrel
              obtain ⟨wO, hwz⟩ : ∃ z, z = wr := ⟨_, rfl⟩
              subst hwz
              by_cases hlt : j < ps.length
              case neg =>
                obtain rfl : j = ps.length := by omega
                have HR0 := Lib.hid (show Wb.rowsG (y, i) B S [] ps = (0, rows.map RwM.c) by rw [HRG.out, List.drop_length, Wb.rowsG])
                have hlo := HLP.out.at_.lo
                have hx0 := HLP.out.at_.ext
                have hhi := HLP.out.hi
                have hne := HLP.out.ne
                have hwR : w.heap.size ≤ R := by omega
                have hown := HLP.out.own
                have b0 := HLP.out.at_.b0
                have r0 := HLP.out.r0
                have r1 := HLP.out.r1
                have r2 := HLP.out.r2
                have r3 := HLP.out.r3
                have r4 := HLP.out.r4
                have hrows : RowsM wO (.slice ga rows.length gc) rows := ⟨row_tbl rwc_len (by decide) hown, fun r hr => HLP.out.each r hr wO .refl, by omega, fun r hr => by
                  have h9 := HLP.out.each r hr wO .refl
                  obtain ⟨a1, c1, e1⟩ := h9.now.1.shape
                  obtain ⟨a2, c2, e2⟩ := h9.back.1.shape
                  exact ⟨_, _, _, _, _, _, e1, e2⟩⟩
                have HROWS := Lib.hid hrows
                have HLB := Lib.hid (show ∀ j, wO.frozen? ⟨R + 1 + 1 + 1, j, none⟩ = false from HLP.out.uf)
                have hsR : R + 4 ≤ wO.heap.size := by omega
                have HAMR : A + 3 ≤ R := by omega
                have HKEo := Lib.hid (show ∀ q, q < A → KE A R q from fun q hq => ⟨by omega, by omega, by omega⟩)
                have HHI := Lib.hid hhi
                have HNE := Lib.hid hne
                have HLO := Lib.hid hlo
                clear hown hrows hlo hhi hne hlt hj
                have HC1 := Lib.hid (show ∀ W, Wb.Ext wO W → Calls Tryz.prog 26 #[.slice ra RL rc] W fun e w' => ∃ va vc, e = .returned (.slice va RL vc) ∧ w'.cell? ⟨R, 0, none⟩ = some (.int .i64 ((RL : Int) + 1)) ∧ w'.cell? ⟨R, 1, none⟩ = some (.int .i64 y) ∧ w'.cell? ⟨R, 2, none⟩ = some (.int .i64 i) ∧ w'.cell? ⟨R, 3, none⟩ = some (.int .i64 k) ∧ w'.cell? ⟨R, 4, none⟩ = some (.slice ga rows.length gc) ∧ Hid (Wb.Ext wO w' ∧ w'.ownsRow W.heap.size 31 5 (.slice va RL vc) RL (rowsOf rnc LR) ∧ wO.heap.size ≤ W.heap.size ∧ W.heap.size ≤ w'.heap.size) from fun W hW => by
                  refine (clonern_any _ LR W (HLR.out.ext (hx0.trans hW))).mono ?_
                  rintro e w' ⟨v, rfl, ho, hb⟩
                  rw [HLL.out] at ho
                  obtain ⟨va, vc, rfl⟩ := row_shape ho
                  have hE := hW.trans hb
                  exact ⟨va, vc, rfl, hE.keep r0, hE.keep r1, hE.keep r2, hE.keep r3, hE.keep r4, Lib.hid ⟨hE, ho, hW.size, hb.size⟩⟩)
                have HIN := Lib.hid (info_parts infoRun)
                have HC2 := Lib.hid (show ∀ (W w1 W2 : World) (va : Option Addr) (vc : Nat), (Wb.Ext wO w1 ∧ w1.ownsRow W.heap.size 31 5 (.slice va RL vc) RL (rowsOf rnc LR) ∧ wO.heap.size ≤ W.heap.size ∧ W.heap.size ≤ w1.heap.size) → Wb.Ext w1 W2 → Calls Tryz.prog 27 #[.agg #[.int .i64 ((RL : Int) + 1), .int .i64 y, .int .i64 i, .int .i64 k, .slice ga rows.length gc]] W2 fun e w' => ∃ ua un uc, e = .returned (.agg #[.int .i64 ((RL : Int) + 1), .int .i64 y, .int .i64 i, .int .i64 k, .slice ua un uc]) ∧ ∃ xa xn xc wa, (Builtin.append_ #[23, 23] 23 #[.slice va RL vc, .slice (some ⟨w'.heap.size, 0, none⟩) 1 1]).run Tryz.prog (w'.alloc (.cells #[.int .i64 ((RL : Int) + 1), .int .i64 y, .int .i64 i, .int .i64 k, .slice ua un uc] 31)) = .ok (.slice xa xn xc) wa ∧ wa.cell? ⟨R + 1 + 1 + 1, 0, none⟩ = some (.slice none 0 0) ∧ (∀ j, wa.frozen? ⟨R + 1 + 1 + 1, j, none⟩ = false) ∧
                    Hid (∃ r1 : RnM, r1.c = ⟨(RL : Int) + 1, y, i, k, rows.map RwM.c⟩ ∧ Wb.Ext wO wa ∧ ∀ w2, Kept (fun q => KE A R q ∧ FE F0 A q) wa w2 → RunsM w2 (.slice xa xn xc) (LR ++ [r1])) from fun W w1 W2 va vc ⟨e1, e2, e3, e4⟩ hE2 => by
                  refine (rclone31_any ((RL : Int) + 1) y i k _ rows W2 (HROWS.out.ext (e1.trans hE2))).mono ?_
                  rintro e w' ⟨u, L', rfl, h1, h2, h3, h4⟩
                  obtain ⟨ua, uc, rfl⟩ := h1.tab.shape
                  obtain ⟨hi, hz0, hz1, hz2⟩ := HIN.out.choose_spec
                  have hEa : Wb.Ext w1 w' := hE2.trans h4
                  obtain ⟨wb, hwb⟩ : ∃ z, w'.alloc (.cells #[.int .i64 ((RL : Int) + 1), .int .i64 y, .int .i64 i, .int .i64 k, .slice ua L'.length uc] 31) = z := ⟨_, rfl⟩
                  have hEb : Wb.Ext w' wb := by rw [← hwb]; exact .alloc (.refl _) _
                  have hcell : ∀ (j : Nat) (v : Value), [Value.int .i64 ((RL : Int) + 1), .int .i64 y, .int .i64 i, .int .i64 k, .slice ua L'.length uc][j]? = some v → wb.cell? ((⟨w'.heap.size, 0, none⟩ : Addr).add j) = some v := by
                    have := src_lit w' w'.heap.size rfl [Value.int .i64 ((RL : Int) + 1), .int .i64 y, .int .i64 i, .int .i64 k, .slice ua L'.length uc] 31 1
                    rw [← hwb]
                    rcases this.2 with ⟨q, _⟩ | ⟨ad, c, q, hq⟩
                    · cases q
                    · cases q; exact hq
                  obtain ⟨v2, wa, hrun, k1, k2, -, k3⟩ := run_append_own_at (P := Tryz.prog) wb W.heap.size 23 23 31 _ rnZ 5 56 Tryz.underlying23 hi hz0 hz1 hz2 rfl (by decide) (.slice va RL vc) RL (rowsOf rnc LR) (row_ext3 e2 (hEa.trans hEb)) ⟨w'.heap.size, 0, none⟩ 1 1 [.int .i64 ((RL : Int) + 1), .int .i64 y, .int .i64 i, .int .i64 k, .slice ua L'.length uc] rfl hcell (by intro u hu; simp at hu; rcases hu with rfl | rfl | rfl | rfl | rfl <;> rfl) (by unfold maxLen; omega) (by omega) (by have := hEa.size; have := hEb.size; omega)
                  obtain ⟨xa, xc, rfl⟩ := row_shape k1
                  have hlt1 := e2.lt
                  have hK : Kept (fun q => (Value.slice va RL vc).ownBlock ≠ some q) wb wa := .grown k2 (fun q e hq hne => hne e)
                  have hlow : ∀ q, q < R + 4 → (Value.slice va RL vc).ownBlock ≠ some q := fun q hq e => by have := (hlt1 q e).1; omega
                  have hEO : Wb.Ext wO wb := (e1.trans hEa).trans hEb
                  refine ⟨ua, _, uc, rfl, xa, _, xc, wa, by rw [hwb]; exact hrun, hK.cell (hlow _ (by omega)) (hEO.keep HLP.out.u0), fun j => hK.frozen (hlow _ (by omega)) (by have := hEO.size; omega) ((hEO.cells.2 _ _ (by omega)).trans (HLB.out j)), Lib.hid ⟨⟨(RL : Int) + 1, y, i, k, .slice ua L'.length uc, L'⟩, ?_, ?_, fun w2 h2 => ?_⟩⟩
                  · unfold RnM.c
                    simp only [h2]
                  · exact hK.old hEO (fun q hq e => by have := (hlt1 q e).1; omega)
                  · have hxa : Wb.Ext w wa := hx0.trans (hK.old hEO (fun q hq e => by have := (hlt1 q e).1; omega))
                    have hxw : Kept F0 w w2 := Kept.since hxa h2 (fun q hq h0 => ⟨HKEo.out q (by have := HLO.out; omega), fun _ => h0⟩)
                    have hll9 := HLL.out
                    have hE2s := hE2.size
                    have e9 : (LR ++ [(⟨(RL : Int) + 1, y, i, k, .slice ua L'.length uc, L'⟩ : RnM)]).length = RL + 1 := by simp [hll9]
                    have e8 : rowsOf rnc (LR ++ [(⟨(RL : Int) + 1, y, i, k, .slice ua L'.length uc, L'⟩ : RnM)]) = rowsOf rnc LR ++ [.int .i64 ((RL : Int) + 1), .int .i64 y, .int .i64 i, .int .i64 k, .slice ua L'.length uc] := by simp [rowsOf, rnc]
                    refine ⟨row_tbl (base := W.heap.size) (e := 31) rnc_len (by decide) (by rw [e8]; exact own_keptF k1 h2 (fun q hq => by have := (k1.lt q hq).1; exact ⟨⟨by omega, by omega, by omega⟩, fun h => by omega⟩)), fun t ht => ?_, by rw [e9]; omega, fun t ht => ?_⟩
                    · rcases List.mem_append.1 ht with ht | ht
                      · exact (HLRF.out w2 hxw).each t ht
                      · obtain rfl : t = _ := by simpa using ht
                        refine h3 0 (W2.heap.size - 1) w2 (by omega) ⟨(h2.os.trans hK.os).trans hEb.os, (h2.tape.trans hK.tape).trans hEb.tape, (h2.output.trans hK.output).trans hEb.output, Nat.le_trans (Nat.le_trans hEb.size hK.size) h2.size, fun q hq hr => ?_⟩
                        have hno : (Value.slice va RL vc).ownBlock ≠ some q := fun e => by have := hlt1 q e; omega
                        exact ((h2.block q (Nat.lt_of_lt_of_le hq (Nat.le_trans hEb.size hK.size)) ⟨⟨by omega, by omega, by omega⟩, fun h => by omega⟩).trans (hK.block q (Nat.lt_of_lt_of_le hq hEb.size) hno)).trans (hEb.block q hq)
                    · rcases List.mem_append.1 ht with ht | ht
                      · exact HLR.out.one t ht
                      · obtain rfl : t = _ := by simpa using ht
                        exact ⟨_, _, _, rfl⟩)
                have HDO := Lib.hid HLP.out.at_
                have HROWK := Lib.hid (show ∀ w2, Kept (KE A R) wO w2 → RowsM w2 (.slice ga rows.length gc) rows from fun w2 h2 => by
                  have h9 := HROWS.out
                  have hl := HLP.out.own.lt
                  have hg := HHI.out
                  refine ⟨row_tbl rwc_len (by decide) (own_keptF HLP.out.own h2 (fun q hq => by have := (hl q hq).1; exact ⟨by omega, by omega, by omega⟩)), fun t ht => HLP.out.each t ht w2 (h2.mono fun q _ hq => ⟨fun e => hq.1 ⟨by omega, by omega⟩, fun e => hq.1 ⟨by omega, by omega⟩, fun e => hq.1 ⟨by omega, by omega⟩⟩), h9.many, h9.one⟩)
                have hu1 := HLP.out.u1
                have hu2 := HLP.out.u2
                go_upto_region 38 with (fail)
                go_cut [0] (fun v wx => v = .agg #[.slice ra RL rc, .map mp, .map mo] ∧ ∃ (v2a : Option Addr) (v2n v2c : Nat) (r1 : RnM), r1.c = ⟨(RL : Int) + 1, y, i, k, rows.map RwM.c⟩ ∧ Kept (KE A R) wO wx ∧ DoAt w wx A ra RL rc mp mo ∧ wx.cell? ⟨R + 1 + 1 + 1, 0, none⟩ = some (.slice v2a v2n v2c) ∧ wx.cell? ⟨R + 1 + 1 + 1, 1, none⟩ = some (.map (some (R + 1))) ∧ wx.cell? ⟨R + 1 + 1 + 1, 2, none⟩ = some (.map (some (R + 1 + 1))) ∧ ∀ w2, Kept (fun q => KE A R q ∧ FE F0 A q) wx w2 → RunsM w2 (.slice v2a v2n v2c) (LR ++ [r1]))
                case first =>
                  go_wp2_with fail
                  go_region_law (first | (refine step_append_run rfl (.tmp 180) (.tmp 183) 23 rfl _ _ _ _ (by simp [Act.eval]) (by simp [Act.eval]) hrun ?_) | (go_simp; go_at_call 26; refine (HC1.out _ (by (repeat' (first | (with_reducible assumption) | (with_reducible exact Wb.Ext.refl _) | (with_reducible refine Wb.Ext.drew ?_) | (with_reducible refine Wb.Ext.drewN ?_ _) | (with_reducible refine Wb.Ext.alloc ?_ _) | (with_reducible refine Wb.Ext.trans ?_ (by assumption)))))).mono ?_; rintro e w' ⟨va, vc, rfl, k0, k1, k2, k3, k4, hD⟩) | (go_simp; go_at_call 27; refine (HC2.out _ _ _ _ _ hD.out (by (repeat' (first | (with_reducible assumption) | (with_reducible exact Wb.Ext.refl _) | (with_reducible refine Wb.Ext.drew ?_) | (with_reducible refine Wb.Ext.drewN ?_ _) | (with_reducible refine Wb.Ext.alloc ?_ _) | (with_reducible refine Wb.Ext.trans ?_ (by assumption)))))).mono ?_; rintro e w'' ⟨ua, un, uc, rfl, xa, xn, xc, wa, hrun, ku, kf, hRES⟩))
                  all_goals go_wp2_with fail
                  all_goals go_meet
                  all_goals
                    obtain ⟨r1, h1, h2, h3⟩ := hRES.out
                    have hs2 := h2.size
                    have hsg := setj_grown wa (R + 1 + 1 + 1) 0 (.slice xa xn xc)
                    have hk3 : Kept (KE A R) wa (wa.setCell ⟨R + 1 + 1 + 1, 0, none⟩ (.slice xa xn xc)) := .grown hsg (fun q e hq hne => by cases e; exact hne.2.2 rfl)
                    have hk4 : Kept (fun q => q ≠ R + 1 + 1 + 1) wa (wa.setCell ⟨R + 1 + 1 + 1, 0, none⟩ (.slice xa xn xc)) := .grown hsg (fun q e hq hne => by cases e; exact hne rfl)
                    have hv1 := h2.keep hu1
                    have hv2 := h2.keep hu2
                    exact ⟨rfl, xa, xn, xc, r1, h1, (Kept.ext h2).trans hk3, (HDO.out.later h2).kept hk4 (fun q hq => by omega), by simp [go_sem, ku], by simp [go_sem, hv1], by simp [go_sem, hv2], fun w2 h => h3 w2 ((hk3.mono fun q _ hq => hq.1).trans h)⟩
                case rest =>
                  obtain ⟨rfl, v2a, v2n, v2c, r1', hr1, hk19, hd19, u0, u1, u2, hruns⟩ := hcut
                  obtain ⟨w19, hwz⟩ : ∃ z, z = wc := ⟨_, rfl⟩
                  subst hwz
                  have HNE2 : ∀ q, q = R → KE A R q := fun q e => by subst e; exact ⟨by omega, by omega, by omega⟩
                  have s0 := hk19.cell (HNE2 R rfl) r0
                  have s1 := hk19.cell (HNE2 R rfl) r1
                  have s2 := hk19.cell (HNE2 R rfl) r2
                  have s3 := hk19.cell (HNE2 R rfl) r3
                  have s4 := hk19.cell (HNE2 R rfl) r4
                  have hs19 := hk19.size
                  have HD19 := Lib.hid hd19
                  have HR1 := Lib.hid hr1
                  have HRUNS := Lib.hid hruns
                  have HK19 := Lib.hid hk19
                  clear hk19 hd19 hr1 hruns r0 r1 r2 r3 r4 hu1 hu2 b0 HC1 HC2 HIN
                  have HC3 := Lib.hid (show ∀ W, Wb.Ext w19 W → Calls Tryz.prog 27 #[.agg #[.int .i64 ((RL : Int) + 1), .int .i64 y, .int .i64 i, .int .i64 k, .slice ga rows.length gc]] W fun e w' => ∃ ua un uc, e = .returned (.agg #[.int .i64 ((RL : Int) + 1), .int .i64 y, .int .i64 i, .int .i64 k, .slice ua un uc]) ∧
                      w'.cell? ⟨R + 1 + 1 + 1, 0, none⟩ = some (.slice v2a v2n v2c) ∧ w'.cell? ⟨R + 1 + 1 + 1, 1, none⟩ = some (.map (some (R + 1))) ∧ w'.cell? ⟨R + 1 + 1 + 1, 2, none⟩ = some (.map (some (R + 1 + 1))) ∧
                      w'.cell? ⟨A + 1, 0, none⟩ = some (.slice none 0 0) ∧ w'.cell? ⟨A + 1, 1, none⟩ = some (.map none) ∧ w'.cell? ⟨A + 1, 2, none⟩ = some (.map none) ∧
                      w'.cell? ⟨A + 1 + 1, 0, none⟩ = some (.int .i64 0) ∧ w'.cell? ⟨A + 1 + 1, 1, none⟩ = some (.int .i64 0) ∧ w'.cell? ⟨A + 1 + 1, 2, none⟩ = some (.int .i64 0) ∧ w'.cell? ⟨A + 1 + 1, 3, none⟩ = some (.int .i64 0) ∧ w'.cell? ⟨A + 1 + 1, 4, none⟩ = some (.slice none 0 0) ∧
                      (∀ j, w'.frozen? ⟨A + 1, j, none⟩ = false) ∧ (∀ j, w'.frozen? ⟨A + 1 + 1, j, none⟩ = false) ∧
                      Hid (∀ wE, Kept (KE A R) w' wE → DoPost F0 B y i k S ss ks N w (.returned (.tuple #[BkV (.slice v2a v2n v2c) (some (R + 1)) (some (R + 1 + 1)), RnV ((RL : Int) + 1) y i k (.slice ua un uc), .int .i64 0])) wE) from fun W hW => by
                    refine (rclone31_any ((RL : Int) + 1) y i k _ rows W ((HROWK.out _ HK19.out).ext hW)).mono ?_
                    rintro e w' ⟨u, L', rfl, h1, h2, h3, h4⟩
                    obtain ⟨ua, uc, rfl⟩ := h1.tab.shape
                    have hE := hW.trans h4
                    have hd := HD19.out.later hE
                    refine ⟨ua, _, uc, rfl, hE.keep u0, hE.keep u1, hE.keep u2, hd.o0, hd.o1, hd.o2, hd.q0, hd.q1, hd.q2, hd.q3, hd.q4, hd.fo, hd.fq, Lib.hid fun wE hk => ?_⟩
                    exact do_fin HLP.out ((HK19.out.trans (Kept.ext hE)).trans hk) HPS.out HE.out HHE.out HR0.out hpl (fun w2 h2 => HRUNS.out w2 ((Kept.ext hE).trans ((hk.mono fun q _ hq => hq.1).trans (h2.mono fun q _ hq => hq.2)))) HLRC.out HRL.out HR1.out
                      (fun w2 k2 => h3 0 (W.heap.size - 1) w2 (by have := hW.size; omega) ⟨k2.os.trans hk.os, k2.tape.trans hk.tape, k2.output.trans hk.output, Nat.le_trans hk.size k2.size, fun q hq hr => by
                        have := hW.size
                        exact (k2.block q (Nat.lt_of_lt_of_le hq hk.size) (fun h => by omega)).trans (hk.block q hq ⟨by omega, by omega, by omega⟩)⟩) h2)
                  have hlo9 := HLO.out
                  have hAs : A + 3 ≤ w19.heap.size := HD19.out.hi
                  go_upto_region 39 with (fail)
                  go_cut [0, 12] (fun v e wx => v = .agg #[.slice ra RL rc, .map mp, .map mo] ∧ e = .int .i64 0 ∧ ∃ (ua : Option Addr) (un uc : Nat), wx.cell? ⟨A + 1, 0, none⟩ = some (.slice v2a v2n v2c) ∧ wx.cell? ⟨A + 1, 1, none⟩ = some (.map (some (R + 1))) ∧ wx.cell? ⟨A + 1, 2, none⟩ = some (.map (some (R + 1 + 1))) ∧
                    wx.cell? ⟨A + 1 + 1, 0, none⟩ = some (.int .i64 ((RL : Int) + 1)) ∧ wx.cell? ⟨A + 1 + 1, 1, none⟩ = some (.int .i64 y) ∧ wx.cell? ⟨A + 1 + 1, 2, none⟩ = some (.int .i64 i) ∧ wx.cell? ⟨A + 1 + 1, 3, none⟩ = some (.int .i64 k) ∧ wx.cell? ⟨A + 1 + 1, 4, none⟩ = some (.slice ua un uc) ∧
                    Hid (DoPost F0 B y i k S ss ks N w (.returned (.tuple #[BkV (.slice v2a v2n v2c) (some (R + 1)) (some (R + 1 + 1)), RnV ((RL : Int) + 1) y i k (.slice ua un uc), .int .i64 0])) wx))
                  case first =>
                    go_wp2_with fail
                    go_region_law (go_simp; go_at_call 27; refine (HC3.out _ (by (repeat' (first | (with_reducible assumption) | (with_reducible exact Wb.Ext.refl _) | (with_reducible refine Wb.Ext.drew ?_) | (with_reducible refine Wb.Ext.drewN ?_ _) | (with_reducible refine Wb.Ext.alloc ?_ _) | (with_reducible refine Wb.Ext.trans ?_ (by assumption)))))).mono ?_; rintro e w' ⟨ua, un, uc, rfl, k0, k1, k2, o0, o1, o2, q0, q1, q2, q3, q4, fo, fq, hFIN⟩)
                    all_goals go_wp2_with fail
                    all_goals go_meet
                    all_goals exact ⟨rfl, rfl, ua, un, uc, by simp [go_sem, o0], by simp [go_sem, o1], by simp [go_sem, o2], by simp [go_sem, q0], by simp [go_sem, q1], by simp [go_sem, q2], by simp [go_sem, q3], by simp [go_sem, q4], Lib.hid (hFIN.out _ (kept8 (fun h => h.1 rfl) (fun h => h.2.1 rfl) _ _ _ _ _ _ _ _ _))⟩
                  case rest =>
                    obtain ⟨rfl, rfl, ua, un, uc, o0, o1, o2, q0, q1, q2, q3, q4, hFIN⟩ := hcut
                    clear HC3 s0 s1 s2 s3 s4 u0 u1 u2
                    go_wp2
                    rw [Exit.noGoto_ret]
                    exact bodyPost_ret (v := .tuple #[BkV (.slice v2a v2n v2c) (some (R + 1)) (some (R + 1 + 1)), RnV ((RL : Int) + 1) y i k (.slice ua un uc), .int .i64 0]) (by simp [results, Tryz.results5, go_sem, BkV, RnV, o0, o1, o2, q0, q1, q2, q3, q4]) rfl hFIN.out
              obtain ⟨p, hp⟩ := Wb.get_ex hlt
              have hmem := List.mem_of_getElem? hp
              have hok := ((HKP.out.2 p).1 hmem).1
              have hgv := HGV.out p ((HGI.out p).1 ((HKP.out.2 p).1 hmem).2)
              have HWP := Lib.hid (HWH.out p ((HGI.out p).1 ((HKP.out.2 p).1 hmem).2))
              have HPN : Hid (p ∉ ps.take j) := Lib.hid (fun hin => by
                have h1 : (ps.take (j + 1)).Nodup := List.Nodup.sublist (List.take_sublist _ _) HKP.out.1
                rw [take_snoc hp, List.nodup_append] at h1
                exact h1.2.2 p hin p (by simp) rfl)
              obtain ⟨b, off, cap, hv, c0⟩ := look_tbl HLP.out.tab hp
              simp only [Value.slice.injEq] at hv
              obtain ⟨rfl, -, rfl⟩ := hv
              have hji : (j : Int) < ps.length := by omega
              have HDR := Lib.hid (drop_at hp)
              have HTK := Lib.hid (take_snoc hp)
              have hx0 := HLP.out.at_.ext
              have hlk0 : (Instr.lookup 64 (.map (some M)) (.int .u32 p) false).run Tryz.prog wO = .ok (.bool (Wb.actB B S p)) wO := by
                have := KMapO.look (p := p) (KMap.opt HLP.out.per) Tryz.underlying64 zeroBool hok
                rw [hgv] at this; exact this
              by_cases hact : Wb.actB B S p = true
              case neg =>
                have hact : Wb.actB B S p = false := by simpa using hact
                have hno := Wb.act_not.1 hact
                rw [hact] at hlk0
                have HRN := Lib.hid (show Wb.rowsG (y, i) B S [] ps = Wb.rowsG (y, i) B S (rows.map RwM.c) (ps.drop (j + 1)) by rw [HRG.out, HDR.out, Wb.rowsG, if_pos hno])
                have HRPN := Lib.hid (show ∀ r ∈ rows.map RwM.c, r.p ∈ ps.take (j + 1) from fun r hr => by rw [HTK.out]; exact List.mem_append_left _ (HRP.out r hr))
                have HLN := Lib.hid (show LpAt F0 w wO A M R (n + s3.length) ra RL rc mp mo gP ps (.slice (some ⟨b, off, none⟩) ps.length tc) y i k B S (ks ++ ss) (N + (j + 1)) (N + (j + 1)) ga gl gc rows (ps.take (j + 1)) (rows.map RwM.c) by
                  rw [HTK.out]; exact HLP.out.skip hno.1 hno.2)
                clear hno hact hgv hp hmem hok hx0
                go_wp2
                go_roundw
                case rel => exact ⟨j + 1, ga, gc, rows, by omega, by go_num, by omega, HRN, HRPN, HLN⟩
                case measure => first | (simp [intOf]; done) | (simp [intOf]; omega)
              rw [hact] at hlk0
              have HYES := Lib.hid (Wb.act_iff.1 hact)
              obtain ⟨LA, hLA, hLAc⟩ := HSM2.out.each p
              obtain ⟨xa, xc, hLAv⟩ := slsK_shape hLA
              rw [hLAv] at hLA
              have HLA := Lib.hid (hLA.ext hx0)
              obtain ⟨LB, hLBF, hLBc⟩ := HSMF.out.each p
              have hLB := hLBF w .refl
              obtain ⟨za, zc, hLBv⟩ := slsK_shape hLB
              rw [hLBv] at hLB hLBF
              have HLBF := Lib.hid hLBF
              have HLB0 := Lib.hid hLB
              have HLB := Lib.hid (hLB.ext hx0)
              have hlk1 : (Instr.lookup 24 (.map mp) (.int .u32 p) false).run Tryz.prog wO = .ok (.slice xa LA.length xc) wO := by
                have := KMapO.look (p := p) (HSM2.out.map.ext hx0) Tryz.underlying24 zeroSlips hok
                rw [hLAv] at this; exact this
              have hlk2 : (Instr.lookup 24 (.map ms) (.int .u32 p) false).run Tryz.prog wO = .ok (.slice za LB.length zc) wO := by
                have := KMapO.look (p := p) (HSM.out.map.ext hx0) Tryz.underlying24 zeroSlips hok
                rw [hLBv] at this; exact this
              have hlk3 : (Instr.lookup 25 (.map mo) (.int .u32 p) false).run Tryz.prog wO = .ok (.int .i64 (B.owed p)) wO := by
                have := KMapO.look (p := p) (HSM3.out.ext hx0) Tryz.underlying25 zeroCents hok
                rw [HSV3.out p] at this; exact this
              have HA9 := Lib.hid (was_in HBO.out p hLAc)
              have HB9 := Lib.hid (now_in HHE.out (fun h => HW0.out.hand p h) hLBc)
              have hLAl : LA.length ≤ 10000 := by have := HFEW.out p; rw [← hLAc, List.length_map] at this; omega
              have hLBl : LB.length ≤ 10000 := by have := HSF.out p; rw [← hLBc, List.length_map] at this; omega
              have HROWG := Lib.hid (show Wb.rowG p (y, i) (Wb.lst (B.paid p)) (Wb.lst (S p)) (B.owed p) = Wb.rowG p (y, i) LA LB (B.owed p) by rw [← hLAc, ← hLBc, Wb.lst_ct, Wb.lst_ct, Wb.row_nrm])
              have HLBC := Lib.hid hLBc
              have HLBV := Lib.hid hLBv
              have HOK := Lib.hid hok
              have HPJ := Lib.hid hp
              obtain ⟨⟨rw1, E⟩, hRW⟩ : ∃ q, Wb.rowG p (y, i) LA LB (B.owed p) = q := ⟨_, rfl⟩
              have HRW := Lib.hid hRW
              have b1 := HLP.out.at_.b1
              have b2 := HLP.out.at_.b2
              clear hLBF hLA hLAc hLAv hLB hLBc hLBv hgv hp hmem hok hx0 hact hRW
              go_wp2_with fail
              go_fit (row31_any p y i (B.owed p) _ _ LA LB _ HLA.out.sls HLB.out.sls HA9.out.1 HB9.out.1 HA9.out.2 HB9.out.2 hLAl hLBl (HBO.out.owed p)); rintro e w13 ⟨r, rfl, ⟨na, nn, nc, ba, bn, bc, hnv, hbv⟩, hr13, hx13⟩
              have e2 : (Wb.rowG p (y, i) LA LB (B.owed p)).2 = E := by rw [HRW.out]
              have e1 : (Wb.rowG p (y, i) LA LB (B.owed p)).1 = rw1 := by rw [HRW.out]
              rw [e2, e1] at hr13
              rw [e2]
              have HR13 := Lib.hid hr13
              have HL13 := Lib.hid (HLP.out.later hx13)
              have HX13 := Lib.hid hx13
              unfold rwv
              rw [hnv, hbv]
              have HNV := Lib.hid hnv
              have HBV := Lib.hid hbv
              clear hr13 hx13 hlk0 hlk1 hlk2 hlk3 c0 b1 b2 e2 e1 hnv hbv
              go_upto_region 31 with (fail)
              refine Wb.wp_at fun W14 hW14 => ?_
              obtain ⟨X3, hX3⟩ : ∃ X3, w13.heap.size = X3 := ⟨_, rfl⟩
              have hb14 : Wb.Ext w13 W14 := by rw [hW14]; (repeat' (first | (with_reducible assumption) | (with_reducible exact Wb.Ext.refl _) | (with_reducible refine Wb.Ext.drew ?_) | (with_reducible refine Wb.Ext.drewN ?_ _) | (with_reducible refine Wb.Ext.alloc ?_ _) | (with_reducible refine Wb.ext_set ?_ (by first | assumption | (simp; done) | (simp; omega) | omega) _) | (with_reducible refine Wb.Ext.trans ?_ (by assumption))))
              have x0 : W14.cell? ⟨X3, 0, none⟩ = some (.int .u32 r.p) := by rw [hW14, ← hX3]; simp [go_sem]
              have x1 : W14.cell? ⟨X3, 1, none⟩ = some (.int .i64 r.now.y) := by rw [hW14, ← hX3]; simp [go_sem]
              have x2 : W14.cell? ⟨X3, 2, none⟩ = some (.int .i64 r.now.i) := by rw [hW14, ← hX3]; simp [go_sem]
              have x3 : W14.cell? ⟨X3, 3, none⟩ = some (.slice na nn nc) := by rw [hW14, ← hX3]; simp [go_sem]
              have x4 : W14.cell? ⟨X3, 4, none⟩ = some (.slice ba bn bc) := by rw [hW14, ← hX3]; simp [go_sem]
              have x5 : W14.cell? ⟨X3, 5, none⟩ = some (.int .i64 r.due) := by rw [hW14, ← hX3]; simp [go_sem]
              have x6 : W14.cell? ⟨X3, 6, none⟩ = some (.int .i64 r.paid) := by rw [hW14, ← hX3]; simp [go_sem]
              have x7 : W14.cell? ⟨X3, 7, none⟩ = some (.int .i64 r.owed) := by rw [hW14, ← hX3]; simp [go_sem]
              have HL14 := Lib.hid (HL13.out.later hb14)
              have hXg : wO.heap.size ≤ X3 := by rw [← hX3]; exact HX13.out.size
              have HX14 := Lib.hid (HX13.out.trans hb14)
              have HB14 := Lib.hid hb14
              rw [hX3]
              clear hW14 hX3 hb14 HL13
              by_cases he : E = 0
              case neg =>
                have dd : (E == 0) = false := by simpa using he
                have dd2 : (E != 0) = true := by simpa using he
                have HP := Lib.hid (show ∀ w', Wb.Ext w w' → DoPost F0 B y i k S ss ks N w (.returned (.tuple #[BkV (.slice ra RL rc) mp mo, RnV 0 0 0 0 (.slice none 0 0), .int .i64 E])) w' from fun w' hx =>
                  do_err HBKF.out HPS.out (do_rows HE.out HHE.out (by
                    rw [HRG.out, HDR.out, Wb.rowsG, if_neg HYES.out, HROWG.out, HRW.out]
                    simp only [if_pos he, ne_eq]) he) hx)
                have b0 := HL14.out.at_.b0
                have b1 := HL14.out.at_.b1
                have b2 := HL14.out.at_.b2
                have o0 := HL14.out.at_.o0
                have o1 := HL14.out.at_.o1
                have o2 := HL14.out.at_.o2
                have q0 := HL14.out.at_.q0
                have q1 := HL14.out.at_.q1
                have q2 := HL14.out.at_.q2
                have q3 := HL14.out.at_.q3
                have q4 := HL14.out.at_.q4
                have fo := HL14.out.at_.fo
                have fq := HL14.out.at_.fq
                have hx := HL14.out.at_.ext
                have hlo := HL14.out.at_.lo
                have hlo2 : w.heap.size ≤ A := by omega
                clear he
                go_wp2
                rw [Exit.noGoto_ret]
                refine bodyPost_ret (v := .tuple #[BkV (.slice ra RL rc) mp mo, RnV 0 0 0 0 (.slice none 0 0), .int .i64 E]) (by simp [results, Tryz.results5, go_sem, BkV, RnV, o0, o1, o2, q0, q1, q2, q3, q4]) rfl (HP.out _ (by (repeat' (first | (with_reducible assumption) | (with_reducible exact Wb.Ext.refl _) | (with_reducible refine Wb.Ext.drew ?_) | (with_reducible refine Wb.Ext.drewN ?_ _) | (with_reducible refine Wb.Ext.alloc ?_ _) | (with_reducible refine Wb.ext_set ?_ (by first | assumption | (simp; done) | (simp; omega) | omega) _) | (with_reducible refine Wb.Ext.trans ?_ (by assumption))))))
              subst he
              obtain ⟨hrc, hri, hrf⟩ := HR13.out rfl
              have HRC := Lib.hid hrc
              have HRF := Lib.hid hrf
              have HLOWN := Lib.hid (show ∀ q, (Value.slice ga rows.length gc).ownBlock = some q → gl ≤ q ∧ q < wO.heap.size from fun q hq => HLP.out.own.lt q hq)
              have hgO : R + 4 ≤ gl ∧ gl ≤ wO.heap.size := ⟨HLP.out.hi.2, HLP.out.hi.1⟩
              clear hrc hri hrf HR13 HLP
              have r4 := HL14.out.r4
              have rf := HL14.out.rf
              have HIN := Lib.hid (info_parts infoRow)
              have HRWC := Lib.hid (show rwc r = [.int .u32 r.p, .int .i64 r.now.y, .int .i64 r.now.i, .slice na nn nc, .slice ba bn bc, .int .i64 r.due, .int .i64 r.paid, .int .i64 r.owed] by unfold rwc; rw [HNV.out, HBV.out])
              obtain ⟨hi, hz0, hz1, hz2⟩ := HIN.out.choose_spec
              go_upto_region 33 with (fail)
              go_wp2_with (at_builtin; go_loud (refine wpList_append_row2 rfl (.tmp 158) (.tmp 160) 29 rfl gl 54 _ rwZ 8 96 Tryz.underlying29 hi hz0 hz1 hz2 rfl (by decide) _ _ _ rfl (row_ext3 HL14.out.own ((Wb.Ext.refl _).alloc _)) _ rfl 1 [.int .u32 r.p, .int .i64 r.now.y, .int .i64 r.now.i, .slice na nn nc, .slice ba bn bc, .int .i64 r.due, .int .i64 r.paid, .int .i64 r.owed] ?c1 ?c2 ?c3 ?c4 ?c5 ?_))
              case c1 => exact src_lit _ _ (by simp) _ _ _
              case c2 => intro u hu; simp at hu; rcases hu with rfl | rfl | rfl | rfl | rfl | rfl | rfl | rfl <;> rfl
              case c3 => unfold maxLen; omega
              case c4 => omega
              case c5 => have := HL14.out.hi; simp; omega
              intro u2 w15 hown2 hg2 hblk
              obtain ⟨ua, uc, rfl⟩ := row_shape hown2
              rw [← HRWC.out] at hown2
              obtain ⟨W14a, hW14a⟩ : ∃ z, W14.alloc (.cells #[.int .u32 r.p, .int .i64 r.now.y, .int .i64 r.now.i, .slice na nn nc, .slice ba bn bc, .int .i64 r.due, .int .i64 r.paid, .int .i64 r.owed] 54) = z := ⟨_, rfl⟩
              have hxa : Wb.Ext W14 W14a := by rw [← hW14a]; exact .alloc (.refl _) _
              have hblk : (Value.slice ua (rows.length + 1) uc).ownBlock = (Value.slice ga rows.length gc).ownBlock ∨ (Value.slice ua (rows.length + 1) uc).ownBlock = some W14a.heap.size := by
                rw [show W14a.heap.size = W14.heap.size + 1 by rw [← hW14a]; simp]; exact hblk
              have hg2 : W14a.grownBy w15 (Value.slice ga rows.length gc).ownBlock := by rw [← hW14a]; exact hg2
              have hlp := (HL14.out.later hxa).push hown2 hg2 hblk (fun F w2 h2 f1 f2 => by
                refine HRF.out F w2 ((Kept.ext (HB14.out.trans hxa)).trans h2) (fun q hq => f2 q (by omega) (fun e => by have := (HLOWN.out q e).2; omega)) (fun s hs => ?_)
                exact ((HLBF.out w2 (Kept.since ((HL14.out.at_.ext).trans hxa) h2 (fun q hq h0 => f1 q (by have := HL14.out.at_.lo; omega) h0))).sls.2 s hs).1
                )
              have hX3s : X3 < W14a.heap.size := Nat.lt_of_lt_of_le (Wb.cell_size x0) hxa.size
              have kx : Kept (fun q => (Value.slice ga rows.length gc).ownBlock ≠ some q) W14a w15 := .grown hg2 (fun q e hq hne => hne e)
              have hX3o : (Value.slice ga rows.length gc).ownBlock ≠ some X3 := fun e => by have := (HLOWN.out _ e).2; omega
              have hRo : (Value.slice ga rows.length gc).ownBlock ≠ some R := fun e => by have := (HLOWN.out _ e).1; omega
              have hXR : ¬ X3 = R := by omega
              have hRX : ¬ R = X3 := by omega
              replace r4 := kx.cell hRo (hxa.keep r4)
              replace rf : ∀ j, w15.frozen? ⟨R, j, none⟩ = false := fun j => kx.frozen hRo (by have := hxa.size; have := HL14.out.hi; omega) ((hxa.cells.2 _ _ (by have := HL14.out.hi; omega)).trans (rf j))
              have HLP15 := Lib.hid hlp
              have x7' := kx.cell hX3o (hxa.keep x7)
              have hX3s := kx.size
              clear x0 x1 x2 x3 x4 x5 x6 x7 hi hz0 hz1 hz2 hg2 hown2 hblk hlp hxa hW14a HIN HRWC HRF HB14 HNV HBV kx
              go_upto_region 35 with (fail)
              refine Wb.wp_at fun W16 hW16 => ?_
              rw [← hW16] at HLP15
              have x7 : W16.cell? ⟨X3, 7, none⟩ = some (.int .i64 r.owed) := by
                rw [hW16, World.cell?_setCell_other _ _ _ _ (by intro e; injection e with e1 e2 _; omega)]
                exact x7'
              have u1 := HLP15.out.u1
              have hx16 := HLP15.out.at_.ext
              have hlk2 : (Instr.lookup 24 (.map ms) (.int .u32 p) false).run Tryz.prog W16.drew = .ok (.slice za LB.length zc) W16.drew := by
                have := KMapO.look (p := p) (HSM.out.map.ext hx16.drew) Tryz.underlying24 zeroSlips HOK.out
                rw [HLBV.out] at this; exact this
              have HCL1 := Lib.hid (show ∀ W, Wb.Ext W16 W → Calls Tryz.prog 25 #[.slice za LB.length zc] W fun e w' => ∃ ca cn cc D, e = .returned (.slice ca cn cc) ∧ w'.cell? ⟨R + 1 + 1 + 1, 1, none⟩ = some (.map (some (R + 1))) ∧ Hid (Wb.Ext W16 w') ∧ Hid (SlR W.heap.size w' (.slice ca cn cc) D ∧ D.map Wb.ct = LB.map Wb.ct ∧ (∀ s ∈ D, ∀ q, s.v.ownBlock = some q → W.heap.size ≤ q) ∧ W16.heap.size ≤ W.heap.size) from fun W hW => by
                refine (clone31_any _ LB W (HLB0.out.ext (hx16.trans hW))).mono ?_
                rintro e w' ⟨u, D, rfl, h1, h2, h3, h4⟩
                obtain ⟨ca, cc, rfl⟩ := row_shape h1.1
                exact ⟨ca, _, cc, D, rfl, (hW.trans h4).keep u1, Lib.hid (hW.trans h4), Lib.hid ⟨h1, h2, h3, hW.size⟩⟩)
              have HCL2 := Lib.hid (show ∀ (W w1 W2 : World) (ca : Option Addr) (cn cc : Nat) (D : List Wb.Sl), Wb.Ext W16 w1 → (SlR W.heap.size w1 (.slice ca cn cc) D ∧ D.map Wb.ct = LB.map Wb.ct ∧ (∀ s ∈ D, ∀ q, s.v.ownBlock = some q → W.heap.size ≤ q) ∧ W16.heap.size ≤ W.heap.size) → Wb.Ext w1 W2 → Calls Tryz.prog 24 #[.slice ca cn cc, .func (.func 23) #[] #[]] W2 fun e w' => ∃ va vn vc, e = .returned (.slice va vn vc) ∧ w'.cell? ⟨R + 1 + 1 + 1, 1, none⟩ = some (.map (some (R + 1))) ∧ ∃ w12, (Instr.mapUpdate 24 (.map (some (R + 1))) (.int .u32 p) (.slice va vn vc)).run Tryz.prog w' = .ok () w12 ∧
                  Hid (LpAt F0 w w12 A M R (n + s3.length) ra RL rc mp mo gP ps (.slice (some ⟨b, off, none⟩) ps.length tc) y i k B S (ks ++ ss) (N + j + 1) (N + j) ua gl uc (rows ++ [r]) (ps.take j ++ [p]) (rows.map RwM.c) ∧ w12.cell? ⟨X3, 7, none⟩ = some (.int .i64 r.owed)) from fun W w1 W2 ca cn cc D hE ⟨d1, d2, d3, d4⟩ hE2 => by
                have hDl : D.length = LB.length := by have := congrArg List.length d2; simpa using this
                refine (del31r_any W16 W2 w1 W.heap.size _ D d1 d4 hE2 hE (by omega)).mono ?_
                rintro e w' ⟨v, rfl, k1, k2, k3⟩
                obtain ⟨va, vc, rfl⟩ := k1.1.shape
                have hl := HLP15.out.later k3
                have hown := HLP15.out.own.lt
                have h4g := hl.hi
                have h4h := HLP15.out.hi
                have h4n := HLP15.out.ne
                obtain ⟨w12, hrun, hl2, hg12⟩ := hl.paid_run (p := p) (L := fullS D) HOK.out HWP.out (by unfold maxLen; omega) (u := .slice va (fullS D).length vc) (fun w2 h2 => ⟨h2.sls k1 (fun q hq => ⟨by have := k2 q hq; omega, fun e => by have := (hown q e).2; have := k2 q hq; omega, fun h => by have := k2 q hq; omega⟩) (fun s hs _ q hq => ⟨by have := d3 s (List.mem_filter.1 hs).1 q hq; omega, fun e => by have := (hown q e).2; have := d3 s (List.mem_filter.1 hs).1 q hq; omega, fun h => by have := d3 s (List.mem_filter.1 hs).1 q hq; omega⟩),
                  Nat.le_trans (List.length_filter_le _ _) (by omega), fun s hs => by
                    obtain ⟨t, ht, htc⟩ := List.mem_map.1 (d2 ▸ List.mem_map_of_mem (f := Wb.ct) (List.mem_filter.1 hs).1)
                    have e : t.l = s.l := congrArg (fun c : Int × Int × List Wb.Ln => c.2.2) htc
                    rw [← e]; exact HLB0.out.less t ht⟩) (by rw [full_ct, d2, HLBC.out])
                have hk12 : Kept (fun q => q ≠ R + 1) w' w12 := .grown hg12 (fun q e hq hne => by cases e; exact hne rfl)
                exact ⟨va, _, vc, rfl, k3.keep u1, w12, hrun, Lib.hid ⟨hl2, hk12.cell (by omega) (k3.keep x7)⟩⟩)
              clear hW16 r4 rf x7' hX3s
              go_cut [25] (fun v wx => v = .int .u32 p ∧ LpAt F0 w wx A M R (n + s3.length) ra RL rc mp mo gP ps (.slice (some ⟨b, off, none⟩) ps.length tc) y i k B S (ks ++ ss) (N + j + 1) (N + j) ua gl uc (rows ++ [r]) (ps.take j ++ [p]) (rows.map RwM.c) ∧ wx.cell? ⟨X3, 7, none⟩ = some (.int .i64 r.owed))
              case first =>
                go_wp2_with fail
                go_region_law (go_simp; first | (go_at_call 25; refine (HCL1.out _ (by (repeat' (first | (with_reducible assumption) | (with_reducible exact Wb.Ext.refl _) | (with_reducible refine Wb.Ext.drew ?_) | (with_reducible refine Wb.Ext.drewN ?_ _) | (with_reducible refine Wb.Ext.alloc ?_ _) | (with_reducible refine Wb.Ext.trans ?_ (by assumption)))))).mono ?_; rintro e w' ⟨ca, cn2, cc, D, rfl, k1, hE, hD⟩) | (go_at_call 24; refine (HCL2.out _ _ _ _ _ _ _ hE.out hD.out (by (repeat' (first | (with_reducible assumption) | (with_reducible exact Wb.Ext.refl _) | (with_reducible refine Wb.Ext.drew ?_) | (with_reducible refine Wb.Ext.drewN ?_ _) | (with_reducible refine Wb.Ext.alloc ?_ _) | (with_reducible refine Wb.Ext.trans ?_ (by assumption)))))).mono ?_; rintro e w'' ⟨va, vn, vc, rfl, k2, w12, hrun12, hRES⟩))
                all_goals go_wp2_with fail
                all_goals go_meet
                all_goals exact ⟨rfl, hRES.out.1, hRES.out.2⟩
              case rest =>
                obtain ⟨rfl, hlp, x7⟩ := hcut
                obtain ⟨w17, hwz⟩ : ∃ z, z = wc := ⟨_, rfl⟩
                subst hwz
                have u2 := hlp.u2
                have hrp : r.c.p = p := by rw [HRC.out]; exact rowG_p HRW.out
                obtain ⟨w18, hrun18, hl18, -⟩ := hlp.owed_run (p := p) (r := r.c) HOK.out HWP.out (by unfold maxLen; omega) hrp (fun t ht e => HPN.out (e ▸ HRP.out t ht))
                have hrun18 : (Instr.mapUpdate 25 (.map (some (R + 1 + 1))) (.int .u32 p) (.int .i64 r.owed)).run Tryz.prog w17 = .ok () w18 := hrun18
                have HLN := Lib.hid (show LpAt F0 w w18 A M R (n + s3.length) ra RL rc mp mo gP ps (.slice (some ⟨b, off, none⟩) ps.length tc) y i k B S (ks ++ ss) (N + (j + 1)) (N + (j + 1)) ua gl uc (rows ++ [r]) (ps.take (j + 1)) ((rows ++ [r]).map RwM.c) by
                  rw [HTK.out, List.map_append]; exact hl18)
                have HRN := Lib.hid (show Wb.rowsG (y, i) B S [] ps = Wb.rowsG (y, i) B S ((rows ++ [r]).map RwM.c) (ps.drop (j + 1)) by
                  rw [HRG.out, HDR.out, Wb.rowsG, if_neg HYES.out, HROWG.out, HRW.out, if_neg (by simp), List.map_append, ← HRC.out]; rfl)
                have HRPN := Lib.hid (show ∀ t ∈ (rows ++ [r]).map RwM.c, t.p ∈ ps.take (j + 1) from fun t ht => by
                  rw [HTK.out]
                  rw [List.map_append] at ht
                  rcases List.mem_append.1 ht with ht | ht
                  · exact List.mem_append_left _ (HRP.out t ht)
                  · obtain rfl : t = r.c := by simpa using ht
                    rw [hrp]; simp)
                have hlr : (rows ++ [r]).length ≤ j + 1 := by simp; omega
                have HLR := Lib.hid hlr
                clear hlp hrp hl18 hlr HLP15 HL14
                go_wp2
                go_roundw
                case rel => exact ⟨j + 1, ua, uc, rows ++ [r], by omega, by go_num, HLR.out, HRN, HRPN, HLN⟩
                case measure => first | (simp [intOf]; done) | (simp [intOf]; omega)
          · intro x v w2 cnt2 hok hfx hnr hrg2 hlt hg2 hs2 hen
            obtain ⟨L, hL, hLc⟩ := HSM2.out.each x
            rw [hfx] at hL
            obtain ⟨va, vc, rfl⟩ : ∃ a c, v = .slice a L.length c := slsK_shape hL
            replace hen : (Instr.entry (.pointer (some ⟨X2, 0, none⟩))).run Tryz.prog w2 = .ok (.tuple #[.int .u32 x, .slice va L.length vc]) w2 := hen
            obtain ⟨bb, hbb⟩ : ∃ bb, decide ((0 : Int) < (L.length : Int)) = bb := ⟨_, rfl⟩
            have hbn : decide (0 < L.length) = bb := by rw [← hbb]; simp
            have hbv : bb = !(B.paid x).isEmpty := by
              rw [← hbb, ← hLc]
              rcases L with _ | ⟨z, r⟩
              · rfl
              · simp
            have HM2 := Lib.hid (HM.out.kept hg2 (by intro e; injection e with e; omega))
            obtain ⟨bs, hbs⟩ : ∃ bs, (!(S x).isEmpty) = bs := ⟨_, rfl⟩
            have hlk : (Instr.lookup 64 (.map (some M)) (.int .u32 x) false).run Tryz.prog w2 = .ok (.bool bs) w2 := by
              have := KMapO.look (p := x) (KMap.opt HM2.out) Tryz.underlying64 zeroBool hok
              rw [← hbs, show Value.int .u32 x = kU32.v x from rfl]
              by_cases hp : x ∈ ss
              · simpa [hp, hnr] using this
              · have hse : S x = [] := by
                  by_cases e : S x = []
                  · exact e
                  · exact absurd (HW0.out.hand x e) hp
                simpa [hp, hnr, hse] using this
            obtain ⟨w3, hrun, hm3, hg3⟩ := HM2.out.update Tryz.underlying64 (by unfold maxLen; omega) hok (.bool (bs || bb))
            have hrun : (Instr.mapUpdate 64 (.map (some M)) (.int .u32 x) (.bool (bs || bb))).run Tryz.prog w2 = .ok () w3 := hrun
            have HM3 := Lib.hid (show KMap kU32 w3 M (n + (s3 ++ [x]).length) (.bool false) (fun p => if p ∈ ss ∨ p ∈ s3 ++ [x] then some (.bool (!(S p).isEmpty || (decide (p ∈ s3 ++ [x]) && !(B.paid p).isEmpty))) else none) by
              rw [List.length_append]
              refine KMap.congr hm3 fun p => ?_
              by_cases e : x = p
              · subst e; simp [← hbs, hbv]
              · rw [if_neg e]
                have e2 : ¬ p = x := fun h => e h.symm
                simp [e2])
            have HRG3 := Lib.hid (hrg2.kept hg3 (fun b hb e => by
              injection e with e
              have h1 := HSM2.out.map.lt b hb
              have h2 := HD.out.lo
              omega) (by intro e; injection e with e; omega))
            have HD3 := Lib.hid (show DoAt w w3 A ra RL rc mp mo from (HD.out.kept (F := fun i => i < A + 3) (.grown hg2 (fun b e => by cases e; omega)) (fun i h => h)).kept (F := fun i => i < A + 3) (.grown hg3 (fun b e => by cases e; omega)) (fun i h => h))
            have hlt3 := hlt
            have hl0 : kLeft mp X2 wO = cnt := HRG.out.left
            clear hm3 hg3 hg2 hs2 hrg2 hfx hnr hok hrg hlt hL hLc hbv hbs
            (try go_frame)
            rcases bs with _ | _
            · simp only [Bool.false_or] at hrun
              go_wp2
              go_roundw
              case rel => exact ⟨cnt2, s3 ++ [x], HRG3, by simp; omega, HM3, HD3⟩
              case measure => rw [HRG3.out.left, hl0]; exact hlt3
            · simp only [Bool.true_or] at hrun
              go_wp2
              go_roundw
              case rel => exact ⟨cnt2, s3 ++ [x], HRG3, by simp; omega, HM3, HD3⟩
              case measure => rw [HRG3.out.left, hl0]; exact hlt3
      · intro x v w2 cnt2 hok hfx hnr hrg2 hlt hg2 hs2 hen
        obtain ⟨L, hL, hLc⟩ := HSM.out.each x
        rw [hfx] at hL
        obtain ⟨va, vc, rfl⟩ : ∃ a c, v = .slice a L.length c := slsK_shape hL
        replace hen : (Instr.entry (.pointer (some ⟨X, 0, none⟩))).run Tryz.prog w2 = .ok (.tuple #[.int .u32 x, .slice va L.length vc]) w2 := hen
        obtain ⟨bb, hbb⟩ : ∃ bb, decide ((0 : Int) < (L.length : Int)) = bb := ⟨_, rfl⟩
        have hbn : decide (0 < L.length) = bb := by rw [← hbb]; simp
        have hbv : bb = !(S x).isEmpty := by
          rw [← hbb, ← hLc]
          rcases L with _ | ⟨z, r⟩
          · rfl
          · simp
        obtain ⟨w3, hrun, hm3, hg3⟩ := (HM.out.kept hg2 (by intro e; injection e with e; omega)).update Tryz.underlying64 (by unfold maxLen; omega) hok (.bool bb)
        have hrun : (Instr.mapUpdate 64 (.map (some M)) (.int .u32 x) (.bool bb)).run Tryz.prog w2 = .ok () w3 := hrun
        have HM3 := Lib.hid (show KMap kU32 w3 M (s2 ++ [x]).length (.bool false) (fun p => if p ∈ s2 ++ [x] then some (.bool (!(S p).isEmpty)) else none) by
          rw [List.length_append]
          refine KMap.congr hm3 fun p => ?_
          by_cases e : x = p
          · subst e; simp [hbv]
          · rw [if_neg e]
            have e2 : ¬ p = x := fun h => e h.symm
            simp [e2])
        have HRG3 := Lib.hid (hrg2.kept hg3 (fun b hb e => by
          injection e with e
          have h1 := HSM.out.map.lt b hb
          have h2 := HD.out.lo
          omega) (by intro e; injection e with e; omega))
        have HD3 := Lib.hid (show DoAt w w3 A ra RL rc mp mo from (HD.out.kept (F := fun i => i < A + 3) (.grown hg2 (fun b e => by cases e; omega)) (fun i h => h)).kept (F := fun i => i < A + 3) (.grown hg3 (fun b e => by cases e; omega)) (fun i h => h))
        have hlt3 := hlt
        have hl0 : kLeft ms X wO = cnt := HRG.out.left
        clear hm3 hg3 hg2 hs2 hrg2 hfx hnr hok hrg hlt hL hLc hbv
        (try go_frame)
        go_wp2
        go_roundw
        case rel => exact ⟨cnt2, s2 ++ [x], HRG3, by simp; omega, HM3, HD3⟩
        case measure => rw [HRG3.out.left, hl0]; exact hlt3
end Go.Proofs.YtnefdpnolojojaaGreatDoor
