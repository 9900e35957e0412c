/- Chapter 27: the reference's cut, number, head and Words. -/
import Derived.Test.YtpiedhjjpmmomaaDoorSlip21
import Derived.Test.YtpiedhjjpmmomaaDoorRows0
import Derived.Deep.RegionHeld3
namespace Go.Proofs.YtpiedhjjpmmomaaDoor
open Go.RowKit
set_option maxRecDepth 4000

def strs (l : List (List UInt8)) : List Value := l.map fun a => .string (Wb.S a)
theorem strs_get {l : List (List UInt8)} {j : Nat} {a : List UInt8} (h : l[j]? = some a) : (strs l)[j]? = some (.string (Wb.S a)) := by simp [strs, h]
theorem infoStr : (Tryd.prog.info? 9).map (fun i => (i.zero, i.size, i.bytes)) = some (some (.string ByteArray.empty), 1, 16) := by kernel_rfl
theorem strs_of_row {w : World} {base n : Nat} {v : Value} {l : List (List UInt8)} (h : w.ownsRow base 9 1 v n (strs l)) (hl : l ≠ []) : ∃ g cap, v = .slice (some ⟨g, 0, none⟩) l.length cap ∧ Strs w g 0 l := by
  have hn : n = l.length := by have := h.1; simp [strs] at this; omega
  subst hn
  have hv : v ≠ .slice none 0 0 := by
    intro e; subst e
    obtain ⟨_, h2 | ⟨g, cap, cur, hv, _⟩⟩ := h
    · exact hl (List.length_eq_zero_iff.1 h2.2)
    · cases hv
  obtain ⟨g, cap, rfl, _, _, _, hc⟩ := Wb.ownsRow_at h hv
  exact ⟨g, cap, rfl, fun j a hj => by rw [Nat.zero_add]; exact hc _ _ (strs_get hj)⟩
theorem src_one (w : World) (n : Nat) (hn : n = w.heap.size) (x : Value) (T : TypeId) (c : Nat) : Wb.SrcRow (w.alloc (.cells #[x] T)) 1 (.slice (some ⟨n, 0, none⟩) 1 c) 1 [x] := by
  subst hn
  refine ⟨rfl, .inr ⟨_, _, rfl, fun j u hj => ?_⟩⟩
  match j, hj with
  | 0, hj => simp at hj; subst hj; simp [go_sem, Addr.add]
  | j + 1, hj => simp at hj
theorem row_shape1 {w : World} {base e n : Nat} {v : Value} {xs : List Value} (h : w.ownsRow base e 1 v n xs) : ∃ a c, v = .slice a n c := by
  obtain ⟨h1, h2 | ⟨g, cap, cur, hv, _⟩⟩ := h
  · have : n = 0 := by rw [h2.2] at h1; simp at h1; omega
    subst this; exact ⟨_, _, h2.1⟩
  · exact ⟨_, _, hv⟩

/-! ### cut, plain -/
theorem cut_hit {c : UInt8} {s : List UInt8} {done : List (List UInt8)} {f k : Nat} (h : Wb.splitOn c s = done ++ Wb.splitOn c (s.drop f)) (hn : c ∉ (s.drop f).take (k - f)) (hf : f ≤ k) (hk : k < s.length) (hb : Wb.byteAt s k = c) :
    Wb.splitOn c s = (done ++ [(s.drop f).take (k - f)]) ++ Wb.splitOn c (s.drop (k + 1)) := by
  have e : s.drop f = (s.drop f).take (k - f) ++ c :: s.drop (k + 1) := by
    have h1 := List.take_append_drop (k - f) (s.drop f)
    rw [List.drop_drop, show f + (k - f) = k by omega, List.drop_eq_getElem_cons hk, ← Wb.byteAt_eq hk, hb] at h1
    exact h1.symm
  rw [h]
  conv => lhs; rw [e, Wb.splitOn_hit hn]
  simp
theorem cut_more {c : UInt8} {s : List UInt8} {f k : Nat} (hn : c ∉ (s.drop f).take (k - f)) (hf : f ≤ k) (hk : k < s.length) (hb : Wb.byteAt s k ≠ c) : c ∉ (s.drop f).take (k + 1 - f) := by
  have hl : k - f < (s.drop f).length := by simp; omega
  rw [show k + 1 - f = k - f + 1 by omega, List.take_succ_eq_append_getElem hl]
  intro hc
  rcases List.mem_append.1 hc with hc | hc
  · exact hn hc
  · simp at hc
    apply hb
    rw [Wb.byteAt_eq hk, hc]
    congr 1; omega
theorem cut_end {c : UInt8} {s : List UInt8} {done : List (List UInt8)} {f : Nat} (h : Wb.splitOn c s = done ++ Wb.splitOn c (s.drop f)) (hn : c ∉ (s.drop f).take (s.length - f)) : Wb.splitOn c s = done ++ [(s.drop f).take (s.length - f)] := by
  have e : (s.drop f).take (s.length - f) = s.drop f := List.take_of_length_le (by simp)
  rw [e] at hn ⊢
  rw [h, Wb.splitOn_miss hn]

set_option maxHeartbeats 1000000 in
theorem rcut_any (s : List UInt8) (c : UInt8) (hs : s.length < 4294967281) (w : World) :
    Calls Tryd.prog 41 #[.string (Wb.S s), .int .u8 (c.toNat : Int)] w fun e w' => ∃ g cap, e = .returned (.slice (some ⟨g, 0, none⟩) (Wb.splitOn c s).length cap) ∧ Strs w' g 0 (Wb.splitOn c s) ∧ Wb.Ext w w' := by
  obtain ⟨i0, hi, hz0, hz1, hz2⟩ := info_parts infoStr
  have HIN := Lib.hid (show Tryd.prog.info? 9 = some i0 ∧ i0.zero = some (.string ByteArray.empty) ∧ i0.size = 1 ∧ i0.bytes = 16 from ⟨hi, hz0, hz1, hz2⟩)
  clear hi hz0 hz1 hz2
  have hcl : (Wb.splitOn c s).length ≤ 4294967281 := by rw [Wb.splitOn_len]; have := List.count_le_length (a := c) (l := s); omega
  have HCL := Lib.hid hcl; clear hcl
  go_enter Tryd.func41, Tryd.ntmps41
  go_wp2
  go_loopw [5, 6, 7] (fun ov fv iv wr => ∃ (k f : Nat) (done : List (List UInt8)), iv = .int .i64 k ∧ fv = .int .i64 f ∧ wr.ownsRow w.heap.size 9 1 ov done.length (strs done) ∧ Wb.Ext w wr ∧ done.length ≤ 4294967281 ∧ ((k ≤ s.length ∧ f ≤ k ∧ Wb.splitOn c s = done ++ Wb.splitOn c (s.drop f) ∧ c ∉ (s.drop f).take (k - f)) ∨ (k = s.length + 1 ∧ Wb.splitOn c s = done))) (fun _ _ iv _ => s.length + 1 - (intOf iv).toNat)
  case atStart => exact ⟨0, 0, [], rfl, rfl, World.ownsRow_nil _ _ _ _, by (repeat' (first | (with_reducible assumption) | (with_reducible exact Wb.Ext.refl _) | (with_reducible refine Wb.Ext.drew ?_) | (with_reducible refine Wb.Ext.drewN ?_ _) | (with_reducible refine Wb.Ext.alloc ?_ _) | (with_reducible refine Wb.Ext.trans ?_ (by assumption)))), by simp, .inl ⟨by omega, by omega, by simp, by simp⟩⟩
  case round =>
    obtain ⟨k, f, done, rfl, rfl, hown, hext, hdl, hr⟩ := hrel
    obtain ⟨oa, oc, rfl⟩ := row_shape1 hown
    have HO := Lib.hid hown; clear hown
    rcases hr with ⟨hk, hf, hsp, hno⟩ | ⟨hk, hsp⟩
    · have HSP := Lib.hid hsp
      have HNO := Lib.hid hno
      have hdl2 : done.length + 1 ≤ 4294967281 := by
        have h1 := congrArg List.length hsp
        have h2 := List.length_pos_iff.2 (Wb.splitOn_pos c (s.drop f))
        have h3 := HCL.out
        rw [List.length_append] at h1
        omega
      clear hsp hno
      by_cases hlt : k < s.length
      · have hke : ((k : Int) == s.length) = false := by simp; omega
        have hki : (k : Int) ≤ s.length := by omega
        have hlti : (k : Int) < s.length := by omega
        have hfi : (f : Int) ≤ k := by omega
        obtain ⟨b, hb⟩ : ∃ b, Wb.byteAt s k = b := ⟨_, rfl⟩
        have HB := Lib.hid hb; clear hb
        cases hbc : ((b.toNat : Int) == (c.toNat : Int))
        · have hne : Wb.byteAt s k ≠ c := by rw [HB.out]; intro e; subst e; simp at hbc
          have HM := Lib.hid (cut_more HNO.out hf hlt hne)
          clear hne
          have hbb := HB.out
          go_wp2
          go_roundw
          case rel => exact ⟨k + 1, f, done, by go_num, rfl, HO.out, by (repeat' (first | (with_reducible assumption) | (with_reducible exact Wb.Ext.refl _) | (with_reducible refine Wb.Ext.drew ?_) | (with_reducible refine Wb.Ext.drewN ?_ _) | (with_reducible refine Wb.Ext.alloc ?_ _) | (with_reducible refine Wb.Ext.trans ?_ (by assumption)))), by omega, .inl ⟨by omega, by omega, HSP.out, HM.out⟩⟩
          case measure => simp [intOf]; omega
        · have heq : Wb.byteAt s k = c := by rw [HB.out]; exact UInt8.toNat_inj.1 (by have := beq_iff_eq.1 hbc; omega)
          have HH := Lib.hid (cut_hit HSP.out HNO.out hf hlt heq)
          clear heq
          have hbb := HB.out
          obtain ⟨hi1, hi2, hi3, hi4⟩ := HIN.out
          go_wp2_with (at_builtin; (refine Wb.wpList_append_row rfl (.tmp 25) (.tmp 30) 58 rfl w.heap.size 9 i0 (.string ByteArray.empty) 1 16 Tryd.underlying58 hi1 hi2 hi3 hi4 rfl (by decide) _ _ _ rfl (HO.out.alloc _) (.slice (some ⟨wr.heap.size, 0, none⟩) 1 1) rfl 1 [.string (Wb.S ((s.drop f).take (k - f)))] (src_one _ _ (by simp) _ _ _) (by intro r hr; simp at hr; subst hr; rfl) (by unfold maxLen; omega) (by omega) (by have := hext.size; simp; omega) ?_); intro ov2 w4 hown4 hg4 _; obtain ⟨na, nc, rfl⟩ := row_shape1 hown4)
          have hE4 : Wb.Ext w w4 := Wb.Ext.grown (hext.alloc _) hg4 (fun r hr => by have := HO.out.lt r hr; omega)
          have HO4 := Lib.hid hown4
          clear hown4 hg4 hi1 hi2 hi3 hi4
          go_wp2
          go_roundw
          case rel => exact ⟨k + 1, k + 1, done ++ [(s.drop f).take (k - f)], by go_num, by go_num, by simpa [strs] using HO4.out, by (repeat' (first | (with_reducible assumption) | (with_reducible exact Wb.Ext.refl _) | (with_reducible refine Wb.Ext.drew ?_) | (with_reducible refine Wb.Ext.drewN ?_ _) | (with_reducible refine Wb.Ext.alloc ?_ _) | (with_reducible refine Wb.Ext.trans ?_ (by assumption)))), by simp; omega, .inl ⟨by omega, by omega, HH.out, by simp⟩⟩
          case measure => simp [intOf]; omega
      · have hkl : k = s.length := by omega
        have hke : ((k : Int) == s.length) = true := by simp [hkl]
        have hki : (k : Int) ≤ s.length := by omega
        have hfi : (f : Int) ≤ k := by omega
        have HH := Lib.hid (show Wb.splitOn c s = done ++ [(s.drop f).take (k - f)] by rw [hkl]; exact cut_end HSP.out (by have := HNO.out; rwa [hkl] at this))
        have HKL := Lib.hid hkl
        clear hkl
        obtain ⟨hi1, hi2, hi3, hi4⟩ := HIN.out
        go_wp2_with (at_builtin; (refine Wb.wpList_append_row rfl (.tmp 25) (.tmp 30) 58 rfl w.heap.size 9 i0 (.string ByteArray.empty) 1 16 Tryd.underlying58 hi1 hi2 hi3 hi4 rfl (by decide) _ _ _ rfl (HO.out.alloc _) (.slice (some ⟨wr.heap.size, 0, none⟩) 1 1) rfl 1 [.string (Wb.S ((s.drop f).take (k - f)))] (src_one _ _ (by simp) _ _ _) (by intro r hr; simp at hr; subst hr; rfl) (by unfold maxLen; omega) (by omega) (by have := hext.size; simp; omega) ?_); intro ov2 w4 hown4 hg4 _; obtain ⟨na, nc, rfl⟩ := row_shape1 hown4)
        have hE4 : Wb.Ext w w4 := Wb.Ext.grown (hext.alloc _) hg4 (fun r hr => by have := HO.out.lt r hr; omega)
        have HO4 := Lib.hid hown4
        clear hown4 hg4 hi1 hi2 hi3 hi4
        go_wp2
        go_roundw
        case rel => exact ⟨k + 1, k + 1, done ++ [(s.drop f).take (k - f)], by go_num, by go_num, by simpa [strs] using HO4.out, by (repeat' (first | (with_reducible assumption) | (with_reducible exact Wb.Ext.refl _) | (with_reducible refine Wb.Ext.drew ?_) | (with_reducible refine Wb.Ext.drewN ?_ _) | (with_reducible refine Wb.Ext.alloc ?_ _) | (with_reducible refine Wb.Ext.trans ?_ (by assumption)))), by simp; omega, .inr ⟨by rw [HKL.out], HH.out⟩⟩
        case measure => simp [intOf]; omega
    · have hki : (s.length : Int) < k := by omega
      have hkd : decide ((k : Int) ≤ s.length) = false := by simp; omega
      have hdn : done ≠ [] := by rw [← hsp]; exact Wb.splitOn_pos c s
      obtain ⟨g, cap, hv, hst⟩ := strs_of_row HO.out hdn
      have HV := Lib.hid hv
      have HSP := Lib.hid hsp
      have HST := Lib.hid hst
      clear hv hsp hst hk
      go_wp2
      go_ret
      exact ⟨g, cap, by rw [HSP.out]; exact congrArg Ending.returned HV.out, by rw [HSP.out]; exact HST.out, hext⟩

/-- what the reference's 'number' comes to -/
def rnum (s : List UInt8) : Int := if Wb.numOk 1 s = true then (Wb.val s : Int) else -1
theorem numOk_bad1 {j : Nat} {s : List UInt8} (hj : j < s.length) (h : Wb.isDg (Wb.byteAt s j) = false) : Wb.numOk 1 s = false := numOk_bad hj h

set_option maxHeartbeats 1000000 in
theorem rnumber_any (s : List UInt8) (w : World) :
    Calls Tryd.prog 57 #[.string (Wb.S s)] w fun e w' => e = .returned (.int .i64 (rnum s)) ∧ w = w' := by
  by_cases h1 : s.length = 0
  · have H := Lib.hid (show rnum s = -1 by rw [rnum, if_neg]; intro h; have := (Wb.numOk_iff.1 h).1; omega)
    have d1 : ((s.length : Int) == 0) = true := by rw [h1]; rfl
    clear h1
    go_enter Tryd.func57, Tryd.ntmps57
    go_wp2
    go_ret
    exact ⟨by rw [H.out]; rfl, rfl⟩
  · have d1 : ((s.length : Int) == 0) = false := by rw [beq_eq_false_iff_ne]; omega
    by_cases h2 : 7 < s.length
    · have H := Lib.hid (show rnum s = -1 by rw [rnum, if_neg]; intro h; have := (Wb.numOk_iff.1 h).2.1; omega)
      have h2i : (7 : Int) < s.length := by omega
      go_enter Tryd.func57, Tryd.ntmps57
      go_wp2
      go_ret
      exact ⟨by rw [H.out]; rfl, rfl⟩
    · have d2 : decide ((7 : Int) < s.length) = false := by simp; omega
      go_enter Tryd.func57, Tryd.ntmps57
      go_wp2
      go_loop [3, 4] (fun n i => ∃ j : Nat, j ≤ s.length ∧ i = .int .i64 j ∧ n = .int .i64 (Wb.val (s.take j)) ∧ Wb.val (s.take j) < 10 ^ j ∧ ∀ b ∈ s.take j, Wb.Dg b) (fun _ i => s.length - (intOf i).toNat)
      case atStart => exact ⟨0, by omega, rfl, rfl, by simp [Wb.val], by simp⟩
      case round =>
        obtain ⟨j, hj, rfl, rfl, hv, hall⟩ := hrel
        have HA := Lib.hid hall; clear hall
        have hv7 : Wb.val (s.take j) < 10000000 := Nat.lt_of_lt_of_le hv (Nat.pow_le_pow_right (by omega) (show j ≤ 7 by omega))
        have HV := Lib.hid hv; clear hv
        by_cases hlt : j < s.length
        · obtain ⟨b, hb⟩ : ∃ b, Wb.byteAt s j = b := ⟨_, rfl⟩
          have HTK := Lib.hid (Wb.take_byte hlt)
          rw [hb] at HTK
          have hb8 : (b.toNat : Int) < 256 := by have := b.toNat_lt; omega
          by_cases h48 : (b.toNat : Int) < 48
          · have H := Lib.hid (show rnum s = -1 by rw [rnum, if_neg]; rw [numOk_bad1 hlt (by rw [hb]; simp [Wb.isDg]; omega)]; simp)
            go_wp2
            go_ret
            exact ⟨by rw [H.out]; rfl, rfl⟩
          · have d48 : decide ((b.toNat : Int) < 48) = false := by simpa using h48
            by_cases h57 : 57 < (b.toNat : Int)
            · have H := Lib.hid (show rnum s = -1 by rw [rnum, if_neg]; rw [numOk_bad1 hlt (by rw [hb]; simp [Wb.isDg]; omega)]; simp)
              go_wp2
              go_ret
              exact ⟨by rw [H.out]; rfl, rfl⟩
            · have d57 : decide (57 < (b.toNat : Int)) = false := by simpa using h57
              have HVS := Lib.hid (show ((Wb.val (s.take (j + 1)) : Nat) : Int) = 10 * (Wb.val (s.take j) : Int) + ((b.toNat : Int) - 48) by rw [HTK.out, Wb.val_snoc]; omega)
              have hdg : Wb.Dg b := ⟨by omega, by omega⟩
              have HDG := Lib.hid hdg; clear hdg
              have HP := Lib.hid (show Wb.val (s.take (j + 1)) < 10 ^ (j + 1) by have h1 := HVS.out; have h2 := HV.out; rw [Nat.pow_succ]; omega)
              go_wp2
              go_round
              case rel => exact ⟨j + 1, by omega, by go_num, by rw [HVS.out], HP.out, fun q hq => by rw [HTK.out] at hq; rcases List.mem_append.1 hq with hq | hq; exact HA.out q hq; simp at hq; rw [hq]; exact HDG.out⟩
              case measure => simp [intOf]; omega
        · have H := Lib.hid (show rnum s = (Wb.val (s.take j) : Int) by
            have h := HA.out
            rw [List.take_of_length_le (by omega)] at h ⊢
            rw [rnum, if_pos (Wb.numOk_iff.2 ⟨by omega, by omega, h⟩)])
          go_wp2
          go_ret
          exact ⟨by rw [H.out]; rfl, rfl⟩

theorem words_any (w : World) :
    Calls Tryd.prog 43 #[] w fun e w' => e = .returned (.slice (some ⟨w.heap.size, 0, none⟩) 7 7) ∧ Strs w' w.heap.size 0 wordsL ∧ Wb.Ext w w' := by
  go_enter Tryd.func43, Tryd.ntmps43
  go_wp2
  go_ret
  refine ⟨rfl, fun j a hj => ?_, by (repeat' (first | (with_reducible assumption) | (with_reducible exact Wb.Ext.refl _) | (with_reducible refine Wb.Ext.drew ?_) | (with_reducible refine Wb.Ext.drewN ?_ _) | (with_reducible refine Wb.Ext.alloc ?_ _) | (with_reducible refine Wb.Ext.trans ?_ (by assumption))))⟩
  match j, hj with
  | 0, hj => simp [wordsL] at hj; subst hj; simp [go_sem, Wb.S]
  | 1, hj => simp [wordsL] at hj; subst hj; simp [go_sem, Wb.S]
  | 2, hj => simp [wordsL] at hj; subst hj; simp [go_sem, Wb.S]
  | 3, hj => simp [wordsL] at hj; subst hj; simp [go_sem, Wb.S]
  | 4, hj => simp [wordsL] at hj; subst hj; simp [go_sem, Wb.S]
  | 5, hj => simp [wordsL] at hj; subst hj; simp [go_sem, Wb.S]
  | 6, hj => simp [wordsL] at hj; subst hj; simp [go_sem, Wb.S]
  | j + 7, hj => simp [wordsL] at hj

end Go.Proofs.YtpiedhjjpmmomaaDoor
