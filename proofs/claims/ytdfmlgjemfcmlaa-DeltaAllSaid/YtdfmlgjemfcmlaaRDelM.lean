/- Several texts in one. -/
import Derived.Test.YtdfmlgjemfcmlaaRDel5
import Derived.Test.YtdfmlgjemfcmlaaRDel4
import Derived.Deep.RegionHeld3
import Derived.Deep.DeepCutAuto
/- The reference of chapter 29: before, list, heads. -/
namespace Go.Proofs.Ytdfmlgjemfcmlaa
open Go.RowKit Go.Lib
set_option maxRecDepth 8000
attribute [local go_sem ↓] Go.wp_at_zero Go.wp_at_succ

theorem rbefore_any (y i : Int) (a : Option Addr) (n c : Nat) (y' i' : Int) (a' : Option Addr) (n' c' : Nat) (w : World) :
    Calls Try.prog 68 #[SlV y i (.slice a n c), SlV y' i' (.slice a' n' c')] w fun e w' => e = .returned (.bool (prLt (y, i) (y', i'))) ∧ Wb.Ext w w' := by
  by_cases h1 : y < y'
  · have d : decide (y < y') = true := by simpa using h1
    have H := Lib.hid (show prLt (y, i) (y', i') = true by rw [prLt_iff]; exact .inl h1)
    clear h1
    go_enter Try.func68, Try.ntmps68
    go_wp2
    go_ret
    exact ⟨Wb.ret_bool H.out.symm, by (repeat' (first | (with_reducible assumption) | (with_reducible exact Wb.Ext.refl _) | (with_reducible refine Wb.Ext.drew ?_) | (with_reducible refine Wb.Ext.drewN ?_ _) | (with_reducible refine Wb.Ext.alloc ?_ _) | (with_reducible refine Wb.Ext.trans ?_ (by assumption))))⟩
  have d : decide (y < y') = false := by simpa using h1
  by_cases h2 : y = y'
  · have d2 : (y == y') = true := by simpa using h2
    obtain ⟨q, hq⟩ : ∃ q, decide (i < i') = q := ⟨_, rfl⟩
    have H := Lib.hid (show prLt (y, i) (y', i') = q by rw [← hq]; simp [prLt, d, d2])
    clear h1 h2
    go_enter Try.func68, Try.ntmps68
    go_wp2
    go_ret
    exact ⟨Wb.ret_bool (by first | exact H.out.symm | (rw [H.out]; exact hq) | (rw [H.out])), by (repeat' (first | (with_reducible assumption) | (with_reducible exact Wb.Ext.refl _) | (with_reducible refine Wb.Ext.drew ?_) | (with_reducible refine Wb.Ext.drewN ?_ _) | (with_reducible refine Wb.Ext.alloc ?_ _) | (with_reducible refine Wb.Ext.trans ?_ (by assumption))))⟩
  · have d2 : (y == y') = false := by simpa using h2
    have H := Lib.hid (show prLt (y, i) (y', i') = false by simp [prLt, d, d2])
    clear h1 h2
    go_enter Try.func68, Try.ntmps68
    go_wp2
    go_ret
    exact ⟨Wb.ret_bool H.out.symm, by (repeat' (first | (with_reducible assumption) | (with_reducible exact Wb.Ext.refl _) | (with_reducible refine Wb.Ext.drew ?_) | (with_reducible refine Wb.Ext.drewN ?_ _) | (with_reducible refine Wb.Ext.alloc ?_ _) | (with_reducible refine Wb.Ext.trans ?_ (by assumption))))⟩

set_option maxHeartbeats 4000000 in
theorem rlist_any (v : Value) (L : List Wb.Sl) (w : World) (hL : SlsB w v L) (hl : L.length ≤ 9223372036854775807) :
    Calls Try.prog 48 #[v] w fun e w' => e = .returned (.int .i64 (Wb.listE L)) ∧ Wb.Ext w w' := by
  obtain ⟨va, vc, rfl⟩ := hL.1.shape
  have HL := Lib.hid hL
  clear hL
  by_cases hmany : 4096 < L.length
  · have d : decide ((4096 : Int) < (L.length : Int)) = true := by simp; omega
    have HE := Lib.hid (show Wb.listE L = 5 by rw [Wb.listE, if_pos hmany])
    go_enter Try.func48, Try.ntmps48
    go_wp2
    go_ret
    exact ⟨Wb.ret_int HE.out.symm, by (repeat' (first | (with_reducible assumption) | (with_reducible exact Wb.Ext.refl _) | (with_reducible refine Wb.Ext.drew ?_) | (with_reducible refine Wb.Ext.drewN ?_ _) | (with_reducible refine Wb.Ext.alloc ?_ _) | (with_reducible refine Wb.Ext.trans ?_ (by assumption))))⟩
  have d : decide ((4096 : Int) < (L.length : Int)) = false := by simp; omega
  have hl2 : L.length ≤ 4096 := by omega
  have HS := Lib.hid (HL.out.2 hl2)
  have HLE := Lib.hid (show Wb.listE L = Wb.tabE none L by rw [Wb.listE, if_neg hmany])
  clear hmany HL
  go_enter Try.func48, Try.ntmps48
  go_wp2_with fail
  go_loopw [3] (fun iv wr => ∃ k : Nat, k ≤ L.length ∧ iv = .int .i64 k ∧ Hid (Wb.tabE none L = Wb.tabE (Wb.prevP L k) (L.drop k)) ∧ Wb.Ext w wr) (fun iv _ => L.length - (intOf iv).toNat)
  case atStart => exact ⟨0, Nat.zero_le _, rfl, Lib.hid rfl, by (repeat' (first | (with_reducible assumption) | (with_reducible exact Wb.Ext.refl _) | (with_reducible refine Wb.Ext.drew ?_) | (with_reducible refine Wb.Ext.drewN ?_ _) | (with_reducible refine Wb.Ext.alloc ?_ _) | (with_reducible refine Wb.Ext.trans ?_ (by assumption))))⟩
  case round =>
    obtain ⟨k, hk, rfl, HT, hxr⟩ := hrel
    by_cases hlt : k < L.length
    case neg =>
      obtain rfl : k = L.length := by omega
      have HE := Lib.hid (show Wb.listE L = 0 by rw [HLE.out, HT.out, List.drop_length, Wb.tabE])
      go_wp2
      go_ret
      exact ⟨Wb.ret_int HE.out.symm, by (repeat' (first | (with_reducible assumption) | (with_reducible exact Wb.Ext.refl _) | (with_reducible refine Wb.Ext.drew ?_) | (with_reducible refine Wb.Ext.drewN ?_ _) | (with_reducible refine Wb.Ext.alloc ?_ _) | (with_reducible refine Wb.Ext.trans ?_ (by assumption))))⟩
    obtain ⟨x, hx⟩ := Wb.get_ex hlt
    have hmem := List.mem_of_getElem? hx
    have HSr := Lib.hid (HS.out.ext hxr)
    obtain ⟨b, off, rfl, c0, c1, c2⟩ := HSr.out.cells hx
    obtain ⟨xa, xc, hxv⟩ := (HSr.out.2 x hmem).1.1.shape
    rw [hxv] at c2
    have HLN : Hid (Lns wr (.slice xa x.l.length xc) x.l) := Lib.hid (by rw [← hxv]; exact (HSr.out.2 x hmem).1.1)
    have HSZ := Lib.hid (HSr.out.2 x hmem).2
    have hki : (k : Int) < L.length := by omega
    have HX := Lib.hid hx
    have HDR := Lib.hid (drop_at hx)
    clear hx hxv hmem
    obtain ⟨E, hE⟩ : ∃ E, Wb.check x.y x.i x.l = E := ⟨_, rfl⟩
    have HEE := Lib.hid hE
    clear hE
    go_wp2_with fail
    go_fit (rcheck_any x.y x.i _ x.l _ (HLN.out.ext (by (repeat' (first | (with_reducible assumption) | (with_reducible exact Wb.Ext.refl _) | (with_reducible refine Wb.Ext.drew ?_) | (with_reducible refine Wb.Ext.drewN ?_ _) | (with_reducible refine Wb.Ext.alloc ?_ _) | (with_reducible refine Wb.Ext.trans ?_ (by assumption)))))) HSZ.out); rintro e w2 ⟨rfl, hb2⟩
    rw [HEE.out]
    have hb2 : Wb.Ext wr w2 := Wb.Ext.trans (by (repeat' (first | (with_reducible assumption) | (with_reducible exact Wb.Ext.refl _) | (with_reducible refine Wb.Ext.drew ?_) | (with_reducible refine Wb.Ext.drewN ?_ _) | (with_reducible refine Wb.Ext.alloc ?_ _) | (with_reducible refine Wb.Ext.trans ?_ (by assumption))))) hb2
    have c0 := hb2.keep c0
    have c1 := hb2.keep c1
    have c2 := hb2.keep c2
    have hx2 : Wb.Ext w w2 := hxr.trans hb2
    clear hb2
    by_cases hz : E = 0
    case neg =>
      have d1 : (E != 0) = true := by simpa using hz
      have d2 : (E == 0) = false := by simpa using hz
      have HE := Lib.hid (show Wb.listE L = E by rw [HLE.out, HT.out, HDR.out, Wb.tab_bad (by rw [HEE.out]; exact hz), HEE.out])
      clear hz
      go_wp2
      go_ret
      exact ⟨Wb.ret_int HE.out.symm, by (repeat' (first | (with_reducible assumption) | (with_reducible exact Wb.Ext.refl _) | (with_reducible refine Wb.Ext.drew ?_) | (with_reducible refine Wb.Ext.drewN ?_ _) | (with_reducible refine Wb.Ext.alloc ?_ _) | (with_reducible refine Wb.Ext.trans ?_ (by assumption))))⟩
    subst hz
    by_cases hk0 : k = 0
    · have HTN := Lib.hid (show Wb.tabE none L = Wb.tabE (Wb.prevP L (k + 1)) (L.drop (k + 1)) by rw [HT.out, HDR.out, Wb.prevP_succ HX.out, show Wb.prevP L k = none by simp [Wb.prevP, hk0]]; exact Wb.tab_first HEE.out)
      have hd0 : decide ((0 : Int) < (k : Int)) = false := by rw [hk0]; rfl
      have hd1 : decide (0 < k) = false := by rw [hk0]; rfl
      clear hk0
      go_wp2_with fail
      go_quiet (fail)
      go_wp2
      go_roundw
      case rel => exact ⟨k + 1, by omega, by go_num, HTN, by (repeat' (first | (with_reducible assumption) | (with_reducible exact Wb.Ext.refl _) | (with_reducible refine Wb.Ext.drew ?_) | (with_reducible refine Wb.Ext.drewN ?_ _) | (with_reducible refine Wb.Ext.alloc ?_ _) | (with_reducible refine Wb.Ext.trans ?_ (by assumption))))⟩
      case measure => first | (simp [intOf]; done) | (simp [intOf]; omega)
    obtain ⟨z, hz⟩ := Wb.get_ex (show k - 1 < L.length by omega)
    have hmz := List.mem_of_getElem? hz
    obtain ⟨b2, off2, hbb, z0, z1, z2⟩ := (HS.out.ext hx2).cells hz
    injection hbb with hbb
    injection hbb with e1 e2 e3
    subst e1 e2
    clear e3
    obtain ⟨za, zc, hzv⟩ := ((HS.out.ext hx2).2 z hmz).1.1.shape
    rw [hzv] at z2
    have HPV := Lib.hid (show Wb.prevP L k = some (Wb.perS z) by rw [Wb.prevP, if_neg hk0, hz]; rfl)
    have hd0 : decide ((0 : Int) < (k : Int)) = true := by simp; omega
    have hd1 : decide (0 < k) = true := by simp; omega
    have hkw : IntKind.i64.wrap ((k : Int) - 1) = ((k - 1 : Nat) : Int) := by rw [IntWalk.i64_in _ (by omega)]; omega
    have hkm : ((k - 1 : Nat) : Int) < L.length := by omega
    obtain ⟨q, hq⟩ : ∃ q, prLt (z.y, z.i) (x.y, x.i) = q := ⟨_, rfl⟩
    have HQ9 := Lib.hid hq
    have HQ : Hid (prLt (Wb.perS z) (Wb.perS x) = q) := Lib.hid hq
    clear hz hmz hzv hq hk0
    go_upto_region 9 with (fail)
    refine Wb.wp_at fun W0 hW0 => ?_
    have hb9 : Wb.Ext w2 W0 := by rw [hW0]; first | exact Wb.Ext.refl _ | (repeat' (first | (with_reducible assumption) | (with_reducible exact Wb.Ext.refl _) | (with_reducible refine Wb.Ext.drew ?_) | (with_reducible refine Wb.Ext.drewN ?_ _) | (with_reducible refine Wb.Ext.alloc ?_ _) | (with_reducible refine Wb.Ext.trans ?_ (by assumption))))
    have c0 := hb9.keep c0
    have c1 := hb9.keep c1
    have c2 := hb9.keep c2
    have z0 := hb9.keep z0
    have z1 := hb9.keep z1
    have z2 := hb9.keep z2
    have HW0 := Lib.hid (hx2.trans hb9)
    clear hW0 hb9
    refine region_start (S := (fun w' => w'.cell? ⟨b, off + k * 3, none⟩ = some (.int .i64 x.y) ∧ w'.cell? ⟨b, off + k * 3 + 1, none⟩ = some (.int .i64 x.i) ∧ w'.cell? ⟨b, off + k * 3 + 2, none⟩ = some (.slice xa x.l.length xc) ∧ w'.cell? ⟨b, off + (k - 1) * 3, none⟩ = some (.int .i64 z.y) ∧ w'.cell? ⟨b, off + (k - 1) * 3 + 1, none⟩ = some (.int .i64 z.i) ∧ w'.cell? ⟨b, off + (k - 1) * 3 + 2, none⟩ = some (.slice za z.l.length zc))) (n := 15) (l := #[false, false, false, false, false, false, false, false, false, false, false, false, false, false, false]) (by kernel_rfl) ⟨c0, c1, c2, z0, z1, z2⟩ (by kernel_rfl) (by kernel_rfl) (fun hHeld => ?_)
    refine take_d (i := 0) (d := 22) (v := ?_) rfl rfl (by kernel_rfl) (by kernel_rfl) (by kernel_rfl) (fun _ _ _ h => h) (Or.inl ⟨by rfl, ?_⟩) (by assumption) ?_
    rotate_left
    · (intro w hSw; (try dsimp only at hSw); go_simp; (try with_reducible rfl))
    (try simp only [Act.put, List.setIfInBounds_toArray, List.set_cons_zero, List.set_cons_succ])
    refine take_d (i := 1) (d := 23) (v := ?_) rfl rfl (by kernel_rfl) (by kernel_rfl) (by kernel_rfl) (fun _ _ _ h => h) (Or.inl ⟨by rfl, ?_⟩) (by assumption) ?_
    rotate_left
    · (intro w hSw; (try dsimp only at hSw); go_simp; (try with_reducible rfl))
    (try simp only [Act.put, List.setIfInBounds_toArray, List.set_cons_zero, List.set_cons_succ])
    refine take_d (i := 2) (d := 24) (v := ?_) rfl rfl (by kernel_rfl) (by kernel_rfl) (by kernel_rfl) (fun _ _ _ h => h) (Or.inl ⟨by rfl, ?_⟩) (by assumption) ?_
    rotate_left
    · (intro w hSw; (try dsimp only at hSw); go_simp; (try with_reducible rfl))
    (try simp only [Act.put, List.setIfInBounds_toArray, List.set_cons_zero, List.set_cons_succ])
    refine take_d (i := 3) (d := 25) (v := ?_) rfl rfl (by kernel_rfl) (by kernel_rfl) (by kernel_rfl) (fun _ _ _ h => h) (Or.inl ⟨by rfl, ?_⟩) (by assumption) ?_
    rotate_left
    · (intro w hSw; (try dsimp only at hSw); go_simp; (try with_reducible rfl))
    (try simp only [Act.put, List.setIfInBounds_toArray, List.set_cons_zero, List.set_cons_succ])
    refine take_d (i := 4) (d := 26) (v := ?_) rfl rfl (by kernel_rfl) (by kernel_rfl) (by kernel_rfl) (fun _ _ _ h => h) (Or.inl ⟨by rfl, ?_⟩) (by assumption) ?_
    rotate_left
    · (intro w hSw; (try dsimp only at hSw); go_simp; (try with_reducible rfl))
    (try simp only [Act.put, List.setIfInBounds_toArray, List.set_cons_zero, List.set_cons_succ])
    refine take_d (i := 5) (d := 27) (v := ?_) rfl rfl (by kernel_rfl) (by kernel_rfl) (by kernel_rfl) (fun _ _ _ h => h) (Or.inl ⟨by rfl, ?_⟩) (by assumption) ?_
    rotate_left
    · (intro w hSw; (try dsimp only at hSw); go_simp; (try with_reducible rfl))
    (try simp only [Act.put, List.setIfInBounds_toArray, List.set_cons_zero, List.set_cons_succ])
    refine take_d (i := 6) (d := 28) (v := ?_) rfl rfl (by kernel_rfl) (by kernel_rfl) (by kernel_rfl) (fun _ _ _ h => h) (Or.inl ⟨by rfl, ?_⟩) (by assumption) ?_
    rotate_left
    · (intro w hSw; (try dsimp only at hSw); go_simp; (try with_reducible rfl))
    (try simp only [Act.put, List.setIfInBounds_toArray, List.set_cons_zero, List.set_cons_succ])
    refine take_d (i := 7) (d := 29) (v := ?_) rfl rfl (by kernel_rfl) (by kernel_rfl) (by kernel_rfl) (fun _ _ _ h => h) (Or.inl ⟨by rfl, ?_⟩) (by assumption) ?_
    rotate_left
    · (intro w hSw; (try dsimp only at hSw); go_simp; (try with_reducible rfl))
    (try simp only [Act.put, List.setIfInBounds_toArray, List.set_cons_zero, List.set_cons_succ])
    refine take_d (i := 8) (d := 30) (v := ?_) rfl rfl (by kernel_rfl) (by kernel_rfl) (by kernel_rfl) (fun _ _ _ h => h) (Or.inl ⟨by rfl, ?_⟩) (by assumption) ?_
    rotate_left
    · (intro w hSw; (try dsimp only at hSw); go_simp; (try with_reducible rfl))
    (try simp only [Act.put, List.setIfInBounds_toArray, List.set_cons_zero, List.set_cons_succ])
    refine take_d (i := 9) (d := 31) (v := ?_) rfl rfl (by kernel_rfl) (by kernel_rfl) (by kernel_rfl) (fun _ _ _ h => h) (Or.inl ⟨by rfl, ?_⟩) (by assumption) ?_
    rotate_left
    · (intro w hSw; (try dsimp only at hSw); go_simp; (try with_reducible rfl))
    (try simp only [Act.put, List.setIfInBounds_toArray, List.set_cons_zero, List.set_cons_succ])
    refine take_d (i := 10) (d := 32) (v := ?_) rfl rfl (by kernel_rfl) (by kernel_rfl) (by kernel_rfl) (fun _ _ _ h => h) (Or.inl ⟨by rfl, ?_⟩) (by assumption) ?_
    rotate_left
    · (intro w hSw; (try dsimp only at hSw); go_simp; (try with_reducible rfl))
    (try simp only [Act.put, List.setIfInBounds_toArray, List.set_cons_zero, List.set_cons_succ])
    refine take_d (i := 11) (d := 33) (v := ?_) rfl rfl (by kernel_rfl) (by kernel_rfl) (by kernel_rfl) (fun _ _ _ h => h) (Or.inl ⟨by rfl, ?_⟩) (by assumption) ?_
    rotate_left
    · (intro w hSw; (try dsimp only at hSw); go_simp; (try with_reducible rfl))
    (try simp only [Act.put, List.setIfInBounds_toArray, List.set_cons_zero, List.set_cons_succ])
    refine wpAnyH_ready (rs := [12]) (by kernel_rfl) (by simp) ?_
    refine AllReadyH.cons (o := _) rfl (fun K hK => ?_) AllReadyH.nil
    go_simp
    go_at_call 68
    go_fit (rbefore_any z.y z.i za z.l.length zc x.y x.i xa x.l.length xc _)
    rintro e w21 ⟨rfl, hb21⟩
    rw [HQ9.out]
    have hx21 : Wb.Ext W0 w21 := Wb.Ext.trans (.drew (.refl _)) hb21
    clear hb21
    refine hK.out _ _ ⟨hx21.keep c0, hx21.keep c1, hx21.keep c2, hx21.keep z0, hx21.keep z1, hx21.keep z2⟩ (fun hHeld => ?_)
    clear hK K
    (try simp only [List.setIfInBounds_toArray, List.set_cons_zero, List.set_cons_succ])
    refine take_d (i := 13) (d := 35) (v := ?_) rfl rfl (by kernel_rfl) (by kernel_rfl) (by kernel_rfl) (fun _ _ _ h => h) (Or.inl ⟨by rfl, ?_⟩) (by assumption) ?_
    rotate_left
    · (intro w hSw; (try dsimp only at hSw); go_simp; (try with_reducible rfl))
    (try simp only [Act.put, List.setIfInBounds_toArray, List.set_cons_zero, List.set_cons_succ])
    refine take_d (i := 14) (d := 36) (v := ?_) rfl rfl (by kernel_rfl) (by kernel_rfl) (by kernel_rfl) (fun _ _ _ h => h) (Or.inl ⟨by rfl, ?_⟩) (by assumption) ?_
    rotate_left
    · (intro w hSw; (try dsimp only at hSw); go_simp; (try with_reducible rfl))
    (try simp only [Act.put, List.setIfInBounds_toArray, List.set_cons_zero, List.set_cons_succ])
    refine wpAnyH_done (by kernel_rfl) ?_ _
    have hxz : Wb.Ext w w21 := HW0.out.trans hx21
    cases q
    · have HE := Lib.hid (show Wb.listE L = 8 by rw [HLE.out, HT.out, HDR.out, HPV.out]; exact Wb.tab_order HEE.out HQ.out)
      go_wp2
      go_ret
      exact ⟨Wb.ret_int HE.out.symm, by (repeat' (first | (with_reducible assumption) | (with_reducible exact Wb.Ext.refl _) | (with_reducible refine Wb.Ext.drew ?_) | (with_reducible refine Wb.Ext.drewN ?_ _) | (with_reducible refine Wb.Ext.alloc ?_ _) | (with_reducible refine Wb.Ext.trans ?_ (by assumption))))⟩
    · have HTN := Lib.hid (show Wb.tabE none L = Wb.tabE (Wb.prevP L (k + 1)) (L.drop (k + 1)) by rw [HT.out, HDR.out, Wb.prevP_succ HX.out, HPV.out]; exact Wb.tab_more HEE.out HQ.out)
      go_wp2
      go_roundw
      case rel => exact ⟨k + 1, by omega, by go_num, HTN, by (repeat' (first | (with_reducible assumption) | (with_reducible exact Wb.Ext.refl _) | (with_reducible refine Wb.Ext.drew ?_) | (with_reducible refine Wb.Ext.drewN ?_ _) | (with_reducible refine Wb.Ext.alloc ?_ _) | (with_reducible refine Wb.Ext.trans ?_ (by assumption))))⟩
      case measure => first | (simp [intOf]; done) | (simp [intOf]; omega)

/-- a row's part, as an append's source -/
theorem src_tbl {α : Type} {f : α → List Value} (hf : ∀ x, (f x).length = 3) {w : World} {g o n : Nat} (l : List α) (c : Nat) (hn : n = l.length) (h : ∀ j x, l[j]? = some x → ∀ i u, (f x)[i]? = some u → w.cell? ⟨g, o + j * 3 + i, none⟩ = some u) : Wb.SrcRow w 3 (.slice (some ⟨g, o, none⟩) n c) n (rowsOf f l) := by
  subst hn
  refine ⟨rowsOf_length hf l, .inr ⟨_, _, rfl, fun j u hj => ?_⟩⟩
  have hjl : j < l.length * 3 := by rw [← rowsOf_length hf]; exact (List.getElem?_eq_some_iff.1 hj).1
  obtain ⟨x, hx⟩ := Wb.get_ex (show j / 3 < l.length by omega)
  have hadd : ∀ i, ((⟨g, o, none⟩ : Addr).add i) = ⟨g, o + i, none⟩ := fun i => by
    by_cases hi : i = 0
    · subst hi; rfl
    · simp [Addr.add, hi]
  rw [hadd]
  have hg := rowsOf_get hf hx (j % 3) (by omega)
  rw [show j / 3 * 3 + j % 3 = j by omega, hj] at hg
  have := h _ x hx (j % 3) u hg.symm
  rw [show o + j / 3 * 3 + j % 3 = o + j by omega] at this
  exact this
theorem row_cut {α : Type} {f : α → List Value} (hf : ∀ x, (f x).length = 3) {base : Nat} {w : World} {v : Value} {l : List α} (h : w.ownsRow base 24 3 v l.length (rowsOf f l)) {k : Nat} (hk : k ≤ l.length) : ∃ V1 V2, (∀ W : World, (Instr.sliceAt 25 v none (some (.int .i64 k)) none).run Try.prog W = .ok V1 W) ∧ Wb.SrcRow w 3 V1 k (rowsOf f (l.take k)) ∧
    (∀ W : World, (Instr.sliceAt 25 v (some (.int .i64 k)) none none).run Try.prog W = .ok V2 W) ∧ Wb.SrcRow w 3 V2 (l.length - k) (rowsOf f (l.drop k)) := by
  by_cases hv : v = .slice none 0 0
  · have hl : l = [] := by
      obtain ⟨_, h2 | ⟨g, cap, cur, hv', _⟩⟩ := h
      · exact List.length_eq_zero_iff.1 h2.2
      · rw [hv] at hv'; cases hv'
    subst hv hl
    obtain rfl : k = 0 := by simpa using hk
    exact ⟨.slice none 0 0, .slice none 0 0, fun W => by simp [go_sem, Try.underlying25], ⟨rfl, .inl ⟨rfl, rfl⟩⟩, fun W => by simp [go_sem, Try.underlying25], ⟨rfl, .inl ⟨rfl, rfl⟩⟩⟩
  · obtain ⟨_, h2 | ⟨g, cap, cur, hv', _, _, hcap, _⟩⟩ := id h
    · exact absurd h2.1 hv
    · obtain ⟨g2, cap2, hv2, _, _, _, hcell⟩ := Wb.ownsRow_at h hv
      rw [hv'] at hv2; cases hv2
      subst hv'
      have hc : ∀ j x, l[j]? = some x → ∀ i u, (f x)[i]? = some u → w.cell? ⟨g, j * 3 + i, none⟩ = some u := fun j x hx i u hu => by
        have hi : i < 3 := by rw [← hf x]; exact (List.getElem?_eq_some_iff.1 hu).1
        exact hcell _ _ ((rowsOf_get hf hx i hi).trans hu)
      have hk1 : ¬ ((l.length : Int) < (k : Int)) := by omega
      have hk2 : ¬ ((cap : Int) < (k : Int)) := by omega
      have hk3 : (k : Int) ≤ l.length := by omega
      have hk4 : (k : Int) ≤ cap := by omega
      refine ⟨.slice (some ⟨g, 0, none⟩) k cap, ?_⟩
      have s1 : Wb.SrcRow w 3 (.slice (some ⟨g, 0, none⟩) k cap) k (rowsOf f (l.take k)) := src_tbl hf (l.take k) cap (by simp; omega) (fun j x hj i u hu => by
        rw [List.getElem?_take] at hj
        split at hj
        · rw [Nat.zero_add]; exact hc j x hj i u hu
        · cases hj)
      by_cases hck : cap = k
      · have hkl : k = l.length := by omega
        refine ⟨.slice (some ⟨g, 0, none⟩) (l.length - k) (cap - k), fun W => by simp [go_sem, Try.underlying25, hk2, hk4], s1, fun W => by simp [go_sem, Try.underlying25, hck, hk1, hk3], ?_⟩
        subst hkl
        rw [Nat.sub_self]
        exact ⟨by simp [rowsOf], .inr ⟨_, _, rfl, fun j u hj => by simp [rowsOf] at hj⟩⟩
      · refine ⟨.slice (some ⟨g, k * 3, none⟩) (l.length - k) (cap - k), fun W => by simp [go_sem, Try.underlying25, hk2, hk4], s1, fun W => by simp [go_sem, Try.underlying25, hck, hk1, hk3], ?_⟩
        exact src_tbl hf (l.drop k) _ (by simp) (fun j x hj i u hu => by
          rw [List.getElem?_drop] at hj
          have := hc _ x hj i u hu
          rw [show (k + j) * 3 + i = k * 3 + j * 3 + i by rw [Nat.add_mul]] at this
          exact this)
def hdc (p : Int × Int) : List Value := [.int .i64 p.1, .int .i64 p.2, .slice none 0 0]
theorem hdc_len (p : Int × Int) : (hdc p).length = 3 := rfl
theorem hdc_one (l : List (Int × Int)) : ∀ u ∈ rowsOf hdc l, u.oneCell' = true := by
  intro u hu
  obtain ⟨x, _, hx⟩ := List.mem_flatMap.1 hu
  simp [hdc] at hx
  rcases hx with rfl | rfl | rfl <;> rfl
theorem own_empty9 {w : World} {base e s : Nat} (hb : base ≤ w.heap.size) : (w.alloc (.cells #[] e)).ownsRow base e s (.slice (some ⟨w.heap.size, 0, none⟩) 0 0) 0 [] :=
  ⟨by simp, .inr ⟨w.heap.size, 0, #[], rfl, hb, by show (w.heap.push _)[w.heap.size]? = _; simp, Nat.le_refl _, Nat.zero_le _, by simp, by simp⟩⟩

end Go.Proofs.Ytdfmlgjemfcmlaa
/- The reference of chapter 29: heads. -/
namespace Go.Proofs.Ytdfmlgjemfcmlaa
open Go.RowKit Go.Lib
set_option maxRecDepth 8000
attribute [local go_sem ↓] Go.wp_at_zero Go.wp_at_succ

theorem heads_take {L : List Wb.Sl} {k : Nat} {x : Wb.Sl} (hx : L[k]? = some x) : Wb.headsP (L.take (k + 1)) = Wb.insP (Wb.headsP (L.take k)) (Wb.perS x) := by
  obtain ⟨h1, rfl⟩ := List.getElem?_eq_some_iff.1 hx
  rw [List.take_succ_eq_append_getElem h1, Wb.headsP, List.foldl_append]; rfl
set_option maxHeartbeats 8000000 in
theorem rheads_any (v : Value) (L : List Wb.Sl) (w : World) (hL : Tbl 3 slc w v L) (hl : L.length ≤ 20000) :
    Calls Try.prog 49 #[v] w fun e w' => ∃ v', e = .returned v' ∧ w'.ownsRow w.heap.size 24 3 v' (Wb.headsP L).length (rowsOf hdc (Wb.headsP L)) ∧ Wb.Ext w w' := by
  obtain ⟨i0, hi, hz0, hz1, hz2⟩ := info_parts infoSlip
  have HIN := Lib.hid (show Try.prog.info? 24 = some i0 ∧ i0.zero = some slZ ∧ i0.size = 3 ∧ i0.bytes = 40 from ⟨hi, hz0, hz1, hz2⟩)
  clear hi hz0 hz1 hz2
  obtain ⟨va, vc, rfl⟩ := hL.shape
  have HL := Lib.hid hL
  clear hL
  go_enter Try.func49, Try.ntmps49
  go_wp2_with fail
  go_loopw [3, 4] (fun ov iv wr => ∃ k : Nat, k ≤ L.length ∧ iv = .int .i64 k ∧ Hid (wr.ownsRow w.heap.size 24 3 ov (Wb.headsP (L.take k)).length (rowsOf hdc (Wb.headsP (L.take k)))) ∧ Wb.Ext w wr) (fun _ iv _ => L.length - (intOf iv).toNat)
  case atStart => exact ⟨0, Nat.zero_le _, rfl, Lib.hid (by simpa [Wb.headsP, rowsOf] using own_none), by (repeat' (first | (with_reducible assumption) | (with_reducible exact Wb.Ext.refl _) | (with_reducible refine Wb.Ext.drew ?_) | (with_reducible refine Wb.Ext.drewN ?_ _) | (with_reducible refine Wb.Ext.alloc ?_ _) | (with_reducible refine Wb.Ext.trans ?_ (by assumption))))⟩
  case round =>
    obtain ⟨k, hk, rfl, HO, hxw⟩ := hrel
    obtain ⟨oa, oc, rfl⟩ := row_shape HO.out
    by_cases hlt : k < L.length
    case neg =>
      obtain rfl : k = L.length := by omega
      have HO2 := Lib.hid (show wr.ownsRow w.heap.size 24 3 (.slice oa (Wb.headsP (L.take L.length)).length oc) (Wb.headsP L).length (rowsOf hdc (Wb.headsP L)) by have := HO.out; rw [List.take_length] at this ⊢; exact this)
      go_wp2
      refine bodyPost_ret (v := .slice oa (Wb.headsP (L.take L.length)).length oc) (by simp [results, Try.results49, go_sem]) rfl ⟨_, rfl, HO2.out, by (repeat' (first | (with_reducible assumption) | (with_reducible exact Wb.Ext.refl _) | (with_reducible refine Wb.Ext.drew ?_) | (with_reducible refine Wb.Ext.drewN ?_ _) | (with_reducible refine Wb.Ext.alloc ?_ _) | (with_reducible refine Wb.Ext.trans ?_ (by assumption))))⟩
    obtain ⟨x, hx⟩ := Wb.get_ex hlt
    obtain ⟨b, off, rfl, hcells⟩ := (HL.out.ext hxw).opened (tne hlt)
    have c0 := hcells k x hx 0 _ rfl
    have c1 := hcells k x hx 1 _ rfl
    simp only [Nat.add_zero] at c0
    have hki : (k : Int) < L.length := by omega
    have HHT9 := Lib.hid (heads_take hx)
    have hrl0 := Wb.heads_len (L.take k)
    have hrl1 : (L.take k).length ≤ L.length := by rw [List.length_take]; omega
    obtain ⟨r, hr⟩ : ∃ r, Wb.headsP (L.take k) = r := ⟨_, rfl⟩
    rw [hr] at HO HHT9 hrl0 ⊢
    have hrl : r.length ≤ 20000 := by omega
    have HHT := Lib.hid (show Wb.headsP (L.take (k + 1)) = Wb.insP r (x.y, x.i) from HHT9.out)
    clear hcells hx hr HHT9 hrl0 hrl1
    go_upto_region 5 with (fail)
    refine Wb.wp_at fun W0 hW0 => ?_
    have hb0 : Wb.Ext wr W0 := by rw [hW0]; first | exact Wb.Ext.refl _ | (repeat' (first | (with_reducible assumption) | (with_reducible exact Wb.Ext.refl _) | (with_reducible refine Wb.Ext.drew ?_) | (with_reducible refine Wb.Ext.drewN ?_ _) | (with_reducible refine Wb.Ext.alloc ?_ _) | (with_reducible refine Wb.Ext.trans ?_ (by assumption))))
    have c0 := hb0.keep c0
    have c1 := hb0.keep c1
    clear hW0
    refine region_start (S := (fun w' => w'.cell? ⟨b, off + k * 3, none⟩ = some (.int .i64 x.y) ∧ w'.cell? ⟨b, off + k * 3 + 1, none⟩ = some (.int .i64 x.i))) (n := 13) (l := #[false, false, false, false, false, false, false, false, false, false, false, false, false]) (by kernel_rfl) ⟨c0, c1⟩ (by kernel_rfl) (by kernel_rfl) (fun hHeld => ?_)
    refine take_d (i := 0) (d := 13) (v := ?_) rfl rfl (by kernel_rfl) (by kernel_rfl) (by kernel_rfl) (fun _ _ _ h => h) (Or.inl ⟨by rfl, ?_⟩) (by assumption) ?_
    rotate_left
    · (intro w hSw; (try dsimp only at hSw); go_simp; (try with_reducible rfl))
    (try simp only [Act.put, List.setIfInBounds_toArray, List.set_cons_zero, List.set_cons_succ])
    refine take_d (i := 1) (d := 14) (v := ?_) rfl rfl (by kernel_rfl) (by kernel_rfl) (by kernel_rfl) (fun _ _ _ h => h) (Or.inl ⟨by rfl, ?_⟩) (by assumption) ?_
    rotate_left
    · (intro w hSw; (try dsimp only at hSw); go_simp; (try with_reducible rfl))
    (try simp only [Act.put, List.setIfInBounds_toArray, List.set_cons_zero, List.set_cons_succ])
    refine take_d (i := 2) (d := 15) (v := ?_) rfl rfl (by kernel_rfl) (by kernel_rfl) (by kernel_rfl) (fun _ _ _ h => h) (Or.inl ⟨by rfl, ?_⟩) (by assumption) ?_
    rotate_left
    · (intro w hSw; (try dsimp only at hSw); go_simp; (try with_reducible rfl))
    (try simp only [Act.put, List.setIfInBounds_toArray, List.set_cons_zero, List.set_cons_succ])
    refine take_d (i := 3) (d := 16) (v := ?_) rfl rfl (by kernel_rfl) (by kernel_rfl) (by kernel_rfl) (fun _ _ _ h => h) (Or.inl ⟨by rfl, ?_⟩) (by assumption) ?_
    rotate_left
    · (intro w hSw; (try dsimp only at hSw); go_simp; (try with_reducible rfl))
    (try simp only [Act.put, List.setIfInBounds_toArray, List.set_cons_zero, List.set_cons_succ])
    refine take_d (i := 4) (d := 17) (v := ?_) rfl rfl (by kernel_rfl) (by kernel_rfl) (by kernel_rfl) (fun _ _ _ h => h) (Or.inl ⟨by rfl, ?_⟩) (by assumption) ?_
    rotate_left
    · (intro w hSw; (try dsimp only at hSw); go_simp; (try with_reducible rfl))
    (try simp only [Act.put, List.setIfInBounds_toArray, List.set_cons_zero, List.set_cons_succ])
    refine take_d (i := 5) (d := 18) (v := ?_) rfl rfl (by kernel_rfl) (by kernel_rfl) (by kernel_rfl) (fun _ _ _ h => h) (Or.inl ⟨by rfl, ?_⟩) (by assumption) ?_
    rotate_left
    · (intro w hSw; (try dsimp only at hSw); go_simp; (try with_reducible rfl))
    (try simp only [Act.put, List.setIfInBounds_toArray, List.set_cons_zero, List.set_cons_succ])
    refine take_d (i := 6) (d := 19) (v := ?_) rfl rfl (by kernel_rfl) (by kernel_rfl) (by kernel_rfl) (fun _ _ _ h => h) (Or.inl ⟨by rfl, ?_⟩) (by assumption) ?_
    rotate_left
    · (intro w hSw; (try dsimp only at hSw); go_simp; (try with_reducible rfl))
    (try simp only [Act.put, List.setIfInBounds_toArray, List.set_cons_zero, List.set_cons_succ])
    refine take_d (i := 7) (d := 20) (v := ?_) rfl rfl (by kernel_rfl) (by kernel_rfl) (by kernel_rfl) (fun _ _ _ h => h) (Or.inl ⟨by rfl, ?_⟩) (by assumption) ?_
    rotate_left
    · (intro w hSw; (try dsimp only at hSw); go_simp; (try with_reducible rfl))
    (try simp only [Act.put, List.setIfInBounds_toArray, List.set_cons_zero, List.set_cons_succ])
    refine take_d (i := 8) (d := 21) (v := ?_) rfl rfl (by kernel_rfl) (by kernel_rfl) (by kernel_rfl) (fun _ _ _ h => h) (Or.inl ⟨by rfl, ?_⟩) (by assumption) ?_
    rotate_left
    · (intro w hSw; (try dsimp only at hSw); go_simp; (try with_reducible rfl))
    (try simp only [Act.put, List.setIfInBounds_toArray, List.set_cons_zero, List.set_cons_succ])
    refine take_d (i := 9) (d := 22) (v := ?_) rfl rfl (by kernel_rfl) (by kernel_rfl) (by kernel_rfl) (fun _ _ _ h => h) (Or.inl ⟨by rfl, ?_⟩) (by assumption) ?_
    rotate_left
    · (intro w hSw; (try dsimp only at hSw); go_simp; (try with_reducible rfl))
    (try simp only [Act.put, List.setIfInBounds_toArray, List.set_cons_zero, List.set_cons_succ])
    refine take_d (i := 10) (d := 23) (v := ?_) rfl rfl (by kernel_rfl) (by kernel_rfl) (by kernel_rfl) (fun _ _ _ h => h) (Or.inl ⟨by rfl, ?_⟩) (by assumption) ?_
    rotate_left
    · (intro w hSw; (try dsimp only at hSw); go_simp; (try with_reducible rfl))
    (try simp only [Act.put, List.setIfInBounds_toArray, List.set_cons_zero, List.set_cons_succ])
    refine wpAnyH_ready (rs := [11]) (by kernel_rfl) (by simp) ?_
    refine AllReadyH.cons (o := _) rfl (fun K hK => ?_) AllReadyH.nil
    go_simp
    refine atK fun w21 hw21 => ?_
    have hx21 : Wb.Ext W0 w21 := by rw [hw21]; exact Wb.Ext.alloc (.drew (.refl _)) _
    have hp21 : W0.heap.size ≤ W0.heap.size := Nat.le_refl _
    obtain ⟨G, hG⟩ : ∃ g, W0.heap.size = g := ⟨_, rfl⟩
    have g0 : w21.cell? ⟨G, 0, none⟩ = some (.int .i64 0) := by rw [hw21, ← hG]; simp [go_sem]
    have g1 : w21.cell? ⟨G, 1, none⟩ = some (.int .i64 0) := by rw [hw21, ← hG]; simp [go_sem]
    have g2 : w21.cell? ⟨G, 2, none⟩ = some (.slice none 0 0) := by rw [hw21, ← hG]; simp [go_sem]
    have gf : ∀ j, w21.frozen? ⟨G, j, none⟩ = false := fun j => by rw [hw21, ← hG]; simp [go_sem]
    have hGl : G < w21.heap.size := by rw [hw21, ← hG]; simp
    have hG0 : W0.heap.size ≤ G := by omega
    (try rw [hG])
    clear hw21 hG
    refine hK.out _ _ ⟨hx21.keep c0, hx21.keep c1⟩ (fun hHeld => ?_)
    clear hK K
    (try simp only [List.setIfInBounds_toArray, List.set_cons_zero, List.set_cons_succ])
    refine wpAnyH_ready (rs := [12]) (by kernel_rfl) (by simp) ?_
    refine AllReadyH.cons (o := _) rfl (fun K hK => ?_) AllReadyH.nil
    go_simp
    refine atK fun w22 hw22 => ?_
    obtain ⟨z0, z1, z2, zk, zf, zz, ze⟩ := st3d (w := w21) (w' := w22) (b := G) (x := .int .i64 x.y) (y := .int .i64 x.i) (z := .slice none 0 0) hw22 g0 g1 g2
    have hx22 : Wb.Ext W0 w22 := ze W0 hG0 hx21
    clear hw22 zk zf zz ze g0 g1 g2 gf
    refine hK.out _ _ ⟨hx22.keep c0, hx22.keep c1⟩ (fun hHeld => ?_)
    clear hK K
    (try simp only [List.setIfInBounds_toArray, List.set_cons_zero, List.set_cons_succ])
    refine wpAnyH_done (by kernel_rfl) ?_ _
    have HRZ := Lib.hid (hb0.trans hx22)
    have HRO := Lib.hid (row_ext3 HO.out HRZ.out)
    obtain ⟨wz, hwz⟩ : ∃ z, w22 = z := ⟨_, rfl⟩
    rw [hwz] at z0 z1 z2 HRZ HRO
    (try rw [hwz])
    clear hwz
    go_wp2_with fail
    go_loopw [6] (fun jv wq => ∃ j : Nat, j ≤ r.length ∧ jv = .int .i64 j ∧ Hid (∀ t u, r[t]? = some u → t < j → prLt u (x.y, x.i) = true) ∧ Wb.Ext wz wq) (fun jv _ => r.length - (intOf jv).toNat)
    case atStart => exact ⟨0, Nat.zero_le _, rfl, Lib.hid (fun t u _ h => absurd h (Nat.not_lt_zero _)), by (repeat' (first | (with_reducible assumption) | (with_reducible exact Wb.Ext.refl _) | (with_reducible refine Wb.Ext.drew ?_) | (with_reducible refine Wb.Ext.drewN ?_ _) | (with_reducible refine Wb.Ext.alloc ?_ _) | (with_reducible refine Wb.Ext.trans ?_ (by assumption))))⟩
    case round =>
      obtain ⟨j, hj, rfl, HLO, hxq⟩ := hrel
      have z0 := hxq.keep z0
      have z1 := hxq.keep z1
      have z2 := hxq.keep z2
      by_cases hltj : j < r.length
      case neg =>
        have HINS := Lib.hid (show Wb.insP r (x.y, x.i) = r.take j ++ (x.y, x.i) :: r.drop j from Wb.ins_new hj HLO.out (fun z hz => by rw [List.getElem?_eq_none (by omega)] at hz; cases hz))
        have dj : decide ((j : Int) < (r.length : Int)) = false := by simp; omega
        have dj2 : decide (j < r.length) = false := by simpa using hltj
        have HWP := Lib.hid (hxw.trans (HRZ.out.trans hxq))
        have HRJ := Lib.hid (row_ext3 HRO.out hxq)
        go_wp2_with fail
        go_quiet (fail)
        go_wp2_with fail
        go_quiet (fail)
        go_wp2_with fail
        obtain ⟨V1, V2, hs1, hc1, hs2, hc2⟩ := row_cut hdc_len HRJ.out hj
        go_upto_region 10 with (fail)
        refine Wb.wp_at fun W0 hW0 => ?_
        have hbx : Wb.Ext wr W0 := by rw [hW0]; first | exact Wb.Ext.refl _ | (repeat' (first | (with_reducible assumption) | (with_reducible exact Wb.Ext.refl _) | (with_reducible refine Wb.Ext.drew ?_) | (with_reducible refine Wb.Ext.drewN ?_ _) | (with_reducible refine Wb.Ext.alloc ?_ _) | (with_reducible refine Wb.Ext.trans ?_ (by assumption))))
        have z0 := hbx.keep z0
        have z1 := hbx.keep z1
        have z2 := hbx.keep z2
        have HWZ := Lib.hid (HWP.out.trans hbx)
        have HC1 := Lib.hid (hc1.ext hbx)
        have HC2 := Lib.hid (hc2.ext hbx)
        clear hW0 hc1 hc2 hbx
        refine region_start (S := (fun w' => w'.cell? ⟨G, 0, none⟩ = some (.int .i64 x.y) ∧ w'.cell? ⟨G, 1, none⟩ = some (.int .i64 x.i) ∧ w'.cell? ⟨G, 2, none⟩ = some (.slice none 0 0))) (n := 13) (l := #[false, false, false, false, false, false, false, false, false, false, false, false, false]) (by kernel_rfl) ⟨z0, z1, z2⟩ (by kernel_rfl) (by kernel_rfl) (fun hHeld => ?_)
        refine take_d (i := 1) (d := 52) (v := ?_) rfl rfl (by kernel_rfl) (by kernel_rfl) (by kernel_rfl) (fun _ _ _ h => h) (Or.inl ⟨by rfl, ?_⟩) (by assumption) ?_
        rotate_left
        · (intro w hSw; (try dsimp only at hSw); go_simp; (try with_reducible rfl))
        (try simp only [Act.put, List.setIfInBounds_toArray, List.set_cons_zero, List.set_cons_succ])
        refine take_d (i := 2) (d := 53) (v := ?_) rfl rfl (by kernel_rfl) (by kernel_rfl) (by kernel_rfl) (fun _ _ _ h => h) (Or.inl ⟨by rfl, ?_⟩) (by assumption) ?_
        rotate_left
        · (intro w hSw; (try dsimp only at hSw); go_simp; (try with_reducible rfl))
        (try simp only [Act.put, List.setIfInBounds_toArray, List.set_cons_zero, List.set_cons_succ])
        refine take_d (i := 3) (d := 54) (v := ?_) rfl rfl (by kernel_rfl) (by kernel_rfl) (by kernel_rfl) (fun _ _ _ h => h) (Or.inl ⟨by rfl, ?_⟩) (by assumption) ?_
        rotate_left
        · (intro w hSw; (try dsimp only at hSw); go_simp; (try with_reducible rfl))
        (try simp only [Act.put, List.setIfInBounds_toArray, List.set_cons_zero, List.set_cons_succ])
        refine take_d (i := 5) (d := 56) (v := ?_) rfl rfl (by kernel_rfl) (by kernel_rfl) (by kernel_rfl) (fun _ _ _ h => h) (Or.inl ⟨by rfl, ?_⟩) (by assumption) ?_
        rotate_left
        · (intro w hSw; (try dsimp only at hSw); go_simp; (try with_reducible rfl))
        (try simp only [Act.put, List.setIfInBounds_toArray, List.set_cons_zero, List.set_cons_succ])
        refine take_d (i := 8) (d := 59) (v := ?_) rfl rfl (by kernel_rfl) (by kernel_rfl) (by kernel_rfl) (fun _ _ _ h => h) (Or.inl ⟨by rfl, ?_⟩) (by assumption) ?_
        rotate_left
        · (intro w hSw; (try dsimp only at hSw); go_simp; (try with_reducible rfl))
        (try simp only [Act.put, List.setIfInBounds_toArray, List.set_cons_zero, List.set_cons_succ])
        refine take_d (i := 9) (d := 60) (v := ?_) rfl rfl (by kernel_rfl) (by kernel_rfl) (by kernel_rfl) (fun _ _ _ h => h) (Or.inl ⟨by rfl, ?_⟩) (by assumption) ?_
        rotate_left
        · (intro w hSw; (try dsimp only at hSw); go_simp; (try with_reducible rfl))
        (try simp only [Act.put, List.setIfInBounds_toArray, List.set_cons_zero, List.set_cons_succ])
        refine take_d (i := 10) (d := 61) (v := ?_) rfl rfl (by kernel_rfl) (by kernel_rfl) (by kernel_rfl) (fun _ _ _ h => h) (Or.inl ⟨by rfl, ?_⟩) (by assumption) ?_
        rotate_left
        · (intro w hSw; (try dsimp only at hSw); go_simp; (try with_reducible rfl))
        (try simp only [Act.put, List.setIfInBounds_toArray, List.set_cons_zero, List.set_cons_succ])
        refine wpAnyH_ready (rs := [0, 6]) (by kernel_rfl) (by simp) ?_
        refine AllReadyH.cons (o := _) rfl (fun K hK => ?_) ?_
        · go_simp
          refine atK fun w81 hw81 => ?_
          have hx81 : Wb.Ext W0 w81 := by rw [hw81]; exact Wb.Ext.alloc (.drew (.refl _)) _
          obtain ⟨gr, gre⟩ : ∃ g, W0.heap.size = g := ⟨_, rfl⟩
          have grh : gr < w81.heap.size := by rw [hw81, ← gre]; simp
          have HO81 := Lib.hid (show w81.ownsRow W0.heap.size 24 3 (.slice (some ⟨gr, 0, none⟩) 0 0) 0 [] by rw [hw81, ← gre]; exact own_empty (w := W0) (by first | exact Nat.le_refl _ | exact (.drew (.refl _)).size))
          (try rw [gre])
          clear hw81 gre
          refine hK.out _ _ ⟨hx81.keep z0, hx81.keep z1, hx81.keep z2⟩ (fun hHeld => ?_)
          clear hK K
          (try simp only [List.setIfInBounds_toArray, List.set_cons_zero, List.set_cons_succ])
          refine wpAnyH_ready (rs := [4, 6]) (by kernel_rfl) (by simp) ?_
          refine AllReadyH.cons (o := _) rfl (fun K hK => ?_) ?_
          · obtain ⟨hi, hz0, hz1, hz2⟩ := HIN.out
            refine Wb.step_append_row (by rfl) _ _ _ (by rfl) W0.heap.size 24 i0 slZ 3 40 Try.underlying25 hi hz0 hz1 hz2 (by rfl) (by decide) _ (0) ([]) (by rfl) (HO81.out) _ (by rfl) (j) (rowsOf hdc (r.take j)) (HC1.out.ext hx81) (hdc_one _) (by unfold maxLen; omega) (by omega) (Below.size (show Wb.Ext W0 w81 from hx81)) ?_
            intro v82 w82 ho82 hg82 hat82
            obtain ⟨N82, hN82⟩ : ∃ n, n = 0 + (j) := ⟨_, rfl⟩
            rw [← hN82] at ho82
            have HN82 := Lib.hid hN82
            have hNb82 : N82 ≤ 0 + (j) := Nat.le_of_eq hN82
            clear hN82
            have HO82 := Lib.hid ho82
            have hx82 : Wb.Ext W0 w82 := Wb.Ext.grown hx81 hg82 (fun q hq => (HO81.out.lt q hq).1)
            obtain ⟨ra82, rc82, rfl⟩ := row_shape ho82
            replace grh : gr < w82.heap.size := Nat.lt_of_lt_of_le grh hg82.size
            clear hi hz0 hz1 hz2 ho82 hg82 hat82
            refine hK.out _ _ ⟨hx82.keep z0, hx82.keep z1, hx82.keep z2⟩ (fun hHeld => ?_)
            clear hK K
            (try simp only [List.setIfInBounds_toArray, List.set_cons_zero, List.set_cons_succ])
            refine wpAnyH_ready (rs := [6]) (by kernel_rfl) (by simp) ?_
            refine AllReadyH.cons (o := _) rfl (fun K hK => ?_) AllReadyH.nil
            go_simp
            refine atK fun w83 hw83 => ?_
            have hx83 : Wb.Ext W0 w83 := by rw [hw83]; exact Wb.Ext.alloc hx82 _
            have HO83r := Lib.hid (show w83.ownsRow W0.heap.size 24 3 _ _ _ by rw [hw83]; exact HO82.out.alloc _)
            have grp := grh
            replace grh : gr < w83.heap.size := Nat.lt_of_lt_of_le grh (by rw [hw83]; simp)
            obtain ⟨gx, gxe⟩ : ∃ g, w82.heap.size = g := ⟨_, rfl⟩
            have gxh : gx < w83.heap.size := by rw [hw83, ← gxe]; simp
            have negrgx : gr ≠ gx := by have := grp; omega
            have negxgr : gx ≠ gr := Ne.symm negrgx
            have HLx := Lib.hid (show Wb.SrcRow w83 3 (.slice (some ⟨gx, 0, none⟩) 1 1) 1 (rowsOf hdc [(x.y, x.i)]) by rw [hw83, ← gxe]; exact src_lit w82 _ rfl (rowsOf hdc [(x.y, x.i)]) _ _)
            (try rw [gxe])
            clear hw83 gxe
            refine hK.out _ _ ⟨hx83.keep z0, hx83.keep z1, hx83.keep z2⟩ (fun hHeld => ?_)
            clear hK K
            (try simp only [List.setIfInBounds_toArray, List.set_cons_zero, List.set_cons_succ])
            refine wpAnyH_ready (rs := [7]) (by kernel_rfl) (by simp) ?_
            refine AllReadyH.cons (o := _) rfl (fun K hK => ?_) AllReadyH.nil
            obtain ⟨hi, hz0, hz1, hz2⟩ := HIN.out
            refine Wb.step_append_row (by rfl) _ _ _ (by rfl) W0.heap.size 24 i0 slZ 3 40 Try.underlying25 hi hz0 hz1 hz2 (by rfl) (by decide) _ (N82) ([] ++ rowsOf hdc (r.take j)) (by rfl) (HO83r.out) _ (by rfl) (1) (rowsOf hdc [(x.y, x.i)]) (HLx.out) (hdc_one _) (by unfold maxLen; omega) (by omega) (Below.size (show Wb.Ext W0 w83 from hx83)) ?_
            intro v84 w84 ho84 hg84 hat84
            obtain ⟨N84, hN84⟩ : ∃ n, n = N82 + (1) := ⟨_, rfl⟩
            rw [← hN84] at ho84
            have HN84 := Lib.hid hN84
            have hNb84 : N84 ≤ N82 + (1) := Nat.le_of_eq hN84
            clear hN84
            have HO84 := Lib.hid ho84
            have hx84 : Wb.Ext W0 w84 := Wb.Ext.grown hx83 hg84 (fun q hq => (HO83r.out.lt q hq).1)
            obtain ⟨ra84, rc84, rfl⟩ := row_shape ho84
            replace grh : gr < w84.heap.size := Nat.lt_of_lt_of_le grh hg84.size
            replace gxh : gx < w84.heap.size := Nat.lt_of_lt_of_le gxh hg84.size
            clear hi hz0 hz1 hz2 ho84 hg84 hat84
            refine hK.out _ _ ⟨hx84.keep z0, hx84.keep z1, hx84.keep z2⟩ (fun hHeld => ?_)
            clear hK K
            (try simp only [List.setIfInBounds_toArray, List.set_cons_zero, List.set_cons_succ])
            refine wpAnyH_ready (rs := [11]) (by kernel_rfl) (by simp) ?_
            refine AllReadyH.cons (o := _) rfl (fun K hK => ?_) AllReadyH.nil
            obtain ⟨hi, hz0, hz1, hz2⟩ := HIN.out
            refine Wb.step_append_row (by rfl) _ _ _ (by rfl) W0.heap.size 24 i0 slZ 3 40 Try.underlying25 hi hz0 hz1 hz2 (by rfl) (by decide) _ (N84) ([] ++ rowsOf hdc (r.take j) ++ rowsOf hdc [(x.y, x.i)]) (by rfl) (HO84.out) _ (by rfl) (r.length - j) (rowsOf hdc (r.drop j)) (HC2.out.ext hx84) (hdc_one _) (by unfold maxLen; omega) (by omega) (Below.size (show Wb.Ext W0 w84 from hx84)) ?_
            intro v85 w85 ho85 hg85 hat85
            obtain ⟨N85, hN85⟩ : ∃ n, n = N84 + (r.length - j) := ⟨_, rfl⟩
            rw [← hN85] at ho85
            have HN85 := Lib.hid hN85
            have hNb85 : N85 ≤ N84 + (r.length - j) := Nat.le_of_eq hN85
            clear hN85
            have HO85 := Lib.hid ho85
            have hx85 : Wb.Ext W0 w85 := Wb.Ext.grown hx84 hg85 (fun q hq => (HO84.out.lt q hq).1)
            obtain ⟨ra85, rc85, rfl⟩ := row_shape ho85
            replace grh : gr < w85.heap.size := Nat.lt_of_lt_of_le grh hg85.size
            replace gxh : gx < w85.heap.size := Nat.lt_of_lt_of_le gxh hg85.size
            clear hi hz0 hz1 hz2 ho85 hg85 hat85
            refine hK.out _ _ ⟨hx85.keep z0, hx85.keep z1, hx85.keep z2⟩ (fun hHeld => ?_)
            clear hK K
            (try simp only [List.setIfInBounds_toArray, List.set_cons_zero, List.set_cons_succ])
            refine take_d (i := 12) (d := 3) (v := ?_) rfl rfl (by kernel_rfl) (by kernel_rfl) (by kernel_rfl) (fun _ _ _ h => h) (Or.inl ⟨by rfl, ?_⟩) (by assumption) ?_
            rotate_left
            · (intro w hSw; (try dsimp only at hSw); go_simp; (try with_reducible rfl))
            (try simp only [Act.put, List.setIfInBounds_toArray, List.set_cons_zero, List.set_cons_succ])
            refine wpAnyH_done (by kernel_rfl) ?_ _
            have HRES := Lib.hid (show w85.ownsRow w.heap.size 24 3 (.slice ra85 N85 rc85) (Wb.headsP (L.take (k + 1))).length (rowsOf hdc (Wb.headsP (L.take (k + 1)))) by
              refine row_mono (base := W0.heap.size) ?_ HWZ.out.size
              have h1 := HO85.out
              rw [HHT.out, HINS.out]
              have h2 : (r.take j ++ (x.y, x.i) :: r.drop j).length = N85 := by rw [HN85.out, HN84.out, HN82.out]; first | (simp; done) | (simp; omega)
              rw [h2]
              have h3 : rowsOf hdc (r.take j ++ (x.y, x.i) :: r.drop j) = [] ++ rowsOf hdc (r.take j) ++ rowsOf hdc [(x.y, x.i)] ++ rowsOf hdc (r.drop j) := by simp [rowsOf]
              rw [h3]
              exact h1)
            have HEX := Lib.hid (HWZ.out.trans hx85)
            go_wp2
            go_roundw
            case rel => exact ⟨k + 1, by omega, by go_num, by simpa using HRES, HEX.out⟩
            case measure => first | (simp [intOf]; done) | (simp [intOf]; omega)
          refine AllReadyH.cons (o := _) rfl (fun K hK => ?_) ?_
          · go_simp
            refine atK fun w82 hw82 => ?_
            have hx82 : Wb.Ext W0 w82 := by rw [hw82]; exact Wb.Ext.alloc hx81 _
            have HO82r := Lib.hid (show w82.ownsRow W0.heap.size 24 3 _ _ _ by rw [hw82]; exact HO81.out.alloc _)
            have grp := grh
            replace grh : gr < w82.heap.size := Nat.lt_of_lt_of_le grh (by rw [hw82]; simp)
            obtain ⟨gx, gxe⟩ : ∃ g, w81.heap.size = g := ⟨_, rfl⟩
            have gxh : gx < w82.heap.size := by rw [hw82, ← gxe]; simp
            have negrgx : gr ≠ gx := by have := grp; omega
            have negxgr : gx ≠ gr := Ne.symm negrgx
            have HLx := Lib.hid (show Wb.SrcRow w82 3 (.slice (some ⟨gx, 0, none⟩) 1 1) 1 (rowsOf hdc [(x.y, x.i)]) by rw [hw82, ← gxe]; exact src_lit w81 _ rfl (rowsOf hdc [(x.y, x.i)]) _ _)
            (try rw [gxe])
            clear hw82 gxe
            refine hK.out _ _ ⟨hx82.keep z0, hx82.keep z1, hx82.keep z2⟩ (fun hHeld => ?_)
            clear hK K
            (try simp only [List.setIfInBounds_toArray, List.set_cons_zero, List.set_cons_succ])
            refine wpAnyH_ready (rs := [4]) (by kernel_rfl) (by simp) ?_
            refine AllReadyH.cons (o := _) rfl (fun K hK => ?_) AllReadyH.nil
            obtain ⟨hi, hz0, hz1, hz2⟩ := HIN.out
            refine Wb.step_append_row (by rfl) _ _ _ (by rfl) W0.heap.size 24 i0 slZ 3 40 Try.underlying25 hi hz0 hz1 hz2 (by rfl) (by decide) _ (0) ([]) (by rfl) (HO82r.out) _ (by rfl) (j) (rowsOf hdc (r.take j)) (HC1.out.ext hx82) (hdc_one _) (by unfold maxLen; omega) (by omega) (Below.size (show Wb.Ext W0 w82 from hx82)) ?_
            intro v83 w83 ho83 hg83 hat83
            obtain ⟨N83, hN83⟩ : ∃ n, n = 0 + (j) := ⟨_, rfl⟩
            rw [← hN83] at ho83
            have HN83 := Lib.hid hN83
            have hNb83 : N83 ≤ 0 + (j) := Nat.le_of_eq hN83
            clear hN83
            have HO83 := Lib.hid ho83
            have hx83 : Wb.Ext W0 w83 := Wb.Ext.grown hx82 hg83 (fun q hq => (HO82r.out.lt q hq).1)
            replace HLx := Lib.hid (src_grown HLx.out hg83 (fun a m c e => by cases e; intro hq; injection hq with hq; exact negrgx hq))
            obtain ⟨ra83, rc83, rfl⟩ := row_shape ho83
            replace grh : gr < w83.heap.size := Nat.lt_of_lt_of_le grh hg83.size
            replace gxh : gx < w83.heap.size := Nat.lt_of_lt_of_le gxh hg83.size
            clear hi hz0 hz1 hz2 ho83 hg83 hat83
            refine hK.out _ _ ⟨hx83.keep z0, hx83.keep z1, hx83.keep z2⟩ (fun hHeld => ?_)
            clear hK K
            (try simp only [List.setIfInBounds_toArray, List.set_cons_zero, List.set_cons_succ])
            refine wpAnyH_ready (rs := [7]) (by kernel_rfl) (by simp) ?_
            refine AllReadyH.cons (o := _) rfl (fun K hK => ?_) AllReadyH.nil
            obtain ⟨hi, hz0, hz1, hz2⟩ := HIN.out
            refine Wb.step_append_row (by rfl) _ _ _ (by rfl) W0.heap.size 24 i0 slZ 3 40 Try.underlying25 hi hz0 hz1 hz2 (by rfl) (by decide) _ (N83) ([] ++ rowsOf hdc (r.take j)) (by rfl) (HO83.out) _ (by rfl) (1) (rowsOf hdc [(x.y, x.i)]) (HLx.out) (hdc_one _) (by unfold maxLen; omega) (by omega) (Below.size (show Wb.Ext W0 w83 from hx83)) ?_
            intro v84 w84 ho84 hg84 hat84
            obtain ⟨N84, hN84⟩ : ∃ n, n = N83 + (1) := ⟨_, rfl⟩
            rw [← hN84] at ho84
            have HN84 := Lib.hid hN84
            have hNb84 : N84 ≤ N83 + (1) := Nat.le_of_eq hN84
            clear hN84
            have HO84 := Lib.hid ho84
            have hx84 : Wb.Ext W0 w84 := Wb.Ext.grown hx83 hg84 (fun q hq => (HO83.out.lt q hq).1)
            obtain ⟨ra84, rc84, rfl⟩ := row_shape ho84
            replace grh : gr < w84.heap.size := Nat.lt_of_lt_of_le grh hg84.size
            replace gxh : gx < w84.heap.size := Nat.lt_of_lt_of_le gxh hg84.size
            clear hi hz0 hz1 hz2 ho84 hg84 hat84
            refine hK.out _ _ ⟨hx84.keep z0, hx84.keep z1, hx84.keep z2⟩ (fun hHeld => ?_)
            clear hK K
            (try simp only [List.setIfInBounds_toArray, List.set_cons_zero, List.set_cons_succ])
            refine wpAnyH_ready (rs := [11]) (by kernel_rfl) (by simp) ?_
            refine AllReadyH.cons (o := _) rfl (fun K hK => ?_) AllReadyH.nil
            obtain ⟨hi, hz0, hz1, hz2⟩ := HIN.out
            refine Wb.step_append_row (by rfl) _ _ _ (by rfl) W0.heap.size 24 i0 slZ 3 40 Try.underlying25 hi hz0 hz1 hz2 (by rfl) (by decide) _ (N84) ([] ++ rowsOf hdc (r.take j) ++ rowsOf hdc [(x.y, x.i)]) (by rfl) (HO84.out) _ (by rfl) (r.length - j) (rowsOf hdc (r.drop j)) (HC2.out.ext hx84) (hdc_one _) (by unfold maxLen; omega) (by omega) (Below.size (show Wb.Ext W0 w84 from hx84)) ?_
            intro v85 w85 ho85 hg85 hat85
            obtain ⟨N85, hN85⟩ : ∃ n, n = N84 + (r.length - j) := ⟨_, rfl⟩
            rw [← hN85] at ho85
            have HN85 := Lib.hid hN85
            have hNb85 : N85 ≤ N84 + (r.length - j) := Nat.le_of_eq hN85
            clear hN85
            have HO85 := Lib.hid ho85
            have hx85 : Wb.Ext W0 w85 := Wb.Ext.grown hx84 hg85 (fun q hq => (HO84.out.lt q hq).1)
            obtain ⟨ra85, rc85, rfl⟩ := row_shape ho85
            replace grh : gr < w85.heap.size := Nat.lt_of_lt_of_le grh hg85.size
            replace gxh : gx < w85.heap.size := Nat.lt_of_lt_of_le gxh hg85.size
            clear hi hz0 hz1 hz2 ho85 hg85 hat85
            refine hK.out _ _ ⟨hx85.keep z0, hx85.keep z1, hx85.keep z2⟩ (fun hHeld => ?_)
            clear hK K
            (try simp only [List.setIfInBounds_toArray, List.set_cons_zero, List.set_cons_succ])
            refine take_d (i := 12) (d := 3) (v := ?_) rfl rfl (by kernel_rfl) (by kernel_rfl) (by kernel_rfl) (fun _ _ _ h => h) (Or.inl ⟨by rfl, ?_⟩) (by assumption) ?_
            rotate_left
            · (intro w hSw; (try dsimp only at hSw); go_simp; (try with_reducible rfl))
            (try simp only [Act.put, List.setIfInBounds_toArray, List.set_cons_zero, List.set_cons_succ])
            refine wpAnyH_done (by kernel_rfl) ?_ _
            have HRES := Lib.hid (show w85.ownsRow w.heap.size 24 3 (.slice ra85 N85 rc85) (Wb.headsP (L.take (k + 1))).length (rowsOf hdc (Wb.headsP (L.take (k + 1)))) by
              refine row_mono (base := W0.heap.size) ?_ HWZ.out.size
              have h1 := HO85.out
              rw [HHT.out, HINS.out]
              have h2 : (r.take j ++ (x.y, x.i) :: r.drop j).length = N85 := by rw [HN85.out, HN84.out, HN83.out]; first | (simp; done) | (simp; omega)
              rw [h2]
              have h3 : rowsOf hdc (r.take j ++ (x.y, x.i) :: r.drop j) = [] ++ rowsOf hdc (r.take j) ++ rowsOf hdc [(x.y, x.i)] ++ rowsOf hdc (r.drop j) := by simp [rowsOf]
              rw [h3]
              exact h1)
            have HEX := Lib.hid (HWZ.out.trans hx85)
            go_wp2
            go_roundw
            case rel => exact ⟨k + 1, by omega, by go_num, by simpa using HRES, HEX.out⟩
            case measure => first | (simp [intOf]; done) | (simp [intOf]; omega)
          exact AllReadyH.nil
        refine AllReadyH.cons (o := _) rfl (fun K hK => ?_) ?_
        · go_simp
          refine atK fun w81 hw81 => ?_
          have hx81 : Wb.Ext W0 w81 := by rw [hw81]; exact Wb.Ext.alloc (.drew (.refl _)) _
          obtain ⟨gx, gxe⟩ : ∃ g, W0.heap.size = g := ⟨_, rfl⟩
          have gxh : gx < w81.heap.size := by rw [hw81, ← gxe]; simp
          have HLx := Lib.hid (show Wb.SrcRow w81 3 (.slice (some ⟨gx, 0, none⟩) 1 1) 1 (rowsOf hdc [(x.y, x.i)]) by rw [hw81, ← gxe]; exact src_lit W0 _ rfl (rowsOf hdc [(x.y, x.i)]) _ _)
          (try rw [gxe])
          clear hw81 gxe
          refine hK.out _ _ ⟨hx81.keep z0, hx81.keep z1, hx81.keep z2⟩ (fun hHeld => ?_)
          clear hK K
          (try simp only [List.setIfInBounds_toArray, List.set_cons_zero, List.set_cons_succ])
          refine wpAnyH_ready (rs := [0]) (by kernel_rfl) (by simp) ?_
          refine AllReadyH.cons (o := _) rfl (fun K hK => ?_) AllReadyH.nil
          go_simp
          refine atK fun w82 hw82 => ?_
          have hx82 : Wb.Ext W0 w82 := by rw [hw82]; exact Wb.Ext.alloc hx81 _
          replace HLx := Lib.hid (HLx.out.ext (show Wb.Ext w81 w82 by rw [hw82]; exact Wb.Ext.alloc (.refl _) _))
          have gxp := gxh
          replace gxh : gx < w82.heap.size := Nat.lt_of_lt_of_le gxh (by rw [hw82]; simp)
          obtain ⟨gr, gre⟩ : ∃ g, w81.heap.size = g := ⟨_, rfl⟩
          have grh : gr < w82.heap.size := by rw [hw82, ← gre]; simp
          have negxgr : gx ≠ gr := by have := gxp; omega
          have negrgx : gr ≠ gx := Ne.symm negxgr
          have HO82 := Lib.hid (show w82.ownsRow W0.heap.size 24 3 (.slice (some ⟨gr, 0, none⟩) 0 0) 0 [] by rw [hw82, ← gre]; exact own_empty (w := w81) (by first | exact Nat.le_refl _ | exact hx81.size))
          (try rw [gre])
          clear hw82 gre
          refine hK.out _ _ ⟨hx82.keep z0, hx82.keep z1, hx82.keep z2⟩ (fun hHeld => ?_)
          clear hK K
          (try simp only [List.setIfInBounds_toArray, List.set_cons_zero, List.set_cons_succ])
          refine wpAnyH_ready (rs := [4]) (by kernel_rfl) (by simp) ?_
          refine AllReadyH.cons (o := _) rfl (fun K hK => ?_) AllReadyH.nil
          obtain ⟨hi, hz0, hz1, hz2⟩ := HIN.out
          refine Wb.step_append_row (by rfl) _ _ _ (by rfl) W0.heap.size 24 i0 slZ 3 40 Try.underlying25 hi hz0 hz1 hz2 (by rfl) (by decide) _ (0) ([]) (by rfl) (HO82.out) _ (by rfl) (j) (rowsOf hdc (r.take j)) (HC1.out.ext hx82) (hdc_one _) (by unfold maxLen; omega) (by omega) (Below.size (show Wb.Ext W0 w82 from hx82)) ?_
          intro v83 w83 ho83 hg83 hat83
          obtain ⟨N83, hN83⟩ : ∃ n, n = 0 + (j) := ⟨_, rfl⟩
          rw [← hN83] at ho83
          have HN83 := Lib.hid hN83
          have hNb83 : N83 ≤ 0 + (j) := Nat.le_of_eq hN83
          clear hN83
          have HO83 := Lib.hid ho83
          have hx83 : Wb.Ext W0 w83 := Wb.Ext.grown hx82 hg83 (fun q hq => (HO82.out.lt q hq).1)
          replace HLx := Lib.hid (src_grown HLx.out hg83 (fun a m c e => by cases e; intro hq; injection hq with hq; exact negrgx hq))
          obtain ⟨ra83, rc83, rfl⟩ := row_shape ho83
          replace gxh : gx < w83.heap.size := Nat.lt_of_lt_of_le gxh hg83.size
          replace grh : gr < w83.heap.size := Nat.lt_of_lt_of_le grh hg83.size
          clear hi hz0 hz1 hz2 ho83 hg83 hat83
          refine hK.out _ _ ⟨hx83.keep z0, hx83.keep z1, hx83.keep z2⟩ (fun hHeld => ?_)
          clear hK K
          (try simp only [List.setIfInBounds_toArray, List.set_cons_zero, List.set_cons_succ])
          refine wpAnyH_ready (rs := [7]) (by kernel_rfl) (by simp) ?_
          refine AllReadyH.cons (o := _) rfl (fun K hK => ?_) AllReadyH.nil
          obtain ⟨hi, hz0, hz1, hz2⟩ := HIN.out
          refine Wb.step_append_row (by rfl) _ _ _ (by rfl) W0.heap.size 24 i0 slZ 3 40 Try.underlying25 hi hz0 hz1 hz2 (by rfl) (by decide) _ (N83) ([] ++ rowsOf hdc (r.take j)) (by rfl) (HO83.out) _ (by rfl) (1) (rowsOf hdc [(x.y, x.i)]) (HLx.out) (hdc_one _) (by unfold maxLen; omega) (by omega) (Below.size (show Wb.Ext W0 w83 from hx83)) ?_
          intro v84 w84 ho84 hg84 hat84
          obtain ⟨N84, hN84⟩ : ∃ n, n = N83 + (1) := ⟨_, rfl⟩
          rw [← hN84] at ho84
          have HN84 := Lib.hid hN84
          have hNb84 : N84 ≤ N83 + (1) := Nat.le_of_eq hN84
          clear hN84
          have HO84 := Lib.hid ho84
          have hx84 : Wb.Ext W0 w84 := Wb.Ext.grown hx83 hg84 (fun q hq => (HO83.out.lt q hq).1)
          obtain ⟨ra84, rc84, rfl⟩ := row_shape ho84
          replace gxh : gx < w84.heap.size := Nat.lt_of_lt_of_le gxh hg84.size
          replace grh : gr < w84.heap.size := Nat.lt_of_lt_of_le grh hg84.size
          clear hi hz0 hz1 hz2 ho84 hg84 hat84
          refine hK.out _ _ ⟨hx84.keep z0, hx84.keep z1, hx84.keep z2⟩ (fun hHeld => ?_)
          clear hK K
          (try simp only [List.setIfInBounds_toArray, List.set_cons_zero, List.set_cons_succ])
          refine wpAnyH_ready (rs := [11]) (by kernel_rfl) (by simp) ?_
          refine AllReadyH.cons (o := _) rfl (fun K hK => ?_) AllReadyH.nil
          obtain ⟨hi, hz0, hz1, hz2⟩ := HIN.out
          refine Wb.step_append_row (by rfl) _ _ _ (by rfl) W0.heap.size 24 i0 slZ 3 40 Try.underlying25 hi hz0 hz1 hz2 (by rfl) (by decide) _ (N84) ([] ++ rowsOf hdc (r.take j) ++ rowsOf hdc [(x.y, x.i)]) (by rfl) (HO84.out) _ (by rfl) (r.length - j) (rowsOf hdc (r.drop j)) (HC2.out.ext hx84) (hdc_one _) (by unfold maxLen; omega) (by omega) (Below.size (show Wb.Ext W0 w84 from hx84)) ?_
          intro v85 w85 ho85 hg85 hat85
          obtain ⟨N85, hN85⟩ : ∃ n, n = N84 + (r.length - j) := ⟨_, rfl⟩
          rw [← hN85] at ho85
          have HN85 := Lib.hid hN85
          have hNb85 : N85 ≤ N84 + (r.length - j) := Nat.le_of_eq hN85
          clear hN85
          have HO85 := Lib.hid ho85
          have hx85 : Wb.Ext W0 w85 := Wb.Ext.grown hx84 hg85 (fun q hq => (HO84.out.lt q hq).1)
          obtain ⟨ra85, rc85, rfl⟩ := row_shape ho85
          replace gxh : gx < w85.heap.size := Nat.lt_of_lt_of_le gxh hg85.size
          replace grh : gr < w85.heap.size := Nat.lt_of_lt_of_le grh hg85.size
          clear hi hz0 hz1 hz2 ho85 hg85 hat85
          refine hK.out _ _ ⟨hx85.keep z0, hx85.keep z1, hx85.keep z2⟩ (fun hHeld => ?_)
          clear hK K
          (try simp only [List.setIfInBounds_toArray, List.set_cons_zero, List.set_cons_succ])
          refine take_d (i := 12) (d := 3) (v := ?_) rfl rfl (by kernel_rfl) (by kernel_rfl) (by kernel_rfl) (fun _ _ _ h => h) (Or.inl ⟨by rfl, ?_⟩) (by assumption) ?_
          rotate_left
          · (intro w hSw; (try dsimp only at hSw); go_simp; (try with_reducible rfl))
          (try simp only [Act.put, List.setIfInBounds_toArray, List.set_cons_zero, List.set_cons_succ])
          refine wpAnyH_done (by kernel_rfl) ?_ _
          have HRES := Lib.hid (show w85.ownsRow w.heap.size 24 3 (.slice ra85 N85 rc85) (Wb.headsP (L.take (k + 1))).length (rowsOf hdc (Wb.headsP (L.take (k + 1)))) by
            refine row_mono (base := W0.heap.size) ?_ HWZ.out.size
            have h1 := HO85.out
            rw [HHT.out, HINS.out]
            have h2 : (r.take j ++ (x.y, x.i) :: r.drop j).length = N85 := by rw [HN85.out, HN84.out, HN83.out]; first | (simp; done) | (simp; omega)
            rw [h2]
            have h3 : rowsOf hdc (r.take j ++ (x.y, x.i) :: r.drop j) = [] ++ rowsOf hdc (r.take j) ++ rowsOf hdc [(x.y, x.i)] ++ rowsOf hdc (r.drop j) := by simp [rowsOf]
            rw [h3]
            exact h1)
          have HEX := Lib.hid (HWZ.out.trans hx85)
          go_wp2
          go_roundw
          case rel => exact ⟨k + 1, by omega, by go_num, by simpa using HRES, HEX.out⟩
          case measure => first | (simp [intOf]; done) | (simp [intOf]; omega)
        exact AllReadyH.nil
      obtain ⟨y, hy⟩ := Wb.get_ex hltj
      obtain ⟨rb, ro, hre, hcc⟩ := (row_tbl (f := hdc) hdc_len (by decide) (row_ext3 HRO.out hxq)).opened (tne hltj)
      subst hre
      have y0 := hcc j y hy 0 _ rfl
      have y1 := hcc j y hy 1 _ rfl
      have y2 := hcc j y hy 2 _ rfl
      simp only [Nat.add_zero] at y0
      have hji : (j : Int) < r.length := by omega
      have hjd : decide ((j : Int) < (r.length : Int)) = true := by simp; omega
      have HY := Lib.hid hy
      obtain ⟨q, hq⟩ : ∃ q, prLt (y.1, y.2) (x.y, x.i) = q := ⟨_, rfl⟩
      have HQ := Lib.hid hq
      clear hy hcc hq
      go_upto_region 7 with (fail)
      refine Wb.wp_at fun W0 hW0 => ?_
      have hb7 : Wb.Ext wr W0 := by rw [hW0]; first | exact Wb.Ext.refl _ | (repeat' (first | (with_reducible assumption) | (with_reducible exact Wb.Ext.refl _) | (with_reducible refine Wb.Ext.drew ?_) | (with_reducible refine Wb.Ext.drewN ?_ _) | (with_reducible refine Wb.Ext.alloc ?_ _) | (with_reducible refine Wb.Ext.trans ?_ (by assumption))))
      have z0 := hb7.keep z0
      have z1 := hb7.keep z1
      have z2 := hb7.keep z2
      have y0 := hb7.keep y0
      have y1 := hb7.keep y1
      have y2 := hb7.keep y2
      have HXZ := Lib.hid (hxq.trans hb7)
      clear hW0 hb7
      refine region_start (S := (fun w' => w'.cell? ⟨G, 0, none⟩ = some (.int .i64 x.y) ∧ w'.cell? ⟨G, 1, none⟩ = some (.int .i64 x.i) ∧ w'.cell? ⟨G, 2, none⟩ = some (.slice none 0 0) ∧ w'.cell? ⟨rb, ro + j * 3, none⟩ = some (.int .i64 y.1) ∧ w'.cell? ⟨rb, ro + j * 3 + 1, none⟩ = some (.int .i64 y.2) ∧ w'.cell? ⟨rb, ro + j * 3 + 2, none⟩ = some (.slice none 0 0))) (n := 12) (l := #[false, false, false, false, false, false, false, false, false, false, false, false]) (by kernel_rfl) ⟨z0, z1, z2, y0, y1, y2⟩ (by kernel_rfl) (by kernel_rfl) (fun hHeld => ?_)
      refine take_d (i := 0) (d := 24) (v := ?_) rfl rfl (by kernel_rfl) (by kernel_rfl) (by kernel_rfl) (fun _ _ _ h => h) (Or.inl ⟨by rfl, ?_⟩) (by assumption) ?_
      rotate_left
      · (intro w hSw; (try dsimp only at hSw); go_simp; (try with_reducible rfl))
      (try simp only [Act.put, List.setIfInBounds_toArray, List.set_cons_zero, List.set_cons_succ])
      refine take_d (i := 1) (d := 25) (v := ?_) rfl rfl (by kernel_rfl) (by kernel_rfl) (by kernel_rfl) (fun _ _ _ h => h) (Or.inl ⟨by rfl, ?_⟩) (by assumption) ?_
      rotate_left
      · (intro w hSw; (try dsimp only at hSw); go_simp; (try with_reducible rfl))
      (try simp only [Act.put, List.setIfInBounds_toArray, List.set_cons_zero, List.set_cons_succ])
      refine take_d (i := 2) (d := 26) (v := ?_) rfl rfl (by kernel_rfl) (by kernel_rfl) (by kernel_rfl) (fun _ _ _ h => h) (Or.inl ⟨by rfl, ?_⟩) (by assumption) ?_
      rotate_left
      · (intro w hSw; (try dsimp only at hSw); go_simp; (try with_reducible rfl))
      (try simp only [Act.put, List.setIfInBounds_toArray, List.set_cons_zero, List.set_cons_succ])
      refine take_d (i := 3) (d := 27) (v := ?_) rfl rfl (by kernel_rfl) (by kernel_rfl) (by kernel_rfl) (fun _ _ _ h => h) (Or.inl ⟨by rfl, ?_⟩) (by assumption) ?_
      rotate_left
      · (intro w hSw; (try dsimp only at hSw); go_simp; (try with_reducible rfl))
      (try simp only [Act.put, List.setIfInBounds_toArray, List.set_cons_zero, List.set_cons_succ])
      refine take_d (i := 4) (d := 28) (v := ?_) rfl rfl (by kernel_rfl) (by kernel_rfl) (by kernel_rfl) (fun _ _ _ h => h) (Or.inl ⟨by rfl, ?_⟩) (by assumption) ?_
      rotate_left
      · (intro w hSw; (try dsimp only at hSw); go_simp; (try with_reducible rfl))
      (try simp only [Act.put, List.setIfInBounds_toArray, List.set_cons_zero, List.set_cons_succ])
      refine take_d (i := 5) (d := 29) (v := ?_) rfl rfl (by kernel_rfl) (by kernel_rfl) (by kernel_rfl) (fun _ _ _ h => h) (Or.inl ⟨by rfl, ?_⟩) (by assumption) ?_
      rotate_left
      · (intro w hSw; (try dsimp only at hSw); go_simp; (try with_reducible rfl))
      (try simp only [Act.put, List.setIfInBounds_toArray, List.set_cons_zero, List.set_cons_succ])
      refine take_d (i := 6) (d := 30) (v := ?_) rfl rfl (by kernel_rfl) (by kernel_rfl) (by kernel_rfl) (fun _ _ _ h => h) (Or.inl ⟨by rfl, ?_⟩) (by assumption) ?_
      rotate_left
      · (intro w hSw; (try dsimp only at hSw); go_simp; (try with_reducible rfl))
      (try simp only [Act.put, List.setIfInBounds_toArray, List.set_cons_zero, List.set_cons_succ])
      refine take_d (i := 7) (d := 31) (v := ?_) rfl rfl (by kernel_rfl) (by kernel_rfl) (by kernel_rfl) (fun _ _ _ h => h) (Or.inl ⟨by rfl, ?_⟩) (by assumption) ?_
      rotate_left
      · (intro w hSw; (try dsimp only at hSw); go_simp; (try with_reducible rfl))
      (try simp only [Act.put, List.setIfInBounds_toArray, List.set_cons_zero, List.set_cons_succ])
      refine take_d (i := 8) (d := 32) (v := ?_) rfl rfl (by kernel_rfl) (by kernel_rfl) (by kernel_rfl) (fun _ _ _ h => h) (Or.inl ⟨by rfl, ?_⟩) (by assumption) ?_
      rotate_left
      · (intro w hSw; (try dsimp only at hSw); go_simp; (try with_reducible rfl))
      (try simp only [Act.put, List.setIfInBounds_toArray, List.set_cons_zero, List.set_cons_succ])
      refine take_d (i := 9) (d := 33) (v := ?_) rfl rfl (by kernel_rfl) (by kernel_rfl) (by kernel_rfl) (fun _ _ _ h => h) (Or.inl ⟨by rfl, ?_⟩) (by assumption) ?_
      rotate_left
      · (intro w hSw; (try dsimp only at hSw); go_simp; (try with_reducible rfl))
      (try simp only [Act.put, List.setIfInBounds_toArray, List.set_cons_zero, List.set_cons_succ])
      refine wpAnyH_ready (rs := [10]) (by kernel_rfl) (by simp) ?_
      refine AllReadyH.cons (o := _) rfl (fun K hK => ?_) AllReadyH.nil
      go_simp
      go_at_call 68
      go_fit (rbefore_any y.1 y.2 none 0 0 x.y x.i none 0 0 _)
      rintro e w41 ⟨rfl, hb41⟩
      rw [HQ.out]
      have hx41 : Wb.Ext W0 w41 := Wb.Ext.trans (.drew (.refl _)) hb41
      clear hb41
      refine hK.out _ _ ⟨hx41.keep z0, hx41.keep z1, hx41.keep z2, hx41.keep y0, hx41.keep y1, hx41.keep y2⟩ (fun hHeld => ?_)
      clear hK K
      (try simp only [List.setIfInBounds_toArray, List.set_cons_zero, List.set_cons_succ])
      refine take_d (i := 11) (d := 35) (v := ?_) rfl rfl (by kernel_rfl) (by kernel_rfl) (by kernel_rfl) (fun _ _ _ h => h) (Or.inl ⟨by rfl, ?_⟩) (by assumption) ?_
      rotate_left
      · (intro w hSw; (try dsimp only at hSw); go_simp; (try with_reducible rfl))
      (try simp only [Act.put, List.setIfInBounds_toArray, List.set_cons_zero, List.set_cons_succ])
      refine wpAnyH_done (by kernel_rfl) ?_ _
      have z0 := hx41.keep z0
      have z1 := hx41.keep z1
      have z2 := hx41.keep z2
      have y0 := hx41.keep y0
      have y1 := hx41.keep y1
      have y2 := hx41.keep y2
      have hx9 : Wb.Ext wz w41 := HXZ.out.trans hx41
      cases q
      rotate_left
      · have HLN := Lib.hid (show ∀ t u, r[t]? = some u → t < j + 1 → prLt u (x.y, x.i) = true from fun t u ht htj => by
          rcases Nat.lt_or_ge t j with h | h
          · exact HLO.out t u ht h
          · obtain rfl : t = j := by omega
            rw [HY.out] at ht; cases ht; exact HQ.out)
        go_wp2
        go_roundw
        case rel => exact ⟨j + 1, by omega, by go_num, HLN, by (repeat' (first | (with_reducible assumption) | (with_reducible exact Wb.Ext.refl _) | (with_reducible refine Wb.Ext.drew ?_) | (with_reducible refine Wb.Ext.drewN ?_ _) | (with_reducible refine Wb.Ext.alloc ?_ _) | (with_reducible refine Wb.Ext.trans ?_ (by assumption))))⟩
        case measure => first | (simp [intOf]; done) | (simp [intOf]; omega)
      go_upto_region 9 with (fail)
      refine Wb.wp_at fun WQ hWQ => ?_
      have hbq : Wb.Ext w41 WQ := by rw [hWQ]; first | exact Wb.Ext.refl _ | (repeat' (first | (with_reducible assumption) | (with_reducible exact Wb.Ext.refl _) | (with_reducible refine Wb.Ext.drew ?_) | (with_reducible refine Wb.Ext.drewN ?_ _) | (with_reducible refine Wb.Ext.alloc ?_ _) | (with_reducible refine Wb.Ext.trans ?_ (by assumption))))
      have z0 := hbq.keep z0
      have z1 := hbq.keep z1
      have z2 := hbq.keep z2
      have y0 := hbq.keep y0
      have y1 := hbq.keep y1
      have y2 := hbq.keep y2
      have HRQ := Lib.hid (HRZ.out.trans (hx9.trans hbq))
      have HWQ := Lib.hid (hxw.trans HRQ.out)
      obtain ⟨q2, hq2⟩ : ∃ q, prLt (x.y, x.i) (y.1, y.2) = q := ⟨_, rfl⟩
      have HQ2 := Lib.hid hq2
      clear hWQ hbq hq2
      refine region_start (S := (fun w' => w'.cell? ⟨G, 0, none⟩ = some (.int .i64 x.y) ∧ w'.cell? ⟨G, 1, none⟩ = some (.int .i64 x.i) ∧ w'.cell? ⟨G, 2, none⟩ = some (.slice none 0 0) ∧ w'.cell? ⟨rb, ro + j * 3, none⟩ = some (.int .i64 y.1) ∧ w'.cell? ⟨rb, ro + j * 3 + 1, none⟩ = some (.int .i64 y.2) ∧ w'.cell? ⟨rb, ro + j * 3 + 2, none⟩ = some (.slice none 0 0))) (n := 13) (l := #[false, false, false, false, false, false, false, false, false, false, false, false, false]) (by kernel_rfl) ⟨z0, z1, z2, y0, y1, y2⟩ (by kernel_rfl) (by kernel_rfl) (fun hHeld => ?_)
      refine take_d (i := 0) (d := 38) (v := ?_) rfl rfl (by kernel_rfl) (by kernel_rfl) (by kernel_rfl) (fun _ _ _ h => h) (Or.inl ⟨by rfl, ?_⟩) (by assumption) ?_
      rotate_left
      · (intro w hSw; (try dsimp only at hSw); go_simp; (try with_reducible rfl))
      (try simp only [Act.put, List.setIfInBounds_toArray, List.set_cons_zero, List.set_cons_succ])
      refine take_d (i := 1) (d := 39) (v := ?_) rfl rfl (by kernel_rfl) (by kernel_rfl) (by kernel_rfl) (fun _ _ _ h => h) (Or.inl ⟨by rfl, ?_⟩) (by assumption) ?_
      rotate_left
      · (intro w hSw; (try dsimp only at hSw); go_simp; (try with_reducible rfl))
      (try simp only [Act.put, List.setIfInBounds_toArray, List.set_cons_zero, List.set_cons_succ])
      refine take_d (i := 2) (d := 40) (v := ?_) rfl rfl (by kernel_rfl) (by kernel_rfl) (by kernel_rfl) (fun _ _ _ h => h) (Or.inl ⟨by rfl, ?_⟩) (by assumption) ?_
      rotate_left
      · (intro w hSw; (try dsimp only at hSw); go_simp; (try with_reducible rfl))
      (try simp only [Act.put, List.setIfInBounds_toArray, List.set_cons_zero, List.set_cons_succ])
      refine take_d (i := 3) (d := 41) (v := ?_) rfl rfl (by kernel_rfl) (by kernel_rfl) (by kernel_rfl) (fun _ _ _ h => h) (Or.inl ⟨by rfl, ?_⟩) (by assumption) ?_
      rotate_left
      · (intro w hSw; (try dsimp only at hSw); go_simp; (try with_reducible rfl))
      (try simp only [Act.put, List.setIfInBounds_toArray, List.set_cons_zero, List.set_cons_succ])
      refine take_d (i := 4) (d := 42) (v := ?_) rfl rfl (by kernel_rfl) (by kernel_rfl) (by kernel_rfl) (fun _ _ _ h => h) (Or.inl ⟨by rfl, ?_⟩) (by assumption) ?_
      rotate_left
      · (intro w hSw; (try dsimp only at hSw); go_simp; (try with_reducible rfl))
      (try simp only [Act.put, List.setIfInBounds_toArray, List.set_cons_zero, List.set_cons_succ])
      refine take_d (i := 5) (d := 43) (v := ?_) rfl rfl (by kernel_rfl) (by kernel_rfl) (by kernel_rfl) (fun _ _ _ h => h) (Or.inl ⟨by rfl, ?_⟩) (by assumption) ?_
      rotate_left
      · (intro w hSw; (try dsimp only at hSw); go_simp; (try with_reducible rfl))
      (try simp only [Act.put, List.setIfInBounds_toArray, List.set_cons_zero, List.set_cons_succ])
      refine take_d (i := 6) (d := 44) (v := ?_) rfl rfl (by kernel_rfl) (by kernel_rfl) (by kernel_rfl) (fun _ _ _ h => h) (Or.inl ⟨by rfl, ?_⟩) (by assumption) ?_
      rotate_left
      · (intro w hSw; (try dsimp only at hSw); go_simp; (try with_reducible rfl))
      (try simp only [Act.put, List.setIfInBounds_toArray, List.set_cons_zero, List.set_cons_succ])
      refine take_d (i := 7) (d := 45) (v := ?_) rfl rfl (by kernel_rfl) (by kernel_rfl) (by kernel_rfl) (fun _ _ _ h => h) (Or.inl ⟨by rfl, ?_⟩) (by assumption) ?_
      rotate_left
      · (intro w hSw; (try dsimp only at hSw); go_simp; (try with_reducible rfl))
      (try simp only [Act.put, List.setIfInBounds_toArray, List.set_cons_zero, List.set_cons_succ])
      refine take_d (i := 8) (d := 46) (v := ?_) rfl rfl (by kernel_rfl) (by kernel_rfl) (by kernel_rfl) (fun _ _ _ h => h) (Or.inl ⟨by rfl, ?_⟩) (by assumption) ?_
      rotate_left
      · (intro w hSw; (try dsimp only at hSw); go_simp; (try with_reducible rfl))
      (try simp only [Act.put, List.setIfInBounds_toArray, List.set_cons_zero, List.set_cons_succ])
      refine take_d (i := 9) (d := 47) (v := ?_) rfl rfl (by kernel_rfl) (by kernel_rfl) (by kernel_rfl) (fun _ _ _ h => h) (Or.inl ⟨by rfl, ?_⟩) (by assumption) ?_
      rotate_left
      · (intro w hSw; (try dsimp only at hSw); go_simp; (try with_reducible rfl))
      (try simp only [Act.put, List.setIfInBounds_toArray, List.set_cons_zero, List.set_cons_succ])
      refine wpAnyH_ready (rs := [10]) (by kernel_rfl) (by simp) ?_
      refine AllReadyH.cons (o := _) rfl (fun K hK => ?_) AllReadyH.nil
      go_simp
      go_at_call 68
      go_fit (rbefore_any x.y x.i none 0 0 y.1 y.2 none 0 0 _)
      rintro e w61 ⟨rfl, hb61⟩
      rw [HQ2.out]
      have hx61 : Wb.Ext WQ w61 := Wb.Ext.trans (.drew (.refl _)) hb61
      clear hb61
      refine hK.out _ _ ⟨hx61.keep z0, hx61.keep z1, hx61.keep z2, hx61.keep y0, hx61.keep y1, hx61.keep y2⟩ (fun hHeld => ?_)
      clear hK K
      (try simp only [List.setIfInBounds_toArray, List.set_cons_zero, List.set_cons_succ])
      refine take_d (i := 11) (d := 49) (v := ?_) rfl rfl (by kernel_rfl) (by kernel_rfl) (by kernel_rfl) (fun _ _ _ h => h) (Or.inl ⟨by rfl, ?_⟩) (by assumption) ?_
      rotate_left
      · (intro w hSw; (try dsimp only at hSw); go_simp; (try with_reducible rfl))
      (try simp only [Act.put, List.setIfInBounds_toArray, List.set_cons_zero, List.set_cons_succ])
      refine take_d (i := 12) (d := 50) (v := ?_) rfl rfl (by kernel_rfl) (by kernel_rfl) (by kernel_rfl) (fun _ _ _ h => h) (Or.inl ⟨by rfl, ?_⟩) (by assumption) ?_
      rotate_left
      · (intro w hSw; (try dsimp only at hSw); go_simp; (try with_reducible rfl))
      (try simp only [Act.put, List.setIfInBounds_toArray, List.set_cons_zero, List.set_cons_succ])
      refine wpAnyH_done (by kernel_rfl) ?_ _
      have HWP := Lib.hid (HWQ.out.trans hx61)
      have hrp := HRQ.out.trans hx61
      have z0 := hx61.keep z0
      have z1 := hx61.keep z1
      have z2 := hx61.keep z2
      have HRJ := Lib.hid (row_ext3 HO.out hrp)
      cases q2
      · have HHN := Lib.hid (show Wb.headsP (L.take (k + 1)) = r by rw [HHT.out]; exact Wb.ins_same HLO.out HY.out HQ.out HQ2.out)
        have HOW := HWP.out
        go_wp2
        go_roundw
        case rel => exact ⟨k + 1, by omega, by go_num, Lib.hid (by rw [HHN.out]; exact HRJ.out), by (repeat' (first | (with_reducible assumption) | (with_reducible exact Wb.Ext.refl _) | (with_reducible refine Wb.Ext.drew ?_) | (with_reducible refine Wb.Ext.drewN ?_ _) | (with_reducible refine Wb.Ext.alloc ?_ _) | (with_reducible refine Wb.Ext.trans ?_ (by assumption))))⟩
        case measure => first | (simp [intOf]; done) | (simp [intOf]; omega)
      · have HINS := Lib.hid (show Wb.insP r (x.y, x.i) = r.take j ++ (x.y, x.i) :: r.drop j from Wb.ins_new hj HLO.out (fun z hz => by rw [HY.out] at hz; cases hz; exact ⟨HQ.out, HQ2.out⟩))
        obtain ⟨V1, V2, hs1, hc1, hs2, hc2⟩ := row_cut hdc_len HRJ.out hj
        go_upto_region 10 with (fail)
        refine Wb.wp_at fun WQ hWQ => ?_
        have hbx : Wb.Ext w61 WQ := by rw [hWQ]; first | exact Wb.Ext.refl _ | (repeat' (first | (with_reducible assumption) | (with_reducible exact Wb.Ext.refl _) | (with_reducible refine Wb.Ext.drew ?_) | (with_reducible refine Wb.Ext.drewN ?_ _) | (with_reducible refine Wb.Ext.alloc ?_ _) | (with_reducible refine Wb.Ext.trans ?_ (by assumption))))
        have z0 := hbx.keep z0
        have z1 := hbx.keep z1
        have z2 := hbx.keep z2
        have HWZ := Lib.hid (HWP.out.trans hbx)
        have HC1 := Lib.hid (hc1.ext hbx)
        have HC2 := Lib.hid (hc2.ext hbx)
        clear hWQ hc1 hc2 hbx
        refine region_start (S := (fun w' => w'.cell? ⟨G, 0, none⟩ = some (.int .i64 x.y) ∧ w'.cell? ⟨G, 1, none⟩ = some (.int .i64 x.i) ∧ w'.cell? ⟨G, 2, none⟩ = some (.slice none 0 0))) (n := 13) (l := #[false, false, false, false, false, false, false, false, false, false, false, false, false]) (by kernel_rfl) ⟨z0, z1, z2⟩ (by kernel_rfl) (by kernel_rfl) (fun hHeld => ?_)
        refine take_d (i := 1) (d := 52) (v := ?_) rfl rfl (by kernel_rfl) (by kernel_rfl) (by kernel_rfl) (fun _ _ _ h => h) (Or.inl ⟨by rfl, ?_⟩) (by assumption) ?_
        rotate_left
        · (intro w hSw; (try dsimp only at hSw); go_simp; (try with_reducible rfl))
        (try simp only [Act.put, List.setIfInBounds_toArray, List.set_cons_zero, List.set_cons_succ])
        refine take_d (i := 2) (d := 53) (v := ?_) rfl rfl (by kernel_rfl) (by kernel_rfl) (by kernel_rfl) (fun _ _ _ h => h) (Or.inl ⟨by rfl, ?_⟩) (by assumption) ?_
        rotate_left
        · (intro w hSw; (try dsimp only at hSw); go_simp; (try with_reducible rfl))
        (try simp only [Act.put, List.setIfInBounds_toArray, List.set_cons_zero, List.set_cons_succ])
        refine take_d (i := 3) (d := 54) (v := ?_) rfl rfl (by kernel_rfl) (by kernel_rfl) (by kernel_rfl) (fun _ _ _ h => h) (Or.inl ⟨by rfl, ?_⟩) (by assumption) ?_
        rotate_left
        · (intro w hSw; (try dsimp only at hSw); go_simp; (try with_reducible rfl))
        (try simp only [Act.put, List.setIfInBounds_toArray, List.set_cons_zero, List.set_cons_succ])
        refine take_d (i := 5) (d := 56) (v := ?_) rfl rfl (by kernel_rfl) (by kernel_rfl) (by kernel_rfl) (fun _ _ _ h => h) (Or.inl ⟨by rfl, ?_⟩) (by assumption) ?_
        rotate_left
        · (intro w hSw; (try dsimp only at hSw); go_simp; (try with_reducible rfl))
        (try simp only [Act.put, List.setIfInBounds_toArray, List.set_cons_zero, List.set_cons_succ])
        refine take_d (i := 8) (d := 59) (v := ?_) rfl rfl (by kernel_rfl) (by kernel_rfl) (by kernel_rfl) (fun _ _ _ h => h) (Or.inl ⟨by rfl, ?_⟩) (by assumption) ?_
        rotate_left
        · (intro w hSw; (try dsimp only at hSw); go_simp; (try with_reducible rfl))
        (try simp only [Act.put, List.setIfInBounds_toArray, List.set_cons_zero, List.set_cons_succ])
        refine take_d (i := 9) (d := 60) (v := ?_) rfl rfl (by kernel_rfl) (by kernel_rfl) (by kernel_rfl) (fun _ _ _ h => h) (Or.inl ⟨by rfl, ?_⟩) (by assumption) ?_
        rotate_left
        · (intro w hSw; (try dsimp only at hSw); go_simp; (try with_reducible rfl))
        (try simp only [Act.put, List.setIfInBounds_toArray, List.set_cons_zero, List.set_cons_succ])
        refine take_d (i := 10) (d := 61) (v := ?_) rfl rfl (by kernel_rfl) (by kernel_rfl) (by kernel_rfl) (fun _ _ _ h => h) (Or.inl ⟨by rfl, ?_⟩) (by assumption) ?_
        rotate_left
        · (intro w hSw; (try dsimp only at hSw); go_simp; (try with_reducible rfl))
        (try simp only [Act.put, List.setIfInBounds_toArray, List.set_cons_zero, List.set_cons_succ])
        refine wpAnyH_ready (rs := [0, 6]) (by kernel_rfl) (by simp) ?_
        refine AllReadyH.cons (o := _) rfl (fun K hK => ?_) ?_
        · go_simp
          refine atK fun w81 hw81 => ?_
          have hx81 : Wb.Ext WQ w81 := by rw [hw81]; exact Wb.Ext.alloc (.drew (.refl _)) _
          obtain ⟨gr, gre⟩ : ∃ g, WQ.heap.size = g := ⟨_, rfl⟩
          have grh : gr < w81.heap.size := by rw [hw81, ← gre]; simp
          have HO81 := Lib.hid (show w81.ownsRow WQ.heap.size 24 3 (.slice (some ⟨gr, 0, none⟩) 0 0) 0 [] by rw [hw81, ← gre]; exact own_empty (w := WQ) (by first | exact Nat.le_refl _ | exact (.drew (.refl _)).size))
          (try rw [gre])
          clear hw81 gre
          refine hK.out _ _ ⟨hx81.keep z0, hx81.keep z1, hx81.keep z2⟩ (fun hHeld => ?_)
          clear hK K
          (try simp only [List.setIfInBounds_toArray, List.set_cons_zero, List.set_cons_succ])
          refine wpAnyH_ready (rs := [4, 6]) (by kernel_rfl) (by simp) ?_
          refine AllReadyH.cons (o := _) rfl (fun K hK => ?_) ?_
          · obtain ⟨hi, hz0, hz1, hz2⟩ := HIN.out
            refine Wb.step_append_row (by rfl) _ _ _ (by rfl) WQ.heap.size 24 i0 slZ 3 40 Try.underlying25 hi hz0 hz1 hz2 (by rfl) (by decide) _ (0) ([]) (by rfl) (HO81.out) _ (by rfl) (j) (rowsOf hdc (r.take j)) (HC1.out.ext hx81) (hdc_one _) (by unfold maxLen; omega) (by omega) (Below.size (show Wb.Ext WQ w81 from hx81)) ?_
            intro v82 w82 ho82 hg82 hat82
            obtain ⟨N82, hN82⟩ : ∃ n, n = 0 + (j) := ⟨_, rfl⟩
            rw [← hN82] at ho82
            have HN82 := Lib.hid hN82
            have hNb82 : N82 ≤ 0 + (j) := Nat.le_of_eq hN82
            clear hN82
            have HO82 := Lib.hid ho82
            have hx82 : Wb.Ext WQ w82 := Wb.Ext.grown hx81 hg82 (fun q hq => (HO81.out.lt q hq).1)
            obtain ⟨ra82, rc82, rfl⟩ := row_shape ho82
            replace grh : gr < w82.heap.size := Nat.lt_of_lt_of_le grh hg82.size
            clear hi hz0 hz1 hz2 ho82 hg82 hat82
            refine hK.out _ _ ⟨hx82.keep z0, hx82.keep z1, hx82.keep z2⟩ (fun hHeld => ?_)
            clear hK K
            (try simp only [List.setIfInBounds_toArray, List.set_cons_zero, List.set_cons_succ])
            refine wpAnyH_ready (rs := [6]) (by kernel_rfl) (by simp) ?_
            refine AllReadyH.cons (o := _) rfl (fun K hK => ?_) AllReadyH.nil
            go_simp
            refine atK fun w83 hw83 => ?_
            have hx83 : Wb.Ext WQ w83 := by rw [hw83]; exact Wb.Ext.alloc hx82 _
            have HO83r := Lib.hid (show w83.ownsRow WQ.heap.size 24 3 _ _ _ by rw [hw83]; exact HO82.out.alloc _)
            have grp := grh
            replace grh : gr < w83.heap.size := Nat.lt_of_lt_of_le grh (by rw [hw83]; simp)
            obtain ⟨gx, gxe⟩ : ∃ g, w82.heap.size = g := ⟨_, rfl⟩
            have gxh : gx < w83.heap.size := by rw [hw83, ← gxe]; simp
            have negrgx : gr ≠ gx := by have := grp; omega
            have negxgr : gx ≠ gr := Ne.symm negrgx
            have HLx := Lib.hid (show Wb.SrcRow w83 3 (.slice (some ⟨gx, 0, none⟩) 1 1) 1 (rowsOf hdc [(x.y, x.i)]) by rw [hw83, ← gxe]; exact src_lit w82 _ rfl (rowsOf hdc [(x.y, x.i)]) _ _)
            (try rw [gxe])
            clear hw83 gxe
            refine hK.out _ _ ⟨hx83.keep z0, hx83.keep z1, hx83.keep z2⟩ (fun hHeld => ?_)
            clear hK K
            (try simp only [List.setIfInBounds_toArray, List.set_cons_zero, List.set_cons_succ])
            refine wpAnyH_ready (rs := [7]) (by kernel_rfl) (by simp) ?_
            refine AllReadyH.cons (o := _) rfl (fun K hK => ?_) AllReadyH.nil
            obtain ⟨hi, hz0, hz1, hz2⟩ := HIN.out
            refine Wb.step_append_row (by rfl) _ _ _ (by rfl) WQ.heap.size 24 i0 slZ 3 40 Try.underlying25 hi hz0 hz1 hz2 (by rfl) (by decide) _ (N82) ([] ++ rowsOf hdc (r.take j)) (by rfl) (HO83r.out) _ (by rfl) (1) (rowsOf hdc [(x.y, x.i)]) (HLx.out) (hdc_one _) (by unfold maxLen; omega) (by omega) (Below.size (show Wb.Ext WQ w83 from hx83)) ?_
            intro v84 w84 ho84 hg84 hat84
            obtain ⟨N84, hN84⟩ : ∃ n, n = N82 + (1) := ⟨_, rfl⟩
            rw [← hN84] at ho84
            have HN84 := Lib.hid hN84
            have hNb84 : N84 ≤ N82 + (1) := Nat.le_of_eq hN84
            clear hN84
            have HO84 := Lib.hid ho84
            have hx84 : Wb.Ext WQ w84 := Wb.Ext.grown hx83 hg84 (fun q hq => (HO83r.out.lt q hq).1)
            obtain ⟨ra84, rc84, rfl⟩ := row_shape ho84
            replace grh : gr < w84.heap.size := Nat.lt_of_lt_of_le grh hg84.size
            replace gxh : gx < w84.heap.size := Nat.lt_of_lt_of_le gxh hg84.size
            clear hi hz0 hz1 hz2 ho84 hg84 hat84
            refine hK.out _ _ ⟨hx84.keep z0, hx84.keep z1, hx84.keep z2⟩ (fun hHeld => ?_)
            clear hK K
            (try simp only [List.setIfInBounds_toArray, List.set_cons_zero, List.set_cons_succ])
            refine wpAnyH_ready (rs := [11]) (by kernel_rfl) (by simp) ?_
            refine AllReadyH.cons (o := _) rfl (fun K hK => ?_) AllReadyH.nil
            obtain ⟨hi, hz0, hz1, hz2⟩ := HIN.out
            refine Wb.step_append_row (by rfl) _ _ _ (by rfl) WQ.heap.size 24 i0 slZ 3 40 Try.underlying25 hi hz0 hz1 hz2 (by rfl) (by decide) _ (N84) ([] ++ rowsOf hdc (r.take j) ++ rowsOf hdc [(x.y, x.i)]) (by rfl) (HO84.out) _ (by rfl) (r.length - j) (rowsOf hdc (r.drop j)) (HC2.out.ext hx84) (hdc_one _) (by unfold maxLen; omega) (by omega) (Below.size (show Wb.Ext WQ w84 from hx84)) ?_
            intro v85 w85 ho85 hg85 hat85
            obtain ⟨N85, hN85⟩ : ∃ n, n = N84 + (r.length - j) := ⟨_, rfl⟩
            rw [← hN85] at ho85
            have HN85 := Lib.hid hN85
            have hNb85 : N85 ≤ N84 + (r.length - j) := Nat.le_of_eq hN85
            clear hN85
            have HO85 := Lib.hid ho85
            have hx85 : Wb.Ext WQ w85 := Wb.Ext.grown hx84 hg85 (fun q hq => (HO84.out.lt q hq).1)
            obtain ⟨ra85, rc85, rfl⟩ := row_shape ho85
            replace grh : gr < w85.heap.size := Nat.lt_of_lt_of_le grh hg85.size
            replace gxh : gx < w85.heap.size := Nat.lt_of_lt_of_le gxh hg85.size
            clear hi hz0 hz1 hz2 ho85 hg85 hat85
            refine hK.out _ _ ⟨hx85.keep z0, hx85.keep z1, hx85.keep z2⟩ (fun hHeld => ?_)
            clear hK K
            (try simp only [List.setIfInBounds_toArray, List.set_cons_zero, List.set_cons_succ])
            refine take_d (i := 12) (d := 3) (v := ?_) rfl rfl (by kernel_rfl) (by kernel_rfl) (by kernel_rfl) (fun _ _ _ h => h) (Or.inl ⟨by rfl, ?_⟩) (by assumption) ?_
            rotate_left
            · (intro w hSw; (try dsimp only at hSw); go_simp; (try with_reducible rfl))
            (try simp only [Act.put, List.setIfInBounds_toArray, List.set_cons_zero, List.set_cons_succ])
            refine wpAnyH_done (by kernel_rfl) ?_ _
            have HRES := Lib.hid (show w85.ownsRow w.heap.size 24 3 (.slice ra85 N85 rc85) (Wb.headsP (L.take (k + 1))).length (rowsOf hdc (Wb.headsP (L.take (k + 1)))) by
              refine row_mono (base := WQ.heap.size) ?_ HWZ.out.size
              have h1 := HO85.out
              rw [HHT.out, HINS.out]
              have h2 : (r.take j ++ (x.y, x.i) :: r.drop j).length = N85 := by rw [HN85.out, HN84.out, HN82.out]; first | (simp; done) | (simp; omega)
              rw [h2]
              have h3 : rowsOf hdc (r.take j ++ (x.y, x.i) :: r.drop j) = [] ++ rowsOf hdc (r.take j) ++ rowsOf hdc [(x.y, x.i)] ++ rowsOf hdc (r.drop j) := by simp [rowsOf]
              rw [h3]
              exact h1)
            have HEX := Lib.hid (HWZ.out.trans hx85)
            go_wp2
            go_roundw
            case rel => exact ⟨k + 1, by omega, by go_num, by simpa using HRES, HEX.out⟩
            case measure => first | (simp [intOf]; done) | (simp [intOf]; omega)
          refine AllReadyH.cons (o := _) rfl (fun K hK => ?_) ?_
          · go_simp
            refine atK fun w82 hw82 => ?_
            have hx82 : Wb.Ext WQ w82 := by rw [hw82]; exact Wb.Ext.alloc hx81 _
            have HO82r := Lib.hid (show w82.ownsRow WQ.heap.size 24 3 _ _ _ by rw [hw82]; exact HO81.out.alloc _)
            have grp := grh
            replace grh : gr < w82.heap.size := Nat.lt_of_lt_of_le grh (by rw [hw82]; simp)
            obtain ⟨gx, gxe⟩ : ∃ g, w81.heap.size = g := ⟨_, rfl⟩
            have gxh : gx < w82.heap.size := by rw [hw82, ← gxe]; simp
            have negrgx : gr ≠ gx := by have := grp; omega
            have negxgr : gx ≠ gr := Ne.symm negrgx
            have HLx := Lib.hid (show Wb.SrcRow w82 3 (.slice (some ⟨gx, 0, none⟩) 1 1) 1 (rowsOf hdc [(x.y, x.i)]) by rw [hw82, ← gxe]; exact src_lit w81 _ rfl (rowsOf hdc [(x.y, x.i)]) _ _)
            (try rw [gxe])
            clear hw82 gxe
            refine hK.out _ _ ⟨hx82.keep z0, hx82.keep z1, hx82.keep z2⟩ (fun hHeld => ?_)
            clear hK K
            (try simp only [List.setIfInBounds_toArray, List.set_cons_zero, List.set_cons_succ])
            refine wpAnyH_ready (rs := [4]) (by kernel_rfl) (by simp) ?_
            refine AllReadyH.cons (o := _) rfl (fun K hK => ?_) AllReadyH.nil
            obtain ⟨hi, hz0, hz1, hz2⟩ := HIN.out
            refine Wb.step_append_row (by rfl) _ _ _ (by rfl) WQ.heap.size 24 i0 slZ 3 40 Try.underlying25 hi hz0 hz1 hz2 (by rfl) (by decide) _ (0) ([]) (by rfl) (HO82r.out) _ (by rfl) (j) (rowsOf hdc (r.take j)) (HC1.out.ext hx82) (hdc_one _) (by unfold maxLen; omega) (by omega) (Below.size (show Wb.Ext WQ w82 from hx82)) ?_
            intro v83 w83 ho83 hg83 hat83
            obtain ⟨N83, hN83⟩ : ∃ n, n = 0 + (j) := ⟨_, rfl⟩
            rw [← hN83] at ho83
            have HN83 := Lib.hid hN83
            have hNb83 : N83 ≤ 0 + (j) := Nat.le_of_eq hN83
            clear hN83
            have HO83 := Lib.hid ho83
            have hx83 : Wb.Ext WQ w83 := Wb.Ext.grown hx82 hg83 (fun q hq => (HO82r.out.lt q hq).1)
            replace HLx := Lib.hid (src_grown HLx.out hg83 (fun a m c e => by cases e; intro hq; injection hq with hq; exact negrgx hq))
            obtain ⟨ra83, rc83, rfl⟩ := row_shape ho83
            replace grh : gr < w83.heap.size := Nat.lt_of_lt_of_le grh hg83.size
            replace gxh : gx < w83.heap.size := Nat.lt_of_lt_of_le gxh hg83.size
            clear hi hz0 hz1 hz2 ho83 hg83 hat83
            refine hK.out _ _ ⟨hx83.keep z0, hx83.keep z1, hx83.keep z2⟩ (fun hHeld => ?_)
            clear hK K
            (try simp only [List.setIfInBounds_toArray, List.set_cons_zero, List.set_cons_succ])
            refine wpAnyH_ready (rs := [7]) (by kernel_rfl) (by simp) ?_
            refine AllReadyH.cons (o := _) rfl (fun K hK => ?_) AllReadyH.nil
            obtain ⟨hi, hz0, hz1, hz2⟩ := HIN.out
            refine Wb.step_append_row (by rfl) _ _ _ (by rfl) WQ.heap.size 24 i0 slZ 3 40 Try.underlying25 hi hz0 hz1 hz2 (by rfl) (by decide) _ (N83) ([] ++ rowsOf hdc (r.take j)) (by rfl) (HO83.out) _ (by rfl) (1) (rowsOf hdc [(x.y, x.i)]) (HLx.out) (hdc_one _) (by unfold maxLen; omega) (by omega) (Below.size (show Wb.Ext WQ w83 from hx83)) ?_
            intro v84 w84 ho84 hg84 hat84
            obtain ⟨N84, hN84⟩ : ∃ n, n = N83 + (1) := ⟨_, rfl⟩
            rw [← hN84] at ho84
            have HN84 := Lib.hid hN84
            have hNb84 : N84 ≤ N83 + (1) := Nat.le_of_eq hN84
            clear hN84
            have HO84 := Lib.hid ho84
            have hx84 : Wb.Ext WQ w84 := Wb.Ext.grown hx83 hg84 (fun q hq => (HO83.out.lt q hq).1)
            obtain ⟨ra84, rc84, rfl⟩ := row_shape ho84
            replace grh : gr < w84.heap.size := Nat.lt_of_lt_of_le grh hg84.size
            replace gxh : gx < w84.heap.size := Nat.lt_of_lt_of_le gxh hg84.size
            clear hi hz0 hz1 hz2 ho84 hg84 hat84
            refine hK.out _ _ ⟨hx84.keep z0, hx84.keep z1, hx84.keep z2⟩ (fun hHeld => ?_)
            clear hK K
            (try simp only [List.setIfInBounds_toArray, List.set_cons_zero, List.set_cons_succ])
            refine wpAnyH_ready (rs := [11]) (by kernel_rfl) (by simp) ?_
            refine AllReadyH.cons (o := _) rfl (fun K hK => ?_) AllReadyH.nil
            obtain ⟨hi, hz0, hz1, hz2⟩ := HIN.out
            refine Wb.step_append_row (by rfl) _ _ _ (by rfl) WQ.heap.size 24 i0 slZ 3 40 Try.underlying25 hi hz0 hz1 hz2 (by rfl) (by decide) _ (N84) ([] ++ rowsOf hdc (r.take j) ++ rowsOf hdc [(x.y, x.i)]) (by rfl) (HO84.out) _ (by rfl) (r.length - j) (rowsOf hdc (r.drop j)) (HC2.out.ext hx84) (hdc_one _) (by unfold maxLen; omega) (by omega) (Below.size (show Wb.Ext WQ w84 from hx84)) ?_
            intro v85 w85 ho85 hg85 hat85
            obtain ⟨N85, hN85⟩ : ∃ n, n = N84 + (r.length - j) := ⟨_, rfl⟩
            rw [← hN85] at ho85
            have HN85 := Lib.hid hN85
            have hNb85 : N85 ≤ N84 + (r.length - j) := Nat.le_of_eq hN85
            clear hN85
            have HO85 := Lib.hid ho85
            have hx85 : Wb.Ext WQ w85 := Wb.Ext.grown hx84 hg85 (fun q hq => (HO84.out.lt q hq).1)
            obtain ⟨ra85, rc85, rfl⟩ := row_shape ho85
            replace grh : gr < w85.heap.size := Nat.lt_of_lt_of_le grh hg85.size
            replace gxh : gx < w85.heap.size := Nat.lt_of_lt_of_le gxh hg85.size
            clear hi hz0 hz1 hz2 ho85 hg85 hat85
            refine hK.out _ _ ⟨hx85.keep z0, hx85.keep z1, hx85.keep z2⟩ (fun hHeld => ?_)
            clear hK K
            (try simp only [List.setIfInBounds_toArray, List.set_cons_zero, List.set_cons_succ])
            refine take_d (i := 12) (d := 3) (v := ?_) rfl rfl (by kernel_rfl) (by kernel_rfl) (by kernel_rfl) (fun _ _ _ h => h) (Or.inl ⟨by rfl, ?_⟩) (by assumption) ?_
            rotate_left
            · (intro w hSw; (try dsimp only at hSw); go_simp; (try with_reducible rfl))
            (try simp only [Act.put, List.setIfInBounds_toArray, List.set_cons_zero, List.set_cons_succ])
            refine wpAnyH_done (by kernel_rfl) ?_ _
            have HRES := Lib.hid (show w85.ownsRow w.heap.size 24 3 (.slice ra85 N85 rc85) (Wb.headsP (L.take (k + 1))).length (rowsOf hdc (Wb.headsP (L.take (k + 1)))) by
              refine row_mono (base := WQ.heap.size) ?_ HWZ.out.size
              have h1 := HO85.out
              rw [HHT.out, HINS.out]
              have h2 : (r.take j ++ (x.y, x.i) :: r.drop j).length = N85 := by rw [HN85.out, HN84.out, HN83.out]; first | (simp; done) | (simp; omega)
              rw [h2]
              have h3 : rowsOf hdc (r.take j ++ (x.y, x.i) :: r.drop j) = [] ++ rowsOf hdc (r.take j) ++ rowsOf hdc [(x.y, x.i)] ++ rowsOf hdc (r.drop j) := by simp [rowsOf]
              rw [h3]
              exact h1)
            have HEX := Lib.hid (HWZ.out.trans hx85)
            go_wp2
            go_roundw
            case rel => exact ⟨k + 1, by omega, by go_num, by simpa using HRES, HEX.out⟩
            case measure => first | (simp [intOf]; done) | (simp [intOf]; omega)
          exact AllReadyH.nil
        refine AllReadyH.cons (o := _) rfl (fun K hK => ?_) ?_
        · go_simp
          refine atK fun w81 hw81 => ?_
          have hx81 : Wb.Ext WQ w81 := by rw [hw81]; exact Wb.Ext.alloc (.drew (.refl _)) _
          obtain ⟨gx, gxe⟩ : ∃ g, WQ.heap.size = g := ⟨_, rfl⟩
          have gxh : gx < w81.heap.size := by rw [hw81, ← gxe]; simp
          have HLx := Lib.hid (show Wb.SrcRow w81 3 (.slice (some ⟨gx, 0, none⟩) 1 1) 1 (rowsOf hdc [(x.y, x.i)]) by rw [hw81, ← gxe]; exact src_lit WQ _ rfl (rowsOf hdc [(x.y, x.i)]) _ _)
          (try rw [gxe])
          clear hw81 gxe
          refine hK.out _ _ ⟨hx81.keep z0, hx81.keep z1, hx81.keep z2⟩ (fun hHeld => ?_)
          clear hK K
          (try simp only [List.setIfInBounds_toArray, List.set_cons_zero, List.set_cons_succ])
          refine wpAnyH_ready (rs := [0]) (by kernel_rfl) (by simp) ?_
          refine AllReadyH.cons (o := _) rfl (fun K hK => ?_) AllReadyH.nil
          go_simp
          refine atK fun w82 hw82 => ?_
          have hx82 : Wb.Ext WQ w82 := by rw [hw82]; exact Wb.Ext.alloc hx81 _
          replace HLx := Lib.hid (HLx.out.ext (show Wb.Ext w81 w82 by rw [hw82]; exact Wb.Ext.alloc (.refl _) _))
          have gxp := gxh
          replace gxh : gx < w82.heap.size := Nat.lt_of_lt_of_le gxh (by rw [hw82]; simp)
          obtain ⟨gr, gre⟩ : ∃ g, w81.heap.size = g := ⟨_, rfl⟩
          have grh : gr < w82.heap.size := by rw [hw82, ← gre]; simp
          have negxgr : gx ≠ gr := by have := gxp; omega
          have negrgx : gr ≠ gx := Ne.symm negxgr
          have HO82 := Lib.hid (show w82.ownsRow WQ.heap.size 24 3 (.slice (some ⟨gr, 0, none⟩) 0 0) 0 [] by rw [hw82, ← gre]; exact own_empty (w := w81) (by first | exact Nat.le_refl _ | exact hx81.size))
          (try rw [gre])
          clear hw82 gre
          refine hK.out _ _ ⟨hx82.keep z0, hx82.keep z1, hx82.keep z2⟩ (fun hHeld => ?_)
          clear hK K
          (try simp only [List.setIfInBounds_toArray, List.set_cons_zero, List.set_cons_succ])
          refine wpAnyH_ready (rs := [4]) (by kernel_rfl) (by simp) ?_
          refine AllReadyH.cons (o := _) rfl (fun K hK => ?_) AllReadyH.nil
          obtain ⟨hi, hz0, hz1, hz2⟩ := HIN.out
          refine Wb.step_append_row (by rfl) _ _ _ (by rfl) WQ.heap.size 24 i0 slZ 3 40 Try.underlying25 hi hz0 hz1 hz2 (by rfl) (by decide) _ (0) ([]) (by rfl) (HO82.out) _ (by rfl) (j) (rowsOf hdc (r.take j)) (HC1.out.ext hx82) (hdc_one _) (by unfold maxLen; omega) (by omega) (Below.size (show Wb.Ext WQ w82 from hx82)) ?_
          intro v83 w83 ho83 hg83 hat83
          obtain ⟨N83, hN83⟩ : ∃ n, n = 0 + (j) := ⟨_, rfl⟩
          rw [← hN83] at ho83
          have HN83 := Lib.hid hN83
          have hNb83 : N83 ≤ 0 + (j) := Nat.le_of_eq hN83
          clear hN83
          have HO83 := Lib.hid ho83
          have hx83 : Wb.Ext WQ w83 := Wb.Ext.grown hx82 hg83 (fun q hq => (HO82.out.lt q hq).1)
          replace HLx := Lib.hid (src_grown HLx.out hg83 (fun a m c e => by cases e; intro hq; injection hq with hq; exact negrgx hq))
          obtain ⟨ra83, rc83, rfl⟩ := row_shape ho83
          replace gxh : gx < w83.heap.size := Nat.lt_of_lt_of_le gxh hg83.size
          replace grh : gr < w83.heap.size := Nat.lt_of_lt_of_le grh hg83.size
          clear hi hz0 hz1 hz2 ho83 hg83 hat83
          refine hK.out _ _ ⟨hx83.keep z0, hx83.keep z1, hx83.keep z2⟩ (fun hHeld => ?_)
          clear hK K
          (try simp only [List.setIfInBounds_toArray, List.set_cons_zero, List.set_cons_succ])
          refine wpAnyH_ready (rs := [7]) (by kernel_rfl) (by simp) ?_
          refine AllReadyH.cons (o := _) rfl (fun K hK => ?_) AllReadyH.nil
          obtain ⟨hi, hz0, hz1, hz2⟩ := HIN.out
          refine Wb.step_append_row (by rfl) _ _ _ (by rfl) WQ.heap.size 24 i0 slZ 3 40 Try.underlying25 hi hz0 hz1 hz2 (by rfl) (by decide) _ (N83) ([] ++ rowsOf hdc (r.take j)) (by rfl) (HO83.out) _ (by rfl) (1) (rowsOf hdc [(x.y, x.i)]) (HLx.out) (hdc_one _) (by unfold maxLen; omega) (by omega) (Below.size (show Wb.Ext WQ w83 from hx83)) ?_
          intro v84 w84 ho84 hg84 hat84
          obtain ⟨N84, hN84⟩ : ∃ n, n = N83 + (1) := ⟨_, rfl⟩
          rw [← hN84] at ho84
          have HN84 := Lib.hid hN84
          have hNb84 : N84 ≤ N83 + (1) := Nat.le_of_eq hN84
          clear hN84
          have HO84 := Lib.hid ho84
          have hx84 : Wb.Ext WQ w84 := Wb.Ext.grown hx83 hg84 (fun q hq => (HO83.out.lt q hq).1)
          obtain ⟨ra84, rc84, rfl⟩ := row_shape ho84
          replace gxh : gx < w84.heap.size := Nat.lt_of_lt_of_le gxh hg84.size
          replace grh : gr < w84.heap.size := Nat.lt_of_lt_of_le grh hg84.size
          clear hi hz0 hz1 hz2 ho84 hg84 hat84
          refine hK.out _ _ ⟨hx84.keep z0, hx84.keep z1, hx84.keep z2⟩ (fun hHeld => ?_)
          clear hK K
          (try simp only [List.setIfInBounds_toArray, List.set_cons_zero, List.set_cons_succ])
          refine wpAnyH_ready (rs := [11]) (by kernel_rfl) (by simp) ?_
          refine AllReadyH.cons (o := _) rfl (fun K hK => ?_) AllReadyH.nil
          obtain ⟨hi, hz0, hz1, hz2⟩ := HIN.out
          refine Wb.step_append_row (by rfl) _ _ _ (by rfl) WQ.heap.size 24 i0 slZ 3 40 Try.underlying25 hi hz0 hz1 hz2 (by rfl) (by decide) _ (N84) ([] ++ rowsOf hdc (r.take j) ++ rowsOf hdc [(x.y, x.i)]) (by rfl) (HO84.out) _ (by rfl) (r.length - j) (rowsOf hdc (r.drop j)) (HC2.out.ext hx84) (hdc_one _) (by unfold maxLen; omega) (by omega) (Below.size (show Wb.Ext WQ w84 from hx84)) ?_
          intro v85 w85 ho85 hg85 hat85
          obtain ⟨N85, hN85⟩ : ∃ n, n = N84 + (r.length - j) := ⟨_, rfl⟩
          rw [← hN85] at ho85
          have HN85 := Lib.hid hN85
          have hNb85 : N85 ≤ N84 + (r.length - j) := Nat.le_of_eq hN85
          clear hN85
          have HO85 := Lib.hid ho85
          have hx85 : Wb.Ext WQ w85 := Wb.Ext.grown hx84 hg85 (fun q hq => (HO84.out.lt q hq).1)
          obtain ⟨ra85, rc85, rfl⟩ := row_shape ho85
          replace gxh : gx < w85.heap.size := Nat.lt_of_lt_of_le gxh hg85.size
          replace grh : gr < w85.heap.size := Nat.lt_of_lt_of_le grh hg85.size
          clear hi hz0 hz1 hz2 ho85 hg85 hat85
          refine hK.out _ _ ⟨hx85.keep z0, hx85.keep z1, hx85.keep z2⟩ (fun hHeld => ?_)
          clear hK K
          (try simp only [List.setIfInBounds_toArray, List.set_cons_zero, List.set_cons_succ])
          refine take_d (i := 12) (d := 3) (v := ?_) rfl rfl (by kernel_rfl) (by kernel_rfl) (by kernel_rfl) (fun _ _ _ h => h) (Or.inl ⟨by rfl, ?_⟩) (by assumption) ?_
          rotate_left
          · (intro w hSw; (try dsimp only at hSw); go_simp; (try with_reducible rfl))
          (try simp only [Act.put, List.setIfInBounds_toArray, List.set_cons_zero, List.set_cons_succ])
          refine wpAnyH_done (by kernel_rfl) ?_ _
          have HRES := Lib.hid (show w85.ownsRow w.heap.size 24 3 (.slice ra85 N85 rc85) (Wb.headsP (L.take (k + 1))).length (rowsOf hdc (Wb.headsP (L.take (k + 1)))) by
            refine row_mono (base := WQ.heap.size) ?_ HWZ.out.size
            have h1 := HO85.out
            rw [HHT.out, HINS.out]
            have h2 : (r.take j ++ (x.y, x.i) :: r.drop j).length = N85 := by rw [HN85.out, HN84.out, HN83.out]; first | (simp; done) | (simp; omega)
            rw [h2]
            have h3 : rowsOf hdc (r.take j ++ (x.y, x.i) :: r.drop j) = [] ++ rowsOf hdc (r.take j) ++ rowsOf hdc [(x.y, x.i)] ++ rowsOf hdc (r.drop j) := by simp [rowsOf]
            rw [h3]
            exact h1)
          have HEX := Lib.hid (HWZ.out.trans hx85)
          go_wp2
          go_roundw
          case rel => exact ⟨k + 1, by omega, by go_num, by simpa using HRES, HEX.out⟩
          case measure => first | (simp [intOf]; done) | (simp [intOf]; omega)
        exact AllReadyH.nil

end Go.Proofs.Ytdfmlgjemfcmlaa
/- The reference of chapter 29: All. -/
namespace Go.Proofs.Ytdfmlgjemfcmlaa
open Go.RowKit Go.Lib
set_option maxRecDepth 8000
attribute [local go_sem ↓] Go.wp_at_zero Go.wp_at_succ

/-- slips in memory, as an append's source too -/
def SlsS (w : World) (v : Value) (L : List Wb.Sl) : Prop := Tbl 3 slc w v L ∧ (∀ s ∈ L, LnsS w s.v s.l ∧ Sized s.l) ∧ Wb.SrcRow w 3 v L.length (rowsOf slc L)
theorem SlsS.ext {w w' : World} {v : Value} {L : List Wb.Sl} (h : SlsS w v L) (k : Wb.Ext w w') : SlsS w' v L := ⟨h.1.ext k, fun s hs => ⟨(h.2.1 s hs).1.ext k, (h.2.1 s hs).2⟩, h.2.2.ext k⟩
theorem SlsS.sls {w : World} {v : Value} {L : List Wb.Sl} (h : SlsS w v L) : Sls w v L := ⟨h.1, fun s hs => ⟨(h.2.1 s hs).1.1, (h.2.1 s hs).2⟩⟩
theorem sls_shape8 {w : World} {v : Value} {L : List Wb.Sl} (h : Sls w v L) : ∀ s ∈ L, ∃ a n c, s.v = .slice a n c := fun s hs => by
  obtain ⟨a, c, e⟩ := (h.2 s hs).1.1.shape
  exact ⟨a, _, c, e⟩
theorem sls_src {w : World} {v : Value} {L : List Wb.Sl} (h : Tbl 3 slc w v L) (hv : v = .slice none 0 0 ∨ ∃ ad n c, v = .slice (some ad) n c) : Wb.SrcRow w 3 v L.length (rowsOf slc L) := by
  rcases hv with hv | ⟨ad, n, c, hv⟩
  · obtain ⟨a, c, e⟩ := h.shape
    rw [hv] at e
    injection e with _ e2 _
    have hL : L = [] := List.length_eq_zero_iff.1 e2.symm
    subst hL
    exact ⟨rfl, .inl ⟨hv, rfl⟩⟩
  · by_cases hL : L = []
    · subst hL
      exact ⟨rfl, .inr ⟨ad, c, by obtain ⟨a, c', e⟩ := h.shape; rw [hv] at e ⊢; injection e with _ e2 _; subst e2; rfl, fun j u hj => by simp [rowsOf] at hj⟩⟩
    · obtain ⟨a, c', e⟩ := h.shape
      subst e
      obtain ⟨b, off, hb, hc⟩ := h.opened hL
      subst hb
      exact src_tbl slc_len L c' rfl hc
theorem slc_one {w : World} {L : List Wb.Sl} (h : ∀ s ∈ L, ∃ a n c, s.v = .slice a n c) : ∀ u ∈ rowsOf slc L, u.oneCell' = true := by
  intro u hu
  obtain ⟨x, hx, hu⟩ := List.mem_flatMap.1 hu
  obtain ⟨a, n, c, e⟩ := h x hx
  simp [slc, e] at hu
  rcases hu with rfl | rfl | rfl <;> rfl
/-- what is found, or none, as it is handed on -/
theorem find_con {w : World} {v : Value} {L : List Wb.Sl} (h : SlsS w v L) (p : Int × Int) : ∃ y i a n c l, findV L p (SlV 0 0 (.slice none 0 0)) = SlV y i (.slice a n c) ∧ Wb.conO (Wb.findS L p) = (y, i, l) ∧ LnsS w (.slice a n c) l ∧ Sized l := by
  unfold findV
  rcases hf : Wb.findS L p with _ | s
  · exact ⟨0, 0, none, 0, 0, [], rfl, rfl, ⟨⟨.inl ⟨rfl, _, _, rfl⟩, Nat.le_refl _⟩, ⟨rfl, .inl ⟨rfl, rfl⟩⟩⟩, by simp [Sized]⟩
  · obtain ⟨h1, _⟩ := Wb.find_mem hf
    obtain ⟨h2, h3⟩ := h.2.1 s h1
    obtain ⟨a, c, e⟩ := h2.1.1.shape
    exact ⟨s.y, s.i, a, s.l.length, c, s.l, by rw [← e], rfl, by rw [← e]; exact h2, h3⟩
set_option maxHeartbeats 8000000 in
theorem rall_any (va vb : Value) (A B : List Wb.Sl) (w : World) (hA : SlsB w va A) (hB : SlsB w vb B) (hA2 : A.length ≤ 4096 → SlsS w va A) (hB2 : B.length ≤ 4096 → SlsS w vb B) (la : A.length ≤ 9223372036854775807) (lb : B.length ≤ 9223372036854775807) :
    Calls Try.prog 23 #[va, vb] w fun e w' => ∃ v E, e = .returned (.tuple #[v, .int .i64 E]) ∧ ∃ R, IsAllM w w' A B E v R := by
  obtain ⟨i0, hi, hz0, hz1, hz2⟩ := info_parts infoSlip
  have HIN := Lib.hid (show Try.prog.info? 24 = some i0 ∧ i0.zero = some slZ ∧ i0.size = 3 ∧ i0.bytes = 40 from ⟨hi, hz0, hz1, hz2⟩)
  clear hi hz0 hz1 hz2
  obtain ⟨xa, ka, rfl⟩ := hA.1.shape
  obtain ⟨xb, kb, rfl⟩ := hB.1.shape
  have HA := Lib.hid hA
  have HB := Lib.hid hB
  have HA2 := Lib.hid hA2
  have HB2 := Lib.hid hB2
  clear hA hB hA2 hB2
  go_enter Try.func23, Try.ntmps23
  go_wp2_with fail
  go_fit (rlist_any _ A _ (HA.out.ext (by (repeat' (first | (with_reducible assumption) | (with_reducible exact Wb.Ext.refl _) | (with_reducible refine Wb.Ext.drew ?_) | (with_reducible refine Wb.Ext.drewN ?_ _) | (with_reducible refine Wb.Ext.alloc ?_ _) | (with_reducible refine Wb.Ext.trans ?_ (by assumption)))))) la); rintro e w1 ⟨rfl, hb1⟩
  have hx1 : Wb.Ext w w1 := Wb.Ext.trans (by (repeat' (first | (with_reducible assumption) | (with_reducible exact Wb.Ext.refl _) | (with_reducible refine Wb.Ext.drew ?_) | (with_reducible refine Wb.Ext.drewN ?_ _) | (with_reducible refine Wb.Ext.alloc ?_ _) | (with_reducible refine Wb.Ext.trans ?_ (by assumption))))) hb1
  clear hb1
  obtain ⟨E1, hE1⟩ : ∃ E, Wb.listE A = E := ⟨_, rfl⟩
  have HE1 := Lib.hid hE1
  rw [hE1]
  clear hE1
  by_cases hz1 : E1 = 0
  case neg =>
    have d1 : (E1 != 0) = true := by simpa using hz1
    have d2 : (E1 == 0) = false := by simpa using hz1
    have HV := Lib.hid (show Wb.allF A B = (E1, [].map Wb.ct) by rw [Wb.allF, if_pos (by rw [HE1.out]; exact hz1), HE1.out]; rfl)
    clear hz1
    go_wp2
    refine bodyPost_ret (v := .tuple #[.slice none 0 0, .int .i64 E1]) (by simp [results, Try.results23, go_sem]) rfl ⟨_, _, rfl, [], HV.out, SlR.nil, by (repeat' (first | (with_reducible assumption) | (with_reducible exact Wb.Ext.refl _) | (with_reducible refine Wb.Ext.drew ?_) | (with_reducible refine Wb.Ext.drewN ?_ _) | (with_reducible refine Wb.Ext.alloc ?_ _) | (with_reducible refine Wb.Ext.trans ?_ (by assumption))))⟩
  subst hz1
  go_wp2_with fail
  go_fit (rlist_any _ B _ (HB.out.ext (by (repeat' (first | (with_reducible assumption) | (with_reducible exact Wb.Ext.refl _) | (with_reducible refine Wb.Ext.drew ?_) | (with_reducible refine Wb.Ext.drewN ?_ _) | (with_reducible refine Wb.Ext.alloc ?_ _) | (with_reducible refine Wb.Ext.trans ?_ (by assumption)))))) lb); rintro e w2 ⟨rfl, hb2⟩
  have hx2 : Wb.Ext w w2 := hx1.trans (Wb.Ext.trans (by (repeat' (first | (with_reducible assumption) | (with_reducible exact Wb.Ext.refl _) | (with_reducible refine Wb.Ext.drew ?_) | (with_reducible refine Wb.Ext.drewN ?_ _) | (with_reducible refine Wb.Ext.alloc ?_ _) | (with_reducible refine Wb.Ext.trans ?_ (by assumption))))) hb2)
  clear hb2
  obtain ⟨E2, hE2⟩ : ∃ E, Wb.listE B = E := ⟨_, rfl⟩
  have HE2 := Lib.hid hE2
  rw [hE2]
  clear hE2
  by_cases hz2 : E2 = 0
  case neg =>
    have d1 : (E2 != 0) = true := by simpa using hz2
    have d2 : (E2 == 0) = false := by simpa using hz2
    have HV := Lib.hid (show Wb.allF A B = (E2, [].map Wb.ct) by rw [Wb.allF, if_neg (by rw [HE1.out]; simp), if_pos (by rw [HE2.out]; exact hz2), HE2.out]; rfl)
    clear hz2
    go_wp2
    refine bodyPost_ret (v := .tuple #[.slice none 0 0, .int .i64 E2]) (by simp [results, Try.results23, go_sem]) rfl ⟨_, _, rfl, [], HV.out, SlR.nil, by (repeat' (first | (with_reducible assumption) | (with_reducible exact Wb.Ext.refl _) | (with_reducible refine Wb.Ext.drew ?_) | (with_reducible refine Wb.Ext.drewN ?_ _) | (with_reducible refine Wb.Ext.alloc ?_ _) | (with_reducible refine Wb.Ext.trans ?_ (by assumption))))⟩
  subst hz2
  obtain ⟨ha1, _, _⟩ := Wb.list_ok HE1.out
  obtain ⟨hc1, _, _⟩ := Wb.list_ok HE2.out
  have HSA9 := Lib.hid (HA2.out ha1)
  have HSB9 := Lib.hid (HB2.out hc1)
  have HSHA := Lib.hid (sls_shape8 HSA9.out.sls)
  have HSHB := Lib.hid (sls_shape8 HSB9.out.sls)
  have HALL := Lib.hid (show Wb.allF A B = Wb.allG A B [] (Wb.headsP (A ++ B)) by rw [Wb.allF, if_neg (by rw [HE1.out]; simp), if_neg (by rw [HE2.out]; simp)])
  clear HA HB HA2 HB2 hx1
  obtain ⟨hi, hz0, hz1, hz2⟩ := HIN.out
  have hown0 : (w2.alloc (.cells #[] 24)).ownsRow w2.heap.size 24 3 (.slice (some ⟨w2.heap.size, 0, none⟩) 0 0) 0 [] := own_empty9 (Nat.le_refl _)
  go_wp2_with (at_builtin; go_loud (refine wpList_append_row2 rfl (.tmp 22) (.tmp 23) 25 rfl w2.heap.size 24 i0 slZ 3 40 Try.underlying25 hi hz0 hz1 hz2 rfl (by decide) _ _ _ rfl hown0 _ rfl A.length (rowsOf slc A) ?c1 ?c2 ?c3 ?c4 ?c5 ?_))
  case c1 => exact HSA9.out.2.2.ext (Wb.Ext.alloc hx2 _)
  case c2 => exact slc_one (w := w) HSHA.out
  case c3 => unfold maxLen; omega
  case c4 => omega
  case c5 => simp
  intro u3 w3 ho3 hg3 _
  have hx23 : Wb.Ext w2 w3 := Wb.Ext.grown (Wb.Ext.alloc (.refl _) _) hg3 (fun q hq => by cases hq; exact Nat.le_refl _)
  obtain ⟨a3, c3, rfl⟩ := row_shape ho3
  clear hg3 hown0
  go_wp2_with (at_builtin; go_loud (refine wpList_append_row2 rfl (.tmp 24) (.tmp 25) 25 rfl w2.heap.size 24 i0 slZ 3 40 Try.underlying25 hi hz0 hz1 hz2 rfl (by decide) _ _ _ rfl ho3 _ rfl B.length (rowsOf slc B) ?c1 ?c2 ?c3 ?c4 ?c5 ?_))
  case c1 => exact HSB9.out.2.2.ext (hx2.trans hx23)
  case c2 => exact slc_one (w := w) HSHB.out
  case c3 => unfold maxLen; omega
  case c4 => omega
  case c5 => exact hx23.size
  intro u4 w4 ho4 hg4 _
  have hx24 : Wb.Ext w2 w4 := hx23.grown hg4 (fun q hq => (ho3.lt q hq).1)
  have hx4 : Wb.Ext w w4 := hx2.trans hx24
  have HT4 : Hid (Tbl 3 slc w4 u4 (A ++ B)) := Lib.hid (row_tbl (base := w2.heap.size) (n := 0 + A.length + B.length) slc_len (by decide) (by rw [rowsOf_app]; simpa using ho4))
  obtain ⟨a4, c4, rfl⟩ := HT4.out.shape
  clear hi hz0 hz1 hz2 hg4 ho3 ho4 hx23 hx24 hx2
  go_wp2_with fail
  go_fit (rheads_any (.slice a4 (A.length + B.length) c4) (A ++ B) _ (by rw [← List.length_append]; exact HT4.out.ext (by (repeat' (first | (with_reducible assumption) | (with_reducible exact Wb.Ext.refl _) | (with_reducible refine Wb.Ext.drew ?_) | (with_reducible refine Wb.Ext.drewN ?_ _) | (with_reducible refine Wb.Ext.alloc ?_ _) | (with_reducible refine Wb.Ext.trans ?_ (by assumption)))))) (by rw [List.length_append]; omega)); rintro e wp ⟨hv, rfl, hhv, hbp⟩
  obtain ⟨ha9, hc9, rfl⟩ := row_shape hhv
  obtain ⟨ps, hps⟩ : ∃ ps, Wb.headsP (A ++ B) = ps := ⟨_, rfl⟩
  rw [hps] at hhv HALL ⊢
  have hpl : ps.length ≤ 20000 := by
    have := Wb.heads_len (A ++ B)
    rw [hps, List.length_append] at this; omega
  have HTP := Lib.hid (row_tbl (f := hdc) hdc_len (by decide) hhv)
  have HWP := Lib.hid (hx4.trans (Wb.Ext.trans (by (repeat' (first | (with_reducible assumption) | (with_reducible exact Wb.Ext.refl _) | (with_reducible refine Wb.Ext.drew ?_) | (with_reducible refine Wb.Ext.drewN ?_ _) | (with_reducible refine Wb.Ext.alloc ?_ _) | (with_reducible refine Wb.Ext.trans ?_ (by assumption))))) hbp))
  clear hhv hbp hx4 HT4 hps
  go_wp2_with fail
  go_loopw [7, 9] (fun ov iv wr => ∃ (k : Nat) (R : List Wb.Sl), k ≤ ps.length ∧ iv = .int .i64 k ∧ Hid (SlR wp.heap.size wr ov R) ∧ Hid (Wb.allG A B [] ps = Wb.allG A B (R.map Wb.ct) (ps.drop k)) ∧ R.length = k ∧ Wb.Ext wp wr) (fun _ iv _ => ps.length - (intOf iv).toNat)
  case atStart => exact ⟨0, [], Nat.zero_le _, rfl, Lib.hid SlR.nil, Lib.hid rfl, rfl, by (repeat' (first | (with_reducible assumption) | (with_reducible exact Wb.Ext.refl _) | (with_reducible refine Wb.Ext.drew ?_) | (with_reducible refine Wb.Ext.drewN ?_ _) | (with_reducible refine Wb.Ext.alloc ?_ _) | (with_reducible refine Wb.Ext.trans ?_ (by assumption))))⟩
  case round =>
    obtain ⟨k, R, hk, rfl, HR, HT, hRk, hxr⟩ := hrel
    obtain ⟨oa, oc, rfl⟩ := HR.out.shape
    by_cases hlt : k < ps.length
    case neg =>
      obtain rfl : k = ps.length := by omega
      have HV := Lib.hid (show Wb.allF A B = (0, R.map Wb.ct) by rw [HALL.out, HT.out, List.drop_length, Wb.allG])
      have hxf := HWP.out.trans hxr
      go_wp2
      refine bodyPost_ret (v := .tuple #[.slice oa R.length oc, .int .i64 0]) (by simp [results, Try.results23, go_sem]) rfl ⟨_, _, rfl, R, HV.out, HR.out.mono HWP.out.size, hxf⟩
    obtain ⟨⟨p, q⟩, hx⟩ := Wb.get_ex hlt
    obtain ⟨hb, ho, rfl, hcells⟩ := (HTP.out.ext hxr).opened (tne hlt)
    have c0 := hcells _ (p, q) hx 0 _ rfl
    have c1 := hcells _ (p, q) hx 1 _ rfl
    have c2 := hcells _ (p, q) hx 2 _ rfl
    simp only [Nat.add_zero] at c0 c1 c2
    have hki : (k : Int) < ps.length := by omega
    have HRK := Lib.hid hRk
    have hRle : R.length ≤ 20000 := by omega
    clear hRk
    have HDR := Lib.hid (drop_at hx)
    obtain ⟨ya, ia, aa, na, ca, la', hsa, hca, hla, hza⟩ := find_con HSA9.out (p, q)
    obtain ⟨yb, ib, ab, nb, cb, lb', hsb, hcb, hlb, hzb⟩ := find_con HSB9.out (p, q)
    have HFA := Lib.hid hsa
    have HFB := Lib.hid hsb
    have HCA := Lib.hid hca
    have HCB := Lib.hid hcb
    have HLA := Lib.hid hla
    have HLB := Lib.hid hlb
    have HSA := Lib.hid hza
    have HSB := Lib.hid hzb
    clear hcells hx hsa hca hla hza hsb hcb hlb hzb
    go_upto_region 12 with (fail)
    refine Wb.wp_at fun W0 hW0 => ?_
    have hb0 : Wb.Ext wr W0 := by rw [hW0]; first | exact Wb.Ext.refl _ | (repeat' (first | (with_reducible assumption) | (with_reducible exact Wb.Ext.refl _) | (with_reducible refine Wb.Ext.drew ?_) | (with_reducible refine Wb.Ext.drewN ?_ _) | (with_reducible refine Wb.Ext.alloc ?_ _) | (with_reducible refine Wb.Ext.trans ?_ (by assumption))))
    have c0 := hb0.keep c0
    have c1 := hb0.keep c1
    have c2 := hb0.keep c2
    have HXR := Lib.hid hb0
    have HXP := Lib.hid (hxr.trans hb0)
    have HXW := Lib.hid (HWP.out.trans HXP.out)
    clear hW0 hb0
    refine region_start (S := (fun w' => w'.cell? ⟨hb, ho + k * 3, none⟩ = some (.int .i64 p) ∧ w'.cell? ⟨hb, ho + k * 3 + 1, none⟩ = some (.int .i64 q) ∧ w'.cell? ⟨hb, ho + k * 3 + 2, none⟩ = some (.slice none 0 0))) (n := 21) (l := #[false, false, false, false, false, false, false, false, false, false, false, false, false, false, false, false, false, false, false, false, false]) (by kernel_rfl) ⟨c0, c1, c2⟩ (by kernel_rfl) (by kernel_rfl) (fun hHeld => ?_)
    refine take_d (i := 0) (d := 35) (v := ?_) rfl rfl (by kernel_rfl) (by kernel_rfl) (by kernel_rfl) (fun _ _ _ h => h) (Or.inl ⟨by rfl, ?_⟩) (by assumption) ?_
    rotate_left
    · (intro w hSw; (try dsimp only at hSw); go_simp; (try with_reducible rfl))
    (try simp only [Act.put, List.setIfInBounds_toArray, List.set_cons_zero, List.set_cons_succ])
    refine take_d (i := 1) (d := 36) (v := ?_) rfl rfl (by kernel_rfl) (by kernel_rfl) (by kernel_rfl) (fun _ _ _ h => h) (Or.inl ⟨by rfl, ?_⟩) (by assumption) ?_
    rotate_left
    · (intro w hSw; (try dsimp only at hSw); go_simp; (try with_reducible rfl))
    (try simp only [Act.put, List.setIfInBounds_toArray, List.set_cons_zero, List.set_cons_succ])
    refine take_d (i := 2) (d := 37) (v := ?_) rfl rfl (by kernel_rfl) (by kernel_rfl) (by kernel_rfl) (fun _ _ _ h => h) (Or.inl ⟨by rfl, ?_⟩) (by assumption) ?_
    rotate_left
    · (intro w hSw; (try dsimp only at hSw); go_simp; (try with_reducible rfl))
    (try simp only [Act.put, List.setIfInBounds_toArray, List.set_cons_zero, List.set_cons_succ])
    refine take_d (i := 3) (d := 38) (v := ?_) rfl rfl (by kernel_rfl) (by kernel_rfl) (by kernel_rfl) (fun _ _ _ h => h) (Or.inl ⟨by rfl, ?_⟩) (by assumption) ?_
    rotate_left
    · (intro w hSw; (try dsimp only at hSw); go_simp; (try with_reducible rfl))
    (try simp only [Act.put, List.setIfInBounds_toArray, List.set_cons_zero, List.set_cons_succ])
    refine take_d (i := 4) (d := 39) (v := ?_) rfl rfl (by kernel_rfl) (by kernel_rfl) (by kernel_rfl) (fun _ _ _ h => h) (Or.inl ⟨by rfl, ?_⟩) (by assumption) ?_
    rotate_left
    · (intro w hSw; (try dsimp only at hSw); go_simp; (try with_reducible rfl))
    (try simp only [Act.put, List.setIfInBounds_toArray, List.set_cons_zero, List.set_cons_succ])
    refine take_d (i := 5) (d := 40) (v := ?_) rfl rfl (by kernel_rfl) (by kernel_rfl) (by kernel_rfl) (fun _ _ _ h => h) (Or.inl ⟨by rfl, ?_⟩) (by assumption) ?_
    rotate_left
    · (intro w hSw; (try dsimp only at hSw); go_simp; (try with_reducible rfl))
    (try simp only [Act.put, List.setIfInBounds_toArray, List.set_cons_zero, List.set_cons_succ])
    refine take_d (i := 7) (d := 42) (v := ?_) rfl rfl (by kernel_rfl) (by kernel_rfl) (by kernel_rfl) (fun _ _ _ h => h) (Or.inl ⟨by rfl, ?_⟩) (by assumption) ?_
    rotate_left
    · (intro w hSw; (try dsimp only at hSw); go_simp; (try with_reducible rfl))
    (try simp only [Act.put, List.setIfInBounds_toArray, List.set_cons_zero, List.set_cons_succ])
    refine take_d (i := 8) (d := 43) (v := ?_) rfl rfl (by kernel_rfl) (by kernel_rfl) (by kernel_rfl) (fun _ _ _ h => h) (Or.inl ⟨by rfl, ?_⟩) (by assumption) ?_
    rotate_left
    · (intro w hSw; (try dsimp only at hSw); go_simp; (try with_reducible rfl))
    (try simp only [Act.put, List.setIfInBounds_toArray, List.set_cons_zero, List.set_cons_succ])
    refine take_d (i := 9) (d := 44) (v := ?_) rfl rfl (by kernel_rfl) (by kernel_rfl) (by kernel_rfl) (fun _ _ _ h => h) (Or.inl ⟨by rfl, ?_⟩) (by assumption) ?_
    rotate_left
    · (intro w hSw; (try dsimp only at hSw); go_simp; (try with_reducible rfl))
    (try simp only [Act.put, List.setIfInBounds_toArray, List.set_cons_zero, List.set_cons_succ])
    refine take_d (i := 10) (d := 45) (v := ?_) rfl rfl (by kernel_rfl) (by kernel_rfl) (by kernel_rfl) (fun _ _ _ h => h) (Or.inl ⟨by rfl, ?_⟩) (by assumption) ?_
    rotate_left
    · (intro w hSw; (try dsimp only at hSw); go_simp; (try with_reducible rfl))
    (try simp only [Act.put, List.setIfInBounds_toArray, List.set_cons_zero, List.set_cons_succ])
    refine take_d (i := 11) (d := 46) (v := ?_) rfl rfl (by kernel_rfl) (by kernel_rfl) (by kernel_rfl) (fun _ _ _ h => h) (Or.inl ⟨by rfl, ?_⟩) (by assumption) ?_
    rotate_left
    · (intro w hSw; (try dsimp only at hSw); go_simp; (try with_reducible rfl))
    (try simp only [Act.put, List.setIfInBounds_toArray, List.set_cons_zero, List.set_cons_succ])
    refine take_d (i := 12) (d := 47) (v := ?_) rfl rfl (by kernel_rfl) (by kernel_rfl) (by kernel_rfl) (fun _ _ _ h => h) (Or.inl ⟨by rfl, ?_⟩) (by assumption) ?_
    rotate_left
    · (intro w hSw; (try dsimp only at hSw); go_simp; (try with_reducible rfl))
    (try simp only [Act.put, List.setIfInBounds_toArray, List.set_cons_zero, List.set_cons_succ])
    refine wpAnyH_ready (rs := [6, 18]) (by kernel_rfl) (by simp) ?_
    refine AllReadyH.cons (o := _) rfl (fun K hK => ?_) ?_
    · go_simp
      go_at_call 27
      go_fit (rfind_any _ A p q none 0 0 0 0 none 0 0 _ (HSA9.out.1.ext (HXW.out.trans (.drew (.refl _)))) HSHA.out la)
      rintro e w21 ⟨rfl, hb21⟩
      rw [HFA.out]
      have hx21 : Wb.Ext W0 w21 := Wb.Ext.trans (.drew (.refl _)) hb21
      clear hb21
      refine hK.out _ _ ⟨hx21.keep c0, hx21.keep c1, hx21.keep c2⟩ (fun hHeld => ?_)
      clear hK K
      (try simp only [List.setIfInBounds_toArray, List.set_cons_zero, List.set_cons_succ])
      refine wpAnyH_ready (rs := [13, 18]) (by kernel_rfl) (by simp) ?_
      refine AllReadyH.cons (o := _) rfl (fun K hK => ?_) ?_
      · go_simp
        go_at_call 27
        go_fit (rfind_any _ B p q none 0 0 0 0 none 0 0 _ (HSB9.out.1.ext (HXW.out.trans hx21)) HSHB.out lb)
        rintro e w22 ⟨rfl, hb22⟩
        rw [HFB.out]
        have hx22 : Wb.Ext W0 w22 := Wb.Ext.trans hx21 hb22
        clear hb22
        refine hK.out _ _ ⟨hx22.keep c0, hx22.keep c1, hx22.keep c2⟩ (fun hHeld => ?_)
        clear hK K
        (try simp only [List.setIfInBounds_toArray, List.set_cons_zero, List.set_cons_succ])
        refine wpAnyH_ready (rs := [14, 18]) (by kernel_rfl) (by simp) ?_
        refine AllReadyH.cons (o := _) rfl (fun K hK => ?_) ?_
        · go_simp
          go_at_call 14
          go_fit (rof29_any ya ia _ la' yb ib _ lb' _ (HLA.out.ext (HXW.out.trans hx22)) HSA.out (HLB.out.ext (HXW.out.trans hx22)) HSB.out)
          rintro e w23 ⟨Y, I, m, E, rfl, r, hO⟩
          obtain ⟨ma, mc, rfl⟩ := hO.lns.1.shape
          have HOF := Lib.hid hO.of
          have HLN := Lib.hid hO.lns
          have hb23 := hO.ext
          have hx23 : Wb.Ext W0 w23 := Wb.Ext.trans hx22 hb23
          have HNW : Hid (∀ q, (Value.slice ma r.length mc).ownBlock = some q → W0.heap.size ≤ q) := Lib.hid (fun q hq => Nat.le_trans hx22.size (hO.new q hq))
          have HBS : Hid (r ≠ [] → ∀ q, (Value.slice ma r.length mc).ownBlock = some q → q < w23.heap.size) := Lib.hid (lns_size hO.lns)
          clear hO hb23
          refine hK.out _ _ ⟨hx23.keep c0, hx23.keep c1, hx23.keep c2⟩ (fun hHeld => ?_)
          clear hK K
          (try simp only [List.setIfInBounds_toArray, List.set_cons_zero, List.set_cons_succ])
          refine take_d (i := 15) (d := 34) (v := ?_) rfl rfl (by kernel_rfl) (by kernel_rfl) (by kernel_rfl) (fun _ _ _ h => h) (Or.inl ⟨by rfl, ?_⟩) (by assumption) ?_
          rotate_left
          · (intro w hSw; (try dsimp only at hSw); go_simp; (try with_reducible rfl))
          (try simp only [Act.put, List.setIfInBounds_toArray, List.set_cons_zero, List.set_cons_succ])
          refine take_d (i := 16) (d := 50) (v := ?_) rfl rfl (by kernel_rfl) (by kernel_rfl) (by kernel_rfl) (fun _ _ _ h => h) (Or.inl ⟨by rfl, ?_⟩) (by assumption) ?_
          rotate_left
          · (intro w hSw; (try dsimp only at hSw); go_simp; (try with_reducible rfl))
          (try simp only [Act.put, List.setIfInBounds_toArray, List.set_cons_zero, List.set_cons_succ])
          refine take_d (i := 17) (d := 51) (v := ?_) rfl rfl (by kernel_rfl) (by kernel_rfl) (by kernel_rfl) (fun _ _ _ h => h) (Or.inl ⟨by rfl, ?_⟩) (by assumption) ?_
          rotate_left
          · (intro w hSw; (try dsimp only at hSw); go_simp; (try with_reducible rfl))
          (try simp only [Act.put, List.setIfInBounds_toArray, List.set_cons_zero, List.set_cons_succ])
          refine wpAnyH_ready (rs := [18]) (by kernel_rfl) (by simp) ?_
          refine AllReadyH.cons (o := _) rfl (fun K hK => ?_) AllReadyH.nil
          go_simp
          refine atK fun w24 hw24 => ?_
          have hx24 : Wb.Ext W0 w24 := by rw [hw24]; exact Wb.Ext.alloc hx23 _
          have hp24 : W0.heap.size ≤ w23.heap.size := hx23.size
          obtain ⟨G, hG⟩ : ∃ g, w23.heap.size = g := ⟨_, rfl⟩
          have g0 : w24.cell? ⟨G, 0, none⟩ = some (.int .i64 0) := by rw [hw24, ← hG]; simp [go_sem]
          have g1 : w24.cell? ⟨G, 1, none⟩ = some (.int .i64 0) := by rw [hw24, ← hG]; simp [go_sem]
          have g2 : w24.cell? ⟨G, 2, none⟩ = some (.slice none 0 0) := by rw [hw24, ← hG]; simp [go_sem]
          have gf : ∀ j, w24.frozen? ⟨G, j, none⟩ = false := fun j => by rw [hw24, ← hG]; simp [go_sem]
          have hGl : G < w24.heap.size := by rw [hw24, ← hG]; simp
          have hG0 : W0.heap.size ≤ G := by omega
          replace HLN := Lib.hid (HLN.out.ext (show Wb.Ext w23 w24 by rw [hw24]; exact Wb.Ext.alloc (.refl _) _))
          have HGQ : Hid (r ≠ [] → ∀ q, (Value.slice ma r.length mc).ownBlock = some q → q ≠ G) := Lib.hid (fun hr q hq => by have := HBS.out hr q hq; omega)
          (try rw [hG])
          clear hw24 hG
          refine hK.out _ _ ⟨hx24.keep c0, hx24.keep c1, hx24.keep c2⟩ (fun hHeld => ?_)
          clear hK K
          (try simp only [List.setIfInBounds_toArray, List.set_cons_zero, List.set_cons_succ])
          refine wpAnyH_ready (rs := [19]) (by kernel_rfl) (by simp) ?_
          refine AllReadyH.cons (o := _) rfl (fun K hK => ?_) AllReadyH.nil
          go_simp
          refine atK fun w25 hw25 => ?_
          have hst := st3d (w := w24) (w' := w25) (b := G) (x := .int .i64 Y) (y := .int .i64 I) (z := .slice ma r.length mc) hw25 g0 g1 g2
          obtain ⟨z0, z1, z2, zk, zf, zz, ze⟩ := hst
          have hx25 : Wb.Ext W0 w25 := ze W0 hG0 hx24
          replace HLN := Lib.hid (lnsC_cells HLN.out fun b k u hb hr hc => by
            have hbg : b ≠ G := by
              rcases hq : (Value.slice ma r.length mc).ownBlock with _ | q9
              · obtain ⟨b9, o9, e9, _⟩ := HLN.out.1.opened hr
                subst e9; cases hq
              · rw [hb q9 hq]; exact HGQ.out hr q9 hq
            rw [zk b k hbg]; exact hc)
          replace hGl : G < w25.heap.size := by rw [zz]; exact hGl
          clear hw25 zk zf zz ze g0 g1 g2 gf
          refine hK.out _ _ ⟨hx25.keep c0, hx25.keep c1, hx25.keep c2⟩ (fun hHeld => ?_)
          clear hK K
          (try simp only [List.setIfInBounds_toArray, List.set_cons_zero, List.set_cons_succ])
          refine take_d (i := 20) (d := 11) (v := ?_) rfl rfl (by kernel_rfl) (by kernel_rfl) (by kernel_rfl) (fun _ _ _ h => h) (Or.inl ⟨by rfl, ?_⟩) (by assumption) ?_
          rotate_left
          · (intro w hSw; (try dsimp only at hSw); go_simp; (try with_reducible rfl))
          (try simp only [Act.put, List.setIfInBounds_toArray, List.set_cons_zero, List.set_cons_succ])
          refine wpAnyH_done (by kernel_rfl) ?_ _
          have HXZ := Lib.hid (HXP.out.trans hx25)
          have HRZ := Lib.hid (HR.out.ext (show Wb.Ext wr w25 from HXR.out.trans hx25))
          have hbw : ∀ q, (Value.slice oa R.length oc).ownBlock = some q → q < W0.heap.size := fun q hq => by have := (HR.out.1.lt q hq).2; have := HXR.out.size; omega
          have HNQ : Hid (r ≠ [] → ∀ q, (Value.slice ma r.length mc).ownBlock = some q → (Value.slice oa R.length oc).ownBlock ≠ some q) := Lib.hid (fun _ q hq e => by have := hbw q e; have := HNW.out q hq; omega)
          have HOC := Lib.hid (show Wb.ofC (Wb.conO (Wb.findS A (p, q))) (Wb.conO (Wb.findS B (p, q))) = (E, Y, I, r) by rw [HCA.out, HCB.out]; exact Wb.of_eq HOF.out)
          clear hbw
          by_cases hz : E = 0
          case neg =>
            have d1 : (E != 0) = true := by simpa using hz
            have d2 : (E == 0) = false := by simpa using hz
            have HV := Lib.hid (show Wb.allF A B = (E, [].map Wb.ct) by rw [HALL.out, HT.out, HDR.out]; exact Wb.all_bad HOC.out hz)
            have hxz := HXZ.out
            clear hz
            go_wp2
            refine bodyPost_ret (v := .tuple #[.slice none 0 0, .int .i64 E]) (by simp [results, Try.results23, go_sem]) rfl ⟨_, _, rfl, [], HV.out, SlR.nil, HWP.out.trans hxz⟩
          subst hz
          have HTN := Lib.hid (show Wb.allG A B [] ps = Wb.allG A B ((R ++ [(⟨Y, I, .slice ma r.length mc, r⟩ : Wb.Sl)]).map Wb.ct) (ps.drop (k + 1)) by rw [HT.out, HDR.out, Wb.all_more HOC.out, List.map_append]; rfl)
          have HSZ := Lib.hid (of_sized9 HOF.out rfl)
          obtain ⟨hi, hz0, hz1, hz2⟩ := HIN.out
          go_wp2_with (at_builtin; go_loud (refine wpList_append_row2 rfl (.tmp 55) (.tmp 57) 25 rfl wp.heap.size 24 i0 slZ 3 40 Try.underlying25 hi hz0 hz1 hz2 rfl (by decide) _ _ _ rfl (HRZ.out.ext (Wb.Ext.alloc (.refl _) _)).1 _ rfl 1 (slc (⟨Y, I, .slice ma r.length mc, r⟩ : Wb.Sl)) ?c1 ?c2 ?c3 ?c4 ?c5 ?_))
          case c1 => exact src_lit _ _ (by first | rfl | simp) (slc (⟨Y, I, .slice ma r.length mc, r⟩ : Wb.Sl)) _ _
          case c2 => intro u hu; simp [slc] at hu; rcases hu with rfl | rfl | rfl <;> rfl
          case c3 => unfold maxLen; omega
          case c4 => omega
          case c5 => have := HXZ.out.size; first | omega | (simp; omega)
          intro u2 w6 hown2 hg2 hblk
          have hrb : ∀ q, (Value.slice oa R.length oc).ownBlock = some q → wp.heap.size ≤ q := fun q hq => (HR.out.1.lt q hq).1
          have HX6 := Lib.hid (show Wb.Ext wp w6 from Wb.Ext.grown (Wb.Ext.trans HXZ.out (by (repeat' (first | (with_reducible assumption) | (with_reducible exact Wb.Ext.refl _) | (with_reducible refine Wb.Ext.drew ?_) | (with_reducible refine Wb.Ext.drewN ?_ _) | (with_reducible refine Wb.Ext.alloc ?_ _) | (with_reducible refine Wb.Ext.trans ?_ (by assumption)))))) hg2 (fun q hq => hrb q hq))
          have HR6 := Lib.hid (SlR.append (s := ⟨Y, I, .slice ma r.length mc, r⟩) (HRZ.out.ext (by (repeat' (first | (with_reducible assumption) | (with_reducible exact Wb.Ext.refl _) | (with_reducible refine Wb.Ext.drew ?_) | (with_reducible refine Wb.Ext.drewN ?_ _) | (with_reducible refine Wb.Ext.alloc ?_ _) | (with_reducible refine Wb.Ext.trans ?_ (by assumption)))))) hown2 hg2 (by have := hblk; simp at this ⊢; exact this) (HLN.out.ext (by (repeat' (first | (with_reducible assumption) | (with_reducible exact Wb.Ext.refl _) | (with_reducible refine Wb.Ext.drew ?_) | (with_reducible refine Wb.Ext.drewN ?_ _) | (with_reducible refine Wb.Ext.alloc ?_ _) | (with_reducible refine Wb.Ext.trans ?_ (by assumption)))))) HSZ.out HNQ.out)
          clear hi hz0 hz1 hz2 hg2 hown2 hblk hrb
          go_wp2
          go_roundw
          case rel => exact ⟨k + 1, R ++ [⟨Y, I, .slice ma r.length mc, r⟩], by omega, by go_num, HR6, HTN, by rw [List.length_append, HRK.out]; rfl, HX6.out⟩
          case measure => first | (simp [intOf]; done) | (simp [intOf]; omega)
        refine AllReadyH.cons (o := _) rfl (fun K hK => ?_) ?_
        · go_simp
          refine atK fun w23 hw23 => ?_
          have hx23 : Wb.Ext W0 w23 := by rw [hw23]; exact Wb.Ext.alloc hx22 _
          have hp23 : W0.heap.size ≤ w22.heap.size := hx22.size
          obtain ⟨G, hG⟩ : ∃ g, w22.heap.size = g := ⟨_, rfl⟩
          have g0 : w23.cell? ⟨G, 0, none⟩ = some (.int .i64 0) := by rw [hw23, ← hG]; simp [go_sem]
          have g1 : w23.cell? ⟨G, 1, none⟩ = some (.int .i64 0) := by rw [hw23, ← hG]; simp [go_sem]
          have g2 : w23.cell? ⟨G, 2, none⟩ = some (.slice none 0 0) := by rw [hw23, ← hG]; simp [go_sem]
          have gf : ∀ j, w23.frozen? ⟨G, j, none⟩ = false := fun j => by rw [hw23, ← hG]; simp [go_sem]
          have hGl : G < w23.heap.size := by rw [hw23, ← hG]; simp
          have hG0 : W0.heap.size ≤ G := by omega
          (try rw [hG])
          clear hw23 hG
          refine hK.out _ _ ⟨hx23.keep c0, hx23.keep c1, hx23.keep c2⟩ (fun hHeld => ?_)
          clear hK K
          (try simp only [List.setIfInBounds_toArray, List.set_cons_zero, List.set_cons_succ])
          refine wpAnyH_ready (rs := [14]) (by kernel_rfl) (by simp) ?_
          refine AllReadyH.cons (o := _) rfl (fun K hK => ?_) AllReadyH.nil
          go_simp
          go_at_call 14
          go_fit (rof29_any ya ia _ la' yb ib _ lb' _ (HLA.out.ext (HXW.out.trans hx23)) HSA.out (HLB.out.ext (HXW.out.trans hx23)) HSB.out)
          rintro e w24 ⟨Y, I, m, E, rfl, r, hO⟩
          obtain ⟨ma, mc, rfl⟩ := hO.lns.1.shape
          have HOF := Lib.hid hO.of
          have HLN := Lib.hid hO.lns
          have hb24 := hO.ext
          have hx24 : Wb.Ext W0 w24 := Wb.Ext.trans hx23 hb24
          have HNW : Hid (∀ q, (Value.slice ma r.length mc).ownBlock = some q → W0.heap.size ≤ q) := Lib.hid (fun q hq => Nat.le_trans hx23.size (hO.new q hq))
          have HGQ : Hid (r ≠ [] → ∀ q, (Value.slice ma r.length mc).ownBlock = some q → q ≠ G) := Lib.hid (fun _ q hq => by have := hO.new q hq; omega)
          have g0 := hb24.keep g0
          have g1 := hb24.keep g1
          have g2 := hb24.keep g2
          have gf : ∀ j, w24.frozen? ⟨G, j, none⟩ = false := fun j => (Below.frozen hb24 (by simpa using hGl)).trans (gf j)
          replace hGl := Nat.lt_of_lt_of_le hGl hb24.size
          clear hO hb24
          refine hK.out _ _ ⟨hx24.keep c0, hx24.keep c1, hx24.keep c2⟩ (fun hHeld => ?_)
          clear hK K
          (try simp only [List.setIfInBounds_toArray, List.set_cons_zero, List.set_cons_succ])
          refine take_d (i := 15) (d := 34) (v := ?_) rfl rfl (by kernel_rfl) (by kernel_rfl) (by kernel_rfl) (fun _ _ _ h => h) (Or.inl ⟨by rfl, ?_⟩) (by assumption) ?_
          rotate_left
          · (intro w hSw; (try dsimp only at hSw); go_simp; (try with_reducible rfl))
          (try simp only [Act.put, List.setIfInBounds_toArray, List.set_cons_zero, List.set_cons_succ])
          refine take_d (i := 16) (d := 50) (v := ?_) rfl rfl (by kernel_rfl) (by kernel_rfl) (by kernel_rfl) (fun _ _ _ h => h) (Or.inl ⟨by rfl, ?_⟩) (by assumption) ?_
          rotate_left
          · (intro w hSw; (try dsimp only at hSw); go_simp; (try with_reducible rfl))
          (try simp only [Act.put, List.setIfInBounds_toArray, List.set_cons_zero, List.set_cons_succ])
          refine take_d (i := 17) (d := 51) (v := ?_) rfl rfl (by kernel_rfl) (by kernel_rfl) (by kernel_rfl) (fun _ _ _ h => h) (Or.inl ⟨by rfl, ?_⟩) (by assumption) ?_
          rotate_left
          · (intro w hSw; (try dsimp only at hSw); go_simp; (try with_reducible rfl))
          (try simp only [Act.put, List.setIfInBounds_toArray, List.set_cons_zero, List.set_cons_succ])
          refine wpAnyH_ready (rs := [19]) (by kernel_rfl) (by simp) ?_
          refine AllReadyH.cons (o := _) rfl (fun K hK => ?_) AllReadyH.nil
          go_simp
          refine atK fun w25 hw25 => ?_
          have hst := st3d (w := w24) (w' := w25) (b := G) (x := .int .i64 Y) (y := .int .i64 I) (z := .slice ma r.length mc) hw25 g0 g1 g2
          obtain ⟨z0, z1, z2, zk, zf, zz, ze⟩ := hst
          have hx25 : Wb.Ext W0 w25 := ze W0 hG0 hx24
          replace HLN := Lib.hid (lnsC_cells HLN.out fun b k u hb hr hc => by
            have hbg : b ≠ G := by
              rcases hq : (Value.slice ma r.length mc).ownBlock with _ | q9
              · obtain ⟨b9, o9, e9, _⟩ := HLN.out.1.opened hr
                subst e9; cases hq
              · rw [hb q9 hq]; exact HGQ.out hr q9 hq
            rw [zk b k hbg]; exact hc)
          replace hGl : G < w25.heap.size := by rw [zz]; exact hGl
          clear hw25 zk zf zz ze g0 g1 g2 gf
          refine hK.out _ _ ⟨hx25.keep c0, hx25.keep c1, hx25.keep c2⟩ (fun hHeld => ?_)
          clear hK K
          (try simp only [List.setIfInBounds_toArray, List.set_cons_zero, List.set_cons_succ])
          refine take_d (i := 20) (d := 11) (v := ?_) rfl rfl (by kernel_rfl) (by kernel_rfl) (by kernel_rfl) (fun _ _ _ h => h) (Or.inl ⟨by rfl, ?_⟩) (by assumption) ?_
          rotate_left
          · (intro w hSw; (try dsimp only at hSw); go_simp; (try with_reducible rfl))
          (try simp only [Act.put, List.setIfInBounds_toArray, List.set_cons_zero, List.set_cons_succ])
          refine wpAnyH_done (by kernel_rfl) ?_ _
          have HXZ := Lib.hid (HXP.out.trans hx25)
          have HRZ := Lib.hid (HR.out.ext (show Wb.Ext wr w25 from HXR.out.trans hx25))
          have hbw : ∀ q, (Value.slice oa R.length oc).ownBlock = some q → q < W0.heap.size := fun q hq => by have := (HR.out.1.lt q hq).2; have := HXR.out.size; omega
          have HNQ : Hid (r ≠ [] → ∀ q, (Value.slice ma r.length mc).ownBlock = some q → (Value.slice oa R.length oc).ownBlock ≠ some q) := Lib.hid (fun _ q hq e => by have := hbw q e; have := HNW.out q hq; omega)
          have HOC := Lib.hid (show Wb.ofC (Wb.conO (Wb.findS A (p, q))) (Wb.conO (Wb.findS B (p, q))) = (E, Y, I, r) by rw [HCA.out, HCB.out]; exact Wb.of_eq HOF.out)
          clear hbw
          by_cases hz : E = 0
          case neg =>
            have d1 : (E != 0) = true := by simpa using hz
            have d2 : (E == 0) = false := by simpa using hz
            have HV := Lib.hid (show Wb.allF A B = (E, [].map Wb.ct) by rw [HALL.out, HT.out, HDR.out]; exact Wb.all_bad HOC.out hz)
            have hxz := HXZ.out
            clear hz
            go_wp2
            refine bodyPost_ret (v := .tuple #[.slice none 0 0, .int .i64 E]) (by simp [results, Try.results23, go_sem]) rfl ⟨_, _, rfl, [], HV.out, SlR.nil, HWP.out.trans hxz⟩
          subst hz
          have HTN := Lib.hid (show Wb.allG A B [] ps = Wb.allG A B ((R ++ [(⟨Y, I, .slice ma r.length mc, r⟩ : Wb.Sl)]).map Wb.ct) (ps.drop (k + 1)) by rw [HT.out, HDR.out, Wb.all_more HOC.out, List.map_append]; rfl)
          have HSZ := Lib.hid (of_sized9 HOF.out rfl)
          obtain ⟨hi, hz0, hz1, hz2⟩ := HIN.out
          go_wp2_with (at_builtin; go_loud (refine wpList_append_row2 rfl (.tmp 55) (.tmp 57) 25 rfl wp.heap.size 24 i0 slZ 3 40 Try.underlying25 hi hz0 hz1 hz2 rfl (by decide) _ _ _ rfl (HRZ.out.ext (Wb.Ext.alloc (.refl _) _)).1 _ rfl 1 (slc (⟨Y, I, .slice ma r.length mc, r⟩ : Wb.Sl)) ?c1 ?c2 ?c3 ?c4 ?c5 ?_))
          case c1 => exact src_lit _ _ (by first | rfl | simp) (slc (⟨Y, I, .slice ma r.length mc, r⟩ : Wb.Sl)) _ _
          case c2 => intro u hu; simp [slc] at hu; rcases hu with rfl | rfl | rfl <;> rfl
          case c3 => unfold maxLen; omega
          case c4 => omega
          case c5 => have := HXZ.out.size; first | omega | (simp; omega)
          intro u2 w6 hown2 hg2 hblk
          have hrb : ∀ q, (Value.slice oa R.length oc).ownBlock = some q → wp.heap.size ≤ q := fun q hq => (HR.out.1.lt q hq).1
          have HX6 := Lib.hid (show Wb.Ext wp w6 from Wb.Ext.grown (Wb.Ext.trans HXZ.out (by (repeat' (first | (with_reducible assumption) | (with_reducible exact Wb.Ext.refl _) | (with_reducible refine Wb.Ext.drew ?_) | (with_reducible refine Wb.Ext.drewN ?_ _) | (with_reducible refine Wb.Ext.alloc ?_ _) | (with_reducible refine Wb.Ext.trans ?_ (by assumption)))))) hg2 (fun q hq => hrb q hq))
          have HR6 := Lib.hid (SlR.append (s := ⟨Y, I, .slice ma r.length mc, r⟩) (HRZ.out.ext (by (repeat' (first | (with_reducible assumption) | (with_reducible exact Wb.Ext.refl _) | (with_reducible refine Wb.Ext.drew ?_) | (with_reducible refine Wb.Ext.drewN ?_ _) | (with_reducible refine Wb.Ext.alloc ?_ _) | (with_reducible refine Wb.Ext.trans ?_ (by assumption)))))) hown2 hg2 (by have := hblk; simp at this ⊢; exact this) (HLN.out.ext (by (repeat' (first | (with_reducible assumption) | (with_reducible exact Wb.Ext.refl _) | (with_reducible refine Wb.Ext.drew ?_) | (with_reducible refine Wb.Ext.drewN ?_ _) | (with_reducible refine Wb.Ext.alloc ?_ _) | (with_reducible refine Wb.Ext.trans ?_ (by assumption)))))) HSZ.out HNQ.out)
          clear hi hz0 hz1 hz2 hg2 hown2 hblk hrb
          go_wp2
          go_roundw
          case rel => exact ⟨k + 1, R ++ [⟨Y, I, .slice ma r.length mc, r⟩], by omega, by go_num, HR6, HTN, by rw [List.length_append, HRK.out]; rfl, HX6.out⟩
          case measure => first | (simp [intOf]; done) | (simp [intOf]; omega)
        exact AllReadyH.nil
      refine AllReadyH.cons (o := _) rfl (fun K hK => ?_) ?_
      · go_simp
        refine atK fun w22 hw22 => ?_
        have hx22 : Wb.Ext W0 w22 := by rw [hw22]; exact Wb.Ext.alloc hx21 _
        have hp22 : W0.heap.size ≤ w21.heap.size := hx21.size
        obtain ⟨G, hG⟩ : ∃ g, w21.heap.size = g := ⟨_, rfl⟩
        have g0 : w22.cell? ⟨G, 0, none⟩ = some (.int .i64 0) := by rw [hw22, ← hG]; simp [go_sem]
        have g1 : w22.cell? ⟨G, 1, none⟩ = some (.int .i64 0) := by rw [hw22, ← hG]; simp [go_sem]
        have g2 : w22.cell? ⟨G, 2, none⟩ = some (.slice none 0 0) := by rw [hw22, ← hG]; simp [go_sem]
        have gf : ∀ j, w22.frozen? ⟨G, j, none⟩ = false := fun j => by rw [hw22, ← hG]; simp [go_sem]
        have hGl : G < w22.heap.size := by rw [hw22, ← hG]; simp
        have hG0 : W0.heap.size ≤ G := by omega
        (try rw [hG])
        clear hw22 hG
        refine hK.out _ _ ⟨hx22.keep c0, hx22.keep c1, hx22.keep c2⟩ (fun hHeld => ?_)
        clear hK K
        (try simp only [List.setIfInBounds_toArray, List.set_cons_zero, List.set_cons_succ])
        refine wpAnyH_ready (rs := [13]) (by kernel_rfl) (by simp) ?_
        refine AllReadyH.cons (o := _) rfl (fun K hK => ?_) AllReadyH.nil
        go_simp
        go_at_call 27
        go_fit (rfind_any _ B p q none 0 0 0 0 none 0 0 _ (HSB9.out.1.ext (HXW.out.trans hx22)) HSHB.out lb)
        rintro e w23 ⟨rfl, hb23⟩
        rw [HFB.out]
        have hx23 : Wb.Ext W0 w23 := Wb.Ext.trans hx22 hb23
        have g0 := hb23.keep g0
        have g1 := hb23.keep g1
        have g2 := hb23.keep g2
        have gf : ∀ j, w23.frozen? ⟨G, j, none⟩ = false := fun j => (Below.frozen hb23 (by simpa using hGl)).trans (gf j)
        replace hGl := Nat.lt_of_lt_of_le hGl hb23.size
        clear hb23
        refine hK.out _ _ ⟨hx23.keep c0, hx23.keep c1, hx23.keep c2⟩ (fun hHeld => ?_)
        clear hK K
        (try simp only [List.setIfInBounds_toArray, List.set_cons_zero, List.set_cons_succ])
        refine wpAnyH_ready (rs := [14]) (by kernel_rfl) (by simp) ?_
        refine AllReadyH.cons (o := _) rfl (fun K hK => ?_) AllReadyH.nil
        go_simp
        go_at_call 14
        go_fit (rof29_any ya ia _ la' yb ib _ lb' _ (HLA.out.ext (HXW.out.trans hx23)) HSA.out (HLB.out.ext (HXW.out.trans hx23)) HSB.out)
        rintro e w24 ⟨Y, I, m, E, rfl, r, hO⟩
        obtain ⟨ma, mc, rfl⟩ := hO.lns.1.shape
        have HOF := Lib.hid hO.of
        have HLN := Lib.hid hO.lns
        have hb24 := hO.ext
        have hx24 : Wb.Ext W0 w24 := Wb.Ext.trans hx23 hb24
        have HNW : Hid (∀ q, (Value.slice ma r.length mc).ownBlock = some q → W0.heap.size ≤ q) := Lib.hid (fun q hq => Nat.le_trans hx23.size (hO.new q hq))
        have HGQ : Hid (r ≠ [] → ∀ q, (Value.slice ma r.length mc).ownBlock = some q → q ≠ G) := Lib.hid (fun _ q hq => by have := hO.new q hq; omega)
        have g0 := hb24.keep g0
        have g1 := hb24.keep g1
        have g2 := hb24.keep g2
        have gf : ∀ j, w24.frozen? ⟨G, j, none⟩ = false := fun j => (Below.frozen hb24 (by simpa using hGl)).trans (gf j)
        replace hGl := Nat.lt_of_lt_of_le hGl hb24.size
        clear hO hb24
        refine hK.out _ _ ⟨hx24.keep c0, hx24.keep c1, hx24.keep c2⟩ (fun hHeld => ?_)
        clear hK K
        (try simp only [List.setIfInBounds_toArray, List.set_cons_zero, List.set_cons_succ])
        refine take_d (i := 15) (d := 34) (v := ?_) rfl rfl (by kernel_rfl) (by kernel_rfl) (by kernel_rfl) (fun _ _ _ h => h) (Or.inl ⟨by rfl, ?_⟩) (by assumption) ?_
        rotate_left
        · (intro w hSw; (try dsimp only at hSw); go_simp; (try with_reducible rfl))
        (try simp only [Act.put, List.setIfInBounds_toArray, List.set_cons_zero, List.set_cons_succ])
        refine take_d (i := 16) (d := 50) (v := ?_) rfl rfl (by kernel_rfl) (by kernel_rfl) (by kernel_rfl) (fun _ _ _ h => h) (Or.inl ⟨by rfl, ?_⟩) (by assumption) ?_
        rotate_left
        · (intro w hSw; (try dsimp only at hSw); go_simp; (try with_reducible rfl))
        (try simp only [Act.put, List.setIfInBounds_toArray, List.set_cons_zero, List.set_cons_succ])
        refine take_d (i := 17) (d := 51) (v := ?_) rfl rfl (by kernel_rfl) (by kernel_rfl) (by kernel_rfl) (fun _ _ _ h => h) (Or.inl ⟨by rfl, ?_⟩) (by assumption) ?_
        rotate_left
        · (intro w hSw; (try dsimp only at hSw); go_simp; (try with_reducible rfl))
        (try simp only [Act.put, List.setIfInBounds_toArray, List.set_cons_zero, List.set_cons_succ])
        refine wpAnyH_ready (rs := [19]) (by kernel_rfl) (by simp) ?_
        refine AllReadyH.cons (o := _) rfl (fun K hK => ?_) AllReadyH.nil
        go_simp
        refine atK fun w25 hw25 => ?_
        have hst := st3d (w := w24) (w' := w25) (b := G) (x := .int .i64 Y) (y := .int .i64 I) (z := .slice ma r.length mc) hw25 g0 g1 g2
        obtain ⟨z0, z1, z2, zk, zf, zz, ze⟩ := hst
        have hx25 : Wb.Ext W0 w25 := ze W0 hG0 hx24
        replace HLN := Lib.hid (lnsC_cells HLN.out fun b k u hb hr hc => by
          have hbg : b ≠ G := by
            rcases hq : (Value.slice ma r.length mc).ownBlock with _ | q9
            · obtain ⟨b9, o9, e9, _⟩ := HLN.out.1.opened hr
              subst e9; cases hq
            · rw [hb q9 hq]; exact HGQ.out hr q9 hq
          rw [zk b k hbg]; exact hc)
        replace hGl : G < w25.heap.size := by rw [zz]; exact hGl
        clear hw25 zk zf zz ze g0 g1 g2 gf
        refine hK.out _ _ ⟨hx25.keep c0, hx25.keep c1, hx25.keep c2⟩ (fun hHeld => ?_)
        clear hK K
        (try simp only [List.setIfInBounds_toArray, List.set_cons_zero, List.set_cons_succ])
        refine take_d (i := 20) (d := 11) (v := ?_) rfl rfl (by kernel_rfl) (by kernel_rfl) (by kernel_rfl) (fun _ _ _ h => h) (Or.inl ⟨by rfl, ?_⟩) (by assumption) ?_
        rotate_left
        · (intro w hSw; (try dsimp only at hSw); go_simp; (try with_reducible rfl))
        (try simp only [Act.put, List.setIfInBounds_toArray, List.set_cons_zero, List.set_cons_succ])
        refine wpAnyH_done (by kernel_rfl) ?_ _
        have HXZ := Lib.hid (HXP.out.trans hx25)
        have HRZ := Lib.hid (HR.out.ext (show Wb.Ext wr w25 from HXR.out.trans hx25))
        have hbw : ∀ q, (Value.slice oa R.length oc).ownBlock = some q → q < W0.heap.size := fun q hq => by have := (HR.out.1.lt q hq).2; have := HXR.out.size; omega
        have HNQ : Hid (r ≠ [] → ∀ q, (Value.slice ma r.length mc).ownBlock = some q → (Value.slice oa R.length oc).ownBlock ≠ some q) := Lib.hid (fun _ q hq e => by have := hbw q e; have := HNW.out q hq; omega)
        have HOC := Lib.hid (show Wb.ofC (Wb.conO (Wb.findS A (p, q))) (Wb.conO (Wb.findS B (p, q))) = (E, Y, I, r) by rw [HCA.out, HCB.out]; exact Wb.of_eq HOF.out)
        clear hbw
        by_cases hz : E = 0
        case neg =>
          have d1 : (E != 0) = true := by simpa using hz
          have d2 : (E == 0) = false := by simpa using hz
          have HV := Lib.hid (show Wb.allF A B = (E, [].map Wb.ct) by rw [HALL.out, HT.out, HDR.out]; exact Wb.all_bad HOC.out hz)
          have hxz := HXZ.out
          clear hz
          go_wp2
          refine bodyPost_ret (v := .tuple #[.slice none 0 0, .int .i64 E]) (by simp [results, Try.results23, go_sem]) rfl ⟨_, _, rfl, [], HV.out, SlR.nil, HWP.out.trans hxz⟩
        subst hz
        have HTN := Lib.hid (show Wb.allG A B [] ps = Wb.allG A B ((R ++ [(⟨Y, I, .slice ma r.length mc, r⟩ : Wb.Sl)]).map Wb.ct) (ps.drop (k + 1)) by rw [HT.out, HDR.out, Wb.all_more HOC.out, List.map_append]; rfl)
        have HSZ := Lib.hid (of_sized9 HOF.out rfl)
        obtain ⟨hi, hz0, hz1, hz2⟩ := HIN.out
        go_wp2_with (at_builtin; go_loud (refine wpList_append_row2 rfl (.tmp 55) (.tmp 57) 25 rfl wp.heap.size 24 i0 slZ 3 40 Try.underlying25 hi hz0 hz1 hz2 rfl (by decide) _ _ _ rfl (HRZ.out.ext (Wb.Ext.alloc (.refl _) _)).1 _ rfl 1 (slc (⟨Y, I, .slice ma r.length mc, r⟩ : Wb.Sl)) ?c1 ?c2 ?c3 ?c4 ?c5 ?_))
        case c1 => exact src_lit _ _ (by first | rfl | simp) (slc (⟨Y, I, .slice ma r.length mc, r⟩ : Wb.Sl)) _ _
        case c2 => intro u hu; simp [slc] at hu; rcases hu with rfl | rfl | rfl <;> rfl
        case c3 => unfold maxLen; omega
        case c4 => omega
        case c5 => have := HXZ.out.size; first | omega | (simp; omega)
        intro u2 w6 hown2 hg2 hblk
        have hrb : ∀ q, (Value.slice oa R.length oc).ownBlock = some q → wp.heap.size ≤ q := fun q hq => (HR.out.1.lt q hq).1
        have HX6 := Lib.hid (show Wb.Ext wp w6 from Wb.Ext.grown (Wb.Ext.trans HXZ.out (by (repeat' (first | (with_reducible assumption) | (with_reducible exact Wb.Ext.refl _) | (with_reducible refine Wb.Ext.drew ?_) | (with_reducible refine Wb.Ext.drewN ?_ _) | (with_reducible refine Wb.Ext.alloc ?_ _) | (with_reducible refine Wb.Ext.trans ?_ (by assumption)))))) hg2 (fun q hq => hrb q hq))
        have HR6 := Lib.hid (SlR.append (s := ⟨Y, I, .slice ma r.length mc, r⟩) (HRZ.out.ext (by (repeat' (first | (with_reducible assumption) | (with_reducible exact Wb.Ext.refl _) | (with_reducible refine Wb.Ext.drew ?_) | (with_reducible refine Wb.Ext.drewN ?_ _) | (with_reducible refine Wb.Ext.alloc ?_ _) | (with_reducible refine Wb.Ext.trans ?_ (by assumption)))))) hown2 hg2 (by have := hblk; simp at this ⊢; exact this) (HLN.out.ext (by (repeat' (first | (with_reducible assumption) | (with_reducible exact Wb.Ext.refl _) | (with_reducible refine Wb.Ext.drew ?_) | (with_reducible refine Wb.Ext.drewN ?_ _) | (with_reducible refine Wb.Ext.alloc ?_ _) | (with_reducible refine Wb.Ext.trans ?_ (by assumption)))))) HSZ.out HNQ.out)
        clear hi hz0 hz1 hz2 hg2 hown2 hblk hrb
        go_wp2
        go_roundw
        case rel => exact ⟨k + 1, R ++ [⟨Y, I, .slice ma r.length mc, r⟩], by omega, by go_num, HR6, HTN, by rw [List.length_append, HRK.out]; rfl, HX6.out⟩
        case measure => first | (simp [intOf]; done) | (simp [intOf]; omega)
      exact AllReadyH.nil
    refine AllReadyH.cons (o := _) rfl (fun K hK => ?_) ?_
    · go_simp
      refine atK fun w21 hw21 => ?_
      have hx21 : Wb.Ext W0 w21 := by rw [hw21]; exact Wb.Ext.alloc (.drew (.refl _)) _
      have hp21 : W0.heap.size ≤ W0.heap.size := Nat.le_refl _
      obtain ⟨G, hG⟩ : ∃ g, W0.heap.size = g := ⟨_, rfl⟩
      have g0 : w21.cell? ⟨G, 0, none⟩ = some (.int .i64 0) := by rw [hw21, ← hG]; simp [go_sem]
      have g1 : w21.cell? ⟨G, 1, none⟩ = some (.int .i64 0) := by rw [hw21, ← hG]; simp [go_sem]
      have g2 : w21.cell? ⟨G, 2, none⟩ = some (.slice none 0 0) := by rw [hw21, ← hG]; simp [go_sem]
      have gf : ∀ j, w21.frozen? ⟨G, j, none⟩ = false := fun j => by rw [hw21, ← hG]; simp [go_sem]
      have hGl : G < w21.heap.size := by rw [hw21, ← hG]; simp
      have hG0 : W0.heap.size ≤ G := by omega
      (try rw [hG])
      clear hw21 hG
      refine hK.out _ _ ⟨hx21.keep c0, hx21.keep c1, hx21.keep c2⟩ (fun hHeld => ?_)
      clear hK K
      (try simp only [List.setIfInBounds_toArray, List.set_cons_zero, List.set_cons_succ])
      refine wpAnyH_ready (rs := [6]) (by kernel_rfl) (by simp) ?_
      refine AllReadyH.cons (o := _) rfl (fun K hK => ?_) AllReadyH.nil
      go_simp
      go_at_call 27
      go_fit (rfind_any _ A p q none 0 0 0 0 none 0 0 _ (HSA9.out.1.ext (HXW.out.trans hx21)) HSHA.out la)
      rintro e w22 ⟨rfl, hb22⟩
      rw [HFA.out]
      have hx22 : Wb.Ext W0 w22 := Wb.Ext.trans hx21 hb22
      have g0 := hb22.keep g0
      have g1 := hb22.keep g1
      have g2 := hb22.keep g2
      have gf : ∀ j, w22.frozen? ⟨G, j, none⟩ = false := fun j => (Below.frozen hb22 (by simpa using hGl)).trans (gf j)
      replace hGl := Nat.lt_of_lt_of_le hGl hb22.size
      clear hb22
      refine hK.out _ _ ⟨hx22.keep c0, hx22.keep c1, hx22.keep c2⟩ (fun hHeld => ?_)
      clear hK K
      (try simp only [List.setIfInBounds_toArray, List.set_cons_zero, List.set_cons_succ])
      refine wpAnyH_ready (rs := [13]) (by kernel_rfl) (by simp) ?_
      refine AllReadyH.cons (o := _) rfl (fun K hK => ?_) AllReadyH.nil
      go_simp
      go_at_call 27
      go_fit (rfind_any _ B p q none 0 0 0 0 none 0 0 _ (HSB9.out.1.ext (HXW.out.trans hx22)) HSHB.out lb)
      rintro e w23 ⟨rfl, hb23⟩
      rw [HFB.out]
      have hx23 : Wb.Ext W0 w23 := Wb.Ext.trans hx22 hb23
      have g0 := hb23.keep g0
      have g1 := hb23.keep g1
      have g2 := hb23.keep g2
      have gf : ∀ j, w23.frozen? ⟨G, j, none⟩ = false := fun j => (Below.frozen hb23 (by simpa using hGl)).trans (gf j)
      replace hGl := Nat.lt_of_lt_of_le hGl hb23.size
      clear hb23
      refine hK.out _ _ ⟨hx23.keep c0, hx23.keep c1, hx23.keep c2⟩ (fun hHeld => ?_)
      clear hK K
      (try simp only [List.setIfInBounds_toArray, List.set_cons_zero, List.set_cons_succ])
      refine wpAnyH_ready (rs := [14]) (by kernel_rfl) (by simp) ?_
      refine AllReadyH.cons (o := _) rfl (fun K hK => ?_) AllReadyH.nil
      go_simp
      go_at_call 14
      go_fit (rof29_any ya ia _ la' yb ib _ lb' _ (HLA.out.ext (HXW.out.trans hx23)) HSA.out (HLB.out.ext (HXW.out.trans hx23)) HSB.out)
      rintro e w24 ⟨Y, I, m, E, rfl, r, hO⟩
      obtain ⟨ma, mc, rfl⟩ := hO.lns.1.shape
      have HOF := Lib.hid hO.of
      have HLN := Lib.hid hO.lns
      have hb24 := hO.ext
      have hx24 : Wb.Ext W0 w24 := Wb.Ext.trans hx23 hb24
      have HNW : Hid (∀ q, (Value.slice ma r.length mc).ownBlock = some q → W0.heap.size ≤ q) := Lib.hid (fun q hq => Nat.le_trans hx23.size (hO.new q hq))
      have HGQ : Hid (r ≠ [] → ∀ q, (Value.slice ma r.length mc).ownBlock = some q → q ≠ G) := Lib.hid (fun _ q hq => by have := hO.new q hq; omega)
      have g0 := hb24.keep g0
      have g1 := hb24.keep g1
      have g2 := hb24.keep g2
      have gf : ∀ j, w24.frozen? ⟨G, j, none⟩ = false := fun j => (Below.frozen hb24 (by simpa using hGl)).trans (gf j)
      replace hGl := Nat.lt_of_lt_of_le hGl hb24.size
      clear hO hb24
      refine hK.out _ _ ⟨hx24.keep c0, hx24.keep c1, hx24.keep c2⟩ (fun hHeld => ?_)
      clear hK K
      (try simp only [List.setIfInBounds_toArray, List.set_cons_zero, List.set_cons_succ])
      refine take_d (i := 15) (d := 34) (v := ?_) rfl rfl (by kernel_rfl) (by kernel_rfl) (by kernel_rfl) (fun _ _ _ h => h) (Or.inl ⟨by rfl, ?_⟩) (by assumption) ?_
      rotate_left
      · (intro w hSw; (try dsimp only at hSw); go_simp; (try with_reducible rfl))
      (try simp only [Act.put, List.setIfInBounds_toArray, List.set_cons_zero, List.set_cons_succ])
      refine take_d (i := 16) (d := 50) (v := ?_) rfl rfl (by kernel_rfl) (by kernel_rfl) (by kernel_rfl) (fun _ _ _ h => h) (Or.inl ⟨by rfl, ?_⟩) (by assumption) ?_
      rotate_left
      · (intro w hSw; (try dsimp only at hSw); go_simp; (try with_reducible rfl))
      (try simp only [Act.put, List.setIfInBounds_toArray, List.set_cons_zero, List.set_cons_succ])
      refine take_d (i := 17) (d := 51) (v := ?_) rfl rfl (by kernel_rfl) (by kernel_rfl) (by kernel_rfl) (fun _ _ _ h => h) (Or.inl ⟨by rfl, ?_⟩) (by assumption) ?_
      rotate_left
      · (intro w hSw; (try dsimp only at hSw); go_simp; (try with_reducible rfl))
      (try simp only [Act.put, List.setIfInBounds_toArray, List.set_cons_zero, List.set_cons_succ])
      refine wpAnyH_ready (rs := [19]) (by kernel_rfl) (by simp) ?_
      refine AllReadyH.cons (o := _) rfl (fun K hK => ?_) AllReadyH.nil
      go_simp
      refine atK fun w25 hw25 => ?_
      have hst := st3d (w := w24) (w' := w25) (b := G) (x := .int .i64 Y) (y := .int .i64 I) (z := .slice ma r.length mc) hw25 g0 g1 g2
      obtain ⟨z0, z1, z2, zk, zf, zz, ze⟩ := hst
      have hx25 : Wb.Ext W0 w25 := ze W0 hG0 hx24
      replace HLN := Lib.hid (lnsC_cells HLN.out fun b k u hb hr hc => by
        have hbg : b ≠ G := by
          rcases hq : (Value.slice ma r.length mc).ownBlock with _ | q9
          · obtain ⟨b9, o9, e9, _⟩ := HLN.out.1.opened hr
            subst e9; cases hq
          · rw [hb q9 hq]; exact HGQ.out hr q9 hq
        rw [zk b k hbg]; exact hc)
      replace hGl : G < w25.heap.size := by rw [zz]; exact hGl
      clear hw25 zk zf zz ze g0 g1 g2 gf
      refine hK.out _ _ ⟨hx25.keep c0, hx25.keep c1, hx25.keep c2⟩ (fun hHeld => ?_)
      clear hK K
      (try simp only [List.setIfInBounds_toArray, List.set_cons_zero, List.set_cons_succ])
      refine take_d (i := 20) (d := 11) (v := ?_) rfl rfl (by kernel_rfl) (by kernel_rfl) (by kernel_rfl) (fun _ _ _ h => h) (Or.inl ⟨by rfl, ?_⟩) (by assumption) ?_
      rotate_left
      · (intro w hSw; (try dsimp only at hSw); go_simp; (try with_reducible rfl))
      (try simp only [Act.put, List.setIfInBounds_toArray, List.set_cons_zero, List.set_cons_succ])
      refine wpAnyH_done (by kernel_rfl) ?_ _
      have HXZ := Lib.hid (HXP.out.trans hx25)
      have HRZ := Lib.hid (HR.out.ext (show Wb.Ext wr w25 from HXR.out.trans hx25))
      have hbw : ∀ q, (Value.slice oa R.length oc).ownBlock = some q → q < W0.heap.size := fun q hq => by have := (HR.out.1.lt q hq).2; have := HXR.out.size; omega
      have HNQ : Hid (r ≠ [] → ∀ q, (Value.slice ma r.length mc).ownBlock = some q → (Value.slice oa R.length oc).ownBlock ≠ some q) := Lib.hid (fun _ q hq e => by have := hbw q e; have := HNW.out q hq; omega)
      have HOC := Lib.hid (show Wb.ofC (Wb.conO (Wb.findS A (p, q))) (Wb.conO (Wb.findS B (p, q))) = (E, Y, I, r) by rw [HCA.out, HCB.out]; exact Wb.of_eq HOF.out)
      clear hbw
      by_cases hz : E = 0
      case neg =>
        have d1 : (E != 0) = true := by simpa using hz
        have d2 : (E == 0) = false := by simpa using hz
        have HV := Lib.hid (show Wb.allF A B = (E, [].map Wb.ct) by rw [HALL.out, HT.out, HDR.out]; exact Wb.all_bad HOC.out hz)
        have hxz := HXZ.out
        clear hz
        go_wp2
        refine bodyPost_ret (v := .tuple #[.slice none 0 0, .int .i64 E]) (by simp [results, Try.results23, go_sem]) rfl ⟨_, _, rfl, [], HV.out, SlR.nil, HWP.out.trans hxz⟩
      subst hz
      have HTN := Lib.hid (show Wb.allG A B [] ps = Wb.allG A B ((R ++ [(⟨Y, I, .slice ma r.length mc, r⟩ : Wb.Sl)]).map Wb.ct) (ps.drop (k + 1)) by rw [HT.out, HDR.out, Wb.all_more HOC.out, List.map_append]; rfl)
      have HSZ := Lib.hid (of_sized9 HOF.out rfl)
      obtain ⟨hi, hz0, hz1, hz2⟩ := HIN.out
      go_wp2_with (at_builtin; go_loud (refine wpList_append_row2 rfl (.tmp 55) (.tmp 57) 25 rfl wp.heap.size 24 i0 slZ 3 40 Try.underlying25 hi hz0 hz1 hz2 rfl (by decide) _ _ _ rfl (HRZ.out.ext (Wb.Ext.alloc (.refl _) _)).1 _ rfl 1 (slc (⟨Y, I, .slice ma r.length mc, r⟩ : Wb.Sl)) ?c1 ?c2 ?c3 ?c4 ?c5 ?_))
      case c1 => exact src_lit _ _ (by first | rfl | simp) (slc (⟨Y, I, .slice ma r.length mc, r⟩ : Wb.Sl)) _ _
      case c2 => intro u hu; simp [slc] at hu; rcases hu with rfl | rfl | rfl <;> rfl
      case c3 => unfold maxLen; omega
      case c4 => omega
      case c5 => have := HXZ.out.size; first | omega | (simp; omega)
      intro u2 w6 hown2 hg2 hblk
      have hrb : ∀ q, (Value.slice oa R.length oc).ownBlock = some q → wp.heap.size ≤ q := fun q hq => (HR.out.1.lt q hq).1
      have HX6 := Lib.hid (show Wb.Ext wp w6 from Wb.Ext.grown (Wb.Ext.trans HXZ.out (by (repeat' (first | (with_reducible assumption) | (with_reducible exact Wb.Ext.refl _) | (with_reducible refine Wb.Ext.drew ?_) | (with_reducible refine Wb.Ext.drewN ?_ _) | (with_reducible refine Wb.Ext.alloc ?_ _) | (with_reducible refine Wb.Ext.trans ?_ (by assumption)))))) hg2 (fun q hq => hrb q hq))
      have HR6 := Lib.hid (SlR.append (s := ⟨Y, I, .slice ma r.length mc, r⟩) (HRZ.out.ext (by (repeat' (first | (with_reducible assumption) | (with_reducible exact Wb.Ext.refl _) | (with_reducible refine Wb.Ext.drew ?_) | (with_reducible refine Wb.Ext.drewN ?_ _) | (with_reducible refine Wb.Ext.alloc ?_ _) | (with_reducible refine Wb.Ext.trans ?_ (by assumption)))))) hown2 hg2 (by have := hblk; simp at this ⊢; exact this) (HLN.out.ext (by (repeat' (first | (with_reducible assumption) | (with_reducible exact Wb.Ext.refl _) | (with_reducible refine Wb.Ext.drew ?_) | (with_reducible refine Wb.Ext.drewN ?_ _) | (with_reducible refine Wb.Ext.alloc ?_ _) | (with_reducible refine Wb.Ext.trans ?_ (by assumption)))))) HSZ.out HNQ.out)
      clear hi hz0 hz1 hz2 hg2 hown2 hblk hrb
      go_wp2
      go_roundw
      case rel => exact ⟨k + 1, R ++ [⟨Y, I, .slice ma r.length mc, r⟩], by omega, by go_num, HR6, HTN, by rw [List.length_append, HRK.out]; rfl, HX6.out⟩
      case measure => first | (simp [intOf]; done) | (simp [intOf]; omega)
    exact AllReadyH.nil

end Go.Proofs.Ytdfmlgjemfcmlaa
