/- The walks of delta.period and delta.table. -/
import Derived.Test.YtnefdpnolojojaaGreatMDb
import Derived.Test.YtnefdpnolojojaaGreatDel6
import Derived.Test.YtnefdpnolojojaaGreatMPm
import Derived.Deep.DeepCutAuto
import Derived.Deep.CutBlock
import Derived.IntWalk
namespace Go.Proofs.YtnefdpnolojojaaGreat
open Go.RowKit Go.Sort Go.Lib Go.Maps
set_option maxRecDepth 8000
attribute [local go_sem ↓] Go.wp_at_zero Go.wp_at_succ

theorem ext_grow (w : World) (q : Nat) (os : Array Obj) : Wb.Ext w (grow (w.drewN q) os) := by
  refine ⟨rfl, rfl, rfl, by simp [grow], fun k hk => ?_⟩
  show (w.heap ++ os)[k]? = w.heap[k]?
  rw [Array.getElem?_append_left hk]
theorem period_any (y i : Int) (a : Option Addr) (n c : Nat) (w : World) :
    Calls Tryz.prog 69 #[SlV y i (.slice a n c)] w fun e w' => e = .returned (PrV (y, i)) ∧ Wb.Ext w w' := by
  go_enter Tryz.func69, Tryz.ntmps69
  go_wp2
  refine bodyPost_ret (v := PrV (y, i)) (by simp [results, Tryz.results69, go_sem]) rfl ⟨rfl, by (repeat' (first | (with_reducible assumption) | (with_reducible exact Wb.Ext.refl _) | (with_reducible refine Wb.Ext.drew ?_) | (with_reducible refine Wb.Ext.drewN ?_ _) | (with_reducible refine Wb.Ext.alloc ?_ _) | (with_reducible refine Wb.ext_set ?_ (by first | assumption | (simp; done) | (simp; omega) | omega) _) | (with_reducible refine Wb.Ext.trans ?_ (by assumption))))⟩
/-- slips in memory; of too many nothing is asked -/
def SlsB (w : World) (v : Value) (L : List Wb.Sl) : Prop := Tbl 3 slc w v L ∧ (L.length ≤ 4096 → Sls w v L)
theorem SlsB.ext {w w' : World} {v : Value} {L : List Wb.Sl} (h : SlsB w v L) (k : Wb.Ext w w') : SlsB w' v L := ⟨h.1.ext k, fun hl => (h.2 hl).ext k⟩
theorem prOk_check {s : Wb.Sl} (h : Wb.check s.y s.i s.l = 0) : PrOk (Wb.perS s) := by
  obtain ⟨h1, h2, h3, h4⟩ := Wb.ok_years h
  exact prOk_of (by simp only [Wb.perS]; omega) (by simp only [Wb.perS]; omega)
theorem find_take {L : List Wb.Sl} {k : Nat} {x : Wb.Sl} (hx : L[k]? = some x) (h : ∀ s ∈ L.take k, Wb.perS s ≠ Wb.perS x) : (fun q => if Wb.perS x = q then some x else Wb.findS (L.take k) q) = Wb.findS (L.take (k + 1)) := by
  funext q
  have e : L.take (k + 1) = L.take k ++ [x] := by
    obtain ⟨h1, rfl⟩ := List.getElem?_eq_some_iff.1 hx
    exact List.take_succ_eq_append_getElem h1
  rw [e, Wb.find_app h]
theorem behind_all {L : List Wb.Sl} {k : Nat} {x : Wb.Sl} {q : Int × Int} (hr : Wb.RiseP (L.take k)) (hp : Wb.prevP L k = some q) (hq : prLt q (Wb.perS x) = true) : ∀ s ∈ L.take k, prLt (Wb.perS s) (Wb.perS x) = true := by
  intro s hs
  have hk : k ≠ 0 := by rintro rfl; simp [Wb.prevP] at hp
  simp only [Wb.prevP, if_neg hk, Option.map_eq_some_iff] at hp
  obtain ⟨z, hz, rfl⟩ := hp
  obtain ⟨j, hj⟩ := List.getElem?_of_mem hs
  have hzt : (L.take k)[k - 1]? = some z := by rw [List.getElem?_take, if_pos (by omega)]; exact hz
  obtain ⟨p1, p2⟩ := List.getElem?_eq_some_iff.1 hj
  obtain ⟨p3, p4⟩ := List.getElem?_eq_some_iff.1 hzt
  have hjk : j ≤ k - 1 := by have : j < k := by simp at p1; omega
                             omega
  rcases Nat.lt_or_eq_of_le hjk with h | h
  · have := List.pairwise_iff_getElem.1 hr j (k - 1) p1 p3 h
    rw [p2, p4] at this
    exact Wb.pr_trans this hq
  · subst h
    rw [p2] at p4; rw [p4]; exact hq
theorem rise_take {L : List Wb.Sl} {k : Nat} {x : Wb.Sl} (hx : L[k]? = some x) (hr : Wb.RiseP (L.take k)) (h : ∀ s ∈ L.take k, prLt (Wb.perS s) (Wb.perS x) = true) : Wb.RiseP (L.take (k + 1)) := by
  have e : L.take (k + 1) = L.take k ++ [x] := by
    obtain ⟨h1, rfl⟩ := List.getElem?_eq_some_iff.1 hx
    exact List.take_succ_eq_append_getElem h1
  unfold Wb.RiseP
  rw [e]
  exact List.pairwise_append.2 ⟨hr, List.pairwise_singleton _ _, fun s hs z hz => by simp at hz; subst hz; exact h s hs⟩
/-- what delta.table yields -/
structure IsTab (w w' : World) (L : List Wb.Sl) (m : Value) : Prop where
  tab : Wb.listE L = 0 → ∃ b, m = .map (some b) ∧ w.heap.size ≤ b ∧ SMapIs w' b L.length (Wb.findS L)
  ext : Wb.Ext w w'

set_option maxHeartbeats 8000000 in
theorem table_any (v : Value) (L : List Wb.Sl) (w : World) (hL : SlsB w v L) (hl : L.length ≤ 9223372036854775807) :
    Calls Tryz.prog 46 #[v] w fun e w' => ∃ m, e = .returned (.tuple #[m, .int .i64 (Wb.listE L)]) ∧ IsTab w w' L m := by
  obtain ⟨va, vc, rfl⟩ := hL.1.shape
  have HL := Lib.hid hL
  clear hL
  by_cases hmany : 4096 < L.length
  · have d : decide ((4096 : Int) < (L.length : Int)) = true := by simp; omega
    have HE := Lib.hid (show Wb.listE L = 5 by rw [Wb.listE, if_pos hmany])
    go_enter Tryz.func46, Tryz.ntmps46
    go_wp2
    refine bodyPost_ret (v := .tuple #[.map none, .int .i64 5]) (by simp [results, Tryz.results46, go_sem]) rfl ⟨_, by rw [HE.out], fun h => by (rw [HE.out] at h; cases h), by (repeat' (first | (with_reducible assumption) | (with_reducible exact Wb.Ext.refl _) | (with_reducible refine Wb.Ext.drew ?_) | (with_reducible refine Wb.Ext.drewN ?_ _) | (with_reducible refine Wb.Ext.alloc ?_ _) | (with_reducible refine Wb.Ext.trans ?_ (by assumption))))⟩
  have d : decide ((4096 : Int) < (L.length : Int)) = false := by simp; omega
  have hl2 : L.length ≤ 4096 := by omega
  have HS := Lib.hid (HL.out.2 hl2)
  have HLE := Lib.hid (show Wb.listE L = Wb.tabE none L by rw [Wb.listE, if_neg hmany])
  clear hmany HL
  have hmm := @run_makeMap Tryz.prog
  go_enter Tryz.func46, Tryz.ntmps46
  go_upto_region 4 with (fail)
  refine Wb.wp_at fun WB hWB => ?_
  obtain ⟨B, hB⟩ : ∃ B, w.heap.size = B := ⟨_, rfl⟩
  have HMB : Hid (SMapIs WB B 0 (fun _ => none)) := Lib.hid (by rw [hWB]; exact smap_made _ _ hB.symm)
  have HEB := Lib.hid (show Wb.Ext w WB by rw [hWB]; (repeat' (first | (with_reducible assumption) | (with_reducible exact Wb.Ext.refl _) | (with_reducible refine Wb.Ext.drew ?_) | (with_reducible refine Wb.Ext.drewN ?_ _) | (with_reducible refine Wb.Ext.alloc ?_ _) | (with_reducible refine Wb.Ext.trans ?_ (by assumption)))))
  have hBB : B < WB.heap.size := by rw [hWB, ← hB]; simp
  have hBw : w.heap.size ≤ B := by omega
  rw [hB]
  clear hWB hB hmm
  go_wp2_with fail
  go_loopw [14] (fun iv wr => ∃ k : Nat, k ≤ L.length ∧ iv = .int .i64 k ∧ Hid (Wb.tabE none L = Wb.tabE (Wb.prevP L k) (L.drop k)) ∧ Hid (SMapIs wr B k (Wb.findS (L.take k))) ∧ Hid (Wb.RiseP (L.take k)) ∧ B < wr.heap.size ∧ Wb.Ext w wr) (fun iv _ => L.length - (intOf iv).toNat)
  case atStart => exact ⟨0, Nat.zero_le _, rfl, Lib.hid rfl, HMB, Lib.hid List.Pairwise.nil, hBB, HEB.out⟩
  case round =>
    clear HMB HEB hBB
    obtain ⟨k, hk, rfl, HT, HM, HR, hB0, hxr⟩ := hrel
    by_cases hlt : k < L.length
    case neg =>
      obtain rfl : k = L.length := by omega
      have HE := Lib.hid (show Wb.listE L = 0 by rw [HLE.out, HT.out, List.drop_length, Wb.tabE])
      have HM2 := Lib.hid (show SMapIs wr B L.length (Wb.findS L) by have := HM.out; rwa [List.take_length] at this)
      go_wp2
      refine bodyPost_ret (v := .tuple #[.map (some B), .int .i64 0]) (by simp [results, Tryz.results46, go_sem]) rfl ⟨_, by rw [HE.out], fun _ => ⟨B, rfl, hBw, HM2.out⟩, by (repeat' (first | (with_reducible assumption) | (with_reducible exact Wb.Ext.refl _) | (with_reducible refine Wb.Ext.drew ?_) | (with_reducible refine Wb.Ext.drewN ?_ _) | (with_reducible refine Wb.Ext.alloc ?_ _) | (with_reducible refine Wb.Ext.trans ?_ (by assumption))))⟩
    obtain ⟨x, hx⟩ := Wb.get_ex hlt
    have hmem := List.mem_of_getElem? hx
    have HSr := Lib.hid (HS.out.ext hxr)
    obtain ⟨b, off, rfl, c0, c1, c2⟩ := HSr.out.cells hx
    obtain ⟨xa, xc, hxv⟩ := (HSr.out.2 x hmem).1.1.shape
    have HXV := Lib.hid hxv
    rw [hxv] at c2
    have HLN : Hid (Lns wr (.slice xa x.l.length xc) x.l) := Lib.hid (by rw [← hxv]; exact (HSr.out.2 x hmem).1.1)
    have HSZ := Lib.hid (HSr.out.2 x hmem).2
    have hki : (k : Int) < L.length := by omega
    have HX := Lib.hid hx
    have HDR := Lib.hid (drop_at hx)
    clear hxv
    go_upto_region 7 with (fail)
    refine Wb.wp_at fun W0 hW0 => ?_
    obtain ⟨X, hX⟩ : ∃ X, wr.heap.size = X := ⟨_, rfl⟩
    have hb0 : Wb.Ext wr W0 := by rw [hW0]; (repeat' (first | (with_reducible assumption) | (with_reducible exact Wb.Ext.refl _) | (with_reducible refine Wb.Ext.drew ?_) | (with_reducible refine Wb.Ext.drewN ?_ _) | (with_reducible refine Wb.Ext.alloc ?_ _) | (with_reducible refine Wb.ext_set ?_ (by first | assumption | (simp; done) | (simp; omega) | omega) _) | (with_reducible refine Wb.Ext.trans ?_ (by assumption))))
    have x0 : W0.cell? ⟨X, 0, none⟩ = some (.int .i64 x.y) := by rw [hW0, ← hX]; simp [go_sem]
    have x1 : W0.cell? ⟨X, 1, none⟩ = some (.int .i64 x.i) := by rw [hW0, ← hX]; simp [go_sem]
    have x2 : W0.cell? ⟨X, 2, none⟩ = some (.slice xa x.l.length xc) := by rw [hW0, ← hX]; simp [go_sem]
    have HM0 := Lib.hid (HM.out.ext hb0)
    have HW0 := Lib.hid (hxr.trans hb0)
    have hXB : X ≠ B := by omega
    have hB0 : B < W0.heap.size := Nat.lt_of_lt_of_le hB0 hb0.size
    replace HLN := Lib.hid (HLN.out.ext hb0)
    rw [hX]
    clear hW0 hX hmem c0 c1 c2 hb0
    obtain ⟨E, hE⟩ : ∃ E, Wb.check x.y x.i x.l = E := ⟨_, rfl⟩
    have HEE := Lib.hid hE
    clear hE
    go_wp2_with fail
    go_fit (check_any x.y x.i _ x.l _ HLN.out HSZ.out); rintro e w2 ⟨rfl, hb2⟩
    rw [HEE.out]
    have x0 := hb2.keep x0
    have x1 := hb2.keep x1
    have x2 := hb2.keep x2
    replace HM0 := Lib.hid (HM0.out.ext hb2)
    replace HW0 := Lib.hid (HW0.out.trans hb2)
    have hB0 : B < w2.heap.size := Nat.lt_of_lt_of_le hB0 hb2.size
    clear hb2 HM
    by_cases hz : E = 0
    case neg =>
      have d1 : (E != 0) = true := by simpa using hz
      have d2 : (E == 0) = false := by simpa using hz
      have HE := Lib.hid (show Wb.listE L = E by rw [HLE.out, HT.out, HDR.out, Wb.tab_bad (by rw [HEE.out]; exact hz), HEE.out])
      go_wp2
      refine bodyPost_ret (v := .tuple #[.map none, .int .i64 E]) (by simp [results, Tryz.results46, go_sem]) rfl ⟨_, by rw [HE.out], fun h => absurd (HE.out.symm.trans h) hz, HW0.out⟩
    subst hz
    have HPK : Hid (PrOk (x.y, x.i)) := Lib.hid (prOk_check HEE.out)
    by_cases hk0 : k = 0
    · have HTN := Lib.hid (show Wb.tabE none L = Wb.tabE (Wb.prevP L (k + 1)) (L.drop (k + 1)) by rw [HT.out, HDR.out, Wb.prevP_succ HX.out, show Wb.prevP L k = none by simp [Wb.prevP, hk0]]; exact Wb.tab_first HEE.out)
      have HNE : Hid (∀ s ∈ L.take k, Wb.perS s ≠ Wb.perS x) := Lib.hid (fun s hs => by rw [hk0] at hs; simp at hs)
      have HRN := Lib.hid (rise_take HX.out HR.out (fun s hs => by rw [hk0] at hs; simp at hs))
      have hd0 : decide ((0 : Int) < (k : Int)) = false := by rw [hk0]; rfl
      have hd1 : decide (0 < k) = false := by rw [hk0]; rfl
      clear hk0
      go_wp2_with fail
      go_quiet (fail)
      go_upto_region 12 with (fail)
      refine Wb.wp_at fun W1 hW1 => ?_
      have hb1 : Wb.Ext w2 W1 := by rw [hW1]; first | exact Wb.Ext.refl _ | (repeat' (first | (with_reducible assumption) | (with_reducible exact Wb.Ext.refl _) | (with_reducible refine Wb.Ext.drew ?_) | (with_reducible refine Wb.Ext.drewN ?_ _) | (with_reducible refine Wb.Ext.alloc ?_ _) | (with_reducible refine Wb.Ext.trans ?_ (by assumption))))
      have x0 := hb1.keep x0
      have x1 := hb1.keep x1
      have x2 := hb1.keep x2
      have HMP : Hid (SMapIs W1 B k (Wb.findS (L.take k))) := Lib.hid (HM0.out.ext hb1)
      have HW1 := Lib.hid (HW0.out.trans hb1)
      have hBl : B < W1.heap.size := Nat.lt_of_lt_of_le hB0 hb1.size
      have hXB : X ≠ B := by omega
      clear hW1 hb1
      refine region_start (S := (fun w' => w'.cell? ⟨X, 0, none⟩ = some (.int .i64 x.y) ∧ w'.cell? ⟨X, 1, none⟩ = some (.int .i64 x.i) ∧ w'.cell? ⟨X, 2, none⟩ = some (.slice xa x.l.length xc))) (n := 5) (l := #[false, false, false, false, false]) (by kernel_rfl) ⟨x0, x1, x2⟩ (by kernel_rfl) (by kernel_rfl) (fun hHeld => ?_)
      refine take_d (i := 0) (d := 38) (v := ?_) rfl rfl (by kernel_rfl) (by kernel_rfl) (by kernel_rfl) (fun _ _ _ h => h) (Or.inl ⟨by rfl, ?_⟩) (by assumption) ?_
      rotate_left
      · (intro w hSw; (try dsimp only at hSw); go_simp; (try with_reducible rfl))
      (try simp only [Act.put, List.setIfInBounds_toArray, List.set_cons_zero, List.set_cons_succ])
      refine take_d (i := 1) (d := 39) (v := ?_) rfl rfl (by kernel_rfl) (by kernel_rfl) (by kernel_rfl) (fun _ _ _ h => h) (Or.inl ⟨by rfl, ?_⟩) (by assumption) ?_
      rotate_left
      · (intro w hSw; (try dsimp only at hSw); go_simp; (try with_reducible rfl))
      (try simp only [Act.put, List.setIfInBounds_toArray, List.set_cons_zero, List.set_cons_succ])
      refine take_d (i := 3) (d := 41) (v := ?_) rfl rfl (by kernel_rfl) (by kernel_rfl) (by kernel_rfl) (fun _ _ _ h => h) (Or.inl ⟨by rfl, ?_⟩) (by assumption) ?_
      rotate_left
      · (intro w hSw; (try dsimp only at hSw); go_simp; (try with_reducible rfl))
      (try simp only [Act.put, List.setIfInBounds_toArray, List.set_cons_zero, List.set_cons_succ])
      refine wpAnyH_ready (rs := [2]) (by kernel_rfl) (by simp) ?_
      refine AllReadyH.cons (o := _) rfl (fun K hK => ?_) AllReadyH.nil
      go_simp
      go_at_call 69
      go_fit (period_any x.y x.i xa x.l.length xc _)
      rintro e w11 ⟨rfl, hb11⟩
      have hx11 : Wb.Ext W1 w11 := Wb.Ext.trans (.drew (.refl _)) hb11
      clear hb11
      refine hK.out _ _ ⟨hx11.keep x0, hx11.keep x1, hx11.keep x2⟩ (fun hHeld => ?_)
      clear hK K
      (try simp only [List.setIfInBounds_toArray, List.set_cons_zero, List.set_cons_succ])
      refine wpAnyH_ready (rs := [4]) (by kernel_rfl) (by simp) ?_
      refine AllReadyH.cons (o := _) rfl (fun K hK => ?_) AllReadyH.nil
      have hm12 := (HMP.out.ext (show Wb.Ext W1 w11 from hx11)).update (by unfold maxLen; omega) (p := (x.y, x.i)) HPK.out x
      obtain ⟨w12, hrun12, hsm12, hg12⟩ := hm12
      have hrun12 : (Instr.mapUpdate 97 (.map (some B)) (.agg #[.int .i64 x.y, .int .i64 x.i]) (.agg #[.int .i64 x.y, .int .i64 x.i, .slice xa x.l.length xc])).run Tryz.prog w11 = .ok () w12 := by rw [← HXV.out]; exact hrun12
      go_simp
      have HSM := Lib.hid hsm12
      have hx0 := grown_keep hg12 (hx11.keep x0) (by omega)
      have hx1' := grown_keep hg12 (hx11.keep x1) (by omega)
      have hx2' := grown_keep hg12 (hx11.keep x2) (by omega)
      have HXE := Lib.hid (show Wb.Ext w w12 from Wb.Ext.grown (HW1.out.trans hx11) hg12 (fun q hq => by injection hq with hq; omega))
      have hsz : B < w12.heap.size := Nat.lt_of_lt_of_le hBl (Nat.le_trans hx11.size hg12.size)
      clear hsm12 hg12 hrun12
      refine hK.out _ _ ⟨hx0, hx1', hx2'⟩ (fun hHeld => ?_)
      clear hK K
      (try simp only [List.setIfInBounds_toArray, List.set_cons_zero, List.set_cons_succ])
      refine wpAnyH_done (by kernel_rfl) ?_ _
      have HSM2 := Lib.hid (show SMapIs w12 B (k + 1) (Wb.findS (L.take (k + 1))) from by rw [← find_take HX.out HNE.out]; exact HSM.out)
      clear hx0 hx1' hx2'
      go_wp2
      go_roundw
      case rel => exact ⟨k + 1, by omega, by go_num, HTN, HSM2, HRN, hsz, HXE.out⟩
      case measure => first | (simp [intOf]; done) | (simp [intOf]; omega)
    · obtain ⟨z, hz⟩ := Wb.get_ex (show k - 1 < L.length by omega)
      have hmz := List.mem_of_getElem? hz
      obtain ⟨b2, off2, hbb, z0, z1, z2⟩ := (HS.out.ext HW0.out).cells hz
      injection hbb with hbb
      injection hbb with e1 e2 e3
      subst e1 e2
      clear e3
      obtain ⟨za, zc, hzv⟩ := ((HS.out.ext HW0.out).2 z hmz).1.1.shape
      rw [hzv] at z2
      have HPV := Lib.hid (show Wb.prevP L k = some (Wb.perS z) by rw [Wb.prevP, if_neg hk0, hz]; rfl)
      have hd0 : decide ((0 : Int) < (k : Int)) = true := by simp; omega
      have hd1 : decide (0 < k) = true := by simp; omega
      have hkw : IntKind.i64.wrap ((k : Int) - 1) = ((k - 1 : Nat) : Int) := by rw [IntWalk.i64_in _ (by omega)]; omega
      have hkm : ((k - 1 : Nat) : Int) < L.length := by omega
      obtain ⟨C, hC⟩ : ∃ C, cmpP (z.y, z.i) (x.y, x.i) = C := ⟨_, rfl⟩
      have HCM := Lib.hid hC
      clear hz hmz hzv hC hk0
      go_upto_region 10 with (fail)
      refine Wb.wp_at fun W1 hW1 => ?_
      have hb9 : Wb.Ext w2 W1 := by rw [hW1]; first | exact Wb.Ext.refl _ | (repeat' (first | (with_reducible assumption) | (with_reducible exact Wb.Ext.refl _) | (with_reducible refine Wb.Ext.drew ?_) | (with_reducible refine Wb.Ext.drewN ?_ _) | (with_reducible refine Wb.Ext.alloc ?_ _) | (with_reducible refine Wb.Ext.trans ?_ (by assumption))))
      have x0 := hb9.keep x0
      have x1 := hb9.keep x1
      have x2 := hb9.keep x2
      have z0 := hb9.keep z0
      have z1 := hb9.keep z1
      have z2 := hb9.keep z2
      replace HM0 := Lib.hid (HM0.out.ext hb9)
      replace HW0 := Lib.hid (HW0.out.trans hb9)
      have hB0 : B < W1.heap.size := Nat.lt_of_lt_of_le hB0 hb9.size
      clear hW1 hb9
      refine region_start (S := (fun w' => w'.cell? ⟨X, 0, none⟩ = some (.int .i64 x.y) ∧ w'.cell? ⟨X, 1, none⟩ = some (.int .i64 x.i) ∧ w'.cell? ⟨X, 2, none⟩ = some (.slice xa x.l.length xc) ∧ w'.cell? ⟨b, off + (k - 1) * 3, none⟩ = some (.int .i64 z.y) ∧ w'.cell? ⟨b, off + (k - 1) * 3 + 1, none⟩ = some (.int .i64 z.i) ∧ w'.cell? ⟨b, off + (k - 1) * 3 + 2, none⟩ = some (.slice za z.l.length zc))) (n := 14) (l := #[false, false, false, false, false, false, false, false, false, false, false, false, false, false]) (by kernel_rfl) ⟨x0, x1, x2, z0, z1, z2⟩ (by kernel_rfl) (by kernel_rfl) (fun hHeld => ?_)
      refine take_d (i := 0) (d := 24) (v := ?_) rfl rfl (by kernel_rfl) (by kernel_rfl) (by kernel_rfl) (fun _ _ _ h => h) (Or.inl ⟨by rfl, ?_⟩) (by assumption) ?_
      rotate_left
      · (intro w hSw; (try dsimp only at hSw); go_simp; (try with_reducible rfl))
      (try simp only [Act.put, List.setIfInBounds_toArray, List.set_cons_zero, List.set_cons_succ])
      refine take_d (i := 1) (d := 25) (v := ?_) rfl rfl (by kernel_rfl) (by kernel_rfl) (by kernel_rfl) (fun _ _ _ h => h) (Or.inl ⟨by rfl, ?_⟩) (by assumption) ?_
      rotate_left
      · (intro w hSw; (try dsimp only at hSw); go_simp; (try with_reducible rfl))
      (try simp only [Act.put, List.setIfInBounds_toArray, List.set_cons_zero, List.set_cons_succ])
      refine take_d (i := 2) (d := 26) (v := ?_) rfl rfl (by kernel_rfl) (by kernel_rfl) (by kernel_rfl) (fun _ _ _ h => h) (Or.inl ⟨by rfl, ?_⟩) (by assumption) ?_
      rotate_left
      · (intro w hSw; (try dsimp only at hSw); go_simp; (try with_reducible rfl))
      (try simp only [Act.put, List.setIfInBounds_toArray, List.set_cons_zero, List.set_cons_succ])
      refine take_d (i := 3) (d := 27) (v := ?_) rfl rfl (by kernel_rfl) (by kernel_rfl) (by kernel_rfl) (fun _ _ _ h => h) (Or.inl ⟨by rfl, ?_⟩) (by assumption) ?_
      rotate_left
      · (intro w hSw; (try dsimp only at hSw); go_simp; (try with_reducible rfl))
      (try simp only [Act.put, List.setIfInBounds_toArray, List.set_cons_zero, List.set_cons_succ])
      refine take_d (i := 4) (d := 28) (v := ?_) rfl rfl (by kernel_rfl) (by kernel_rfl) (by kernel_rfl) (fun _ _ _ h => h) (Or.inl ⟨by rfl, ?_⟩) (by assumption) ?_
      rotate_left
      · (intro w hSw; (try dsimp only at hSw); go_simp; (try with_reducible rfl))
      (try simp only [Act.put, List.setIfInBounds_toArray, List.set_cons_zero, List.set_cons_succ])
      refine take_d (i := 5) (d := 29) (v := ?_) rfl rfl (by kernel_rfl) (by kernel_rfl) (by kernel_rfl) (fun _ _ _ h => h) (Or.inl ⟨by rfl, ?_⟩) (by assumption) ?_
      rotate_left
      · (intro w hSw; (try dsimp only at hSw); go_simp; (try with_reducible rfl))
      (try simp only [Act.put, List.setIfInBounds_toArray, List.set_cons_zero, List.set_cons_succ])
      refine take_d (i := 6) (d := 30) (v := ?_) rfl rfl (by kernel_rfl) (by kernel_rfl) (by kernel_rfl) (fun _ _ _ h => h) (Or.inl ⟨by rfl, ?_⟩) (by assumption) ?_
      rotate_left
      · (intro w hSw; (try dsimp only at hSw); go_simp; (try with_reducible rfl))
      (try simp only [Act.put, List.setIfInBounds_toArray, List.set_cons_zero, List.set_cons_succ])
      refine take_d (i := 7) (d := 31) (v := ?_) rfl rfl (by kernel_rfl) (by kernel_rfl) (by kernel_rfl) (fun _ _ _ h => h) (Or.inl ⟨by rfl, ?_⟩) (by assumption) ?_
      rotate_left
      · (intro w hSw; (try dsimp only at hSw); go_simp; (try with_reducible rfl))
      (try simp only [Act.put, List.setIfInBounds_toArray, List.set_cons_zero, List.set_cons_succ])
      refine take_d (i := 9) (d := 33) (v := ?_) rfl rfl (by kernel_rfl) (by kernel_rfl) (by kernel_rfl) (fun _ _ _ h => h) (Or.inl ⟨by rfl, ?_⟩) (by assumption) ?_
      rotate_left
      · (intro w hSw; (try dsimp only at hSw); go_simp; (try with_reducible rfl))
      (try simp only [Act.put, List.setIfInBounds_toArray, List.set_cons_zero, List.set_cons_succ])
      refine wpAnyH_ready (rs := [8]) (by kernel_rfl) (by simp) ?_
      refine AllReadyH.cons (o := _) rfl (fun K hK => ?_) AllReadyH.nil
      go_simp
      go_at_call 69
      go_fit (period_any z.y z.i za z.l.length zc _)
      rintro e w21 ⟨rfl, hb21⟩
      have hx21 : Wb.Ext W1 w21 := Wb.Ext.trans (.drew (.refl _)) hb21
      clear hb21
      refine hK.out _ _ ⟨hx21.keep x0, hx21.keep x1, hx21.keep x2, hx21.keep z0, hx21.keep z1, hx21.keep z2⟩ (fun hHeld => ?_)
      clear hK K
      (try simp only [List.setIfInBounds_toArray, List.set_cons_zero, List.set_cons_succ])
      refine wpAnyH_ready (rs := [10]) (by kernel_rfl) (by simp) ?_
      refine AllReadyH.cons (o := _) rfl (fun K hK => ?_) AllReadyH.nil
      go_simp
      go_at_call 69
      go_fit (period_any x.y x.i xa x.l.length xc _)
      rintro e w22 ⟨rfl, hb22⟩
      have hx22 : Wb.Ext W1 w22 := Wb.Ext.trans hx21 hb22
      clear hb22
      refine hK.out _ _ ⟨hx22.keep x0, hx22.keep x1, hx22.keep x2, hx22.keep z0, hx22.keep z1, hx22.keep z2⟩ (fun hHeld => ?_)
      clear hK K
      (try simp only [List.setIfInBounds_toArray, List.set_cons_zero, List.set_cons_succ])
      refine wpAnyH_ready (rs := [11]) (by kernel_rfl) (by simp) ?_
      refine AllReadyH.cons (o := _) rfl (fun K hK => ?_) AllReadyH.nil
      go_simp
      go_at_call 68
      go_fit (ahead29_any (z.y, z.i) (x.y, x.i) _)
      rintro e w23 ⟨rfl, q23, os23, hw23⟩
      have hx23 : Wb.Ext W1 w23 := Wb.Ext.trans hx22 (by rw [hw23]; exact ext_grow _ _ _)
      rw [HCM.out]
      clear hw23
      refine hK.out _ _ ⟨hx23.keep x0, hx23.keep x1, hx23.keep x2, hx23.keep z0, hx23.keep z1, hx23.keep z2⟩ (fun hHeld => ?_)
      clear hK K
      (try simp only [List.setIfInBounds_toArray, List.set_cons_zero, List.set_cons_succ])
      refine take_d (i := 12) (d := 36) (v := ?_) rfl rfl (by kernel_rfl) (by kernel_rfl) (by kernel_rfl) (fun _ _ _ h => h) (Or.inl ⟨by rfl, ?_⟩) (by assumption) ?_
      rotate_left
      · (intro w hSw; (try dsimp only at hSw); go_simp; (try with_reducible rfl))
      (try simp only [Act.put, List.setIfInBounds_toArray, List.set_cons_zero, List.set_cons_succ])
      refine take_d (i := 13) (d := 37) (v := ?_) rfl rfl (by kernel_rfl) (by kernel_rfl) (by kernel_rfl) (fun _ _ _ h => h) (Or.inl ⟨by rfl, ?_⟩) (by assumption) ?_
      rotate_left
      · (intro w hSw; (try dsimp only at hSw); go_simp; (try with_reducible rfl))
      (try simp only [Act.put, List.setIfInBounds_toArray, List.set_cons_zero, List.set_cons_succ])
      refine wpAnyH_done (by kernel_rfl) ?_ _
      have x0 := hx23.keep x0
      have x1 := hx23.keep x1
      have x2 := hx23.keep x2
      replace HM0 := Lib.hid (HM0.out.ext hx23)
      replace HW0 := Lib.hid (HW0.out.trans hx23)
      have hB0 : B < w23.heap.size := Nat.lt_of_lt_of_le hB0 hx23.size
      by_cases hq : prLt (Wb.perS z) (Wb.perS x) = true
      · have hC : C = -1 := by
          have hq' : prLt (z.y, z.i) (x.y, x.i) = true := hq
          rw [← HCM.out, cmpP_val, if_pos hq']
        have hdC : decide ((0 : Int) ≤ C) = false := by rw [hC]; rfl
        have hnC : ¬ (0 : Int) ≤ C := by omega
        have hltC : C < 0 := by omega
        have HTN := Lib.hid (show Wb.tabE none L = Wb.tabE (Wb.prevP L (k + 1)) (L.drop (k + 1)) by rw [HT.out, HDR.out, Wb.prevP_succ HX.out, HPV.out]; exact Wb.tab_more HEE.out hq)
        have hbe := behind_all HR.out HPV.out hq
        have HNE : Hid (∀ s ∈ L.take k, Wb.perS s ≠ Wb.perS x) := Lib.hid (fun s hs => Wb.pr_ne (hbe s hs))
        have HRN := Lib.hid (rise_take HX.out HR.out hbe)
        clear hq hC hbe z0 z1 z2
        go_upto_region 12 with (fail)
        refine Wb.wp_at fun W1 hW1 => ?_
        have hb1 : Wb.Ext w23 W1 := by rw [hW1]; first | exact Wb.Ext.refl _ | (repeat' (first | (with_reducible assumption) | (with_reducible exact Wb.Ext.refl _) | (with_reducible refine Wb.Ext.drew ?_) | (with_reducible refine Wb.Ext.drewN ?_ _) | (with_reducible refine Wb.Ext.alloc ?_ _) | (with_reducible refine Wb.Ext.trans ?_ (by assumption))))
        have x0 := hb1.keep x0
        have x1 := hb1.keep x1
        have x2 := hb1.keep x2
        have HMP : Hid (SMapIs W1 B k (Wb.findS (L.take k))) := Lib.hid (HM0.out.ext hb1)
        have HW1 := Lib.hid (HW0.out.trans hb1)
        have hBl : B < W1.heap.size := Nat.lt_of_lt_of_le hB0 hb1.size
        have hXB : X ≠ B := by omega
        clear hW1 hb1
        refine region_start (S := (fun w' => w'.cell? ⟨X, 0, none⟩ = some (.int .i64 x.y) ∧ w'.cell? ⟨X, 1, none⟩ = some (.int .i64 x.i) ∧ w'.cell? ⟨X, 2, none⟩ = some (.slice xa x.l.length xc))) (n := 5) (l := #[false, false, false, false, false]) (by kernel_rfl) ⟨x0, x1, x2⟩ (by kernel_rfl) (by kernel_rfl) (fun hHeld => ?_)
        refine take_d (i := 0) (d := 38) (v := ?_) rfl rfl (by kernel_rfl) (by kernel_rfl) (by kernel_rfl) (fun _ _ _ h => h) (Or.inl ⟨by rfl, ?_⟩) (by assumption) ?_
        rotate_left
        · (intro w hSw; (try dsimp only at hSw); go_simp; (try with_reducible rfl))
        (try simp only [Act.put, List.setIfInBounds_toArray, List.set_cons_zero, List.set_cons_succ])
        refine take_d (i := 1) (d := 39) (v := ?_) rfl rfl (by kernel_rfl) (by kernel_rfl) (by kernel_rfl) (fun _ _ _ h => h) (Or.inl ⟨by rfl, ?_⟩) (by assumption) ?_
        rotate_left
        · (intro w hSw; (try dsimp only at hSw); go_simp; (try with_reducible rfl))
        (try simp only [Act.put, List.setIfInBounds_toArray, List.set_cons_zero, List.set_cons_succ])
        refine take_d (i := 3) (d := 41) (v := ?_) rfl rfl (by kernel_rfl) (by kernel_rfl) (by kernel_rfl) (fun _ _ _ h => h) (Or.inl ⟨by rfl, ?_⟩) (by assumption) ?_
        rotate_left
        · (intro w hSw; (try dsimp only at hSw); go_simp; (try with_reducible rfl))
        (try simp only [Act.put, List.setIfInBounds_toArray, List.set_cons_zero, List.set_cons_succ])
        refine wpAnyH_ready (rs := [2]) (by kernel_rfl) (by simp) ?_
        refine AllReadyH.cons (o := _) rfl (fun K hK => ?_) AllReadyH.nil
        go_simp
        go_at_call 69
        go_fit (period_any x.y x.i xa x.l.length xc _)
        rintro e w11 ⟨rfl, hb11⟩
        have hx11 : Wb.Ext W1 w11 := Wb.Ext.trans (.drew (.refl _)) hb11
        clear hb11
        refine hK.out _ _ ⟨hx11.keep x0, hx11.keep x1, hx11.keep x2⟩ (fun hHeld => ?_)
        clear hK K
        (try simp only [List.setIfInBounds_toArray, List.set_cons_zero, List.set_cons_succ])
        refine wpAnyH_ready (rs := [4]) (by kernel_rfl) (by simp) ?_
        refine AllReadyH.cons (o := _) rfl (fun K hK => ?_) AllReadyH.nil
        have hm12 := (HMP.out.ext (show Wb.Ext W1 w11 from hx11)).update (by unfold maxLen; omega) (p := (x.y, x.i)) HPK.out x
        obtain ⟨w12, hrun12, hsm12, hg12⟩ := hm12
        have hrun12 : (Instr.mapUpdate 97 (.map (some B)) (.agg #[.int .i64 x.y, .int .i64 x.i]) (.agg #[.int .i64 x.y, .int .i64 x.i, .slice xa x.l.length xc])).run Tryz.prog w11 = .ok () w12 := by rw [← HXV.out]; exact hrun12
        go_simp
        have HSM := Lib.hid hsm12
        have hx0 := grown_keep hg12 (hx11.keep x0) (by omega)
        have hx1' := grown_keep hg12 (hx11.keep x1) (by omega)
        have hx2' := grown_keep hg12 (hx11.keep x2) (by omega)
        have HXE := Lib.hid (show Wb.Ext w w12 from Wb.Ext.grown (HW1.out.trans hx11) hg12 (fun q hq => by injection hq with hq; omega))
        have hsz : B < w12.heap.size := Nat.lt_of_lt_of_le hBl (Nat.le_trans hx11.size hg12.size)
        clear hsm12 hg12 hrun12
        refine hK.out _ _ ⟨hx0, hx1', hx2'⟩ (fun hHeld => ?_)
        clear hK K
        (try simp only [List.setIfInBounds_toArray, List.set_cons_zero, List.set_cons_succ])
        refine wpAnyH_done (by kernel_rfl) ?_ _
        have HSM2 := Lib.hid (show SMapIs w12 B (k + 1) (Wb.findS (L.take (k + 1))) from by rw [← find_take HX.out HNE.out]; exact HSM.out)
        clear hx0 hx1' hx2'
        go_wp2
        go_roundw
        case rel => exact ⟨k + 1, by omega, by go_num, HTN, HSM2, HRN, hsz, HXE.out⟩
        case measure => first | (simp [intOf]; done) | (simp [intOf]; omega)
      · have hC : 0 ≤ C := by
          have hq' : ¬ prLt (z.y, z.i) (x.y, x.i) = true := hq
          rw [← HCM.out, cmpP_val, if_neg hq']; split <;> decide
        have hdC : decide ((0 : Int) ≤ C) = true := by simpa using hC
        have HE := Lib.hid (show Wb.listE L = 8 by rw [HLE.out, HT.out, HDR.out, HPV.out]; exact Wb.tab_order HEE.out (by simpa using hq))
        clear hq
        go_wp2
        refine bodyPost_ret (v := .tuple #[.map none, .int .i64 8]) (by simp [results, Tryz.results46, go_sem]) rfl ⟨_, by rw [HE.out], fun h => by (rw [HE.out] at h; cases h), HW0.out⟩

end Go.Proofs.YtnefdpnolojojaaGreat
