/- Chapter 29: DeltaAll. -/
import Derived.Test.YtdfmlgjemfcmlaaRDel9
import Derived.Test.YtdfmlgjemfcmlaaRDel4
import Derived.Test.YtdfmlgjemfcmlaaDLawNets
import Derived.Deep.RegionHeld3
namespace Go.Proofs.Ytdfmlgjemfcmlaa
open Go.RowKit Go.Lib
set_option maxRecDepth 8000
attribute [local go_sem ↓] Go.wp_at_zero Go.wp_at_succ

theorem row_bound {w : World} {base e s n : Nat} {v : Value} {xs : List Value} (h : w.ownsRow base e s v n xs) : n ≤ 9223372036854775807 := by
  rcases h.2 with ⟨_, h2⟩ | ⟨g, cap, cur, _, _, _, h1, h2, _⟩
  · omega
  · unfold maxLen at h2; omega
def NilOr (v : Value) : Prop := v = .slice none 0 0 ∨ ∃ ad n c, v = .slice (some ad) n c
theorem SlsW.slsS {w : World} {v : Value} {L : List Wb.Sl} (h : SlsW w v L) (k : ∀ s ∈ L, Few s.l) (n : NilOr v) : SlsS w v L := ⟨h.1, fun s hs => ⟨(h.2 s hs).1, (k s hs).sized⟩, sls_src h.1 n⟩
/-- slips in memory, their lines too, of no bound of room -/
def SlT (w : World) (v : Value) (L : List Wb.Sl) : Prop := Tbl 3 slc w v L ∧ (∀ s ∈ L, Lns w s.v s.l ∧ Sized s.l) ∧ L.length ≤ 9223372036854775807
theorem SlT.ext {w w' : World} {v : Value} {L : List Wb.Sl} (h : SlT w v L) (k : Wb.Ext w w') : SlT w' v L := ⟨h.1.ext k, fun s hs => ⟨(h.2.1 s hs).1.ext k, (h.2.1 s hs).2⟩, h.2.2⟩
theorem SlR.slT {base : Nat} {w : World} {v : Value} {R : List Wb.Sl} (h : SlR base w v R) : SlT w v R := ⟨h.sls.1, fun s hs => ⟨(h.2.1 s hs).1.1, (h.2.1 s hs).2⟩, row_bound h.1⟩
theorem SlN.slT {base : Nat} {w : World} {v : Value} {N : Nat} {R : List Wb.Sl} (h : SlN base w v N R) : SlT w v R := ⟨h.tbl, h.2.2.1, by rw [h.2.1]; exact row_bound h.1⟩
theorem ct_at {R S : List Wb.Sl} (h : R.map Wb.ct = S.map Wb.ct) {k : Nat} {s : Wb.Sl} (hs : R[k]? = some s) : ∃ v, S[k]? = some ⟨s.y, s.i, v, s.l⟩ := by
  have h1 : (R.map Wb.ct)[k]? = some (Wb.ct s) := by rw [List.getElem?_map, hs]; rfl
  rw [h, List.getElem?_map] at h1
  rcases ht : S[k]? with _ | ⟨y, i, v, l⟩
  · rw [ht] at h1; cases h1
  · rw [ht] at h1
    simp only [Option.map_some, Wb.ct, Option.some.injEq, Prod.mk.injEq] at h1
    obtain ⟨rfl, rfl, rfl⟩ := h1
    exact ⟨v, rfl⟩
set_option maxHeartbeats 4000000 in
/-- lists of the same contents are the same -/
theorem rsame_any (u v : Value) (R S : List Wb.Sl) (w : World) (hu : SlT w u R) (hv : SlT w v S) (he : R.map Wb.ct = S.map Wb.ct) :
    Calls Try.prog 26 #[u, v] w fun e w' => e = .returned (.bool true) ∧ Wb.Ext w w' := by
  obtain ⟨ua, uc, rfl⟩ := hu.1.shape
  obtain ⟨va, vc, rfl⟩ := hv.1.shape
  have hlen : S.length = R.length := by simpa using (congrArg List.length he).symm
  obtain ⟨n, hn⟩ : ∃ n, R.length = n := ⟨_, rfl⟩
  rw [hlen, hn]
  have hnl : n ≤ 9223372036854775807 := by rw [← hn]; exact hu.2.2
  have HU := Lib.hid hu; clear hu
  have HV := Lib.hid hv; clear hv
  have HE := Lib.hid he; clear he
  have HN := Lib.hid hn
  have HN2 := Lib.hid (hlen.trans hn)
  clear hlen hn
  go_enter Try.func26, Try.ntmps26
  go_wp2_with fail
  go_loopw [5] (fun iv wr => ∃ k : Nat, k ≤ n ∧ iv = .int .i64 k ∧ Wb.Ext w wr) (fun iv _ => n - (intOf iv).toNat)
  case atStart => exact ⟨0, by omega, rfl, by (repeat' (first | (with_reducible assumption) | (with_reducible exact Wb.Ext.refl _) | (with_reducible refine Wb.Ext.drew ?_) | (with_reducible refine Wb.Ext.drewN ?_ _) | (with_reducible refine Wb.Ext.alloc ?_ _) | (with_reducible refine Wb.Ext.trans ?_ (by assumption))))⟩
  case round =>
    obtain ⟨k, hk, rfl, hext⟩ := hrel
    by_cases hlt : k < n
    case neg =>
      obtain rfl : k = n := by omega
      go_wp2
      go_ret
      exact ⟨rfl, by (repeat' (first | (with_reducible assumption) | (with_reducible exact Wb.Ext.refl _) | (with_reducible refine Wb.Ext.drew ?_) | (with_reducible refine Wb.Ext.drewN ?_ _) | (with_reducible refine Wb.Ext.alloc ?_ _) | (with_reducible refine Wb.Ext.trans ?_ (by assumption))))⟩
    obtain ⟨s, hs⟩ := Wb.get_ex (show k < R.length by rw [HN.out]; exact hlt)
    obtain ⟨tv, ht⟩ := ct_at HE.out hs
    obtain ⟨b, off, rfl, hcells⟩ := (HU.out.1.ext hext).opened (by rintro rfl; simp at hs)
    have c0 := hcells _ s hs 0 _ rfl
    have c1 := hcells _ s hs 1 _ rfl
    have c2 := hcells _ s hs 2 _ rfl
    obtain ⟨b2, off2, rfl, hcells2⟩ := (HV.out.1.ext hext).opened (by rintro rfl; simp at ht)
    have e0 := hcells2 _ _ ht 0 _ rfl
    have e1 := hcells2 _ _ ht 1 _ rfl
    have e2 := hcells2 _ _ ht 2 _ rfl
    simp only [Nat.add_zero] at c0 e0
    obtain ⟨hls, hsz⟩ := HU.out.2.1 s (List.mem_of_getElem? hs)
    obtain ⟨hlt2, _⟩ := HV.out.2.1 _ (List.mem_of_getElem? ht)
    obtain ⟨sa, sc, hsv⟩ := hls.shape
    obtain ⟨ta, tc, htv⟩ := hlt2.shape
    simp only at htv
    subst htv
    obtain ⟨sn, hsn⟩ : ∃ n, s.l.length = n := ⟨_, rfl⟩
    rw [hsn] at hsv e2 hlt2
    rw [hsv] at c2 hls
    have hki : (k : Int) < n := by omega
    have HSZ := Lib.hid hsz
    have HLR0 := Lib.hid hls
    have HLS0 := Lib.hid hlt2
    clear hcells hcells2 hs ht hls hlt2 hsz hsv hsn
    obtain ⟨tn, htn⟩ : ∃ n, sn = n := ⟨_, rfl⟩
    rw [htn] at e2 HLS0
    clear htn
    go_upto_region 6 with (fail)
    refine Wb.wp_at fun W0 hW0 => ?_
    have hb0 : Wb.Ext wr W0 := by rw [hW0]; first | exact Wb.Ext.refl _ | (repeat' (first | (with_reducible assumption) | (with_reducible exact Wb.Ext.refl _) | (with_reducible refine Wb.Ext.drew ?_) | (with_reducible refine Wb.Ext.drewN ?_ _) | (with_reducible refine Wb.Ext.alloc ?_ _) | (with_reducible refine Wb.Ext.trans ?_ (by assumption))))
    have c0 := hb0.keep c0
    have c1 := hb0.keep c1
    have c2 := hb0.keep c2
    have e0 := hb0.keep e0
    have e1 := hb0.keep e1
    have e2 := hb0.keep e2
    have HXW := Lib.hid (hext.trans hb0)
    have HLR := Lib.hid (HLR0.out.ext HXW.out)
    have HLS := Lib.hid (HLS0.out.ext HXW.out)
    clear hW0 hb0 HLR0 HLS0
    refine region_start (S := (fun w' => w'.cell? ⟨b, off + k * 3, none⟩ = some (.int .i64 s.y) ∧ w'.cell? ⟨b, off + k * 3 + 1, none⟩ = some (.int .i64 s.i) ∧ w'.cell? ⟨b, off + k * 3 + 2, none⟩ = some (.slice sa sn sc) ∧ w'.cell? ⟨b2, off2 + k * 3, none⟩ = some (.int .i64 s.y) ∧ w'.cell? ⟨b2, off2 + k * 3 + 1, none⟩ = some (.int .i64 s.i) ∧ w'.cell? ⟨b2, off2 + k * 3 + 2, none⟩ = some (.slice ta tn tc))) (n := 10) (l := #[false, false, false, false, false, false, false, false, false, false]) (by kernel_rfl) ⟨c0, c1, c2, e0, e1, e2⟩ (by kernel_rfl) (by kernel_rfl) (fun hHeld => ?_)
    refine take_d (i := 0) (d := 17) (v := ?_) rfl rfl (by kernel_rfl) (by kernel_rfl) (by kernel_rfl) (fun _ _ _ h => h) (Or.inl ⟨by rfl, ?_⟩) (by assumption) ?_
    rotate_left
    · (intro w hSw; (try dsimp only at hSw); go_simp; (try with_reducible rfl))
    (try simp only [Act.put, List.setIfInBounds_toArray, List.set_cons_zero, List.set_cons_succ])
    refine take_d (i := 1) (d := 18) (v := ?_) rfl rfl (by kernel_rfl) (by kernel_rfl) (by kernel_rfl) (fun _ _ _ h => h) (Or.inl ⟨by rfl, ?_⟩) (by assumption) ?_
    rotate_left
    · (intro w hSw; (try dsimp only at hSw); go_simp; (try with_reducible rfl))
    (try simp only [Act.put, List.setIfInBounds_toArray, List.set_cons_zero, List.set_cons_succ])
    refine take_d (i := 2) (d := 19) (v := ?_) rfl rfl (by kernel_rfl) (by kernel_rfl) (by kernel_rfl) (fun _ _ _ h => h) (Or.inl ⟨by rfl, ?_⟩) (by assumption) ?_
    rotate_left
    · (intro w hSw; (try dsimp only at hSw); go_simp; (try with_reducible rfl))
    (try simp only [Act.put, List.setIfInBounds_toArray, List.set_cons_zero, List.set_cons_succ])
    refine take_d (i := 3) (d := 20) (v := ?_) rfl rfl (by kernel_rfl) (by kernel_rfl) (by kernel_rfl) (fun _ _ _ h => h) (Or.inl ⟨by rfl, ?_⟩) (by assumption) ?_
    rotate_left
    · (intro w hSw; (try dsimp only at hSw); go_simp; (try with_reducible rfl))
    (try simp only [Act.put, List.setIfInBounds_toArray, List.set_cons_zero, List.set_cons_succ])
    refine take_d (i := 4) (d := 21) (v := ?_) rfl rfl (by kernel_rfl) (by kernel_rfl) (by kernel_rfl) (fun _ _ _ h => h) (Or.inl ⟨by rfl, ?_⟩) (by assumption) ?_
    rotate_left
    · (intro w hSw; (try dsimp only at hSw); go_simp; (try with_reducible rfl))
    (try simp only [Act.put, List.setIfInBounds_toArray, List.set_cons_zero, List.set_cons_succ])
    refine take_d (i := 5) (d := 22) (v := ?_) rfl rfl (by kernel_rfl) (by kernel_rfl) (by kernel_rfl) (fun _ _ _ h => h) (Or.inl ⟨by rfl, ?_⟩) (by assumption) ?_
    rotate_left
    · (intro w hSw; (try dsimp only at hSw); go_simp; (try with_reducible rfl))
    (try simp only [Act.put, List.setIfInBounds_toArray, List.set_cons_zero, List.set_cons_succ])
    refine take_d (i := 6) (d := 23) (v := ?_) rfl rfl (by kernel_rfl) (by kernel_rfl) (by kernel_rfl) (fun _ _ _ h => h) (Or.inl ⟨by rfl, ?_⟩) (by assumption) ?_
    rotate_left
    · (intro w hSw; (try dsimp only at hSw); go_simp; (try with_reducible rfl))
    (try simp only [Act.put, List.setIfInBounds_toArray, List.set_cons_zero, List.set_cons_succ])
    refine take_d (i := 7) (d := 24) (v := ?_) rfl rfl (by kernel_rfl) (by kernel_rfl) (by kernel_rfl) (fun _ _ _ h => h) (Or.inl ⟨by rfl, ?_⟩) (by assumption) ?_
    rotate_left
    · (intro w hSw; (try dsimp only at hSw); go_simp; (try with_reducible rfl))
    (try simp only [Act.put, List.setIfInBounds_toArray, List.set_cons_zero, List.set_cons_succ])
    refine wpAnyH_ready (rs := [8]) (by kernel_rfl) (by simp) ?_
    refine AllReadyH.cons (o := _) rfl (fun K hK => ?_) AllReadyH.nil
    go_simp
    go_at_call 17
    go_fit (same_eq s.y s.i _ _ s.l _ (HLR.out.ext (.drew (.refl _))) (HLS.out.ext (.drew (.refl _))) HSZ.out)
    rintro e w21 ⟨rfl, hb21⟩
    have hx21 : Wb.Ext W0 w21 := Wb.Ext.trans (.drew (.refl _)) hb21
    clear hb21
    refine hK.out _ _ ⟨hx21.keep c0, hx21.keep c1, hx21.keep c2, hx21.keep e0, hx21.keep e1, hx21.keep e2⟩ (fun hHeld => ?_)
    clear hK K
    (try simp only [List.setIfInBounds_toArray, List.set_cons_zero, List.set_cons_succ])
    refine take_d (i := 9) (d := 26) (v := ?_) rfl rfl (by kernel_rfl) (by kernel_rfl) (by kernel_rfl) (fun _ _ _ h => h) (Or.inl ⟨by rfl, ?_⟩) (by assumption) ?_
    rotate_left
    · (intro w hSw; (try dsimp only at hSw); go_simp; (try with_reducible rfl))
    (try simp only [Act.put, List.setIfInBounds_toArray, List.set_cons_zero, List.set_cons_succ])
    refine wpAnyH_done (by kernel_rfl) ?_ _
    have hxz : Wb.Ext w w21 := HXW.out.trans hx21
    go_wp2
    go_roundw
    case rel => exact ⟨k + 1, by omega, by go_num, by (repeat' (first | (with_reducible assumption) | (with_reducible exact Wb.Ext.refl _) | (with_reducible refine Wb.Ext.drew ?_) | (with_reducible refine Wb.Ext.drewN ?_ _) | (with_reducible refine Wb.Ext.alloc ?_ _) | (with_reducible refine Wb.Ext.trans ?_ (by assumption))))⟩
    case measure => first | (simp [intOf]; done) | (simp [intOf]; omega)
set_option maxHeartbeats 8000000 in
theorem dall_walk (va vb : Value) (A B : List Wb.Sl) (w : World) (hA : SlsW w va A) (hB : SlsW w vb B) (na : NilOr va) (nb : NilOr vb) (la : A.length ≤ 9223372036854775807) (lb : B.length ≤ 9223372036854775807) :
    Calls Try.prog 8 #[va, vb] w fun e w' => e = .returned (.bool true) ∧ Wb.Ext w w' := by
  have HNA := Lib.hid na
  have HNB := Lib.hid nb
  clear na nb
  obtain ⟨aA, aK, rfl⟩ := hA.1.shape
  obtain ⟨bA, bK, rfl⟩ := hB.1.shape
  have HWA := Lib.hid hA
  have HWB := Lib.hid hB
  clear hA hB
  go_enter Try.func8, Try.ntmps8
  go_wp2_with fail
  go_fit (awake29_any _); rintro e w1 ⟨rfl, hx1⟩
  by_cases hmany : A.length < 4097
  case pos =>
    have dm : decide ((A.length : Int) < 4097) = true := by simp; omega
    have dm2 : decide (A.length < 4097) = true := by simpa using hmany
    go_wp2_with fail
    go_fit (rshorts2_any _ A 12 _ (HWA.out.ext (by (repeat' (first | (with_reducible assumption) | (with_reducible exact Wb.Ext.refl _) | (with_reducible refine Wb.Ext.drew ?_) | (with_reducible refine Wb.Ext.drewN ?_ _) | (with_reducible refine Wb.Ext.alloc ?_ _) | (with_reducible refine Wb.Ext.trans ?_ (by assumption)))))) (by decide) la); rintro e w2 ⟨qa, rfl, hqa, hb2⟩
    have hx2 : Wb.Ext w w2 := hx1.trans (Wb.Ext.trans (by (repeat' (first | (with_reducible assumption) | (with_reducible exact Wb.Ext.refl _) | (with_reducible refine Wb.Ext.drew ?_) | (with_reducible refine Wb.Ext.drewN ?_ _) | (with_reducible refine Wb.Ext.alloc ?_ _) | (with_reducible refine Wb.Ext.trans ?_ (by assumption))))) hb2)
    have HQA := Lib.hid hqa
    clear hqa hb2
    cases qa
    · go_wp2
      go_ret
      exact ⟨rfl, by (repeat' (first | (with_reducible assumption) | (with_reducible exact Wb.Ext.refl _) | (with_reducible refine Wb.Ext.drew ?_) | (with_reducible refine Wb.Ext.drewN ?_ _) | (with_reducible refine Wb.Ext.alloc ?_ _) | (with_reducible refine Wb.Ext.trans ?_ (by assumption))))⟩
    have HFA := Lib.hid (HQA.out rfl)
    have la12 : A.length ≤ 12 := HFA.out.1
    go_wp2_with fail
    go_fit (rshorts2_any _ B 12 _ (HWB.out.ext (by (repeat' (first | (with_reducible assumption) | (with_reducible exact Wb.Ext.refl _) | (with_reducible refine Wb.Ext.drew ?_) | (with_reducible refine Wb.Ext.drewN ?_ _) | (with_reducible refine Wb.Ext.alloc ?_ _) | (with_reducible refine Wb.Ext.trans ?_ (by assumption)))))) (by decide) lb); rintro e w3 ⟨qb, rfl, hqb, hb3⟩
    have hx3 : Wb.Ext w w3 := hx2.trans (Wb.Ext.trans (by (repeat' (first | (with_reducible assumption) | (with_reducible exact Wb.Ext.refl _) | (with_reducible refine Wb.Ext.drew ?_) | (with_reducible refine Wb.Ext.drewN ?_ _) | (with_reducible refine Wb.Ext.alloc ?_ _) | (with_reducible refine Wb.Ext.trans ?_ (by assumption))))) hb3)
    have HQB := Lib.hid hqb
    clear hqb hb3
    cases qb
    · go_wp2
      go_ret
      exact ⟨rfl, by (repeat' (first | (with_reducible assumption) | (with_reducible exact Wb.Ext.refl _) | (with_reducible refine Wb.Ext.drew ?_) | (with_reducible refine Wb.Ext.drewN ?_ _) | (with_reducible refine Wb.Ext.alloc ?_ _) | (with_reducible refine Wb.Ext.trans ?_ (by assumption))))⟩
    have HFB := Lib.hid (HQB.out rfl)
    have d42 : decide ((4200 : Int) < (A.length : Int)) = false := by simp; omega
    have HBA := Lib.hid (HWA.out.slsB HFA.out.2)
    have HBB := Lib.hid (HWB.out.slsB HFB.out.2)
    have HSA : Hid (A.length ≤ 4096 → SlsS w _ A) := Lib.hid (fun _ => HWA.out.slsS HFA.out.2 HNA.out)
    have HSB : Hid (B.length ≤ 4096 → SlsS w _ B) := Lib.hid (fun _ => HWB.out.slsS HFB.out.2 HNB.out)
    clear HQA HQB hx1 hx2
    go_wp2_with fail
    go_fit (dall_any _ _ A B _ (HBA.out.ext (by (repeat' (first | (with_reducible assumption) | (with_reducible exact Wb.Ext.refl _) | (with_reducible refine Wb.Ext.drew ?_) | (with_reducible refine Wb.Ext.drewN ?_ _) | (with_reducible refine Wb.Ext.alloc ?_ _) | (with_reducible refine Wb.Ext.trans ?_ (by assumption)))))) (HBB.out.ext (by (repeat' (first | (with_reducible assumption) | (with_reducible exact Wb.Ext.refl _) | (with_reducible refine Wb.Ext.drew ?_) | (with_reducible refine Wb.Ext.drewN ?_ _) | (with_reducible refine Wb.Ext.alloc ?_ _) | (with_reducible refine Wb.Ext.trans ?_ (by assumption)))))) la lb); rintro e w4 ⟨x, E1, rfl, R1, h1⟩
    obtain ⟨xa, xc, rfl⟩ := h1.row.shape
    have HV1 := Lib.hid h1.val
    have HR1 := Lib.hid h1.row.slT
    have hx4 : Wb.Ext w w4 := hx3.trans (Wb.Ext.trans (by (repeat' (first | (with_reducible assumption) | (with_reducible exact Wb.Ext.refl _) | (with_reducible refine Wb.Ext.drew ?_) | (with_reducible refine Wb.Ext.drewN ?_ _) | (with_reducible refine Wb.Ext.alloc ?_ _) | (with_reducible refine Wb.Ext.trans ?_ (by assumption))))) h1.ext)
    clear h1
    go_wp2_with fail
    go_fit (rall_any _ _ A B _ (HBA.out.ext (by (repeat' (first | (with_reducible assumption) | (with_reducible exact Wb.Ext.refl _) | (with_reducible refine Wb.Ext.drew ?_) | (with_reducible refine Wb.Ext.drewN ?_ _) | (with_reducible refine Wb.Ext.alloc ?_ _) | (with_reducible refine Wb.Ext.trans ?_ (by assumption)))))) (HBB.out.ext (by (repeat' (first | (with_reducible assumption) | (with_reducible exact Wb.Ext.refl _) | (with_reducible refine Wb.Ext.drew ?_) | (with_reducible refine Wb.Ext.drewN ?_ _) | (with_reducible refine Wb.Ext.alloc ?_ _) | (with_reducible refine Wb.Ext.trans ?_ (by assumption)))))) (fun h => (HSA.out h).ext (by (repeat' (first | (with_reducible assumption) | (with_reducible exact Wb.Ext.refl _) | (with_reducible refine Wb.Ext.drew ?_) | (with_reducible refine Wb.Ext.drewN ?_ _) | (with_reducible refine Wb.Ext.alloc ?_ _) | (with_reducible refine Wb.Ext.trans ?_ (by assumption)))))) (fun h => (HSB.out h).ext (by (repeat' (first | (with_reducible assumption) | (with_reducible exact Wb.Ext.refl _) | (with_reducible refine Wb.Ext.drew ?_) | (with_reducible refine Wb.Ext.drewN ?_ _) | (with_reducible refine Wb.Ext.alloc ?_ _) | (with_reducible refine Wb.Ext.trans ?_ (by assumption)))))) la lb); rintro e w5 ⟨y, E2, rfl, R2, h2⟩
    obtain ⟨ya, yc, rfl⟩ := h2.row.shape
    have hb5 : Wb.Ext w4 w5 := Wb.Ext.trans (by (repeat' (first | (with_reducible assumption) | (with_reducible exact Wb.Ext.refl _) | (with_reducible refine Wb.Ext.drew ?_) | (with_reducible refine Wb.Ext.drewN ?_ _) | (with_reducible refine Wb.Ext.alloc ?_ _) | (with_reducible refine Wb.Ext.trans ?_ (by assumption))))) h2.ext
    have HV2 := Lib.hid h2.val
    have HR2 := Lib.hid h2.row.slT
    have hx5 : Wb.Ext w w5 := hx4.trans hb5
    replace HR1 := Lib.hid (HR1.out.ext hb5)
    clear h2 hb5
    go_wp2_with fail
    go_fit (dadd_any _ _ A B _ (HBA.out.ext (by (repeat' (first | (with_reducible assumption) | (with_reducible exact Wb.Ext.refl _) | (with_reducible refine Wb.Ext.drew ?_) | (with_reducible refine Wb.Ext.drewN ?_ _) | (with_reducible refine Wb.Ext.alloc ?_ _) | (with_reducible refine Wb.Ext.trans ?_ (by assumption)))))) (HBB.out.ext (by (repeat' (first | (with_reducible assumption) | (with_reducible exact Wb.Ext.refl _) | (with_reducible refine Wb.Ext.drew ?_) | (with_reducible refine Wb.Ext.drewN ?_ _) | (with_reducible refine Wb.Ext.alloc ?_ _) | (with_reducible refine Wb.Ext.trans ?_ (by assumption)))))) la lb); rintro e w6 ⟨u, E3, rfl, R3, h3⟩
    obtain ⟨ua, uc, rfl⟩ := h3.row.shape
    have hb6 : Wb.Ext w5 w6 := Wb.Ext.trans (by (repeat' (first | (with_reducible assumption) | (with_reducible exact Wb.Ext.refl _) | (with_reducible refine Wb.Ext.drew ?_) | (with_reducible refine Wb.Ext.drewN ?_ _) | (with_reducible refine Wb.Ext.alloc ?_ _) | (with_reducible refine Wb.Ext.trans ?_ (by assumption))))) h3.ext
    have HV3 := Lib.hid h3.val
    have HR3 := Lib.hid h3.row.slT
    have hx6 : Wb.Ext w w6 := hx5.trans hb6
    replace HR1 := Lib.hid (HR1.out.ext hb6)
    replace HR2 := Lib.hid (HR2.out.ext hb6)
    clear h3 hb6
    go_wp2_with fail
    go_fit (rdeladd_any _ _ A B _ (HBA.out.ext (by (repeat' (first | (with_reducible assumption) | (with_reducible exact Wb.Ext.refl _) | (with_reducible refine Wb.Ext.drew ?_) | (with_reducible refine Wb.Ext.drewN ?_ _) | (with_reducible refine Wb.Ext.alloc ?_ _) | (with_reducible refine Wb.Ext.trans ?_ (by assumption)))))) (HBB.out.ext (by (repeat' (first | (with_reducible assumption) | (with_reducible exact Wb.Ext.refl _) | (with_reducible refine Wb.Ext.drew ?_) | (with_reducible refine Wb.Ext.drewN ?_ _) | (with_reducible refine Wb.Ext.alloc ?_ _) | (with_reducible refine Wb.Ext.trans ?_ (by assumption)))))) (fun h => (HSA.out h).ext (by (repeat' (first | (with_reducible assumption) | (with_reducible exact Wb.Ext.refl _) | (with_reducible refine Wb.Ext.drew ?_) | (with_reducible refine Wb.Ext.drewN ?_ _) | (with_reducible refine Wb.Ext.alloc ?_ _) | (with_reducible refine Wb.Ext.trans ?_ (by assumption)))))) (fun h => (HSB.out h).ext (by (repeat' (first | (with_reducible assumption) | (with_reducible exact Wb.Ext.refl _) | (with_reducible refine Wb.Ext.drew ?_) | (with_reducible refine Wb.Ext.drewN ?_ _) | (with_reducible refine Wb.Ext.alloc ?_ _) | (with_reducible refine Wb.Ext.trans ?_ (by assumption)))))) la lb); rintro e w7 ⟨v, E4, rfl, N4, R4, h4⟩
    obtain ⟨v4a, v4c, rfl⟩ := h4.row.shape
    have hb7 : Wb.Ext w6 w7 := Wb.Ext.trans (by (repeat' (first | (with_reducible assumption) | (with_reducible exact Wb.Ext.refl _) | (with_reducible refine Wb.Ext.drew ?_) | (with_reducible refine Wb.Ext.drewN ?_ _) | (with_reducible refine Wb.Ext.alloc ?_ _) | (with_reducible refine Wb.Ext.trans ?_ (by assumption))))) h4.ext
    have HV4 := Lib.hid h4.val
    have HR4 := Lib.hid h4.row.slT
    have hx7 : Wb.Ext w w7 := hx6.trans hb7
    replace HR1 := Lib.hid (HR1.out.ext hb7)
    replace HR2 := Lib.hid (HR2.out.ext hb7)
    replace HR3 := Lib.hid (HR3.out.ext hb7)
    clear h4 hb7
    obtain ⟨e12, hm12⟩ : E2 = E1 ∧ R1.map Wb.ct = R2.map Wb.ct := by
      have := HV1.out.symm.trans HV2.out
      simp only [Prod.mk.injEq] at this
      exact ⟨this.1.symm, this.2⟩
    obtain ⟨e34, hm34⟩ : E4 = E3 ∧ R3.map Wb.ct = R4.map Wb.ct := by
      have := HV3.out.symm.trans HV4.out
      simp only [Prod.mk.injEq] at this
      exact ⟨this.1.symm, this.2⟩
    subst e12 e34
    have HM12 := Lib.hid hm12
    have HM34 := Lib.hid hm34
    clear hm12 hm34 hx4 hx5 hx6
    go_wp2_with fail
    go_fit (rsame_any _ _ R1 R2 _ (HR1.out.ext (by (repeat' (first | (with_reducible assumption) | (with_reducible exact Wb.Ext.refl _) | (with_reducible refine Wb.Ext.drew ?_) | (with_reducible refine Wb.Ext.drewN ?_ _) | (with_reducible refine Wb.Ext.alloc ?_ _) | (with_reducible refine Wb.Ext.trans ?_ (by assumption)))))) (HR2.out.ext (by (repeat' (first | (with_reducible assumption) | (with_reducible exact Wb.Ext.refl _) | (with_reducible refine Wb.Ext.drew ?_) | (with_reducible refine Wb.Ext.drewN ?_ _) | (with_reducible refine Wb.Ext.alloc ?_ _) | (with_reducible refine Wb.Ext.trans ?_ (by assumption)))))) HM12.out); rintro e w8 ⟨rfl, hb8⟩
    have hb8 : Wb.Ext w7 w8 := Wb.Ext.trans (by (repeat' (first | (with_reducible assumption) | (with_reducible exact Wb.Ext.refl _) | (with_reducible refine Wb.Ext.drew ?_) | (with_reducible refine Wb.Ext.drewN ?_ _) | (with_reducible refine Wb.Ext.alloc ?_ _) | (with_reducible refine Wb.Ext.trans ?_ (by assumption))))) hb8
    have hx8 : Wb.Ext w w8 := hx7.trans hb8
    replace HR3 := Lib.hid (HR3.out.ext hb8)
    replace HR4 := Lib.hid (HR4.out.ext hb8)
    clear hb8
    go_wp2_with fail
    go_fit (rsame_any _ _ R3 R4 _ (HR3.out.ext (by (repeat' (first | (with_reducible assumption) | (with_reducible exact Wb.Ext.refl _) | (with_reducible refine Wb.Ext.drew ?_) | (with_reducible refine Wb.Ext.drewN ?_ _) | (with_reducible refine Wb.Ext.alloc ?_ _) | (with_reducible refine Wb.Ext.trans ?_ (by assumption)))))) (HR4.out.ext (by (repeat' (first | (with_reducible assumption) | (with_reducible exact Wb.Ext.refl _) | (with_reducible refine Wb.Ext.drew ?_) | (with_reducible refine Wb.Ext.drewN ?_ _) | (with_reducible refine Wb.Ext.alloc ?_ _) | (with_reducible refine Wb.Ext.trans ?_ (by assumption)))))) HM34.out); rintro e w9 ⟨rfl, hb9⟩
    have hx9 : Wb.Ext w w9 := hx8.trans (Wb.Ext.trans (by (repeat' (first | (with_reducible assumption) | (with_reducible exact Wb.Ext.refl _) | (with_reducible refine Wb.Ext.drew ?_) | (with_reducible refine Wb.Ext.drewN ?_ _) | (with_reducible refine Wb.Ext.alloc ?_ _) | (with_reducible refine Wb.Ext.trans ?_ (by assumption))))) hb9)
    clear hb9
    go_wp2
    go_ret
    exact ⟨rfl, by (repeat' (first | (with_reducible assumption) | (with_reducible exact Wb.Ext.refl _) | (with_reducible refine Wb.Ext.drew ?_) | (with_reducible refine Wb.Ext.drewN ?_ _) | (with_reducible refine Wb.Ext.alloc ?_ _) | (with_reducible refine Wb.Ext.trans ?_ (by assumption))))⟩
  have dm : decide ((A.length : Int) < 4097) = false := by simp; omega
  have dm2 : decide (A.length < 4097) = false := by simpa using hmany
  go_wp2_with fail
  go_fit (rshorts2_any _ B 12 _ (HWB.out.ext (by (repeat' (first | (with_reducible assumption) | (with_reducible exact Wb.Ext.refl _) | (with_reducible refine Wb.Ext.drew ?_) | (with_reducible refine Wb.Ext.drewN ?_ _) | (with_reducible refine Wb.Ext.alloc ?_ _) | (with_reducible refine Wb.Ext.trans ?_ (by assumption)))))) (by decide) lb); rintro e w3 ⟨qb, rfl, hqb, hb3⟩
  have hx3 : Wb.Ext w w3 := hx1.trans (Wb.Ext.trans (by (repeat' (first | (with_reducible assumption) | (with_reducible exact Wb.Ext.refl _) | (with_reducible refine Wb.Ext.drew ?_) | (with_reducible refine Wb.Ext.drewN ?_ _) | (with_reducible refine Wb.Ext.alloc ?_ _) | (with_reducible refine Wb.Ext.trans ?_ (by assumption))))) hb3)
  have HQB := Lib.hid hqb
  clear hqb hb3
  cases qb
  · go_wp2
    go_ret
    exact ⟨rfl, by (repeat' (first | (with_reducible assumption) | (with_reducible exact Wb.Ext.refl _) | (with_reducible refine Wb.Ext.drew ?_) | (with_reducible refine Wb.Ext.drewN ?_ _) | (with_reducible refine Wb.Ext.alloc ?_ _) | (with_reducible refine Wb.Ext.trans ?_ (by assumption))))⟩
  have HFB := Lib.hid (HQB.out rfl)
  by_cases hg : 4200 < A.length
  · have d42 : decide ((4200 : Int) < (A.length : Int)) = true := by simp; omega
    have d43 : decide (4200 < A.length) = true := by simpa using hg
    go_wp2
    go_ret
    exact ⟨rfl, by (repeat' (first | (with_reducible assumption) | (with_reducible exact Wb.Ext.refl _) | (with_reducible refine Wb.Ext.drew ?_) | (with_reducible refine Wb.Ext.drewN ?_ _) | (with_reducible refine Wb.Ext.alloc ?_ _) | (with_reducible refine Wb.Ext.trans ?_ (by assumption))))⟩
  have d42 : decide ((4200 : Int) < (A.length : Int)) = false := by simp; omega
  have d43 : decide (4200 < A.length) = false := by simpa using hg
  have HBA : Hid (SlsB w _ A) := Lib.hid ⟨HWA.out.1, fun h => absurd h (by omega)⟩
  have HBB := Lib.hid (HWB.out.slsB HFB.out.2)
  have HSA : Hid (A.length ≤ 4096 → SlsS w (.slice aA A.length aK) A) := Lib.hid (fun h => absurd h (by omega))
  have HSB : Hid (B.length ≤ 4096 → SlsS w _ B) := Lib.hid (fun _ => HWB.out.slsS HFB.out.2 HNB.out)
  clear HQB hx1
  go_wp2_with fail
  go_fit (dall_any _ _ A B _ (HBA.out.ext (by (repeat' (first | (with_reducible assumption) | (with_reducible exact Wb.Ext.refl _) | (with_reducible refine Wb.Ext.drew ?_) | (with_reducible refine Wb.Ext.drewN ?_ _) | (with_reducible refine Wb.Ext.alloc ?_ _) | (with_reducible refine Wb.Ext.trans ?_ (by assumption)))))) (HBB.out.ext (by (repeat' (first | (with_reducible assumption) | (with_reducible exact Wb.Ext.refl _) | (with_reducible refine Wb.Ext.drew ?_) | (with_reducible refine Wb.Ext.drewN ?_ _) | (with_reducible refine Wb.Ext.alloc ?_ _) | (with_reducible refine Wb.Ext.trans ?_ (by assumption)))))) la lb); rintro e w4 ⟨x, E1, rfl, R1, h1⟩
  obtain ⟨xa, xc, rfl⟩ := h1.row.shape
  have HV1 := Lib.hid h1.val
  have HR1 := Lib.hid h1.row.slT
  have hx4 : Wb.Ext w w4 := hx3.trans (Wb.Ext.trans (by (repeat' (first | (with_reducible assumption) | (with_reducible exact Wb.Ext.refl _) | (with_reducible refine Wb.Ext.drew ?_) | (with_reducible refine Wb.Ext.drewN ?_ _) | (with_reducible refine Wb.Ext.alloc ?_ _) | (with_reducible refine Wb.Ext.trans ?_ (by assumption))))) h1.ext)
  clear h1
  go_wp2_with fail
  go_fit (rall_any _ _ A B _ (HBA.out.ext (by (repeat' (first | (with_reducible assumption) | (with_reducible exact Wb.Ext.refl _) | (with_reducible refine Wb.Ext.drew ?_) | (with_reducible refine Wb.Ext.drewN ?_ _) | (with_reducible refine Wb.Ext.alloc ?_ _) | (with_reducible refine Wb.Ext.trans ?_ (by assumption)))))) (HBB.out.ext (by (repeat' (first | (with_reducible assumption) | (with_reducible exact Wb.Ext.refl _) | (with_reducible refine Wb.Ext.drew ?_) | (with_reducible refine Wb.Ext.drewN ?_ _) | (with_reducible refine Wb.Ext.alloc ?_ _) | (with_reducible refine Wb.Ext.trans ?_ (by assumption)))))) (fun h => (HSA.out h).ext (by (repeat' (first | (with_reducible assumption) | (with_reducible exact Wb.Ext.refl _) | (with_reducible refine Wb.Ext.drew ?_) | (with_reducible refine Wb.Ext.drewN ?_ _) | (with_reducible refine Wb.Ext.alloc ?_ _) | (with_reducible refine Wb.Ext.trans ?_ (by assumption)))))) (fun h => (HSB.out h).ext (by (repeat' (first | (with_reducible assumption) | (with_reducible exact Wb.Ext.refl _) | (with_reducible refine Wb.Ext.drew ?_) | (with_reducible refine Wb.Ext.drewN ?_ _) | (with_reducible refine Wb.Ext.alloc ?_ _) | (with_reducible refine Wb.Ext.trans ?_ (by assumption)))))) la lb); rintro e w5 ⟨y, E2, rfl, R2, h2⟩
  obtain ⟨ya, yc, rfl⟩ := h2.row.shape
  have hb5 : Wb.Ext w4 w5 := Wb.Ext.trans (by (repeat' (first | (with_reducible assumption) | (with_reducible exact Wb.Ext.refl _) | (with_reducible refine Wb.Ext.drew ?_) | (with_reducible refine Wb.Ext.drewN ?_ _) | (with_reducible refine Wb.Ext.alloc ?_ _) | (with_reducible refine Wb.Ext.trans ?_ (by assumption))))) h2.ext
  have HV2 := Lib.hid h2.val
  have HR2 := Lib.hid h2.row.slT
  have hx5 : Wb.Ext w w5 := hx4.trans hb5
  replace HR1 := Lib.hid (HR1.out.ext hb5)
  clear h2 hb5
  go_wp2_with fail
  go_fit (dadd_any _ _ A B _ (HBA.out.ext (by (repeat' (first | (with_reducible assumption) | (with_reducible exact Wb.Ext.refl _) | (with_reducible refine Wb.Ext.drew ?_) | (with_reducible refine Wb.Ext.drewN ?_ _) | (with_reducible refine Wb.Ext.alloc ?_ _) | (with_reducible refine Wb.Ext.trans ?_ (by assumption)))))) (HBB.out.ext (by (repeat' (first | (with_reducible assumption) | (with_reducible exact Wb.Ext.refl _) | (with_reducible refine Wb.Ext.drew ?_) | (with_reducible refine Wb.Ext.drewN ?_ _) | (with_reducible refine Wb.Ext.alloc ?_ _) | (with_reducible refine Wb.Ext.trans ?_ (by assumption)))))) la lb); rintro e w6 ⟨u, E3, rfl, R3, h3⟩
  obtain ⟨ua, uc, rfl⟩ := h3.row.shape
  have hb6 : Wb.Ext w5 w6 := Wb.Ext.trans (by (repeat' (first | (with_reducible assumption) | (with_reducible exact Wb.Ext.refl _) | (with_reducible refine Wb.Ext.drew ?_) | (with_reducible refine Wb.Ext.drewN ?_ _) | (with_reducible refine Wb.Ext.alloc ?_ _) | (with_reducible refine Wb.Ext.trans ?_ (by assumption))))) h3.ext
  have HV3 := Lib.hid h3.val
  have HR3 := Lib.hid h3.row.slT
  have hx6 : Wb.Ext w w6 := hx5.trans hb6
  replace HR1 := Lib.hid (HR1.out.ext hb6)
  replace HR2 := Lib.hid (HR2.out.ext hb6)
  clear h3 hb6
  go_wp2_with fail
  go_fit (rdeladd_any _ _ A B _ (HBA.out.ext (by (repeat' (first | (with_reducible assumption) | (with_reducible exact Wb.Ext.refl _) | (with_reducible refine Wb.Ext.drew ?_) | (with_reducible refine Wb.Ext.drewN ?_ _) | (with_reducible refine Wb.Ext.alloc ?_ _) | (with_reducible refine Wb.Ext.trans ?_ (by assumption)))))) (HBB.out.ext (by (repeat' (first | (with_reducible assumption) | (with_reducible exact Wb.Ext.refl _) | (with_reducible refine Wb.Ext.drew ?_) | (with_reducible refine Wb.Ext.drewN ?_ _) | (with_reducible refine Wb.Ext.alloc ?_ _) | (with_reducible refine Wb.Ext.trans ?_ (by assumption)))))) (fun h => (HSA.out h).ext (by (repeat' (first | (with_reducible assumption) | (with_reducible exact Wb.Ext.refl _) | (with_reducible refine Wb.Ext.drew ?_) | (with_reducible refine Wb.Ext.drewN ?_ _) | (with_reducible refine Wb.Ext.alloc ?_ _) | (with_reducible refine Wb.Ext.trans ?_ (by assumption)))))) (fun h => (HSB.out h).ext (by (repeat' (first | (with_reducible assumption) | (with_reducible exact Wb.Ext.refl _) | (with_reducible refine Wb.Ext.drew ?_) | (with_reducible refine Wb.Ext.drewN ?_ _) | (with_reducible refine Wb.Ext.alloc ?_ _) | (with_reducible refine Wb.Ext.trans ?_ (by assumption)))))) la lb); rintro e w7 ⟨v, E4, rfl, N4, R4, h4⟩
  obtain ⟨v4a, v4c, rfl⟩ := h4.row.shape
  have hb7 : Wb.Ext w6 w7 := Wb.Ext.trans (by (repeat' (first | (with_reducible assumption) | (with_reducible exact Wb.Ext.refl _) | (with_reducible refine Wb.Ext.drew ?_) | (with_reducible refine Wb.Ext.drewN ?_ _) | (with_reducible refine Wb.Ext.alloc ?_ _) | (with_reducible refine Wb.Ext.trans ?_ (by assumption))))) h4.ext
  have HV4 := Lib.hid h4.val
  have HR4 := Lib.hid h4.row.slT
  have hx7 : Wb.Ext w w7 := hx6.trans hb7
  replace HR1 := Lib.hid (HR1.out.ext hb7)
  replace HR2 := Lib.hid (HR2.out.ext hb7)
  replace HR3 := Lib.hid (HR3.out.ext hb7)
  clear h4 hb7
  obtain ⟨e12, hm12⟩ : E2 = E1 ∧ R1.map Wb.ct = R2.map Wb.ct := by
    have := HV1.out.symm.trans HV2.out
    simp only [Prod.mk.injEq] at this
    exact ⟨this.1.symm, this.2⟩
  obtain ⟨e34, hm34⟩ : E4 = E3 ∧ R3.map Wb.ct = R4.map Wb.ct := by
    have := HV3.out.symm.trans HV4.out
    simp only [Prod.mk.injEq] at this
    exact ⟨this.1.symm, this.2⟩
  subst e12 e34
  have HM12 := Lib.hid hm12
  have HM34 := Lib.hid hm34
  clear hm12 hm34 hx4 hx5 hx6
  go_wp2_with fail
  go_fit (rsame_any _ _ R1 R2 _ (HR1.out.ext (by (repeat' (first | (with_reducible assumption) | (with_reducible exact Wb.Ext.refl _) | (with_reducible refine Wb.Ext.drew ?_) | (with_reducible refine Wb.Ext.drewN ?_ _) | (with_reducible refine Wb.Ext.alloc ?_ _) | (with_reducible refine Wb.Ext.trans ?_ (by assumption)))))) (HR2.out.ext (by (repeat' (first | (with_reducible assumption) | (with_reducible exact Wb.Ext.refl _) | (with_reducible refine Wb.Ext.drew ?_) | (with_reducible refine Wb.Ext.drewN ?_ _) | (with_reducible refine Wb.Ext.alloc ?_ _) | (with_reducible refine Wb.Ext.trans ?_ (by assumption)))))) HM12.out); rintro e w8 ⟨rfl, hb8⟩
  have hb8 : Wb.Ext w7 w8 := Wb.Ext.trans (by (repeat' (first | (with_reducible assumption) | (with_reducible exact Wb.Ext.refl _) | (with_reducible refine Wb.Ext.drew ?_) | (with_reducible refine Wb.Ext.drewN ?_ _) | (with_reducible refine Wb.Ext.alloc ?_ _) | (with_reducible refine Wb.Ext.trans ?_ (by assumption))))) hb8
  have hx8 : Wb.Ext w w8 := hx7.trans hb8
  replace HR3 := Lib.hid (HR3.out.ext hb8)
  replace HR4 := Lib.hid (HR4.out.ext hb8)
  clear hb8
  go_wp2_with fail
  go_fit (rsame_any _ _ R3 R4 _ (HR3.out.ext (by (repeat' (first | (with_reducible assumption) | (with_reducible exact Wb.Ext.refl _) | (with_reducible refine Wb.Ext.drew ?_) | (with_reducible refine Wb.Ext.drewN ?_ _) | (with_reducible refine Wb.Ext.alloc ?_ _) | (with_reducible refine Wb.Ext.trans ?_ (by assumption)))))) (HR4.out.ext (by (repeat' (first | (with_reducible assumption) | (with_reducible exact Wb.Ext.refl _) | (with_reducible refine Wb.Ext.drew ?_) | (with_reducible refine Wb.Ext.drewN ?_ _) | (with_reducible refine Wb.Ext.alloc ?_ _) | (with_reducible refine Wb.Ext.trans ?_ (by assumption)))))) HM34.out); rintro e w9 ⟨rfl, hb9⟩
  have hx9 : Wb.Ext w w9 := hx8.trans (Wb.Ext.trans (by (repeat' (first | (with_reducible assumption) | (with_reducible exact Wb.Ext.refl _) | (with_reducible refine Wb.Ext.drew ?_) | (with_reducible refine Wb.Ext.drewN ?_ _) | (with_reducible refine Wb.Ext.alloc ?_ _) | (with_reducible refine Wb.Ext.trans ?_ (by assumption))))) hb9)
  clear hb9
  go_wp2
  go_ret
  exact ⟨rfl, by (repeat' (first | (with_reducible assumption) | (with_reducible exact Wb.Ext.refl _) | (with_reducible refine Wb.Ext.drew ?_) | (with_reducible refine Wb.Ext.drewN ?_ _) | (with_reducible refine Wb.Ext.alloc ?_ _) | (with_reducible refine Wb.Ext.trans ?_ (by assumption))))⟩

end Go.Proofs.Ytdfmlgjemfcmlaa
