/- Mod5 -/
import Derived.Test.YtnefdpnolojojaaGreatMod5a
namespace Go.Proofs.YtnefdpnolojojaaGreat
open Go.RowKit Go.Sort Go.Lib Go.Maps
set_option maxRecDepth 8000
attribute [local go_sem ↓] Go.wp_at_zero Go.wp_at_succ
def prvP (L : List Wb.Sl) (t : Nat) : Option (Int × Int) := if t = 0 then none else (L[t - 1]?).map Wb.perS
theorem prvP_next {L : List Wb.Sl} {t : Nat} {s : Wb.Sl} (h : L[t]? = some s) : prvP L (t + 1) = some (Wb.perS s) := by
 unfold prvP
 rw [if_neg (by omega), show t + 1 - 1 = t by omega, h]; rfl
set_option maxHeartbeats 16000000 in
theorem mhands31_any (y i k : Int) (ha : Option Addr) (hn hcap M n : Nat) (f : Int → Option Value) (S : Int → List Wb.Ct) (hs : List Int) (w : World) (hm : SMapAt w (some M) n f S) (hnn : n ≤ 100000) (hk : KeysAre kU32 f hs) (hr : hs.Pairwise (· ≤ ·)) (hS : ∀ p, (S p).length ≤ 4096) :
  Calls Tryz.prog 51 #[.agg #[.int .i64 y, .int .i64 i, .int .i64 k, .slice ha hn hcap], .map (some M)] w fun e w' => e = .returned (.int .i64 (Wb.handsE (y, i) S hs)) ∧ Wb.Ext w w' := by
 have HM := Lib.hid hm
 have HK := Lib.hid hk
 have HR := Lib.hid hr
 have HS := Lib.hid hS
 clear hm hk hr hS
 obtain ⟨Z, hZ⟩ : ∃ Z, Wb.handsE (y, i) S hs = Z := ⟨_, rfl⟩
 have HZ := Lib.hid hZ
 rw [hZ]
 clear hZ
 go_enter Tryz.func51, Tryz.ntmps51
 go_upto_region 1 with (fail)
 refine Wb.wp_at fun W0 hW0 => ?_
 obtain ⟨X, hX⟩ : ∃ X, w.heap.size = X := ⟨_, rfl⟩
 have x0 : W0.cell? ⟨X, 0, none⟩ = some (.int .i64 y) := by rw [hW0, ← hX]; simp [go_sem]
 have x1 : W0.cell? ⟨X, 1, none⟩ = some (.int .i64 i) := by rw [hW0, ← hX]; simp [go_sem]
 have HX0 := Lib.hid (show Wb.Ext w W0 by rw [hW0]; (repeat' (first | (with_reducible assumption) | (with_reducible exact Wb.Ext.refl _) | (with_reducible refine Wb.Ext.drew ?_) | (with_reducible refine Wb.Ext.drewN ?_ _) | (with_reducible refine Wb.Ext.alloc ?_ _) | (with_reducible refine Wb.Ext.trans ?_ (by assumption)))))
 have HXC := Lib.hid (And.intro x0 x1)
 rw [hX]
 clear hW0 hX x0 x1
 go_wp2_with fail
 go_fit (persons31_any (some M) none n 0 (.slice none 0 0) (.slice none 0 0) f (fun _ => none) _ (HM.out.map.ext (HX0.out.trans (by (repeat' (first | (with_reducible assumption) | (with_reducible exact Wb.Ext.refl _) | (with_reducible refine Wb.Ext.drew ?_) | (with_reducible refine Wb.Ext.drewN ?_ _) | (with_reducible refine Wb.Ext.alloc ?_ _) | (with_reducible refine Wb.Ext.trans ?_ (by assumption))))))) (fun _ => rfl) hnn (by omega)); rintro e w1 ⟨pv, ss, rfl, hss, hsr, hsm, hsl, hx1⟩
 have hse : ss = hs := Wb.rise_ext hsr (Wb.up_lt HK.out.1 HR.out) (fun p => by rw [hsm, HK.out.2]; simp)
 subst hse
 obtain ⟨za, zc, rfl⟩ := hss.shape
 have HSS := Lib.hid hss.tbl
 have HX1 := Lib.hid (show Wb.Ext W0 w1 by (repeat' (first | (with_reducible assumption) | (with_reducible exact Wb.Ext.refl _) | (with_reducible refine Wb.Ext.drew ?_) | (with_reducible refine Wb.Ext.drewN ?_ _) | (with_reducible refine Wb.Ext.alloc ?_ _) | (with_reducible refine Wb.Ext.trans ?_ (by assumption)))))
 clear hss hsr hsm hx1
 go_wp2_with fail
 go_loopw [6] (fun iv wr => ∃ j : Nat, j ≤ ss.length ∧ iv = .int .i64 j ∧ Hid (Z = Wb.handsE (y, i) S (ss.drop j)) ∧ Hid (Wb.Ext w1 wr)) (fun iv _ => ss.length - (intOf iv).toNat)
 case atStart => exact ⟨0, Nat.zero_le _, rfl, Lib.hid HZ.out.symm, Lib.hid (.refl _)⟩
 case round =>
  obtain ⟨j, hj, rfl, HD, HX⟩ := hrel
  obtain ⟨wO, hwz⟩ : ∃ z, z = wr := ⟨_, rfl⟩
  subst hwz
  have HXW := Lib.hid (HX0.out.trans (HX1.out.trans HX.out))
  by_cases hlt : j < ss.length
  case neg =>
   obtain rfl : j = ss.length := by omega
   have HF := Lib.hid (show Z = 0 by rw [HD.out, List.drop_length]; rfl)
   have d1 : decide ((ss.length : Int) < (ss.length : Int)) = false := by simp
   have n1 : ¬ (ss.length : Int) < (ss.length : Int) := by omega
   clear hlt
   go_wp2
   refine bodyPost_ret (v := .int .i64 0) (by simp [results, Tryz.results51, go_sem]) rfl ⟨by rw [HF.out], HXW.out⟩
  obtain ⟨p, hp⟩ := Wb.get_ex hlt
  have hpo : kU32.ok p := ((HK.out.2 p).1 (List.mem_of_getElem? hp)).1
  obtain ⟨b9, off9, cap9, hvv, hc⟩ := look_tbl (HSS.out.ext HX.out) hp
  cases hvv
  have HDR := Lib.hid (drop_at hp)
  obtain ⟨L, hL, hLc⟩ := (HM.out.ext HXW.out).each p
  obtain ⟨va, vc, hV⟩ := hL.sls.1.shape
  have hlk := KMapO.look (p := p) (HM.out.ext HXW.out).map Tryz.underlying24 zeroSlips hpo
  rw [hV] at hlk hL
  replace hlk : (Instr.lookup 24 (.map (some M)) (.int .u32 p) false).run Tryz.prog wO = .ok (.slice va L.length vc) wO := hlk
  have hLl : L.length ≤ 4096 := by have := HS.out p; rw [← hLc, List.length_map] at this; exact this
  have d2 : decide ((4096 : Int) < (L.length : Int)) = false := by simp; omega
  have HL := Lib.hid hL
  have HLC := Lib.hid hLc
  have HHE := Lib.hid (show Wb.handE (y, i) none (Wb.lst (S p)) = Wb.handE (y, i) none L by rw [← hLc, Wb.lst_ct, hand_nrm])
  have d1 : decide ((j : Int) < (ss.length : Int)) = true := by simp; omega
  have hji : (j : Int) < ss.length := by omega
  clear hL hLc hp hV
  go_wp2_with fail
  go_loopw [8] (fun iv wr => ∃ t : Nat, t ≤ L.length ∧ iv = .int .i64 t ∧ Hid (Wb.handE (y, i) none L = Wb.handE (y, i) (prvP L t) (L.drop t)) ∧ Hid (Wb.Ext wO wr)) (fun iv _ => L.length - (intOf iv).toNat)
  case atStart => exact ⟨0, Nat.zero_le _, rfl, Lib.hid rfl, Lib.hid (.refl _)⟩
  case round =>
   clear hlk hc d1 hji
   obtain ⟨t, ht, rfl, HE, HXT⟩ := hrel
   obtain ⟨wT, hwz⟩ : ∃ z, z = wr := ⟨_, rfl⟩
   subst hwz
   by_cases htl : t < L.length
   case neg =>
    obtain rfl : t = L.length := by omega
    have HDN := Lib.hid (show Z = Wb.handsE (y, i) S (ss.drop (j + 1)) by
     rw [HD.out, HDR.out, Wb.handsE, HHE.out, HE.out, List.drop_length, Wb.handE, if_neg (by simp)])
    have d1 : decide ((L.length : Int) < (L.length : Int)) = false := by simp
    have n1 : ¬ (L.length : Int) < (L.length : Int) := by omega
    clear htl
    go_wp2
    go_roundw
    case rel => exact ⟨j + 1, by omega, by go_num, HDN, Lib.hid (HX.out.trans HXT.out)⟩
    case measure => first | (simp [intOf]; done) | (simp [intOf]; omega)
   obtain ⟨s, hs9⟩ := Wb.get_ex htl
   have HSL := Lib.hid (HL.out.sls.ext HXT.out)
   obtain ⟨b, off, hb, c0, c1, c2⟩ := HSL.out.cells hs9
   obtain rfl : va = some ⟨b, off, none⟩ := by first | exact hb | (injection hb)
   have HSO := Lib.hid (HSL.out.2 s (List.mem_of_getElem? hs9))
   obtain ⟨sa, sc, hsv⟩ := HSO.out.1.1.shape
   rw [hsv] at c2
   have HSV := Lib.hid (show Lns wT (.slice sa s.l.length sc) s.l by rw [← hsv]; exact HSO.out.1.1)
   have HDT := Lib.hid (drop_at hs9)
   have HPN := Lib.hid (prvP_next hs9)
   have d1 : decide ((t : Int) < (L.length : Int)) = true := by simp; omega
   have hti : (t : Int) < L.length := by omega
   obtain ⟨E, hE⟩ : ∃ E, Wb.check s.y s.i s.l = E := ⟨_, rfl⟩
   have HCE := Lib.hid hE
   have HS9 := Lib.hid hs9
   clear hsv hE hb hs9
   go_wp2_with fail
   go_fit (check_any s.y s.i _ s.l _ HSV.out HSO.out.2); rintro e w5 ⟨rfl, hx5⟩
   rw [HCE.out]
   have HX5 := Lib.hid hx5
   replace c0 := hx5.keep c0
   replace c1 := hx5.keep c1
   clear hx5 c2
   by_cases he : E = 0
   case neg =>
    have dd : (E == 0) = false := by simpa using he
    have dd2 : (E != 0) = true := by simpa using he
    have HF := Lib.hid (show Z = E by
     have h9 : Wb.handE (y, i) none (Wb.lst (S p)) = E := by rw [HHE.out, HE.out, HDT.out, Wb.hand_bad (by rw [HCE.out]; exact he), HCE.out]
     rw [HD.out, HDR.out, Wb.handsE, h9, if_pos he])
    have HXF := Lib.hid (HXW.out.trans (HXT.out.trans HX5.out))
    clear c0 c1 he
    go_wp2
    refine bodyPost_ret (v := .int .i64 E) (by simp [results, Tryz.results51, go_sem]) rfl ⟨by rw [HF.out], HXF.out⟩
   subst he
   have l0 : ∀ x, Wb.Ext w5 x → x.cell? ⟨b, off + t * 3, none⟩ = some (.int .i64 s.y) := fun x h => h.keep c0
   have l1 : ∀ x, Wb.Ext w5 x → x.cell? ⟨b, off + t * 3 + 1, none⟩ = some (.int .i64 s.i) := fun x h => h.keep c1
   have HX15 := Lib.hid (HX1.out.trans (HX.out.trans (HXT.out.trans HX5.out)))
   have x0 : ∀ x, Wb.Ext w5 x → x.cell? ⟨X, 0, none⟩ = some (.int .i64 y) := fun x h => (HX15.out.trans h).keep HXC.out.1
   have x1 : ∀ x, Wb.Ext w5 x → x.cell? ⟨X, 1, none⟩ = some (.int .i64 i) := fun x h => (HX15.out.trans h).keep HXC.out.2
   clear c0 c1
   obtain ⟨g, HG⟩ : ∃ g : Bool, Hid (g = true ↔ ((∃ a, prvP L t = some a ∧ prLt a (Wb.perS s) = false) ∨ prLt (y, i) (Wb.perS s) = true)) := by
    rcases Classical.em ((∃ a, prvP L t = some a ∧ prLt a (Wb.perS s) = false) ∨ prLt (y, i) (Wb.perS s) = true) with h | h
    ·exact ⟨true, Lib.hid ⟨fun _ => h, fun _ => rfl⟩⟩
    ·exact ⟨false, Lib.hid ⟨(fun h2 => by cases h2), fun h2 => absurd h2 h⟩⟩
   have HQ0 := Lib.hid (show t = 0 → (g = true ↔ prLt (y, i) (s.y, s.i) = true) from fun h => by
    subst h
    rw [HG.out]
    exact ⟨fun h => h.elim (fun ⟨a, h1, _⟩ => by cases h1) id, .inr⟩)
   have HQ1 := Lib.hid (show 0 < t → ∃ (t1 : Nat) (ay ai : Int), t1 + 1 = t ∧ (∀ x, Wb.Ext w5 x → x.cell? ⟨b, off + t1 * 3, none⟩ = some (.int .i64 ay)) ∧ (∀ x, Wb.Ext w5 x → x.cell? ⟨b, off + t1 * 3 + 1, none⟩ = some (.int .i64 ai)) ∧ (g = true ↔ (prLt (ay, ai) (s.y, s.i) = false ∨ prLt (y, i) (s.y, s.i) = true)) from fun h => by
    obtain ⟨t, rfl⟩ : ∃ t1, t = t1 + 1 := ⟨t - 1, by omega⟩
    obtain ⟨a, ha9⟩ := Wb.get_ex (show t < L.length by omega)
    obtain ⟨b2, off2, hb2, e0, e1, -⟩ := (HSL.out.ext HX5.out).cells ha9
    obtain ⟨rfl, rfl⟩ : b = b2 ∧ off = off2 := by injection hb2 with h1; injection h1 with h1 h2; exact ⟨h1, h2⟩
    have hpv : prvP L (t + 1) = some (Wb.perS a) := prvP_next ha9
    refine ⟨t, a.y, a.i, rfl, fun x h => h.keep e0, fun x h => h.keep e1, ?_⟩
    rw [HG.out, hpv]
    exact ⟨fun h => h.elim (fun ⟨c, h1, h2⟩ => by cases h1; exact .inl h2) .inr, fun h => h.elim (fun h => .inl ⟨_, rfl, h⟩) .inr⟩)
   go_upto_region 14 with (fail)
   refine Code.wp_mono (OnEnd.imp ?_) (hd14 _ _ _ _ _ _ _ _ _ _ _ _ _ _ _ _ _ _ _ _ _ _ _ _ _ _ _ _ _ _ _ _ _ _ _ _ _ _ _ _ _ _ _ _ _ _ _ _ _ _ _ _ _ _ _ _ _ _ _ _ _ _ _ _ _ _ _ _ _ _ _ _ _ _ _ _ _ _ _ _ _ _ _ _ w5 X b off L.length vc t y i s.y s.i l0 l1 x0 x1 g hti hLl HQ0.out HQ1.out)
   rintro a' wc ⟨u41, u42, u43, u44, u45, u46, u47, u48, u49, u50, u51, u52, u53, u54, u55, u56, u57, u58, u59, u60, u61, u62, u63, u64, u65, u66, u67, u68, u69, u70, u71, u72, u73, u74, u75, u76, u77, u78, u79, u80, u81, u82, u83, u84, rfl, hxx⟩
   (try dsimp only)
   have HXG := Lib.hid hxx
   obtain ⟨wG, hwz⟩ : ∃ z, z = wc := ⟨_, rfl⟩
   subst hwz
   clear l0 l1 x0 x1 hxx
   cases g
   case true =>
    have HF := Lib.hid (show Z = 8 by
     have h9 : Wb.handE (y, i) none (Wb.lst (S p)) = 8 := by rw [HHE.out, HE.out, HDT.out, Wb.hand_order HCE.out (HG.out.1 rfl)]
     rw [HD.out, HDR.out, Wb.handsE, h9, if_pos (by decide)])
    have HXF := Lib.hid (HXW.out.trans (HXT.out.trans (HX5.out.trans HXG.out)))
    go_wp2
    refine bodyPost_ret (v := .int .i64 8) (by simp [results, Tryz.results51, go_sem]) rfl ⟨by rw [HF.out], HXF.out⟩
   case false =>
   have HEN := Lib.hid (show Wb.handE (y, i) none L = Wb.handE (y, i) (prvP L (t + 1)) (L.drop (t + 1)) by
    rw [HE.out, HDT.out, Wb.hand_more HCE.out (fun h => by have := HG.out.2 h; cases this), HPN.out])
   go_wp2
   go_roundw
   case rel => exact ⟨t + 1, by omega, by go_num, HEN, Lib.hid (HXT.out.trans (HX5.out.trans HXG.out))⟩
   case measure => first | (simp [intOf]; done) | (simp [intOf]; omega)
end Go.Proofs.YtnefdpnolojojaaGreat
