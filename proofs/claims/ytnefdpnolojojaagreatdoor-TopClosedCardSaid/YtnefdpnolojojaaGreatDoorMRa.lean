/- MRa -/
import Derived.Test.YtnefdpnolojojaaGreatDoorMDa
import Derived.Test.YtnefdpnolojojaaGreatDoorDel11
import Derived.Test.YtnefdpnolojojaaGreatDoorRun4
namespace Go.Proofs.YtnefdpnolojojaaGreatDoor
open Go.RowKit Go.Sort Go.Lib Go.Maps
set_option maxRecDepth 8000
attribute [local go_sem ↓] Go.wp_at_zero Go.wp_at_succ
namespace Wb
theorem hasP_take {D : List Sl} {k : Nat} {x : Sl} (hx : D[k]? = some x) (p : Int × Int) : hasP (D.take (k + 1)) p ↔ hasP (D.take k) p ∨ perS x = p := by
 have e : D.take (k + 1) = D.take k ++ [x] := by
  obtain ⟨h1, rfl⟩ := List.getElem?_eq_some_iff.1 hx
  exact List.take_succ_eq_append_getElem h1
 rw [e]
 constructor
 ·rintro ⟨s, hs, h⟩
  rcases List.mem_append.1 hs with hs | hs
  ·exact .inl ⟨s, hs, h⟩
  ·simp at hs; subst hs; exact .inr h
 ·rintro (⟨s, hs, h⟩ | h)
  ·exact ⟨s, List.mem_append_left _ hs, h⟩
  ·exact ⟨x, List.mem_append_right _ (by simp), h⟩
end Wb
theorem lvnv_one (l : List Wb.Ln) : ∀ u ∈ lnvs l, u.oneCell' = true := by
 intro u hu
 obtain ⟨x, _, hx⟩ := List.mem_flatMap.1 hu
 simp [lnv] at hx
 rcases hx with rfl | rfl | rfl <;> rfl
theorem lns_src {w : World} {ad : Addr} {n c : Nat} {l : List Wb.Ln} (h : Lns w (.slice (some ad) n c) l) : Wb.SrcRow w 3 (.slice (some ad) n c) l.length (lnvs l) := by
 obtain ⟨a9, c9, e9⟩ := h.shape
 injection e9 with e1 e2 e3
 subst e2
 refine ⟨lnvs_length l, .inr ⟨ad, c, rfl, fun j u hj => ?_⟩⟩
 have hj3 : j < l.length * 3 := by rw [← lnvs_length]; exact (List.getElem?_eq_some_iff.1 hj).1
 have hne : l ≠ [] := by rintro rfl; simp at hj3
 obtain ⟨b, off, hb, hc⟩ := h.opened hne
 injection hb with hb
 subst hb
 have hq : j / 3 < l.length := by omega
 obtain ⟨x, hx⟩ := Wb.get_ex hq
 obtain ⟨g0, g1, g2⟩ := lnvs_get hx
 obtain ⟨h0, h1, h2⟩ := hc _ x hx
 have hadd : ∀ i, ((⟨b, off, none⟩ : Addr).add i) = ⟨b, off + i, none⟩ := fun i => by
  by_cases hi : i = 0
  ·subst hi; rfl
  ·simp [Addr.add, hi]
 rw [hadd]
 have hm : j % 3 = 0 ∨ j % 3 = 1 ∨ j % 3 = 2 := by omega
 rcases hm with hm | hm | hm
 ·rw [show j = j / 3 * 3 by omega] at hj ⊢
  rw [g0] at hj; cases hj; exact h0
 ·rw [show j = j / 3 * 3 + 1 by omega] at hj ⊢
  rw [g1] at hj; cases hj; rw [← Nat.add_assoc]; exact h1
 ·rw [show j = j / 3 * 3 + 2 by omega] at hj ⊢
  rw [g2] at hj; cases hj; rw [← Nat.add_assoc]; exact h2
theorem clonel_any (v : Value) (l : List Wb.Ln) (w : World) (h : Lns w v l) (hl : l.length ≤ 1000000) :
  Calls Tryz.prog 53 #[v] w fun e w' => ∃ v', e = .returned v' ∧ w'.ownsRow w.heap.size 89 3 v' l.length (lnvs l) ∧ Wb.Ext w w' := by
 obtain ⟨i0, hi, hz0, hz1, hz2⟩ := info_parts infoLine
 have HIN := Lib.hid (show Tryz.prog.info? 89 = some i0 ∧ i0.zero = some (.agg #[.int .i64 0, .string "".toUTF8, .int .i64 0]) ∧ i0.size = 3 ∧ i0.bytes = 32 from ⟨hi, hz0, hz1, hz2⟩)
 clear hi hz0 hz1 hz2
 obtain ⟨a, c, rfl⟩ := h.shape
 have q : ∀ (w : World) (a : Option Addr) (n c n' c' : Nat), (binOp .eql 48 (.slice a n c) (.slice none n' c')).run Tryz.prog w = .ok (.bool a.isNone) w := fun w a n c n' c' => Lib.run_eql_slice_nil w _ _ a n c n' c' Tryz.underlying48
 rcases a with _ | ad
 ·obtain rfl : l = [] := by
   rcases l with _ | ⟨x, r⟩
   ·rfl
   ·obtain ⟨b, off, hb, _⟩ := h.opened (by simp)
    cases hb
  clear h
  go_enter Tryz.func53, Tryz.ntmps53
  go_wp2
  go_ret
  exact ⟨_, rfl, own_none, .refl _⟩
 ·have HS := Lib.hid (lns_src h)
  have HL := Lib.hid hl
  clear h hl
  have hown0 : (w.alloc (.cells #[] 89)).ownsRow w.heap.size 89 3 (.slice (some ⟨w.heap.size, 0, none⟩) 0 0) 0 [] :=
   ⟨by simp, .inr ⟨w.heap.size, 0, #[], rfl, Nat.le_refl _, by show (w.heap.push _)[w.heap.size]? = _; simp, by simp, by simp, by simp, by simp⟩⟩
  go_enter Tryz.func53, Tryz.ntmps53
  obtain ⟨hi, hz0, hz1, hz2⟩ := HIN.out
  go_wp2_with (at_builtin; go_loud (refine Wb.wpList_append_row rfl (.tmp 5) (.tmp 6) 48 rfl w.heap.size 89 i0 (.agg #[.int .i64 0, .string "".toUTF8, .int .i64 0]) 3 32 Tryz.underlying48 hi hz0 hz1 hz2 rfl (by decide) _ _ _ rfl hown0 _ rfl l.length (lnvs l) ?c1 ?c2 ?c3 ?c4 ?c5 ?_))
  case c1 => exact HS.out.ext ((Wb.Ext.refl w).alloc _)
  case c2 => exact lvnv_one l
  case c3 => have := HL.out; unfold maxLen; omega
  case c4 => have := HL.out; omega
  case c5 => simp
  intro u2 w6 hown2 hg2 hnil2
  have HX := Lib.hid (((Wb.Ext.refl w).alloc (.cells #[] 89)).grown hg2 (by intro k hk; cases hk; exact Nat.le_refl _))
  have HO := Lib.hid (show w6.ownsRow w.heap.size 89 3 u2 l.length (lnvs l) by simpa using hown2)
  clear hi hz0 hz1 hz2 hg2 hown2 hnil2 hown0
  go_wp2
  go_ret
  exact ⟨_, rfl, HO.out, HX.out⟩
structure StM (w : World) (A D : List Wb.Sl) (f : Int × Int → Option Wb.Sl) (st : Int × Int → List Wb.Ln) : Prop where
 has : ∀ p, (f p).isSome = true ↔ Wb.hasP A p ∨ Wb.hasP D p
 one : ∀ p s, f p = some s → Wb.perS s = p ∧ s.l = st p ∧ LnsC w s.v s.l ∧ Sized s.l ∧ s.l.length ≤ 448
 no : ∀ p, f p = none → st p = []
theorem StM.keep {w w' : World} {A D : List Wb.Sl} {f : Int × Int → Option Wb.Sl} {st : Int × Int → List Wb.Ln} (h : StM w A D f st) (k : ∀ v l, LnsC w v l → LnsC w' v l) : StM w' A D f st :=
 ⟨h.has, fun p s hs => ⟨(h.one p s hs).1, (h.one p s hs).2.1, k _ _ (h.one p s hs).2.2.1, (h.one p s hs).2.2.2⟩, h.no⟩
theorem StM.put {w : World} {A D : List Wb.Sl} {f : Int × Int → Option Wb.Sl} {st : Int × Int → List Wb.Ln} {k : Nat} {x : Wb.Sl} (h : StM w A (D.take k) f st) (hx : D[k]? = some x) {s : Wb.Sl} (hp : Wb.perS s = Wb.perS x) (hs : LnsC w s.v s.l) (hz : Sized s.l) (h448 : s.l.length ≤ 448) :
  StM w A (D.take (k + 1)) (fun q => if Wb.perS x = q then some s else f q) (Wb.updS st (Wb.perS x) s.l) := by
 refine ⟨fun p => ?_, fun p t ht => ?_, fun p hp => ?_⟩
 ·rw [Wb.hasP_take hx]
  by_cases e : Wb.perS x = p
  ·simp [e]
  ·simp only [e, or_false]; exact h.has p
 ·by_cases e : Wb.perS x = p
  ·simp only [if_pos e, Option.some.injEq] at ht
   subst ht
   refine ⟨hp.trans e, ?_, hs, hz, h448⟩
   unfold Wb.updS; rw [if_pos e.symm]
  ·simp only [if_neg e] at ht
   obtain ⟨h1, h2, h3⟩ := h.one p t ht
   refine ⟨h1, ?_, h3⟩
   unfold Wb.updS; rw [if_neg fun q => e q.symm]; exact h2
 ·by_cases e : Wb.perS x = p
  ·simp [if_pos e] at hp
  ·simp only [if_neg e] at hp
   unfold Wb.updS; rw [if_neg fun q => e q.symm]; exact h.no p hp
theorem st1d {w w' : World} {b o : Nat} {x x' : Value} (hw : w' = w.setCell ⟨b, o, none⟩ x) (h0 : w.cell? ⟨b, o, none⟩ = some x') :
  w'.cell? ⟨b, o, none⟩ = some x ∧ (∀ c k, (c ≠ b ∨ k ≠ o) → w'.cell? ⟨c, k, none⟩ = w.cell? ⟨c, k, none⟩) ∧ w'.heap.size = w.heap.size ∧ (∀ W : World, W.heap.size ≤ b → Wb.Ext W w → Wb.Ext W w') := by
 subst hw
 refine ⟨by simp [go_sem, h0], fun c k hc => ?_, by simp [go_sem], fun W hW hE => Wb.ext_set hE hW _⟩
 rw [World.cell?_setCell_other _ _ _ _ (by intro e; injection e with e1 e2 _; rcases hc with hc | hc; exact hc e1.symm; exact hc e2.symm)]
end Go.Proofs.YtnefdpnolojojaaGreatDoor
namespace Go.Proofs.YtnefdpnolojojaaGreatDoor
open Go.RowKit Go.Sort Go.Lib Go.Maps
set_option maxRecDepth 8000
attribute [local go_sem ↓] Go.wp_at_zero Go.wp_at_succ
structure SlsK (w : World) (v : Value) (L : List Wb.Sl) : Prop where
 sls : Sls w v L
 many : L.length ≤ 100000
 less : ∀ s ∈ L, s.l.length ≤ 2000
theorem SlsK.ext {w w' : World} {v : Value} {L : List Wb.Sl} (h : SlsK w v L) (k : Wb.Ext w w') : SlsK w' v L := ⟨h.sls.ext k, h.many, h.less⟩
set_option maxHeartbeats 4000000 in
theorem clone31_any (v : Value) (L : List Wb.Sl) (w : World) (hL : SlsK w v L) :
  Calls Tryz.prog 25 #[v] w fun e w' => ∃ u L', e = .returned u ∧ SlR w.heap.size w' u L' ∧ L'.map Wb.ct = L.map Wb.ct ∧ (∀ s ∈ L', ∀ q, s.v.ownBlock = some q → w.heap.size ≤ q) ∧ Wb.Ext w w' := by
 obtain ⟨va, vc, rfl⟩ := hL.sls.1.shape
 have HS := Lib.hid hL.sls
 have HF := Lib.hid hL.less
 have hll := hL.many
 have HIN := Lib.hid (info_parts infoSlip)
 clear hL
 go_enter Tryz.func25, Tryz.ntmps25
 go_wp2_with fail
 go_loopw [8, 3] (fun iv ov wr => ∃ (k : Nat) (oa : Option Addr) (oc : Nat) (R : List Wb.Sl), k ≤ L.length ∧ iv = .int .i64 k ∧ ov = .slice oa R.length oc ∧ R.length = k ∧ Hid (SlR w.heap.size wr (.slice oa R.length oc) R) ∧ Hid (R.map Wb.ct = (L.take k).map Wb.ct) ∧ Hid (∀ s ∈ R, ∀ q, s.v.ownBlock = some q → w.heap.size ≤ q) ∧ Hid (Wb.Ext w wr)) (fun iv _ _ => L.length - (intOf iv).toNat)
 case atStart => exact ⟨0, none, 0, [], Nat.zero_le _, rfl, rfl, rfl, Lib.hid SlR.nil, Lib.hid rfl, Lib.hid (fun s hs => by cases hs), Lib.hid (.refl _)⟩
 case round =>
  obtain ⟨k, oa, oc, R, hk, rfl, rfl, hRl, HR, HC, HN, HX⟩ := hrel
  obtain ⟨wO, hwz⟩ : ∃ z, z = wr := ⟨_, rfl⟩
  subst hwz
  have HRL := Lib.hid hRl
  have hRb : R.length ≤ 100000 := by omega
  clear hRl
  by_cases hlt : k < L.length
  case neg =>
   obtain rfl : k = L.length := by omega
   have HCN := Lib.hid (show R.map Wb.ct = L.map Wb.ct by have := HC.out; rwa [List.take_length] at this)
   go_wp2
   refine bodyPost_ret (v := .slice oa R.length oc) (by simp [results, Tryz.results25, go_sem]) rfl ⟨_, R, rfl, HR.out, HCN.out, HN.out, HX.out⟩
  obtain ⟨x, hx⟩ := Wb.get_ex hlt
  have hmem := List.mem_of_getElem? hx
  have HSr := Lib.hid (HS.out.ext HX.out)
  obtain ⟨b, off, rfl, c0, c1, c2⟩ := HSr.out.cells hx
  obtain ⟨xa, xc, hxv⟩ := (HSr.out.2 x hmem).1.1.shape
  rw [hxv] at c2
  have HLX := Lib.hid (show Lns wO (.slice xa x.l.length xc) x.l by rw [← hxv]; exact (HSr.out.2 x hmem).1.1)
  have HSZ := Lib.hid (HSr.out.2 x hmem).2
  have hxl := HF.out x hmem
  have hki : (k : Int) < L.length := by omega
  have HXX := Lib.hid hx
  clear hxv hmem hx
  go_upto_region 5 with (fail)
  refine Wb.wp_at fun W1 hW1 => ?_
  obtain ⟨G, hG⟩ : ∃ G, wO.heap.size = G := ⟨_, rfl⟩
  have hb1 : Wb.Ext wO W1 := by rw [hW1]; (repeat' (first | (with_reducible assumption) | (with_reducible exact Wb.Ext.refl _) | (with_reducible refine Wb.Ext.drew ?_) | (with_reducible refine Wb.Ext.drewN ?_ _) | (with_reducible refine Wb.Ext.alloc ?_ _) | (with_reducible refine Wb.ext_set ?_ (by first | assumption | (simp; done) | (simp; omega) | omega) _) | (with_reducible refine Wb.Ext.trans ?_ (by assumption))))
  have g0 : W1.cell? ⟨G, 0, none⟩ = some (.int .i64 x.y) := by rw [hW1, ← hG]; simp [go_sem]
  have g1 : W1.cell? ⟨G, 1, none⟩ = some (.int .i64 x.i) := by rw [hW1, ← hG]; simp [go_sem]
  have g2 : W1.cell? ⟨G, 2, none⟩ = some (.slice xa x.l.length xc) := by rw [hW1, ← hG]; simp [go_sem]
  have gf : ∀ j, W1.frozen? ⟨G, j, none⟩ = false := fun j => by rw [hW1, ← hG]; simp [go_sem]
  have hGl : G < W1.heap.size := by rw [hW1, ← hG]; simp [go_sem]
  have hG0 : w.heap.size ≤ G := by rw [← hG]; exact HX.out.size
  have hrG : wO.heap.size ≤ G := by rw [← hG]; exact Nat.le_refl _
  have HX1 := Lib.hid (HX.out.trans hb1)
  have HWR1 := Lib.hid hb1
  rw [hG]
  clear hW1 hG c0 c1 c2 hb1
  go_wp2_with fail
  go_fit (clonel_any _ x.l _ (HLX.out.ext HWR1.out) (by omega)); rintro e w9 ⟨cv, rfl, hcv, hb9⟩
  obtain ⟨ca, cc, rfl⟩ := row_shape hcv
  have g0 := hb9.keep g0
  have g1 := hb9.keep g1
  have g2 := hb9.keep g2
  have gf : ∀ j, w9.frozen? ⟨G, j, none⟩ = false := fun j => (Below.frozen hb9 (by simpa using hGl)).trans (gf j)
  have HNB : Hid (∀ q9, (Value.slice ca x.l.length cc).ownBlock = some q9 → W1.heap.size ≤ q9) := Lib.hid (fun q9 hq9 => (hcv.lt q9 hq9).1)
  have HLC := Lib.hid (show LnsC w9 (.slice ca x.l.length cc) x.l from lnsC_of_row hcv)
  have HX9 := Lib.hid (HX1.out.trans hb9)
  have HWR9 := Lib.hid (HWR1.out.trans hb9)
  have HGL := Lib.hid hGl
  clear hcv hb9
  go_upto_region 6 with (fail)
  refine Wb.wp_at fun W2 hW2 => ?_
  obtain ⟨h2, zk, zz, ze⟩ := st1d (w := w9) (w' := W2) (b := G) (o := 2) (x := .slice ca x.l.length cc) (by rw [hW2]) g2
  have g0 : W2.cell? ⟨G, 0, none⟩ = some (.int .i64 x.y) := by rw [zk G 0 (.inr (by decide))]; exact g0
  have g1 : W2.cell? ⟨G, 1, none⟩ = some (.int .i64 x.i) := by rw [zk G 1 (.inr (by decide))]; exact g1
  have hxp2 : Wb.Ext w W2 := ze w hG0 HX9.out
  have hwr2 : Wb.Ext wO W2 := ze wO hrG HWR9.out
  have HLC2 := Lib.hid (lnsC_cells HLC.out fun b k u hb hr hc => by
   have hbg : b ≠ G := by
    obtain ⟨b9, o9, e9, _⟩ := HLC.out.1.opened hr
    have hq9 : (Value.slice ca x.l.length cc).ownBlock = some b9 := by rw [e9]; rfl
    have h8 := HNB.out b9 hq9
    have h7 := HGL.out
    rw [hb b9 hq9]; omega
   rw [zk b k (.inl hbg)]; exact hc)
  have HRZ := Lib.hid (HR.out.ext hwr2)
  have HNQ : Hid (x.l ≠ [] → ∀ q9, (Value.slice ca x.l.length cc).ownBlock = some q9 → (Value.slice oa R.length oc).ownBlock ≠ some q9) := Lib.hid (fun _ q9 hq9 e => by have h7 := (HR.out.1.lt q9 e).2; have h8 := HNB.out q9 hq9; have h9 := HGL.out; omega)
  have HNW : Hid (∀ q9, (Value.slice ca x.l.length cc).ownBlock = some q9 → w.heap.size ≤ q9) := Lib.hid (fun q9 hq9 => by have h8 := HNB.out q9 hq9; have h9 := HGL.out; omega)
  clear hW2 zk zz ze hwr2
  obtain ⟨hi, hz0, hz1, hz2⟩ := HIN.out.choose_spec
  have HXP := Lib.hid hxp2
  clear hxp2
  go_wp2_with (at_builtin; go_loud (refine wpList_append_row2 rfl (.tmp 16) (.tmp 18) 51 rfl w.heap.size 50 _ slZ 3 40 Tryz.underlying51 hi hz0 hz1 hz2 rfl (by decide) _ _ _ rfl (HRZ.out.ext (Wb.Ext.alloc (.refl _) _)).1 _ rfl 1 (slc (⟨x.y, x.i, .slice ca x.l.length cc, x.l⟩ : Wb.Sl)) ?c1 ?c2 ?c3 ?c4 ?c5 ?_))
  case c1 => exact src_lit _ _ (by first | rfl | simp) (slc (⟨x.y, x.i, .slice ca x.l.length cc, x.l⟩ : Wb.Sl)) _ _
  case c2 => intro u hu; simp [slc] at hu; rcases hu with rfl | rfl | rfl <;> rfl
  case c3 => unfold maxLen; omega
  case c4 => omega
  case c5 => have := HXP.out.size; first | omega | (simp; omega)
  intro u2 w6 hown2 hg2 hblk
  have hrb : ∀ q9, (Value.slice oa R.length oc).ownBlock = some q9 → w.heap.size ≤ q9 := fun q9 hq9 => (HR.out.1.lt q9 hq9).1
  have HX6 := Lib.hid (show Wb.Ext w w6 from Wb.Ext.grown (Wb.Ext.alloc HXP.out _) hg2 (fun q9 hq9 => hrb q9 hq9))
  have HR6 := Lib.hid (SlR.append (s := ⟨x.y, x.i, .slice ca x.l.length cc, x.l⟩) (HRZ.out.ext (Wb.Ext.alloc (.refl _) _)) hown2 hg2 (by have := hblk; simp at this ⊢; exact this) (HLC2.out.ext (Wb.Ext.alloc (.refl _) _)) HSZ.out HNQ.out)
  have HRN := Lib.hid (show (R ++ [(⟨x.y, x.i, .slice ca x.l.length cc, x.l⟩ : Wb.Sl)]).map Wb.ct = (L.take (k + 1)).map Wb.ct by rw [take_snoc HXX.out, List.map_append, List.map_append, HC.out]; rfl)
  have HNN : Hid (∀ s ∈ R ++ [(⟨x.y, x.i, .slice ca x.l.length cc, x.l⟩ : Wb.Sl)], ∀ q, s.v.ownBlock = some q → w.heap.size ≤ q) := Lib.hid (fun s hs q hq => by
   rcases List.mem_append.1 hs with hs | hs
   ·exact HN.out s hs q hq
   ·simp at hs; subst hs; exact HNW.out q hq)
  obtain ⟨ua, uc, rfl⟩ := row_shape hown2
  clear hi hz0 hz1 hz2 hg2 hown2 hblk hrb
  go_wp2
  go_roundw
  case rel => exact ⟨k + 1, ua, uc, R ++ [⟨x.y, x.i, .slice ca x.l.length cc, x.l⟩], by omega, by go_num, by first | rfl | simp, by rw [List.length_append, HRL.out]; rfl, Lib.hid (by rw [List.length_append]; exact HR6.out), HRN, HNN, HX6⟩
  case measure => first | (simp [intOf]; done) | (simp [intOf]; omega)
theorem empty_any (y i : Int) (v : Value) (l : List Wb.Ln) (w : World) (hl : Lns w v l) :
  Calls Tryz.prog 23 #[SlV y i v] w fun e w' => e = .returned (.bool l.isEmpty) ∧ Wb.Ext w w' := by
 obtain ⟨a, c, rfl⟩ := hl.shape
 clear hl
 cases l with
 | nil =>
  go_enter Tryz.func23, Tryz.ntmps23
  go_wp2
  go_ret
  exact ⟨rfl, by (repeat' (first | (with_reducible assumption) | (with_reducible exact Wb.Ext.refl _) | (with_reducible refine Wb.Ext.drew ?_) | (with_reducible refine Wb.Ext.drewN ?_ _) | (with_reducible refine Wb.Ext.alloc ?_ _) | (with_reducible refine Wb.Ext.trans ?_ (by assumption))))⟩
 | cons x r =>
  have d : (((x :: r).length : Int) == 0) = false := by simp; omega
  have H := Lib.hid (show (x :: r).isEmpty = false from rfl)
  generalize (x :: r).length = n at d ⊢
  go_enter Tryz.func23, Tryz.ntmps23
  go_wp2
  go_ret
  exact ⟨Wb.ret_bool H.out.symm, by (repeat' (first | (with_reducible assumption) | (with_reducible exact Wb.Ext.refl _) | (with_reducible refine Wb.Ext.drew ?_) | (with_reducible refine Wb.Ext.drewN ?_ _) | (with_reducible refine Wb.Ext.alloc ?_ _) | (with_reducible refine Wb.Ext.trans ?_ (by assumption))))⟩
def idxE : Nat → List Wb.Sl → Int
 | _, [] => -1
 | k, s :: r => if s.l = [] then (k : Int) else idxE (k + 1) r
set_option maxHeartbeats 2000000 in
theorem index31_any (v : Value) (L : List Wb.Sl) (w : World) (hL : Sls w v L) (hl : L.length ≤ 100000) :
  Calls Tryz.prog 52 #[v, .func (.func 23) #[] #[]] w fun e w' => e = .returned (.int .i64 (idxE 0 L)) ∧ Wb.Ext w w' := by
 obtain ⟨va, vc, rfl⟩ := hL.1.shape
 have HS := Lib.hid hL
 clear hL
 have eg : ∀ args w, (callFunc 23 args).run Tryz.prog w = .ok (.enter 23 args) w := enters_of Tryz.func23 (by kernel_rfl) rfl
 go_enter Tryz.func52, Tryz.ntmps52
 go_wp2_with fail
 go_loopw [8] (fun iv wr => ∃ k : Nat, k ≤ L.length ∧ iv = .int .i64 k ∧ Hid (idxE 0 L = idxE k (L.drop k)) ∧ Hid (Wb.Ext w wr)) (fun iv _ => L.length - (intOf iv).toNat)
 case atStart => exact ⟨0, Nat.zero_le _, rfl, Lib.hid rfl, Lib.hid (.refl _)⟩
 case round =>
  obtain ⟨k, hk, rfl, HT, HX⟩ := hrel
  obtain ⟨wO, hwz⟩ : ∃ z, z = wr := ⟨_, rfl⟩
  subst hwz
  by_cases hlt : k < L.length
  case neg =>
   obtain rfl : k = L.length := by omega
   have HE := Lib.hid (show idxE 0 L = -1 by rw [HT.out, List.drop_length]; rfl)
   go_wp2
   refine bodyPost_ret (v := .int .i64 (-1)) (by simp [results, Tryz.results52, go_sem]) rfl ⟨by rw [HE.out], HX.out⟩
  obtain ⟨x, hx⟩ := Wb.get_ex hlt
  have hmem := List.mem_of_getElem? hx
  have HSr := Lib.hid (HS.out.ext HX.out)
  obtain ⟨b, off, rfl, c0, c1, c2⟩ := HSr.out.cells hx
  obtain ⟨xa, xc, hxv⟩ := (HSr.out.2 x hmem).1.1.shape
  rw [hxv] at c2
  have HLX := Lib.hid (show Lns wO (.slice xa x.l.length xc) x.l by rw [← hxv]; exact (HSr.out.2 x hmem).1.1)
  have hki : (k : Int) < L.length := by omega
  have HDR := Lib.hid (drop_at hx)
  clear hxv hmem hx
  go_wp2_with fail
  go_fit (empty_any x.y x.i _ x.l _ HLX.out); rintro e w2 ⟨rfl, hb2⟩
  have HX2 := Lib.hid (HX.out.trans hb2)
  clear hb2 c0 c1 c2
  by_cases hz : x.l = []
  ·have HE := Lib.hid (show idxE 0 L = (k : Int) by rw [HT.out, HDR.out, idxE, if_pos hz])
   have hemp : x.l.isEmpty = true := by simp [hz]
   rw [hemp]
   clear hz hemp
   go_wp2
   refine bodyPost_ret (v := .int .i64 (k : Int)) (by simp [results, Tryz.results52, go_sem]) rfl ⟨by rw [HE.out], HX2.out⟩
  ·have HE := Lib.hid (show idxE 0 L = idxE (k + 1) (L.drop (k + 1)) by rw [HT.out, HDR.out, idxE, if_neg hz])
   have hemp : x.l.isEmpty = false := by simpa using hz
   rw [hemp]
   clear hz hemp
   go_wp2
   go_roundw
   case rel => exact ⟨k + 1, by omega, by go_num, HE, HX2⟩
   case measure => first | (simp [intOf]; done) | (simp [intOf]; omega)
end Go.Proofs.YtnefdpnolojojaaGreatDoor
namespace Go.Proofs.YtnefdpnolojojaaGreatDoor
open Go.RowKit Go.Sort Go.Lib Go.Maps
set_option maxRecDepth 8000
attribute [local go_sem ↓] Go.wp_at_zero Go.wp_at_succ
def fullS (L : List Wb.Sl) : List Wb.Sl := L.filter fun s => !s.l.isEmpty
theorem full_one {s : Wb.Sl} (h : s.l ≠ []) : fullS [s] = [s] := by
 have : s.l.isEmpty = false := by simpa using h
 simp [fullS, this]
theorem full_nil {s : Wb.Sl} (h : s.l = []) : fullS [s] = [] := by simp [fullS, h]
theorem full_app (a b : List Wb.Sl) : fullS (a ++ b) = fullS a ++ fullS b := List.filter_append ..
theorem full_ct (L : List Wb.Sl) : (fullS L).map Wb.ct = Wb.fullC (L.map Wb.ct) := by
 unfold fullS Wb.fullC
 rw [List.filter_map]; rfl
theorem idx_none : ∀ {L : List Wb.Sl} {k : Nat}, idxE k L = -1 → fullS L = L
 | [], _, _ => rfl
 | s :: r, k, h => by
  rw [idxE] at h
  split at h
  ·omega
  ·rename_i hs
   have := idx_none h
   rw [show s :: r = [s] ++ r from rfl, full_app, this, full_one hs]
theorem idx_some : ∀ {L : List Wb.Sl} {k : Nat} {i : Int}, idxE k L = i → i ≠ -1 → ∃ j : Nat, i = (k + j : Nat) ∧ j < L.length ∧ fullS (L.take j) = L.take j ∧ ∃ s, L[j]? = some s ∧ s.l = []
 | [], _, i, h, hi => by rw [idxE] at h; exact absurd h.symm hi
 | s :: r, k, i, h, hi => by
  rw [idxE] at h
  split at h
  ·rename_i hs
   exact ⟨0, by simpa using h.symm, by simp, rfl, s, rfl, hs⟩
  ·rename_i hs
   obtain ⟨j, h1, h2, h3, t, h4, h5⟩ := idx_some h hi
   refine ⟨j + 1, by rw [h1]; congr 1; omega, by simp; omega, ?_, t, by simpa using h4, h5⟩
   rw [List.take_succ_cons, show s :: r.take j = [s] ++ r.take j from rfl, full_app, h3, full_one hs]
structure DI (L : List Wb.Sl) (j i : Nat) (m : List Wb.Sl) : Prop where
 len : m.length = L.length
 lt : i < j
 kept : m.take i = fullS (L.take j)
 rest : ∀ t, j ≤ t → m[t]? = L[t]?
 mem : ∀ s ∈ m, s ∈ L
theorem DI.skip {L m : List Wb.Sl} {i j : Nat} {x : Wb.Sl} (h : DI L j i m) (hx : L[j]? = some x) (hz : x.l = []) : DI L (j + 1) i m :=
 ⟨h.len, by have := h.lt; omega, by rw [take_snoc hx, full_app, full_nil hz, List.append_nil]; exact h.kept, (fun t ht => h.rest t (by omega)), h.mem⟩
theorem DI.keep {L m : List Wb.Sl} {i j : Nat} {x : Wb.Sl} (h : DI L j i m) (hx : L[j]? = some x) (hz : x.l ≠ []) : DI L (j + 1) (i + 1) (m.set i x) := by
 have hj := (List.getElem?_eq_some_iff.1 hx).1
 have hl := h.len
 have hi := h.lt
 refine ⟨by simp [h.len], by omega, ?_, (fun t ht => ?_), fun s hs => (List.mem_or_eq_of_mem_set hs).elim (h.mem s) (fun e => e ▸ List.mem_of_getElem? hx)⟩
 ·rw [take_snoc (x := x) (by rw [List.getElem?_set_self (by omega)]), List.take_set_of_le (Nat.le_refl _), h.kept, take_snoc hx, full_app, full_one hz]
 ·rw [List.getElem?_set_ne (by omega)]; exact h.rest t (by omega)
def SlC (w : World) (b : Nat) (m : List Wb.Sl) : Prop := ∀ j s, m[j]? = some s → w.cell? ⟨b, j * 3, none⟩ = some (.int .i64 s.y) ∧ w.cell? ⟨b, j * 3 + 1, none⟩ = some (.int .i64 s.i) ∧ w.cell? ⟨b, j * 3 + 2, none⟩ = some s.v
theorem SlC.ext {w w' : World} {b : Nat} {m : List Wb.Sl} (h : SlC w b m) (k : Wb.Ext w w') : SlC w' b m := fun j s hj => ⟨k.keep (h j s hj).1, k.keep (h j s hj).2.1, k.keep (h j s hj).2.2⟩
theorem SlC.put {w : World} {b k : Nat} {m : List Wb.Sl} {s s0 : Wb.Sl} (h : SlC w b m) (hk : m[k]? = some s0) :
  SlC (((w.setCell ⟨b, k * 3, none⟩ (.int .i64 s.y)).setCell ⟨b, k * 3 + 1, none⟩ (.int .i64 s.i)).setCell ⟨b, k * 3 + 2, none⟩ s.v) b (m.set k s) := by
 intro j q hj
 by_cases e : k = j
 ·subst e
  have hlt := (List.getElem?_eq_some_iff.1 hk).1
  rw [List.getElem?_set_self hlt] at hj
  obtain rfl := Option.some.inj hj
  obtain ⟨h1, h2, h3⟩ := h k s0 hk
  refine ⟨?_, ?_, ?_⟩
  ·simp [go_sem, h1]
  ·simp [go_sem, h2]
  ·simp [go_sem, h3]
 ·rw [List.getElem?_set_ne e] at hj
  obtain ⟨h1, h2, h3⟩ := h j q hj
  refine ⟨?_, ?_, ?_⟩ <;>
   rw [World.cell?_setCell_other _ _ _ _ (by intro e; injection e with _ e2 _; omega), World.cell?_setCell_other _ _ _ _ (by intro e; injection e with _ e2 _; omega), World.cell?_setCell_other _ _ _ _ (by intro e; injection e with _ e2 _; omega)] <;> assumption
theorem run_clear3 (w : World) (b o n c : Nat) (hn : 0 < n) (hc : ∀ j, j < n * 3 → (w.cell? ⟨b, o + j, none⟩).isSome = true) (hf : ∀ j, j < n * 3 → w.frozen? ⟨b, o + j, none⟩ = false) :
  ∃ vs : List Value, vs.length = n * 3 ∧ ∀ ty, (Builtin.clear_ #[51] ty #[.slice (some ⟨b, o, none⟩) n c]).run Tryz.prog w = .ok (.tuple #[]) (w.setCells b o vs) := by
 refine ⟨(Builtin.zeroCells (Value.cells (.agg #[.int .i64 0, .int .i64 0, .slice none 0 0])) n).toList, by simp [Builtin.zeroCells, Value.cells], fun ty => ?_⟩
 have hall : ∀ v ∈ (Builtin.zeroCells (Value.cells (.agg #[.int .i64 0, .int .i64 0, .slice none 0 0])) n).toList, v.oneCell' = true := by
  intro v hv
  simp [Builtin.zeroCells, Value.cells] at hv
  obtain ⟨i, hi, rfl⟩ := hv
  have h3 : i % 3 = 0 ∨ i % 3 = 1 ∨ i % 3 = 2 := by omega
  rcases h3 with h | h | h <;> simp [h] <;> rfl
 have hst := run_storeCells_cells (P := Tryz.prog) b o (Builtin.zeroCells (Value.cells (.agg #[.int .i64 0, .int .i64 0, .slice none 0 0])) n).toList 0 w (by simpa [Builtin.zeroCells, Value.cells] using hc) (by simpa [Builtin.zeroCells, Value.cells] using hf) hall
 simp only [Nat.add_zero] at hst
 obtain ⟨m, rfl⟩ : ∃ m, n = m + 1 := ⟨n - 1, by omega⟩
 simp [Builtin.clear_, run_underlying Tryz.underlying51, hst]
set_option maxHeartbeats 8000000 in
theorem del31_any (w0 w : World) (g cap : Nat) (L : List Wb.Sl) (hc : SlC w g L) (hcap : L.length ≤ cap) (hf : ∀ j, w.frozen? ⟨g, j, none⟩ = false) (hgl : g < w.heap.size) (hg : w0.heap.size ≤ g) (hx : Wb.Ext w0 w) (hl : L.length ≤ 100000) (hline : ∀ s ∈ L, LnsC w s.v s.l ∧ Sized s.l) (hfar : ∀ s ∈ L, s.l ≠ [] → ∀ q, s.v.ownBlock = some q → q ≠ g) :
  Calls Tryz.prog 24 #[.slice (some ⟨g, 0, none⟩) L.length cap, .func (.func 23) #[] #[]] w fun e w' => ∃ u, e = .returned u ∧ Sls w' u (fullS L) ∧ (∀ q, u.ownBlock = some q → w0.heap.size ≤ q) ∧ Wb.Ext w0 w' := by
 have HC := Lib.hid hc
 have HL := Lib.hid hline
 have HFA := Lib.hid hfar
 have HX := Lib.hid hx
 have HF := Lib.hid hf
 clear hc hline hfar hx hf
 have hsls : Sls w (.slice (some ⟨g, 0, none⟩) L.length cap) L := ⟨.inr ⟨g, 0, cap, rfl, fun j x hj i u hu => by
  obtain ⟨h1, h2, h3⟩ := HC.out j x hj
  rw [Nat.zero_add]
  match i, hu with
  | 0, hu => simp [slc] at hu; subst hu; exact h1
  | 1, hu => simp [slc] at hu; subst hu; exact h2
  | 2, hu => simp [slc] at hu; subst hu; exact h3
  | i + 3, hu => simp [slc] at hu⟩, HL.out⟩
 have HS := Lib.hid hsls
 clear hsls
 obtain ⟨I, hI⟩ : ∃ I, idxE 0 L = I := ⟨_, rfl⟩
 have HI := Lib.hid hI
 clear hI
 have eg : ∀ args w, (callFunc 23 args).run Tryz.prog w = .ok (.enter 23 args) w := enters_of Tryz.func23 (by kernel_rfl) rfl
 go_enter Tryz.func24, Tryz.ntmps24
 go_wp2_with fail
 go_fit (index31_any _ L _ HS.out hl); rintro e w1 ⟨rfl, hb1⟩
 rw [HI.out]
 have HC1 := Lib.hid (HC.out.ext hb1)
 have HL1 := Lib.hid (show ∀ s ∈ L, LnsC w1 s.v s.l from fun s hs => (HL.out s hs).1.ext hb1)
 have HF1 := Lib.hid (show ∀ j, w1.frozen? ⟨g, j, none⟩ = false from fun j => (hb1.cells.2 _ _ hgl).trans (HF.out j))
 have HX1 := Lib.hid (HX.out.trans hb1)
 have hgl1 : g < w1.heap.size := Nat.lt_of_lt_of_le hgl hb1.size
 by_cases hno : I = -1
 ·have dd : (I == -1) = true := by simp [hno]
  have HN := Lib.hid (show fullS L = L from idx_none (by rw [HI.out]; exact hno))
  have HS1 := Lib.hid (HS.out.ext hb1)
  clear hno hb1
  go_wp2
  refine bodyPost_ret (v := .slice (some ⟨g, 0, none⟩) L.length cap) (by simp [results, Tryz.results24, go_sem]) rfl ⟨_, rfl, by rw [HN.out]; exact HS1.out, (fun q hq => by cases hq; exact hg), HX1.out⟩
 have dd : (I == -1) = false := by simp [hno]
 obtain ⟨i0, hi0, hi0l, hpre, z, hz, hzl⟩ := idx_some HI.out hno
 rw [Nat.zero_add] at hi0
 subst hi0
 have HD0 := Lib.hid (show DI L (i0 + 1) i0 L from ⟨rfl, by omega, by rw [take_snoc hz, full_app, hpre, full_nil hzl, List.append_nil], (fun _ _ => rfl), fun _ h => h⟩)
 clear hpre hz hzl hno hb1 hgl HC HF HS HX
 go_wp2_with fail
 go_loopw [5, 6] (fun iv jv wr => ∃ (i j : Nat) (m : List Wb.Sl), iv = .int .i64 i ∧ jv = .int .i64 j ∧ j ≤ L.length ∧ Hid (DI L j i m) ∧ Hid (SlC wr g m) ∧ Hid (∀ s ∈ L, LnsC wr s.v s.l) ∧ Hid (∀ j, wr.frozen? ⟨g, j, none⟩ = false) ∧ g < wr.heap.size ∧ Hid (Wb.Ext w0 wr)) (fun _ jv _ => L.length - (intOf jv).toNat)
 case atStart => exact ⟨i0, i0 + 1, L, rfl, by first | rfl | go_num, by omega, HD0, HC1, HL1, HF1, hgl1, HX1⟩
 case round =>
  clear HD0 HC1 HF1 hgl1 HX1
  obtain ⟨i, j, m, rfl, rfl, hj, HD, HC, HLL, HF, hgw, HX⟩ := hrel
  obtain ⟨wO, hwz⟩ : ∃ z, z = wr := ⟨_, rfl⟩
  subst hwz
  have hij := HD.out.lt
  have hml := HD.out.len
  have HML := Lib.hid hml
  clear hml
  by_cases hlt : j < L.length
  case neg =>
   obtain rfl : j = L.length := by omega
   have hil : i < L.length := hij
   obtain ⟨vs, hvl, hcl⟩ := run_clear3 wO g (i * 3) (L.length - i) (cap - i) (by omega) (fun t ht => by
    obtain ⟨p, hp⟩ := Wb.get_ex (show i + t / 3 < m.length by rw [HML.out]; omega)
    obtain ⟨h1, h2, h3⟩ := HC.out _ p hp
    have hj2 : t % 3 = 0 ∨ t % 3 = 1 ∨ t % 3 = 2 := by omega
    rcases hj2 with hj2 | hj2 | hj2
    ·rw [show i * 3 + t = (i + t / 3) * 3 by omega, h1]; rfl
    ·rw [show i * 3 + t = (i + t / 3) * 3 + 1 by omega, h2]; rfl
    ·rw [show i * 3 + t = (i + t / 3) * 3 + 2 by omega, h3]; rfl) (fun t _ => HF.out _)
   have hE : fullS L = m.take i := by have := HD.out.kept; rw [List.take_length] at this; exact this.symm
   have hEl : (m.take i).length = i := by rw [List.length_take, HML.out]; omega
   have HFIN := Lib.hid (show Sls (wO.setCells g (i * 3) vs) (.slice (some ⟨g, 0, none⟩) i cap) (fullS L) from by
    refine ⟨?_, fun s hs => ⟨?_, ?_⟩⟩
    ·rw [hE]
     refine .inr ⟨g, 0, cap, by rw [hEl], fun t x ht k u hu => ?_⟩
     have htk : t < i := by have := (List.getElem?_eq_some_iff.1 ht).1; omega
     rw [List.getElem?_take, if_pos htk] at ht
     obtain ⟨h1, h2, h3⟩ := HC.out t x ht
     rw [Nat.zero_add]
     have hk3 : k < 3 := (List.getElem?_eq_some_iff.1 hu).1
     rw [World.cell?_setCells_out _ _ _ _ _ (fun _ _ => .inl (by simp only; omega))]
     match k, hu with
     | 0, hu => simp [slc] at hu; subst hu; exact h1
     | 1, hu => simp [slc] at hu; subst hu; exact h2
     | 2, hu => simp [slc] at hu; subst hu; exact h3
     | k + 3, hu => simp [slc] at hu
    ·have hm : s ∈ L := (List.mem_filter.1 hs).1
     exact lnsC_cells (HLL.out s hm) fun b k u hb hr hcc => by
      have hbg : b ≠ g := by
       rcases (HLL.out s hm).1 with ⟨q, _⟩ | ⟨b9, o9, c9, e9, _⟩
       ·exact absurd q hr
       have hq9 : s.v.ownBlock = some b9 := by rw [e9]; rfl
       rw [hb b9 hq9]; exact HFA.out s hm hr b9 hq9
      rw [World.cell?_setCells_out _ _ _ _ _ (fun he _ => absurd he hbg)]; exact hcc
    ·exact (HL.out s (List.mem_filter.1 hs).1).2)
   have HXF := Lib.hid (show Wb.Ext w0 (wO.setCells g (i * 3) vs) from below_setCells hg _ _ _ HX.out)
   have hii : (i : Int) < L.length := by omega
   have hic : ¬ cap < i := by omega
   clear hE hEl hvl
   go_wp2
   refine bodyPost_ret (v := .slice (some ⟨g, 0, none⟩) i cap) (by simp [results, Tryz.results24, go_sem]) rfl ⟨_, rfl, HFIN.out, (fun q hq => by cases hq; exact hg), HXF.out⟩
  obtain ⟨x, hx⟩ := Wb.get_ex hlt
  have hmem := List.mem_of_getElem? hx
  obtain ⟨c0, c1, c2⟩ := HC.out j x (by rw [HD.out.rest j (Nat.le_refl _)]; exact hx)
  obtain ⟨xa, xc, hxv⟩ := (HLL.out x hmem).1.shape
  have HXV := Lib.hid hxv
  rw [hxv] at c2
  have HLX := Lib.hid (show Lns wO (.slice xa x.l.length xc) x.l by rw [← hxv]; exact (HLL.out x hmem).1)
  obtain ⟨o, ho⟩ := Wb.get_ex (show i < m.length by rw [HML.out]; omega)
  obtain ⟨o0, o1, o2⟩ := HC.out i o ho
  have HO := Lib.hid ho
  have hji : (j : Int) < L.length := by omega
  have hii : (i : Int) < L.length := by omega
  have HXX := Lib.hid hx
  clear hx hmem hxv ho
  go_upto_region 8 with (fail)
  refine Wb.wp_at fun W1 hW1 => ?_
  obtain ⟨G, hG⟩ : ∃ G, wO.heap.size = G := ⟨_, rfl⟩
  have hb1 : Wb.Ext wO W1 := by rw [hW1]; (repeat' (first | (with_reducible assumption) | (with_reducible exact Wb.Ext.refl _) | (with_reducible refine Wb.Ext.drew ?_) | (with_reducible refine Wb.Ext.drewN ?_ _) | (with_reducible refine Wb.Ext.alloc ?_ _) | (with_reducible refine Wb.ext_set ?_ (by first | assumption | (simp; done) | (simp; omega) | omega) _) | (with_reducible refine Wb.Ext.trans ?_ (by assumption))))
  have g0 : W1.cell? ⟨G, 0, none⟩ = some (.int .i64 x.y) := by rw [hW1, ← hG]; simp [go_sem]
  have g1 : W1.cell? ⟨G, 1, none⟩ = some (.int .i64 x.i) := by rw [hW1, ← hG]; simp [go_sem]
  have g2 : W1.cell? ⟨G, 2, none⟩ = some (.slice xa x.l.length xc) := by rw [hW1, ← hG]; simp [go_sem]
  rw [hG]
  have HB1 := Lib.hid hb1
  clear hW1 hG c0 c1 c2 hb1
  go_wp2_with fail
  go_fit (empty_any x.y x.i _ x.l _ (HLX.out.ext HB1.out)); rintro e w2 ⟨rfl, hb2⟩
  have g0 := hb2.keep g0
  have g1 := hb2.keep g1
  have g2 := hb2.keep g2
  have HB2 := Lib.hid (HB1.out.trans hb2)
  clear hb2
  have HC2 := Lib.hid (HC.out.ext HB2.out)
  have HLL2 := Lib.hid (show ∀ s ∈ L, LnsC w2 s.v s.l from fun s hs => (HLL.out s hs).ext HB2.out)
  have HF2 := Lib.hid (show ∀ j, w2.frozen? ⟨g, j, none⟩ = false from fun j => (HB2.out.cells.2 _ _ hgw).trans (HF.out j))
  have HX2 := Lib.hid (HX.out.trans HB2.out)
  have hgw2 : g < w2.heap.size := Nat.lt_of_lt_of_le hgw HB2.out.size
  by_cases hz : x.l = []
  ·have hemp : x.l.isEmpty = true := by simp [hz]
   have HDN := Lib.hid (HD.out.skip HXX.out hz)
   rw [hemp]
   clear hz hemp
   go_wp2
   go_roundw
   case rel => exact ⟨i, j + 1, m, rfl, by go_num, by omega, HDN, HC2, HLL2, HF2, hgw2, HX2⟩
   case measure => first | (simp [intOf]; done) | (simp [intOf]; omega)
  have hemp : x.l.isEmpty = false := by simpa using hz
  have HDN := Lib.hid (HD.out.keep HXX.out hz)
  rw [hemp]
  obtain ⟨p0, p1, p2⟩ := HC2.out i o HO.out
  obtain ⟨oa, on, oc, hov⟩ : ∃ a n c, o.v = .slice a n c := by
   obtain ⟨a9, c9, e9⟩ := (HLL2.out o (HD.out.mem o (List.mem_of_getElem? HO.out))).1.shape
   exact ⟨_, _, _, e9⟩
  rw [hov] at p2
  have hpf := HF2.out
  have HCN := Lib.hid (SlC.put (s := x) HC2.out HO.out)
  rw [HXV.out] at HCN
  have hg3 : w2.grownBy (((w2.setCell ⟨g, i * 3, none⟩ (.int .i64 x.y)).setCell ⟨g, i * 3 + 1, none⟩ (.int .i64 x.i)).setCell ⟨g, i * 3 + 2, none⟩ (.slice xa x.l.length xc)) (some g) := grown_trans (grown_trans (setj_grown _ _ _ _) (setj_grown _ _ _ _)) (setj_grown _ _ _ _)
  have HLN := Lib.hid (show ∀ s ∈ L, LnsC (((w2.setCell ⟨g, i * 3, none⟩ (.int .i64 x.y)).setCell ⟨g, i * 3 + 1, none⟩ (.int .i64 x.i)).setCell ⟨g, i * 3 + 2, none⟩ (.slice xa x.l.length xc)) s.v s.l from fun s hs => lnsC_kept (HLL2.out s hs) hg3 (fun hne q hq e => by cases e; exact HFA.out s hs hne _ hq rfl))
  have HXN := Lib.hid (HX2.out.grown hg3 (fun k e => by cases e; exact hg))
  have HFN := Lib.hid (show ∀ j, (((w2.setCell ⟨g, i * 3, none⟩ (.int .i64 x.y)).setCell ⟨g, i * 3 + 1, none⟩ (.int .i64 x.i)).setCell ⟨g, i * 3 + 2, none⟩ (.slice xa x.l.length xc)).frozen? ⟨g, j, none⟩ = false from fun j => by have := HF2.out j; simp [go_sem, this])
  have hgN : g < (((w2.setCell ⟨g, i * 3, none⟩ (.int .i64 x.y)).setCell ⟨g, i * 3 + 1, none⟩ (.int .i64 x.i)).setCell ⟨g, i * 3 + 2, none⟩ (.slice xa x.l.length xc)).heap.size := Nat.lt_of_lt_of_le hgw2 hg3.size
  have HGN := Lib.hid hgN
  clear hz hemp hg3 hgN
  go_wp2
  go_roundw
  case rel => exact ⟨i + 1, j + 1, m.set i x, by go_num, by go_num, by omega, HDN, HCN, HLN, HFN, HGN.out, HXN⟩
  case measure => first | (simp [intOf]; done) | (simp [intOf]; omega)
end Go.Proofs.YtnefdpnolojojaaGreatDoor
namespace Go.Proofs.YtnefdpnolojojaaGreatDoor
open Go.RowKit Go.Sort Go.Lib Go.Maps
set_option maxRecDepth 8000
attribute [local go_sem ↓] Go.wp_at_zero Go.wp_at_succ
theorem src_tbl {α : Type} {k : Nat} {f : α → List Value} (hf : ∀ x, (f x).length = k) (hk : 0 < k) {w : World} {ad : Addr} {n c : Nat} {l : List α} (h : Tbl k f w (.slice (some ad) n c) l) : Wb.SrcRow w k (.slice (some ad) n c) l.length (rowsOf f l) := by
 obtain ⟨a9, c9, e9⟩ := h.shape
 injection e9 with e1 e2 e3
 subst e2
 refine ⟨rowsOf_length hf l, .inr ⟨ad, c, rfl, fun j u hj => ?_⟩⟩
 have hjk : j < l.length * k := by rw [← rowsOf_length hf]; exact (List.getElem?_eq_some_iff.1 hj).1
 have hne : l ≠ [] := by rintro rfl; simp at hjk
 obtain ⟨b, off, hb, hc⟩ := h.opened hne
 injection hb with hb
 subst hb
 have hq : j / k < l.length := Nat.div_lt_of_lt_mul (by rw [Nat.mul_comm]; exact hjk)
 obtain ⟨x, hx⟩ := Wb.get_ex hq
 have hr := Nat.mod_lt j hk
 have hjd : j = j / k * k + j % k := by have := Nat.div_add_mod j k; rw [Nat.mul_comm] at this; omega
 have hadd : ∀ i, ((⟨b, off, none⟩ : Addr).add i) = ⟨b, off + i, none⟩ := fun i => by
  by_cases hi : i = 0
  ·subst hi; rfl
  ·simp [Addr.add, hi]
 rw [hadd]
 rw [hjd] at hj ⊢
 rw [rowsOf_get hf hx _ hr] at hj
 have := hc _ x hx _ u hj
 rwa [Nat.add_assoc] at this
def rwZ : Value := .agg #[.int .u32 0, .int .i64 0, .int .i64 0, .slice none 0 0, .slice none 0 0, .int .i64 0, .int .i64 0, .int .i64 0]
theorem infoRow : (Tryz.prog.info? 54).map (fun i => (i.zero, i.size, i.bytes)) = some (some rwZ, 8, 96) := by kernel_rfl
structure RowsM (w : World) (v : Value) (L : List RwM) : Prop where
 tab : Tbl 8 rwc w v L
 each : ∀ r ∈ L, RwIs w r
 many : L.length ≤ 100000
 one : ∀ r ∈ L, ∃ a n c a' n' c', r.now.v = .slice a n c ∧ r.bv = .slice a' n' c'
theorem RowsM.ext {w w' : World} {v : Value} {L : List RwM} (h : RowsM w v L) (k : Wb.Ext w w') : RowsM w' v L := ⟨h.tab.ext k, fun r hr => (h.each r hr).ext k, h.many, h.one⟩
theorem rwc_one {L : List RwM} (h : ∀ r ∈ L, ∃ a n c a' n' c', r.now.v = .slice a n c ∧ r.bv = .slice a' n' c') : ∀ u ∈ rowsOf rwc L, u.oneCell' = true := by
 intro u hu
 obtain ⟨r, hr, hx⟩ := List.mem_flatMap.1 hu
 obtain ⟨a, n, c, a', n', c', h1, h2⟩ := h r hr
 simp [rwc, h1, h2] at hx
 rcases hx with rfl | rfl | rfl | rfl | rfl | rfl | rfl | rfl <;> rfl
theorem clonerw_any (v : Value) (L : List RwM) (w : World) (h : RowsM w v L) :
  Calls Tryz.prog 54 #[v] w fun e w' => ∃ v', e = .returned v' ∧ w'.ownsRow w.heap.size 54 8 v' L.length (rowsOf rwc L) ∧ Wb.Ext w w' := by
 have HIN := Lib.hid (info_parts infoRow)
 obtain ⟨a, c, rfl⟩ := h.tab.shape
 have q : ∀ (w : World) (a : Option Addr) (n c n' c' : Nat), (binOp .eql 29 (.slice a n c) (.slice none n' c')).run Tryz.prog w = .ok (.bool a.isNone) w := fun w a n c n' c' => Lib.run_eql_slice_nil w _ _ a n c n' c' Tryz.underlying29
 rcases a with _ | ad
 ·obtain rfl : L = [] := by
   rcases L with _ | ⟨x, r⟩
   ·rfl
   ·obtain ⟨b, off, hb, _⟩ := h.tab.opened (by simp)
    cases hb
  clear h
  go_enter Tryz.func54, Tryz.ntmps54
  go_wp2
  go_ret
  exact ⟨_, rfl, own_none, .refl _⟩
 ·have HS := Lib.hid (src_tbl rwc_len (by decide) h.tab)
  have HL := Lib.hid h.many
  have HO1 := Lib.hid (rwc_one h.one)
  clear h
  have hown0 : (w.alloc (.cells #[] 54)).ownsRow w.heap.size 54 8 (.slice (some ⟨w.heap.size, 0, none⟩) 0 0) 0 [] :=
   ⟨by simp, .inr ⟨w.heap.size, 0, #[], rfl, Nat.le_refl _, by show (w.heap.push _)[w.heap.size]? = _; simp, by simp, by simp, by simp, by simp⟩⟩
  go_enter Tryz.func54, Tryz.ntmps54
  obtain ⟨hi, hz0, hz1, hz2⟩ := HIN.out.choose_spec
  go_wp2_with (at_builtin; go_loud (refine Wb.wpList_append_row rfl (.tmp 5) (.tmp 6) 29 rfl w.heap.size 54 _ rwZ 8 96 Tryz.underlying29 hi hz0 hz1 hz2 rfl (by decide) _ _ _ rfl hown0 _ rfl L.length (rowsOf rwc L) ?c1 ?c2 ?c3 ?c4 ?c5 ?_))
  case c1 => exact HS.out.ext ((Wb.Ext.refl w).alloc _)
  case c2 => exact HO1.out
  case c3 => have := HL.out; unfold maxLen; omega
  case c4 => have := HL.out; omega
  case c5 => simp
  intro u2 w6 hown2 hg2 hnil2
  have HX := Lib.hid (((Wb.Ext.refl w).alloc (.cells #[] 54)).grown hg2 (by intro k hk; cases hk; exact Nat.le_refl _))
  have HO := Lib.hid (show w6.ownsRow w.heap.size 54 8 u2 L.length (rowsOf rwc L) by simpa using hown2)
  clear hi hz0 hz1 hz2 hg2 hown2 hnil2 hown0
  go_wp2
  go_ret
  exact ⟨_, rfl, HO.out, HX.out⟩
def RwC (w : World) (g : Nat) (m : List RwM) : Prop := ∀ j r, m[j]? = some r → ∀ i u, (rwc r)[i]? = some u → w.cell? ⟨g, j * 8 + i, none⟩ = some u
theorem RwC.ext {w w' : World} {g : Nat} {m : List RwM} (h : RwC w g m) (k : Wb.Ext w w') : RwC w' g m := fun j r hj i u hu => k.keep (h j r hj i u hu)
theorem RwC.put {w : World} {g k c : Nat} {m : List RwM} {r r' : RwM} {u : Value} (h : RwC w g m) (hk : m[k]? = some r) (hc : c < 8) (hr : rwc r' = (rwc r).set c u) : RwC (w.setCell ⟨g, k * 8 + c, none⟩ u) g (m.set k r') := by
 intro j s hj i x hx
 have hi : i < 8 := by have := (List.getElem?_eq_some_iff.1 hx).1; rw [rwc_len] at this; exact this
 by_cases e : k = j
 ·subst e
  have hlt := (List.getElem?_eq_some_iff.1 hk).1
  rw [List.getElem?_set_self hlt] at hj
  obtain rfl := Option.some.inj hj
  rw [hr] at hx
  by_cases ei : c = i
  ·subst ei
   rw [List.getElem?_set_self (by rw [rwc_len]; exact hc)] at hx
   obtain rfl := Option.some.inj hx
   have h0 := h k r hk c _ (List.getElem?_eq_getElem (by rw [rwc_len]; exact hc))
   simp [go_sem, h0]
  ·rw [List.getElem?_set_ne ei] at hx
   rw [World.cell?_setCell_other _ _ _ _ (by intro e; injection e with _ e2 _; omega)]
   exact h k r hk i x hx
 ·rw [List.getElem?_set_ne e] at hj
  rw [World.cell?_setCell_other _ _ _ _ (by intro e; injection e with _ e2 _; omega)]
  exact h j s hj i x hx
structure GrownIn (lo g : Nat) (w w' : World) : Prop where
 os : w'.os = w.os
 tape : w'.tape = w.tape
 output : w'.output = w.output
 size : w.heap.size ≤ w'.heap.size
 block : ∀ k, k < w.heap.size → (k < lo ∨ g < k) → w'.heap[k]? = w.heap[k]?
theorem GrownIn.trans {lo g : Nat} {a b c : World} (h : GrownIn lo g a b) (k : GrownIn lo g b c) : GrownIn lo g a c :=
 ⟨k.os.trans h.os, k.tape.trans h.tape, k.output.trans h.output, Nat.le_trans h.size k.size, fun i hi hr => (k.block i (Nat.lt_of_lt_of_le hi h.size) hr).trans (h.block i hi hr)⟩
theorem GrownIn.ext {lo g : Nat} {w w' : World} (h : Wb.Ext w w') : GrownIn lo g w w' := ⟨h.os, h.tape, h.output, h.size, fun k hk _ => h.block k hk⟩
theorem GrownIn.grown {lo g b : Nat} {w w' : World} (h : w.grownBy w' (some b)) (h1 : lo ≤ b) (h2 : b ≤ g) : GrownIn lo g w w' :=
 ⟨h.os, h.tape, h.output, h.size, fun k hk hr => h.block k hk (fun e => by cases e; omega)⟩
theorem GrownIn.refl {lo g : Nat} {w : World} : GrownIn lo g w w := ⟨rfl, rfl, rfl, Nat.le_refl _, fun _ _ _ => rfl⟩
theorem GrownIn.cell {lo g : Nat} {w w' : World} (h : GrownIn lo g w w') {b o : Nat} {v : Value} (hb : b < lo ∨ g < b) (hc : w.cell? ⟨b, o, none⟩ = some v) : w'.cell? ⟨b, o, none⟩ = some v := by
 have hbk := h.block b (Wb.cell_size hc) hb
 simp only [World.cell?, hbk] at hc ⊢; exact hc
theorem GrownIn.old {lo g : Nat} {w0 w w' : World} (h : GrownIn lo g w w') (k : Wb.Ext w0 w) (hl : w0.heap.size ≤ lo) : Wb.Ext w0 w' :=
 ⟨h.os.trans k.os, h.tape.trans k.tape, h.output.trans k.output, Nat.le_trans k.size h.size, fun i hi => (h.block i (Nat.lt_of_lt_of_le hi k.size) (.inl (by omega))).trans (k.block i hi)⟩
theorem GrownIn.lns {lo g : Nat} {w w' : World} (h : GrownIn lo g w w') {v : Value} {l : List Wb.Ln} (hl : LnsC w v l) (hfar : l ≠ [] → ∀ q, v.ownBlock = some q → g < q) : LnsC w' v l :=
 lnsC_cells hl fun b k u hb hr hc => by
  refine h.cell (.inr ?_) hc
  rcases hl.1 with ⟨q, _⟩ | ⟨b9, o9, c9, e9, _⟩
  ·exact absurd q hr
  have hq9 : v.ownBlock = some b9 := by rw [e9]; rfl
  rw [hb b9 hq9]; exact hfar hr b9 hq9
theorem SlQ.keptIn {lo g base : Nat} {w w' : World} {v : Value} {D : List Wb.Sl} (h : SlQ g base w v D) (hg : GrownIn lo g w w') : SlQ g base w' v D := by
 refine ⟨⟨?_, fun s hs => ⟨hg.lns (h.row.2.1 s hs).1 (h.far s hs), (h.row.2.1 s hs).2⟩, h.row.2.2⟩, h.lt, h.far⟩
 have hl := h.row.1.lt
 obtain ⟨h1, h2 | ⟨b, cap, cur, hv, hb, hbk, rest⟩⟩ := h.row.1
 ·exact ⟨h1, .inl h2⟩
 ·refine ⟨h1, .inr ⟨b, cap, cur, hv, hb, ?_, rest⟩⟩
  subst hv
  have h3 := h.lt
  rw [hg.block b (hl b rfl).2 (.inr (by omega))]; exact hbk
def Stays (lo g : Nat) (w : World) (r : RwM) : Prop := ∀ w', GrownIn lo g w w' → RwIs w' r
theorem Stays.later {lo g : Nat} {w w' : World} {r : RwM} (h : Stays lo g w r) (hg : GrownIn lo g w w') : Stays lo g w' r := fun w2 h2 => h w2 (hg.trans h2)
theorem Stays.ext {lo g : Nat} {w w' : World} {r : RwM} (h : Stays lo g w r) (k : Wb.Ext w w') : Stays lo g w' r := h.later (.ext k)
theorem stays_old {lo g : Nat} {w w' : World} {r : RwM} (h : RwIs w r) (k : Wb.Ext w w') (hg : w.heap.size ≤ lo) : Stays lo g w' r := fun _w2 h2 => h.ext (h2.old k hg)
structure RcAt (w wr : World) (B g cap : Nat) (n y i k : Int) (m : List RwM) : Prop where
 b0 : wr.cell? ⟨B, 0, none⟩ = some (.int .i64 n)
 b1 : wr.cell? ⟨B, 1, none⟩ = some (.int .i64 y)
 b2 : wr.cell? ⟨B, 2, none⟩ = some (.int .i64 i)
 b3 : wr.cell? ⟨B, 3, none⟩ = some (.int .i64 k)
 b4 : wr.cell? ⟨B, 4, none⟩ = some (.slice (some ⟨g, 0, none⟩) m.length cap)
 rows : RwC wr g m
 free : ∀ j, wr.frozen? ⟨g, j, none⟩ = false
 lt : g < wr.heap.size
 ne : B + 1 < g
 cz : ∀ j v, ([.int .i64 0, .int .i64 0, .int .i64 0, .int .i64 0, .slice none 0 0] : List Value)[j]? = some v → wr.cell? ⟨B + 1, j, none⟩ = some v
 fc : ∀ j, wr.frozen? ⟨B + 1, j, none⟩ = false
 stay : ∀ r ∈ m, Stays w.heap.size g wr r
 one : ∀ r ∈ m, ∃ a n c a' n' c', r.now.v = .slice a n c ∧ r.bv = .slice a' n' c'
 ext : Wb.Ext w wr
 new : w.heap.size ≤ B
theorem RcAt.later {w wr w' : World} {B g cap : Nat} {n y i k : Int} {m : List RwM} (h : RcAt w wr B g cap n y i k m) (x : Wb.Ext wr w') : RcAt w w' B g cap n y i k m :=
 ⟨x.keep h.b0, x.keep h.b1, x.keep h.b2, x.keep h.b3, x.keep h.b4, h.rows.ext x, fun j => (x.cells.2 _ _ h.lt).trans (h.free j), Nat.lt_of_lt_of_le h.lt x.size, h.ne, fun j v hv => x.keep (h.cz j v hv), fun j => (x.cells.2 _ _ (by have := h.ne; have := h.lt; omega)).trans (h.fc j), fun r hr => (h.stay r hr).ext x, h.one, h.ext.trans x, h.new⟩
theorem RcAt.put {w wr : World} {B g cap : Nat} {n y i k : Int} {m : List RwM} (h : RcAt w wr B g cap n y i k m) {j c : Nat} {r r' : RwM} {u : Value} (hj : m[j]? = some r) (hc : c < 8) (hr : rwc r' = (rwc r).set c u) (hs : Stays w.heap.size g wr r') (ho : ∃ a n c a' n' c', r'.now.v = .slice a n c ∧ r'.bv = .slice a' n' c') : RcAt w (wr.setCell ⟨g, j * 8 + c, none⟩ u) B g cap n y i k (m.set j r') := by
 have hg : wr.grownBy (wr.setCell ⟨g, j * 8 + c, none⟩ u) (some g) := setj_grown _ _ _ _
 have hne := h.ne
 have h1 : ¬ B = g := by omega
 have hgi : GrownIn w.heap.size g wr (wr.setCell ⟨g, j * 8 + c, none⟩ u) := .grown hg (by have := h.new; omega) (Nat.le_refl _)
 refine ⟨grown_keep hg h.b0 h1, grown_keep hg h.b1 h1, grown_keep hg h.b2 h1, grown_keep hg h.b3 h1, by rw [List.length_set]; exact grown_keep hg h.b4 h1, h.rows.put hj hc hr, fun t => ?_, Nat.lt_of_lt_of_le h.lt hg.size, h.ne, fun j v hv => grown_keep hg (h.cz j v hv) (by omega), fun j => ?_, fun s hs' => ?_, fun s hs' => ?_, h.ext.grown hg (fun k e => by cases e; have := h.new; omega), h.new⟩
 ·have := h.free t; simp [go_sem, this]
 ·have := h.fc j; simp [go_sem, this]
 ·rcases List.mem_or_eq_of_mem_set hs' with h9 | h9
  ·exact (h.stay s h9).later hgi
  ·subst h9; exact hs.later hgi
 ·rcases List.mem_or_eq_of_mem_set hs' with h9 | h9
  ·exact h.one s h9
  ·subst h9; exact ho
end Go.Proofs.YtnefdpnolojojaaGreatDoor
