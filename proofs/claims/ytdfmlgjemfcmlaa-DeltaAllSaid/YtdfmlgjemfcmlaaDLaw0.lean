/- Chapter 29: the example. -/
import Derived.Test.YtdfmlgjemfcmlaaDel6
import Derived.Test.YtdfmlgjemfcmlaaRDel4
namespace Go.Proofs.Ytdfmlgjemfcmlaa
open Go.RowKit Go.Lib
set_option maxRecDepth 8000
attribute [local go_sem ↓] Go.wp_at_zero Go.wp_at_succ

def exW : List Wb.Ln := [⟨0, [115, 97, 108, 97, 114, 121], 500000⟩, ⟨3, [116, 97, 120], 80000⟩]
def exN : List Wb.Ln := [⟨0, [115, 97, 108, 97, 114, 121], 520000⟩, ⟨5, [108, 111, 97, 110], 10000⟩]
def exD : List Wb.Ln := [⟨0, [115, 97, 108, 97, 114, 121], 20000⟩, ⟨3, [116, 97, 120], -80000⟩, ⟨5, [108, 111, 97, 110], 10000⟩]
theorem exD_is : Wb.IsDelta exW exN exD := by
  refine ⟨by unfold Wb.Rise; decide, ?_, fun p c => ?_⟩
  · intro x hx
    simp [exD] at hx
    rcases hx with rfl | rfl | rfl <;> decide
  · simp only [exD, exN, exW, Wb.lval]
    (repeat' split) <;> simp_all <;> omega
theorem ex29_of : Wb.IsOf 2024 2 exW 2024 2 exN 0 2024 2 exD := by
  have h := Wb.IsOf.ok (y := 2024) (i := 2) (a := exW) (y' := 2024) (i' := 2) (b := exN) exD (by decide) (by decide) (.inr (.inr ⟨rfl, rfl⟩)) exD_is (by intro x hx; simp [exD] at hx; rcases hx with rfl | rfl | rfl <;> decide) (by decide)
  exact h
theorem few_lines {l : List Wb.Ln} (h : l.length ≤ 10) (k : ∀ x ∈ l, x.code.length ≤ 60) : Sized l := ⟨by omega, fun x hx => Nat.le_trans (k x hx) (by decide)⟩
theorem exW_sized : Sized exW := few_lines (by decide) (by intro x hx; simp [exW] at hx; rcases hx with rfl | rfl <;> decide)
theorem exN_sized : Sized exN := few_lines (by decide) (by intro x hx; simp [exN] at hx; rcases hx with rfl | rfl <;> decide)
theorem exD_sized : Sized exD := few_lines (by decide) (by intro x hx; simp [exD] at hx; rcases hx with rfl | rfl | rfl <;> decide)
theorem ex29_net (m v : Value) : Wb.netF 0 [⟨2024, 2, m, exD⟩, ⟨0, 0, v, []⟩] = (90000, 0) := by
  have h1 : Wb.noneB 2024 2 exD = false := by decide
  have h2 : Wb.sums 2024 2 exD = (20000, -70000, 90000, 0, 0) := by decide
  have h3 : Wb.noneB 0 0 ([] : List Wb.Ln) = true := by decide
  rw [net_more (a := 20000) (b := -70000) (c := 90000) (d := 0) h1 h2 (by decide), net_none h3]; rfl
/-- lines, written out as a literal -/
theorem lns_lit (w : World) (n : Nat) (hn : n = w.heap.size) (l : List Wb.Ln) (T : TypeId) : LnsS (w.alloc (.cells (lnvs l).toArray T)) (.slice (some ⟨n, 0, none⟩) l.length l.length) l := by
  subst hn
  have hc : ∀ j x, l[j]? = some x → (w.alloc (.cells (lnvs l).toArray T)).cell? ⟨w.heap.size, 0 + j * 3, none⟩ = some (.int .i64 x.part) ∧ (w.alloc (.cells (lnvs l).toArray T)).cell? ⟨w.heap.size, 0 + j * 3 + 1, none⟩ = some (.string (Wb.S x.code)) ∧ (w.alloc (.cells (lnvs l).toArray T)).cell? ⟨w.heap.size, 0 + j * 3 + 2, none⟩ = some (.int .i64 x.cents) := fun j x hj => by
    obtain ⟨g0, g1, g2⟩ := lnvs_get hj
    rw [Nat.zero_add]
    exact ⟨by simpa [go_sem] using g0, by simpa [go_sem] using g1, by simpa [go_sem] using g2⟩
  refine ⟨⟨?_, Nat.le_refl _⟩, src_lines l _ rfl hc⟩
  exact .inr ⟨_, 0, _, rfl, hc⟩
theorem lnsS_far {w w' : World} {g n cap : Nat} {l : List Wb.Ln} (h : LnsS w (.slice (some ⟨g, 0, none⟩) n cap) l) (k : ∀ o v, w.cell? ⟨g, o, none⟩ = some v → w'.cell? ⟨g, o, none⟩ = some v) : LnsS w' (.slice (some ⟨g, 0, none⟩) n cap) l := by
  refine ⟨⟨?_, h.1.2⟩, h.2.1, ?_⟩
  · rcases h.1.1 with h1 | ⟨b, off, c, hv, hc⟩
    · exact .inl h1
    · injection hv with e1 e2 e3
      injection e1 with e1
      injection e1 with e1 e4
      subst e1
      subst e4
      exact .inr ⟨g, 0, c, by rw [e2, e3], fun j x hj => ⟨k _ _ (hc j x hj).1, k _ _ (hc j x hj).2.1, k _ _ (hc j x hj).2.2⟩⟩
  · rcases h.2.2 with h1 | ⟨ad, c, hv, hc⟩
    · exact .inl h1
    · injection hv with e1 e2 e3
      injection e1 with e1
      subst e1
      refine .inr ⟨⟨g, 0, none⟩, c, by rw [e2, e3], fun j u hj => ?_⟩
      have := hc j u hj
      rw [Go.WideShapes.add_plain] at this ⊢
      exact k _ _ this
theorem of_sized {y i y' i' E Y I : Int} {a b r : List Wb.Ln} (h : Wb.IsOf y i a y' i' b E Y I r) : Sized r := by
  by_cases hE : E = 0
  · subst hE
    have k := Wb.of_ok h
    have hr := Wb.delta_right k.del (Wb.wrong_ok k.wa).2.2 (Wb.wrong_ok k.wb).2.2 k.fit
    refine ⟨Nat.le_trans k.few (by decide), fun x hx => ?_⟩
    have h3 := (Wb.lineErr_iff.1 (hr x hx)).2.2.1
    have : x.code.length ≤ 32 := by
      simp [Wb.codeOk] at h3
      exact h3.1.2
    omega
  · rw [(Wb.of_bad h hE).2.2]; exact ⟨by simp, fun x hx => by cases hx⟩
theorem tbl_lit (w : World) (n : Nat) (hn : n = w.heap.size) (L : List Wb.Sl) (T : TypeId) : Tbl 3 slc (w.alloc (.cells (rowsOf slc L).toArray T)) (.slice (some ⟨n, 0, none⟩) L.length L.length) L := by
  subst hn
  refine .inr ⟨_, 0, _, rfl, fun j x hj i u hu => ?_⟩
  have hi : i < 3 := by have := (List.getElem?_eq_some_iff.1 hu).1; rwa [slc_len] at this
  have := rowsOf_get slc_len hj i hi
  rw [hu] at this
  rw [Nat.zero_add]
  simpa [go_sem] using this
theorem was_any (w : World) : Calls Try.prog 28 #[] w fun e w' => ∃ u, e = .returned (SlV 2024 2 u) ∧ LnsS w' u exW ∧ Wb.Ext w w' := by
  go_enter Try.func28, Try.ntmps28
  go_wp2
  refine bodyPost_ret (v := SlV 2024 2 (.slice (some ⟨w.heap.size + 1, 0, none⟩) 2 2)) (by simp [results, Try.results28, go_sem]) rfl ⟨_, rfl, ?_, by (repeat' (first | (with_reducible assumption) | (with_reducible exact Wb.Ext.refl _) | (with_reducible refine Wb.Ext.drew ?_) | (with_reducible refine Wb.Ext.drewN ?_ _) | (with_reducible refine Wb.Ext.alloc ?_ _) | (with_reducible refine Wb.ext_set ?_ (by first | assumption | (simp; done) | (simp; omega) | omega) _) | (with_reducible refine Wb.Ext.trans ?_ (by assumption))))⟩
  refine lnsS_far (lns_lit (w.alloc (.cells #[.int .i64 0, .int .i64 0, .slice none 0 0] 24)) (w.heap.size + 1) (by simp) exW 44) (fun o v hv => ?_)
  have hne : ¬ w.heap.size = w.heap.size + 1 := by omega
  rw [← hv]
  first
    | (simp [go_sem]; done)
    | (simp [go_sem, exW, lnvs, lnv]; done)
    | (simp [go_sem, exW, lnvs, lnv]; rfl)
theorem now_any (w : World) : Calls Try.prog 29 #[] w fun e w' => ∃ u, e = .returned (SlV 2024 2 u) ∧ LnsS w' u exN ∧ Wb.Ext w w' := by
  go_enter Try.func29, Try.ntmps29
  go_wp2
  refine bodyPost_ret (v := SlV 2024 2 (.slice (some ⟨w.heap.size + 1, 0, none⟩) 2 2)) (by simp [results, Try.results29, go_sem]) rfl ⟨_, rfl, ?_, by (repeat' (first | (with_reducible assumption) | (with_reducible exact Wb.Ext.refl _) | (with_reducible refine Wb.Ext.drew ?_) | (with_reducible refine Wb.Ext.drewN ?_ _) | (with_reducible refine Wb.Ext.alloc ?_ _) | (with_reducible refine Wb.ext_set ?_ (by first | assumption | (simp; done) | (simp; omega) | omega) _) | (with_reducible refine Wb.Ext.trans ?_ (by assumption))))⟩
  refine lnsS_far (lns_lit (w.alloc (.cells #[.int .i64 0, .int .i64 0, .slice none 0 0] 24)) (w.heap.size + 1) (by simp) exN 44) (fun o v hv => ?_)
  have hne : ¬ w.heap.size = w.heap.size + 1 := by omega
  rw [← hv]
  first
    | (simp [go_sem]; done)
    | (simp [go_sem, exN, lnvs, lnv]; done)
    | (simp [go_sem, exN, lnvs, lnv]; rfl)
set_option maxHeartbeats 2000000 in
theorem awake29_any (w : World) : Calls Try.prog 10 #[] w fun e w' => e = .returned (.bool true) ∧ Wb.Ext w w' := by
  go_enter Try.func10, Try.ntmps10
  go_wp2_with fail
  go_fit (was_any _); rintro e w1 ⟨u, rfl, hu, hx1⟩
  obtain ⟨uA, uK, rfl⟩ := hu.1.1.shape
  have HU := Lib.hid hu
  clear hu
  go_wp2_with fail
  go_fit (now_any _); rintro e w2 ⟨v, rfl, hv, hb2⟩
  obtain ⟨vA, vK, rfl⟩ := hv.1.1.shape
  have HV := Lib.hid hv
  replace HU := Lib.hid (HU.out.ext hb2)
  have hx2 := hx1.trans hb2
  clear hv hb2
  go_wp2_with fail
  go_fit (dof_any 2024 2 _ exW 2024 2 _ exN _ (HU.out.1.1.ext (by (repeat' (first | (with_reducible assumption) | (with_reducible exact Wb.Ext.refl _) | (with_reducible refine Wb.Ext.drew ?_) | (with_reducible refine Wb.Ext.drewN ?_ _) | (with_reducible refine Wb.Ext.alloc ?_ _) | (with_reducible refine Wb.Ext.trans ?_ (by assumption)))))) exW_sized (HV.out.1.1.ext (by (repeat' (first | (with_reducible assumption) | (with_reducible exact Wb.Ext.refl _) | (with_reducible refine Wb.Ext.drew ?_) | (with_reducible refine Wb.Ext.drewN ?_ _) | (with_reducible refine Wb.Ext.alloc ?_ _) | (with_reducible refine Wb.Ext.trans ?_ (by assumption)))))) exN_sized); rintro e w3 ⟨Y, I, m, E, rfl, r, hO⟩
  obtain ⟨rfl, rfl, rfl, rfl⟩ := ex29_of.uniq hO.of
  obtain ⟨mA, mK, rfl⟩ := hO.lns.1.shape
  have HM := Lib.hid hO.lns
  have hx3 := hx2.trans hO.ext
  clear hO HU HV
  go_wp2_with fail
  go_fit (dnet_any _ [⟨2024, 2, .slice mA exD.length mK, exD⟩, ⟨0, 0, .slice none 0 0, []⟩] _ ⟨tbl_lit (w3.alloc (.cells #[.int .i64 2024, .int .i64 2, .slice mA exD.length mK] 24)) _ (by simp) _ _, fun s hs => by
    simp at hs
    rcases hs with rfl | rfl
    · exact ⟨HM.out.ext (by (repeat' (first | (with_reducible assumption) | (with_reducible exact Wb.Ext.refl _) | (with_reducible refine Wb.Ext.drew ?_) | (with_reducible refine Wb.Ext.drewN ?_ _) | (with_reducible refine Wb.Ext.alloc ?_ _) | (with_reducible refine Wb.Ext.trans ?_ (by assumption))))), exD_sized⟩
    · exact ⟨⟨.inl ⟨rfl, _, _, rfl⟩, Nat.le_refl _⟩, by simp [Sized]⟩⟩ (by simp)); rintro e w4 ⟨rfl, hb4⟩
  rw [ex29_net]
  have c0 : w4.cell? ⟨w3.heap.size, 0, none⟩ = some (.int .i64 2024) := hb4.keep (by simp [go_sem])
  have c1 : w4.cell? ⟨w3.heap.size, 1, none⟩ = some (.int .i64 2) := hb4.keep (by simp [go_sem])
  have c2 : w4.cell? ⟨w3.heap.size, 2, none⟩ = some (.slice mA exD.length mK) := hb4.keep (by simp [go_sem])
  have hn4 : Wb.Ext w3 w4 := Wb.Ext.trans (by (repeat' (first | (with_reducible assumption) | (with_reducible exact Wb.Ext.refl _) | (with_reducible refine Wb.Ext.drew ?_) | (with_reducible refine Wb.Ext.drewN ?_ _) | (with_reducible refine Wb.Ext.alloc ?_ _) | (with_reducible refine Wb.Ext.trans ?_ (by assumption))))) hb4
  replace HM := Lib.hid (HM.out.ext hn4)
  have hx4 := hx3.trans hn4
  clear hb4 hn4
  go_wp2_with fail
  go_fit (same_eq 2024 2 _ _ exD _ (HM.out.1.ext (by (repeat' (first | (with_reducible assumption) | (with_reducible exact Wb.Ext.refl _) | (with_reducible refine Wb.Ext.drew ?_) | (with_reducible refine Wb.Ext.drewN ?_ _) | (with_reducible refine Wb.Ext.alloc ?_ _) | (with_reducible refine Wb.Ext.trans ?_ (by assumption)))))) (lns_lit w4 _ rfl exD _).1.1 exD_sized); rintro e w5 ⟨rfl, hb5⟩
  have hn5 : Wb.Ext w4 w5 := Wb.Ext.trans (by (repeat' (first | (with_reducible assumption) | (with_reducible exact Wb.Ext.refl _) | (with_reducible refine Wb.Ext.drew ?_) | (with_reducible refine Wb.Ext.drewN ?_ _) | (with_reducible refine Wb.Ext.alloc ?_ _) | (with_reducible refine Wb.Ext.trans ?_ (by assumption))))) hb5
  have c0 := hn5.keep c0
  have c1 := hn5.keep c1
  have c2 := hn5.keep c2
  replace HM := Lib.hid (HM.out.ext hn5)
  have hx5 := hx4.trans hn5
  clear hb5 hn5
  go_wp2_with fail
  go_fit (dzero_any 2024 2 _ exD _ (HM.out.1.ext (by (repeat' (first | (with_reducible assumption) | (with_reducible exact Wb.Ext.refl _) | (with_reducible refine Wb.Ext.drew ?_) | (with_reducible refine Wb.Ext.drewN ?_ _) | (with_reducible refine Wb.Ext.alloc ?_ _) | (with_reducible refine Wb.Ext.trans ?_ (by assumption))))))); rintro e w6 ⟨rfl, hb6⟩
  have hn6 : Wb.Ext w5 w6 := Wb.Ext.trans (by (repeat' (first | (with_reducible assumption) | (with_reducible exact Wb.Ext.refl _) | (with_reducible refine Wb.Ext.drew ?_) | (with_reducible refine Wb.Ext.drewN ?_ _) | (with_reducible refine Wb.Ext.alloc ?_ _) | (with_reducible refine Wb.Ext.trans ?_ (by assumption))))) hb6
  have hx6 := hx5.trans hn6
  go_wp2_with fail
  go_fit (dzero_any 0 0 (.slice none 0 0) [] _ (.inl ⟨rfl, _, _, rfl⟩)); rintro e w7 ⟨rfl, hb7⟩
  go_wp2
  go_ret
  exact ⟨rfl, by (repeat' (first | (with_reducible assumption) | (with_reducible exact Wb.Ext.refl _) | (with_reducible refine Wb.Ext.drew ?_) | (with_reducible refine Wb.Ext.drewN ?_ _) | (with_reducible refine Wb.Ext.alloc ?_ _) | (with_reducible refine Wb.Ext.trans ?_ (by assumption))))⟩

end Go.Proofs.Ytdfmlgjemfcmlaa
