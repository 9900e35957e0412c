/- The reference of chapter 29: Of. -/
import Derived.Test.YtdfmlgjemfcmlaaRDel2
import Derived.Deep.DeepCutAuto
import Derived.Deep.CutBlock
namespace Go.Proofs.Ytdfmlgjemfcmlaa
open Go.RowKit Go.Lib
set_option maxRecDepth 8000
attribute [local go_sem ↓] Go.wp_at_zero Go.wp_at_succ

/-- lines in memory, as an append's source too -/
def LnsS (w : World) (v : Value) (l : List Wb.Ln) : Prop := LnsC w v l ∧ Wb.SrcRow w 3 v l.length (lnvs l)
theorem LnsS.ext {w w' : World} {v : Value} {l : List Wb.Ln} (h : LnsS w v l) (k : Wb.Ext w w') : LnsS w' v l := ⟨h.1.ext k, h.2.ext k⟩
/-- a store into one cell -/
theorem st1 {w w' : World} {b o : Nat} {x x' : Value} (hw : w' = w.setCell ⟨b, o, none⟩ x) (h0 : w.cell? ⟨b, o, none⟩ = some x') :
    w'.cell? ⟨b, o, none⟩ = some x ∧ (∀ c k v, (c ≠ b ∨ k ≠ o) → w.cell? ⟨c, k, none⟩ = some v → w'.cell? ⟨c, k, none⟩ = some v) ∧ (∀ p, w'.frozen? p = w.frozen? p) ∧ w'.heap.size = w.heap.size ∧
    (∀ W : World, W.heap.size ≤ b → Wb.Ext W w → Wb.Ext W w') ∧ (∀ base e s n v xs, (∀ k, v.ownBlock = some k → k ≠ b) → w.ownsRow base e s v n xs → w'.ownsRow base e s v n xs) := by
  subst hw
  refine ⟨by simp [go_sem, h0], fun c k v hc hv => ?_, fun p => by simp [go_sem], by simp [go_sem], fun W hW hE => ext_set hE hW _, fun base e s n v xs hk h => row_set2 h hk _⟩
  rw [← hv]
  rcases hc with hc | hc
  · have hc' : ¬ b = c := fun h => hc h.symm
    first
      | (simp [go_sem]; done)
      | simp [go_sem, hc']
      | simp [go_sem, hc]
  · have hc' : ¬ o = k := fun h => hc h.symm
    first
      | (simp [go_sem]; done)
      | simp [go_sem, hc']
      | simp [go_sem, hc]
theorem st3 {w w' : World} {b : Nat} {x y z x' y' z' : Value} (hw : w' = ((w.setCell ⟨b, 0, none⟩ x).setCell ⟨b, 1, none⟩ y).setCell ⟨b, 2, none⟩ z) (h0 : w.cell? ⟨b, 0, none⟩ = some x') (h1 : w.cell? ⟨b, 1, none⟩ = some y') (h2 : w.cell? ⟨b, 2, none⟩ = some z') :
    w'.cell? ⟨b, 0, none⟩ = some x ∧ w'.cell? ⟨b, 1, none⟩ = some y ∧ w'.cell? ⟨b, 2, none⟩ = some z ∧ (∀ c o, c ≠ b → w'.cell? ⟨c, o, none⟩ = w.cell? ⟨c, o, none⟩) ∧ (∀ p, w'.frozen? p = w.frozen? p) ∧ w'.heap.size = w.heap.size ∧
    (∀ W : World, W.heap.size ≤ b → Wb.Ext W w → Wb.Ext W w') := by
  subst hw
  refine ⟨by simp [go_sem, h0], by simp [go_sem, h1], by simp [go_sem, h2], fun c o hc => ?_, fun p => by simp [go_sem], by simp [go_sem], fun W hW hE => ext_set (ext_set (ext_set hE hW _) hW _) hW _⟩
  have hc' : ¬ b = c := fun h => hc h.symm
  first
    | (simp [go_sem]; done)
    | simp [go_sem, hc']
    | simp [go_sem, hc]
theorem of_head {y i y' i' : Int} {a b : List Wb.Ln} (h : Wb.noneB y i a = true ∨ Wb.noneB y' i' b = true ∨ (y = y' ∧ i = i')) :
    (if Wb.noneB y i a = true then y' else y) = (if Wb.noneB y' i' b = true then y else y') ∧ (if Wb.noneB y i a = true then i' else i) = (if Wb.noneB y' i' b = true then i else i') := by
  rcases ha : Wb.noneB y i a with _ | _ <;> rcases hb : Wb.noneB y' i' b with _ | _
  · rw [ha, hb] at h
    obtain ⟨rfl, rfl⟩ : y = y' ∧ i = i' := by simpa using h
    exact ⟨rfl, rfl⟩
  · exact ⟨rfl, rfl⟩
  · exact ⟨rfl, rfl⟩
  · obtain ⟨rfl, rfl, _⟩ := Wb.none_iff.1 ha
    obtain ⟨rfl, rfl, _⟩ := Wb.none_iff.1 hb
    exact ⟨rfl, rfl⟩
/-- what stands in memory: the slips, the result -/
structure RMid (w wx : World) (y i : Int) (u : Value) (y' i' : Int) (u' : Value) : Prop where
  p0 : wx.cell? ⟨w.heap.size, 0, none⟩ = some (.int .i64 y)
  p1 : wx.cell? ⟨w.heap.size, 1, none⟩ = some (.int .i64 i)
  p2 : wx.cell? ⟨w.heap.size, 2, none⟩ = some u
  q0 : wx.cell? ⟨w.heap.size + 1, 0, none⟩ = some (.int .i64 y')
  q1 : wx.cell? ⟨w.heap.size + 1, 1, none⟩ = some (.int .i64 i')
  q2 : wx.cell? ⟨w.heap.size + 1, 2, none⟩ = some u'
  r0 : wx.cell? ⟨w.heap.size + 1 + 1, 0, none⟩ = some (.int .i64 0)
  r1 : wx.cell? ⟨w.heap.size + 1 + 1, 1, none⟩ = some (.int .i64 0)
  r2 : wx.cell? ⟨w.heap.size + 1 + 1, 2, none⟩ = some (.slice none 0 0)
  rf : ∀ j, wx.frozen? ⟨w.heap.size + 1 + 1, j, none⟩ = false
  hi : w.heap.size + 1 + 1 < wx.heap.size
  ext : Wb.Ext w wx
theorem RMid.keep {w wx wz : World} {y i y' i' : Int} {u u' : Value} (h : RMid w wx y i u y' i' u') (k : Wb.Ext wx wz) : RMid w wz y i u y' i' u' :=
  ⟨k.keep h.p0, k.keep h.p1, k.keep h.p2, k.keep h.q0, k.keep h.q1, k.keep h.q2, k.keep h.r0, k.keep h.r1, k.keep h.r2, fun j => (Below.frozen k h.hi).trans (h.rf j), Nat.lt_of_lt_of_le h.hi k.size, h.ext.trans k⟩
/-- a store behind them leaves them -/
theorem RMid.set {w wx wz : World} {y i y' i' : Int} {u u' : Value} (h : RMid w wx y i u y' i' u') {b : Nat} (hb : w.heap.size + 1 + 1 < b) (hk : ∀ c k v, c ≠ b → wx.cell? ⟨c, k, none⟩ = some v → wz.cell? ⟨c, k, none⟩ = some v) (hf : ∀ p, wz.frozen? p = wx.frozen? p) (hz : wz.heap.size = wx.heap.size) (he : Wb.Ext w wz) : RMid w wz y i u y' i' u' :=
  ⟨hk _ _ _ (by omega) h.p0, hk _ _ _ (by omega) h.p1, hk _ _ _ (by omega) h.p2, hk _ _ _ (by omega) h.q0, hk _ _ _ (by omega) h.q1, hk _ _ _ (by omega) h.q2, hk _ _ _ (by omega) h.r0, hk _ _ _ (by omega) h.r1, hk _ _ _ (by omega) h.r2, fun j => (hf _).trans (h.rf j), by rw [hz]; exact h.hi, he⟩
/-- what the reference's Of yields -/
structure IsOfR (w w' : World) (y i : Int) (a : List Wb.Ln) (y' i' : Int) (b : List Wb.Ln) (E Y I : Int) (m : Value) (r : List Wb.Ln) : Prop where
  of : Wb.IsOf y i a y' i' b E Y I r
  lns : LnsC w' m r
  ext : Wb.Ext w w'
  new : ∀ q, m.ownBlock = some q → w.heap.size ≤ q

theorem wlen {y i : Int} {l : List Wb.Ln} (h : Wb.wrongE y i l = 0) : l.length ≤ 448 := by
  rcases hn : Wb.noneB y i l with _ | _
  · exact (Wb.check_ok (Wb.wrong_some h hn)).2.2.2.2.1
  · obtain ⟨_, _, rfl⟩ := Wb.none_iff.1 hn; exact Nat.zero_le _
theorem lvb {l : List Wb.Ln} (h : Wb.Rise l) (hc : Wb.Cfit l) (p : Int) (c : List UInt8) : -1125899906842624 ≤ Wb.lval p c l ∧ Wb.lval p c l ≤ 1125899906842624 := by
  by_cases hm : ∃ x ∈ l, x.part = p ∧ x.code = c
  · obtain ⟨x, hx, rfl, rfl⟩ := hm
    rw [Wb.lval_mem h hx]; exact hc x hx
  · rw [Wb.lval_none fun x hx e => hm ⟨x, hx, e⟩]; omega
theorem put_len : ∀ (l : List Wb.Ln) (x : Wb.Ln), (Wb.putL l x).length ≤ l.length + 1
  | [], x => by simp [Wb.putL]
  | z :: r, x => by
    rw [Wb.putL]
    split
    · have := put_len r x; simp; omega
    · split <;> simp
theorem fold_len (a b : List Wb.Ln) : ∀ (q r : List Wb.Ln), (q.foldl (Wb.dStep a b) r).length ≤ r.length + q.length
  | [], r => by simp
  | z :: q, r => by
    rw [List.foldl_cons]
    have h1 := fold_len a b q (Wb.dStep a b r z)
    have h2 : (Wb.dStep a b r z).length ≤ r.length + 1 := by
      unfold Wb.dStep; split
      · omega
      · exact put_len _ _
    simp only [List.length_cons]; omega
set_option maxHeartbeats 8000000 in
theorem rof29_any (y i : Int) (u : Value) (a : List Wb.Ln) (y' i' : Int) (u' : Value) (b : List Wb.Ln) (w : World) (hu : LnsS w u a) (hs : Sized a) (hu' : LnsS w u' b) (hs' : Sized b) :
    Calls Try.prog 14 #[SlV y i u, SlV y' i' u'] w fun e w' => ∃ Y I m E, e = .returned (.tuple #[SlV Y I m, .int .i64 E]) ∧ ∃ r, IsOfR w w' y i a y' i' b E Y I m r := by
  obtain ⟨i0, hi, hz0, hz1, hz2⟩ := info_parts infoLine
  have HIN := Lib.hid (show Try.prog.info? 44 = some i0 ∧ i0.zero = some (.agg #[.int .i64 0, .string "".toUTF8, .int .i64 0]) ∧ i0.size = 3 ∧ i0.bytes = 32 from ⟨hi, hz0, hz1, hz2⟩)
  clear hi hz0 hz1 hz2
  obtain ⟨uA, uK, rfl⟩ := hu.1.1.shape
  obtain ⟨vA, vK, rfl⟩ := hu'.1.1.shape
  have Ha := Lib.hid hu
  have Hb := Lib.hid hu'
  have HSa := Lib.hid hs
  have HSb := Lib.hid hs'
  clear hu hu' hs hs'
  go_enter Try.func14, Try.ntmps14
  go_wp2_with fail
  go_fit (rwrong_any y i _ a _ (Ha.out.1.1.ext (by (repeat' (first | (with_reducible assumption) | (with_reducible exact Wb.Ext.refl _) | (with_reducible refine Wb.Ext.drew ?_) | (with_reducible refine Wb.Ext.drewN ?_ _) | (with_reducible refine Wb.Ext.alloc ?_ _) | (with_reducible refine Wb.Ext.trans ?_ (by assumption)))))) HSa.out); rintro e w1 ⟨rfl, hb1⟩
  have HM1 := Lib.hid (show RMid w w1 y i (.slice uA a.length uK) y' i' (.slice vA b.length vK) from
    ⟨hb1.keep (by simp [go_sem]), hb1.keep (by simp [go_sem]), hb1.keep (by simp [go_sem]), hb1.keep (by simp [go_sem]), hb1.keep (by simp [go_sem]), hb1.keep (by simp [go_sem]), hb1.keep (by simp [go_sem]), hb1.keep (by simp [go_sem]), hb1.keep (by simp [go_sem]), fun j => (Below.frozen hb1 (by simp)).trans (by simp [go_sem]), by have := hb1.size; simp at this; omega, Wb.Ext.trans (by (repeat' (first | (with_reducible assumption) | (with_reducible exact Wb.Ext.refl _) | (with_reducible refine Wb.Ext.drew ?_) | (with_reducible refine Wb.Ext.drewN ?_ _) | (with_reducible refine Wb.Ext.alloc ?_ _) | (with_reducible refine Wb.Ext.trans ?_ (by assumption))))) hb1⟩)
  clear hb1
  obtain ⟨E1, hE1⟩ : ∃ E1, Wb.wrongE y i a = E1 := ⟨_, rfl⟩
  have HE1 := Lib.hid hE1
  rw [hE1]
  clear hE1
  obtain ⟨p0, p1, p2, q0, q1, q2, r0, r1, r2, rf, hi, hxm⟩ := HM1.out
  by_cases h1 : E1 = 0
  case neg =>
    have d : (E1 == 0) = false := by simpa using h1
    have d2 : (E1 != 0) = true := by simpa using h1
    have HO := Lib.hid (show Wb.IsOf y i a y' i' b E1 0 0 [] by have := Wb.IsOf.bad1 (y := y) (i := i) (a := a) (y' := y') (i' := i') (b := b) (by rw [HE1.out]; exact h1); rwa [HE1.out] at this)
    clear h1
    go_wp2
    refine bodyPost_ret (v := .tuple #[SlV 0 0 (.slice none 0 0), .int .i64 E1]) (by simp [results, Try.results14, go_sem, r0, r1, r2]) rfl ⟨0, 0, _, E1, rfl, [], HO.out, ⟨.inl ⟨rfl, _, _, rfl⟩, Nat.le_refl _⟩, by (repeat' (first | (with_reducible assumption) | (with_reducible exact Wb.Ext.refl _) | (with_reducible refine Wb.Ext.drew ?_) | (with_reducible refine Wb.Ext.drewN ?_ _) | (with_reducible refine Wb.Ext.alloc ?_ _) | (with_reducible refine Wb.ext_set ?_ (by first | assumption | (simp; done) | (simp; omega) | omega) _) | (with_reducible refine Wb.Ext.trans ?_ (by assumption)))), fun q hq => by cases hq⟩
  subst h1
  go_wp2_with fail
  go_fit (rwrong_any y' i' _ b _ (Hb.out.1.1.ext hxm) HSb.out); rintro e w2 ⟨rfl, hb2⟩
  replace HM1 := Lib.hid (HM1.out.keep hb2)
  clear hb2 p0 p1 p2 q0 q1 q2 r0 r1 r2 rf hi hxm
  obtain ⟨p0, p1, p2, q0, q1, q2, r0, r1, r2, rf, hi, hxm⟩ := HM1.out
  obtain ⟨E2, hE2⟩ : ∃ E2, Wb.wrongE y' i' b = E2 := ⟨_, rfl⟩
  have HE2 := Lib.hid hE2
  rw [hE2]
  clear hE2
  by_cases h2 : E2 = 0
  case neg =>
    have d : (E2 == 0) = false := by simpa using h2
    have d2 : (E2 != 0) = true := by simpa using h2
    have HO := Lib.hid (show Wb.IsOf y i a y' i' b E2 0 0 [] by have := Wb.IsOf.bad2 (y := y) (i := i) (a := a) (y' := y') (i' := i') (b := b) HE1.out (by rw [HE2.out]; exact h2); rwa [HE2.out] at this)
    clear h2
    go_wp2
    refine bodyPost_ret (v := .tuple #[SlV 0 0 (.slice none 0 0), .int .i64 E2]) (by simp [results, Try.results14, go_sem, r0, r1, r2]) rfl ⟨0, 0, _, E2, rfl, [], HO.out, ⟨.inl ⟨rfl, _, _, rfl⟩, Nat.le_refl _⟩, by (repeat' (first | (with_reducible assumption) | (with_reducible exact Wb.Ext.refl _) | (with_reducible refine Wb.Ext.drew ?_) | (with_reducible refine Wb.Ext.drewN ?_ _) | (with_reducible refine Wb.Ext.alloc ?_ _) | (with_reducible refine Wb.ext_set ?_ (by first | assumption | (simp; done) | (simp; omega) | omega) _) | (with_reducible refine Wb.Ext.trans ?_ (by assumption)))), fun q hq => by cases hq⟩
  subst h2
  obtain ⟨N1, hN1⟩ : ∃ N1, Wb.noneB y i a = N1 := ⟨_, rfl⟩
  have HN1 := Lib.hid hN1
  clear hN1
  obtain ⟨N2, hN2⟩ : ∃ N2, Wb.noneB y' i' b = N2 := ⟨_, rfl⟩
  have HN2 := Lib.hid hN2
  clear hN2
  go_upto_region 7 with (fail)
  go_cut [44] (fun t wx => ∃ c : Bool, t = .bool c ∧ Hid (c = true → Wb.noneB y i a = false ∧ Wb.noneB y' i' b = false ∧ (y ≠ y' ∨ i ≠ i')) ∧ Hid (c = false → Wb.noneB y i a = true ∨ Wb.noneB y' i' b = true ∨ (y = y' ∧ i = i')) ∧ RMid w wx y i (.slice uA a.length uK) y' i' (.slice vA b.length vK))
  case first =>
    go_wp2_with fail
    go_fit (rzero_any y i _ a _ (Ha.out.1.1.ext hxm)); rintro e w3 ⟨rfl, hb3⟩
    replace HM1 := Lib.hid (HM1.out.keep hb3)
    clear hb3 p0 p1 p2 q0 q1 q2 r0 r1 r2 rf hi hxm
    obtain ⟨p0, p1, p2, q0, q1, q2, r0, r1, r2, rf, hi, hxm⟩ := HM1.out
    rw [HN1.out]
    cases N1
    · go_wp2_with fail
      go_fit (rzero_any y' i' _ b _ (Hb.out.1.1.ext hxm)); rintro e w4 ⟨rfl, hb4⟩
      replace HM1 := Lib.hid (HM1.out.keep hb4)
      clear hb4 p0 p1 p2 q0 q1 q2 r0 r1 r2 rf hi hxm
      obtain ⟨p0, p1, p2, q0, q1, q2, r0, r1, r2, rf, hi, hxm⟩ := HM1.out
      rw [HN2.out]
      cases N2
      · by_cases hy : y = y'
        · have d : (y == y') = true := by simpa using hy
          have d2 : (y != y') = false := by simpa using hy
          by_cases hi2 : i = i'
          · have d3 : (i == i') = true := by simpa using hi2
            have d4 : (i != i') = false := by simpa using hi2
            have HC := Lib.hid (And.intro hy hi2)
            clear hy hi2
            go_wp2_with fail
            go_meet
            exact ⟨false, by first | rfl | simp, Lib.hid (fun h => by cases h), Lib.hid (fun _ => .inr (.inr HC.out)), HM1.out⟩
          · have d3 : (i == i') = false := by simpa using hi2
            have d4 : (i != i') = true := by simpa using hi2
            have HC := Lib.hid hi2
            clear hy hi2
            go_wp2_with fail
            go_meet
            exact ⟨true, by first | rfl | simp, Lib.hid (fun _ => ⟨HN1.out, HN2.out, .inr HC.out⟩), Lib.hid (fun h => by cases h), HM1.out⟩
        · have d : (y == y') = false := by simpa using hy
          have d2 : (y != y') = true := by simpa using hy
          have HC := Lib.hid hy
          clear hy
          go_wp2_with fail
          go_meet
          exact ⟨true, by first | rfl | simp, Lib.hid (fun _ => ⟨HN1.out, HN2.out, .inl HC.out⟩), Lib.hid (fun h => by cases h), HM1.out⟩
      · go_wp2_with fail
        go_meet
        exact ⟨false, by first | rfl | simp, Lib.hid (fun h => by cases h), Lib.hid (fun _ => .inr (.inl HN2.out)), HM1.out⟩
    · go_wp2_with fail
      go_meet
      exact ⟨false, by first | rfl | simp, Lib.hid (fun h => by cases h), Lib.hid (fun _ => .inl HN1.out), HM1.out⟩
  case rest =>
    obtain ⟨c, hc, HC1, HC2, hmid⟩ := hcut
    subst hc
    clear p0 p1 p2 q0 q1 q2 r0 r1 r2 rf hi hxm HM1
    have HM1 := Lib.hid hmid
    obtain ⟨p0, p1, p2, q0, q1, q2, r0, r1, r2, rf, hi, hxm⟩ := hmid
    cases c
    case true =>
      have HO := Lib.hid (Wb.IsOf.state (y := y) (i := i) (a := a) (y' := y') (i' := i') (b := b) HE1.out HE2.out (HC1.out rfl).1 (HC1.out rfl).2.1 (HC1.out rfl).2.2)
      go_wp2
      refine bodyPost_ret (v := .tuple #[SlV 0 0 (.slice none 0 0), .int .i64 18]) (by simp [results, Try.results14, go_sem, r0, r1, r2]) rfl ⟨0, 0, _, 18, rfl, [], HO.out, ⟨.inl ⟨rfl, _, _, rfl⟩, Nat.le_refl _⟩, by (repeat' (first | (with_reducible assumption) | (with_reducible exact Wb.Ext.refl _) | (with_reducible refine Wb.Ext.drew ?_) | (with_reducible refine Wb.Ext.drewN ?_ _) | (with_reducible refine Wb.Ext.alloc ?_ _) | (with_reducible refine Wb.ext_set ?_ (by first | assumption | (simp; done) | (simp; omega) | omega) _) | (with_reducible refine Wb.Ext.trans ?_ (by assumption)))), fun q hq => by cases hq⟩
    case false =>
      have HC := Lib.hid (HC2.out rfl)
      clear HC1 HC2
      go_upto_region 10 with (fail)
      refine Wb.wp_at fun W8 hW8 => ?_
      obtain ⟨H, hH⟩ : ∃ H, wc.heap.size = H := ⟨_, rfl⟩
      have hb8 : Wb.Ext wc W8 := by rw [hW8]; (repeat' (first | (with_reducible assumption) | (with_reducible exact Wb.Ext.refl _) | (with_reducible refine Wb.Ext.drew ?_) | (with_reducible refine Wb.Ext.drewN ?_ _) | (with_reducible refine Wb.Ext.alloc ?_ _) | (with_reducible refine Wb.ext_set ?_ (by first | assumption | (simp; done) | (simp; omega) | omega) _) | (with_reducible refine Wb.Ext.trans ?_ (by assumption))))
      have h0 : W8.cell? ⟨H, 0, none⟩ = some (.int .i64 y) := by rw [hW8, ← hH]; simp [go_sem]
      have h1 : W8.cell? ⟨H, 1, none⟩ = some (.int .i64 i) := by rw [hW8, ← hH]; simp [go_sem]
      have h2 : W8.cell? ⟨H, 2, none⟩ = some (.slice none 0 0) := by rw [hW8, ← hH]; simp [go_sem]
      have hf : ∀ j, W8.frozen? ⟨H, j, none⟩ = false := fun j => by rw [hW8, ← hH]; simp [go_sem]
      have hH8 : H < W8.heap.size := by rw [hW8, ← hH]; simp
      have hHI : w.heap.size + 1 + 1 < H := by omega
      replace HM1 := Lib.hid (HM1.out.keep hb8)
      rw [hH]
      clear hW8 hb8 p0 p1 p2 q0 q1 q2 r0 r1 r2 rf hi hxm hH
      obtain ⟨p0, p1, p2, q0, q1, q2, r0, r1, r2, rf, hi, hxm⟩ := HM1.out
      go_wp2_with fail
      go_fit (rzero_any y i _ a _ (Ha.out.1.1.ext hxm)); rintro e w3 ⟨rfl, hb3⟩
      replace HM1 := Lib.hid (HM1.out.keep hb3)
      have h0 := hb3.keep h0
      have h1 := hb3.keep h1
      have h2 := hb3.keep h2
      have hf : ∀ j, w3.frozen? ⟨H, j, none⟩ = false := fun j => (Below.frozen hb3 (by simpa using hH8)).trans (hf j)
      have hH1 : H < w3.heap.size := Nat.lt_of_lt_of_le hH8 hb3.size
      clear hb3 p0 p1 p2 q0 q1 q2 r0 r1 r2 rf hi hxm hH8
      obtain ⟨p0, p1, p2, q0, q1, q2, r0, r1, r2, rf, hi, hxm⟩ := HM1.out
      rw [HN1.out]
      go_upto_if 52 with (fail)
      go_cut [] (fun wx => ∃ Y I, RMid w wx y i (.slice uA a.length uK) y' i' (.slice vA b.length vK) ∧ wx.cell? ⟨H, 0, none⟩ = some (.int .i64 Y) ∧ wx.cell? ⟨H, 1, none⟩ = some (.int .i64 I) ∧ wx.cell? ⟨H, 2, none⟩ = some (.slice none 0 0) ∧ (∀ j, wx.frozen? ⟨H, j, none⟩ = false) ∧ w.heap.size + 1 + 1 < H ∧ H < wx.heap.size ∧ Hid (Y = (if Wb.noneB y i a = true then y' else y) ∧ I = (if Wb.noneB y i a = true then i' else i)))
      case first =>
        cases N1
        · go_wp2_with fail
          go_meet
          exact ⟨y, i, HM1.out, h0, h1, h2, hf, hHI, hH1, Lib.hid ⟨by rw [HN1.out]; rfl, by rw [HN1.out]; rfl⟩⟩
        · have HST := Lib.hid (st3 (w := w3) (b := H) (x := .int .i64 y') (y := .int .i64 i') (z := .slice none 0 0) rfl h0 h1 h2)
          go_wp2_with fail
          go_meet
          obtain ⟨t0, t1, t2, tk, tf, tz, te⟩ := HST.out
          exact ⟨y', i', (HM1.out.set (b := H) hHI (fun c k v hc hv => (tk c k hc).trans hv) tf tz (te w (by omega) HM1.out.ext)), t0, t1, t2, fun j => (tf _).trans (hf j), hHI, by have := tz; simp at this ⊢; omega, Lib.hid ⟨by rw [HN1.out]; rfl, by rw [HN1.out]; rfl⟩⟩
      case rest =>
        clear p0 p1 p2 q0 q1 q2 r0 r1 r2 rf hi hxm HM1 h0 h1 h2 hf hH1 hHI
        obtain ⟨Y, I, hmid, h0, h1, h2, hf, hHI, hH1, HYI⟩ := hcut
        have HMC := Lib.hid hmid
        have HHI := Lib.hid hHI
        obtain ⟨p0, p1, p2, q0, q1, q2, r0, r1, r2, rf, hi, hxm⟩ := hmid
        have HWA := Lib.hid (Wb.wrong_ok HE1.out)
        have HWB := Lib.hid (Wb.wrong_ok HE2.out)
        have HRa := Lib.hid HWA.out.1
        have HRb := Lib.hid HWB.out.1
        have HCa : Hid (Wb.Cfit a) := Lib.hid (fun x hx => (Wb.fits_iff _).1 (Wb.lineErr_ok (HWA.out.2.2 x hx)).2.2.2.2)
        have HCb : Hid (Wb.Cfit b) := Lib.hid (fun x hx => (Wb.fits_iff _).1 (Wb.lineErr_ok (HWB.out.2.2 x hx)).2.2.2.2)
        have hla : a.length ≤ 1000000 := Nat.le_trans (wlen HE1.out) (by decide)
        have hlb : b.length ≤ 1000000 := Nat.le_trans (wlen HE2.out) (by decide)
        have hla4 : a.length ≤ 448 := wlen HE1.out
        have hlb4 : b.length ≤ 448 := wlen HE2.out
        go_upto_region 12 with (fail)
        refine Wb.wp_at fun W0 hW0 => ?_
        have hb0 : Wb.Ext wc W0 := by rw [hW0]; (repeat' (first | (with_reducible assumption) | (with_reducible exact Wb.Ext.refl _) | (with_reducible refine Wb.Ext.drew ?_) | (with_reducible refine Wb.Ext.drewN ?_ _) | (with_reducible refine Wb.Ext.alloc ?_ _) | (with_reducible refine Wb.Ext.trans ?_ (by assumption))))
        have p2 := hb0.keep p2
        have q2 := hb0.keep q2
        have h0 := hb0.keep h0
        have h1 := hb0.keep h1
        have h2 := hb0.keep h2
        have hf : ∀ j, W0.frozen? ⟨H, j, none⟩ = false := fun j => (Below.frozen hb0 hH1).trans (hf j)
        have hH1 : H < W0.heap.size := Nat.lt_of_lt_of_le hH1 hb0.size
        have HM0 := Lib.hid (HMC.out.keep hb0)
        have HX0 := Lib.hid HM0.out.ext
        have hHW := hH1
        clear hW0 hb0 p0 p1 q0 q1 r0 r1 r2 rf hi hxm
        refine region_start (S := (fun w' => w'.cell? ⟨w.heap.size, 2, none⟩ = some (.slice uA a.length uK) ∧ w'.cell? ⟨w.heap.size + 1, 2, none⟩ = some (.slice vA b.length vK))) (n := 8) (l := #[false, false, false, false, false, false, false, false]) (by kernel_rfl) ⟨p2, q2⟩ (by kernel_rfl) (by kernel_rfl) (fun hHeld => ?_)
        refine take_d (i := 1) (d := 59) (v := ?_) rfl rfl (by kernel_rfl) (by kernel_rfl) (by kernel_rfl) (fun _ _ _ h => h) (Or.inl ⟨by rfl, ?_⟩) (by assumption) ?_
        rotate_left
        · (intro w hSw; (try dsimp only at hSw); go_simp; (try with_reducible rfl))
        (try simp only [Act.put, List.setIfInBounds_toArray, List.set_cons_zero, List.set_cons_succ])
        refine take_d (i := 2) (d := 60) (v := ?_) rfl rfl (by kernel_rfl) (by kernel_rfl) (by kernel_rfl) (fun _ _ _ h => h) (Or.inl ⟨by rfl, ?_⟩) (by assumption) ?_
        rotate_left
        · (intro w hSw; (try dsimp only at hSw); go_simp; (try with_reducible rfl))
        (try simp only [Act.put, List.setIfInBounds_toArray, List.set_cons_zero, List.set_cons_succ])
        refine take_d (i := 4) (d := 62) (v := ?_) rfl rfl (by kernel_rfl) (by kernel_rfl) (by kernel_rfl) (fun _ _ _ h => h) (Or.inl ⟨by rfl, ?_⟩) (by assumption) ?_
        rotate_left
        · (intro w hSw; (try dsimp only at hSw); go_simp; (try with_reducible rfl))
        (try simp only [Act.put, List.setIfInBounds_toArray, List.set_cons_zero, List.set_cons_succ])
        refine take_d (i := 5) (d := 63) (v := ?_) rfl rfl (by kernel_rfl) (by kernel_rfl) (by kernel_rfl) (fun _ _ _ h => h) (Or.inl ⟨by rfl, ?_⟩) (by assumption) ?_
        rotate_left
        · (intro w hSw; (try dsimp only at hSw); go_simp; (try with_reducible rfl))
        (try simp only [Act.put, List.setIfInBounds_toArray, List.set_cons_zero, List.set_cons_succ])
        refine wpAnyH_ready (rs := [0]) (by kernel_rfl) (by simp) ?_
        refine AllReadyH.cons (o := _) rfl (fun K hK => ?_) AllReadyH.nil
        go_simp
        refine atK fun w1 hw1 => ?_
        have hx1 : Wb.Ext W0 w1 := by rw [hw1]; exact Wb.Ext.alloc (.drew (.refl _)) _
        obtain ⟨gr, gre⟩ : ∃ g, W0.heap.size = g := ⟨_, rfl⟩
        have grh : gr < w1.heap.size := by rw [hw1, ← gre]; simp
        have HO1 := Lib.hid (show w1.ownsRow W0.heap.size 44 3 (.slice (some ⟨gr, 0, none⟩) 0 0) 0 [] by rw [hw1, ← gre]; exact own_empty (w := W0) (by first | exact Nat.le_refl _ | exact (.drew (.refl _)).size))
        (try rw [gre])
        clear hw1 gre
        refine hK.out _ _ ⟨hx1.keep p2, hx1.keep q2⟩ (fun hHeld => ?_)
        clear hK K
        (try simp only [List.setIfInBounds_toArray, List.set_cons_zero])
        refine wpAnyH_ready (rs := [3]) (by kernel_rfl) (by simp) ?_
        refine AllReadyH.cons (o := _) rfl (fun K hK => ?_) AllReadyH.nil
        obtain ⟨hi, hz0, hz1, hz2⟩ := HIN.out
        refine Wb.step_append_row (by rfl) _ _ _ (by rfl) W0.heap.size 44 i0 (.agg #[.int .i64 0, .string "".toUTF8, .int .i64 0]) 3 32 Try.underlying22 hi hz0 hz1 hz2 (by rfl) (by decide) _ (0) ([]) (by rfl) (HO1.out) _ (by rfl) (a.length) (lnvs a) ((Ha.out.ext (HX0.out.trans hx1)).2) (lnv_one _) (by unfold maxLen; omega) (by omega) (Below.size (show Wb.Ext W0 w1 from hx1)) ?_
        intro v2 w2 ho2 hg2 hat2
        obtain ⟨N2, hN2⟩ : ∃ n, n = 0 + (a.length) := ⟨_, rfl⟩
        rw [← hN2] at ho2
        have HN2 := Lib.hid hN2
        have hNb2 : N2 ≤ 0 + (a.length) := Nat.le_of_eq hN2
        clear hN2
        have HO2 := Lib.hid ho2
        have hx2 : Wb.Ext W0 w2 := Wb.Ext.grown hx1 hg2 (fun q hq => (HO1.out.lt q hq).1)
        obtain ⟨ra2, rc2, rfl⟩ := row_shape3 ho2
        replace grh : gr < w2.heap.size := Nat.lt_of_lt_of_le grh hg2.size
        clear hi hz0 hz1 hz2 ho2 hg2 hat2
        refine hK.out _ _ ⟨hx2.keep p2, hx2.keep q2⟩ (fun hHeld => ?_)
        clear hK K
        (try simp only [List.setIfInBounds_toArray, List.set_cons_zero, List.set_cons_succ])
        refine wpAnyH_ready (rs := [6]) (by kernel_rfl) (by simp) ?_
        refine AllReadyH.cons (o := _) rfl (fun K hK => ?_) AllReadyH.nil
        obtain ⟨hi, hz0, hz1, hz2⟩ := HIN.out
        refine Wb.step_append_row (by rfl) _ _ _ (by rfl) W0.heap.size 44 i0 (.agg #[.int .i64 0, .string "".toUTF8, .int .i64 0]) 3 32 Try.underlying22 hi hz0 hz1 hz2 (by rfl) (by decide) _ (N2) ([] ++ lnvs a) (by rfl) (HO2.out) _ (by rfl) (b.length) (lnvs b) ((Hb.out.ext (HX0.out.trans hx2)).2) (lnv_one _) (by unfold maxLen; omega) (by omega) (Below.size (show Wb.Ext W0 w2 from hx2)) ?_
        intro v3 w3 ho3 hg3 hat3
        obtain ⟨N3, hN3⟩ : ∃ n, n = N2 + (b.length) := ⟨_, rfl⟩
        rw [← hN3] at ho3
        have HN3 := Lib.hid hN3
        have hNb3 : N3 ≤ N2 + (b.length) := Nat.le_of_eq hN3
        clear hN3
        have HO3 := Lib.hid ho3
        have hx3 : Wb.Ext W0 w3 := Wb.Ext.grown hx2 hg3 (fun q hq => (HO2.out.lt q hq).1)
        obtain ⟨ra3, rc3, rfl⟩ := row_shape3 ho3
        replace grh : gr < w3.heap.size := Nat.lt_of_lt_of_le grh hg3.size
        clear hi hz0 hz1 hz2 ho3 hg3 hat3
        refine hK.out _ _ ⟨hx3.keep p2, hx3.keep q2⟩ (fun hHeld => ?_)
        clear hK K
        (try simp only [List.setIfInBounds_toArray, List.set_cons_zero, List.set_cons_succ])
        refine take_d (i := 7) (d := 8) (v := ?_) rfl rfl (by kernel_rfl) (by kernel_rfl) (by kernel_rfl) (fun _ _ _ h => h) (Or.inl ⟨by rfl, ?_⟩) (by assumption) ?_
        rotate_left
        · (intro w hSw; (try dsimp only at hSw); go_simp; (try with_reducible rfl))
        (try simp only [Act.put, List.setIfInBounds_toArray, List.set_cons_zero, List.set_cons_succ])
        refine wpAnyH_done (by kernel_rfl) ?_ _
        have HX2 := Lib.hid (HX0.out.trans hx3)
        have HM2 := Lib.hid (HM0.out.keep hx3)
        have h0 := hx3.keep h0
        have h1 := hx3.keep h1
        have h2 := hx3.keep h2
        have hf : ∀ j, w3.frozen? ⟨H, j, none⟩ = false := fun j => (Below.frozen hx3 (by omega)).trans (hf j)
        have hH2 : H < w3.heap.size := Nat.lt_of_lt_of_le hH1 hx3.size
        have HLEN := Lib.hid (show N3 = (a ++ b).length by rw [HN3.out, HN2.out]; simp)
        have HBO := Lib.hid (show LnR W0.heap.size w3 (.slice ra3 (a ++ b).length rc3) (a ++ b) by
          have h1 := HO3.out
          unfold LnR
          rw [← HLEN.out, show lnvs (a ++ b) = [] ++ lnvs a ++ lnvs b by simp [lnvs]]
          exact h1)
        have hab0 : (a ++ b).length ≤ 896 := by rw [List.length_append]; omega
        rw [HLEN.out]
        obtain ⟨ab, hABe⟩ : ∃ l, a ++ b = l := ⟨_, rfl⟩
        replace HBO := Lib.hid (show LnR W0.heap.size w3 (.slice ra3 ab.length rc3) ab by rw [← hABe]; exact HBO.out)
        have HAB := Lib.hid hABe
        have hab : ab.length ≤ 896 := by rw [← hABe]; exact hab0
        rw [hABe]
        clear HO3 hx3 hABe hab0 HLEN
        go_wp2_with fail
        go_loopw [9] (fun iv wr => ∃ (k : Nat) (r : List Wb.Ln) (m : Value), k ≤ ab.length ∧ iv = .int .i64 k ∧ wr.cell? ⟨H, 0, none⟩ = some (.int .i64 Y) ∧ wr.cell? ⟨H, 1, none⟩ = some (.int .i64 I) ∧ wr.cell? ⟨H, 2, none⟩ = some m ∧ (∀ j, wr.frozen? ⟨H, j, none⟩ = false) ∧ LnR (H + 1) wr m r ∧ H < wr.heap.size ∧
            Hid (r = (ab.take k).foldl (Wb.dStep a b) []) ∧ Hid (∀ t z, ab[t]? = some z → t < k → Wb.fits (Wb.dv a b z) = true) ∧ RMid w wr y i (.slice uA a.length uK) y' i' (.slice vA b.length vK) ∧ LnR W0.heap.size wr (.slice ra3 ab.length rc3) ab) (fun iv _ => ab.length - (intOf iv).toNat)
        case atStart => exact ⟨0, [], _, Nat.zero_le _, rfl, h0, h1, h2, hf, LnR.nil, hH2, Lib.hid rfl, Lib.hid (fun t z _ h => absurd h (Nat.not_lt_zero _)), HM2.out, HBO.out⟩
        case round =>
          obtain ⟨k, r, m, hk, rfl, h0, h1, h2, hf, hrow, hHr, HSR, HLO, hmid, hbo⟩ := hrel
          obtain ⟨ma, mc, rfl⟩ := hrow.shape
          have hrl : r.length ≤ 896 := by
            rw [HSR.out]
            have h9 := fold_len a b (ab.take k) []
            rw [List.length_take] at h9
            simp at h9
            omega
          have HR := Lib.hid hrow
          have HM := Lib.hid hmid
          have HB := Lib.hid hbo
          have hxr := hmid.ext
          obtain ⟨p0, p1, p2, q0, q1, q2, r0, r1, r2, rf, hi, hxm⟩ := hmid
          clear hrow hbo
          by_cases hlt : k < ab.length
          · obtain ⟨x, hy⟩ := Wb.get_ex hlt
            obtain ⟨bb, hra, hcells⟩ : ∃ bb, ra3 = some ⟨bb, 0, none⟩ ∧ ∀ j u, (lnvs ab)[j]? = some u → wr.cell? ⟨bb, j, none⟩ = some u := by
              obtain ⟨g, cap, hv, _, _, _, hc⟩ := Wb.ownsRow_at HB.out (by intro e; injection e with _ e2; omega)
              injection hv with e1
              exact ⟨g, e1, hc⟩
            subst hra
            obtain ⟨g0, g1, g2⟩ := lnvs_get hy
            have c0 := hcells _ _ g0
            have c1 := hcells _ _ g1
            have c2 := hcells _ _ g2
            have hki : (k : Int) < ab.length := by omega
            have HY := Lib.hid hy
            clear hcells hy g0 g1 g2
            go_upto_region 17 with (fail)
            refine Wb.wp_at fun W7 hW7 => ?_
            obtain ⟨X, hX⟩ : ∃ X, wr.heap.size = X := ⟨_, rfl⟩
            have hb7 : Wb.Ext wr W7 := by rw [hW7]; (repeat' (first | (with_reducible assumption) | (with_reducible exact Wb.Ext.refl _) | (with_reducible refine Wb.Ext.drew ?_) | (with_reducible refine Wb.Ext.drewN ?_ _) | (with_reducible refine Wb.Ext.alloc ?_ _) | (with_reducible refine Wb.ext_set ?_ (by first | assumption | (simp; done) | (simp; omega) | omega) _) | (with_reducible refine Wb.Ext.trans ?_ (by assumption))))
            have x0 : W7.cell? ⟨X, 0, none⟩ = some (.int .i64 x.part) := by rw [hW7, ← hX]; simp [go_sem]
            have x1 : W7.cell? ⟨X, 1, none⟩ = some (.string (Wb.S x.code)) := by rw [hW7, ← hX]; simp [go_sem]
            have x2 : W7.cell? ⟨X, 2, none⟩ = some (.int .i64 x.cents) := by rw [hW7, ← hX]; simp [go_sem]
            have xf : ∀ j, W7.frozen? ⟨X, j, none⟩ = false := fun j => by rw [hW7, ← hX]; simp [go_sem]
            have hX2 : X < W7.heap.size := by rw [hW7, ← hX]; simp
            have p0 := hb7.keep p0
            have p1 := hb7.keep p1
            have p2 := hb7.keep p2
            have q0 := hb7.keep q0
            have q1 := hb7.keep q1
            have q2 := hb7.keep q2
            have h0 := hb7.keep h0
            have h1 := hb7.keep h1
            have h2 := hb7.keep h2
            have hf : ∀ j, W7.frozen? ⟨H, j, none⟩ = false := fun j => (Below.frozen hb7 hHr).trans (hf j)
            have hHX : H < X := by omega
            have hiX : w.heap.size + 1 + 1 < H := HHI.out
            have HM7 := Lib.hid (HM.out.keep hb7)
            have HX7 := Lib.hid (hxr.trans hb7)
            have HR7 := Lib.hid (LnR.ext HR.out hb7)
            have HB7 := Lib.hid (LnR.ext HB.out hb7)
            rw [hX]
            have hRb : ∀ q, (Value.slice ma r.length mc).ownBlock = some q → q < X := fun q hq => by have := (HR.out.lt q hq).2; omega
            have hBb : ∀ q, (Value.slice (some ⟨bb, 0, none⟩) ab.length rc3).ownBlock = some q → q < X := fun q hq => by have := (HB.out.lt q hq).2; omega
            have e1 : IntKind.i64.wrap (Wb.lval x.part x.code b - Wb.lval x.part x.code a) = Wb.dv a b x := by
              have := lvb HRb.out HCb.out x.part x.code; have := lvb HRa.out HCa.out x.part x.code
              rw [Wb.dv]; exact IntWalk.i64_in _ (by omega)
            clear hW7 hb7 r0 r1 r2 rf hi hxm c0 c1 c2
            refine region_start (S := (fun w' => w'.cell? ⟨w.heap.size, 0, none⟩ = some (.int .i64 y) ∧ w'.cell? ⟨w.heap.size, 1, none⟩ = some (.int .i64 i) ∧ w'.cell? ⟨w.heap.size, 2, none⟩ = some (.slice uA a.length uK) ∧ w'.cell? ⟨w.heap.size + 1, 0, none⟩ = some (.int .i64 y') ∧ w'.cell? ⟨w.heap.size + 1, 1, none⟩ = some (.int .i64 i') ∧ w'.cell? ⟨w.heap.size + 1, 2, none⟩ = some (.slice vA b.length vK) ∧ w'.cell? ⟨X, 0, none⟩ = some (.int .i64 x.part) ∧ w'.cell? ⟨X, 1, none⟩ = some (.string (Wb.S x.code)))) (n := 15) (l := #[false, false, false, false, false, false, false, false, false, false, false, false, false, false, false]) (by kernel_rfl) ⟨p0, p1, p2, q0, q1, q2, x0, x1⟩ (by kernel_rfl) (by kernel_rfl) (fun hHeld => ?_)
            refine take_d (i := 0) (d := 75) (v := ?_) rfl rfl (by kernel_rfl) (by kernel_rfl) (by kernel_rfl) (fun _ _ _ h => h) (Or.inl ⟨by rfl, ?_⟩) (by assumption) ?_
            rotate_left
            · (intro w hSw; (try dsimp only at hSw); go_simp; (try with_reducible rfl))
            (try simp only [Act.put, List.setIfInBounds_toArray, List.set_cons_zero, List.set_cons_succ])
            refine take_d (i := 1) (d := 76) (v := ?_) rfl rfl (by kernel_rfl) (by kernel_rfl) (by kernel_rfl) (fun _ _ _ h => h) (Or.inl ⟨by rfl, ?_⟩) (by assumption) ?_
            rotate_left
            · (intro w hSw; (try dsimp only at hSw); go_simp; (try with_reducible rfl))
            (try simp only [Act.put, List.setIfInBounds_toArray, List.set_cons_zero, List.set_cons_succ])
            refine take_d (i := 2) (d := 77) (v := ?_) rfl rfl (by kernel_rfl) (by kernel_rfl) (by kernel_rfl) (fun _ _ _ h => h) (Or.inl ⟨by rfl, ?_⟩) (by assumption) ?_
            rotate_left
            · (intro w hSw; (try dsimp only at hSw); go_simp; (try with_reducible rfl))
            (try simp only [Act.put, List.setIfInBounds_toArray, List.set_cons_zero, List.set_cons_succ])
            refine take_d (i := 3) (d := 78) (v := ?_) rfl rfl (by kernel_rfl) (by kernel_rfl) (by kernel_rfl) (fun _ _ _ h => h) (Or.inl ⟨by rfl, ?_⟩) (by assumption) ?_
            rotate_left
            · (intro w hSw; (try dsimp only at hSw); go_simp; (try with_reducible rfl))
            (try simp only [Act.put, List.setIfInBounds_toArray, List.set_cons_zero, List.set_cons_succ])
            refine take_d (i := 4) (d := 79) (v := ?_) rfl rfl (by kernel_rfl) (by kernel_rfl) (by kernel_rfl) (fun _ _ _ h => h) (Or.inl ⟨by rfl, ?_⟩) (by assumption) ?_
            rotate_left
            · (intro w hSw; (try dsimp only at hSw); go_simp; (try with_reducible rfl))
            (try simp only [Act.put, List.setIfInBounds_toArray, List.set_cons_zero, List.set_cons_succ])
            refine take_d (i := 6) (d := 81) (v := ?_) rfl rfl (by kernel_rfl) (by kernel_rfl) (by kernel_rfl) (fun _ _ _ h => h) (Or.inl ⟨by rfl, ?_⟩) (by assumption) ?_
            rotate_left
            · (intro w hSw; (try dsimp only at hSw); go_simp; (try with_reducible rfl))
            (try simp only [Act.put, List.setIfInBounds_toArray, List.set_cons_zero, List.set_cons_succ])
            refine take_d (i := 7) (d := 82) (v := ?_) rfl rfl (by kernel_rfl) (by kernel_rfl) (by kernel_rfl) (fun _ _ _ h => h) (Or.inl ⟨by rfl, ?_⟩) (by assumption) ?_
            rotate_left
            · (intro w hSw; (try dsimp only at hSw); go_simp; (try with_reducible rfl))
            (try simp only [Act.put, List.setIfInBounds_toArray, List.set_cons_zero, List.set_cons_succ])
            refine take_d (i := 8) (d := 83) (v := ?_) rfl rfl (by kernel_rfl) (by kernel_rfl) (by kernel_rfl) (fun _ _ _ h => h) (Or.inl ⟨by rfl, ?_⟩) (by assumption) ?_
            rotate_left
            · (intro w hSw; (try dsimp only at hSw); go_simp; (try with_reducible rfl))
            (try simp only [Act.put, List.setIfInBounds_toArray, List.set_cons_zero, List.set_cons_succ])
            refine take_d (i := 9) (d := 84) (v := ?_) rfl rfl (by kernel_rfl) (by kernel_rfl) (by kernel_rfl) (fun _ _ _ h => h) (Or.inl ⟨by rfl, ?_⟩) (by assumption) ?_
            rotate_left
            · (intro w hSw; (try dsimp only at hSw); go_simp; (try with_reducible rfl))
            (try simp only [Act.put, List.setIfInBounds_toArray, List.set_cons_zero, List.set_cons_succ])
            refine take_d (i := 10) (d := 85) (v := ?_) rfl rfl (by kernel_rfl) (by kernel_rfl) (by kernel_rfl) (fun _ _ _ h => h) (Or.inl ⟨by rfl, ?_⟩) (by assumption) ?_
            rotate_left
            · (intro w hSw; (try dsimp only at hSw); go_simp; (try with_reducible rfl))
            (try simp only [Act.put, List.setIfInBounds_toArray, List.set_cons_zero, List.set_cons_succ])
            refine wpAnyH_ready (rs := [5]) (by kernel_rfl) (by simp) ?_
            refine AllReadyH.cons (o := _) rfl (fun K hK => ?_) AllReadyH.nil
            go_simp
            go_at_call 37
            go_fit (amount_any y' i' _ b x.part x.code _ (Hb.out.1.1.ext (HX7.out.trans (.drew (.refl _)))) HRb.out hlb)
            rintro e w1 ⟨rfl, hb1⟩
            have hx1 : Wb.Ext W7 w1 := Wb.Ext.trans (.drew (.refl _)) hb1
            clear hb1
            refine hK.out _ _ ⟨hx1.keep p0, hx1.keep p1, hx1.keep p2, hx1.keep q0, hx1.keep q1, hx1.keep q2, hx1.keep x0, hx1.keep x1⟩ (fun hHeld => ?_)
            clear hK K
            (try simp only [List.setIfInBounds_toArray, List.set_cons_zero, List.set_cons_succ])
            refine wpAnyH_ready (rs := [11]) (by kernel_rfl) (by simp) ?_
            refine AllReadyH.cons (o := _) rfl (fun K hK => ?_) AllReadyH.nil
            go_simp
            go_at_call 37
            go_fit (amount_any y i _ a x.part x.code _ (Ha.out.1.1.ext (HX7.out.trans hx1)) HRa.out hla)
            rintro e w2 ⟨rfl, hb2⟩
            have hx2 : Wb.Ext W7 w2 := Wb.Ext.trans hx1 hb2
            clear hb2
            refine hK.out _ _ ⟨hx2.keep p0, hx2.keep p1, hx2.keep p2, hx2.keep q0, hx2.keep q1, hx2.keep q2, hx2.keep x0, hx2.keep x1⟩ (fun hHeld => ?_)
            clear hK K
            (try simp only [List.setIfInBounds_toArray, List.set_cons_zero, List.set_cons_succ])
            refine take_d (i := 12) (d := 87) (v := ?_) rfl rfl (by kernel_rfl) (by kernel_rfl) (by kernel_rfl) (fun _ _ _ h => h) (Or.inl ⟨by rfl, ?_⟩) (by assumption) ?_
            rotate_left
            · (intro w hSw; (try dsimp only at hSw); go_simp; (try with_reducible rfl))
            (try simp only [Act.put, List.setIfInBounds_toArray, List.set_cons_zero, List.set_cons_succ])
            refine take_d (i := 13) (d := 88) (v := ?_) rfl rfl (by kernel_rfl) (by kernel_rfl) (by kernel_rfl) (fun _ _ _ h => h) (Or.inl ⟨by rfl, ?_⟩) (by assumption) ?_
            rotate_left
            · (intro w hSw; (try dsimp only at hSw); go_simp; (try with_reducible rfl))
            (try simp only [Act.put, List.setIfInBounds_toArray, List.set_cons_zero, List.set_cons_succ])
            refine wpAnyH_ready (rs := [14]) (by kernel_rfl) (by simp) ?_
            refine AllReadyH.cons (o := _) rfl (fun K hK => ?_) AllReadyH.nil
            have yx2 := hx2.keep x2
            have yxf : w2.frozen? ⟨X, 2, none⟩ = false := (Below.frozen hx2 hX2).trans (xf 2)
            go_simp
            refine atK fun w3 hw3 => ?_
            clear yx2 yxf
            have hst := st1 (w := w2) (w' := w3) (b := X) (o := 2) (x := .int .i64 (Wb.dv a b x)) hw3 (hx2.keep x2)
            obtain ⟨z2, zk, zf, zz, ze, zo⟩ := hst
            have z0 := zk _ _ _ (.inr (by decide)) (hx2.keep x0)
            have z1 := zk _ _ _ (.inr (by decide)) (hx2.keep x1)
            have zm : RMid w w3 y i (.slice uA a.length uK) y' i' (.slice vA b.length vK) := (HM7.out.keep hx2).set (b := X) (by omega) (fun c k v hc hv => zk c k v (.inl hc) hv) zf zz (ze w (by omega) (HX7.out.trans hx2))
            have z3 := zk _ _ _ (.inl (by omega)) (hx2.keep h0)
            have z4 := zk _ _ _ (.inl (by omega)) (hx2.keep h1)
            have z5 := zk _ _ _ (.inl (by omega)) (hx2.keep h2)
            have zfh : ∀ j, w3.frozen? ⟨H, j, none⟩ = false := fun j => (zf _).trans ((Below.frozen hx2 (by simp; omega)).trans (hf j))
            have zfx : ∀ j, w3.frozen? ⟨X, j, none⟩ = false := fun j => (zf _).trans ((Below.frozen hx2 (by simpa using hX2)).trans (xf j))
            have hz8 : X < w3.heap.size := by rw [zz]; exact Nat.lt_of_lt_of_le hX2 hx2.size
            have zrow : LnR (H + 1) w3 (.slice ma r.length mc) r := zo _ _ _ _ _ _ (fun q hq => by have := hRb q hq; omega) (row_ext HR7.out hx2)
            have zB : Hid (LnsC w3 (.slice (some ⟨bb, 0, none⟩) ab.length rc3) ab) := Lib.hid (LnR.lns (base := W0.heap.size) (zo _ _ _ _ _ _ (fun q hq => by have := hBb q hq; omega) (row_ext HB7.out hx2)))
            have zBo : Hid (LnR W0.heap.size w3 (.slice (some ⟨bb, 0, none⟩) ab.length rc3) ab) := Lib.hid (zo _ _ _ _ _ _ (fun q hq => by have := hBb q hq; omega) (row_ext HB7.out hx2))
            clear hw3 zk zf zz ze zo
            refine hK.out _ _ ⟨zm.p0, zm.p1, zm.p2, zm.q0, zm.q1, zm.q2, z0, z1⟩ (fun hHeld => ?_)
            clear hK K
            (try simp only [List.setIfInBounds_toArray, List.set_cons_zero, List.set_cons_succ])
            refine wpAnyH_done (by kernel_rfl) ?_ _
            have HZM := Lib.hid zm
            have HZR := Lib.hid zrow
            have hxz := zm.ext
            obtain ⟨p0, p1, p2, q0, q1, q2, r0, r1, r2, rf, hi, hxm⟩ := zm
            clear zrow
            go_wp2_with fail
            go_fit (rfits02_any (Wb.dv a b x) _); rintro e w' ⟨rfl, rfl⟩
            obtain ⟨f, hf9⟩ : ∃ f, Wb.fits (Wb.dv a b x) = f := ⟨_, rfl⟩
            have HF := Lib.hid hf9
            rw [hf9]
            clear hf9
            cases f
            · have HO := Lib.hid (Wb.IsOf.over (y := y) (i := i) (a := a) (y' := y') (i' := i') (b := b) (Wb.deltaL a b) HE1.out HE2.out HC.out (Wb.delta_is a b) (Wb.delta_unfit (by rw [HAB.out]; exact List.mem_of_getElem? HY.out) HF.out))
              go_wp2
              refine bodyPost_ret (v := .tuple #[SlV 0 0 (.slice none 0 0), .int .i64 9]) (by simp [results, Try.results14, go_sem, r0, r1, r2]) rfl ⟨0, 0, _, 9, rfl, [], HO.out, ⟨.inl ⟨rfl, _, _, rfl⟩, Nat.le_refl _⟩, by (repeat' (first | (with_reducible assumption) | (with_reducible exact Wb.Ext.refl _) | (with_reducible refine Wb.Ext.drew ?_) | (with_reducible refine Wb.Ext.drewN ?_ _) | (with_reducible refine Wb.Ext.alloc ?_ _) | (with_reducible refine Wb.ext_set ?_ (by first | assumption | (simp; done) | (simp; omega) | omega) _) | (with_reducible refine Wb.Ext.trans ?_ (by assumption)))), fun q hq => by cases hq⟩
            · have HLO2 : Hid (∀ t z, ab[t]? = some z → t < k + 1 → Wb.fits (Wb.dv a b z) = true) := Lib.hid (fun t z ht htk => by
                rcases Nat.lt_or_ge t k with q | q
                · exact HLO.out t z ht q
                · obtain rfl : t = k := by omega
                  rw [HY.out] at ht; cases ht; exact HF.out)
              have HTK := Lib.hid (show ab.take (k + 1) = ab.take k ++ [x] by
                obtain ⟨h1, rfl⟩ := List.getElem?_eq_some_iff.1 HY.out
                exact List.take_succ_eq_append_getElem h1)
              obtain ⟨D, hD⟩ : ∃ D, Wb.dv a b x = D := ⟨_, rfl⟩
              have HD := Lib.hid hD
              rw [hD] at z2
              clear hD
              by_cases h00 : D = 0
              · subst h00
                have HSN := Lib.hid (show r = (ab.take (k + 1)).foldl (Wb.dStep a b) [] by rw [HTK.out, List.foldl_append, ← HSR.out]; simp only [List.foldl_cons, List.foldl_nil, Wb.dStep, HD.out, if_true])
                go_wp2
                go_roundw
                case rel => exact ⟨k + 1, r, _, by omega, by go_num, z3, z4, z5, zfh, HZR.out, by omega, HSN, HLO2, HZM.out, zBo.out⟩
                case measure => simp [intOf]; omega
              · have d0 : (D == 0) = false := by simpa using h00
                have d2 : (D != 0) = true := by simpa using h00
                have HSN := Lib.hid (show Wb.putL r ⟨x.part, x.code, D⟩ = (ab.take (k + 1)).foldl (Wb.dStep a b) [] by rw [HTK.out, List.foldl_append, ← HSR.out]; simp only [List.foldl_cons, List.foldl_nil, Wb.dStep, HD.out, if_neg h00])
                have HRL := Lib.hid (show Wb.Rise r by rw [HSR.out]; exact (Wb.soD_fold _ [] [] (Wb.soD_nil a b)).rise)
                clear h00
                go_wp2_with fail
                go_fit (rput_any (H + 1) _ r ⟨x.part, x.code, D⟩ _ HZR.out (by omega) HRL.out (by omega)); rintro e w9 ⟨v9, rfl, hr9, hb9⟩
                obtain ⟨na, nc, rfl⟩ := hr9.shape
                have HR9 := Lib.hid hr9
                have zm9 := HZM.out.keep hb9
                have zB9 := Lib.hid (LnR.ext zBo.out hb9)
                have y3 := hb9.keep z3
                have y4 := hb9.keep z4
                have y5 := hb9.keep z5
                have yf : ∀ j, w9.frozen? ⟨H, j, none⟩ = false := fun j => (Below.frozen hb9 (by simp; omega)).trans (zfh j)
                have hz9 : H < w9.heap.size := by have := hb9.size; omega
                have HM9 := Lib.hid zm9
                clear hr9 zm9 hb9 p0 p1 p2 q0 q1 q2 r0 r1 r2 rf hi hxm z0 z1 z2 z3 z4 z5 zfh zfx
                go_wp2_with fail
                go_roundw
                case rel =>
                  have hst := st1 (w := w9) (b := H) (o := 2) (x := .slice na (Wb.putL r ⟨x.part, x.code, D⟩).length nc) rfl y5
                  obtain ⟨z2, zk, zf, zz, ze, zo⟩ := hst
                  exact ⟨k + 1, _, _, by omega, by go_num, zk _ _ _ (.inr (by decide)) y3, zk _ _ _ (.inr (by decide)) y4, z2, fun j => (zf _).trans (yf j), zo _ _ _ _ _ _ (fun q hq => by have := HR9.out.lt q hq; omega) HR9.out, by rw [zz]; omega, HSN, HLO2, HM9.out.set (b := H) (by omega) (fun c k v hc hv => zk c k v (.inl hc) hv) zf zz (ze w (by omega) HM9.out.ext), zo _ _ _ _ _ _ (fun q hq => by have := zB9.out.lt q hq; omega) zB9.out⟩
                case measure => simp [intOf]; omega
          · obtain rfl : k = ab.length := by omega
            have HFA := Lib.hid (show ∀ x ∈ ab, Wb.fits (Wb.dv a b x) = true from fun x hx => by
              obtain ⟨t, ht⟩ := List.getElem?_of_mem hx
              exact HLO.out t x ht (List.getElem?_eq_some_iff.1 ht).1)
            have HD := Lib.hid (show Wb.IsDelta a b r by rw [HSR.out, List.take_length, ← HAB.out]; exact Wb.delta_is a b)
            have HFT := Lib.hid (Wb.delta_fits HD.out (by rw [HAB.out]; exact HFA.out))
            have hHi := HHI.out
            have hrne : ∀ q, (Value.slice ma r.length mc).ownBlock = some q → q ≠ w.heap.size + 1 + 1 := fun q hq => by have := (HR.out.lt q hq).1; omega
            by_cases hmany : 448 < r.length
            · have d : decide ((448 : Int) < (r.length : Int)) = true := by simp; omega
              have HO := Lib.hid (Wb.IsOf.many (y := y) (i := i) (a := a) (y' := y') (i' := i') (b := b) r HE1.out HE2.out HC.out HD.out HFT.out hmany)
              go_wp2
              refine bodyPost_ret (v := .tuple #[SlV 0 0 (.slice none 0 0), .int .i64 5]) (by simp [results, Try.results14, go_sem, r0, r1, r2]) rfl ⟨0, 0, _, 5, rfl, [], HO.out, ⟨.inl ⟨rfl, _, _, rfl⟩, Nat.le_refl _⟩, by (repeat' (first | (with_reducible assumption) | (with_reducible exact Wb.Ext.refl _) | (with_reducible refine Wb.Ext.drew ?_) | (with_reducible refine Wb.Ext.drewN ?_ _) | (with_reducible refine Wb.Ext.alloc ?_ _) | (with_reducible refine Wb.ext_set ?_ (by first | assumption | (simp; done) | (simp; omega) | omega) _) | (with_reducible refine Wb.Ext.trans ?_ (by assumption)))), fun q hq => by cases hq⟩
            · have d : decide ((448 : Int) < (r.length : Int)) = false := by simp; omega
              have HO := Lib.hid (Wb.IsOf.ok (y := y) (i := i) (a := a) (y' := y') (i' := i') (b := b) r HE1.out HE2.out HC.out HD.out HFT.out (by omega))
              go_wp2
              refine bodyPost_ret (v := .tuple #[SlV Y I (.slice ma r.length mc), .int .i64 0]) (by simp [results, Try.results14, go_sem, r0, r1, r2]) rfl ⟨Y, I, _, 0, rfl, r, by rw [HYI.out.1, HYI.out.2, (of_head HC.out).1, (of_head HC.out).2]; exact HO.out, LnR.lns (row_set2 (row_set2 (row_set2 HR.out hrne _) hrne _) hrne _), by (repeat' (first | (with_reducible assumption) | (with_reducible exact Wb.Ext.refl _) | (with_reducible refine Wb.Ext.drew ?_) | (with_reducible refine Wb.Ext.drewN ?_ _) | (with_reducible refine Wb.Ext.alloc ?_ _) | (with_reducible refine Wb.ext_set ?_ (by first | assumption | (simp; done) | (simp; omega) | omega) _) | (with_reducible refine Wb.Ext.trans ?_ (by assumption)))), fun q hq => by have := (HR.out.lt q hq).1; omega⟩

end Go.Proofs.Ytdfmlgjemfcmlaa
