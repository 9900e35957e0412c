/- The walk of prorate.Salary. -/
import Derived.Test.YtheofklbmknipaaPro2
import Derived.Deep.CutBlock
namespace Go.Proofs.Ytheofklbmknipaa
open Go.RowKit Go.Lib
set_option maxRecDepth 8000
attribute [local go_sem ↓] Go.wp_at_zero Go.wp_at_succ

theorem cell_other {w : World} {p q : Addr} {x y : Value} (hq : w.cell? q = some x) (hp : w.cell? p = some y) (hne : x ≠ y) (u : Value) : (w.setCell p u).cell? q = some x := by
  rw [World.cell?_setCell_other]
  · exact hq
  · rintro rfl; rw [hq] at hp; exact hne (Option.some.inj hp)
theorem SpL.set {w : World} {v : Value} {l : List Wb.Sp} {p : Addr} {a : Option Addr} {n c : Nat} (h : SpL w v l) (hp : w.cell? p = some (.slice a n c)) (u : Value) : SpL (w.setCell p u) v l := by
  refine ⟨?_, h.2.1, ?_⟩
  · rcases h.1 with q | ⟨b, off, cap, h1, h2⟩
    · exact .inl q
    · refine .inr ⟨b, off, cap, h1, fun j x hj i u hu => cell_other (h2 j x hj i u hu) hp ?_ _⟩
      match i, hu with
      | 0, hu => simp [spc] at hu; subst hu; intro e; cases e
      | 1, hu => simp [spc] at hu; subst hu; intro e; cases e
      | i + 2, hu => simp [spc] at hu
  · rcases h.2.2 with q | ⟨ad, c, h1, h2⟩
    · exact .inl q
    · refine .inr ⟨ad, c, h1, fun j u hj => cell_other (h2 j u hj) hp ?_ _⟩
      obtain ⟨x, _, hx⟩ := List.mem_flatMap.1 (List.mem_of_getElem? hj)
      simp [spc] at hx
      rcases hx with rfl | rfl <;> intro e <;> cases e
theorem spl_one (w : World) (n : Nat) (hn : n = w.heap.size) (s : Wb.Sp) (T : TypeId) : SpL (w.alloc (.cells #[.int .i64 s.1, .int .i64 s.2] T)) (.slice (some ⟨n, 0, none⟩) 1 1) [s] := by
  refine ⟨.inr ⟨n, 0, 1, rfl, fun j x hj i u hu => ?_⟩, src_lit w n hn (spc s) T 1⟩
  have hj0 : j = 0 := by
    have := (List.getElem?_eq_some_iff.1 hj).1
    simp at this; exact this
  subst hj0
  simp at hj
  subst hj
  subst hn
  match i, hu with
  | 0, hu => simp [spc] at hu; subst hu; simp [go_sem]
  | 1, hu => simp [spc] at hu; subst hu; simp [go_sem]
  | i + 2, hu => simp [spc] at hu
/-- a store into one cell -/
theorem st1 {w w' : World} {b o : Nat} {x x' : Value} (hw : w' = w.setCell ⟨b, o, none⟩ x) (h0 : w.cell? ⟨b, o, none⟩ = some x') :
    w'.cell? ⟨b, o, none⟩ = some x ∧ (∀ c k v, c ≠ b → w.cell? ⟨c, k, none⟩ = some v → w'.cell? ⟨c, k, none⟩ = some v) ∧ (∀ p, w'.frozen? p = w.frozen? p) ∧ w'.heap.size = w.heap.size ∧
    (∀ W : World, W.heap.size ≤ b → Wb.Ext W w → Wb.Ext W w') := by
  subst hw
  refine ⟨by simp [go_sem, h0], fun c k v hc hv => ?_, fun p => by simp [go_sem], by simp [go_sem], fun W hW hE => Wb.ext_set hE hW _⟩
  rw [← hv]
  have hc' : ¬ b = c := fun h => hc h.symm
  first
    | (simp [go_sem]; done)
    | simp [go_sem, hc']
    | simp [go_sem, hc]
/-- what stands in memory in a round: the period, the piece, the days that are taken -/
structure SMid (w wx : World) (X : Nat) (y ix o f t pay : Int) (x : Pc) (tv : Value) (ts : List Wb.Sp) : Prop where
  p0 : wx.cell? ⟨w.heap.size, 0, none⟩ = some (.int .i64 y)
  p1 : wx.cell? ⟨w.heap.size, 1, none⟩ = some (.int .i64 ix)
  p2 : wx.cell? ⟨w.heap.size, 2, none⟩ = some (.int .i64 o)
  p3 : wx.cell? ⟨w.heap.size, 3, none⟩ = some (.int .i64 f)
  p4 : wx.cell? ⟨w.heap.size, 4, none⟩ = some (.int .i64 t)
  p5 : wx.cell? ⟨w.heap.size, 5, none⟩ = some (.int .i64 pay)
  x0 : wx.cell? ⟨X, 0, none⟩ = some (.int .i64 x.d.1)
  x1 : wx.cell? ⟨X, 1, none⟩ = some (.int .i64 x.d.2)
  x2 : wx.cell? ⟨X, 2, none⟩ = some (.int .i64 x.y)
  x3 : wx.cell? ⟨X, 3, none⟩ = some (.int .i64 x.part)
  tk : wx.cell? ⟨w.heap.size + 1, 0, none⟩ = some tv
  tf : ∀ j, wx.frozen? ⟨w.heap.size + 1, j, none⟩ = false
  sp : SpL wx tv ts
  lo : w.heap.size + 1 < X
  hi : X < wx.heap.size
  ext : Wb.Ext w wx
theorem SMid.keep {w wx wz : World} {X : Nat} {y ix o f t pay : Int} {x : Pc} {tv : Value} {ts : List Wb.Sp} (h : SMid w wx X y ix o f t pay x tv ts) (k : Wb.Ext wx wz) : SMid w wz X y ix o f t pay x tv ts :=
  ⟨k.keep h.p0, k.keep h.p1, k.keep h.p2, k.keep h.p3, k.keep h.p4, k.keep h.p5, k.keep h.x0, k.keep h.x1, k.keep h.x2, k.keep h.x3, k.keep h.tk, fun j => (Below.frozen k (by have := h.lo; have := h.hi; simp; omega)).trans (h.tf j), h.sp.ext k, h.lo, Nat.lt_of_lt_of_le h.hi k.size, h.ext.trans k⟩
theorem SMid.set {w wx wz : World} {X : Nat} {y ix o f t pay : Int} {x : Pc} {tv : Value} {ts : List Wb.Sp} (h : SMid w wx X y ix o f t pay x tv ts) {b : Nat} (hb : X < b) (hk : ∀ c k v, c ≠ b → wx.cell? ⟨c, k, none⟩ = some v → wz.cell? ⟨c, k, none⟩ = some v) (hf : ∀ p, wz.frozen? p = wx.frozen? p) (hz : wz.heap.size = wx.heap.size) (he : Wb.Ext w wz) (hs : SpL wz tv ts) : SMid w wz X y ix o f t pay x tv ts := by
  have := h.lo
  exact ⟨hk _ _ _ (by omega) h.p0, hk _ _ _ (by omega) h.p1, hk _ _ _ (by omega) h.p2, hk _ _ _ (by omega) h.p3, hk _ _ _ (by omega) h.p4, hk _ _ _ (by omega) h.p5, hk _ _ _ (by omega) h.x0, hk _ _ _ (by omega) h.x1, hk _ _ _ (by omega) h.x2, hk _ _ _ (by omega) h.x3, hk _ _ _ (by omega) h.tk, fun j => (hf _).trans (h.tf j), hs, h.lo, by rw [hz]; exact h.hi, he⟩
/-- the days taken: those of the pieces ahead -/
def Taken (ts : List Wb.Sp) (ah : List Pc) (f t : Int) : Prop := Wb.Canon ts ∧ BdL ts ∧ (∀ d, Wb.memL ts d ↔ ∃ z ∈ ah, Wb.inS z.d d) ∧ (∀ z ∈ ah, inP (f, t) z.d = true)
theorem Taken.len {ts : List Wb.Sp} {ah : List Pc} {f t : Int} (h : Taken ts ah f t) : ts.length ≤ 366 := by
  by_cases hn : ah = []
  · have : ts = [] := days_none (fun d hd => by obtain ⟨z, hz, _⟩ := (h.2.2.1 d).1 hd; rw [hn] at hz; cases hz) h.1
    rw [this]; exact Nat.zero_le _
  · obtain ⟨z, hz⟩ := List.exists_mem_of_ne_nil _ hn
    obtain ⟨_, _, _, h4⟩ := inP_iff.1 (h.2.2.2 z hz)
    have := canon_len (lo := f) (hi := t) h.1 (fun d hd => by
      obtain ⟨q, hq, h1, h2⟩ := (h.2.2.1 d).1 hd
      obtain ⟨_, k2, k3, _⟩ := inP_iff.1 (h.2.2.2 q hq)
      simp only at k2 k3
      omega)
    simp only at h4
    omega
theorem taken_meet {ts r0 m : List Wb.Sp} {ah : List Pc} {f t : Int} {x : Pc} {n : Nat} (h : Taken ts ah f t) (hx : inP (f, t) x.d = true) (h0 : IsSet r0 (Wb.memL [x.d]) 1) (hm : IsSet m (fun d => (fun p q : Bool => p && q) (Wb.hasL ts d) (Wb.hasL r0 d) = true) n) : decide (0 < daysL m) = ah.any (fun z => meetB x.d z.d) := by
  rw [Bool.eq_iff_iff, decide_eq_true_iff, daysL_iff hm.canon, List.any_eq_true]
  obtain ⟨x1, _, _, _⟩ := inP_iff.1 hx
  constructor
  · rintro ⟨d, hd⟩
    have := (hm.mem d).1 hd
    simp only [Bool.and_eq_true] at this
    obtain ⟨z, hz, z1, z2⟩ := (h.2.2.1 d).1 (Wb.hasL_iff.1 this.1)
    obtain ⟨q, hq, q1, q2⟩ := (h0.mem d).1 (Wb.hasL_iff.1 this.2)
    simp at hq; subst hq
    exact ⟨z, hz, meetB_iff.2 ⟨by omega, by omega⟩⟩
  · rintro ⟨z, hz, hq⟩
    obtain ⟨q1, q2⟩ := meetB_iff.1 hq
    obtain ⟨z1, _, _, _⟩ := inP_iff.1 (h.2.2.2 z hz)
    refine ⟨max x.d.1 z.d.1, (hm.mem _).2 ?_⟩
    simp only [Bool.and_eq_true]
    exact ⟨Wb.hasL_iff.2 ((h.2.2.1 _).2 ⟨z, hz, by unfold Wb.inS; omega⟩), Wb.hasL_iff.2 ((h0.mem _).2 ⟨x.d, by simp, by unfold Wb.inS; omega⟩)⟩
theorem taken_more {ts r0 u : List Wb.Sp} {ah : List Pc} {f t : Int} {x : Pc} {n : Nat} (h : Taken ts ah f t) (hx : inP (f, t) x.d = true) (h0 : IsSet r0 (Wb.memL [x.d]) 1) (hu : IsSet u (fun d => (fun p q : Bool => p || q) (Wb.hasL ts d) (Wb.hasL r0 d) = true) n) : Taken u (ah ++ [x]) f t := by
  refine ⟨hu.canon, hu.bd, fun d => ?_, fun z hz => ?_⟩
  · rw [hu.mem]
    simp only [Bool.or_eq_true]
    rw [Wb.hasL_iff, Wb.hasL_iff, h.2.2.1, h0.mem]
    constructor
    · rintro (⟨z, hz, k⟩ | ⟨q, hq, k⟩)
      · exact ⟨z, List.mem_append_left _ hz, k⟩
      · simp at hq; subst hq; exact ⟨x, by simp, k⟩
    · rintro ⟨z, hz, k⟩
      rcases List.mem_append.1 hz with q | q
      · exact .inl ⟨z, q, k⟩
      · simp at q; subst q; exact .inr ⟨_, by simp, k⟩
  · rcases List.mem_append.1 hz with q | q
    · exact h.2.2.2 z q
    · simp at q; subst q; exact hx
theorem cross_bd {a b : Wb.Sp} (ha : Bd a) (hb : Bd b) : Bd (crossS a b) := by
  obtain ⟨⟨a1, a2⟩, a3, a4⟩ := ha
  obtain ⟨⟨b1, b2⟩, b3, b4⟩ := hb
  unfold crossS
  split
  · exact ⟨⟨by decide, by decide⟩, by decide, by decide⟩
  · exact ⟨⟨by simp only; omega, by simp only; omega⟩, by simp only; omega, by simp only; omega⟩
theorem Wb.calls_at9 {P : Program} {f : FuncId} {args : Array Value} {R : Ending → World → Prop} {w : World} (K : ∀ w', w' = w → Calls P f args w' R) : Calls P f args w R := K w rfl
set_option maxHeartbeats 8000000 in
theorem salary_any (y ix o f t pay : Int) (v : Value) (l : List Pc) (w : World) (hi : -9223372036854775808 ≤ ix ∧ ix ≤ 9223372036854775807) (hs : Bd (f, t)) (hv : Tbl 4 pcc w v l) (hb : ∀ x ∈ l, Bd x.d) (hl : l.length ≤ 9223372036854775807) :
    Calls Try.prog 14 #[PeV y ix o (f, t) pay, v] w fun e w' => e = Two (salaryR ix o (f, t) l) ∧ Wb.Ext w w' := by
  obtain ⟨va, vc, rfl⟩ := hv.shape
  have HV := Lib.hid hv
  have HB := Lib.hid hb
  have HBS := Lib.hid hs
  have hII := Lib.hid hi
  clear hv hb hs hi
  by_cases h64 : 64 < l.length
  · have d : decide ((64 : Int) < (l.length : Int)) = true := by simp; omega
    have H := Lib.hid (show salaryR ix o (f, t) l = (0, 5) by rw [salaryR, if_pos h64])
    go_enter Try.func14, Try.ntmps14
    go_wp2
    refine bodyPost_ret (v := .tuple #[.int .i64 0, .int .i64 5]) (by simp [results, Try.results14, go_sem]) rfl ⟨by rw [H.out], by (repeat' (first | (with_reducible assumption) | (with_reducible exact Wb.Ext.refl _) | (with_reducible refine Wb.Ext.drew ?_) | (with_reducible refine Wb.Ext.drewN ?_ _) | (with_reducible refine Wb.Ext.alloc ?_ _) | (with_reducible refine Wb.Ext.trans ?_ (by assumption))))⟩
  have d64 : decide ((64 : Int) < (l.length : Int)) = false := by simp; omega
  have HSAL := Lib.hid (show salaryR ix o (f, t) l = salR ix o (f, t) [] 0 l by rw [salaryR, if_neg h64])
  have hl64 : l.length ≤ 64 := by omega
  clear h64
  go_enter Try.func14, Try.ntmps14
  go_wp2_with fail
  go_loopw [20, 6] (fun iv sv wr => ∃ (k : Nat) (sum : Int) (ts : List Wb.Sp) (ta : Option Addr) (tc : Nat), k ≤ l.length ∧ iv = .int .i64 k ∧ sv = .int .i64 sum ∧ wr.cell? ⟨w.heap.size + 1, 0, none⟩ = some (.slice ta ts.length tc) ∧ (∀ j, wr.frozen? ⟨w.heap.size + 1, j, none⟩ = false) ∧ SpL wr (.slice ta ts.length tc) ts ∧ Hid (Taken ts (l.take k) f t) ∧ Hid (salR ix o (f, t) [] 0 l = salR ix o (f, t) (l.take k) sum (l.drop k)) ∧
    wr.cell? ⟨w.heap.size, 0, none⟩ = some (.int .i64 y) ∧ wr.cell? ⟨w.heap.size, 1, none⟩ = some (.int .i64 ix) ∧ wr.cell? ⟨w.heap.size, 2, none⟩ = some (.int .i64 o) ∧ wr.cell? ⟨w.heap.size, 3, none⟩ = some (.int .i64 f) ∧ wr.cell? ⟨w.heap.size, 4, none⟩ = some (.int .i64 t) ∧ wr.cell? ⟨w.heap.size, 5, none⟩ = some (.int .i64 pay) ∧ w.heap.size + 1 < wr.heap.size ∧ Wb.Ext w wr) (fun iv _ _ => l.length - (intOf iv).toNat)
  case atStart => exact ⟨0, 0, [], none, 0, Nat.zero_le _, rfl, rfl, by simp [go_sem], fun j => by simp [go_sem], SpL.nil, Lib.hid ⟨⟨(fun s hs => by cases hs), List.Pairwise.nil⟩, (fun s hs => by cases hs), fun d => ⟨fun h => by (obtain ⟨s, hs, _⟩ := h; cases hs), fun h => by (obtain ⟨z, hz, _⟩ := h; simp at hz)⟩, (fun z hz => by simp at hz)⟩, Lib.hid rfl, by simp [go_sem], by simp [go_sem], by simp [go_sem], by simp [go_sem], by simp [go_sem], by simp [go_sem], by simp, by (repeat' (first | (with_reducible assumption) | (with_reducible exact Wb.Ext.refl _) | (with_reducible refine Wb.Ext.drew ?_) | (with_reducible refine Wb.Ext.drewN ?_ _) | (with_reducible refine Wb.Ext.alloc ?_ _) | (with_reducible refine Wb.Ext.trans ?_ (by assumption))))⟩
  case round =>
    obtain ⟨k, sum, ts, ta, tc, hk, rfl, rfl, tk, tf, hsp, HTK, HTD, p0, p1, p2, p3, p4, p5, hTr, hxr⟩ := hrel
    have HSP := Lib.hid hsp
    clear hsp
    by_cases hlt : k < l.length
    · obtain ⟨x, hx⟩ := Wb.get_ex hlt
      obtain ⟨b, off, rfl, hcells⟩ := (HV.out.ext hxr).opened (tne hlt)
      have c0 := hcells _ x hx 0 _ rfl
      have c1 := hcells _ x hx 1 _ rfl
      have c2 := hcells _ x hx 2 _ rfl
      have c3 := hcells _ x hx 3 _ rfl
      simp only [Nat.add_zero] at c0
      have hki : (k : Int) < l.length := by omega
      have HDR := Lib.hid (drop_at hx)
      have HTA := Lib.hid (take_at hx)
      have HBD := Lib.hid (HB.out x (List.mem_of_getElem? hx))
      have HBX : Hid (BdL [x.d]) := Lib.hid (fun s hs => by simp at hs; subst hs; exact HBD.out)
      clear hcells hx
      go_upto_region 8 with (fail)
      refine Wb.wp_at fun W0 hW0 => ?_
      obtain ⟨X, hX⟩ : ∃ X, wr.heap.size = X := ⟨_, rfl⟩
      have hb0 : Wb.Ext wr W0 := by rw [hW0]; (repeat' (first | (with_reducible assumption) | (with_reducible exact Wb.Ext.refl _) | (with_reducible refine Wb.Ext.drew ?_) | (with_reducible refine Wb.Ext.drewN ?_ _) | (with_reducible refine Wb.Ext.alloc ?_ _) | (with_reducible refine Wb.ext_set ?_ (by first | assumption | (simp; done) | (simp; omega) | omega) _) | (with_reducible refine Wb.Ext.trans ?_ (by assumption))))
      have x0 : W0.cell? ⟨X, 0, none⟩ = some (.int .i64 x.d.1) := by rw [hW0, ← hX]; simp [go_sem]
      have x1 : W0.cell? ⟨X, 1, none⟩ = some (.int .i64 x.d.2) := by rw [hW0, ← hX]; simp [go_sem]
      have x2 : W0.cell? ⟨X, 2, none⟩ = some (.int .i64 x.y) := by rw [hW0, ← hX]; simp [go_sem]
      have x3 : W0.cell? ⟨X, 3, none⟩ = some (.int .i64 x.part) := by rw [hW0, ← hX]; simp [go_sem]
      have hX2 : X < W0.heap.size := by rw [hW0, ← hX]; simp
      have p0 := hb0.keep p0
      have p1 := hb0.keep p1
      have p2 := hb0.keep p2
      have p3 := hb0.keep p3
      have p4 := hb0.keep p4
      have p5 := hb0.keep p5
      have tk := hb0.keep tk
      have tf : ∀ j, W0.frozen? ⟨w.heap.size + 1, j, none⟩ = false := fun j => (Below.frozen hb0 (by simpa using hTr)).trans (tf j)
      have hTX : w.heap.size + 1 < X := by omega
      have HM0 := Lib.hid (show SMid w W0 X y ix o f t pay x (.slice ta ts.length tc) ts from ⟨p0, p1, p2, p3, p4, p5, x0, x1, x2, x3, tk, tf, HSP.out.ext hb0, hTX, hX2, hxr.trans hb0⟩)
      rw [hX]
      clear hW0 hX c0 c1 c2 c3
      go_cut [10, 11] (fun t10 t11 wx => ∃ (O : Nat) (oa : Option Addr) (oc : Nat) (r0 : List Wb.Sp), t10 = .pointer (some ⟨O, 0, none⟩) ∧ t11 = .func (.func 24) #[SetV (.slice ta ts.length tc)] #[] ∧ wx.cell? ⟨O, 0, none⟩ = some (.slice oa r0.length oc) ∧ SpL wx (.slice oa r0.length oc) r0 ∧ Hid (IsSet r0 (Wb.memL [x.d]) 1) ∧ SMid w wx X y ix o f t pay x (.slice ta ts.length tc) ts ∧ O < wx.heap.size)
      case first =>
        refine region_start (S := (fun w' => w'.cell? ⟨X, 0, none⟩ = some (.int .i64 x.d.1) ∧ w'.cell? ⟨X, 1, none⟩ = some (.int .i64 x.d.2) ∧ w'.cell? ⟨w.heap.size + 1, 0, none⟩ = some (.slice ta ts.length tc))) (n := 9) (l := #[false, false, false, false, false, false, false, false, false]) (by kernel_rfl) ⟨x0, x1, tk⟩ (by kernel_rfl) (by kernel_rfl) (fun hHeld => ?_)
        refine take_d (i := 0) (d := 24) (v := ?_) rfl rfl (by kernel_rfl) (by kernel_rfl) (by kernel_rfl) (fun _ _ _ h => h) (Or.inl ⟨by rfl, ?_⟩) (by assumption) ?_
        rotate_left
        · (intro w hSw; (try dsimp only at hSw); go_simp; (try with_reducible rfl))
        (try simp only [Act.put, List.setIfInBounds_toArray, List.set_cons_zero, List.set_cons_succ])
        refine take_d (i := 1) (d := 25) (v := ?_) rfl rfl (by kernel_rfl) (by kernel_rfl) (by kernel_rfl) (fun _ _ _ h => h) (Or.inl ⟨by rfl, ?_⟩) (by assumption) ?_
        rotate_left
        · (intro w hSw; (try dsimp only at hSw); go_simp; (try with_reducible rfl))
        (try simp only [Act.put, List.setIfInBounds_toArray, List.set_cons_zero, List.set_cons_succ])
        refine take_d (i := 4) (d := 28) (v := ?_) rfl rfl (by kernel_rfl) (by kernel_rfl) (by kernel_rfl) (fun _ _ _ h => h) (Or.inl ⟨by rfl, ?_⟩) (by assumption) ?_
        rotate_left
        · (intro w hSw; (try dsimp only at hSw); go_simp; (try with_reducible rfl))
        (try simp only [Act.put, List.setIfInBounds_toArray, List.set_cons_zero, List.set_cons_succ])
        refine take_d (i := 5) (d := 29) (v := ?_) rfl rfl (by kernel_rfl) (by kernel_rfl) (by kernel_rfl) (fun _ _ _ h => h) (Or.inl ⟨by rfl, ?_⟩) (by assumption) ?_
        rotate_left
        · (intro w hSw; (try dsimp only at hSw); go_simp; (try with_reducible rfl))
        (try simp only [Act.put, List.setIfInBounds_toArray, List.set_cons_zero, List.set_cons_succ])
        refine wpAnyH_ready (rs := [2, 6]) (by kernel_rfl) (by simp) ?_
        refine AllReadyH.cons (o := _) rfl (fun K hK => ?_) ?_
        · go_simp
          refine atK fun w1 hw1 => ?_
          have hx1 : Wb.Ext W0 w1 := by rw [hw1]; exact Wb.Ext.alloc (.drew (.refl _)) _
          have hb1 : Wb.Ext W0.drew w1 := by rw [hw1]; exact Wb.Ext.alloc (.refl _) _
          have HP := Lib.hid (show SpL w1 (.slice (some ⟨W0.heap.size, 0, none⟩) 1 1) [x.d] by rw [hw1]; exact spl_one W0 _ rfl x.d _)
          clear hw1 hb1
          refine hK.out _ _ ⟨hx1.keep x0, hx1.keep x1, hx1.keep tk⟩ (fun hHeld => ?_)
          clear hK K
          (try simp only [List.setIfInBounds_toArray, List.set_cons_zero, List.set_cons_succ])
          refine wpAnyH_ready (rs := [3, 6]) (by kernel_rfl) (by simp) ?_
          refine AllReadyH.cons (o := _) rfl (fun K hK => ?_) ?_
          · go_simp
            go_at_call 23
            go_fit (of_any _ [x.d] _ HP.out HBX.out (by simp))
            rintro e w2 ⟨v0, r0, rfl, hs0, hp0, hb2⟩
            obtain ⟨oa, oc, rfl⟩ := hp0.1.shape
            have HS0 := Lib.hid hs0
            have hr0 : r0.length ≤ 1 := hs0.len
            have hx2 : Wb.Ext W0 w2 := hx1.trans hb2
            replace HP := Lib.hid (HP.out.ext hb2)
            have HPO := Lib.hid hp0
            clear hs0 hp0 hb2 HP
            refine hK.out _ _ ⟨hx2.keep x0, hx2.keep x1, hx2.keep tk⟩ (fun hHeld => ?_)
            clear hK K
            (try simp only [List.setIfInBounds_toArray, List.set_cons_zero, List.set_cons_succ])
            refine wpAnyH_ready (rs := [6]) (by kernel_rfl) (by simp) ?_
            refine AllReadyH.cons (o := _) rfl (fun K hK => ?_) AllReadyH.nil
            go_simp
            refine atK fun w3 hw3 => ?_
            have hx3 : Wb.Ext W0 w3 := by rw [hw3]; exact Wb.Ext.alloc hx2 _
            have hb3 : Wb.Ext w2 w3 := by rw [hw3]; exact Wb.Ext.alloc (.refl _) _
            replace HPO := Lib.hid (HPO.out.ext hb3)
            obtain ⟨O, hO⟩ : ∃ o, w2.heap.size = o := ⟨_, rfl⟩
            have yo : w3.cell? ⟨O, 0, none⟩ = some (.slice none 0 0) := by rw [hw3, ← hO]; simp [go_sem]
            have yf : w3.frozen? ⟨O, 0, none⟩ = false := by rw [hw3, ← hO]; simp [go_sem]
            have hOl : O < w3.heap.size := by rw [hw3, ← hO]; simp
            have hOX : X < O := by rw [← hO]; first | exact hX2 | exact Nat.lt_of_lt_of_le hX2 hx2.size
            (try rw [hO])
            clear hw3 hb3 hO
            refine hK.out _ _ ⟨hx3.keep x0, hx3.keep x1, hx3.keep tk⟩ (fun hHeld => ?_)
            clear hK K
            (try simp only [List.setIfInBounds_toArray, List.set_cons_zero, List.set_cons_succ])
            refine wpAnyH_ready (rs := [7]) (by kernel_rfl) (by simp) ?_
            refine AllReadyH.cons (o := _) rfl (fun K hK => ?_) AllReadyH.nil
            go_simp
            refine atK fun w4 hw4 => ?_
            obtain ⟨z0, zk, zf, zz, ze⟩ := st1 (w := w3) (w' := w4) (b := O) (o := 0) (x := .slice oa r0.length oc) hw4 yo
            have zsp : SpL w4 (.slice oa r0.length oc) r0 := by rw [hw4]; exact HPO.out.set yo _
            have zm : SMid w w4 X y ix o f t pay x (.slice ta ts.length tc) ts := (HM0.out.keep hx3).set (b := O) hOX zk zf zz (ze w (by omega) (HM0.out.keep hx3).ext) (by rw [hw4]; exact (HM0.out.keep hx3).sp.set yo _)
            have hO9 : O < w4.heap.size := by rw [zz]; exact hOl
            clear hw4 zk zf zz ze yo yf
            refine hK.out _ _ ⟨zm.x0, zm.x1, zm.tk⟩ (fun hHeld => ?_)
            clear hK K
            (try simp only [Act.put, List.setIfInBounds_toArray, List.set_cons_zero, List.set_cons_succ])
            refine take_d (i := 8) (d := 11) (v := ?_) rfl rfl (by kernel_rfl) (by kernel_rfl) (by kernel_rfl) (fun _ _ _ h => h) (Or.inl ⟨by rfl, ?_⟩) (by assumption) ?_
            rotate_left
            · (intro w hSw; (try dsimp only at hSw); go_simp; (try with_reducible rfl))
            (try simp only [List.setIfInBounds_toArray, List.set_cons_zero, List.set_cons_succ])
            refine wpAnyH_done (by kernel_rfl) ?_ _
            go_wp2_with fail
            go_meet
            exact ⟨O, oa, oc, r0, rfl, rfl, z0, zsp, HS0, zm, hO9⟩
          refine AllReadyH.cons (o := _) rfl (fun K hK => ?_) ?_
          · go_simp
            refine atK fun w2 hw2 => ?_
            have hx2 : Wb.Ext W0 w2 := by rw [hw2]; exact Wb.Ext.alloc hx1 _
            have hb2 : Wb.Ext w1 w2 := by rw [hw2]; exact Wb.Ext.alloc (.refl _) _
            replace HP := Lib.hid (HP.out.ext hb2)
            obtain ⟨O, hO⟩ : ∃ o, w1.heap.size = o := ⟨_, rfl⟩
            have yo : w2.cell? ⟨O, 0, none⟩ = some (.slice none 0 0) := by rw [hw2, ← hO]; simp [go_sem]
            have yf : w2.frozen? ⟨O, 0, none⟩ = false := by rw [hw2, ← hO]; simp [go_sem]
            have hOl : O < w2.heap.size := by rw [hw2, ← hO]; simp
            have hOX : X < O := by rw [← hO]; first | exact hX2 | exact Nat.lt_of_lt_of_le hX2 hx1.size
            (try rw [hO])
            clear hw2 hb2 hO
            refine hK.out _ _ ⟨hx2.keep x0, hx2.keep x1, hx2.keep tk⟩ (fun hHeld => ?_)
            clear hK K
            (try simp only [List.setIfInBounds_toArray, List.set_cons_zero, List.set_cons_succ])
            refine wpAnyH_ready (rs := [3]) (by kernel_rfl) (by simp) ?_
            refine AllReadyH.cons (o := _) rfl (fun K hK => ?_) AllReadyH.nil
            go_simp
            go_at_call 23
            go_fit (of_any _ [x.d] _ HP.out HBX.out (by simp))
            rintro e w3 ⟨v0, r0, rfl, hs0, hp0, hb3⟩
            obtain ⟨oa, oc, rfl⟩ := hp0.1.shape
            have HS0 := Lib.hid hs0
            have hr0 : r0.length ≤ 1 := hs0.len
            have hx3 : Wb.Ext W0 w3 := hx2.trans hb3
            have yo := hb3.keep yo
            have yf := (Below.frozen hb3 hOl).trans yf
            replace hOl := Nat.lt_of_lt_of_le hOl hb3.size
            replace HP := Lib.hid (HP.out.ext hb3)
            have HPO := Lib.hid hp0
            clear hs0 hp0 hb3 HP
            refine hK.out _ _ ⟨hx3.keep x0, hx3.keep x1, hx3.keep tk⟩ (fun hHeld => ?_)
            clear hK K
            (try simp only [List.setIfInBounds_toArray, List.set_cons_zero, List.set_cons_succ])
            refine wpAnyH_ready (rs := [7]) (by kernel_rfl) (by simp) ?_
            refine AllReadyH.cons (o := _) rfl (fun K hK => ?_) AllReadyH.nil
            go_simp
            refine atK fun w4 hw4 => ?_
            obtain ⟨z0, zk, zf, zz, ze⟩ := st1 (w := w3) (w' := w4) (b := O) (o := 0) (x := .slice oa r0.length oc) hw4 yo
            have zsp : SpL w4 (.slice oa r0.length oc) r0 := by rw [hw4]; exact HPO.out.set yo _
            have zm : SMid w w4 X y ix o f t pay x (.slice ta ts.length tc) ts := (HM0.out.keep hx3).set (b := O) hOX zk zf zz (ze w (by omega) (HM0.out.keep hx3).ext) (by rw [hw4]; exact (HM0.out.keep hx3).sp.set yo _)
            have hO9 : O < w4.heap.size := by rw [zz]; exact hOl
            clear hw4 zk zf zz ze yo yf
            refine hK.out _ _ ⟨zm.x0, zm.x1, zm.tk⟩ (fun hHeld => ?_)
            clear hK K
            (try simp only [Act.put, List.setIfInBounds_toArray, List.set_cons_zero, List.set_cons_succ])
            refine take_d (i := 8) (d := 11) (v := ?_) rfl rfl (by kernel_rfl) (by kernel_rfl) (by kernel_rfl) (fun _ _ _ h => h) (Or.inl ⟨by rfl, ?_⟩) (by assumption) ?_
            rotate_left
            · (intro w hSw; (try dsimp only at hSw); go_simp; (try with_reducible rfl))
            (try simp only [List.setIfInBounds_toArray, List.set_cons_zero, List.set_cons_succ])
            refine wpAnyH_done (by kernel_rfl) ?_ _
            go_wp2_with fail
            go_meet
            exact ⟨O, oa, oc, r0, rfl, rfl, z0, zsp, HS0, zm, hO9⟩
          exact AllReadyH.nil
        refine AllReadyH.cons (o := _) rfl (fun K hK => ?_) ?_
        · go_simp
          refine atK fun w1 hw1 => ?_
          have hx1 : Wb.Ext W0 w1 := by rw [hw1]; exact Wb.Ext.alloc (.drew (.refl _)) _
          have hb1 : Wb.Ext W0.drew w1 := by rw [hw1]; exact Wb.Ext.alloc (.refl _) _
          obtain ⟨O, hO⟩ : ∃ o, W0.heap.size = o := ⟨_, rfl⟩
          have yo : w1.cell? ⟨O, 0, none⟩ = some (.slice none 0 0) := by rw [hw1, ← hO]; simp [go_sem]
          have yf : w1.frozen? ⟨O, 0, none⟩ = false := by rw [hw1, ← hO]; simp [go_sem]
          have hOl : O < w1.heap.size := by rw [hw1, ← hO]; simp
          have hOX : X < O := by rw [← hO]; first | exact hX2 | exact Nat.lt_of_lt_of_le hX2 (.drew (.refl _)).size
          (try rw [hO])
          clear hw1 hb1 hO
          refine hK.out _ _ ⟨hx1.keep x0, hx1.keep x1, hx1.keep tk⟩ (fun hHeld => ?_)
          clear hK K
          (try simp only [List.setIfInBounds_toArray, List.set_cons_zero, List.set_cons_succ])
          refine wpAnyH_ready (rs := [2]) (by kernel_rfl) (by simp) ?_
          refine AllReadyH.cons (o := _) rfl (fun K hK => ?_) AllReadyH.nil
          go_simp
          refine atK fun w2 hw2 => ?_
          have hx2 : Wb.Ext W0 w2 := by rw [hw2]; exact Wb.Ext.alloc hx1 _
          have hb2 : Wb.Ext w1 w2 := by rw [hw2]; exact Wb.Ext.alloc (.refl _) _
          have yo := hb2.keep yo
          have yf := (Below.frozen hb2 hOl).trans yf
          replace hOl := Nat.lt_of_lt_of_le hOl hb2.size
          have HP := Lib.hid (show SpL w2 (.slice (some ⟨w1.heap.size, 0, none⟩) 1 1) [x.d] by rw [hw2]; exact spl_one w1 _ rfl x.d _)
          clear hw2 hb2
          refine hK.out _ _ ⟨hx2.keep x0, hx2.keep x1, hx2.keep tk⟩ (fun hHeld => ?_)
          clear hK K
          (try simp only [List.setIfInBounds_toArray, List.set_cons_zero, List.set_cons_succ])
          refine wpAnyH_ready (rs := [3]) (by kernel_rfl) (by simp) ?_
          refine AllReadyH.cons (o := _) rfl (fun K hK => ?_) AllReadyH.nil
          go_simp
          go_at_call 23
          go_fit (of_any _ [x.d] _ HP.out HBX.out (by simp))
          rintro e w3 ⟨v0, r0, rfl, hs0, hp0, hb3⟩
          obtain ⟨oa, oc, rfl⟩ := hp0.1.shape
          have HS0 := Lib.hid hs0
          have hr0 : r0.length ≤ 1 := hs0.len
          have hx3 : Wb.Ext W0 w3 := hx2.trans hb3
          have yo := hb3.keep yo
          have yf := (Below.frozen hb3 hOl).trans yf
          replace hOl := Nat.lt_of_lt_of_le hOl hb3.size
          replace HP := Lib.hid (HP.out.ext hb3)
          have HPO := Lib.hid hp0
          clear hs0 hp0 hb3 HP
          refine hK.out _ _ ⟨hx3.keep x0, hx3.keep x1, hx3.keep tk⟩ (fun hHeld => ?_)
          clear hK K
          (try simp only [List.setIfInBounds_toArray, List.set_cons_zero, List.set_cons_succ])
          refine wpAnyH_ready (rs := [7]) (by kernel_rfl) (by simp) ?_
          refine AllReadyH.cons (o := _) rfl (fun K hK => ?_) AllReadyH.nil
          go_simp
          refine atK fun w4 hw4 => ?_
          obtain ⟨z0, zk, zf, zz, ze⟩ := st1 (w := w3) (w' := w4) (b := O) (o := 0) (x := .slice oa r0.length oc) hw4 yo
          have zsp : SpL w4 (.slice oa r0.length oc) r0 := by rw [hw4]; exact HPO.out.set yo _
          have zm : SMid w w4 X y ix o f t pay x (.slice ta ts.length tc) ts := (HM0.out.keep hx3).set (b := O) hOX zk zf zz (ze w (by omega) (HM0.out.keep hx3).ext) (by rw [hw4]; exact (HM0.out.keep hx3).sp.set yo _)
          have hO9 : O < w4.heap.size := by rw [zz]; exact hOl
          clear hw4 zk zf zz ze yo yf
          refine hK.out _ _ ⟨zm.x0, zm.x1, zm.tk⟩ (fun hHeld => ?_)
          clear hK K
          (try simp only [Act.put, List.setIfInBounds_toArray, List.set_cons_zero, List.set_cons_succ])
          refine take_d (i := 8) (d := 11) (v := ?_) rfl rfl (by kernel_rfl) (by kernel_rfl) (by kernel_rfl) (fun _ _ _ h => h) (Or.inl ⟨by rfl, ?_⟩) (by assumption) ?_
          rotate_left
          · (intro w hSw; (try dsimp only at hSw); go_simp; (try with_reducible rfl))
          (try simp only [List.setIfInBounds_toArray, List.set_cons_zero, List.set_cons_succ])
          refine wpAnyH_done (by kernel_rfl) ?_ _
          go_wp2_with fail
          go_meet
          exact ⟨O, oa, oc, r0, rfl, rfl, z0, zsp, HS0, zm, hO9⟩
        exact AllReadyH.nil
      case rest =>
        obtain ⟨O, oa, oc, r0, e10, e11, o0, hos, HS0, hm, hO9⟩ := hcut
        subst e10
        subst e11
        have HM := Lib.hid hm
        have HOS := Lib.hid hos
        have hr0 : r0.length ≤ 1 := HS0.out.len
        clear hos hm p0 p1 p2 p3 p4 p5 x0 x1 x2 x3 tk tf hb0
        obtain ⟨p0, p1, p2, p3, p4, p5, x0, x1, x2, x3, tk, tf, sp, lo, hi, hxm⟩ := HM.out
        obtain ⟨n, hn⟩ : ∃ n, lenS x.d = n := ⟨_, rfl⟩
        have HN := Lib.hid hn
        obtain ⟨c, hc⟩ : ∃ n, lenS (crossS x.d (f, t)) = n := ⟨_, rfl⟩
        have HC := Lib.hid hc
        obtain ⟨L, hL⟩ : ∃ n, lenS (f, t) = n := ⟨_, rfl⟩
        have HL := Lib.hid hL
        have hIP := inP_prog (f, t) x.d
        rw [hn, hc, hL] at hIP
        have HIP := Lib.hid hIP
        clear hn hc hL hIP
        go_wp2_with fail
        go_fit (length_any x.d HBD.out _); rintro e v1w ⟨rfl, hbv1w⟩
        rw [HN.out]
        have hnv1w : Wb.Ext wc v1w := Wb.Ext.trans (by (repeat' (first | (with_reducible assumption) | (with_reducible exact Wb.Ext.refl _) | (with_reducible refine Wb.Ext.drew ?_) | (with_reducible refine Wb.Ext.drewN ?_ _) | (with_reducible refine Wb.Ext.alloc ?_ _) | (with_reducible refine Wb.Ext.trans ?_ (by assumption))))) hbv1w
        replace HM := Lib.hid (HM.out.keep hnv1w)
        have o0 := hnv1w.keep o0
        replace HOS := Lib.hid (HOS.out.ext hnv1w)
        replace hO9 := Nat.lt_of_lt_of_le hO9 hnv1w.size
        clear hbv1w hnv1w p0 p1 p2 p3 p4 p5 x0 x1 x2 x3 tk tf sp lo hi hxm
        obtain ⟨p0, p1, p2, p3, p4, p5, x0, x1, x2, x3, tk, tf, sp, lo, hi, hxm⟩ := HM.out
        by_cases h0 : n = 0
        case pos =>
          have HF := Lib.hid (show inP (f, t) x.d = false by rw [HIP.out, h0]; rfl)
          subst h0
          go_wp2
          refine bodyPost_ret (v := .tuple #[.int .i64 0, .int .i64 24]) (by simp [results, Try.results14, go_sem]) rfl ⟨by rw [HSAL.out, HTD.out, HDR.out, sal_out HF.out], hxm⟩
        have d0 : (n == 0) = false := by simpa using h0
        have HN0 := Lib.hid h0
        clear h0
        go_wp2_with fail
        go_fit (cross_any x.d (f, t) _); rintro e v2w ⟨rfl, hbv2w⟩
        have hnv2w : Wb.Ext v1w v2w := Wb.Ext.trans (by (repeat' (first | (with_reducible assumption) | (with_reducible exact Wb.Ext.refl _) | (with_reducible refine Wb.Ext.drew ?_) | (with_reducible refine Wb.Ext.drewN ?_ _) | (with_reducible refine Wb.Ext.alloc ?_ _) | (with_reducible refine Wb.Ext.trans ?_ (by assumption))))) hbv2w
        replace HM := Lib.hid (HM.out.keep hnv2w)
        have o0 := hnv2w.keep o0
        replace HOS := Lib.hid (HOS.out.ext hnv2w)
        replace hO9 := Nat.lt_of_lt_of_le hO9 hnv2w.size
        clear hbv2w hnv2w p0 p1 p2 p3 p4 p5 x0 x1 x2 x3 tk tf sp lo hi hxm
        obtain ⟨p0, p1, p2, p3, p4, p5, x0, x1, x2, x3, tk, tf, sp, lo, hi, hxm⟩ := HM.out
        go_wp2_with fail
        go_fit (length_any (crossS x.d (f, t)) (cross_bd HBD.out HBS.out) _); rintro e v3w ⟨rfl, hbv3w⟩
        rw [HC.out]
        have hnv3w : Wb.Ext v2w v3w := Wb.Ext.trans (by (repeat' (first | (with_reducible assumption) | (with_reducible exact Wb.Ext.refl _) | (with_reducible refine Wb.Ext.drew ?_) | (with_reducible refine Wb.Ext.drewN ?_ _) | (with_reducible refine Wb.Ext.alloc ?_ _) | (with_reducible refine Wb.Ext.trans ?_ (by assumption))))) hbv3w
        replace HM := Lib.hid (HM.out.keep hnv3w)
        have o0 := hnv3w.keep o0
        replace HOS := Lib.hid (HOS.out.ext hnv3w)
        replace hO9 := Nat.lt_of_lt_of_le hO9 hnv3w.size
        clear hbv3w hnv3w p0 p1 p2 p3 p4 p5 x0 x1 x2 x3 tk tf sp lo hi hxm
        obtain ⟨p0, p1, p2, p3, p4, p5, x0, x1, x2, x3, tk, tf, sp, lo, hi, hxm⟩ := HM.out
        by_cases h1 : c = n
        case neg =>
          have HF := Lib.hid (show inP (f, t) x.d = false by rw [HIP.out]; simp [h1])
          have d1 : (c == n) = false := by simpa using h1
          have d2 : (c != n) = true := by simpa using h1
          clear h1
          go_wp2
          refine bodyPost_ret (v := .tuple #[.int .i64 0, .int .i64 24]) (by simp [results, Try.results14, go_sem]) rfl ⟨by rw [HSAL.out, HTD.out, HDR.out, sal_out HF.out], hxm⟩
        subst h1
        go_wp2_with fail
        go_fit (length_any (f, t) HBS.out _); rintro e v4w ⟨rfl, hbv4w⟩
        rw [HL.out]
        have hnv4w : Wb.Ext v3w v4w := Wb.Ext.trans (by (repeat' (first | (with_reducible assumption) | (with_reducible exact Wb.Ext.refl _) | (with_reducible refine Wb.Ext.drew ?_) | (with_reducible refine Wb.Ext.drewN ?_ _) | (with_reducible refine Wb.Ext.alloc ?_ _) | (with_reducible refine Wb.Ext.trans ?_ (by assumption))))) hbv4w
        replace HM := Lib.hid (HM.out.keep hnv4w)
        have o0 := hnv4w.keep o0
        replace HOS := Lib.hid (HOS.out.ext hnv4w)
        replace hO9 := Nat.lt_of_lt_of_le hO9 hnv4w.size
        clear hbv4w hnv4w p0 p1 p2 p3 p4 p5 x0 x1 x2 x3 tk tf sp lo hi hxm
        obtain ⟨p0, p1, p2, p3, p4, p5, x0, x1, x2, x3, tk, tf, sp, lo, hi, hxm⟩ := HM.out
        by_cases h2 : 366 < L
        case pos =>
          have HF := Lib.hid (show inP (f, t) x.d = false by rw [HIP.out]; simp [h2])
          have d2 : decide (366 < L) = true := by simpa using h2
          clear h2
          go_wp2
          refine bodyPost_ret (v := .tuple #[.int .i64 0, .int .i64 24]) (by simp [results, Try.results14, go_sem]) rfl ⟨by rw [HSAL.out, HTD.out, HDR.out, sal_out HF.out], hxm⟩
        have d3 : decide (366 < L) = false := by simpa using h2
        have HF := Lib.hid (show inP (f, t) x.d = true by rw [HIP.out]; simp [HN0.out, h2])
        clear h2
        have htl := HTK.out.len
        go_wp2_with fail
        go_fit (meet_any _ _ ts r0 _ sp (HOS.out.ext (by (repeat' (first | (with_reducible assumption) | (with_reducible exact Wb.Ext.refl _) | (with_reducible refine Wb.Ext.drew ?_) | (with_reducible refine Wb.Ext.drewN ?_ _) | (with_reducible refine Wb.Ext.alloc ?_ _) | (with_reducible refine Wb.Ext.trans ?_ (by assumption)))))) HTK.out.1 HS0.out.canon HTK.out.2.1 HS0.out.bd (by omega) (by omega)); rintro e v5w ⟨mv, m, rfl, hms, hmp, hbv5w⟩
        obtain ⟨ma, mc, rfl⟩ := hmp.1.shape
        have HMS := Lib.hid hms
        have HMP := Lib.hid hmp
        have hml : m.length ≤ 1000000 := by have := hms.len; omega
        clear hms hmp
        have hnv5w : Wb.Ext v4w v5w := Wb.Ext.trans (by (repeat' (first | (with_reducible assumption) | (with_reducible exact Wb.Ext.refl _) | (with_reducible refine Wb.Ext.drew ?_) | (with_reducible refine Wb.Ext.drewN ?_ _) | (with_reducible refine Wb.Ext.alloc ?_ _) | (with_reducible refine Wb.Ext.trans ?_ (by assumption))))) hbv5w
        replace HM := Lib.hid (HM.out.keep hnv5w)
        have o0 := hnv5w.keep o0
        replace HOS := Lib.hid (HOS.out.ext hnv5w)
        replace hO9 := Nat.lt_of_lt_of_le hO9 hnv5w.size
        clear hbv5w hnv5w p0 p1 p2 p3 p4 p5 x0 x1 x2 x3 tk tf sp lo hi hxm
        obtain ⟨p0, p1, p2, p3, p4, p5, x0, x1, x2, x3, tk, tf, sp, lo, hi, hxm⟩ := HM.out
        obtain ⟨D, hD⟩ : ∃ D, daysL m = D := ⟨_, rfl⟩
        have HD := Lib.hid hD
        clear hD
        go_wp2_with fail
        go_fit (days_any _ m _ (HMP.out.1.ext (by (repeat' (first | (with_reducible assumption) | (with_reducible exact Wb.Ext.refl _) | (with_reducible refine Wb.Ext.drew ?_) | (with_reducible refine Wb.Ext.drewN ?_ _) | (with_reducible refine Wb.Ext.alloc ?_ _) | (with_reducible refine Wb.Ext.trans ?_ (by assumption)))))) HMS.out.bd hml); rintro e v6w ⟨rfl, hbv6w⟩
        rw [HD.out]
        have hnv6w : Wb.Ext v5w v6w := Wb.Ext.trans (by (repeat' (first | (with_reducible assumption) | (with_reducible exact Wb.Ext.refl _) | (with_reducible refine Wb.Ext.drew ?_) | (with_reducible refine Wb.Ext.drewN ?_ _) | (with_reducible refine Wb.Ext.alloc ?_ _) | (with_reducible refine Wb.Ext.trans ?_ (by assumption))))) hbv6w
        replace HM := Lib.hid (HM.out.keep hnv6w)
        have o0 := hnv6w.keep o0
        replace HOS := Lib.hid (HOS.out.ext hnv6w)
        replace hO9 := Nat.lt_of_lt_of_le hO9 hnv6w.size
        clear hbv6w hnv6w p0 p1 p2 p3 p4 p5 x0 x1 x2 x3 tk tf sp lo hi hxm
        obtain ⟨p0, p1, p2, p3, p4, p5, x0, x1, x2, x3, tk, tf, sp, lo, hi, hxm⟩ := HM.out
        have HAN := Lib.hid (show (l.take k).any (fun z => meetB x.d z.d) = decide (0 < D) by rw [← HD.out]; exact (taken_meet HTK.out HF.out HS0.out HMS.out).symm)
        by_cases h3 : 0 < D
        case pos =>
          have d4 : decide (0 < D) = true := by simpa using h3
          have HA1 := Lib.hid (show (l.take k).any (fun z => meetB x.d z.d) = true by rw [HAN.out]; exact d4)
          clear h3
          go_wp2
          refine bodyPost_ret (v := .tuple #[.int .i64 0, .int .i64 16]) (by simp [results, Try.results14, go_sem]) rfl ⟨by rw [HSAL.out, HTD.out, HDR.out, sal_cross HF.out HA1.out], hxm⟩
        have d4 : decide (0 < D) = false := by simpa using h3
        have HA1 := Lib.hid (show (l.take k).any (fun z => meetB x.d z.d) = false by rw [HAN.out]; exact d4)
        clear h3 HMP HMS HD HAN
        go_wp2_with fail
        go_fit (union_any _ _ ts r0 _ sp (HOS.out.ext (by (repeat' (first | (with_reducible assumption) | (with_reducible exact Wb.Ext.refl _) | (with_reducible refine Wb.Ext.drew ?_) | (with_reducible refine Wb.Ext.drewN ?_ _) | (with_reducible refine Wb.Ext.alloc ?_ _) | (with_reducible refine Wb.Ext.trans ?_ (by assumption)))))) HTK.out.1 HS0.out.canon HTK.out.2.1 HS0.out.bd (by omega) (by omega)); rintro e v7w ⟨uv, u, rfl, hus, hup, hbv7w⟩
        obtain ⟨ua, uc, rfl⟩ := hup.1.shape
        have HUS := Lib.hid hus
        have HUP := Lib.hid hup
        clear hus hup
        have hnv7w : Wb.Ext v6w v7w := Wb.Ext.trans (by (repeat' (first | (with_reducible assumption) | (with_reducible exact Wb.Ext.refl _) | (with_reducible refine Wb.Ext.drew ?_) | (with_reducible refine Wb.Ext.drewN ?_ _) | (with_reducible refine Wb.Ext.alloc ?_ _) | (with_reducible refine Wb.Ext.trans ?_ (by assumption))))) hbv7w
        replace HM := Lib.hid (HM.out.keep hnv7w)
        have o0 := hnv7w.keep o0
        replace HOS := Lib.hid (HOS.out.ext hnv7w)
        replace hO9 := Nat.lt_of_lt_of_le hO9 hnv7w.size
        clear hbv7w hnv7w p0 p1 p2 p3 p4 p5 x0 x1 x2 x3 tk tf sp lo hi hxm
        obtain ⟨p0, p1, p2, p3, p4, p5, x0, x1, x2, x3, tk, tf, sp, lo, hi, hxm⟩ := HM.out
        have HTK2 := Lib.hid (taken_more HTK.out HF.out HS0.out HUS.out)
        go_wp2_with fail
        refine Wb.calls_at9 fun W9 hW9 => ?_
        obtain ⟨z0, zk, zf, zz, ze⟩ := st1 (w := v7w) (w' := W9) (b := w.heap.size + 1) (o := 0) (x := .slice ua u.length uc) hW9 tk
        have zu : SpL W9 (.slice ua u.length uc) u := by rw [hW9]; exact HUP.out.set tk _
        have hx9 : Wb.Ext w W9 := ze w (by omega) hxm
        have lo' := lo
        replace p0 := zk _ _ _ (by omega) p0
        replace p1 := zk _ _ _ (by omega) p1
        replace p2 := zk _ _ _ (by omega) p2
        replace p3 := zk _ _ _ (by omega) p3
        replace p4 := zk _ _ _ (by omega) p4
        replace p5 := zk _ _ _ (by omega) p5
        replace x0 := zk _ _ _ (by omega) x0
        replace x1 := zk _ _ _ (by omega) x1
        replace x2 := zk _ _ _ (by omega) x2
        replace x3 := zk _ _ _ (by omega) x3
        have tf9 : ∀ j, W9.frozen? ⟨w.heap.size + 1, j, none⟩ = false := fun j => (zf _).trans (tf j)
        have hT9 : w.heap.size + 1 < W9.heap.size := by rw [zz]; omega
        have HZU := Lib.hid zu
        have HTF9 := Lib.hid tf9
        clear hW9 zk zf zz ze zu tf tf9 tk sp HM HOS o0 HUP HUS hO9 hi hxm lo'
        obtain ⟨⟨c1, c2⟩, hpc⟩ : ∃ p, pcR ix o (f, t) x = p := ⟨_, rfl⟩
        have HPC := Lib.hid hpc
        clear hpc
        go_fit (piece_any y ix o (f, t) pay x hII.out HBS.out HF.out HBD.out _); rintro e W10 ⟨rfl, hb10⟩
        rw [HPC.out]
        have p0 := hb10.keep p0
        have p1 := hb10.keep p1
        have p2 := hb10.keep p2
        have p3 := hb10.keep p3
        have p4 := hb10.keep p4
        have p5 := hb10.keep p5
        have z0 := hb10.keep z0
        have tf : ∀ j, W10.frozen? ⟨w.heap.size + 1, j, none⟩ = false := fun j => (Below.frozen hb10 (by simpa using hT9)).trans (HTF9.out j)
        have hT10 : w.heap.size + 1 < W10.heap.size := Nat.lt_of_lt_of_le hT9 hb10.size
        have hx10 := hx9.trans hb10
        replace HZU := Lib.hid (HZU.out.ext hb10)
        clear hb10 x0 x1 x2 x3 hT9 HTF9
        by_cases h4 : c2 = 0
        case neg =>
          have d5 : (c2 == 0) = false := by simpa using h4
          have d6 : (c2 != 0) = true := by simpa using h4
          have H4 := Lib.hid h4
          clear h4
          go_wp2
          refine bodyPost_ret (v := .tuple #[.int .i64 0, .int .i64 c2]) (by simp [results, Try.results14, go_sem]) rfl ⟨by rw [HSAL.out, HTD.out, HDR.out, sal_bad HF.out HA1.out HPC.out H4.out], hx10⟩
        subst h4
        obtain ⟨⟨t1, t2⟩, ht⟩ : ∃ p, Wb.told sum c1 (sum + c1) = p := ⟨_, rfl⟩
        have HT := Lib.hid ht
        clear ht
        go_wp2_with fail
        go_fit (add_any sum c1 _); rintro e wq ⟨rfl, rfl⟩
        rw [HT.out]
        by_cases h5 : t2 = 0
        case neg =>
          have d5 : (t2 == 0) = false := by simpa using h5
          have d6 : (t2 != 0) = true := by simpa using h5
          have H5 := Lib.hid h5
          clear h5
          go_wp2
          refine bodyPost_ret (v := .tuple #[.int .i64 0, .int .i64 t2]) (by simp [results, Try.results14, go_sem]) rfl ⟨by rw [HSAL.out, HTD.out, HDR.out, sal_over HF.out HA1.out HPC.out HT.out H5.out], hx10⟩
        subst h5
        have HNX := Lib.hid (show salR ix o (f, t) [] 0 l = salR ix o (f, t) (l.take (k + 1)) t1 (l.drop (k + 1)) by rw [HTD.out, HDR.out, sal_more HF.out HA1.out HPC.out HT.out, HTA.out])
        have HTK3 := Lib.hid (show Taken u (l.take (k + 1)) f t by rw [HTA.out]; exact HTK2.out)
        have HZ0 := Lib.hid z0
        go_wp2
        go_roundw
        case rel => exact ⟨k + 1, t1, u, ua, uc, by omega, by go_num, rfl, HZ0.out, tf, HZU.out, HTK3, HNX, p0, p1, p2, p3, p4, p5, hT10, hx10⟩
        case measure => simp [intOf]; omega
    · obtain rfl : k = l.length := by omega
      have H := Lib.hid (show salaryR ix o (f, t) l = (sum, 0) by rw [HSAL.out, HTD.out, List.drop_length, salR])
      go_wp2
      refine bodyPost_ret (v := .tuple #[.int .i64 sum, .int .i64 0]) (by simp [results, Try.results14, go_sem]) rfl ⟨by rw [H.out], hxr⟩

end Go.Proofs.Ytheofklbmknipaa
