/- Mod4 -/
import Derived.Test.YtnefdpnolojojaaGreatMod3
import Derived.Test.YtnefdpnolojojaaGreatMRa
import Derived.Deep.RegionHeld3
namespace Go.Proofs.YtnefdpnolojojaaGreat
open Go.RowKit Go.Sort Go.Lib Go.Maps
set_option maxRecDepth 8000
attribute [local go_sem ↓] Go.wp_at_zero Go.wp_at_succ
theorem run_append_void {P : Program} {w : World} (base : Nat) (t ty e : TypeId) (i : TypeInfo) (size : Nat) (ht : P.underlying t = some (.slice e)) (hi : P.info? e = some i)
  (v : Value) (n : Nat) (xs : List Value) (hown : w.ownsRow base e size v n xs) (c : Nat) :
  (Builtin.append_ #[t, t] ty #[v, .slice none 0 c]).run P w = .ok v w := by
 rcases hown.2 with ⟨rfl, rfl⟩ | ⟨g, cap, cur, rfl, _, _, hnc, _⟩
 ·simp [Builtin.append_, run_underlying ht, sizeOf, typeInfo, hi, Builtin.lenOf, Builtin.firstCells]
 ·simp [Builtin.append_, run_underlying ht, sizeOf, typeInfo, hi, Builtin.lenOf, Builtin.firstCells, hnc, storeCells]
def SrcX (w : World) (size : Nat) (v : Value) (m : Nat) (news : List Value) : Prop := Wb.SrcRow w size v m news ∨ (m = 0 ∧ news = [] ∧ ∃ c, v = .slice none 0 c)
theorem SrcX.ext {w w' : World} {size m : Nat} {v : Value} {news : List Value} (h : SrcX w size v m news) (k : Wb.Ext w w') : SrcX w' size v m news := h.elim (fun h => .inl (h.ext k)) .inr
theorem srcx_tbl {α : Type} {k : Nat} {f : α → List Value} (hf : ∀ x, (f x).length = k) (hk : 0 < k) {w : World} {v : Value} {l : List α} (h : Tbl k f w v l) : SrcX w k v l.length (rowsOf f l) := by
 obtain ⟨a, c, rfl⟩ := h.shape
 cases a with
 | some ad => exact .inl (src_tbl hf hk h)
 | none =>
  have : l = [] := by
   by_cases e : l = []
   ·exact e
   ·obtain ⟨b, off, hb, -⟩ := h.opened e
    cases hb
  subst this
  exact .inr ⟨rfl, rfl, c, rfl⟩
theorem wpList_append_rowX {P : Program} {w : World} {ops : Array Oper} {rest : List Oper} {o : Oper} {a : Act} {Q : Exit → Act → World → Prop} (hgd : o.guard = none) (s x : Operand) (t : TypeId)
  (ho : o.op = .call { callee := .builtin .append, args := #[s, x], argTypes := #[t, t] })
  (base : Nat) (e : TypeId) (i : TypeInfo) (z : Value) (size bytes : Nat) (ht : P.underlying t = some (.slice e)) (hi : P.info? e = some i) (hz : i.zero = some z)
  (hsize : i.size = size) (hby : i.bytes = bytes) (hzs : z.cells.size = size) (hsz : 0 < size)
  (v : Value) (n : Nat) (xs : List Value) (hs : a.eval s = v) (hown : w.ownsRow base e size v n xs)
  (xv : Value) (hx : a.eval x = xv) (m : Nat) (news : List Value) (hsrc : SrcX w size xv m news) (h1 : ∀ u ∈ news, u.oneCell' = true)
  (h63 : n + m ≤ maxLen) (hbytes : (n + m) * bytes ≤ 140737488355328) (hbase : base ≤ w.heap.size)
  (h : ∀ v' w', w'.ownsRow base e size v' (n + m) (xs ++ news) → w.grownBy w' v.ownBlock → (v'.ownBlock = v.ownBlock ∨ v'.ownBlock = some w.heap.size) → wpList P ops Q rest (a.put o.dst v') w') : wpList P ops Q (o :: rest) a w := by
 rcases hsrc with hsrc | ⟨rfl, rfl, c, rfl⟩
 ·exact wpList_append_row2 hgd s x t ho base e i z size bytes ht hi hz hsize hby hzs hsz v n xs hs hown xv hx m news hsrc h1 h63 hbytes hbase h
 ·refine wpList_plain hgd fun K hK => ?_
  have hrun := run_append_void (P := P) (w := w) base t o.type e i size ht hi v n xs hown c
  unfold Oper.wp
  simp [execOp, ho, resolve, invoke, builtin, hs, hx, hrun, Result.andThen]
  exact hK _ _ (h v w (by simpa using hown) (Wb.grownBy_refl _ _) (.inl rfl))
theorem slc_one {L : List Wb.Sl} (h : ∀ s ∈ L, ∃ a n c, s.v = .slice a n c) : ∀ u ∈ rowsOf slc L, u.oneCell' = true := by
 intro u hu
 obtain ⟨s, hs, hx⟩ := List.mem_flatMap.1 hu
 obtain ⟨a, n, c, hv⟩ := h s hs
 simp [slc] at hx
 rcases hx with rfl | rfl | rfl
 ·rfl
 ·rfl
 ·rw [hv]; rfl
def ppc (p : Int × Int) : List Value := [.int .i64 p.1, .int .i64 p.2, .slice none 0 0]
theorem ppc_len (p : Int × Int) : (ppc p).length = 3 := rfl
theorem ppc_one (l : List (Int × Int)) : ∀ u ∈ rowsOf ppc l, u.oneCell' = true := by
 intro u hu
 obtain ⟨s, hs, hx⟩ := List.mem_flatMap.1 hu
 simp [ppc] at hx
 rcases hx with rfl | rfl | rfl <;> rfl
theorem row_base {base base' : Nat} {w : World} {e k n : Nat} {v : Value} {xs : List Value} (h : w.ownsRow base e k v n xs) (hb : base' ≤ base) : w.ownsRow base' e k v n xs := by
 obtain ⟨h1, h2 | ⟨g, cap, cur, hv, hg, rest⟩⟩ := h
 ·exact ⟨h1, .inl h2⟩
 ·exact ⟨h1, .inr ⟨g, cap, cur, hv, Nat.le_trans hb hg, rest⟩⟩
theorem pers_cut {base : Nat} {w : World} {v : Value} {l : List (Int × Int)} (h : w.ownsRow base 38 3 v l.length (rowsOf ppc l)) {k : Nat} (hk : k ≤ l.length) : ∃ V1 V2, (∀ W : World, (Instr.sliceAt 39 v none (some (.int .i64 k)) none).run Tryz.prog W = .ok V1 W) ∧ Wb.SrcRow w 3 V1 k (rowsOf ppc (l.take k)) ∧
  (∀ W : World, (Instr.sliceAt 39 v (some (.int .i64 k)) none none).run Tryz.prog W = .ok V2 W) ∧ Wb.SrcRow w 3 V2 (l.length - k) (rowsOf ppc (l.drop k)) := by
 by_cases hv : v = .slice none 0 0
 ·have hl : l = [] := by
   obtain ⟨_, h2 | ⟨g, cap, cur, hv', _⟩⟩ := h
   ·exact List.length_eq_zero_iff.1 h2.2
   ·rw [hv] at hv'; cases hv'
  subst hv hl
  obtain rfl : k = 0 := by simpa using hk
  exact ⟨.slice none 0 0, .slice none 0 0, fun W => by simp [go_sem, Tryz.underlying39], ⟨rfl, .inl ⟨rfl, rfl⟩⟩, fun W => by simp [go_sem, Tryz.underlying39], ⟨rfl, .inl ⟨rfl, rfl⟩⟩⟩
 ·have ht := row_tbl ppc_len (by decide) h
  obtain ⟨_, h2 | ⟨g, cap, cur, hv', _, _, hcap, _⟩⟩ := id h
  ·exact absurd h2.1 hv
  ·subst hv'
   have hc : ∀ j x, l[j]? = some x → ∀ i u, (ppc x)[i]? = some u → w.cell? ⟨g, 0 + j * 3 + i, none⟩ = some u := fun j x hx i u hu => by
    obtain ⟨b, off, hb, hcc⟩ := ht.opened (by rintro rfl; simp at hx)
    cases hb
    exact hcc j x hx i u hu
   have hk1 : ¬ ((l.length : Int) < (k : Int)) := by omega
   have hk2 : ¬ ((cap : Int) < (k : Int)) := by omega
   have hk3 : (k : Int) ≤ l.length := by omega
   have hk4 : (k : Int) ≤ cap := by omega
   have hlt : (l.take k).length = k := by rw [List.length_take]; omega
   have hld : (l.drop k).length = l.length - k := by rw [List.length_drop]
   refine ⟨.slice (some ⟨g, 0, none⟩) k cap, ?_⟩
   have s1 : Wb.SrcRow w 3 (.slice (some ⟨g, 0, none⟩) k cap) k (rowsOf ppc (l.take k)) := by
    have := src_tbl ppc_len (by decide) (show Tbl 3 ppc w (.slice (some ⟨g, 0, none⟩) (l.take k).length cap) (l.take k) from .inr ⟨g, 0, cap, rfl, fun j x hj i u hu => by
     rw [List.getElem?_take] at hj
     split at hj
     ·exact hc j x hj i u hu
     ·cases hj⟩)
    rwa [hlt] at this
   by_cases hck : cap = k
   ·have hkl : k = l.length := by omega
    refine ⟨.slice (some ⟨g, 0, none⟩) (l.length - k) (cap - k), fun W => by simp [go_sem, Tryz.underlying39, hk4], s1, fun W => by simp [go_sem, Tryz.underlying39, hck, hk3], ?_⟩
    subst hkl
    rw [Nat.sub_self]
    exact ⟨by simp [rowsOf], .inr ⟨_, _, rfl, fun j u hj => by simp [rowsOf] at hj⟩⟩
   ·refine ⟨.slice (some ⟨g, k * 3, none⟩) (l.length - k) (cap - k), fun W => by simp [go_sem, Tryz.underlying39, hk4], s1, fun W => by simp [go_sem, Tryz.underlying39, hck, hk3], ?_⟩
    have := src_tbl ppc_len (by decide) (show Tbl 3 ppc w (.slice (some ⟨g, k * 3, none⟩) (l.drop k).length (cap - k)) (l.drop k) from .inr ⟨g, k * 3, cap - k, rfl, fun j x hj i u hu => by
     rw [List.getElem?_drop] at hj
     have := hc _ x hj i u hu
     rw [show 0 + (k + j) * 3 + i = k * 3 + j * 3 + i by rw [Nat.add_mul]; omega] at this
     exact this⟩)
    rwa [hld] at this
theorem take_any {l : List (Int × Int)} {k : Nat} {p q : Int × Int} (h : l[k]? = some q) : p ∈ l.take (k + 1) ↔ p ∈ l.take k ∨ p = q := by
 rw [take_snoc h, List.mem_append, List.mem_singleton]
theorem ins_at {l : List (Int × Int)} {n : Nat} {p : Int × Int} (hr : l.Pairwise fun a b => prLt a b = true) (hn : n ≤ l.length) (hp : p ∉ l) (hi : ∀ j x, l[j]? = some x → n ≤ j → prLt p x = true) (hl : ∀ x, 0 < n → l[n - 1]? = some x → prLt p x = false) : Wb.insP l p = l.take n ++ p :: l.drop n := by
 refine Wb.ins_new hn (fun t u hu ht => ?_) (fun z hz => ?_)
 ·obtain ⟨x, hx⟩ := Wb.get_ex (show n - 1 < l.length by omega)
  have h1 := hl x (by omega) hx
  have hxp : prLt x p = true := by
   cases h2 : prLt x p
   ·have := Wb.pr_total h1 h2
    subst this
    exact absurd (List.mem_of_getElem? hx) hp
   ·rfl
  by_cases e : t = n - 1
  ·subst e; rw [hx] at hu; cases hu; exact hxp
  ·have h3 : prLt u x = true := by
    have ht2 : t < l.length := (List.getElem?_eq_some_iff.1 hu).1
    have := List.pairwise_iff_getElem.1 hr t (n - 1) ht2 (by omega) (by omega)
    rw [(List.getElem?_eq_some_iff.1 hu).2, (List.getElem?_eq_some_iff.1 hx).2] at this
    exact this
   exact Wb.pr_trans h3 hxp
 ·have h2 := hi n z hz (Nat.le_refl _)
  refine ⟨?_, h2⟩
  cases h3 : prLt z p
  ·rfl
  ·have := Wb.pr_trans h2 h3
   rw [Wb.pr_irrefl] at this; cases this
set_option maxHeartbeats 8000000 in
theorem rper31_any (va vb : Value) (A B : List Wb.Sl) (w : World) (hA : Sls w va A) (hB : Sls w vb B) (hla : A.length ≤ 10000) (hlb : B.length ≤ 10000) :
  Calls Tryz.prog 78 #[va, vb] w fun e w' => ∃ u, e = .returned u ∧ Tbl 3 ppc w' u (Wb.persP A B) ∧ (∀ q, u.ownBlock = some q → w.heap.size ≤ q ∧ q < w'.heap.size) ∧ Wb.Ext w w' := by
 have HIN := Lib.hid (info_parts infoSlip)
 have HSA := Lib.hid (srcx_tbl slc_len (by decide) hA.1)
 have HSB := Lib.hid (srcx_tbl slc_len (by decide) hB.1)
 have HOA := Lib.hid (slc_one fun s hs => by obtain ⟨a, c, hv⟩ := (hA.2 s hs).1.1.shape; exact ⟨a, _, c, hv⟩)
 have HOB := Lib.hid (slc_one fun s hs => by obtain ⟨a, c, hv⟩ := (hB.2 s hs).1.1.shape; exact ⟨a, _, c, hv⟩)
 have HVA := Lib.hid (show ∀ s ∈ A, ∃ a n c, s.v = .slice a n c from fun s hs => by obtain ⟨a, c, hv⟩ := (hA.2 s hs).1.1.shape; exact ⟨a, _, c, hv⟩)
 have HVB := Lib.hid (show ∀ s ∈ B, ∃ a n c, s.v = .slice a n c from fun s hs => by obtain ⟨a, c, hv⟩ := (hB.2 s hs).1.1.shape; exact ⟨a, _, c, hv⟩)
 obtain ⟨aa, ac, rfl⟩ := hA.1.shape
 obtain ⟨ba, bc, rfl⟩ := hB.1.shape
 clear hA hB
 go_enter Tryz.func78, Tryz.ntmps78
 obtain ⟨hi, hz0, hz1, hz2⟩ := HIN.out.choose_spec
 go_wp2_with (at_builtin; go_loud (refine wpList_append_rowX rfl (.tmp 13) (.tmp 14) 39 rfl w.heap.size 38 _ slZ 3 40 Tryz.underlying39 hi hz0 hz1 hz2 rfl (by decide) _ _ _ rfl (own_empty (w := w) (Nat.le_refl _)) _ rfl A.length (rowsOf slc A) (HSA.out.ext (.alloc (.refl _) _)) HOA.out (by unfold maxLen; omega) (by omega) (by simp) ?_))
 intro u1 w1 hown1 hg1 _
 have hx1 : Wb.Ext w w1 := Wb.Ext.grown (.alloc (.refl _) _) hg1 (fun q hq => by simp [Value.ownBlock] at hq; omega)
 obtain ⟨u1a, u1c, rfl⟩ := row_shape hown1
 have HO1 := Lib.hid hown1
 clear hown1 hg1
 go_wp2_with (at_builtin; go_loud (refine wpList_append_rowX rfl (.tmp 15) (.tmp 16) 39 rfl w.heap.size 38 _ slZ 3 40 Tryz.underlying39 hi hz0 hz1 hz2 rfl (by decide) _ _ _ rfl HO1.out _ rfl B.length (rowsOf slc B) (HSB.out.ext hx1) HOB.out (by unfold maxLen; omega) (by omega) hx1.size ?_))
 intro u2 w2 hown2 hg2 _
 have hx2 : Wb.Ext w w2 := Wb.Ext.grown hx1 hg2 (fun q hq => (HO1.out.lt q hq).1)
 obtain ⟨al, hal⟩ : ∃ al, al = A ++ B := ⟨_, rfl⟩
 have HAL := Lib.hid hal
 have hll : al.length ≤ 20000 := by rw [hal, List.length_append]; omega
 have HT := Lib.hid (show Tbl 3 slc w2 u2 al by rw [hal]; refine row_tbl slc_len (by decide) (base := w.heap.size) (e := 38) (n := A.length + B.length) ?_; rw [rowsOf_app]; first | exact hown2 | simpa using hown2)
 have HX2 := Lib.hid hx2
 have HSH := Lib.hid (show ∀ s ∈ al, ∃ a n c, s.v = .slice a n c from fun s hs => by rw [hal] at hs; exact (List.mem_append.1 hs).elim (HVA.out s) (HVB.out s))
 obtain ⟨ta, tc, rfl⟩ := HT.out.shape
 clear hown2 hg2 hx1 hx2 HO1 HSA HSB HOA HOB hal hi hz0 hz1 hz2 hla hlb
 go_wp2_with fail
 go_loopw [7, 5] (fun iv ov wr => ∃ (k : Nat) (oa : Option Addr) (oc : Nat) (l : List (Int × Int)), k ≤ al.length ∧ iv = .int .i64 k ∧ ov = .slice oa l.length oc ∧ Hid (wr.ownsRow w.heap.size 38 3 (.slice oa l.length oc) l.length (rowsOf ppc l)) ∧ Hid (l = Wb.headsP (al.take k)) ∧ l.length ≤ k ∧ Hid (Wb.Ext w2 wr)) (fun iv _ _ => al.length - (intOf iv).toNat)
 case atStart => exact ⟨0, none, 0, [], Nat.zero_le _, rfl, rfl, Lib.hid own_none, Lib.hid rfl, Nat.le_refl _, Lib.hid (.refl _)⟩
 case round =>
  obtain ⟨k, oa, oc, l, hk, rfl, rfl, HO, HL, hlk, HX⟩ := hrel
  obtain ⟨wO, hwz⟩ : ∃ z, z = wr := ⟨_, rfl⟩
  subst hwz
  by_cases hlt : k < al.length
  case neg =>
   obtain rfl : k = al.length := by omega
   have d1 : decide ((al.length : Int) < (al.length : Int)) = false := by simp
   have HF := Lib.hid (show Tbl 3 ppc wO (.slice oa l.length oc) (Wb.persP A B) by
    have h9 := HL.out
    rw [List.take_length, HAL.out] at h9
    unfold Wb.persP
    rw [← h9]
    exact row_tbl ppc_len (by decide) HO.out)
   clear hlt hk
   go_wp2
   exact bodyPost_ret (v := .slice oa l.length oc) (by simp [results, Tryz.results78, go_sem]) rfl ⟨_, rfl, HF.out, fun q hq => HO.out.lt q hq, HX2.out.trans HX.out⟩
  obtain ⟨s, hs⟩ := Wb.get_ex hlt
  obtain ⟨b, off, hb, hc⟩ := (HT.out.ext HX.out).opened (by rintro rfl; simp at hs)
  obtain rfl : ta = some ⟨b, off, none⟩ := hb
  have c0 := hc k s hs 0 _ rfl
  have c1 := hc k s hs 1 _ rfl
  obtain ⟨sa, sn, sc, hsv⟩ := HSH.out s (List.mem_of_getElem? hs)
  have c2 := hc k s hs 2 (.slice sa sn sc) (by rw [← hsv]; rfl)
  rw [Nat.add_zero] at c0
  have d1 : decide ((k : Int) < (al.length : Int)) = true := by simp; omega
  have hki : (k : Int) < al.length := by omega
  have HNX := Lib.hid (show Wb.headsP (al.take (k + 1)) = Wb.insP l (s.y, s.i) by
   rw [take_snoc hs, HL.out]
   unfold Wb.headsP
   rw [List.foldl_append]; rfl)
  have HRI := Lib.hid (show l.Pairwise fun a b => prLt a b = true by rw [HL.out]; exact (Wb.fold_ins (al.take k) [] List.Pairwise.nil).1)
  clear hc hs hsv
  go_upto_region 7 with (fail)
  refine Wb.wp_at fun wB hwB => ?_
  obtain ⟨S, hS⟩ : ∃ S, wO.heap.size = S := ⟨_, rfl⟩
  have b0 : wB.cell? ⟨S, 0, none⟩ = some (.int .i64 s.y) := by rw [hwB, ← hS]; simp [go_sem]
  have b1 : wB.cell? ⟨S, 1, none⟩ = some (.int .i64 s.i) := by rw [hwB, ← hS]; simp [go_sem]
  have HXB := Lib.hid (show Wb.Ext wO wB by rw [hwB]; (repeat' (first | (with_reducible assumption) | (with_reducible exact Wb.Ext.refl _) | (with_reducible refine Wb.Ext.drew ?_) | (with_reducible refine Wb.Ext.drewN ?_ _) | (with_reducible refine Wb.Ext.alloc ?_ _) | (with_reducible refine Wb.Ext.trans ?_ (by assumption)))))
  rw [hS]
  clear hwB c0 c1 c2 d1 hki
  go_wp2_with fail
  go_loopw [10, 11] (fun gv iv wr => ∃ (j : Nat) (g : Bool), j ≤ l.length ∧ iv = .int .i64 j ∧ gv = .bool g ∧ Hid (g = true ↔ (s.y, s.i) ∈ l.take j) ∧ Hid (Wb.Ext wB wr)) (fun _ iv _ => l.length - (intOf iv).toNat)
  case atStart => exact ⟨0, false, Nat.zero_le _, rfl, rfl, Lib.hid (by simp), Lib.hid (.refl _)⟩
  case round =>
   obtain ⟨j, g, hj, rfl, rfl, HG, HXJ⟩ := hrel
   obtain ⟨wJ, hwz⟩ : ∃ z, z = wr := ⟨_, rfl⟩
   subst hwz
   replace b0 := HXJ.out.keep b0
   replace b1 := HXJ.out.keep b1
   by_cases hjl : j < l.length
   case pos =>
    obtain ⟨p, hp⟩ := Wb.get_ex hjl
    obtain ⟨d, eo, hd, hf⟩ := (row_tbl ppc_len (by decide) (row_ext3 HO.out (HXB.out.trans HXJ.out))).opened (by rintro rfl; simp at hp)
    obtain rfl : oa = some ⟨d, eo, none⟩ := hd
    have f0 := hf j p hp 0 _ rfl
    have f1 := hf j p hp 1 _ rfl
    rw [Nat.add_zero] at f0
    have d1 : decide ((j : Int) < (l.length : Int)) = true := by simp; omega
    have hji : (j : Int) < l.length := by omega
    have HT := Lib.hid (take_any (p := (s.y, s.i)) hp)
    clear hf hp hjl
    by_cases h1 : p.1 = s.y
    ·have q1 : (p.1 == s.y) = true := by simpa using h1
     by_cases h2 : p.2 = s.i
     ·have q2 : (p.2 == s.i) = true := by simpa using h2
      have HG2 := Lib.hid (show (s.y, s.i) ∈ l.take (j + 1) from HT.out.2 (.inr (Prod.ext h1.symm h2.symm)))
      clear h1 h2
      go_wp2_with fail
      go_quiet (fail)
      go_wp2
      go_roundw
      case rel => exact ⟨j + 1, true, by omega, by go_num, rfl, Lib.hid ⟨fun _ => HG2.out, fun _ => rfl⟩, Lib.hid (HXJ.out.trans (by (repeat' (first | (with_reducible assumption) | (with_reducible exact Wb.Ext.refl _) | (with_reducible refine Wb.Ext.drew ?_) | (with_reducible refine Wb.Ext.drewN ?_ _) | (with_reducible refine Wb.Ext.alloc ?_ _) | (with_reducible refine Wb.Ext.trans ?_ (by assumption))))))⟩
      case measure => first | (simp [intOf]; done) | (simp [intOf]; omega)
     ·have q2 : (p.2 == s.i) = false := by simpa using h2
      have HG2 := Lib.hid (show (g = true ↔ (s.y, s.i) ∈ l.take (j + 1)) from ⟨fun h => HT.out.2 (.inl (HG.out.1 h)), fun h => (HT.out.1 h).elim HG.out.2 (fun e => absurd (congrArg Prod.snd e).symm h2)⟩)
      clear h1 h2
      go_wp2_with fail
      go_quiet (fail)
      go_wp2
      go_roundw
      case rel => exact ⟨j + 1, g, by omega, by go_num, rfl, HG2, Lib.hid (HXJ.out.trans (by (repeat' (first | (with_reducible assumption) | (with_reducible exact Wb.Ext.refl _) | (with_reducible refine Wb.Ext.drew ?_) | (with_reducible refine Wb.Ext.drewN ?_ _) | (with_reducible refine Wb.Ext.alloc ?_ _) | (with_reducible refine Wb.Ext.trans ?_ (by assumption))))))⟩
      case measure => first | (simp [intOf]; done) | (simp [intOf]; omega)
    ·have q1 : (p.1 == s.y) = false := by simpa using h1
     have HG2 := Lib.hid (show (g = true ↔ (s.y, s.i) ∈ l.take (j + 1)) from ⟨fun h => HT.out.2 (.inl (HG.out.1 h)), fun h => (HT.out.1 h).elim HG.out.2 (fun e => absurd (congrArg Prod.fst e).symm h1)⟩)
     clear h1
     go_wp2_with fail
     go_quiet (fail)
     go_wp2
     go_roundw
     case rel => exact ⟨j + 1, g, by omega, by go_num, rfl, HG2, Lib.hid (HXJ.out.trans (by (repeat' (first | (with_reducible assumption) | (with_reducible exact Wb.Ext.refl _) | (with_reducible refine Wb.Ext.drew ?_) | (with_reducible refine Wb.Ext.drewN ?_ _) | (with_reducible refine Wb.Ext.alloc ?_ _) | (with_reducible refine Wb.Ext.trans ?_ (by assumption))))))⟩
     case measure => first | (simp [intOf]; done) | (simp [intOf]; omega)
   obtain rfl : j = l.length := by omega
   have d1 : decide ((l.length : Int) < (l.length : Int)) = false := by simp
   have n1 : ¬ (l.length : Int) < (l.length : Int) := by omega
   have HGL := Lib.hid (show (g = true ↔ (s.y, s.i) ∈ l) by have := HG.out; rwa [List.take_length] at this)
   clear hjl hj HG
   cases g
   case true =>
    have HSA := Lib.hid (show l = Wb.headsP (al.take (k + 1)) by
     rw [HNX.out]
     obtain ⟨t, ht⟩ := List.getElem?_of_mem (HGL.out.1 rfl)
     refine (Wb.ins_same (k := t) (fun u x hx hu => ?_) ht (Wb.pr_irrefl _) (Wb.pr_irrefl _)).symm
     have h9 := List.pairwise_iff_getElem.1 HRI.out u t (List.getElem?_eq_some_iff.1 hx).1 (List.getElem?_eq_some_iff.1 ht).1 hu
     rw [(List.getElem?_eq_some_iff.1 hx).2, (List.getElem?_eq_some_iff.1 ht).2] at h9
     exact h9)
    go_wp2
    go_roundw
    case rel => exact ⟨k + 1, oa, oc, l, by omega, by go_num, rfl, Lib.hid (row_ext3 HO.out (HXB.out.trans (HXJ.out.trans (by (repeat' (first | (with_reducible assumption) | (with_reducible exact Wb.Ext.refl _) | (with_reducible refine Wb.Ext.drew ?_) | (with_reducible refine Wb.Ext.drewN ?_ _) | (with_reducible refine Wb.Ext.alloc ?_ _) | (with_reducible refine Wb.Ext.trans ?_ (by assumption)))))))), HSA, by omega, Lib.hid (HX.out.trans (HXB.out.trans (HXJ.out.trans (by (repeat' (first | (with_reducible assumption) | (with_reducible exact Wb.Ext.refl _) | (with_reducible refine Wb.Ext.drew ?_) | (with_reducible refine Wb.Ext.drewN ?_ _) | (with_reducible refine Wb.Ext.alloc ?_ _) | (with_reducible refine Wb.Ext.trans ?_ (by assumption))))))))⟩
    case measure => first | (simp [intOf]; done) | (simp [intOf]; omega)
   case false =>
   have HNI := Lib.hid (show (s.y, s.i) ∉ l from fun h => by have := HGL.out.2 h; cases this)
   clear HGL
   go_wp2_with fail
   go_loopw [9] (fun nv wr => ∃ n : Nat, n ≤ l.length ∧ nv = .int .i64 n ∧ Hid (∀ j x, l[j]? = some x → n ≤ j → prLt (s.y, s.i) x = true) ∧ Hid (Wb.Ext wJ wr)) (fun nv _ => (intOf nv).toNat)
   case atStart => exact ⟨l.length, Nat.le_refl _, rfl, Lib.hid (fun j x hx hj => by have := (List.getElem?_eq_some_iff.1 hx).1; omega), Lib.hid (.refl _)⟩
   case round =>
    obtain ⟨n, hn, rfl, HHI, HXN⟩ := hrel
    obtain ⟨wN, hwz⟩ : ∃ z, z = wr := ⟨_, rfl⟩
    subst hwz
    have HXN2 := Lib.hid (HXB.out.trans (HXJ.out.trans HXN.out))
    replace b0 := HXN.out.keep b0
    replace b1 := HXN.out.keep b1
    have hwN : w.heap.size ≤ wN.heap.size := ((HX2.out.trans HX.out).trans HXN2.out).size
    rcases n with _ | n
    ·have d1 : decide ((0 : Int) < ((0 : Nat) : Int)) = false := by simp
     have HPUT := Lib.hid (ins_at HRI.out (Nat.zero_le _) HNI.out HHI.out (fun x h => absurd h (by omega)))
     have e0 := b0
     have e1 := b1
     go_upto_region 14 with (fail)
     go_cut [75] (fun bv wx => bv = .bool false ∧ Hid (Wb.Ext wN wx))
     case first =>
      go_wp2_with fail
      go_quiet (fail)
      go_wp2_with fail
      go_meet
      exact ⟨rfl, Lib.hid (by (repeat' (first | (with_reducible assumption) | (with_reducible exact Wb.Ext.refl _) | (with_reducible refine Wb.Ext.drew ?_) | (with_reducible refine Wb.Ext.drewN ?_ _) | (with_reducible refine Wb.Ext.alloc ?_ _) | (with_reducible refine Wb.Ext.trans ?_ (by assumption)))))⟩
     case rest =>
     obtain ⟨rfl, HXM⟩ := hcut
     obtain ⟨wM, hwz⟩ : ∃ z, z = wc := ⟨_, rfl⟩
     subst hwz
     replace e0 := HXM.out.keep b0
     replace e1 := HXM.out.keep b1
     have HYB := Lib.hid (HXN2.out.trans HXM.out)
     have hwW : w.heap.size ≤ wM.heap.size := Nat.le_trans hwN HXM.out.size
     clear b0 b1 d1
     obtain ⟨V1, V2, hs1, hc1, hs2, hc2⟩ := pers_cut HO.out hn
     have HC1 := Lib.hid (hc1.ext HYB.out)
     have HC2 := Lib.hid (hc2.ext HYB.out)
     have htl : (l.take (0)).length = 0 := by rw [List.length_take]; omega
     have hs1 : ∀ W : World, (Instr.sliceAt 39 (.slice oa l.length oc) none (some (.int .i64 0)) none).run Tryz.prog W = .ok V1 W := hs1
     have hs2 : ∀ W : World, (Instr.sliceAt 39 (.slice oa l.length oc) (some (.int .i64 0)) none none).run Tryz.prog W = .ok V2 W := hs2
     clear hc1 hc2
     obtain ⟨hi, hz0, hz1, hz2⟩ := HIN.out.choose_spec
     go_wp2_with (at_builtin; go_loud (refine wpList_append_row2 rfl (.tmp 78) (.tmp 81) 39 rfl wM.heap.size 38 _ slZ 3 40 Tryz.underlying39 hi hz0 hz1 hz2 rfl (by decide) _ _ _ rfl (own_empty (w := wM) (Nat.le_refl _)) _ rfl (0) (rowsOf ppc (l.take (0))) (HC1.out.ext (.alloc (.refl _) _)) (ppc_one _) (by unfold maxLen; omega) (by omega) (by simp) ?_))
     intro u3 w3 hown3 hg3
     intros
     have hx3 : Wb.Ext wM w3 := Wb.Ext.grown (.alloc (.refl _) _) hg3 (fun q hq => by simp [Value.ownBlock] at hq; omega)
     obtain ⟨ua, uc, rfl⟩ := row_shape hown3
     have HO3 := Lib.hid hown3
     have HX3 := Lib.hid hx3
     replace e0 := hx3.keep e0
     replace e1 := hx3.keep e1
     clear hown3 hg3 hx3 hs1
     go_wp2_with (at_builtin; go_loud (refine wpList_append_row2 rfl (.tmp 83) (.tmp 89) 39 rfl wM.heap.size 38 _ slZ 3 40 Tryz.underlying39 hi hz0 hz1 hz2 rfl (by decide) _ _ _ rfl (row_ext3 HO3.out ((Wb.Ext.refl _).alloc _)) _ rfl 1 (ppc (s.y, s.i)) (src_lit _ _ (by rfl) (ppc (s.y, s.i)) _ _) (by intro u hu; simp [ppc] at hu; rcases hu with rfl | rfl | rfl <;> rfl) (by unfold maxLen; omega) (by omega) (by have := HX3.out.size; simp; omega) ?_))
     intro u4 w4 hown4 hg4
     intros
     have hx4 : Wb.Ext wM w4 := Wb.Ext.grown (.alloc HX3.out _) hg4 (fun q hq => (HO3.out.lt q hq).1)
     obtain ⟨ub, ud, rfl⟩ := row_shape hown4
     have HO4 := Lib.hid hown4
     have HX4 := Lib.hid hx4
     clear hown4 hg4 hx4 e0 e1
     go_wp2_with (at_builtin; go_loud (refine wpList_append_row2 rfl (.tmp 91) (.tmp 94) 39 rfl wM.heap.size 38 _ slZ 3 40 Tryz.underlying39 hi hz0 hz1 hz2 rfl (by decide) _ _ _ rfl HO4.out _ rfl (l.length - (0)) (rowsOf ppc (l.drop (0))) (HC2.out.ext HX4.out) (ppc_one _) (by unfold maxLen; omega) (by omega) HX4.out.size ?_))
     intro u5 w5 hown5 hg5
     intros
     have hx5 : Wb.Ext wM w5 := Wb.Ext.grown HX4.out hg5 (fun q hq => (HO4.out.lt q hq).1)
     obtain ⟨ue, uf, rfl⟩ := row_shape hown5
     have hl5 : (Wb.insP l (s.y, s.i)).length = l.length + 1 := by rw [HPUT.out, List.length_append, List.length_cons, htl, List.length_drop]; omega
     have HO5 := Lib.hid (show w5.ownsRow w.heap.size 38 3 (.slice ue (Wb.insP l (s.y, s.i)).length uf) (Wb.insP l (s.y, s.i)).length (rowsOf ppc (Wb.insP l (s.y, s.i))) by
      refine row_base ?_ hwW
      have hl3 : (Wb.insP l (s.y, s.i)).length = 0 + (0) + 1 + (l.length - (0)) := by rw [hl5]; omega
      rw [hl3, HPUT.out, show l.take (0) ++ (s.y, s.i) :: l.drop (0) = l.take (0) ++ [(s.y, s.i)] ++ l.drop (0) by simp, rowsOf_app, rowsOf_app, rowsOf_one]
      exact hown5)
     have hl4 : 1 + l.length = (Wb.insP l (s.y, s.i)).length := by omega
     rw [hl4]
     have hl6 : (Wb.insP l (s.y, s.i)).length ≤ k + 1 := by omega
     have HX5 := Lib.hid (HX.out.trans (HYB.out.trans hx5))
     have HL5 := Lib.hid HNX.out.symm
     clear hown5 hg5 hx5 hl4 hl5 hs2 htl hi hz0 hz1 hz2
     go_wp2
     go_roundw
     case rel => exact ⟨k + 1, ue, uf, Wb.insP l (s.y, s.i), by omega, by go_num, rfl, HO5, HL5, hl6, HX5⟩
     case measure => first | (simp [intOf]; done) | (simp [intOf]; omega)
    obtain ⟨p, hp⟩ := Wb.get_ex (show n < l.length by omega)
    obtain ⟨d, eo, hd, hf⟩ := (row_tbl ppc_len (by decide) (row_ext3 HO.out HXN2.out)).opened (by rintro rfl; simp at hp)
    obtain rfl : oa = some ⟨d, eo, none⟩ := hd
    have f0 := hf n p hp 0 _ rfl
    have f1 := hf n p hp 1 _ rfl
    rw [Nat.add_zero] at f0
    have d1 : decide ((0 : Int) < ((n + 1 : Nat) : Int)) = true := by simp
    have hw1 : IntKind.i64.wrap (((n + 1 : Nat) : Int) - 1) = (n : Int) := by rw [show (((n + 1 : Nat) : Int) - 1) = (n : Int) by omega]; exact IntWalk.i64_in _ (by omega)
    have hw2 : IntKind.i64.wrap ((n : Int) + 1 - 1) = (n : Int) := hw1
    have hw3 : IntKind.i64.wrap (n : Int) = (n : Int) := IntWalk.i64_in _ (by omega)
    have hni : (n : Int) < l.length := by omega
    obtain ⟨g, hg⟩ : ∃ g, prLt (s.y, s.i) p = g := ⟨_, rfl⟩
    have HG := Lib.hid hg
    have HP := Lib.hid hp
    have l0 : ∀ x, Wb.Ext wN x → x.cell? ⟨d, eo + n * 3, none⟩ = some (.int .i64 p.1) := fun x h => h.keep f0
    have l1 : ∀ x, Wb.Ext wN x → x.cell? ⟨d, eo + n * 3 + 1, none⟩ = some (.int .i64 p.2) := fun x h => h.keep f1
    have m0 : ∀ x, Wb.Ext wN x → x.cell? ⟨S, 0, none⟩ = some (.int .i64 s.y) := fun x h => h.keep b0
    have m1 : ∀ x, Wb.Ext wN x → x.cell? ⟨S, 1, none⟩ = some (.int .i64 s.i) := fun x h => h.keep b1
    clear hf hg hp f0 f1
    go_upto_region 14 with (fail)
    go_cut [75] (fun bv wx => bv = .bool g ∧ Hid (Wb.Ext wN wx))
    case first =>
     go_wp2_with fail
     go_region_held_law (fun x => Wb.Ext wN x) ((repeat' (first | (with_reducible assumption) | (with_reducible exact Wb.Ext.refl _) | (with_reducible refine Wb.Ext.drew ?_) | (with_reducible refine Wb.Ext.drewN ?_ _) | (with_reducible refine Wb.Ext.alloc ?_ _) | (with_reducible refine Wb.Ext.trans ?_ (by assumption))))) ((go_at_call 50; refine (rless31_any s.y s.i p.1 p.2 _).mono ?_; rintro e w9 ⟨rfl, rfl⟩; rw [show prLt (s.y, s.i) (p.1, p.2) = g from HG.out]))
     all_goals go_wp2_with fail
     all_goals go_meet
     all_goals exact ⟨rfl, Lib.hid (by (repeat' (first | (with_reducible assumption) | (with_reducible exact Wb.Ext.refl _) | (with_reducible refine Wb.Ext.drew ?_) | (with_reducible refine Wb.Ext.drewN ?_ _) | (with_reducible refine Wb.Ext.alloc ?_ _) | (with_reducible refine Wb.Ext.trans ?_ (by assumption)))))⟩
    case rest =>
    obtain ⟨rfl, HXM⟩ := hcut
    obtain ⟨wM, hwz⟩ : ∃ z, z = wc := ⟨_, rfl⟩
    subst hwz
    clear l0 l1 m0 m1
    cases g
    case true =>
     have HHI2 := Lib.hid (show ∀ j x, l[j]? = some x → n ≤ j → prLt (s.y, s.i) x = true from fun j x hx hj => by
      by_cases e : j = n
      ·subst e; rw [HP.out] at hx; cases hx; exact HG.out
      ·exact HHI.out j x hx (by omega))
     go_wp2
     go_roundw
     case rel => exact ⟨n, by omega, by go_num, HHI2, Lib.hid (HXN.out.trans HXM.out)⟩
     case measure => first | (simp [intOf]; done) | (simp [intOf]; omega)
    case false =>
    have HPUT := Lib.hid (ins_at HRI.out hn HNI.out HHI.out (fun x _ hx => by simp at hx; rw [HP.out] at hx; cases hx; exact HG.out))
    have e0 := HXM.out.keep b0
    have e1 := HXM.out.keep b1
    have HYB := Lib.hid (HXN2.out.trans HXM.out)
    have hwW : w.heap.size ≤ wM.heap.size := Nat.le_trans hwN HXM.out.size
    clear b0 b1
    obtain ⟨V1, V2, hs1, hc1, hs2, hc2⟩ := pers_cut HO.out hn
    have HC1 := Lib.hid (hc1.ext HYB.out)
    have HC2 := Lib.hid (hc2.ext HYB.out)
    have htl : (l.take (n + 1)).length = n + 1 := by rw [List.length_take]; omega
    have hs1 : ∀ W : World, (Instr.sliceAt 39 (.slice (some ⟨d, eo, none⟩) l.length oc) none (some (.int .i64 ((n : Int) + 1))) none).run Tryz.prog W = .ok V1 W := hs1
    have hs2 : ∀ W : World, (Instr.sliceAt 39 (.slice (some ⟨d, eo, none⟩) l.length oc) (some (.int .i64 ((n : Int) + 1))) none none).run Tryz.prog W = .ok V2 W := hs2
    clear hc1 hc2
    obtain ⟨hi, hz0, hz1, hz2⟩ := HIN.out.choose_spec
    go_wp2_with (at_builtin; go_loud (refine wpList_append_row2 rfl (.tmp 78) (.tmp 81) 39 rfl wM.heap.size 38 _ slZ 3 40 Tryz.underlying39 hi hz0 hz1 hz2 rfl (by decide) _ _ _ rfl (own_empty (w := wM) (Nat.le_refl _)) _ rfl (n + 1) (rowsOf ppc (l.take (n + 1))) (HC1.out.ext (.alloc (.refl _) _)) (ppc_one _) (by unfold maxLen; omega) (by omega) (by simp) ?_))
    intro u3 w3 hown3 hg3
    intros
    have hx3 : Wb.Ext wM w3 := Wb.Ext.grown (.alloc (.refl _) _) hg3 (fun q hq => by simp [Value.ownBlock] at hq; omega)
    obtain ⟨ua, uc, rfl⟩ := row_shape hown3
    have HO3 := Lib.hid hown3
    have HX3 := Lib.hid hx3
    replace e0 := hx3.keep e0
    replace e1 := hx3.keep e1
    clear hown3 hg3 hx3 hs1
    go_wp2_with (at_builtin; go_loud (refine wpList_append_row2 rfl (.tmp 83) (.tmp 89) 39 rfl wM.heap.size 38 _ slZ 3 40 Tryz.underlying39 hi hz0 hz1 hz2 rfl (by decide) _ _ _ rfl (row_ext3 HO3.out ((Wb.Ext.refl _).alloc _)) _ rfl 1 (ppc (s.y, s.i)) (src_lit _ _ (by rfl) (ppc (s.y, s.i)) _ _) (by intro u hu; simp [ppc] at hu; rcases hu with rfl | rfl | rfl <;> rfl) (by unfold maxLen; omega) (by omega) (by have := HX3.out.size; simp; omega) ?_))
    intro u4 w4 hown4 hg4
    intros
    have hx4 : Wb.Ext wM w4 := Wb.Ext.grown (.alloc HX3.out _) hg4 (fun q hq => (HO3.out.lt q hq).1)
    obtain ⟨ub, ud, rfl⟩ := row_shape hown4
    have HO4 := Lib.hid hown4
    have HX4 := Lib.hid hx4
    clear hown4 hg4 hx4 e0 e1
    go_wp2_with (at_builtin; go_loud (refine wpList_append_row2 rfl (.tmp 91) (.tmp 94) 39 rfl wM.heap.size 38 _ slZ 3 40 Tryz.underlying39 hi hz0 hz1 hz2 rfl (by decide) _ _ _ rfl HO4.out _ rfl (l.length - (n + 1)) (rowsOf ppc (l.drop (n + 1))) (HC2.out.ext HX4.out) (ppc_one _) (by unfold maxLen; omega) (by omega) HX4.out.size ?_))
    intro u5 w5 hown5 hg5
    intros
    have hx5 : Wb.Ext wM w5 := Wb.Ext.grown HX4.out hg5 (fun q hq => (HO4.out.lt q hq).1)
    obtain ⟨ue, uf, rfl⟩ := row_shape hown5
    have hl5 : (Wb.insP l (s.y, s.i)).length = l.length + 1 := by rw [HPUT.out, List.length_append, List.length_cons, htl, List.length_drop]; omega
    have HO5 := Lib.hid (show w5.ownsRow w.heap.size 38 3 (.slice ue (Wb.insP l (s.y, s.i)).length uf) (Wb.insP l (s.y, s.i)).length (rowsOf ppc (Wb.insP l (s.y, s.i))) by
     refine row_base ?_ hwW
     have hl3 : (Wb.insP l (s.y, s.i)).length = (n + 1) + 1 + (l.length - (n + 1)) := by rw [hl5]; omega
     rw [hl3, HPUT.out, show l.take (n + 1) ++ (s.y, s.i) :: l.drop (n + 1) = l.take (n + 1) ++ ([(s.y, s.i)] ++ l.drop (n + 1)) by simp, rowsOf_app, rowsOf_app, rowsOf_one]
     exact hown5)
    have hl4 : n + 1 + 1 + (l.length - (n + 1)) = (Wb.insP l (s.y, s.i)).length := by omega
    rw [hl4]
    have hl6 : (Wb.insP l (s.y, s.i)).length ≤ k + 1 := by omega
    have HX5 := Lib.hid (HX.out.trans (HYB.out.trans hx5))
    have HL5 := Lib.hid HNX.out.symm
    clear hown5 hg5 hx5 hl4 hl5 hs2 htl hi hz0 hz1 hz2
    go_wp2
    go_roundw
    case rel => exact ⟨k + 1, ue, uf, Wb.insP l (s.y, s.i), by omega, by go_num, rfl, HO5, HL5, hl6, HX5⟩
    case measure => first | (simp [intOf]; done) | (simp [intOf]; omega)
end Go.Proofs.YtnefdpnolojojaaGreat
