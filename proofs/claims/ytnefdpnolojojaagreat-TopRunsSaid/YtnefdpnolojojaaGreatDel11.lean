/- The walk of delta.All: the differences of two lists. -/
import Derived.Test.YtnefdpnolojojaaGreatDel8
import Derived.Test.YtnefdpnolojojaaGreatMDc
namespace Go.Proofs.YtnefdpnolojojaaGreat
open Go.RowKit Go.Sort Go.Lib Go.Maps
set_option maxRecDepth 8000
attribute [local go_sem ↓] Go.wp_at_zero Go.wp_at_succ

namespace Wb
/-- all differences of two lists: the error, what they are -/
def allF (A B : List Sl) : Int × List (Int × Int × List Ln) := if listE A ≠ 0 then (listE A, []) else if listE B ≠ 0 then (listE B, []) else allG A B [] (headsP (A ++ B))
end Wb
/-- lines stay where no cell of their block turns -/
theorem lnsC_cells {w w' : World} {v : Value} {l : List Wb.Ln} (h : LnsC w v l) (hk : ∀ b k u, (∀ q, v.ownBlock = some q → b = q) → l ≠ [] → w.cell? ⟨b, k, none⟩ = some u → w'.cell? ⟨b, k, none⟩ = some u) : LnsC w' v l := by
  refine ⟨?_, h.2⟩
  rcases h.1 with q | ⟨b, off, cap, h1, h2⟩
  · exact .inl q
  · refine .inr ⟨b, off, cap, h1, fun j x hj => ?_⟩
    obtain ⟨c0, c1, c2⟩ := h2 j x hj
    have hne : l ≠ [] := by rintro rfl; simp at hj
    have hb : ∀ q, v.ownBlock = some q → b = q := fun q hq => by rw [h1] at hq; injection hq
    exact ⟨hk b _ _ hb hne c0, hk b _ _ hb hne c1, hk b _ _ hb hne c2⟩
theorem lnsC_kept {w w' : World} {v : Value} {l : List Wb.Ln} {row : Option Nat} (h : LnsC w v l) (hg : w.grownBy w' row) (hne : l ≠ [] → ∀ q, v.ownBlock = some q → row ≠ some q) : LnsC w' v l := by
  refine lnsC_cells h fun b k u hb hl hc => ?_
  obtain ⟨a, n, hv⟩ := h.1.shape
  rw [hg.cell_far ⟨b, k, none⟩ (Wb.cell_size hc) (fun e => ?_)]
  · exact hc
  · rcases a with _ | a
    · subst hv
      rcases h.1 with ⟨q, _⟩ | ⟨_, _, _, q, _⟩
      · exact hl q
      · cases q
    · have hq : v.ownBlock = some a.block := by rw [hv]; rfl
      exact hne hl _ hq (by rw [← e, hb _ hq])
/-- a row of slips of the call's own; no line lies in it -/
def SlR (base : Nat) (w : World) (v : Value) (R : List Wb.Sl) : Prop := w.ownsRow base 38 3 v R.length (rowsOf slc R) ∧ (∀ s ∈ R, LnsC w s.v s.l ∧ Sized s.l) ∧ ∀ s ∈ R, s.l ≠ [] → ∀ q, s.v.ownBlock = some q → v.ownBlock ≠ some q
theorem SlR.nil {base : Nat} {w : World} : SlR base w (.slice none 0 0) [] := ⟨own_none, (fun s hs => by cases hs), fun s hs => by cases hs⟩
theorem row_ext3 {w w' : World} {base e s n : Nat} {v : Value} {xs : List Value} (h : w.ownsRow base e s v n xs) (hw : Wb.Ext w w') : w'.ownsRow base e s v n xs := by
  have hl := h.lt
  obtain ⟨h1, h2 | ⟨g, cap, cur, hv, hb, hg, rest⟩⟩ := h
  · exact ⟨h1, .inl h2⟩
  · refine ⟨h1, .inr ⟨g, cap, cur, hv, hb, ?_, rest⟩⟩
    subst hv
    rw [hw.block g (hl g rfl).2]; exact hg
theorem SlR.ext {base : Nat} {w w' : World} {v : Value} {R : List Wb.Sl} (h : SlR base w v R) (k : Wb.Ext w w') : SlR base w' v R := ⟨row_ext3 h.1 k, fun s hs => ⟨(h.2.1 s hs).1.ext k, (h.2.1 s hs).2⟩, h.2.2⟩
theorem SlR.mono {base base' : Nat} {w : World} {v : Value} {R : List Wb.Sl} (h : SlR base w v R) (k : base' ≤ base) : SlR base' w v R := ⟨row_mono h.1 k, h.2⟩
theorem SlR.shape {base : Nat} {w : World} {v : Value} {R : List Wb.Sl} (h : SlR base w v R) : ∃ a c, v = .slice a R.length c := row_shape h.1
theorem SlR.sls {base : Nat} {w : World} {v : Value} {R : List Wb.Sl} (h : SlR base w v R) : Sls w v R := ⟨row_tbl slc_len (by decide) h.1, h.2.1⟩
theorem SlR.append {base : Nat} {w w' : World} {v v' : Value} {R : List Wb.Sl} {s : Wb.Sl} (h : SlR base w v R) (ho : w'.ownsRow base 38 3 v' (R.length + 1) (rowsOf slc R ++ slc s)) (hg : w.grownBy w' v.ownBlock) (hb : v'.ownBlock = v.ownBlock ∨ v'.ownBlock = some w.heap.size)
    (hs : LnsC w s.v s.l) (hz : Sized s.l) (hn : s.l ≠ [] → ∀ q, s.v.ownBlock = some q → v.ownBlock ≠ some q) : SlR base w' v' (R ++ [s]) := by
  have blk : ∀ t : Wb.Sl, LnsC w t.v t.l → t.l ≠ [] → ∀ q, t.v.ownBlock = some q → q < w.heap.size := by
    intro t ht hne q hq
    obtain ⟨a, n, hv⟩ := ht.1.shape
    have h1 := ht.1
    rw [hv] at h1 hq
    obtain ⟨b, off, rfl, hc⟩ := h1.opened hne
    injection hq with hq
    obtain ⟨x, r, hx⟩ : ∃ x r, t.l = x :: r := by
      rcases ht : t.l with _ | ⟨x, r⟩
      · exact absurd ht hne
      · exact ⟨x, r, rfl⟩
    have := Wb.cell_size (hc 0 x (by rw [hx]; rfl)).1
    simp only at hq; omega
  refine ⟨by rw [List.length_append, rowsOf_app, rowsOf_one]; exact ho, fun t ht => ?_, fun t ht hne q hq => ?_⟩
  · rcases List.mem_append.1 ht with ht | ht
    · exact ⟨lnsC_kept (h.2.1 t ht).1 hg (h.2.2 t ht), (h.2.1 t ht).2⟩
    · simp at ht; subst ht; exact ⟨lnsC_kept hs hg hn, hz⟩
  · have hold : v.ownBlock ≠ some q := by
      rcases List.mem_append.1 ht with ht | ht
      · exact h.2.2 t ht hne q hq
      · simp at ht; subst ht; exact hn hne q hq
    rcases hb with hb | hb
    · rw [hb]; exact hold
    · rw [hb]
      have hlt : q < w.heap.size := by
        rcases List.mem_append.1 ht with ht | ht
        · exact blk t (h.2.1 t ht).1 hne q hq
        · simp at ht; subst ht; exact blk _ hs hne q hq
      intro e; injection e with e; omega
theorem infoSlip : (Tryz.prog.info? 38).map (fun i => (i.zero, i.size, i.bytes)) = some (some slZ, 3, 40) := by kernel_rfl
theorem maps_lit (w : World) (n : Nat) (hn : n = w.heap.size) (L : List MapD) (T : TypeId) : Tbl 1 mpc (w.alloc (.cells (rowsOf mpc L).toArray T)) (.slice (some ⟨n, 0, none⟩) L.length L.length) L := by
  refine .inr ⟨n, 0, L.length, rfl, fun j x hj i u hu => ?_⟩
  subst hn
  match i, hu with
  | 0, hu =>
    simp [mpc] at hu
    subst hu
    have hl : (rowsOf mpc L)[j]? = some (.map (some x.b)) := by
      have e : rowsOf mpc L = L.map fun m => Value.map (some m.b) := by
        clear hj
        induction L with
        | nil => rfl
        | cons a r ih => simp only [rowsOf, List.flatMap_cons, mpc, List.map_cons, List.cons_append, List.nil_append] at ih ⊢; rw [ih]
      rw [e, List.getElem?_map, hj]; rfl
    simp [go_sem, hl]
  | i + 1, hu => simp [mpc] at hu
theorem nodup_len : ∀ (r L : List (Int × Int)), r.Nodup → (∀ p ∈ r, p ∈ L) → r.length ≤ L.length
  | [], _, _, _ => Nat.zero_le _
  | p :: r, L, h, k => by
    obtain ⟨h1, h2⟩ := List.nodup_cons.1 h
    obtain ⟨s, t, rfl⟩ := List.append_of_mem (k p (by simp))
    have := nodup_len r (s ++ t) h2 fun q hq => by
      rcases List.mem_append.1 (k q (by simp [hq])) with m | m
      · exact List.mem_append_left _ m
      · rcases List.mem_cons.1 m with rfl | m
        · exact absurd hq h1
        · exact List.mem_append_right _ m
    simp only [List.length_append, List.length_cons] at this ⊢
    omega
theorem find_cnt (L : List Wb.Sl) (r : List (Int × Int)) (h : r.Nodup) (k : ∀ p ∈ r, (Wb.findS L p).isSome = true) : r.length ≤ L.length := by
  have := nodup_len r (L.map Wb.perS) h fun p hp => by
    obtain ⟨s, hs, e⟩ := Wb.hasP_find.2 (k p hp)
    exact List.mem_map.2 ⟨s, hs, e⟩
  simpa using this
theorem st3d {w w' : World} {b : Nat} {x y z x' y' z' : Value} (hw : w' = ((w.setCell ⟨b, 0, none⟩ x).setCell ⟨b, 1, none⟩ y).setCell ⟨b, 2, none⟩ z) (h0 : w.cell? ⟨b, 0, none⟩ = some x') (h1 : w.cell? ⟨b, 1, none⟩ = some y') (h2 : w.cell? ⟨b, 2, none⟩ = some z') :
    w'.cell? ⟨b, 0, none⟩ = some x ∧ w'.cell? ⟨b, 1, none⟩ = some y ∧ w'.cell? ⟨b, 2, none⟩ = some z ∧ (∀ c o, c ≠ b → w'.cell? ⟨c, o, none⟩ = w.cell? ⟨c, o, none⟩) ∧ (∀ p, w'.frozen? p = w.frozen? p) ∧ w'.heap.size = w.heap.size ∧
    (∀ W : World, W.heap.size ≤ b → Wb.Ext W w → Wb.Ext W w') := by
  subst hw
  refine ⟨by simp [go_sem, h0], by simp [go_sem, h1], by simp [go_sem, h2], fun c o hc => ?_, fun p => by simp [go_sem], by simp [go_sem], fun W hW hE => Wb.ext_set (Wb.ext_set (Wb.ext_set hE hW _) hW _) hW _⟩
  have hc' : ¬ b = c := fun h => hc h.symm
  first
    | (simp [go_sem]; done)
    | simp [go_sem, hc']
    | simp [go_sem, hc]
/-- the slip of a period, as it is handed on -/
theorem slO_con {w : World} {L : List Wb.Sl} (h : ∀ s ∈ L, LnsC w s.v s.l ∧ Sized s.l) (p : Int × Int) : ∃ y i a n c l, slO (Wb.findS L p) = SlV y i (.slice a n c) ∧ Wb.conO (Wb.findS L p) = (y, i, l) ∧ LnsC w (.slice a n c) l ∧ Sized l := by
  rcases hf : Wb.findS L p with _ | s
  · exact ⟨0, 0, none, 0, 0, [], rfl, rfl, ⟨.inl ⟨rfl, _, _, rfl⟩, Nat.le_refl _⟩, by simp [Sized]⟩
  · obtain ⟨h1, _⟩ := Wb.find_mem hf
    obtain ⟨h2, h3⟩ := h s h1
    obtain ⟨a, c, hv⟩ := h2.1.shape
    exact ⟨s.y, s.i, a, s.l.length, c, s.l, by rw [← hv]; rfl, rfl, by rw [← hv]; exact h2, h3⟩
theorem of_sized9 {y i y' i' E Y I : Int} {a b r : List Wb.Ln} (h : Wb.IsOf y i a y' i' b E Y I r) (he : E = 0) : Sized r := by
  subst he
  have k := Wb.of_ok h
  have hr := Wb.delta_right k.del (Wb.wrong_ok k.wa).2.2 (Wb.wrong_ok k.wb).2.2 k.fit
  refine ⟨Nat.le_trans k.few (by decide), fun x hx => ?_⟩
  obtain ⟨_, _, h3, _⟩ := Wb.lineErr_iff.1 (hr x hx)
  have : x.code.length ≤ 32 := by
    simp [Wb.codeOk] at h3
    exact h3.1.2
  exact Nat.le_trans this (by decide)
theorem perOf_of {A B : List Wb.Sl} {r : List (Int × Int)} (ca : ∀ s ∈ A, Wb.check s.y s.i s.l = 0) (cb : ∀ s ∈ B, Wb.check s.y s.i s.l = 0) (h1 : r.Pairwise fun a b => prLt a b = true) (h2 : ∀ p, p ∈ r ↔ PrOk p ∧ ((Wb.findS A p).isSome = true ∨ (Wb.findS B p).isSome = true)) : Wb.PerOf A B r := by
  refine ⟨h1, fun p => ?_⟩
  rw [h2, Wb.hasP_find, Wb.hasP_find]
  refine ⟨fun h => h.2, fun h => ⟨?_, h⟩⟩
  rcases h with h | h
  · obtain ⟨s, hs, e⟩ := Wb.hasP_find.2 h
    rw [← e]; exact prOk_check (ca s hs)
  · obtain ⟨s, hs, e⟩ := Wb.hasP_find.2 h
    rw [← e]; exact prOk_check (cb s hs)
/-- what delta.All yields -/
structure IsAllM (w w' : World) (A B : List Wb.Sl) (E : Int) (v : Value) (R : List Wb.Sl) : Prop where
  val : Wb.allF A B = (E, R.map Wb.ct)
  row : SlR w.heap.size w' v R
  ext : Wb.Ext w w'

theorem lns_size {w : World} {a : Option Addr} {n c : Nat} {l : List Wb.Ln} (h : LnsC w (.slice a n c) l) (hne : l ≠ []) (q : Nat) (hq : (Value.slice a n c).ownBlock = some q) : q < w.heap.size := by
  obtain ⟨b, off, rfl, hc⟩ := h.1.opened hne
  injection hq with hq
  obtain ⟨x, r, hx⟩ : ∃ x r, l = x :: r := by
    rcases ht : l with _ | ⟨x, r⟩
    · exact absurd ht hne
    · exact ⟨x, r, rfl⟩
  have := Wb.cell_size (hc 0 x (by rw [hx]; rfl)).1
  simp only at hq; omega
set_option maxHeartbeats 8000000 in
theorem dall_any (va vb : Value) (A B : List Wb.Sl) (w : World) (hA : SlsB w va A) (hB : SlsB w vb B) (la : A.length ≤ 9223372036854775807) (lb : B.length ≤ 9223372036854775807) :
    Calls Tryz.prog 14 #[va, vb] w fun e w' => ∃ v E, e = .returned (.tuple #[v, .int .i64 E]) ∧ ∃ R, IsAllM w w' A B E v R := by
  obtain ⟨i0, hi, hz0, hz1, hz2⟩ := info_parts infoSlip
  have HIN := Lib.hid (show Tryz.prog.info? 38 = some i0 ∧ i0.zero = some slZ ∧ i0.size = 3 ∧ i0.bytes = 40 from ⟨hi, hz0, hz1, hz2⟩)
  clear hi hz0 hz1 hz2
  obtain ⟨xa, ka, rfl⟩ := hA.1.shape
  obtain ⟨xb, kb, rfl⟩ := hB.1.shape
  have HA := Lib.hid hA
  have HB := Lib.hid hB
  clear hA hB
  go_enter Tryz.func14, Tryz.ntmps14
  go_wp2_with fail
  go_fit (table_any _ A _ (HA.out.ext (by (repeat' (first | (with_reducible assumption) | (with_reducible exact Wb.Ext.refl _) | (with_reducible refine Wb.Ext.drew ?_) | (with_reducible refine Wb.Ext.drewN ?_ _) | (with_reducible refine Wb.Ext.alloc ?_ _) | (with_reducible refine Wb.Ext.trans ?_ (by assumption)))))) la); rintro e w1 ⟨m1, rfl, ht1⟩
  have hx1 : Wb.Ext w w1 := Wb.Ext.trans (by (repeat' (first | (with_reducible assumption) | (with_reducible exact Wb.Ext.refl _) | (with_reducible refine Wb.Ext.drew ?_) | (with_reducible refine Wb.Ext.drewN ?_ _) | (with_reducible refine Wb.Ext.alloc ?_ _) | (with_reducible refine Wb.Ext.trans ?_ (by assumption))))) ht1.ext
  have HT1 := Lib.hid ht1.tab
  clear ht1
  obtain ⟨E1, hE1⟩ : ∃ E, Wb.listE A = E := ⟨_, rfl⟩
  have HE1 := Lib.hid hE1
  rw [hE1]
  clear hE1
  by_cases hz1 : E1 = 0
  case neg =>
    have d1 : (E1 != 0) = true := by simpa using hz1
    have d2 : (E1 == 0) = false := by simpa using hz1
    have HV := Lib.hid (show Wb.allF A B = (E1, [].map Wb.ct) by rw [Wb.allF, if_pos (by rw [HE1.out]; exact hz1), HE1.out]; rfl)
    clear hz1
    go_wp2
    refine bodyPost_ret (v := .tuple #[.slice none 0 0, .int .i64 E1]) (by simp [results, Tryz.results14, go_sem]) rfl ⟨_, _, rfl, [], HV.out, SlR.nil, by (repeat' (first | (with_reducible assumption) | (with_reducible exact Wb.Ext.refl _) | (with_reducible refine Wb.Ext.drew ?_) | (with_reducible refine Wb.Ext.drewN ?_ _) | (with_reducible refine Wb.Ext.alloc ?_ _) | (with_reducible refine Wb.Ext.trans ?_ (by assumption))))⟩
  subst hz1
  obtain ⟨b1, rfl, hb1, hm1⟩ := HT1.out HE1.out
  have HM1 := Lib.hid hm1
  clear hm1 HT1
  go_wp2_with fail
  go_fit (table_any _ B _ (HB.out.ext (by (repeat' (first | (with_reducible assumption) | (with_reducible exact Wb.Ext.refl _) | (with_reducible refine Wb.Ext.drew ?_) | (with_reducible refine Wb.Ext.drewN ?_ _) | (with_reducible refine Wb.Ext.alloc ?_ _) | (with_reducible refine Wb.Ext.trans ?_ (by assumption)))))) lb); rintro e w2 ⟨m2, rfl, ht2⟩
  have hx12 := ht2.ext
  have hx2 : Wb.Ext w w2 := hx1.trans hx12
  have HT2 := Lib.hid ht2.tab
  replace HM1 := Lib.hid (HM1.out.ext hx12)
  clear ht2
  obtain ⟨E2, hE2⟩ : ∃ E, Wb.listE B = E := ⟨_, rfl⟩
  have HE2 := Lib.hid hE2
  rw [hE2]
  clear hE2
  by_cases hz2 : E2 = 0
  case neg =>
    have d1 : (E2 != 0) = true := by simpa using hz2
    have d2 : (E2 == 0) = false := by simpa using hz2
    have HV := Lib.hid (show Wb.allF A B = (E2, [].map Wb.ct) by rw [Wb.allF, if_neg (by rw [HE1.out]; simp), if_pos (by rw [HE2.out]; exact hz2), HE2.out]; rfl)
    clear hz2
    go_wp2
    refine bodyPost_ret (v := .tuple #[.slice none 0 0, .int .i64 E2]) (by simp [results, Tryz.results14, go_sem]) rfl ⟨_, _, rfl, [], HV.out, SlR.nil, by (repeat' (first | (with_reducible assumption) | (with_reducible exact Wb.Ext.refl _) | (with_reducible refine Wb.Ext.drew ?_) | (with_reducible refine Wb.Ext.drewN ?_ _) | (with_reducible refine Wb.Ext.alloc ?_ _) | (with_reducible refine Wb.Ext.trans ?_ (by assumption))))⟩
  subst hz2
  obtain ⟨b2, rfl, hb2, hm2⟩ := HT2.out HE2.out
  have HM2 := Lib.hid hm2
  clear hm2 HT2 hx12
  obtain ⟨ha1, ha2, _⟩ := Wb.list_ok HE1.out
  obtain ⟨hc1, hc2, _⟩ := Wb.list_ok HE2.out
  have HLSA := Lib.hid (HA.out.2 ha1).2
  have HLSB := Lib.hid (HB.out.2 hc1).2
  have HCKA := Lib.hid ha2
  have HCKB := Lib.hid hc2
  have HALL := Lib.hid (show Wb.allF A B = Wb.allG A B [] (Wb.headsP (A ++ B)) by rw [Wb.allF, if_neg (by rw [HE1.out]; simp), if_neg (by rw [HE2.out]; simp)])
  clear ha2 hc2
  go_wp2_with fail
  go_fit (periods_any _ [⟨b1, A.length, Wb.findS A⟩, ⟨b2, B.length, Wb.findS B⟩] _ (maps_lit w2 _ (by simp) [⟨b1, A.length, Wb.findS A⟩, ⟨b2, B.length, Wb.findS B⟩] _) (fun m hm => by
    simp at hm
    rcases hm with rfl | rfl
    · exact HM1.out.ext (by (repeat' (first | (with_reducible assumption) | (with_reducible exact Wb.Ext.refl _) | (with_reducible refine Wb.Ext.drew ?_) | (with_reducible refine Wb.Ext.drewN ?_ _) | (with_reducible refine Wb.Ext.alloc ?_ _) | (with_reducible refine Wb.Ext.trans ?_ (by assumption)))))
    · exact HM2.out.ext (by (repeat' (first | (with_reducible assumption) | (with_reducible exact Wb.Ext.refl _) | (with_reducible refine Wb.Ext.drew ?_) | (with_reducible refine Wb.Ext.drewN ?_ _) | (with_reducible refine Wb.Ext.alloc ?_ _) | (with_reducible refine Wb.Ext.trans ?_ (by assumption)))))) (by simp) (fun m hm r h1 h2 => by
    simp at hm
    rcases hm with rfl | rfl
    · exact Nat.le_trans (find_cnt A r h1 h2) (by omega)
    · exact Nat.le_trans (find_cnt B r h1 h2) (by omega))); rintro e wp ⟨pv, rfl, ps, hP⟩
  obtain ⟨pa, pc, rfl⟩ := hP.tbl.shape
  have HPS : Hid (Wb.headsP (A ++ B) = ps) := Lib.hid ((Wb.heads_of A B).uniq (perOf_of HCKA.out HCKB.out hP.rise fun p => by rw [hP.mem]; simp))
  have HTP := Lib.hid hP.tbl
  have hpl := hP.len
  have hx2p : Wb.Ext w2 wp := Wb.Ext.trans (by (repeat' (first | (with_reducible assumption) | (with_reducible exact Wb.Ext.refl _) | (with_reducible refine Wb.Ext.drew ?_) | (with_reducible refine Wb.Ext.drewN ?_ _) | (with_reducible refine Wb.Ext.alloc ?_ _) | (with_reducible refine Wb.Ext.trans ?_ (by assumption))))) hP.ext
  have HWP := Lib.hid (hx2.trans hx2p)
  replace HM1 := Lib.hid (HM1.out.ext hx2p)
  replace HM2 := Lib.hid (HM2.out.ext hx2p)
  have HPK : Hid (∀ p ∈ ps, PrOk p) := Lib.hid (fun p hp => ((hP.mem p).1 hp).1)
  rw [HPS.out] at HALL
  clear hP hx1 hx2 hx2p HPS
  go_wp2_with fail
  go_loopw [9, 35] (fun ov iv wr => ∃ (k : Nat) (R : List Wb.Sl), k ≤ ps.length ∧ iv = .int .i64 k ∧ Hid (SlR wp.heap.size wr ov R) ∧ Hid (Wb.allG A B [] ps = Wb.allG A B (R.map Wb.ct) (ps.drop k)) ∧ R.length = k ∧ Wb.Ext wp wr) (fun _ iv _ => ps.length - (intOf iv).toNat)
  case atStart => exact ⟨0, [], Nat.zero_le _, rfl, Lib.hid SlR.nil, Lib.hid rfl, rfl, by (repeat' (first | (with_reducible assumption) | (with_reducible exact Wb.Ext.refl _) | (with_reducible refine Wb.Ext.drew ?_) | (with_reducible refine Wb.Ext.drewN ?_ _) | (with_reducible refine Wb.Ext.alloc ?_ _) | (with_reducible refine Wb.Ext.trans ?_ (by assumption))))⟩
  case round =>
    obtain ⟨k, R, hk, rfl, HR, HT, hRk, hxr⟩ := hrel
    obtain ⟨oa, oc, rfl⟩ := HR.out.shape
    by_cases hlt : k < ps.length
    case neg =>
      obtain rfl : k = ps.length := by omega
      have HV := Lib.hid (show Wb.allF A B = (0, R.map Wb.ct) by rw [HALL.out, HT.out, List.drop_length, Wb.allG])
      have hxf := HWP.out.trans hxr
      go_wp2
      refine bodyPost_ret (v := .tuple #[.slice oa R.length oc, .int .i64 0]) (by simp [results, Tryz.results14, go_sem]) rfl ⟨_, _, rfl, R, HV.out, HR.out.mono HWP.out.size, hxf⟩
    obtain ⟨⟨p, q⟩, hx⟩ := Wb.get_ex hlt
    obtain ⟨bp, op, rfl, hcells⟩ := (HTP.out.ext hxr).opened (tne hlt)
    have c0 := hcells _ (p, q) hx 0 _ rfl
    have c1 := hcells _ (p, q) hx 1 _ rfl
    simp only [Nat.add_zero] at c0 c1
    have hki : (k : Int) < ps.length := by omega
    have HRK := Lib.hid hRk
    have hRle : R.length ≤ 20000 := by omega
    clear hRk
    have HDR := Lib.hid (drop_at hx)
    have HPQ := Lib.hid (HPK.out (p, q) (List.mem_of_getElem? hx))
    obtain ⟨ya, ia, aa, na, ca, la', hsa, hca, hla, hza⟩ := slO_con (w := w) HLSA.out (p, q)
    obtain ⟨yb, ib, ab, nb, cb, lb', hsb, hcb, hlb, hzb⟩ := slO_con (w := w) HLSB.out (p, q)
    have HCA := Lib.hid hca
    have HCB := Lib.hid hcb
    have HLA := Lib.hid hla
    have HLB := Lib.hid hlb
    have HSA := Lib.hid hza
    have HSB := Lib.hid hzb
    have HK1' : Hid (∀ w', Wb.Ext wr w' → (Instr.lookup 97 (.map (some b1)) (.agg #[.int .i64 p, .int .i64 q]) false).run Tryz.prog w' = .ok (SlV ya ia (.slice aa na ca)) w') := Lib.hid (fun w' h => by rw [← hsa]; exact ((HM1.out.ext hxr).ext h).look HPQ.out)
    have HK2' : Hid (∀ w', Wb.Ext wr w' → (Instr.lookup 97 (.map (some b2)) (.agg #[.int .i64 p, .int .i64 q]) false).run Tryz.prog w' = .ok (SlV yb ib (.slice ab nb cb)) w') := Lib.hid (fun w' h => by rw [← hsb]; exact ((HM2.out.ext hxr).ext h).look HPQ.out)
    clear hcells hx hsa hca hla hza hsb hcb hlb hzb
    go_upto_region 11 with (fail)
    refine Wb.wp_at fun W0 hW0 => ?_
    obtain ⟨X, hX⟩ : ∃ X, wr.heap.size = X := ⟨_, rfl⟩
    have hb0 : Wb.Ext wr W0 := by rw [hW0]; (repeat' (first | (with_reducible assumption) | (with_reducible exact Wb.Ext.refl _) | (with_reducible refine Wb.Ext.drew ?_) | (with_reducible refine Wb.Ext.drewN ?_ _) | (with_reducible refine Wb.Ext.alloc ?_ _) | (with_reducible refine Wb.ext_set ?_ (by first | assumption | (simp; done) | (simp; omega) | omega) _) | (with_reducible refine Wb.Ext.trans ?_ (by assumption))))
    have x0 : W0.cell? ⟨X, 0, none⟩ = some (.int .i64 p) := by rw [hW0, ← hX]; simp [go_sem]
    have x1 : W0.cell? ⟨X, 1, none⟩ = some (.int .i64 q) := by rw [hW0, ← hX]; simp [go_sem]
    have HXR := Lib.hid hb0
    have HXP := Lib.hid (hxr.trans hb0)
    have HXW := Lib.hid (HWP.out.trans HXP.out)
    have HK1 : Hid (∀ w', Wb.Ext W0 w' → (Instr.lookup 97 (.map (some b1)) (.agg #[.int .i64 p, .int .i64 q]) false).run Tryz.prog w' = .ok (SlV ya ia (.slice aa na ca)) w') := Lib.hid (fun w' h => HK1'.out w' (hb0.trans h))
    have HK2 : Hid (∀ w', Wb.Ext W0 w' → (Instr.lookup 97 (.map (some b2)) (.agg #[.int .i64 p, .int .i64 q]) false).run Tryz.prog w' = .ok (SlV yb ib (.slice ab nb cb)) w') := Lib.hid (fun w' h => HK2'.out w' (hb0.trans h))
    have hl1 := HK1.out W0.drew (.drew (.refl W0))
    have hl2 := HK2.out W0.drew (.drew (.refl W0))
    rw [hX]
    clear hW0 hX c0 c1 hb0 HK1' HK2'
    refine region_start (S := (fun w' => w'.cell? ⟨X, 0, none⟩ = some (.int .i64 p) ∧ w'.cell? ⟨X, 1, none⟩ = some (.int .i64 q) ∧ (Instr.lookup 97 (.map (some b1)) (.agg #[.int .i64 p, .int .i64 q]) false).run Tryz.prog w' = .ok (SlV ya ia (.slice aa na ca)) w' ∧ (Instr.lookup 97 (.map (some b2)) (.agg #[.int .i64 p, .int .i64 q]) false).run Tryz.prog w' = .ok (SlV yb ib (.slice ab nb cb)) w')) (n := 13) (l := #[false, false, false, false, false, false, false, false, false, false, false, false, false]) (by kernel_rfl) ⟨x0, x1, hl1, hl2⟩ (by kernel_rfl) (by kernel_rfl) (fun hHeld => ?_)
    refine take_d (i := 0) (d := 40) (v := ?_) rfl rfl (by kernel_rfl) (by kernel_rfl) (by kernel_rfl) (fun _ _ _ h => h) (Or.inl ⟨by rfl, ?_⟩) (by assumption) ?_
    rotate_left
    · (intro w hSw; (try dsimp only at hSw); go_simp; (try with_reducible rfl))
    (try simp only [Act.put, List.setIfInBounds_toArray, List.set_cons_zero, List.set_cons_succ])
    refine take_d (i := 1) (d := 41) (v := ?_) rfl rfl (by kernel_rfl) (by kernel_rfl) (by kernel_rfl) (fun _ _ _ h => h) (Or.inl ⟨by rfl, ?_⟩) (by assumption) ?_
    rotate_left
    · (intro w hSw; (try dsimp only at hSw); go_simp; (try with_reducible rfl))
    (try simp only [Act.put, List.setIfInBounds_toArray, List.set_cons_zero, List.set_cons_succ])
    refine take_d (i := 2) (d := 42) (v := ?_) rfl rfl (by kernel_rfl) (by kernel_rfl) (by kernel_rfl) (fun _ _ _ h => h) (Or.inl ⟨by rfl, ?_⟩) (by assumption) ?_
    rotate_left
    · (intro w hSw; (try dsimp only at hSw); go_simp; (try with_reducible rfl))
    (try simp only [Act.put, List.setIfInBounds_toArray, List.set_cons_zero, List.set_cons_succ])
    refine take_d (i := 3) (d := 43) (v := ?_) rfl rfl (by kernel_rfl) (by kernel_rfl) (by kernel_rfl) (fun _ _ _ h => h) (Or.inl ⟨by rfl, ?_⟩) (by assumption) ?_
    rotate_left
    · (intro w hSw; (try dsimp only at hSw); go_simp; (try with_reducible rfl))
    (try simp only [Act.put, List.setIfInBounds_toArray, List.set_cons_zero, List.set_cons_succ])
    refine take_d (i := 4) (d := 44) (v := ?_) rfl rfl (by kernel_rfl) (by kernel_rfl) (by kernel_rfl) (fun _ _ _ h => h) (Or.inl ⟨by rfl, ?_⟩) (by assumption) ?_
    rotate_left
    · (intro w hSw; (try dsimp only at hSw); go_simp; (try with_reducible rfl))
    (try simp only [Act.put, List.setIfInBounds_toArray, List.set_cons_zero, List.set_cons_succ])
    refine take_d (i := 5) (d := 45) (v := ?_) rfl rfl (by kernel_rfl) (by kernel_rfl) (by kernel_rfl) (fun _ _ _ h => h) (Or.inl ⟨by rfl, ?_⟩) (by assumption) ?_
    rotate_left
    · (intro w hSw; (try dsimp only at hSw); go_simp; (try with_reducible rfl))
    (try simp only [Act.put, List.setIfInBounds_toArray, List.set_cons_zero, List.set_cons_succ])
    refine wpAnyH_ready (rs := [6, 10]) (by kernel_rfl) (by simp) ?_
    refine AllReadyH.cons (o := _) rfl (fun K hK => ?_) ?_
    · go_simp
      go_at_call 48
      go_fit (dof_any ya ia _ la' yb ib _ lb' _ (HLA.out.1.ext (HXW.out.trans (.drew (.refl _)))) HSA.out (HLB.out.1.ext (HXW.out.trans (.drew (.refl _)))) HSB.out)
      rintro e w21 ⟨Y, I, m, E, rfl, r, hO⟩
      obtain ⟨ma, mc, rfl⟩ := hO.lns.1.shape
      have HOF := Lib.hid hO.of
      have HLN := Lib.hid hO.lns
      have hb21 := hO.ext
      have hx21 : Wb.Ext W0 w21 := Wb.Ext.trans (.drew (.refl _)) hb21
      have HNW : Hid (∀ q, (Value.slice ma r.length mc).ownBlock = some q → W0.heap.size ≤ q) := Lib.hid (fun q hq => hO.new q hq)
      have HBS : Hid (r ≠ [] → ∀ q, (Value.slice ma r.length mc).ownBlock = some q → q < w21.heap.size) := Lib.hid (lns_size hO.lns)
      clear hO hb21
      refine hK.out _ _ ⟨hx21.keep x0, hx21.keep x1, HK1.out _ hx21, HK2.out _ hx21⟩ (fun hHeld => ?_)
      clear hK K
      (try simp only [List.setIfInBounds_toArray, List.set_cons_zero, List.set_cons_succ])
      refine take_d (i := 7) (d := 39) (v := ?_) rfl rfl (by kernel_rfl) (by kernel_rfl) (by kernel_rfl) (fun _ _ _ h => h) (Or.inl ⟨by rfl, ?_⟩) (by assumption) ?_
      rotate_left
      · (intro w hSw; (try dsimp only at hSw); go_simp; (try with_reducible rfl))
      (try simp only [Act.put, List.setIfInBounds_toArray, List.set_cons_zero, List.set_cons_succ])
      refine take_d (i := 8) (d := 47) (v := ?_) rfl rfl (by kernel_rfl) (by kernel_rfl) (by kernel_rfl) (fun _ _ _ h => h) (Or.inl ⟨by rfl, ?_⟩) (by assumption) ?_
      rotate_left
      · (intro w hSw; (try dsimp only at hSw); go_simp; (try with_reducible rfl))
      (try simp only [Act.put, List.setIfInBounds_toArray, List.set_cons_zero, List.set_cons_succ])
      refine take_d (i := 9) (d := 48) (v := ?_) rfl rfl (by kernel_rfl) (by kernel_rfl) (by kernel_rfl) (fun _ _ _ h => h) (Or.inl ⟨by rfl, ?_⟩) (by assumption) ?_
      rotate_left
      · (intro w hSw; (try dsimp only at hSw); go_simp; (try with_reducible rfl))
      (try simp only [Act.put, List.setIfInBounds_toArray, List.set_cons_zero, List.set_cons_succ])
      refine wpAnyH_ready (rs := [10]) (by kernel_rfl) (by simp) ?_
      refine AllReadyH.cons (o := _) rfl (fun K hK => ?_) AllReadyH.nil
      go_simp
      refine atK fun w22 hw22 => ?_
      have hx22 : Wb.Ext W0 w22 := by rw [hw22]; exact Wb.Ext.alloc hx21 _
      have hp22 : W0.heap.size ≤ w21.heap.size := hx21.size
      obtain ⟨G, hG⟩ : ∃ g, w21.heap.size = g := ⟨_, rfl⟩
      have g0 : w22.cell? ⟨G, 0, none⟩ = some (.int .i64 0) := by rw [hw22, ← hG]; simp [go_sem]
      have g1 : w22.cell? ⟨G, 1, none⟩ = some (.int .i64 0) := by rw [hw22, ← hG]; simp [go_sem]
      have g2 : w22.cell? ⟨G, 2, none⟩ = some (.slice none 0 0) := by rw [hw22, ← hG]; simp [go_sem]
      have gf : ∀ j, w22.frozen? ⟨G, j, none⟩ = false := fun j => by rw [hw22, ← hG]; simp [go_sem]
      have hGl : G < w22.heap.size := by rw [hw22, ← hG]; simp
      have hG0 : W0.heap.size ≤ G := by omega
      replace HLN := Lib.hid (HLN.out.ext (show Wb.Ext w21 w22 by rw [hw22]; exact Wb.Ext.alloc (.refl _) _))
      have HGQ : Hid (r ≠ [] → ∀ q, (Value.slice ma r.length mc).ownBlock = some q → q ≠ G) := Lib.hid (fun hr q hq => by have := HBS.out hr q hq; omega)
      (try rw [hG])
      clear hw22 hG
      refine hK.out _ _ ⟨hx22.keep x0, hx22.keep x1, HK1.out _ hx22, HK2.out _ hx22⟩ (fun hHeld => ?_)
      clear hK K
      (try simp only [List.setIfInBounds_toArray, List.set_cons_zero, List.set_cons_succ])
      refine wpAnyH_ready (rs := [11]) (by kernel_rfl) (by simp) ?_
      refine AllReadyH.cons (o := _) rfl (fun K hK => ?_) AllReadyH.nil
      go_simp
      refine atK fun w23 hw23 => ?_
      have hst := st3d (w := w22) (w' := w23) (b := G) (x := .int .i64 Y) (y := .int .i64 I) (z := .slice ma r.length mc) hw23 g0 g1 g2
      obtain ⟨z0, z1, z2, zk, zf, zz, ze⟩ := hst
      have hx23 : Wb.Ext W0 w23 := ze W0 hG0 hx22
      replace HLN := Lib.hid (lnsC_cells HLN.out fun b k u hb hr hc => by
        have hbg : b ≠ G := by
          rcases hq : (Value.slice ma r.length mc).ownBlock with _ | q9
          · obtain ⟨b9, o9, e9, _⟩ := HLN.out.1.opened hr
            subst e9; cases hq
          · rw [hb q9 hq]; exact HGQ.out hr q9 hq
        rw [zk b k hbg]; exact hc)
      replace hGl : G < w23.heap.size := by rw [zz]; exact hGl
      clear hw23 zk zf zz ze g0 g1 g2 gf
      refine hK.out _ _ ⟨hx23.keep x0, hx23.keep x1, HK1.out _ hx23, HK2.out _ hx23⟩ (fun hHeld => ?_)
      clear hK K
      (try simp only [List.setIfInBounds_toArray, List.set_cons_zero, List.set_cons_succ])
      refine take_d (i := 12) (d := 13) (v := ?_) rfl rfl (by kernel_rfl) (by kernel_rfl) (by kernel_rfl) (fun _ _ _ h => h) (Or.inl ⟨by rfl, ?_⟩) (by assumption) ?_
      rotate_left
      · (intro w hSw; (try dsimp only at hSw); go_simp; (try with_reducible rfl))
      (try simp only [Act.put, List.setIfInBounds_toArray, List.set_cons_zero, List.set_cons_succ])
      refine wpAnyH_done (by kernel_rfl) ?_ _
      have HXZ := Lib.hid (HXP.out.trans hx23)
      have HRZ := Lib.hid (HR.out.ext (show Wb.Ext wr w23 from HXR.out.trans hx23))
      have hbw : ∀ q, (Value.slice oa R.length oc).ownBlock = some q → q < W0.heap.size := fun q hq => by have := (HR.out.1.lt q hq).2; have := HXR.out.size; omega
      have HNQ : Hid (r ≠ [] → ∀ q, (Value.slice ma r.length mc).ownBlock = some q → (Value.slice oa R.length oc).ownBlock ≠ some q) := Lib.hid (fun _ q hq e => by have := hbw q e; have := HNW.out q hq; omega)
      have HOC := Lib.hid (show Wb.ofC (Wb.conO (Wb.findS A (p, q))) (Wb.conO (Wb.findS B (p, q))) = (E, Y, I, r) by rw [HCA.out, HCB.out]; exact Wb.of_eq HOF.out)
      clear hbw
      by_cases hz : E = 0
      case neg =>
        have d1 : (E != 0) = true := by simpa using hz
        have d2 : (E == 0) = false := by simpa using hz
        have HV := Lib.hid (show Wb.allF A B = (E, [].map Wb.ct) by rw [HALL.out, HT.out, HDR.out]; exact Wb.all_bad HOC.out hz)
        have hxz := HXZ.out
        clear hz
        go_wp2
        refine bodyPost_ret (v := .tuple #[.slice none 0 0, .int .i64 E]) (by simp [results, Tryz.results14, go_sem]) rfl ⟨_, _, rfl, [], HV.out, SlR.nil, HWP.out.trans hxz⟩
      subst hz
      have HTN := Lib.hid (show Wb.allG A B [] ps = Wb.allG A B ((R ++ [(⟨Y, I, .slice ma r.length mc, r⟩ : Wb.Sl)]).map Wb.ct) (ps.drop (k + 1)) by rw [HT.out, HDR.out, Wb.all_more HOC.out, List.map_append]; rfl)
      have HSZ := Lib.hid (of_sized9 HOF.out rfl)
      obtain ⟨hi, hz0, hz1, hz2⟩ := HIN.out
      go_wp2_with (at_builtin; go_loud (refine wpList_append_row2 rfl (.tmp 52) (.tmp 54) 39 rfl wp.heap.size 38 i0 slZ 3 40 Tryz.underlying39 hi hz0 hz1 hz2 rfl (by decide) _ _ _ rfl (HRZ.out.ext (Wb.Ext.alloc (.refl _) _)).1 _ rfl 1 (slc (⟨Y, I, .slice ma r.length mc, r⟩ : Wb.Sl)) ?c1 ?c2 ?c3 ?c4 ?c5 ?_))
      case c1 => exact src_lit _ _ (by simp) (slc (⟨Y, I, .slice ma r.length mc, r⟩ : Wb.Sl)) _ _
      case c2 => intro u hu; simp [slc] at hu; rcases hu with rfl | rfl | rfl <;> rfl
      case c3 => unfold maxLen; omega
      case c4 => omega
      case c5 => have := HXZ.out.size; first | omega | (simp; omega)
      intro u2 w6 hown2 hg2 hblk
      have hrb : ∀ q, (Value.slice oa R.length oc).ownBlock = some q → wp.heap.size ≤ q := fun q hq => (HR.out.1.lt q hq).1
      have HX6 := Lib.hid (show Wb.Ext wp w6 from Wb.Ext.grown (Wb.Ext.trans HXZ.out (by (repeat' (first | (with_reducible assumption) | (with_reducible exact Wb.Ext.refl _) | (with_reducible refine Wb.Ext.drew ?_) | (with_reducible refine Wb.Ext.drewN ?_ _) | (with_reducible refine Wb.Ext.alloc ?_ _) | (with_reducible refine Wb.Ext.trans ?_ (by assumption)))))) hg2 (fun q hq => hrb q hq))
      have HR6 := Lib.hid (SlR.append (s := ⟨Y, I, .slice ma r.length mc, r⟩) (HRZ.out.ext (by (repeat' (first | (with_reducible assumption) | (with_reducible exact Wb.Ext.refl _) | (with_reducible refine Wb.Ext.drew ?_) | (with_reducible refine Wb.Ext.drewN ?_ _) | (with_reducible refine Wb.Ext.alloc ?_ _) | (with_reducible refine Wb.Ext.trans ?_ (by assumption)))))) hown2 hg2 (by have := hblk; simp at this ⊢; exact this) (HLN.out.ext (by (repeat' (first | (with_reducible assumption) | (with_reducible exact Wb.Ext.refl _) | (with_reducible refine Wb.Ext.drew ?_) | (with_reducible refine Wb.Ext.drewN ?_ _) | (with_reducible refine Wb.Ext.alloc ?_ _) | (with_reducible refine Wb.Ext.trans ?_ (by assumption)))))) HSZ.out HNQ.out)
      clear hi hz0 hz1 hz2 hg2 hown2 hblk hrb
      go_wp2
      go_roundw
      case rel => exact ⟨k + 1, R ++ [⟨Y, I, .slice ma r.length mc, r⟩], by omega, by go_num, HR6, HTN, by rw [List.length_append, HRK.out]; rfl, HX6.out⟩
      case measure => first | (simp [intOf]; done) | (simp [intOf]; omega)
    refine AllReadyH.cons (o := _) rfl (fun K hK => ?_) ?_
    · go_simp
      refine atK fun w21 hw21 => ?_
      have hx21 : Wb.Ext W0 w21 := by rw [hw21]; exact Wb.Ext.alloc (.drew (.refl _)) _
      have hp21 : W0.heap.size ≤ W0.heap.size := Nat.le_refl _
      obtain ⟨G, hG⟩ : ∃ g, W0.heap.size = g := ⟨_, rfl⟩
      have g0 : w21.cell? ⟨G, 0, none⟩ = some (.int .i64 0) := by rw [hw21, ← hG]; simp [go_sem]
      have g1 : w21.cell? ⟨G, 1, none⟩ = some (.int .i64 0) := by rw [hw21, ← hG]; simp [go_sem]
      have g2 : w21.cell? ⟨G, 2, none⟩ = some (.slice none 0 0) := by rw [hw21, ← hG]; simp [go_sem]
      have gf : ∀ j, w21.frozen? ⟨G, j, none⟩ = false := fun j => by rw [hw21, ← hG]; simp [go_sem]
      have hGl : G < w21.heap.size := by rw [hw21, ← hG]; simp
      have hG0 : W0.heap.size ≤ G := by omega
      (try rw [hG])
      clear hw21 hG
      refine hK.out _ _ ⟨hx21.keep x0, hx21.keep x1, HK1.out _ hx21, HK2.out _ hx21⟩ (fun hHeld => ?_)
      clear hK K
      (try simp only [List.setIfInBounds_toArray, List.set_cons_zero, List.set_cons_succ])
      refine wpAnyH_ready (rs := [6]) (by kernel_rfl) (by simp) ?_
      refine AllReadyH.cons (o := _) rfl (fun K hK => ?_) AllReadyH.nil
      go_simp
      go_at_call 48
      go_fit (dof_any ya ia _ la' yb ib _ lb' _ (HLA.out.1.ext (HXW.out.trans hx21)) HSA.out (HLB.out.1.ext (HXW.out.trans hx21)) HSB.out)
      rintro e w22 ⟨Y, I, m, E, rfl, r, hO⟩
      obtain ⟨ma, mc, rfl⟩ := hO.lns.1.shape
      have HOF := Lib.hid hO.of
      have HLN := Lib.hid hO.lns
      have hb22 := hO.ext
      have hx22 : Wb.Ext W0 w22 := Wb.Ext.trans hx21 hb22
      have HNW : Hid (∀ q, (Value.slice ma r.length mc).ownBlock = some q → W0.heap.size ≤ q) := Lib.hid (fun q hq => Nat.le_trans hx21.size (hO.new q hq))
      have HGQ : Hid (r ≠ [] → ∀ q, (Value.slice ma r.length mc).ownBlock = some q → q ≠ G) := Lib.hid (fun _ q hq => by have := hO.new q hq; omega)
      have g0 := hb22.keep g0
      have g1 := hb22.keep g1
      have g2 := hb22.keep g2
      have gf : ∀ j, w22.frozen? ⟨G, j, none⟩ = false := fun j => (Below.frozen hb22 (by simpa using hGl)).trans (gf j)
      replace hGl := Nat.lt_of_lt_of_le hGl hb22.size
      clear hO hb22
      refine hK.out _ _ ⟨hx22.keep x0, hx22.keep x1, HK1.out _ hx22, HK2.out _ hx22⟩ (fun hHeld => ?_)
      clear hK K
      (try simp only [List.setIfInBounds_toArray, List.set_cons_zero, List.set_cons_succ])
      refine take_d (i := 7) (d := 39) (v := ?_) rfl rfl (by kernel_rfl) (by kernel_rfl) (by kernel_rfl) (fun _ _ _ h => h) (Or.inl ⟨by rfl, ?_⟩) (by assumption) ?_
      rotate_left
      · (intro w hSw; (try dsimp only at hSw); go_simp; (try with_reducible rfl))
      (try simp only [Act.put, List.setIfInBounds_toArray, List.set_cons_zero, List.set_cons_succ])
      refine take_d (i := 8) (d := 47) (v := ?_) rfl rfl (by kernel_rfl) (by kernel_rfl) (by kernel_rfl) (fun _ _ _ h => h) (Or.inl ⟨by rfl, ?_⟩) (by assumption) ?_
      rotate_left
      · (intro w hSw; (try dsimp only at hSw); go_simp; (try with_reducible rfl))
      (try simp only [Act.put, List.setIfInBounds_toArray, List.set_cons_zero, List.set_cons_succ])
      refine take_d (i := 9) (d := 48) (v := ?_) rfl rfl (by kernel_rfl) (by kernel_rfl) (by kernel_rfl) (fun _ _ _ h => h) (Or.inl ⟨by rfl, ?_⟩) (by assumption) ?_
      rotate_left
      · (intro w hSw; (try dsimp only at hSw); go_simp; (try with_reducible rfl))
      (try simp only [Act.put, List.setIfInBounds_toArray, List.set_cons_zero, List.set_cons_succ])
      refine wpAnyH_ready (rs := [11]) (by kernel_rfl) (by simp) ?_
      refine AllReadyH.cons (o := _) rfl (fun K hK => ?_) AllReadyH.nil
      go_simp
      refine atK fun w23 hw23 => ?_
      have hst := st3d (w := w22) (w' := w23) (b := G) (x := .int .i64 Y) (y := .int .i64 I) (z := .slice ma r.length mc) hw23 g0 g1 g2
      obtain ⟨z0, z1, z2, zk, zf, zz, ze⟩ := hst
      have hx23 : Wb.Ext W0 w23 := ze W0 hG0 hx22
      replace HLN := Lib.hid (lnsC_cells HLN.out fun b k u hb hr hc => by
        have hbg : b ≠ G := by
          rcases hq : (Value.slice ma r.length mc).ownBlock with _ | q9
          · obtain ⟨b9, o9, e9, _⟩ := HLN.out.1.opened hr
            subst e9; cases hq
          · rw [hb q9 hq]; exact HGQ.out hr q9 hq
        rw [zk b k hbg]; exact hc)
      replace hGl : G < w23.heap.size := by rw [zz]; exact hGl
      clear hw23 zk zf zz ze g0 g1 g2 gf
      refine hK.out _ _ ⟨hx23.keep x0, hx23.keep x1, HK1.out _ hx23, HK2.out _ hx23⟩ (fun hHeld => ?_)
      clear hK K
      (try simp only [List.setIfInBounds_toArray, List.set_cons_zero, List.set_cons_succ])
      refine take_d (i := 12) (d := 13) (v := ?_) rfl rfl (by kernel_rfl) (by kernel_rfl) (by kernel_rfl) (fun _ _ _ h => h) (Or.inl ⟨by rfl, ?_⟩) (by assumption) ?_
      rotate_left
      · (intro w hSw; (try dsimp only at hSw); go_simp; (try with_reducible rfl))
      (try simp only [Act.put, List.setIfInBounds_toArray, List.set_cons_zero, List.set_cons_succ])
      refine wpAnyH_done (by kernel_rfl) ?_ _
      have HXZ := Lib.hid (HXP.out.trans hx23)
      have HRZ := Lib.hid (HR.out.ext (show Wb.Ext wr w23 from HXR.out.trans hx23))
      have hbw : ∀ q, (Value.slice oa R.length oc).ownBlock = some q → q < W0.heap.size := fun q hq => by have := (HR.out.1.lt q hq).2; have := HXR.out.size; omega
      have HNQ : Hid (r ≠ [] → ∀ q, (Value.slice ma r.length mc).ownBlock = some q → (Value.slice oa R.length oc).ownBlock ≠ some q) := Lib.hid (fun _ q hq e => by have := hbw q e; have := HNW.out q hq; omega)
      have HOC := Lib.hid (show Wb.ofC (Wb.conO (Wb.findS A (p, q))) (Wb.conO (Wb.findS B (p, q))) = (E, Y, I, r) by rw [HCA.out, HCB.out]; exact Wb.of_eq HOF.out)
      clear hbw
      by_cases hz : E = 0
      case neg =>
        have d1 : (E != 0) = true := by simpa using hz
        have d2 : (E == 0) = false := by simpa using hz
        have HV := Lib.hid (show Wb.allF A B = (E, [].map Wb.ct) by rw [HALL.out, HT.out, HDR.out]; exact Wb.all_bad HOC.out hz)
        have hxz := HXZ.out
        clear hz
        go_wp2
        refine bodyPost_ret (v := .tuple #[.slice none 0 0, .int .i64 E]) (by simp [results, Tryz.results14, go_sem]) rfl ⟨_, _, rfl, [], HV.out, SlR.nil, HWP.out.trans hxz⟩
      subst hz
      have HTN := Lib.hid (show Wb.allG A B [] ps = Wb.allG A B ((R ++ [(⟨Y, I, .slice ma r.length mc, r⟩ : Wb.Sl)]).map Wb.ct) (ps.drop (k + 1)) by rw [HT.out, HDR.out, Wb.all_more HOC.out, List.map_append]; rfl)
      have HSZ := Lib.hid (of_sized9 HOF.out rfl)
      obtain ⟨hi, hz0, hz1, hz2⟩ := HIN.out
      go_wp2_with (at_builtin; go_loud (refine wpList_append_row2 rfl (.tmp 52) (.tmp 54) 39 rfl wp.heap.size 38 i0 slZ 3 40 Tryz.underlying39 hi hz0 hz1 hz2 rfl (by decide) _ _ _ rfl (HRZ.out.ext (Wb.Ext.alloc (.refl _) _)).1 _ rfl 1 (slc (⟨Y, I, .slice ma r.length mc, r⟩ : Wb.Sl)) ?c1 ?c2 ?c3 ?c4 ?c5 ?_))
      case c1 => exact src_lit _ _ (by simp) (slc (⟨Y, I, .slice ma r.length mc, r⟩ : Wb.Sl)) _ _
      case c2 => intro u hu; simp [slc] at hu; rcases hu with rfl | rfl | rfl <;> rfl
      case c3 => unfold maxLen; omega
      case c4 => omega
      case c5 => have := HXZ.out.size; first | omega | (simp; omega)
      intro u2 w6 hown2 hg2 hblk
      have hrb : ∀ q, (Value.slice oa R.length oc).ownBlock = some q → wp.heap.size ≤ q := fun q hq => (HR.out.1.lt q hq).1
      have HX6 := Lib.hid (show Wb.Ext wp w6 from Wb.Ext.grown (Wb.Ext.trans HXZ.out (by (repeat' (first | (with_reducible assumption) | (with_reducible exact Wb.Ext.refl _) | (with_reducible refine Wb.Ext.drew ?_) | (with_reducible refine Wb.Ext.drewN ?_ _) | (with_reducible refine Wb.Ext.alloc ?_ _) | (with_reducible refine Wb.Ext.trans ?_ (by assumption)))))) hg2 (fun q hq => hrb q hq))
      have HR6 := Lib.hid (SlR.append (s := ⟨Y, I, .slice ma r.length mc, r⟩) (HRZ.out.ext (by (repeat' (first | (with_reducible assumption) | (with_reducible exact Wb.Ext.refl _) | (with_reducible refine Wb.Ext.drew ?_) | (with_reducible refine Wb.Ext.drewN ?_ _) | (with_reducible refine Wb.Ext.alloc ?_ _) | (with_reducible refine Wb.Ext.trans ?_ (by assumption)))))) hown2 hg2 (by have := hblk; simp at this ⊢; exact this) (HLN.out.ext (by (repeat' (first | (with_reducible assumption) | (with_reducible exact Wb.Ext.refl _) | (with_reducible refine Wb.Ext.drew ?_) | (with_reducible refine Wb.Ext.drewN ?_ _) | (with_reducible refine Wb.Ext.alloc ?_ _) | (with_reducible refine Wb.Ext.trans ?_ (by assumption)))))) HSZ.out HNQ.out)
      clear hi hz0 hz1 hz2 hg2 hown2 hblk hrb
      go_wp2
      go_roundw
      case rel => exact ⟨k + 1, R ++ [⟨Y, I, .slice ma r.length mc, r⟩], by omega, by go_num, HR6, HTN, by rw [List.length_append, HRK.out]; rfl, HX6.out⟩
      case measure => first | (simp [intOf]; done) | (simp [intOf]; omega)
    exact AllReadyH.nil

end Go.Proofs.YtnefdpnolojojaaGreat
