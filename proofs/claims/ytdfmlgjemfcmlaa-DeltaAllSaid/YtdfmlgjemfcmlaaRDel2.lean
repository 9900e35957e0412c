/- The reference of chapter 29: put. -/
import Derived.Test.YtdfmlgjemfcmlaaRDel1
import Derived.Test.YtdfmlgjemfcmlaaApp1
import Derived.Deep.DeepCutAuto
namespace Go.Proofs.Ytdfmlgjemfcmlaa
open Go.RowKit Go.Lib
set_option maxRecDepth 8000
attribute [local go_sem ↓] Go.wp_at_zero Go.wp_at_succ

theorem lnv_one (l : List Wb.Ln) : ∀ u ∈ lnvs l, u.oneCell' = true := by
  intro u hu
  obtain ⟨x, _, hx⟩ := List.mem_flatMap.1 hu
  simp [lnv] at hx
  rcases hx with rfl | rfl | rfl <;> rfl
/-- a row of lines, made by the law's own calls -/
def LnR (base : Nat) (w : World) (v : Value) (l : List Wb.Ln) : Prop := w.ownsRow base 44 3 v l.length (lnvs l)
theorem LnR.ext {base : Nat} {w w' : World} {v : Value} {l : List Wb.Ln} (h : LnR base w v l) (k : Wb.Ext w w') : LnR base w' v l := row_ext h k
theorem LnR.lns {base : Nat} {w : World} {v : Value} {l : List Wb.Ln} (h : LnR base w v l) : LnsC w v l := lnsC_of_row h
theorem LnR.shape {base : Nat} {w : World} {v : Value} {l : List Wb.Ln} (h : LnR base w v l) : ∃ a c, v = .slice a l.length c := row_shape3 h
theorem LnR.mono {base base' : Nat} {w : World} {v : Value} {l : List Wb.Ln} (h : LnR base w v l) (hb : base' ≤ base) : LnR base' w v l := by
  obtain ⟨h1, h2 | ⟨g, cap, cur, hv, hg, rest⟩⟩ := h
  · exact ⟨h1, .inl h2⟩
  · exact ⟨h1, .inr ⟨g, cap, cur, hv, Nat.le_trans hb hg, rest⟩⟩
theorem own_nil3 {w : World} {base e s : Nat} : w.ownsRow base e s (.slice none 0 0) 0 [] := ⟨by simp, .inl ⟨rfl, rfl⟩⟩
theorem own_empty {w : World} {base e s : Nat} (hb : base ≤ w.heap.size) : (w.alloc (.cells #[] e)).ownsRow base e s (.slice (some ⟨w.heap.size, 0, none⟩) 0 0) 0 [] :=
  ⟨by simp, .inr ⟨w.heap.size, 0, #[], rfl, hb, heap_alloc_new _ _, Nat.le_refl _, Nat.zero_le _, by simp, by simp⟩⟩
theorem src_grown {w w' : World} {size m : Nat} {v : Value} {news : List Value} {row : Option Nat} (h : Wb.SrcRow w size v m news) (hg : w.grownBy w' row) (hne : ∀ a m' c, v = .slice (some a) m' c → row ≠ some a.block) : Wb.SrcRow w' size v m news := by
  refine ⟨h.1, ?_⟩
  rcases h.2 with h | ⟨ad, c, h1, h2⟩
  · exact .inl h
  · refine .inr ⟨ad, c, h1, fun j u hj => ?_⟩
    have hc := h2 j u hj
    have hlt : (ad.add j).block < w.heap.size := by
      rcases Nat.lt_or_ge (ad.add j).block w.heap.size with q | q
      · exact q
      · simp [World.cell?, Array.getElem?_eq_none q] at hc
    rw [hg.cell_far _ hlt (by have := hne ad m c h1; intro e; apply this; rw [← e]; simp [Addr.add]; split <;> rfl)]
    exact hc
theorem LnR.nil {base : Nat} {w : World} : LnR base w (.slice none 0 0) [] := own_nil3
theorem src_lines {w : World} {g o n : Nat} (l : List Wb.Ln) (c : Nat) (hn : n = l.length) (h : ∀ j x, l[j]? = some x → w.cell? ⟨g, o + j * 3, none⟩ = some (.int .i64 x.part) ∧ w.cell? ⟨g, o + j * 3 + 1, none⟩ = some (.string (Wb.S x.code)) ∧ w.cell? ⟨g, o + j * 3 + 2, none⟩ = some (.int .i64 x.cents)) : Wb.SrcRow w 3 (.slice (some ⟨g, o, none⟩) n c) n (lnvs l) := by
  subst hn
  refine ⟨lnvs_length l, .inr ⟨_, _, rfl, fun j u hj => ?_⟩⟩
  have hjl : j < l.length * 3 := by rw [← lnvs_length]; exact (List.getElem?_eq_some_iff.1 hj).1
  have hq : j / 3 < l.length := by omega
  obtain ⟨x, hx⟩ := Wb.get_ex hq
  obtain ⟨g0, g1, g2⟩ := lnvs_get hx
  obtain ⟨h0, h1, h2⟩ := h _ x hx
  have hadd : ∀ i, ((⟨g, o, none⟩ : Addr).add i) = ⟨g, o + i, none⟩ := fun i => by
    by_cases hi : i = 0
    · subst hi; rfl
    · simp [Addr.add, hi]
  rw [hadd]
  have hm : j % 3 = 0 ∨ j % 3 = 1 ∨ j % 3 = 2 := by omega
  rcases hm with hm | hm | hm
  · rw [show j = j / 3 * 3 by omega] at hj ⊢
    rw [g0] at hj; cases hj; exact h0
  · rw [show j = j / 3 * 3 + 1 by omega] at hj ⊢
    rw [g1] at hj; cases hj
    exact h1
  · rw [show j = j / 3 * 3 + 2 by omega] at hj ⊢
    rw [g2] at hj; cases hj
    exact h2
/-- a row of lines, cut -/
theorem lines_cut {base : Nat} {w : World} {v : Value} {l : List Wb.Ln} (h : LnR base w v l) {k : Nat} (hk : k ≤ l.length) : ∃ V1 V2, (∀ W : World, (Instr.sliceAt 22 v none (some (.int .i64 k)) none).run Try.prog W = .ok V1 W) ∧ Wb.SrcRow w 3 V1 k (lnvs (l.take k)) ∧
    (∀ W : World, (Instr.sliceAt 22 v (some (.int .i64 k)) none none).run Try.prog W = .ok V2 W) ∧ Wb.SrcRow w 3 V2 (l.length - k) (lnvs (l.drop k)) := by
  by_cases hv : v = .slice none 0 0
  · have hl : l = [] := by
      obtain ⟨_, h2 | ⟨g, cap, cur, hv', _⟩⟩ := h
      · exact List.length_eq_zero_iff.1 h2.2
      · rw [hv] at hv'; cases hv'
    subst hv hl
    obtain rfl : k = 0 := by simpa using hk
    exact ⟨.slice none 0 0, .slice none 0 0, fun W => by simp [go_sem, Try.underlying22], ⟨rfl, .inl ⟨rfl, rfl⟩⟩, fun W => by simp [go_sem, Try.underlying22], ⟨rfl, .inl ⟨rfl, rfl⟩⟩⟩
  · obtain ⟨_, h2 | ⟨g, cap, cur, hv', _, _, hcap, _⟩⟩ := id h
    · exact absurd h2.1 hv
    · obtain ⟨g2, cap2, hv2, _, _, _, hcell⟩ := Wb.ownsRow_at h hv
      rw [hv'] at hv2; cases hv2
      subst hv'
      have hc : ∀ j x, l[j]? = some x → w.cell? ⟨g, 0 + j * 3, none⟩ = some (.int .i64 x.part) ∧ w.cell? ⟨g, 0 + j * 3 + 1, none⟩ = some (.string (Wb.S x.code)) ∧ w.cell? ⟨g, 0 + j * 3 + 2, none⟩ = some (.int .i64 x.cents) := fun j x hx => by
        obtain ⟨g0, g1, g2⟩ := lnvs_get hx
        rw [Nat.zero_add]
        exact ⟨hcell _ _ g0, hcell _ _ g1, hcell _ _ g2⟩
      have hk1 : ¬ ((l.length : Int) < (k : Int)) := by omega
      have hk2 : ¬ ((cap : Int) < (k : Int)) := by omega
      have hk3 : (k : Int) ≤ l.length := by omega
      have hk4 : (k : Int) ≤ cap := by omega
      refine ⟨.slice (some ⟨g, 0, none⟩) k cap, ?_⟩
      have s1 : Wb.SrcRow w 3 (.slice (some ⟨g, 0, none⟩) k cap) k (lnvs (l.take k)) := src_lines (l.take k) cap (by simp; omega) (fun j x hj => by
        rw [List.getElem?_take] at hj
        split at hj
        · exact hc j x hj
        · cases hj)
      by_cases hck : cap = k
      · have hkl : k = l.length := by omega
        refine ⟨.slice (some ⟨g, 0, none⟩) (l.length - k) (cap - k), fun W => by simp [go_sem, Try.underlying22, hk4], s1, fun W => by simp [go_sem, Try.underlying22, hck, hk3], ?_⟩
        subst hkl
        rw [Nat.sub_self]
        exact ⟨by simp [lnvs], .inr ⟨_, _, rfl, fun j u hj => by simp [lnvs] at hj⟩⟩
      · refine ⟨.slice (some ⟨g, k * 3, none⟩) (l.length - k) (cap - k), fun W => by simp [go_sem, Try.underlying22, hk4], s1, fun W => by simp [go_sem, Try.underlying22, hck, hk3], ?_⟩
        exact src_lines (l.drop k) _ (by simp) (fun j x hj => by
          rw [List.getElem?_drop] at hj
          have := hc _ x hj
          rw [show 0 + (k + j) * 3 = k * 3 + j * 3 by rw [Nat.add_mul]; omega] at this
          exact this)

set_option maxHeartbeats 4000000 in
theorem rput_any (base : Nat) (v : Value) (l : List Wb.Ln) (x : Wb.Ln) (w : World) (hv : LnR base w v l) (hbase : base ≤ w.heap.size) (hr : Wb.Rise l) (hl : l.length ≤ 1000000) :
    Calls Try.prog 39 #[v, LnV x] w fun e w' => ∃ v', e = .returned v' ∧ LnR base w' v' (Wb.putL l x) ∧ Wb.Ext w w' := by
  obtain ⟨i0, hi, hz0, hz1, hz2⟩ := info_parts infoLine
  have HIN := Lib.hid (show Try.prog.info? 44 = some i0 ∧ i0.zero = some (.agg #[.int .i64 0, .string "".toUTF8, .int .i64 0]) ∧ i0.size = 3 ∧ i0.bytes = 32 from ⟨hi, hz0, hz1, hz2⟩)
  clear hi hz0 hz1 hz2
  obtain ⟨va, vc, rfl⟩ := hv.shape
  have HV := Lib.hid hv
  have HR := Lib.hid hr
  clear hv hr
  go_enter Try.func39, Try.ntmps39
  go_wp2_with fail
  go_loopw [5] (fun iv wr => ∃ k : Nat, k ≤ l.length ∧ iv = .int .i64 k ∧ Hid (∀ t u, l[t]? = some u → t < k → Wb.lnLt u x = true) ∧ Wb.Ext (w.alloc (.cells #[.int .i64 x.part, .string (Wb.S x.code), .int .i64 x.cents] 44)) wr) (fun iv _ => l.length - (intOf iv).toNat)
  case atStart => exact ⟨0, Nat.zero_le _, rfl, Lib.hid (fun t u _ h => absurd h (Nat.not_lt_zero _)), .refl _⟩
  case round =>
    obtain ⟨k, hk, rfl, HLO, hext0⟩ := hrel
    have b0 : wr.cell? ⟨w.heap.size, 0, none⟩ = some (.int .i64 x.part) := hext0.keep (by simp [go_sem])
    have b1 : wr.cell? ⟨w.heap.size, 1, none⟩ = some (.string (Wb.S x.code)) := hext0.keep (by simp [go_sem])
    have b2 : wr.cell? ⟨w.heap.size, 2, none⟩ = some (.int .i64 x.cents) := hext0.keep (by simp [go_sem])
    have hext : Wb.Ext w wr := Wb.Ext.trans (by (repeat' (first | (with_reducible assumption) | (with_reducible exact Wb.Ext.refl _) | (with_reducible refine Wb.Ext.drew ?_) | (with_reducible refine Wb.Ext.drewN ?_ _) | (with_reducible refine Wb.Ext.alloc ?_ _) | (with_reducible refine Wb.Ext.trans ?_ (by assumption))))) hext0
    by_cases hlt : k < l.length
    · obtain ⟨y, hy⟩ := Wb.get_ex hlt
      obtain ⟨b, off, rfl, hcells⟩ := (HV.out.lns.1.ext hext).opened (tne hlt)
      obtain ⟨c0, c1, c2⟩ := hcells _ y hy
      have hki : (k : Int) < l.length := by omega
      have HY := Lib.hid hy
      clear hcells hy
      obtain ⟨q, hq⟩ : ∃ q, Wb.lnLt y x = q := ⟨_, rfl⟩
      have HQ := Lib.hid hq
      clear hq
      go_wp2_with fail
      go_region_held3 (fun w' => w'.cell? ⟨w.heap.size, 0, none⟩ = some (.int .i64 x.part) ∧ w'.cell? ⟨w.heap.size, 1, none⟩ = some (.string (Wb.S x.code)) ∧ w'.cell? ⟨w.heap.size, 2, none⟩ = some (.int .i64 x.cents) ∧ w'.cell? ⟨b, off + k * 3, none⟩ = some (.int .i64 y.part) ∧ w'.cell? ⟨b, off + k * 3 + 1, none⟩ = some (.string (Wb.S y.code)) ∧ w'.cell? ⟨b, off + k * 3 + 2, none⟩ = some (.int .i64 y.cents)) (first | exact ⟨b0, b1, b2, c0, c1, c2⟩ | (obtain ⟨k0, k1, k2, k3, k4, k5⟩ := ‹_ ∧ _ ∧ _ ∧ _ ∧ _ ∧ _›; exact ⟨hb.keep k0, hb.keep k1, hb.keep k2, hb.keep k3, hb.keep k4, hb.keep k5⟩)) (first | (go_at_call 60; go_fit (rahead_any y x _); rintro e w1 ⟨rfl, hb⟩; rw [HQ.out]))
      obtain ⟨b0, b1, b2, c0, c1, c2⟩ := ‹_ ∧ _ ∧ _ ∧ _ ∧ _ ∧ _›
      replace hb := Wb.Ext.trans (.drew (.refl _)) hb
      replace hext := hext.trans hb
      replace hext0 := hext0.trans hb
      clear hb
      cases q
      · by_cases he : y.part = x.part ∧ y.code = x.code
        · obtain ⟨he1, he2⟩ := he
          have d1 : (y.part == x.part) = true := by simpa using he1
          have d2 : (y.code == x.code) = true := by simpa using he2
          have HPUT := Lib.hid (show Wb.putL l x = l from Wb.putL_same HLO.out HY.out he1 he2)
          clear he1 he2
          go_wp2_with fail
          go_quiet (fail)
          go_wp2
          go_ret
          exact ⟨_, rfl, by rw [HPUT.out]; exact HV.out.ext (by (repeat' (first | (with_reducible assumption) | (with_reducible exact Wb.Ext.refl _) | (with_reducible refine Wb.Ext.drew ?_) | (with_reducible refine Wb.Ext.drewN ?_ _) | (with_reducible refine Wb.Ext.alloc ?_ _) | (with_reducible refine Wb.Ext.trans ?_ (by assumption))))), by (repeat' (first | (with_reducible assumption) | (with_reducible exact Wb.Ext.refl _) | (with_reducible refine Wb.Ext.drew ?_) | (with_reducible refine Wb.Ext.drewN ?_ _) | (with_reducible refine Wb.Ext.alloc ?_ _) | (with_reducible refine Wb.Ext.trans ?_ (by assumption))))⟩
        · have HPUT := Lib.hid (show Wb.putL l x = l.take k ++ x :: l.drop k from Wb.putL_new hk HLO.out (fun z hz => by rw [HY.out] at hz; cases hz; exact ⟨HQ.out, he⟩))
          by_cases he1 : y.part = x.part
          · have he2 : (y.code == x.code) = false := by simpa using fun h => he ⟨he1, h⟩
            have d1 : (y.part == x.part) = true := by simpa using he1
            clear he he1
            go_wp2_with fail
            go_quiet (fail)
            go_wp2_with fail
            obtain ⟨V1, V2, hs1, hc1, hs2, hc2⟩ := lines_cut HV.out hk
            go_upto_region 6 with (fail)
            refine Wb.wp_at fun W0 hW0 => ?_
            obtain ⟨G, hG⟩ : ∃ G, w.heap.size = G := ⟨_, rfl⟩
            have hx0 : Wb.Ext w W0 := by rw [hW0]; first | exact hext | (repeat' (first | (with_reducible assumption) | (with_reducible exact Wb.Ext.refl _) | (with_reducible refine Wb.Ext.drew ?_) | (with_reducible refine Wb.Ext.drewN ?_ _) | (with_reducible refine Wb.Ext.alloc ?_ _) | (with_reducible refine Wb.Ext.trans ?_ (by assumption))))
            have x0 : W0.cell? ⟨G, 0, none⟩ = some (.int .i64 x.part) := by rw [hW0, ← hG]; first | assumption | simp [go_sem]
            have x1 : W0.cell? ⟨G, 1, none⟩ = some (.string (Wb.S x.code)) := by rw [hW0, ← hG]; first | assumption | simp [go_sem]
            have x2 : W0.cell? ⟨G, 2, none⟩ = some (.int .i64 x.cents) := by rw [hW0, ← hG]; first | assumption | simp [go_sem]
            have HC1 := Lib.hid (hc1.ext hx0)
            have HC2 := Lib.hid (hc2.ext hx0)
            rw [hG]
            clear hW0 hG hc1 hc2
            refine region_start (S := (fun w' => w'.cell? ⟨G, 0, none⟩ = some (.int .i64 x.part) ∧ w'.cell? ⟨G, 1, none⟩ = some (.string (Wb.S x.code)) ∧ w'.cell? ⟨G, 2, none⟩ = some (.int .i64 x.cents))) (n := 13) (l := #[false, false, false, false, false, false, false, false, false, false, false, false, false]) (by kernel_rfl) ⟨x0, x1, x2⟩ (by kernel_rfl) (by kernel_rfl) (fun hHeld => ?_)
            refine take_d (i := 1) (d := 46) (v := ?_) rfl rfl (by kernel_rfl) (by kernel_rfl) (by kernel_rfl) (fun _ _ _ h => h) (Or.inl ⟨by rfl, ?_⟩) (by assumption) ?_
            rotate_left
            · (intro w hSw; (try dsimp only at hSw); go_simp; (try with_reducible rfl))
            (try simp only [Act.put, List.setIfInBounds_toArray, List.set_cons_zero, List.set_cons_succ])
            refine take_d (i := 2) (d := 47) (v := ?_) rfl rfl (by kernel_rfl) (by kernel_rfl) (by kernel_rfl) (fun _ _ _ h => h) (Or.inl ⟨by rfl, ?_⟩) (by assumption) ?_
            rotate_left
            · (intro w hSw; (try dsimp only at hSw); go_simp; (try with_reducible rfl))
            (try simp only [Act.put, List.setIfInBounds_toArray, List.set_cons_zero, List.set_cons_succ])
            refine take_d (i := 3) (d := 48) (v := ?_) rfl rfl (by kernel_rfl) (by kernel_rfl) (by kernel_rfl) (fun _ _ _ h => h) (Or.inl ⟨by rfl, ?_⟩) (by assumption) ?_
            rotate_left
            · (intro w hSw; (try dsimp only at hSw); go_simp; (try with_reducible rfl))
            (try simp only [Act.put, List.setIfInBounds_toArray, List.set_cons_zero, List.set_cons_succ])
            refine take_d (i := 5) (d := 50) (v := ?_) rfl rfl (by kernel_rfl) (by kernel_rfl) (by kernel_rfl) (fun _ _ _ h => h) (Or.inl ⟨by rfl, ?_⟩) (by assumption) ?_
            rotate_left
            · (intro w hSw; (try dsimp only at hSw); go_simp; (try with_reducible rfl))
            (try simp only [Act.put, List.setIfInBounds_toArray, List.set_cons_zero, List.set_cons_succ])
            refine take_d (i := 8) (d := 53) (v := ?_) rfl rfl (by kernel_rfl) (by kernel_rfl) (by kernel_rfl) (fun _ _ _ h => h) (Or.inl ⟨by rfl, ?_⟩) (by assumption) ?_
            rotate_left
            · (intro w hSw; (try dsimp only at hSw); go_simp; (try with_reducible rfl))
            (try simp only [Act.put, List.setIfInBounds_toArray, List.set_cons_zero, List.set_cons_succ])
            refine take_d (i := 9) (d := 54) (v := ?_) rfl rfl (by kernel_rfl) (by kernel_rfl) (by kernel_rfl) (fun _ _ _ h => h) (Or.inl ⟨by rfl, ?_⟩) (by assumption) ?_
            rotate_left
            · (intro w hSw; (try dsimp only at hSw); go_simp; (try with_reducible rfl))
            (try simp only [Act.put, List.setIfInBounds_toArray, List.set_cons_zero, List.set_cons_succ])
            refine take_d (i := 10) (d := 55) (v := ?_) rfl rfl (by kernel_rfl) (by kernel_rfl) (by kernel_rfl) (fun _ _ _ h => h) (Or.inl ⟨by rfl, ?_⟩) (by assumption) ?_
            rotate_left
            · (intro w hSw; (try dsimp only at hSw); go_simp; (try with_reducible rfl))
            (try simp only [Act.put, List.setIfInBounds_toArray, List.set_cons_zero, List.set_cons_succ])
            refine wpAnyH_ready (rs := [0, 6]) (by kernel_rfl) (by simp) ?_
            refine AllReadyH.cons (o := _) rfl (fun K hK => ?_) ?_
            · go_simp
              refine atK fun w1 hw1 => ?_
              have hx1 : Wb.Ext W0 w1 := by rw [hw1]; exact Wb.Ext.alloc (.drew (.refl _)) _
              obtain ⟨gr, gre⟩ : ∃ g, W0.heap.size = g := ⟨_, rfl⟩
              have grh : gr < w1.heap.size := by rw [hw1, ← gre]; simp
              have HO1 := Lib.hid (show w1.ownsRow W0.heap.size 44 3 (.slice (some ⟨gr, 0, none⟩) 0 0) 0 [] by rw [hw1, ← gre]; exact own_empty (w := W0) (by first | exact Nat.le_refl _ | exact (.drew (.refl _)).size))
              (try rw [gre])
              clear hw1 gre
              refine hK.out _ _ ⟨hx1.keep x0, hx1.keep x1, hx1.keep x2⟩ (fun hHeld => ?_)
              clear hK K
              (try simp only [List.setIfInBounds_toArray, List.set_cons_zero])
              refine wpAnyH_ready (rs := [4, 6]) (by kernel_rfl) (by simp) ?_
              refine AllReadyH.cons (o := _) rfl (fun K hK => ?_) ?_
              · obtain ⟨hi, hz0, hz1, hz2⟩ := HIN.out
                refine Wb.step_append_row (by rfl) _ _ _ (by rfl) W0.heap.size 44 i0 (.agg #[.int .i64 0, .string "".toUTF8, .int .i64 0]) 3 32 Try.underlying22 hi hz0 hz1 hz2 (by rfl) (by decide) _ (0) ([]) (by rfl) (HO1.out) _ (by rfl) (k) (lnvs (l.take k)) (HC1.out.ext hx1) (lnv_one _) (by unfold maxLen; omega) (by omega) (Below.size (show Wb.Ext W0 w1 from hx1)) ?_
                intro v2 w2 ho2 hg2 hat2
                obtain ⟨N2, hN2⟩ : ∃ n, n = 0 + (k) := ⟨_, rfl⟩
                rw [← hN2] at ho2
                have HN2 := Lib.hid hN2
                have hNb2 : N2 ≤ 0 + (k) := Nat.le_of_eq hN2
                clear hN2
                have HO2 := Lib.hid ho2
                have hx2 : Wb.Ext W0 w2 := Wb.Ext.grown hx1 hg2 (fun q hq => (HO1.out.lt q hq).1)
                obtain ⟨ra2, rc2, rfl⟩ := row_shape3 ho2
                replace grh : gr < w2.heap.size := Nat.lt_of_lt_of_le grh hg2.size
                clear hi hz0 hz1 hz2 ho2 hg2 hat2
                refine hK.out _ _ ⟨hx2.keep x0, hx2.keep x1, hx2.keep x2⟩ (fun hHeld => ?_)
                clear hK K
                (try simp only [Act.put, List.setIfInBounds_toArray, List.set_cons_zero, List.set_cons_succ])
                refine wpAnyH_ready (rs := [6]) (by kernel_rfl) (by simp) ?_
                refine AllReadyH.cons (o := _) rfl (fun K hK => ?_) AllReadyH.nil
                go_simp
                refine atK fun w3 hw3 => ?_
                have hx3 : Wb.Ext W0 w3 := by rw [hw3]; exact Wb.Ext.alloc hx2 _
                have HO3r := Lib.hid (show w3.ownsRow W0.heap.size 44 3 _ _ _ by rw [hw3]; exact HO2.out.alloc _)
                have grp := grh
                replace grh : gr < w3.heap.size := Nat.lt_of_lt_of_le grh (by rw [hw3]; simp)
                obtain ⟨gx, gxe⟩ : ∃ g, w2.heap.size = g := ⟨_, rfl⟩
                have gxh : gx < w3.heap.size := by rw [hw3, ← gxe]; simp
                have negrgx : gr ≠ gx := by have := grp; omega
                have negxgr : gx ≠ gr := Ne.symm negrgx
                have HLx := Lib.hid (show Wb.SrcRow w3 3 (.slice (some ⟨gx, 0, none⟩) 1 1) 1 (lnvs [x]) by rw [hw3, ← gxe]; exact src_lit w2 _ rfl (lnvs [x]) _ _)
                (try rw [gxe])
                clear hw3 gxe
                refine hK.out _ _ ⟨hx3.keep x0, hx3.keep x1, hx3.keep x2⟩ (fun hHeld => ?_)
                clear hK K
                (try simp only [List.setIfInBounds_toArray, List.set_cons_zero, List.set_cons_succ])
                refine wpAnyH_ready (rs := [7]) (by kernel_rfl) (by simp) ?_
                refine AllReadyH.cons (o := _) rfl (fun K hK => ?_) AllReadyH.nil
                obtain ⟨hi, hz0, hz1, hz2⟩ := HIN.out
                refine Wb.step_append_row (by rfl) _ _ _ (by rfl) W0.heap.size 44 i0 (.agg #[.int .i64 0, .string "".toUTF8, .int .i64 0]) 3 32 Try.underlying22 hi hz0 hz1 hz2 (by rfl) (by decide) _ (N2) ([] ++ lnvs (l.take k)) (by rfl) (HO3r.out) _ (by rfl) (1) (lnvs [x]) (HLx.out) (lnv_one _) (by unfold maxLen; omega) (by omega) (Below.size (show Wb.Ext W0 w3 from hx3)) ?_
                intro v4 w4 ho4 hg4 hat4
                obtain ⟨N4, hN4⟩ : ∃ n, n = N2 + (1) := ⟨_, rfl⟩
                rw [← hN4] at ho4
                have HN4 := Lib.hid hN4
                have hNb4 : N4 ≤ N2 + (1) := Nat.le_of_eq hN4
                clear hN4
                have HO4 := Lib.hid ho4
                have hx4 : Wb.Ext W0 w4 := Wb.Ext.grown hx3 hg4 (fun q hq => (HO3r.out.lt q hq).1)
                obtain ⟨ra4, rc4, rfl⟩ := row_shape3 ho4
                replace grh : gr < w4.heap.size := Nat.lt_of_lt_of_le grh hg4.size
                replace gxh : gx < w4.heap.size := Nat.lt_of_lt_of_le gxh hg4.size
                clear hi hz0 hz1 hz2 ho4 hg4 hat4
                refine hK.out _ _ ⟨hx4.keep x0, hx4.keep x1, hx4.keep x2⟩ (fun hHeld => ?_)
                clear hK K
                (try simp only [Act.put, List.setIfInBounds_toArray, List.set_cons_zero, List.set_cons_succ])
                refine wpAnyH_ready (rs := [11]) (by kernel_rfl) (by simp) ?_
                refine AllReadyH.cons (o := _) rfl (fun K hK => ?_) AllReadyH.nil
                obtain ⟨hi, hz0, hz1, hz2⟩ := HIN.out
                refine Wb.step_append_row (by rfl) _ _ _ (by rfl) W0.heap.size 44 i0 (.agg #[.int .i64 0, .string "".toUTF8, .int .i64 0]) 3 32 Try.underlying22 hi hz0 hz1 hz2 (by rfl) (by decide) _ (N4) ([] ++ lnvs (l.take k) ++ lnvs [x]) (by rfl) (HO4.out) _ (by rfl) (l.length - k) (lnvs (l.drop k)) (HC2.out.ext hx4) (lnv_one _) (by unfold maxLen; omega) (by omega) (Below.size (show Wb.Ext W0 w4 from hx4)) ?_
                intro v5 w5 ho5 hg5 hat5
                obtain ⟨N5, hN5⟩ : ∃ n, n = N4 + (l.length - k) := ⟨_, rfl⟩
                rw [← hN5] at ho5
                have HN5 := Lib.hid hN5
                have hNb5 : N5 ≤ N4 + (l.length - k) := Nat.le_of_eq hN5
                clear hN5
                have HO5 := Lib.hid ho5
                have hx5 : Wb.Ext W0 w5 := Wb.Ext.grown hx4 hg5 (fun q hq => (HO4.out.lt q hq).1)
                obtain ⟨ra5, rc5, rfl⟩ := row_shape3 ho5
                replace grh : gr < w5.heap.size := Nat.lt_of_lt_of_le grh hg5.size
                replace gxh : gx < w5.heap.size := Nat.lt_of_lt_of_le gxh hg5.size
                clear hi hz0 hz1 hz2 ho5 hg5 hat5
                refine hK.out _ _ ⟨hx5.keep x0, hx5.keep x1, hx5.keep x2⟩ (fun hHeld => ?_)
                clear hK K
                (try simp only [Act.put, List.setIfInBounds_toArray, List.set_cons_zero, List.set_cons_succ])
                refine take_d (i := 12) (d := 4) (v := ?_) rfl rfl (by kernel_rfl) (by kernel_rfl) (by kernel_rfl) (fun _ _ _ h => h) (Or.inl ⟨by rfl, ?_⟩) (by assumption) ?_
                rotate_left
                · (intro w hSw; (try dsimp only at hSw); go_simp; (try with_reducible rfl))
                (try simp only [Act.put, List.setIfInBounds_toArray, List.set_cons_zero, List.set_cons_succ])
                refine wpAnyH_done (by kernel_rfl) ?_ _
                have HRES := Lib.hid (show LnR base w5 (.slice ra5 N5 rc5) (Wb.putL l x) by
                  refine LnR.mono (base := W0.heap.size) ?_ (Nat.le_trans hbase hx0.size)
                  unfold LnR
                  have h1 := HO5.out
                  rw [HPUT.out]
                  have h2 : (l.take k ++ x :: l.drop k).length = N5 := by rw [HN5.out, HN4.out, HN2.out]; first | (simp; done) | (simp; omega)
                  rw [h2]
                  have h3 : lnvs (l.take k ++ x :: l.drop k) = [] ++ lnvs (l.take k) ++ lnvs [x] ++ lnvs (l.drop k) := by simp [lnvs]
                  rw [h3]
                  exact h1)
                go_wp2
                go_ret
                exact ⟨.slice ra5 N5 rc5, by first | rfl | simp, HRES.out, hx0.trans hx5⟩
              refine AllReadyH.cons (o := _) rfl (fun K hK => ?_) ?_
              · go_simp
                refine atK fun w2 hw2 => ?_
                have hx2 : Wb.Ext W0 w2 := by rw [hw2]; exact Wb.Ext.alloc hx1 _
                have HO2r := Lib.hid (show w2.ownsRow W0.heap.size 44 3 _ _ _ by rw [hw2]; exact HO1.out.alloc _)
                have grp := grh
                replace grh : gr < w2.heap.size := Nat.lt_of_lt_of_le grh (by rw [hw2]; simp)
                obtain ⟨gx, gxe⟩ : ∃ g, w1.heap.size = g := ⟨_, rfl⟩
                have gxh : gx < w2.heap.size := by rw [hw2, ← gxe]; simp
                have negrgx : gr ≠ gx := by have := grp; omega
                have negxgr : gx ≠ gr := Ne.symm negrgx
                have HLx := Lib.hid (show Wb.SrcRow w2 3 (.slice (some ⟨gx, 0, none⟩) 1 1) 1 (lnvs [x]) by rw [hw2, ← gxe]; exact src_lit w1 _ rfl (lnvs [x]) _ _)
                (try rw [gxe])
                clear hw2 gxe
                refine hK.out _ _ ⟨hx2.keep x0, hx2.keep x1, hx2.keep x2⟩ (fun hHeld => ?_)
                clear hK K
                (try simp only [List.setIfInBounds_toArray, List.set_cons_zero, List.set_cons_succ])
                refine wpAnyH_ready (rs := [4]) (by kernel_rfl) (by simp) ?_
                refine AllReadyH.cons (o := _) rfl (fun K hK => ?_) AllReadyH.nil
                obtain ⟨hi, hz0, hz1, hz2⟩ := HIN.out
                refine Wb.step_append_row (by rfl) _ _ _ (by rfl) W0.heap.size 44 i0 (.agg #[.int .i64 0, .string "".toUTF8, .int .i64 0]) 3 32 Try.underlying22 hi hz0 hz1 hz2 (by rfl) (by decide) _ (0) ([]) (by rfl) (HO2r.out) _ (by rfl) (k) (lnvs (l.take k)) (HC1.out.ext hx2) (lnv_one _) (by unfold maxLen; omega) (by omega) (Below.size (show Wb.Ext W0 w2 from hx2)) ?_
                intro v3 w3 ho3 hg3 hat3
                obtain ⟨N3, hN3⟩ : ∃ n, n = 0 + (k) := ⟨_, rfl⟩
                rw [← hN3] at ho3
                have HN3 := Lib.hid hN3
                have hNb3 : N3 ≤ 0 + (k) := Nat.le_of_eq hN3
                clear hN3
                have HO3 := Lib.hid ho3
                have hx3 : Wb.Ext W0 w3 := Wb.Ext.grown hx2 hg3 (fun q hq => (HO2r.out.lt q hq).1)
                replace HLx := Lib.hid (src_grown HLx.out hg3 (fun a m c e => by cases e; intro hq; injection hq with hq; exact negrgx hq))
                obtain ⟨ra3, rc3, rfl⟩ := row_shape3 ho3
                replace grh : gr < w3.heap.size := Nat.lt_of_lt_of_le grh hg3.size
                replace gxh : gx < w3.heap.size := Nat.lt_of_lt_of_le gxh hg3.size
                clear hi hz0 hz1 hz2 ho3 hg3 hat3
                refine hK.out _ _ ⟨hx3.keep x0, hx3.keep x1, hx3.keep x2⟩ (fun hHeld => ?_)
                clear hK K
                (try simp only [Act.put, List.setIfInBounds_toArray, List.set_cons_zero, List.set_cons_succ])
                refine wpAnyH_ready (rs := [7]) (by kernel_rfl) (by simp) ?_
                refine AllReadyH.cons (o := _) rfl (fun K hK => ?_) AllReadyH.nil
                obtain ⟨hi, hz0, hz1, hz2⟩ := HIN.out
                refine Wb.step_append_row (by rfl) _ _ _ (by rfl) W0.heap.size 44 i0 (.agg #[.int .i64 0, .string "".toUTF8, .int .i64 0]) 3 32 Try.underlying22 hi hz0 hz1 hz2 (by rfl) (by decide) _ (N3) ([] ++ lnvs (l.take k)) (by rfl) (HO3.out) _ (by rfl) (1) (lnvs [x]) (HLx.out) (lnv_one _) (by unfold maxLen; omega) (by omega) (Below.size (show Wb.Ext W0 w3 from hx3)) ?_
                intro v4 w4 ho4 hg4 hat4
                obtain ⟨N4, hN4⟩ : ∃ n, n = N3 + (1) := ⟨_, rfl⟩
                rw [← hN4] at ho4
                have HN4 := Lib.hid hN4
                have hNb4 : N4 ≤ N3 + (1) := Nat.le_of_eq hN4
                clear hN4
                have HO4 := Lib.hid ho4
                have hx4 : Wb.Ext W0 w4 := Wb.Ext.grown hx3 hg4 (fun q hq => (HO3.out.lt q hq).1)
                obtain ⟨ra4, rc4, rfl⟩ := row_shape3 ho4
                replace grh : gr < w4.heap.size := Nat.lt_of_lt_of_le grh hg4.size
                replace gxh : gx < w4.heap.size := Nat.lt_of_lt_of_le gxh hg4.size
                clear hi hz0 hz1 hz2 ho4 hg4 hat4
                refine hK.out _ _ ⟨hx4.keep x0, hx4.keep x1, hx4.keep x2⟩ (fun hHeld => ?_)
                clear hK K
                (try simp only [Act.put, List.setIfInBounds_toArray, List.set_cons_zero, List.set_cons_succ])
                refine wpAnyH_ready (rs := [11]) (by kernel_rfl) (by simp) ?_
                refine AllReadyH.cons (o := _) rfl (fun K hK => ?_) AllReadyH.nil
                obtain ⟨hi, hz0, hz1, hz2⟩ := HIN.out
                refine Wb.step_append_row (by rfl) _ _ _ (by rfl) W0.heap.size 44 i0 (.agg #[.int .i64 0, .string "".toUTF8, .int .i64 0]) 3 32 Try.underlying22 hi hz0 hz1 hz2 (by rfl) (by decide) _ (N4) ([] ++ lnvs (l.take k) ++ lnvs [x]) (by rfl) (HO4.out) _ (by rfl) (l.length - k) (lnvs (l.drop k)) (HC2.out.ext hx4) (lnv_one _) (by unfold maxLen; omega) (by omega) (Below.size (show Wb.Ext W0 w4 from hx4)) ?_
                intro v5 w5 ho5 hg5 hat5
                obtain ⟨N5, hN5⟩ : ∃ n, n = N4 + (l.length - k) := ⟨_, rfl⟩
                rw [← hN5] at ho5
                have HN5 := Lib.hid hN5
                have hNb5 : N5 ≤ N4 + (l.length - k) := Nat.le_of_eq hN5
                clear hN5
                have HO5 := Lib.hid ho5
                have hx5 : Wb.Ext W0 w5 := Wb.Ext.grown hx4 hg5 (fun q hq => (HO4.out.lt q hq).1)
                obtain ⟨ra5, rc5, rfl⟩ := row_shape3 ho5
                replace grh : gr < w5.heap.size := Nat.lt_of_lt_of_le grh hg5.size
                replace gxh : gx < w5.heap.size := Nat.lt_of_lt_of_le gxh hg5.size
                clear hi hz0 hz1 hz2 ho5 hg5 hat5
                refine hK.out _ _ ⟨hx5.keep x0, hx5.keep x1, hx5.keep x2⟩ (fun hHeld => ?_)
                clear hK K
                (try simp only [Act.put, List.setIfInBounds_toArray, List.set_cons_zero, List.set_cons_succ])
                refine take_d (i := 12) (d := 4) (v := ?_) rfl rfl (by kernel_rfl) (by kernel_rfl) (by kernel_rfl) (fun _ _ _ h => h) (Or.inl ⟨by rfl, ?_⟩) (by assumption) ?_
                rotate_left
                · (intro w hSw; (try dsimp only at hSw); go_simp; (try with_reducible rfl))
                (try simp only [Act.put, List.setIfInBounds_toArray, List.set_cons_zero, List.set_cons_succ])
                refine wpAnyH_done (by kernel_rfl) ?_ _
                have HRES := Lib.hid (show LnR base w5 (.slice ra5 N5 rc5) (Wb.putL l x) by
                  refine LnR.mono (base := W0.heap.size) ?_ (Nat.le_trans hbase hx0.size)
                  unfold LnR
                  have h1 := HO5.out
                  rw [HPUT.out]
                  have h2 : (l.take k ++ x :: l.drop k).length = N5 := by rw [HN5.out, HN4.out, HN3.out]; first | (simp; done) | (simp; omega)
                  rw [h2]
                  have h3 : lnvs (l.take k ++ x :: l.drop k) = [] ++ lnvs (l.take k) ++ lnvs [x] ++ lnvs (l.drop k) := by simp [lnvs]
                  rw [h3]
                  exact h1)
                go_wp2
                go_ret
                exact ⟨.slice ra5 N5 rc5, by first | rfl | simp, HRES.out, hx0.trans hx5⟩
              exact AllReadyH.nil
            refine AllReadyH.cons (o := _) rfl (fun K hK => ?_) ?_
            · go_simp
              refine atK fun w1 hw1 => ?_
              have hx1 : Wb.Ext W0 w1 := by rw [hw1]; exact Wb.Ext.alloc (.drew (.refl _)) _
              obtain ⟨gx, gxe⟩ : ∃ g, W0.heap.size = g := ⟨_, rfl⟩
              have gxh : gx < w1.heap.size := by rw [hw1, ← gxe]; simp
              have HLx := Lib.hid (show Wb.SrcRow w1 3 (.slice (some ⟨gx, 0, none⟩) 1 1) 1 (lnvs [x]) by rw [hw1, ← gxe]; exact src_lit W0 _ rfl (lnvs [x]) _ _)
              (try rw [gxe])
              clear hw1 gxe
              refine hK.out _ _ ⟨hx1.keep x0, hx1.keep x1, hx1.keep x2⟩ (fun hHeld => ?_)
              clear hK K
              (try simp only [List.setIfInBounds_toArray, List.set_cons_zero, List.set_cons_succ])
              refine wpAnyH_ready (rs := [0]) (by kernel_rfl) (by simp) ?_
              refine AllReadyH.cons (o := _) rfl (fun K hK => ?_) AllReadyH.nil
              go_simp
              refine atK fun w2 hw2 => ?_
              have hx2 : Wb.Ext W0 w2 := by rw [hw2]; exact Wb.Ext.alloc hx1 _
              replace HLx := Lib.hid (HLx.out.ext (show Wb.Ext w1 w2 by rw [hw2]; exact Wb.Ext.alloc (.refl _) _))
              have gxp := gxh
              replace gxh : gx < w2.heap.size := Nat.lt_of_lt_of_le gxh (by rw [hw2]; simp)
              obtain ⟨gr, gre⟩ : ∃ g, w1.heap.size = g := ⟨_, rfl⟩
              have grh : gr < w2.heap.size := by rw [hw2, ← gre]; simp
              have negxgr : gx ≠ gr := by have := gxp; omega
              have negrgx : gr ≠ gx := Ne.symm negxgr
              have HO2 := Lib.hid (show w2.ownsRow W0.heap.size 44 3 (.slice (some ⟨gr, 0, none⟩) 0 0) 0 [] by rw [hw2, ← gre]; exact own_empty (w := w1) (by first | exact Nat.le_refl _ | exact hx1.size))
              (try rw [gre])
              clear hw2 gre
              refine hK.out _ _ ⟨hx2.keep x0, hx2.keep x1, hx2.keep x2⟩ (fun hHeld => ?_)
              clear hK K
              (try simp only [List.setIfInBounds_toArray, List.set_cons_zero])
              refine wpAnyH_ready (rs := [4]) (by kernel_rfl) (by simp) ?_
              refine AllReadyH.cons (o := _) rfl (fun K hK => ?_) AllReadyH.nil
              obtain ⟨hi, hz0, hz1, hz2⟩ := HIN.out
              refine Wb.step_append_row (by rfl) _ _ _ (by rfl) W0.heap.size 44 i0 (.agg #[.int .i64 0, .string "".toUTF8, .int .i64 0]) 3 32 Try.underlying22 hi hz0 hz1 hz2 (by rfl) (by decide) _ (0) ([]) (by rfl) (HO2.out) _ (by rfl) (k) (lnvs (l.take k)) (HC1.out.ext hx2) (lnv_one _) (by unfold maxLen; omega) (by omega) (Below.size (show Wb.Ext W0 w2 from hx2)) ?_
              intro v3 w3 ho3 hg3 hat3
              obtain ⟨N3, hN3⟩ : ∃ n, n = 0 + (k) := ⟨_, rfl⟩
              rw [← hN3] at ho3
              have HN3 := Lib.hid hN3
              have hNb3 : N3 ≤ 0 + (k) := Nat.le_of_eq hN3
              clear hN3
              have HO3 := Lib.hid ho3
              have hx3 : Wb.Ext W0 w3 := Wb.Ext.grown hx2 hg3 (fun q hq => (HO2.out.lt q hq).1)
              replace HLx := Lib.hid (src_grown HLx.out hg3 (fun a m c e => by cases e; intro hq; injection hq with hq; exact negrgx hq))
              obtain ⟨ra3, rc3, rfl⟩ := row_shape3 ho3
              replace gxh : gx < w3.heap.size := Nat.lt_of_lt_of_le gxh hg3.size
              replace grh : gr < w3.heap.size := Nat.lt_of_lt_of_le grh hg3.size
              clear hi hz0 hz1 hz2 ho3 hg3 hat3
              refine hK.out _ _ ⟨hx3.keep x0, hx3.keep x1, hx3.keep x2⟩ (fun hHeld => ?_)
              clear hK K
              (try simp only [Act.put, List.setIfInBounds_toArray, List.set_cons_zero, List.set_cons_succ])
              refine wpAnyH_ready (rs := [7]) (by kernel_rfl) (by simp) ?_
              refine AllReadyH.cons (o := _) rfl (fun K hK => ?_) AllReadyH.nil
              obtain ⟨hi, hz0, hz1, hz2⟩ := HIN.out
              refine Wb.step_append_row (by rfl) _ _ _ (by rfl) W0.heap.size 44 i0 (.agg #[.int .i64 0, .string "".toUTF8, .int .i64 0]) 3 32 Try.underlying22 hi hz0 hz1 hz2 (by rfl) (by decide) _ (N3) ([] ++ lnvs (l.take k)) (by rfl) (HO3.out) _ (by rfl) (1) (lnvs [x]) (HLx.out) (lnv_one _) (by unfold maxLen; omega) (by omega) (Below.size (show Wb.Ext W0 w3 from hx3)) ?_
              intro v4 w4 ho4 hg4 hat4
              obtain ⟨N4, hN4⟩ : ∃ n, n = N3 + (1) := ⟨_, rfl⟩
              rw [← hN4] at ho4
              have HN4 := Lib.hid hN4
              have hNb4 : N4 ≤ N3 + (1) := Nat.le_of_eq hN4
              clear hN4
              have HO4 := Lib.hid ho4
              have hx4 : Wb.Ext W0 w4 := Wb.Ext.grown hx3 hg4 (fun q hq => (HO3.out.lt q hq).1)
              obtain ⟨ra4, rc4, rfl⟩ := row_shape3 ho4
              replace gxh : gx < w4.heap.size := Nat.lt_of_lt_of_le gxh hg4.size
              replace grh : gr < w4.heap.size := Nat.lt_of_lt_of_le grh hg4.size
              clear hi hz0 hz1 hz2 ho4 hg4 hat4
              refine hK.out _ _ ⟨hx4.keep x0, hx4.keep x1, hx4.keep x2⟩ (fun hHeld => ?_)
              clear hK K
              (try simp only [Act.put, List.setIfInBounds_toArray, List.set_cons_zero, List.set_cons_succ])
              refine wpAnyH_ready (rs := [11]) (by kernel_rfl) (by simp) ?_
              refine AllReadyH.cons (o := _) rfl (fun K hK => ?_) AllReadyH.nil
              obtain ⟨hi, hz0, hz1, hz2⟩ := HIN.out
              refine Wb.step_append_row (by rfl) _ _ _ (by rfl) W0.heap.size 44 i0 (.agg #[.int .i64 0, .string "".toUTF8, .int .i64 0]) 3 32 Try.underlying22 hi hz0 hz1 hz2 (by rfl) (by decide) _ (N4) ([] ++ lnvs (l.take k) ++ lnvs [x]) (by rfl) (HO4.out) _ (by rfl) (l.length - k) (lnvs (l.drop k)) (HC2.out.ext hx4) (lnv_one _) (by unfold maxLen; omega) (by omega) (Below.size (show Wb.Ext W0 w4 from hx4)) ?_
              intro v5 w5 ho5 hg5 hat5
              obtain ⟨N5, hN5⟩ : ∃ n, n = N4 + (l.length - k) := ⟨_, rfl⟩
              rw [← hN5] at ho5
              have HN5 := Lib.hid hN5
              have hNb5 : N5 ≤ N4 + (l.length - k) := Nat.le_of_eq hN5
              clear hN5
              have HO5 := Lib.hid ho5
              have hx5 : Wb.Ext W0 w5 := Wb.Ext.grown hx4 hg5 (fun q hq => (HO4.out.lt q hq).1)
              obtain ⟨ra5, rc5, rfl⟩ := row_shape3 ho5
              replace gxh : gx < w5.heap.size := Nat.lt_of_lt_of_le gxh hg5.size
              replace grh : gr < w5.heap.size := Nat.lt_of_lt_of_le grh hg5.size
              clear hi hz0 hz1 hz2 ho5 hg5 hat5
              refine hK.out _ _ ⟨hx5.keep x0, hx5.keep x1, hx5.keep x2⟩ (fun hHeld => ?_)
              clear hK K
              (try simp only [Act.put, List.setIfInBounds_toArray, List.set_cons_zero, List.set_cons_succ])
              refine take_d (i := 12) (d := 4) (v := ?_) rfl rfl (by kernel_rfl) (by kernel_rfl) (by kernel_rfl) (fun _ _ _ h => h) (Or.inl ⟨by rfl, ?_⟩) (by assumption) ?_
              rotate_left
              · (intro w hSw; (try dsimp only at hSw); go_simp; (try with_reducible rfl))
              (try simp only [Act.put, List.setIfInBounds_toArray, List.set_cons_zero, List.set_cons_succ])
              refine wpAnyH_done (by kernel_rfl) ?_ _
              have HRES := Lib.hid (show LnR base w5 (.slice ra5 N5 rc5) (Wb.putL l x) by
                refine LnR.mono (base := W0.heap.size) ?_ (Nat.le_trans hbase hx0.size)
                unfold LnR
                have h1 := HO5.out
                rw [HPUT.out]
                have h2 : (l.take k ++ x :: l.drop k).length = N5 := by rw [HN5.out, HN4.out, HN3.out]; first | (simp; done) | (simp; omega)
                rw [h2]
                have h3 : lnvs (l.take k ++ x :: l.drop k) = [] ++ lnvs (l.take k) ++ lnvs [x] ++ lnvs (l.drop k) := by simp [lnvs]
                rw [h3]
                exact h1)
              go_wp2
              go_ret
              exact ⟨.slice ra5 N5 rc5, by first | rfl | simp, HRES.out, hx0.trans hx5⟩
            exact AllReadyH.nil
          · have d1 : (y.part == x.part) = false := by simpa using he1
            clear he he1
            go_wp2_with fail
            go_quiet (fail)
            go_wp2_with fail
            obtain ⟨V1, V2, hs1, hc1, hs2, hc2⟩ := lines_cut HV.out hk
            go_upto_region 6 with (fail)
            refine Wb.wp_at fun W0 hW0 => ?_
            obtain ⟨G, hG⟩ : ∃ G, w.heap.size = G := ⟨_, rfl⟩
            have hx0 : Wb.Ext w W0 := by rw [hW0]; first | exact hext | (repeat' (first | (with_reducible assumption) | (with_reducible exact Wb.Ext.refl _) | (with_reducible refine Wb.Ext.drew ?_) | (with_reducible refine Wb.Ext.drewN ?_ _) | (with_reducible refine Wb.Ext.alloc ?_ _) | (with_reducible refine Wb.Ext.trans ?_ (by assumption))))
            have x0 : W0.cell? ⟨G, 0, none⟩ = some (.int .i64 x.part) := by rw [hW0, ← hG]; first | assumption | simp [go_sem]
            have x1 : W0.cell? ⟨G, 1, none⟩ = some (.string (Wb.S x.code)) := by rw [hW0, ← hG]; first | assumption | simp [go_sem]
            have x2 : W0.cell? ⟨G, 2, none⟩ = some (.int .i64 x.cents) := by rw [hW0, ← hG]; first | assumption | simp [go_sem]
            have HC1 := Lib.hid (hc1.ext hx0)
            have HC2 := Lib.hid (hc2.ext hx0)
            rw [hG]
            clear hW0 hG hc1 hc2
            refine region_start (S := (fun w' => w'.cell? ⟨G, 0, none⟩ = some (.int .i64 x.part) ∧ w'.cell? ⟨G, 1, none⟩ = some (.string (Wb.S x.code)) ∧ w'.cell? ⟨G, 2, none⟩ = some (.int .i64 x.cents))) (n := 13) (l := #[false, false, false, false, false, false, false, false, false, false, false, false, false]) (by kernel_rfl) ⟨x0, x1, x2⟩ (by kernel_rfl) (by kernel_rfl) (fun hHeld => ?_)
            refine take_d (i := 1) (d := 46) (v := ?_) rfl rfl (by kernel_rfl) (by kernel_rfl) (by kernel_rfl) (fun _ _ _ h => h) (Or.inl ⟨by rfl, ?_⟩) (by assumption) ?_
            rotate_left
            · (intro w hSw; (try dsimp only at hSw); go_simp; (try with_reducible rfl))
            (try simp only [Act.put, List.setIfInBounds_toArray, List.set_cons_zero, List.set_cons_succ])
            refine take_d (i := 2) (d := 47) (v := ?_) rfl rfl (by kernel_rfl) (by kernel_rfl) (by kernel_rfl) (fun _ _ _ h => h) (Or.inl ⟨by rfl, ?_⟩) (by assumption) ?_
            rotate_left
            · (intro w hSw; (try dsimp only at hSw); go_simp; (try with_reducible rfl))
            (try simp only [Act.put, List.setIfInBounds_toArray, List.set_cons_zero, List.set_cons_succ])
            refine take_d (i := 3) (d := 48) (v := ?_) rfl rfl (by kernel_rfl) (by kernel_rfl) (by kernel_rfl) (fun _ _ _ h => h) (Or.inl ⟨by rfl, ?_⟩) (by assumption) ?_
            rotate_left
            · (intro w hSw; (try dsimp only at hSw); go_simp; (try with_reducible rfl))
            (try simp only [Act.put, List.setIfInBounds_toArray, List.set_cons_zero, List.set_cons_succ])
            refine take_d (i := 5) (d := 50) (v := ?_) rfl rfl (by kernel_rfl) (by kernel_rfl) (by kernel_rfl) (fun _ _ _ h => h) (Or.inl ⟨by rfl, ?_⟩) (by assumption) ?_
            rotate_left
            · (intro w hSw; (try dsimp only at hSw); go_simp; (try with_reducible rfl))
            (try simp only [Act.put, List.setIfInBounds_toArray, List.set_cons_zero, List.set_cons_succ])
            refine take_d (i := 8) (d := 53) (v := ?_) rfl rfl (by kernel_rfl) (by kernel_rfl) (by kernel_rfl) (fun _ _ _ h => h) (Or.inl ⟨by rfl, ?_⟩) (by assumption) ?_
            rotate_left
            · (intro w hSw; (try dsimp only at hSw); go_simp; (try with_reducible rfl))
            (try simp only [Act.put, List.setIfInBounds_toArray, List.set_cons_zero, List.set_cons_succ])
            refine take_d (i := 9) (d := 54) (v := ?_) rfl rfl (by kernel_rfl) (by kernel_rfl) (by kernel_rfl) (fun _ _ _ h => h) (Or.inl ⟨by rfl, ?_⟩) (by assumption) ?_
            rotate_left
            · (intro w hSw; (try dsimp only at hSw); go_simp; (try with_reducible rfl))
            (try simp only [Act.put, List.setIfInBounds_toArray, List.set_cons_zero, List.set_cons_succ])
            refine take_d (i := 10) (d := 55) (v := ?_) rfl rfl (by kernel_rfl) (by kernel_rfl) (by kernel_rfl) (fun _ _ _ h => h) (Or.inl ⟨by rfl, ?_⟩) (by assumption) ?_
            rotate_left
            · (intro w hSw; (try dsimp only at hSw); go_simp; (try with_reducible rfl))
            (try simp only [Act.put, List.setIfInBounds_toArray, List.set_cons_zero, List.set_cons_succ])
            refine wpAnyH_ready (rs := [0, 6]) (by kernel_rfl) (by simp) ?_
            refine AllReadyH.cons (o := _) rfl (fun K hK => ?_) ?_
            · go_simp
              refine atK fun w1 hw1 => ?_
              have hx1 : Wb.Ext W0 w1 := by rw [hw1]; exact Wb.Ext.alloc (.drew (.refl _)) _
              obtain ⟨gr, gre⟩ : ∃ g, W0.heap.size = g := ⟨_, rfl⟩
              have grh : gr < w1.heap.size := by rw [hw1, ← gre]; simp
              have HO1 := Lib.hid (show w1.ownsRow W0.heap.size 44 3 (.slice (some ⟨gr, 0, none⟩) 0 0) 0 [] by rw [hw1, ← gre]; exact own_empty (w := W0) (by first | exact Nat.le_refl _ | exact (.drew (.refl _)).size))
              (try rw [gre])
              clear hw1 gre
              refine hK.out _ _ ⟨hx1.keep x0, hx1.keep x1, hx1.keep x2⟩ (fun hHeld => ?_)
              clear hK K
              (try simp only [List.setIfInBounds_toArray, List.set_cons_zero])
              refine wpAnyH_ready (rs := [4, 6]) (by kernel_rfl) (by simp) ?_
              refine AllReadyH.cons (o := _) rfl (fun K hK => ?_) ?_
              · obtain ⟨hi, hz0, hz1, hz2⟩ := HIN.out
                refine Wb.step_append_row (by rfl) _ _ _ (by rfl) W0.heap.size 44 i0 (.agg #[.int .i64 0, .string "".toUTF8, .int .i64 0]) 3 32 Try.underlying22 hi hz0 hz1 hz2 (by rfl) (by decide) _ (0) ([]) (by rfl) (HO1.out) _ (by rfl) (k) (lnvs (l.take k)) (HC1.out.ext hx1) (lnv_one _) (by unfold maxLen; omega) (by omega) (Below.size (show Wb.Ext W0 w1 from hx1)) ?_
                intro v2 w2 ho2 hg2 hat2
                obtain ⟨N2, hN2⟩ : ∃ n, n = 0 + (k) := ⟨_, rfl⟩
                rw [← hN2] at ho2
                have HN2 := Lib.hid hN2
                have hNb2 : N2 ≤ 0 + (k) := Nat.le_of_eq hN2
                clear hN2
                have HO2 := Lib.hid ho2
                have hx2 : Wb.Ext W0 w2 := Wb.Ext.grown hx1 hg2 (fun q hq => (HO1.out.lt q hq).1)
                obtain ⟨ra2, rc2, rfl⟩ := row_shape3 ho2
                replace grh : gr < w2.heap.size := Nat.lt_of_lt_of_le grh hg2.size
                clear hi hz0 hz1 hz2 ho2 hg2 hat2
                refine hK.out _ _ ⟨hx2.keep x0, hx2.keep x1, hx2.keep x2⟩ (fun hHeld => ?_)
                clear hK K
                (try simp only [Act.put, List.setIfInBounds_toArray, List.set_cons_zero, List.set_cons_succ])
                refine wpAnyH_ready (rs := [6]) (by kernel_rfl) (by simp) ?_
                refine AllReadyH.cons (o := _) rfl (fun K hK => ?_) AllReadyH.nil
                go_simp
                refine atK fun w3 hw3 => ?_
                have hx3 : Wb.Ext W0 w3 := by rw [hw3]; exact Wb.Ext.alloc hx2 _
                have HO3r := Lib.hid (show w3.ownsRow W0.heap.size 44 3 _ _ _ by rw [hw3]; exact HO2.out.alloc _)
                have grp := grh
                replace grh : gr < w3.heap.size := Nat.lt_of_lt_of_le grh (by rw [hw3]; simp)
                obtain ⟨gx, gxe⟩ : ∃ g, w2.heap.size = g := ⟨_, rfl⟩
                have gxh : gx < w3.heap.size := by rw [hw3, ← gxe]; simp
                have negrgx : gr ≠ gx := by have := grp; omega
                have negxgr : gx ≠ gr := Ne.symm negrgx
                have HLx := Lib.hid (show Wb.SrcRow w3 3 (.slice (some ⟨gx, 0, none⟩) 1 1) 1 (lnvs [x]) by rw [hw3, ← gxe]; exact src_lit w2 _ rfl (lnvs [x]) _ _)
                (try rw [gxe])
                clear hw3 gxe
                refine hK.out _ _ ⟨hx3.keep x0, hx3.keep x1, hx3.keep x2⟩ (fun hHeld => ?_)
                clear hK K
                (try simp only [List.setIfInBounds_toArray, List.set_cons_zero, List.set_cons_succ])
                refine wpAnyH_ready (rs := [7]) (by kernel_rfl) (by simp) ?_
                refine AllReadyH.cons (o := _) rfl (fun K hK => ?_) AllReadyH.nil
                obtain ⟨hi, hz0, hz1, hz2⟩ := HIN.out
                refine Wb.step_append_row (by rfl) _ _ _ (by rfl) W0.heap.size 44 i0 (.agg #[.int .i64 0, .string "".toUTF8, .int .i64 0]) 3 32 Try.underlying22 hi hz0 hz1 hz2 (by rfl) (by decide) _ (N2) ([] ++ lnvs (l.take k)) (by rfl) (HO3r.out) _ (by rfl) (1) (lnvs [x]) (HLx.out) (lnv_one _) (by unfold maxLen; omega) (by omega) (Below.size (show Wb.Ext W0 w3 from hx3)) ?_
                intro v4 w4 ho4 hg4 hat4
                obtain ⟨N4, hN4⟩ : ∃ n, n = N2 + (1) := ⟨_, rfl⟩
                rw [← hN4] at ho4
                have HN4 := Lib.hid hN4
                have hNb4 : N4 ≤ N2 + (1) := Nat.le_of_eq hN4
                clear hN4
                have HO4 := Lib.hid ho4
                have hx4 : Wb.Ext W0 w4 := Wb.Ext.grown hx3 hg4 (fun q hq => (HO3r.out.lt q hq).1)
                obtain ⟨ra4, rc4, rfl⟩ := row_shape3 ho4
                replace grh : gr < w4.heap.size := Nat.lt_of_lt_of_le grh hg4.size
                replace gxh : gx < w4.heap.size := Nat.lt_of_lt_of_le gxh hg4.size
                clear hi hz0 hz1 hz2 ho4 hg4 hat4
                refine hK.out _ _ ⟨hx4.keep x0, hx4.keep x1, hx4.keep x2⟩ (fun hHeld => ?_)
                clear hK K
                (try simp only [Act.put, List.setIfInBounds_toArray, List.set_cons_zero, List.set_cons_succ])
                refine wpAnyH_ready (rs := [11]) (by kernel_rfl) (by simp) ?_
                refine AllReadyH.cons (o := _) rfl (fun K hK => ?_) AllReadyH.nil
                obtain ⟨hi, hz0, hz1, hz2⟩ := HIN.out
                refine Wb.step_append_row (by rfl) _ _ _ (by rfl) W0.heap.size 44 i0 (.agg #[.int .i64 0, .string "".toUTF8, .int .i64 0]) 3 32 Try.underlying22 hi hz0 hz1 hz2 (by rfl) (by decide) _ (N4) ([] ++ lnvs (l.take k) ++ lnvs [x]) (by rfl) (HO4.out) _ (by rfl) (l.length - k) (lnvs (l.drop k)) (HC2.out.ext hx4) (lnv_one _) (by unfold maxLen; omega) (by omega) (Below.size (show Wb.Ext W0 w4 from hx4)) ?_
                intro v5 w5 ho5 hg5 hat5
                obtain ⟨N5, hN5⟩ : ∃ n, n = N4 + (l.length - k) := ⟨_, rfl⟩
                rw [← hN5] at ho5
                have HN5 := Lib.hid hN5
                have hNb5 : N5 ≤ N4 + (l.length - k) := Nat.le_of_eq hN5
                clear hN5
                have HO5 := Lib.hid ho5
                have hx5 : Wb.Ext W0 w5 := Wb.Ext.grown hx4 hg5 (fun q hq => (HO4.out.lt q hq).1)
                obtain ⟨ra5, rc5, rfl⟩ := row_shape3 ho5
                replace grh : gr < w5.heap.size := Nat.lt_of_lt_of_le grh hg5.size
                replace gxh : gx < w5.heap.size := Nat.lt_of_lt_of_le gxh hg5.size
                clear hi hz0 hz1 hz2 ho5 hg5 hat5
                refine hK.out _ _ ⟨hx5.keep x0, hx5.keep x1, hx5.keep x2⟩ (fun hHeld => ?_)
                clear hK K
                (try simp only [Act.put, List.setIfInBounds_toArray, List.set_cons_zero, List.set_cons_succ])
                refine take_d (i := 12) (d := 4) (v := ?_) rfl rfl (by kernel_rfl) (by kernel_rfl) (by kernel_rfl) (fun _ _ _ h => h) (Or.inl ⟨by rfl, ?_⟩) (by assumption) ?_
                rotate_left
                · (intro w hSw; (try dsimp only at hSw); go_simp; (try with_reducible rfl))
                (try simp only [Act.put, List.setIfInBounds_toArray, List.set_cons_zero, List.set_cons_succ])
                refine wpAnyH_done (by kernel_rfl) ?_ _
                have HRES := Lib.hid (show LnR base w5 (.slice ra5 N5 rc5) (Wb.putL l x) by
                  refine LnR.mono (base := W0.heap.size) ?_ (Nat.le_trans hbase hx0.size)
                  unfold LnR
                  have h1 := HO5.out
                  rw [HPUT.out]
                  have h2 : (l.take k ++ x :: l.drop k).length = N5 := by rw [HN5.out, HN4.out, HN2.out]; first | (simp; done) | (simp; omega)
                  rw [h2]
                  have h3 : lnvs (l.take k ++ x :: l.drop k) = [] ++ lnvs (l.take k) ++ lnvs [x] ++ lnvs (l.drop k) := by simp [lnvs]
                  rw [h3]
                  exact h1)
                go_wp2
                go_ret
                exact ⟨.slice ra5 N5 rc5, by first | rfl | simp, HRES.out, hx0.trans hx5⟩
              refine AllReadyH.cons (o := _) rfl (fun K hK => ?_) ?_
              · go_simp
                refine atK fun w2 hw2 => ?_
                have hx2 : Wb.Ext W0 w2 := by rw [hw2]; exact Wb.Ext.alloc hx1 _
                have HO2r := Lib.hid (show w2.ownsRow W0.heap.size 44 3 _ _ _ by rw [hw2]; exact HO1.out.alloc _)
                have grp := grh
                replace grh : gr < w2.heap.size := Nat.lt_of_lt_of_le grh (by rw [hw2]; simp)
                obtain ⟨gx, gxe⟩ : ∃ g, w1.heap.size = g := ⟨_, rfl⟩
                have gxh : gx < w2.heap.size := by rw [hw2, ← gxe]; simp
                have negrgx : gr ≠ gx := by have := grp; omega
                have negxgr : gx ≠ gr := Ne.symm negrgx
                have HLx := Lib.hid (show Wb.SrcRow w2 3 (.slice (some ⟨gx, 0, none⟩) 1 1) 1 (lnvs [x]) by rw [hw2, ← gxe]; exact src_lit w1 _ rfl (lnvs [x]) _ _)
                (try rw [gxe])
                clear hw2 gxe
                refine hK.out _ _ ⟨hx2.keep x0, hx2.keep x1, hx2.keep x2⟩ (fun hHeld => ?_)
                clear hK K
                (try simp only [List.setIfInBounds_toArray, List.set_cons_zero, List.set_cons_succ])
                refine wpAnyH_ready (rs := [4]) (by kernel_rfl) (by simp) ?_
                refine AllReadyH.cons (o := _) rfl (fun K hK => ?_) AllReadyH.nil
                obtain ⟨hi, hz0, hz1, hz2⟩ := HIN.out
                refine Wb.step_append_row (by rfl) _ _ _ (by rfl) W0.heap.size 44 i0 (.agg #[.int .i64 0, .string "".toUTF8, .int .i64 0]) 3 32 Try.underlying22 hi hz0 hz1 hz2 (by rfl) (by decide) _ (0) ([]) (by rfl) (HO2r.out) _ (by rfl) (k) (lnvs (l.take k)) (HC1.out.ext hx2) (lnv_one _) (by unfold maxLen; omega) (by omega) (Below.size (show Wb.Ext W0 w2 from hx2)) ?_
                intro v3 w3 ho3 hg3 hat3
                obtain ⟨N3, hN3⟩ : ∃ n, n = 0 + (k) := ⟨_, rfl⟩
                rw [← hN3] at ho3
                have HN3 := Lib.hid hN3
                have hNb3 : N3 ≤ 0 + (k) := Nat.le_of_eq hN3
                clear hN3
                have HO3 := Lib.hid ho3
                have hx3 : Wb.Ext W0 w3 := Wb.Ext.grown hx2 hg3 (fun q hq => (HO2r.out.lt q hq).1)
                replace HLx := Lib.hid (src_grown HLx.out hg3 (fun a m c e => by cases e; intro hq; injection hq with hq; exact negrgx hq))
                obtain ⟨ra3, rc3, rfl⟩ := row_shape3 ho3
                replace grh : gr < w3.heap.size := Nat.lt_of_lt_of_le grh hg3.size
                replace gxh : gx < w3.heap.size := Nat.lt_of_lt_of_le gxh hg3.size
                clear hi hz0 hz1 hz2 ho3 hg3 hat3
                refine hK.out _ _ ⟨hx3.keep x0, hx3.keep x1, hx3.keep x2⟩ (fun hHeld => ?_)
                clear hK K
                (try simp only [Act.put, List.setIfInBounds_toArray, List.set_cons_zero, List.set_cons_succ])
                refine wpAnyH_ready (rs := [7]) (by kernel_rfl) (by simp) ?_
                refine AllReadyH.cons (o := _) rfl (fun K hK => ?_) AllReadyH.nil
                obtain ⟨hi, hz0, hz1, hz2⟩ := HIN.out
                refine Wb.step_append_row (by rfl) _ _ _ (by rfl) W0.heap.size 44 i0 (.agg #[.int .i64 0, .string "".toUTF8, .int .i64 0]) 3 32 Try.underlying22 hi hz0 hz1 hz2 (by rfl) (by decide) _ (N3) ([] ++ lnvs (l.take k)) (by rfl) (HO3.out) _ (by rfl) (1) (lnvs [x]) (HLx.out) (lnv_one _) (by unfold maxLen; omega) (by omega) (Below.size (show Wb.Ext W0 w3 from hx3)) ?_
                intro v4 w4 ho4 hg4 hat4
                obtain ⟨N4, hN4⟩ : ∃ n, n = N3 + (1) := ⟨_, rfl⟩
                rw [← hN4] at ho4
                have HN4 := Lib.hid hN4
                have hNb4 : N4 ≤ N3 + (1) := Nat.le_of_eq hN4
                clear hN4
                have HO4 := Lib.hid ho4
                have hx4 : Wb.Ext W0 w4 := Wb.Ext.grown hx3 hg4 (fun q hq => (HO3.out.lt q hq).1)
                obtain ⟨ra4, rc4, rfl⟩ := row_shape3 ho4
                replace grh : gr < w4.heap.size := Nat.lt_of_lt_of_le grh hg4.size
                replace gxh : gx < w4.heap.size := Nat.lt_of_lt_of_le gxh hg4.size
                clear hi hz0 hz1 hz2 ho4 hg4 hat4
                refine hK.out _ _ ⟨hx4.keep x0, hx4.keep x1, hx4.keep x2⟩ (fun hHeld => ?_)
                clear hK K
                (try simp only [Act.put, List.setIfInBounds_toArray, List.set_cons_zero, List.set_cons_succ])
                refine wpAnyH_ready (rs := [11]) (by kernel_rfl) (by simp) ?_
                refine AllReadyH.cons (o := _) rfl (fun K hK => ?_) AllReadyH.nil
                obtain ⟨hi, hz0, hz1, hz2⟩ := HIN.out
                refine Wb.step_append_row (by rfl) _ _ _ (by rfl) W0.heap.size 44 i0 (.agg #[.int .i64 0, .string "".toUTF8, .int .i64 0]) 3 32 Try.underlying22 hi hz0 hz1 hz2 (by rfl) (by decide) _ (N4) ([] ++ lnvs (l.take k) ++ lnvs [x]) (by rfl) (HO4.out) _ (by rfl) (l.length - k) (lnvs (l.drop k)) (HC2.out.ext hx4) (lnv_one _) (by unfold maxLen; omega) (by omega) (Below.size (show Wb.Ext W0 w4 from hx4)) ?_
                intro v5 w5 ho5 hg5 hat5
                obtain ⟨N5, hN5⟩ : ∃ n, n = N4 + (l.length - k) := ⟨_, rfl⟩
                rw [← hN5] at ho5
                have HN5 := Lib.hid hN5
                have hNb5 : N5 ≤ N4 + (l.length - k) := Nat.le_of_eq hN5
                clear hN5
                have HO5 := Lib.hid ho5
                have hx5 : Wb.Ext W0 w5 := Wb.Ext.grown hx4 hg5 (fun q hq => (HO4.out.lt q hq).1)
                obtain ⟨ra5, rc5, rfl⟩ := row_shape3 ho5
                replace grh : gr < w5.heap.size := Nat.lt_of_lt_of_le grh hg5.size
                replace gxh : gx < w5.heap.size := Nat.lt_of_lt_of_le gxh hg5.size
                clear hi hz0 hz1 hz2 ho5 hg5 hat5
                refine hK.out _ _ ⟨hx5.keep x0, hx5.keep x1, hx5.keep x2⟩ (fun hHeld => ?_)
                clear hK K
                (try simp only [Act.put, List.setIfInBounds_toArray, List.set_cons_zero, List.set_cons_succ])
                refine take_d (i := 12) (d := 4) (v := ?_) rfl rfl (by kernel_rfl) (by kernel_rfl) (by kernel_rfl) (fun _ _ _ h => h) (Or.inl ⟨by rfl, ?_⟩) (by assumption) ?_
                rotate_left
                · (intro w hSw; (try dsimp only at hSw); go_simp; (try with_reducible rfl))
                (try simp only [Act.put, List.setIfInBounds_toArray, List.set_cons_zero, List.set_cons_succ])
                refine wpAnyH_done (by kernel_rfl) ?_ _
                have HRES := Lib.hid (show LnR base w5 (.slice ra5 N5 rc5) (Wb.putL l x) by
                  refine LnR.mono (base := W0.heap.size) ?_ (Nat.le_trans hbase hx0.size)
                  unfold LnR
                  have h1 := HO5.out
                  rw [HPUT.out]
                  have h2 : (l.take k ++ x :: l.drop k).length = N5 := by rw [HN5.out, HN4.out, HN3.out]; first | (simp; done) | (simp; omega)
                  rw [h2]
                  have h3 : lnvs (l.take k ++ x :: l.drop k) = [] ++ lnvs (l.take k) ++ lnvs [x] ++ lnvs (l.drop k) := by simp [lnvs]
                  rw [h3]
                  exact h1)
                go_wp2
                go_ret
                exact ⟨.slice ra5 N5 rc5, by first | rfl | simp, HRES.out, hx0.trans hx5⟩
              exact AllReadyH.nil
            refine AllReadyH.cons (o := _) rfl (fun K hK => ?_) ?_
            · go_simp
              refine atK fun w1 hw1 => ?_
              have hx1 : Wb.Ext W0 w1 := by rw [hw1]; exact Wb.Ext.alloc (.drew (.refl _)) _
              obtain ⟨gx, gxe⟩ : ∃ g, W0.heap.size = g := ⟨_, rfl⟩
              have gxh : gx < w1.heap.size := by rw [hw1, ← gxe]; simp
              have HLx := Lib.hid (show Wb.SrcRow w1 3 (.slice (some ⟨gx, 0, none⟩) 1 1) 1 (lnvs [x]) by rw [hw1, ← gxe]; exact src_lit W0 _ rfl (lnvs [x]) _ _)
              (try rw [gxe])
              clear hw1 gxe
              refine hK.out _ _ ⟨hx1.keep x0, hx1.keep x1, hx1.keep x2⟩ (fun hHeld => ?_)
              clear hK K
              (try simp only [List.setIfInBounds_toArray, List.set_cons_zero, List.set_cons_succ])
              refine wpAnyH_ready (rs := [0]) (by kernel_rfl) (by simp) ?_
              refine AllReadyH.cons (o := _) rfl (fun K hK => ?_) AllReadyH.nil
              go_simp
              refine atK fun w2 hw2 => ?_
              have hx2 : Wb.Ext W0 w2 := by rw [hw2]; exact Wb.Ext.alloc hx1 _
              replace HLx := Lib.hid (HLx.out.ext (show Wb.Ext w1 w2 by rw [hw2]; exact Wb.Ext.alloc (.refl _) _))
              have gxp := gxh
              replace gxh : gx < w2.heap.size := Nat.lt_of_lt_of_le gxh (by rw [hw2]; simp)
              obtain ⟨gr, gre⟩ : ∃ g, w1.heap.size = g := ⟨_, rfl⟩
              have grh : gr < w2.heap.size := by rw [hw2, ← gre]; simp
              have negxgr : gx ≠ gr := by have := gxp; omega
              have negrgx : gr ≠ gx := Ne.symm negxgr
              have HO2 := Lib.hid (show w2.ownsRow W0.heap.size 44 3 (.slice (some ⟨gr, 0, none⟩) 0 0) 0 [] by rw [hw2, ← gre]; exact own_empty (w := w1) (by first | exact Nat.le_refl _ | exact hx1.size))
              (try rw [gre])
              clear hw2 gre
              refine hK.out _ _ ⟨hx2.keep x0, hx2.keep x1, hx2.keep x2⟩ (fun hHeld => ?_)
              clear hK K
              (try simp only [List.setIfInBounds_toArray, List.set_cons_zero])
              refine wpAnyH_ready (rs := [4]) (by kernel_rfl) (by simp) ?_
              refine AllReadyH.cons (o := _) rfl (fun K hK => ?_) AllReadyH.nil
              obtain ⟨hi, hz0, hz1, hz2⟩ := HIN.out
              refine Wb.step_append_row (by rfl) _ _ _ (by rfl) W0.heap.size 44 i0 (.agg #[.int .i64 0, .string "".toUTF8, .int .i64 0]) 3 32 Try.underlying22 hi hz0 hz1 hz2 (by rfl) (by decide) _ (0) ([]) (by rfl) (HO2.out) _ (by rfl) (k) (lnvs (l.take k)) (HC1.out.ext hx2) (lnv_one _) (by unfold maxLen; omega) (by omega) (Below.size (show Wb.Ext W0 w2 from hx2)) ?_
              intro v3 w3 ho3 hg3 hat3
              obtain ⟨N3, hN3⟩ : ∃ n, n = 0 + (k) := ⟨_, rfl⟩
              rw [← hN3] at ho3
              have HN3 := Lib.hid hN3
              have hNb3 : N3 ≤ 0 + (k) := Nat.le_of_eq hN3
              clear hN3
              have HO3 := Lib.hid ho3
              have hx3 : Wb.Ext W0 w3 := Wb.Ext.grown hx2 hg3 (fun q hq => (HO2.out.lt q hq).1)
              replace HLx := Lib.hid (src_grown HLx.out hg3 (fun a m c e => by cases e; intro hq; injection hq with hq; exact negrgx hq))
              obtain ⟨ra3, rc3, rfl⟩ := row_shape3 ho3
              replace gxh : gx < w3.heap.size := Nat.lt_of_lt_of_le gxh hg3.size
              replace grh : gr < w3.heap.size := Nat.lt_of_lt_of_le grh hg3.size
              clear hi hz0 hz1 hz2 ho3 hg3 hat3
              refine hK.out _ _ ⟨hx3.keep x0, hx3.keep x1, hx3.keep x2⟩ (fun hHeld => ?_)
              clear hK K
              (try simp only [Act.put, List.setIfInBounds_toArray, List.set_cons_zero, List.set_cons_succ])
              refine wpAnyH_ready (rs := [7]) (by kernel_rfl) (by simp) ?_
              refine AllReadyH.cons (o := _) rfl (fun K hK => ?_) AllReadyH.nil
              obtain ⟨hi, hz0, hz1, hz2⟩ := HIN.out
              refine Wb.step_append_row (by rfl) _ _ _ (by rfl) W0.heap.size 44 i0 (.agg #[.int .i64 0, .string "".toUTF8, .int .i64 0]) 3 32 Try.underlying22 hi hz0 hz1 hz2 (by rfl) (by decide) _ (N3) ([] ++ lnvs (l.take k)) (by rfl) (HO3.out) _ (by rfl) (1) (lnvs [x]) (HLx.out) (lnv_one _) (by unfold maxLen; omega) (by omega) (Below.size (show Wb.Ext W0 w3 from hx3)) ?_
              intro v4 w4 ho4 hg4 hat4
              obtain ⟨N4, hN4⟩ : ∃ n, n = N3 + (1) := ⟨_, rfl⟩
              rw [← hN4] at ho4
              have HN4 := Lib.hid hN4
              have hNb4 : N4 ≤ N3 + (1) := Nat.le_of_eq hN4
              clear hN4
              have HO4 := Lib.hid ho4
              have hx4 : Wb.Ext W0 w4 := Wb.Ext.grown hx3 hg4 (fun q hq => (HO3.out.lt q hq).1)
              obtain ⟨ra4, rc4, rfl⟩ := row_shape3 ho4
              replace gxh : gx < w4.heap.size := Nat.lt_of_lt_of_le gxh hg4.size
              replace grh : gr < w4.heap.size := Nat.lt_of_lt_of_le grh hg4.size
              clear hi hz0 hz1 hz2 ho4 hg4 hat4
              refine hK.out _ _ ⟨hx4.keep x0, hx4.keep x1, hx4.keep x2⟩ (fun hHeld => ?_)
              clear hK K
              (try simp only [Act.put, List.setIfInBounds_toArray, List.set_cons_zero, List.set_cons_succ])
              refine wpAnyH_ready (rs := [11]) (by kernel_rfl) (by simp) ?_
              refine AllReadyH.cons (o := _) rfl (fun K hK => ?_) AllReadyH.nil
              obtain ⟨hi, hz0, hz1, hz2⟩ := HIN.out
              refine Wb.step_append_row (by rfl) _ _ _ (by rfl) W0.heap.size 44 i0 (.agg #[.int .i64 0, .string "".toUTF8, .int .i64 0]) 3 32 Try.underlying22 hi hz0 hz1 hz2 (by rfl) (by decide) _ (N4) ([] ++ lnvs (l.take k) ++ lnvs [x]) (by rfl) (HO4.out) _ (by rfl) (l.length - k) (lnvs (l.drop k)) (HC2.out.ext hx4) (lnv_one _) (by unfold maxLen; omega) (by omega) (Below.size (show Wb.Ext W0 w4 from hx4)) ?_
              intro v5 w5 ho5 hg5 hat5
              obtain ⟨N5, hN5⟩ : ∃ n, n = N4 + (l.length - k) := ⟨_, rfl⟩
              rw [← hN5] at ho5
              have HN5 := Lib.hid hN5
              have hNb5 : N5 ≤ N4 + (l.length - k) := Nat.le_of_eq hN5
              clear hN5
              have HO5 := Lib.hid ho5
              have hx5 : Wb.Ext W0 w5 := Wb.Ext.grown hx4 hg5 (fun q hq => (HO4.out.lt q hq).1)
              obtain ⟨ra5, rc5, rfl⟩ := row_shape3 ho5
              replace gxh : gx < w5.heap.size := Nat.lt_of_lt_of_le gxh hg5.size
              replace grh : gr < w5.heap.size := Nat.lt_of_lt_of_le grh hg5.size
              clear hi hz0 hz1 hz2 ho5 hg5 hat5
              refine hK.out _ _ ⟨hx5.keep x0, hx5.keep x1, hx5.keep x2⟩ (fun hHeld => ?_)
              clear hK K
              (try simp only [Act.put, List.setIfInBounds_toArray, List.set_cons_zero, List.set_cons_succ])
              refine take_d (i := 12) (d := 4) (v := ?_) rfl rfl (by kernel_rfl) (by kernel_rfl) (by kernel_rfl) (fun _ _ _ h => h) (Or.inl ⟨by rfl, ?_⟩) (by assumption) ?_
              rotate_left
              · (intro w hSw; (try dsimp only at hSw); go_simp; (try with_reducible rfl))
              (try simp only [Act.put, List.setIfInBounds_toArray, List.set_cons_zero, List.set_cons_succ])
              refine wpAnyH_done (by kernel_rfl) ?_ _
              have HRES := Lib.hid (show LnR base w5 (.slice ra5 N5 rc5) (Wb.putL l x) by
                refine LnR.mono (base := W0.heap.size) ?_ (Nat.le_trans hbase hx0.size)
                unfold LnR
                have h1 := HO5.out
                rw [HPUT.out]
                have h2 : (l.take k ++ x :: l.drop k).length = N5 := by rw [HN5.out, HN4.out, HN3.out]; first | (simp; done) | (simp; omega)
                rw [h2]
                have h3 : lnvs (l.take k ++ x :: l.drop k) = [] ++ lnvs (l.take k) ++ lnvs [x] ++ lnvs (l.drop k) := by simp [lnvs]
                rw [h3]
                exact h1)
              go_wp2
              go_ret
              exact ⟨.slice ra5 N5 rc5, by first | rfl | simp, HRES.out, hx0.trans hx5⟩
            exact AllReadyH.nil
      · have HLO2 : Hid (∀ t u, l[t]? = some u → t < k + 1 → Wb.lnLt u x = true) := Lib.hid (fun t u ht htk => by
          rcases Nat.lt_or_ge t k with q | q
          · exact HLO.out t u ht q
          · obtain rfl : t = k := by omega
            rw [HY.out] at ht; cases ht; exact HQ.out)
        go_wp2
        go_roundw
        case rel => exact ⟨k + 1, by omega, by go_num, HLO2, by (repeat' (first | (with_reducible assumption) | (with_reducible exact Wb.Ext.refl _) | (with_reducible refine Wb.Ext.drew ?_) | (with_reducible refine Wb.Ext.drewN ?_ _) | (with_reducible refine Wb.Ext.alloc ?_ _) | (with_reducible refine Wb.Ext.trans ?_ (by assumption))))⟩
        case measure => simp [intOf]; omega
    · obtain rfl : k = l.length := by omega
      have HPUT := Lib.hid (show Wb.putL l x = l.take l.length ++ x :: l.drop l.length from Wb.putL_new (Nat.le_refl _) HLO.out (fun z hz => by simp at hz))
      go_wp2_with fail
      go_quiet (fail)
      go_wp2_with fail
      go_quiet (fail)
      go_wp2_with fail
      obtain ⟨V1, V2, hs1, hc1, hs2, hc2⟩ := lines_cut HV.out hk
      go_upto_region 6 with (fail)
      refine Wb.wp_at fun W0 hW0 => ?_
      obtain ⟨G, hG⟩ : ∃ G, w.heap.size = G := ⟨_, rfl⟩
      have hx0 : Wb.Ext w W0 := by rw [hW0]; first | exact hext | (repeat' (first | (with_reducible assumption) | (with_reducible exact Wb.Ext.refl _) | (with_reducible refine Wb.Ext.drew ?_) | (with_reducible refine Wb.Ext.drewN ?_ _) | (with_reducible refine Wb.Ext.alloc ?_ _) | (with_reducible refine Wb.Ext.trans ?_ (by assumption))))
      have x0 : W0.cell? ⟨G, 0, none⟩ = some (.int .i64 x.part) := by rw [hW0, ← hG]; first | assumption | simp [go_sem]
      have x1 : W0.cell? ⟨G, 1, none⟩ = some (.string (Wb.S x.code)) := by rw [hW0, ← hG]; first | assumption | simp [go_sem]
      have x2 : W0.cell? ⟨G, 2, none⟩ = some (.int .i64 x.cents) := by rw [hW0, ← hG]; first | assumption | simp [go_sem]
      have HC1 := Lib.hid (hc1.ext hx0)
      have HC2 := Lib.hid (hc2.ext hx0)
      rw [hG]
      clear hW0 hG hc1 hc2
      refine region_start (S := (fun w' => w'.cell? ⟨G, 0, none⟩ = some (.int .i64 x.part) ∧ w'.cell? ⟨G, 1, none⟩ = some (.string (Wb.S x.code)) ∧ w'.cell? ⟨G, 2, none⟩ = some (.int .i64 x.cents))) (n := 13) (l := #[false, false, false, false, false, false, false, false, false, false, false, false, false]) (by kernel_rfl) ⟨x0, x1, x2⟩ (by kernel_rfl) (by kernel_rfl) (fun hHeld => ?_)
      refine take_d (i := 1) (d := 46) (v := ?_) rfl rfl (by kernel_rfl) (by kernel_rfl) (by kernel_rfl) (fun _ _ _ h => h) (Or.inl ⟨by rfl, ?_⟩) (by assumption) ?_
      rotate_left
      · (intro w hSw; (try dsimp only at hSw); go_simp; (try with_reducible rfl))
      (try simp only [Act.put, List.setIfInBounds_toArray, List.set_cons_zero, List.set_cons_succ])
      refine take_d (i := 2) (d := 47) (v := ?_) rfl rfl (by kernel_rfl) (by kernel_rfl) (by kernel_rfl) (fun _ _ _ h => h) (Or.inl ⟨by rfl, ?_⟩) (by assumption) ?_
      rotate_left
      · (intro w hSw; (try dsimp only at hSw); go_simp; (try with_reducible rfl))
      (try simp only [Act.put, List.setIfInBounds_toArray, List.set_cons_zero, List.set_cons_succ])
      refine take_d (i := 3) (d := 48) (v := ?_) rfl rfl (by kernel_rfl) (by kernel_rfl) (by kernel_rfl) (fun _ _ _ h => h) (Or.inl ⟨by rfl, ?_⟩) (by assumption) ?_
      rotate_left
      · (intro w hSw; (try dsimp only at hSw); go_simp; (try with_reducible rfl))
      (try simp only [Act.put, List.setIfInBounds_toArray, List.set_cons_zero, List.set_cons_succ])
      refine take_d (i := 5) (d := 50) (v := ?_) rfl rfl (by kernel_rfl) (by kernel_rfl) (by kernel_rfl) (fun _ _ _ h => h) (Or.inl ⟨by rfl, ?_⟩) (by assumption) ?_
      rotate_left
      · (intro w hSw; (try dsimp only at hSw); go_simp; (try with_reducible rfl))
      (try simp only [Act.put, List.setIfInBounds_toArray, List.set_cons_zero, List.set_cons_succ])
      refine take_d (i := 8) (d := 53) (v := ?_) rfl rfl (by kernel_rfl) (by kernel_rfl) (by kernel_rfl) (fun _ _ _ h => h) (Or.inl ⟨by rfl, ?_⟩) (by assumption) ?_
      rotate_left
      · (intro w hSw; (try dsimp only at hSw); go_simp; (try with_reducible rfl))
      (try simp only [Act.put, List.setIfInBounds_toArray, List.set_cons_zero, List.set_cons_succ])
      refine take_d (i := 9) (d := 54) (v := ?_) rfl rfl (by kernel_rfl) (by kernel_rfl) (by kernel_rfl) (fun _ _ _ h => h) (Or.inl ⟨by rfl, ?_⟩) (by assumption) ?_
      rotate_left
      · (intro w hSw; (try dsimp only at hSw); go_simp; (try with_reducible rfl))
      (try simp only [Act.put, List.setIfInBounds_toArray, List.set_cons_zero, List.set_cons_succ])
      refine take_d (i := 10) (d := 55) (v := ?_) rfl rfl (by kernel_rfl) (by kernel_rfl) (by kernel_rfl) (fun _ _ _ h => h) (Or.inl ⟨by rfl, ?_⟩) (by assumption) ?_
      rotate_left
      · (intro w hSw; (try dsimp only at hSw); go_simp; (try with_reducible rfl))
      (try simp only [Act.put, List.setIfInBounds_toArray, List.set_cons_zero, List.set_cons_succ])
      refine wpAnyH_ready (rs := [0, 6]) (by kernel_rfl) (by simp) ?_
      refine AllReadyH.cons (o := _) rfl (fun K hK => ?_) ?_
      · go_simp
        refine atK fun w1 hw1 => ?_
        have hx1 : Wb.Ext W0 w1 := by rw [hw1]; exact Wb.Ext.alloc (.drew (.refl _)) _
        obtain ⟨gr, gre⟩ : ∃ g, W0.heap.size = g := ⟨_, rfl⟩
        have grh : gr < w1.heap.size := by rw [hw1, ← gre]; simp
        have HO1 := Lib.hid (show w1.ownsRow W0.heap.size 44 3 (.slice (some ⟨gr, 0, none⟩) 0 0) 0 [] by rw [hw1, ← gre]; exact own_empty (w := W0) (by first | exact Nat.le_refl _ | exact (.drew (.refl _)).size))
        (try rw [gre])
        clear hw1 gre
        refine hK.out _ _ ⟨hx1.keep x0, hx1.keep x1, hx1.keep x2⟩ (fun hHeld => ?_)
        clear hK K
        (try simp only [List.setIfInBounds_toArray, List.set_cons_zero])
        refine wpAnyH_ready (rs := [4, 6]) (by kernel_rfl) (by simp) ?_
        refine AllReadyH.cons (o := _) rfl (fun K hK => ?_) ?_
        · obtain ⟨hi, hz0, hz1, hz2⟩ := HIN.out
          refine Wb.step_append_row (by rfl) _ _ _ (by rfl) W0.heap.size 44 i0 (.agg #[.int .i64 0, .string "".toUTF8, .int .i64 0]) 3 32 Try.underlying22 hi hz0 hz1 hz2 (by rfl) (by decide) _ (0) ([]) (by rfl) (HO1.out) _ (by rfl) (l.length) (lnvs (l.take l.length)) (HC1.out.ext hx1) (lnv_one _) (by unfold maxLen; omega) (by omega) (Below.size (show Wb.Ext W0 w1 from hx1)) ?_
          intro v2 w2 ho2 hg2 hat2
          obtain ⟨N2, hN2⟩ : ∃ n, n = 0 + (l.length) := ⟨_, rfl⟩
          rw [← hN2] at ho2
          have HN2 := Lib.hid hN2
          have hNb2 : N2 ≤ 0 + (l.length) := Nat.le_of_eq hN2
          clear hN2
          have HO2 := Lib.hid ho2
          have hx2 : Wb.Ext W0 w2 := Wb.Ext.grown hx1 hg2 (fun q hq => (HO1.out.lt q hq).1)
          obtain ⟨ra2, rc2, rfl⟩ := row_shape3 ho2
          replace grh : gr < w2.heap.size := Nat.lt_of_lt_of_le grh hg2.size
          clear hi hz0 hz1 hz2 ho2 hg2 hat2
          refine hK.out _ _ ⟨hx2.keep x0, hx2.keep x1, hx2.keep x2⟩ (fun hHeld => ?_)
          clear hK K
          (try simp only [Act.put, List.setIfInBounds_toArray, List.set_cons_zero, List.set_cons_succ])
          refine wpAnyH_ready (rs := [6]) (by kernel_rfl) (by simp) ?_
          refine AllReadyH.cons (o := _) rfl (fun K hK => ?_) AllReadyH.nil
          go_simp
          refine atK fun w3 hw3 => ?_
          have hx3 : Wb.Ext W0 w3 := by rw [hw3]; exact Wb.Ext.alloc hx2 _
          have HO3r := Lib.hid (show w3.ownsRow W0.heap.size 44 3 _ _ _ by rw [hw3]; exact HO2.out.alloc _)
          have grp := grh
          replace grh : gr < w3.heap.size := Nat.lt_of_lt_of_le grh (by rw [hw3]; simp)
          obtain ⟨gx, gxe⟩ : ∃ g, w2.heap.size = g := ⟨_, rfl⟩
          have gxh : gx < w3.heap.size := by rw [hw3, ← gxe]; simp
          have negrgx : gr ≠ gx := by have := grp; omega
          have negxgr : gx ≠ gr := Ne.symm negrgx
          have HLx := Lib.hid (show Wb.SrcRow w3 3 (.slice (some ⟨gx, 0, none⟩) 1 1) 1 (lnvs [x]) by rw [hw3, ← gxe]; exact src_lit w2 _ rfl (lnvs [x]) _ _)
          (try rw [gxe])
          clear hw3 gxe
          refine hK.out _ _ ⟨hx3.keep x0, hx3.keep x1, hx3.keep x2⟩ (fun hHeld => ?_)
          clear hK K
          (try simp only [List.setIfInBounds_toArray, List.set_cons_zero, List.set_cons_succ])
          refine wpAnyH_ready (rs := [7]) (by kernel_rfl) (by simp) ?_
          refine AllReadyH.cons (o := _) rfl (fun K hK => ?_) AllReadyH.nil
          obtain ⟨hi, hz0, hz1, hz2⟩ := HIN.out
          refine Wb.step_append_row (by rfl) _ _ _ (by rfl) W0.heap.size 44 i0 (.agg #[.int .i64 0, .string "".toUTF8, .int .i64 0]) 3 32 Try.underlying22 hi hz0 hz1 hz2 (by rfl) (by decide) _ (N2) ([] ++ lnvs (l.take l.length)) (by rfl) (HO3r.out) _ (by rfl) (1) (lnvs [x]) (HLx.out) (lnv_one _) (by unfold maxLen; omega) (by omega) (Below.size (show Wb.Ext W0 w3 from hx3)) ?_
          intro v4 w4 ho4 hg4 hat4
          obtain ⟨N4, hN4⟩ : ∃ n, n = N2 + (1) := ⟨_, rfl⟩
          rw [← hN4] at ho4
          have HN4 := Lib.hid hN4
          have hNb4 : N4 ≤ N2 + (1) := Nat.le_of_eq hN4
          clear hN4
          have HO4 := Lib.hid ho4
          have hx4 : Wb.Ext W0 w4 := Wb.Ext.grown hx3 hg4 (fun q hq => (HO3r.out.lt q hq).1)
          obtain ⟨ra4, rc4, rfl⟩ := row_shape3 ho4
          replace grh : gr < w4.heap.size := Nat.lt_of_lt_of_le grh hg4.size
          replace gxh : gx < w4.heap.size := Nat.lt_of_lt_of_le gxh hg4.size
          clear hi hz0 hz1 hz2 ho4 hg4 hat4
          refine hK.out _ _ ⟨hx4.keep x0, hx4.keep x1, hx4.keep x2⟩ (fun hHeld => ?_)
          clear hK K
          (try simp only [Act.put, List.setIfInBounds_toArray, List.set_cons_zero, List.set_cons_succ])
          refine wpAnyH_ready (rs := [11]) (by kernel_rfl) (by simp) ?_
          refine AllReadyH.cons (o := _) rfl (fun K hK => ?_) AllReadyH.nil
          obtain ⟨hi, hz0, hz1, hz2⟩ := HIN.out
          refine Wb.step_append_row (by rfl) _ _ _ (by rfl) W0.heap.size 44 i0 (.agg #[.int .i64 0, .string "".toUTF8, .int .i64 0]) 3 32 Try.underlying22 hi hz0 hz1 hz2 (by rfl) (by decide) _ (N4) ([] ++ lnvs (l.take l.length) ++ lnvs [x]) (by rfl) (HO4.out) _ (by rfl) (l.length - l.length) (lnvs (l.drop l.length)) (HC2.out.ext hx4) (lnv_one _) (by unfold maxLen; omega) (by omega) (Below.size (show Wb.Ext W0 w4 from hx4)) ?_
          intro v5 w5 ho5 hg5 hat5
          obtain ⟨N5, hN5⟩ : ∃ n, n = N4 + (l.length - l.length) := ⟨_, rfl⟩
          rw [← hN5] at ho5
          have HN5 := Lib.hid hN5
          have hNb5 : N5 ≤ N4 + (l.length - l.length) := Nat.le_of_eq hN5
          clear hN5
          have HO5 := Lib.hid ho5
          have hx5 : Wb.Ext W0 w5 := Wb.Ext.grown hx4 hg5 (fun q hq => (HO4.out.lt q hq).1)
          obtain ⟨ra5, rc5, rfl⟩ := row_shape3 ho5
          replace grh : gr < w5.heap.size := Nat.lt_of_lt_of_le grh hg5.size
          replace gxh : gx < w5.heap.size := Nat.lt_of_lt_of_le gxh hg5.size
          clear hi hz0 hz1 hz2 ho5 hg5 hat5
          refine hK.out _ _ ⟨hx5.keep x0, hx5.keep x1, hx5.keep x2⟩ (fun hHeld => ?_)
          clear hK K
          (try simp only [Act.put, List.setIfInBounds_toArray, List.set_cons_zero, List.set_cons_succ])
          refine take_d (i := 12) (d := 4) (v := ?_) rfl rfl (by kernel_rfl) (by kernel_rfl) (by kernel_rfl) (fun _ _ _ h => h) (Or.inl ⟨by rfl, ?_⟩) (by assumption) ?_
          rotate_left
          · (intro w hSw; (try dsimp only at hSw); go_simp; (try with_reducible rfl))
          (try simp only [Act.put, List.setIfInBounds_toArray, List.set_cons_zero, List.set_cons_succ])
          refine wpAnyH_done (by kernel_rfl) ?_ _
          have HRES := Lib.hid (show LnR base w5 (.slice ra5 N5 rc5) (Wb.putL l x) by
            refine LnR.mono (base := W0.heap.size) ?_ (Nat.le_trans hbase hx0.size)
            unfold LnR
            have h1 := HO5.out
            rw [HPUT.out]
            have h2 : (l.take l.length ++ x :: l.drop l.length).length = N5 := by rw [HN5.out, HN4.out, HN2.out]; first | (simp; done) | (simp; omega)
            rw [h2]
            have h3 : lnvs (l.take l.length ++ x :: l.drop l.length) = [] ++ lnvs (l.take l.length) ++ lnvs [x] ++ lnvs (l.drop l.length) := by simp [lnvs]
            rw [h3]
            exact h1)
          go_wp2
          go_ret
          exact ⟨.slice ra5 N5 rc5, by first | rfl | simp, HRES.out, hx0.trans hx5⟩
        refine AllReadyH.cons (o := _) rfl (fun K hK => ?_) ?_
        · go_simp
          refine atK fun w2 hw2 => ?_
          have hx2 : Wb.Ext W0 w2 := by rw [hw2]; exact Wb.Ext.alloc hx1 _
          have HO2r := Lib.hid (show w2.ownsRow W0.heap.size 44 3 _ _ _ by rw [hw2]; exact HO1.out.alloc _)
          have grp := grh
          replace grh : gr < w2.heap.size := Nat.lt_of_lt_of_le grh (by rw [hw2]; simp)
          obtain ⟨gx, gxe⟩ : ∃ g, w1.heap.size = g := ⟨_, rfl⟩
          have gxh : gx < w2.heap.size := by rw [hw2, ← gxe]; simp
          have negrgx : gr ≠ gx := by have := grp; omega
          have negxgr : gx ≠ gr := Ne.symm negrgx
          have HLx := Lib.hid (show Wb.SrcRow w2 3 (.slice (some ⟨gx, 0, none⟩) 1 1) 1 (lnvs [x]) by rw [hw2, ← gxe]; exact src_lit w1 _ rfl (lnvs [x]) _ _)
          (try rw [gxe])
          clear hw2 gxe
          refine hK.out _ _ ⟨hx2.keep x0, hx2.keep x1, hx2.keep x2⟩ (fun hHeld => ?_)
          clear hK K
          (try simp only [List.setIfInBounds_toArray, List.set_cons_zero, List.set_cons_succ])
          refine wpAnyH_ready (rs := [4]) (by kernel_rfl) (by simp) ?_
          refine AllReadyH.cons (o := _) rfl (fun K hK => ?_) AllReadyH.nil
          obtain ⟨hi, hz0, hz1, hz2⟩ := HIN.out
          refine Wb.step_append_row (by rfl) _ _ _ (by rfl) W0.heap.size 44 i0 (.agg #[.int .i64 0, .string "".toUTF8, .int .i64 0]) 3 32 Try.underlying22 hi hz0 hz1 hz2 (by rfl) (by decide) _ (0) ([]) (by rfl) (HO2r.out) _ (by rfl) (l.length) (lnvs (l.take l.length)) (HC1.out.ext hx2) (lnv_one _) (by unfold maxLen; omega) (by omega) (Below.size (show Wb.Ext W0 w2 from hx2)) ?_
          intro v3 w3 ho3 hg3 hat3
          obtain ⟨N3, hN3⟩ : ∃ n, n = 0 + (l.length) := ⟨_, rfl⟩
          rw [← hN3] at ho3
          have HN3 := Lib.hid hN3
          have hNb3 : N3 ≤ 0 + (l.length) := Nat.le_of_eq hN3
          clear hN3
          have HO3 := Lib.hid ho3
          have hx3 : Wb.Ext W0 w3 := Wb.Ext.grown hx2 hg3 (fun q hq => (HO2r.out.lt q hq).1)
          replace HLx := Lib.hid (src_grown HLx.out hg3 (fun a m c e => by cases e; intro hq; injection hq with hq; exact negrgx hq))
          obtain ⟨ra3, rc3, rfl⟩ := row_shape3 ho3
          replace grh : gr < w3.heap.size := Nat.lt_of_lt_of_le grh hg3.size
          replace gxh : gx < w3.heap.size := Nat.lt_of_lt_of_le gxh hg3.size
          clear hi hz0 hz1 hz2 ho3 hg3 hat3
          refine hK.out _ _ ⟨hx3.keep x0, hx3.keep x1, hx3.keep x2⟩ (fun hHeld => ?_)
          clear hK K
          (try simp only [Act.put, List.setIfInBounds_toArray, List.set_cons_zero, List.set_cons_succ])
          refine wpAnyH_ready (rs := [7]) (by kernel_rfl) (by simp) ?_
          refine AllReadyH.cons (o := _) rfl (fun K hK => ?_) AllReadyH.nil
          obtain ⟨hi, hz0, hz1, hz2⟩ := HIN.out
          refine Wb.step_append_row (by rfl) _ _ _ (by rfl) W0.heap.size 44 i0 (.agg #[.int .i64 0, .string "".toUTF8, .int .i64 0]) 3 32 Try.underlying22 hi hz0 hz1 hz2 (by rfl) (by decide) _ (N3) ([] ++ lnvs (l.take l.length)) (by rfl) (HO3.out) _ (by rfl) (1) (lnvs [x]) (HLx.out) (lnv_one _) (by unfold maxLen; omega) (by omega) (Below.size (show Wb.Ext W0 w3 from hx3)) ?_
          intro v4 w4 ho4 hg4 hat4
          obtain ⟨N4, hN4⟩ : ∃ n, n = N3 + (1) := ⟨_, rfl⟩
          rw [← hN4] at ho4
          have HN4 := Lib.hid hN4
          have hNb4 : N4 ≤ N3 + (1) := Nat.le_of_eq hN4
          clear hN4
          have HO4 := Lib.hid ho4
          have hx4 : Wb.Ext W0 w4 := Wb.Ext.grown hx3 hg4 (fun q hq => (HO3.out.lt q hq).1)
          obtain ⟨ra4, rc4, rfl⟩ := row_shape3 ho4
          replace grh : gr < w4.heap.size := Nat.lt_of_lt_of_le grh hg4.size
          replace gxh : gx < w4.heap.size := Nat.lt_of_lt_of_le gxh hg4.size
          clear hi hz0 hz1 hz2 ho4 hg4 hat4
          refine hK.out _ _ ⟨hx4.keep x0, hx4.keep x1, hx4.keep x2⟩ (fun hHeld => ?_)
          clear hK K
          (try simp only [Act.put, List.setIfInBounds_toArray, List.set_cons_zero, List.set_cons_succ])
          refine wpAnyH_ready (rs := [11]) (by kernel_rfl) (by simp) ?_
          refine AllReadyH.cons (o := _) rfl (fun K hK => ?_) AllReadyH.nil
          obtain ⟨hi, hz0, hz1, hz2⟩ := HIN.out
          refine Wb.step_append_row (by rfl) _ _ _ (by rfl) W0.heap.size 44 i0 (.agg #[.int .i64 0, .string "".toUTF8, .int .i64 0]) 3 32 Try.underlying22 hi hz0 hz1 hz2 (by rfl) (by decide) _ (N4) ([] ++ lnvs (l.take l.length) ++ lnvs [x]) (by rfl) (HO4.out) _ (by rfl) (l.length - l.length) (lnvs (l.drop l.length)) (HC2.out.ext hx4) (lnv_one _) (by unfold maxLen; omega) (by omega) (Below.size (show Wb.Ext W0 w4 from hx4)) ?_
          intro v5 w5 ho5 hg5 hat5
          obtain ⟨N5, hN5⟩ : ∃ n, n = N4 + (l.length - l.length) := ⟨_, rfl⟩
          rw [← hN5] at ho5
          have HN5 := Lib.hid hN5
          have hNb5 : N5 ≤ N4 + (l.length - l.length) := Nat.le_of_eq hN5
          clear hN5
          have HO5 := Lib.hid ho5
          have hx5 : Wb.Ext W0 w5 := Wb.Ext.grown hx4 hg5 (fun q hq => (HO4.out.lt q hq).1)
          obtain ⟨ra5, rc5, rfl⟩ := row_shape3 ho5
          replace grh : gr < w5.heap.size := Nat.lt_of_lt_of_le grh hg5.size
          replace gxh : gx < w5.heap.size := Nat.lt_of_lt_of_le gxh hg5.size
          clear hi hz0 hz1 hz2 ho5 hg5 hat5
          refine hK.out _ _ ⟨hx5.keep x0, hx5.keep x1, hx5.keep x2⟩ (fun hHeld => ?_)
          clear hK K
          (try simp only [Act.put, List.setIfInBounds_toArray, List.set_cons_zero, List.set_cons_succ])
          refine take_d (i := 12) (d := 4) (v := ?_) rfl rfl (by kernel_rfl) (by kernel_rfl) (by kernel_rfl) (fun _ _ _ h => h) (Or.inl ⟨by rfl, ?_⟩) (by assumption) ?_
          rotate_left
          · (intro w hSw; (try dsimp only at hSw); go_simp; (try with_reducible rfl))
          (try simp only [Act.put, List.setIfInBounds_toArray, List.set_cons_zero, List.set_cons_succ])
          refine wpAnyH_done (by kernel_rfl) ?_ _
          have HRES := Lib.hid (show LnR base w5 (.slice ra5 N5 rc5) (Wb.putL l x) by
            refine LnR.mono (base := W0.heap.size) ?_ (Nat.le_trans hbase hx0.size)
            unfold LnR
            have h1 := HO5.out
            rw [HPUT.out]
            have h2 : (l.take l.length ++ x :: l.drop l.length).length = N5 := by rw [HN5.out, HN4.out, HN3.out]; first | (simp; done) | (simp; omega)
            rw [h2]
            have h3 : lnvs (l.take l.length ++ x :: l.drop l.length) = [] ++ lnvs (l.take l.length) ++ lnvs [x] ++ lnvs (l.drop l.length) := by simp [lnvs]
            rw [h3]
            exact h1)
          go_wp2
          go_ret
          exact ⟨.slice ra5 N5 rc5, by first | rfl | simp, HRES.out, hx0.trans hx5⟩
        exact AllReadyH.nil
      refine AllReadyH.cons (o := _) rfl (fun K hK => ?_) ?_
      · go_simp
        refine atK fun w1 hw1 => ?_
        have hx1 : Wb.Ext W0 w1 := by rw [hw1]; exact Wb.Ext.alloc (.drew (.refl _)) _
        obtain ⟨gx, gxe⟩ : ∃ g, W0.heap.size = g := ⟨_, rfl⟩
        have gxh : gx < w1.heap.size := by rw [hw1, ← gxe]; simp
        have HLx := Lib.hid (show Wb.SrcRow w1 3 (.slice (some ⟨gx, 0, none⟩) 1 1) 1 (lnvs [x]) by rw [hw1, ← gxe]; exact src_lit W0 _ rfl (lnvs [x]) _ _)
        (try rw [gxe])
        clear hw1 gxe
        refine hK.out _ _ ⟨hx1.keep x0, hx1.keep x1, hx1.keep x2⟩ (fun hHeld => ?_)
        clear hK K
        (try simp only [List.setIfInBounds_toArray, List.set_cons_zero, List.set_cons_succ])
        refine wpAnyH_ready (rs := [0]) (by kernel_rfl) (by simp) ?_
        refine AllReadyH.cons (o := _) rfl (fun K hK => ?_) AllReadyH.nil
        go_simp
        refine atK fun w2 hw2 => ?_
        have hx2 : Wb.Ext W0 w2 := by rw [hw2]; exact Wb.Ext.alloc hx1 _
        replace HLx := Lib.hid (HLx.out.ext (show Wb.Ext w1 w2 by rw [hw2]; exact Wb.Ext.alloc (.refl _) _))
        have gxp := gxh
        replace gxh : gx < w2.heap.size := Nat.lt_of_lt_of_le gxh (by rw [hw2]; simp)
        obtain ⟨gr, gre⟩ : ∃ g, w1.heap.size = g := ⟨_, rfl⟩
        have grh : gr < w2.heap.size := by rw [hw2, ← gre]; simp
        have negxgr : gx ≠ gr := by have := gxp; omega
        have negrgx : gr ≠ gx := Ne.symm negxgr
        have HO2 := Lib.hid (show w2.ownsRow W0.heap.size 44 3 (.slice (some ⟨gr, 0, none⟩) 0 0) 0 [] by rw [hw2, ← gre]; exact own_empty (w := w1) (by first | exact Nat.le_refl _ | exact hx1.size))
        (try rw [gre])
        clear hw2 gre
        refine hK.out _ _ ⟨hx2.keep x0, hx2.keep x1, hx2.keep x2⟩ (fun hHeld => ?_)
        clear hK K
        (try simp only [List.setIfInBounds_toArray, List.set_cons_zero])
        refine wpAnyH_ready (rs := [4]) (by kernel_rfl) (by simp) ?_
        refine AllReadyH.cons (o := _) rfl (fun K hK => ?_) AllReadyH.nil
        obtain ⟨hi, hz0, hz1, hz2⟩ := HIN.out
        refine Wb.step_append_row (by rfl) _ _ _ (by rfl) W0.heap.size 44 i0 (.agg #[.int .i64 0, .string "".toUTF8, .int .i64 0]) 3 32 Try.underlying22 hi hz0 hz1 hz2 (by rfl) (by decide) _ (0) ([]) (by rfl) (HO2.out) _ (by rfl) (l.length) (lnvs (l.take l.length)) (HC1.out.ext hx2) (lnv_one _) (by unfold maxLen; omega) (by omega) (Below.size (show Wb.Ext W0 w2 from hx2)) ?_
        intro v3 w3 ho3 hg3 hat3
        obtain ⟨N3, hN3⟩ : ∃ n, n = 0 + (l.length) := ⟨_, rfl⟩
        rw [← hN3] at ho3
        have HN3 := Lib.hid hN3
        have hNb3 : N3 ≤ 0 + (l.length) := Nat.le_of_eq hN3
        clear hN3
        have HO3 := Lib.hid ho3
        have hx3 : Wb.Ext W0 w3 := Wb.Ext.grown hx2 hg3 (fun q hq => (HO2.out.lt q hq).1)
        replace HLx := Lib.hid (src_grown HLx.out hg3 (fun a m c e => by cases e; intro hq; injection hq with hq; exact negrgx hq))
        obtain ⟨ra3, rc3, rfl⟩ := row_shape3 ho3
        replace gxh : gx < w3.heap.size := Nat.lt_of_lt_of_le gxh hg3.size
        replace grh : gr < w3.heap.size := Nat.lt_of_lt_of_le grh hg3.size
        clear hi hz0 hz1 hz2 ho3 hg3 hat3
        refine hK.out _ _ ⟨hx3.keep x0, hx3.keep x1, hx3.keep x2⟩ (fun hHeld => ?_)
        clear hK K
        (try simp only [Act.put, List.setIfInBounds_toArray, List.set_cons_zero, List.set_cons_succ])
        refine wpAnyH_ready (rs := [7]) (by kernel_rfl) (by simp) ?_
        refine AllReadyH.cons (o := _) rfl (fun K hK => ?_) AllReadyH.nil
        obtain ⟨hi, hz0, hz1, hz2⟩ := HIN.out
        refine Wb.step_append_row (by rfl) _ _ _ (by rfl) W0.heap.size 44 i0 (.agg #[.int .i64 0, .string "".toUTF8, .int .i64 0]) 3 32 Try.underlying22 hi hz0 hz1 hz2 (by rfl) (by decide) _ (N3) ([] ++ lnvs (l.take l.length)) (by rfl) (HO3.out) _ (by rfl) (1) (lnvs [x]) (HLx.out) (lnv_one _) (by unfold maxLen; omega) (by omega) (Below.size (show Wb.Ext W0 w3 from hx3)) ?_
        intro v4 w4 ho4 hg4 hat4
        obtain ⟨N4, hN4⟩ : ∃ n, n = N3 + (1) := ⟨_, rfl⟩
        rw [← hN4] at ho4
        have HN4 := Lib.hid hN4
        have hNb4 : N4 ≤ N3 + (1) := Nat.le_of_eq hN4
        clear hN4
        have HO4 := Lib.hid ho4
        have hx4 : Wb.Ext W0 w4 := Wb.Ext.grown hx3 hg4 (fun q hq => (HO3.out.lt q hq).1)
        obtain ⟨ra4, rc4, rfl⟩ := row_shape3 ho4
        replace gxh : gx < w4.heap.size := Nat.lt_of_lt_of_le gxh hg4.size
        replace grh : gr < w4.heap.size := Nat.lt_of_lt_of_le grh hg4.size
        clear hi hz0 hz1 hz2 ho4 hg4 hat4
        refine hK.out _ _ ⟨hx4.keep x0, hx4.keep x1, hx4.keep x2⟩ (fun hHeld => ?_)
        clear hK K
        (try simp only [Act.put, List.setIfInBounds_toArray, List.set_cons_zero, List.set_cons_succ])
        refine wpAnyH_ready (rs := [11]) (by kernel_rfl) (by simp) ?_
        refine AllReadyH.cons (o := _) rfl (fun K hK => ?_) AllReadyH.nil
        obtain ⟨hi, hz0, hz1, hz2⟩ := HIN.out
        refine Wb.step_append_row (by rfl) _ _ _ (by rfl) W0.heap.size 44 i0 (.agg #[.int .i64 0, .string "".toUTF8, .int .i64 0]) 3 32 Try.underlying22 hi hz0 hz1 hz2 (by rfl) (by decide) _ (N4) ([] ++ lnvs (l.take l.length) ++ lnvs [x]) (by rfl) (HO4.out) _ (by rfl) (l.length - l.length) (lnvs (l.drop l.length)) (HC2.out.ext hx4) (lnv_one _) (by unfold maxLen; omega) (by omega) (Below.size (show Wb.Ext W0 w4 from hx4)) ?_
        intro v5 w5 ho5 hg5 hat5
        obtain ⟨N5, hN5⟩ : ∃ n, n = N4 + (l.length - l.length) := ⟨_, rfl⟩
        rw [← hN5] at ho5
        have HN5 := Lib.hid hN5
        have hNb5 : N5 ≤ N4 + (l.length - l.length) := Nat.le_of_eq hN5
        clear hN5
        have HO5 := Lib.hid ho5
        have hx5 : Wb.Ext W0 w5 := Wb.Ext.grown hx4 hg5 (fun q hq => (HO4.out.lt q hq).1)
        obtain ⟨ra5, rc5, rfl⟩ := row_shape3 ho5
        replace gxh : gx < w5.heap.size := Nat.lt_of_lt_of_le gxh hg5.size
        replace grh : gr < w5.heap.size := Nat.lt_of_lt_of_le grh hg5.size
        clear hi hz0 hz1 hz2 ho5 hg5 hat5
        refine hK.out _ _ ⟨hx5.keep x0, hx5.keep x1, hx5.keep x2⟩ (fun hHeld => ?_)
        clear hK K
        (try simp only [Act.put, List.setIfInBounds_toArray, List.set_cons_zero, List.set_cons_succ])
        refine take_d (i := 12) (d := 4) (v := ?_) rfl rfl (by kernel_rfl) (by kernel_rfl) (by kernel_rfl) (fun _ _ _ h => h) (Or.inl ⟨by rfl, ?_⟩) (by assumption) ?_
        rotate_left
        · (intro w hSw; (try dsimp only at hSw); go_simp; (try with_reducible rfl))
        (try simp only [Act.put, List.setIfInBounds_toArray, List.set_cons_zero, List.set_cons_succ])
        refine wpAnyH_done (by kernel_rfl) ?_ _
        have HRES := Lib.hid (show LnR base w5 (.slice ra5 N5 rc5) (Wb.putL l x) by
          refine LnR.mono (base := W0.heap.size) ?_ (Nat.le_trans hbase hx0.size)
          unfold LnR
          have h1 := HO5.out
          rw [HPUT.out]
          have h2 : (l.take l.length ++ x :: l.drop l.length).length = N5 := by rw [HN5.out, HN4.out, HN3.out]; first | (simp; done) | (simp; omega)
          rw [h2]
          have h3 : lnvs (l.take l.length ++ x :: l.drop l.length) = [] ++ lnvs (l.take l.length) ++ lnvs [x] ++ lnvs (l.drop l.length) := by simp [lnvs]
          rw [h3]
          exact h1)
        go_wp2
        go_ret
        exact ⟨.slice ra5 N5 rc5, by first | rfl | simp, HRES.out, hx0.trans hx5⟩
      exact AllReadyH.nil

end Go.Proofs.Ytdfmlgjemfcmlaa
