/- The walk of wagebooklaw05.SpanCross. -/
import Derived.Test.YtdckghdmopafpaaRSpn9
import Derived.Deep.DeepCutAuto
namespace Go.Proofs.Ytdckghdmopafpaa
open Go.RowKit Go.Lib
set_option maxRecDepth 8000
attribute [local go_sem ↓] Go.wp_at_zero Go.wp_at_succ

theorem wp_named {P : Program} {id : Nat} {ops : Array Oper} {b : Bool} {Q : Exit → Act → World → Prop} {a : Act} {w : World} (K : ∀ ops' Q', ops' = ops → Q' = Q → Code.wp P (.region id ops' b) Q' a w) : Code.wp P (.region id ops b) Q a w := K _ _ rfl rfl
theorem cross_comm (a b : Wb.Sp) : crossS b a = crossS a b := by
  simp only [crossS, show min b.2 a.2 = min a.2 b.2 by omega, show max b.1 a.1 = max a.1 b.1 by omega]
theorem cross_bd {a b : Wb.Sp} (ha : Bd a) (hb : Bd b) : Bd (crossS a b) := by
  obtain ⟨⟨h1, h2⟩, h3, h4⟩ := ha
  obtain ⟨⟨k1, k2⟩, k3, k4⟩ := hb
  unfold crossS
  split
  · exact ⟨⟨by simp, by simp⟩, by simp, by simp⟩
  · exact ⟨⟨by simp only; omega, by simp only; omega⟩, by simp only; omega, by simp only; omega⟩
theorem cross_len (a b : Wb.Sp) : lenS (crossS a b) ≤ lenS a ∧ lenS (crossS a b) ≤ lenS b := by
  unfold crossS
  split
  · have h1 := lenS_ok a
    have h2 := lenS_ok b
    have : lenS (0, 0) = 0 := rfl
    omega
  · rename_i h
    have e : lenS (max a.1 b.1, min a.2 b.2) = min (min a.2 b.2 - max a.1 b.1) 4611686018427387904 := if_neg h
    rw [e]
    simp only [lenS]
    constructor <;> split <;> omega
theorem cross_has {a b x : Wb.Sp} (h : crossS a b = x) (d : Int) : (Wb.hasL [a] d && Wb.hasL [b] d) = Wb.hasL [x] d := by
  subst h
  rw [Bool.eq_iff_iff, Bool.and_eq_true, Wb.hasL_iff, Wb.hasL_iff, Wb.hasL_iff, Wb.memL_one, Wb.memL_one, Wb.memL_one]
  unfold crossS
  split <;> simp only [Wb.inS] <;> omega
theorem pcs_has {w w' : World} {v : Value} {a : Wb.Sp} {c : List Int} {r : List Wb.Sp} (hb : Bd a) (h : IsPcs w w' a c v r) : BdL r ∧ ∀ d, Wb.hasL r d = Wb.hasL [a] d := by
  by_cases hs : a.2 ≤ a.1
  · rw [h.none hs]
    refine ⟨(fun s hs => by cases hs), fun d => ?_⟩
    rw [Bool.eq_iff_iff, Wb.hasL_iff, Wb.hasL_iff, Wb.memL_one]
    exact ⟨fun k => absurd k (Wb.memL_nil d), fun k => by simp only [Wb.inS] at k; omega⟩
  · have hs' : a.1 < a.2 := by omega
    obtain ⟨D, rfl, hu, hm⟩ := h.some hs'
    refine ⟨fun y hy => ?_, fun d => ?_⟩
    · obtain ⟨k, hk⟩ := List.getElem?_of_mem hy
      have p := piece_facts hs' hu hm hk
      obtain ⟨⟨h1, h2⟩, h3, h4⟩ := hb
      have := p.lo
      have := p.hi
      have := p.lt
      exact ⟨⟨by omega, by omega⟩, by omega, by omega⟩
    · rw [Bool.eq_iff_iff, Wb.hasL_iff, Wb.hasL_iff, Wb.memL_one]
      obtain ⟨uE, d0⟩ := cut_up hs' hu hm
      cases D with
      | nil => simp at d0
      | cons x E =>
        simp at d0; subst d0
        exact Wb.memL_pairs uE d

set_option maxRecDepth 100000 in
set_option maxHeartbeats 16000000 in
theorem cross_walk (W : World) (a : Wb.Sp) (hba : Bd a) (b : Wb.Sp) (hbb : Bd b) (vc : Value) (c : List Int) (hvc : DayL W vc c) (htc : DayT W vc c) :
    Calls Try.prog 10 #[SpV a, SpV b, vc] W fun e w' => e = .returned (.bool true) ∧ Wb.Ext W w' := by
  have eqS : ∀ (w : World) (a b : Int), (binOp .eql 24 (.agg #[.int .i64 a, .int .i64 b]) (.agg #[.int .i64 a, .int .i64 b])).run Try.prog w = .ok (.bool true) w := by
    intro w a b
    go_simp
  obtain ⟨cA, cK, rfl⟩ := htc.shape
  have HVc := Lib.hid hvc
  have HBa := Lib.hid hba
  have HBb := Lib.hid hbb
  clear hvc htc hba hbb
  obtain ⟨x, hx⟩ : ∃ x, crossS a b = x := ⟨_, rfl⟩
  have HX := Lib.hid hx
  have HXX := Lib.hid (show crossS b a = x by rw [cross_comm, hx])
  have HBx := Lib.hid (hx ▸ cross_bd HBa.out HBb.out)
  have HXC := Lib.hid hx
  obtain ⟨La, hLa⟩ : ∃ n, lenS a = n := ⟨_, rfl⟩
  obtain ⟨Lb, hLb⟩ : ∃ n, lenS b = n := ⟨_, rfl⟩
  obtain ⟨Lx, hLx⟩ : ∃ n, lenS x = n := ⟨_, rfl⟩
  have d1 : decide (Lx ≤ La) = true := by have := cross_len a b; rw [hx, hLx, hLa] at this; simpa using this.1
  have d2 : decide (Lx ≤ Lb) = true := by have := cross_len a b; rw [hx, hLx, hLb] at this; simpa using this.2
  have HLa := Lib.hid hLa
  have HLb := Lib.hid hLb
  have HLx := Lib.hid hLx
  clear hLa hLb hLx hx
  by_cases hlc : 60 < c.length
  · have dc : decide ((60 : Int) < (c.length : Int)) = true := by simp; omega
    go_enter Try.func10, Try.ntmps10
    go_wp2_with fail
    go_fit (awake_any _); rintro e w0 ⟨rfl, hx0⟩
    go_wp2
    go_ret
    exact ⟨rfl, Wb.Ext.trans (by (repeat' (first | (with_reducible assumption) | (with_reducible exact Wb.Ext.refl _) | (with_reducible refine Wb.Ext.drew ?_) | (with_reducible refine Wb.Ext.drewN ?_ _) | (with_reducible refine Wb.Ext.alloc ?_ _) | (with_reducible refine Wb.Ext.trans ?_ (by assumption))))) hx0⟩
  · have dc : decide ((60 : Int) < (c.length : Int)) = false := by simp; omega
    have hmc : c.length ≤ 60 := by omega
    go_enter Try.func10, Try.ntmps10
    go_wp2_with fail
    go_fit (awake_any _); rintro e w0 ⟨rfl, hx0⟩
    have za0 : w0.cell? ⟨W.heap.size, 0, none⟩ = some (.int .i64 a.1) := hx0.keep (by simp [go_sem])
    have za1 : w0.cell? ⟨W.heap.size, 1, none⟩ = some (.int .i64 a.2) := hx0.keep (by simp [go_sem])
    have zb0 : w0.cell? ⟨W.heap.size + 1, 0, none⟩ = some (.int .i64 b.1) := hx0.keep (by simp [go_sem])
    have zb1 : w0.cell? ⟨W.heap.size + 1, 1, none⟩ = some (.int .i64 b.2) := hx0.keep (by simp [go_sem])
    have hxw : Wb.Ext W w0 := Wb.Ext.trans (by (repeat' (first | (with_reducible assumption) | (with_reducible exact Wb.Ext.refl _) | (with_reducible refine Wb.Ext.drew ?_) | (with_reducible refine Wb.Ext.drewN ?_ _) | (with_reducible refine Wb.Ext.alloc ?_ _) | (with_reducible refine Wb.Ext.trans ?_ (by assumption))))) hx0
    clear hx0
    go_wp2_with fail
    go_fit (cross_any a b _); rintro e w1 ⟨rfl, hx1⟩
    rw [HX.out]
    have za0 := hx1.keep za0
    have za1 := hx1.keep za1
    have zb0 := hx1.keep zb0
    have zb1 := hx1.keep zb1
    go_upto_region 6 with (fail)
    refine Wb.wp_at fun W0 hW0 => ?_
    have hb : Wb.Ext w1 W0 := by rw [hW0]; (repeat' (first | (with_reducible assumption) | (with_reducible exact Wb.Ext.refl _) | (with_reducible refine Wb.Ext.drew ?_) | (with_reducible refine Wb.Ext.drewN ?_ _) | (with_reducible refine Wb.Ext.alloc ?_ _) | (with_reducible refine Wb.ext_set ?_ (by first | assumption | (simp; done) | (simp; omega) | omega) _) | (with_reducible refine Wb.Ext.trans ?_ (by assumption))))
    have za0 := hb.keep za0
    have za1 := hb.keep za1
    have zb0 := hb.keep zb0
    have zb1 := hb.keep zb1
    have zx0 : W0.cell? ⟨w1.heap.size, 0, none⟩ = some (.int .i64 x.1) := by rw [hW0]; simp [go_sem]
    have zx1 : W0.cell? ⟨w1.heap.size, 1, none⟩ = some (.int .i64 x.2) := by rw [hW0]; simp [go_sem]
    have hc0 := hxw.trans (hx1.trans hb)
    have HVc := Lib.hid (HVc.out.ext hc0)
    have hxW := hc0
    clear hW0 hb hxw hx1 hc0
    have KP : ∀ w' : World, Wb.Ext W0 w' → (fun w' => w'.cell? ⟨W.heap.size, 0, none⟩ = some (.int .i64 a.1) ∧ w'.cell? ⟨W.heap.size, 1, none⟩ = some (.int .i64 a.2) ∧ w'.cell? ⟨W.heap.size + 1, 0, none⟩ = some (.int .i64 b.1) ∧ w'.cell? ⟨W.heap.size + 1, 1, none⟩ = some (.int .i64 b.2) ∧ w'.cell? ⟨w1.heap.size, 0, none⟩ = some (.int .i64 x.1) ∧ w'.cell? ⟨w1.heap.size, 1, none⟩ = some (.int .i64 x.2)) w' := fun w' h => ⟨h.keep za0, h.keep za1, h.keep zb0, h.keep zb1, h.keep zx0, h.keep zx1⟩
    refine wp_named fun ops' Q' hops hQ => ?_
    have mid : ∀ (wm : World) (u5 u8 u9 u10 u11 u12 u13 u14 u15 u16 u17 u18 u19 u20 u22 u23 u24 u25 u26 u27 u28 u29 u30 u31 u32 u33 u34 u37 u38 u39 u40 u41 u42 u43 u44 u45 u46 u47 u48 u49 u50 u51 u52 u53 u54 u55 u56 u57 u58 u59 u60 u61 : Value), Wb.Ext W0 wm → (fun w' => w'.cell? ⟨W.heap.size, 0, none⟩ = some (.int .i64 a.1) ∧ w'.cell? ⟨W.heap.size, 1, none⟩ = some (.int .i64 a.2) ∧ w'.cell? ⟨W.heap.size + 1, 0, none⟩ = some (.int .i64 b.1) ∧ w'.cell? ⟨W.heap.size + 1, 1, none⟩ = some (.int .i64 b.2) ∧ w'.cell? ⟨w1.heap.size, 0, none⟩ = some (.int .i64 x.1) ∧ w'.cell? ⟨w1.heap.size, 1, none⟩ = some (.int .i64 x.2)) wm → wpAnyH Try.prog .any ops' Q' (fun w' => w'.cell? ⟨W.heap.size, 0, none⟩ = some (.int .i64 a.1) ∧ w'.cell? ⟨W.heap.size, 1, none⟩ = some (.int .i64 a.2) ∧ w'.cell? ⟨W.heap.size + 1, 0, none⟩ = some (.int .i64 b.1) ∧ w'.cell? ⟨W.heap.size + 1, 1, none⟩ = some (.int .i64 b.2) ∧ w'.cell? ⟨w1.heap.size, 0, none⟩ = some (.int .i64 x.1) ∧ w'.cell? ⟨w1.heap.size, 1, none⟩ = some (.int .i64 x.2)) 26 #[true, true, true, true, true, true, true, true, true, true, true, true, true, true, true, true, true, true, true, true, true, false, false, false, false, false, false, false, false, false, false, false, false, false, false, false, false, false, false, false, false, false, false, false, false, false, false] ⟨#[SpV a, SpV b, .slice cA c.length cK, .pointer (some ⟨W.heap.size, 0, none⟩), .pointer (some ⟨W.heap.size + 1, 0, none⟩), u5, .bool false, .pointer (some ⟨w1.heap.size, 0, none⟩), u8, u9, u10, u11, u12, u13, u14, u15, u16, u17, u18, u19, u20, .bool true, u22, u23, u24, u25, u26, u27, u28, u29, u30, u31, u32, u33, u34, .bool true, .bool true, u37, u38, u39, u40, u41, u42, u43, u44, u45, u46, u47, u48, u49, u50, u51, u52, u53, u54, u55, u56, u57, u58, u59, u60, u61], []⟩ wm := by
      intro wm u5 u8 u9 u10 u11 u12 u13 u14 u15 u16 u17 u18 u19 u20 u22 u23 u24 u25 u26 u27 u28 u29 u30 u31 u32 u33 u34 u37 u38 u39 u40 u41 u42 u43 u44 u45 u46 u47 u48 u49 u50 u51 u52 u53 u54 u55 u56 u57 u58 u59 u60 u61 hxm hHeld
      subst hops
      subst hQ
      refine tk 21 37 ?_ rfl rfl (by kernel_rfl) (fun _ _ _ h => h) (.inl ⟨by rfl, ?_⟩) ‹_› ?_
      rotate_left
      · (intro w hSw; (try dsimp only at hSw); go_simp; (try with_reducible rfl))
      (try simp only [Act.put, sA, sB, sC])
      refine tk 22 38 ?_ rfl rfl (by kernel_rfl) (fun _ _ _ h => h) (.inl ⟨by rfl, ?_⟩) ‹_› ?_
      rotate_left
      · (intro w hSw; (try dsimp only at hSw); go_simp; (try with_reducible rfl))
      (try simp only [Act.put, sA, sB, sC])
      refine tk 26 42 ?_ rfl rfl (by kernel_rfl) (fun _ _ _ h => h) (.inl ⟨by rfl, ?_⟩) ‹_› ?_
      rotate_left
      · (intro w hSw; (try dsimp only at hSw); go_simp; (try with_reducible rfl))
      (try simp only [Act.put, sA, sB, sC])
      refine wpAnyH_ready (rs := [23, 27]) (by kernel_rfl) (by simp) ?_
      refine AllReadyH.cons (o := _) rfl (fun K hK => ?_) ?_
      · go_simp
        go_at_call 12
        go_fit (ppieces_any a _ c _ (HVc.out.ext (by (repeat' (first | (with_reducible assumption) | (with_reducible exact Wb.Ext.refl _) | (with_reducible refine Wb.Ext.drew ?_) | (with_reducible refine Wb.Ext.drewN ?_ _) | (with_reducible refine Wb.Ext.alloc ?_ _) | (with_reducible refine Wb.Ext.trans ?_ (by assumption)))))) (by omega))
        rintro e w71 ⟨v71, rfl, r71, hs71⟩
        obtain ⟨sa71, sc71, rfl⟩ := hs71.row.1.shape
        have hb71 := hs71.ext
        have HS71 := Lib.hid hs71
        have hl71 : r71.length ≤ 61 := by have := hs71.len; omega
        have HF71 := Lib.hid (pcs_has HBa.out HS71.out)
        have hx71 := hxm.trans hb71
        clear hb71
        have HP71 := Lib.hid hs71.row
        clear hs71
        refine hK.out _ _ (KP _ hx71) (fun hHeld => ?_)
        clear hK K
        (try simp only [sA, sB, sC])
        refine wpAnyH_ready (rs := [24, 27]) (by kernel_rfl) (by simp) ?_
        refine AllReadyH.cons (o := _) rfl (fun K hK => ?_) ?_
        · go_simp
          go_at_call 14
          go_fit (of_any _ r71 _ HP71.out HF71.out.1 (by omega))
          rintro e w72 ⟨v72, r72, rfl, hs72, hp72, hb72⟩
          obtain ⟨sa72, sc72, rfl⟩ := hp72.1.shape
          have HS72 := Lib.hid hs72
          have hl72 : r72.length ≤ 61 := by have := hs72.len; (try simp only [List.length_cons, List.length_nil] at this); omega
          have HE72 := Lib.hid (has_of hs72)
          replace HP71 := Lib.hid (HP71.out.ext hb72)
          have hx72 := hx71.trans hb72
          clear hb72
          have HP72 := Lib.hid hp72
          clear hs72 hp72
          refine hK.out _ _ (KP _ hx72) (fun hHeld => ?_)
          clear hK K
          (try simp only [sA, sB, sC])
          refine wpAnyH_ready (rs := [25, 27]) (by kernel_rfl) (by simp) ?_
          refine AllReadyH.cons (o := _) rfl (fun K hK => ?_) ?_
          · go_simp
            go_at_call 17
            go_fit (all_any _ r72 _ HP72.out (by omega))
            rintro e w73 ⟨v73, rfl, hp73, hb73⟩
            obtain ⟨sa73, sc73, rfl⟩ := hp73.1.shape
            replace HP72 := Lib.hid (HP72.out.ext hb73)
            have hx73 := hx72.trans hb73
            clear hb73
            have HP73 := Lib.hid hp73
            clear hp73
            refine hK.out _ _ (KP _ hx73) (fun hHeld => ?_)
            clear hK K
            (try simp only [sA, sB, sC])
            refine wpAnyH_ready (rs := [27]) (by kernel_rfl) (by simp) ?_
            refine AllReadyH.cons (o := _) rfl (fun K hK => ?_) AllReadyH.nil
            go_simp
            refine atK fun w74 hw74 => ?_
            have hb74 : Wb.Ext w73 w74 := by rw [hw74]; (repeat' (first | (with_reducible assumption) | (with_reducible exact Wb.Ext.refl _) | (with_reducible refine Wb.Ext.drew ?_) | (with_reducible refine Wb.Ext.drewN ?_ _) | (with_reducible refine Wb.Ext.alloc ?_ _) | (with_reducible refine Wb.Ext.trans ?_ (by assumption))))
            have HP74 := Lib.hid (show SpL w74 (.slice (some ⟨w73.heap.size, 0, none⟩) 1 1) [a] by rw [hw74]; exact spl_cells a (by simp [go_sem]) (by simp [go_sem]))
            clear hw74
            replace HP73 := Lib.hid (HP73.out.ext hb74)
            have hx74 := hx73.trans hb74
            clear hb74
            refine hK.out _ _ (KP _ hx74) (fun hHeld => ?_)
            clear hK K
            (try simp only [sA, sB, sC])
            refine wpAnyH_ready (rs := [28]) (by kernel_rfl) (by simp) ?_
            refine AllReadyH.cons (o := _) rfl (fun K hK => ?_) AllReadyH.nil
            go_simp
            go_at_call 14
            go_fit (of_any _ [a] _ HP74.out (by intro yy hyy; simp at hyy; subst hyy; exact HBa.out) (by simp))
            rintro e w75 ⟨v75, r75, rfl, hs75, hp75, hb75⟩
            obtain ⟨sa75, sc75, rfl⟩ := hp75.1.shape
            have HS75 := Lib.hid hs75
            have hl75 : r75.length ≤ 1 := by have := hs75.len; (try simp only [List.length_cons, List.length_nil] at this); omega
            have HE75 := Lib.hid (has_of hs75)
            replace HP73 := Lib.hid (HP73.out.ext hb75)
            replace HP74 := Lib.hid (HP74.out.ext hb75)
            have hx75 := hx74.trans hb75
            clear hb75
            have HP75 := Lib.hid hp75
            clear hs75 hp75
            refine hK.out _ _ (KP _ hx75) (fun hHeld => ?_)
            clear hK K
            (try simp only [sA, sB, sC])
            refine wpAnyH_ready (rs := [29]) (by kernel_rfl) (by simp) ?_
            refine AllReadyH.cons (o := _) rfl (fun K hK => ?_) AllReadyH.nil
            go_simp
            go_at_call 17
            go_fit (all_any _ r75 _ HP75.out (by omega))
            rintro e w76 ⟨v76, rfl, hp76, hb76⟩
            obtain ⟨sa76, sc76, rfl⟩ := hp76.1.shape
            replace HP73 := Lib.hid (HP73.out.ext hb76)
            replace HP75 := Lib.hid (HP75.out.ext hb76)
            have hx76 := hx75.trans hb76
            clear hb76
            have HP76 := Lib.hid hp76
            clear hp76
            refine hK.out _ _ (KP _ hx76) (fun hHeld => ?_)
            clear hK K
            (try simp only [sA, sB, sC])
            refine wpAnyH_ready (rs := [30]) (by kernel_rfl) (by simp) ?_
            refine AllReadyH.cons (o := _) rfl (fun K hK => ?_) AllReadyH.nil
            go_simp
            go_at_call 16
            go_fit (same2_any _ _ r72 r75 _ (canon_eq HS75.out.canon HS72.out.canon (fun d => by rw [HE75.out d, HE72.out d]; exact (HF71.out.2 d).symm)) HP73.out.1 HP76.out.1 (by omega))
            rintro e w77 ⟨rfl, hb77⟩
            have hx77 := hx76.trans hb77
            clear hb77
            refine hK.out _ _ (KP _ hx77) (fun hHeld => ?_)
            clear hK K
            (try simp only [sA, sB, sC])
            refine tk 31 47 ?_ rfl rfl (by kernel_rfl) (fun _ _ _ h => h) (.inl ⟨by rfl, ?_⟩) ‹_› ?_
            rotate_left
            · (intro w hSw; (try dsimp only at hSw); go_simp; (try with_reducible rfl))
            (try simp only [Act.put, sA, sB, sC])
            refine tk 32 48 ?_ rfl rfl (by kernel_rfl) (fun _ _ _ h => h) (.inl ⟨by rfl, ?_⟩) ‹_› ?_
            rotate_left
            · (intro w hSw; (try dsimp only at hSw); go_simp; (try with_reducible rfl))
            (try simp only [Act.put, sA, sB, sC])
            refine tk 33 49 ?_ rfl rfl (by kernel_rfl) (fun _ _ _ h => h) (.inl ⟨by rfl, ?_⟩) ‹_› ?_
            rotate_left
            · (intro w hSw; (try dsimp only at hSw); go_simp; (try with_reducible rfl))
            (try simp only [Act.put, sA, sB, sC])
            refine tk 35 51 ?_ rfl rfl (by kernel_rfl) (fun _ _ _ h => h) (.inl ⟨by rfl, ?_⟩) ‹_› ?_
            rotate_left
            · (intro w hSw; (try dsimp only at hSw); go_simp; (try with_reducible rfl))
            (try simp only [Act.put, sA, sB, sC])
            refine wpAnyH_ready (rs := [34]) (by kernel_rfl) (by simp) ?_
            refine AllReadyH.cons (o := _) rfl (fun K hK => ?_) AllReadyH.nil
            go_simp
            go_at_call 13
            go_fit (length_any x HBx.out _)
            rintro e w78 ⟨rfl, hb78⟩
            rw [HLx.out]
            have hx78 := hx77.trans hb78
            clear hb78
            refine hK.out _ _ (KP _ hx78) (fun hHeld => ?_)
            clear hK K
            (try simp only [sA, sB, sC])
            refine wpAnyH_ready (rs := [36]) (by kernel_rfl) (by simp) ?_
            refine AllReadyH.cons (o := _) rfl (fun K hK => ?_) AllReadyH.nil
            go_simp
            go_at_call 13
            go_fit (length_any a HBa.out _)
            rintro e w79 ⟨rfl, hb79⟩
            rw [HLa.out]
            have hx79 := hx78.trans hb79
            clear hb79
            refine hK.out _ _ (KP _ hx79) (fun hHeld => ?_)
            clear hK K
            (try simp only [sA, sB, sC])
            refine tk 37 53 ?_ rfl rfl (by kernel_rfl) (fun _ _ _ h => h) (.inl ⟨by rfl, ?_⟩) ‹_› ?_
            rotate_left
            · (intro w hSw; (try dsimp only at hSw); go_simp; (try with_reducible rfl))
            (try simp only [Act.put, sA, sB, sC])
            refine tk 38 54 ?_ rfl rfl (by kernel_rfl) (fun _ _ _ h => h) (.inl ⟨by rfl, ?_⟩) ‹_› ?_
            rotate_left
            · (intro w hSw; (try dsimp only at hSw); go_simp; (try with_reducible rfl))
            (try simp only [Act.put, sA, sB, sC])
            refine tk 39 55 ?_ rfl rfl (by kernel_rfl) (fun _ _ _ h => h) (.inl ⟨by rfl, ?_⟩) ‹_› ?_
            rotate_left
            · (intro w hSw; (try dsimp only at hSw); go_simp; (try with_reducible rfl))
            (try simp only [Act.put, sA, sB, sC])
            refine tk 40 56 ?_ rfl rfl (by kernel_rfl) (fun _ _ _ h => h) (.inl ⟨by rfl, ?_⟩) ‹_› ?_
            rotate_left
            · (intro w hSw; (try dsimp only at hSw); go_simp; (try with_reducible rfl))
            (try simp only [Act.put, sA, sB, sC])
            refine tk 42 58 ?_ rfl rfl (by kernel_rfl) (fun _ _ _ h => h) (.inl ⟨by rfl, ?_⟩) ‹_› ?_
            rotate_left
            · (intro w hSw; (try dsimp only at hSw); go_simp; (try with_reducible rfl))
            (try simp only [Act.put, sA, sB, sC])
            refine wpAnyH_ready (rs := [41]) (by kernel_rfl) (by simp) ?_
            refine AllReadyH.cons (o := _) rfl (fun K hK => ?_) AllReadyH.nil
            go_simp
            go_at_call 13
            go_fit (length_any x HBx.out _)
            rintro e w80 ⟨rfl, hb80⟩
            rw [HLx.out]
            have hx80 := hx79.trans hb80
            clear hb80
            refine hK.out _ _ (KP _ hx80) (fun hHeld => ?_)
            clear hK K
            (try simp only [sA, sB, sC])
            refine wpAnyH_ready (rs := [43]) (by kernel_rfl) (by simp) ?_
            refine AllReadyH.cons (o := _) rfl (fun K hK => ?_) AllReadyH.nil
            go_simp
            go_at_call 13
            go_fit (length_any b HBb.out _)
            rintro e w81 ⟨rfl, hb81⟩
            rw [HLb.out]
            have hx81 := hx80.trans hb81
            clear hb81
            refine hK.out _ _ (KP _ hx81) (fun hHeld => ?_)
            clear hK K
            (try simp only [sA, sB, sC])
            refine tk 44 60 ?_ rfl rfl (by kernel_rfl) (fun _ _ _ h => h) (.inl ⟨by rfl, ?_⟩) ‹_› ?_
            rotate_left
            · (intro w hSw; (try dsimp only at hSw); go_simp; (try with_reducible rfl))
            (try simp only [Act.put, sA, sB, sC])
            refine tk 45 61 ?_ rfl rfl (by kernel_rfl) (fun _ _ _ h => h) (.inl ⟨by rfl, ?_⟩) ‹_› ?_
            rotate_left
            · (intro w hSw; (try dsimp only at hSw); go_simp; (try with_reducible rfl))
            (try simp only [Act.put, sA, sB, sC])
            refine tk 46 6 ?_ rfl rfl (by kernel_rfl) (fun _ _ _ h => h) (.inl ⟨by rfl, ?_⟩) ‹_› ?_
            rotate_left
            · (intro w hSw; (try dsimp only at hSw); go_simp; (try with_reducible rfl))
            (try simp only [Act.put, sA, sB, sC])
            refine wpAnyH_done (by kernel_rfl) ?_ _
            go_wp2
            go_ret
            exact ⟨rfl, hxW.trans (by (repeat' (first | (with_reducible assumption) | (with_reducible exact Wb.Ext.refl _) | (with_reducible refine Wb.Ext.drew ?_) | (with_reducible refine Wb.Ext.drewN ?_ _) | (with_reducible refine Wb.Ext.alloc ?_ _) | (with_reducible refine Wb.Ext.trans ?_ (by assumption)))))⟩
          refine AllReadyH.cons (o := _) rfl (fun K hK => ?_) ?_
          · go_simp
            refine atK fun w73 hw73 => ?_
            have hb73 : Wb.Ext w72 w73 := by rw [hw73]; (repeat' (first | (with_reducible assumption) | (with_reducible exact Wb.Ext.refl _) | (with_reducible refine Wb.Ext.drew ?_) | (with_reducible refine Wb.Ext.drewN ?_ _) | (with_reducible refine Wb.Ext.alloc ?_ _) | (with_reducible refine Wb.Ext.trans ?_ (by assumption))))
            have HP73 := Lib.hid (show SpL w73 (.slice (some ⟨w72.heap.size, 0, none⟩) 1 1) [a] by rw [hw73]; exact spl_cells a (by simp [go_sem]) (by simp [go_sem]))
            clear hw73
            replace HP72 := Lib.hid (HP72.out.ext hb73)
            have hx73 := hx72.trans hb73
            clear hb73
            refine hK.out _ _ (KP _ hx73) (fun hHeld => ?_)
            clear hK K
            (try simp only [sA, sB, sC])
            refine wpAnyH_ready (rs := [25]) (by kernel_rfl) (by simp) ?_
            refine AllReadyH.cons (o := _) rfl (fun K hK => ?_) AllReadyH.nil
            go_simp
            go_at_call 17
            go_fit (all_any _ r72 _ HP72.out (by omega))
            rintro e w74 ⟨v74, rfl, hp74, hb74⟩
            obtain ⟨sa74, sc74, rfl⟩ := hp74.1.shape
            replace HP72 := Lib.hid (HP72.out.ext hb74)
            replace HP73 := Lib.hid (HP73.out.ext hb74)
            have hx74 := hx73.trans hb74
            clear hb74
            have HP74 := Lib.hid hp74
            clear hp74
            refine hK.out _ _ (KP _ hx74) (fun hHeld => ?_)
            clear hK K
            (try simp only [sA, sB, sC])
            refine wpAnyH_ready (rs := [28]) (by kernel_rfl) (by simp) ?_
            refine AllReadyH.cons (o := _) rfl (fun K hK => ?_) AllReadyH.nil
            go_simp
            go_at_call 14
            go_fit (of_any _ [a] _ HP73.out (by intro yy hyy; simp at hyy; subst hyy; exact HBa.out) (by simp))
            rintro e w75 ⟨v75, r75, rfl, hs75, hp75, hb75⟩
            obtain ⟨sa75, sc75, rfl⟩ := hp75.1.shape
            have HS75 := Lib.hid hs75
            have hl75 : r75.length ≤ 1 := by have := hs75.len; (try simp only [List.length_cons, List.length_nil] at this); omega
            have HE75 := Lib.hid (has_of hs75)
            replace HP73 := Lib.hid (HP73.out.ext hb75)
            replace HP74 := Lib.hid (HP74.out.ext hb75)
            have hx75 := hx74.trans hb75
            clear hb75
            have HP75 := Lib.hid hp75
            clear hs75 hp75
            refine hK.out _ _ (KP _ hx75) (fun hHeld => ?_)
            clear hK K
            (try simp only [sA, sB, sC])
            refine wpAnyH_ready (rs := [29]) (by kernel_rfl) (by simp) ?_
            refine AllReadyH.cons (o := _) rfl (fun K hK => ?_) AllReadyH.nil
            go_simp
            go_at_call 17
            go_fit (all_any _ r75 _ HP75.out (by omega))
            rintro e w76 ⟨v76, rfl, hp76, hb76⟩
            obtain ⟨sa76, sc76, rfl⟩ := hp76.1.shape
            replace HP74 := Lib.hid (HP74.out.ext hb76)
            replace HP75 := Lib.hid (HP75.out.ext hb76)
            have hx76 := hx75.trans hb76
            clear hb76
            have HP76 := Lib.hid hp76
            clear hp76
            refine hK.out _ _ (KP _ hx76) (fun hHeld => ?_)
            clear hK K
            (try simp only [sA, sB, sC])
            refine wpAnyH_ready (rs := [30]) (by kernel_rfl) (by simp) ?_
            refine AllReadyH.cons (o := _) rfl (fun K hK => ?_) AllReadyH.nil
            go_simp
            go_at_call 16
            go_fit (same2_any _ _ r72 r75 _ (canon_eq HS75.out.canon HS72.out.canon (fun d => by rw [HE75.out d, HE72.out d]; exact (HF71.out.2 d).symm)) HP74.out.1 HP76.out.1 (by omega))
            rintro e w77 ⟨rfl, hb77⟩
            have hx77 := hx76.trans hb77
            clear hb77
            refine hK.out _ _ (KP _ hx77) (fun hHeld => ?_)
            clear hK K
            (try simp only [sA, sB, sC])
            refine tk 31 47 ?_ rfl rfl (by kernel_rfl) (fun _ _ _ h => h) (.inl ⟨by rfl, ?_⟩) ‹_› ?_
            rotate_left
            · (intro w hSw; (try dsimp only at hSw); go_simp; (try with_reducible rfl))
            (try simp only [Act.put, sA, sB, sC])
            refine tk 32 48 ?_ rfl rfl (by kernel_rfl) (fun _ _ _ h => h) (.inl ⟨by rfl, ?_⟩) ‹_› ?_
            rotate_left
            · (intro w hSw; (try dsimp only at hSw); go_simp; (try with_reducible rfl))
            (try simp only [Act.put, sA, sB, sC])
            refine tk 33 49 ?_ rfl rfl (by kernel_rfl) (fun _ _ _ h => h) (.inl ⟨by rfl, ?_⟩) ‹_› ?_
            rotate_left
            · (intro w hSw; (try dsimp only at hSw); go_simp; (try with_reducible rfl))
            (try simp only [Act.put, sA, sB, sC])
            refine tk 35 51 ?_ rfl rfl (by kernel_rfl) (fun _ _ _ h => h) (.inl ⟨by rfl, ?_⟩) ‹_› ?_
            rotate_left
            · (intro w hSw; (try dsimp only at hSw); go_simp; (try with_reducible rfl))
            (try simp only [Act.put, sA, sB, sC])
            refine wpAnyH_ready (rs := [34]) (by kernel_rfl) (by simp) ?_
            refine AllReadyH.cons (o := _) rfl (fun K hK => ?_) AllReadyH.nil
            go_simp
            go_at_call 13
            go_fit (length_any x HBx.out _)
            rintro e w78 ⟨rfl, hb78⟩
            rw [HLx.out]
            have hx78 := hx77.trans hb78
            clear hb78
            refine hK.out _ _ (KP _ hx78) (fun hHeld => ?_)
            clear hK K
            (try simp only [sA, sB, sC])
            refine wpAnyH_ready (rs := [36]) (by kernel_rfl) (by simp) ?_
            refine AllReadyH.cons (o := _) rfl (fun K hK => ?_) AllReadyH.nil
            go_simp
            go_at_call 13
            go_fit (length_any a HBa.out _)
            rintro e w79 ⟨rfl, hb79⟩
            rw [HLa.out]
            have hx79 := hx78.trans hb79
            clear hb79
            refine hK.out _ _ (KP _ hx79) (fun hHeld => ?_)
            clear hK K
            (try simp only [sA, sB, sC])
            refine tk 37 53 ?_ rfl rfl (by kernel_rfl) (fun _ _ _ h => h) (.inl ⟨by rfl, ?_⟩) ‹_› ?_
            rotate_left
            · (intro w hSw; (try dsimp only at hSw); go_simp; (try with_reducible rfl))
            (try simp only [Act.put, sA, sB, sC])
            refine tk 38 54 ?_ rfl rfl (by kernel_rfl) (fun _ _ _ h => h) (.inl ⟨by rfl, ?_⟩) ‹_› ?_
            rotate_left
            · (intro w hSw; (try dsimp only at hSw); go_simp; (try with_reducible rfl))
            (try simp only [Act.put, sA, sB, sC])
            refine tk 39 55 ?_ rfl rfl (by kernel_rfl) (fun _ _ _ h => h) (.inl ⟨by rfl, ?_⟩) ‹_› ?_
            rotate_left
            · (intro w hSw; (try dsimp only at hSw); go_simp; (try with_reducible rfl))
            (try simp only [Act.put, sA, sB, sC])
            refine tk 40 56 ?_ rfl rfl (by kernel_rfl) (fun _ _ _ h => h) (.inl ⟨by rfl, ?_⟩) ‹_› ?_
            rotate_left
            · (intro w hSw; (try dsimp only at hSw); go_simp; (try with_reducible rfl))
            (try simp only [Act.put, sA, sB, sC])
            refine tk 42 58 ?_ rfl rfl (by kernel_rfl) (fun _ _ _ h => h) (.inl ⟨by rfl, ?_⟩) ‹_› ?_
            rotate_left
            · (intro w hSw; (try dsimp only at hSw); go_simp; (try with_reducible rfl))
            (try simp only [Act.put, sA, sB, sC])
            refine wpAnyH_ready (rs := [41]) (by kernel_rfl) (by simp) ?_
            refine AllReadyH.cons (o := _) rfl (fun K hK => ?_) AllReadyH.nil
            go_simp
            go_at_call 13
            go_fit (length_any x HBx.out _)
            rintro e w80 ⟨rfl, hb80⟩
            rw [HLx.out]
            have hx80 := hx79.trans hb80
            clear hb80
            refine hK.out _ _ (KP _ hx80) (fun hHeld => ?_)
            clear hK K
            (try simp only [sA, sB, sC])
            refine wpAnyH_ready (rs := [43]) (by kernel_rfl) (by simp) ?_
            refine AllReadyH.cons (o := _) rfl (fun K hK => ?_) AllReadyH.nil
            go_simp
            go_at_call 13
            go_fit (length_any b HBb.out _)
            rintro e w81 ⟨rfl, hb81⟩
            rw [HLb.out]
            have hx81 := hx80.trans hb81
            clear hb81
            refine hK.out _ _ (KP _ hx81) (fun hHeld => ?_)
            clear hK K
            (try simp only [sA, sB, sC])
            refine tk 44 60 ?_ rfl rfl (by kernel_rfl) (fun _ _ _ h => h) (.inl ⟨by rfl, ?_⟩) ‹_› ?_
            rotate_left
            · (intro w hSw; (try dsimp only at hSw); go_simp; (try with_reducible rfl))
            (try simp only [Act.put, sA, sB, sC])
            refine tk 45 61 ?_ rfl rfl (by kernel_rfl) (fun _ _ _ h => h) (.inl ⟨by rfl, ?_⟩) ‹_› ?_
            rotate_left
            · (intro w hSw; (try dsimp only at hSw); go_simp; (try with_reducible rfl))
            (try simp only [Act.put, sA, sB, sC])
            refine tk 46 6 ?_ rfl rfl (by kernel_rfl) (fun _ _ _ h => h) (.inl ⟨by rfl, ?_⟩) ‹_› ?_
            rotate_left
            · (intro w hSw; (try dsimp only at hSw); go_simp; (try with_reducible rfl))
            (try simp only [Act.put, sA, sB, sC])
            refine wpAnyH_done (by kernel_rfl) ?_ _
            go_wp2
            go_ret
            exact ⟨rfl, hxW.trans (by (repeat' (first | (with_reducible assumption) | (with_reducible exact Wb.Ext.refl _) | (with_reducible refine Wb.Ext.drew ?_) | (with_reducible refine Wb.Ext.drewN ?_ _) | (with_reducible refine Wb.Ext.alloc ?_ _) | (with_reducible refine Wb.Ext.trans ?_ (by assumption)))))⟩
          exact AllReadyH.nil
        refine AllReadyH.cons (o := _) rfl (fun K hK => ?_) ?_
        · go_simp
          refine atK fun w72 hw72 => ?_
          have hb72 : Wb.Ext w71 w72 := by rw [hw72]; (repeat' (first | (with_reducible assumption) | (with_reducible exact Wb.Ext.refl _) | (with_reducible refine Wb.Ext.drew ?_) | (with_reducible refine Wb.Ext.drewN ?_ _) | (with_reducible refine Wb.Ext.alloc ?_ _) | (with_reducible refine Wb.Ext.trans ?_ (by assumption))))
          have HP72 := Lib.hid (show SpL w72 (.slice (some ⟨w71.heap.size, 0, none⟩) 1 1) [a] by rw [hw72]; exact spl_cells a (by simp [go_sem]) (by simp [go_sem]))
          clear hw72
          replace HP71 := Lib.hid (HP71.out.ext hb72)
          have hx72 := hx71.trans hb72
          clear hb72
          refine hK.out _ _ (KP _ hx72) (fun hHeld => ?_)
          clear hK K
          (try simp only [sA, sB, sC])
          refine wpAnyH_ready (rs := [24]) (by kernel_rfl) (by simp) ?_
          refine AllReadyH.cons (o := _) rfl (fun K hK => ?_) AllReadyH.nil
          go_simp
          go_at_call 14
          go_fit (of_any _ r71 _ HP71.out HF71.out.1 (by omega))
          rintro e w73 ⟨v73, r73, rfl, hs73, hp73, hb73⟩
          obtain ⟨sa73, sc73, rfl⟩ := hp73.1.shape
          have HS73 := Lib.hid hs73
          have hl73 : r73.length ≤ 61 := by have := hs73.len; (try simp only [List.length_cons, List.length_nil] at this); omega
          have HE73 := Lib.hid (has_of hs73)
          replace HP71 := Lib.hid (HP71.out.ext hb73)
          replace HP72 := Lib.hid (HP72.out.ext hb73)
          have hx73 := hx72.trans hb73
          clear hb73
          have HP73 := Lib.hid hp73
          clear hs73 hp73
          refine hK.out _ _ (KP _ hx73) (fun hHeld => ?_)
          clear hK K
          (try simp only [sA, sB, sC])
          refine wpAnyH_ready (rs := [25]) (by kernel_rfl) (by simp) ?_
          refine AllReadyH.cons (o := _) rfl (fun K hK => ?_) AllReadyH.nil
          go_simp
          go_at_call 17
          go_fit (all_any _ r73 _ HP73.out (by omega))
          rintro e w74 ⟨v74, rfl, hp74, hb74⟩
          obtain ⟨sa74, sc74, rfl⟩ := hp74.1.shape
          replace HP72 := Lib.hid (HP72.out.ext hb74)
          replace HP73 := Lib.hid (HP73.out.ext hb74)
          have hx74 := hx73.trans hb74
          clear hb74
          have HP74 := Lib.hid hp74
          clear hp74
          refine hK.out _ _ (KP _ hx74) (fun hHeld => ?_)
          clear hK K
          (try simp only [sA, sB, sC])
          refine wpAnyH_ready (rs := [28]) (by kernel_rfl) (by simp) ?_
          refine AllReadyH.cons (o := _) rfl (fun K hK => ?_) AllReadyH.nil
          go_simp
          go_at_call 14
          go_fit (of_any _ [a] _ HP72.out (by intro yy hyy; simp at hyy; subst hyy; exact HBa.out) (by simp))
          rintro e w75 ⟨v75, r75, rfl, hs75, hp75, hb75⟩
          obtain ⟨sa75, sc75, rfl⟩ := hp75.1.shape
          have HS75 := Lib.hid hs75
          have hl75 : r75.length ≤ 1 := by have := hs75.len; (try simp only [List.length_cons, List.length_nil] at this); omega
          have HE75 := Lib.hid (has_of hs75)
          replace HP72 := Lib.hid (HP72.out.ext hb75)
          replace HP74 := Lib.hid (HP74.out.ext hb75)
          have hx75 := hx74.trans hb75
          clear hb75
          have HP75 := Lib.hid hp75
          clear hs75 hp75
          refine hK.out _ _ (KP _ hx75) (fun hHeld => ?_)
          clear hK K
          (try simp only [sA, sB, sC])
          refine wpAnyH_ready (rs := [29]) (by kernel_rfl) (by simp) ?_
          refine AllReadyH.cons (o := _) rfl (fun K hK => ?_) AllReadyH.nil
          go_simp
          go_at_call 17
          go_fit (all_any _ r75 _ HP75.out (by omega))
          rintro e w76 ⟨v76, rfl, hp76, hb76⟩
          obtain ⟨sa76, sc76, rfl⟩ := hp76.1.shape
          replace HP74 := Lib.hid (HP74.out.ext hb76)
          replace HP75 := Lib.hid (HP75.out.ext hb76)
          have hx76 := hx75.trans hb76
          clear hb76
          have HP76 := Lib.hid hp76
          clear hp76
          refine hK.out _ _ (KP _ hx76) (fun hHeld => ?_)
          clear hK K
          (try simp only [sA, sB, sC])
          refine wpAnyH_ready (rs := [30]) (by kernel_rfl) (by simp) ?_
          refine AllReadyH.cons (o := _) rfl (fun K hK => ?_) AllReadyH.nil
          go_simp
          go_at_call 16
          go_fit (same2_any _ _ r73 r75 _ (canon_eq HS75.out.canon HS73.out.canon (fun d => by rw [HE75.out d, HE73.out d]; exact (HF71.out.2 d).symm)) HP74.out.1 HP76.out.1 (by omega))
          rintro e w77 ⟨rfl, hb77⟩
          have hx77 := hx76.trans hb77
          clear hb77
          refine hK.out _ _ (KP _ hx77) (fun hHeld => ?_)
          clear hK K
          (try simp only [sA, sB, sC])
          refine tk 31 47 ?_ rfl rfl (by kernel_rfl) (fun _ _ _ h => h) (.inl ⟨by rfl, ?_⟩) ‹_› ?_
          rotate_left
          · (intro w hSw; (try dsimp only at hSw); go_simp; (try with_reducible rfl))
          (try simp only [Act.put, sA, sB, sC])
          refine tk 32 48 ?_ rfl rfl (by kernel_rfl) (fun _ _ _ h => h) (.inl ⟨by rfl, ?_⟩) ‹_› ?_
          rotate_left
          · (intro w hSw; (try dsimp only at hSw); go_simp; (try with_reducible rfl))
          (try simp only [Act.put, sA, sB, sC])
          refine tk 33 49 ?_ rfl rfl (by kernel_rfl) (fun _ _ _ h => h) (.inl ⟨by rfl, ?_⟩) ‹_› ?_
          rotate_left
          · (intro w hSw; (try dsimp only at hSw); go_simp; (try with_reducible rfl))
          (try simp only [Act.put, sA, sB, sC])
          refine tk 35 51 ?_ rfl rfl (by kernel_rfl) (fun _ _ _ h => h) (.inl ⟨by rfl, ?_⟩) ‹_› ?_
          rotate_left
          · (intro w hSw; (try dsimp only at hSw); go_simp; (try with_reducible rfl))
          (try simp only [Act.put, sA, sB, sC])
          refine wpAnyH_ready (rs := [34]) (by kernel_rfl) (by simp) ?_
          refine AllReadyH.cons (o := _) rfl (fun K hK => ?_) AllReadyH.nil
          go_simp
          go_at_call 13
          go_fit (length_any x HBx.out _)
          rintro e w78 ⟨rfl, hb78⟩
          rw [HLx.out]
          have hx78 := hx77.trans hb78
          clear hb78
          refine hK.out _ _ (KP _ hx78) (fun hHeld => ?_)
          clear hK K
          (try simp only [sA, sB, sC])
          refine wpAnyH_ready (rs := [36]) (by kernel_rfl) (by simp) ?_
          refine AllReadyH.cons (o := _) rfl (fun K hK => ?_) AllReadyH.nil
          go_simp
          go_at_call 13
          go_fit (length_any a HBa.out _)
          rintro e w79 ⟨rfl, hb79⟩
          rw [HLa.out]
          have hx79 := hx78.trans hb79
          clear hb79
          refine hK.out _ _ (KP _ hx79) (fun hHeld => ?_)
          clear hK K
          (try simp only [sA, sB, sC])
          refine tk 37 53 ?_ rfl rfl (by kernel_rfl) (fun _ _ _ h => h) (.inl ⟨by rfl, ?_⟩) ‹_› ?_
          rotate_left
          · (intro w hSw; (try dsimp only at hSw); go_simp; (try with_reducible rfl))
          (try simp only [Act.put, sA, sB, sC])
          refine tk 38 54 ?_ rfl rfl (by kernel_rfl) (fun _ _ _ h => h) (.inl ⟨by rfl, ?_⟩) ‹_› ?_
          rotate_left
          · (intro w hSw; (try dsimp only at hSw); go_simp; (try with_reducible rfl))
          (try simp only [Act.put, sA, sB, sC])
          refine tk 39 55 ?_ rfl rfl (by kernel_rfl) (fun _ _ _ h => h) (.inl ⟨by rfl, ?_⟩) ‹_› ?_
          rotate_left
          · (intro w hSw; (try dsimp only at hSw); go_simp; (try with_reducible rfl))
          (try simp only [Act.put, sA, sB, sC])
          refine tk 40 56 ?_ rfl rfl (by kernel_rfl) (fun _ _ _ h => h) (.inl ⟨by rfl, ?_⟩) ‹_› ?_
          rotate_left
          · (intro w hSw; (try dsimp only at hSw); go_simp; (try with_reducible rfl))
          (try simp only [Act.put, sA, sB, sC])
          refine tk 42 58 ?_ rfl rfl (by kernel_rfl) (fun _ _ _ h => h) (.inl ⟨by rfl, ?_⟩) ‹_› ?_
          rotate_left
          · (intro w hSw; (try dsimp only at hSw); go_simp; (try with_reducible rfl))
          (try simp only [Act.put, sA, sB, sC])
          refine wpAnyH_ready (rs := [41]) (by kernel_rfl) (by simp) ?_
          refine AllReadyH.cons (o := _) rfl (fun K hK => ?_) AllReadyH.nil
          go_simp
          go_at_call 13
          go_fit (length_any x HBx.out _)
          rintro e w80 ⟨rfl, hb80⟩
          rw [HLx.out]
          have hx80 := hx79.trans hb80
          clear hb80
          refine hK.out _ _ (KP _ hx80) (fun hHeld => ?_)
          clear hK K
          (try simp only [sA, sB, sC])
          refine wpAnyH_ready (rs := [43]) (by kernel_rfl) (by simp) ?_
          refine AllReadyH.cons (o := _) rfl (fun K hK => ?_) AllReadyH.nil
          go_simp
          go_at_call 13
          go_fit (length_any b HBb.out _)
          rintro e w81 ⟨rfl, hb81⟩
          rw [HLb.out]
          have hx81 := hx80.trans hb81
          clear hb81
          refine hK.out _ _ (KP _ hx81) (fun hHeld => ?_)
          clear hK K
          (try simp only [sA, sB, sC])
          refine tk 44 60 ?_ rfl rfl (by kernel_rfl) (fun _ _ _ h => h) (.inl ⟨by rfl, ?_⟩) ‹_› ?_
          rotate_left
          · (intro w hSw; (try dsimp only at hSw); go_simp; (try with_reducible rfl))
          (try simp only [Act.put, sA, sB, sC])
          refine tk 45 61 ?_ rfl rfl (by kernel_rfl) (fun _ _ _ h => h) (.inl ⟨by rfl, ?_⟩) ‹_› ?_
          rotate_left
          · (intro w hSw; (try dsimp only at hSw); go_simp; (try with_reducible rfl))
          (try simp only [Act.put, sA, sB, sC])
          refine tk 46 6 ?_ rfl rfl (by kernel_rfl) (fun _ _ _ h => h) (.inl ⟨by rfl, ?_⟩) ‹_› ?_
          rotate_left
          · (intro w hSw; (try dsimp only at hSw); go_simp; (try with_reducible rfl))
          (try simp only [Act.put, sA, sB, sC])
          refine wpAnyH_done (by kernel_rfl) ?_ _
          go_wp2
          go_ret
          exact ⟨rfl, hxW.trans (by (repeat' (first | (with_reducible assumption) | (with_reducible exact Wb.Ext.refl _) | (with_reducible refine Wb.Ext.drew ?_) | (with_reducible refine Wb.Ext.drewN ?_ _) | (with_reducible refine Wb.Ext.alloc ?_ _) | (with_reducible refine Wb.Ext.trans ?_ (by assumption)))))⟩
        exact AllReadyH.nil
      refine AllReadyH.cons (o := _) rfl (fun K hK => ?_) ?_
      · go_simp
        refine atK fun w71 hw71 => ?_
        have hb71 : Wb.Ext wm w71 := by rw [hw71]; (repeat' (first | (with_reducible assumption) | (with_reducible exact Wb.Ext.refl _) | (with_reducible refine Wb.Ext.drew ?_) | (with_reducible refine Wb.Ext.drewN ?_ _) | (with_reducible refine Wb.Ext.alloc ?_ _) | (with_reducible refine Wb.Ext.trans ?_ (by assumption))))
        have HP71 := Lib.hid (show SpL w71 (.slice (some ⟨wm.heap.size, 0, none⟩) 1 1) [a] by rw [hw71]; exact spl_cells a (by simp [go_sem]) (by simp [go_sem]))
        clear hw71
        have hx71 := hxm.trans hb71
        clear hb71
        refine hK.out _ _ (KP _ hx71) (fun hHeld => ?_)
        clear hK K
        (try simp only [sA, sB, sC])
        refine wpAnyH_ready (rs := [23]) (by kernel_rfl) (by simp) ?_
        refine AllReadyH.cons (o := _) rfl (fun K hK => ?_) AllReadyH.nil
        go_simp
        go_at_call 12
        go_fit (ppieces_any a _ c _ (HVc.out.ext (by (repeat' (first | (with_reducible assumption) | (with_reducible exact Wb.Ext.refl _) | (with_reducible refine Wb.Ext.drew ?_) | (with_reducible refine Wb.Ext.drewN ?_ _) | (with_reducible refine Wb.Ext.alloc ?_ _) | (with_reducible refine Wb.Ext.trans ?_ (by assumption)))))) (by omega))
        rintro e w72 ⟨v72, rfl, r72, hs72⟩
        obtain ⟨sa72, sc72, rfl⟩ := hs72.row.1.shape
        have hb72 := hs72.ext
        have HS72 := Lib.hid hs72
        have hl72 : r72.length ≤ 61 := by have := hs72.len; omega
        have HF72 := Lib.hid (pcs_has HBa.out HS72.out)
        replace HP71 := Lib.hid (HP71.out.ext hb72)
        have hx72 := hx71.trans hb72
        clear hb72
        have HP72 := Lib.hid hs72.row
        clear hs72
        refine hK.out _ _ (KP _ hx72) (fun hHeld => ?_)
        clear hK K
        (try simp only [sA, sB, sC])
        refine wpAnyH_ready (rs := [24]) (by kernel_rfl) (by simp) ?_
        refine AllReadyH.cons (o := _) rfl (fun K hK => ?_) AllReadyH.nil
        go_simp
        go_at_call 14
        go_fit (of_any _ r72 _ HP72.out HF72.out.1 (by omega))
        rintro e w73 ⟨v73, r73, rfl, hs73, hp73, hb73⟩
        obtain ⟨sa73, sc73, rfl⟩ := hp73.1.shape
        have HS73 := Lib.hid hs73
        have hl73 : r73.length ≤ 61 := by have := hs73.len; (try simp only [List.length_cons, List.length_nil] at this); omega
        have HE73 := Lib.hid (has_of hs73)
        replace HP71 := Lib.hid (HP71.out.ext hb73)
        replace HP72 := Lib.hid (HP72.out.ext hb73)
        have hx73 := hx72.trans hb73
        clear hb73
        have HP73 := Lib.hid hp73
        clear hs73 hp73
        refine hK.out _ _ (KP _ hx73) (fun hHeld => ?_)
        clear hK K
        (try simp only [sA, sB, sC])
        refine wpAnyH_ready (rs := [25]) (by kernel_rfl) (by simp) ?_
        refine AllReadyH.cons (o := _) rfl (fun K hK => ?_) AllReadyH.nil
        go_simp
        go_at_call 17
        go_fit (all_any _ r73 _ HP73.out (by omega))
        rintro e w74 ⟨v74, rfl, hp74, hb74⟩
        obtain ⟨sa74, sc74, rfl⟩ := hp74.1.shape
        replace HP71 := Lib.hid (HP71.out.ext hb74)
        replace HP73 := Lib.hid (HP73.out.ext hb74)
        have hx74 := hx73.trans hb74
        clear hb74
        have HP74 := Lib.hid hp74
        clear hp74
        refine hK.out _ _ (KP _ hx74) (fun hHeld => ?_)
        clear hK K
        (try simp only [sA, sB, sC])
        refine wpAnyH_ready (rs := [28]) (by kernel_rfl) (by simp) ?_
        refine AllReadyH.cons (o := _) rfl (fun K hK => ?_) AllReadyH.nil
        go_simp
        go_at_call 14
        go_fit (of_any _ [a] _ HP71.out (by intro yy hyy; simp at hyy; subst hyy; exact HBa.out) (by simp))
        rintro e w75 ⟨v75, r75, rfl, hs75, hp75, hb75⟩
        obtain ⟨sa75, sc75, rfl⟩ := hp75.1.shape
        have HS75 := Lib.hid hs75
        have hl75 : r75.length ≤ 1 := by have := hs75.len; (try simp only [List.length_cons, List.length_nil] at this); omega
        have HE75 := Lib.hid (has_of hs75)
        replace HP71 := Lib.hid (HP71.out.ext hb75)
        replace HP74 := Lib.hid (HP74.out.ext hb75)
        have hx75 := hx74.trans hb75
        clear hb75
        have HP75 := Lib.hid hp75
        clear hs75 hp75
        refine hK.out _ _ (KP _ hx75) (fun hHeld => ?_)
        clear hK K
        (try simp only [sA, sB, sC])
        refine wpAnyH_ready (rs := [29]) (by kernel_rfl) (by simp) ?_
        refine AllReadyH.cons (o := _) rfl (fun K hK => ?_) AllReadyH.nil
        go_simp
        go_at_call 17
        go_fit (all_any _ r75 _ HP75.out (by omega))
        rintro e w76 ⟨v76, rfl, hp76, hb76⟩
        obtain ⟨sa76, sc76, rfl⟩ := hp76.1.shape
        replace HP74 := Lib.hid (HP74.out.ext hb76)
        replace HP75 := Lib.hid (HP75.out.ext hb76)
        have hx76 := hx75.trans hb76
        clear hb76
        have HP76 := Lib.hid hp76
        clear hp76
        refine hK.out _ _ (KP _ hx76) (fun hHeld => ?_)
        clear hK K
        (try simp only [sA, sB, sC])
        refine wpAnyH_ready (rs := [30]) (by kernel_rfl) (by simp) ?_
        refine AllReadyH.cons (o := _) rfl (fun K hK => ?_) AllReadyH.nil
        go_simp
        go_at_call 16
        go_fit (same2_any _ _ r73 r75 _ (canon_eq HS75.out.canon HS73.out.canon (fun d => by rw [HE75.out d, HE73.out d]; exact (HF72.out.2 d).symm)) HP74.out.1 HP76.out.1 (by omega))
        rintro e w77 ⟨rfl, hb77⟩
        have hx77 := hx76.trans hb77
        clear hb77
        refine hK.out _ _ (KP _ hx77) (fun hHeld => ?_)
        clear hK K
        (try simp only [sA, sB, sC])
        refine tk 31 47 ?_ rfl rfl (by kernel_rfl) (fun _ _ _ h => h) (.inl ⟨by rfl, ?_⟩) ‹_› ?_
        rotate_left
        · (intro w hSw; (try dsimp only at hSw); go_simp; (try with_reducible rfl))
        (try simp only [Act.put, sA, sB, sC])
        refine tk 32 48 ?_ rfl rfl (by kernel_rfl) (fun _ _ _ h => h) (.inl ⟨by rfl, ?_⟩) ‹_› ?_
        rotate_left
        · (intro w hSw; (try dsimp only at hSw); go_simp; (try with_reducible rfl))
        (try simp only [Act.put, sA, sB, sC])
        refine tk 33 49 ?_ rfl rfl (by kernel_rfl) (fun _ _ _ h => h) (.inl ⟨by rfl, ?_⟩) ‹_› ?_
        rotate_left
        · (intro w hSw; (try dsimp only at hSw); go_simp; (try with_reducible rfl))
        (try simp only [Act.put, sA, sB, sC])
        refine tk 35 51 ?_ rfl rfl (by kernel_rfl) (fun _ _ _ h => h) (.inl ⟨by rfl, ?_⟩) ‹_› ?_
        rotate_left
        · (intro w hSw; (try dsimp only at hSw); go_simp; (try with_reducible rfl))
        (try simp only [Act.put, sA, sB, sC])
        refine wpAnyH_ready (rs := [34]) (by kernel_rfl) (by simp) ?_
        refine AllReadyH.cons (o := _) rfl (fun K hK => ?_) AllReadyH.nil
        go_simp
        go_at_call 13
        go_fit (length_any x HBx.out _)
        rintro e w78 ⟨rfl, hb78⟩
        rw [HLx.out]
        have hx78 := hx77.trans hb78
        clear hb78
        refine hK.out _ _ (KP _ hx78) (fun hHeld => ?_)
        clear hK K
        (try simp only [sA, sB, sC])
        refine wpAnyH_ready (rs := [36]) (by kernel_rfl) (by simp) ?_
        refine AllReadyH.cons (o := _) rfl (fun K hK => ?_) AllReadyH.nil
        go_simp
        go_at_call 13
        go_fit (length_any a HBa.out _)
        rintro e w79 ⟨rfl, hb79⟩
        rw [HLa.out]
        have hx79 := hx78.trans hb79
        clear hb79
        refine hK.out _ _ (KP _ hx79) (fun hHeld => ?_)
        clear hK K
        (try simp only [sA, sB, sC])
        refine tk 37 53 ?_ rfl rfl (by kernel_rfl) (fun _ _ _ h => h) (.inl ⟨by rfl, ?_⟩) ‹_› ?_
        rotate_left
        · (intro w hSw; (try dsimp only at hSw); go_simp; (try with_reducible rfl))
        (try simp only [Act.put, sA, sB, sC])
        refine tk 38 54 ?_ rfl rfl (by kernel_rfl) (fun _ _ _ h => h) (.inl ⟨by rfl, ?_⟩) ‹_› ?_
        rotate_left
        · (intro w hSw; (try dsimp only at hSw); go_simp; (try with_reducible rfl))
        (try simp only [Act.put, sA, sB, sC])
        refine tk 39 55 ?_ rfl rfl (by kernel_rfl) (fun _ _ _ h => h) (.inl ⟨by rfl, ?_⟩) ‹_› ?_
        rotate_left
        · (intro w hSw; (try dsimp only at hSw); go_simp; (try with_reducible rfl))
        (try simp only [Act.put, sA, sB, sC])
        refine tk 40 56 ?_ rfl rfl (by kernel_rfl) (fun _ _ _ h => h) (.inl ⟨by rfl, ?_⟩) ‹_› ?_
        rotate_left
        · (intro w hSw; (try dsimp only at hSw); go_simp; (try with_reducible rfl))
        (try simp only [Act.put, sA, sB, sC])
        refine tk 42 58 ?_ rfl rfl (by kernel_rfl) (fun _ _ _ h => h) (.inl ⟨by rfl, ?_⟩) ‹_› ?_
        rotate_left
        · (intro w hSw; (try dsimp only at hSw); go_simp; (try with_reducible rfl))
        (try simp only [Act.put, sA, sB, sC])
        refine wpAnyH_ready (rs := [41]) (by kernel_rfl) (by simp) ?_
        refine AllReadyH.cons (o := _) rfl (fun K hK => ?_) AllReadyH.nil
        go_simp
        go_at_call 13
        go_fit (length_any x HBx.out _)
        rintro e w80 ⟨rfl, hb80⟩
        rw [HLx.out]
        have hx80 := hx79.trans hb80
        clear hb80
        refine hK.out _ _ (KP _ hx80) (fun hHeld => ?_)
        clear hK K
        (try simp only [sA, sB, sC])
        refine wpAnyH_ready (rs := [43]) (by kernel_rfl) (by simp) ?_
        refine AllReadyH.cons (o := _) rfl (fun K hK => ?_) AllReadyH.nil
        go_simp
        go_at_call 13
        go_fit (length_any b HBb.out _)
        rintro e w81 ⟨rfl, hb81⟩
        rw [HLb.out]
        have hx81 := hx80.trans hb81
        clear hb81
        refine hK.out _ _ (KP _ hx81) (fun hHeld => ?_)
        clear hK K
        (try simp only [sA, sB, sC])
        refine tk 44 60 ?_ rfl rfl (by kernel_rfl) (fun _ _ _ h => h) (.inl ⟨by rfl, ?_⟩) ‹_› ?_
        rotate_left
        · (intro w hSw; (try dsimp only at hSw); go_simp; (try with_reducible rfl))
        (try simp only [Act.put, sA, sB, sC])
        refine tk 45 61 ?_ rfl rfl (by kernel_rfl) (fun _ _ _ h => h) (.inl ⟨by rfl, ?_⟩) ‹_› ?_
        rotate_left
        · (intro w hSw; (try dsimp only at hSw); go_simp; (try with_reducible rfl))
        (try simp only [Act.put, sA, sB, sC])
        refine tk 46 6 ?_ rfl rfl (by kernel_rfl) (fun _ _ _ h => h) (.inl ⟨by rfl, ?_⟩) ‹_› ?_
        rotate_left
        · (intro w hSw; (try dsimp only at hSw); go_simp; (try with_reducible rfl))
        (try simp only [Act.put, sA, sB, sC])
        refine wpAnyH_done (by kernel_rfl) ?_ _
        go_wp2
        go_ret
        exact ⟨rfl, hxW.trans (by (repeat' (first | (with_reducible assumption) | (with_reducible exact Wb.Ext.refl _) | (with_reducible refine Wb.Ext.drew ?_) | (with_reducible refine Wb.Ext.drewN ?_ _) | (with_reducible refine Wb.Ext.alloc ?_ _) | (with_reducible refine Wb.Ext.trans ?_ (by assumption)))))⟩
      exact AllReadyH.nil
    subst hops
    subst hQ
    refine region_start (S := (fun w' => w'.cell? ⟨W.heap.size, 0, none⟩ = some (.int .i64 a.1) ∧ w'.cell? ⟨W.heap.size, 1, none⟩ = some (.int .i64 a.2) ∧ w'.cell? ⟨W.heap.size + 1, 0, none⟩ = some (.int .i64 b.1) ∧ w'.cell? ⟨W.heap.size + 1, 1, none⟩ = some (.int .i64 b.2) ∧ w'.cell? ⟨w1.heap.size, 0, none⟩ = some (.int .i64 x.1) ∧ w'.cell? ⟨w1.heap.size, 1, none⟩ = some (.int .i64 x.2))) (n := 47) (l := #[false, false, false, false, false, false, false, false, false, false, false, false, false, false, false, false, false, false, false, false, false, false, false, false, false, false, false, false, false, false, false, false, false, false, false, false, false, false, false, false, false, false, false, false, false, false, false]) (by kernel_rfl) ⟨za0, za1, zb0, zb1, zx0, zx1⟩ (by kernel_rfl) (by kernel_rfl) (fun hHeld => ?_)
    refine tk 0 16 ?_ rfl rfl (by kernel_rfl) (fun _ _ _ h => h) (.inl ⟨by rfl, ?_⟩) ‹_› ?_
    rotate_left
    · (intro w hSw; (try dsimp only at hSw); go_simp; (try with_reducible rfl))
    (try simp only [Act.put, sA, sB, sC])
    refine tk 1 17 ?_ rfl rfl (by kernel_rfl) (fun _ _ _ h => h) (.inl ⟨by rfl, ?_⟩) ‹_› ?_
    rotate_left
    · (intro w hSw; (try dsimp only at hSw); go_simp; (try with_reducible rfl))
    (try simp only [Act.put, sA, sB, sC])
    refine tk 2 18 ?_ rfl rfl (by kernel_rfl) (fun _ _ _ h => h) (.inl ⟨by rfl, ?_⟩) ‹_› ?_
    rotate_left
    · (intro w hSw; (try dsimp only at hSw); go_simp; (try with_reducible rfl))
    (try simp only [Act.put, sA, sB, sC])
    refine wpAnyH_ready (rs := [3]) (by kernel_rfl) (by simp) ?_
    refine AllReadyH.cons (o := _) rfl (fun K hK => ?_) AllReadyH.nil
    go_simp
    go_at_call 27
    go_fit (cross_any b a _)
    rintro e w11 ⟨rfl, hb11⟩
    rw [HXX.out]
    replace hb11 : Wb.Ext W0 w11 := by first | exact hb11 | exact Wb.Ext.trans (.drew (.refl _)) hb11
    have hx11 := hb11
    clear hb11
    refine hK.out _ _ (KP _ hx11) (fun hHeld => ?_)
    clear hK K
    (try simp only [sA, sB, sC])
    refine tk 4 20 ?_ rfl rfl (by kernel_rfl) (fun _ _ _ h => h) (.inl ⟨by rfl, ?_⟩) ‹_› ?_
    rotate_left
    · (intro w hSw; (try dsimp only at hSw); go_simp; (try with_reducible rfl))
    (try simp only [Act.put, sA, sB, sC])
    refine tk 5 21 ?_ rfl rfl (by kernel_rfl) (fun _ _ _ h => h) (.inl ⟨by rfl, ?_⟩) ‹_› ?_
    rotate_left
    · (intro w hSw; (try dsimp only at hSw); go_simp; (try with_reducible rfl))
    (try simp only [Act.put, sA, sB, sC])
    refine tk 6 22 ?_ rfl rfl (by kernel_rfl) (fun _ _ _ h => h) (.inl ⟨by rfl, ?_⟩) ‹_› ?_
    rotate_left
    · (intro w hSw; (try dsimp only at hSw); go_simp; (try with_reducible rfl))
    (try simp only [Act.put, sA, sB, sC])
    refine tk 10 26 ?_ rfl rfl (by kernel_rfl) (fun _ _ _ h => h) (.inl ⟨by rfl, ?_⟩) ‹_› ?_
    rotate_left
    · (intro w hSw; (try dsimp only at hSw); go_simp; (try with_reducible rfl))
    (try simp only [Act.put, sA, sB, sC])
    refine tk 13 29 ?_ rfl rfl (by kernel_rfl) (fun _ _ _ h => h) (.inl ⟨by rfl, ?_⟩) ‹_› ?_
    rotate_left
    · (intro w hSw; (try dsimp only at hSw); go_simp; (try with_reducible rfl))
    (try simp only [Act.put, sA, sB, sC])
    refine wpAnyH_ready (rs := [7, 11, 14]) (by kernel_rfl) (by simp) ?_
    refine AllReadyH.cons (o := _) rfl (fun K hK => ?_) ?_
    · go_simp
      refine atK fun w12 hw12 => ?_
      have hb12 : Wb.Ext w11 w12 := by rw [hw12]; (repeat' (first | (with_reducible assumption) | (with_reducible exact Wb.Ext.refl _) | (with_reducible refine Wb.Ext.drew ?_) | (with_reducible refine Wb.Ext.drewN ?_ _) | (with_reducible refine Wb.Ext.alloc ?_ _) | (with_reducible refine Wb.Ext.trans ?_ (by assumption))))
      have HP12 := Lib.hid (show SpL w12 (.slice (some ⟨w11.heap.size, 0, none⟩) 1 1) [x] by rw [hw12]; exact spl_cells x (by simp [go_sem]) (by simp [go_sem]))
      clear hw12
      have hx12 := hx11.trans hb12
      clear hb12
      refine hK.out _ _ (KP _ hx12) (fun hHeld => ?_)
      clear hK K
      (try simp only [sA, sB, sC])
      refine wpAnyH_ready (rs := [8, 11, 14]) (by kernel_rfl) (by simp) ?_
      refine AllReadyH.cons (o := _) rfl (fun K hK => ?_) ?_
      · go_simp
        go_at_call 14
        go_fit (of_any _ [x] _ HP12.out (by intro yy hyy; simp at hyy; subst hyy; exact HBx.out) (by simp))
        rintro e w13 ⟨v13, r13, rfl, hs13, hp13, hb13⟩
        obtain ⟨sa13, sc13, rfl⟩ := hp13.1.shape
        have HS13 := Lib.hid hs13
        have hl13 : r13.length ≤ 1 := by have := hs13.len; (try simp only [List.length_cons, List.length_nil] at this); omega
        have HE13 := Lib.hid (has_of hs13)
        replace HP12 := Lib.hid (HP12.out.ext hb13)
        have hx13 := hx12.trans hb13
        clear hb13
        have HP13 := Lib.hid hp13
        clear hs13 hp13
        refine hK.out _ _ (KP _ hx13) (fun hHeld => ?_)
        clear hK K
        (try simp only [sA, sB, sC])
        refine wpAnyH_ready (rs := [9, 11, 14]) (by kernel_rfl) (by simp) ?_
        refine AllReadyH.cons (o := _) rfl (fun K hK => ?_) ?_
        · go_simp
          go_at_call 17
          go_fit (all_any _ r13 _ HP13.out (by omega))
          rintro e w14 ⟨v14, rfl, hp14, hb14⟩
          obtain ⟨sa14, sc14, rfl⟩ := hp14.1.shape
          replace HP13 := Lib.hid (HP13.out.ext hb14)
          have hx14 := hx13.trans hb14
          clear hb14
          have HP14 := Lib.hid hp14
          clear hp14
          refine hK.out _ _ (KP _ hx14) (fun hHeld => ?_)
          clear hK K
          (try simp only [sA, sB, sC])
          refine wpAnyH_ready (rs := [11, 14]) (by kernel_rfl) (by simp) ?_
          refine AllReadyH.cons (o := _) rfl (fun K hK => ?_) ?_
          · go_simp
            refine atK fun w15 hw15 => ?_
            have hb15 : Wb.Ext w14 w15 := by rw [hw15]; (repeat' (first | (with_reducible assumption) | (with_reducible exact Wb.Ext.refl _) | (with_reducible refine Wb.Ext.drew ?_) | (with_reducible refine Wb.Ext.drewN ?_ _) | (with_reducible refine Wb.Ext.alloc ?_ _) | (with_reducible refine Wb.Ext.trans ?_ (by assumption))))
            have HP15 := Lib.hid (show SpL w15 (.slice (some ⟨w14.heap.size, 0, none⟩) 1 1) [a] by rw [hw15]; exact spl_cells a (by simp [go_sem]) (by simp [go_sem]))
            clear hw15
            replace HP14 := Lib.hid (HP14.out.ext hb15)
            have hx15 := hx14.trans hb15
            clear hb15
            refine hK.out _ _ (KP _ hx15) (fun hHeld => ?_)
            clear hK K
            (try simp only [sA, sB, sC])
            refine wpAnyH_ready (rs := [12, 14]) (by kernel_rfl) (by simp) ?_
            refine AllReadyH.cons (o := _) rfl (fun K hK => ?_) ?_
            · go_simp
              go_at_call 14
              go_fit (of_any _ [a] _ HP15.out (by intro yy hyy; simp at hyy; subst hyy; exact HBa.out) (by simp))
              rintro e w16 ⟨v16, r16, rfl, hs16, hp16, hb16⟩
              obtain ⟨sa16, sc16, rfl⟩ := hp16.1.shape
              have HS16 := Lib.hid hs16
              have hl16 : r16.length ≤ 1 := by have := hs16.len; (try simp only [List.length_cons, List.length_nil] at this); omega
              have HE16 := Lib.hid (has_of hs16)
              replace HP14 := Lib.hid (HP14.out.ext hb16)
              replace HP15 := Lib.hid (HP15.out.ext hb16)
              have hx16 := hx15.trans hb16
              clear hb16
              have HP16 := Lib.hid hp16
              clear hs16 hp16
              refine hK.out _ _ (KP _ hx16) (fun hHeld => ?_)
              clear hK K
              (try simp only [sA, sB, sC])
              refine wpAnyH_ready (rs := [14]) (by kernel_rfl) (by simp) ?_
              refine AllReadyH.cons (o := _) rfl (fun K hK => ?_) AllReadyH.nil
              go_simp
              refine atK fun w17 hw17 => ?_
              have hb17 : Wb.Ext w16 w17 := by rw [hw17]; (repeat' (first | (with_reducible assumption) | (with_reducible exact Wb.Ext.refl _) | (with_reducible refine Wb.Ext.drew ?_) | (with_reducible refine Wb.Ext.drewN ?_ _) | (with_reducible refine Wb.Ext.alloc ?_ _) | (with_reducible refine Wb.Ext.trans ?_ (by assumption))))
              have HP17 := Lib.hid (show SpL w17 (.slice (some ⟨w16.heap.size, 0, none⟩) 1 1) [b] by rw [hw17]; exact spl_cells b (by simp [go_sem]) (by simp [go_sem]))
              clear hw17
              replace HP14 := Lib.hid (HP14.out.ext hb17)
              replace HP16 := Lib.hid (HP16.out.ext hb17)
              have hx17 := hx16.trans hb17
              clear hb17
              refine hK.out _ _ (KP _ hx17) (fun hHeld => ?_)
              clear hK K
              (try simp only [sA, sB, sC])
              refine wpAnyH_ready (rs := [15]) (by kernel_rfl) (by simp) ?_
              refine AllReadyH.cons (o := _) rfl (fun K hK => ?_) AllReadyH.nil
              go_simp
              go_at_call 14
              go_fit (of_any _ [b] _ HP17.out (by intro yy hyy; simp at hyy; subst hyy; exact HBb.out) (by simp))
              rintro e w18 ⟨v18, r18, rfl, hs18, hp18, hb18⟩
              obtain ⟨sa18, sc18, rfl⟩ := hp18.1.shape
              have HS18 := Lib.hid hs18
              have hl18 : r18.length ≤ 1 := by have := hs18.len; (try simp only [List.length_cons, List.length_nil] at this); omega
              have HE18 := Lib.hid (has_of hs18)
              replace HP14 := Lib.hid (HP14.out.ext hb18)
              replace HP16 := Lib.hid (HP16.out.ext hb18)
              replace HP17 := Lib.hid (HP17.out.ext hb18)
              have hx18 := hx17.trans hb18
              clear hb18
              have HP18 := Lib.hid hp18
              clear hs18 hp18
              refine hK.out _ _ (KP _ hx18) (fun hHeld => ?_)
              clear hK K
              (try simp only [sA, sB, sC])
              refine wpAnyH_ready (rs := [16]) (by kernel_rfl) (by simp) ?_
              refine AllReadyH.cons (o := _) rfl (fun K hK => ?_) AllReadyH.nil
              go_simp
              go_at_call 20
              go_fit (meet_any _ _ r16 r18 _ HP16.out HP18.out HS16.out.canon HS18.out.canon HS16.out.bd HS18.out.bd (by omega) (by omega))
              rintro e w19 ⟨v19, r19, rfl, hs19, hp19, hb19⟩
              obtain ⟨sa19, sc19, rfl⟩ := hp19.1.shape
              have HS19 := Lib.hid hs19
              have hl19 : r19.length ≤ 4 := by have := hs19.len; (try simp only [List.length_cons, List.length_nil] at this); omega
              have HE19 := Lib.hid (has_met hs19)
              replace HP14 := Lib.hid (HP14.out.ext hb19)
              replace HP16 := Lib.hid (HP16.out.ext hb19)
              replace HP18 := Lib.hid (HP18.out.ext hb19)
              have hx19 := hx18.trans hb19
              clear hb19
              have HP19 := Lib.hid hp19
              clear hs19 hp19
              refine hK.out _ _ (KP _ hx19) (fun hHeld => ?_)
              clear hK K
              (try simp only [sA, sB, sC])
              refine wpAnyH_ready (rs := [17]) (by kernel_rfl) (by simp) ?_
              refine AllReadyH.cons (o := _) rfl (fun K hK => ?_) AllReadyH.nil
              go_simp
              go_at_call 17
              go_fit (all_any _ r19 _ HP19.out (by omega))
              rintro e w20 ⟨v20, rfl, hp20, hb20⟩
              obtain ⟨sa20, sc20, rfl⟩ := hp20.1.shape
              replace HP14 := Lib.hid (HP14.out.ext hb20)
              replace HP19 := Lib.hid (HP19.out.ext hb20)
              have hx20 := hx19.trans hb20
              clear hb20
              have HP20 := Lib.hid hp20
              clear hp20
              refine hK.out _ _ (KP _ hx20) (fun hHeld => ?_)
              clear hK K
              (try simp only [sA, sB, sC])
              refine wpAnyH_ready (rs := [18]) (by kernel_rfl) (by simp) ?_
              refine AllReadyH.cons (o := _) rfl (fun K hK => ?_) AllReadyH.nil
              go_simp
              go_at_call 16
              go_fit (same2_any _ _ r13 r19 _ (canon_eq HS19.out.canon HS13.out.canon (fun d => by rw [HE19.out d, HE16.out d, HE18.out d, HE13.out d]; exact cross_has HXC.out d)) HP14.out.1 HP20.out.1 (by omega))
              rintro e w21 ⟨rfl, hb21⟩
              have hx21 := hx20.trans hb21
              clear hb21
              refine hK.out _ _ (KP _ hx21) (fun hHeld => ?_)
              clear hK K
              (try simp only [sA, sB, sC])
              refine tk 19 35 ?_ rfl rfl (by kernel_rfl) (fun _ _ _ h => h) (.inl ⟨by rfl, ?_⟩) ‹_› ?_
              rotate_left
              · (intro w hSw; (try dsimp only at hSw); go_simp; (try with_reducible rfl))
              (try simp only [Act.put, sA, sB, sC])
              refine tk 20 36 ?_ rfl rfl (by kernel_rfl) (fun _ _ _ h => h) (.inl ⟨by rfl, ?_⟩) ‹_› ?_
              rotate_left
              · (intro w hSw; (try dsimp only at hSw); go_simp; (try with_reducible rfl))
              (try simp only [Act.put, sA, sB, sC])
              exact mid _ _ _ _ _ _ _ _ _ _ _ _ _ _ _ _ _ _ _ _ _ _ _ _ _ _ _ _ _ _ _ _ _ _ _ _ _ _ _ _ _ _ _ _ _ _ _ _ _ _ _ _ _ hx21 hHeld
            refine AllReadyH.cons (o := _) rfl (fun K hK => ?_) ?_
            · go_simp
              refine atK fun w16 hw16 => ?_
              have hb16 : Wb.Ext w15 w16 := by rw [hw16]; (repeat' (first | (with_reducible assumption) | (with_reducible exact Wb.Ext.refl _) | (with_reducible refine Wb.Ext.drew ?_) | (with_reducible refine Wb.Ext.drewN ?_ _) | (with_reducible refine Wb.Ext.alloc ?_ _) | (with_reducible refine Wb.Ext.trans ?_ (by assumption))))
              have HP16 := Lib.hid (show SpL w16 (.slice (some ⟨w15.heap.size, 0, none⟩) 1 1) [b] by rw [hw16]; exact spl_cells b (by simp [go_sem]) (by simp [go_sem]))
              clear hw16
              replace HP14 := Lib.hid (HP14.out.ext hb16)
              replace HP15 := Lib.hid (HP15.out.ext hb16)
              have hx16 := hx15.trans hb16
              clear hb16
              refine hK.out _ _ (KP _ hx16) (fun hHeld => ?_)
              clear hK K
              (try simp only [sA, sB, sC])
              refine wpAnyH_ready (rs := [12]) (by kernel_rfl) (by simp) ?_
              refine AllReadyH.cons (o := _) rfl (fun K hK => ?_) AllReadyH.nil
              go_simp
              go_at_call 14
              go_fit (of_any _ [a] _ HP15.out (by intro yy hyy; simp at hyy; subst hyy; exact HBa.out) (by simp))
              rintro e w17 ⟨v17, r17, rfl, hs17, hp17, hb17⟩
              obtain ⟨sa17, sc17, rfl⟩ := hp17.1.shape
              have HS17 := Lib.hid hs17
              have hl17 : r17.length ≤ 1 := by have := hs17.len; (try simp only [List.length_cons, List.length_nil] at this); omega
              have HE17 := Lib.hid (has_of hs17)
              replace HP14 := Lib.hid (HP14.out.ext hb17)
              replace HP15 := Lib.hid (HP15.out.ext hb17)
              replace HP16 := Lib.hid (HP16.out.ext hb17)
              have hx17 := hx16.trans hb17
              clear hb17
              have HP17 := Lib.hid hp17
              clear hs17 hp17
              refine hK.out _ _ (KP _ hx17) (fun hHeld => ?_)
              clear hK K
              (try simp only [sA, sB, sC])
              refine wpAnyH_ready (rs := [15]) (by kernel_rfl) (by simp) ?_
              refine AllReadyH.cons (o := _) rfl (fun K hK => ?_) AllReadyH.nil
              go_simp
              go_at_call 14
              go_fit (of_any _ [b] _ HP16.out (by intro yy hyy; simp at hyy; subst hyy; exact HBb.out) (by simp))
              rintro e w18 ⟨v18, r18, rfl, hs18, hp18, hb18⟩
              obtain ⟨sa18, sc18, rfl⟩ := hp18.1.shape
              have HS18 := Lib.hid hs18
              have hl18 : r18.length ≤ 1 := by have := hs18.len; (try simp only [List.length_cons, List.length_nil] at this); omega
              have HE18 := Lib.hid (has_of hs18)
              replace HP14 := Lib.hid (HP14.out.ext hb18)
              replace HP16 := Lib.hid (HP16.out.ext hb18)
              replace HP17 := Lib.hid (HP17.out.ext hb18)
              have hx18 := hx17.trans hb18
              clear hb18
              have HP18 := Lib.hid hp18
              clear hs18 hp18
              refine hK.out _ _ (KP _ hx18) (fun hHeld => ?_)
              clear hK K
              (try simp only [sA, sB, sC])
              refine wpAnyH_ready (rs := [16]) (by kernel_rfl) (by simp) ?_
              refine AllReadyH.cons (o := _) rfl (fun K hK => ?_) AllReadyH.nil
              go_simp
              go_at_call 20
              go_fit (meet_any _ _ r17 r18 _ HP17.out HP18.out HS17.out.canon HS18.out.canon HS17.out.bd HS18.out.bd (by omega) (by omega))
              rintro e w19 ⟨v19, r19, rfl, hs19, hp19, hb19⟩
              obtain ⟨sa19, sc19, rfl⟩ := hp19.1.shape
              have HS19 := Lib.hid hs19
              have hl19 : r19.length ≤ 4 := by have := hs19.len; (try simp only [List.length_cons, List.length_nil] at this); omega
              have HE19 := Lib.hid (has_met hs19)
              replace HP14 := Lib.hid (HP14.out.ext hb19)
              replace HP17 := Lib.hid (HP17.out.ext hb19)
              replace HP18 := Lib.hid (HP18.out.ext hb19)
              have hx19 := hx18.trans hb19
              clear hb19
              have HP19 := Lib.hid hp19
              clear hs19 hp19
              refine hK.out _ _ (KP _ hx19) (fun hHeld => ?_)
              clear hK K
              (try simp only [sA, sB, sC])
              refine wpAnyH_ready (rs := [17]) (by kernel_rfl) (by simp) ?_
              refine AllReadyH.cons (o := _) rfl (fun K hK => ?_) AllReadyH.nil
              go_simp
              go_at_call 17
              go_fit (all_any _ r19 _ HP19.out (by omega))
              rintro e w20 ⟨v20, rfl, hp20, hb20⟩
              obtain ⟨sa20, sc20, rfl⟩ := hp20.1.shape
              replace HP14 := Lib.hid (HP14.out.ext hb20)
              replace HP19 := Lib.hid (HP19.out.ext hb20)
              have hx20 := hx19.trans hb20
              clear hb20
              have HP20 := Lib.hid hp20
              clear hp20
              refine hK.out _ _ (KP _ hx20) (fun hHeld => ?_)
              clear hK K
              (try simp only [sA, sB, sC])
              refine wpAnyH_ready (rs := [18]) (by kernel_rfl) (by simp) ?_
              refine AllReadyH.cons (o := _) rfl (fun K hK => ?_) AllReadyH.nil
              go_simp
              go_at_call 16
              go_fit (same2_any _ _ r13 r19 _ (canon_eq HS19.out.canon HS13.out.canon (fun d => by rw [HE19.out d, HE17.out d, HE18.out d, HE13.out d]; exact cross_has HXC.out d)) HP14.out.1 HP20.out.1 (by omega))
              rintro e w21 ⟨rfl, hb21⟩
              have hx21 := hx20.trans hb21
              clear hb21
              refine hK.out _ _ (KP _ hx21) (fun hHeld => ?_)
              clear hK K
              (try simp only [sA, sB, sC])
              refine tk 19 35 ?_ rfl rfl (by kernel_rfl) (fun _ _ _ h => h) (.inl ⟨by rfl, ?_⟩) ‹_› ?_
              rotate_left
              · (intro w hSw; (try dsimp only at hSw); go_simp; (try with_reducible rfl))
              (try simp only [Act.put, sA, sB, sC])
              refine tk 20 36 ?_ rfl rfl (by kernel_rfl) (fun _ _ _ h => h) (.inl ⟨by rfl, ?_⟩) ‹_› ?_
              rotate_left
              · (intro w hSw; (try dsimp only at hSw); go_simp; (try with_reducible rfl))
              (try simp only [Act.put, sA, sB, sC])
              exact mid _ _ _ _ _ _ _ _ _ _ _ _ _ _ _ _ _ _ _ _ _ _ _ _ _ _ _ _ _ _ _ _ _ _ _ _ _ _ _ _ _ _ _ _ _ _ _ _ _ _ _ _ _ hx21 hHeld
            exact AllReadyH.nil
          refine AllReadyH.cons (o := _) rfl (fun K hK => ?_) ?_
          · go_simp
            refine atK fun w15 hw15 => ?_
            have hb15 : Wb.Ext w14 w15 := by rw [hw15]; (repeat' (first | (with_reducible assumption) | (with_reducible exact Wb.Ext.refl _) | (with_reducible refine Wb.Ext.drew ?_) | (with_reducible refine Wb.Ext.drewN ?_ _) | (with_reducible refine Wb.Ext.alloc ?_ _) | (with_reducible refine Wb.Ext.trans ?_ (by assumption))))
            have HP15 := Lib.hid (show SpL w15 (.slice (some ⟨w14.heap.size, 0, none⟩) 1 1) [b] by rw [hw15]; exact spl_cells b (by simp [go_sem]) (by simp [go_sem]))
            clear hw15
            replace HP14 := Lib.hid (HP14.out.ext hb15)
            have hx15 := hx14.trans hb15
            clear hb15
            refine hK.out _ _ (KP _ hx15) (fun hHeld => ?_)
            clear hK K
            (try simp only [sA, sB, sC])
            refine wpAnyH_ready (rs := [11]) (by kernel_rfl) (by simp) ?_
            refine AllReadyH.cons (o := _) rfl (fun K hK => ?_) AllReadyH.nil
            go_simp
            refine atK fun w16 hw16 => ?_
            have hb16 : Wb.Ext w15 w16 := by rw [hw16]; (repeat' (first | (with_reducible assumption) | (with_reducible exact Wb.Ext.refl _) | (with_reducible refine Wb.Ext.drew ?_) | (with_reducible refine Wb.Ext.drewN ?_ _) | (with_reducible refine Wb.Ext.alloc ?_ _) | (with_reducible refine Wb.Ext.trans ?_ (by assumption))))
            have HP16 := Lib.hid (show SpL w16 (.slice (some ⟨w15.heap.size, 0, none⟩) 1 1) [a] by rw [hw16]; exact spl_cells a (by simp [go_sem]) (by simp [go_sem]))
            clear hw16
            replace HP14 := Lib.hid (HP14.out.ext hb16)
            replace HP15 := Lib.hid (HP15.out.ext hb16)
            have hx16 := hx15.trans hb16
            clear hb16
            refine hK.out _ _ (KP _ hx16) (fun hHeld => ?_)
            clear hK K
            (try simp only [sA, sB, sC])
            refine wpAnyH_ready (rs := [12]) (by kernel_rfl) (by simp) ?_
            refine AllReadyH.cons (o := _) rfl (fun K hK => ?_) AllReadyH.nil
            go_simp
            go_at_call 14
            go_fit (of_any _ [a] _ HP16.out (by intro yy hyy; simp at hyy; subst hyy; exact HBa.out) (by simp))
            rintro e w17 ⟨v17, r17, rfl, hs17, hp17, hb17⟩
            obtain ⟨sa17, sc17, rfl⟩ := hp17.1.shape
            have HS17 := Lib.hid hs17
            have hl17 : r17.length ≤ 1 := by have := hs17.len; (try simp only [List.length_cons, List.length_nil] at this); omega
            have HE17 := Lib.hid (has_of hs17)
            replace HP14 := Lib.hid (HP14.out.ext hb17)
            replace HP15 := Lib.hid (HP15.out.ext hb17)
            replace HP16 := Lib.hid (HP16.out.ext hb17)
            have hx17 := hx16.trans hb17
            clear hb17
            have HP17 := Lib.hid hp17
            clear hs17 hp17
            refine hK.out _ _ (KP _ hx17) (fun hHeld => ?_)
            clear hK K
            (try simp only [sA, sB, sC])
            refine wpAnyH_ready (rs := [15]) (by kernel_rfl) (by simp) ?_
            refine AllReadyH.cons (o := _) rfl (fun K hK => ?_) AllReadyH.nil
            go_simp
            go_at_call 14
            go_fit (of_any _ [b] _ HP15.out (by intro yy hyy; simp at hyy; subst hyy; exact HBb.out) (by simp))
            rintro e w18 ⟨v18, r18, rfl, hs18, hp18, hb18⟩
            obtain ⟨sa18, sc18, rfl⟩ := hp18.1.shape
            have HS18 := Lib.hid hs18
            have hl18 : r18.length ≤ 1 := by have := hs18.len; (try simp only [List.length_cons, List.length_nil] at this); omega
            have HE18 := Lib.hid (has_of hs18)
            replace HP14 := Lib.hid (HP14.out.ext hb18)
            replace HP15 := Lib.hid (HP15.out.ext hb18)
            replace HP17 := Lib.hid (HP17.out.ext hb18)
            have hx18 := hx17.trans hb18
            clear hb18
            have HP18 := Lib.hid hp18
            clear hs18 hp18
            refine hK.out _ _ (KP _ hx18) (fun hHeld => ?_)
            clear hK K
            (try simp only [sA, sB, sC])
            refine wpAnyH_ready (rs := [16]) (by kernel_rfl) (by simp) ?_
            refine AllReadyH.cons (o := _) rfl (fun K hK => ?_) AllReadyH.nil
            go_simp
            go_at_call 20
            go_fit (meet_any _ _ r17 r18 _ HP17.out HP18.out HS17.out.canon HS18.out.canon HS17.out.bd HS18.out.bd (by omega) (by omega))
            rintro e w19 ⟨v19, r19, rfl, hs19, hp19, hb19⟩
            obtain ⟨sa19, sc19, rfl⟩ := hp19.1.shape
            have HS19 := Lib.hid hs19
            have hl19 : r19.length ≤ 4 := by have := hs19.len; (try simp only [List.length_cons, List.length_nil] at this); omega
            have HE19 := Lib.hid (has_met hs19)
            replace HP14 := Lib.hid (HP14.out.ext hb19)
            replace HP17 := Lib.hid (HP17.out.ext hb19)
            replace HP18 := Lib.hid (HP18.out.ext hb19)
            have hx19 := hx18.trans hb19
            clear hb19
            have HP19 := Lib.hid hp19
            clear hs19 hp19
            refine hK.out _ _ (KP _ hx19) (fun hHeld => ?_)
            clear hK K
            (try simp only [sA, sB, sC])
            refine wpAnyH_ready (rs := [17]) (by kernel_rfl) (by simp) ?_
            refine AllReadyH.cons (o := _) rfl (fun K hK => ?_) AllReadyH.nil
            go_simp
            go_at_call 17
            go_fit (all_any _ r19 _ HP19.out (by omega))
            rintro e w20 ⟨v20, rfl, hp20, hb20⟩
            obtain ⟨sa20, sc20, rfl⟩ := hp20.1.shape
            replace HP14 := Lib.hid (HP14.out.ext hb20)
            replace HP19 := Lib.hid (HP19.out.ext hb20)
            have hx20 := hx19.trans hb20
            clear hb20
            have HP20 := Lib.hid hp20
            clear hp20
            refine hK.out _ _ (KP _ hx20) (fun hHeld => ?_)
            clear hK K
            (try simp only [sA, sB, sC])
            refine wpAnyH_ready (rs := [18]) (by kernel_rfl) (by simp) ?_
            refine AllReadyH.cons (o := _) rfl (fun K hK => ?_) AllReadyH.nil
            go_simp
            go_at_call 16
            go_fit (same2_any _ _ r13 r19 _ (canon_eq HS19.out.canon HS13.out.canon (fun d => by rw [HE19.out d, HE17.out d, HE18.out d, HE13.out d]; exact cross_has HXC.out d)) HP14.out.1 HP20.out.1 (by omega))
            rintro e w21 ⟨rfl, hb21⟩
            have hx21 := hx20.trans hb21
            clear hb21
            refine hK.out _ _ (KP _ hx21) (fun hHeld => ?_)
            clear hK K
            (try simp only [sA, sB, sC])
            refine tk 19 35 ?_ rfl rfl (by kernel_rfl) (fun _ _ _ h => h) (.inl ⟨by rfl, ?_⟩) ‹_› ?_
            rotate_left
            · (intro w hSw; (try dsimp only at hSw); go_simp; (try with_reducible rfl))
            (try simp only [Act.put, sA, sB, sC])
            refine tk 20 36 ?_ rfl rfl (by kernel_rfl) (fun _ _ _ h => h) (.inl ⟨by rfl, ?_⟩) ‹_› ?_
            rotate_left
            · (intro w hSw; (try dsimp only at hSw); go_simp; (try with_reducible rfl))
            (try simp only [Act.put, sA, sB, sC])
            exact mid _ _ _ _ _ _ _ _ _ _ _ _ _ _ _ _ _ _ _ _ _ _ _ _ _ _ _ _ _ _ _ _ _ _ _ _ _ _ _ _ _ _ _ _ _ _ _ _ _ _ _ _ _ hx21 hHeld
          exact AllReadyH.nil
        refine AllReadyH.cons (o := _) rfl (fun K hK => ?_) ?_
        · go_simp
          refine atK fun w14 hw14 => ?_
          have hb14 : Wb.Ext w13 w14 := by rw [hw14]; (repeat' (first | (with_reducible assumption) | (with_reducible exact Wb.Ext.refl _) | (with_reducible refine Wb.Ext.drew ?_) | (with_reducible refine Wb.Ext.drewN ?_ _) | (with_reducible refine Wb.Ext.alloc ?_ _) | (with_reducible refine Wb.Ext.trans ?_ (by assumption))))
          have HP14 := Lib.hid (show SpL w14 (.slice (some ⟨w13.heap.size, 0, none⟩) 1 1) [a] by rw [hw14]; exact spl_cells a (by simp [go_sem]) (by simp [go_sem]))
          clear hw14
          replace HP13 := Lib.hid (HP13.out.ext hb14)
          have hx14 := hx13.trans hb14
          clear hb14
          refine hK.out _ _ (KP _ hx14) (fun hHeld => ?_)
          clear hK K
          (try simp only [sA, sB, sC])
          refine wpAnyH_ready (rs := [9, 14]) (by kernel_rfl) (by simp) ?_
          refine AllReadyH.cons (o := _) rfl (fun K hK => ?_) ?_
          · go_simp
            go_at_call 17
            go_fit (all_any _ r13 _ HP13.out (by omega))
            rintro e w15 ⟨v15, rfl, hp15, hb15⟩
            obtain ⟨sa15, sc15, rfl⟩ := hp15.1.shape
            replace HP13 := Lib.hid (HP13.out.ext hb15)
            replace HP14 := Lib.hid (HP14.out.ext hb15)
            have hx15 := hx14.trans hb15
            clear hb15
            have HP15 := Lib.hid hp15
            clear hp15
            refine hK.out _ _ (KP _ hx15) (fun hHeld => ?_)
            clear hK K
            (try simp only [sA, sB, sC])
            refine wpAnyH_ready (rs := [12, 14]) (by kernel_rfl) (by simp) ?_
            refine AllReadyH.cons (o := _) rfl (fun K hK => ?_) ?_
            · go_simp
              go_at_call 14
              go_fit (of_any _ [a] _ HP14.out (by intro yy hyy; simp at hyy; subst hyy; exact HBa.out) (by simp))
              rintro e w16 ⟨v16, r16, rfl, hs16, hp16, hb16⟩
              obtain ⟨sa16, sc16, rfl⟩ := hp16.1.shape
              have HS16 := Lib.hid hs16
              have hl16 : r16.length ≤ 1 := by have := hs16.len; (try simp only [List.length_cons, List.length_nil] at this); omega
              have HE16 := Lib.hid (has_of hs16)
              replace HP14 := Lib.hid (HP14.out.ext hb16)
              replace HP15 := Lib.hid (HP15.out.ext hb16)
              have hx16 := hx15.trans hb16
              clear hb16
              have HP16 := Lib.hid hp16
              clear hs16 hp16
              refine hK.out _ _ (KP _ hx16) (fun hHeld => ?_)
              clear hK K
              (try simp only [sA, sB, sC])
              refine wpAnyH_ready (rs := [14]) (by kernel_rfl) (by simp) ?_
              refine AllReadyH.cons (o := _) rfl (fun K hK => ?_) AllReadyH.nil
              go_simp
              refine atK fun w17 hw17 => ?_
              have hb17 : Wb.Ext w16 w17 := by rw [hw17]; (repeat' (first | (with_reducible assumption) | (with_reducible exact Wb.Ext.refl _) | (with_reducible refine Wb.Ext.drew ?_) | (with_reducible refine Wb.Ext.drewN ?_ _) | (with_reducible refine Wb.Ext.alloc ?_ _) | (with_reducible refine Wb.Ext.trans ?_ (by assumption))))
              have HP17 := Lib.hid (show SpL w17 (.slice (some ⟨w16.heap.size, 0, none⟩) 1 1) [b] by rw [hw17]; exact spl_cells b (by simp [go_sem]) (by simp [go_sem]))
              clear hw17
              replace HP15 := Lib.hid (HP15.out.ext hb17)
              replace HP16 := Lib.hid (HP16.out.ext hb17)
              have hx17 := hx16.trans hb17
              clear hb17
              refine hK.out _ _ (KP _ hx17) (fun hHeld => ?_)
              clear hK K
              (try simp only [sA, sB, sC])
              refine wpAnyH_ready (rs := [15]) (by kernel_rfl) (by simp) ?_
              refine AllReadyH.cons (o := _) rfl (fun K hK => ?_) AllReadyH.nil
              go_simp
              go_at_call 14
              go_fit (of_any _ [b] _ HP17.out (by intro yy hyy; simp at hyy; subst hyy; exact HBb.out) (by simp))
              rintro e w18 ⟨v18, r18, rfl, hs18, hp18, hb18⟩
              obtain ⟨sa18, sc18, rfl⟩ := hp18.1.shape
              have HS18 := Lib.hid hs18
              have hl18 : r18.length ≤ 1 := by have := hs18.len; (try simp only [List.length_cons, List.length_nil] at this); omega
              have HE18 := Lib.hid (has_of hs18)
              replace HP15 := Lib.hid (HP15.out.ext hb18)
              replace HP16 := Lib.hid (HP16.out.ext hb18)
              replace HP17 := Lib.hid (HP17.out.ext hb18)
              have hx18 := hx17.trans hb18
              clear hb18
              have HP18 := Lib.hid hp18
              clear hs18 hp18
              refine hK.out _ _ (KP _ hx18) (fun hHeld => ?_)
              clear hK K
              (try simp only [sA, sB, sC])
              refine wpAnyH_ready (rs := [16]) (by kernel_rfl) (by simp) ?_
              refine AllReadyH.cons (o := _) rfl (fun K hK => ?_) AllReadyH.nil
              go_simp
              go_at_call 20
              go_fit (meet_any _ _ r16 r18 _ HP16.out HP18.out HS16.out.canon HS18.out.canon HS16.out.bd HS18.out.bd (by omega) (by omega))
              rintro e w19 ⟨v19, r19, rfl, hs19, hp19, hb19⟩
              obtain ⟨sa19, sc19, rfl⟩ := hp19.1.shape
              have HS19 := Lib.hid hs19
              have hl19 : r19.length ≤ 4 := by have := hs19.len; (try simp only [List.length_cons, List.length_nil] at this); omega
              have HE19 := Lib.hid (has_met hs19)
              replace HP15 := Lib.hid (HP15.out.ext hb19)
              replace HP16 := Lib.hid (HP16.out.ext hb19)
              replace HP18 := Lib.hid (HP18.out.ext hb19)
              have hx19 := hx18.trans hb19
              clear hb19
              have HP19 := Lib.hid hp19
              clear hs19 hp19
              refine hK.out _ _ (KP _ hx19) (fun hHeld => ?_)
              clear hK K
              (try simp only [sA, sB, sC])
              refine wpAnyH_ready (rs := [17]) (by kernel_rfl) (by simp) ?_
              refine AllReadyH.cons (o := _) rfl (fun K hK => ?_) AllReadyH.nil
              go_simp
              go_at_call 17
              go_fit (all_any _ r19 _ HP19.out (by omega))
              rintro e w20 ⟨v20, rfl, hp20, hb20⟩
              obtain ⟨sa20, sc20, rfl⟩ := hp20.1.shape
              replace HP15 := Lib.hid (HP15.out.ext hb20)
              replace HP19 := Lib.hid (HP19.out.ext hb20)
              have hx20 := hx19.trans hb20
              clear hb20
              have HP20 := Lib.hid hp20
              clear hp20
              refine hK.out _ _ (KP _ hx20) (fun hHeld => ?_)
              clear hK K
              (try simp only [sA, sB, sC])
              refine wpAnyH_ready (rs := [18]) (by kernel_rfl) (by simp) ?_
              refine AllReadyH.cons (o := _) rfl (fun K hK => ?_) AllReadyH.nil
              go_simp
              go_at_call 16
              go_fit (same2_any _ _ r13 r19 _ (canon_eq HS19.out.canon HS13.out.canon (fun d => by rw [HE19.out d, HE16.out d, HE18.out d, HE13.out d]; exact cross_has HXC.out d)) HP15.out.1 HP20.out.1 (by omega))
              rintro e w21 ⟨rfl, hb21⟩
              have hx21 := hx20.trans hb21
              clear hb21
              refine hK.out _ _ (KP _ hx21) (fun hHeld => ?_)
              clear hK K
              (try simp only [sA, sB, sC])
              refine tk 19 35 ?_ rfl rfl (by kernel_rfl) (fun _ _ _ h => h) (.inl ⟨by rfl, ?_⟩) ‹_› ?_
              rotate_left
              · (intro w hSw; (try dsimp only at hSw); go_simp; (try with_reducible rfl))
              (try simp only [Act.put, sA, sB, sC])
              refine tk 20 36 ?_ rfl rfl (by kernel_rfl) (fun _ _ _ h => h) (.inl ⟨by rfl, ?_⟩) ‹_› ?_
              rotate_left
              · (intro w hSw; (try dsimp only at hSw); go_simp; (try with_reducible rfl))
              (try simp only [Act.put, sA, sB, sC])
              exact mid _ _ _ _ _ _ _ _ _ _ _ _ _ _ _ _ _ _ _ _ _ _ _ _ _ _ _ _ _ _ _ _ _ _ _ _ _ _ _ _ _ _ _ _ _ _ _ _ _ _ _ _ _ hx21 hHeld
            refine AllReadyH.cons (o := _) rfl (fun K hK => ?_) ?_
            · go_simp
              refine atK fun w16 hw16 => ?_
              have hb16 : Wb.Ext w15 w16 := by rw [hw16]; (repeat' (first | (with_reducible assumption) | (with_reducible exact Wb.Ext.refl _) | (with_reducible refine Wb.Ext.drew ?_) | (with_reducible refine Wb.Ext.drewN ?_ _) | (with_reducible refine Wb.Ext.alloc ?_ _) | (with_reducible refine Wb.Ext.trans ?_ (by assumption))))
              have HP16 := Lib.hid (show SpL w16 (.slice (some ⟨w15.heap.size, 0, none⟩) 1 1) [b] by rw [hw16]; exact spl_cells b (by simp [go_sem]) (by simp [go_sem]))
              clear hw16
              replace HP14 := Lib.hid (HP14.out.ext hb16)
              replace HP15 := Lib.hid (HP15.out.ext hb16)
              have hx16 := hx15.trans hb16
              clear hb16
              refine hK.out _ _ (KP _ hx16) (fun hHeld => ?_)
              clear hK K
              (try simp only [sA, sB, sC])
              refine wpAnyH_ready (rs := [12]) (by kernel_rfl) (by simp) ?_
              refine AllReadyH.cons (o := _) rfl (fun K hK => ?_) AllReadyH.nil
              go_simp
              go_at_call 14
              go_fit (of_any _ [a] _ HP14.out (by intro yy hyy; simp at hyy; subst hyy; exact HBa.out) (by simp))
              rintro e w17 ⟨v17, r17, rfl, hs17, hp17, hb17⟩
              obtain ⟨sa17, sc17, rfl⟩ := hp17.1.shape
              have HS17 := Lib.hid hs17
              have hl17 : r17.length ≤ 1 := by have := hs17.len; (try simp only [List.length_cons, List.length_nil] at this); omega
              have HE17 := Lib.hid (has_of hs17)
              replace HP14 := Lib.hid (HP14.out.ext hb17)
              replace HP15 := Lib.hid (HP15.out.ext hb17)
              replace HP16 := Lib.hid (HP16.out.ext hb17)
              have hx17 := hx16.trans hb17
              clear hb17
              have HP17 := Lib.hid hp17
              clear hs17 hp17
              refine hK.out _ _ (KP _ hx17) (fun hHeld => ?_)
              clear hK K
              (try simp only [sA, sB, sC])
              refine wpAnyH_ready (rs := [15]) (by kernel_rfl) (by simp) ?_
              refine AllReadyH.cons (o := _) rfl (fun K hK => ?_) AllReadyH.nil
              go_simp
              go_at_call 14
              go_fit (of_any _ [b] _ HP16.out (by intro yy hyy; simp at hyy; subst hyy; exact HBb.out) (by simp))
              rintro e w18 ⟨v18, r18, rfl, hs18, hp18, hb18⟩
              obtain ⟨sa18, sc18, rfl⟩ := hp18.1.shape
              have HS18 := Lib.hid hs18
              have hl18 : r18.length ≤ 1 := by have := hs18.len; (try simp only [List.length_cons, List.length_nil] at this); omega
              have HE18 := Lib.hid (has_of hs18)
              replace HP15 := Lib.hid (HP15.out.ext hb18)
              replace HP16 := Lib.hid (HP16.out.ext hb18)
              replace HP17 := Lib.hid (HP17.out.ext hb18)
              have hx18 := hx17.trans hb18
              clear hb18
              have HP18 := Lib.hid hp18
              clear hs18 hp18
              refine hK.out _ _ (KP _ hx18) (fun hHeld => ?_)
              clear hK K
              (try simp only [sA, sB, sC])
              refine wpAnyH_ready (rs := [16]) (by kernel_rfl) (by simp) ?_
              refine AllReadyH.cons (o := _) rfl (fun K hK => ?_) AllReadyH.nil
              go_simp
              go_at_call 20
              go_fit (meet_any _ _ r17 r18 _ HP17.out HP18.out HS17.out.canon HS18.out.canon HS17.out.bd HS18.out.bd (by omega) (by omega))
              rintro e w19 ⟨v19, r19, rfl, hs19, hp19, hb19⟩
              obtain ⟨sa19, sc19, rfl⟩ := hp19.1.shape
              have HS19 := Lib.hid hs19
              have hl19 : r19.length ≤ 4 := by have := hs19.len; (try simp only [List.length_cons, List.length_nil] at this); omega
              have HE19 := Lib.hid (has_met hs19)
              replace HP15 := Lib.hid (HP15.out.ext hb19)
              replace HP17 := Lib.hid (HP17.out.ext hb19)
              replace HP18 := Lib.hid (HP18.out.ext hb19)
              have hx19 := hx18.trans hb19
              clear hb19
              have HP19 := Lib.hid hp19
              clear hs19 hp19
              refine hK.out _ _ (KP _ hx19) (fun hHeld => ?_)
              clear hK K
              (try simp only [sA, sB, sC])
              refine wpAnyH_ready (rs := [17]) (by kernel_rfl) (by simp) ?_
              refine AllReadyH.cons (o := _) rfl (fun K hK => ?_) AllReadyH.nil
              go_simp
              go_at_call 17
              go_fit (all_any _ r19 _ HP19.out (by omega))
              rintro e w20 ⟨v20, rfl, hp20, hb20⟩
              obtain ⟨sa20, sc20, rfl⟩ := hp20.1.shape
              replace HP15 := Lib.hid (HP15.out.ext hb20)
              replace HP19 := Lib.hid (HP19.out.ext hb20)
              have hx20 := hx19.trans hb20
              clear hb20
              have HP20 := Lib.hid hp20
              clear hp20
              refine hK.out _ _ (KP _ hx20) (fun hHeld => ?_)
              clear hK K
              (try simp only [sA, sB, sC])
              refine wpAnyH_ready (rs := [18]) (by kernel_rfl) (by simp) ?_
              refine AllReadyH.cons (o := _) rfl (fun K hK => ?_) AllReadyH.nil
              go_simp
              go_at_call 16
              go_fit (same2_any _ _ r13 r19 _ (canon_eq HS19.out.canon HS13.out.canon (fun d => by rw [HE19.out d, HE17.out d, HE18.out d, HE13.out d]; exact cross_has HXC.out d)) HP15.out.1 HP20.out.1 (by omega))
              rintro e w21 ⟨rfl, hb21⟩
              have hx21 := hx20.trans hb21
              clear hb21
              refine hK.out _ _ (KP _ hx21) (fun hHeld => ?_)
              clear hK K
              (try simp only [sA, sB, sC])
              refine tk 19 35 ?_ rfl rfl (by kernel_rfl) (fun _ _ _ h => h) (.inl ⟨by rfl, ?_⟩) ‹_› ?_
              rotate_left
              · (intro w hSw; (try dsimp only at hSw); go_simp; (try with_reducible rfl))
              (try simp only [Act.put, sA, sB, sC])
              refine tk 20 36 ?_ rfl rfl (by kernel_rfl) (fun _ _ _ h => h) (.inl ⟨by rfl, ?_⟩) ‹_› ?_
              rotate_left
              · (intro w hSw; (try dsimp only at hSw); go_simp; (try with_reducible rfl))
              (try simp only [Act.put, sA, sB, sC])
              exact mid _ _ _ _ _ _ _ _ _ _ _ _ _ _ _ _ _ _ _ _ _ _ _ _ _ _ _ _ _ _ _ _ _ _ _ _ _ _ _ _ _ _ _ _ _ _ _ _ _ _ _ _ _ hx21 hHeld
            exact AllReadyH.nil
          refine AllReadyH.cons (o := _) rfl (fun K hK => ?_) ?_
          · go_simp
            refine atK fun w15 hw15 => ?_
            have hb15 : Wb.Ext w14 w15 := by rw [hw15]; (repeat' (first | (with_reducible assumption) | (with_reducible exact Wb.Ext.refl _) | (with_reducible refine Wb.Ext.drew ?_) | (with_reducible refine Wb.Ext.drewN ?_ _) | (with_reducible refine Wb.Ext.alloc ?_ _) | (with_reducible refine Wb.Ext.trans ?_ (by assumption))))
            have HP15 := Lib.hid (show SpL w15 (.slice (some ⟨w14.heap.size, 0, none⟩) 1 1) [b] by rw [hw15]; exact spl_cells b (by simp [go_sem]) (by simp [go_sem]))
            clear hw15
            replace HP13 := Lib.hid (HP13.out.ext hb15)
            replace HP14 := Lib.hid (HP14.out.ext hb15)
            have hx15 := hx14.trans hb15
            clear hb15
            refine hK.out _ _ (KP _ hx15) (fun hHeld => ?_)
            clear hK K
            (try simp only [sA, sB, sC])
            refine wpAnyH_ready (rs := [9]) (by kernel_rfl) (by simp) ?_
            refine AllReadyH.cons (o := _) rfl (fun K hK => ?_) AllReadyH.nil
            go_simp
            go_at_call 17
            go_fit (all_any _ r13 _ HP13.out (by omega))
            rintro e w16 ⟨v16, rfl, hp16, hb16⟩
            obtain ⟨sa16, sc16, rfl⟩ := hp16.1.shape
            replace HP13 := Lib.hid (HP13.out.ext hb16)
            replace HP14 := Lib.hid (HP14.out.ext hb16)
            replace HP15 := Lib.hid (HP15.out.ext hb16)
            have hx16 := hx15.trans hb16
            clear hb16
            have HP16 := Lib.hid hp16
            clear hp16
            refine hK.out _ _ (KP _ hx16) (fun hHeld => ?_)
            clear hK K
            (try simp only [sA, sB, sC])
            refine wpAnyH_ready (rs := [12]) (by kernel_rfl) (by simp) ?_
            refine AllReadyH.cons (o := _) rfl (fun K hK => ?_) AllReadyH.nil
            go_simp
            go_at_call 14
            go_fit (of_any _ [a] _ HP14.out (by intro yy hyy; simp at hyy; subst hyy; exact HBa.out) (by simp))
            rintro e w17 ⟨v17, r17, rfl, hs17, hp17, hb17⟩
            obtain ⟨sa17, sc17, rfl⟩ := hp17.1.shape
            have HS17 := Lib.hid hs17
            have hl17 : r17.length ≤ 1 := by have := hs17.len; (try simp only [List.length_cons, List.length_nil] at this); omega
            have HE17 := Lib.hid (has_of hs17)
            replace HP14 := Lib.hid (HP14.out.ext hb17)
            replace HP15 := Lib.hid (HP15.out.ext hb17)
            replace HP16 := Lib.hid (HP16.out.ext hb17)
            have hx17 := hx16.trans hb17
            clear hb17
            have HP17 := Lib.hid hp17
            clear hs17 hp17
            refine hK.out _ _ (KP _ hx17) (fun hHeld => ?_)
            clear hK K
            (try simp only [sA, sB, sC])
            refine wpAnyH_ready (rs := [15]) (by kernel_rfl) (by simp) ?_
            refine AllReadyH.cons (o := _) rfl (fun K hK => ?_) AllReadyH.nil
            go_simp
            go_at_call 14
            go_fit (of_any _ [b] _ HP15.out (by intro yy hyy; simp at hyy; subst hyy; exact HBb.out) (by simp))
            rintro e w18 ⟨v18, r18, rfl, hs18, hp18, hb18⟩
            obtain ⟨sa18, sc18, rfl⟩ := hp18.1.shape
            have HS18 := Lib.hid hs18
            have hl18 : r18.length ≤ 1 := by have := hs18.len; (try simp only [List.length_cons, List.length_nil] at this); omega
            have HE18 := Lib.hid (has_of hs18)
            replace HP15 := Lib.hid (HP15.out.ext hb18)
            replace HP16 := Lib.hid (HP16.out.ext hb18)
            replace HP17 := Lib.hid (HP17.out.ext hb18)
            have hx18 := hx17.trans hb18
            clear hb18
            have HP18 := Lib.hid hp18
            clear hs18 hp18
            refine hK.out _ _ (KP _ hx18) (fun hHeld => ?_)
            clear hK K
            (try simp only [sA, sB, sC])
            refine wpAnyH_ready (rs := [16]) (by kernel_rfl) (by simp) ?_
            refine AllReadyH.cons (o := _) rfl (fun K hK => ?_) AllReadyH.nil
            go_simp
            go_at_call 20
            go_fit (meet_any _ _ r17 r18 _ HP17.out HP18.out HS17.out.canon HS18.out.canon HS17.out.bd HS18.out.bd (by omega) (by omega))
            rintro e w19 ⟨v19, r19, rfl, hs19, hp19, hb19⟩
            obtain ⟨sa19, sc19, rfl⟩ := hp19.1.shape
            have HS19 := Lib.hid hs19
            have hl19 : r19.length ≤ 4 := by have := hs19.len; (try simp only [List.length_cons, List.length_nil] at this); omega
            have HE19 := Lib.hid (has_met hs19)
            replace HP16 := Lib.hid (HP16.out.ext hb19)
            replace HP17 := Lib.hid (HP17.out.ext hb19)
            replace HP18 := Lib.hid (HP18.out.ext hb19)
            have hx19 := hx18.trans hb19
            clear hb19
            have HP19 := Lib.hid hp19
            clear hs19 hp19
            refine hK.out _ _ (KP _ hx19) (fun hHeld => ?_)
            clear hK K
            (try simp only [sA, sB, sC])
            refine wpAnyH_ready (rs := [17]) (by kernel_rfl) (by simp) ?_
            refine AllReadyH.cons (o := _) rfl (fun K hK => ?_) AllReadyH.nil
            go_simp
            go_at_call 17
            go_fit (all_any _ r19 _ HP19.out (by omega))
            rintro e w20 ⟨v20, rfl, hp20, hb20⟩
            obtain ⟨sa20, sc20, rfl⟩ := hp20.1.shape
            replace HP16 := Lib.hid (HP16.out.ext hb20)
            replace HP19 := Lib.hid (HP19.out.ext hb20)
            have hx20 := hx19.trans hb20
            clear hb20
            have HP20 := Lib.hid hp20
            clear hp20
            refine hK.out _ _ (KP _ hx20) (fun hHeld => ?_)
            clear hK K
            (try simp only [sA, sB, sC])
            refine wpAnyH_ready (rs := [18]) (by kernel_rfl) (by simp) ?_
            refine AllReadyH.cons (o := _) rfl (fun K hK => ?_) AllReadyH.nil
            go_simp
            go_at_call 16
            go_fit (same2_any _ _ r13 r19 _ (canon_eq HS19.out.canon HS13.out.canon (fun d => by rw [HE19.out d, HE17.out d, HE18.out d, HE13.out d]; exact cross_has HXC.out d)) HP16.out.1 HP20.out.1 (by omega))
            rintro e w21 ⟨rfl, hb21⟩
            have hx21 := hx20.trans hb21
            clear hb21
            refine hK.out _ _ (KP _ hx21) (fun hHeld => ?_)
            clear hK K
            (try simp only [sA, sB, sC])
            refine tk 19 35 ?_ rfl rfl (by kernel_rfl) (fun _ _ _ h => h) (.inl ⟨by rfl, ?_⟩) ‹_› ?_
            rotate_left
            · (intro w hSw; (try dsimp only at hSw); go_simp; (try with_reducible rfl))
            (try simp only [Act.put, sA, sB, sC])
            refine tk 20 36 ?_ rfl rfl (by kernel_rfl) (fun _ _ _ h => h) (.inl ⟨by rfl, ?_⟩) ‹_› ?_
            rotate_left
            · (intro w hSw; (try dsimp only at hSw); go_simp; (try with_reducible rfl))
            (try simp only [Act.put, sA, sB, sC])
            exact mid _ _ _ _ _ _ _ _ _ _ _ _ _ _ _ _ _ _ _ _ _ _ _ _ _ _ _ _ _ _ _ _ _ _ _ _ _ _ _ _ _ _ _ _ _ _ _ _ _ _ _ _ _ hx21 hHeld
          exact AllReadyH.nil
        refine AllReadyH.cons (o := _) rfl (fun K hK => ?_) ?_
        · go_simp
          refine atK fun w14 hw14 => ?_
          have hb14 : Wb.Ext w13 w14 := by rw [hw14]; (repeat' (first | (with_reducible assumption) | (with_reducible exact Wb.Ext.refl _) | (with_reducible refine Wb.Ext.drew ?_) | (with_reducible refine Wb.Ext.drewN ?_ _) | (with_reducible refine Wb.Ext.alloc ?_ _) | (with_reducible refine Wb.Ext.trans ?_ (by assumption))))
          have HP14 := Lib.hid (show SpL w14 (.slice (some ⟨w13.heap.size, 0, none⟩) 1 1) [b] by rw [hw14]; exact spl_cells b (by simp [go_sem]) (by simp [go_sem]))
          clear hw14
          replace HP13 := Lib.hid (HP13.out.ext hb14)
          have hx14 := hx13.trans hb14
          clear hb14
          refine hK.out _ _ (KP _ hx14) (fun hHeld => ?_)
          clear hK K
          (try simp only [sA, sB, sC])
          refine wpAnyH_ready (rs := [9, 11]) (by kernel_rfl) (by simp) ?_
          refine AllReadyH.cons (o := _) rfl (fun K hK => ?_) ?_
          · go_simp
            go_at_call 17
            go_fit (all_any _ r13 _ HP13.out (by omega))
            rintro e w15 ⟨v15, rfl, hp15, hb15⟩
            obtain ⟨sa15, sc15, rfl⟩ := hp15.1.shape
            replace HP13 := Lib.hid (HP13.out.ext hb15)
            replace HP14 := Lib.hid (HP14.out.ext hb15)
            have hx15 := hx14.trans hb15
            clear hb15
            have HP15 := Lib.hid hp15
            clear hp15
            refine hK.out _ _ (KP _ hx15) (fun hHeld => ?_)
            clear hK K
            (try simp only [sA, sB, sC])
            refine wpAnyH_ready (rs := [11]) (by kernel_rfl) (by simp) ?_
            refine AllReadyH.cons (o := _) rfl (fun K hK => ?_) AllReadyH.nil
            go_simp
            refine atK fun w16 hw16 => ?_
            have hb16 : Wb.Ext w15 w16 := by rw [hw16]; (repeat' (first | (with_reducible assumption) | (with_reducible exact Wb.Ext.refl _) | (with_reducible refine Wb.Ext.drew ?_) | (with_reducible refine Wb.Ext.drewN ?_ _) | (with_reducible refine Wb.Ext.alloc ?_ _) | (with_reducible refine Wb.Ext.trans ?_ (by assumption))))
            have HP16 := Lib.hid (show SpL w16 (.slice (some ⟨w15.heap.size, 0, none⟩) 1 1) [a] by rw [hw16]; exact spl_cells a (by simp [go_sem]) (by simp [go_sem]))
            clear hw16
            replace HP14 := Lib.hid (HP14.out.ext hb16)
            replace HP15 := Lib.hid (HP15.out.ext hb16)
            have hx16 := hx15.trans hb16
            clear hb16
            refine hK.out _ _ (KP _ hx16) (fun hHeld => ?_)
            clear hK K
            (try simp only [sA, sB, sC])
            refine wpAnyH_ready (rs := [12]) (by kernel_rfl) (by simp) ?_
            refine AllReadyH.cons (o := _) rfl (fun K hK => ?_) AllReadyH.nil
            go_simp
            go_at_call 14
            go_fit (of_any _ [a] _ HP16.out (by intro yy hyy; simp at hyy; subst hyy; exact HBa.out) (by simp))
            rintro e w17 ⟨v17, r17, rfl, hs17, hp17, hb17⟩
            obtain ⟨sa17, sc17, rfl⟩ := hp17.1.shape
            have HS17 := Lib.hid hs17
            have hl17 : r17.length ≤ 1 := by have := hs17.len; (try simp only [List.length_cons, List.length_nil] at this); omega
            have HE17 := Lib.hid (has_of hs17)
            replace HP14 := Lib.hid (HP14.out.ext hb17)
            replace HP15 := Lib.hid (HP15.out.ext hb17)
            replace HP16 := Lib.hid (HP16.out.ext hb17)
            have hx17 := hx16.trans hb17
            clear hb17
            have HP17 := Lib.hid hp17
            clear hs17 hp17
            refine hK.out _ _ (KP _ hx17) (fun hHeld => ?_)
            clear hK K
            (try simp only [sA, sB, sC])
            refine wpAnyH_ready (rs := [15]) (by kernel_rfl) (by simp) ?_
            refine AllReadyH.cons (o := _) rfl (fun K hK => ?_) AllReadyH.nil
            go_simp
            go_at_call 14
            go_fit (of_any _ [b] _ HP14.out (by intro yy hyy; simp at hyy; subst hyy; exact HBb.out) (by simp))
            rintro e w18 ⟨v18, r18, rfl, hs18, hp18, hb18⟩
            obtain ⟨sa18, sc18, rfl⟩ := hp18.1.shape
            have HS18 := Lib.hid hs18
            have hl18 : r18.length ≤ 1 := by have := hs18.len; (try simp only [List.length_cons, List.length_nil] at this); omega
            have HE18 := Lib.hid (has_of hs18)
            replace HP14 := Lib.hid (HP14.out.ext hb18)
            replace HP15 := Lib.hid (HP15.out.ext hb18)
            replace HP17 := Lib.hid (HP17.out.ext hb18)
            have hx18 := hx17.trans hb18
            clear hb18
            have HP18 := Lib.hid hp18
            clear hs18 hp18
            refine hK.out _ _ (KP _ hx18) (fun hHeld => ?_)
            clear hK K
            (try simp only [sA, sB, sC])
            refine wpAnyH_ready (rs := [16]) (by kernel_rfl) (by simp) ?_
            refine AllReadyH.cons (o := _) rfl (fun K hK => ?_) AllReadyH.nil
            go_simp
            go_at_call 20
            go_fit (meet_any _ _ r17 r18 _ HP17.out HP18.out HS17.out.canon HS18.out.canon HS17.out.bd HS18.out.bd (by omega) (by omega))
            rintro e w19 ⟨v19, r19, rfl, hs19, hp19, hb19⟩
            obtain ⟨sa19, sc19, rfl⟩ := hp19.1.shape
            have HS19 := Lib.hid hs19
            have hl19 : r19.length ≤ 4 := by have := hs19.len; (try simp only [List.length_cons, List.length_nil] at this); omega
            have HE19 := Lib.hid (has_met hs19)
            replace HP15 := Lib.hid (HP15.out.ext hb19)
            replace HP17 := Lib.hid (HP17.out.ext hb19)
            replace HP18 := Lib.hid (HP18.out.ext hb19)
            have hx19 := hx18.trans hb19
            clear hb19
            have HP19 := Lib.hid hp19
            clear hs19 hp19
            refine hK.out _ _ (KP _ hx19) (fun hHeld => ?_)
            clear hK K
            (try simp only [sA, sB, sC])
            refine wpAnyH_ready (rs := [17]) (by kernel_rfl) (by simp) ?_
            refine AllReadyH.cons (o := _) rfl (fun K hK => ?_) AllReadyH.nil
            go_simp
            go_at_call 17
            go_fit (all_any _ r19 _ HP19.out (by omega))
            rintro e w20 ⟨v20, rfl, hp20, hb20⟩
            obtain ⟨sa20, sc20, rfl⟩ := hp20.1.shape
            replace HP15 := Lib.hid (HP15.out.ext hb20)
            replace HP19 := Lib.hid (HP19.out.ext hb20)
            have hx20 := hx19.trans hb20
            clear hb20
            have HP20 := Lib.hid hp20
            clear hp20
            refine hK.out _ _ (KP _ hx20) (fun hHeld => ?_)
            clear hK K
            (try simp only [sA, sB, sC])
            refine wpAnyH_ready (rs := [18]) (by kernel_rfl) (by simp) ?_
            refine AllReadyH.cons (o := _) rfl (fun K hK => ?_) AllReadyH.nil
            go_simp
            go_at_call 16
            go_fit (same2_any _ _ r13 r19 _ (canon_eq HS19.out.canon HS13.out.canon (fun d => by rw [HE19.out d, HE17.out d, HE18.out d, HE13.out d]; exact cross_has HXC.out d)) HP15.out.1 HP20.out.1 (by omega))
            rintro e w21 ⟨rfl, hb21⟩
            have hx21 := hx20.trans hb21
            clear hb21
            refine hK.out _ _ (KP _ hx21) (fun hHeld => ?_)
            clear hK K
            (try simp only [sA, sB, sC])
            refine tk 19 35 ?_ rfl rfl (by kernel_rfl) (fun _ _ _ h => h) (.inl ⟨by rfl, ?_⟩) ‹_› ?_
            rotate_left
            · (intro w hSw; (try dsimp only at hSw); go_simp; (try with_reducible rfl))
            (try simp only [Act.put, sA, sB, sC])
            refine tk 20 36 ?_ rfl rfl (by kernel_rfl) (fun _ _ _ h => h) (.inl ⟨by rfl, ?_⟩) ‹_› ?_
            rotate_left
            · (intro w hSw; (try dsimp only at hSw); go_simp; (try with_reducible rfl))
            (try simp only [Act.put, sA, sB, sC])
            exact mid _ _ _ _ _ _ _ _ _ _ _ _ _ _ _ _ _ _ _ _ _ _ _ _ _ _ _ _ _ _ _ _ _ _ _ _ _ _ _ _ _ _ _ _ _ _ _ _ _ _ _ _ _ hx21 hHeld
          refine AllReadyH.cons (o := _) rfl (fun K hK => ?_) ?_
          · go_simp
            refine atK fun w15 hw15 => ?_
            have hb15 : Wb.Ext w14 w15 := by rw [hw15]; (repeat' (first | (with_reducible assumption) | (with_reducible exact Wb.Ext.refl _) | (with_reducible refine Wb.Ext.drew ?_) | (with_reducible refine Wb.Ext.drewN ?_ _) | (with_reducible refine Wb.Ext.alloc ?_ _) | (with_reducible refine Wb.Ext.trans ?_ (by assumption))))
            have HP15 := Lib.hid (show SpL w15 (.slice (some ⟨w14.heap.size, 0, none⟩) 1 1) [a] by rw [hw15]; exact spl_cells a (by simp [go_sem]) (by simp [go_sem]))
            clear hw15
            replace HP13 := Lib.hid (HP13.out.ext hb15)
            replace HP14 := Lib.hid (HP14.out.ext hb15)
            have hx15 := hx14.trans hb15
            clear hb15
            refine hK.out _ _ (KP _ hx15) (fun hHeld => ?_)
            clear hK K
            (try simp only [sA, sB, sC])
            refine wpAnyH_ready (rs := [9]) (by kernel_rfl) (by simp) ?_
            refine AllReadyH.cons (o := _) rfl (fun K hK => ?_) AllReadyH.nil
            go_simp
            go_at_call 17
            go_fit (all_any _ r13 _ HP13.out (by omega))
            rintro e w16 ⟨v16, rfl, hp16, hb16⟩
            obtain ⟨sa16, sc16, rfl⟩ := hp16.1.shape
            replace HP13 := Lib.hid (HP13.out.ext hb16)
            replace HP14 := Lib.hid (HP14.out.ext hb16)
            replace HP15 := Lib.hid (HP15.out.ext hb16)
            have hx16 := hx15.trans hb16
            clear hb16
            have HP16 := Lib.hid hp16
            clear hp16
            refine hK.out _ _ (KP _ hx16) (fun hHeld => ?_)
            clear hK K
            (try simp only [sA, sB, sC])
            refine wpAnyH_ready (rs := [12]) (by kernel_rfl) (by simp) ?_
            refine AllReadyH.cons (o := _) rfl (fun K hK => ?_) AllReadyH.nil
            go_simp
            go_at_call 14
            go_fit (of_any _ [a] _ HP15.out (by intro yy hyy; simp at hyy; subst hyy; exact HBa.out) (by simp))
            rintro e w17 ⟨v17, r17, rfl, hs17, hp17, hb17⟩
            obtain ⟨sa17, sc17, rfl⟩ := hp17.1.shape
            have HS17 := Lib.hid hs17
            have hl17 : r17.length ≤ 1 := by have := hs17.len; (try simp only [List.length_cons, List.length_nil] at this); omega
            have HE17 := Lib.hid (has_of hs17)
            replace HP14 := Lib.hid (HP14.out.ext hb17)
            replace HP15 := Lib.hid (HP15.out.ext hb17)
            replace HP16 := Lib.hid (HP16.out.ext hb17)
            have hx17 := hx16.trans hb17
            clear hb17
            have HP17 := Lib.hid hp17
            clear hs17 hp17
            refine hK.out _ _ (KP _ hx17) (fun hHeld => ?_)
            clear hK K
            (try simp only [sA, sB, sC])
            refine wpAnyH_ready (rs := [15]) (by kernel_rfl) (by simp) ?_
            refine AllReadyH.cons (o := _) rfl (fun K hK => ?_) AllReadyH.nil
            go_simp
            go_at_call 14
            go_fit (of_any _ [b] _ HP14.out (by intro yy hyy; simp at hyy; subst hyy; exact HBb.out) (by simp))
            rintro e w18 ⟨v18, r18, rfl, hs18, hp18, hb18⟩
            obtain ⟨sa18, sc18, rfl⟩ := hp18.1.shape
            have HS18 := Lib.hid hs18
            have hl18 : r18.length ≤ 1 := by have := hs18.len; (try simp only [List.length_cons, List.length_nil] at this); omega
            have HE18 := Lib.hid (has_of hs18)
            replace HP14 := Lib.hid (HP14.out.ext hb18)
            replace HP16 := Lib.hid (HP16.out.ext hb18)
            replace HP17 := Lib.hid (HP17.out.ext hb18)
            have hx18 := hx17.trans hb18
            clear hb18
            have HP18 := Lib.hid hp18
            clear hs18 hp18
            refine hK.out _ _ (KP _ hx18) (fun hHeld => ?_)
            clear hK K
            (try simp only [sA, sB, sC])
            refine wpAnyH_ready (rs := [16]) (by kernel_rfl) (by simp) ?_
            refine AllReadyH.cons (o := _) rfl (fun K hK => ?_) AllReadyH.nil
            go_simp
            go_at_call 20
            go_fit (meet_any _ _ r17 r18 _ HP17.out HP18.out HS17.out.canon HS18.out.canon HS17.out.bd HS18.out.bd (by omega) (by omega))
            rintro e w19 ⟨v19, r19, rfl, hs19, hp19, hb19⟩
            obtain ⟨sa19, sc19, rfl⟩ := hp19.1.shape
            have HS19 := Lib.hid hs19
            have hl19 : r19.length ≤ 4 := by have := hs19.len; (try simp only [List.length_cons, List.length_nil] at this); omega
            have HE19 := Lib.hid (has_met hs19)
            replace HP16 := Lib.hid (HP16.out.ext hb19)
            replace HP17 := Lib.hid (HP17.out.ext hb19)
            replace HP18 := Lib.hid (HP18.out.ext hb19)
            have hx19 := hx18.trans hb19
            clear hb19
            have HP19 := Lib.hid hp19
            clear hs19 hp19
            refine hK.out _ _ (KP _ hx19) (fun hHeld => ?_)
            clear hK K
            (try simp only [sA, sB, sC])
            refine wpAnyH_ready (rs := [17]) (by kernel_rfl) (by simp) ?_
            refine AllReadyH.cons (o := _) rfl (fun K hK => ?_) AllReadyH.nil
            go_simp
            go_at_call 17
            go_fit (all_any _ r19 _ HP19.out (by omega))
            rintro e w20 ⟨v20, rfl, hp20, hb20⟩
            obtain ⟨sa20, sc20, rfl⟩ := hp20.1.shape
            replace HP16 := Lib.hid (HP16.out.ext hb20)
            replace HP19 := Lib.hid (HP19.out.ext hb20)
            have hx20 := hx19.trans hb20
            clear hb20
            have HP20 := Lib.hid hp20
            clear hp20
            refine hK.out _ _ (KP _ hx20) (fun hHeld => ?_)
            clear hK K
            (try simp only [sA, sB, sC])
            refine wpAnyH_ready (rs := [18]) (by kernel_rfl) (by simp) ?_
            refine AllReadyH.cons (o := _) rfl (fun K hK => ?_) AllReadyH.nil
            go_simp
            go_at_call 16
            go_fit (same2_any _ _ r13 r19 _ (canon_eq HS19.out.canon HS13.out.canon (fun d => by rw [HE19.out d, HE17.out d, HE18.out d, HE13.out d]; exact cross_has HXC.out d)) HP16.out.1 HP20.out.1 (by omega))
            rintro e w21 ⟨rfl, hb21⟩
            have hx21 := hx20.trans hb21
            clear hb21
            refine hK.out _ _ (KP _ hx21) (fun hHeld => ?_)
            clear hK K
            (try simp only [sA, sB, sC])
            refine tk 19 35 ?_ rfl rfl (by kernel_rfl) (fun _ _ _ h => h) (.inl ⟨by rfl, ?_⟩) ‹_› ?_
            rotate_left
            · (intro w hSw; (try dsimp only at hSw); go_simp; (try with_reducible rfl))
            (try simp only [Act.put, sA, sB, sC])
            refine tk 20 36 ?_ rfl rfl (by kernel_rfl) (fun _ _ _ h => h) (.inl ⟨by rfl, ?_⟩) ‹_› ?_
            rotate_left
            · (intro w hSw; (try dsimp only at hSw); go_simp; (try with_reducible rfl))
            (try simp only [Act.put, sA, sB, sC])
            exact mid _ _ _ _ _ _ _ _ _ _ _ _ _ _ _ _ _ _ _ _ _ _ _ _ _ _ _ _ _ _ _ _ _ _ _ _ _ _ _ _ _ _ _ _ _ _ _ _ _ _ _ _ _ hx21 hHeld
          exact AllReadyH.nil
        exact AllReadyH.nil
      refine AllReadyH.cons (o := _) rfl (fun K hK => ?_) ?_
      · go_simp
        refine atK fun w13 hw13 => ?_
        have hb13 : Wb.Ext w12 w13 := by rw [hw13]; (repeat' (first | (with_reducible assumption) | (with_reducible exact Wb.Ext.refl _) | (with_reducible refine Wb.Ext.drew ?_) | (with_reducible refine Wb.Ext.drewN ?_ _) | (with_reducible refine Wb.Ext.alloc ?_ _) | (with_reducible refine Wb.Ext.trans ?_ (by assumption))))
        have HP13 := Lib.hid (show SpL w13 (.slice (some ⟨w12.heap.size, 0, none⟩) 1 1) [a] by rw [hw13]; exact spl_cells a (by simp [go_sem]) (by simp [go_sem]))
        clear hw13
        replace HP12 := Lib.hid (HP12.out.ext hb13)
        have hx13 := hx12.trans hb13
        clear hb13
        refine hK.out _ _ (KP _ hx13) (fun hHeld => ?_)
        clear hK K
        (try simp only [sA, sB, sC])
        refine wpAnyH_ready (rs := [8, 14]) (by kernel_rfl) (by simp) ?_
        refine AllReadyH.cons (o := _) rfl (fun K hK => ?_) ?_
        · go_simp
          go_at_call 14
          go_fit (of_any _ [x] _ HP12.out (by intro yy hyy; simp at hyy; subst hyy; exact HBx.out) (by simp))
          rintro e w14 ⟨v14, r14, rfl, hs14, hp14, hb14⟩
          obtain ⟨sa14, sc14, rfl⟩ := hp14.1.shape
          have HS14 := Lib.hid hs14
          have hl14 : r14.length ≤ 1 := by have := hs14.len; (try simp only [List.length_cons, List.length_nil] at this); omega
          have HE14 := Lib.hid (has_of hs14)
          replace HP12 := Lib.hid (HP12.out.ext hb14)
          replace HP13 := Lib.hid (HP13.out.ext hb14)
          have hx14 := hx13.trans hb14
          clear hb14
          have HP14 := Lib.hid hp14
          clear hs14 hp14
          refine hK.out _ _ (KP _ hx14) (fun hHeld => ?_)
          clear hK K
          (try simp only [sA, sB, sC])
          refine wpAnyH_ready (rs := [9, 14]) (by kernel_rfl) (by simp) ?_
          refine AllReadyH.cons (o := _) rfl (fun K hK => ?_) ?_
          · go_simp
            go_at_call 17
            go_fit (all_any _ r14 _ HP14.out (by omega))
            rintro e w15 ⟨v15, rfl, hp15, hb15⟩
            obtain ⟨sa15, sc15, rfl⟩ := hp15.1.shape
            replace HP13 := Lib.hid (HP13.out.ext hb15)
            replace HP14 := Lib.hid (HP14.out.ext hb15)
            have hx15 := hx14.trans hb15
            clear hb15
            have HP15 := Lib.hid hp15
            clear hp15
            refine hK.out _ _ (KP _ hx15) (fun hHeld => ?_)
            clear hK K
            (try simp only [sA, sB, sC])
            refine wpAnyH_ready (rs := [12, 14]) (by kernel_rfl) (by simp) ?_
            refine AllReadyH.cons (o := _) rfl (fun K hK => ?_) ?_
            · go_simp
              go_at_call 14
              go_fit (of_any _ [a] _ HP13.out (by intro yy hyy; simp at hyy; subst hyy; exact HBa.out) (by simp))
              rintro e w16 ⟨v16, r16, rfl, hs16, hp16, hb16⟩
              obtain ⟨sa16, sc16, rfl⟩ := hp16.1.shape
              have HS16 := Lib.hid hs16
              have hl16 : r16.length ≤ 1 := by have := hs16.len; (try simp only [List.length_cons, List.length_nil] at this); omega
              have HE16 := Lib.hid (has_of hs16)
              replace HP13 := Lib.hid (HP13.out.ext hb16)
              replace HP15 := Lib.hid (HP15.out.ext hb16)
              have hx16 := hx15.trans hb16
              clear hb16
              have HP16 := Lib.hid hp16
              clear hs16 hp16
              refine hK.out _ _ (KP _ hx16) (fun hHeld => ?_)
              clear hK K
              (try simp only [sA, sB, sC])
              refine wpAnyH_ready (rs := [14]) (by kernel_rfl) (by simp) ?_
              refine AllReadyH.cons (o := _) rfl (fun K hK => ?_) AllReadyH.nil
              go_simp
              refine atK fun w17 hw17 => ?_
              have hb17 : Wb.Ext w16 w17 := by rw [hw17]; (repeat' (first | (with_reducible assumption) | (with_reducible exact Wb.Ext.refl _) | (with_reducible refine Wb.Ext.drew ?_) | (with_reducible refine Wb.Ext.drewN ?_ _) | (with_reducible refine Wb.Ext.alloc ?_ _) | (with_reducible refine Wb.Ext.trans ?_ (by assumption))))
              have HP17 := Lib.hid (show SpL w17 (.slice (some ⟨w16.heap.size, 0, none⟩) 1 1) [b] by rw [hw17]; exact spl_cells b (by simp [go_sem]) (by simp [go_sem]))
              clear hw17
              replace HP15 := Lib.hid (HP15.out.ext hb17)
              replace HP16 := Lib.hid (HP16.out.ext hb17)
              have hx17 := hx16.trans hb17
              clear hb17
              refine hK.out _ _ (KP _ hx17) (fun hHeld => ?_)
              clear hK K
              (try simp only [sA, sB, sC])
              refine wpAnyH_ready (rs := [15]) (by kernel_rfl) (by simp) ?_
              refine AllReadyH.cons (o := _) rfl (fun K hK => ?_) AllReadyH.nil
              go_simp
              go_at_call 14
              go_fit (of_any _ [b] _ HP17.out (by intro yy hyy; simp at hyy; subst hyy; exact HBb.out) (by simp))
              rintro e w18 ⟨v18, r18, rfl, hs18, hp18, hb18⟩
              obtain ⟨sa18, sc18, rfl⟩ := hp18.1.shape
              have HS18 := Lib.hid hs18
              have hl18 : r18.length ≤ 1 := by have := hs18.len; (try simp only [List.length_cons, List.length_nil] at this); omega
              have HE18 := Lib.hid (has_of hs18)
              replace HP15 := Lib.hid (HP15.out.ext hb18)
              replace HP16 := Lib.hid (HP16.out.ext hb18)
              replace HP17 := Lib.hid (HP17.out.ext hb18)
              have hx18 := hx17.trans hb18
              clear hb18
              have HP18 := Lib.hid hp18
              clear hs18 hp18
              refine hK.out _ _ (KP _ hx18) (fun hHeld => ?_)
              clear hK K
              (try simp only [sA, sB, sC])
              refine wpAnyH_ready (rs := [16]) (by kernel_rfl) (by simp) ?_
              refine AllReadyH.cons (o := _) rfl (fun K hK => ?_) AllReadyH.nil
              go_simp
              go_at_call 20
              go_fit (meet_any _ _ r16 r18 _ HP16.out HP18.out HS16.out.canon HS18.out.canon HS16.out.bd HS18.out.bd (by omega) (by omega))
              rintro e w19 ⟨v19, r19, rfl, hs19, hp19, hb19⟩
              obtain ⟨sa19, sc19, rfl⟩ := hp19.1.shape
              have HS19 := Lib.hid hs19
              have hl19 : r19.length ≤ 4 := by have := hs19.len; (try simp only [List.length_cons, List.length_nil] at this); omega
              have HE19 := Lib.hid (has_met hs19)
              replace HP15 := Lib.hid (HP15.out.ext hb19)
              replace HP16 := Lib.hid (HP16.out.ext hb19)
              replace HP18 := Lib.hid (HP18.out.ext hb19)
              have hx19 := hx18.trans hb19
              clear hb19
              have HP19 := Lib.hid hp19
              clear hs19 hp19
              refine hK.out _ _ (KP _ hx19) (fun hHeld => ?_)
              clear hK K
              (try simp only [sA, sB, sC])
              refine wpAnyH_ready (rs := [17]) (by kernel_rfl) (by simp) ?_
              refine AllReadyH.cons (o := _) rfl (fun K hK => ?_) AllReadyH.nil
              go_simp
              go_at_call 17
              go_fit (all_any _ r19 _ HP19.out (by omega))
              rintro e w20 ⟨v20, rfl, hp20, hb20⟩
              obtain ⟨sa20, sc20, rfl⟩ := hp20.1.shape
              replace HP15 := Lib.hid (HP15.out.ext hb20)
              replace HP19 := Lib.hid (HP19.out.ext hb20)
              have hx20 := hx19.trans hb20
              clear hb20
              have HP20 := Lib.hid hp20
              clear hp20
              refine hK.out _ _ (KP _ hx20) (fun hHeld => ?_)
              clear hK K
              (try simp only [sA, sB, sC])
              refine wpAnyH_ready (rs := [18]) (by kernel_rfl) (by simp) ?_
              refine AllReadyH.cons (o := _) rfl (fun K hK => ?_) AllReadyH.nil
              go_simp
              go_at_call 16
              go_fit (same2_any _ _ r14 r19 _ (canon_eq HS19.out.canon HS14.out.canon (fun d => by rw [HE19.out d, HE16.out d, HE18.out d, HE14.out d]; exact cross_has HXC.out d)) HP15.out.1 HP20.out.1 (by omega))
              rintro e w21 ⟨rfl, hb21⟩
              have hx21 := hx20.trans hb21
              clear hb21
              refine hK.out _ _ (KP _ hx21) (fun hHeld => ?_)
              clear hK K
              (try simp only [sA, sB, sC])
              refine tk 19 35 ?_ rfl rfl (by kernel_rfl) (fun _ _ _ h => h) (.inl ⟨by rfl, ?_⟩) ‹_› ?_
              rotate_left
              · (intro w hSw; (try dsimp only at hSw); go_simp; (try with_reducible rfl))
              (try simp only [Act.put, sA, sB, sC])
              refine tk 20 36 ?_ rfl rfl (by kernel_rfl) (fun _ _ _ h => h) (.inl ⟨by rfl, ?_⟩) ‹_› ?_
              rotate_left
              · (intro w hSw; (try dsimp only at hSw); go_simp; (try with_reducible rfl))
              (try simp only [Act.put, sA, sB, sC])
              exact mid _ _ _ _ _ _ _ _ _ _ _ _ _ _ _ _ _ _ _ _ _ _ _ _ _ _ _ _ _ _ _ _ _ _ _ _ _ _ _ _ _ _ _ _ _ _ _ _ _ _ _ _ _ hx21 hHeld
            refine AllReadyH.cons (o := _) rfl (fun K hK => ?_) ?_
            · go_simp
              refine atK fun w16 hw16 => ?_
              have hb16 : Wb.Ext w15 w16 := by rw [hw16]; (repeat' (first | (with_reducible assumption) | (with_reducible exact Wb.Ext.refl _) | (with_reducible refine Wb.Ext.drew ?_) | (with_reducible refine Wb.Ext.drewN ?_ _) | (with_reducible refine Wb.Ext.alloc ?_ _) | (with_reducible refine Wb.Ext.trans ?_ (by assumption))))
              have HP16 := Lib.hid (show SpL w16 (.slice (some ⟨w15.heap.size, 0, none⟩) 1 1) [b] by rw [hw16]; exact spl_cells b (by simp [go_sem]) (by simp [go_sem]))
              clear hw16
              replace HP13 := Lib.hid (HP13.out.ext hb16)
              replace HP15 := Lib.hid (HP15.out.ext hb16)
              have hx16 := hx15.trans hb16
              clear hb16
              refine hK.out _ _ (KP _ hx16) (fun hHeld => ?_)
              clear hK K
              (try simp only [sA, sB, sC])
              refine wpAnyH_ready (rs := [12]) (by kernel_rfl) (by simp) ?_
              refine AllReadyH.cons (o := _) rfl (fun K hK => ?_) AllReadyH.nil
              go_simp
              go_at_call 14
              go_fit (of_any _ [a] _ HP13.out (by intro yy hyy; simp at hyy; subst hyy; exact HBa.out) (by simp))
              rintro e w17 ⟨v17, r17, rfl, hs17, hp17, hb17⟩
              obtain ⟨sa17, sc17, rfl⟩ := hp17.1.shape
              have HS17 := Lib.hid hs17
              have hl17 : r17.length ≤ 1 := by have := hs17.len; (try simp only [List.length_cons, List.length_nil] at this); omega
              have HE17 := Lib.hid (has_of hs17)
              replace HP13 := Lib.hid (HP13.out.ext hb17)
              replace HP15 := Lib.hid (HP15.out.ext hb17)
              replace HP16 := Lib.hid (HP16.out.ext hb17)
              have hx17 := hx16.trans hb17
              clear hb17
              have HP17 := Lib.hid hp17
              clear hs17 hp17
              refine hK.out _ _ (KP _ hx17) (fun hHeld => ?_)
              clear hK K
              (try simp only [sA, sB, sC])
              refine wpAnyH_ready (rs := [15]) (by kernel_rfl) (by simp) ?_
              refine AllReadyH.cons (o := _) rfl (fun K hK => ?_) AllReadyH.nil
              go_simp
              go_at_call 14
              go_fit (of_any _ [b] _ HP16.out (by intro yy hyy; simp at hyy; subst hyy; exact HBb.out) (by simp))
              rintro e w18 ⟨v18, r18, rfl, hs18, hp18, hb18⟩
              obtain ⟨sa18, sc18, rfl⟩ := hp18.1.shape
              have HS18 := Lib.hid hs18
              have hl18 : r18.length ≤ 1 := by have := hs18.len; (try simp only [List.length_cons, List.length_nil] at this); omega
              have HE18 := Lib.hid (has_of hs18)
              replace HP15 := Lib.hid (HP15.out.ext hb18)
              replace HP16 := Lib.hid (HP16.out.ext hb18)
              replace HP17 := Lib.hid (HP17.out.ext hb18)
              have hx18 := hx17.trans hb18
              clear hb18
              have HP18 := Lib.hid hp18
              clear hs18 hp18
              refine hK.out _ _ (KP _ hx18) (fun hHeld => ?_)
              clear hK K
              (try simp only [sA, sB, sC])
              refine wpAnyH_ready (rs := [16]) (by kernel_rfl) (by simp) ?_
              refine AllReadyH.cons (o := _) rfl (fun K hK => ?_) AllReadyH.nil
              go_simp
              go_at_call 20
              go_fit (meet_any _ _ r17 r18 _ HP17.out HP18.out HS17.out.canon HS18.out.canon HS17.out.bd HS18.out.bd (by omega) (by omega))
              rintro e w19 ⟨v19, r19, rfl, hs19, hp19, hb19⟩
              obtain ⟨sa19, sc19, rfl⟩ := hp19.1.shape
              have HS19 := Lib.hid hs19
              have hl19 : r19.length ≤ 4 := by have := hs19.len; (try simp only [List.length_cons, List.length_nil] at this); omega
              have HE19 := Lib.hid (has_met hs19)
              replace HP15 := Lib.hid (HP15.out.ext hb19)
              replace HP17 := Lib.hid (HP17.out.ext hb19)
              replace HP18 := Lib.hid (HP18.out.ext hb19)
              have hx19 := hx18.trans hb19
              clear hb19
              have HP19 := Lib.hid hp19
              clear hs19 hp19
              refine hK.out _ _ (KP _ hx19) (fun hHeld => ?_)
              clear hK K
              (try simp only [sA, sB, sC])
              refine wpAnyH_ready (rs := [17]) (by kernel_rfl) (by simp) ?_
              refine AllReadyH.cons (o := _) rfl (fun K hK => ?_) AllReadyH.nil
              go_simp
              go_at_call 17
              go_fit (all_any _ r19 _ HP19.out (by omega))
              rintro e w20 ⟨v20, rfl, hp20, hb20⟩
              obtain ⟨sa20, sc20, rfl⟩ := hp20.1.shape
              replace HP15 := Lib.hid (HP15.out.ext hb20)
              replace HP19 := Lib.hid (HP19.out.ext hb20)
              have hx20 := hx19.trans hb20
              clear hb20
              have HP20 := Lib.hid hp20
              clear hp20
              refine hK.out _ _ (KP _ hx20) (fun hHeld => ?_)
              clear hK K
              (try simp only [sA, sB, sC])
              refine wpAnyH_ready (rs := [18]) (by kernel_rfl) (by simp) ?_
              refine AllReadyH.cons (o := _) rfl (fun K hK => ?_) AllReadyH.nil
              go_simp
              go_at_call 16
              go_fit (same2_any _ _ r14 r19 _ (canon_eq HS19.out.canon HS14.out.canon (fun d => by rw [HE19.out d, HE17.out d, HE18.out d, HE14.out d]; exact cross_has HXC.out d)) HP15.out.1 HP20.out.1 (by omega))
              rintro e w21 ⟨rfl, hb21⟩
              have hx21 := hx20.trans hb21
              clear hb21
              refine hK.out _ _ (KP _ hx21) (fun hHeld => ?_)
              clear hK K
              (try simp only [sA, sB, sC])
              refine tk 19 35 ?_ rfl rfl (by kernel_rfl) (fun _ _ _ h => h) (.inl ⟨by rfl, ?_⟩) ‹_› ?_
              rotate_left
              · (intro w hSw; (try dsimp only at hSw); go_simp; (try with_reducible rfl))
              (try simp only [Act.put, sA, sB, sC])
              refine tk 20 36 ?_ rfl rfl (by kernel_rfl) (fun _ _ _ h => h) (.inl ⟨by rfl, ?_⟩) ‹_› ?_
              rotate_left
              · (intro w hSw; (try dsimp only at hSw); go_simp; (try with_reducible rfl))
              (try simp only [Act.put, sA, sB, sC])
              exact mid _ _ _ _ _ _ _ _ _ _ _ _ _ _ _ _ _ _ _ _ _ _ _ _ _ _ _ _ _ _ _ _ _ _ _ _ _ _ _ _ _ _ _ _ _ _ _ _ _ _ _ _ _ hx21 hHeld
            exact AllReadyH.nil
          refine AllReadyH.cons (o := _) rfl (fun K hK => ?_) ?_
          · go_simp
            refine atK fun w15 hw15 => ?_
            have hb15 : Wb.Ext w14 w15 := by rw [hw15]; (repeat' (first | (with_reducible assumption) | (with_reducible exact Wb.Ext.refl _) | (with_reducible refine Wb.Ext.drew ?_) | (with_reducible refine Wb.Ext.drewN ?_ _) | (with_reducible refine Wb.Ext.alloc ?_ _) | (with_reducible refine Wb.Ext.trans ?_ (by assumption))))
            have HP15 := Lib.hid (show SpL w15 (.slice (some ⟨w14.heap.size, 0, none⟩) 1 1) [b] by rw [hw15]; exact spl_cells b (by simp [go_sem]) (by simp [go_sem]))
            clear hw15
            replace HP13 := Lib.hid (HP13.out.ext hb15)
            replace HP14 := Lib.hid (HP14.out.ext hb15)
            have hx15 := hx14.trans hb15
            clear hb15
            refine hK.out _ _ (KP _ hx15) (fun hHeld => ?_)
            clear hK K
            (try simp only [sA, sB, sC])
            refine wpAnyH_ready (rs := [9]) (by kernel_rfl) (by simp) ?_
            refine AllReadyH.cons (o := _) rfl (fun K hK => ?_) AllReadyH.nil
            go_simp
            go_at_call 17
            go_fit (all_any _ r14 _ HP14.out (by omega))
            rintro e w16 ⟨v16, rfl, hp16, hb16⟩
            obtain ⟨sa16, sc16, rfl⟩ := hp16.1.shape
            replace HP13 := Lib.hid (HP13.out.ext hb16)
            replace HP14 := Lib.hid (HP14.out.ext hb16)
            replace HP15 := Lib.hid (HP15.out.ext hb16)
            have hx16 := hx15.trans hb16
            clear hb16
            have HP16 := Lib.hid hp16
            clear hp16
            refine hK.out _ _ (KP _ hx16) (fun hHeld => ?_)
            clear hK K
            (try simp only [sA, sB, sC])
            refine wpAnyH_ready (rs := [12]) (by kernel_rfl) (by simp) ?_
            refine AllReadyH.cons (o := _) rfl (fun K hK => ?_) AllReadyH.nil
            go_simp
            go_at_call 14
            go_fit (of_any _ [a] _ HP13.out (by intro yy hyy; simp at hyy; subst hyy; exact HBa.out) (by simp))
            rintro e w17 ⟨v17, r17, rfl, hs17, hp17, hb17⟩
            obtain ⟨sa17, sc17, rfl⟩ := hp17.1.shape
            have HS17 := Lib.hid hs17
            have hl17 : r17.length ≤ 1 := by have := hs17.len; (try simp only [List.length_cons, List.length_nil] at this); omega
            have HE17 := Lib.hid (has_of hs17)
            replace HP13 := Lib.hid (HP13.out.ext hb17)
            replace HP15 := Lib.hid (HP15.out.ext hb17)
            replace HP16 := Lib.hid (HP16.out.ext hb17)
            have hx17 := hx16.trans hb17
            clear hb17
            have HP17 := Lib.hid hp17
            clear hs17 hp17
            refine hK.out _ _ (KP _ hx17) (fun hHeld => ?_)
            clear hK K
            (try simp only [sA, sB, sC])
            refine wpAnyH_ready (rs := [15]) (by kernel_rfl) (by simp) ?_
            refine AllReadyH.cons (o := _) rfl (fun K hK => ?_) AllReadyH.nil
            go_simp
            go_at_call 14
            go_fit (of_any _ [b] _ HP15.out (by intro yy hyy; simp at hyy; subst hyy; exact HBb.out) (by simp))
            rintro e w18 ⟨v18, r18, rfl, hs18, hp18, hb18⟩
            obtain ⟨sa18, sc18, rfl⟩ := hp18.1.shape
            have HS18 := Lib.hid hs18
            have hl18 : r18.length ≤ 1 := by have := hs18.len; (try simp only [List.length_cons, List.length_nil] at this); omega
            have HE18 := Lib.hid (has_of hs18)
            replace HP15 := Lib.hid (HP15.out.ext hb18)
            replace HP16 := Lib.hid (HP16.out.ext hb18)
            replace HP17 := Lib.hid (HP17.out.ext hb18)
            have hx18 := hx17.trans hb18
            clear hb18
            have HP18 := Lib.hid hp18
            clear hs18 hp18
            refine hK.out _ _ (KP _ hx18) (fun hHeld => ?_)
            clear hK K
            (try simp only [sA, sB, sC])
            refine wpAnyH_ready (rs := [16]) (by kernel_rfl) (by simp) ?_
            refine AllReadyH.cons (o := _) rfl (fun K hK => ?_) AllReadyH.nil
            go_simp
            go_at_call 20
            go_fit (meet_any _ _ r17 r18 _ HP17.out HP18.out HS17.out.canon HS18.out.canon HS17.out.bd HS18.out.bd (by omega) (by omega))
            rintro e w19 ⟨v19, r19, rfl, hs19, hp19, hb19⟩
            obtain ⟨sa19, sc19, rfl⟩ := hp19.1.shape
            have HS19 := Lib.hid hs19
            have hl19 : r19.length ≤ 4 := by have := hs19.len; (try simp only [List.length_cons, List.length_nil] at this); omega
            have HE19 := Lib.hid (has_met hs19)
            replace HP16 := Lib.hid (HP16.out.ext hb19)
            replace HP17 := Lib.hid (HP17.out.ext hb19)
            replace HP18 := Lib.hid (HP18.out.ext hb19)
            have hx19 := hx18.trans hb19
            clear hb19
            have HP19 := Lib.hid hp19
            clear hs19 hp19
            refine hK.out _ _ (KP _ hx19) (fun hHeld => ?_)
            clear hK K
            (try simp only [sA, sB, sC])
            refine wpAnyH_ready (rs := [17]) (by kernel_rfl) (by simp) ?_
            refine AllReadyH.cons (o := _) rfl (fun K hK => ?_) AllReadyH.nil
            go_simp
            go_at_call 17
            go_fit (all_any _ r19 _ HP19.out (by omega))
            rintro e w20 ⟨v20, rfl, hp20, hb20⟩
            obtain ⟨sa20, sc20, rfl⟩ := hp20.1.shape
            replace HP16 := Lib.hid (HP16.out.ext hb20)
            replace HP19 := Lib.hid (HP19.out.ext hb20)
            have hx20 := hx19.trans hb20
            clear hb20
            have HP20 := Lib.hid hp20
            clear hp20
            refine hK.out _ _ (KP _ hx20) (fun hHeld => ?_)
            clear hK K
            (try simp only [sA, sB, sC])
            refine wpAnyH_ready (rs := [18]) (by kernel_rfl) (by simp) ?_
            refine AllReadyH.cons (o := _) rfl (fun K hK => ?_) AllReadyH.nil
            go_simp
            go_at_call 16
            go_fit (same2_any _ _ r14 r19 _ (canon_eq HS19.out.canon HS14.out.canon (fun d => by rw [HE19.out d, HE17.out d, HE18.out d, HE14.out d]; exact cross_has HXC.out d)) HP16.out.1 HP20.out.1 (by omega))
            rintro e w21 ⟨rfl, hb21⟩
            have hx21 := hx20.trans hb21
            clear hb21
            refine hK.out _ _ (KP _ hx21) (fun hHeld => ?_)
            clear hK K
            (try simp only [sA, sB, sC])
            refine tk 19 35 ?_ rfl rfl (by kernel_rfl) (fun _ _ _ h => h) (.inl ⟨by rfl, ?_⟩) ‹_› ?_
            rotate_left
            · (intro w hSw; (try dsimp only at hSw); go_simp; (try with_reducible rfl))
            (try simp only [Act.put, sA, sB, sC])
            refine tk 20 36 ?_ rfl rfl (by kernel_rfl) (fun _ _ _ h => h) (.inl ⟨by rfl, ?_⟩) ‹_› ?_
            rotate_left
            · (intro w hSw; (try dsimp only at hSw); go_simp; (try with_reducible rfl))
            (try simp only [Act.put, sA, sB, sC])
            exact mid _ _ _ _ _ _ _ _ _ _ _ _ _ _ _ _ _ _ _ _ _ _ _ _ _ _ _ _ _ _ _ _ _ _ _ _ _ _ _ _ _ _ _ _ _ _ _ _ _ _ _ _ _ hx21 hHeld
          exact AllReadyH.nil
        refine AllReadyH.cons (o := _) rfl (fun K hK => ?_) ?_
        · go_simp
          refine atK fun w14 hw14 => ?_
          have hb14 : Wb.Ext w13 w14 := by rw [hw14]; (repeat' (first | (with_reducible assumption) | (with_reducible exact Wb.Ext.refl _) | (with_reducible refine Wb.Ext.drew ?_) | (with_reducible refine Wb.Ext.drewN ?_ _) | (with_reducible refine Wb.Ext.alloc ?_ _) | (with_reducible refine Wb.Ext.trans ?_ (by assumption))))
          have HP14 := Lib.hid (show SpL w14 (.slice (some ⟨w13.heap.size, 0, none⟩) 1 1) [b] by rw [hw14]; exact spl_cells b (by simp [go_sem]) (by simp [go_sem]))
          clear hw14
          replace HP12 := Lib.hid (HP12.out.ext hb14)
          replace HP13 := Lib.hid (HP13.out.ext hb14)
          have hx14 := hx13.trans hb14
          clear hb14
          refine hK.out _ _ (KP _ hx14) (fun hHeld => ?_)
          clear hK K
          (try simp only [sA, sB, sC])
          refine wpAnyH_ready (rs := [8]) (by kernel_rfl) (by simp) ?_
          refine AllReadyH.cons (o := _) rfl (fun K hK => ?_) AllReadyH.nil
          go_simp
          go_at_call 14
          go_fit (of_any _ [x] _ HP12.out (by intro yy hyy; simp at hyy; subst hyy; exact HBx.out) (by simp))
          rintro e w15 ⟨v15, r15, rfl, hs15, hp15, hb15⟩
          obtain ⟨sa15, sc15, rfl⟩ := hp15.1.shape
          have HS15 := Lib.hid hs15
          have hl15 : r15.length ≤ 1 := by have := hs15.len; (try simp only [List.length_cons, List.length_nil] at this); omega
          have HE15 := Lib.hid (has_of hs15)
          replace HP12 := Lib.hid (HP12.out.ext hb15)
          replace HP13 := Lib.hid (HP13.out.ext hb15)
          replace HP14 := Lib.hid (HP14.out.ext hb15)
          have hx15 := hx14.trans hb15
          clear hb15
          have HP15 := Lib.hid hp15
          clear hs15 hp15
          refine hK.out _ _ (KP _ hx15) (fun hHeld => ?_)
          clear hK K
          (try simp only [sA, sB, sC])
          refine wpAnyH_ready (rs := [9]) (by kernel_rfl) (by simp) ?_
          refine AllReadyH.cons (o := _) rfl (fun K hK => ?_) AllReadyH.nil
          go_simp
          go_at_call 17
          go_fit (all_any _ r15 _ HP15.out (by omega))
          rintro e w16 ⟨v16, rfl, hp16, hb16⟩
          obtain ⟨sa16, sc16, rfl⟩ := hp16.1.shape
          replace HP13 := Lib.hid (HP13.out.ext hb16)
          replace HP14 := Lib.hid (HP14.out.ext hb16)
          replace HP15 := Lib.hid (HP15.out.ext hb16)
          have hx16 := hx15.trans hb16
          clear hb16
          have HP16 := Lib.hid hp16
          clear hp16
          refine hK.out _ _ (KP _ hx16) (fun hHeld => ?_)
          clear hK K
          (try simp only [sA, sB, sC])
          refine wpAnyH_ready (rs := [12]) (by kernel_rfl) (by simp) ?_
          refine AllReadyH.cons (o := _) rfl (fun K hK => ?_) AllReadyH.nil
          go_simp
          go_at_call 14
          go_fit (of_any _ [a] _ HP13.out (by intro yy hyy; simp at hyy; subst hyy; exact HBa.out) (by simp))
          rintro e w17 ⟨v17, r17, rfl, hs17, hp17, hb17⟩
          obtain ⟨sa17, sc17, rfl⟩ := hp17.1.shape
          have HS17 := Lib.hid hs17
          have hl17 : r17.length ≤ 1 := by have := hs17.len; (try simp only [List.length_cons, List.length_nil] at this); omega
          have HE17 := Lib.hid (has_of hs17)
          replace HP13 := Lib.hid (HP13.out.ext hb17)
          replace HP14 := Lib.hid (HP14.out.ext hb17)
          replace HP16 := Lib.hid (HP16.out.ext hb17)
          have hx17 := hx16.trans hb17
          clear hb17
          have HP17 := Lib.hid hp17
          clear hs17 hp17
          refine hK.out _ _ (KP _ hx17) (fun hHeld => ?_)
          clear hK K
          (try simp only [sA, sB, sC])
          refine wpAnyH_ready (rs := [15]) (by kernel_rfl) (by simp) ?_
          refine AllReadyH.cons (o := _) rfl (fun K hK => ?_) AllReadyH.nil
          go_simp
          go_at_call 14
          go_fit (of_any _ [b] _ HP14.out (by intro yy hyy; simp at hyy; subst hyy; exact HBb.out) (by simp))
          rintro e w18 ⟨v18, r18, rfl, hs18, hp18, hb18⟩
          obtain ⟨sa18, sc18, rfl⟩ := hp18.1.shape
          have HS18 := Lib.hid hs18
          have hl18 : r18.length ≤ 1 := by have := hs18.len; (try simp only [List.length_cons, List.length_nil] at this); omega
          have HE18 := Lib.hid (has_of hs18)
          replace HP14 := Lib.hid (HP14.out.ext hb18)
          replace HP16 := Lib.hid (HP16.out.ext hb18)
          replace HP17 := Lib.hid (HP17.out.ext hb18)
          have hx18 := hx17.trans hb18
          clear hb18
          have HP18 := Lib.hid hp18
          clear hs18 hp18
          refine hK.out _ _ (KP _ hx18) (fun hHeld => ?_)
          clear hK K
          (try simp only [sA, sB, sC])
          refine wpAnyH_ready (rs := [16]) (by kernel_rfl) (by simp) ?_
          refine AllReadyH.cons (o := _) rfl (fun K hK => ?_) AllReadyH.nil
          go_simp
          go_at_call 20
          go_fit (meet_any _ _ r17 r18 _ HP17.out HP18.out HS17.out.canon HS18.out.canon HS17.out.bd HS18.out.bd (by omega) (by omega))
          rintro e w19 ⟨v19, r19, rfl, hs19, hp19, hb19⟩
          obtain ⟨sa19, sc19, rfl⟩ := hp19.1.shape
          have HS19 := Lib.hid hs19
          have hl19 : r19.length ≤ 4 := by have := hs19.len; (try simp only [List.length_cons, List.length_nil] at this); omega
          have HE19 := Lib.hid (has_met hs19)
          replace HP16 := Lib.hid (HP16.out.ext hb19)
          replace HP17 := Lib.hid (HP17.out.ext hb19)
          replace HP18 := Lib.hid (HP18.out.ext hb19)
          have hx19 := hx18.trans hb19
          clear hb19
          have HP19 := Lib.hid hp19
          clear hs19 hp19
          refine hK.out _ _ (KP _ hx19) (fun hHeld => ?_)
          clear hK K
          (try simp only [sA, sB, sC])
          refine wpAnyH_ready (rs := [17]) (by kernel_rfl) (by simp) ?_
          refine AllReadyH.cons (o := _) rfl (fun K hK => ?_) AllReadyH.nil
          go_simp
          go_at_call 17
          go_fit (all_any _ r19 _ HP19.out (by omega))
          rintro e w20 ⟨v20, rfl, hp20, hb20⟩
          obtain ⟨sa20, sc20, rfl⟩ := hp20.1.shape
          replace HP16 := Lib.hid (HP16.out.ext hb20)
          replace HP19 := Lib.hid (HP19.out.ext hb20)
          have hx20 := hx19.trans hb20
          clear hb20
          have HP20 := Lib.hid hp20
          clear hp20
          refine hK.out _ _ (KP _ hx20) (fun hHeld => ?_)
          clear hK K
          (try simp only [sA, sB, sC])
          refine wpAnyH_ready (rs := [18]) (by kernel_rfl) (by simp) ?_
          refine AllReadyH.cons (o := _) rfl (fun K hK => ?_) AllReadyH.nil
          go_simp
          go_at_call 16
          go_fit (same2_any _ _ r15 r19 _ (canon_eq HS19.out.canon HS15.out.canon (fun d => by rw [HE19.out d, HE17.out d, HE18.out d, HE15.out d]; exact cross_has HXC.out d)) HP16.out.1 HP20.out.1 (by omega))
          rintro e w21 ⟨rfl, hb21⟩
          have hx21 := hx20.trans hb21
          clear hb21
          refine hK.out _ _ (KP _ hx21) (fun hHeld => ?_)
          clear hK K
          (try simp only [sA, sB, sC])
          refine tk 19 35 ?_ rfl rfl (by kernel_rfl) (fun _ _ _ h => h) (.inl ⟨by rfl, ?_⟩) ‹_› ?_
          rotate_left
          · (intro w hSw; (try dsimp only at hSw); go_simp; (try with_reducible rfl))
          (try simp only [Act.put, sA, sB, sC])
          refine tk 20 36 ?_ rfl rfl (by kernel_rfl) (fun _ _ _ h => h) (.inl ⟨by rfl, ?_⟩) ‹_› ?_
          rotate_left
          · (intro w hSw; (try dsimp only at hSw); go_simp; (try with_reducible rfl))
          (try simp only [Act.put, sA, sB, sC])
          exact mid _ _ _ _ _ _ _ _ _ _ _ _ _ _ _ _ _ _ _ _ _ _ _ _ _ _ _ _ _ _ _ _ _ _ _ _ _ _ _ _ _ _ _ _ _ _ _ _ _ _ _ _ _ hx21 hHeld
        exact AllReadyH.nil
      refine AllReadyH.cons (o := _) rfl (fun K hK => ?_) ?_
      · go_simp
        refine atK fun w13 hw13 => ?_
        have hb13 : Wb.Ext w12 w13 := by rw [hw13]; (repeat' (first | (with_reducible assumption) | (with_reducible exact Wb.Ext.refl _) | (with_reducible refine Wb.Ext.drew ?_) | (with_reducible refine Wb.Ext.drewN ?_ _) | (with_reducible refine Wb.Ext.alloc ?_ _) | (with_reducible refine Wb.Ext.trans ?_ (by assumption))))
        have HP13 := Lib.hid (show SpL w13 (.slice (some ⟨w12.heap.size, 0, none⟩) 1 1) [b] by rw [hw13]; exact spl_cells b (by simp [go_sem]) (by simp [go_sem]))
        clear hw13
        replace HP12 := Lib.hid (HP12.out.ext hb13)
        have hx13 := hx12.trans hb13
        clear hb13
        refine hK.out _ _ (KP _ hx13) (fun hHeld => ?_)
        clear hK K
        (try simp only [sA, sB, sC])
        refine wpAnyH_ready (rs := [8, 11]) (by kernel_rfl) (by simp) ?_
        refine AllReadyH.cons (o := _) rfl (fun K hK => ?_) ?_
        · go_simp
          go_at_call 14
          go_fit (of_any _ [x] _ HP12.out (by intro yy hyy; simp at hyy; subst hyy; exact HBx.out) (by simp))
          rintro e w14 ⟨v14, r14, rfl, hs14, hp14, hb14⟩
          obtain ⟨sa14, sc14, rfl⟩ := hp14.1.shape
          have HS14 := Lib.hid hs14
          have hl14 : r14.length ≤ 1 := by have := hs14.len; (try simp only [List.length_cons, List.length_nil] at this); omega
          have HE14 := Lib.hid (has_of hs14)
          replace HP12 := Lib.hid (HP12.out.ext hb14)
          replace HP13 := Lib.hid (HP13.out.ext hb14)
          have hx14 := hx13.trans hb14
          clear hb14
          have HP14 := Lib.hid hp14
          clear hs14 hp14
          refine hK.out _ _ (KP _ hx14) (fun hHeld => ?_)
          clear hK K
          (try simp only [sA, sB, sC])
          refine wpAnyH_ready (rs := [9, 11]) (by kernel_rfl) (by simp) ?_
          refine AllReadyH.cons (o := _) rfl (fun K hK => ?_) ?_
          · go_simp
            go_at_call 17
            go_fit (all_any _ r14 _ HP14.out (by omega))
            rintro e w15 ⟨v15, rfl, hp15, hb15⟩
            obtain ⟨sa15, sc15, rfl⟩ := hp15.1.shape
            replace HP13 := Lib.hid (HP13.out.ext hb15)
            replace HP14 := Lib.hid (HP14.out.ext hb15)
            have hx15 := hx14.trans hb15
            clear hb15
            have HP15 := Lib.hid hp15
            clear hp15
            refine hK.out _ _ (KP _ hx15) (fun hHeld => ?_)
            clear hK K
            (try simp only [sA, sB, sC])
            refine wpAnyH_ready (rs := [11]) (by kernel_rfl) (by simp) ?_
            refine AllReadyH.cons (o := _) rfl (fun K hK => ?_) AllReadyH.nil
            go_simp
            refine atK fun w16 hw16 => ?_
            have hb16 : Wb.Ext w15 w16 := by rw [hw16]; (repeat' (first | (with_reducible assumption) | (with_reducible exact Wb.Ext.refl _) | (with_reducible refine Wb.Ext.drew ?_) | (with_reducible refine Wb.Ext.drewN ?_ _) | (with_reducible refine Wb.Ext.alloc ?_ _) | (with_reducible refine Wb.Ext.trans ?_ (by assumption))))
            have HP16 := Lib.hid (show SpL w16 (.slice (some ⟨w15.heap.size, 0, none⟩) 1 1) [a] by rw [hw16]; exact spl_cells a (by simp [go_sem]) (by simp [go_sem]))
            clear hw16
            replace HP13 := Lib.hid (HP13.out.ext hb16)
            replace HP15 := Lib.hid (HP15.out.ext hb16)
            have hx16 := hx15.trans hb16
            clear hb16
            refine hK.out _ _ (KP _ hx16) (fun hHeld => ?_)
            clear hK K
            (try simp only [sA, sB, sC])
            refine wpAnyH_ready (rs := [12]) (by kernel_rfl) (by simp) ?_
            refine AllReadyH.cons (o := _) rfl (fun K hK => ?_) AllReadyH.nil
            go_simp
            go_at_call 14
            go_fit (of_any _ [a] _ HP16.out (by intro yy hyy; simp at hyy; subst hyy; exact HBa.out) (by simp))
            rintro e w17 ⟨v17, r17, rfl, hs17, hp17, hb17⟩
            obtain ⟨sa17, sc17, rfl⟩ := hp17.1.shape
            have HS17 := Lib.hid hs17
            have hl17 : r17.length ≤ 1 := by have := hs17.len; (try simp only [List.length_cons, List.length_nil] at this); omega
            have HE17 := Lib.hid (has_of hs17)
            replace HP13 := Lib.hid (HP13.out.ext hb17)
            replace HP15 := Lib.hid (HP15.out.ext hb17)
            replace HP16 := Lib.hid (HP16.out.ext hb17)
            have hx17 := hx16.trans hb17
            clear hb17
            have HP17 := Lib.hid hp17
            clear hs17 hp17
            refine hK.out _ _ (KP _ hx17) (fun hHeld => ?_)
            clear hK K
            (try simp only [sA, sB, sC])
            refine wpAnyH_ready (rs := [15]) (by kernel_rfl) (by simp) ?_
            refine AllReadyH.cons (o := _) rfl (fun K hK => ?_) AllReadyH.nil
            go_simp
            go_at_call 14
            go_fit (of_any _ [b] _ HP13.out (by intro yy hyy; simp at hyy; subst hyy; exact HBb.out) (by simp))
            rintro e w18 ⟨v18, r18, rfl, hs18, hp18, hb18⟩
            obtain ⟨sa18, sc18, rfl⟩ := hp18.1.shape
            have HS18 := Lib.hid hs18
            have hl18 : r18.length ≤ 1 := by have := hs18.len; (try simp only [List.length_cons, List.length_nil] at this); omega
            have HE18 := Lib.hid (has_of hs18)
            replace HP13 := Lib.hid (HP13.out.ext hb18)
            replace HP15 := Lib.hid (HP15.out.ext hb18)
            replace HP17 := Lib.hid (HP17.out.ext hb18)
            have hx18 := hx17.trans hb18
            clear hb18
            have HP18 := Lib.hid hp18
            clear hs18 hp18
            refine hK.out _ _ (KP _ hx18) (fun hHeld => ?_)
            clear hK K
            (try simp only [sA, sB, sC])
            refine wpAnyH_ready (rs := [16]) (by kernel_rfl) (by simp) ?_
            refine AllReadyH.cons (o := _) rfl (fun K hK => ?_) AllReadyH.nil
            go_simp
            go_at_call 20
            go_fit (meet_any _ _ r17 r18 _ HP17.out HP18.out HS17.out.canon HS18.out.canon HS17.out.bd HS18.out.bd (by omega) (by omega))
            rintro e w19 ⟨v19, r19, rfl, hs19, hp19, hb19⟩
            obtain ⟨sa19, sc19, rfl⟩ := hp19.1.shape
            have HS19 := Lib.hid hs19
            have hl19 : r19.length ≤ 4 := by have := hs19.len; (try simp only [List.length_cons, List.length_nil] at this); omega
            have HE19 := Lib.hid (has_met hs19)
            replace HP15 := Lib.hid (HP15.out.ext hb19)
            replace HP17 := Lib.hid (HP17.out.ext hb19)
            replace HP18 := Lib.hid (HP18.out.ext hb19)
            have hx19 := hx18.trans hb19
            clear hb19
            have HP19 := Lib.hid hp19
            clear hs19 hp19
            refine hK.out _ _ (KP _ hx19) (fun hHeld => ?_)
            clear hK K
            (try simp only [sA, sB, sC])
            refine wpAnyH_ready (rs := [17]) (by kernel_rfl) (by simp) ?_
            refine AllReadyH.cons (o := _) rfl (fun K hK => ?_) AllReadyH.nil
            go_simp
            go_at_call 17
            go_fit (all_any _ r19 _ HP19.out (by omega))
            rintro e w20 ⟨v20, rfl, hp20, hb20⟩
            obtain ⟨sa20, sc20, rfl⟩ := hp20.1.shape
            replace HP15 := Lib.hid (HP15.out.ext hb20)
            replace HP19 := Lib.hid (HP19.out.ext hb20)
            have hx20 := hx19.trans hb20
            clear hb20
            have HP20 := Lib.hid hp20
            clear hp20
            refine hK.out _ _ (KP _ hx20) (fun hHeld => ?_)
            clear hK K
            (try simp only [sA, sB, sC])
            refine wpAnyH_ready (rs := [18]) (by kernel_rfl) (by simp) ?_
            refine AllReadyH.cons (o := _) rfl (fun K hK => ?_) AllReadyH.nil
            go_simp
            go_at_call 16
            go_fit (same2_any _ _ r14 r19 _ (canon_eq HS19.out.canon HS14.out.canon (fun d => by rw [HE19.out d, HE17.out d, HE18.out d, HE14.out d]; exact cross_has HXC.out d)) HP15.out.1 HP20.out.1 (by omega))
            rintro e w21 ⟨rfl, hb21⟩
            have hx21 := hx20.trans hb21
            clear hb21
            refine hK.out _ _ (KP _ hx21) (fun hHeld => ?_)
            clear hK K
            (try simp only [sA, sB, sC])
            refine tk 19 35 ?_ rfl rfl (by kernel_rfl) (fun _ _ _ h => h) (.inl ⟨by rfl, ?_⟩) ‹_› ?_
            rotate_left
            · (intro w hSw; (try dsimp only at hSw); go_simp; (try with_reducible rfl))
            (try simp only [Act.put, sA, sB, sC])
            refine tk 20 36 ?_ rfl rfl (by kernel_rfl) (fun _ _ _ h => h) (.inl ⟨by rfl, ?_⟩) ‹_› ?_
            rotate_left
            · (intro w hSw; (try dsimp only at hSw); go_simp; (try with_reducible rfl))
            (try simp only [Act.put, sA, sB, sC])
            exact mid _ _ _ _ _ _ _ _ _ _ _ _ _ _ _ _ _ _ _ _ _ _ _ _ _ _ _ _ _ _ _ _ _ _ _ _ _ _ _ _ _ _ _ _ _ _ _ _ _ _ _ _ _ hx21 hHeld
          refine AllReadyH.cons (o := _) rfl (fun K hK => ?_) ?_
          · go_simp
            refine atK fun w15 hw15 => ?_
            have hb15 : Wb.Ext w14 w15 := by rw [hw15]; (repeat' (first | (with_reducible assumption) | (with_reducible exact Wb.Ext.refl _) | (with_reducible refine Wb.Ext.drew ?_) | (with_reducible refine Wb.Ext.drewN ?_ _) | (with_reducible refine Wb.Ext.alloc ?_ _) | (with_reducible refine Wb.Ext.trans ?_ (by assumption))))
            have HP15 := Lib.hid (show SpL w15 (.slice (some ⟨w14.heap.size, 0, none⟩) 1 1) [a] by rw [hw15]; exact spl_cells a (by simp [go_sem]) (by simp [go_sem]))
            clear hw15
            replace HP13 := Lib.hid (HP13.out.ext hb15)
            replace HP14 := Lib.hid (HP14.out.ext hb15)
            have hx15 := hx14.trans hb15
            clear hb15
            refine hK.out _ _ (KP _ hx15) (fun hHeld => ?_)
            clear hK K
            (try simp only [sA, sB, sC])
            refine wpAnyH_ready (rs := [9]) (by kernel_rfl) (by simp) ?_
            refine AllReadyH.cons (o := _) rfl (fun K hK => ?_) AllReadyH.nil
            go_simp
            go_at_call 17
            go_fit (all_any _ r14 _ HP14.out (by omega))
            rintro e w16 ⟨v16, rfl, hp16, hb16⟩
            obtain ⟨sa16, sc16, rfl⟩ := hp16.1.shape
            replace HP13 := Lib.hid (HP13.out.ext hb16)
            replace HP14 := Lib.hid (HP14.out.ext hb16)
            replace HP15 := Lib.hid (HP15.out.ext hb16)
            have hx16 := hx15.trans hb16
            clear hb16
            have HP16 := Lib.hid hp16
            clear hp16
            refine hK.out _ _ (KP _ hx16) (fun hHeld => ?_)
            clear hK K
            (try simp only [sA, sB, sC])
            refine wpAnyH_ready (rs := [12]) (by kernel_rfl) (by simp) ?_
            refine AllReadyH.cons (o := _) rfl (fun K hK => ?_) AllReadyH.nil
            go_simp
            go_at_call 14
            go_fit (of_any _ [a] _ HP15.out (by intro yy hyy; simp at hyy; subst hyy; exact HBa.out) (by simp))
            rintro e w17 ⟨v17, r17, rfl, hs17, hp17, hb17⟩
            obtain ⟨sa17, sc17, rfl⟩ := hp17.1.shape
            have HS17 := Lib.hid hs17
            have hl17 : r17.length ≤ 1 := by have := hs17.len; (try simp only [List.length_cons, List.length_nil] at this); omega
            have HE17 := Lib.hid (has_of hs17)
            replace HP13 := Lib.hid (HP13.out.ext hb17)
            replace HP15 := Lib.hid (HP15.out.ext hb17)
            replace HP16 := Lib.hid (HP16.out.ext hb17)
            have hx17 := hx16.trans hb17
            clear hb17
            have HP17 := Lib.hid hp17
            clear hs17 hp17
            refine hK.out _ _ (KP _ hx17) (fun hHeld => ?_)
            clear hK K
            (try simp only [sA, sB, sC])
            refine wpAnyH_ready (rs := [15]) (by kernel_rfl) (by simp) ?_
            refine AllReadyH.cons (o := _) rfl (fun K hK => ?_) AllReadyH.nil
            go_simp
            go_at_call 14
            go_fit (of_any _ [b] _ HP13.out (by intro yy hyy; simp at hyy; subst hyy; exact HBb.out) (by simp))
            rintro e w18 ⟨v18, r18, rfl, hs18, hp18, hb18⟩
            obtain ⟨sa18, sc18, rfl⟩ := hp18.1.shape
            have HS18 := Lib.hid hs18
            have hl18 : r18.length ≤ 1 := by have := hs18.len; (try simp only [List.length_cons, List.length_nil] at this); omega
            have HE18 := Lib.hid (has_of hs18)
            replace HP13 := Lib.hid (HP13.out.ext hb18)
            replace HP16 := Lib.hid (HP16.out.ext hb18)
            replace HP17 := Lib.hid (HP17.out.ext hb18)
            have hx18 := hx17.trans hb18
            clear hb18
            have HP18 := Lib.hid hp18
            clear hs18 hp18
            refine hK.out _ _ (KP _ hx18) (fun hHeld => ?_)
            clear hK K
            (try simp only [sA, sB, sC])
            refine wpAnyH_ready (rs := [16]) (by kernel_rfl) (by simp) ?_
            refine AllReadyH.cons (o := _) rfl (fun K hK => ?_) AllReadyH.nil
            go_simp
            go_at_call 20
            go_fit (meet_any _ _ r17 r18 _ HP17.out HP18.out HS17.out.canon HS18.out.canon HS17.out.bd HS18.out.bd (by omega) (by omega))
            rintro e w19 ⟨v19, r19, rfl, hs19, hp19, hb19⟩
            obtain ⟨sa19, sc19, rfl⟩ := hp19.1.shape
            have HS19 := Lib.hid hs19
            have hl19 : r19.length ≤ 4 := by have := hs19.len; (try simp only [List.length_cons, List.length_nil] at this); omega
            have HE19 := Lib.hid (has_met hs19)
            replace HP16 := Lib.hid (HP16.out.ext hb19)
            replace HP17 := Lib.hid (HP17.out.ext hb19)
            replace HP18 := Lib.hid (HP18.out.ext hb19)
            have hx19 := hx18.trans hb19
            clear hb19
            have HP19 := Lib.hid hp19
            clear hs19 hp19
            refine hK.out _ _ (KP _ hx19) (fun hHeld => ?_)
            clear hK K
            (try simp only [sA, sB, sC])
            refine wpAnyH_ready (rs := [17]) (by kernel_rfl) (by simp) ?_
            refine AllReadyH.cons (o := _) rfl (fun K hK => ?_) AllReadyH.nil
            go_simp
            go_at_call 17
            go_fit (all_any _ r19 _ HP19.out (by omega))
            rintro e w20 ⟨v20, rfl, hp20, hb20⟩
            obtain ⟨sa20, sc20, rfl⟩ := hp20.1.shape
            replace HP16 := Lib.hid (HP16.out.ext hb20)
            replace HP19 := Lib.hid (HP19.out.ext hb20)
            have hx20 := hx19.trans hb20
            clear hb20
            have HP20 := Lib.hid hp20
            clear hp20
            refine hK.out _ _ (KP _ hx20) (fun hHeld => ?_)
            clear hK K
            (try simp only [sA, sB, sC])
            refine wpAnyH_ready (rs := [18]) (by kernel_rfl) (by simp) ?_
            refine AllReadyH.cons (o := _) rfl (fun K hK => ?_) AllReadyH.nil
            go_simp
            go_at_call 16
            go_fit (same2_any _ _ r14 r19 _ (canon_eq HS19.out.canon HS14.out.canon (fun d => by rw [HE19.out d, HE17.out d, HE18.out d, HE14.out d]; exact cross_has HXC.out d)) HP16.out.1 HP20.out.1 (by omega))
            rintro e w21 ⟨rfl, hb21⟩
            have hx21 := hx20.trans hb21
            clear hb21
            refine hK.out _ _ (KP _ hx21) (fun hHeld => ?_)
            clear hK K
            (try simp only [sA, sB, sC])
            refine tk 19 35 ?_ rfl rfl (by kernel_rfl) (fun _ _ _ h => h) (.inl ⟨by rfl, ?_⟩) ‹_› ?_
            rotate_left
            · (intro w hSw; (try dsimp only at hSw); go_simp; (try with_reducible rfl))
            (try simp only [Act.put, sA, sB, sC])
            refine tk 20 36 ?_ rfl rfl (by kernel_rfl) (fun _ _ _ h => h) (.inl ⟨by rfl, ?_⟩) ‹_› ?_
            rotate_left
            · (intro w hSw; (try dsimp only at hSw); go_simp; (try with_reducible rfl))
            (try simp only [Act.put, sA, sB, sC])
            exact mid _ _ _ _ _ _ _ _ _ _ _ _ _ _ _ _ _ _ _ _ _ _ _ _ _ _ _ _ _ _ _ _ _ _ _ _ _ _ _ _ _ _ _ _ _ _ _ _ _ _ _ _ _ hx21 hHeld
          exact AllReadyH.nil
        refine AllReadyH.cons (o := _) rfl (fun K hK => ?_) ?_
        · go_simp
          refine atK fun w14 hw14 => ?_
          have hb14 : Wb.Ext w13 w14 := by rw [hw14]; (repeat' (first | (with_reducible assumption) | (with_reducible exact Wb.Ext.refl _) | (with_reducible refine Wb.Ext.drew ?_) | (with_reducible refine Wb.Ext.drewN ?_ _) | (with_reducible refine Wb.Ext.alloc ?_ _) | (with_reducible refine Wb.Ext.trans ?_ (by assumption))))
          have HP14 := Lib.hid (show SpL w14 (.slice (some ⟨w13.heap.size, 0, none⟩) 1 1) [a] by rw [hw14]; exact spl_cells a (by simp [go_sem]) (by simp [go_sem]))
          clear hw14
          replace HP12 := Lib.hid (HP12.out.ext hb14)
          replace HP13 := Lib.hid (HP13.out.ext hb14)
          have hx14 := hx13.trans hb14
          clear hb14
          refine hK.out _ _ (KP _ hx14) (fun hHeld => ?_)
          clear hK K
          (try simp only [sA, sB, sC])
          refine wpAnyH_ready (rs := [8]) (by kernel_rfl) (by simp) ?_
          refine AllReadyH.cons (o := _) rfl (fun K hK => ?_) AllReadyH.nil
          go_simp
          go_at_call 14
          go_fit (of_any _ [x] _ HP12.out (by intro yy hyy; simp at hyy; subst hyy; exact HBx.out) (by simp))
          rintro e w15 ⟨v15, r15, rfl, hs15, hp15, hb15⟩
          obtain ⟨sa15, sc15, rfl⟩ := hp15.1.shape
          have HS15 := Lib.hid hs15
          have hl15 : r15.length ≤ 1 := by have := hs15.len; (try simp only [List.length_cons, List.length_nil] at this); omega
          have HE15 := Lib.hid (has_of hs15)
          replace HP12 := Lib.hid (HP12.out.ext hb15)
          replace HP13 := Lib.hid (HP13.out.ext hb15)
          replace HP14 := Lib.hid (HP14.out.ext hb15)
          have hx15 := hx14.trans hb15
          clear hb15
          have HP15 := Lib.hid hp15
          clear hs15 hp15
          refine hK.out _ _ (KP _ hx15) (fun hHeld => ?_)
          clear hK K
          (try simp only [sA, sB, sC])
          refine wpAnyH_ready (rs := [9]) (by kernel_rfl) (by simp) ?_
          refine AllReadyH.cons (o := _) rfl (fun K hK => ?_) AllReadyH.nil
          go_simp
          go_at_call 17
          go_fit (all_any _ r15 _ HP15.out (by omega))
          rintro e w16 ⟨v16, rfl, hp16, hb16⟩
          obtain ⟨sa16, sc16, rfl⟩ := hp16.1.shape
          replace HP13 := Lib.hid (HP13.out.ext hb16)
          replace HP14 := Lib.hid (HP14.out.ext hb16)
          replace HP15 := Lib.hid (HP15.out.ext hb16)
          have hx16 := hx15.trans hb16
          clear hb16
          have HP16 := Lib.hid hp16
          clear hp16
          refine hK.out _ _ (KP _ hx16) (fun hHeld => ?_)
          clear hK K
          (try simp only [sA, sB, sC])
          refine wpAnyH_ready (rs := [12]) (by kernel_rfl) (by simp) ?_
          refine AllReadyH.cons (o := _) rfl (fun K hK => ?_) AllReadyH.nil
          go_simp
          go_at_call 14
          go_fit (of_any _ [a] _ HP14.out (by intro yy hyy; simp at hyy; subst hyy; exact HBa.out) (by simp))
          rintro e w17 ⟨v17, r17, rfl, hs17, hp17, hb17⟩
          obtain ⟨sa17, sc17, rfl⟩ := hp17.1.shape
          have HS17 := Lib.hid hs17
          have hl17 : r17.length ≤ 1 := by have := hs17.len; (try simp only [List.length_cons, List.length_nil] at this); omega
          have HE17 := Lib.hid (has_of hs17)
          replace HP13 := Lib.hid (HP13.out.ext hb17)
          replace HP14 := Lib.hid (HP14.out.ext hb17)
          replace HP16 := Lib.hid (HP16.out.ext hb17)
          have hx17 := hx16.trans hb17
          clear hb17
          have HP17 := Lib.hid hp17
          clear hs17 hp17
          refine hK.out _ _ (KP _ hx17) (fun hHeld => ?_)
          clear hK K
          (try simp only [sA, sB, sC])
          refine wpAnyH_ready (rs := [15]) (by kernel_rfl) (by simp) ?_
          refine AllReadyH.cons (o := _) rfl (fun K hK => ?_) AllReadyH.nil
          go_simp
          go_at_call 14
          go_fit (of_any _ [b] _ HP13.out (by intro yy hyy; simp at hyy; subst hyy; exact HBb.out) (by simp))
          rintro e w18 ⟨v18, r18, rfl, hs18, hp18, hb18⟩
          obtain ⟨sa18, sc18, rfl⟩ := hp18.1.shape
          have HS18 := Lib.hid hs18
          have hl18 : r18.length ≤ 1 := by have := hs18.len; (try simp only [List.length_cons, List.length_nil] at this); omega
          have HE18 := Lib.hid (has_of hs18)
          replace HP13 := Lib.hid (HP13.out.ext hb18)
          replace HP16 := Lib.hid (HP16.out.ext hb18)
          replace HP17 := Lib.hid (HP17.out.ext hb18)
          have hx18 := hx17.trans hb18
          clear hb18
          have HP18 := Lib.hid hp18
          clear hs18 hp18
          refine hK.out _ _ (KP _ hx18) (fun hHeld => ?_)
          clear hK K
          (try simp only [sA, sB, sC])
          refine wpAnyH_ready (rs := [16]) (by kernel_rfl) (by simp) ?_
          refine AllReadyH.cons (o := _) rfl (fun K hK => ?_) AllReadyH.nil
          go_simp
          go_at_call 20
          go_fit (meet_any _ _ r17 r18 _ HP17.out HP18.out HS17.out.canon HS18.out.canon HS17.out.bd HS18.out.bd (by omega) (by omega))
          rintro e w19 ⟨v19, r19, rfl, hs19, hp19, hb19⟩
          obtain ⟨sa19, sc19, rfl⟩ := hp19.1.shape
          have HS19 := Lib.hid hs19
          have hl19 : r19.length ≤ 4 := by have := hs19.len; (try simp only [List.length_cons, List.length_nil] at this); omega
          have HE19 := Lib.hid (has_met hs19)
          replace HP16 := Lib.hid (HP16.out.ext hb19)
          replace HP17 := Lib.hid (HP17.out.ext hb19)
          replace HP18 := Lib.hid (HP18.out.ext hb19)
          have hx19 := hx18.trans hb19
          clear hb19
          have HP19 := Lib.hid hp19
          clear hs19 hp19
          refine hK.out _ _ (KP _ hx19) (fun hHeld => ?_)
          clear hK K
          (try simp only [sA, sB, sC])
          refine wpAnyH_ready (rs := [17]) (by kernel_rfl) (by simp) ?_
          refine AllReadyH.cons (o := _) rfl (fun K hK => ?_) AllReadyH.nil
          go_simp
          go_at_call 17
          go_fit (all_any _ r19 _ HP19.out (by omega))
          rintro e w20 ⟨v20, rfl, hp20, hb20⟩
          obtain ⟨sa20, sc20, rfl⟩ := hp20.1.shape
          replace HP16 := Lib.hid (HP16.out.ext hb20)
          replace HP19 := Lib.hid (HP19.out.ext hb20)
          have hx20 := hx19.trans hb20
          clear hb20
          have HP20 := Lib.hid hp20
          clear hp20
          refine hK.out _ _ (KP _ hx20) (fun hHeld => ?_)
          clear hK K
          (try simp only [sA, sB, sC])
          refine wpAnyH_ready (rs := [18]) (by kernel_rfl) (by simp) ?_
          refine AllReadyH.cons (o := _) rfl (fun K hK => ?_) AllReadyH.nil
          go_simp
          go_at_call 16
          go_fit (same2_any _ _ r15 r19 _ (canon_eq HS19.out.canon HS15.out.canon (fun d => by rw [HE19.out d, HE17.out d, HE18.out d, HE15.out d]; exact cross_has HXC.out d)) HP16.out.1 HP20.out.1 (by omega))
          rintro e w21 ⟨rfl, hb21⟩
          have hx21 := hx20.trans hb21
          clear hb21
          refine hK.out _ _ (KP _ hx21) (fun hHeld => ?_)
          clear hK K
          (try simp only [sA, sB, sC])
          refine tk 19 35 ?_ rfl rfl (by kernel_rfl) (fun _ _ _ h => h) (.inl ⟨by rfl, ?_⟩) ‹_› ?_
          rotate_left
          · (intro w hSw; (try dsimp only at hSw); go_simp; (try with_reducible rfl))
          (try simp only [Act.put, sA, sB, sC])
          refine tk 20 36 ?_ rfl rfl (by kernel_rfl) (fun _ _ _ h => h) (.inl ⟨by rfl, ?_⟩) ‹_› ?_
          rotate_left
          · (intro w hSw; (try dsimp only at hSw); go_simp; (try with_reducible rfl))
          (try simp only [Act.put, sA, sB, sC])
          exact mid _ _ _ _ _ _ _ _ _ _ _ _ _ _ _ _ _ _ _ _ _ _ _ _ _ _ _ _ _ _ _ _ _ _ _ _ _ _ _ _ _ _ _ _ _ _ _ _ _ _ _ _ _ hx21 hHeld
        exact AllReadyH.nil
      exact AllReadyH.nil
    refine AllReadyH.cons (o := _) rfl (fun K hK => ?_) ?_
    · go_simp
      refine atK fun w12 hw12 => ?_
      have hb12 : Wb.Ext w11 w12 := by rw [hw12]; (repeat' (first | (with_reducible assumption) | (with_reducible exact Wb.Ext.refl _) | (with_reducible refine Wb.Ext.drew ?_) | (with_reducible refine Wb.Ext.drewN ?_ _) | (with_reducible refine Wb.Ext.alloc ?_ _) | (with_reducible refine Wb.Ext.trans ?_ (by assumption))))
      have HP12 := Lib.hid (show SpL w12 (.slice (some ⟨w11.heap.size, 0, none⟩) 1 1) [a] by rw [hw12]; exact spl_cells a (by simp [go_sem]) (by simp [go_sem]))
      clear hw12
      have hx12 := hx11.trans hb12
      clear hb12
      refine hK.out _ _ (KP _ hx12) (fun hHeld => ?_)
      clear hK K
      (try simp only [sA, sB, sC])
      refine wpAnyH_ready (rs := [7, 14]) (by kernel_rfl) (by simp) ?_
      refine AllReadyH.cons (o := _) rfl (fun K hK => ?_) ?_
      · go_simp
        refine atK fun w13 hw13 => ?_
        have hb13 : Wb.Ext w12 w13 := by rw [hw13]; (repeat' (first | (with_reducible assumption) | (with_reducible exact Wb.Ext.refl _) | (with_reducible refine Wb.Ext.drew ?_) | (with_reducible refine Wb.Ext.drewN ?_ _) | (with_reducible refine Wb.Ext.alloc ?_ _) | (with_reducible refine Wb.Ext.trans ?_ (by assumption))))
        have HP13 := Lib.hid (show SpL w13 (.slice (some ⟨w12.heap.size, 0, none⟩) 1 1) [x] by rw [hw13]; exact spl_cells x (by simp [go_sem]) (by simp [go_sem]))
        clear hw13
        replace HP12 := Lib.hid (HP12.out.ext hb13)
        have hx13 := hx12.trans hb13
        clear hb13
        refine hK.out _ _ (KP _ hx13) (fun hHeld => ?_)
        clear hK K
        (try simp only [sA, sB, sC])
        refine wpAnyH_ready (rs := [8, 14]) (by kernel_rfl) (by simp) ?_
        refine AllReadyH.cons (o := _) rfl (fun K hK => ?_) ?_
        · go_simp
          go_at_call 14
          go_fit (of_any _ [x] _ HP13.out (by intro yy hyy; simp at hyy; subst hyy; exact HBx.out) (by simp))
          rintro e w14 ⟨v14, r14, rfl, hs14, hp14, hb14⟩
          obtain ⟨sa14, sc14, rfl⟩ := hp14.1.shape
          have HS14 := Lib.hid hs14
          have hl14 : r14.length ≤ 1 := by have := hs14.len; (try simp only [List.length_cons, List.length_nil] at this); omega
          have HE14 := Lib.hid (has_of hs14)
          replace HP12 := Lib.hid (HP12.out.ext hb14)
          replace HP13 := Lib.hid (HP13.out.ext hb14)
          have hx14 := hx13.trans hb14
          clear hb14
          have HP14 := Lib.hid hp14
          clear hs14 hp14
          refine hK.out _ _ (KP _ hx14) (fun hHeld => ?_)
          clear hK K
          (try simp only [sA, sB, sC])
          refine wpAnyH_ready (rs := [9, 14]) (by kernel_rfl) (by simp) ?_
          refine AllReadyH.cons (o := _) rfl (fun K hK => ?_) ?_
          · go_simp
            go_at_call 17
            go_fit (all_any _ r14 _ HP14.out (by omega))
            rintro e w15 ⟨v15, rfl, hp15, hb15⟩
            obtain ⟨sa15, sc15, rfl⟩ := hp15.1.shape
            replace HP12 := Lib.hid (HP12.out.ext hb15)
            replace HP14 := Lib.hid (HP14.out.ext hb15)
            have hx15 := hx14.trans hb15
            clear hb15
            have HP15 := Lib.hid hp15
            clear hp15
            refine hK.out _ _ (KP _ hx15) (fun hHeld => ?_)
            clear hK K
            (try simp only [sA, sB, sC])
            refine wpAnyH_ready (rs := [12, 14]) (by kernel_rfl) (by simp) ?_
            refine AllReadyH.cons (o := _) rfl (fun K hK => ?_) ?_
            · go_simp
              go_at_call 14
              go_fit (of_any _ [a] _ HP12.out (by intro yy hyy; simp at hyy; subst hyy; exact HBa.out) (by simp))
              rintro e w16 ⟨v16, r16, rfl, hs16, hp16, hb16⟩
              obtain ⟨sa16, sc16, rfl⟩ := hp16.1.shape
              have HS16 := Lib.hid hs16
              have hl16 : r16.length ≤ 1 := by have := hs16.len; (try simp only [List.length_cons, List.length_nil] at this); omega
              have HE16 := Lib.hid (has_of hs16)
              replace HP12 := Lib.hid (HP12.out.ext hb16)
              replace HP15 := Lib.hid (HP15.out.ext hb16)
              have hx16 := hx15.trans hb16
              clear hb16
              have HP16 := Lib.hid hp16
              clear hs16 hp16
              refine hK.out _ _ (KP _ hx16) (fun hHeld => ?_)
              clear hK K
              (try simp only [sA, sB, sC])
              refine wpAnyH_ready (rs := [14]) (by kernel_rfl) (by simp) ?_
              refine AllReadyH.cons (o := _) rfl (fun K hK => ?_) AllReadyH.nil
              go_simp
              refine atK fun w17 hw17 => ?_
              have hb17 : Wb.Ext w16 w17 := by rw [hw17]; (repeat' (first | (with_reducible assumption) | (with_reducible exact Wb.Ext.refl _) | (with_reducible refine Wb.Ext.drew ?_) | (with_reducible refine Wb.Ext.drewN ?_ _) | (with_reducible refine Wb.Ext.alloc ?_ _) | (with_reducible refine Wb.Ext.trans ?_ (by assumption))))
              have HP17 := Lib.hid (show SpL w17 (.slice (some ⟨w16.heap.size, 0, none⟩) 1 1) [b] by rw [hw17]; exact spl_cells b (by simp [go_sem]) (by simp [go_sem]))
              clear hw17
              replace HP15 := Lib.hid (HP15.out.ext hb17)
              replace HP16 := Lib.hid (HP16.out.ext hb17)
              have hx17 := hx16.trans hb17
              clear hb17
              refine hK.out _ _ (KP _ hx17) (fun hHeld => ?_)
              clear hK K
              (try simp only [sA, sB, sC])
              refine wpAnyH_ready (rs := [15]) (by kernel_rfl) (by simp) ?_
              refine AllReadyH.cons (o := _) rfl (fun K hK => ?_) AllReadyH.nil
              go_simp
              go_at_call 14
              go_fit (of_any _ [b] _ HP17.out (by intro yy hyy; simp at hyy; subst hyy; exact HBb.out) (by simp))
              rintro e w18 ⟨v18, r18, rfl, hs18, hp18, hb18⟩
              obtain ⟨sa18, sc18, rfl⟩ := hp18.1.shape
              have HS18 := Lib.hid hs18
              have hl18 : r18.length ≤ 1 := by have := hs18.len; (try simp only [List.length_cons, List.length_nil] at this); omega
              have HE18 := Lib.hid (has_of hs18)
              replace HP15 := Lib.hid (HP15.out.ext hb18)
              replace HP16 := Lib.hid (HP16.out.ext hb18)
              replace HP17 := Lib.hid (HP17.out.ext hb18)
              have hx18 := hx17.trans hb18
              clear hb18
              have HP18 := Lib.hid hp18
              clear hs18 hp18
              refine hK.out _ _ (KP _ hx18) (fun hHeld => ?_)
              clear hK K
              (try simp only [sA, sB, sC])
              refine wpAnyH_ready (rs := [16]) (by kernel_rfl) (by simp) ?_
              refine AllReadyH.cons (o := _) rfl (fun K hK => ?_) AllReadyH.nil
              go_simp
              go_at_call 20
              go_fit (meet_any _ _ r16 r18 _ HP16.out HP18.out HS16.out.canon HS18.out.canon HS16.out.bd HS18.out.bd (by omega) (by omega))
              rintro e w19 ⟨v19, r19, rfl, hs19, hp19, hb19⟩
              obtain ⟨sa19, sc19, rfl⟩ := hp19.1.shape
              have HS19 := Lib.hid hs19
              have hl19 : r19.length ≤ 4 := by have := hs19.len; (try simp only [List.length_cons, List.length_nil] at this); omega
              have HE19 := Lib.hid (has_met hs19)
              replace HP15 := Lib.hid (HP15.out.ext hb19)
              replace HP16 := Lib.hid (HP16.out.ext hb19)
              replace HP18 := Lib.hid (HP18.out.ext hb19)
              have hx19 := hx18.trans hb19
              clear hb19
              have HP19 := Lib.hid hp19
              clear hs19 hp19
              refine hK.out _ _ (KP _ hx19) (fun hHeld => ?_)
              clear hK K
              (try simp only [sA, sB, sC])
              refine wpAnyH_ready (rs := [17]) (by kernel_rfl) (by simp) ?_
              refine AllReadyH.cons (o := _) rfl (fun K hK => ?_) AllReadyH.nil
              go_simp
              go_at_call 17
              go_fit (all_any _ r19 _ HP19.out (by omega))
              rintro e w20 ⟨v20, rfl, hp20, hb20⟩
              obtain ⟨sa20, sc20, rfl⟩ := hp20.1.shape
              replace HP15 := Lib.hid (HP15.out.ext hb20)
              replace HP19 := Lib.hid (HP19.out.ext hb20)
              have hx20 := hx19.trans hb20
              clear hb20
              have HP20 := Lib.hid hp20
              clear hp20
              refine hK.out _ _ (KP _ hx20) (fun hHeld => ?_)
              clear hK K
              (try simp only [sA, sB, sC])
              refine wpAnyH_ready (rs := [18]) (by kernel_rfl) (by simp) ?_
              refine AllReadyH.cons (o := _) rfl (fun K hK => ?_) AllReadyH.nil
              go_simp
              go_at_call 16
              go_fit (same2_any _ _ r14 r19 _ (canon_eq HS19.out.canon HS14.out.canon (fun d => by rw [HE19.out d, HE16.out d, HE18.out d, HE14.out d]; exact cross_has HXC.out d)) HP15.out.1 HP20.out.1 (by omega))
              rintro e w21 ⟨rfl, hb21⟩
              have hx21 := hx20.trans hb21
              clear hb21
              refine hK.out _ _ (KP _ hx21) (fun hHeld => ?_)
              clear hK K
              (try simp only [sA, sB, sC])
              refine tk 19 35 ?_ rfl rfl (by kernel_rfl) (fun _ _ _ h => h) (.inl ⟨by rfl, ?_⟩) ‹_› ?_
              rotate_left
              · (intro w hSw; (try dsimp only at hSw); go_simp; (try with_reducible rfl))
              (try simp only [Act.put, sA, sB, sC])
              refine tk 20 36 ?_ rfl rfl (by kernel_rfl) (fun _ _ _ h => h) (.inl ⟨by rfl, ?_⟩) ‹_› ?_
              rotate_left
              · (intro w hSw; (try dsimp only at hSw); go_simp; (try with_reducible rfl))
              (try simp only [Act.put, sA, sB, sC])
              exact mid _ _ _ _ _ _ _ _ _ _ _ _ _ _ _ _ _ _ _ _ _ _ _ _ _ _ _ _ _ _ _ _ _ _ _ _ _ _ _ _ _ _ _ _ _ _ _ _ _ _ _ _ _ hx21 hHeld
            refine AllReadyH.cons (o := _) rfl (fun K hK => ?_) ?_
            · go_simp
              refine atK fun w16 hw16 => ?_
              have hb16 : Wb.Ext w15 w16 := by rw [hw16]; (repeat' (first | (with_reducible assumption) | (with_reducible exact Wb.Ext.refl _) | (with_reducible refine Wb.Ext.drew ?_) | (with_reducible refine Wb.Ext.drewN ?_ _) | (with_reducible refine Wb.Ext.alloc ?_ _) | (with_reducible refine Wb.Ext.trans ?_ (by assumption))))
              have HP16 := Lib.hid (show SpL w16 (.slice (some ⟨w15.heap.size, 0, none⟩) 1 1) [b] by rw [hw16]; exact spl_cells b (by simp [go_sem]) (by simp [go_sem]))
              clear hw16
              replace HP12 := Lib.hid (HP12.out.ext hb16)
              replace HP15 := Lib.hid (HP15.out.ext hb16)
              have hx16 := hx15.trans hb16
              clear hb16
              refine hK.out _ _ (KP _ hx16) (fun hHeld => ?_)
              clear hK K
              (try simp only [sA, sB, sC])
              refine wpAnyH_ready (rs := [12]) (by kernel_rfl) (by simp) ?_
              refine AllReadyH.cons (o := _) rfl (fun K hK => ?_) AllReadyH.nil
              go_simp
              go_at_call 14
              go_fit (of_any _ [a] _ HP12.out (by intro yy hyy; simp at hyy; subst hyy; exact HBa.out) (by simp))
              rintro e w17 ⟨v17, r17, rfl, hs17, hp17, hb17⟩
              obtain ⟨sa17, sc17, rfl⟩ := hp17.1.shape
              have HS17 := Lib.hid hs17
              have hl17 : r17.length ≤ 1 := by have := hs17.len; (try simp only [List.length_cons, List.length_nil] at this); omega
              have HE17 := Lib.hid (has_of hs17)
              replace HP12 := Lib.hid (HP12.out.ext hb17)
              replace HP15 := Lib.hid (HP15.out.ext hb17)
              replace HP16 := Lib.hid (HP16.out.ext hb17)
              have hx17 := hx16.trans hb17
              clear hb17
              have HP17 := Lib.hid hp17
              clear hs17 hp17
              refine hK.out _ _ (KP _ hx17) (fun hHeld => ?_)
              clear hK K
              (try simp only [sA, sB, sC])
              refine wpAnyH_ready (rs := [15]) (by kernel_rfl) (by simp) ?_
              refine AllReadyH.cons (o := _) rfl (fun K hK => ?_) AllReadyH.nil
              go_simp
              go_at_call 14
              go_fit (of_any _ [b] _ HP16.out (by intro yy hyy; simp at hyy; subst hyy; exact HBb.out) (by simp))
              rintro e w18 ⟨v18, r18, rfl, hs18, hp18, hb18⟩
              obtain ⟨sa18, sc18, rfl⟩ := hp18.1.shape
              have HS18 := Lib.hid hs18
              have hl18 : r18.length ≤ 1 := by have := hs18.len; (try simp only [List.length_cons, List.length_nil] at this); omega
              have HE18 := Lib.hid (has_of hs18)
              replace HP15 := Lib.hid (HP15.out.ext hb18)
              replace HP16 := Lib.hid (HP16.out.ext hb18)
              replace HP17 := Lib.hid (HP17.out.ext hb18)
              have hx18 := hx17.trans hb18
              clear hb18
              have HP18 := Lib.hid hp18
              clear hs18 hp18
              refine hK.out _ _ (KP _ hx18) (fun hHeld => ?_)
              clear hK K
              (try simp only [sA, sB, sC])
              refine wpAnyH_ready (rs := [16]) (by kernel_rfl) (by simp) ?_
              refine AllReadyH.cons (o := _) rfl (fun K hK => ?_) AllReadyH.nil
              go_simp
              go_at_call 20
              go_fit (meet_any _ _ r17 r18 _ HP17.out HP18.out HS17.out.canon HS18.out.canon HS17.out.bd HS18.out.bd (by omega) (by omega))
              rintro e w19 ⟨v19, r19, rfl, hs19, hp19, hb19⟩
              obtain ⟨sa19, sc19, rfl⟩ := hp19.1.shape
              have HS19 := Lib.hid hs19
              have hl19 : r19.length ≤ 4 := by have := hs19.len; (try simp only [List.length_cons, List.length_nil] at this); omega
              have HE19 := Lib.hid (has_met hs19)
              replace HP15 := Lib.hid (HP15.out.ext hb19)
              replace HP17 := Lib.hid (HP17.out.ext hb19)
              replace HP18 := Lib.hid (HP18.out.ext hb19)
              have hx19 := hx18.trans hb19
              clear hb19
              have HP19 := Lib.hid hp19
              clear hs19 hp19
              refine hK.out _ _ (KP _ hx19) (fun hHeld => ?_)
              clear hK K
              (try simp only [sA, sB, sC])
              refine wpAnyH_ready (rs := [17]) (by kernel_rfl) (by simp) ?_
              refine AllReadyH.cons (o := _) rfl (fun K hK => ?_) AllReadyH.nil
              go_simp
              go_at_call 17
              go_fit (all_any _ r19 _ HP19.out (by omega))
              rintro e w20 ⟨v20, rfl, hp20, hb20⟩
              obtain ⟨sa20, sc20, rfl⟩ := hp20.1.shape
              replace HP15 := Lib.hid (HP15.out.ext hb20)
              replace HP19 := Lib.hid (HP19.out.ext hb20)
              have hx20 := hx19.trans hb20
              clear hb20
              have HP20 := Lib.hid hp20
              clear hp20
              refine hK.out _ _ (KP _ hx20) (fun hHeld => ?_)
              clear hK K
              (try simp only [sA, sB, sC])
              refine wpAnyH_ready (rs := [18]) (by kernel_rfl) (by simp) ?_
              refine AllReadyH.cons (o := _) rfl (fun K hK => ?_) AllReadyH.nil
              go_simp
              go_at_call 16
              go_fit (same2_any _ _ r14 r19 _ (canon_eq HS19.out.canon HS14.out.canon (fun d => by rw [HE19.out d, HE17.out d, HE18.out d, HE14.out d]; exact cross_has HXC.out d)) HP15.out.1 HP20.out.1 (by omega))
              rintro e w21 ⟨rfl, hb21⟩
              have hx21 := hx20.trans hb21
              clear hb21
              refine hK.out _ _ (KP _ hx21) (fun hHeld => ?_)
              clear hK K
              (try simp only [sA, sB, sC])
              refine tk 19 35 ?_ rfl rfl (by kernel_rfl) (fun _ _ _ h => h) (.inl ⟨by rfl, ?_⟩) ‹_› ?_
              rotate_left
              · (intro w hSw; (try dsimp only at hSw); go_simp; (try with_reducible rfl))
              (try simp only [Act.put, sA, sB, sC])
              refine tk 20 36 ?_ rfl rfl (by kernel_rfl) (fun _ _ _ h => h) (.inl ⟨by rfl, ?_⟩) ‹_› ?_
              rotate_left
              · (intro w hSw; (try dsimp only at hSw); go_simp; (try with_reducible rfl))
              (try simp only [Act.put, sA, sB, sC])
              exact mid _ _ _ _ _ _ _ _ _ _ _ _ _ _ _ _ _ _ _ _ _ _ _ _ _ _ _ _ _ _ _ _ _ _ _ _ _ _ _ _ _ _ _ _ _ _ _ _ _ _ _ _ _ hx21 hHeld
            exact AllReadyH.nil
          refine AllReadyH.cons (o := _) rfl (fun K hK => ?_) ?_
          · go_simp
            refine atK fun w15 hw15 => ?_
            have hb15 : Wb.Ext w14 w15 := by rw [hw15]; (repeat' (first | (with_reducible assumption) | (with_reducible exact Wb.Ext.refl _) | (with_reducible refine Wb.Ext.drew ?_) | (with_reducible refine Wb.Ext.drewN ?_ _) | (with_reducible refine Wb.Ext.alloc ?_ _) | (with_reducible refine Wb.Ext.trans ?_ (by assumption))))
            have HP15 := Lib.hid (show SpL w15 (.slice (some ⟨w14.heap.size, 0, none⟩) 1 1) [b] by rw [hw15]; exact spl_cells b (by simp [go_sem]) (by simp [go_sem]))
            clear hw15
            replace HP12 := Lib.hid (HP12.out.ext hb15)
            replace HP14 := Lib.hid (HP14.out.ext hb15)
            have hx15 := hx14.trans hb15
            clear hb15
            refine hK.out _ _ (KP _ hx15) (fun hHeld => ?_)
            clear hK K
            (try simp only [sA, sB, sC])
            refine wpAnyH_ready (rs := [9]) (by kernel_rfl) (by simp) ?_
            refine AllReadyH.cons (o := _) rfl (fun K hK => ?_) AllReadyH.nil
            go_simp
            go_at_call 17
            go_fit (all_any _ r14 _ HP14.out (by omega))
            rintro e w16 ⟨v16, rfl, hp16, hb16⟩
            obtain ⟨sa16, sc16, rfl⟩ := hp16.1.shape
            replace HP12 := Lib.hid (HP12.out.ext hb16)
            replace HP14 := Lib.hid (HP14.out.ext hb16)
            replace HP15 := Lib.hid (HP15.out.ext hb16)
            have hx16 := hx15.trans hb16
            clear hb16
            have HP16 := Lib.hid hp16
            clear hp16
            refine hK.out _ _ (KP _ hx16) (fun hHeld => ?_)
            clear hK K
            (try simp only [sA, sB, sC])
            refine wpAnyH_ready (rs := [12]) (by kernel_rfl) (by simp) ?_
            refine AllReadyH.cons (o := _) rfl (fun K hK => ?_) AllReadyH.nil
            go_simp
            go_at_call 14
            go_fit (of_any _ [a] _ HP12.out (by intro yy hyy; simp at hyy; subst hyy; exact HBa.out) (by simp))
            rintro e w17 ⟨v17, r17, rfl, hs17, hp17, hb17⟩
            obtain ⟨sa17, sc17, rfl⟩ := hp17.1.shape
            have HS17 := Lib.hid hs17
            have hl17 : r17.length ≤ 1 := by have := hs17.len; (try simp only [List.length_cons, List.length_nil] at this); omega
            have HE17 := Lib.hid (has_of hs17)
            replace HP12 := Lib.hid (HP12.out.ext hb17)
            replace HP15 := Lib.hid (HP15.out.ext hb17)
            replace HP16 := Lib.hid (HP16.out.ext hb17)
            have hx17 := hx16.trans hb17
            clear hb17
            have HP17 := Lib.hid hp17
            clear hs17 hp17
            refine hK.out _ _ (KP _ hx17) (fun hHeld => ?_)
            clear hK K
            (try simp only [sA, sB, sC])
            refine wpAnyH_ready (rs := [15]) (by kernel_rfl) (by simp) ?_
            refine AllReadyH.cons (o := _) rfl (fun K hK => ?_) AllReadyH.nil
            go_simp
            go_at_call 14
            go_fit (of_any _ [b] _ HP15.out (by intro yy hyy; simp at hyy; subst hyy; exact HBb.out) (by simp))
            rintro e w18 ⟨v18, r18, rfl, hs18, hp18, hb18⟩
            obtain ⟨sa18, sc18, rfl⟩ := hp18.1.shape
            have HS18 := Lib.hid hs18
            have hl18 : r18.length ≤ 1 := by have := hs18.len; (try simp only [List.length_cons, List.length_nil] at this); omega
            have HE18 := Lib.hid (has_of hs18)
            replace HP15 := Lib.hid (HP15.out.ext hb18)
            replace HP16 := Lib.hid (HP16.out.ext hb18)
            replace HP17 := Lib.hid (HP17.out.ext hb18)
            have hx18 := hx17.trans hb18
            clear hb18
            have HP18 := Lib.hid hp18
            clear hs18 hp18
            refine hK.out _ _ (KP _ hx18) (fun hHeld => ?_)
            clear hK K
            (try simp only [sA, sB, sC])
            refine wpAnyH_ready (rs := [16]) (by kernel_rfl) (by simp) ?_
            refine AllReadyH.cons (o := _) rfl (fun K hK => ?_) AllReadyH.nil
            go_simp
            go_at_call 20
            go_fit (meet_any _ _ r17 r18 _ HP17.out HP18.out HS17.out.canon HS18.out.canon HS17.out.bd HS18.out.bd (by omega) (by omega))
            rintro e w19 ⟨v19, r19, rfl, hs19, hp19, hb19⟩
            obtain ⟨sa19, sc19, rfl⟩ := hp19.1.shape
            have HS19 := Lib.hid hs19
            have hl19 : r19.length ≤ 4 := by have := hs19.len; (try simp only [List.length_cons, List.length_nil] at this); omega
            have HE19 := Lib.hid (has_met hs19)
            replace HP16 := Lib.hid (HP16.out.ext hb19)
            replace HP17 := Lib.hid (HP17.out.ext hb19)
            replace HP18 := Lib.hid (HP18.out.ext hb19)
            have hx19 := hx18.trans hb19
            clear hb19
            have HP19 := Lib.hid hp19
            clear hs19 hp19
            refine hK.out _ _ (KP _ hx19) (fun hHeld => ?_)
            clear hK K
            (try simp only [sA, sB, sC])
            refine wpAnyH_ready (rs := [17]) (by kernel_rfl) (by simp) ?_
            refine AllReadyH.cons (o := _) rfl (fun K hK => ?_) AllReadyH.nil
            go_simp
            go_at_call 17
            go_fit (all_any _ r19 _ HP19.out (by omega))
            rintro e w20 ⟨v20, rfl, hp20, hb20⟩
            obtain ⟨sa20, sc20, rfl⟩ := hp20.1.shape
            replace HP16 := Lib.hid (HP16.out.ext hb20)
            replace HP19 := Lib.hid (HP19.out.ext hb20)
            have hx20 := hx19.trans hb20
            clear hb20
            have HP20 := Lib.hid hp20
            clear hp20
            refine hK.out _ _ (KP _ hx20) (fun hHeld => ?_)
            clear hK K
            (try simp only [sA, sB, sC])
            refine wpAnyH_ready (rs := [18]) (by kernel_rfl) (by simp) ?_
            refine AllReadyH.cons (o := _) rfl (fun K hK => ?_) AllReadyH.nil
            go_simp
            go_at_call 16
            go_fit (same2_any _ _ r14 r19 _ (canon_eq HS19.out.canon HS14.out.canon (fun d => by rw [HE19.out d, HE17.out d, HE18.out d, HE14.out d]; exact cross_has HXC.out d)) HP16.out.1 HP20.out.1 (by omega))
            rintro e w21 ⟨rfl, hb21⟩
            have hx21 := hx20.trans hb21
            clear hb21
            refine hK.out _ _ (KP _ hx21) (fun hHeld => ?_)
            clear hK K
            (try simp only [sA, sB, sC])
            refine tk 19 35 ?_ rfl rfl (by kernel_rfl) (fun _ _ _ h => h) (.inl ⟨by rfl, ?_⟩) ‹_› ?_
            rotate_left
            · (intro w hSw; (try dsimp only at hSw); go_simp; (try with_reducible rfl))
            (try simp only [Act.put, sA, sB, sC])
            refine tk 20 36 ?_ rfl rfl (by kernel_rfl) (fun _ _ _ h => h) (.inl ⟨by rfl, ?_⟩) ‹_› ?_
            rotate_left
            · (intro w hSw; (try dsimp only at hSw); go_simp; (try with_reducible rfl))
            (try simp only [Act.put, sA, sB, sC])
            exact mid _ _ _ _ _ _ _ _ _ _ _ _ _ _ _ _ _ _ _ _ _ _ _ _ _ _ _ _ _ _ _ _ _ _ _ _ _ _ _ _ _ _ _ _ _ _ _ _ _ _ _ _ _ hx21 hHeld
          exact AllReadyH.nil
        refine AllReadyH.cons (o := _) rfl (fun K hK => ?_) ?_
        · go_simp
          refine atK fun w14 hw14 => ?_
          have hb14 : Wb.Ext w13 w14 := by rw [hw14]; (repeat' (first | (with_reducible assumption) | (with_reducible exact Wb.Ext.refl _) | (with_reducible refine Wb.Ext.drew ?_) | (with_reducible refine Wb.Ext.drewN ?_ _) | (with_reducible refine Wb.Ext.alloc ?_ _) | (with_reducible refine Wb.Ext.trans ?_ (by assumption))))
          have HP14 := Lib.hid (show SpL w14 (.slice (some ⟨w13.heap.size, 0, none⟩) 1 1) [b] by rw [hw14]; exact spl_cells b (by simp [go_sem]) (by simp [go_sem]))
          clear hw14
          replace HP12 := Lib.hid (HP12.out.ext hb14)
          replace HP13 := Lib.hid (HP13.out.ext hb14)
          have hx14 := hx13.trans hb14
          clear hb14
          refine hK.out _ _ (KP _ hx14) (fun hHeld => ?_)
          clear hK K
          (try simp only [sA, sB, sC])
          refine wpAnyH_ready (rs := [8]) (by kernel_rfl) (by simp) ?_
          refine AllReadyH.cons (o := _) rfl (fun K hK => ?_) AllReadyH.nil
          go_simp
          go_at_call 14
          go_fit (of_any _ [x] _ HP13.out (by intro yy hyy; simp at hyy; subst hyy; exact HBx.out) (by simp))
          rintro e w15 ⟨v15, r15, rfl, hs15, hp15, hb15⟩
          obtain ⟨sa15, sc15, rfl⟩ := hp15.1.shape
          have HS15 := Lib.hid hs15
          have hl15 : r15.length ≤ 1 := by have := hs15.len; (try simp only [List.length_cons, List.length_nil] at this); omega
          have HE15 := Lib.hid (has_of hs15)
          replace HP12 := Lib.hid (HP12.out.ext hb15)
          replace HP13 := Lib.hid (HP13.out.ext hb15)
          replace HP14 := Lib.hid (HP14.out.ext hb15)
          have hx15 := hx14.trans hb15
          clear hb15
          have HP15 := Lib.hid hp15
          clear hs15 hp15
          refine hK.out _ _ (KP _ hx15) (fun hHeld => ?_)
          clear hK K
          (try simp only [sA, sB, sC])
          refine wpAnyH_ready (rs := [9]) (by kernel_rfl) (by simp) ?_
          refine AllReadyH.cons (o := _) rfl (fun K hK => ?_) AllReadyH.nil
          go_simp
          go_at_call 17
          go_fit (all_any _ r15 _ HP15.out (by omega))
          rintro e w16 ⟨v16, rfl, hp16, hb16⟩
          obtain ⟨sa16, sc16, rfl⟩ := hp16.1.shape
          replace HP12 := Lib.hid (HP12.out.ext hb16)
          replace HP14 := Lib.hid (HP14.out.ext hb16)
          replace HP15 := Lib.hid (HP15.out.ext hb16)
          have hx16 := hx15.trans hb16
          clear hb16
          have HP16 := Lib.hid hp16
          clear hp16
          refine hK.out _ _ (KP _ hx16) (fun hHeld => ?_)
          clear hK K
          (try simp only [sA, sB, sC])
          refine wpAnyH_ready (rs := [12]) (by kernel_rfl) (by simp) ?_
          refine AllReadyH.cons (o := _) rfl (fun K hK => ?_) AllReadyH.nil
          go_simp
          go_at_call 14
          go_fit (of_any _ [a] _ HP12.out (by intro yy hyy; simp at hyy; subst hyy; exact HBa.out) (by simp))
          rintro e w17 ⟨v17, r17, rfl, hs17, hp17, hb17⟩
          obtain ⟨sa17, sc17, rfl⟩ := hp17.1.shape
          have HS17 := Lib.hid hs17
          have hl17 : r17.length ≤ 1 := by have := hs17.len; (try simp only [List.length_cons, List.length_nil] at this); omega
          have HE17 := Lib.hid (has_of hs17)
          replace HP12 := Lib.hid (HP12.out.ext hb17)
          replace HP14 := Lib.hid (HP14.out.ext hb17)
          replace HP16 := Lib.hid (HP16.out.ext hb17)
          have hx17 := hx16.trans hb17
          clear hb17
          have HP17 := Lib.hid hp17
          clear hs17 hp17
          refine hK.out _ _ (KP _ hx17) (fun hHeld => ?_)
          clear hK K
          (try simp only [sA, sB, sC])
          refine wpAnyH_ready (rs := [15]) (by kernel_rfl) (by simp) ?_
          refine AllReadyH.cons (o := _) rfl (fun K hK => ?_) AllReadyH.nil
          go_simp
          go_at_call 14
          go_fit (of_any _ [b] _ HP14.out (by intro yy hyy; simp at hyy; subst hyy; exact HBb.out) (by simp))
          rintro e w18 ⟨v18, r18, rfl, hs18, hp18, hb18⟩
          obtain ⟨sa18, sc18, rfl⟩ := hp18.1.shape
          have HS18 := Lib.hid hs18
          have hl18 : r18.length ≤ 1 := by have := hs18.len; (try simp only [List.length_cons, List.length_nil] at this); omega
          have HE18 := Lib.hid (has_of hs18)
          replace HP14 := Lib.hid (HP14.out.ext hb18)
          replace HP16 := Lib.hid (HP16.out.ext hb18)
          replace HP17 := Lib.hid (HP17.out.ext hb18)
          have hx18 := hx17.trans hb18
          clear hb18
          have HP18 := Lib.hid hp18
          clear hs18 hp18
          refine hK.out _ _ (KP _ hx18) (fun hHeld => ?_)
          clear hK K
          (try simp only [sA, sB, sC])
          refine wpAnyH_ready (rs := [16]) (by kernel_rfl) (by simp) ?_
          refine AllReadyH.cons (o := _) rfl (fun K hK => ?_) AllReadyH.nil
          go_simp
          go_at_call 20
          go_fit (meet_any _ _ r17 r18 _ HP17.out HP18.out HS17.out.canon HS18.out.canon HS17.out.bd HS18.out.bd (by omega) (by omega))
          rintro e w19 ⟨v19, r19, rfl, hs19, hp19, hb19⟩
          obtain ⟨sa19, sc19, rfl⟩ := hp19.1.shape
          have HS19 := Lib.hid hs19
          have hl19 : r19.length ≤ 4 := by have := hs19.len; (try simp only [List.length_cons, List.length_nil] at this); omega
          have HE19 := Lib.hid (has_met hs19)
          replace HP16 := Lib.hid (HP16.out.ext hb19)
          replace HP17 := Lib.hid (HP17.out.ext hb19)
          replace HP18 := Lib.hid (HP18.out.ext hb19)
          have hx19 := hx18.trans hb19
          clear hb19
          have HP19 := Lib.hid hp19
          clear hs19 hp19
          refine hK.out _ _ (KP _ hx19) (fun hHeld => ?_)
          clear hK K
          (try simp only [sA, sB, sC])
          refine wpAnyH_ready (rs := [17]) (by kernel_rfl) (by simp) ?_
          refine AllReadyH.cons (o := _) rfl (fun K hK => ?_) AllReadyH.nil
          go_simp
          go_at_call 17
          go_fit (all_any _ r19 _ HP19.out (by omega))
          rintro e w20 ⟨v20, rfl, hp20, hb20⟩
          obtain ⟨sa20, sc20, rfl⟩ := hp20.1.shape
          replace HP16 := Lib.hid (HP16.out.ext hb20)
          replace HP19 := Lib.hid (HP19.out.ext hb20)
          have hx20 := hx19.trans hb20
          clear hb20
          have HP20 := Lib.hid hp20
          clear hp20
          refine hK.out _ _ (KP _ hx20) (fun hHeld => ?_)
          clear hK K
          (try simp only [sA, sB, sC])
          refine wpAnyH_ready (rs := [18]) (by kernel_rfl) (by simp) ?_
          refine AllReadyH.cons (o := _) rfl (fun K hK => ?_) AllReadyH.nil
          go_simp
          go_at_call 16
          go_fit (same2_any _ _ r15 r19 _ (canon_eq HS19.out.canon HS15.out.canon (fun d => by rw [HE19.out d, HE17.out d, HE18.out d, HE15.out d]; exact cross_has HXC.out d)) HP16.out.1 HP20.out.1 (by omega))
          rintro e w21 ⟨rfl, hb21⟩
          have hx21 := hx20.trans hb21
          clear hb21
          refine hK.out _ _ (KP _ hx21) (fun hHeld => ?_)
          clear hK K
          (try simp only [sA, sB, sC])
          refine tk 19 35 ?_ rfl rfl (by kernel_rfl) (fun _ _ _ h => h) (.inl ⟨by rfl, ?_⟩) ‹_› ?_
          rotate_left
          · (intro w hSw; (try dsimp only at hSw); go_simp; (try with_reducible rfl))
          (try simp only [Act.put, sA, sB, sC])
          refine tk 20 36 ?_ rfl rfl (by kernel_rfl) (fun _ _ _ h => h) (.inl ⟨by rfl, ?_⟩) ‹_› ?_
          rotate_left
          · (intro w hSw; (try dsimp only at hSw); go_simp; (try with_reducible rfl))
          (try simp only [Act.put, sA, sB, sC])
          exact mid _ _ _ _ _ _ _ _ _ _ _ _ _ _ _ _ _ _ _ _ _ _ _ _ _ _ _ _ _ _ _ _ _ _ _ _ _ _ _ _ _ _ _ _ _ _ _ _ _ _ _ _ _ hx21 hHeld
        exact AllReadyH.nil
      refine AllReadyH.cons (o := _) rfl (fun K hK => ?_) ?_
      · go_simp
        refine atK fun w13 hw13 => ?_
        have hb13 : Wb.Ext w12 w13 := by rw [hw13]; (repeat' (first | (with_reducible assumption) | (with_reducible exact Wb.Ext.refl _) | (with_reducible refine Wb.Ext.drew ?_) | (with_reducible refine Wb.Ext.drewN ?_ _) | (with_reducible refine Wb.Ext.alloc ?_ _) | (with_reducible refine Wb.Ext.trans ?_ (by assumption))))
        have HP13 := Lib.hid (show SpL w13 (.slice (some ⟨w12.heap.size, 0, none⟩) 1 1) [b] by rw [hw13]; exact spl_cells b (by simp [go_sem]) (by simp [go_sem]))
        clear hw13
        replace HP12 := Lib.hid (HP12.out.ext hb13)
        have hx13 := hx12.trans hb13
        clear hb13
        refine hK.out _ _ (KP _ hx13) (fun hHeld => ?_)
        clear hK K
        (try simp only [sA, sB, sC])
        refine wpAnyH_ready (rs := [7]) (by kernel_rfl) (by simp) ?_
        refine AllReadyH.cons (o := _) rfl (fun K hK => ?_) AllReadyH.nil
        go_simp
        refine atK fun w14 hw14 => ?_
        have hb14 : Wb.Ext w13 w14 := by rw [hw14]; (repeat' (first | (with_reducible assumption) | (with_reducible exact Wb.Ext.refl _) | (with_reducible refine Wb.Ext.drew ?_) | (with_reducible refine Wb.Ext.drewN ?_ _) | (with_reducible refine Wb.Ext.alloc ?_ _) | (with_reducible refine Wb.Ext.trans ?_ (by assumption))))
        have HP14 := Lib.hid (show SpL w14 (.slice (some ⟨w13.heap.size, 0, none⟩) 1 1) [x] by rw [hw14]; exact spl_cells x (by simp [go_sem]) (by simp [go_sem]))
        clear hw14
        replace HP12 := Lib.hid (HP12.out.ext hb14)
        replace HP13 := Lib.hid (HP13.out.ext hb14)
        have hx14 := hx13.trans hb14
        clear hb14
        refine hK.out _ _ (KP _ hx14) (fun hHeld => ?_)
        clear hK K
        (try simp only [sA, sB, sC])
        refine wpAnyH_ready (rs := [8]) (by kernel_rfl) (by simp) ?_
        refine AllReadyH.cons (o := _) rfl (fun K hK => ?_) AllReadyH.nil
        go_simp
        go_at_call 14
        go_fit (of_any _ [x] _ HP14.out (by intro yy hyy; simp at hyy; subst hyy; exact HBx.out) (by simp))
        rintro e w15 ⟨v15, r15, rfl, hs15, hp15, hb15⟩
        obtain ⟨sa15, sc15, rfl⟩ := hp15.1.shape
        have HS15 := Lib.hid hs15
        have hl15 : r15.length ≤ 1 := by have := hs15.len; (try simp only [List.length_cons, List.length_nil] at this); omega
        have HE15 := Lib.hid (has_of hs15)
        replace HP12 := Lib.hid (HP12.out.ext hb15)
        replace HP13 := Lib.hid (HP13.out.ext hb15)
        replace HP14 := Lib.hid (HP14.out.ext hb15)
        have hx15 := hx14.trans hb15
        clear hb15
        have HP15 := Lib.hid hp15
        clear hs15 hp15
        refine hK.out _ _ (KP _ hx15) (fun hHeld => ?_)
        clear hK K
        (try simp only [sA, sB, sC])
        refine wpAnyH_ready (rs := [9]) (by kernel_rfl) (by simp) ?_
        refine AllReadyH.cons (o := _) rfl (fun K hK => ?_) AllReadyH.nil
        go_simp
        go_at_call 17
        go_fit (all_any _ r15 _ HP15.out (by omega))
        rintro e w16 ⟨v16, rfl, hp16, hb16⟩
        obtain ⟨sa16, sc16, rfl⟩ := hp16.1.shape
        replace HP12 := Lib.hid (HP12.out.ext hb16)
        replace HP13 := Lib.hid (HP13.out.ext hb16)
        replace HP15 := Lib.hid (HP15.out.ext hb16)
        have hx16 := hx15.trans hb16
        clear hb16
        have HP16 := Lib.hid hp16
        clear hp16
        refine hK.out _ _ (KP _ hx16) (fun hHeld => ?_)
        clear hK K
        (try simp only [sA, sB, sC])
        refine wpAnyH_ready (rs := [12]) (by kernel_rfl) (by simp) ?_
        refine AllReadyH.cons (o := _) rfl (fun K hK => ?_) AllReadyH.nil
        go_simp
        go_at_call 14
        go_fit (of_any _ [a] _ HP12.out (by intro yy hyy; simp at hyy; subst hyy; exact HBa.out) (by simp))
        rintro e w17 ⟨v17, r17, rfl, hs17, hp17, hb17⟩
        obtain ⟨sa17, sc17, rfl⟩ := hp17.1.shape
        have HS17 := Lib.hid hs17
        have hl17 : r17.length ≤ 1 := by have := hs17.len; (try simp only [List.length_cons, List.length_nil] at this); omega
        have HE17 := Lib.hid (has_of hs17)
        replace HP12 := Lib.hid (HP12.out.ext hb17)
        replace HP13 := Lib.hid (HP13.out.ext hb17)
        replace HP16 := Lib.hid (HP16.out.ext hb17)
        have hx17 := hx16.trans hb17
        clear hb17
        have HP17 := Lib.hid hp17
        clear hs17 hp17
        refine hK.out _ _ (KP _ hx17) (fun hHeld => ?_)
        clear hK K
        (try simp only [sA, sB, sC])
        refine wpAnyH_ready (rs := [15]) (by kernel_rfl) (by simp) ?_
        refine AllReadyH.cons (o := _) rfl (fun K hK => ?_) AllReadyH.nil
        go_simp
        go_at_call 14
        go_fit (of_any _ [b] _ HP13.out (by intro yy hyy; simp at hyy; subst hyy; exact HBb.out) (by simp))
        rintro e w18 ⟨v18, r18, rfl, hs18, hp18, hb18⟩
        obtain ⟨sa18, sc18, rfl⟩ := hp18.1.shape
        have HS18 := Lib.hid hs18
        have hl18 : r18.length ≤ 1 := by have := hs18.len; (try simp only [List.length_cons, List.length_nil] at this); omega
        have HE18 := Lib.hid (has_of hs18)
        replace HP13 := Lib.hid (HP13.out.ext hb18)
        replace HP16 := Lib.hid (HP16.out.ext hb18)
        replace HP17 := Lib.hid (HP17.out.ext hb18)
        have hx18 := hx17.trans hb18
        clear hb18
        have HP18 := Lib.hid hp18
        clear hs18 hp18
        refine hK.out _ _ (KP _ hx18) (fun hHeld => ?_)
        clear hK K
        (try simp only [sA, sB, sC])
        refine wpAnyH_ready (rs := [16]) (by kernel_rfl) (by simp) ?_
        refine AllReadyH.cons (o := _) rfl (fun K hK => ?_) AllReadyH.nil
        go_simp
        go_at_call 20
        go_fit (meet_any _ _ r17 r18 _ HP17.out HP18.out HS17.out.canon HS18.out.canon HS17.out.bd HS18.out.bd (by omega) (by omega))
        rintro e w19 ⟨v19, r19, rfl, hs19, hp19, hb19⟩
        obtain ⟨sa19, sc19, rfl⟩ := hp19.1.shape
        have HS19 := Lib.hid hs19
        have hl19 : r19.length ≤ 4 := by have := hs19.len; (try simp only [List.length_cons, List.length_nil] at this); omega
        have HE19 := Lib.hid (has_met hs19)
        replace HP16 := Lib.hid (HP16.out.ext hb19)
        replace HP17 := Lib.hid (HP17.out.ext hb19)
        replace HP18 := Lib.hid (HP18.out.ext hb19)
        have hx19 := hx18.trans hb19
        clear hb19
        have HP19 := Lib.hid hp19
        clear hs19 hp19
        refine hK.out _ _ (KP _ hx19) (fun hHeld => ?_)
        clear hK K
        (try simp only [sA, sB, sC])
        refine wpAnyH_ready (rs := [17]) (by kernel_rfl) (by simp) ?_
        refine AllReadyH.cons (o := _) rfl (fun K hK => ?_) AllReadyH.nil
        go_simp
        go_at_call 17
        go_fit (all_any _ r19 _ HP19.out (by omega))
        rintro e w20 ⟨v20, rfl, hp20, hb20⟩
        obtain ⟨sa20, sc20, rfl⟩ := hp20.1.shape
        replace HP16 := Lib.hid (HP16.out.ext hb20)
        replace HP19 := Lib.hid (HP19.out.ext hb20)
        have hx20 := hx19.trans hb20
        clear hb20
        have HP20 := Lib.hid hp20
        clear hp20
        refine hK.out _ _ (KP _ hx20) (fun hHeld => ?_)
        clear hK K
        (try simp only [sA, sB, sC])
        refine wpAnyH_ready (rs := [18]) (by kernel_rfl) (by simp) ?_
        refine AllReadyH.cons (o := _) rfl (fun K hK => ?_) AllReadyH.nil
        go_simp
        go_at_call 16
        go_fit (same2_any _ _ r15 r19 _ (canon_eq HS19.out.canon HS15.out.canon (fun d => by rw [HE19.out d, HE17.out d, HE18.out d, HE15.out d]; exact cross_has HXC.out d)) HP16.out.1 HP20.out.1 (by omega))
        rintro e w21 ⟨rfl, hb21⟩
        have hx21 := hx20.trans hb21
        clear hb21
        refine hK.out _ _ (KP _ hx21) (fun hHeld => ?_)
        clear hK K
        (try simp only [sA, sB, sC])
        refine tk 19 35 ?_ rfl rfl (by kernel_rfl) (fun _ _ _ h => h) (.inl ⟨by rfl, ?_⟩) ‹_› ?_
        rotate_left
        · (intro w hSw; (try dsimp only at hSw); go_simp; (try with_reducible rfl))
        (try simp only [Act.put, sA, sB, sC])
        refine tk 20 36 ?_ rfl rfl (by kernel_rfl) (fun _ _ _ h => h) (.inl ⟨by rfl, ?_⟩) ‹_› ?_
        rotate_left
        · (intro w hSw; (try dsimp only at hSw); go_simp; (try with_reducible rfl))
        (try simp only [Act.put, sA, sB, sC])
        exact mid _ _ _ _ _ _ _ _ _ _ _ _ _ _ _ _ _ _ _ _ _ _ _ _ _ _ _ _ _ _ _ _ _ _ _ _ _ _ _ _ _ _ _ _ _ _ _ _ _ _ _ _ _ hx21 hHeld
      exact AllReadyH.nil
    refine AllReadyH.cons (o := _) rfl (fun K hK => ?_) ?_
    · go_simp
      refine atK fun w12 hw12 => ?_
      have hb12 : Wb.Ext w11 w12 := by rw [hw12]; (repeat' (first | (with_reducible assumption) | (with_reducible exact Wb.Ext.refl _) | (with_reducible refine Wb.Ext.drew ?_) | (with_reducible refine Wb.Ext.drewN ?_ _) | (with_reducible refine Wb.Ext.alloc ?_ _) | (with_reducible refine Wb.Ext.trans ?_ (by assumption))))
      have HP12 := Lib.hid (show SpL w12 (.slice (some ⟨w11.heap.size, 0, none⟩) 1 1) [b] by rw [hw12]; exact spl_cells b (by simp [go_sem]) (by simp [go_sem]))
      clear hw12
      have hx12 := hx11.trans hb12
      clear hb12
      refine hK.out _ _ (KP _ hx12) (fun hHeld => ?_)
      clear hK K
      (try simp only [sA, sB, sC])
      refine wpAnyH_ready (rs := [7, 11]) (by kernel_rfl) (by simp) ?_
      refine AllReadyH.cons (o := _) rfl (fun K hK => ?_) ?_
      · go_simp
        refine atK fun w13 hw13 => ?_
        have hb13 : Wb.Ext w12 w13 := by rw [hw13]; (repeat' (first | (with_reducible assumption) | (with_reducible exact Wb.Ext.refl _) | (with_reducible refine Wb.Ext.drew ?_) | (with_reducible refine Wb.Ext.drewN ?_ _) | (with_reducible refine Wb.Ext.alloc ?_ _) | (with_reducible refine Wb.Ext.trans ?_ (by assumption))))
        have HP13 := Lib.hid (show SpL w13 (.slice (some ⟨w12.heap.size, 0, none⟩) 1 1) [x] by rw [hw13]; exact spl_cells x (by simp [go_sem]) (by simp [go_sem]))
        clear hw13
        replace HP12 := Lib.hid (HP12.out.ext hb13)
        have hx13 := hx12.trans hb13
        clear hb13
        refine hK.out _ _ (KP _ hx13) (fun hHeld => ?_)
        clear hK K
        (try simp only [sA, sB, sC])
        refine wpAnyH_ready (rs := [8, 11]) (by kernel_rfl) (by simp) ?_
        refine AllReadyH.cons (o := _) rfl (fun K hK => ?_) ?_
        · go_simp
          go_at_call 14
          go_fit (of_any _ [x] _ HP13.out (by intro yy hyy; simp at hyy; subst hyy; exact HBx.out) (by simp))
          rintro e w14 ⟨v14, r14, rfl, hs14, hp14, hb14⟩
          obtain ⟨sa14, sc14, rfl⟩ := hp14.1.shape
          have HS14 := Lib.hid hs14
          have hl14 : r14.length ≤ 1 := by have := hs14.len; (try simp only [List.length_cons, List.length_nil] at this); omega
          have HE14 := Lib.hid (has_of hs14)
          replace HP12 := Lib.hid (HP12.out.ext hb14)
          replace HP13 := Lib.hid (HP13.out.ext hb14)
          have hx14 := hx13.trans hb14
          clear hb14
          have HP14 := Lib.hid hp14
          clear hs14 hp14
          refine hK.out _ _ (KP _ hx14) (fun hHeld => ?_)
          clear hK K
          (try simp only [sA, sB, sC])
          refine wpAnyH_ready (rs := [9, 11]) (by kernel_rfl) (by simp) ?_
          refine AllReadyH.cons (o := _) rfl (fun K hK => ?_) ?_
          · go_simp
            go_at_call 17
            go_fit (all_any _ r14 _ HP14.out (by omega))
            rintro e w15 ⟨v15, rfl, hp15, hb15⟩
            obtain ⟨sa15, sc15, rfl⟩ := hp15.1.shape
            replace HP12 := Lib.hid (HP12.out.ext hb15)
            replace HP14 := Lib.hid (HP14.out.ext hb15)
            have hx15 := hx14.trans hb15
            clear hb15
            have HP15 := Lib.hid hp15
            clear hp15
            refine hK.out _ _ (KP _ hx15) (fun hHeld => ?_)
            clear hK K
            (try simp only [sA, sB, sC])
            refine wpAnyH_ready (rs := [11]) (by kernel_rfl) (by simp) ?_
            refine AllReadyH.cons (o := _) rfl (fun K hK => ?_) AllReadyH.nil
            go_simp
            refine atK fun w16 hw16 => ?_
            have hb16 : Wb.Ext w15 w16 := by rw [hw16]; (repeat' (first | (with_reducible assumption) | (with_reducible exact Wb.Ext.refl _) | (with_reducible refine Wb.Ext.drew ?_) | (with_reducible refine Wb.Ext.drewN ?_ _) | (with_reducible refine Wb.Ext.alloc ?_ _) | (with_reducible refine Wb.Ext.trans ?_ (by assumption))))
            have HP16 := Lib.hid (show SpL w16 (.slice (some ⟨w15.heap.size, 0, none⟩) 1 1) [a] by rw [hw16]; exact spl_cells a (by simp [go_sem]) (by simp [go_sem]))
            clear hw16
            replace HP12 := Lib.hid (HP12.out.ext hb16)
            replace HP15 := Lib.hid (HP15.out.ext hb16)
            have hx16 := hx15.trans hb16
            clear hb16
            refine hK.out _ _ (KP _ hx16) (fun hHeld => ?_)
            clear hK K
            (try simp only [sA, sB, sC])
            refine wpAnyH_ready (rs := [12]) (by kernel_rfl) (by simp) ?_
            refine AllReadyH.cons (o := _) rfl (fun K hK => ?_) AllReadyH.nil
            go_simp
            go_at_call 14
            go_fit (of_any _ [a] _ HP16.out (by intro yy hyy; simp at hyy; subst hyy; exact HBa.out) (by simp))
            rintro e w17 ⟨v17, r17, rfl, hs17, hp17, hb17⟩
            obtain ⟨sa17, sc17, rfl⟩ := hp17.1.shape
            have HS17 := Lib.hid hs17
            have hl17 : r17.length ≤ 1 := by have := hs17.len; (try simp only [List.length_cons, List.length_nil] at this); omega
            have HE17 := Lib.hid (has_of hs17)
            replace HP12 := Lib.hid (HP12.out.ext hb17)
            replace HP15 := Lib.hid (HP15.out.ext hb17)
            replace HP16 := Lib.hid (HP16.out.ext hb17)
            have hx17 := hx16.trans hb17
            clear hb17
            have HP17 := Lib.hid hp17
            clear hs17 hp17
            refine hK.out _ _ (KP _ hx17) (fun hHeld => ?_)
            clear hK K
            (try simp only [sA, sB, sC])
            refine wpAnyH_ready (rs := [15]) (by kernel_rfl) (by simp) ?_
            refine AllReadyH.cons (o := _) rfl (fun K hK => ?_) AllReadyH.nil
            go_simp
            go_at_call 14
            go_fit (of_any _ [b] _ HP12.out (by intro yy hyy; simp at hyy; subst hyy; exact HBb.out) (by simp))
            rintro e w18 ⟨v18, r18, rfl, hs18, hp18, hb18⟩
            obtain ⟨sa18, sc18, rfl⟩ := hp18.1.shape
            have HS18 := Lib.hid hs18
            have hl18 : r18.length ≤ 1 := by have := hs18.len; (try simp only [List.length_cons, List.length_nil] at this); omega
            have HE18 := Lib.hid (has_of hs18)
            replace HP12 := Lib.hid (HP12.out.ext hb18)
            replace HP15 := Lib.hid (HP15.out.ext hb18)
            replace HP17 := Lib.hid (HP17.out.ext hb18)
            have hx18 := hx17.trans hb18
            clear hb18
            have HP18 := Lib.hid hp18
            clear hs18 hp18
            refine hK.out _ _ (KP _ hx18) (fun hHeld => ?_)
            clear hK K
            (try simp only [sA, sB, sC])
            refine wpAnyH_ready (rs := [16]) (by kernel_rfl) (by simp) ?_
            refine AllReadyH.cons (o := _) rfl (fun K hK => ?_) AllReadyH.nil
            go_simp
            go_at_call 20
            go_fit (meet_any _ _ r17 r18 _ HP17.out HP18.out HS17.out.canon HS18.out.canon HS17.out.bd HS18.out.bd (by omega) (by omega))
            rintro e w19 ⟨v19, r19, rfl, hs19, hp19, hb19⟩
            obtain ⟨sa19, sc19, rfl⟩ := hp19.1.shape
            have HS19 := Lib.hid hs19
            have hl19 : r19.length ≤ 4 := by have := hs19.len; (try simp only [List.length_cons, List.length_nil] at this); omega
            have HE19 := Lib.hid (has_met hs19)
            replace HP15 := Lib.hid (HP15.out.ext hb19)
            replace HP17 := Lib.hid (HP17.out.ext hb19)
            replace HP18 := Lib.hid (HP18.out.ext hb19)
            have hx19 := hx18.trans hb19
            clear hb19
            have HP19 := Lib.hid hp19
            clear hs19 hp19
            refine hK.out _ _ (KP _ hx19) (fun hHeld => ?_)
            clear hK K
            (try simp only [sA, sB, sC])
            refine wpAnyH_ready (rs := [17]) (by kernel_rfl) (by simp) ?_
            refine AllReadyH.cons (o := _) rfl (fun K hK => ?_) AllReadyH.nil
            go_simp
            go_at_call 17
            go_fit (all_any _ r19 _ HP19.out (by omega))
            rintro e w20 ⟨v20, rfl, hp20, hb20⟩
            obtain ⟨sa20, sc20, rfl⟩ := hp20.1.shape
            replace HP15 := Lib.hid (HP15.out.ext hb20)
            replace HP19 := Lib.hid (HP19.out.ext hb20)
            have hx20 := hx19.trans hb20
            clear hb20
            have HP20 := Lib.hid hp20
            clear hp20
            refine hK.out _ _ (KP _ hx20) (fun hHeld => ?_)
            clear hK K
            (try simp only [sA, sB, sC])
            refine wpAnyH_ready (rs := [18]) (by kernel_rfl) (by simp) ?_
            refine AllReadyH.cons (o := _) rfl (fun K hK => ?_) AllReadyH.nil
            go_simp
            go_at_call 16
            go_fit (same2_any _ _ r14 r19 _ (canon_eq HS19.out.canon HS14.out.canon (fun d => by rw [HE19.out d, HE17.out d, HE18.out d, HE14.out d]; exact cross_has HXC.out d)) HP15.out.1 HP20.out.1 (by omega))
            rintro e w21 ⟨rfl, hb21⟩
            have hx21 := hx20.trans hb21
            clear hb21
            refine hK.out _ _ (KP _ hx21) (fun hHeld => ?_)
            clear hK K
            (try simp only [sA, sB, sC])
            refine tk 19 35 ?_ rfl rfl (by kernel_rfl) (fun _ _ _ h => h) (.inl ⟨by rfl, ?_⟩) ‹_› ?_
            rotate_left
            · (intro w hSw; (try dsimp only at hSw); go_simp; (try with_reducible rfl))
            (try simp only [Act.put, sA, sB, sC])
            refine tk 20 36 ?_ rfl rfl (by kernel_rfl) (fun _ _ _ h => h) (.inl ⟨by rfl, ?_⟩) ‹_› ?_
            rotate_left
            · (intro w hSw; (try dsimp only at hSw); go_simp; (try with_reducible rfl))
            (try simp only [Act.put, sA, sB, sC])
            exact mid _ _ _ _ _ _ _ _ _ _ _ _ _ _ _ _ _ _ _ _ _ _ _ _ _ _ _ _ _ _ _ _ _ _ _ _ _ _ _ _ _ _ _ _ _ _ _ _ _ _ _ _ _ hx21 hHeld
          refine AllReadyH.cons (o := _) rfl (fun K hK => ?_) ?_
          · go_simp
            refine atK fun w15 hw15 => ?_
            have hb15 : Wb.Ext w14 w15 := by rw [hw15]; (repeat' (first | (with_reducible assumption) | (with_reducible exact Wb.Ext.refl _) | (with_reducible refine Wb.Ext.drew ?_) | (with_reducible refine Wb.Ext.drewN ?_ _) | (with_reducible refine Wb.Ext.alloc ?_ _) | (with_reducible refine Wb.Ext.trans ?_ (by assumption))))
            have HP15 := Lib.hid (show SpL w15 (.slice (some ⟨w14.heap.size, 0, none⟩) 1 1) [a] by rw [hw15]; exact spl_cells a (by simp [go_sem]) (by simp [go_sem]))
            clear hw15
            replace HP12 := Lib.hid (HP12.out.ext hb15)
            replace HP14 := Lib.hid (HP14.out.ext hb15)
            have hx15 := hx14.trans hb15
            clear hb15
            refine hK.out _ _ (KP _ hx15) (fun hHeld => ?_)
            clear hK K
            (try simp only [sA, sB, sC])
            refine wpAnyH_ready (rs := [9]) (by kernel_rfl) (by simp) ?_
            refine AllReadyH.cons (o := _) rfl (fun K hK => ?_) AllReadyH.nil
            go_simp
            go_at_call 17
            go_fit (all_any _ r14 _ HP14.out (by omega))
            rintro e w16 ⟨v16, rfl, hp16, hb16⟩
            obtain ⟨sa16, sc16, rfl⟩ := hp16.1.shape
            replace HP12 := Lib.hid (HP12.out.ext hb16)
            replace HP14 := Lib.hid (HP14.out.ext hb16)
            replace HP15 := Lib.hid (HP15.out.ext hb16)
            have hx16 := hx15.trans hb16
            clear hb16
            have HP16 := Lib.hid hp16
            clear hp16
            refine hK.out _ _ (KP _ hx16) (fun hHeld => ?_)
            clear hK K
            (try simp only [sA, sB, sC])
            refine wpAnyH_ready (rs := [12]) (by kernel_rfl) (by simp) ?_
            refine AllReadyH.cons (o := _) rfl (fun K hK => ?_) AllReadyH.nil
            go_simp
            go_at_call 14
            go_fit (of_any _ [a] _ HP15.out (by intro yy hyy; simp at hyy; subst hyy; exact HBa.out) (by simp))
            rintro e w17 ⟨v17, r17, rfl, hs17, hp17, hb17⟩
            obtain ⟨sa17, sc17, rfl⟩ := hp17.1.shape
            have HS17 := Lib.hid hs17
            have hl17 : r17.length ≤ 1 := by have := hs17.len; (try simp only [List.length_cons, List.length_nil] at this); omega
            have HE17 := Lib.hid (has_of hs17)
            replace HP12 := Lib.hid (HP12.out.ext hb17)
            replace HP15 := Lib.hid (HP15.out.ext hb17)
            replace HP16 := Lib.hid (HP16.out.ext hb17)
            have hx17 := hx16.trans hb17
            clear hb17
            have HP17 := Lib.hid hp17
            clear hs17 hp17
            refine hK.out _ _ (KP _ hx17) (fun hHeld => ?_)
            clear hK K
            (try simp only [sA, sB, sC])
            refine wpAnyH_ready (rs := [15]) (by kernel_rfl) (by simp) ?_
            refine AllReadyH.cons (o := _) rfl (fun K hK => ?_) AllReadyH.nil
            go_simp
            go_at_call 14
            go_fit (of_any _ [b] _ HP12.out (by intro yy hyy; simp at hyy; subst hyy; exact HBb.out) (by simp))
            rintro e w18 ⟨v18, r18, rfl, hs18, hp18, hb18⟩
            obtain ⟨sa18, sc18, rfl⟩ := hp18.1.shape
            have HS18 := Lib.hid hs18
            have hl18 : r18.length ≤ 1 := by have := hs18.len; (try simp only [List.length_cons, List.length_nil] at this); omega
            have HE18 := Lib.hid (has_of hs18)
            replace HP12 := Lib.hid (HP12.out.ext hb18)
            replace HP16 := Lib.hid (HP16.out.ext hb18)
            replace HP17 := Lib.hid (HP17.out.ext hb18)
            have hx18 := hx17.trans hb18
            clear hb18
            have HP18 := Lib.hid hp18
            clear hs18 hp18
            refine hK.out _ _ (KP _ hx18) (fun hHeld => ?_)
            clear hK K
            (try simp only [sA, sB, sC])
            refine wpAnyH_ready (rs := [16]) (by kernel_rfl) (by simp) ?_
            refine AllReadyH.cons (o := _) rfl (fun K hK => ?_) AllReadyH.nil
            go_simp
            go_at_call 20
            go_fit (meet_any _ _ r17 r18 _ HP17.out HP18.out HS17.out.canon HS18.out.canon HS17.out.bd HS18.out.bd (by omega) (by omega))
            rintro e w19 ⟨v19, r19, rfl, hs19, hp19, hb19⟩
            obtain ⟨sa19, sc19, rfl⟩ := hp19.1.shape
            have HS19 := Lib.hid hs19
            have hl19 : r19.length ≤ 4 := by have := hs19.len; (try simp only [List.length_cons, List.length_nil] at this); omega
            have HE19 := Lib.hid (has_met hs19)
            replace HP16 := Lib.hid (HP16.out.ext hb19)
            replace HP17 := Lib.hid (HP17.out.ext hb19)
            replace HP18 := Lib.hid (HP18.out.ext hb19)
            have hx19 := hx18.trans hb19
            clear hb19
            have HP19 := Lib.hid hp19
            clear hs19 hp19
            refine hK.out _ _ (KP _ hx19) (fun hHeld => ?_)
            clear hK K
            (try simp only [sA, sB, sC])
            refine wpAnyH_ready (rs := [17]) (by kernel_rfl) (by simp) ?_
            refine AllReadyH.cons (o := _) rfl (fun K hK => ?_) AllReadyH.nil
            go_simp
            go_at_call 17
            go_fit (all_any _ r19 _ HP19.out (by omega))
            rintro e w20 ⟨v20, rfl, hp20, hb20⟩
            obtain ⟨sa20, sc20, rfl⟩ := hp20.1.shape
            replace HP16 := Lib.hid (HP16.out.ext hb20)
            replace HP19 := Lib.hid (HP19.out.ext hb20)
            have hx20 := hx19.trans hb20
            clear hb20
            have HP20 := Lib.hid hp20
            clear hp20
            refine hK.out _ _ (KP _ hx20) (fun hHeld => ?_)
            clear hK K
            (try simp only [sA, sB, sC])
            refine wpAnyH_ready (rs := [18]) (by kernel_rfl) (by simp) ?_
            refine AllReadyH.cons (o := _) rfl (fun K hK => ?_) AllReadyH.nil
            go_simp
            go_at_call 16
            go_fit (same2_any _ _ r14 r19 _ (canon_eq HS19.out.canon HS14.out.canon (fun d => by rw [HE19.out d, HE17.out d, HE18.out d, HE14.out d]; exact cross_has HXC.out d)) HP16.out.1 HP20.out.1 (by omega))
            rintro e w21 ⟨rfl, hb21⟩
            have hx21 := hx20.trans hb21
            clear hb21
            refine hK.out _ _ (KP _ hx21) (fun hHeld => ?_)
            clear hK K
            (try simp only [sA, sB, sC])
            refine tk 19 35 ?_ rfl rfl (by kernel_rfl) (fun _ _ _ h => h) (.inl ⟨by rfl, ?_⟩) ‹_› ?_
            rotate_left
            · (intro w hSw; (try dsimp only at hSw); go_simp; (try with_reducible rfl))
            (try simp only [Act.put, sA, sB, sC])
            refine tk 20 36 ?_ rfl rfl (by kernel_rfl) (fun _ _ _ h => h) (.inl ⟨by rfl, ?_⟩) ‹_› ?_
            rotate_left
            · (intro w hSw; (try dsimp only at hSw); go_simp; (try with_reducible rfl))
            (try simp only [Act.put, sA, sB, sC])
            exact mid _ _ _ _ _ _ _ _ _ _ _ _ _ _ _ _ _ _ _ _ _ _ _ _ _ _ _ _ _ _ _ _ _ _ _ _ _ _ _ _ _ _ _ _ _ _ _ _ _ _ _ _ _ hx21 hHeld
          exact AllReadyH.nil
        refine AllReadyH.cons (o := _) rfl (fun K hK => ?_) ?_
        · go_simp
          refine atK fun w14 hw14 => ?_
          have hb14 : Wb.Ext w13 w14 := by rw [hw14]; (repeat' (first | (with_reducible assumption) | (with_reducible exact Wb.Ext.refl _) | (with_reducible refine Wb.Ext.drew ?_) | (with_reducible refine Wb.Ext.drewN ?_ _) | (with_reducible refine Wb.Ext.alloc ?_ _) | (with_reducible refine Wb.Ext.trans ?_ (by assumption))))
          have HP14 := Lib.hid (show SpL w14 (.slice (some ⟨w13.heap.size, 0, none⟩) 1 1) [a] by rw [hw14]; exact spl_cells a (by simp [go_sem]) (by simp [go_sem]))
          clear hw14
          replace HP12 := Lib.hid (HP12.out.ext hb14)
          replace HP13 := Lib.hid (HP13.out.ext hb14)
          have hx14 := hx13.trans hb14
          clear hb14
          refine hK.out _ _ (KP _ hx14) (fun hHeld => ?_)
          clear hK K
          (try simp only [sA, sB, sC])
          refine wpAnyH_ready (rs := [8]) (by kernel_rfl) (by simp) ?_
          refine AllReadyH.cons (o := _) rfl (fun K hK => ?_) AllReadyH.nil
          go_simp
          go_at_call 14
          go_fit (of_any _ [x] _ HP13.out (by intro yy hyy; simp at hyy; subst hyy; exact HBx.out) (by simp))
          rintro e w15 ⟨v15, r15, rfl, hs15, hp15, hb15⟩
          obtain ⟨sa15, sc15, rfl⟩ := hp15.1.shape
          have HS15 := Lib.hid hs15
          have hl15 : r15.length ≤ 1 := by have := hs15.len; (try simp only [List.length_cons, List.length_nil] at this); omega
          have HE15 := Lib.hid (has_of hs15)
          replace HP12 := Lib.hid (HP12.out.ext hb15)
          replace HP13 := Lib.hid (HP13.out.ext hb15)
          replace HP14 := Lib.hid (HP14.out.ext hb15)
          have hx15 := hx14.trans hb15
          clear hb15
          have HP15 := Lib.hid hp15
          clear hs15 hp15
          refine hK.out _ _ (KP _ hx15) (fun hHeld => ?_)
          clear hK K
          (try simp only [sA, sB, sC])
          refine wpAnyH_ready (rs := [9]) (by kernel_rfl) (by simp) ?_
          refine AllReadyH.cons (o := _) rfl (fun K hK => ?_) AllReadyH.nil
          go_simp
          go_at_call 17
          go_fit (all_any _ r15 _ HP15.out (by omega))
          rintro e w16 ⟨v16, rfl, hp16, hb16⟩
          obtain ⟨sa16, sc16, rfl⟩ := hp16.1.shape
          replace HP12 := Lib.hid (HP12.out.ext hb16)
          replace HP14 := Lib.hid (HP14.out.ext hb16)
          replace HP15 := Lib.hid (HP15.out.ext hb16)
          have hx16 := hx15.trans hb16
          clear hb16
          have HP16 := Lib.hid hp16
          clear hp16
          refine hK.out _ _ (KP _ hx16) (fun hHeld => ?_)
          clear hK K
          (try simp only [sA, sB, sC])
          refine wpAnyH_ready (rs := [12]) (by kernel_rfl) (by simp) ?_
          refine AllReadyH.cons (o := _) rfl (fun K hK => ?_) AllReadyH.nil
          go_simp
          go_at_call 14
          go_fit (of_any _ [a] _ HP14.out (by intro yy hyy; simp at hyy; subst hyy; exact HBa.out) (by simp))
          rintro e w17 ⟨v17, r17, rfl, hs17, hp17, hb17⟩
          obtain ⟨sa17, sc17, rfl⟩ := hp17.1.shape
          have HS17 := Lib.hid hs17
          have hl17 : r17.length ≤ 1 := by have := hs17.len; (try simp only [List.length_cons, List.length_nil] at this); omega
          have HE17 := Lib.hid (has_of hs17)
          replace HP12 := Lib.hid (HP12.out.ext hb17)
          replace HP14 := Lib.hid (HP14.out.ext hb17)
          replace HP16 := Lib.hid (HP16.out.ext hb17)
          have hx17 := hx16.trans hb17
          clear hb17
          have HP17 := Lib.hid hp17
          clear hs17 hp17
          refine hK.out _ _ (KP _ hx17) (fun hHeld => ?_)
          clear hK K
          (try simp only [sA, sB, sC])
          refine wpAnyH_ready (rs := [15]) (by kernel_rfl) (by simp) ?_
          refine AllReadyH.cons (o := _) rfl (fun K hK => ?_) AllReadyH.nil
          go_simp
          go_at_call 14
          go_fit (of_any _ [b] _ HP12.out (by intro yy hyy; simp at hyy; subst hyy; exact HBb.out) (by simp))
          rintro e w18 ⟨v18, r18, rfl, hs18, hp18, hb18⟩
          obtain ⟨sa18, sc18, rfl⟩ := hp18.1.shape
          have HS18 := Lib.hid hs18
          have hl18 : r18.length ≤ 1 := by have := hs18.len; (try simp only [List.length_cons, List.length_nil] at this); omega
          have HE18 := Lib.hid (has_of hs18)
          replace HP12 := Lib.hid (HP12.out.ext hb18)
          replace HP16 := Lib.hid (HP16.out.ext hb18)
          replace HP17 := Lib.hid (HP17.out.ext hb18)
          have hx18 := hx17.trans hb18
          clear hb18
          have HP18 := Lib.hid hp18
          clear hs18 hp18
          refine hK.out _ _ (KP _ hx18) (fun hHeld => ?_)
          clear hK K
          (try simp only [sA, sB, sC])
          refine wpAnyH_ready (rs := [16]) (by kernel_rfl) (by simp) ?_
          refine AllReadyH.cons (o := _) rfl (fun K hK => ?_) AllReadyH.nil
          go_simp
          go_at_call 20
          go_fit (meet_any _ _ r17 r18 _ HP17.out HP18.out HS17.out.canon HS18.out.canon HS17.out.bd HS18.out.bd (by omega) (by omega))
          rintro e w19 ⟨v19, r19, rfl, hs19, hp19, hb19⟩
          obtain ⟨sa19, sc19, rfl⟩ := hp19.1.shape
          have HS19 := Lib.hid hs19
          have hl19 : r19.length ≤ 4 := by have := hs19.len; (try simp only [List.length_cons, List.length_nil] at this); omega
          have HE19 := Lib.hid (has_met hs19)
          replace HP16 := Lib.hid (HP16.out.ext hb19)
          replace HP17 := Lib.hid (HP17.out.ext hb19)
          replace HP18 := Lib.hid (HP18.out.ext hb19)
          have hx19 := hx18.trans hb19
          clear hb19
          have HP19 := Lib.hid hp19
          clear hs19 hp19
          refine hK.out _ _ (KP _ hx19) (fun hHeld => ?_)
          clear hK K
          (try simp only [sA, sB, sC])
          refine wpAnyH_ready (rs := [17]) (by kernel_rfl) (by simp) ?_
          refine AllReadyH.cons (o := _) rfl (fun K hK => ?_) AllReadyH.nil
          go_simp
          go_at_call 17
          go_fit (all_any _ r19 _ HP19.out (by omega))
          rintro e w20 ⟨v20, rfl, hp20, hb20⟩
          obtain ⟨sa20, sc20, rfl⟩ := hp20.1.shape
          replace HP16 := Lib.hid (HP16.out.ext hb20)
          replace HP19 := Lib.hid (HP19.out.ext hb20)
          have hx20 := hx19.trans hb20
          clear hb20
          have HP20 := Lib.hid hp20
          clear hp20
          refine hK.out _ _ (KP _ hx20) (fun hHeld => ?_)
          clear hK K
          (try simp only [sA, sB, sC])
          refine wpAnyH_ready (rs := [18]) (by kernel_rfl) (by simp) ?_
          refine AllReadyH.cons (o := _) rfl (fun K hK => ?_) AllReadyH.nil
          go_simp
          go_at_call 16
          go_fit (same2_any _ _ r15 r19 _ (canon_eq HS19.out.canon HS15.out.canon (fun d => by rw [HE19.out d, HE17.out d, HE18.out d, HE15.out d]; exact cross_has HXC.out d)) HP16.out.1 HP20.out.1 (by omega))
          rintro e w21 ⟨rfl, hb21⟩
          have hx21 := hx20.trans hb21
          clear hb21
          refine hK.out _ _ (KP _ hx21) (fun hHeld => ?_)
          clear hK K
          (try simp only [sA, sB, sC])
          refine tk 19 35 ?_ rfl rfl (by kernel_rfl) (fun _ _ _ h => h) (.inl ⟨by rfl, ?_⟩) ‹_› ?_
          rotate_left
          · (intro w hSw; (try dsimp only at hSw); go_simp; (try with_reducible rfl))
          (try simp only [Act.put, sA, sB, sC])
          refine tk 20 36 ?_ rfl rfl (by kernel_rfl) (fun _ _ _ h => h) (.inl ⟨by rfl, ?_⟩) ‹_› ?_
          rotate_left
          · (intro w hSw; (try dsimp only at hSw); go_simp; (try with_reducible rfl))
          (try simp only [Act.put, sA, sB, sC])
          exact mid _ _ _ _ _ _ _ _ _ _ _ _ _ _ _ _ _ _ _ _ _ _ _ _ _ _ _ _ _ _ _ _ _ _ _ _ _ _ _ _ _ _ _ _ _ _ _ _ _ _ _ _ _ hx21 hHeld
        exact AllReadyH.nil
      refine AllReadyH.cons (o := _) rfl (fun K hK => ?_) ?_
      · go_simp
        refine atK fun w13 hw13 => ?_
        have hb13 : Wb.Ext w12 w13 := by rw [hw13]; (repeat' (first | (with_reducible assumption) | (with_reducible exact Wb.Ext.refl _) | (with_reducible refine Wb.Ext.drew ?_) | (with_reducible refine Wb.Ext.drewN ?_ _) | (with_reducible refine Wb.Ext.alloc ?_ _) | (with_reducible refine Wb.Ext.trans ?_ (by assumption))))
        have HP13 := Lib.hid (show SpL w13 (.slice (some ⟨w12.heap.size, 0, none⟩) 1 1) [a] by rw [hw13]; exact spl_cells a (by simp [go_sem]) (by simp [go_sem]))
        clear hw13
        replace HP12 := Lib.hid (HP12.out.ext hb13)
        have hx13 := hx12.trans hb13
        clear hb13
        refine hK.out _ _ (KP _ hx13) (fun hHeld => ?_)
        clear hK K
        (try simp only [sA, sB, sC])
        refine wpAnyH_ready (rs := [7]) (by kernel_rfl) (by simp) ?_
        refine AllReadyH.cons (o := _) rfl (fun K hK => ?_) AllReadyH.nil
        go_simp
        refine atK fun w14 hw14 => ?_
        have hb14 : Wb.Ext w13 w14 := by rw [hw14]; (repeat' (first | (with_reducible assumption) | (with_reducible exact Wb.Ext.refl _) | (with_reducible refine Wb.Ext.drew ?_) | (with_reducible refine Wb.Ext.drewN ?_ _) | (with_reducible refine Wb.Ext.alloc ?_ _) | (with_reducible refine Wb.Ext.trans ?_ (by assumption))))
        have HP14 := Lib.hid (show SpL w14 (.slice (some ⟨w13.heap.size, 0, none⟩) 1 1) [x] by rw [hw14]; exact spl_cells x (by simp [go_sem]) (by simp [go_sem]))
        clear hw14
        replace HP12 := Lib.hid (HP12.out.ext hb14)
        replace HP13 := Lib.hid (HP13.out.ext hb14)
        have hx14 := hx13.trans hb14
        clear hb14
        refine hK.out _ _ (KP _ hx14) (fun hHeld => ?_)
        clear hK K
        (try simp only [sA, sB, sC])
        refine wpAnyH_ready (rs := [8]) (by kernel_rfl) (by simp) ?_
        refine AllReadyH.cons (o := _) rfl (fun K hK => ?_) AllReadyH.nil
        go_simp
        go_at_call 14
        go_fit (of_any _ [x] _ HP14.out (by intro yy hyy; simp at hyy; subst hyy; exact HBx.out) (by simp))
        rintro e w15 ⟨v15, r15, rfl, hs15, hp15, hb15⟩
        obtain ⟨sa15, sc15, rfl⟩ := hp15.1.shape
        have HS15 := Lib.hid hs15
        have hl15 : r15.length ≤ 1 := by have := hs15.len; (try simp only [List.length_cons, List.length_nil] at this); omega
        have HE15 := Lib.hid (has_of hs15)
        replace HP12 := Lib.hid (HP12.out.ext hb15)
        replace HP13 := Lib.hid (HP13.out.ext hb15)
        replace HP14 := Lib.hid (HP14.out.ext hb15)
        have hx15 := hx14.trans hb15
        clear hb15
        have HP15 := Lib.hid hp15
        clear hs15 hp15
        refine hK.out _ _ (KP _ hx15) (fun hHeld => ?_)
        clear hK K
        (try simp only [sA, sB, sC])
        refine wpAnyH_ready (rs := [9]) (by kernel_rfl) (by simp) ?_
        refine AllReadyH.cons (o := _) rfl (fun K hK => ?_) AllReadyH.nil
        go_simp
        go_at_call 17
        go_fit (all_any _ r15 _ HP15.out (by omega))
        rintro e w16 ⟨v16, rfl, hp16, hb16⟩
        obtain ⟨sa16, sc16, rfl⟩ := hp16.1.shape
        replace HP12 := Lib.hid (HP12.out.ext hb16)
        replace HP13 := Lib.hid (HP13.out.ext hb16)
        replace HP15 := Lib.hid (HP15.out.ext hb16)
        have hx16 := hx15.trans hb16
        clear hb16
        have HP16 := Lib.hid hp16
        clear hp16
        refine hK.out _ _ (KP _ hx16) (fun hHeld => ?_)
        clear hK K
        (try simp only [sA, sB, sC])
        refine wpAnyH_ready (rs := [12]) (by kernel_rfl) (by simp) ?_
        refine AllReadyH.cons (o := _) rfl (fun K hK => ?_) AllReadyH.nil
        go_simp
        go_at_call 14
        go_fit (of_any _ [a] _ HP13.out (by intro yy hyy; simp at hyy; subst hyy; exact HBa.out) (by simp))
        rintro e w17 ⟨v17, r17, rfl, hs17, hp17, hb17⟩
        obtain ⟨sa17, sc17, rfl⟩ := hp17.1.shape
        have HS17 := Lib.hid hs17
        have hl17 : r17.length ≤ 1 := by have := hs17.len; (try simp only [List.length_cons, List.length_nil] at this); omega
        have HE17 := Lib.hid (has_of hs17)
        replace HP12 := Lib.hid (HP12.out.ext hb17)
        replace HP13 := Lib.hid (HP13.out.ext hb17)
        replace HP16 := Lib.hid (HP16.out.ext hb17)
        have hx17 := hx16.trans hb17
        clear hb17
        have HP17 := Lib.hid hp17
        clear hs17 hp17
        refine hK.out _ _ (KP _ hx17) (fun hHeld => ?_)
        clear hK K
        (try simp only [sA, sB, sC])
        refine wpAnyH_ready (rs := [15]) (by kernel_rfl) (by simp) ?_
        refine AllReadyH.cons (o := _) rfl (fun K hK => ?_) AllReadyH.nil
        go_simp
        go_at_call 14
        go_fit (of_any _ [b] _ HP12.out (by intro yy hyy; simp at hyy; subst hyy; exact HBb.out) (by simp))
        rintro e w18 ⟨v18, r18, rfl, hs18, hp18, hb18⟩
        obtain ⟨sa18, sc18, rfl⟩ := hp18.1.shape
        have HS18 := Lib.hid hs18
        have hl18 : r18.length ≤ 1 := by have := hs18.len; (try simp only [List.length_cons, List.length_nil] at this); omega
        have HE18 := Lib.hid (has_of hs18)
        replace HP12 := Lib.hid (HP12.out.ext hb18)
        replace HP16 := Lib.hid (HP16.out.ext hb18)
        replace HP17 := Lib.hid (HP17.out.ext hb18)
        have hx18 := hx17.trans hb18
        clear hb18
        have HP18 := Lib.hid hp18
        clear hs18 hp18
        refine hK.out _ _ (KP _ hx18) (fun hHeld => ?_)
        clear hK K
        (try simp only [sA, sB, sC])
        refine wpAnyH_ready (rs := [16]) (by kernel_rfl) (by simp) ?_
        refine AllReadyH.cons (o := _) rfl (fun K hK => ?_) AllReadyH.nil
        go_simp
        go_at_call 20
        go_fit (meet_any _ _ r17 r18 _ HP17.out HP18.out HS17.out.canon HS18.out.canon HS17.out.bd HS18.out.bd (by omega) (by omega))
        rintro e w19 ⟨v19, r19, rfl, hs19, hp19, hb19⟩
        obtain ⟨sa19, sc19, rfl⟩ := hp19.1.shape
        have HS19 := Lib.hid hs19
        have hl19 : r19.length ≤ 4 := by have := hs19.len; (try simp only [List.length_cons, List.length_nil] at this); omega
        have HE19 := Lib.hid (has_met hs19)
        replace HP16 := Lib.hid (HP16.out.ext hb19)
        replace HP17 := Lib.hid (HP17.out.ext hb19)
        replace HP18 := Lib.hid (HP18.out.ext hb19)
        have hx19 := hx18.trans hb19
        clear hb19
        have HP19 := Lib.hid hp19
        clear hs19 hp19
        refine hK.out _ _ (KP _ hx19) (fun hHeld => ?_)
        clear hK K
        (try simp only [sA, sB, sC])
        refine wpAnyH_ready (rs := [17]) (by kernel_rfl) (by simp) ?_
        refine AllReadyH.cons (o := _) rfl (fun K hK => ?_) AllReadyH.nil
        go_simp
        go_at_call 17
        go_fit (all_any _ r19 _ HP19.out (by omega))
        rintro e w20 ⟨v20, rfl, hp20, hb20⟩
        obtain ⟨sa20, sc20, rfl⟩ := hp20.1.shape
        replace HP16 := Lib.hid (HP16.out.ext hb20)
        replace HP19 := Lib.hid (HP19.out.ext hb20)
        have hx20 := hx19.trans hb20
        clear hb20
        have HP20 := Lib.hid hp20
        clear hp20
        refine hK.out _ _ (KP _ hx20) (fun hHeld => ?_)
        clear hK K
        (try simp only [sA, sB, sC])
        refine wpAnyH_ready (rs := [18]) (by kernel_rfl) (by simp) ?_
        refine AllReadyH.cons (o := _) rfl (fun K hK => ?_) AllReadyH.nil
        go_simp
        go_at_call 16
        go_fit (same2_any _ _ r15 r19 _ (canon_eq HS19.out.canon HS15.out.canon (fun d => by rw [HE19.out d, HE17.out d, HE18.out d, HE15.out d]; exact cross_has HXC.out d)) HP16.out.1 HP20.out.1 (by omega))
        rintro e w21 ⟨rfl, hb21⟩
        have hx21 := hx20.trans hb21
        clear hb21
        refine hK.out _ _ (KP _ hx21) (fun hHeld => ?_)
        clear hK K
        (try simp only [sA, sB, sC])
        refine tk 19 35 ?_ rfl rfl (by kernel_rfl) (fun _ _ _ h => h) (.inl ⟨by rfl, ?_⟩) ‹_› ?_
        rotate_left
        · (intro w hSw; (try dsimp only at hSw); go_simp; (try with_reducible rfl))
        (try simp only [Act.put, sA, sB, sC])
        refine tk 20 36 ?_ rfl rfl (by kernel_rfl) (fun _ _ _ h => h) (.inl ⟨by rfl, ?_⟩) ‹_› ?_
        rotate_left
        · (intro w hSw; (try dsimp only at hSw); go_simp; (try with_reducible rfl))
        (try simp only [Act.put, sA, sB, sC])
        exact mid _ _ _ _ _ _ _ _ _ _ _ _ _ _ _ _ _ _ _ _ _ _ _ _ _ _ _ _ _ _ _ _ _ _ _ _ _ _ _ _ _ _ _ _ _ _ _ _ _ _ _ _ _ hx21 hHeld
      exact AllReadyH.nil
    exact AllReadyH.nil

end Go.Proofs.Ytdckghdmopafpaa
