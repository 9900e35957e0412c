/- The walk of the law's made. -/
import Derived.Test.YtokdmojbffnfgaaDoorJrn14
import Derived.Deep.AppendLies
namespace Go.Proofs.YtokdmojbffnfgaaDoor
open Go.RowKit
set_option maxRecDepth 8000
attribute [local go_sem ↓] Go.wp_at_zero Go.wp_at_succ

/-- an act more, if it may be -/
def madeS (A : List (List UInt8)) (s : List UInt8) : List (List UInt8) := if wrongOf A.length s = 0 then A ++ [s] else A
/-- the acts that may be, of some -/
def madeL (l : List (List UInt8)) : List (List UInt8) := l.foldl madeS []
theorem madeL_snoc (l : List (List UInt8)) (s : List UInt8) : madeL (l ++ [s]) = madeS (madeL l) s := by rw [madeL, madeL, List.foldl_append]; rfl
theorem madeS_len (A : List (List UInt8)) (s : List UInt8) : (madeS A s).length ≤ A.length + 1 ∧ A.length ≤ (madeS A s).length := by
  unfold madeS; split <;> simp
theorem madeL_len (l : List (List UInt8)) : (madeL l).length ≤ l.length := by
  induction l using Wb.snoc_ind with
  | h0 => exact Nat.le_refl _
  | h1 l s ih => rw [madeL_snoc]; have := (madeS_len (madeL l) s).1; simp; omega
theorem madeL_mem (l : List (List UInt8)) : ∀ s ∈ madeL l, s ∈ l := by
  induction l using Wb.snoc_ind with
  | h0 => intro s h; cases h
  | h1 l a ih =>
    intro s h
    rw [madeL_snoc, madeS] at h
    split at h
    · rcases List.mem_append.1 h with q | q
      · exact List.mem_append_left _ (ih s q)
      · exact List.mem_append_right _ q
    · exact List.mem_append_left _ (ih s h)
theorem madeL_ok (l : List (List UInt8)) : Wb.okK 0 (madeL l) := by
  induction l using Wb.snoc_ind with
  | h0 => trivial
  | h1 l a ih =>
    rw [madeL_snoc, madeS]
    split
    · rename_i h; exact Wb.okK_snoc ih (wrong_ok.1 h)
    · exact ih
theorem madeL_back {l : List (List UInt8)} (h : Wb.okK 0 l) : madeL l = l := by
  induction l using Wb.snoc_ind with
  | h0 => rfl
  | h1 l a ih =>
    have h1 := Wb.okK_app.1 h
    rw [madeL_snoc, ih h1.1, madeS, if_pos (wrong_ok.2 (by have := h1.2.1; rwa [Nat.zero_add] at this))]
theorem madeL_all {l : List (List UInt8)} (h : (madeL l).length = l.length) : madeL l = l := by
  induction l using Wb.snoc_ind with
  | h0 => rfl
  | h1 l a ih =>
    rw [madeL_snoc] at h ⊢
    have h1 := (madeS_len (madeL l) a).1
    have h2 := madeL_len l
    simp at h
    have h3 := ih (by omega)
    rw [madeS] at h ⊢
    split at h
    · rename_i hw; rw [if_pos hw, h3]
    · omega

theorem Row38.of_row2 {w : World} {base e n : Nat} {v : Value} {l : List (List UInt8)} (h : w.ownsRow base e 1 v n (rowsOf strc l)) : Row38 w v l := by
  by_cases hl : l = []
  · subst hl
    obtain ⟨h1, h2 | ⟨g, cap, cur, hv, hb, hg, hc, hm, _, hx⟩⟩ := h
    · exact .inl ⟨rfl, h2.1⟩
    · have : n = 0 := by simpa [rowsOf] using h1.symm
      subst this
      exact .inr ⟨g, cap, hv, hc, fun j s hj => by simp at hj⟩
  · exact Row38.of_row h hl

/-- where the making stands -/
def MI (w wr : World) (l : List (List UInt8)) (k : Nat) (av : Value) (A : List (List UInt8)) (m c : Nat) (ao : Option Addr) : Prop :=
  madeL (l.take k) = A ∧ wr.cell? ⟨w.heap.size + 1, 0, none⟩ = some (.slice ao A.length c) ∧ wr.cell? ⟨w.heap.size + 1, 1, none⟩ = some (.int .u64 (m : Int)) ∧ (∀ j, wr.frozen? ⟨w.heap.size + 1, j, none⟩ = false) ∧
    wr.cell? ⟨w.heap.size, 0, none⟩ = some (.slice none 0 0) ∧ wr.cell? ⟨w.heap.size, 1, none⟩ = some (.int .u64 0) ∧ (∀ j, wr.frozen? ⟨w.heap.size, j, none⟩ = false) ∧ wr.ownsRow (w.heap.size + 2) 9 1 av A.length (rowsOf strc A) ∧ LogV wr (.agg #[.slice ao A.length c, .int .u64 (m : Int)]) A ∧ Wb.Ext w wr
/-- what a making comes to -/
def MadeTo (w w' : World) (l : List (List UInt8)) (e : Ending) : Prop :=
  ∃ (x u : Value) (m : Nat), e = .returned (.tuple #[.agg #[x, .int .u64 (m : Int)], u]) ∧ LogV w' (.agg #[x, .int .u64 (m : Int)]) (madeL l) ∧ Row38 w' u (madeL l) ∧ Wb.Ext w w'

set_option maxHeartbeats 8000000 in
theorem made_any (v : Value) (l : List (List UInt8)) (w : World) (hv : Strs1 w v l) (hn : l.length ≤ 1000) (hs : ∀ s ∈ l, s.length ≤ 50000) :
    Calls Tryd.prog 22 #[v] w fun e w' => MadeTo w w' l e := by
  obtain ⟨i0, hi, hz0, hz1, hz2⟩ := info_parts infoStr
  have HIN := Lib.hid (show Tryd.prog.info? 9 = some i0 ∧ i0.zero = some (.string "".toUTF8) ∧ i0.size = 1 ∧ i0.bytes = 16 from ⟨hi, hz0, hz1, hz2⟩)
  clear hi hz0 hz1 hz2
  obtain ⟨va, vc, rfl⟩ := hv.shape
  have HV := Lib.hid hv
  have HS := Lib.hid hs
  clear hv hs
  go_enter Tryd.func22, Tryd.ntmps22
  go_wp2_with fail
  go_loopw [5, 12] (fun av iv wr => ∃ (k : Nat) (A : List (List UInt8)) (m c : Nat) (ao : Option Addr), k ≤ l.length ∧ A.length ≤ k ∧ iv = .int .i64 (k : Int) ∧ MI w wr l k av A m c ao) (fun _ iv _ => l.length - (intOf iv).toNat)
  case atStart => exact ⟨0, [], 0, 0, none, by omega, by simp, rfl, rfl, by simp [go_sem], by simp [go_sem], fun j => by simp [go_sem], by simp [go_sem], by simp [go_sem], fun j => by simp [go_sem], World.ownsRow_nil _ _ _ _, LogV.zero, by (repeat' (first | (with_reducible assumption) | (with_reducible exact Wb.Ext.refl _) | (with_reducible refine Wb.Ext.drew ?_) | (with_reducible refine Wb.Ext.drewN ?_ _) | (with_reducible refine Wb.Ext.alloc ?_ _) | (with_reducible refine Wb.Ext.trans ?_ (by assumption))))⟩
  case round =>
    obtain ⟨k, A, m, c, ao, hk, hAk, rfl, hmd, q0, q1, qf, p0, p1, pf, hown, hlog, hx⟩ := hrel
    obtain ⟨aa, ac, rfl⟩ := row_shape hown
    have HMD := Lib.hid hmd
    have HOWN := Lib.hid hown
    have HLOG := Lib.hid hlog
    have HX := Lib.hid hx
    have hz := Wb.cell_size q0
    clear hmd hown hlog hx
    by_cases hlt : k < l.length
    · obtain ⟨s, hs⟩ := Wb.get_ex hlt
      have hsl := HS.out s (List.mem_of_getElem? hs)
      obtain ⟨b, off, rfl, hcells⟩ := (HV.out.ext HX.out).opened (tne hlt)
      have hc0 := hcells k s hs 0 _ rfl
      simp only [Nat.mul_one, Nat.add_zero] at hc0
      have hki : (k : Int) < l.length := by omega
      have htk : l.take (k + 1) = l.take k ++ [s] := by
        obtain ⟨h1, h2⟩ := List.getElem?_eq_some_iff.1 hs
        rw [List.take_succ_eq_append_getElem h1, h2]
      have HMK := Lib.hid (show madeL (l.take (k + 1)) = madeS A s by rw [htk, madeL_snoc, HMD.out])
      clear hcells hs htk
      by_cases hok : wrongOf A.length s = 0
      · obtain ⟨A2, hA2⟩ : ∃ A2, A ++ [s] = A2 := ⟨_, rfl⟩
        have HA2L := Lib.hid (show A2.length = A.length + 1 by rw [← hA2]; simp)
        have HMS := Lib.hid (show madeL (l.take (k + 1)) = A2 by rw [HMK.out, madeS, if_pos hok, hA2])
        have HA2 := Lib.hid hA2
        have HOK := Lib.hid hok
        clear hA2 hok
        go_wp2_with fail
        go_fit (append_ok2 _ A s _ (HLOG.out.ext (by (repeat' (first | (with_reducible assumption) | (with_reducible exact Wb.Ext.refl _) | (with_reducible refine Wb.Ext.drew ?_) | (with_reducible refine Wb.Ext.drewN ?_ _) | (with_reducible refine Wb.Ext.alloc ?_ _) | (with_reducible refine Wb.ext_set ?_ (by first | assumption | (simp; done) | (simp; omega) | omega) _) | (with_reducible refine Wb.Ext.trans ?_ (by assumption)))))) (by omega) (by omega) (wrong_ok.1 HOK.out)); rintro e w3 ⟨sv, m3, rfl, hu, hfr, hb3⟩
        rw [HA2.out] at hu
        obtain ⟨sv', m3', hee, hr3, hm3⟩ := hu
        obtain ⟨rfl, rfl⟩ : sv = sv' ∧ m3 = m3' := by simp at hee; exact ⟨hee.1, by omega⟩
        have HFR := Lib.hid hfr
        obtain ⟨ao3, c3, rfl, _, _, _⟩ := hr3.shape
        have HR3 := Lib.hid hr3
        have HM3 := Lib.hid hm3
        clear hee hfr hr3 hm3
        go_upto_region 8 with (fail)
        refine Wb.wp_at fun w4 hw4 => ?_
        have he34 : Wb.Ext w3 w4 := by rw [hw4]; (repeat' (first | (with_reducible assumption) | (with_reducible exact Wb.Ext.refl _) | (with_reducible refine Wb.Ext.drew ?_) | (with_reducible refine Wb.Ext.drewN ?_ _) | (with_reducible refine Wb.Ext.alloc ?_ _) | (with_reducible refine Wb.ext_set ?_ (by first | assumption | (simp; done) | (simp; omega) | omega) _) | (with_reducible refine Wb.Ext.trans ?_ (by assumption))))
        have n0 : w4.cell? ⟨w3.heap.size, 0, none⟩ = some (.slice ao3 A2.length c3) := by rw [hw4]; simp [go_sem]
        have n1 : w4.cell? ⟨w3.heap.size, 1, none⟩ = some (.int .u64 (m3 : Int)) := by rw [hw4]; simp [go_sem]
        have hx4 := hb3.trans he34
        have q0 := hx4.keep q0
        have q1 := hx4.keep q1
        have p0 := hx4.keep p0
        have p1 := hx4.keep p1
        have qf : ∀ j, w4.frozen? ⟨w.heap.size + 1, j, none⟩ = false := fun j => (Below.frozen hx4 (show w.heap.size + 1 < wr.heap.size by omega)).trans (qf j)
        have pf : ∀ j, w4.frozen? ⟨w.heap.size, j, none⟩ = false := fun j => (Below.frozen hx4 (show w.heap.size < wr.heap.size by omega)).trans (pf j)
        have HR4 := Lib.hid (HR3.out.ext he34)
        have HO4 := Lib.hid (Wb.row_ext HOWN.out hx4)
        have he4 : Wb.Ext w w4 := HX.out.trans hx4
        have hz34 : wr.heap.size ≤ w3.heap.size := hb3.size
        have hz4 : w3.heap.size < w4.heap.size := Wb.cell_size n0
        clear hw4 he34 hb3 hx4
        obtain ⟨hi, hz0, hz1, hz2⟩ := HIN.out
        refine wp_region_held_drew (S := (fun w' => w'.cell? ⟨w3.heap.size, 0, none⟩ = some (.slice ao3 A2.length c3) ∧ w'.cell? ⟨w3.heap.size, 1, none⟩ = some (.int .u64 (m3 : Int)))) (by kernel_rfl) ⟨n0, n1⟩ (fun hHeld => ?_)
        refine take_d (i := 0) (d := 24) (v := ?_) rfl rfl (by kernel_rfl) (by kernel_rfl) (by kernel_rfl) (fun _ _ _ h => h) (Or.inl ⟨by rfl, ?_⟩) (by assumption) ?_
        rotate_left
        · (intro w hSw; (try dsimp only at hSw); go_simp; (try with_reducible rfl))
        (try simp only [Act.put, List.setIfInBounds_toArray, List.set_cons_zero, List.set_cons_succ])
        refine take_d (i := 1) (d := 25) (v := ?_) rfl rfl (by kernel_rfl) (by kernel_rfl) (by kernel_rfl) (fun _ _ _ h => h) (Or.inl ⟨by rfl, ?_⟩) (by assumption) ?_
        rotate_left
        · (intro w hSw; (try dsimp only at hSw); go_simp; (try with_reducible rfl))
        (try simp only [Act.put, List.setIfInBounds_toArray, List.set_cons_zero, List.set_cons_succ])
        refine take_d (i := 2) (d := 26) (v := ?_) rfl rfl (by kernel_rfl) (by kernel_rfl) (by kernel_rfl) (fun _ _ _ h => h) (Or.inl ⟨by rfl, ?_⟩) (by assumption) ?_
        rotate_left
        · (intro w hSw; (try dsimp only at hSw); go_simp; (try with_reducible rfl))
        (try simp only [Act.put, List.setIfInBounds_toArray, List.set_cons_zero, List.set_cons_succ])
        refine wpAnyH_ready (rs := [3]) (by kernel_rfl) (by simp) ?_
        refine AllReadyH.cons (o := _) rfl (fun K hK => ?_) ?_
        · go_simp
          refine hK.out _ _ ⟨Wb.Ext.keep (w := w4) (by (repeat' (first | (with_reducible assumption) | (with_reducible exact Wb.Ext.refl _) | (with_reducible refine Wb.Ext.drew ?_) | (with_reducible refine Wb.Ext.drewN ?_ _) | (with_reducible refine Wb.Ext.alloc ?_ _) | (with_reducible refine Wb.Ext.trans ?_ (by assumption))))) n0, Wb.Ext.keep (w := w4) (by (repeat' (first | (with_reducible assumption) | (with_reducible exact Wb.Ext.refl _) | (with_reducible refine Wb.Ext.drew ?_) | (with_reducible refine Wb.Ext.drewN ?_ _) | (with_reducible refine Wb.Ext.alloc ?_ _) | (with_reducible refine Wb.Ext.trans ?_ (by assumption))))) n1⟩ (fun hHeld => ?_)
          clear hK K
          (try simp only [Act.put, List.setIfInBounds_toArray, List.set_cons_zero, List.set_cons_succ])
          refine wpAnyH_ready (rs := [4]) (by kernel_rfl) (by simp) ?_
          refine AllReadyH.cons (o := _) rfl (fun K hK => ?_) ?_
          · refine step_append_lies _ (by rfl) _ _ _ (by rfl) (w.heap.size + 2) 9 i0 (.string "".toUTF8) 1 16 Tryd.underlying22 hi hz0 hz1 hz2 (by rfl) (by decide) _ _ _ (by rfl) ((HO4.out.drew).alloc _) _ 1 _ [.string (Wb.S s)] (by rfl) (by rfl) (World.news_of_block (heap_alloc_new _ _)) (by intro u hu; simp at hu; subst hu; rfl) (by decide) (by unfold maxLen; omega) (by omega) (by simp; omega) (w4.heap.size + 1) (by simp) ?_
            intro g cap2 w6 hown2 hg2 hat hlt2
            have hrow : ∀ k, (Value.slice aa A.length ac).ownBlock = some k → w.heap.size + 1 < k ∧ k < wr.heap.size := fun k hk => by have := HOWN.out.lt k hk; omega
            have cfar : ∀ b j x, b < w4.heap.size → (b ≤ w.heap.size + 1 ∨ wr.heap.size ≤ b) → w4.cell? ⟨b, j, none⟩ = some x → w6.cell? ⟨b, j, none⟩ = some x := fun b j x hb ho hx => by
              rw [hg2.cell_far _ (by simp; omega) (fun e => by have := hrow _ e.symm; simp at this; omega)]
              exact (((Wb.Ext.refl w4).drew).alloc _).keep hx
            have q06 := cfar _ _ _ (Wb.cell_size q0) (.inl (Nat.le_refl _)) q0
            have q16 := cfar _ _ _ (Wb.cell_size q1) (.inl (Nat.le_refl _)) q1
            have p06 := cfar _ _ _ (Wb.cell_size p0) (.inl (by omega)) p0
            have p16 := cfar _ _ _ (Wb.cell_size p1) (.inl (by omega)) p1
            have n06 := cfar _ _ _ (Wb.cell_size n0) (.inr (by omega)) n0
            have n16 := cfar _ _ _ (Wb.cell_size n1) (.inr (by omega)) n1
            have ffar : ∀ b j, b ≤ w.heap.size + 1 → w4.frozen? ⟨b, j, none⟩ = false → w6.frozen? ⟨b, j, none⟩ = false := fun b j hb hf => by
              have hb4 : b < w4.heap.size := by omega
              rw [hg2.frozen_far _ (by simp; omega) (fun e => by have := hrow _ e.symm; simp at this; omega)]
              exact (Below.frozen (((Wb.Ext.refl w4).alloc (.cells #[.string (Wb.S s)] 9)).drew) (p := ⟨b, j, none⟩) hb4).trans hf
            have qf6 : ∀ j, w6.frozen? ⟨w.heap.size + 1, j, none⟩ = false := fun j => ffar _ j (Nat.le_refl _) (qf j)
            have pf6 : ∀ j, w6.frozen? ⟨w.heap.size, j, none⟩ = false := fun j => ffar _ j (by omega) (pf j)
            have HR6 := Lib.hid (HR4.out.far (fun b j x hb hx => cfar b j x (Wb.cell_size hx) (.inr (HFR.out b hb)) hx))
            have HO6 := Lib.hid (show w6.ownsRow (w.heap.size + 2) 9 1 (.slice (some ⟨g, 0, none⟩) (A.length + 1) cap2) A2.length (rowsOf strc A2) by
              rw [HA2L.out, ← HA2.out, rowsOf_app, rowsOf_one]; exact hown2)
            have he6 : Wb.Ext w w6 := Wb.Ext.grown (w' := (w4.drew).alloc (.cells #[.string (Wb.S s)] 9)) (((he4.drew)).alloc _) hg2 (fun k hk => by have := hrow k hk; omega)
            have hne3 : ¬ w.heap.size + 1 = w3.heap.size := by omega
            clear hown2 hg2 hat hlt2 cfar ffar hrow hi hz0 hz1 hz2
            refine hK.out _ _ ⟨n06, n16⟩ (fun hHeld => ?_)
            clear hK K
            (try simp only [Act.put, List.setIfInBounds_toArray, List.set_cons_zero, List.set_cons_succ])
            refine wpAnyH_ready (rs := [5]) (by kernel_rfl) (by simp) ?_
            refine AllReadyH.cons (o := _) rfl (fun K hK => ?_) ?_
            · go_simp
              refine hK.out _ _ ⟨by first | assumption | simpa [go_sem, hne3] using n06, by first | assumption | simpa [go_sem, hne3] using n16⟩ (fun hHeld => ?_)
              clear hK K
              (try simp only [Act.put, List.setIfInBounds_toArray, List.set_cons_zero, List.set_cons_succ])
              refine take_d (i := 6) (d := 5) (v := ?_) rfl rfl (by kernel_rfl) (by kernel_rfl) (by kernel_rfl) (fun _ _ _ h => h) (Or.inl ⟨by rfl, ?_⟩) (by assumption) ?_
              rotate_left
              · (intro w hSw; (try dsimp only at hSw); go_simp; (try with_reducible rfl))
              (try simp only [Act.put, List.setIfInBounds_toArray, List.set_cons_zero, List.set_cons_succ])
              refine wpAnyH_done (by kernel_rfl) ?_ _
              obtain ⟨w7, hw7⟩ : ∃ w7 : World, w7 = (w6.setCell ⟨w.heap.size + 1, 0, none⟩ (.slice ao3 A2.length c3)).setCell ⟨w.heap.size + 1, 1, none⟩ (.int .u64 (m3 : Int)) := ⟨_, rfl⟩
              rw [← hw7]
              have q07 : w7.cell? ⟨w.heap.size + 1, 0, none⟩ = some (.slice ao3 A2.length c3) := by rw [hw7]; simp [go_sem, q06, q16, qf6]
              have q17 : w7.cell? ⟨w.heap.size + 1, 1, none⟩ = some (.int .u64 (m3 : Int)) := by rw [hw7]; simp [go_sem, q06, q16, qf6]
              have qf7 : ∀ j, w7.frozen? ⟨w.heap.size + 1, j, none⟩ = false := fun j => by rw [hw7]; simp [go_sem, qf6]
              have p07 : w7.cell? ⟨w.heap.size, 0, none⟩ = some (.slice none 0 0) := by rw [hw7]; simp [go_sem, p06]
              have p17 : w7.cell? ⟨w.heap.size, 1, none⟩ = some (.int .u64 0) := by rw [hw7]; simp [go_sem, p16]
              have pf7 : ∀ j, w7.frozen? ⟨w.heap.size, j, none⟩ = false := fun j => by rw [hw7]; simp [go_sem, pf6]
              have HR7 := Lib.hid (show Row38 w7 (.slice ao3 A2.length c3) A2 by rw [hw7]; exact HR6.out.set2 q06 _ _)
              have HO7 := Lib.hid (show w7.ownsRow (w.heap.size + 2) 9 1 (.slice (some ⟨g, 0, none⟩) (A.length + 1) cap2) A2.length (rowsOf strc A2) by
                rw [hw7]
                have hp : ∀ k, (Value.slice (some ⟨g, 0, none⟩) (A.length + 1) cap2).ownBlock = some k → k ≠ w.heap.size + 1 := fun k hk => by have := (HO6.out.lt k hk).1; omega
                exact Wb.row_set (Wb.row_set HO6.out hp _) hp _)
              have he7 : Wb.Ext w w7 := by rw [hw7]; exact Wb.ext_set (Wb.ext_set he6 (by simp) _) (by simp) _
              clear hw7 q06 q16 qf6 p06 p16 pf6 n06 n16
              go_wp2
              go_roundw
              case rel => exact ⟨k + 1, A2, m3, c3, ao3, by omega, by have := HA2L.out; omega, by go_num, HMS.out, q07, q17, qf7, p07, p17, pf7, HO7.out, ⟨_, _, rfl, HR7.out, HM3.out⟩, he7⟩
              case measure => simp [intOf]; omega
            exact AllReadyH.nil
          exact AllReadyH.nil
        exact AllReadyH.nil
      · have HMS := Lib.hid (show madeL (l.take (k + 1)) = A by rw [HMK.out, madeS, if_neg hok])
        obtain ⟨q, hq⟩ : ∃ q, wrongOf A.length s = q := ⟨_, rfl⟩
        have HQ := Lib.hid hq
        have e0 : (q == 0) = false := by rw [← hq]; simpa using hok
        have HNO := Lib.hid hok
        clear hq hok
        go_wp2_with fail
        go_fit (append_no _ A s _ (HLOG.out.ext (by (repeat' (first | (with_reducible assumption) | (with_reducible exact Wb.Ext.refl _) | (with_reducible refine Wb.Ext.drew ?_) | (with_reducible refine Wb.Ext.drewN ?_ _) | (with_reducible refine Wb.Ext.alloc ?_ _) | (with_reducible refine Wb.ext_set ?_ (by first | assumption | (simp; done) | (simp; omega) | omega) _) | (with_reducible refine Wb.Ext.trans ?_ (by assumption)))))) (by omega) HNO.out); rintro e w3 ⟨rfl, hb3⟩
        rw [HQ.out]
        go_wp2_with fail
        obtain ⟨w4, hw4⟩ : ∃ w4 : World, w4 = w3.alloc (.cells #[.slice ao A.length c, .int .u64 (m : Int)] 27) := ⟨_, rfl⟩
        rw [← hw4]
        have hx4 : Wb.Ext wr w4 := by rw [hw4]; (repeat' (first | (with_reducible assumption) | (with_reducible exact Wb.Ext.refl _) | (with_reducible refine Wb.Ext.drew ?_) | (with_reducible refine Wb.Ext.drewN ?_ _) | (with_reducible refine Wb.Ext.alloc ?_ _) | (with_reducible refine Wb.ext_set ?_ (by first | assumption | (simp; done) | (simp; omega) | omega) _) | (with_reducible refine Wb.Ext.trans ?_ (by assumption))))
        clear hw4
        go_roundw
        case rel =>
          refine ⟨k + 1, A, m, c, ao, by omega, by omega, by go_num, HMS.out, hx4.keep q0, hx4.keep q1, fun j => ?_, hx4.keep p0, hx4.keep p1, fun j => ?_, Wb.row_ext HOWN.out hx4, HLOG.out.ext hx4, HX.out.trans hx4⟩
          · exact (Below.frozen hx4 (show w.heap.size + 1 < wr.heap.size by omega)).trans (qf j)
          · exact (Below.frozen hx4 (show w.heap.size < wr.heap.size by omega)).trans (pf j)
        case measure => simp [intOf]; omega
    · have HE := Lib.hid (show madeL l = A by have := HMD.out; rwa [List.take_of_length_le (by omega)] at this)
      have HR := Lib.hid (show Row38 wr (.slice ao A.length c) A ∧ (A ≠ [] → m = Wb.marksL Wb.mfirst A) by
        obtain ⟨u, m', he, hr, hm⟩ := HLOG.out
        simp at he
        obtain ⟨rfl, he2⟩ := he
        obtain rfl : m = m' := by omega
        exact ⟨hr, hm⟩)
      go_wp2
      refine bodyPost_ret (v := .tuple #[.agg #[.slice ao A.length c, .int .u64 (m : Int)], .slice aa A.length ac]) (by simp [results, Tryd.results22, go_sem, p0, p1, pf, q0, q1]) rfl ⟨_, _, m, rfl, ?_, ?_, ?_⟩
      · rw [HE.out]; exact ⟨_, _, rfl, HR.out.1.set2 p0 _ _, HR.out.2⟩
      · rw [HE.out]
        have hp : ∀ k, (Value.slice aa A.length ac).ownBlock = some k → k ≠ w.heap.size := fun k hk => by have := (HOWN.out.lt k hk).1; omega
        exact Row38.of_row2 (Wb.row_set (Wb.row_set HOWN.out hp _) hp _)
      · exact Wb.ext_set (Wb.ext_set HX.out (Nat.le_refl _) _) (Nat.le_refl _) _

end Go.Proofs.YtokdmojbffnfgaaDoor
