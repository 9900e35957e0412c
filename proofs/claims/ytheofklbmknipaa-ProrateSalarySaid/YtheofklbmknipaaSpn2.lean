/- The walk of span.join. -/
import Derived.Test.YtheofklbmknipaaSpn1
import Derived.Deep.Cut
import Derived.Deep.AppendLies
import Derived.RegionTactic
namespace Go.Proofs.Ytheofklbmknipaa
open Go.RowKit
set_option maxRecDepth 8000
attribute [local go_sem ↓] Go.wp_at_zero Go.wp_at_succ

theorem infoSpan : (Try.prog.info? 24).map (fun i => (i.zero, i.size, i.bytes)) = some (some (.agg #[.int .i64 0, .int .i64 0]), 2, 16) := by kernel_rfl
theorem grown_ext {w w' : World} {r : Option Nat} (h : Wb.Ext w w') : w.grownBy w' r := ⟨h.os, h.tape, h.output, h.size, fun k hk _ => h.block k hk⟩
theorem grown_trans {w a b : World} {r : Option Nat} (h : w.grownBy a r) (k : a.grownBy b r) : w.grownBy b r := by
  obtain ⟨h1, h2, h3, h4, h5⟩ := h
  obtain ⟨k1, k2, k3, k4, k5⟩ := k
  exact ⟨k1.trans h1, k2.trans h2, k3.trans h3, Nat.le_trans h4 k4, fun i hi hr => (k5 i (by omega) hr).trans (h5 i hi hr)⟩
theorem grown_set (w : World) (a : Addr) (u : Value) : w.grownBy (w.setCell a u) (some a.block) := by
  refine ⟨rfl, rfl, rfl, by simp [World.setCell], fun i hi hr => ?_⟩
  have h : a.block ≠ i := fun e => hr (by rw [e])
  simp [World.setCell, Array.getElem?_modify, h]
theorem own_free {w : World} {base e s n m g c : Nat} {xs : List Value} (h : w.ownsRow base e s (.slice (some ⟨g, 0, none⟩) m c) n xs) (k : Nat) : w.frozen? ⟨g, k, none⟩ = false := by
  obtain ⟨_, h2 | ⟨g', cap, cur, hv, hb, hg, _⟩⟩ := h
  · cases h2.1
  · cases hv
    simp [World.frozen?, hg]
/-- a store into an owned row -/
theorem own_set {w : World} {base e s n g c k : Nat} {xs : List Value} (h : w.ownsRow base e s (.slice (some ⟨g, 0, none⟩) n c) n xs) (_ : k < n * s) (u : Value) : (w.setCell ⟨g, k, none⟩ u).ownsRow base e s (.slice (some ⟨g, 0, none⟩) n c) n (xs.set k u) := by
  obtain ⟨h1, h2 | ⟨g', cap, cur, hv, hb, hg, hc, hm, hs, hx⟩⟩ := h
  · cases h2.1
  · cases hv
    refine ⟨by simpa using h1, .inr ⟨g, c, cur.setIfInBounds k u, rfl, hb, ?_, hc, hm, by simpa using hs, ?_⟩⟩
    · simp [World.setCell, Array.getElem?_modify, hg]
    · rw [Array.toList_setIfInBounds, ← hx, List.take_set]
theorem rows_set {p : List Wb.Sp} {x : Wb.Sp} {m : Int} : (rowsOf spc (p ++ [x])).set (p.length * 2 + 1) (.int .i64 m) = rowsOf spc (p ++ [(x.1, m)]) := by
  rw [rowsOf_app, rowsOf_one, rowsOf_app, rowsOf_one, List.set_append_right _ _ (by rw [rowsOf_length spc_len]; omega), rowsOf_length spc_len, Nat.add_sub_cancel_left]
  rfl

set_option maxHeartbeats 4000000 in
theorem join_any (base : Nat) (v : Value) (l : List Wb.Sp) (s : Wb.Sp) (w : World) (hv : w.ownsRow base 24 2 v l.length (rowsOf spc l)) (hb : base ≤ w.heap.size) (hl : l.length ≤ 1000000) :
    Calls Try.prog 45 #[v, SpV s] w fun e w' => ∃ v', e = .returned v' ∧ w'.ownsRow base 24 2 v' (Wb.joinL l s).length (rowsOf spc (Wb.joinL l s)) ∧ w.grownBy w' v.ownBlock := by
  obtain ⟨i0, hi, hz0, hz1, hz2⟩ := info_parts infoSpan
  have HIN := Lib.hid (show Try.prog.info? 24 = some i0 ∧ i0.zero = some (.agg #[.int .i64 0, .int .i64 0]) ∧ i0.size = 2 ∧ i0.bytes = 16 from ⟨hi, hz0, hz1, hz2⟩)
  clear hi hz0 hz1 hz2
  obtain ⟨f, t⟩ := s
  obtain ⟨va, vc, rfl⟩ := row_shape hv
  have HV := Lib.hid hv
  clear hv
  by_cases he : t ≤ f
  · have HJ := Lib.hid (Wb.joinL_empty (l := l) (s := (f, t)) he)
    have d : decide (t ≤ f) = true := by simpa using he
    go_enter Try.func45, Try.ntmps45
    go_wp2_with fail
    go_fit (empty_any (f, t) _); rintro e w1 ⟨rfl, hb1⟩
    have hx : Wb.Ext w w1 := by (repeat' (first | (with_reducible assumption) | (with_reducible exact Wb.Ext.refl _) | (with_reducible refine Wb.Ext.drew ?_) | (with_reducible refine Wb.Ext.drewN ?_ _) | (with_reducible refine Wb.Ext.alloc ?_ _) | (with_reducible refine Wb.Ext.trans ?_ (by assumption))))
    clear hb1
    go_wp2
    go_ret
    exact ⟨_, rfl, by rw [HJ.out]; exact Wb.row_ext HV.out hx, grown_ext hx⟩
  · have he' : f < t := by omega
    have d : decide (t ≤ f) = false := by simpa using he
    rcases List.eq_nil_or_concat l with h0 | ⟨p, x, hpx⟩
    · subst h0
      have HJ := Lib.hid (show Wb.joinL [] (f, t) = [] ++ [(f, t)] from Wb.joinL_nil (s := (f, t)) he')
      clear he
      go_enter Try.func45, Try.ntmps45
      go_wp2_with fail
      go_fit (empty_any (f, t) _); rintro e w1 ⟨rfl, hb1⟩
      have hx : Wb.Ext w w1 := by (repeat' (first | (with_reducible assumption) | (with_reducible exact Wb.Ext.refl _) | (with_reducible refine Wb.Ext.drew ?_) | (with_reducible refine Wb.Ext.drewN ?_ _) | (with_reducible refine Wb.Ext.alloc ?_ _) | (with_reducible refine Wb.Ext.trans ?_ (by assumption))))
      have b0 : w1.cell? ⟨w.heap.size, 0, none⟩ = some (.int .i64 f) := hb1.keep (by simp [go_sem])
      have b1 : w1.cell? ⟨w.heap.size, 1, none⟩ = some (.int .i64 t) := hb1.keep (by simp [go_sem])
      have hsz := hx.size
      clear hb1
      go_wp2_with fail
      refine wp_region_held_drew (S := (fun _ => True)) (by kernel_rfl) trivial (fun hHeld => ?_)
      refine take_d (i := 0) (d := 14) (v := ?_) rfl rfl (by kernel_rfl) (by kernel_rfl) (by kernel_rfl) (fun _ _ _ h => h) (Or.inl ⟨by rfl, ?_⟩) (by assumption) ?_
      rotate_left
      · (intro w hSw; (try dsimp only at hSw); go_simp; (try with_reducible rfl))
      (try simp only [Act.put, List.setIfInBounds_toArray, List.set_cons_zero, List.set_cons_succ])
      refine take_d (i := 1) (d := 15) (v := ?_) rfl rfl (by kernel_rfl) (by kernel_rfl) (by kernel_rfl) (fun _ _ _ h => h) (Or.inl ⟨by rfl, ?_⟩) (by assumption) ?_
      rotate_left
      · (intro w hSw; (try dsimp only at hSw); go_simp; (try with_reducible rfl))
      (try simp only [Act.put, List.setIfInBounds_toArray, List.set_cons_zero, List.set_cons_succ])
      refine take_d (i := 2) (d := 16) (v := ?_) rfl rfl (by kernel_rfl) (by kernel_rfl) (by kernel_rfl) (fun _ _ _ h => h) (Or.inl ⟨by rfl, ?_⟩) (by assumption) ?_
      rotate_left
      · (intro w hSw; (try dsimp only at hSw); go_simp; (try with_reducible rfl))
      (try simp only [Act.put, List.setIfInBounds_toArray, List.set_cons_zero, List.set_cons_succ])
      refine take_d (i := 3) (d := 17) (v := undef) rfl rfl (by kernel_rfl) (by kernel_rfl) (by kernel_rfl) (fun _ _ _ h => h) (Or.inr ⟨by rfl, rfl⟩) (by assumption) ?_
      (try simp only [Act.put, List.setIfInBounds_toArray, List.set_cons_zero, List.set_cons_succ])
      refine take_d (i := 4) (d := 18) (v := undef) rfl rfl (by kernel_rfl) (by kernel_rfl) (by kernel_rfl) (fun _ _ _ h => h) (Or.inr ⟨by rfl, rfl⟩) (by assumption) ?_
      (try simp only [Act.put, List.setIfInBounds_toArray, List.set_cons_zero, List.set_cons_succ])
      refine take_d (i := 5) (d := 19) (v := undef) rfl rfl (by kernel_rfl) (by kernel_rfl) (by kernel_rfl) (fun _ _ _ h => h) (Or.inr ⟨by rfl, rfl⟩) (by assumption) ?_
      (try simp only [Act.put, List.setIfInBounds_toArray, List.set_cons_zero, List.set_cons_succ])
      refine take_d (i := 6) (d := 20) (v := undef) rfl rfl (by kernel_rfl) (by kernel_rfl) (by kernel_rfl) (fun _ _ _ h => h) (Or.inr ⟨by rfl, rfl⟩) (by assumption) ?_
      (try simp only [Act.put, List.setIfInBounds_toArray, List.set_cons_zero, List.set_cons_succ])
      refine take_d (i := 7) (d := 21) (v := undef) rfl rfl (by kernel_rfl) (by kernel_rfl) (by kernel_rfl) (fun _ _ _ h => h) (Or.inr ⟨by rfl, rfl⟩) (by assumption) ?_
      (try simp only [Act.put, List.setIfInBounds_toArray, List.set_cons_zero, List.set_cons_succ])
      refine take_d (i := 8) (d := 22) (v := undef) rfl rfl (by kernel_rfl) (by kernel_rfl) (by kernel_rfl) (fun _ _ _ h => h) (Or.inr ⟨by rfl, rfl⟩) (by assumption) ?_
      (try simp only [Act.put, List.setIfInBounds_toArray, List.set_cons_zero, List.set_cons_succ])
      refine take_d (i := 9) (d := 23) (v := undef) rfl rfl (by kernel_rfl) (by kernel_rfl) (by kernel_rfl) (fun _ _ _ h => h) (Or.inr ⟨by rfl, rfl⟩) (by assumption) ?_
      (try simp only [Act.put, List.setIfInBounds_toArray, List.set_cons_zero, List.set_cons_succ])
      refine take_d (i := 10) (d := 24) (v := undef) rfl rfl (by kernel_rfl) (by kernel_rfl) (by kernel_rfl) (fun _ _ _ h => h) (Or.inr ⟨by rfl, rfl⟩) (by assumption) ?_
      (try simp only [Act.put, List.setIfInBounds_toArray, List.set_cons_zero, List.set_cons_succ])
      refine take_d (i := 11) (d := 25) (v := ?_) rfl rfl (by kernel_rfl) (by kernel_rfl) (by kernel_rfl) (fun _ _ _ h => h) (Or.inl ⟨by rfl, ?_⟩) (by assumption) ?_
      rotate_left
      · (intro w hSw; (try dsimp only at hSw); go_simp; (try with_reducible rfl))
      (try simp only [Act.put, List.setIfInBounds_toArray, List.set_cons_zero, List.set_cons_succ])
      refine take_d (i := 12) (d := 13) (v := ?_) rfl rfl (by kernel_rfl) (by kernel_rfl) (by kernel_rfl) (fun _ _ _ h => h) (Or.inl ⟨by rfl, ?_⟩) (by assumption) ?_
      rotate_left
      · (intro w hSw; (try dsimp only at hSw); go_simp; (try with_reducible rfl))
      (try simp only [Act.put, List.setIfInBounds_toArray, List.set_cons_zero, List.set_cons_succ])
      refine wpAnyH_done (by kernel_rfl) ?_ _
      obtain ⟨hi, hz0, hz1, hz2⟩ := HIN.out
      go_wp2_with (at_builtin; go_loud (refine Wb.wpList_append_row rfl (.tmp 39) (.tmp 41) 56 rfl base 24 i0 (.agg #[.int .i64 0, .int .i64 0]) 2 16 Try.underlying56 hi hz0 hz1 hz2 rfl (by decide) _ _ _ rfl (((Wb.row_ext HV.out hx).drew).alloc _) (.slice (some ⟨w1.drew.heap.size, 0, none⟩) 1 1) rfl 1 (spc (f, t)) ?c1 ?c2 ?c3 ?c4 ?c5 ?_))
      case c1 => exact src_lit w1.drew _ rfl (spc (f, t)) _ _
      case c2 => intro u hu; simp [spc] at hu; rcases hu with rfl | rfl <;> rfl
      case c3 => unfold maxLen; omega
      case c4 => omega
      case c5 => simp; omega
      intro u2 w6 hown2 hg2 hnil2
      clear hi hz0 hz1 hz2
      have HG := Lib.hid hg2
      have HO := Lib.hid hown2
      clear hg2 hown2 hnil2
      go_wp2
      go_ret
      refine ⟨_, rfl, ?_, ?_⟩
      · rw [HJ.out, List.length_append, rowsOf_app, rowsOf_one]; exact HO.out
      · exact grown_trans (grown_ext (by (repeat' (first | (with_reducible assumption) | (with_reducible exact Wb.Ext.refl _) | (with_reducible refine Wb.Ext.drew ?_) | (with_reducible refine Wb.Ext.drewN ?_ _) | (with_reducible refine Wb.Ext.alloc ?_ _) | (with_reducible refine Wb.Ext.trans ?_ (by assumption)))))) (HG.out)
    · rw [List.concat_eq_append] at hpx
      subst hpx
      obtain ⟨xf, xt⟩ := x
      have hpl : (p ++ [(xf, xt)]).length = p.length + 1 := by simp
      rw [hpl] at HV hl ⊢
      have hvn : Value.slice va (p.length + 1) vc ≠ .slice none 0 0 := fun e => by cases e
      obtain ⟨g, cap, hvv, hgb, hgl, _, hcells⟩ := Wb.ownsRow_at HV.out hvn
      cases hvv
      have x1 := hcells (p.length * 2 + 1) (.int .i64 xt) (by
        have := rowsOf_get spc_len (l := p ++ [(xf, xt)]) (j := p.length) (x := (xf, xt)) (by simp) 1 (by decide)
        rw [this]; rfl)
      have hfz := own_free HV.out
      have hp0 : (0 : Int) ≤ (p.length : Int) := by omega
      have hp1 : (p.length : Int) < (p.length : Int) + 1 := by omega
      clear hcells hvn he hpl
      go_enter Try.func45, Try.ntmps45
      go_wp2_with fail
      go_fit (empty_any (f, t) _); rintro e w1 ⟨rfl, hb1⟩
      have hx : Wb.Ext w w1 := by (repeat' (first | (with_reducible assumption) | (with_reducible exact Wb.Ext.refl _) | (with_reducible refine Wb.Ext.drew ?_) | (with_reducible refine Wb.Ext.drewN ?_ _) | (with_reducible refine Wb.Ext.alloc ?_ _) | (with_reducible refine Wb.Ext.trans ?_ (by assumption))))
      have b0 : w1.cell? ⟨w.heap.size, 0, none⟩ = some (.int .i64 f) := hb1.keep (by simp [go_sem])
      have b1 : w1.cell? ⟨w.heap.size, 1, none⟩ = some (.int .i64 t) := hb1.keep (by simp [go_sem])
      have x1 := hx.keep x1
      have hfz : ∀ k, w1.frozen? ⟨g, k, none⟩ = false := fun k => (Below.frozen hx (show g < w.heap.size from hgl)).trans (hfz k)
      have hsz := hx.size
      have HO1 := Lib.hid (Wb.row_ext HV.out hx)
      clear hb1
      by_cases hk : f ≤ xt
      · have dk : decide (f ≤ xt) = true := by simpa using hk
        have HJ := Lib.hid (Wb.joinL_touch (p := p) (x := (xf, xt)) (s := (f, t)) he' hk)
        obtain ⟨m, hm⟩ : ∃ m, max xt t = m := ⟨_, rfl⟩
        have HM := Lib.hid hm
        have hmx : (if xt < t then t else xt) = m := by rw [← hm]; split <;> omega
        clear hm hk
        go_wp2_with fail
        refine wp_region_held_drew (S := (fun w' => w'.cell? ⟨w.heap.size, 0, none⟩ = some (.int .i64 f) ∧ w'.cell? ⟨w.heap.size, 1, none⟩ = some (.int .i64 t) ∧ w'.cell? ⟨g, p.length * 2 + 1, none⟩ = some (.int .i64 xt))) (by kernel_rfl) ⟨b0, b1, x1⟩ (fun hHeld => ?_)
        refine take_d (i := 0) (d := 14) (v := ?_) rfl rfl (by kernel_rfl) (by kernel_rfl) (by kernel_rfl) (fun _ _ _ h => h) (Or.inl ⟨by rfl, ?_⟩) (by assumption) ?_
        rotate_left
        · (intro w hSw; (try dsimp only at hSw); go_simp; (try with_reducible rfl))
        (try simp only [Act.put, List.setIfInBounds_toArray, List.set_cons_zero, List.set_cons_succ])
        refine take_d (i := 1) (d := 15) (v := ?_) rfl rfl (by kernel_rfl) (by kernel_rfl) (by kernel_rfl) (fun _ _ _ h => h) (Or.inl ⟨by rfl, ?_⟩) (by assumption) ?_
        rotate_left
        · (intro w hSw; (try dsimp only at hSw); go_simp; (try with_reducible rfl))
        (try simp only [Act.put, List.setIfInBounds_toArray, List.set_cons_zero, List.set_cons_succ])
        refine take_d (i := 2) (d := 16) (v := ?_) rfl rfl (by kernel_rfl) (by kernel_rfl) (by kernel_rfl) (fun _ _ _ h => h) (Or.inl ⟨by rfl, ?_⟩) (by assumption) ?_
        rotate_left
        · (intro w hSw; (try dsimp only at hSw); go_simp; (try with_reducible rfl))
        (try simp only [Act.put, List.setIfInBounds_toArray, List.set_cons_zero, List.set_cons_succ])
        refine take_d (i := 3) (d := 17) (v := ?_) rfl rfl (by kernel_rfl) (by kernel_rfl) (by kernel_rfl) (fun _ _ _ h => h) (Or.inl ⟨by rfl, ?_⟩) (by assumption) ?_
        rotate_left
        · (intro w hSw; (try dsimp only at hSw); go_simp; (try with_reducible rfl))
        (try simp only [Act.put, List.setIfInBounds_toArray, List.set_cons_zero, List.set_cons_succ])
        refine take_d (i := 4) (d := 18) (v := ?_) rfl rfl (by kernel_rfl) (by kernel_rfl) (by kernel_rfl) (fun _ _ _ h => h) (Or.inl ⟨by rfl, ?_⟩) (by assumption) ?_
        rotate_left
        · (intro w hSw; (try dsimp only at hSw); go_simp; (try with_reducible rfl))
        (try simp only [Act.put, List.setIfInBounds_toArray, List.set_cons_zero, List.set_cons_succ])
        refine take_d (i := 5) (d := 19) (v := ?_) rfl rfl (by kernel_rfl) (by kernel_rfl) (by kernel_rfl) (fun _ _ _ h => h) (Or.inl ⟨by rfl, ?_⟩) (by assumption) ?_
        rotate_left
        · (intro w hSw; (try dsimp only at hSw); go_simp; (try with_reducible rfl))
        (try simp only [Act.put, List.setIfInBounds_toArray, List.set_cons_zero, List.set_cons_succ])
        refine take_d (i := 6) (d := 20) (v := ?_) rfl rfl (by kernel_rfl) (by kernel_rfl) (by kernel_rfl) (fun _ _ _ h => h) (Or.inl ⟨by rfl, ?_⟩) (by assumption) ?_
        rotate_left
        · (intro w hSw; (try dsimp only at hSw); go_simp; (try with_reducible rfl))
        (try simp only [Act.put, List.setIfInBounds_toArray, List.set_cons_zero, List.set_cons_succ])
        refine take_d (i := 7) (d := 21) (v := ?_) rfl rfl (by kernel_rfl) (by kernel_rfl) (by kernel_rfl) (fun _ _ _ h => h) (Or.inl ⟨by rfl, ?_⟩) (by assumption) ?_
        rotate_left
        · (intro w hSw; (try dsimp only at hSw); go_simp; (try with_reducible rfl))
        (try simp only [Act.put, List.setIfInBounds_toArray, List.set_cons_zero, List.set_cons_succ])
        refine take_d (i := 8) (d := 22) (v := ?_) rfl rfl (by kernel_rfl) (by kernel_rfl) (by kernel_rfl) (fun _ _ _ h => h) (Or.inl ⟨by rfl, ?_⟩) (by assumption) ?_
        rotate_left
        · (intro w hSw; (try dsimp only at hSw); go_simp; (try with_reducible rfl))
        (try simp only [Act.put, List.setIfInBounds_toArray, List.set_cons_zero, List.set_cons_succ])
        refine take_d (i := 9) (d := 23) (v := ?_) rfl rfl (by kernel_rfl) (by kernel_rfl) (by kernel_rfl) (fun _ _ _ h => h) (Or.inl ⟨by rfl, ?_⟩) (by assumption) ?_
        rotate_left
        · (intro w hSw; (try dsimp only at hSw); go_simp; (try with_reducible rfl))
        (try simp only [Act.put, List.setIfInBounds_toArray, List.set_cons_zero, List.set_cons_succ])
        refine take_d (i := 10) (d := 24) (v := ?_) rfl rfl (by kernel_rfl) (by kernel_rfl) (by kernel_rfl) (fun _ _ _ h => h) (Or.inl ⟨by rfl, ?_⟩) (by assumption) ?_
        rotate_left
        · (intro w hSw; (try dsimp only at hSw); go_simp; (try with_reducible rfl))
        (try simp only [Act.put, List.setIfInBounds_toArray, List.set_cons_zero, List.set_cons_succ])
        refine take_d (i := 11) (d := 25) (v := ?_) rfl rfl (by kernel_rfl) (by kernel_rfl) (by kernel_rfl) (fun _ _ _ h => h) (Or.inl ⟨by rfl, ?_⟩) (by assumption) ?_
        rotate_left
        · (intro w hSw; (try dsimp only at hSw); go_simp; (try with_reducible rfl))
        (try simp only [Act.put, List.setIfInBounds_toArray, List.set_cons_zero, List.set_cons_succ])
        refine take_d (i := 12) (d := 13) (v := ?_) rfl rfl (by kernel_rfl) (by kernel_rfl) (by kernel_rfl) (fun _ _ _ h => h) (Or.inl ⟨by rfl, ?_⟩) (by assumption) ?_
        rotate_left
        · (intro w hSw; (try dsimp only at hSw); go_simp; (try with_reducible rfl))
        (try simp only [Act.put, List.setIfInBounds_toArray, List.set_cons_zero, List.set_cons_succ])
        refine wpAnyH_done (by kernel_rfl) ?_ _
        go_wp2_with fail
        go_region
        go_wp2
        go_ret
        refine ⟨_, rfl, ?_, ?_⟩
        · have h := own_set HO1.out (k := p.length * 2 + 1) (by omega) (.int .i64 m)
          rw [rows_set] at h
          rw [HJ.out, show (p ++ [(xf, max xt t)]).length = p.length + 1 by simp, HM.out]
          exact h.drew.drew
        · refine grown_trans (grown_ext hx) ?_
          refine grown_trans (grown_set w1 ⟨g, p.length * 2 + 1, none⟩ (.int .i64 m)) (grown_ext ?_)
          (repeat' (first | (with_reducible assumption) | (with_reducible exact Wb.Ext.refl _) | (with_reducible refine Wb.Ext.drew ?_) | (with_reducible refine Wb.Ext.drewN ?_ _) | (with_reducible refine Wb.Ext.alloc ?_ _) | (with_reducible refine Wb.Ext.trans ?_ (by assumption))))
      · have dk : decide (f ≤ xt) = false := by simpa using hk
        have HJ := Lib.hid (Wb.joinL_apart (p := p) (x := (xf, xt)) (s := (f, t)) he' (by simp only; omega))
        clear hk
        go_wp2_with fail
        refine wp_region_held_drew (S := (fun w' => w'.cell? ⟨w.heap.size, 0, none⟩ = some (.int .i64 f) ∧ w'.cell? ⟨w.heap.size, 1, none⟩ = some (.int .i64 t) ∧ w'.cell? ⟨g, p.length * 2 + 1, none⟩ = some (.int .i64 xt))) (by kernel_rfl) ⟨b0, b1, x1⟩ (fun hHeld => ?_)
        refine take_d (i := 0) (d := 14) (v := ?_) rfl rfl (by kernel_rfl) (by kernel_rfl) (by kernel_rfl) (fun _ _ _ h => h) (Or.inl ⟨by rfl, ?_⟩) (by assumption) ?_
        rotate_left
        · (intro w hSw; (try dsimp only at hSw); go_simp; (try with_reducible rfl))
        (try simp only [Act.put, List.setIfInBounds_toArray, List.set_cons_zero, List.set_cons_succ])
        refine take_d (i := 1) (d := 15) (v := ?_) rfl rfl (by kernel_rfl) (by kernel_rfl) (by kernel_rfl) (fun _ _ _ h => h) (Or.inl ⟨by rfl, ?_⟩) (by assumption) ?_
        rotate_left
        · (intro w hSw; (try dsimp only at hSw); go_simp; (try with_reducible rfl))
        (try simp only [Act.put, List.setIfInBounds_toArray, List.set_cons_zero, List.set_cons_succ])
        refine take_d (i := 2) (d := 16) (v := ?_) rfl rfl (by kernel_rfl) (by kernel_rfl) (by kernel_rfl) (fun _ _ _ h => h) (Or.inl ⟨by rfl, ?_⟩) (by assumption) ?_
        rotate_left
        · (intro w hSw; (try dsimp only at hSw); go_simp; (try with_reducible rfl))
        (try simp only [Act.put, List.setIfInBounds_toArray, List.set_cons_zero, List.set_cons_succ])
        refine take_d (i := 3) (d := 17) (v := ?_) rfl rfl (by kernel_rfl) (by kernel_rfl) (by kernel_rfl) (fun _ _ _ h => h) (Or.inl ⟨by rfl, ?_⟩) (by assumption) ?_
        rotate_left
        · (intro w hSw; (try dsimp only at hSw); go_simp; (try with_reducible rfl))
        (try simp only [Act.put, List.setIfInBounds_toArray, List.set_cons_zero, List.set_cons_succ])
        refine take_d (i := 4) (d := 18) (v := ?_) rfl rfl (by kernel_rfl) (by kernel_rfl) (by kernel_rfl) (fun _ _ _ h => h) (Or.inl ⟨by rfl, ?_⟩) (by assumption) ?_
        rotate_left
        · (intro w hSw; (try dsimp only at hSw); go_simp; (try with_reducible rfl))
        (try simp only [Act.put, List.setIfInBounds_toArray, List.set_cons_zero, List.set_cons_succ])
        refine take_d (i := 5) (d := 19) (v := ?_) rfl rfl (by kernel_rfl) (by kernel_rfl) (by kernel_rfl) (fun _ _ _ h => h) (Or.inl ⟨by rfl, ?_⟩) (by assumption) ?_
        rotate_left
        · (intro w hSw; (try dsimp only at hSw); go_simp; (try with_reducible rfl))
        (try simp only [Act.put, List.setIfInBounds_toArray, List.set_cons_zero, List.set_cons_succ])
        refine take_d (i := 6) (d := 20) (v := ?_) rfl rfl (by kernel_rfl) (by kernel_rfl) (by kernel_rfl) (fun _ _ _ h => h) (Or.inl ⟨by rfl, ?_⟩) (by assumption) ?_
        rotate_left
        · (intro w hSw; (try dsimp only at hSw); go_simp; (try with_reducible rfl))
        (try simp only [Act.put, List.setIfInBounds_toArray, List.set_cons_zero, List.set_cons_succ])
        refine take_d (i := 7) (d := 21) (v := ?_) rfl rfl (by kernel_rfl) (by kernel_rfl) (by kernel_rfl) (fun _ _ _ h => h) (Or.inl ⟨by rfl, ?_⟩) (by assumption) ?_
        rotate_left
        · (intro w hSw; (try dsimp only at hSw); go_simp; (try with_reducible rfl))
        (try simp only [Act.put, List.setIfInBounds_toArray, List.set_cons_zero, List.set_cons_succ])
        refine take_d (i := 8) (d := 22) (v := ?_) rfl rfl (by kernel_rfl) (by kernel_rfl) (by kernel_rfl) (fun _ _ _ h => h) (Or.inl ⟨by rfl, ?_⟩) (by assumption) ?_
        rotate_left
        · (intro w hSw; (try dsimp only at hSw); go_simp; (try with_reducible rfl))
        (try simp only [Act.put, List.setIfInBounds_toArray, List.set_cons_zero, List.set_cons_succ])
        refine take_d (i := 9) (d := 23) (v := ?_) rfl rfl (by kernel_rfl) (by kernel_rfl) (by kernel_rfl) (fun _ _ _ h => h) (Or.inl ⟨by rfl, ?_⟩) (by assumption) ?_
        rotate_left
        · (intro w hSw; (try dsimp only at hSw); go_simp; (try with_reducible rfl))
        (try simp only [Act.put, List.setIfInBounds_toArray, List.set_cons_zero, List.set_cons_succ])
        refine take_d (i := 10) (d := 24) (v := ?_) rfl rfl (by kernel_rfl) (by kernel_rfl) (by kernel_rfl) (fun _ _ _ h => h) (Or.inl ⟨by rfl, ?_⟩) (by assumption) ?_
        rotate_left
        · (intro w hSw; (try dsimp only at hSw); go_simp; (try with_reducible rfl))
        (try simp only [Act.put, List.setIfInBounds_toArray, List.set_cons_zero, List.set_cons_succ])
        refine take_d (i := 11) (d := 25) (v := ?_) rfl rfl (by kernel_rfl) (by kernel_rfl) (by kernel_rfl) (fun _ _ _ h => h) (Or.inl ⟨by rfl, ?_⟩) (by assumption) ?_
        rotate_left
        · (intro w hSw; (try dsimp only at hSw); go_simp; (try with_reducible rfl))
        (try simp only [Act.put, List.setIfInBounds_toArray, List.set_cons_zero, List.set_cons_succ])
        refine take_d (i := 12) (d := 13) (v := ?_) rfl rfl (by kernel_rfl) (by kernel_rfl) (by kernel_rfl) (fun _ _ _ h => h) (Or.inl ⟨by rfl, ?_⟩) (by assumption) ?_
        rotate_left
        · (intro w hSw; (try dsimp only at hSw); go_simp; (try with_reducible rfl))
        (try simp only [Act.put, List.setIfInBounds_toArray, List.set_cons_zero, List.set_cons_succ])
        refine wpAnyH_done (by kernel_rfl) ?_ _
        obtain ⟨hi, hz0, hz1, hz2⟩ := HIN.out
        go_wp2_with (at_builtin; go_loud (refine Wb.wpList_append_row rfl (.tmp 39) (.tmp 41) 56 rfl base 24 i0 (.agg #[.int .i64 0, .int .i64 0]) 2 16 Try.underlying56 hi hz0 hz1 hz2 rfl (by decide) _ _ _ rfl ((HO1.out.drew).alloc _) (.slice (some ⟨w1.drew.heap.size, 0, none⟩) 1 1) rfl 1 (spc (f, t)) ?c1 ?c2 ?c3 ?c4 ?c5 ?_))
        case c1 => exact src_lit w1.drew _ rfl (spc (f, t)) _ _
        case c2 => intro u hu; simp [spc] at hu; rcases hu with rfl | rfl <;> rfl
        case c3 => unfold maxLen; omega
        case c4 => omega
        case c5 => simp; omega
        intro u2 w6 hown2 hg2 hnil2
        clear hi hz0 hz1 hz2
        have HG := Lib.hid hg2
        have HO := Lib.hid hown2
        clear hg2 hown2 hnil2
        go_wp2
        go_ret
        refine ⟨_, rfl, ?_, ?_⟩
        · rw [HJ.out, show (p ++ [(xf, xt)] ++ [(f, t)]).length = p.length + 1 + 1 by simp, rowsOf_app, rowsOf_one]; exact HO.out
        · exact grown_trans (grown_ext (by (repeat' (first | (with_reducible assumption) | (with_reducible exact Wb.Ext.refl _) | (with_reducible refine Wb.Ext.drew ?_) | (with_reducible refine Wb.Ext.drewN ?_ _) | (with_reducible refine Wb.Ext.alloc ?_ _) | (with_reducible refine Wb.Ext.trans ?_ (by assumption)))))) (HG.out)

end Go.Proofs.Ytheofklbmknipaa
