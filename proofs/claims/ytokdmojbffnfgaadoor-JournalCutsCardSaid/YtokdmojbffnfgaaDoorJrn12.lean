/- The walk of (Log).next. -/
import Derived.Test.YtokdmojbffnfgaaDoorJrn11
import Derived.Deep.RegionHeld3
import Derived.Deep.DrawnRows
namespace Go.Proofs.YtokdmojbffnfgaaDoor
open Go.RowKit
set_option maxRecDepth 8000
attribute [local go_sem ↓] Go.wp_at_zero Go.wp_at_succ

/-- the library's variable that its search asks for -/
def MaxL (w : World) : Prop := ∃ m, w.cell? ⟨0, 0, none⟩ = some (.int .i64 m)
theorem MaxL.ext {w w' : World} (h : MaxL w) (k : Wb.Ext w w') : MaxL w' := h.imp fun _ h => k.keep h
theorem maxL_of {w : World} (h : w.ShapedOpen Tryd.prog) : MaxL w := Tryd.laysM147.s1_3 w h
theorem hasp_any (s p : List UInt8) (w : World) :
    Calls Tryd.prog 25 #[.string (Wb.S s), .string (Wb.S p)] w fun e w' => e = .returned (.bool (Lib.hasPrefix s p)) ∧ w = w' := by
  refine (Tryd.strings_HasPrefix (Wb.S s) (Wb.S p) w).mono ?_
  rintro e w' ⟨rfl, rfl⟩
  rw [show (Wb.S s).data.toList = s by simp [Wb.S], show (Wb.S p).data.toList = p by simp [Wb.S]]
  exact ⟨rfl, rfl⟩
theorem splitK_hit {c : UInt8} {a b : List UInt8} (k : Nat) (h : c ∉ a) : Lib.splitK [c] 0 (k + 1) (a ++ c :: b) = a :: Lib.splitK [c] 0 k b := by
  have hn : ¬ ((a.length : Int) == -1) = true := by simp
  rw [Lib.splitK, Wb.index1_hit h, if_neg hn]
  simp
theorem splitn_any (t : List UInt8) (w : World) (hm : MaxL w) (hs : t.length < 4294967281) :
    Calls Tryd.prog 47 #[.string (Wb.S t), .string (Wb.S [32]), .int .i64 4] w fun e w' => ∃ n c : Nat, e = .returned (.slice (some ⟨w.heap.size, 0, none⟩) n c) ∧ (Wb.cut3 t = none → n < 4) ∧ (∀ r, Wb.cut3 t = some r → n = 4 ∧ w'.cell? ⟨w.heap.size, 3, none⟩ = some (.string (Wb.S r))) ∧ Wb.Ext w w' := by
  obtain ⟨m, hm⟩ := hm
  have hsz : (Wb.S t).size < 4294967281 := by rw [Wb.S_size]; exact hs
  refine (Go.Proofs.Any.strings_SplitN { Tryd.laysM147 with } Tryd.laysM147.i9 (Wb.S t) (Wb.S [32]) 4 m w hsz hm (by rw [Wb.S_size]; simp) (by omega) (by omega)).mono ?_
  rintro e w' ⟨rfl, rfl⟩
  have hd := Lib.splitB_data (Wb.S [32]) 0 (min 4 ((Wb.S t).size + 1) - 1) (Wb.S t)
  rw [show (Wb.S [32]).data.toList = [32] by simp [Wb.S], show (Wb.S t).data.toList = t by simp [Wb.S], Wb.S_size] at hd
  rw [Wb.S_size]
  obtain ⟨ps, hps⟩ : ∃ ps, Lib.splitB (Wb.S [32]) 0 (min 4 (t.length + 1) - 1) (Wb.S t) = ps := ⟨_, rfl⟩
  rw [hps] at hd ⊢
  refine ⟨_, _, rfl, fun h => ?_, fun r h => ?_, (Wb.Ext.refl w).alloc _⟩
  · rcases Wb.cut3_cases t with ⟨_, h2⟩ | ⟨a, b, c, r, _, _, _, _, h5⟩
    · have hc : t.count 32 ≤ t.length := List.count_le_length
      rw [Wb.lib_splitK 32 _ t (by omega)] at hd
      have := congrArg List.length hd
      rw [List.length_map, Wb.splitOn_len] at this
      omega
    · rw [h] at h5; cases h5
  · rcases Wb.cut3_cases t with ⟨h2, _⟩ | ⟨a, b, c, r', ht, h1, h2, h3, h5⟩
    · rw [h] at h2; cases h2
    · rw [h] at h5; cases h5
      have hlen : 3 ≤ t.length := by rw [ht]; simp; omega
      rw [show min 4 (t.length + 1) - 1 = 2 + 1 by omega, ht, splitK_hit _ h1, splitK_hit _ h2, splitK_hit _ h3] at hd
      have hps2 : ps = [Wb.S a, Wb.S b, Wb.S c, Wb.S r] := by
        have h6 : ps.map (fun x => Wb.S x.data.toList) = [a, b, c, r].map Wb.S := by
          have h7 := congrArg (List.map Wb.S) hd
          rw [List.map_map] at h7
          exact h7
        have h8 : ps.map (fun x => Wb.S x.data.toList) = ps := by
          conv => rhs; rw [← List.map_id ps]
          exact List.map_congr_left fun x _ => by simp [Wb.S]
        rw [h8] at h6; exact h6
      subst hps2
      refine ⟨rfl, ?_⟩
      rw [show min 4 (t.length + 1) = 4 by omega]
      simp [go_sem, Lib.cellsOf]

/-- what 'next' says of a line -/
def NextIs (A : List (List UInt8)) (t r : List UInt8) (b : Bool) : Prop :=
  (b = true → Wb.okA A.length r ∧ t = Wb.lineN (A.length + 1) (Wb.marksL Wb.mfirst A) r) ∧ (b = false → ∀ a, Wb.okA A.length a → t ≠ Wb.lineN (A.length + 1) (Wb.marksL Wb.mfirst A) a)
theorem NextIs.none {A : List (List UInt8)} {t r : List UInt8} (h : Wb.cut3 t = none) : NextIs A t r false := by
  refine ⟨(fun h => by cases h), fun _ a _ e => ?_⟩
  rw [e, Wb.cut3_line] at h; cases h
theorem NextIs.bad {A : List (List UInt8)} {t r : List UInt8} (h : Wb.cut3 t = some r) (hw : ¬ wrongOf A.length r = 0) : NextIs A t r false := by
  refine ⟨(fun h => by cases h), fun _ a ha e => ?_⟩
  rw [e, Wb.cut3_line] at h; cases h
  exact hw (wrong_ok.2 ha)
theorem NextIs.good {A : List (List UInt8)} {t r hd : List UInt8} {px : Bool} (h : Wb.cut3 t = some r) (hw : wrongOf A.length r = 0) (hh : Wb.headN (A.length + 1) r.length (Wb.mmark (Wb.marksL Wb.mfirst A) r) = hd) (hp : Lib.hasPrefix t hd = px) : NextIs A t r px := by
  have hpx : px = true ↔ hd <+: t := by rw [← hp, Lib.hasPrefix, List.isPrefixOf_iff_prefix]
  refine ⟨fun e => ⟨wrong_ok.1 hw, ?_⟩, fun e a ha k => ?_⟩
  · obtain ⟨x, hx⟩ := hpx.1 e
    rw [← hx, ← hh, Wb.cut3_head] at h
    cases h
    rw [Wb.lineN, hh, hx]
  · rw [k, Wb.cut3_line] at h; cases h
    have : hd <+: t := ⟨r, by rw [k, Wb.lineN, hh]⟩
    rw [hpx.2 this] at e; cases e

set_option maxHeartbeats 4000000 in
theorem next_any (x : Value) (A : List (List UInt8)) (m : Nat) (t : List UInt8) (w : World) (hv : LogV w (.agg #[x, .int .u64 (m : Int)]) A) (hn : A.length ≤ 50000) (ht : t.length ≤ 10000000) (hT : Tab10 w) (hM : MaxL w) :
    Calls Tryd.prog 34 #[.agg #[x, .int .u64 (m : Int)], .string (Wb.S t)] w fun e w' => ∃ (r : List UInt8) (b : Bool), e = .returned (.tuple #[.string (Wb.S r), .bool b]) ∧ NextIs A t r b ∧ Wb.Ext w w' := by
  obtain ⟨x', m', he, hr, hm⟩ := hv
  obtain ⟨rfl, rfl⟩ : x = x' ∧ m = m' := by simp at he; exact ⟨he.1, by omega⟩
  obtain ⟨ao, c, rfl, _, _, _⟩ := hr.shape
  have HS := Lib.hid hr.strs.1
  have HT := Lib.hid hT
  have HMX := Lib.hid hM
  obtain ⟨M, hMd⟩ : ∃ M, Wb.marksL Wb.mfirst A = M := ⟨_, rfl⟩
  have HMK := Lib.hid (show (if A = [] then Wb.mfirst else m : Nat) = M by
    by_cases h0 : A = []
    · rw [if_pos h0, ← hMd, h0, Wb.marksL, List.foldl_nil]
    · rw [if_neg h0, ← hMd]; exact hm h0)
  have HML := Lib.hid (show M < Wb.MM by rw [← hMd]; exact Wb.marksL_lt Wb.mfirst_lt _)
  have HMD := Lib.hid hMd
  clear he hr hm hT hM hMd
  go_enter Tryd.func34, Tryd.ntmps34
  go_wp2_with fail
  go_fit (splitn_any t _ (HMX.out.ext (by (repeat' (first | (with_reducible assumption) | (with_reducible exact Wb.Ext.refl _) | (with_reducible refine Wb.Ext.drew ?_) | (with_reducible refine Wb.Ext.drewN ?_ _) | (with_reducible refine Wb.Ext.alloc ?_ _) | (with_reducible refine Wb.Ext.trans ?_ (by assumption)))))) (by omega)); rintro e w1 ⟨pn, pc, rfl, h4, h5, hb1⟩
  have H4 := Lib.hid h4
  have H5 := Lib.hid h5
  have q0 : w1.cell? ⟨w.heap.size, 0, none⟩ = some (.slice ao A.length c) := hb1.keep (by simp [go_sem])
  have q1 : w1.cell? ⟨w.heap.size, 1, none⟩ = some (.int .u64 (m : Int)) := hb1.keep (by simp [go_sem])
  have he1 : Wb.Ext w w1 := by (repeat' (first | (with_reducible assumption) | (with_reducible exact Wb.Ext.refl _) | (with_reducible refine Wb.Ext.drew ?_) | (with_reducible refine Wb.Ext.drewN ?_ _) | (with_reducible refine Wb.Ext.alloc ?_ _) | (with_reducible refine Wb.Ext.trans ?_ (by assumption))))
  clear h4 h5 hb1
  cases hc : Wb.cut3 t with
  | none =>
    have hlt : pn < 4 := H4.out hc
    have HN := Lib.hid (NextIs.none (A := A) (r := []) hc)
    have d4 : decide ((pn : Int) < 4) = true := by simp; omega
    have HC := Lib.hid hc
    clear hc
    go_wp2
    go_ret2
    exact ⟨[], false, rfl, HN.out, by (repeat' (first | (with_reducible assumption) | (with_reducible exact Wb.Ext.refl _) | (with_reducible refine Wb.Ext.drew ?_) | (with_reducible refine Wb.Ext.drewN ?_ _) | (with_reducible refine Wb.Ext.alloc ?_ _) | (with_reducible refine Wb.Ext.trans ?_ (by assumption))))⟩
  | some r =>
    obtain ⟨rfl, p3⟩ := H5.out r hc
    have p3 : w1.cell? ⟨w.heap.size + 1, 3, none⟩ = some (.string (Wb.S r)) := by simpa using p3
    have hrl : r.length ≤ t.length := by
      rcases Wb.cut3_cases t with ⟨h2, _⟩ | ⟨a, b, c, r', ht, _, _, _, h5⟩
      · rw [hc] at h2; cases h2
      · rw [hc] at h5; cases h5
        rw [ht]; simp; omega
    obtain ⟨q, hq⟩ : ∃ q, wrongOf A.length r = q := ⟨_, rfl⟩
    have HQ := Lib.hid hq
    by_cases hq0 : q = 0
    · obtain ⟨M2, hM2⟩ : ∃ M2, Wb.mmark M r = M2 := ⟨_, rfl⟩
      obtain ⟨hd, hhd⟩ : ∃ hd, Wb.headN (A.length + 1) r.length M2 = hd := ⟨_, rfl⟩
      obtain ⟨px, hpx⟩ : ∃ px, Lib.hasPrefix t hd = px := ⟨_, rfl⟩
      have HN := Lib.hid (NextIs.good (A := A) hc (hq.trans hq0) (by rw [HMD.out, hM2]; exact hhd) hpx)
      have HM2 := Lib.hid hM2
      have HHD := Lib.hid hhd
      have HPX := Lib.hid hpx
      have HM2L := Lib.hid (show M2 < Wb.MM by rw [← hM2]; exact Wb.mmark_lt _ _)
      have hr4 : r.length ≤ 4096 := (wrong_ok.1 (hq.trans hq0)).2.1
      have hw1 : IntKind.i64.wrap ((A.length : Int) + 1) = (A.length : Int) + 1 := IntWalk.i64_in _ (by omega)
      subst hq0
      clear hc hq hM2 hhd hpx
      go_wp2_with fail
      refine wp_region_held_drew (S := (fun w' => w'.cell? ⟨w.heap.size, 0, none⟩ = some (.slice ao A.length c) ∧ w'.cell? ⟨w.heap.size, 1, none⟩ = some (.int .u64 (m : Int)))) (by kernel_rfl) ⟨Wb.Ext.keep (w := w1) (by (repeat' (first | (with_reducible assumption) | (with_reducible exact Wb.Ext.refl _) | (with_reducible refine Wb.Ext.drew ?_) | (with_reducible refine Wb.Ext.drewN ?_ _) | (with_reducible refine Wb.Ext.alloc ?_ _) | (with_reducible refine Wb.Ext.trans ?_ (by assumption))))) q0, Wb.Ext.keep (w := w1) (by (repeat' (first | (with_reducible assumption) | (with_reducible exact Wb.Ext.refl _) | (with_reducible refine Wb.Ext.drew ?_) | (with_reducible refine Wb.Ext.drewN ?_ _) | (with_reducible refine Wb.Ext.alloc ?_ _) | (with_reducible refine Wb.Ext.trans ?_ (by assumption))))) q1⟩ (fun hHeld => ?_)
      refine take_d (i := 0) (d := 16) (v := ?_) rfl rfl (by kernel_rfl) (by kernel_rfl) (by kernel_rfl) (fun _ _ _ h => h) (Or.inl ⟨by rfl, ?_⟩) (by assumption) ?_
      rotate_left
      · (intro w hSw; (try dsimp only at hSw); go_simp; (try with_reducible rfl))
      (try simp only [Act.put, List.setIfInBounds_toArray, List.set_cons_zero, List.set_cons_succ])
      refine take_d (i := 1) (d := 17) (v := ?_) rfl rfl (by kernel_rfl) (by kernel_rfl) (by kernel_rfl) (fun _ _ _ h => h) (Or.inl ⟨by rfl, ?_⟩) (by assumption) ?_
      rotate_left
      · (intro w hSw; (try dsimp only at hSw); go_simp; (try with_reducible rfl))
      (try simp only [Act.put, List.setIfInBounds_toArray, List.set_cons_zero, List.set_cons_succ])
      refine take_d (i := 2) (d := 18) (v := ?_) rfl rfl (by kernel_rfl) (by kernel_rfl) (by kernel_rfl) (fun _ _ _ h => h) (Or.inl ⟨by rfl, ?_⟩) (by assumption) ?_
      rotate_left
      · (intro w hSw; (try dsimp only at hSw); go_simp; (try with_reducible rfl))
      (try simp only [Act.put, List.setIfInBounds_toArray, List.set_cons_zero, List.set_cons_succ])
      refine wpAnyH_ready (rs := [3]) (by kernel_rfl) (by simp) ?_
      refine AllReadyH.cons (o := _) rfl (fun K hK => ?_) ?_
      · go_simp
        go_at_call 27
        go_fit (wrong_any (.slice ao A.length c) A m r _ (HS.out.ext (by (repeat' (first | (with_reducible assumption) | (with_reducible exact Wb.Ext.refl _) | (with_reducible refine Wb.Ext.drew ?_) | (with_reducible refine Wb.Ext.drewN ?_ _) | (with_reducible refine Wb.Ext.alloc ?_ _) | (with_reducible refine Wb.Ext.trans ?_ (by assumption)))))) (by omega))
        rintro e w2 ⟨rfl, hb2⟩
        rw [HQ.out]
        refine hK.out _ _ ⟨Wb.Ext.keep (w := w1) (by (repeat' (first | (with_reducible assumption) | (with_reducible exact Wb.Ext.refl _) | (with_reducible refine Wb.Ext.drew ?_) | (with_reducible refine Wb.Ext.drewN ?_ _) | (with_reducible refine Wb.Ext.alloc ?_ _) | (with_reducible refine Wb.Ext.trans ?_ (by assumption))))) q0, Wb.Ext.keep (w := w1) (by (repeat' (first | (with_reducible assumption) | (with_reducible exact Wb.Ext.refl _) | (with_reducible refine Wb.Ext.drew ?_) | (with_reducible refine Wb.Ext.drewN ?_ _) | (with_reducible refine Wb.Ext.alloc ?_ _) | (with_reducible refine Wb.Ext.trans ?_ (by assumption))))) q1⟩ (fun hHeld => ?_)
        clear hK K
        (try simp only [Act.put, List.setIfInBounds_toArray, List.set_cons_zero, List.set_cons_succ])
        refine take_d (i := 4) (d := 20) (v := ?_) rfl rfl (by kernel_rfl) (by kernel_rfl) (by kernel_rfl) (fun _ _ _ h => h) (Or.inl ⟨by rfl, ?_⟩) (by assumption) ?_
        rotate_left
        · (intro w hSw; (try dsimp only at hSw); go_simp; (try with_reducible rfl))
        (try simp only [Act.put, List.setIfInBounds_toArray, List.set_cons_zero, List.set_cons_succ])
        refine take_d (i := 5) (d := 21) (v := ?_) rfl rfl (by kernel_rfl) (by kernel_rfl) (by kernel_rfl) (fun _ _ _ h => h) (Or.inl ⟨by rfl, ?_⟩) (by assumption) ?_
        rotate_left
        · (intro w hSw; (try dsimp only at hSw); go_simp; (try with_reducible rfl))
        (try simp only [Act.put, List.setIfInBounds_toArray, List.set_cons_zero, List.set_cons_succ])
        refine take_d (i := 6) (d := 22) (v := ?_) rfl rfl (by kernel_rfl) (by kernel_rfl) (by kernel_rfl) (fun _ _ _ h => h) (Or.inl ⟨by rfl, ?_⟩) (by assumption) ?_
        rotate_left
        · (intro w hSw; (try dsimp only at hSw); go_simp; (try with_reducible rfl))
        (try simp only [Act.put, List.setIfInBounds_toArray, List.set_cons_zero, List.set_cons_succ])
        refine take_d (i := 7) (d := 23) (v := ?_) rfl rfl (by kernel_rfl) (by kernel_rfl) (by kernel_rfl) (fun _ _ _ h => h) (Or.inl ⟨by rfl, ?_⟩) (by assumption) ?_
        rotate_left
        · (intro w hSw; (try dsimp only at hSw); go_simp; (try with_reducible rfl))
        (try simp only [Act.put, List.setIfInBounds_toArray, List.set_cons_zero, List.set_cons_succ])
        refine take_d (i := 8) (d := 24) (v := ?_) rfl rfl (by kernel_rfl) (by kernel_rfl) (by kernel_rfl) (fun _ _ _ h => h) (Or.inl ⟨by rfl, ?_⟩) (by assumption) ?_
        rotate_left
        · (intro w hSw; (try dsimp only at hSw); go_simp; (try with_reducible rfl))
        (try simp only [Act.put, List.setIfInBounds_toArray, List.set_cons_zero, List.set_cons_succ])
        refine take_d (i := 9) (d := 25) (v := ?_) rfl rfl (by kernel_rfl) (by kernel_rfl) (by kernel_rfl) (fun _ _ _ h => h) (Or.inl ⟨by rfl, ?_⟩) (by assumption) ?_
        rotate_left
        · (intro w hSw; (try dsimp only at hSw); go_simp; (try with_reducible rfl))
        (try simp only [Act.put, List.setIfInBounds_toArray, List.set_cons_zero, List.set_cons_succ])
        refine take_d (i := 10) (d := 26) (v := ?_) rfl rfl (by kernel_rfl) (by kernel_rfl) (by kernel_rfl) (fun _ _ _ h => h) (Or.inl ⟨by rfl, ?_⟩) (by assumption) ?_
        rotate_left
        · (intro w hSw; (try dsimp only at hSw); go_simp; (try with_reducible rfl))
        (try simp only [Act.put, List.setIfInBounds_toArray, List.set_cons_zero, List.set_cons_succ])
        refine take_d (i := 11) (d := 27) (v := ?_) rfl rfl (by kernel_rfl) (by kernel_rfl) (by kernel_rfl) (fun _ _ _ h => h) (Or.inl ⟨by rfl, ?_⟩) (by assumption) ?_
        rotate_left
        · (intro w hSw; (try dsimp only at hSw); go_simp; (try with_reducible rfl))
        (try simp only [Act.put, List.setIfInBounds_toArray, List.set_cons_zero, List.set_cons_succ])
        refine take_d (i := 12) (d := 28) (v := ?_) rfl rfl (by kernel_rfl) (by kernel_rfl) (by kernel_rfl) (fun _ _ _ h => h) (Or.inl ⟨by rfl, ?_⟩) (by assumption) ?_
        rotate_left
        · (intro w hSw; (try dsimp only at hSw); go_simp; (try with_reducible rfl))
        (try simp only [Act.put, List.setIfInBounds_toArray, List.set_cons_zero, List.set_cons_succ])
        refine take_d (i := 14) (d := 30) (v := ?_) rfl rfl (by kernel_rfl) (by kernel_rfl) (by kernel_rfl) (fun _ _ _ h => h) (Or.inl ⟨by rfl, ?_⟩) (by assumption) ?_
        rotate_left
        · (intro w hSw; (try dsimp only at hSw); go_simp; (try with_reducible rfl))
        (try simp only [Act.put, List.setIfInBounds_toArray, List.set_cons_zero, List.set_cons_succ])
        refine wpAnyH_ready (rs := [13]) (by kernel_rfl) (by simp) ?_
        refine AllReadyH.cons (o := _) rfl (fun K hK => ?_) ?_
        · go_simp
          go_at_call 14
          go_fit (lmark_any (.slice ao A.length c) A m _ (HS.out.ext (by (repeat' (first | (with_reducible assumption) | (with_reducible exact Wb.Ext.refl _) | (with_reducible refine Wb.Ext.drew ?_) | (with_reducible refine Wb.Ext.drewN ?_ _) | (with_reducible refine Wb.Ext.alloc ?_ _) | (with_reducible refine Wb.Ext.trans ?_ (by assumption)))))))
          rintro e w3 ⟨rfl, hb3⟩
          rw [HMK.out]
          refine hK.out _ _ ⟨Wb.Ext.keep (w := w1) (by (repeat' (first | (with_reducible assumption) | (with_reducible exact Wb.Ext.refl _) | (with_reducible refine Wb.Ext.drew ?_) | (with_reducible refine Wb.Ext.drewN ?_ _) | (with_reducible refine Wb.Ext.alloc ?_ _) | (with_reducible refine Wb.Ext.trans ?_ (by assumption))))) q0, Wb.Ext.keep (w := w1) (by (repeat' (first | (with_reducible assumption) | (with_reducible exact Wb.Ext.refl _) | (with_reducible refine Wb.Ext.drew ?_) | (with_reducible refine Wb.Ext.drewN ?_ _) | (with_reducible refine Wb.Ext.alloc ?_ _) | (with_reducible refine Wb.Ext.trans ?_ (by assumption))))) q1⟩ (fun hHeld => ?_)
          clear hK K
          (try simp only [Act.put, List.setIfInBounds_toArray, List.set_cons_zero, List.set_cons_succ])
          refine wpAnyH_ready (rs := [15]) (by kernel_rfl) (by simp) ?_
          refine AllReadyH.cons (o := _) rfl (fun K hK => ?_) ?_
          · go_simp
            go_at_call 28
            go_fit (mark_any M r HML.out (by omega) _)
            rintro e w' ⟨rfl, rfl⟩
            rw [HM2.out]
            refine hK.out _ _ ⟨Wb.Ext.keep (w := w1) (by (repeat' (first | (with_reducible assumption) | (with_reducible exact Wb.Ext.refl _) | (with_reducible refine Wb.Ext.drew ?_) | (with_reducible refine Wb.Ext.drewN ?_ _) | (with_reducible refine Wb.Ext.alloc ?_ _) | (with_reducible refine Wb.Ext.trans ?_ (by assumption))))) q0, Wb.Ext.keep (w := w1) (by (repeat' (first | (with_reducible assumption) | (with_reducible exact Wb.Ext.refl _) | (with_reducible refine Wb.Ext.drew ?_) | (with_reducible refine Wb.Ext.drewN ?_ _) | (with_reducible refine Wb.Ext.alloc ?_ _) | (with_reducible refine Wb.Ext.trans ?_ (by assumption))))) q1⟩ (fun hHeld => ?_)
            clear hK K
            (try simp only [Act.put, List.setIfInBounds_toArray, List.set_cons_zero, List.set_cons_succ])
            refine wpAnyH_ready (rs := [16]) (by kernel_rfl) (by simp) ?_
            refine AllReadyH.cons (o := _) rfl (fun K hK => ?_) ?_
            · go_simp
              go_at_call 30
              go_fit (head1_any A.length r M2 (by omega) (by omega) HM2L.out _ (HT.out.ext (by (repeat' (first | (with_reducible assumption) | (with_reducible exact Wb.Ext.refl _) | (with_reducible refine Wb.Ext.drew ?_) | (with_reducible refine Wb.Ext.drewN ?_ _) | (with_reducible refine Wb.Ext.alloc ?_ _) | (with_reducible refine Wb.Ext.trans ?_ (by assumption)))))))
              rintro e w4 ⟨rfl, hb4⟩
              rw [HHD.out]
              refine hK.out _ _ ⟨Wb.Ext.keep (w := w1) (by (repeat' (first | (with_reducible assumption) | (with_reducible exact Wb.Ext.refl _) | (with_reducible refine Wb.Ext.drew ?_) | (with_reducible refine Wb.Ext.drewN ?_ _) | (with_reducible refine Wb.Ext.alloc ?_ _) | (with_reducible refine Wb.Ext.trans ?_ (by assumption))))) q0, Wb.Ext.keep (w := w1) (by (repeat' (first | (with_reducible assumption) | (with_reducible exact Wb.Ext.refl _) | (with_reducible refine Wb.Ext.drew ?_) | (with_reducible refine Wb.Ext.drewN ?_ _) | (with_reducible refine Wb.Ext.alloc ?_ _) | (with_reducible refine Wb.Ext.trans ?_ (by assumption))))) q1⟩ (fun hHeld => ?_)
              clear hK K
              (try simp only [Act.put, List.setIfInBounds_toArray, List.set_cons_zero, List.set_cons_succ])
              refine wpAnyH_ready (rs := [17]) (by kernel_rfl) (by simp) ?_
              refine AllReadyH.cons (o := _) rfl (fun K hK => ?_) ?_
              · go_simp
                go_at_call 25
                go_fit (hasp_any t hd _)
                rintro e w' ⟨rfl, rfl⟩
                rw [HPX.out]
                refine hK.out _ _ ⟨Wb.Ext.keep (w := w1) (by (repeat' (first | (with_reducible assumption) | (with_reducible exact Wb.Ext.refl _) | (with_reducible refine Wb.Ext.drew ?_) | (with_reducible refine Wb.Ext.drewN ?_ _) | (with_reducible refine Wb.Ext.alloc ?_ _) | (with_reducible refine Wb.Ext.trans ?_ (by assumption))))) q0, Wb.Ext.keep (w := w1) (by (repeat' (first | (with_reducible assumption) | (with_reducible exact Wb.Ext.refl _) | (with_reducible refine Wb.Ext.drew ?_) | (with_reducible refine Wb.Ext.drewN ?_ _) | (with_reducible refine Wb.Ext.alloc ?_ _) | (with_reducible refine Wb.Ext.trans ?_ (by assumption))))) q1⟩ (fun hHeld => ?_)
                clear hK K
                (try simp only [Act.put, List.setIfInBounds_toArray, List.set_cons_zero, List.set_cons_succ])
                refine take_d (i := 18) (d := 34) (v := ?_) rfl rfl (by kernel_rfl) (by kernel_rfl) (by kernel_rfl) (fun _ _ _ h => h) (Or.inl ⟨by rfl, ?_⟩) (by assumption) ?_
                rotate_left
                · (intro w hSw; (try dsimp only at hSw); go_simp; (try with_reducible rfl))
                (try simp only [Act.put, List.setIfInBounds_toArray, List.set_cons_zero, List.set_cons_succ])
                refine take_d (i := 19) (d := 4) (v := ?_) rfl rfl (by kernel_rfl) (by kernel_rfl) (by kernel_rfl) (fun _ _ _ h => h) (Or.inl ⟨by rfl, ?_⟩) (by assumption) ?_
                rotate_left
                · (intro w hSw; (try dsimp only at hSw); go_simp; (try with_reducible rfl))
                (try simp only [Act.put, List.setIfInBounds_toArray, List.set_cons_zero, List.set_cons_succ])
                refine take_d (i := 20) (d := 5) (v := ?_) rfl rfl (by kernel_rfl) (by kernel_rfl) (by kernel_rfl) (fun _ _ _ h => h) (Or.inl ⟨by rfl, ?_⟩) (by assumption) ?_
                rotate_left
                · (intro w hSw; (try dsimp only at hSw); go_simp; (try with_reducible rfl))
                (try simp only [Act.put, List.setIfInBounds_toArray, List.set_cons_zero, List.set_cons_succ])
                refine wpAnyH_done (by kernel_rfl) ?_ _
                go_wp2
                go_ret2
                exact ⟨r, px, rfl, HN.out, by (repeat' (first | (with_reducible assumption) | (with_reducible exact Wb.Ext.refl _) | (with_reducible refine Wb.Ext.drew ?_) | (with_reducible refine Wb.Ext.drewN ?_ _) | (with_reducible refine Wb.Ext.alloc ?_ _) | (with_reducible refine Wb.Ext.trans ?_ (by assumption))))⟩
              exact AllReadyH.nil
            exact AllReadyH.nil
          exact AllReadyH.nil
        exact AllReadyH.nil
      exact AllReadyH.nil

    · have HN := Lib.hid (NextIs.bad (A := A) hc (by rw [hq]; exact hq0))
      have e0 : (q == 0) = false := by simpa using hq0
      clear hc hq hq0
      go_wp2_with fail
      refine wp_region_held_drew (S := (fun w' => w'.cell? ⟨w.heap.size, 0, none⟩ = some (.slice ao A.length c) ∧ w'.cell? ⟨w.heap.size, 1, none⟩ = some (.int .u64 (m : Int)))) (by kernel_rfl) ⟨Wb.Ext.keep (w := w1) (by (repeat' (first | (with_reducible assumption) | (with_reducible exact Wb.Ext.refl _) | (with_reducible refine Wb.Ext.drew ?_) | (with_reducible refine Wb.Ext.drewN ?_ _) | (with_reducible refine Wb.Ext.alloc ?_ _) | (with_reducible refine Wb.Ext.trans ?_ (by assumption))))) q0, Wb.Ext.keep (w := w1) (by (repeat' (first | (with_reducible assumption) | (with_reducible exact Wb.Ext.refl _) | (with_reducible refine Wb.Ext.drew ?_) | (with_reducible refine Wb.Ext.drewN ?_ _) | (with_reducible refine Wb.Ext.alloc ?_ _) | (with_reducible refine Wb.Ext.trans ?_ (by assumption))))) q1⟩ (fun hHeld => ?_)
      refine take_d (i := 0) (d := 16) (v := ?_) rfl rfl (by kernel_rfl) (by kernel_rfl) (by kernel_rfl) (fun _ _ _ h => h) (Or.inl ⟨by rfl, ?_⟩) (by assumption) ?_
      rotate_left
      · (intro w hSw; (try dsimp only at hSw); go_simp; (try with_reducible rfl))
      (try simp only [Act.put, List.setIfInBounds_toArray, List.set_cons_zero, List.set_cons_succ])
      refine take_d (i := 1) (d := 17) (v := ?_) rfl rfl (by kernel_rfl) (by kernel_rfl) (by kernel_rfl) (fun _ _ _ h => h) (Or.inl ⟨by rfl, ?_⟩) (by assumption) ?_
      rotate_left
      · (intro w hSw; (try dsimp only at hSw); go_simp; (try with_reducible rfl))
      (try simp only [Act.put, List.setIfInBounds_toArray, List.set_cons_zero, List.set_cons_succ])
      refine take_d (i := 2) (d := 18) (v := ?_) rfl rfl (by kernel_rfl) (by kernel_rfl) (by kernel_rfl) (fun _ _ _ h => h) (Or.inl ⟨by rfl, ?_⟩) (by assumption) ?_
      rotate_left
      · (intro w hSw; (try dsimp only at hSw); go_simp; (try with_reducible rfl))
      (try simp only [Act.put, List.setIfInBounds_toArray, List.set_cons_zero, List.set_cons_succ])
      refine wpAnyH_ready (rs := [3]) (by kernel_rfl) (by simp) ?_
      refine AllReadyH.cons (o := _) rfl (fun K hK => ?_) ?_
      · go_simp
        go_at_call 27
        go_fit (wrong_any (.slice ao A.length c) A m r _ (HS.out.ext (by (repeat' (first | (with_reducible assumption) | (with_reducible exact Wb.Ext.refl _) | (with_reducible refine Wb.Ext.drew ?_) | (with_reducible refine Wb.Ext.drewN ?_ _) | (with_reducible refine Wb.Ext.alloc ?_ _) | (with_reducible refine Wb.Ext.trans ?_ (by assumption)))))) (by omega))
        rintro e w2 ⟨rfl, hb2⟩
        rw [HQ.out]
        refine hK.out _ _ ⟨Wb.Ext.keep (w := w1) (by (repeat' (first | (with_reducible assumption) | (with_reducible exact Wb.Ext.refl _) | (with_reducible refine Wb.Ext.drew ?_) | (with_reducible refine Wb.Ext.drewN ?_ _) | (with_reducible refine Wb.Ext.alloc ?_ _) | (with_reducible refine Wb.Ext.trans ?_ (by assumption))))) q0, Wb.Ext.keep (w := w1) (by (repeat' (first | (with_reducible assumption) | (with_reducible exact Wb.Ext.refl _) | (with_reducible refine Wb.Ext.drew ?_) | (with_reducible refine Wb.Ext.drewN ?_ _) | (with_reducible refine Wb.Ext.alloc ?_ _) | (with_reducible refine Wb.Ext.trans ?_ (by assumption))))) q1⟩ (fun hHeld => ?_)
        clear hK K
        (try simp only [Act.put, List.setIfInBounds_toArray, List.set_cons_zero, List.set_cons_succ])
        refine take_d (i := 4) (d := 20) (v := ?_) rfl rfl (by kernel_rfl) (by kernel_rfl) (by kernel_rfl) (fun _ _ _ h => h) (Or.inl ⟨by rfl, ?_⟩) (by assumption) ?_
        rotate_left
        · (intro w hSw; (try dsimp only at hSw); go_simp; (try with_reducible rfl))
        (try simp only [Act.put, List.setIfInBounds_toArray, List.set_cons_zero, List.set_cons_succ])
        refine take_d (i := 5) (d := 21) (v := ?_) rfl rfl (by kernel_rfl) (by kernel_rfl) (by kernel_rfl) (fun _ _ _ h => h) (Or.inl ⟨by rfl, ?_⟩) (by assumption) ?_
        rotate_left
        · (intro w hSw; (try dsimp only at hSw); go_simp; (try with_reducible rfl))
        (try simp only [Act.put, List.setIfInBounds_toArray, List.set_cons_zero, List.set_cons_succ])
        refine take_d (i := 6) (d := 22) (v := undef) rfl rfl (by kernel_rfl) (by kernel_rfl) (by kernel_rfl) (fun _ _ _ h => h) (Or.inr ⟨by rfl, rfl⟩) (by assumption) ?_
        (try simp only [Act.put, List.setIfInBounds_toArray, List.set_cons_zero, List.set_cons_succ])
        refine take_d (i := 7) (d := 23) (v := undef) rfl rfl (by kernel_rfl) (by kernel_rfl) (by kernel_rfl) (fun _ _ _ h => h) (Or.inr ⟨by rfl, rfl⟩) (by assumption) ?_
        (try simp only [Act.put, List.setIfInBounds_toArray, List.set_cons_zero, List.set_cons_succ])
        refine take_d (i := 8) (d := 24) (v := undef) rfl rfl (by kernel_rfl) (by kernel_rfl) (by kernel_rfl) (fun _ _ _ h => h) (Or.inr ⟨by rfl, rfl⟩) (by assumption) ?_
        (try simp only [Act.put, List.setIfInBounds_toArray, List.set_cons_zero, List.set_cons_succ])
        refine take_d (i := 9) (d := 25) (v := undef) rfl rfl (by kernel_rfl) (by kernel_rfl) (by kernel_rfl) (fun _ _ _ h => h) (Or.inr ⟨by rfl, rfl⟩) (by assumption) ?_
        (try simp only [Act.put, List.setIfInBounds_toArray, List.set_cons_zero, List.set_cons_succ])
        refine take_d (i := 10) (d := 26) (v := undef) rfl rfl (by kernel_rfl) (by kernel_rfl) (by kernel_rfl) (fun _ _ _ h => h) (Or.inr ⟨by rfl, rfl⟩) (by assumption) ?_
        (try simp only [Act.put, List.setIfInBounds_toArray, List.set_cons_zero, List.set_cons_succ])
        refine take_d (i := 11) (d := 27) (v := undef) rfl rfl (by kernel_rfl) (by kernel_rfl) (by kernel_rfl) (fun _ _ _ h => h) (Or.inr ⟨by rfl, rfl⟩) (by assumption) ?_
        (try simp only [Act.put, List.setIfInBounds_toArray, List.set_cons_zero, List.set_cons_succ])
        refine take_d (i := 12) (d := 28) (v := undef) rfl rfl (by kernel_rfl) (by kernel_rfl) (by kernel_rfl) (fun _ _ _ h => h) (Or.inr ⟨by rfl, rfl⟩) (by assumption) ?_
        (try simp only [Act.put, List.setIfInBounds_toArray, List.set_cons_zero, List.set_cons_succ])
        refine take_d (i := 13) (d := 29) (v := undef) rfl rfl (by kernel_rfl) (by kernel_rfl) (by kernel_rfl) (fun _ _ _ h => h) (Or.inr ⟨by rfl, rfl⟩) (by assumption) ?_
        (try simp only [Act.put, List.setIfInBounds_toArray, List.set_cons_zero, List.set_cons_succ])
        refine take_d (i := 14) (d := 30) (v := undef) rfl rfl (by kernel_rfl) (by kernel_rfl) (by kernel_rfl) (fun _ _ _ h => h) (Or.inr ⟨by rfl, rfl⟩) (by assumption) ?_
        (try simp only [Act.put, List.setIfInBounds_toArray, List.set_cons_zero, List.set_cons_succ])
        refine take_d (i := 15) (d := 31) (v := undef) rfl rfl (by kernel_rfl) (by kernel_rfl) (by kernel_rfl) (fun _ _ _ h => h) (Or.inr ⟨by rfl, rfl⟩) (by assumption) ?_
        (try simp only [Act.put, List.setIfInBounds_toArray, List.set_cons_zero, List.set_cons_succ])
        refine take_d (i := 16) (d := 32) (v := undef) rfl rfl (by kernel_rfl) (by kernel_rfl) (by kernel_rfl) (fun _ _ _ h => h) (Or.inr ⟨by rfl, rfl⟩) (by assumption) ?_
        (try simp only [Act.put, List.setIfInBounds_toArray, List.set_cons_zero, List.set_cons_succ])
        refine take_d (i := 17) (d := 33) (v := undef) rfl rfl (by kernel_rfl) (by kernel_rfl) (by kernel_rfl) (fun _ _ _ h => h) (Or.inr ⟨by rfl, rfl⟩) (by assumption) ?_
        (try simp only [Act.put, List.setIfInBounds_toArray, List.set_cons_zero, List.set_cons_succ])
        refine take_d (i := 18) (d := 34) (v := ?_) rfl rfl (by kernel_rfl) (by kernel_rfl) (by kernel_rfl) (fun _ _ _ h => h) (Or.inl ⟨by rfl, ?_⟩) (by assumption) ?_
        rotate_left
        · (intro w hSw; (try dsimp only at hSw); go_simp; (try with_reducible rfl))
        (try simp only [Act.put, List.setIfInBounds_toArray, List.set_cons_zero, List.set_cons_succ])
        refine take_d (i := 19) (d := 4) (v := ?_) rfl rfl (by kernel_rfl) (by kernel_rfl) (by kernel_rfl) (fun _ _ _ h => h) (Or.inl ⟨by rfl, ?_⟩) (by assumption) ?_
        rotate_left
        · (intro w hSw; (try dsimp only at hSw); go_simp; (try with_reducible rfl))
        (try simp only [Act.put, List.setIfInBounds_toArray, List.set_cons_zero, List.set_cons_succ])
        refine take_d (i := 20) (d := 5) (v := ?_) rfl rfl (by kernel_rfl) (by kernel_rfl) (by kernel_rfl) (fun _ _ _ h => h) (Or.inl ⟨by rfl, ?_⟩) (by assumption) ?_
        rotate_left
        · (intro w hSw; (try dsimp only at hSw); go_simp; (try with_reducible rfl))
        (try simp only [Act.put, List.setIfInBounds_toArray, List.set_cons_zero, List.set_cons_succ])
        refine wpAnyH_done (by kernel_rfl) ?_ _
        go_wp2
        go_ret2
        exact ⟨r, false, rfl, HN.out, by (repeat' (first | (with_reducible assumption) | (with_reducible exact Wb.Ext.refl _) | (with_reducible refine Wb.Ext.drew ?_) | (with_reducible refine Wb.Ext.drewN ?_ _) | (with_reducible refine Wb.Ext.alloc ?_ _) | (with_reducible refine Wb.Ext.trans ?_ (by assumption))))⟩
      exact AllReadyH.nil

end Go.Proofs.YtokdmojbffnfgaaDoor
