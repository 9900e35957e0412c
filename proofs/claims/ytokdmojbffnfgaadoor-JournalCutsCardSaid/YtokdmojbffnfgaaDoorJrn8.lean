/- The walks of package journal: Append. -/
import Derived.Test.YtokdmojbffnfgaaDoorJrn7
import Derived.Test.YtokdmojbffnfgaaDoorPlain38b
import Derived.Deep.RegionHeld3
import Derived.Deep.RegionLawGrows
import Derived.Deep.AppendLies
import Derived.Deep.DrawnRows
namespace Go.Proofs.YtokdmojbffnfgaaDoor
open Go.RowKit
set_option maxRecDepth 4000
attribute [local go_sem ↓] Go.wp_at_zero Go.wp_at_succ

/-- texts behind a slice as a log holds them: nil, or a row with room for them -/
def Row38 (w : World) (v : Value) (l : List (List UInt8)) : Prop :=
  (l = [] ∧ v = .slice none 0 0) ∨ ∃ b c, v = .slice (some ⟨b, 0, none⟩) l.length c ∧ l.length ≤ c ∧ ∀ j s, l[j]? = some s → w.cell? ⟨b, j, none⟩ = some (.string (Wb.S s))
theorem Row38.ext {w w' : World} {v : Value} {l : List (List UInt8)} (h : Row38 w v l) (k : Wb.Ext w w') : Row38 w' v l := by
  rcases h with h | ⟨b, c, h1, h2, h3⟩
  · exact .inl h
  · exact .inr ⟨b, c, h1, h2, fun j s hj => k.keep (h3 j s hj)⟩
theorem Row38.strs {w : World} {v : Value} {l : List (List UInt8)} (h : Row38 w v l) : StrsN w v l := by
  rcases h with ⟨rfl, rfl⟩ | ⟨b, c, rfl, h2, h3⟩
  · exact ⟨.inl ⟨rfl, _, _, rfl⟩, .inl rfl⟩
  · refine ⟨.inr ⟨b, 0, c, rfl, fun j s hj i u hu => ?_⟩, .inr ⟨_, _, _, rfl⟩⟩
    match i, hu with
    | 0, hu => simp [strc] at hu; subst hu; rw [Nat.zero_add, Nat.mul_one, Nat.add_zero]; exact h3 j s hj
    | i + 1, hu => simp [strc] at hu
theorem Row38.shape {w : World} {v : Value} {l : List (List UInt8)} (h : Row38 w v l) : ∃ ao c, v = .slice ao l.length c ∧ l.length ≤ c ∧ (ao = none → l.length = 0 ∧ c = 0) ∧ ∀ b, ao = some b → ∀ j u, (rowsOf strc l)[j]? = some u → w.cell? (b.add j) = some u := by
  rcases h with ⟨rfl, rfl⟩ | ⟨b, c, rfl, h2, h3⟩
  · exact ⟨none, 0, rfl, Nat.le_refl _, fun _ => ⟨rfl, rfl⟩, fun b h => by cases h⟩
  · refine ⟨_, c, rfl, h2, fun h => by (cases h), fun b' hb j u hj => ?_⟩
    obtain rfl := Option.some.inj hb
    have hj2 : j < l.length := by
      have := (List.getElem?_eq_some_iff.1 hj).1
      rwa [rowsOf_length strc_len, Nat.mul_one] at this
    obtain ⟨s, hs⟩ := Wb.get_ex hj2
    have h4 := rowsOf_get strc_len (l := l) (j := j) (x := s) hs 0 (by decide)
    rw [Nat.mul_one, Nat.add_zero, hj] at h4
    have h5 : u = .string (Wb.S s) := by simpa [strc] using h4
    subst h5
    have e : (⟨b, 0, none⟩ : Addr).add j = ⟨b, j, none⟩ := by
      by_cases hj0 : j = 0
      · subst hj0; simp [Addr.add]
      · simp [Addr.add, hj0]
    rw [e]; exact h3 j s hs
theorem Row38.of_row {w : World} {base e n : Nat} {v : Value} {l : List (List UInt8)} (h : w.ownsRow base e 1 v n (rowsOf strc l)) (hl : l ≠ []) : Row38 w v l := by
  have hn : n = l.length := by
    have := h.1
    rw [rowsOf_length strc_len] at this; omega
  subst hn
  have hne : v ≠ .slice none 0 0 := by
    rintro rfl
    obtain ⟨_, h2 | ⟨g, cap, cur, hv, _⟩⟩ := h
    · exact hl (List.length_eq_zero_iff.1 h2.2)
    · cases hv
  obtain ⟨_, h2 | ⟨g, cap, cur, hv, hb, hg, hc, hm, _, hx⟩⟩ := id h
  · exact absurd h2.1 hne
  obtain ⟨g', cap', hv', _, _, _, hcell⟩ := Wb.ownsRow_at h hne
  rw [hv] at hv'; cases hv'
  refine .inr ⟨g, cap, hv, hc, fun j s hj => ?_⟩
  have h4 := rowsOf_get strc_len (l := l) (j := j) (x := s) hj 0 (by decide)
  rw [Nat.mul_one, Nat.add_zero] at h4
  exact hcell j _ (h4.trans rfl)

theorem Row38.of_row_far {w w' : World} {base e n : Nat} {v : Value} {l : List (List UInt8)} (h : w.ownsRow base e 1 v n (rowsOf strc l)) (hl : l ≠ []) (hk : ∀ b o u, base ≤ b → w.cell? ⟨b, o, none⟩ = some u → w'.cell? ⟨b, o, none⟩ = some u) : Row38 w' v l := by
  have hne : v ≠ .slice none 0 0 := by
    rintro rfl
    obtain ⟨h1, h2 | ⟨g, cap, cur, hv, _⟩⟩ := h
    · rw [rowsOf_length strc_len, h2.2] at h1
      exact hl (List.length_eq_zero_iff.1 (by omega))
    · cases hv
  obtain ⟨g', cap', hv', hb', _, _, _⟩ := Wb.ownsRow_at h hne
  rcases Row38.of_row h hl with ⟨h0, _⟩ | ⟨b, c, h1, h2, h3⟩
  · exact absurd h0 hl
  · refine .inr ⟨b, c, h1, h2, fun j s hj => hk b j _ ?_ (h3 j s hj)⟩
    rw [hv'] at h1; cases h1; exact hb'

/-- a log in memory -/
def LogV (w : World) (v : Value) (A : List (List UInt8)) : Prop := ∃ u m, v = .agg #[u, .int .u64 ((m : Nat) : Int)] ∧ Row38 w u A ∧ (A ≠ [] → m = Wb.marksL Wb.mfirst A)
theorem LogV.ext {w w' : World} {v : Value} {A : List (List UInt8)} (h : LogV w v A) (k : Wb.Ext w w') : LogV w' v A := by
  obtain ⟨u, m, h1, h2, h3⟩ := h
  exact ⟨u, m, h1, h2.ext k, h3⟩
theorem LogV.zero {w : World} : LogV w (.agg #[.slice none 0 0, .int .u64 0]) [] := ⟨_, 0, rfl, .inl ⟨rfl, rfl⟩, fun h => absurd rfl h⟩
theorem wrong_ok {k : Nat} {a : List UInt8} : wrongOf k a = 0 ↔ Wb.okA k a := by
  unfold wrongOf Wb.okA
  by_cases h1 : a = []
  · simp [h1]
  by_cases h2 : 4096 < a.length
  · simp [h1, h2]; omega
  by_cases h3 : (10 : UInt8) ∈ a
  · simp [h1, h2, h3]
  by_cases h4 : 8192 ≤ k
  · simp [h1, h2, h3, h4]
  · simp [h1, h2, h3, h4]; omega

theorem append_no (v : Value) (A : List (List UInt8)) (a : List UInt8) (w : World) (hv : LogV w v A) (ha : a.length ≤ 4611686018427387904) (hw : wrongOf A.length a ≠ 0) :
    Calls Tryd.prog 11 #[v, .string (Wb.S a)] w fun e w' => e = .returned (.tuple #[v, .int .i64 (wrongOf A.length a)]) ∧ Wb.Ext w w' := by
  obtain ⟨u, m, rfl, hr, _⟩ := hv
  obtain ⟨ao, c, rfl, _, _, _⟩ := hr.shape
  have hS := hr.strs.1
  obtain ⟨q, hq⟩ : ∃ q, wrongOf A.length a = q := ⟨_, rfl⟩
  rw [hq] at hw ⊢
  have HQ := Lib.hid hq
  have HS := Lib.hid hS
  have e0 : (q == 0) = false := by simpa using hw
  have e1 : (q != 0) = true := by simpa using hw
  clear hq hw hS hr
  go_enter Tryd.func11, Tryd.ntmps11
  go_wp2_with fail
  refine (wrong_any _ A m a _ (HS.out.ext (by (repeat' (first | (with_reducible assumption) | (with_reducible exact Wb.Ext.refl _) | (with_reducible refine Wb.Ext.drew ?_) | (with_reducible refine Wb.Ext.drewN ?_ _) | (with_reducible refine Wb.Ext.alloc ?_ _) | (with_reducible refine Wb.Ext.trans ?_ (by assumption)))))) ha).mono ?_; rintro e w1 ⟨rfl, hb⟩
  rw [HQ.out]
  have q0 : w1.cell? ⟨w.heap.size, 0, none⟩ = some (.slice ao A.length c) := hb.keep (by simp [go_sem])
  have q1 : w1.cell? ⟨w.heap.size, 1, none⟩ = some (.int .u64 m) := hb.keep (by simp [go_sem])
  have q2 : w1.cell? ⟨w.heap.size + 1, 0, none⟩ = some (.slice none 0 0) := hb.keep (by simp [go_sem])
  have q3 : w1.cell? ⟨w.heap.size + 1, 1, none⟩ = some (.int .u64 0) := hb.keep (by simp [go_sem])
  have qf : ∀ j, w1.frozen? ⟨w.heap.size + 1, j, none⟩ = false := fun j => (Below.frozen hb (by simp)).trans (by simp [go_sem])
  have he1 : Wb.Ext w w1 := by (repeat' (first | (with_reducible assumption) | (with_reducible exact Wb.Ext.refl _) | (with_reducible refine Wb.Ext.drew ?_) | (with_reducible refine Wb.Ext.drewN ?_ _) | (with_reducible refine Wb.Ext.alloc ?_ _) | (with_reducible refine Wb.Ext.trans ?_ (by assumption))))
  clear hb
  go_wp2
  refine bodyPost_ret (v := .tuple #[.agg #[.slice ao A.length c, .int .u64 m], .int .i64 q]) (by simp [results, Tryd.results11, go_sem, q2, q3, qf]) rfl ⟨rfl, by (repeat' (first | (with_reducible assumption) | (with_reducible exact Wb.Ext.refl _) | (with_reducible refine Wb.Ext.drew ?_) | (with_reducible refine Wb.Ext.drewN ?_ _) | (with_reducible refine Wb.Ext.alloc ?_ _) | (with_reducible refine Wb.ext_set ?_ (by first | assumption | (simp; done) | (simp; omega) | omega) _) | (with_reducible refine Wb.Ext.trans ?_ (by assumption))))⟩

--MARK append_ok
theorem Row38.at_cells {w : World} {b n c : Nat} {l : List (List UInt8)} (h : Row38 w (.slice (some ⟨b, 0, none⟩) n c) l) (j : Nat) (u : Value) (hj : (rowsOf strc l)[j]? = some u) : w.cell? ((⟨b, 0, none⟩ : Addr).add j) = some u := by
  obtain ⟨ao, c', e, _, _, h4⟩ := h.shape
  cases e
  exact h4 _ rfl j u hj

/-- a take, the slot by its number: so that the state can be laid out behind it -/
theorem take_d {P : Program} {ops : Array Oper} {Q : Exit → Act → World → Prop} {md : Region.Mode} {S : World → Prop} {i d : Nat} {oi : Oper} {v : Value} {fuel : Nat} {listed : Array Bool} {a : Act} {w : World} (hi : ops[i]? = some oi) (hd : oi.dst = some d)
    (hs : Region.noSelect ops = true) (hf : Region.free md ops listed i = true) (hr : (Region.ready md ops listed).contains i = true)
    (hQ : ∀ c a w, Q (.panic c) (a.put (some d) v) w → Q (.panic c) a w) (hy : YieldsIf P ops S oi v a) (hS : S w)
    (h : wpAnyH P md ops Q S fuel (listed.setIfInBounds i true) (a.put (some d) v) w) : wpAnyH P md ops Q S (fuel + 1) listed a w := by
  rw [← hd] at hQ h
  exact wpAnyH_take hi hs hf hr hQ hy hS h
set_option maxHeartbeats 1000000 in
theorem append_first (a : List UInt8) (m M0 M1 : Nat) (w : World)  (ha : a.length ≤ 4611686018427387904) (hw : wrongOf 0 a = 0)
    (hM0 : (if ([] : List (List UInt8)) = [] then Wb.mfirst else m : Nat) = M0) (hM0l : M0 < Wb.MM) (hM1 : Wb.mmark M0 a = M1) :
    Calls Tryd.prog 11 #[.agg #[.slice none 0 0, .int .u64 (m : Int)], .string (Wb.S a)] w fun e w' => ∃ u, e = .returned (.tuple #[.agg #[u, .int .u64 (M1 : Int)], .int .i64 0]) ∧ Row38 w' u ([a]) ∧ (∀ k, u.ownBlock = some k → w.heap.size ≤ k) ∧ Wb.Ext w w' := by
  obtain ⟨i0, hi, hz0, hz1, hz2⟩ := info_parts infoStr
  have HIN := Lib.hid (show Tryd.prog.info? 9 = some i0 ∧ i0.zero = some (.string "".toUTF8) ∧ i0.size = 1 ∧ i0.bytes = 16 from ⟨hi, hz0, hz1, hz2⟩)
  clear hi hz0 hz1 hz2
  have hv : Row38 w (.slice none 0 0) [] := .inl ⟨rfl, rfl⟩
  have HS := Lib.hid hv.strs.1
  have HW := Lib.hid hw
  have HM0 := Lib.hid hM0l
  have HM1 := Lib.hid hM1
  have HC : Hid (∀ w', Wb.Ext w w' → Calls Tryd.prog 14 #[.agg #[.slice none 0 0, .int .u64 (m : Int)]] w' fun e w'' => e = .returned (.int .u64 (M0 : Int)) ∧ Wb.Ext w' w'') := fun w' k => by
    have := lmark_any _ [] m _ (HS.out.ext k)
    rw [hM0] at this; exact this
  clear hv hw hM0l hM1 hM0
  skip
  skip
  go_enter Tryd.func11, Tryd.ntmps11
  go_wp2_with fail
  refine (wrong_any _ [] m a _ (HS.out.ext (by (repeat' (first | (with_reducible assumption) | (with_reducible exact Wb.Ext.refl _) | (with_reducible refine Wb.Ext.drew ?_) | (with_reducible refine Wb.Ext.drewN ?_ _) | (with_reducible refine Wb.Ext.alloc ?_ _) | (with_reducible refine Wb.Ext.trans ?_ (by assumption)))))) ha).mono ?_; rintro e w1 ⟨rfl, hb⟩
  rw [show wrongOf (List.length []) a = 0 from HW.out]
  have q0 : w1.cell? ⟨w.heap.size, 0, none⟩ = some (.slice none 0 0) := hb.keep (by simp [go_sem])
  have q1 : w1.cell? ⟨w.heap.size, 1, none⟩ = some (.int .u64 m) := hb.keep (by simp [go_sem])
  have q2 : w1.cell? ⟨w.heap.size + 1, 0, none⟩ = some (.slice none 0 0) := hb.keep (by simp [go_sem])
  have q3 : w1.cell? ⟨w.heap.size + 1, 1, none⟩ = some (.int .u64 0) := hb.keep (by simp [go_sem])
  have qf : ∀ j, w1.frozen? ⟨w.heap.size + 1, j, none⟩ = false := fun j => (Below.frozen hb (by simp)).trans (by simp [go_sem])
  have he1 : Wb.Ext w w1 := by (repeat' (first | (with_reducible assumption) | (with_reducible exact Wb.Ext.refl _) | (with_reducible refine Wb.Ext.drew ?_) | (with_reducible refine Wb.Ext.drewN ?_ _) | (with_reducible refine Wb.Ext.alloc ?_ _) | (with_reducible refine Wb.Ext.trans ?_ (by assumption))))
  clear hb
  go_wp2_with fail
  obtain ⟨hi, hz0, hz1, hz2⟩ := HIN.out
  refine wp_region_held_drew (S := (fun w' => w'.cell? ⟨w.heap.size, 0, none⟩ = some (.slice none 0 0) ∧ w'.cell? ⟨w.heap.size, 1, none⟩ = some (.int .u64 m))) (by kernel_rfl) ⟨Wb.Ext.keep (w := w1) (by (repeat' (first | (with_reducible assumption) | (with_reducible exact Wb.Ext.refl _) | (with_reducible refine Wb.Ext.drew ?_) | (with_reducible refine Wb.Ext.drewN ?_ _) | (with_reducible refine Wb.Ext.alloc ?_ _) | (with_reducible refine Wb.Ext.trans ?_ (by assumption))))) q0, Wb.Ext.keep (w := w1) (by (repeat' (first | (with_reducible assumption) | (with_reducible exact Wb.Ext.refl _) | (with_reducible refine Wb.Ext.drew ?_) | (with_reducible refine Wb.Ext.drewN ?_ _) | (with_reducible refine Wb.Ext.alloc ?_ _) | (with_reducible refine Wb.Ext.trans ?_ (by assumption))))) q1⟩ (fun hHeld => ?_)
  refine take_d (i := 0) (d := 18) (v := ?_) rfl rfl (by kernel_rfl) (by kernel_rfl) (by kernel_rfl) (fun _ _ _ h => h) (Or.inl ⟨by rfl, ?_⟩) (by assumption) ?_
  rotate_left
  · (intro w hSw; (try dsimp only at hSw); go_simp; (try with_reducible rfl))
  (try simp only [Act.put, List.setIfInBounds_toArray, List.set_cons_zero, List.set_cons_succ])
  refine take_d (i := 1) (d := 19) (v := ?_) rfl rfl (by kernel_rfl) (by kernel_rfl) (by kernel_rfl) (fun _ _ _ h => h) (Or.inl ⟨by rfl, ?_⟩) (by assumption) ?_
  rotate_left
  · (intro w hSw; (try dsimp only at hSw); go_simp; (try with_reducible rfl))
  (try simp only [Act.put, List.setIfInBounds_toArray, List.set_cons_zero, List.set_cons_succ])
  refine take_d (i := 2) (d := 20) (v := ?_) rfl rfl (by kernel_rfl) (by kernel_rfl) (by kernel_rfl) (fun _ _ _ h => h) (Or.inl ⟨by rfl, ?_⟩) (by assumption) ?_
  rotate_left
  · (intro w hSw; (try dsimp only at hSw); go_simp; (try with_reducible rfl))
  (try simp only [Act.put, List.setIfInBounds_toArray, List.set_cons_zero, List.set_cons_succ])
  refine take_d (i := 3) (d := 21) (v := ?_) rfl rfl (by kernel_rfl) (by kernel_rfl) (by kernel_rfl) (fun _ _ _ h => h) (Or.inl ⟨by rfl, ?_⟩) (by assumption) ?_
  rotate_left
  · (intro w hSw; (try dsimp only at hSw); go_simp; (try with_reducible rfl))
  (try simp only [Act.put, List.setIfInBounds_toArray, List.set_cons_zero, List.set_cons_succ])
  refine take_d (i := 4) (d := 22) (v := ?_) rfl rfl (by kernel_rfl) (by kernel_rfl) (by kernel_rfl) (fun _ _ _ h => h) (Or.inl ⟨by rfl, ?_⟩) (by assumption) ?_
  rotate_left
  · (intro w hSw; (try dsimp only at hSw); go_simp; (try with_reducible rfl))
  (try simp only [Act.put, List.setIfInBounds_toArray, List.set_cons_zero, List.set_cons_succ])
  refine take_d (i := 5) (d := 23) (v := ?_) rfl rfl (by kernel_rfl) (by kernel_rfl) (by kernel_rfl) (fun _ _ _ h => h) (Or.inl ⟨by rfl, ?_⟩) (by assumption) ?_
  rotate_left
  · (intro w hSw; (try dsimp only at hSw); go_simp; (try with_reducible rfl))
  (try simp only [Act.put, List.setIfInBounds_toArray, List.set_cons_zero, List.set_cons_succ])
  refine take_d (i := 8) (d := 26) (v := ?_) rfl rfl (by kernel_rfl) (by kernel_rfl) (by kernel_rfl) (fun _ _ _ h => h) (Or.inl ⟨by rfl, ?_⟩) (by assumption) ?_
  rotate_left
  · (intro w hSw; (try dsimp only at hSw); go_simp; (try with_reducible rfl))
  (try simp only [Act.put, List.setIfInBounds_toArray, List.set_cons_zero, List.set_cons_succ])
  refine take_d (i := 10) (d := 28) (v := ?_) rfl rfl (by kernel_rfl) (by kernel_rfl) (by kernel_rfl) (fun _ _ _ h => h) (Or.inl ⟨by rfl, ?_⟩) (by assumption) ?_
  rotate_left
  · (intro w hSw; (try dsimp only at hSw); go_simp; (try with_reducible rfl))
  (try simp only [Act.put, List.setIfInBounds_toArray, List.set_cons_zero, List.set_cons_succ])
  refine wpAnyH_ready (rs := [6]) (by kernel_rfl) (by simp) ?_
  refine AllReadyH.cons (o := _) rfl (fun K hK => ?_) ?_
  · go_simp
    refine hK.out _ _ ⟨Wb.Ext.keep (w := w1) (by (repeat' (first | (with_reducible assumption) | (with_reducible exact Wb.Ext.refl _) | (with_reducible refine Wb.Ext.drew ?_) | (with_reducible refine Wb.Ext.drewN ?_ _) | (with_reducible refine Wb.Ext.alloc ?_ _) | (with_reducible refine Wb.Ext.trans ?_ (by assumption))))) q0, Wb.Ext.keep (w := w1) (by (repeat' (first | (with_reducible assumption) | (with_reducible exact Wb.Ext.refl _) | (with_reducible refine Wb.Ext.drew ?_) | (with_reducible refine Wb.Ext.drewN ?_ _) | (with_reducible refine Wb.Ext.alloc ?_ _) | (with_reducible refine Wb.Ext.trans ?_ (by assumption))))) q1⟩ (fun hHeld => ?_)
    clear hK K
    (try simp only [Act.put, List.setIfInBounds_toArray, List.set_cons_zero, List.set_cons_succ])
    refine wpAnyH_ready (rs := [7]) (by kernel_rfl) (by simp) ?_
    refine AllReadyH.cons (o := _) rfl (fun K hK => ?_) ?_
    · refine step_append_grows (by rfl) _ _ 22 (by rfl) 9 i0 (.string "".toUTF8) 1 16 Tryd.underlying22 hi hz0 hz1 hz2 (by rfl) (by decide) none 0 0 [] (by rfl) (fun _ => ⟨rfl, rfl⟩) (by rfl) (fun b' hb' => by cases hb') _ 1 _ [.string (Wb.S a)] (by rfl) (by rfl) (World.news_of_block (heap_alloc_new _ _)) (by intro u hu; simp at hu; subst hu; rfl) (by omega) (by unfold maxLen; omega) (by omega) ?_
      intro v' w2 hown hgrow
      have he2 : Wb.Ext w1 w2 := Wb.Ext.grown (by (repeat' (first | (with_reducible assumption) | (with_reducible exact Wb.Ext.refl _) | (with_reducible refine Wb.Ext.drew ?_) | (with_reducible refine Wb.Ext.drewN ?_ _) | (with_reducible refine Wb.Ext.alloc ?_ _) | (with_reducible refine Wb.Ext.trans ?_ (by assumption))))) hgrow (fun q hq => by cases hq)
      have HV2 := Lib.hid (fun w' hk => Row38.of_row_far (l := [a]) (w' := w') hown (by simp) hk)
      have HFR := Lib.hid (show ∀ k, v'.ownBlock = some k → w1.heap.size ≤ k from fun k hk => by have := (hown.lt k hk).1; simp at this; omega)
      obtain ⟨b2, c2, rfl⟩ := row_shape hown
      clear hown hgrow
      refine hK.out _ _ ⟨Wb.Ext.keep (w := w1) (by (repeat' (first | (with_reducible assumption) | (with_reducible exact Wb.Ext.refl _) | (with_reducible refine Wb.Ext.drew ?_) | (with_reducible refine Wb.Ext.drewN ?_ _) | (with_reducible refine Wb.Ext.alloc ?_ _) | (with_reducible refine Wb.Ext.trans ?_ (by assumption))))) q0, Wb.Ext.keep (w := w1) (by (repeat' (first | (with_reducible assumption) | (with_reducible exact Wb.Ext.refl _) | (with_reducible refine Wb.Ext.drew ?_) | (with_reducible refine Wb.Ext.drewN ?_ _) | (with_reducible refine Wb.Ext.alloc ?_ _) | (with_reducible refine Wb.Ext.trans ?_ (by assumption))))) q1⟩ (fun hHeld => ?_)
      clear hK K
      (try simp only [Act.put, List.setIfInBounds_toArray, List.set_cons_zero, List.set_cons_succ])
      refine wpAnyH_ready (rs := [9]) (by kernel_rfl) (by simp) ?_
      refine AllReadyH.cons (o := _) rfl (fun K hK => ?_) ?_
      · go_simp
        go_at_call 14
        go_fit (HC.out _ (by (repeat' (first | (with_reducible assumption) | (with_reducible exact Wb.Ext.refl _) | (with_reducible refine Wb.Ext.drew ?_) | (with_reducible refine Wb.Ext.drewN ?_ _) | (with_reducible refine Wb.Ext.alloc ?_ _) | (with_reducible refine Wb.Ext.trans ?_ (by assumption))))))
        rintro e w3 ⟨rfl, hb3⟩
        refine hK.out _ _ ⟨Wb.Ext.keep (w := w1) (by (repeat' (first | (with_reducible assumption) | (with_reducible exact Wb.Ext.refl _) | (with_reducible refine Wb.Ext.drew ?_) | (with_reducible refine Wb.Ext.drewN ?_ _) | (with_reducible refine Wb.Ext.alloc ?_ _) | (with_reducible refine Wb.Ext.trans ?_ (by assumption))))) q0, Wb.Ext.keep (w := w1) (by (repeat' (first | (with_reducible assumption) | (with_reducible exact Wb.Ext.refl _) | (with_reducible refine Wb.Ext.drew ?_) | (with_reducible refine Wb.Ext.drewN ?_ _) | (with_reducible refine Wb.Ext.alloc ?_ _) | (with_reducible refine Wb.Ext.trans ?_ (by assumption))))) q1⟩ (fun hHeld => ?_)
        clear hK K
        (try simp only [Act.put, List.setIfInBounds_toArray, List.set_cons_zero, List.set_cons_succ])
        refine wpAnyH_ready (rs := [11]) (by kernel_rfl) (by simp) ?_
        refine AllReadyH.cons (o := _) rfl (fun K hK => ?_) ?_
        · go_simp
          go_at_call 28
          go_fit (mark_any M0 a HM0.out ha _)
          rintro e w4 ⟨rfl, rfl⟩
          rw [HM1.out]
          have q2' := Wb.Ext.keep (w' := w3) (by (repeat' (first | (with_reducible assumption) | (with_reducible exact Wb.Ext.refl _) | (with_reducible refine Wb.Ext.drew ?_) | (with_reducible refine Wb.Ext.drewN ?_ _) | (with_reducible refine Wb.Ext.alloc ?_ _) | (with_reducible refine Wb.Ext.trans ?_ (by assumption))))) q2
          have q3' := Wb.Ext.keep (w' := w3) (by (repeat' (first | (with_reducible assumption) | (with_reducible exact Wb.Ext.refl _) | (with_reducible refine Wb.Ext.drew ?_) | (with_reducible refine Wb.Ext.drewN ?_ _) | (with_reducible refine Wb.Ext.alloc ?_ _) | (with_reducible refine Wb.Ext.trans ?_ (by assumption))))) q3
          have qf' : ∀ j, w3.frozen? ⟨w.heap.size + 1, j, none⟩ = false := fun j => (Below.frozen (show Wb.Ext w1 w3 from by (repeat' (first | (with_reducible assumption) | (with_reducible exact Wb.Ext.refl _) | (with_reducible refine Wb.Ext.drew ?_) | (with_reducible refine Wb.Ext.drewN ?_ _) | (with_reducible refine Wb.Ext.alloc ?_ _) | (with_reducible refine Wb.Ext.trans ?_ (by assumption))))) (Wb.cell_size q2)).trans (qf j)
          have q0' := Wb.Ext.keep (w' := w3) (by (repeat' (first | (with_reducible assumption) | (with_reducible exact Wb.Ext.refl _) | (with_reducible refine Wb.Ext.drew ?_) | (with_reducible refine Wb.Ext.drewN ?_ _) | (with_reducible refine Wb.Ext.alloc ?_ _) | (with_reducible refine Wb.Ext.trans ?_ (by assumption))))) q0
          have q1' := Wb.Ext.keep (w' := w3) (by (repeat' (first | (with_reducible assumption) | (with_reducible exact Wb.Ext.refl _) | (with_reducible refine Wb.Ext.drew ?_) | (with_reducible refine Wb.Ext.drewN ?_ _) | (with_reducible refine Wb.Ext.alloc ?_ _) | (with_reducible refine Wb.Ext.trans ?_ (by assumption))))) q1
          refine hK.out _ _ ⟨Wb.Ext.keep (w := w1) (by (repeat' (first | (with_reducible assumption) | (with_reducible exact Wb.Ext.refl _) | (with_reducible refine Wb.Ext.drew ?_) | (with_reducible refine Wb.Ext.drewN ?_ _) | (with_reducible refine Wb.Ext.alloc ?_ _) | (with_reducible refine Wb.Ext.trans ?_ (by assumption))))) q0, Wb.Ext.keep (w := w1) (by (repeat' (first | (with_reducible assumption) | (with_reducible exact Wb.Ext.refl _) | (with_reducible refine Wb.Ext.drew ?_) | (with_reducible refine Wb.Ext.drewN ?_ _) | (with_reducible refine Wb.Ext.alloc ?_ _) | (with_reducible refine Wb.Ext.trans ?_ (by assumption))))) q1⟩ (fun hHeld => ?_)
          clear hK K
          (try simp only [Act.put, List.setIfInBounds_toArray, List.set_cons_zero, List.set_cons_succ])
          refine take_d (i := 12) (d := 30) (v := ?_) rfl rfl (by kernel_rfl) (by kernel_rfl) (by kernel_rfl) (fun _ _ _ h => h) (Or.inl ⟨by rfl, ?_⟩) (by assumption) ?_
          rotate_left
          · (intro w hSw; (try dsimp only at hSw); go_simp; (try with_reducible rfl))
          (try simp only [Act.put, List.setIfInBounds_toArray, List.set_cons_zero, List.set_cons_succ])
          refine wpAnyH_ready (rs := [13]) (by kernel_rfl) (by simp) ?_
          refine AllReadyH.cons (o := _) rfl (fun K hK => ?_) ?_
          · go_simp
            refine hK.out _ _ ⟨by first | assumption | simpa [go_sem] using q0' | simp [go_sem, q0'], by first | assumption | simpa [go_sem] using q1' | simp [go_sem, q1']⟩ (fun hHeld => ?_)
            clear hK K
            (try simp only [Act.put, List.setIfInBounds_toArray, List.set_cons_zero, List.set_cons_succ])
            refine take_d (i := 14) (d := 5) (v := ?_) rfl rfl (by kernel_rfl) (by kernel_rfl) (by kernel_rfl) (fun _ _ _ h => h) (Or.inl ⟨by rfl, ?_⟩) (by assumption) ?_
            rotate_left
            · (intro w hSw; (try dsimp only at hSw); go_simp; (try with_reducible rfl))
            (try simp only [Act.put, List.setIfInBounds_toArray, List.set_cons_zero, List.set_cons_succ])
            refine wpAnyH_done (by kernel_rfl) ?_ _
            go_wp2
            refine bodyPost_ret (v := .tuple #[.agg #[.slice b2 (0 + 1) c2, .int .u64 (M1 : Int)], .int .i64 0]) (by simp [results, Tryd.results11, go_sem, q2', q3', qf']) rfl ⟨_, rfl, ?_, fun k hk => Nat.le_trans he1.size (HFR.out k hk), by (repeat' (first | (with_reducible assumption) | (with_reducible exact Wb.Ext.refl _) | (with_reducible refine Wb.Ext.drew ?_) | (with_reducible refine Wb.Ext.drewN ?_ _) | (with_reducible refine Wb.Ext.alloc ?_ _) | (with_reducible refine Wb.ext_set ?_ (by first | assumption | (simp; done) | (simp; omega) | omega) _) | (with_reducible refine Wb.Ext.trans ?_ (by assumption))))⟩
            refine HV2.out _ fun b o u hb hu => ?_
            have hlt := Wb.cell_size q2
            have hne : ¬ w.heap.size + 1 = b := by simp at hb; omega
            have hu3 := hb3.keep hu
            simpa [go_sem, hne] using hu3
          exact AllReadyH.nil
        exact AllReadyH.nil
      exact AllReadyH.nil
    exact AllReadyH.nil
  exact AllReadyH.nil

set_option maxHeartbeats 1000000 in
theorem append_row (A : List (List UInt8)) (a : List UInt8) (m b c M0 M1 : Nat) (w : World) (hv : Row38 w (.slice (some ⟨b, 0, none⟩) A.length c) A) (hac : A.length ≤ c) (hn : A.length ≤ 100000) (ha : a.length ≤ 4611686018427387904) (hw : wrongOf A.length a = 0)
    (hM0 : (if A = [] then Wb.mfirst else m : Nat) = M0) (hM0l : M0 < Wb.MM) (hM1 : Wb.mmark M0 a = M1) :
    Calls Tryd.prog 11 #[.agg #[.slice (some ⟨b, 0, none⟩) A.length c, .int .u64 (m : Int)], .string (Wb.S a)] w fun e w' => ∃ u, e = .returned (.tuple #[.agg #[u, .int .u64 (M1 : Int)], .int .i64 0]) ∧ Row38 w' u (A ++ [a]) ∧ (∀ k, u.ownBlock = some k → w.heap.size ≤ k) ∧ Wb.Ext w w' := by
  obtain ⟨i0, hi, hz0, hz1, hz2⟩ := info_parts infoStr
  have HIN := Lib.hid (show Tryd.prog.info? 9 = some i0 ∧ i0.zero = some (.string "".toUTF8) ∧ i0.size = 1 ∧ i0.bytes = 16 from ⟨hi, hz0, hz1, hz2⟩)
  clear hi hz0 hz1 hz2
  have HROW := Lib.hid hv
  have HS := Lib.hid hv.strs.1
  have HW := Lib.hid hw
  have HM0 := Lib.hid hM0l
  have HM1 := Lib.hid hM1
  have HC : Hid (∀ w', Wb.Ext w w' → Calls Tryd.prog 14 #[.agg #[.slice (some ⟨b, 0, none⟩) A.length c, .int .u64 (m : Int)]] w' fun e w'' => e = .returned (.int .u64 (M0 : Int)) ∧ Wb.Ext w' w'') := fun w' k => by
    have := lmark_any _ A m _ (HS.out.ext k)
    rw [hM0] at this; exact this
  clear hv hw hM0l hM1 hM0
  have i1 : (A.length : Int) ≤ (c : Int) := by omega
  have i2 : (0 : Int) ≤ (A.length : Int) := by omega
  go_enter Tryd.func11, Tryd.ntmps11
  go_wp2_with fail
  refine (wrong_any _ A m a _ (HS.out.ext (by (repeat' (first | (with_reducible assumption) | (with_reducible exact Wb.Ext.refl _) | (with_reducible refine Wb.Ext.drew ?_) | (with_reducible refine Wb.Ext.drewN ?_ _) | (with_reducible refine Wb.Ext.alloc ?_ _) | (with_reducible refine Wb.Ext.trans ?_ (by assumption)))))) ha).mono ?_; rintro e w1 ⟨rfl, hb⟩
  rw [HW.out]
  have q0 : w1.cell? ⟨w.heap.size, 0, none⟩ = some (.slice (some ⟨b, 0, none⟩) A.length c) := hb.keep (by simp [go_sem])
  have q1 : w1.cell? ⟨w.heap.size, 1, none⟩ = some (.int .u64 m) := hb.keep (by simp [go_sem])
  have q2 : w1.cell? ⟨w.heap.size + 1, 0, none⟩ = some (.slice none 0 0) := hb.keep (by simp [go_sem])
  have q3 : w1.cell? ⟨w.heap.size + 1, 1, none⟩ = some (.int .u64 0) := hb.keep (by simp [go_sem])
  have qf : ∀ j, w1.frozen? ⟨w.heap.size + 1, j, none⟩ = false := fun j => (Below.frozen hb (by simp)).trans (by simp [go_sem])
  have he1 : Wb.Ext w w1 := by (repeat' (first | (with_reducible assumption) | (with_reducible exact Wb.Ext.refl _) | (with_reducible refine Wb.Ext.drew ?_) | (with_reducible refine Wb.Ext.drewN ?_ _) | (with_reducible refine Wb.Ext.alloc ?_ _) | (with_reducible refine Wb.Ext.trans ?_ (by assumption))))
  clear hb
  go_wp2_with fail
  obtain ⟨hi, hz0, hz1, hz2⟩ := HIN.out
  refine wp_region_held_drew (S := (fun w' => w'.cell? ⟨w.heap.size, 0, none⟩ = some (.slice (some ⟨b, 0, none⟩) A.length c) ∧ w'.cell? ⟨w.heap.size, 1, none⟩ = some (.int .u64 m))) (by kernel_rfl) ⟨Wb.Ext.keep (w := w1) (by (repeat' (first | (with_reducible assumption) | (with_reducible exact Wb.Ext.refl _) | (with_reducible refine Wb.Ext.drew ?_) | (with_reducible refine Wb.Ext.drewN ?_ _) | (with_reducible refine Wb.Ext.alloc ?_ _) | (with_reducible refine Wb.Ext.trans ?_ (by assumption))))) q0, Wb.Ext.keep (w := w1) (by (repeat' (first | (with_reducible assumption) | (with_reducible exact Wb.Ext.refl _) | (with_reducible refine Wb.Ext.drew ?_) | (with_reducible refine Wb.Ext.drewN ?_ _) | (with_reducible refine Wb.Ext.alloc ?_ _) | (with_reducible refine Wb.Ext.trans ?_ (by assumption))))) q1⟩ (fun hHeld => ?_)
  refine take_d (i := 0) (d := 18) (v := ?_) rfl rfl (by kernel_rfl) (by kernel_rfl) (by kernel_rfl) (fun _ _ _ h => h) (Or.inl ⟨by rfl, ?_⟩) (by assumption) ?_
  rotate_left
  · (intro w hSw; (try dsimp only at hSw); go_simp; (try with_reducible rfl))
  (try simp only [Act.put, List.setIfInBounds_toArray, List.set_cons_zero, List.set_cons_succ])
  refine take_d (i := 1) (d := 19) (v := ?_) rfl rfl (by kernel_rfl) (by kernel_rfl) (by kernel_rfl) (fun _ _ _ h => h) (Or.inl ⟨by rfl, ?_⟩) (by assumption) ?_
  rotate_left
  · (intro w hSw; (try dsimp only at hSw); go_simp; (try with_reducible rfl))
  (try simp only [Act.put, List.setIfInBounds_toArray, List.set_cons_zero, List.set_cons_succ])
  refine take_d (i := 2) (d := 20) (v := ?_) rfl rfl (by kernel_rfl) (by kernel_rfl) (by kernel_rfl) (fun _ _ _ h => h) (Or.inl ⟨by rfl, ?_⟩) (by assumption) ?_
  rotate_left
  · (intro w hSw; (try dsimp only at hSw); go_simp; (try with_reducible rfl))
  (try simp only [Act.put, List.setIfInBounds_toArray, List.set_cons_zero, List.set_cons_succ])
  refine take_d (i := 3) (d := 21) (v := ?_) rfl rfl (by kernel_rfl) (by kernel_rfl) (by kernel_rfl) (fun _ _ _ h => h) (Or.inl ⟨by rfl, ?_⟩) (by assumption) ?_
  rotate_left
  · (intro w hSw; (try dsimp only at hSw); go_simp; (try with_reducible rfl))
  (try simp only [Act.put, List.setIfInBounds_toArray, List.set_cons_zero, List.set_cons_succ])
  refine take_d (i := 4) (d := 22) (v := ?_) rfl rfl (by kernel_rfl) (by kernel_rfl) (by kernel_rfl) (fun _ _ _ h => h) (Or.inl ⟨by rfl, ?_⟩) (by assumption) ?_
  rotate_left
  · (intro w hSw; (try dsimp only at hSw); go_simp; (try with_reducible rfl))
  (try simp only [Act.put, List.setIfInBounds_toArray, List.set_cons_zero, List.set_cons_succ])
  refine take_d (i := 5) (d := 23) (v := ?_) rfl rfl (by kernel_rfl) (by kernel_rfl) (by kernel_rfl) (fun _ _ _ h => h) (Or.inl ⟨by rfl, ?_⟩) (by assumption) ?_
  rotate_left
  · (intro w hSw; (try dsimp only at hSw); go_simp; (try with_reducible rfl))
  (try simp only [Act.put, List.setIfInBounds_toArray, List.set_cons_zero, List.set_cons_succ])
  refine take_d (i := 8) (d := 26) (v := ?_) rfl rfl (by kernel_rfl) (by kernel_rfl) (by kernel_rfl) (fun _ _ _ h => h) (Or.inl ⟨by rfl, ?_⟩) (by assumption) ?_
  rotate_left
  · (intro w hSw; (try dsimp only at hSw); go_simp; (try with_reducible rfl))
  (try simp only [Act.put, List.setIfInBounds_toArray, List.set_cons_zero, List.set_cons_succ])
  refine take_d (i := 10) (d := 28) (v := ?_) rfl rfl (by kernel_rfl) (by kernel_rfl) (by kernel_rfl) (fun _ _ _ h => h) (Or.inl ⟨by rfl, ?_⟩) (by assumption) ?_
  rotate_left
  · (intro w hSw; (try dsimp only at hSw); go_simp; (try with_reducible rfl))
  (try simp only [Act.put, List.setIfInBounds_toArray, List.set_cons_zero, List.set_cons_succ])
  refine wpAnyH_ready (rs := [6]) (by kernel_rfl) (by simp) ?_
  refine AllReadyH.cons (o := _) rfl (fun K hK => ?_) ?_
  · go_simp
    refine hK.out _ _ ⟨Wb.Ext.keep (w := w1) (by (repeat' (first | (with_reducible assumption) | (with_reducible exact Wb.Ext.refl _) | (with_reducible refine Wb.Ext.drew ?_) | (with_reducible refine Wb.Ext.drewN ?_ _) | (with_reducible refine Wb.Ext.alloc ?_ _) | (with_reducible refine Wb.Ext.trans ?_ (by assumption))))) q0, Wb.Ext.keep (w := w1) (by (repeat' (first | (with_reducible assumption) | (with_reducible exact Wb.Ext.refl _) | (with_reducible refine Wb.Ext.drew ?_) | (with_reducible refine Wb.Ext.drewN ?_ _) | (with_reducible refine Wb.Ext.alloc ?_ _) | (with_reducible refine Wb.Ext.trans ?_ (by assumption))))) q1⟩ (fun hHeld => ?_)
    clear hK K
    (try simp only [Act.put, List.setIfInBounds_toArray, List.set_cons_zero, List.set_cons_succ])
    refine wpAnyH_ready (rs := [7]) (by kernel_rfl) (by simp) ?_
    refine AllReadyH.cons (o := _) rfl (fun K hK => ?_) ?_
    · refine step_append_grows (by rfl) _ _ 22 (by rfl) 9 i0 (.string "".toUTF8) 1 16 Tryd.underlying22 hi hz0 hz1 hz2 (by rfl) (by decide) (some ⟨b, 0, none⟩) A.length A.length (rowsOf strc A) (by rfl) (fun h => by cases h) (by rw [rowsOf_length strc_len]) (fun b' hb' j u hj => by obtain rfl := Option.some.inj hb'; exact (HROW.out.ext (show Wb.Ext w _ from by (repeat' (first | (with_reducible assumption) | (with_reducible exact Wb.Ext.refl _) | (with_reducible refine Wb.Ext.drew ?_) | (with_reducible refine Wb.Ext.drewN ?_ _) | (with_reducible refine Wb.Ext.alloc ?_ _) | (with_reducible refine Wb.Ext.trans ?_ (by assumption)))))).at_cells j u hj) _ 1 _ [.string (Wb.S a)] (by rfl) (by rfl) (World.news_of_block (heap_alloc_new _ _)) (by intro u hu; simp at hu; subst hu; rfl) (by omega) (by unfold maxLen; omega) (by omega) ?_
      intro v' w2 hown hgrow
      have he2 : Wb.Ext w1 w2 := Wb.Ext.grown (by (repeat' (first | (with_reducible assumption) | (with_reducible exact Wb.Ext.refl _) | (with_reducible refine Wb.Ext.drew ?_) | (with_reducible refine Wb.Ext.drewN ?_ _) | (with_reducible refine Wb.Ext.alloc ?_ _) | (with_reducible refine Wb.Ext.trans ?_ (by assumption))))) hgrow (fun q hq => by cases hq)
      have HV2 := Lib.hid (fun w' hk => Row38.of_row_far (l := A ++ [a]) (w' := w') (by rw [rowsOf_app, rowsOf_one]; exact hown) (by simp) hk)
      have HFR := Lib.hid (show ∀ k, v'.ownBlock = some k → w1.heap.size ≤ k from fun k hk => by have := (hown.lt k hk).1; simp at this; omega)
      obtain ⟨b2, c2, rfl⟩ := row_shape hown
      clear hown hgrow
      refine hK.out _ _ ⟨Wb.Ext.keep (w := w1) (by (repeat' (first | (with_reducible assumption) | (with_reducible exact Wb.Ext.refl _) | (with_reducible refine Wb.Ext.drew ?_) | (with_reducible refine Wb.Ext.drewN ?_ _) | (with_reducible refine Wb.Ext.alloc ?_ _) | (with_reducible refine Wb.Ext.trans ?_ (by assumption))))) q0, Wb.Ext.keep (w := w1) (by (repeat' (first | (with_reducible assumption) | (with_reducible exact Wb.Ext.refl _) | (with_reducible refine Wb.Ext.drew ?_) | (with_reducible refine Wb.Ext.drewN ?_ _) | (with_reducible refine Wb.Ext.alloc ?_ _) | (with_reducible refine Wb.Ext.trans ?_ (by assumption))))) q1⟩ (fun hHeld => ?_)
      clear hK K
      (try simp only [Act.put, List.setIfInBounds_toArray, List.set_cons_zero, List.set_cons_succ])
      refine wpAnyH_ready (rs := [9]) (by kernel_rfl) (by simp) ?_
      refine AllReadyH.cons (o := _) rfl (fun K hK => ?_) ?_
      · go_simp
        go_at_call 14
        go_fit (HC.out _ (by (repeat' (first | (with_reducible assumption) | (with_reducible exact Wb.Ext.refl _) | (with_reducible refine Wb.Ext.drew ?_) | (with_reducible refine Wb.Ext.drewN ?_ _) | (with_reducible refine Wb.Ext.alloc ?_ _) | (with_reducible refine Wb.Ext.trans ?_ (by assumption))))))
        rintro e w3 ⟨rfl, hb3⟩
        refine hK.out _ _ ⟨Wb.Ext.keep (w := w1) (by (repeat' (first | (with_reducible assumption) | (with_reducible exact Wb.Ext.refl _) | (with_reducible refine Wb.Ext.drew ?_) | (with_reducible refine Wb.Ext.drewN ?_ _) | (with_reducible refine Wb.Ext.alloc ?_ _) | (with_reducible refine Wb.Ext.trans ?_ (by assumption))))) q0, Wb.Ext.keep (w := w1) (by (repeat' (first | (with_reducible assumption) | (with_reducible exact Wb.Ext.refl _) | (with_reducible refine Wb.Ext.drew ?_) | (with_reducible refine Wb.Ext.drewN ?_ _) | (with_reducible refine Wb.Ext.alloc ?_ _) | (with_reducible refine Wb.Ext.trans ?_ (by assumption))))) q1⟩ (fun hHeld => ?_)
        clear hK K
        (try simp only [Act.put, List.setIfInBounds_toArray, List.set_cons_zero, List.set_cons_succ])
        refine wpAnyH_ready (rs := [11]) (by kernel_rfl) (by simp) ?_
        refine AllReadyH.cons (o := _) rfl (fun K hK => ?_) ?_
        · go_simp
          go_at_call 28
          go_fit (mark_any M0 a HM0.out ha _)
          rintro e w4 ⟨rfl, rfl⟩
          rw [HM1.out]
          have q2' := Wb.Ext.keep (w' := w3) (by (repeat' (first | (with_reducible assumption) | (with_reducible exact Wb.Ext.refl _) | (with_reducible refine Wb.Ext.drew ?_) | (with_reducible refine Wb.Ext.drewN ?_ _) | (with_reducible refine Wb.Ext.alloc ?_ _) | (with_reducible refine Wb.Ext.trans ?_ (by assumption))))) q2
          have q3' := Wb.Ext.keep (w' := w3) (by (repeat' (first | (with_reducible assumption) | (with_reducible exact Wb.Ext.refl _) | (with_reducible refine Wb.Ext.drew ?_) | (with_reducible refine Wb.Ext.drewN ?_ _) | (with_reducible refine Wb.Ext.alloc ?_ _) | (with_reducible refine Wb.Ext.trans ?_ (by assumption))))) q3
          have qf' : ∀ j, w3.frozen? ⟨w.heap.size + 1, j, none⟩ = false := fun j => (Below.frozen (show Wb.Ext w1 w3 from by (repeat' (first | (with_reducible assumption) | (with_reducible exact Wb.Ext.refl _) | (with_reducible refine Wb.Ext.drew ?_) | (with_reducible refine Wb.Ext.drewN ?_ _) | (with_reducible refine Wb.Ext.alloc ?_ _) | (with_reducible refine Wb.Ext.trans ?_ (by assumption))))) (Wb.cell_size q2)).trans (qf j)
          have q0' := Wb.Ext.keep (w' := w3) (by (repeat' (first | (with_reducible assumption) | (with_reducible exact Wb.Ext.refl _) | (with_reducible refine Wb.Ext.drew ?_) | (with_reducible refine Wb.Ext.drewN ?_ _) | (with_reducible refine Wb.Ext.alloc ?_ _) | (with_reducible refine Wb.Ext.trans ?_ (by assumption))))) q0
          have q1' := Wb.Ext.keep (w' := w3) (by (repeat' (first | (with_reducible assumption) | (with_reducible exact Wb.Ext.refl _) | (with_reducible refine Wb.Ext.drew ?_) | (with_reducible refine Wb.Ext.drewN ?_ _) | (with_reducible refine Wb.Ext.alloc ?_ _) | (with_reducible refine Wb.Ext.trans ?_ (by assumption))))) q1
          refine hK.out _ _ ⟨Wb.Ext.keep (w := w1) (by (repeat' (first | (with_reducible assumption) | (with_reducible exact Wb.Ext.refl _) | (with_reducible refine Wb.Ext.drew ?_) | (with_reducible refine Wb.Ext.drewN ?_ _) | (with_reducible refine Wb.Ext.alloc ?_ _) | (with_reducible refine Wb.Ext.trans ?_ (by assumption))))) q0, Wb.Ext.keep (w := w1) (by (repeat' (first | (with_reducible assumption) | (with_reducible exact Wb.Ext.refl _) | (with_reducible refine Wb.Ext.drew ?_) | (with_reducible refine Wb.Ext.drewN ?_ _) | (with_reducible refine Wb.Ext.alloc ?_ _) | (with_reducible refine Wb.Ext.trans ?_ (by assumption))))) q1⟩ (fun hHeld => ?_)
          clear hK K
          (try simp only [Act.put, List.setIfInBounds_toArray, List.set_cons_zero, List.set_cons_succ])
          refine take_d (i := 12) (d := 30) (v := ?_) rfl rfl (by kernel_rfl) (by kernel_rfl) (by kernel_rfl) (fun _ _ _ h => h) (Or.inl ⟨by rfl, ?_⟩) (by assumption) ?_
          rotate_left
          · (intro w hSw; (try dsimp only at hSw); go_simp; (try with_reducible rfl))
          (try simp only [Act.put, List.setIfInBounds_toArray, List.set_cons_zero, List.set_cons_succ])
          refine wpAnyH_ready (rs := [13]) (by kernel_rfl) (by simp) ?_
          refine AllReadyH.cons (o := _) rfl (fun K hK => ?_) ?_
          · go_simp
            refine hK.out _ _ ⟨by first | assumption | simpa [go_sem] using q0' | simp [go_sem, q0'], by first | assumption | simpa [go_sem] using q1' | simp [go_sem, q1']⟩ (fun hHeld => ?_)
            clear hK K
            (try simp only [Act.put, List.setIfInBounds_toArray, List.set_cons_zero, List.set_cons_succ])
            refine take_d (i := 14) (d := 5) (v := ?_) rfl rfl (by kernel_rfl) (by kernel_rfl) (by kernel_rfl) (fun _ _ _ h => h) (Or.inl ⟨by rfl, ?_⟩) (by assumption) ?_
            rotate_left
            · (intro w hSw; (try dsimp only at hSw); go_simp; (try with_reducible rfl))
            (try simp only [Act.put, List.setIfInBounds_toArray, List.set_cons_zero, List.set_cons_succ])
            refine wpAnyH_done (by kernel_rfl) ?_ _
            go_wp2
            refine bodyPost_ret (v := .tuple #[.agg #[.slice b2 (A.length + 1) c2, .int .u64 (M1 : Int)], .int .i64 0]) (by simp [results, Tryd.results11, go_sem, q2', q3', qf']) rfl ⟨_, rfl, ?_, fun k hk => Nat.le_trans he1.size (HFR.out k hk), by (repeat' (first | (with_reducible assumption) | (with_reducible exact Wb.Ext.refl _) | (with_reducible refine Wb.Ext.drew ?_) | (with_reducible refine Wb.Ext.drewN ?_ _) | (with_reducible refine Wb.Ext.alloc ?_ _) | (with_reducible refine Wb.ext_set ?_ (by first | assumption | (simp; done) | (simp; omega) | omega) _) | (with_reducible refine Wb.Ext.trans ?_ (by assumption))))⟩
            refine HV2.out _ fun b o u hb hu => ?_
            have hlt := Wb.cell_size q2
            have hne : ¬ w.heap.size + 1 = b := by simp at hb; omega
            have hu3 := hb3.keep hu
            simpa [go_sem, hne] using hu3
          exact AllReadyH.nil
        exact AllReadyH.nil
      exact AllReadyH.nil
    exact AllReadyH.nil
  exact AllReadyH.nil


end Go.Proofs.YtokdmojbffnfgaaDoor
