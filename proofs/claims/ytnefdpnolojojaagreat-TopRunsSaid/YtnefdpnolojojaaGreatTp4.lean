/- TopRuns: what its walk leans on. -/
import Derived.Test.YtnefdpnolojojaaGreatTp3
import Derived.Test.YtnefdpnolojojaaGreatMRf
import Derived.Test.YtnefdpnolojojaaGreatPlainT3
import Derived.Deep.RegionHeldLaw
namespace Go.Proofs.YtnefdpnolojojaaGreat
open Go.RowKit Go.Sort Go.Lib Go.Maps
set_option maxRecDepth 8000
attribute [local go_sem ↓] Go.wp_at_zero Go.wp_at_succ

/-- the persons that are handed in for, rising -/
theorem keys_three {f : Int → Option Value} (h : ∀ q, (f q).isSome = true → 1 ≤ q ∧ q ≤ 3) : ∃ hs, KeysAre kU32 f hs ∧ hs.Pairwise (· ≤ ·) ∧ hs.length ≤ 3 := by
  refine ⟨[1, 2, 3].filter fun q => (f q).isSome, ⟨List.Nodup.sublist List.filter_sublist (by decide), fun p => ?_⟩, List.Pairwise.sublist List.filter_sublist (by decide), Nat.le_trans (List.length_filter_le _ _) (by decide)⟩
  rw [List.mem_filter]
  constructor
  · rintro ⟨h1, h2⟩
    have := h p h2
    exact ⟨u32_ok (by omega), h2⟩
  · rintro ⟨-, h2⟩
    have := h p h2
    have : p = 1 ∨ p = 2 ∨ p = 3 := by omega
    exact ⟨by rcases this with rfl | rfl | rfl <;> simp, h2⟩
/-- what is handed in, as Do takes it -/
theorem hd_smap {w wr : World} {M : Nat} {L : List Wb.Cl} {r : Nat} {P : Nat → Prop} (h : HdAt w wr M L r 3) (hP : ∀ q, P q → q < w.heap.size) : ∃ (n : Nat) (f : Int → Option Value), n ≤ 3 ∧ (∀ q, (f q).isSome = true → 1 ≤ q ∧ q ≤ 3) ∧ SMapF (fun q => ¬ P q) wr (some M) n f (Wb.handX L r) := by
  obtain ⟨⟨n, f, h1, h2, h3, h4⟩, h5, h6⟩ := h
  have hK : ∀ w2, Kept (fun q => ¬ P q) wr w2 → Kept (fun b => w.heap.size ≤ b ∧ b ≠ M) wr w2 := fun w2 k => k.mono fun i _ hi hp => by have := hP i hp; omega
  have hnone : ∀ q : Int, 3 < q → Wb.handX L r q = [] := fun q hq => by unfold Wb.handX; rw [if_neg (by omega)]
  refine ⟨n, f, h1, h3, fun w2 k => (h2.keptF k (fun hp => by have := hP M hp; omega)).opt, fun p => ?_, fun p hp => ?_⟩
  · by_cases hp : p ≤ 3
    · obtain ⟨R, k1, k2, -⟩ := h4 p hp
      exact ⟨R, fun w2 k => k1 w2 (hK w2 k), k2⟩
    · have hf : f p = none := by
        rcases hf : f p with _ | x
        · rfl
        · have := h3 p (by rw [hf]; rfl); omega
      rw [hf, hnone p (by omega)]
      exact ⟨[], fun w2 _ => slsK_nil, rfl⟩
  · by_cases hp3 : p ≤ 3
    · obtain ⟨R, k1, k2, k3⟩ := h4 p hp3
      have := h3 p (k3 hp)
      exact ⟨u32_ok (by omega), k3 hp⟩
    · exact absurd (hnone p (by omega)) hp
/-- Do, of whatever is handed in -/
theorem top_do {P : Nat → Prop} {WR W : World} {M j n : Nat} {rv : Value} {mp mo : Option Nat} {B : Wb.Bk} {ks hs : List Int} {N : Nat} {f : Int → Option Value} {S : Int → List Wb.Ct} {y i k : Int}
    (hb : BkF (fun q => ¬ P q) WR rv mp mo B ks N) (hi : BkI j B ks N) (hj : j ≤ 40) (hRW : Wb.Ext WR W) (hS : SMapF (fun q => ¬ P q) W (some M) n f S) (hn : n ≤ 20) (hP : ∀ q, P q → q < W.heap.size)
    (hk : KeysAre kU32 f hs) (hr : hs.Pairwise (· ≤ ·)) (hhl : hs.length ≤ 20) (hsl : ∀ p, (S p).length ≤ 60) :
    Calls Tryz.prog 12 #[BkV rv mp mo, .int .i64 y, .int .i64 i, .int .i64 k, .map (some M)] W fun e w' => ∃ (ra : Option Addr) (rl rc : Nat) (mp' mo' : Option Nat) (B' : Wb.Bk) (n1 y1 i1 k1 : Int) (qa : Option Addr) (qc : Nat) (rows : List RwM) (E : Int), e = .returned (.tuple #[.agg #[.slice ra rl rc, .map mp', .map mo'], .agg #[.int .i64 n1, .int .i64 y1, .int .i64 i1, .int .i64 k1, .slice qa rows.length qc], .int .i64 E]) ∧
      Hid (DidF (fun q => ¬ P q) w' (.slice ra rl rc) mp' mo' B B' y i k S hs ks N ⟨n1, y1, i1, k1, .slice qa rows.length qc, rows⟩ E) ∧ Hid (BkI (j + 1) B' (ks ++ hs) (N + ks.length + hs.length)) ∧ Wb.Ext W w' := by
  have hlen := hi.len
  have hmany := hi.many
  have hkeys := hi.keys
  refine (do31_any (fun q => ¬ P q) rv mp mo (some M) n f S B ks hs N y i k W (hb.kept (.ext hRW)) hi.ok hi.runs (by omega) (fun p => by have := hi.few p; omega) (by omega) (by omega) hS (by omega) (by omega) hk hr (fun p => by have := hsl p; omega)).mono ?_
  rintro e w' ⟨ps, rv', mp', mo', r, B', E, hw, hd, rfl, hb', hr', hx⟩
  obtain ⟨ra, rc, rfl⟩ := hb'.now.shape
  obtain ⟨qa, qc, hq⟩ := (hr' w' .refl).tab.shape
  obtain ⟨n1, y1, i1, k1, rv1, rows⟩ := r
  simp only at hq
  subst hq
  have hm : ∀ q, q < w'.heap.size → (q < W.heap.size → ¬ P q) → ¬ P q := fun q _ h e => h (hP q e) e
  exact ⟨ra, _, rc, mp', mo', B', n1, y1, i1, k1, qa, qc, rows, E, rfl, Lib.hid ⟨⟨ps, hw, hd⟩, hb'.mono hm, fun w2 h2 => hr' w2 (h2.mono fun q h1 h3 => hm q h1 h3)⟩, Lib.hid (hi.step hj hw hd hhl hsl), hx⟩
theorem row_okS {F G : Nat → Prop} {w w2 : World} {rv : Value} {mp mo ms : Option Nat} {B B' : Wb.Bk} {y i : Int} {S : Int → List Wb.Ct} {f : Int → Option Value} {ks : List Int} {N n : Nat} {R : Wb.Rn} (h : BkF F w rv mp mo B ks N) (hS : SMapF G w2 ms n f S) (hb : Wb.Behind B y i S B' R) : ∀ r ∈ R.rows, kU32.ok r.p := by
  intro r hr
  have := (hb.who r.p).1 ⟨r, hr, rfl⟩
  by_cases e : S r.p = []
  · obtain ⟨n, f, hm, -, -⟩ := h.paid
    exact (hm.full r.p (fun e2 => this ⟨e, e2⟩)).1
  · exact (hS.full r.p e).1
theorem top_runT {l : List Wb.Cl} (h : Wb.SmX l) (hl : l.length ≤ 60) {j t : Nat} (hj : j < 6) {B B' : Wb.Bk} {sum : Int → Int} (hI : Wb.TopI l j B sum) (hjt : j + 1 = t) {hs ps : List Int} {r : RnM} {E : Int} (hw : Wb.Who B (Wb.handX l t) hs ps) (hd : Wb.doG B 2026 (t : Int) (t : Int) (Wb.handX l t) hs ps = (B', r.c, E)) :
    E = 0 ∧ r.n = t ∧ r.i = t ∧ Wb.TopI l t B' (Wb.addR sum (r.rows.map RwM.c)) ∧ Wb.Behind B 2026 (t : Int) (Wb.handX l t) B' r.c := by
  subst hjt
  obtain ⟨h1, h2, h3, h4, h5⟩ := Wb.top_run h hl hj hI hw hd
  have h2 : r.n = (j : Int) + 1 := h2
  have h3 : r.i = (j : Int) + 1 := h3
  exact ⟨h1, by omega, by omega, h4, h5⟩
/-- what stands at a round of the loop over a run's rows -/
structure TopK (wA : World) (M b : Nat) (wr : World) (sum : Int → Int) (rows : List Wb.Rw) (k : Nat) : Prop where
  map : ∃ f, KMap kU32 wr M (b + k) (.int .i64 0) f ∧ ∀ p, kU32.ok p → (f p).getD (.int .i64 0) = .int .i64 (Wb.addR sum (rows.take k) p)
  kept : Kept (fun q => q ≠ M) wA wr
theorem TopK.ext {wA wr w2 : World} {M b k : Nat} {sum : Int → Int} {rows : List Wb.Rw} (h : TopK wA M b wr sum rows k) (e : Wb.Ext wr w2) : TopK wA M b w2 sum rows k :=
  ⟨by obtain ⟨f, h1, h2⟩ := h.map; exact ⟨f, h1.ext e, h2⟩, h.kept.trans (.ext e)⟩
theorem all_top {C : List Wb.Ct} {r : Nat} {W : World} {ua xa : Option Addr} {uc xc : Nat} {D Q : List Wb.Sl} (hD : Sls W (.slice ua D.length uc) D) (hDc : D.map Wb.ct = Wb.fullC C) (hQ : Sls W (.slice xa Q.length xc) Q) (hQc : Q.map Wb.ct = C) (hC : Wb.SmC Wb.KT 28 r C) (hr : r ≤ 6) (hl : C.length ≤ 6) :
    Calls Tryz.prog 14 #[.slice ua D.length uc, .slice xa Q.length xc] W fun e w' => ∃ (da : Option Addr) (dc : Nat) (R : List Wb.Sl), e = .returned (.tuple #[.slice da R.length dc, .int .i64 0]) ∧ Hid (Sls w' (.slice da R.length dc) R ∧ ∀ s ∈ R, s.l = []) ∧ R.length ≤ 12 ∧ Wb.Ext W w' := by
  have l1 : D.length ≤ 6 := by
    have : (D.map Wb.ct).length ≤ C.length := by rw [hDc]; exact List.length_filter_le _ _
    rw [List.length_map] at this; omega
  have l2 : Q.length ≤ 6 := by rw [← List.length_map (f := Wb.ct), hQc]; exact hl
  refine (dall_any _ _ D Q W ⟨hD.1, fun _ => hD⟩ ⟨hQ.1, fun _ => hQ⟩ (by omega) (by omega)).mono ?_
  rintro e w' ⟨v, E, rfl, R, h1, h2, h3⟩
  obtain ⟨R', k1, k2, k3⟩ := Wb.allF_small hr hC hl hDc hQc
  rw [k1] at h1
  simp only [Prod.mk.injEq] at h1
  obtain ⟨rfl, h1⟩ := h1
  obtain ⟨da, dc, rfl⟩ := h2.shape
  refine ⟨da, dc, R, rfl, Lib.hid ⟨h2.sls, fun s hs => ?_⟩, by rw [← List.length_map (f := Wb.ct), ← h1]; exact k3, h3⟩
  exact k2 (Wb.ct s) (by rw [h1]; exact List.mem_map_of_mem hs)
/-- what stands at a round of TopRuns -/
structure TopJ (w : World) (A j : Nat) (wr : World) (ra : Option Addr) (rl rc : Nat) (mp mo : Option Nat) (B : Wb.Bk) (ks : List Int) (N : Nat) (L : List Wb.Cl) (sum : Int → Int) : Prop where
  book : ApI w (fun q => q = A ∨ q = A + 1) A j wr ra rl rc mp mo B ks N
  map : ∃ f, KMap kU32 wr (A + 1) (100000 * j) (.int .i64 0) f ∧ ∀ p, kU32.ok p → (f p).getD (.int .i64 0) = .int .i64 (sum p)
  law : Wb.TopI L j B sum
end Go.Proofs.YtnefdpnolojojaaGreat
