/- Run32 -/
import Derived.Test.YtnefdpnolojojaaGreatMSt
import Derived.Test.YtnefdpnolojojaaGreatAg8
import Derived.Test.YtnefdpnolojojaaGreatMRc
import Derived.Test.YtnefdpnolojojaaGreatMRf
import Derived.Test.YtnefdpnolojojaaGreatMAw
import Derived.Deep.RegionHeldLaw
namespace Go.Proofs.YtnefdpnolojojaaGreat
open Go.RowKit Go.Sort Go.Lib Go.Maps
set_option maxRecDepth 8000
attribute [local go_sem ↓] Go.wp_at_zero Go.wp_at_succ
theorem runs_law {F : Nat → Prop} {w W : World} {ra : Option Addr} {rl rc : Nat} {mp mo : Option Nat} {B : Wb.Bk} {ks : List Int} {N : Nat} (h : BkF F w (.slice ra rl rc) mp mo B ks N) (hl : B.runs.length ≤ 50000) (hx : Wb.Ext w W) :
  Calls Tryz.prog 28 #[.agg #[.slice ra rl rc, .map mp, .map mo]] W fun e w' => ∃ (ua : Option Addr) (uc : Nat) (LR : List RnM), e = .returned (.slice ua B.runs.length uc) ∧ Hid (LR.map RnM.c = B.runs ∧ RunsM w' (.slice ua B.runs.length uc) LR) ∧ Wb.Ext W w' := by
 obtain ⟨RL, h1, h2⟩ := h.runs
 have hrl : RL.length = B.runs.length := by rw [← h2, List.length_map]
 refine (runs31_any _ mp mo RL W (h1 W (.ext hx)) (by omega)).mono ?_
 rintro e w' ⟨u, L', rfl, k1, k2, k3⟩
 have k4 := k1 w' .refl
 have hll : L'.length = B.runs.length := by rw [← hrl, ← List.length_map (f := RnM.c), k2, List.length_map]
 obtain ⟨ua, uc, rfl⟩ := k4.tab.shape
 rw [hll] at k4 ⊢
 exact ⟨ua, uc, L', rfl, Lib.hid ⟨k2.trans h2, k4⟩, k3⟩
theorem same_run {x z : RnM} {W : World} (hx : RowsM W x.rv x.rows) (hz : RowsM W z.rv z.rows) (h : x.c = z.c) : z.n = x.n ∧ z.y = x.y ∧ z.i = x.i ∧ z.k = x.k ∧
  Calls Tryz.prog 22 #[.agg #[.int .i64 x.n, .int .i64 x.y, .int .i64 x.i, .int .i64 x.k, x.rv], .agg #[.int .i64 x.n, .int .i64 x.y, .int .i64 x.i, .int .i64 x.k, z.rv]] W fun e w' => e = .returned (.bool true) ∧ Wb.Ext W w' := by
 unfold RnM.c at h
 injection h with h1 h2 h3 h4 h5
 exact ⟨h1.symm, h2.symm, h3.symm, h4.symm, same31r_eq x.n x.y x.i x.k _ _ x.rows z.rows W hx hz h5⟩
theorem rn_at {R T : List RnM} {k : Nat} {r : RnM} (h : ∀ j, j < R.length → (R.map RnM.c)[j]? = (T.map RnM.c)[j]?) (hr : R[k]? = some r) : ∃ t, T[k]? = some t ∧ r.c = t.c := by
 have h1 := h k (List.getElem?_eq_some_iff.1 hr).1
 rw [List.getElem?_map, hr, List.getElem?_map] at h1
 rcases hT : T[k]? with _ | t
 ·rw [hT] at h1; cases h1
 ·rw [hT] at h1
  exact ⟨t, rfl, Option.some.inj h1⟩
end Go.Proofs.YtnefdpnolojojaaGreat
