/- Periods: how the program goes about a year's spans; the period that has a day. No program in sight. -/
import Derived.Test.YtalpdodajcdibaaDoorPlain06b
namespace Go.Proofs.YtalpdodajcdibaaDoor
namespace Wb

/-- the aligned days behind which the program stands -/
def upTo (n f lo : Int) (yl : Nat) (a : Int) : List Int := aligned n f lo (min (a - lo).toNat yl)
theorem upTo_start {n f b : Int} {k : Nat} (hn : 0 < n) : upTo n f (b - n + 1) k (floorA n f b) = [] := by
  obtain ⟨h1, h2, h3⟩ := floorA_ok (n := n) (f := f) (d := b) hn
  refine List.eq_nil_iff_forall_not_mem.2 fun d hd => ?_
  rw [upTo, mem_aligned] at hd
  obtain ⟨a1, a2, _, a4⟩ := hd
  have hlt : d < floorA n f b := by omega
  have := no_between a4 (i := floorA n f b - d) (by omega) (by omega)
  rw [show d + (floorA n f b - d) = floorA n f b by omega] at this
  exact this h1
theorem upTo_step {n f lo a : Int} {k : Nat} (hn : 0 < n) (ha : (a - f) % n = 0) (h1 : lo ≤ a) (h2 : a < lo + k) : upTo n f lo k (a + n) = upTo n f lo k a ++ (if -25567 ≤ a then [a] else []) := by
  obtain ⟨i, hi⟩ : ∃ i : Nat, a = lo + i := ⟨(a - lo).toNat, by omega⟩
  obtain ⟨j, hj⟩ : ∃ j : Nat, min (a + n - lo).toNat k = i + 1 + j := ⟨min (a + n - lo).toNat k - (i + 1), by omega⟩
  have hm : min (a - lo).toNat k = i := by omega
  rw [upTo, upTo, hj, hm, aligned_skip, aligned]
  · by_cases h : -25567 ≤ a
    · rw [if_pos ⟨by omega, by rw [← hi]; exact ha⟩, if_pos h, hi]
    · rw [if_neg (fun e => h (by omega)), if_neg h]
  · intro q hq1 hq2 hq
    have := no_between ha (i := lo + q - a) (by omega) (by omega)
    rw [show a + (lo + q - a) = lo + q by omega] at this
    exact this hq.2
theorem upTo_end {n f lo a : Int} {k : Nat} (h : lo + k ≤ a) : upTo n f lo k a = aligned n f lo k := by
  rw [upTo, show min (a - lo).toNat k = k by omega]

/-! ### what a calendar that may be is -/
theorem calErr_ok {c : Cal} (h : calErr c = 0) : 0 ≤ c.kind ∧ c.kind ≤ 2 ∧ -25567 ≤ c.first ∧ c.first < 84006 ∧ 0 ≤ c.lag ∧ c.lag ≤ 60 := by
  unfold calErr at h
  split at h
  · omega
  · split at h
    · omega
    · split at h
      · omega
      · omega
theorem yl_eq (y : Int) : ((yl y : Nat) : Int) = beg (y + 1) 1 - beg y 1 := by
  have := lp_01 y
  unfold yl beg
  rw [cum_one, cum_one, yb_succ]; omega
theorem yl_le (y : Int) : 365 ≤ yl y ∧ yl y ≤ 366 := by have := lp_01 y; unfold yl; omega
/-- the spans of a year: which they are -/
theorem mem_spans {c : Cal} {y : Int} (hk : 0 < c.kind) {s : Int × Int} : s ∈ spansOf c y ↔ s.2 = s.1 + 14 * c.kind ∧ beg y 1 < s.2 ∧ s.2 ≤ beg (y + 1) 1 ∧ -25567 ≤ s.1 ∧ (s.1 - c.first) % (14 * c.kind) = 0 := by
  have hy := yl_eq y
  rw [spansOf, if_neg (by omega), List.mem_map]
  constructor
  · rintro ⟨d, hd, rfl⟩
    rw [mem_aligned] at hd
    refine ⟨rfl, by simp only; omega, by simp only; omega, by simp only; omega, hd.2.2.2⟩
  · rintro ⟨h1, h2, h3, h4, h5⟩
    refine ⟨s.1, mem_aligned.2 ⟨by omega, by omega, h4, h5⟩, ?_⟩
    rw [← h1]

end Wb
end Go.Proofs.YtalpdodajcdibaaDoor
