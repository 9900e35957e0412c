/- Maps of package delta: keys that are structs and arrays; elements as raw values. -/
import Derived.Test.YtdfmlgjemfcmlaaRows0
import Derived.Maps.OwnOps
import Derived.Maps.OwnSet
import Derived.Maps.RangeWalk
import Derived.DeepKeys4
import Derived.WideKeyEntry
namespace Go.Proofs.Ytdfmlgjemfcmlaa
open Go.RowKit Go.Maps
theorem laidOutM : laidOutB Try.prog = true := by kernel_rfl
theorem spot_law : WideMaps.KeyLaw Try.prog 57 := deep_law_laid laidOutM (m := 2) (by decide) (of_decide_eq_true (by kernel_rfl)) (by kernel_rfl) (by kernel_rfl)
theorem spot_keyed : Keyed Try.prog 57 := Keyed.of_law spot_law
theorem pair_keyed : Keyed Try.prog 76 := Keyed.of_law (deep_law_laid laidOutM (m := 2) (by decide) (of_decide_eq_true (by kernel_rfl)) (by kernel_rfl) (by kernel_rfl))
theorem cellsSpot : Try.prog.cellsOf 57 = 2 := by kernel_rfl
theorem cells1i : Try.prog.cellsOf 3 = 1 := by kernel_rfl
theorem cells1s : Try.prog.cellsOf 9 = 1 := by kernel_rfl
theorem sizeTypes : ∃ n, Try.prog.types.size + 1 = n + 2 := ⟨Try.prog.types.size - 1, by have : 0 < Try.prog.types.size := of_decide_eq_true (by kernel_rfl); omega⟩
theorem keySpot : Try.prog.keyType 57 = true := by kernel_rfl
/-- what a spot reads as -/
def kSpot (p : Int) (c : List UInt8) : Lit := .string (keyBytes [.int .i64 p, .string c])
theorem lits_int (n : Nat) (q : IntKind) (t : Nat) (p : Int) (ht : Try.prog.underlying t = some (.int q)) (hp : (Lit.int q p).wf = true) : Try.prog.keyLits (n + 1) t [.int q p] = some [.int q p] := by
  unfold Program.keyLits; rw [ht]; simp [hp]
theorem lits_str (n : Nat) (t : Nat) (c : List UInt8) (ht : Try.prog.underlying t = some .string) (hc : c.length ≤ maxLen) : Try.prog.keyLits (n + 1) t [.string (Wb.S c)] = some [.string c] := by
  unfold Program.keyLits
  rw [ht]
  have hs : (Wb.S c).size ≤ maxLen := by rw [Wb.S_size]; exact hc
  simp only [hs, if_true]
  rfl
theorem lits_spot (n : Nat) (p : Int) (c : List UInt8) (hp : (Lit.int .i64 p).wf = true) (hc : c.length ≤ maxLen) : Try.prog.keyLits (n + 2) 57 [.int .i64 p, .string (Wb.S c)] = some [.int .i64 p, .string c] := by
  unfold Program.keyLits
  rw [Try.underlying57]
  have h1 := lits_int n .i64 3 p Try.underlying3 hp
  have h2 := lits_str n 9 c Try.underlying9 hc
  simp [cellsSpot, cells1i, cells1s, h1, h2]
theorem spot_key {p : Int} {c : List UInt8} (hp : (Lit.int .i64 p).wf = true) (hc : c.length ≤ maxLen) : keyOf Try.prog 57 (.agg #[.int .i64 p, .string (Wb.S c)]) = some (kSpot p c) := by
  obtain ⟨n, hn⟩ := sizeTypes
  have h1 := lits_spot n p c hp hc
  have h2 : (Value.agg #[.int .i64 p, .string (Wb.S c)]).formed Try.prog 57 = true := by simp [Value.formed, Try.underlying57, cellsSpot]
  rw [keyOf, Try.underlying57]
  simp only [keySpot, h2, Bool.and_self, if_true, hn, Value.cells]
  rw [h1]; rfl
set_option maxRecDepth 100000 in
theorem spot_inv {v : Value} {l : Lit} (h : keyOf Try.prog 57 v = some l) : ∃ p c, v = .agg #[.int .i64 p, .string (Wb.S c)] ∧ l = kSpot p c ∧ (Lit.int .i64 p).wf = true ∧ c.length ≤ maxLen := by
  obtain ⟨n, hn⟩ := sizeTypes
  have h0 := h
  rw [keyOf, Try.underlying57] at h
  dsimp only at h
  rw [keySpot, Bool.true_and] at h
  generalize Try.prog.types.size + 1 = N at h hn
  subst hn
  split at h
  · rename_i hf
    obtain ⟨ls, hls, rfl⟩ := Option.map_eq_some_iff.1 h
    unfold Program.keyLits at hls
    rw [Try.underlying57] at hls
    have hv : ∃ a b, v = .agg #[a, b] := by
      cases v <;> simp [Value.formed, Try.underlying57, cellsSpot] at hf
      rename_i cs
      obtain ⟨l⟩ := cs
      match l, hf with
      | [a, b], _ => exact ⟨a, b, rfl⟩
    obtain ⟨a, b, rfl⟩ := hv
    simp [Value.cells, cellsSpot, cells1i, cells1s, Option.bind_eq_some_iff] at hls
    obtain ⟨x, hx, y, hy, _⟩ := hls
    have ha : ∃ p, a = .int .i64 p ∧ (Lit.int .i64 p).wf = true := by
      unfold Program.keyLits at hx
      rw [Try.underlying3] at hx
      cases a <;> simp at hx
      obtain ⟨⟨rfl, hw⟩, _⟩ := hx
      exact ⟨_, rfl, hw⟩
    have hb : ∃ c, b = .string (Wb.S c) ∧ c.length ≤ maxLen := by
      unfold Program.keyLits at hy
      rw [Try.underlying9] at hy
      cases b <;> simp at hy
      rename_i s
      obtain ⟨c, rfl⟩ := Wb.S_ex s
      rw [Wb.S_size] at hy
      obtain ⟨_, ⟨hc, _⟩, _⟩ := hy
      exact ⟨c, rfl, hc⟩
    obtain ⟨p, rfl, hp⟩ := ha
    obtain ⟨c, rfl, hc⟩ := hb
    rw [spot_key hp hc] at h0
    exact ⟨p, c, rfl, (Option.some.inj h0).symm, hp, hc⟩
  · cases h

/-! ### periods as keys -/
theorem cellsPair : Try.prog.cellsOf 76 = 2 := by kernel_rfl
theorem keyPair : Try.prog.keyType 76 = true := by kernel_rfl
/-- what a period reads as -/
def kPair (y i : Int) : Lit := .string (keyBytes [.int .i64 y, .int .i64 i])
theorem lits_pair (n : Nat) (y i : Int) (hy : (Lit.int .i64 y).wf = true) (hi : (Lit.int .i64 i).wf = true) : Try.prog.keyLits (n + 2) 76 [.int .i64 y, .int .i64 i] = some [.int .i64 y, .int .i64 i] := by
  unfold Program.keyLits
  rw [Try.underlying76]
  have h1 := lits_int n .i64 3 y Try.underlying3 hy
  have h2 := lits_int n .i64 3 i Try.underlying3 hi
  simp [cellsPair, cells1i, h1, h2, List.range_succ]
theorem pair_key {y i : Int} (hy : (Lit.int .i64 y).wf = true) (hi : (Lit.int .i64 i).wf = true) : keyOf Try.prog 76 (.agg #[.int .i64 y, .int .i64 i]) = some (kPair y i) := by
  obtain ⟨n, hn⟩ := sizeTypes
  have h1 := lits_pair n y i hy hi
  have h2 : (Value.agg #[.int .i64 y, .int .i64 i]).formed Try.prog 76 = true := by simp [Value.formed, Try.underlying76, cellsPair]
  rw [keyOf, Try.underlying76]
  simp only [keyPair, h2, Bool.and_self, if_true, hn, Value.cells]
  rw [h1]; rfl
set_option maxRecDepth 100000 in
theorem pair_inv {v : Value} {l : Lit} (h : keyOf Try.prog 76 v = some l) : ∃ y i, v = .agg #[.int .i64 y, .int .i64 i] ∧ l = kPair y i ∧ (Lit.int .i64 y).wf = true ∧ (Lit.int .i64 i).wf = true := by
  obtain ⟨n, hn⟩ := sizeTypes
  have h0 := h
  rw [keyOf, Try.underlying76] at h
  dsimp only at h
  rw [keyPair, Bool.true_and] at h
  generalize Try.prog.types.size + 1 = N at h hn
  subst hn
  split at h
  · rename_i hf
    obtain ⟨ls, hls, rfl⟩ := Option.map_eq_some_iff.1 h
    unfold Program.keyLits at hls
    rw [Try.underlying76] at hls
    have hv : ∃ a b, v = .agg #[a, b] := by
      cases v <;> simp [Value.formed, Try.underlying76, cellsPair] at hf
      rename_i cs
      obtain ⟨l⟩ := cs
      match l, hf with
      | [a, b], _ => exact ⟨a, b, rfl⟩
    obtain ⟨a, b, rfl⟩ := hv
    simp [Value.cells, cellsPair, cells1i, Option.bind_eq_some_iff, List.range_succ] at hls
    obtain ⟨x, hx, _, ⟨y, hy, _⟩, _⟩ := hls
    have key : ∀ (a : Value) (x : List Lit), Try.prog.keyLits (n + 1) 3 [a] = some x → ∃ p, a = .int .i64 p ∧ (Lit.int .i64 p).wf = true := by
      intro a x hx
      unfold Program.keyLits at hx
      rw [Try.underlying3] at hx
      cases a <;> simp at hx
      obtain ⟨⟨rfl, hw⟩, _⟩ := hx
      exact ⟨_, rfl, hw⟩
    obtain ⟨p, rfl, hp⟩ := key a x hx
    obtain ⟨q, rfl, hq⟩ := key b y hy
    rw [pair_key hp hq] at h0
    exact ⟨p, q, rfl, (Option.some.inj h0).symm, hp, hq⟩
  · cases h

end Go.Proofs.Ytdfmlgjemfcmlaa
