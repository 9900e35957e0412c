/- Plain facts for chapter 27 (slip). No program in sight. -/
import Derived.Test.YtdfmlgjemfcmlaaPlain01
import GoSem.Op.String
namespace Go.Proofs.Ytdfmlgjemfcmlaa
namespace Wb

/-! ### texts by their bytes -/
theorem blt_irrefl : ∀ a : List UInt8, Op.bytesLess a a = false
  | [] => rfl
  | x :: r => by simp [Op.bytesLess, blt_irrefl r]
theorem blt_asymm : ∀ a b : List UInt8, Op.bytesLess a b = true → Op.bytesLess b a = false
  | _, [], h => by simp [Op.bytesLess] at h
  | [], _ :: _, _ => rfl
  | x :: r, y :: s, h => by
    simp only [Op.bytesLess, Bool.or_eq_true, decide_eq_true_eq, Bool.and_eq_true, beq_iff_eq] at h
    simp only [Op.bytesLess, Bool.or_eq_false_iff, decide_eq_false_iff_not, Bool.and_eq_false_iff]
    rcases h with h | ⟨rfl, h⟩
    · refine ⟨by rw [UInt8.lt_iff_toNat_lt] at *; omega, .inl ?_⟩
      have : ¬ y = x := by rintro rfl; rw [UInt8.lt_iff_toNat_lt] at h; omega
      simpa using this
    · exact ⟨by rw [UInt8.lt_iff_toNat_lt]; omega, .inr (blt_asymm r s h)⟩
theorem blt_total : ∀ a b : List UInt8, Op.bytesLess a b = false → Op.bytesLess b a = false → a = b
  | [], [], _, _ => rfl
  | [], _ :: _, h, _ => by simp [Op.bytesLess] at h
  | _ :: _, [], _, h => by simp [Op.bytesLess] at h
  | x :: r, y :: s, h, k => by
    simp only [Op.bytesLess, Bool.or_eq_false_iff, decide_eq_false_iff_not, Bool.and_eq_false_iff] at h k
    have e : x = y := by
      have h1 := h.1; have k1 := k.1
      rw [UInt8.lt_iff_toNat_lt] at h1 k1
      exact UInt8.toNat_inj.1 (by omega)
    subst e
    rw [blt_total r s (by simpa using h.2) (by simpa using k.2)]
theorem blt_trans : ∀ a b c : List UInt8, Op.bytesLess a b = true → Op.bytesLess b c = true → Op.bytesLess a c = true
  | _, [], _, h, _ => by simp [Op.bytesLess] at h
  | _, _ :: _, [], _, h => by simp [Op.bytesLess] at h
  | [], _ :: _, _ :: _, _, _ => rfl
  | x :: r, y :: s, z :: t, h, k => by
    simp only [Op.bytesLess, Bool.or_eq_true, decide_eq_true_eq, Bool.and_eq_true, beq_iff_eq] at h k ⊢
    rcases h with h | ⟨rfl, h⟩
    · rcases k with k | ⟨rfl, k⟩
      · left; rw [UInt8.lt_iff_toNat_lt] at *; omega
      · exact .inl h
    · rcases k with k | ⟨rfl, k⟩
      · exact .inl k
      · exact .inr ⟨rfl, blt_trans r s t h k⟩

/-! ### lines and slips -/
structure Ln where
  part : Int
  code : List UInt8
  cents : Int

def chOk (b : UInt8) : Bool := (decide (97 ≤ (b.toNat : Int)) && decide ((b.toNat : Int) ≤ 122)) || (decide (48 ≤ (b.toNat : Int)) && decide ((b.toNat : Int) ≤ 57)) || ((b.toNat : Int) == 46) || ((b.toNat : Int) == 95) || ((b.toNat : Int) == 45)
def codeOk (c : List UInt8) : Bool := !c.isEmpty && !(c == [45]) && decide (c.length ≤ 32) && c.all chOk
def lineErr (x : Ln) : Int := if x.part < 0 ∨ 7 ≤ x.part then 11 else if codeOk x.code = false then 12 else if x.cents = 0 then 22 else if fits x.cents = false then 9 else 0
def lnLt (a b : Ln) : Bool := decide (a.part < b.part) || ((a.part == b.part) && Op.bytesLess a.code b.code)
def chk (p : Option Ln) : List Ln → Int
  | [] => 0
  | x :: r => if lineErr x ≠ 0 then lineErr x else
    match p with
    | none => chk (some x) r
    | some q => if q.part = x.part ∧ q.code = x.code then 7 else if lnLt q x = false then 8 else chk (some x) r
def check (y i : Int) (l : List Ln) : Int := if y < 1900 ∨ 2199 < y ∨ i < 1 ∨ 400 < i then 2 else if 448 < l.length then 5 else chk none l
/-- the line ahead of the k'th -/
def ahead (l : List Ln) (k : Nat) : Option Ln := if k = 0 then none else l[k - 1]?

def sumOf (f t : Int) : List Ln → Int
  | [] => 0
  | x :: r => (if f ≤ x.part ∧ x.part ≤ t then x.cents else 0) + sumOf f t r

/-- all are right -/
def Right (y i : Int) (l : List Ln) : Prop := check y i l = 0

theorem lnLt_irrefl (a : Ln) : lnLt a a = false := by simp [lnLt, blt_irrefl]
theorem lnLt_total {a b : Ln} (h : lnLt a b = false) (k : lnLt b a = false) : a.part = b.part ∧ a.code = b.code := by
  simp only [lnLt, Bool.or_eq_false_iff, decide_eq_false_iff_not, Bool.and_eq_false_iff, beq_eq_false_iff_ne] at h k
  have e : a.part = b.part := by omega
  refine ⟨e, blt_total _ _ ?_ ?_⟩
  · rcases h.2 with h | h
    · exact absurd e h
    · exact h
  · rcases k.2 with k | k
    · exact absurd e.symm k
    · exact k
theorem lnLt_asymm {a b : Ln} (h : lnLt a b = true) : lnLt b a = false := by
  simp only [lnLt, Bool.or_eq_true, decide_eq_true_eq, Bool.and_eq_true, beq_iff_eq] at h
  simp only [lnLt, Bool.or_eq_false_iff, decide_eq_false_iff_not, Bool.and_eq_false_iff, beq_eq_false_iff_ne]
  rcases h with h | ⟨h1, h2⟩
  · exact ⟨by omega, .inl (by omega)⟩
  · exact ⟨by omega, .inr (blt_asymm _ _ h2)⟩
theorem lnLt_trans {a b c : Ln} (h : lnLt a b = true) (k : lnLt b c = true) : lnLt a c = true := by
  simp only [lnLt, Bool.or_eq_true, decide_eq_true_eq, Bool.and_eq_true, beq_iff_eq] at h k ⊢
  rcases h with h | ⟨h1, h2⟩ <;> rcases k with k | ⟨k1, k2⟩
  · left; omega
  · left; omega
  · left; omega
  · right; exact ⟨by omega, blt_trans _ _ _ h2 k2⟩

theorem codeOk_bad {c : List UInt8} {k : Nat} (hk : k < c.length) (h : chOk (byteAt c k) = false) : codeOk c = false := by
  unfold codeOk
  have : c.all chOk = false := by rw [List.all_eq_false]; exact ⟨_, byteAt_mem hk, by simp [h]⟩
  simp [this]

/-- Go's '>' on texts -/
theorem bgt (a b : List UInt8) : (!Op.bytesLess b a && !(b == a)) = Op.bytesLess a b := by
  cases h : Op.bytesLess a b
  · cases k : Op.bytesLess b a
    · have := blt_total _ _ h k; subst this; simp
    · simp
  · have := blt_asymm _ _ h
    rw [this]
    have hne : ¬ b = a := by rintro rfl; rw [blt_irrefl] at h; cases h
    simpa using hne

theorem chk_none {x : Ln} (h : lineErr x = 0) (r : List Ln) : chk none (x :: r) = chk (some x) r := by simp [chk, h]
theorem chk_some {x : Ln} (h : lineErr x = 0) (q : Ln) (r : List Ln) : chk (some q) (x :: r) = if q.part = x.part ∧ q.code = x.code then 7 else if lnLt q x = false then 8 else chk (some x) r := by simp [chk, h]
theorem chk_err {x : Ln} (h : lineErr x ≠ 0) (p : Option Ln) (r : List Ln) : chk p (x :: r) = lineErr x := by cases p <;> simp [chk, h]
theorem ahead_zero (l : List Ln) : ahead l 0 = none := rfl
theorem ahead_succ {l : List Ln} {k : Nat} : ahead l (k + 1) = l[k]? := by simp [ahead]

theorem sumOf_app (f t : Int) (a b : List Ln) : sumOf f t (a ++ b) = sumOf f t a + sumOf f t b := by
  induction a with
  | nil => simp [sumOf]
  | cons x r ih => simp only [List.cons_append, sumOf, ih]; omega
theorem sumOf_snoc {f t : Int} {l : List Ln} {k : Nat} {x : Ln} (h : l[k]? = some x) : sumOf f t (l.take (k + 1)) = sumOf f t (l.take k) + (if f ≤ x.part ∧ x.part ≤ t then x.cents else 0) := by
  obtain ⟨h1, h2⟩ := List.getElem?_eq_some_iff.1 h
  rw [List.take_succ_eq_append_getElem h1, sumOf_app, h2]; simp [sumOf]
def Cfit (l : List Ln) : Prop := ∀ x ∈ l, -1125899906842624 ≤ x.cents ∧ x.cents ≤ 1125899906842624
theorem sumOf_bound {f t : Int} : ∀ {l : List Ln}, Cfit l → -(1125899906842624 * l.length : Int) ≤ sumOf f t l ∧ sumOf f t l ≤ 1125899906842624 * l.length := by
  intro l
  induction l with
  | nil => intro _; simp [sumOf]
  | cons x r ih =>
    intro h
    have h1 := ih fun y hy => h y (by simp [hy])
    have h2 := h x (by simp)
    simp only [sumOf, List.length_cons]
    split <;> omega
theorem sumOf_take_bound {f t : Int} {l : List Ln} (h : Cfit l) (hl : l.length ≤ 448) (k : Nat) : -504403158265495552 ≤ sumOf f t (l.take k) ∧ sumOf f t (l.take k) ≤ 504403158265495552 := by
  have := sumOf_bound (f := f) (t := t) (l := l.take k) fun x hx => h x (List.mem_of_mem_take hx)
  have hk : (l.take k).length ≤ 448 := by simp; omega
  omega
theorem lineErr_ok {x : Ln} (h : lineErr x = 0) : 0 ≤ x.part ∧ x.part ≤ 6 ∧ codeOk x.code = true ∧ x.cents ≠ 0 ∧ fits x.cents = true := by
  unfold lineErr at h
  split at h
  · omega
  · split at h
    · omega
    · split at h
      · omega
      · split at h
        · omega
        · rename_i h1 h2 h3 h4
          refine ⟨by omega, by omega, by simpa using h2, h3, by simpa using h4⟩
theorem chk_lines : ∀ {l : List Ln} {p : Option Ln}, chk p l = 0 → ∀ x ∈ l, lineErr x = 0 := by
  intro l
  induction l with
  | nil => intro _ _ x hx; cases hx
  | cons y r ih =>
    intro p h x hx
    by_cases hy : lineErr y = 0
    · have hr : ∀ x ∈ r, lineErr x = 0 := by
        cases p with
        | none => rw [chk_none hy] at h; exact ih h
        | some q =>
          rw [chk_some hy] at h
          split at h
          · omega
          · split at h
            · omega
            · exact ih h
      rcases List.mem_cons.1 hx with rfl | hx
      · exact hy
      · exact hr x hx
    · rw [chk_err hy] at h; exact absurd h hy
theorem check_ok {y i : Int} {l : List Ln} (h : check y i l = 0) : 1900 ≤ y ∧ y ≤ 2199 ∧ 1 ≤ i ∧ i ≤ 400 ∧ l.length ≤ 448 ∧ chk none l = 0 ∧ ∀ x ∈ l, lineErr x = 0 := by
  unfold check at h
  split at h
  · omega
  · split at h
    · omega
    · exact ⟨by omega, by omega, by omega, by omega, by omega, h, chk_lines h⟩
theorem check_fit {y i : Int} {l : List Ln} (h : check y i l = 0) : Cfit l := fun x hx => (fits_iff _).1 (lineErr_ok ((check_ok h).2.2.2.2.2.2 x hx)).2.2.2.2

/-- the four sums, and the error -/
def sums (y i : Int) (l : List Ln) : Int × Int × Int × Int × Int :=
  if check y i l ≠ 0 then (0, 0, 0, 0, check y i l) else
  if fits (sumOf 0 0 l) = true ∧ fits (sumOf 1 5 l) = true ∧ fits (sumOf 0 0 l - sumOf 1 5 l) = true ∧ fits (sumOf 6 6 l) = true then (sumOf 0 0 l, sumOf 1 5 l, sumOf 0 0 l - sumOf 1 5 l, sumOf 6 6 l, 0) else (0, 0, 0, 0, 9)
theorem sumOf_parts (l : List Ln) : sumOf 1 1 l + sumOf 2 2 l + sumOf 3 3 l + sumOf 4 4 l + sumOf 5 5 l = sumOf 1 5 l := by
  induction l with
  | nil => rfl
  | cons x r ih =>
    simp only [sumOf]
    by_cases h1 : x.part = 1
    · simp [h1]; omega
    · by_cases h2 : x.part = 2
      · simp [h2]; omega
      · by_cases h3 : x.part = 3
        · simp [h3]; omega
        · by_cases h4 : x.part = 4
          · simp [h4]; omega
          · by_cases h5 : x.part = 5
            · simp [h5]; omega
            · rw [if_neg (by omega), if_neg (by omega), if_neg (by omega), if_neg (by omega), if_neg (by omega), if_neg (by omega)]; omega

theorem sumOf_all_bound {f t : Int} {l : List Ln} (h : Cfit l) (hl : l.length ≤ 448) : -504403158265495552 ≤ sumOf f t l ∧ sumOf f t l ≤ 504403158265495552 := by
  have := sumOf_take_bound (f := f) (t := t) h hl l.length
  rwa [List.take_length] at this
/-- of a right slip -/
theorem sums_ok {y i : Int} {l : List Ln} (h : check y i l = 0) {g a f : Int} (hg : sumOf 0 0 l = g) (ha : sumOf 1 5 l = a) (hf : sumOf 6 6 l = f) (h1 : fits g = true) (h2 : fits a = true) (h3 : fits (g - a) = true) (h4 : fits f = true) : sums y i l = (g, a, g - a, f, 0) := by
  subst hg ha hf; rw [sums, if_neg (by rw [h]; simp), if_pos ⟨h1, h2, h3, h4⟩]
theorem sums_over {y i : Int} {l : List Ln} (h : check y i l = 0) {g a f : Int} (hg : sumOf 0 0 l = g) (ha : sumOf 1 5 l = a) (hf : sumOf 6 6 l = f) (hn : ¬ (fits g = true ∧ fits a = true ∧ fits (g - a) = true ∧ fits f = true)) : sums y i l = (0, 0, 0, 0, 9) := by
  subst hg ha hf; rw [sums, if_neg (by rw [h]; simp), if_neg hn]

end Wb
end Go.Proofs.Ytdfmlgjemfcmlaa
