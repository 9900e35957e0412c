/- Plain facts for chapter 38 (journal): marks; a mark tells which act it is behind. No program in sight. -/
namespace Go.Proofs.YtokdmojbffnfgaaDoor
namespace Wb

/-- the modulus of marks, behind a name -/
def MM : Nat := 18446744073709551616
def PP : Nat := 1099511628211
def QQ : Nat := 14886173955864302971
theorem pq : PP * QQ = 887285111055 * MM + 1 := by simp [PP, QQ, MM]
theorem MM_pos : 0 < MM := by simp [MM]
theorem ten_lt : 10 < MM := by simp [MM]
/-- a byte more -/
def mstep (m b : Nat) : Nat := (m ^^^ b) * PP % MM
theorem mstep_lt (m b : Nat) : mstep m b < MM := Nat.mod_lt _ MM_pos
def mbyte (m : Nat) (b : UInt8) : Nat := mstep m b.toNat
theorem mbyte_lt (m : Nat) (b : UInt8) : mbyte m b < MM := mstep_lt _ _
def mfold (m : Nat) (l : List UInt8) : Nat := l.foldl mbyte m
/-- the mark behind an act -/
def mmark (m : Nat) (l : List UInt8) : Nat := mstep (mfold m l) 10
def mfirst : Nat := 14695981039346656037
theorem mfirst_lt : mfirst < MM := by unfold mfirst MM; omega
theorem foldl_snoc_of {α β : Type} (f : α → β → α) (m : α) (l : List β) (b : β) : (l ++ [b]).foldl f m = f (l.foldl f m) b := by simp
theorem foldl_app_of {α β : Type} (f : α → β → α) (m : α) (l r : List β) : (l ++ r).foldl f m = r.foldl f (l.foldl f m) := by simp
theorem mfold_snoc (m : Nat) (l : List UInt8) (b : UInt8) : mfold m (l ++ [b]) = mbyte (mfold m l) b := foldl_snoc_of _ _ _ _
theorem mfold_app (m : Nat) (l r : List UInt8) : mfold m (l ++ r) = mfold (mfold m l) r := foldl_app_of _ _ _ _
theorem mfold_cons (m : Nat) (b : UInt8) (r : List UInt8) : mfold m (b :: r) = mfold (mbyte m b) r := rfl
theorem mfold_lt {m : Nat} (h : m < MM) (l : List UInt8) : mfold m l < MM := by
  induction l generalizing m with
  | nil => exact h
  | cons b r ih => rw [mfold_cons]; exact ih (mbyte_lt m b)
theorem mmark_lt (m : Nat) (l : List UInt8) : mmark m l < MM := mstep_lt _ _

/-- times the prime, and back -/
theorem mul_back_of {p q r M x : Nat} (h : p * q = r * M + 1) (hx : x < M) : x * p % M * q % M = x := by
  rw [Nat.mod_mul_mod, Nat.mul_assoc, h, Nat.mul_add, Nat.mul_one, ← Nat.mul_assoc, Nat.mul_add_mod_self_right, Nat.mod_eq_of_lt hx]
theorem mul_back {x : Nat} (h : x < MM) : x * PP % MM * QQ % MM = x := mul_back_of pq h
theorem xor_lt {a b : Nat} (ha : a < MM) (hb : b < MM) : a ^^^ b < MM := by
  have e : MM = 2 ^ 64 := by simp [MM]
  rw [e] at ha hb ⊢
  exact Nat.xor_lt_two_pow ha hb
theorem mstep_inj {m m' b b' : Nat} (hm : m < MM) (hm' : m' < MM) (hb : b < MM) (hb' : b' < MM) (h : mstep m b = mstep m' b') : m ^^^ b = m' ^^^ b' := by
  have h1 := mul_back (xor_lt hm hb)
  have h2 := mul_back (xor_lt hm' hb')
  unfold mstep at h
  rw [← h1, ← h2, h]
theorem xor_back (a b : Nat) : a ^^^ b ^^^ b = a := by rw [Nat.xor_assoc, Nat.xor_self, Nat.xor_zero]
theorem mstep_left {m m' b : Nat} (hm : m < MM) (hm' : m' < MM) (hb : b < MM) (h : mstep m b = mstep m' b) : m = m' := by
  have := mstep_inj hm hm' hb hb h
  rw [← xor_back m b, this, xor_back]
theorem mstep_right {m b b' : Nat} (hm : m < MM) (hb : b < MM) (hb' : b' < MM) (h : mstep m b = mstep m b') : b = b' := by
  have := mstep_inj hm hm hb hb' h
  rw [Nat.xor_comm m b, Nat.xor_comm m b'] at this
  rw [← xor_back b m, this, xor_back]
theorem byte_lt (b : UInt8) : b.toNat < MM := Nat.lt_trans b.toNat_lt (by simp [MM])
theorem mfold_left {l : List UInt8} : ∀ {m m' : Nat}, m < MM → m' < MM → mfold m l = mfold m' l → m = m' := by
  induction l with
  | nil => intro m m' _ _ h; exact h
  | cons b r ih =>
    intro m m' hm hm' h
    rw [mfold_cons, mfold_cons] at h
    exact mstep_left hm hm' (byte_lt b) (ih (mbyte_lt _ _) (mbyte_lt _ _) h)
theorem mmark_left {l : List UInt8} {m m' : Nat} (hm : m < MM) (hm' : m' < MM) (h : mmark m l = mmark m' l) : m = m' :=
  mfold_left hm hm' (mstep_left (mfold_lt hm l) (mfold_lt hm' l) ten_lt h)
/-- one byte turned: another mark -/
theorem mmark_turn {m : Nat} {a r : List UInt8} {b b' : UInt8} (hm : m < MM) (hb : b ≠ b') : mmark m (a ++ b :: r) ≠ mmark m (a ++ b' :: r) := by
  intro h
  have h1 := mstep_left (mfold_lt hm _) (mfold_lt hm _) ten_lt h
  rw [mfold_app, mfold_app, mfold_cons, mfold_cons] at h1
  have h2 := mfold_left (mbyte_lt _ _) (mbyte_lt _ _) h1
  have h3 := mstep_right (mfold_lt hm a) (byte_lt b) (byte_lt b') h2
  exact hb (UInt8.toNat_inj.1 h3)
/-- marks behind several acts -/
def marksL (m : Nat) (l : List (List UInt8)) : Nat := l.foldl mmark m
theorem marksL_cons (m : Nat) (a : List UInt8) (r : List (List UInt8)) : marksL m (a :: r) = marksL (mmark m a) r := rfl
theorem marksL_lt {m : Nat} (h : m < MM) (l : List (List UInt8)) : marksL m l < MM := by
  induction l generalizing m with
  | nil => exact h
  | cons a r ih => rw [marksL_cons]; exact ih (mmark_lt m a)
theorem marksL_left {l : List (List UInt8)} : ∀ {m m' : Nat}, m < MM → m' < MM → marksL m l = marksL m' l → m = m' := by
  induction l with
  | nil => intro m m' _ _ h; exact h
  | cons a r ih => intro m m' hm hm' h; rw [marksL_cons, marksL_cons] at h; exact mmark_left hm hm' (ih (mmark_lt _ _) (mmark_lt _ _) h)

/-- a digit of base 16 -/
def hexd (n : Nat) : UInt8 := UInt8.ofNat (if n < 10 then 48 + n else 87 + n)
/-- so many digits of base 16 -/
def hexN : Nat → Nat → List UInt8
  | 0, _ => []
  | k + 1, n => hexN k (n / 16) ++ [hexd (n % 16)]
theorem hexN_length (k n : Nat) : (hexN k n).length = k := by
  induction k generalizing n with
  | zero => rfl
  | succ k ih => simp [hexN, ih]
def hex (m : Nat) : List UInt8 := hexN 16 m
theorem hexd_inj {a b : Nat} (ha : a < 16) (hb : b < 16) (h : hexd a = hexd b) : a = b := by
  have h1 := congrArg UInt8.toNat h
  unfold hexd at h1
  rw [UInt8.toNat_ofNat', UInt8.toNat_ofNat'] at h1
  split at h1 <;> split at h1 <;> omega
theorem hexN_inj {k : Nat} : ∀ {a b : Nat}, a < 16 ^ k → b < 16 ^ k → hexN k a = hexN k b → a = b := by
  induction k with
  | zero => intro a b ha hb _; simp at ha hb; omega
  | succ k ih =>
    intro a b ha hb h
    simp only [hexN] at h
    have hl := List.append_inj h (by rw [hexN_length, hexN_length])
    have h1 := ih (a := a / 16) (b := b / 16) (by rw [Nat.pow_succ] at ha; omega) (by rw [Nat.pow_succ] at hb; omega) hl.1
    have h2 := hexd_inj (Nat.mod_lt a (by decide)) (Nat.mod_lt b (by decide)) (by simpa using hl.2)
    omega
theorem hex_inj {a b : Nat} (ha : a < MM) (hb : b < MM) (h : hex a = hex b) : a = b := by
  have e : MM = 16 ^ 16 := by simp [MM]
  rw [e] at ha hb
  exact hexN_inj (k := 16) ha hb h
theorem hexd_ne (n : Nat) (h : n < 16) : hexd n ≠ 10 ∧ hexd n ≠ 32 := by
  have e : n = 0 ∨ n = 1 ∨ n = 2 ∨ n = 3 ∨ n = 4 ∨ n = 5 ∨ n = 6 ∨ n = 7 ∨ n = 8 ∨ n = 9 ∨ n = 10 ∨ n = 11 ∨ n = 12 ∨ n = 13 ∨ n = 14 ∨ n = 15 := by omega
  rcases e with rfl | rfl | rfl | rfl | rfl | rfl | rfl | rfl | rfl | rfl | rfl | rfl | rfl | rfl | rfl | rfl <;> decide
theorem hexN_ne (k n : Nat) : ∀ b ∈ hexN k n, b ≠ 10 ∧ b ≠ 32 := by
  induction k generalizing n with
  | zero => intro b h; cases h
  | succ k ih =>
    intro b h
    rw [hexN, List.mem_append, List.mem_singleton] at h
    rcases h with h | rfl
    · exact ih _ b h
    · exact hexd_ne _ (Nat.mod_lt _ (by decide))

end Wb
end Go.Proofs.YtokdmojbffnfgaaDoor
