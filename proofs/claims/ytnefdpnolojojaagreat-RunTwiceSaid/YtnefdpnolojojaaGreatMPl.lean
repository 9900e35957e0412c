/- Several texts in one. -/
import GoSem.Op.String
/- Plain facts on lists of bytes. No program in sight. -/
namespace Go.Proofs.YtnefdpnolojojaaGreat
namespace Wb

/-- the byte at a place (0 where there is none) -/
def byteAt (l : List UInt8) (k : Nat) : UInt8 := (l[k]?).getD 0
theorem byteAt_eq {l : List UInt8} {k : Nat} (h : k < l.length) : byteAt l k = l[k] := by
  rw [byteAt, List.getElem?_eq_getElem h, Option.getD_some]
theorem byte_ex {l : List UInt8} {k : Nat} (h : k < l.length) : ∃ b, byteAt l k = b ∧ l.drop k = b :: l.drop (k + 1) := by
  refine ⟨_, rfl, ?_⟩
  rw [List.drop_eq_getElem_cons h, byteAt_eq h]
theorem drop_get {α : Type} {l : List α} {k : Nat} {b : α} (h : l[k]? = some b) : l.drop k = b :: l.drop (k + 1) := by
  obtain ⟨h1, h2⟩ := List.getElem?_eq_some_iff.1 h
  rw [List.drop_eq_getElem_cons h1, h2]
theorem get_ex {α : Type} {l : List α} {k : Nat} (h : k < l.length) : ∃ b, l[k]? = some b := ⟨l[k], List.getElem?_eq_getElem h⟩
theorem take_byte {l : List UInt8} {k : Nat} (h : k < l.length) : l.take (k + 1) = l.take k ++ [byteAt l k] := by
  rw [List.take_succ_eq_append_getElem h, byteAt_eq h]
theorem byteAt_cons (b : UInt8) (l : List UInt8) (k : Nat) : byteAt (b :: l) (k + 1) = byteAt l k := by simp [byteAt]
theorem byteAt_cons0 (b : UInt8) (l : List UInt8) : byteAt (b :: l) 0 = b := by simp [byteAt]
theorem byteAt_left {a b : List UInt8} {k : Nat} (h : k < a.length) : byteAt (a ++ b) k = byteAt a k := by simp [byteAt, List.getElem?_append_left h]
theorem byteAt_right {a b : List UInt8} {k : Nat} (h : a.length ≤ k) : byteAt (a ++ b) k = byteAt b (k - a.length) := by simp [byteAt, List.getElem?_append_right h]
theorem byteAt_drop (l : List UInt8) (m k : Nat) : byteAt (l.drop m) k = byteAt l (m + k) := by simp [byteAt]
theorem byteAt_mem {l : List UInt8} {k : Nat} (h : k < l.length) : byteAt l k ∈ l := by rw [byteAt_eq h]; exact List.getElem_mem h

theorem snoc_ind {α : Type} {P : List α → Prop} (h0 : P []) (h1 : ∀ l a, P l → P (l ++ [a])) (l : List α) : P l := by
  have : ∀ l : List α, P l.reverse := by
    intro l
    induction l with
    | nil => exact h0
    | cons a l ih => rw [List.reverse_cons]; exact h1 _ _ ih
  have := this l.reverse
  rwa [List.reverse_reverse] at this

end Wb
end Go.Proofs.YtnefdpnolojojaaGreat
/- Plain facts for chapter 1 (cents): the text of an amount, what a text is read as, sums. No program in sight. -/
namespace Go.Proofs.YtnefdpnolojojaaGreat
namespace Wb

/-- the bound of amounts -/
def most : Int := 1125899906842624
theorem most_eq : most = 1125899906842624 := rfl
def fits (c : Int) : Bool := decide (-1125899906842624 ≤ c) && decide (c ≤ 1125899906842624)
theorem fits_iff (c : Int) : fits c = true ↔ -1125899906842624 ≤ c ∧ c ≤ 1125899906842624 := by simp [fits]

/-- what Add and Sub come to: the amount and the error's number -/
def told (a b c : Int) : Int × Int := if fits a = true ∧ fits b = true then (if fits c = true then (c, 0) else (0, 9)) else (0, 2)
def sumTo (s : Int) : List Int → Int × Int
  | [] => (s, 0)
  | x :: r => if (told s x (s + x)).2 = 0 then sumTo (told s x (s + x)).1 r else (0, (told s x (s + x)).2)
def sum (l : List Int) : Int × Int := sumTo 0 l

/-- a digit -/
def dig (n : Nat) : UInt8 := UInt8.ofNat (48 + n)
/-- a whole number's digits -/
def digs (n : Nat) : List UInt8 := if _h : n < 10 then [dig n] else digs (n / 10) ++ [dig (n % 10)]
termination_by n
decreasing_by omega
theorem digs_lt {n : Nat} (h : n < 10) : digs n = [dig n] := by rw [digs]; simp [h]
theorem digs_ge {n : Nat} (h : 10 ≤ n) : digs n = digs (n / 10) ++ [dig (n % 10)] := by
  rw [digs]; have : ¬ n < 10 := by omega
  simp [this]

theorem digs_length (k : Nat) : ∀ n, n < 10 ^ (k + 1) → (digs n).length ≤ k + 1 := by
  induction k with
  | zero => intro n h; rw [digs_lt (by simpa using h)]; simp
  | succ k ih =>
    intro n h
    by_cases hn : n < 10
    · rw [digs_lt hn]; simp
    · rw [digs_ge (by omega)]
      have : n / 10 < 10 ^ (k + 1) := by rw [Nat.pow_succ] at h; omega
      have := ih (n / 10) this
      simp; omega
theorem digs_pos (n : Nat) : 0 < (digs n).length := by
  by_cases hn : n < 10
  · rw [digs_lt hn]; simp
  · rw [digs_ge (by omega)]; simp

/-- the text of an amount that is not below 0 -/
def textN (n : Nat) : List UInt8 := digs (n / 100) ++ [46] ++ digs (n / 10 % 10) ++ digs (n % 10)
/-- the text of an amount that fits -/
def textZ (c : Int) : List UInt8 := if c < 0 then 45 :: textN c.natAbs else textN c.natAbs
def text (c : Int) : List UInt8 := if fits c = true then textZ c else []


/-- Parse's loop: what is read up to now, is it below 0, is it the first byte -/
def scan (acc : Int) (below first : Bool) : List UInt8 → Option (Int × Bool)
  | [] => some (acc, below)
  | b :: r =>
    if first = true ∧ b = 45 then scan acc true false r
    else if b = 46 then scan acc below false r
    else if b < 48 ∨ 57 < b ∨ 1125899906842624 < acc then none
    else scan (10 * acc + (b.toNat - 48 : Int)) below false r

theorem dig_toNat {n : Nat} (h : n < 10) : (dig n).toNat = 48 + n := by simp [dig]; omega
theorem dig_is {n : Nat} (h : n < 10) : dig n ≠ 45 ∧ dig n ≠ 46 ∧ ¬ dig n < 48 ∧ ¬ 57 < dig n := by
  have := dig_toNat h
  refine ⟨?_, ?_, ?_, ?_⟩
  · intro e; rw [e] at this; simp at this; omega
  · intro e; rw [e] at this; simp at this; omega
  · rw [UInt8.lt_iff_toNat_lt, this]; simp
  · rw [UInt8.lt_iff_toNat_lt, this]; simp; omega
theorem scan_dig {n : Nat} (h : n < 10) {acc : Int} (ha : acc ≤ 1125899906842624) (below first : Bool) (r : List UInt8) :
    scan acc below first (dig n :: r) = scan (10 * acc + n) below false r := by
  have ⟨h1, h2, h3, h4⟩ := dig_is h
  have h5 : ¬ 1125899906842624 < acc := by omega
  rw [scan, if_neg (by simp [h1]), if_neg h2, if_neg (by simp only [h3, h4, h5]; simp), dig_toNat h]
  congr 1; omega
theorem scan_digs (n : Nat) : n ≤ 1125899906842624 → ∀ (below first : Bool) (r : List UInt8), scan 0 below first (digs n ++ r) = scan n below false r := by
  induction n using Nat.strongRecOn with
  | _ n ih =>
    intro hn below first r
    by_cases h : n < 10
    · rw [digs_lt h, List.singleton_append, scan_dig h (by omega)]; congr 1; omega
    · rw [digs_ge (by omega), List.append_assoc, ih (n / 10) (by omega) (by omega), List.singleton_append, scan_dig (by omega) (by omega)]
      congr 1; omega
theorem scan_textN {n : Nat} (hn : n ≤ 1125899906842624) (below first : Bool) : scan 0 below first (textN n) = some ((n : Int), below) := by
  unfold textN
  rw [List.append_assoc, List.append_assoc, scan_digs _ (by omega), digs_lt (n := n / 10 % 10) (by omega), digs_lt (n := n % 10) (by omega), List.singleton_append, scan, if_neg (by simp), if_pos rfl,
    List.singleton_append, scan_dig (by omega) (by omega), scan_dig (by omega) (by omega), scan]
  congr 2; omega

/-- what Parse comes to -/
theorem natAbs_fits {c : Int} (h : fits c = true) : c.natAbs ≤ 1125899906842624 := by have := (fits_iff c).1 h; omega
theorem scan_text {c : Int} (h : fits c = true) : ∃ x b, scan 0 false true (text c) = some (x, b) ∧ c = if b = true then -x else x := by
  have hn := natAbs_fits h
  by_cases h0 : c < 0
  · refine ⟨c.natAbs, true, ?_, by simp; omega⟩
    rw [text, if_pos h, textZ, if_pos h0, scan, if_pos ⟨rfl, rfl⟩, scan_textN hn]
  · refine ⟨c.natAbs, false, ?_, by simp; omega⟩
    rw [text, if_pos h, textZ, if_neg h0, scan_textN hn]
theorem text_inj {a b : Int} (ha : fits a = true) (hb : fits b = true) (h : text a = text b) : a = b := by
  obtain ⟨x, p, h1, h2⟩ := scan_text ha
  obtain ⟨y, q, h3, h4⟩ := scan_text hb
  rw [h, h3] at h1; injection h1 with h1; injection h1 with e1 e2; subst e1 e2; rw [h2, h4]
theorem text_ne {c : Int} (h : fits c = true) : text c ≠ [] := by
  rw [text, if_pos h, textZ]
  have : textN c.natAbs ≠ [] := by simp [textN]
  split <;> simp [this]

open Classical in
/-- the amount that a text is, and 0; or 0, and 3 -/
noncomputable def parse (l : List UInt8) : Int × Int := if h : ∃ c, fits c = true ∧ text c = l then (h.choose, 0) else (0, 3)
theorem parse_text {c : Int} (h : fits c = true) : parse (text c) = (c, 0) := by
  have hx : ∃ x, fits x = true ∧ text x = text c := ⟨c, h, rfl⟩
  rw [parse, dif_pos hx]
  rw [text_inj hx.choose_spec.1 h hx.choose_spec.2]
theorem parse_none {l : List UInt8} (h : ∀ c, fits c = true → text c ≠ l) : parse l = (0, 3) := by
  rw [parse, dif_neg]; rintro ⟨c, h1, h2⟩; exact h c h1 h2
theorem parse_cases (l : List UInt8) : (∃ c, fits c = true ∧ text c = l ∧ parse l = (c, 0)) ∨ ((∀ c, fits c = true → text c ≠ l) ∧ parse l = (0, 3)) := by
  by_cases h : ∃ c, fits c = true ∧ text c = l
  · obtain ⟨c, h1, h2⟩ := h; exact .inl ⟨c, h1, h2, by rw [← h2, parse_text h1]⟩
  · have h' : ∀ c, fits c = true → text c ≠ l := fun c h1 h2 => h ⟨c, h1, h2⟩
    exact .inr ⟨h', parse_none h'⟩

theorem parse_scan_none {l : List UInt8} (h : scan 0 false true l = none) : parse l = (0, 3) :=
  parse_none fun c h1 h2 => by obtain ⟨x, b, h3, _⟩ := scan_text h1; rw [h2, h] at h3; cases h3
theorem parse_scan_ok {l : List UInt8} {v : Int} (h0 : l ≠ []) (h : text v = l) : parse l = (v, 0) := by
  by_cases hf : fits v = true
  · rw [← h]; exact parse_text hf
  · rw [text, if_neg hf] at h; exact absurd h.symm h0
theorem parse_scan_not {l : List UInt8} {acc : Int} {bl : Bool} (h : scan 0 false true l = some (acc, bl)) (hn : text (if bl = true then -acc else acc) ≠ l) : parse l = (0, 3) :=
  parse_none fun c h1 h2 => by
    obtain ⟨x, b, h3, h4⟩ := scan_text h1
    rw [h2, h] at h3; injection h3 with h3; injection h3 with e1 e2; subst e1 e2
    exact hn (by rw [← h4]; exact h2)
theorem parse_nil : parse [] = (0, 3) := parse_none fun _ h1 h2 => text_ne h1 h2

theorem u8_eq {b : UInt8} {n : Nat} (hn : n < 256) : b = UInt8.ofNat n ↔ (b.toNat : Int) = n := by rw [← UInt8.toNat_inj]; simp; omega
theorem step45 {b : UInt8} (h : (b.toNat : Int) = 45) (acc : Int) (bl : Bool) (r : List UInt8) : scan acc bl true (b :: r) = scan acc true false r := by
  have : b = 45 := (u8_eq (n := 45) (by omega)).2 h
  rw [scan, if_pos ⟨rfl, this⟩]
theorem step46 {b : UInt8} (h : (b.toNat : Int) = 46) (acc : Int) (bl f : Bool) (r : List UInt8) : scan acc bl f (b :: r) = scan acc bl false r := by
  have : b = 46 := (u8_eq (n := 46) (by omega)).2 h
  subst this
  rw [scan, if_neg (by simp), if_pos rfl]
theorem stepBad {b : UInt8} {acc : Int} {bl f : Bool} (h1 : ¬ (f = true ∧ (b.toNat : Int) = 45)) (h2 : (b.toNat : Int) ≠ 46) (h3 : (b.toNat : Int) < 48 ∨ 57 < (b.toNat : Int) ∨ 1125899906842624 < acc) (r : List UInt8) :
    scan acc bl f (b :: r) = none := by
  have e1 : ¬ (f = true ∧ b = 45) := fun ⟨x, y⟩ => h1 ⟨x, (u8_eq (n := 45) (by omega)).1 y⟩
  have e2 : ¬ b = 46 := fun y => h2 ((u8_eq (n := 46) (by omega)).1 y)
  rw [scan, if_neg e1, if_neg e2, if_pos]
  rw [UInt8.lt_iff_toNat_lt, UInt8.lt_iff_toNat_lt]
  simpa using (by omega : b.toNat < 48 ∨ 57 < b.toNat ∨ 1125899906842624 < acc)
theorem stepDig {b : UInt8} {acc : Int} (h1 : 48 ≤ (b.toNat : Int)) (h2 : (b.toNat : Int) ≤ 57) (h3 : acc ≤ 1125899906842624) (bl f : Bool) (r : List UInt8) :
    scan acc bl f (b :: r) = scan (10 * acc + ((b.toNat : Int) - 48)) bl false r := by
  have e1 : ¬ (f = true ∧ b = 45) := fun ⟨_, y⟩ => by have := (u8_eq (n := 45) (by omega)).1 y; omega
  have e2 : ¬ b = 46 := fun y => by have := (u8_eq (n := 46) (by omega)).1 y; omega
  rw [scan, if_neg e1, if_neg e2, if_neg]
  rw [UInt8.lt_iff_toNat_lt, UInt8.lt_iff_toNat_lt]
  have : ¬ (b.toNat < 48 ∨ 57 < b.toNat ∨ 1125899906842624 < acc) := by omega
  simpa using this

/-! ### what the reference reads -/
def Dg (b : UInt8) : Prop := 48 ≤ b.toNat ∧ b.toNat ≤ 57
def val (l : List UInt8) : Nat := l.foldl (fun a b => 10 * a + (b.toNat - 48)) 0
theorem val_snoc (l : List UInt8) (b : UInt8) : val (l ++ [b]) = 10 * val l + (b.toNat - 48) := by simp [val]
theorem dig_val {b : UInt8} (h : Dg b) : dig (b.toNat - 48) = b := by
  rw [← UInt8.toNat_inj, dig_toNat (by have := h.2; omega)]; have := h.1; omega
theorem Dg_dig {n : Nat} (h : n < 10) : Dg (dig n) := by have := dig_toNat h; unfold Dg; omega

theorem digs_all (n : Nat) : ∀ b ∈ digs n, Dg b := by
  induction n using Nat.strongRecOn with
  | _ n ih =>
    by_cases h : n < 10
    · rw [digs_lt h]; simp; exact Dg_dig h
    · rw [digs_ge (by omega)]
      intro b hb
      rcases List.mem_append.1 hb with hb | hb
      · exact ih _ (by omega) b hb
      · rw [List.mem_singleton.1 hb]; exact Dg_dig (by omega)
theorem val_digs (n : Nat) : val (digs n) = n := by
  induction n using Nat.strongRecOn with
  | _ n ih =>
    by_cases h : n < 10
    · rw [digs_lt h]; simp [val, dig_toNat h]
    · rw [digs_ge (by omega), val_snoc, ih _ (by omega), dig_toNat (by omega)]; omega
theorem digs_head (n : Nat) (h : 10 ≤ n) : byteAt (digs n) 0 ≠ 48 := by
  induction n using Nat.strongRecOn with
  | _ n ih =>
    rw [digs_ge h, byteAt_left (digs_pos _)]
    by_cases h2 : 10 ≤ n / 10
    · exact ih _ (by omega) h2
    · rw [digs_lt (by omega), byteAt_cons0]
      intro e; have := dig_toNat (n := n / 10) (by omega); rw [e] at this; simp at this; omega

theorem val_pos : ∀ (l : List UInt8), (∀ b ∈ l, Dg b) → l ≠ [] → byteAt l 0 ≠ 48 → 1 ≤ val l := by
  refine snoc_ind ?_ ?_
  · intro _ h; exact absurd rfl h
  · intro l b ih hd _ h0
    rw [val_snoc]
    by_cases hl : l = []
    · subst hl
      have := hd b (by simp)
      simp [byteAt] at h0
      have hb : b.toNat ≠ 48 := fun e => h0 (UInt8.toNat_inj.1 e)
      have := this.1; omega
    · have hp : 0 < l.length := List.length_pos_iff.2 hl
      have := ih (fun b hb => hd b (by simp [hb])) hl (by rwa [byteAt_left hp] at h0)
      omega
theorem digs_val : ∀ (l : List UInt8), (∀ b ∈ l, Dg b) → l ≠ [] → (l.length = 1 ∨ byteAt l 0 ≠ 48) → digs (val l) = l := by
  refine snoc_ind ?_ ?_
  · intro _ h; exact absurd rfl h
  · intro l b ih hd _ h0
    have hb := hd b (by simp)
    rw [val_snoc]
    by_cases hl : l = []
    · subst hl
      have := hb.2
      simp only [val, List.foldl_nil, Nat.mul_zero, Nat.zero_add, List.nil_append]
      rw [digs_lt (by omega), dig_val hb]
    · have hp : 0 < l.length := List.length_pos_iff.2 hl
      have h1 : byteAt l 0 ≠ 48 := by
        rcases h0 with h0 | h0
        · simp at h0; exact absurd h0 hl
        · rwa [byteAt_left hp] at h0
      have hd' : ∀ b ∈ l, Dg b := fun b hb => hd b (by simp [hb])
      have h2 := val_pos l hd' hl h1
      have := hb.2
      rw [digs_ge (by omega), show (10 * val l + (b.toNat - 48)) / 10 = val l by omega, show (10 * val l + (b.toNat - 48)) % 10 = b.toNat - 48 by omega, ih hd' hl (.inr h1), dig_val hb]

/-- what of the first k bytes is a number, the point left out -/
def num (t : List UInt8) (k : Nat) : Nat := val (t.take (min k (t.length - 3)) ++ (t.drop (t.length - 2)).take (k - (t.length - 2)))
theorem num_zero (t : List UInt8) : num t 0 = 0 := by simp [num, val]
theorem num_left {t : List UInt8} {k : Nat} (h : k < t.length - 3) : num t (k + 1) = 10 * num t k + ((byteAt t k).toNat - 48) := by
  unfold num
  rw [show min (k + 1) (t.length - 3) = k + 1 by omega, show min k (t.length - 3) = k by omega, show k + 1 - (t.length - 2) = 0 by omega, show k - (t.length - 2) = 0 by omega, take_byte (by omega)]
  simp only [List.take_zero, List.append_nil]; rw [val_snoc]
theorem num_point {t : List UInt8} {k : Nat} (h : k = t.length - 3) (h4 : 3 ≤ t.length) : num t (k + 1) = num t k := by
  unfold num
  rw [show min (k + 1) (t.length - 3) = k by omega, show min k (t.length - 3) = k by omega, show k + 1 - (t.length - 2) = 0 by omega, show k - (t.length - 2) = 0 by omega]
theorem num_right {t : List UInt8} {k : Nat} (h : t.length - 3 < k) (hk : k < t.length) : num t (k + 1) = 10 * num t k + ((byteAt t k).toNat - 48) := by
  unfold num
  rw [show min (k + 1) (t.length - 3) = t.length - 3 by omega, show min k (t.length - 3) = t.length - 3 by omega, show k + 1 - (t.length - 2) = (k - (t.length - 2)) + 1 by omega,
    take_byte (by simp; omega), byteAt_drop, show t.length - 2 + (k - (t.length - 2)) = k by omega, ← List.append_assoc, val_snoc]

/-- a text that the reference takes -/
def Form (t : List UInt8) : Prop := 4 ≤ t.length ∧ t.length ≤ 17 ∧ byteAt t (t.length - 3) = 46 ∧ (∀ j, j < t.length → j ≠ t.length - 3 → Dg (byteAt t j)) ∧ ¬ (byteAt t 0 = 48 ∧ 4 < t.length)
theorem form_textN {n : Nat} (hn : n ≤ 1125899906842624) : Form (textN n) ∧ num (textN n) (textN n).length = n := by
  have hp := digs_pos (n / 100)
  have hl := digs_length 13 (n / 100) (by omega)
  have e : textN n = digs (n / 100) ++ 46 :: [dig (n / 10 % 10), dig (n % 10)] := by
    unfold textN; rw [digs_lt (n := n / 10 % 10) (by omega), digs_lt (n := n % 10) (by omega)]; simp
  have el : (textN n).length = (digs (n / 100)).length + 3 := by rw [e]; simp
  refine ⟨⟨by omega, by omega, ?_, ?_, ?_⟩, ?_⟩
  · rw [el, e, byteAt_right (by omega)]; simp [byteAt]
  · intro j hj hn3
    rw [el] at hj hn3
    rw [e]
    by_cases h : j < (digs (n / 100)).length
    · rw [byteAt_left h]; exact digs_all _ _ (byteAt_mem h)
    · rw [byteAt_right (by omega)]
      have : j - (digs (n / 100)).length = 1 ∨ j - (digs (n / 100)).length = 2 := by omega
      rcases this with h | h <;> rw [h] <;> simp [byteAt] <;> exact Dg_dig (by omega)
  · rintro ⟨h1, h2⟩
    rw [e, byteAt_left hp] at h1
    rw [el] at h2
    by_cases h10 : 10 ≤ n / 100
    · exact digs_head _ h10 h1
    · rw [digs_lt (by omega)] at h2; simp at h2
  · unfold num
    rw [el, show min ((digs (n / 100)).length + 3) ((digs (n / 100)).length + 3 - 3) = (digs (n / 100)).length by omega, show (digs (n / 100)).length + 3 - 2 = (digs (n / 100)).length + 1 by omega, e]
    rw [List.take_left' rfl, show (digs (n / 100) ++ 46 :: [dig (n / 10 % 10), dig (n % 10)]).drop ((digs (n / 100)).length + 1) = [dig (n / 10 % 10), dig (n % 10)] by simp [List.drop_append]]
    rw [show (digs (n / 100)).length + 3 - ((digs (n / 100)).length + 1) = 2 by omega]
    rw [show ([dig (n / 10 % 10), dig (n % 10)] : List UInt8).take 2 = [dig (n / 10 % 10)] ++ [dig (n % 10)] from rfl, ← List.append_assoc, val_snoc, val_snoc, val_digs, dig_toNat (by omega), dig_toNat (by omega)]
    omega
theorem textN_form {t : List UInt8} (h : Form t) : textN (num t t.length) = t := by
  obtain ⟨h4, _, hpt, hd, hz⟩ := h
  obtain ⟨hd', tl, rfl, hlt⟩ : ∃ a b, t = a ++ b ∧ b.length = 3 := ⟨t.take (t.length - 3), t.drop (t.length - 3), by simp, by simp; omega⟩
  obtain ⟨p, x, y, rfl⟩ : ∃ p x y, tl = [p, x, y] := by
    match tl, hlt with
    | [p, x, y], _ => exact ⟨p, x, y, rfl⟩
  have el : ∀ p x y : UInt8, (hd' ++ [p, x, y]).length = hd'.length + 3 := by intros; simp
  rw [el] at h4 hpt hz
  simp only [el] at hd
  have ep : p = 46 := by rw [show hd'.length + 3 - 3 = hd'.length by omega, byteAt_right (by omega)] at hpt; simpa [byteAt] using hpt
  subst ep
  have dx : Dg x := by have := hd (hd'.length + 1) (by omega) (by omega); rw [byteAt_right (by omega)] at this; simpa [byteAt] using this
  have dy : Dg y := by have := hd (hd'.length + 2) (by omega) (by omega); rw [byteAt_right (by omega)] at this; simpa [byteAt] using this
  have dh : ∀ b ∈ hd', Dg b := by
    intro b hb
    obtain ⟨j, hj, rfl⟩ := List.getElem_of_mem hb
    have := hd j (by omega) (by omega)
    rwa [byteAt_left hj, byteAt_eq hj] at this
  have hne : hd' ≠ [] := by rintro rfl; simp at h4
  have hz' : hd'.length = 1 ∨ byteAt hd' 0 ≠ 48 := by
    by_cases h1 : hd'.length = 1
    · exact .inl h1
    · exact .inr fun e => hz ⟨by rw [byteAt_left (by omega)]; exact e, by omega⟩
  have hnum : num (hd' ++ [46, x, y]) (hd'.length + 3) = 10 * (10 * val hd' + (x.toNat - 48)) + (y.toNat - 48) := by
    unfold num
    rw [el, show min (hd'.length + 3) (hd'.length + 3 - 3) = hd'.length by omega, List.take_left' rfl, show (hd' ++ [46, x, y]).drop (hd'.length + 3 - 2) = [x, y] by rw [show hd'.length + 3 - 2 = hd'.length + 1 by omega]; simp [List.drop_append],
      show hd'.length + 3 - (hd'.length + 3 - 2) = 2 by omega, show ([x, y] : List UInt8).take 2 = [x] ++ [y] from rfl, ← List.append_assoc, val_snoc, val_snoc]
  have := dx.2; have := dy.2
  rw [el, hnum]
  unfold textN
  rw [show (10 * (10 * val hd' + (x.toNat - 48)) + (y.toNat - 48)) / 100 = val hd' by omega, show (10 * (10 * val hd' + (x.toNat - 48)) + (y.toNat - 48)) / 10 % 10 = x.toNat - 48 by omega,
    show (10 * (10 * val hd' + (x.toNat - 48)) + (y.toNat - 48)) % 10 = y.toNat - 48 by omega, digs_val hd' dh hne hz', digs_lt (by omega), digs_lt (by omega), dig_val dx, dig_val dy]
  simp

theorem textN_no45 (n : Nat) : byteAt (textN n) 0 ≠ 45 := by
  have hp := digs_pos (n / 100)
  unfold textN
  rw [List.append_assoc, List.append_assoc, byteAt_left hp]
  have := (digs_all _ _ (byteAt_mem hp)).1
  intro e; rw [e] at this; simp at this
theorem fits_nat {n : Nat} (h : n ≤ 1125899906842624) : fits n = true ∧ fits (-n) = true := by rw [fits_iff, fits_iff]; omega

/-- below 0 -/
theorem parse_minus_ok {t : List UInt8} (h : Form t) (hm : num t t.length ≤ 1125899906842624) (h0 : num t t.length ≠ 0) : parse (45 :: t) = (-(num t t.length : Int), 0) := by
  have e : text (-(num t t.length : Int)) = 45 :: t := by
    rw [text, if_pos (fits_nat hm).2, textZ, if_pos (by omega), Int.natAbs_neg, Int.natAbs_natCast, textN_form h]
  rw [← e, parse_text (fits_nat hm).2]
theorem parse_minus_not {t : List UInt8} (h : ¬ (Form t ∧ num t t.length ≤ 1125899906842624 ∧ num t t.length ≠ 0)) : parse (45 :: t) = (0, 3) := by
  refine parse_none fun c h1 h2 => h ?_
  have hn := natAbs_fits h1
  rw [text, if_pos h1, textZ] at h2
  by_cases h0 : c < 0
  · rw [if_pos h0] at h2
    injection h2 with _ h2
    rw [← h2]
    obtain ⟨a, b⟩ := form_textN hn
    exact ⟨a, by rw [b]; exact hn, by rw [b]; omega⟩
  · rw [if_neg h0] at h2
    exact absurd (by rw [h2, byteAt_cons0]) (textN_no45 c.natAbs)
theorem parse_plain_ok {t : List UInt8} (h : Form t) (hm : num t t.length ≤ 1125899906842624) : parse t = ((num t t.length : Int), 0) := by
  have e : text ((num t t.length : Int)) = t := by
    rw [text, if_pos (fits_nat hm).1, textZ, if_neg (by omega), Int.natAbs_natCast, textN_form h]
  have := parse_text (fits_nat hm).1
  rwa [e] at this
theorem parse_plain_not {t : List UInt8} (h45 : byteAt t 0 ≠ 45 ∨ t = []) (h : ¬ (Form t ∧ num t t.length ≤ 1125899906842624)) : parse t = (0, 3) := by
  refine parse_none fun c h1 h2 => ?_
  have hn := natAbs_fits h1
  have hne := text_ne h1
  rw [text, if_pos h1, textZ] at h2
  by_cases h0 : c < 0
  · rw [if_pos h0] at h2
    rcases h45 with h45 | h45
    · exact h45 (by rw [← h2, byteAt_cons0])
    · rw [h45] at h2; cases h2
  · rw [if_neg h0] at h2
    obtain ⟨a, b⟩ := form_textN hn
    rw [← h2] at h
    exact h ⟨a, by rw [b]; exact hn⟩

/-- the two ways in which a text begins -/
def Case (bl : Bool) (l t : List UInt8) : Prop := (bl = true ∧ l = 45 :: t) ∨ (bl = false ∧ l = t ∧ (byteAt t 0 ≠ 45 ∨ t = []))
theorem fin_ok {bl : Bool} {l t : List UInt8} (hc : Case bl l t) (h : Form t) (hm : num t t.length ≤ 1125899906842624) (h0 : bl = true → num t t.length ≠ 0) :
    parse l = (if bl = true then -(num t t.length : Int) else num t t.length, 0) := by
  rcases hc with ⟨rfl, rfl⟩ | ⟨rfl, rfl, _⟩
  · rw [parse_minus_ok h hm (h0 rfl)]; rfl
  · rw [parse_plain_ok h hm]; rfl
theorem fin_not {bl : Bool} {l t : List UInt8} (hc : Case bl l t) (h : ¬ (Form t ∧ num t t.length ≤ 1125899906842624 ∧ (bl = true → num t t.length ≠ 0))) : parse l = (0, 3) := by
  rcases hc with ⟨rfl, rfl⟩ | ⟨rfl, rfl, h45⟩
  · exact parse_minus_not fun ⟨a, b, c⟩ => h ⟨a, b, fun _ => c⟩
  · exact parse_plain_not h45 fun ⟨a, b⟩ => h ⟨a, b, fun x => by cases x⟩
theorem val_lt : ∀ (l : List UInt8), (∀ b ∈ l, Dg b) → val l < 10 ^ l.length := by
  refine snoc_ind ?_ ?_
  · intro _; simp [val]
  · intro l b ih hd
    have := ih fun b hb => hd b (by simp [hb])
    have hb := (hd b (by simp)).2
    rw [val_snoc, List.length_append, List.length_singleton, Nat.pow_succ]; omega
theorem num_lt {t : List UInt8} {k : Nat} (h4 : 4 ≤ t.length) (hk : k ≤ t.length) (hd : ∀ j, j < k → j ≠ t.length - 3 → Dg (byteAt t j)) : num t k < 10 ^ k := by
  unfold num
  refine Nat.lt_of_lt_of_le (val_lt _ ?_) (Nat.pow_le_pow_right (by omega) (by simp; omega))
  intro b hb
  rcases List.mem_append.1 hb with hb | hb
  · obtain ⟨j, hj, rfl⟩ := List.getElem_of_mem hb
    simp at hj
    have := hd j (by omega) (by omega)
    rw [byteAt_eq (by omega)] at this
    simpa using this
  · obtain ⟨j, hj, rfl⟩ := List.getElem_of_mem hb
    simp at hj
    have := hd (t.length - 2 + j) (by omega) (by omega)
    rw [byteAt_eq (by omega)] at this
    simpa using this

/-! ### what the laws say -/
theorem told_neg {a b : Int} : told a (-b) (a + -b) = told a b (a - b) := by
  unfold told
  have : fits (-b) = fits b := by rw [Bool.eq_iff_iff, fits_iff, fits_iff]; omega
  rw [this, show a + -b = a - b by omega]
theorem told_nofit {a b c : Int} (h : ¬ fits b = true) : told a b c = (0, 2) := by unfold told; simp [h]
theorem told_comm (a b : Int) : told b a (b + a) = told a b (a + b) := by
  unfold told
  rw [Int.add_comm b a]
  by_cases h : fits a = true <;> by_cases k : fits b = true <;> simp [h, k]
theorem told_back {a b : Int} (h : (told a b (a + b)).2 = 0) : (told a b (a + b)).1 = a + b ∧ told (a + b) b (a + b - b) = (a, 0) ∧ sum [a, b] = (a + b, 0) ∧ fits (a + b) = true := by
  unfold told at h ⊢
  by_cases hab : fits a = true ∧ fits b = true
  · by_cases hc : fits (a + b) = true
    · have e : a + b - b = a := by omega
      have e0 : fits 0 = true := by decide
      simp [hab, hc, e, sum, sumTo, told, e0]
    · simp [hab, hc] at h
  · simp [hab] at h
theorem told_bad {a b c : Int} (h : (told a b c).2 ≠ 0) : (told a b c).1 = 0 := by
  unfold told at h ⊢
  split
  · split <;> simp_all
  · rfl
theorem parse_snd (l : List UInt8) : (parse l).2 = 0 ∨ (parse l).2 = 3 := by
  rcases parse_cases l with ⟨c, _, _, h⟩ | ⟨_, h⟩ <;> rw [h] <;> simp
theorem fits_false {c : Int} (h : fits c = false) : text c = [] := by simp [text, h]

/-- a list's sum -/
def total : List Int → Int | [] => 0 | x :: r => x + total r
theorem total_app (a b : List Int) : total (a ++ b) = total a + total b := by
  induction a with
  | nil => simp [total]
  | cons x r ih => simp only [List.cons_append, total, ih]; omega
theorem sumTo_small : ∀ (l : List Int) (s : Int), (∀ x ∈ l, -1099511627776 ≤ x ∧ x ≤ 1099511627776) → -(1125899906842624 - 1099511627776 * l.length) ≤ s → s ≤ 1125899906842624 - 1099511627776 * l.length → sumTo s l = (s + total l, 0) := by
  intro l
  induction l with
  | nil => intro s _ _ _; simp [sumTo, total]
  | cons x r ih =>
    intro s hx h1 h2
    have hx0 := hx x (by simp)
    simp only [List.length_cons] at h1 h2
    have hs : fits s = true := by rw [fits_iff]; omega
    have hxf : fits x = true := by rw [fits_iff]; omega
    have hsx : fits (s + x) = true := by rw [fits_iff]; omega
    have e : told s x (s + x) = (s + x, 0) := by simp [told, hs, hxf, hsx]
    rw [sumTo, e]
    simp only [if_true]
    rw [ih (s + x) (fun y hy => hx y (by simp [hy])) (by omega) (by omega), total]
    congr 1; omega
theorem sum_small {l : List Int} (hx : ∀ x ∈ l, -1099511627776 ≤ x ∧ x ≤ 1099511627776) (hl : l.length ≤ 400) : sum l = (total l, 0) := by
  unfold sum; rw [sumTo_small l 0 hx (by omega) (by omega)]; simp
theorem total_bound : ∀ {l : List Int}, (∀ x ∈ l, -1099511627776 ≤ x ∧ x ≤ 1099511627776) → -(1099511627776 * l.length : Int) ≤ total l ∧ total l ≤ 1099511627776 * l.length := by
  intro l
  induction l with
  | nil => intro _; simp [total]
  | cons x r ih =>
    intro hx
    have := ih fun y hy => hx y (by simp [hy])
    have := hx x (by simp)
    simp only [total, List.length_cons]; omega
theorem chains {a b : List Int} (ha : a.length ≤ 100) (hb : b.length ≤ 100) (hx : ∀ x ∈ a ++ b, -1099511627776 ≤ x ∧ x ≤ 1099511627776) :
    sum a = (total a, 0) ∧ sum b = (total b, 0) ∧ sum (a ++ b) = (total a + total b, 0) ∧ told (total a) (total b) (total a + total b) = (total a + total b, 0) := by
  have hxa : ∀ x ∈ a, -1099511627776 ≤ x ∧ x ≤ 1099511627776 := fun x h => hx x (by simp [h])
  have hxb : ∀ x ∈ b, -1099511627776 ≤ x ∧ x ≤ 1099511627776 := fun x h => hx x (by simp [h])
  refine ⟨sum_small hxa (by omega), sum_small hxb (by omega), ?_, ?_⟩
  · rw [sum_small hx (by simp; omega), total_app]
  · have h1 := total_bound hxa
    have h2 := total_bound hxb
    have f1 : fits (total a) = true := by rw [fits_iff]; omega
    have f2 : fits (total b) = true := by rw [fits_iff]; omega
    have f3 : fits (total a + total b) = true := by rw [fits_iff]; omega
    simp [told, f1, f2, f3]

end Wb
end Go.Proofs.YtnefdpnolojojaaGreat
/- Plain facts for chapter 27 (slip). No program in sight. -/
namespace Go.Proofs.YtnefdpnolojojaaGreat
namespace Wb

/-! ### texts by their bytes -/
theorem blt_irrefl : ∀ a : List UInt8, Op.bytesLess a a = false
  | [] => rfl
  | x :: r => by simp [Op.bytesLess, blt_irrefl r]
theorem blt_asymm : ∀ a b : List UInt8, Op.bytesLess a b = true → Op.bytesLess b a = false
  | _, [], h => by simp [Op.bytesLess] at h
  | [], _ :: _, _ => rfl
  | x :: r, y :: s, h => by
    simp only [Op.bytesLess, Bool.or_eq_true, decide_eq_true_eq, Bool.and_eq_true, beq_iff_eq] at h
    simp only [Op.bytesLess, Bool.or_eq_false_iff, decide_eq_false_iff_not, Bool.and_eq_false_iff]
    rcases h with h | ⟨rfl, h⟩
    · refine ⟨by rw [UInt8.lt_iff_toNat_lt] at *; omega, .inl ?_⟩
      have : ¬ y = x := by rintro rfl; rw [UInt8.lt_iff_toNat_lt] at h; omega
      simpa using this
    · exact ⟨by rw [UInt8.lt_iff_toNat_lt]; omega, .inr (blt_asymm r s h)⟩
theorem blt_total : ∀ a b : List UInt8, Op.bytesLess a b = false → Op.bytesLess b a = false → a = b
  | [], [], _, _ => rfl
  | [], _ :: _, h, _ => by simp [Op.bytesLess] at h
  | _ :: _, [], _, h => by simp [Op.bytesLess] at h
  | x :: r, y :: s, h, k => by
    simp only [Op.bytesLess, Bool.or_eq_false_iff, decide_eq_false_iff_not, Bool.and_eq_false_iff] at h k
    have e : x = y := by
      have h1 := h.1; have k1 := k.1
      rw [UInt8.lt_iff_toNat_lt] at h1 k1
      exact UInt8.toNat_inj.1 (by omega)
    subst e
    rw [blt_total r s (by simpa using h.2) (by simpa using k.2)]
theorem blt_trans : ∀ a b c : List UInt8, Op.bytesLess a b = true → Op.bytesLess b c = true → Op.bytesLess a c = true
  | _, [], _, h, _ => by simp [Op.bytesLess] at h
  | _, _ :: _, [], _, h => by simp [Op.bytesLess] at h
  | [], _ :: _, _ :: _, _, _ => rfl
  | x :: r, y :: s, z :: t, h, k => by
    simp only [Op.bytesLess, Bool.or_eq_true, decide_eq_true_eq, Bool.and_eq_true, beq_iff_eq] at h k ⊢
    rcases h with h | ⟨rfl, h⟩
    · rcases k with k | ⟨rfl, k⟩
      · left; rw [UInt8.lt_iff_toNat_lt] at *; omega
      · exact .inl h
    · rcases k with k | ⟨rfl, k⟩
      · exact .inl k
      · exact .inr ⟨rfl, blt_trans r s t h k⟩

/-! ### lines and slips -/
structure Ln where
  part : Int
  code : List UInt8
  cents : Int

def chOk (b : UInt8) : Bool := (decide (97 ≤ (b.toNat : Int)) && decide ((b.toNat : Int) ≤ 122)) || (decide (48 ≤ (b.toNat : Int)) && decide ((b.toNat : Int) ≤ 57)) || ((b.toNat : Int) == 46) || ((b.toNat : Int) == 95) || ((b.toNat : Int) == 45)
def codeOk (c : List UInt8) : Bool := !c.isEmpty && !(c == [45]) && decide (c.length ≤ 32) && c.all chOk
def lineErr (x : Ln) : Int := if x.part < 0 ∨ 7 ≤ x.part then 11 else if codeOk x.code = false then 12 else if x.cents = 0 then 22 else if fits x.cents = false then 9 else 0
def lnLt (a b : Ln) : Bool := decide (a.part < b.part) || ((a.part == b.part) && Op.bytesLess a.code b.code)
def chk (p : Option Ln) : List Ln → Int
  | [] => 0
  | x :: r => if lineErr x ≠ 0 then lineErr x else
    match p with
    | none => chk (some x) r
    | some q => if q.part = x.part ∧ q.code = x.code then 7 else if lnLt q x = false then 8 else chk (some x) r
def check (y i : Int) (l : List Ln) : Int := if y < 1900 ∨ 2199 < y ∨ i < 1 ∨ 400 < i then 2 else if 448 < l.length then 5 else chk none l
/-- the line ahead of the k'th -/
def ahead (l : List Ln) (k : Nat) : Option Ln := if k = 0 then none else l[k - 1]?

def sumOf (f t : Int) : List Ln → Int
  | [] => 0
  | x :: r => (if f ≤ x.part ∧ x.part ≤ t then x.cents else 0) + sumOf f t r

/-- all are right -/
def Right (y i : Int) (l : List Ln) : Prop := check y i l = 0

theorem lnLt_irrefl (a : Ln) : lnLt a a = false := by simp [lnLt, blt_irrefl]
theorem lnLt_total {a b : Ln} (h : lnLt a b = false) (k : lnLt b a = false) : a.part = b.part ∧ a.code = b.code := by
  simp only [lnLt, Bool.or_eq_false_iff, decide_eq_false_iff_not, Bool.and_eq_false_iff, beq_eq_false_iff_ne] at h k
  have e : a.part = b.part := by omega
  refine ⟨e, blt_total _ _ ?_ ?_⟩
  · rcases h.2 with h | h
    · exact absurd e h
    · exact h
  · rcases k.2 with k | k
    · exact absurd e.symm k
    · exact k
theorem lnLt_asymm {a b : Ln} (h : lnLt a b = true) : lnLt b a = false := by
  simp only [lnLt, Bool.or_eq_true, decide_eq_true_eq, Bool.and_eq_true, beq_iff_eq] at h
  simp only [lnLt, Bool.or_eq_false_iff, decide_eq_false_iff_not, Bool.and_eq_false_iff, beq_eq_false_iff_ne]
  rcases h with h | ⟨h1, h2⟩
  · exact ⟨by omega, .inl (by omega)⟩
  · exact ⟨by omega, .inr (blt_asymm _ _ h2)⟩
theorem lnLt_trans {a b c : Ln} (h : lnLt a b = true) (k : lnLt b c = true) : lnLt a c = true := by
  simp only [lnLt, Bool.or_eq_true, decide_eq_true_eq, Bool.and_eq_true, beq_iff_eq] at h k ⊢
  rcases h with h | ⟨h1, h2⟩ <;> rcases k with k | ⟨k1, k2⟩
  · left; omega
  · left; omega
  · left; omega
  · right; exact ⟨by omega, blt_trans _ _ _ h2 k2⟩

theorem codeOk_bad {c : List UInt8} {k : Nat} (hk : k < c.length) (h : chOk (byteAt c k) = false) : codeOk c = false := by
  unfold codeOk
  have : c.all chOk = false := by rw [List.all_eq_false]; exact ⟨_, byteAt_mem hk, by simp [h]⟩
  simp [this]

/-- Go's '>' on texts -/
theorem bgt (a b : List UInt8) : (!Op.bytesLess b a && !(b == a)) = Op.bytesLess a b := by
  cases h : Op.bytesLess a b
  · cases k : Op.bytesLess b a
    · have := blt_total _ _ h k; subst this; simp
    · simp
  · have := blt_asymm _ _ h
    rw [this]
    have hne : ¬ b = a := by rintro rfl; rw [blt_irrefl] at h; cases h
    simpa using hne

theorem chk_none {x : Ln} (h : lineErr x = 0) (r : List Ln) : chk none (x :: r) = chk (some x) r := by simp [chk, h]
theorem chk_some {x : Ln} (h : lineErr x = 0) (q : Ln) (r : List Ln) : chk (some q) (x :: r) = if q.part = x.part ∧ q.code = x.code then 7 else if lnLt q x = false then 8 else chk (some x) r := by simp [chk, h]
theorem chk_err {x : Ln} (h : lineErr x ≠ 0) (p : Option Ln) (r : List Ln) : chk p (x :: r) = lineErr x := by cases p <;> simp [chk, h]
theorem ahead_zero (l : List Ln) : ahead l 0 = none := rfl
theorem ahead_succ {l : List Ln} {k : Nat} : ahead l (k + 1) = l[k]? := by simp [ahead]

theorem sumOf_app (f t : Int) (a b : List Ln) : sumOf f t (a ++ b) = sumOf f t a + sumOf f t b := by
  induction a with
  | nil => simp [sumOf]
  | cons x r ih => simp only [List.cons_append, sumOf, ih]; omega
theorem sumOf_snoc {f t : Int} {l : List Ln} {k : Nat} {x : Ln} (h : l[k]? = some x) : sumOf f t (l.take (k + 1)) = sumOf f t (l.take k) + (if f ≤ x.part ∧ x.part ≤ t then x.cents else 0) := by
  obtain ⟨h1, h2⟩ := List.getElem?_eq_some_iff.1 h
  rw [List.take_succ_eq_append_getElem h1, sumOf_app, h2]; simp [sumOf]
def Cfit (l : List Ln) : Prop := ∀ x ∈ l, -1125899906842624 ≤ x.cents ∧ x.cents ≤ 1125899906842624
theorem sumOf_bound {f t : Int} : ∀ {l : List Ln}, Cfit l → -(1125899906842624 * l.length : Int) ≤ sumOf f t l ∧ sumOf f t l ≤ 1125899906842624 * l.length := by
  intro l
  induction l with
  | nil => intro _; simp [sumOf]
  | cons x r ih =>
    intro h
    have h1 := ih fun y hy => h y (by simp [hy])
    have h2 := h x (by simp)
    simp only [sumOf, List.length_cons]
    split <;> omega
theorem sumOf_take_bound {f t : Int} {l : List Ln} (h : Cfit l) (hl : l.length ≤ 448) (k : Nat) : -504403158265495552 ≤ sumOf f t (l.take k) ∧ sumOf f t (l.take k) ≤ 504403158265495552 := by
  have := sumOf_bound (f := f) (t := t) (l := l.take k) fun x hx => h x (List.mem_of_mem_take hx)
  have hk : (l.take k).length ≤ 448 := by simp; omega
  omega
theorem lineErr_ok {x : Ln} (h : lineErr x = 0) : 0 ≤ x.part ∧ x.part ≤ 6 ∧ codeOk x.code = true ∧ x.cents ≠ 0 ∧ fits x.cents = true := by
  unfold lineErr at h
  split at h
  · omega
  · split at h
    · omega
    · split at h
      · omega
      · split at h
        · omega
        · rename_i h1 h2 h3 h4
          refine ⟨by omega, by omega, by simpa using h2, h3, by simpa using h4⟩
theorem chk_lines : ∀ {l : List Ln} {p : Option Ln}, chk p l = 0 → ∀ x ∈ l, lineErr x = 0 := by
  intro l
  induction l with
  | nil => intro _ _ x hx; cases hx
  | cons y r ih =>
    intro p h x hx
    by_cases hy : lineErr y = 0
    · have hr : ∀ x ∈ r, lineErr x = 0 := by
        cases p with
        | none => rw [chk_none hy] at h; exact ih h
        | some q =>
          rw [chk_some hy] at h
          split at h
          · omega
          · split at h
            · omega
            · exact ih h
      rcases List.mem_cons.1 hx with rfl | hx
      · exact hy
      · exact hr x hx
    · rw [chk_err hy] at h; exact absurd h hy
theorem check_ok {y i : Int} {l : List Ln} (h : check y i l = 0) : 1900 ≤ y ∧ y ≤ 2199 ∧ 1 ≤ i ∧ i ≤ 400 ∧ l.length ≤ 448 ∧ chk none l = 0 ∧ ∀ x ∈ l, lineErr x = 0 := by
  unfold check at h
  split at h
  · omega
  · split at h
    · omega
    · exact ⟨by omega, by omega, by omega, by omega, by omega, h, chk_lines h⟩
theorem check_fit {y i : Int} {l : List Ln} (h : check y i l = 0) : Cfit l := fun x hx => (fits_iff _).1 (lineErr_ok ((check_ok h).2.2.2.2.2.2 x hx)).2.2.2.2

/-- the four sums, and the error -/
def sums (y i : Int) (l : List Ln) : Int × Int × Int × Int × Int :=
  if check y i l ≠ 0 then (0, 0, 0, 0, check y i l) else
  if fits (sumOf 0 0 l) = true ∧ fits (sumOf 1 5 l) = true ∧ fits (sumOf 0 0 l - sumOf 1 5 l) = true ∧ fits (sumOf 6 6 l) = true then (sumOf 0 0 l, sumOf 1 5 l, sumOf 0 0 l - sumOf 1 5 l, sumOf 6 6 l, 0) else (0, 0, 0, 0, 9)
theorem sumOf_parts (l : List Ln) : sumOf 1 1 l + sumOf 2 2 l + sumOf 3 3 l + sumOf 4 4 l + sumOf 5 5 l = sumOf 1 5 l := by
  induction l with
  | nil => rfl
  | cons x r ih =>
    simp only [sumOf]
    by_cases h1 : x.part = 1
    · simp [h1]; omega
    · by_cases h2 : x.part = 2
      · simp [h2]; omega
      · by_cases h3 : x.part = 3
        · simp [h3]; omega
        · by_cases h4 : x.part = 4
          · simp [h4]; omega
          · by_cases h5 : x.part = 5
            · simp [h5]; omega
            · rw [if_neg (by omega), if_neg (by omega), if_neg (by omega), if_neg (by omega), if_neg (by omega), if_neg (by omega)]; omega

theorem sumOf_all_bound {f t : Int} {l : List Ln} (h : Cfit l) (hl : l.length ≤ 448) : -504403158265495552 ≤ sumOf f t l ∧ sumOf f t l ≤ 504403158265495552 := by
  have := sumOf_take_bound (f := f) (t := t) h hl l.length
  rwa [List.take_length] at this
/-- of a right slip -/
theorem sums_ok {y i : Int} {l : List Ln} (h : check y i l = 0) {g a f : Int} (hg : sumOf 0 0 l = g) (ha : sumOf 1 5 l = a) (hf : sumOf 6 6 l = f) (h1 : fits g = true) (h2 : fits a = true) (h3 : fits (g - a) = true) (h4 : fits f = true) : sums y i l = (g, a, g - a, f, 0) := by
  subst hg ha hf; rw [sums, if_neg (by rw [h]; simp), if_pos ⟨h1, h2, h3, h4⟩]
theorem sums_over {y i : Int} {l : List Ln} (h : check y i l = 0) {g a f : Int} (hg : sumOf 0 0 l = g) (ha : sumOf 1 5 l = a) (hf : sumOf 6 6 l = f) (hn : ¬ (fits g = true ∧ fits a = true ∧ fits (g - a) = true ∧ fits f = true)) : sums y i l = (0, 0, 0, 0, 9) := by
  subst hg ha hf; rw [sums, if_neg (by rw [h]; simp), if_neg hn]

end Wb
end Go.Proofs.YtnefdpnolojojaaGreat
/- More plain facts for chapter 27. -/
namespace Go.Proofs.YtnefdpnolojojaaGreat
namespace Wb

/-! ### the law's own: few lines, the items of a part -/
def sizeOf (l : List Ln) : Int := l.foldr (fun x n => 1 + (x.code.length : Int) + n) 0
def small (l : List Ln) : Bool := decide (sizeOf l ≤ 20000)
theorem sizeOf_nil : sizeOf [] = 0 := rfl
theorem sizeOf_cons (x : Ln) (r : List Ln) : sizeOf (x :: r) = 1 + (x.code.length : Int) + sizeOf r := rfl
theorem sizeOf_app (a b : List Ln) : sizeOf (a ++ b) = sizeOf a + sizeOf b := by
  induction a with
  | nil => simp [sizeOf_nil]
  | cons x r ih => simp only [List.cons_append, sizeOf_cons, ih]; omega
theorem sizeOf_snoc {l : List Ln} {k : Nat} {x : Ln} (h : l[k]? = some x) : sizeOf (l.take (k + 1)) = sizeOf (l.take k) + (1 + (x.code.length : Int)) := by
  obtain ⟨h1, h2⟩ := List.getElem?_eq_some_iff.1 h
  rw [List.take_succ_eq_append_getElem h1, sizeOf_app, h2, sizeOf_cons, sizeOf_nil]; omega
theorem sizeOf_bound {l : List Ln} (h : ∀ x ∈ l, x.code.length ≤ 1048576) : 0 ≤ sizeOf l ∧ sizeOf l ≤ 1048577 * l.length := by
  induction l with
  | nil => simp [sizeOf_nil]
  | cons x r ih =>
    have h1 := ih fun y hy => h y (by simp [hy])
    have h2 := h x (by simp)
    simp only [sizeOf_cons, List.length_cons]
    omega
def partOf (p : Int) (l : List Ln) : List Ln := l.filter fun x => x.part == p
theorem partOf_snoc {p : Int} {l : List Ln} {k : Nat} {x : Ln} (h : l[k]? = some x) : partOf p (l.take (k + 1)) = if x.part = p then partOf p (l.take k) ++ [x] else partOf p (l.take k) := by
  obtain ⟨h1, h2⟩ := List.getElem?_eq_some_iff.1 h
  rw [List.take_succ_eq_append_getElem h1, partOf, List.filter_append, h2]
  by_cases hp : x.part = p
  · simp [hp, partOf]
  · simp [hp, partOf]

end Wb
end Go.Proofs.YtnefdpnolojojaaGreat
/- Plain facts for chapter 27: a right slip's lines rise; its parts lie one behind the other. -/
namespace Go.Proofs.YtnefdpnolojojaaGreat
namespace Wb

theorem chk_rise : ∀ {l : List Ln} {p : Option Ln}, chk p l = 0 → l.Pairwise (fun a b => lnLt a b = true) ∧ ∀ q, p = some q → ∀ x ∈ l, lnLt q x = true := by
  intro l
  induction l with
  | nil => intro p _; exact ⟨List.Pairwise.nil, fun q _ x hx => by cases hx⟩
  | cons y r ih =>
    intro p h
    have hy : lineErr y = 0 := chk_lines h y (by simp)
    have hr : chk (some y) r = 0 ∧ ∀ q, p = some q → lnLt q y = true := by
      cases p with
      | none => rw [chk_none hy] at h; exact ⟨h, fun q hq => by cases hq⟩
      | some q =>
        rw [chk_some hy] at h
        split at h
        · omega
        · split at h
          · omega
          · rename_i hl
            exact ⟨h, fun q' hq => by cases hq; simpa using hl⟩
    obtain ⟨h1, h2⟩ := ih hr.1
    refine ⟨List.Pairwise.cons (fun x hx => h2 y rfl x hx) h1, fun q hq x hx => ?_⟩
    rcases List.mem_cons.1 hx with rfl | hx
    · exact hr.2 q hq
    · exact lnLt_trans (hr.2 q hq) (h2 y rfl x hx)

theorem lnLt_part {a b : Ln} (h : lnLt a b = true) : a.part ≤ b.part := by
  simp only [lnLt, Bool.or_eq_true, decide_eq_true_eq, Bool.and_eq_true, beq_iff_eq] at h
  rcases h with h | h <;> omega

def below (k : Int) (l : List Ln) : List Ln := l.filter fun x => decide (x.part < k)
theorem parts_split {k : Int} : ∀ {l : List Ln}, l.Pairwise (fun a b => lnLt a b = true) → ∃ rest, l = below k l ++ (partOf k l ++ rest) := by
  intro l
  induction l with
  | nil => intro _; exact ⟨[], rfl⟩
  | cons x r ih =>
    intro h
    obtain ⟨h1, h2⟩ := List.pairwise_cons.1 h
    obtain ⟨rest, hr⟩ := ih h2
    by_cases hx : x.part < k
    · refine ⟨rest, ?_⟩
      have e1 : below k (x :: r) = x :: below k r := by simp [below, hx]
      have e2 : partOf k (x :: r) = partOf k r := by
        have : ¬ x.part = k := by omega
        simp [partOf, this]
      rw [e1, e2, List.cons_append, ← hr]
    · have e0 : below k r = [] := by
        simp only [below, List.filter_eq_nil_iff, decide_eq_true_eq]
        intro y hy
        have := lnLt_part (h1 y hy)
        omega
      by_cases hk : x.part = k
      · refine ⟨rest, ?_⟩
        have e1 : below k (x :: r) = [] := by simp only [below, List.filter_cons, decide_eq_true_eq]; rw [if_neg hx]; exact e0
        have e2 : partOf k (x :: r) = x :: partOf k r := by simp [partOf, hk]
        rw [e0, List.nil_append] at hr
        rw [e1, e2, List.nil_append, List.cons_append, ← hr]
      · refine ⟨x :: r, ?_⟩
        have e1 : below k (x :: r) = [] := by simp only [below, List.filter_cons, decide_eq_true_eq]; rw [if_neg hx]; exact e0
        have e2 : partOf k (x :: r) = [] := by
          simp only [partOf, List.filter_eq_nil_iff, beq_iff_eq]
          intro y hy
          rcases List.mem_cons.1 hy with rfl | hy
          · exact hk
          · have := lnLt_part (h1 y hy); omega
        rw [e1, e2]; rfl
theorem below_succ (k : Int) (l : List Ln) : (below (k + 1) l).length = (below k l).length + (partOf k l).length := by
  induction l with
  | nil => rfl
  | cons x r ih =>
    simp only [below, partOf, List.filter_cons] at ih ⊢
    by_cases h1 : x.part < k
    · have h2 : x.part < k + 1 := by omega
      have h3 : ¬ x.part = k := by omega
      simp [h1, h2, h3]; omega
    · by_cases h3 : x.part = k
      · have h2 : k < k + 1 := by omega
        simp [h3, h2]; omega
      · have h2 : ¬ x.part < k + 1 := by omega
        simp [h1, h2, h3]; omega
theorem parts_get {k : Int} {l : List Ln} (h : l.Pairwise (fun a b => lnLt a b = true)) {j : Nat} {x : Ln} (hj : (partOf k l)[j]? = some x) : l[(below k l).length + j]? = some x := by
  obtain ⟨rest, hr⟩ := parts_split (k := k) h
  obtain ⟨hlt, _⟩ := List.getElem?_eq_some_iff.1 hj
  generalize hb : below k l = b at hr ⊢
  generalize hp : partOf k l = p at hr hj hlt
  rw [hr, List.getElem?_append_right (by omega), List.getElem?_append_left (by omega)]
  simpa using hj
theorem part_of {k : Int} {l : List Ln} {j : Nat} {x : Ln} (hj : (partOf k l)[j]? = some x) : x.part = k := by
  have := List.mem_of_getElem? hj
  simp [partOf] at this; exact this.2
theorem below_all {l : List Ln} (h : ∀ x ∈ l, lineErr x = 0) : below 7 l = l ∧ below 0 l = [] := by
  constructor
  · rw [below, List.filter_eq_self]
    intro x hx
    have := lineErr_ok (h x hx)
    simp; omega
  · rw [below, List.filter_eq_nil_iff]
    intro x hx
    have := lineErr_ok (h x hx)
    simp; omega
theorem part_none {l : List Ln} (h : ∀ x ∈ l, lineErr x = 0) {p : Int} (hp : p < 0 ∨ 6 < p) : partOf p l = [] := by
  rw [partOf, List.filter_eq_nil_iff]
  intro x hx
  have := lineErr_ok (h x hx)
  simp; omega

end Wb
end Go.Proofs.YtnefdpnolojojaaGreat
/- Plain facts for chapter 27: merging. -/
namespace Go.Proofs.YtnefdpnolojojaaGreat
namespace Wb

/-- the lines of both, or none: an amount that does not fit -/
def mergeL : List Ln → List Ln → Option (List Ln)
  | [], b => some b
  | a, [] => some a
  | x :: a, y :: b =>
    if lnLt x y = true then (mergeL a (y :: b)).map (x :: ·)
    else if lnLt y x = true then (mergeL (x :: a) b).map (y :: ·)
    else if fits (x.cents + y.cents) = false then none
    else if x.cents + y.cents = 0 then mergeL a b
    else (mergeL a b).map (⟨x.part, x.code, x.cents + y.cents⟩ :: ·)
termination_by a b => a.length + b.length

/-- the error, and the slip -/
def merge (y i : Int) (a : List Ln) (y' i' : Int) (b : List Ln) : Int × Int × Int × List Ln :=
  if check y i a ≠ 0 then (check y i a, 0, 0, [])
  else if check y' i' b ≠ 0 then (check y' i' b, 0, 0, [])
  else if y ≠ y' ∨ i ≠ i' then (18, 0, 0, [])
  else match mergeL a b with
    | none => (9, 0, 0, [])
    | some l => if 448 < l.length then (5, 0, 0, []) else (0, y, i, l)

/-- what a list has at a part and a code -/
def lval (p : Int) (c : List UInt8) : List Ln → Int
  | [] => 0
  | x :: r => (if x.part = p ∧ x.code = c then x.cents else 0) + lval p c r

def Rise (l : List Ln) : Prop := l.Pairwise (fun a b => lnLt a b = true)
def NonZ (l : List Ln) : Prop := ∀ x ∈ l, x.cents ≠ 0

theorem lnLt_ne {a b : Ln} (h : lnLt a b = true) : ¬ (b.part = a.part ∧ b.code = a.code) := by
  rintro ⟨h1, h2⟩
  simp [lnLt, h1, h2, blt_irrefl] at h
theorem lnLt_key {a b a' b' : Ln} (h1 : a.part = a'.part) (h2 : a.code = a'.code) (h3 : b.part = b'.part) (h4 : b.code = b'.code) : lnLt a b = lnLt a' b' := by
  simp [lnLt, h1, h2, h3, h4]
theorem val_behind {x : Ln} {l : List Ln} (h : ∀ z ∈ l, lnLt x z = true) : lval x.part x.code l = 0 := by
  induction l with
  | nil => rfl
  | cons z r ih =>
    have hz := lnLt_ne (h z (by simp))
    rw [lval, if_neg hz, ih fun q hq => h q (by simp [hq])]; rfl
theorem val_zero {l : List Ln} (hr : Rise l) (hn : NonZ l) (h : ∀ p c, lval p c l = 0) : l = [] := by
  cases l with
  | nil => rfl
  | cons x r =>
    have h1 := h x.part x.code
    obtain ⟨h2, _⟩ := List.pairwise_cons.1 hr
    rw [lval, if_pos ⟨rfl, rfl⟩, val_behind h2] at h1
    exact absurd (by omega) (hn x (by simp))
/-- rising lists without nothings are told by what they have -/
theorem val_inj : ∀ {a b : List Ln}, Rise a → Rise b → NonZ a → NonZ b → (∀ p c, lval p c a = lval p c b) → a = b := by
  intro a
  induction a with
  | nil => intro b _ hb _ hn h; exact (val_zero hb hn fun p c => (h p c).symm).symm
  | cons x r ih =>
    intro b ha hb hna hnb h
    cases b with
    | nil => exact val_zero ha hna h
    | cons y s =>
      obtain ⟨hx, hr⟩ := List.pairwise_cons.1 ha
      obtain ⟨hy, hs⟩ := List.pairwise_cons.1 hb
      have hxy : lnLt x y = false := by
        cases hl : lnLt x y with
        | false => rfl
        | true =>
          have h1 := h x.part x.code
          rw [lval, if_pos ⟨rfl, rfl⟩, val_behind hx, val_behind (x := x) (l := y :: s) (fun z hz => (List.mem_cons.1 hz).elim (fun e => e ▸ hl) (fun e => lnLt_trans hl (hy z e)))] at h1
          exact absurd (by omega) (hna x (by simp))
      have hyx : lnLt y x = false := by
        cases hl : lnLt y x with
        | false => rfl
        | true =>
          have h1 := h y.part y.code
          rw [val_behind (x := y) (l := x :: r) (fun z hz => (List.mem_cons.1 hz).elim (fun e => e ▸ hl) (fun e => lnLt_trans hl (hx z e))), lval, if_pos ⟨rfl, rfl⟩, val_behind hy] at h1
          exact absurd (by omega) (hnb y (by simp))
      obtain ⟨hp, hc⟩ := lnLt_total hxy hyx
      have hn : x.cents = y.cents := by
        have h1 := h x.part x.code
        rw [lval, if_pos ⟨rfl, rfl⟩, val_behind hx, lval, if_pos ⟨hp.symm, hc.symm⟩, hp, hc, val_behind hy] at h1
        omega
      have hxe : x = y := by cases x; cases y; simp_all
      subst hxe
      rw [ih hr hs (fun z hz => hna z (by simp [hz])) (fun z hz => hnb z (by simp [hz])) fun p c => by have := h p c; simp only [lval] at this; omega]

/-- what a merged list has -/
theorem mergeL_val : ∀ {a b l : List Ln}, mergeL a b = some l → ∀ p c, lval p c l = lval p c a + lval p c b := by
  intro a b
  induction a, b using mergeL.induct with
  | case1 b => intro l h p c; rw [mergeL] at h; cases h; simp [lval]
  | case2 a ha => intro l h p c; rw [mergeL] at h <;> first | (cases h; simp [lval]) | exact ha
  | case3 x a y b hxy ih =>
    intro l h p c
    rw [mergeL, if_pos hxy] at h
    obtain ⟨m, hm, rfl⟩ := Option.map_eq_some_iff.1 h
    have := ih hm p c; simp only [lval] at this ⊢; omega
  | case4 x a y b hxy hyx ih =>
    intro l h p c
    rw [mergeL, if_neg hxy, if_pos hyx] at h
    obtain ⟨m, hm, rfl⟩ := Option.map_eq_some_iff.1 h
    have := ih hm p c; simp only [lval] at this ⊢; omega
  | case5 x a y b hxy hyx hf =>
    intro l h; rw [mergeL, if_neg hxy, if_neg hyx, if_pos hf] at h; cases h
  | case6 x a y b hxy hyx hf hz ih =>
    intro l h p c
    rw [mergeL, if_neg hxy, if_neg hyx, if_neg hf, if_pos hz] at h
    obtain ⟨hp, hc⟩ := lnLt_total (by simpa using hxy) (by simpa using hyx)
    have := ih h p c
    simp only [lval, hp, hc]; split <;> omega
  | case7 x a y b hxy hyx hf hz ih =>
    intro l h p c
    rw [mergeL, if_neg hxy, if_neg hyx, if_neg hf, if_neg hz] at h
    obtain ⟨m, hm, rfl⟩ := Option.map_eq_some_iff.1 h
    obtain ⟨hp, hc⟩ := lnLt_total (by simpa using hxy) (by simpa using hyx)
    have := ih hm p c
    simp only [lval, hp, hc]; split <;> omega

/-- a merged list rises, has no nothings, and its keys are keys of one of both -/
theorem mergeL_keys : ∀ {a b l : List Ln}, mergeL a b = some l → ∀ x ∈ l, ∃ z, (z ∈ a ∨ z ∈ b) ∧ x.part = z.part ∧ x.code = z.code := by
  intro a b
  induction a, b using mergeL.induct with
  | case1 b => intro l h x hx; rw [mergeL] at h; cases h; exact ⟨x, .inr hx, rfl, rfl⟩
  | case2 a ha => intro l h x hx; rw [mergeL] at h <;> first | (cases h; exact ⟨x, .inl hx, rfl, rfl⟩) | exact ha
  | case3 x a y b hxy ih =>
    intro l h q hq
    rw [mergeL, if_pos hxy] at h
    obtain ⟨m, hm, rfl⟩ := Option.map_eq_some_iff.1 h
    rcases List.mem_cons.1 hq with rfl | hq
    · exact ⟨q, .inl (by simp), rfl, rfl⟩
    · obtain ⟨z, hz, e⟩ := ih hm q hq
      exact ⟨z, by rcases hz with hz | hz; exact .inl (by simp [hz]); exact .inr hz, e⟩
  | case4 x a y b hxy hyx ih =>
    intro l h q hq
    rw [mergeL, if_neg hxy, if_pos hyx] at h
    obtain ⟨m, hm, rfl⟩ := Option.map_eq_some_iff.1 h
    rcases List.mem_cons.1 hq with rfl | hq
    · exact ⟨q, .inr (by simp), rfl, rfl⟩
    · obtain ⟨z, hz, e⟩ := ih hm q hq
      exact ⟨z, by rcases hz with hz | hz; exact .inl hz; exact .inr (by simp [hz]), e⟩
  | case5 x a y b hxy hyx hf =>
    intro l h; rw [mergeL, if_neg hxy, if_neg hyx, if_pos hf] at h; cases h
  | case6 x a y b hxy hyx hf hz ih =>
    intro l h q hq
    rw [mergeL, if_neg hxy, if_neg hyx, if_neg hf, if_pos hz] at h
    obtain ⟨z, hz, e⟩ := ih h q hq
    exact ⟨z, by rcases hz with hz | hz; exact .inl (by simp [hz]); exact .inr (by simp [hz]), e⟩
  | case7 x a y b hxy hyx hf hz ih =>
    intro l h q hq
    rw [mergeL, if_neg hxy, if_neg hyx, if_neg hf, if_neg hz] at h
    obtain ⟨m, hm, rfl⟩ := Option.map_eq_some_iff.1 h
    rcases List.mem_cons.1 hq with rfl | hq
    · exact ⟨x, .inl (by simp), rfl, rfl⟩
    · obtain ⟨z, hz, e⟩ := ih hm q hq
      exact ⟨z, by rcases hz with hz | hz; exact .inl (by simp [hz]); exact .inr (by simp [hz]), e⟩

theorem rise_cons {x : Ln} {a b m : List Ln} (hm : mergeL a b = some m) (ha : ∀ z ∈ a, lnLt x z = true) (hb : ∀ z ∈ b, lnLt x z = true) (hr : Rise m) {x' : Ln} (h1 : x'.part = x.part) (h2 : x'.code = x.code) : Rise (x' :: m) := by
  refine List.Pairwise.cons (fun q hq => ?_) hr
  obtain ⟨z, hz, e1, e2⟩ := mergeL_keys hm q hq
  rw [lnLt_key h1 h2 e1 e2]
  rcases hz with hz | hz
  · exact ha z hz
  · exact hb z hz
theorem mergeL_rise : ∀ {a b l : List Ln}, mergeL a b = some l → Rise a → Rise b → NonZ a → NonZ b → Rise l ∧ NonZ l := by
  intro a b
  induction a, b using mergeL.induct with
  | case1 b => intro l h _ hb _ hn; rw [mergeL] at h; cases h; exact ⟨hb, hn⟩
  | case2 a ha => intro l h hr _ hn _; rw [mergeL] at h <;> first | (cases h; exact ⟨hr, hn⟩) | exact ha
  | case3 x a y b hxy ih =>
    intro l h ha hb hna hnb
    rw [mergeL, if_pos hxy] at h
    obtain ⟨m, hm, rfl⟩ := Option.map_eq_some_iff.1 h
    obtain ⟨h1, h2⟩ := List.pairwise_cons.1 ha
    obtain ⟨h3, _⟩ := List.pairwise_cons.1 hb
    obtain ⟨i1, i2⟩ := ih hm h2 hb (fun z hz => hna z (by simp [hz])) hnb
    exact ⟨rise_cons hm h1 (fun z hz => (List.mem_cons.1 hz).elim (fun e => e ▸ hxy) (fun e => lnLt_trans hxy (h3 z e))) i1 rfl rfl, fun z hz => (List.mem_cons.1 hz).elim (fun e => e ▸ hna x (by simp)) (fun e => i2 z e)⟩
  | case4 x a y b hxy hyx ih =>
    intro l h ha hb hna hnb
    rw [mergeL, if_neg hxy, if_pos hyx] at h
    obtain ⟨m, hm, rfl⟩ := Option.map_eq_some_iff.1 h
    obtain ⟨h1, h2⟩ := List.pairwise_cons.1 hb
    obtain ⟨h3, _⟩ := List.pairwise_cons.1 ha
    obtain ⟨i1, i2⟩ := ih hm ha h2 hna (fun z hz => hnb z (by simp [hz]))
    exact ⟨rise_cons hm (fun z hz => (List.mem_cons.1 hz).elim (fun e => e ▸ hyx) (fun e => lnLt_trans hyx (h3 z e))) h1 i1 rfl rfl, fun z hz => (List.mem_cons.1 hz).elim (fun e => e ▸ hnb y (by simp)) (fun e => i2 z e)⟩
  | case5 x a y b hxy hyx hf =>
    intro l h; rw [mergeL, if_neg hxy, if_neg hyx, if_pos hf] at h; cases h
  | case6 x a y b hxy hyx hf hz ih =>
    intro l h ha hb hna hnb
    rw [mergeL, if_neg hxy, if_neg hyx, if_neg hf, if_pos hz] at h
    exact ih h (List.pairwise_cons.1 ha).2 (List.pairwise_cons.1 hb).2 (fun z hz => hna z (by simp [hz])) (fun z hz => hnb z (by simp [hz]))
  | case7 x a y b hxy hyx hf hz ih =>
    intro l h ha hb hna hnb
    rw [mergeL, if_neg hxy, if_neg hyx, if_neg hf, if_neg hz] at h
    obtain ⟨m, hm, rfl⟩ := Option.map_eq_some_iff.1 h
    obtain ⟨h1, h2⟩ := List.pairwise_cons.1 ha
    obtain ⟨h3, h4⟩ := List.pairwise_cons.1 hb
    obtain ⟨i1, i2⟩ := ih hm h2 h4 (fun z hz => hna z (by simp [hz])) (fun z hz => hnb z (by simp [hz]))
    obtain ⟨hp, hc⟩ := lnLt_total (by simpa using hxy) (by simpa using hyx)
    exact ⟨rise_cons (x := x) hm h1 (fun z hz => by rw [lnLt_key hp hc (rfl : z.part = z.part) rfl]; exact h3 z hz) i1 rfl rfl, fun z hz' => (List.mem_cons.1 hz').elim (fun e => e ▸ hz) (fun e => i2 z e)⟩

end Wb
end Go.Proofs.YtnefdpnolojojaaGreat
/- Plain facts for chapter 27: the steps of a merge. -/
namespace Go.Proofs.YtnefdpnolojojaaGreat
namespace Wb

theorem mergeL_nil_right (a : List Ln) : mergeL a [] = some a := by cases a <;> rw [mergeL]; simp
theorem step_x {x : Ln} {a b : List Ln} (h : b = [] ∨ ∃ y b', b = y :: b' ∧ lnLt x y = true) : mergeL (x :: a) b = (mergeL a b).map (x :: ·) := by
  rcases h with rfl | ⟨y, b', rfl, h⟩
  · rw [mergeL_nil_right, mergeL_nil_right]; rfl
  · rw [mergeL, if_pos h]
theorem step_y {y : Ln} {a b : List Ln} (h : a = [] ∨ ∃ x a', a = x :: a' ∧ lnLt x y = false ∧ lnLt y x = true) : mergeL a (y :: b) = (mergeL a b).map (y :: ·) := by
  rcases h with rfl | ⟨x, a', rfl, h1, h2⟩
  · rw [mergeL, mergeL]; rfl
  · rw [mergeL, if_neg (by rw [h1]; simp), if_pos h2]
theorem step_over {x y : Ln} {a b : List Ln} (h1 : lnLt x y = false) (h2 : lnLt y x = false) (h3 : fits (x.cents + y.cents) = false) : mergeL (x :: a) (y :: b) = none := by
  rw [mergeL, if_neg (by rw [h1]; simp), if_neg (by rw [h2]; simp), if_pos h3]
theorem step_none {x y : Ln} {a b : List Ln} (h1 : lnLt x y = false) (h2 : lnLt y x = false) (h3 : fits (x.cents + y.cents) = true) (h4 : x.cents + y.cents = 0) : mergeL (x :: a) (y :: b) = mergeL a b := by
  rw [mergeL, if_neg (by rw [h1]; simp), if_neg (by rw [h2]; simp), if_neg (by rw [h3]; simp), if_pos h4]
theorem step_both {x y : Ln} {a b : List Ln} (h1 : lnLt x y = false) (h2 : lnLt y x = false) (h3 : fits (x.cents + y.cents) = true) (h4 : ¬ x.cents + y.cents = 0) : mergeL (x :: a) (y :: b) = (mergeL a b).map (⟨x.part, x.code, x.cents + y.cents⟩ :: ·) := by
  rw [mergeL, if_neg (by rw [h1]; simp), if_neg (by rw [h2]; simp), if_neg (by rw [h3]; simp), if_neg h4]
theorem map_done {o : Option (List Ln)} {d : List Ln} {x : Ln} : (o.map (x :: ·)).map (d ++ ·) = o.map ((d ++ [x]) ++ ·) := by
  cases o <;> simp

/-- sums of a merged list -/
theorem sumOf_merge {f t : Int} : ∀ {a b l : List Ln}, mergeL a b = some l → sumOf f t l = sumOf f t a + sumOf f t b := by
  intro a b
  induction a, b using mergeL.induct with
  | case1 b => intro l h; rw [mergeL] at h; cases h; simp [sumOf]
  | case2 a ha => intro l h; rw [mergeL] at h <;> first | (cases h; simp [sumOf]) | exact ha
  | case3 x a y b hxy ih =>
    intro l h
    rw [mergeL, if_pos hxy] at h
    obtain ⟨m, hm, rfl⟩ := Option.map_eq_some_iff.1 h
    have := ih hm; simp only [sumOf] at this ⊢; omega
  | case4 x a y b hxy hyx ih =>
    intro l h
    rw [mergeL, if_neg hxy, if_pos hyx] at h
    obtain ⟨m, hm, rfl⟩ := Option.map_eq_some_iff.1 h
    have := ih hm; simp only [sumOf] at this ⊢; omega
  | case5 x a y b hxy hyx hf =>
    intro l h; rw [mergeL, if_neg hxy, if_neg hyx, if_pos hf] at h; cases h
  | case6 x a y b hxy hyx hf hz ih =>
    intro l h
    rw [mergeL, if_neg hxy, if_neg hyx, if_neg hf, if_pos hz] at h
    obtain ⟨hp, hc⟩ := lnLt_total (by simpa using hxy) (by simpa using hyx)
    have := ih h
    simp only [sumOf, hp]; split <;> omega
  | case7 x a y b hxy hyx hf hz ih =>
    intro l h
    rw [mergeL, if_neg hxy, if_neg hyx, if_neg hf, if_neg hz] at h
    obtain ⟨m, hm, rfl⟩ := Option.map_eq_some_iff.1 h
    obtain ⟨hp, hc⟩ := lnLt_total (by simpa using hxy) (by simpa using hyx)
    have := ih hm
    simp only [sumOf, hp]; split <;> omega

end Wb
end Go.Proofs.YtnefdpnolojojaaGreat
/- Plain facts for chapter 27: what is merged is right, in either order the same, and which two first. -/
namespace Go.Proofs.YtnefdpnolojojaaGreat
namespace Wb

theorem mergeL_comm : ∀ a b : List Ln, mergeL a b = mergeL b a := by
  intro a b
  induction a, b using mergeL.induct with
  | case1 b => rw [mergeL_nil_right, mergeL]
  | case2 a ha => rw [mergeL_nil_right, mergeL]
  | case3 x a y b hxy ih => rw [mergeL, if_pos hxy, ih, step_y (.inr ⟨y, b, rfl, lnLt_asymm hxy, hxy⟩)]
  | case4 x a y b hxy hyx ih => rw [mergeL, if_neg hxy, if_pos hyx, ih, step_x (.inr ⟨x, a, rfl, hyx⟩)]
  | case5 x a y b hxy hyx hf =>
    rw [mergeL, if_neg hxy, if_neg hyx, if_pos hf, step_over (by simpa using hyx) (by simpa using hxy) (by rw [Int.add_comm]; exact hf)]
  | case6 x a y b hxy hyx hf hz ih =>
    rw [mergeL, if_neg hxy, if_neg hyx, if_neg hf, if_pos hz, ih, step_none (by simpa using hyx) (by simpa using hxy) (by rw [Int.add_comm]; simpa using hf) (by omega)]
  | case7 x a y b hxy hyx hf hz ih =>
    obtain ⟨hp, hc⟩ := lnLt_total (by simpa using hxy) (by simpa using hyx)
    rw [mergeL, if_neg hxy, if_neg hyx, if_neg hf, if_neg hz, ih, step_both (by simpa using hyx) (by simpa using hxy) (by rw [Int.add_comm]; simpa using hf) (by omega), hp, hc, Int.add_comm]

theorem chk_of : ∀ {l : List Ln} {p : Option Ln}, Rise l → (∀ x ∈ l, lineErr x = 0) → (∀ q, p = some q → ∀ x ∈ l, lnLt q x = true) → chk p l = 0 := by
  intro l
  induction l with
  | nil => intro p _ _ _; rfl
  | cons x r ih =>
    intro p hr hl hp
    obtain ⟨h1, h2⟩ := List.pairwise_cons.1 hr
    have hx := hl x (by simp)
    have hn := ih (p := some x) h2 (fun z hz => hl z (by simp [hz])) (fun q hq z hz => by cases hq; exact h1 z hz)
    cases p with
    | none => rw [chk_none hx]; exact hn
    | some q =>
      have hq := hp q rfl x (by simp)
      have hne := lnLt_ne hq
      rw [chk_some hx, if_neg (fun e => hne ⟨e.1.symm, e.2.symm⟩), if_neg (by rw [hq]; simp)]
      exact hn
theorem mergeL_fits : ∀ {a b l : List Ln}, mergeL a b = some l → (∀ x ∈ a, fits x.cents = true) → (∀ x ∈ b, fits x.cents = true) → ∀ x ∈ l, fits x.cents = true := by
  intro a b
  induction a, b using mergeL.induct with
  | case1 b => intro l h _ hb; rw [mergeL] at h; cases h; exact hb
  | case2 a ha => intro l h h1 _; rw [mergeL_nil_right] at h; cases h; exact h1
  | case3 x a y b hxy ih =>
    intro l h ha hb
    rw [mergeL, if_pos hxy] at h
    obtain ⟨m, hm, rfl⟩ := Option.map_eq_some_iff.1 h
    exact fun q hq => (List.mem_cons.1 hq).elim (fun e => e ▸ ha x (by simp)) (fun e => ih hm (fun z hz => ha z (by simp [hz])) hb q e)
  | case4 x a y b hxy hyx ih =>
    intro l h ha hb
    rw [mergeL, if_neg hxy, if_pos hyx] at h
    obtain ⟨m, hm, rfl⟩ := Option.map_eq_some_iff.1 h
    exact fun q hq => (List.mem_cons.1 hq).elim (fun e => e ▸ hb y (by simp)) (fun e => ih hm ha (fun z hz => hb z (by simp [hz])) q e)
  | case5 x a y b hxy hyx hf =>
    intro l h; rw [mergeL, if_neg hxy, if_neg hyx, if_pos hf] at h; cases h
  | case6 x a y b hxy hyx hf hz ih =>
    intro l h ha hb
    rw [mergeL, if_neg hxy, if_neg hyx, if_neg hf, if_pos hz] at h
    exact ih h (fun z hz => ha z (by simp [hz])) (fun z hz => hb z (by simp [hz]))
  | case7 x a y b hxy hyx hf hz ih =>
    intro l h ha hb
    rw [mergeL, if_neg hxy, if_neg hyx, if_neg hf, if_neg hz] at h
    obtain ⟨m, hm, rfl⟩ := Option.map_eq_some_iff.1 h
    exact fun q hq => (List.mem_cons.1 hq).elim (fun e => by rw [e]; simpa using hf) (fun e => ih hm (fun z hz => ha z (by simp [hz])) (fun z hz => hb z (by simp [hz])) q e)
theorem lineErr_iff {x : Ln} : lineErr x = 0 ↔ 0 ≤ x.part ∧ x.part ≤ 6 ∧ codeOk x.code = true ∧ x.cents ≠ 0 ∧ fits x.cents = true := by
  refine ⟨lineErr_ok, fun ⟨h1, h2, h3, h4, h5⟩ => ?_⟩
  rw [lineErr, if_neg (by omega), if_neg (by rw [h3]; simp), if_neg h4, if_neg (by rw [h5]; simp)]
theorem rise_of {y i : Int} {l : List Ln} (h : check y i l = 0) : Rise l ∧ NonZ l ∧ (∀ x ∈ l, lineErr x = 0) := by
  obtain ⟨_, _, _, _, _, hc, hl⟩ := check_ok h
  exact ⟨(chk_rise hc).1, fun x hx => (lineErr_ok (hl x hx)).2.2.2.1, hl⟩
/-- what is merged of right slips is right -/
theorem merge_right {y i : Int} {a b l : List Ln} (ha : check y i a = 0) (hb : check y i b = 0) (h : mergeL a b = some l) (hn : l.length ≤ 448) : check y i l = 0 := by
  obtain ⟨ra, na, la⟩ := rise_of ha
  obtain ⟨rb, nb, lb⟩ := rise_of hb
  obtain ⟨rl, nl⟩ := mergeL_rise h ra rb na nb
  obtain ⟨h1, h2, h3, h4, _⟩ := check_ok ha
  rw [check, if_neg (by omega), if_neg (by omega)]
  refine chk_of rl (fun x hx => lineErr_iff.2 ?_) (fun q hq => by cases hq)
  obtain ⟨z, hz, e1, e2⟩ := mergeL_keys h x hx
  have hzl : lineErr z = 0 := hz.elim (la z) (lb z)
  obtain ⟨p1, p2, p3, _, _⟩ := lineErr_ok hzl
  exact ⟨by omega, by omega, by rw [e2]; exact p3, nl x hx, mergeL_fits h (fun q hq => (lineErr_ok (la q hq)).2.2.2.2) (fun q hq => (lineErr_ok (lb q hq)).2.2.2.2) x hx⟩
/-- of three it is the same which two are merged first -/
theorem mergeL_assoc {a b c x y z w : List Ln} (ra : Rise a ∧ NonZ a) (rb : Rise b ∧ NonZ b) (rc : Rise c ∧ NonZ c) (h1 : mergeL a b = some x) (h2 : mergeL b c = some y) (h3 : mergeL x c = some z) (h4 : mergeL a y = some w) : z = w := by
  have rx := mergeL_rise h1 ra.1 rb.1 ra.2 rb.2
  have ry := mergeL_rise h2 rb.1 rc.1 rb.2 rc.2
  have rz := mergeL_rise h3 rx.1 rc.1 rx.2 rc.2
  have rw' := mergeL_rise h4 ra.1 ry.1 ra.2 ry.2
  refine val_inj rz.1 rw'.1 rz.2 rw'.2 fun p c' => ?_
  rw [mergeL_val h3, mergeL_val h1, mergeL_val h4, mergeL_val h2]; omega
/-- a list with what it lacks to nothing -/
def neg (l : List Ln) : List Ln := l.map fun x => ⟨x.part, x.code, -x.cents⟩
theorem mergeL_neg : ∀ l : List Ln, mergeL l (neg l) = some [] := by
  intro l
  induction l with
  | nil => rw [neg, List.map_nil, mergeL]
  | cons x r ih =>
    have hk : lnLt x ⟨x.part, x.code, -x.cents⟩ = false := by simp [lnLt, blt_irrefl]
    have hk' : lnLt ⟨x.part, x.code, -x.cents⟩ x = false := by simp [lnLt, blt_irrefl]
    rw [neg, List.map_cons, step_none hk hk' (by rw [show x.cents + -x.cents = 0 by omega]; rfl) (by simp only; omega)]
    exact ih
theorem check_neg {y i : Int} {l : List Ln} (h : check y i l = 0) : check y i (neg l) = 0 := by
  obtain ⟨h1, h2, h3, h4, h5, hc, hl⟩ := check_ok h
  obtain ⟨hr, _, _⟩ := rise_of h
  have hlen : (neg l).length = l.length := by simp [neg]
  rw [check, if_neg (by omega), if_neg (by omega)]
  refine chk_of ?_ (fun x hx => ?_) (fun q hq => by cases hq)
  · rw [Rise, neg, List.pairwise_map]
    exact hr.imp fun {p q} hpq => by simpa only [lnLt] using hpq
  · simp only [neg, List.mem_map] at hx
    obtain ⟨z, hz, rfl⟩ := hx
    obtain ⟨p1, p2, p3, p4, p5⟩ := lineErr_ok (hl z hz)
    have := (fits_iff _).1 p5
    exact lineErr_iff.2 ⟨p1, p2, p3, by simp only; omega, (fits_iff _).2 (by simp only; omega)⟩

end Wb
end Go.Proofs.YtnefdpnolojojaaGreat
/- Plain facts for chapter 27: sums of what is merged, what is merged the other way round, what lacks. -/
namespace Go.Proofs.YtnefdpnolojojaaGreat
namespace Wb

theorem sums_cases (y i : Int) (l : List Ln) : (∃ e, e ≠ 0 ∧ sums y i l = (0, 0, 0, 0, e)) ∨ (check y i l = 0 ∧ fits (sumOf 0 0 l) = true ∧ fits (sumOf 1 5 l) = true ∧ fits (sumOf 0 0 l - sumOf 1 5 l) = true ∧ fits (sumOf 6 6 l) = true ∧ sums y i l = (sumOf 0 0 l, sumOf 1 5 l, sumOf 0 0 l - sumOf 1 5 l, sumOf 6 6 l, 0)) := by
  unfold sums
  by_cases h : check y i l ≠ 0
  · rw [if_pos h]; exact .inl ⟨_, h, rfl⟩
  · rw [if_neg h]
    split
    · rename_i h2
      exact .inr ⟨by omega, h2.1, h2.2.1, h2.2.2.1, h2.2.2.2, rfl⟩
    · exact .inl ⟨9, by decide, rfl⟩
theorem sums_law {y i : Int} {l : List Ln} {g h n f e : Int} (hs : sums y i l = (g, h, n, f, e)) :
    g = h + n ∧ (-1125899906842624 ≤ g ∧ g ≤ 1125899906842624) ∧ (-1125899906842624 ≤ h ∧ h ≤ 1125899906842624) ∧ (-1125899906842624 ≤ n ∧ n ≤ 1125899906842624) ∧ (-1125899906842624 ≤ f ∧ f ≤ 1125899906842624) := by
  rcases sums_cases y i l with ⟨e', _, h'⟩ | ⟨_, h1, h2, h3, h4, h'⟩
  · rw [h'] at hs; cases hs; omega
  · rw [h'] at hs; cases hs
    have := (fits_iff _).1 h1; have := (fits_iff _).1 h2; have := (fits_iff _).1 h3; have := (fits_iff _).1 h4
    omega
theorem sums_add {y i y' i' y'' i'' : Int} {a b l : List Ln} {g1 h1 n1 f1 e1 g2 h2 n2 f2 e2 g h n f e : Int} (s1 : sums y i a = (g1, h1, n1, f1, e1)) (s2 : sums y' i' b = (g2, h2, n2, f2, e2)) (s : sums y'' i'' l = (g, h, n, f, e)) (hm : mergeL a b = some l)
    (z1 : e1 = 0) (z2 : e2 = 0) (z : e = 0) : g = g1 + g2 ∧ h = h1 + h2 ∧ n = n1 + n2 ∧ f = f1 + f2 := by
  rcases sums_cases y i a with ⟨e', he, h'⟩ | ⟨_, _, _, _, _, h'⟩
  · rw [h'] at s1; cases s1; exact absurd z1 he
  rw [h'] at s1; cases s1
  rcases sums_cases y' i' b with ⟨e', he, h'⟩ | ⟨_, _, _, _, _, h'⟩
  · rw [h'] at s2; cases s2; exact absurd z2 he
  rw [h'] at s2; cases s2
  rcases sums_cases y'' i'' l with ⟨e', he, h'⟩ | ⟨_, _, _, _, _, h'⟩
  · rw [h'] at s; cases s; exact absurd z he
  rw [h'] at s; cases s
  have m1 := sumOf_merge (f := 0) (t := 0) hm
  have m2 := sumOf_merge (f := 1) (t := 5) hm
  have m3 := sumOf_merge (f := 6) (t := 6) hm
  omega

end Wb
end Go.Proofs.YtnefdpnolojojaaGreat
/- Plain facts for chapter 29: differences of slips. No program in sight. -/
namespace Go.Proofs.YtnefdpnolojojaaGreat
namespace Wb

/-- the zero slip -/
def noneB (y i : Int) (l : List Ln) : Bool := (y == 0) && (i == 0) && l.isEmpty
theorem none_iff {y i : Int} {l : List Ln} : noneB y i l = true ↔ y = 0 ∧ i = 0 ∧ l = [] := by simp [noneB, and_assoc]
def wrongE (y i : Int) (l : List Ln) : Int := if noneB y i l = true then 0 else check y i l
theorem wrong_ok {y i : Int} {l : List Ln} (h : wrongE y i l = 0) : Rise l ∧ NonZ l ∧ (∀ x ∈ l, lineErr x = 0) := by
  unfold wrongE at h
  split at h
  · rename_i hn
    obtain ⟨_, _, rfl⟩ := none_iff.1 hn
    exact ⟨List.Pairwise.nil, (fun x hx => by cases hx), (fun x hx => by cases hx)⟩
  · exact rise_of h
theorem wrong_some {y i : Int} {l : List Ln} (h : wrongE y i l = 0) (hn : noneB y i l = false) : check y i l = 0 := by
  rw [wrongE, if_neg (by rw [hn]; exact Bool.false_ne_true)] at h; exact h
theorem check_none {y i : Int} {l : List Ln} (h : check y i l = 0) : noneB y i l = false := by
  rw [Bool.eq_false_iff]
  intro hn
  obtain ⟨rfl, _, _⟩ := none_iff.1 hn
  have := (check_ok h).1
  omega

/-- the lines of a difference -/
structure IsDelta (a b r : List Ln) : Prop where
  rise : Rise r
  nonz : NonZ r
  val : ∀ p c, lval p c r = lval p c b - lval p c a
theorem IsDelta.uniq {a b r s : List Ln} (h : IsDelta a b r) (k : IsDelta a b s) : r = s := val_inj h.rise k.rise h.nonz k.nonz fun p c => by rw [h.val, k.val]
theorem lval_neg (p : Int) (c : List UInt8) : ∀ l : List Ln, lval p c (neg l) = -lval p c l
  | [] => rfl
  | x :: r => by
    have := lval_neg p c r
    simp only [neg, List.map_cons, lval] at this ⊢
    rw [this]; split <;> omega
theorem rise_neg {l : List Ln} (h : Rise l) : Rise (neg l) := by
  unfold Rise neg
  exact List.pairwise_map.2 (h.imp fun {a b} hab => by simpa [lnLt] using hab)
theorem IsDelta.turn {a b r : List Ln} (h : IsDelta a b r) : IsDelta b a (neg r) :=
  ⟨rise_neg h.rise, fun x hx => by
    obtain ⟨z, hz, rfl⟩ := List.mem_map.1 hx
    have := h.nonz z hz
    simp only; omega, fun p c => by rw [lval_neg, h.val]; omega⟩
theorem IsDelta.self {a r : List Ln} (h : IsDelta a a r) : r = [] := val_zero h.rise h.nonz fun p c => by rw [h.val]; omega
theorem IsDelta.from_nil {b r : List Ln} (h : IsDelta [] b r) (hb : Rise b) (nb : NonZ b) : r = b := val_inj h.rise hb h.nonz nb fun p c => by rw [h.val, lval]; omega
theorem IsDelta.to_nil {a r : List Ln} (h : IsDelta a [] r) (ha : Rise a) (na : NonZ a) : r = neg a :=
  val_inj h.rise (rise_neg ha) h.nonz (fun x hx => by
    obtain ⟨z, hz, rfl⟩ := List.mem_map.1 hx
    have := na z hz
    simp only; omega) fun p c => by rw [h.val, lval, lval_neg]; omega

/-- the difference of two slips: the error, the slip -/
inductive IsOf (y i : Int) (a : List Ln) (y' i' : Int) (b : List Ln) : Int → Int → Int → List Ln → Prop
  | bad1 : wrongE y i a ≠ 0 → IsOf y i a y' i' b (wrongE y i a) 0 0 []
  | bad2 : wrongE y i a = 0 → wrongE y' i' b ≠ 0 → IsOf y i a y' i' b (wrongE y' i' b) 0 0 []
  | state : wrongE y i a = 0 → wrongE y' i' b = 0 → noneB y i a = false → noneB y' i' b = false → (y ≠ y' ∨ i ≠ i') → IsOf y i a y' i' b 18 0 0 []
  | over (r : List Ln) : wrongE y i a = 0 → wrongE y' i' b = 0 → (noneB y i a = true ∨ noneB y' i' b = true ∨ (y = y' ∧ i = i')) → IsDelta a b r → (∃ x ∈ r, fits x.cents = false) → IsOf y i a y' i' b 9 0 0 []
  | many (r : List Ln) : wrongE y i a = 0 → wrongE y' i' b = 0 → (noneB y i a = true ∨ noneB y' i' b = true ∨ (y = y' ∧ i = i')) → IsDelta a b r → (∀ x ∈ r, fits x.cents = true) → 448 < r.length → IsOf y i a y' i' b 5 0 0 []
  | ok (r : List Ln) : wrongE y i a = 0 → wrongE y' i' b = 0 → (noneB y i a = true ∨ noneB y' i' b = true ∨ (y = y' ∧ i = i')) → IsDelta a b r → (∀ x ∈ r, fits x.cents = true) → r.length ≤ 448 →
      IsOf y i a y' i' b 0 (if noneB y' i' b = true then y else y') (if noneB y' i' b = true then i else i') r
theorem IsOf.uniq {y i y' i' : Int} {a b : List Ln} {e Y I f Z J : Int} {r s : List Ln} (h : IsOf y i a y' i' b e Y I r) (k : IsOf y i a y' i' b f Z J s) : e = f ∧ Y = Z ∧ I = J ∧ r = s := by
  have nofit : ∀ {r s : List Ln}, IsDelta a b r → IsDelta a b s → (∃ x ∈ r, fits x.cents = false) → (∀ x ∈ s, fits x.cents = true) → False := by
    intro r s h1 h2 ⟨x, hx, h3⟩ h4
    rw [h1.uniq h2] at hx
    rw [h4 x hx] at h3; cases h3
  cases h with
  | bad1 h1 => cases k <;> first | exact ⟨rfl, rfl, rfl, rfl⟩ | contradiction
  | bad2 h1 h2 => cases k <;> first | exact ⟨rfl, rfl, rfl, rfl⟩ | contradiction
  | state h1 h2 h3 h4 h5 =>
    cases k with
    | state => exact ⟨rfl, rfl, rfl, rfl⟩
    | bad1 k1 => contradiction
    | bad2 _ k2 => contradiction
    | over _ _ _ k3 | many _ _ _ k3 | ok _ _ _ k3 =>
      exfalso
      rcases k3 with q | q | q
      · rw [h3] at q; cases q
      · rw [h4] at q; cases q
      · omega
  | over r h1 h2 h3 h4 h5 =>
    cases k with
    | bad1 k1 => contradiction
    | bad2 _ k2 => contradiction
    | state _ _ k3 k4 k5 =>
      exfalso
      rcases h3 with q | q | q
      · rw [k3] at q; cases q
      · rw [k4] at q; cases q
      · omega
    | over => exact ⟨rfl, rfl, rfl, rfl⟩
    | many s _ _ _ k4 k5 => exact (nofit h4 k4 h5 k5).elim
    | ok s _ _ _ k4 k5 => exact (nofit h4 k4 h5 k5).elim
  | many r h1 h2 h3 h4 h5 h6 =>
    cases k with
    | bad1 k1 => contradiction
    | bad2 _ k2 => contradiction
    | state _ _ k3 k4 k5 =>
      exfalso
      rcases h3 with q | q | q
      · rw [k3] at q; cases q
      · rw [k4] at q; cases q
      · omega
    | over s _ _ _ k4 k5 => exact (nofit k4 h4 k5 h5).elim
    | many => exact ⟨rfl, rfl, rfl, rfl⟩
    | ok s _ _ _ k4 k5 k6 =>
      exfalso
      have := h4.uniq k4
      subst this; omega
  | ok r h1 h2 h3 h4 h5 h6 =>
    cases k with
    | bad1 k1 => contradiction
    | bad2 _ k2 => contradiction
    | state _ _ k3 k4 k5 =>
      exfalso
      rcases h3 with q | q | q
      · rw [k3] at q; cases q
      · rw [k4] at q; cases q
      · omega
    | over s _ _ _ k4 k5 => exact (nofit k4 h4 k5 h5).elim
    | many s _ _ _ k4 k5 k6 =>
      exfalso
      have := h4.uniq k4
      subst this; omega
    | ok s _ _ _ k4 => exact ⟨rfl, rfl, rfl, h4.uniq k4⟩

/-- a line's own key -/
theorem lval_head {x : Ln} {r : List Ln} (h : Rise (x :: r)) : lval x.part x.code (x :: r) = x.cents := by
  rw [lval, if_pos ⟨rfl, rfl⟩, val_behind (List.pairwise_cons.1 h).1]; omega
theorem lval_mem {l : List Ln} (h : Rise l) {x : Ln} (hx : x ∈ l) : lval x.part x.code l = x.cents := by
  induction l with
  | nil => cases hx
  | cons z r ih =>
    rcases List.mem_cons.1 hx with rfl | hx
    · exact lval_head h
    · obtain ⟨h1, h2⟩ := List.pairwise_cons.1 h
      have := lnLt_ne (h1 x hx)
      rw [lval, if_neg (fun ⟨a, b⟩ => this ⟨a.symm, b.symm⟩), ih h2 hx]; omega
theorem lval_none {l : List Ln} {p : Int} {c : List UInt8} (h : ∀ x ∈ l, ¬ (x.part = p ∧ x.code = c)) : lval p c l = 0 := by
  induction l with
  | nil => rfl
  | cons z r ih => rw [lval, if_neg (h z (by simp)), ih fun x hx => h x (by simp [hx])]; rfl
/-- where the amounts of both fit, they are merged -/
theorem mergeL_some : ∀ {a b : List Ln}, Rise a → Rise b → (∀ p c, fits (lval p c a + lval p c b) = true) → ∃ l, mergeL a b = some l := by
  intro a b
  induction a, b using mergeL.induct with
  | case1 b => intro _ _ _; exact ⟨b, by rw [mergeL]⟩
  | case2 a ha => intro _ _ _; exact ⟨a, by rw [mergeL]; exact ha⟩
  | case3 x a y b hxy ih =>
    intro ra rb h
    obtain ⟨h1, h2⟩ := List.pairwise_cons.1 ra
    obtain ⟨h3, h4⟩ := List.pairwise_cons.1 rb
    obtain ⟨l, hl⟩ := ih h2 rb fun p c => by
      have := h p c
      rw [lval] at this
      by_cases e : x.part = p ∧ x.code = c
      · obtain ⟨rfl, rfl⟩ := e
        rw [val_behind h1, val_behind (l := y :: b) (fun z hz => (List.mem_cons.1 hz).elim (fun e => e ▸ hxy) fun e => lnLt_trans hxy (h3 z e))]; rfl
      · rw [if_neg e, Int.zero_add] at this; exact this
    exact ⟨x :: l, by rw [mergeL, if_pos hxy, hl]; rfl⟩
  | case4 x a y b hxy hyx ih =>
    intro ra rb h
    obtain ⟨h1, h2⟩ := List.pairwise_cons.1 ra
    obtain ⟨h3, h4⟩ := List.pairwise_cons.1 rb
    obtain ⟨l, hl⟩ := ih ra h4 fun p c => by
      by_cases e : y.part = p ∧ y.code = c
      · obtain ⟨rfl, rfl⟩ := e
        rw [val_behind h3, val_behind (l := x :: a) (fun z hz => (List.mem_cons.1 hz).elim (fun e => e ▸ hyx) fun e => lnLt_trans hyx (h1 z e))]; rfl
      · have h5 : lval p c (y :: b) = lval p c b := by rw [lval, if_neg e, Int.zero_add]
        rw [← h5]; exact h p c
    exact ⟨y :: l, by rw [mergeL, if_neg hxy, if_pos hyx, hl]; rfl⟩
  | case5 x a y b hxy hyx hf =>
    intro ra rb h
    obtain ⟨hp, hc⟩ := lnLt_total (by simpa using hxy) (by simpa using hyx)
    have h1 := h x.part x.code
    rw [lval_head ra, show lval x.part x.code (y :: b) = y.cents by rw [hp, hc]; exact lval_head rb, hf] at h1
    cases h1
  | case6 x a y b hxy hyx hf hz ih =>
    intro ra rb h
    obtain ⟨h1, h2⟩ := List.pairwise_cons.1 ra
    obtain ⟨h3, h4⟩ := List.pairwise_cons.1 rb
    obtain ⟨hp, hc⟩ := lnLt_total (by simpa using hxy) (by simpa using hyx)
    obtain ⟨l, hl⟩ := ih h2 h4 fun p c => by
      have := h p c
      by_cases e : x.part = p ∧ x.code = c
      · obtain ⟨rfl, rfl⟩ := e
        rw [val_behind h1, show lval x.part x.code b = 0 by rw [hp, hc]; exact val_behind h3]; rfl
      · rw [lval, lval, if_neg e, if_neg (by rw [← hp, ← hc]; exact e), Int.zero_add, Int.zero_add] at this; exact this
    exact ⟨l, by rw [mergeL, if_neg hxy, if_neg hyx, if_neg hf, if_pos hz, hl]⟩
  | case7 x a y b hxy hyx hf hz ih =>
    intro ra rb h
    obtain ⟨h1, h2⟩ := List.pairwise_cons.1 ra
    obtain ⟨h3, h4⟩ := List.pairwise_cons.1 rb
    obtain ⟨hp, hc⟩ := lnLt_total (by simpa using hxy) (by simpa using hyx)
    obtain ⟨l, hl⟩ := ih h2 h4 fun p c => by
      have := h p c
      by_cases e : x.part = p ∧ x.code = c
      · obtain ⟨rfl, rfl⟩ := e
        rw [val_behind h1, show lval x.part x.code b = 0 by rw [hp, hc]; exact val_behind h3]; rfl
      · rw [lval, lval, if_neg e, if_neg (by rw [← hp, ← hc]; exact e), Int.zero_add, Int.zero_add] at this; exact this
    exact ⟨_ :: l, by rw [mergeL, if_neg hxy, if_neg hyx, if_neg hf, if_neg hz, hl]; rfl⟩

end Wb
end Go.Proofs.YtnefdpnolojojaaGreat
/- Plain facts for chapter 29: how the reference makes a difference: line by line put into a list that rises. -/
namespace Go.Proofs.YtnefdpnolojojaaGreat
namespace Wb

/-- a line into some that rise, once -/
def putL : List Ln → Ln → List Ln
  | [], x => [x]
  | z :: r, x => if lnLt z x = true then z :: putL r x else if z.part = x.part ∧ z.code = x.code then z :: r else x :: z :: r
theorem putL_same : ∀ {l : List Ln} {k : Nat} {x z : Ln}, (∀ t u, l[t]? = some u → t < k → lnLt u x = true) → l[k]? = some z → z.part = x.part → z.code = x.code → putL l x = l
  | [], k, x, z, _, h, _, _ => by simp at h
  | u :: r, 0, x, z, _, h, e1, e2 => by
    simp at h; subst h
    have hl : lnLt u x = false := by rw [lnLt_key e1 e2 (rfl : x.part = x.part) rfl]; exact lnLt_irrefl x
    rw [putL, if_neg (by rw [hl]; exact Bool.false_ne_true), if_pos ⟨e1, e2⟩]
  | u :: r, k + 1, x, z, ha, h, e1, e2 => by
    rw [putL, if_pos (ha 0 u rfl (by omega))]
    congr 1
    exact putL_same (fun t v hv ht => ha (t + 1) v hv (by omega)) h e1 e2
theorem putL_new : ∀ {l : List Ln} {k : Nat} {x : Ln}, k ≤ l.length → (∀ t u, l[t]? = some u → t < k → lnLt u x = true) → (∀ z, l[k]? = some z → lnLt z x = false ∧ ¬ (z.part = x.part ∧ z.code = x.code)) → putL l x = l.take k ++ x :: l.drop k
  | [], k, x, hk, _, _ => by simp [putL]
  | u :: r, 0, x, _, _, h => by
    obtain ⟨h1, h2⟩ := h u rfl
    rw [putL, if_neg (by rw [h1]; exact Bool.false_ne_true), if_neg h2]; rfl
  | u :: r, k + 1, x, hk, ha, h => by
    rw [putL, if_pos (ha 0 u rfl (by omega))]
    rw [putL_new (k := k) (by simpa using hk) (fun t v hv ht => ha (t + 1) v hv (by omega)) h]; rfl
theorem mem_put : ∀ {l : List Ln} {y x : Ln}, x ∈ putL l y → x = y ∨ x ∈ l
  | [], y, x, h => by simp [putL] at h; exact .inl h
  | z :: r, y, x, h => by
    rw [putL] at h
    split at h
    · rcases List.mem_cons.1 h with rfl | h
      · exact .inr (by simp)
      · rcases mem_put h with e | e
        · exact .inl e
        · exact .inr (by simp [e])
    · split at h
      · exact .inr h
      · rcases List.mem_cons.1 h with rfl | h
        · exact .inl rfl
        · exact .inr h
theorem put_mem : ∀ {l : List Ln} {y x : Ln}, x ∈ l → x ∈ putL l y
  | z :: r, y, x, h => by
    rw [putL]
    split
    · rcases List.mem_cons.1 h with rfl | h
      · simp
      · simp [put_mem h]
    · split
      · exact h
      · simp [List.mem_cons.1 h]
theorem put_has : ∀ (l : List Ln) (y : Ln), ∃ x ∈ putL l y, x.part = y.part ∧ x.code = y.code
  | [], y => ⟨y, by simp [putL], rfl, rfl⟩
  | z :: r, y => by
    rw [putL]
    split
    · obtain ⟨x, hx, e⟩ := put_has r y
      exact ⟨x, by simp [hx], e⟩
    · split
      · rename_i h; exact ⟨z, by simp, h⟩
      · exact ⟨y, by simp, rfl, rfl⟩
theorem rise_put : ∀ {l : List Ln} (y : Ln), Rise l → Rise (putL l y)
  | [], y, _ => by simp [putL, Rise]
  | z :: r, y, h => by
    obtain ⟨h1, h2⟩ := List.pairwise_cons.1 h
    rw [putL]
    split
    · rename_i hzy
      refine List.pairwise_cons.2 ⟨fun u hu => ?_, rise_put y h2⟩
      rcases mem_put hu with rfl | hu
      · exact hzy
      · exact h1 u hu
    · split
      · exact h
      · rename_i hzy hs
        have hyz : lnLt y z = true := by
          rcases hq : lnLt y z with _ | _
          · exact absurd (lnLt_total (by simpa using hzy) hq) hs
          · rfl
        refine List.pairwise_cons.2 ⟨fun u hu => ?_, h⟩
        rcases List.mem_cons.1 hu with rfl | hu
        · exact hyz
        · exact lnLt_trans hyz (h1 u hu)
/-- what is told of a line's key -/
def dv (a b : List Ln) (z : Ln) : Int := lval z.part z.code b - lval z.part z.code a
def dStep (a b r : List Ln) (z : Ln) : List Ln := if dv a b z = 0 then r else putL r ⟨z.part, z.code, dv a b z⟩
def deltaL (a b : List Ln) : List Ln := (a ++ b).foldl (dStep a b) []
structure SoD (a b p r : List Ln) : Prop where
  rise : Rise r
  ok : ∀ x ∈ r, x.cents = dv a b x ∧ x.cents ≠ 0
  all : ∀ z ∈ p, dv a b z ≠ 0 → ∃ x ∈ r, x.part = z.part ∧ x.code = z.code
theorem soD_nil (a b : List Ln) : SoD a b [] [] := ⟨List.Pairwise.nil, (fun x hx => by cases hx), (fun x hx => by cases hx)⟩
theorem soD_step {a b p r : List Ln} (h : SoD a b p r) (z : Ln) : SoD a b (p ++ [z]) (dStep a b r z) := by
  unfold dStep
  by_cases hz : dv a b z = 0
  · rw [if_pos hz]
    refine ⟨h.rise, h.ok, fun x hx hn => ?_⟩
    rcases List.mem_append.1 hx with q | q
    · exact h.all x q hn
    · simp at q; subst q; exact absurd hz hn
  · rw [if_neg hz]
    refine ⟨rise_put _ h.rise, fun x hx => ?_, fun x hx hn => ?_⟩
    · rcases mem_put hx with rfl | q
      · exact ⟨rfl, hz⟩
      · exact h.ok x q
    · rcases List.mem_append.1 hx with q | q
      · obtain ⟨u, hu, e⟩ := h.all x q hn
        exact ⟨u, put_mem hu, e⟩
      · simp at q; subst q; exact put_has _ _
theorem soD_fold {a b : List Ln} : ∀ (q p r : List Ln), SoD a b p r → SoD a b (p ++ q) (q.foldl (dStep a b) r)
  | [], p, r, h => by simpa using h
  | z :: q, p, r, h => by
    have := soD_fold q (p ++ [z]) _ (soD_step h z)
    simpa using this
theorem soD_end {a b p r : List Ln} (h : SoD a b p r) (hp : ∀ z, z ∈ a ∨ z ∈ b → z ∈ p) : IsDelta a b r := by
  refine ⟨h.rise, fun x hx => (h.ok x hx).2, fun p' c => ?_⟩
  by_cases hz : lval p' c b - lval p' c a = 0
  · rw [hz]
    refine lval_none fun x hx e => ?_
    obtain ⟨h1, h2⟩ := h.ok x hx
    rw [dv, e.1, e.2, hz] at h1
    exact h2 h1
  · have hk : ∃ z, (z ∈ a ∨ z ∈ b) ∧ z.part = p' ∧ z.code = c := by
      by_cases h1 : ∃ x ∈ b, x.part = p' ∧ x.code = c
      · obtain ⟨x, hx, e⟩ := h1; exact ⟨x, .inr hx, e⟩
      · by_cases h2 : ∃ x ∈ a, x.part = p' ∧ x.code = c
        · obtain ⟨x, hx, e⟩ := h2; exact ⟨x, .inl hx, e⟩
        · exfalso; apply hz
          rw [lval_none fun x hx e => h1 ⟨x, hx, e⟩, lval_none fun x hx e => h2 ⟨x, hx, e⟩]; rfl
    obtain ⟨z, hm, rfl, rfl⟩ := hk
    obtain ⟨x, hx, e1, e2⟩ := h.all z (hp z hm) hz
    have := lval_mem h.rise hx
    rw [e1, e2] at this
    rw [this, (h.ok x hx).1, dv, e1, e2]
theorem delta_is (a b : List Ln) : IsDelta a b (deltaL a b) :=
  soD_end (soD_fold (a ++ b) [] [] (soD_nil a b)) (fun z h => by simpa using h)
/-- a line of a difference is of a key that one of both has -/
theorem delta_key {a b r : List Ln} (h : IsDelta a b r) {x : Ln} (hx : x ∈ r) : x.cents = dv a b x ∧ ∃ z ∈ a ++ b, z.part = x.part ∧ z.code = x.code := by
  have h1 := lval_mem h.rise hx
  have h2 := h.val x.part x.code
  have h3 := h.nonz x hx
  refine ⟨by rw [dv, ← h2, h1], ?_⟩
  by_cases hb : ∃ z ∈ b, z.part = x.part ∧ z.code = x.code
  · obtain ⟨z, hz, e⟩ := hb; exact ⟨z, by simp [hz], e⟩
  · by_cases ha : ∃ z ∈ a, z.part = x.part ∧ z.code = x.code
    · obtain ⟨z, hz, e⟩ := ha; exact ⟨z, by simp [hz], e⟩
    · exfalso
      rw [h1, lval_none fun z hz e => hb ⟨z, hz, e⟩, lval_none fun z hz e => ha ⟨z, hz, e⟩] at h2
      exact h3 h2
theorem delta_fits {a b r : List Ln} (h : IsDelta a b r) (hf : ∀ z ∈ a ++ b, fits (dv a b z) = true) : ∀ x ∈ r, fits x.cents = true := fun x hx => by
  obtain ⟨h1, z, hz, e1, e2⟩ := delta_key h hx
  have := hf z hz
  rw [dv, e1, e2] at this
  rw [h1]; exact this
theorem delta_unfit {a b : List Ln} {z : Ln} (_ : z ∈ a ++ b) (hf : fits (dv a b z) = false) : ∃ x ∈ deltaL a b, fits x.cents = false := by
  have h := delta_is a b
  have hn : dv a b z ≠ 0 := by intro e; rw [e] at hf; revert hf; decide
  have hv := h.val z.part z.code
  by_cases hm : ∃ x ∈ deltaL a b, x.part = z.part ∧ x.code = z.code
  · obtain ⟨x, hx, e1, e2⟩ := hm
    have h1 := lval_mem h.rise hx
    rw [e1, e2, hv] at h1
    exact ⟨x, hx, by rw [← h1]; exact hf⟩
  · exfalso
    rw [lval_none fun x hx e => hm ⟨x, hx, e⟩] at hv
    exact hn hv.symm

end Wb
end Go.Proofs.YtnefdpnolojojaaGreat
/- Plain facts for chapter 29: what the differences of slips come to, one against the other. -/
namespace Go.Proofs.YtnefdpnolojojaaGreat
namespace Wb

/-- the difference, as a function -/
def ofF (y i : Int) (a : List Ln) (y' i' : Int) (b : List Ln) : Int × Int × Int × List Ln :=
  if wrongE y i a ≠ 0 then (wrongE y i a, 0, 0, [])
  else if wrongE y' i' b ≠ 0 then (wrongE y' i' b, 0, 0, [])
  else if noneB y i a = false ∧ noneB y' i' b = false ∧ (y ≠ y' ∨ i ≠ i') then (18, 0, 0, [])
  else if (deltaL a b).any (fun x => !fits x.cents) = true then (9, 0, 0, [])
  else if 448 < (deltaL a b).length then (5, 0, 0, [])
  else (0, if noneB y' i' b = true then y else y', if noneB y' i' b = true then i else i', deltaL a b)
theorem ofF_is (y i : Int) (a : List Ln) (y' i' : Int) (b : List Ln) : IsOf y i a y' i' b (ofF y i a y' i' b).1 (ofF y i a y' i' b).2.1 (ofF y i a y' i' b).2.2.1 (ofF y i a y' i' b).2.2.2 := by
  unfold ofF
  split
  · rename_i h; exact .bad1 h
  · rename_i h1
    have h1 : wrongE y i a = 0 := by omega
    split
    · rename_i h; exact .bad2 h1 h
    · rename_i h2
      have h2 : wrongE y' i' b = 0 := by omega
      split
      · rename_i h; exact .state h1 h2 h.1 h.2.1 h.2.2
      · rename_i h3
        have h3 : noneB y i a = true ∨ noneB y' i' b = true ∨ (y = y' ∧ i = i') := by
          rcases hn : noneB y i a with _ | _
          · rcases hm : noneB y' i' b with _ | _
            · refine .inr (.inr ?_)
              have : ¬ (y ≠ y' ∨ i ≠ i') := fun q => h3 ⟨hn, hm, q⟩
              omega
            · exact .inr (.inl rfl)
          · exact .inl rfl
        split
        · rename_i h
          exact .over _ h1 h2 h3 (delta_is a b) (by simpa using h)
        · rename_i h4
          have h4 : ∀ x ∈ deltaL a b, fits x.cents = true := by simpa using h4
          split
          · rename_i h; exact .many _ h1 h2 h3 (delta_is a b) h4 h
          · rename_i h; exact .ok _ h1 h2 h3 (delta_is a b) h4 (Nat.le_of_not_lt h)
theorem of_eq {y i y' i' E Y I : Int} {a b r : List Ln} (h : IsOf y i a y' i' b E Y I r) : ofF y i a y' i' b = (E, Y, I, r) := by
  obtain ⟨h1, h2, h3, h4⟩ := (ofF_is y i a y' i' b).uniq h
  rcases hf : ofF y i a y' i' b with ⟨e, p, q, l⟩
  rw [hf] at h1 h2 h3 h4
  simp only at h1 h2 h3 h4
  rw [h1, h2, h3, h4]
theorem of_bad {y i y' i' E Y I : Int} {a b r : List Ln} (h : IsOf y i a y' i' b E Y I r) (he : E ≠ 0) : Y = 0 ∧ I = 0 ∧ r = [] := by
  cases h <;> first | exact ⟨rfl, rfl, rfl⟩ | exact absurd rfl he
structure OfOk (y i : Int) (a : List Ln) (y' i' : Int) (b : List Ln) (Y I : Int) (r : List Ln) : Prop where
  wa : wrongE y i a = 0
  wb : wrongE y' i' b = 0
  per : noneB y i a = true ∨ noneB y' i' b = true ∨ (y = y' ∧ i = i')
  del : IsDelta a b r
  fit : ∀ x ∈ r, fits x.cents = true
  few : r.length ≤ 448
  hy : Y = if noneB y' i' b = true then y else y'
  hi : I = if noneB y' i' b = true then i else i'
theorem of_ok {y i y' i' Y I : Int} {a b r : List Ln} (h : IsOf y i a y' i' b 0 Y I r) : OfOk y i a y' i' b Y I r := by
  generalize he : (0 : Int) = E at h
  cases h with
  | bad1 h1 => exact absurd he.symm h1
  | bad2 _ h1 => exact absurd he.symm h1
  | state => cases he
  | over => cases he
  | many => cases he
  | ok r h1 h2 h3 h4 h5 h6 => exact ⟨h1, h2, h3, h4, h5, h6, rfl, rfl⟩
theorem of_self {y i y' i' E Y I : Int} {a r : List Ln} {E' Y' I' : Int} {r' b : List Ln} (h0 : IsOf y i a y' i' b 0 Y I r) (h : IsOf y i a y i a E' Y' I' r') : E' = 0 ∧ r' = [] := by
  have k := of_ok h0
  have hd := delta_is a a
  have hn := hd.self
  rw [hn] at hd
  obtain ⟨e1, _, _, e2⟩ := h.uniq (.ok [] k.wa k.wa (.inr (.inr ⟨rfl, rfl⟩)) hd (fun x hx => by cases hx) (by simp))
  exact ⟨e1, e2⟩
theorem of_turn {y i y' i' Y I : Int} {a b r : List Ln} {E' Y' I' : Int} {r' : List Ln} (h0 : IsOf y i a y' i' b 0 Y I r) (h : IsOf y' i' b y i a E' Y' I' r') : E' = 0 ∧ r' = neg r := by
  have k := of_ok h0
  obtain ⟨e1, _, _, e2⟩ := h.uniq (.ok (neg r) k.wb k.wa (by rcases k.per with q | q | ⟨q1, q2⟩; exact .inr (.inl q); exact .inl q; exact .inr (.inr ⟨q1.symm, q2.symm⟩)) k.del.turn (fun x hx => by
    obtain ⟨z, hz, rfl⟩ := List.mem_map.1 hx
    have := (fits_iff _).1 (k.fit z hz)
    exact (fits_iff _).2 (by simp only; omega)) (by simpa [neg] using k.few))
  exact ⟨e1, e2⟩
/-- nothing was: the difference is what is now -/
theorem of_none {y i y' i' Y I : Int} {a b r : List Ln} (h0 : IsOf y i a y' i' b 0 Y I r) (hn : noneB y i a = true) (hb : noneB y' i' b = false) : Y = y' ∧ I = i' ∧ r = b := by
  have k := of_ok h0
  obtain ⟨_, _, rfl⟩ := none_iff.1 hn
  have hw := wrong_ok k.wb
  refine ⟨by rw [k.hy, hb]; rfl, by rw [k.hi, hb]; rfl, k.del.from_nil hw.1 hw.2.1⟩
theorem delta_right {a b r : List Ln} (h : IsDelta a b r) (ha : ∀ x ∈ a, lineErr x = 0) (hb : ∀ x ∈ b, lineErr x = 0) (hf : ∀ x ∈ r, fits x.cents = true) : ∀ x ∈ r, lineErr x = 0 := fun x hx => by
  obtain ⟨_, z, hz, e1, e2⟩ := delta_key h hx
  have hk : lineErr z = 0 := (List.mem_append.1 hz).elim (ha z) (hb z)
  obtain ⟨k1, k2, k3, _, _⟩ := lineErr_iff.1 hk
  exact lineErr_iff.2 ⟨by rw [← e1]; exact k1, by rw [← e1]; exact k2, by rw [← e2]; exact k3, h.nonz x hx, hf x hx⟩
theorem check_of {Y I : Int} {r : List Ln} (hy : 1900 ≤ Y ∧ Y ≤ 2199 ∧ 1 ≤ I ∧ I ≤ 400) (hr : Rise r) (hl : ∀ x ∈ r, lineErr x = 0) (hn : r.length ≤ 448) : check Y I r = 0 := by
  unfold check
  rw [if_neg (by omega), if_neg (by omega)]
  exact chk_of hr hl (fun q e => by cases e)
theorem ok_years {y i : Int} {l : List Ln} (h : check y i l = 0) : 1900 ≤ y ∧ y ≤ 2199 ∧ 1 ≤ i ∧ i ≤ 400 := by
  obtain ⟨h1, h2, h3, h4, _⟩ := check_ok h
  omega
/-- what was and its difference, merged, is what is now -/
theorem of_back {y i y' i' Y I : Int} {a b r : List Ln} (h0 : IsOf y i a y' i' b 0 Y I r) (ha : noneB y i a = false) (hb : noneB y' i' b = false) : Y = y' ∧ I = i' ∧ check Y I r = 0 ∧ mergeL a r = some b ∧ merge y i a Y I r = (0, y', i', b) := by
  have k := of_ok h0
  have hca := wrong_some k.wa ha
  have hcb := wrong_some k.wb hb
  have ra := wrong_ok k.wa
  have rb := wrong_ok k.wb
  obtain ⟨e1, e2⟩ : y = y' ∧ i = i' := by
    rcases k.per with q | q | q
    · rw [ha] at q; cases q
    · rw [hb] at q; cases q
    · exact q
  have hY : Y = y' := by rw [k.hy, hb]; rfl
  have hI : I = i' := by rw [k.hi, hb]; rfl
  have hcr : check Y I r = 0 := check_of (by rw [hY, hI]; exact ok_years hcb) k.del.rise (delta_right k.del ra.2.2 rb.2.2 k.fit) k.few
  have hfb : ∀ p c, fits (lval p c b) = true := fun p c => by
    by_cases hm : ∃ x ∈ b, x.part = p ∧ x.code = c
    · obtain ⟨x, hx, rfl, rfl⟩ := hm
      rw [lval_mem rb.1 hx]; exact (lineErr_iff.1 (rb.2.2 x hx)).2.2.2.2
    · rw [lval_none fun x hx e => hm ⟨x, hx, e⟩]; decide
  have hm : mergeL a r = some b := by
    obtain ⟨l, hl⟩ := mergeL_some ra.1 k.del.rise fun p c => by
      rw [k.del.val, show lval p c a + (lval p c b - lval p c a) = lval p c b by omega]; exact hfb p c
    obtain ⟨l1, l2⟩ := mergeL_rise hl ra.1 k.del.rise ra.2.1 k.del.nonz
    rw [hl, val_inj l1 rb.1 l2 rb.2.1 fun p c => by rw [mergeL_val hl, k.del.val]; omega]
  have hlb : b.length ≤ 448 := (check_ok hcb).2.2.2.2.1
  refine ⟨hY, hI, hcr, hm, ?_⟩
  unfold merge
  subst e1
  subst e2
  rw [if_neg (by rw [hca]; decide), if_neg (by rw [hcr]; decide), hY, hI, if_neg (by omega), hm]
  simp only
  rw [if_neg (by omega)]

end Wb
end Go.Proofs.YtnefdpnolojojaaGreat
/- Plain facts for chapter 29: chains of differences, sums. -/
namespace Go.Proofs.YtnefdpnolojojaaGreat
namespace Wb

theorem none_false {y i : Int} {l : List Ln} (h : noneB y i l = false) : ¬ (y = 0 ∧ i = 0 ∧ l = []) := fun e => by rw [none_iff.2 e] at h; cases h
/-- the period of a difference that isn't the zero slip -/
theorem of_period {y i y' i' Y I : Int} {a b r : List Ln} (h0 : IsOf y i a y' i' b 0 Y I r) (hz : noneB Y I r = false) : 1900 ≤ Y ∧ Y ≤ 2199 ∧ 1 ≤ I ∧ I ≤ 400 ∧ (noneB y i a = false ∨ noneB y' i' b = false) ∧ (noneB y i a = false → Y = y ∧ I = i) ∧ (noneB y' i' b = false → Y = y' ∧ I = i') := by
  have k := of_ok h0
  rcases hb : noneB y' i' b with _ | _
  · have hY : Y = y' := by rw [k.hy, hb]; rfl
    have hI : I = i' := by rw [k.hi, hb]; rfl
    obtain ⟨h1, h2, h3, h4⟩ := ok_years (wrong_some k.wb hb)
    refine ⟨by omega, by omega, by omega, by omega, .inr rfl, fun ha => ?_, fun _ => ⟨hY, hI⟩⟩
    rcases k.per with q | q | q
    · rw [ha] at q; cases q
    · rw [hb] at q; cases q
    · omega
  · have hY : Y = y := by rw [k.hy, hb]; rfl
    have hI : I = i := by rw [k.hi, hb]; rfl
    rcases ha : noneB y i a with _ | _
    · obtain ⟨h1, h2, h3, h4⟩ := ok_years (wrong_some k.wa ha)
      exact ⟨by omega, by omega, by omega, by omega, .inl rfl, fun _ => ⟨hY, hI⟩, fun q => by cases q⟩
    · exfalso
      obtain ⟨rfl, rfl, rfl⟩ := none_iff.1 ha
      obtain ⟨_, _, rfl⟩ := none_iff.1 hb
      have := k.del.self
      subst this
      rw [hY, hI] at hz
      exact none_false hz ⟨rfl, rfl, rfl⟩
theorem fit_all {r : List Ln} (hr : Rise r) (hf : ∀ x ∈ r, fits x.cents = true) (p : Int) (c : List UInt8) : fits (lval p c r) = true := by
  by_cases hm : ∃ x ∈ r, x.part = p ∧ x.code = c
  · obtain ⟨x, hx, rfl, rfl⟩ := hm
    rw [lval_mem hr hx]; exact hf x hx
  · rw [lval_none fun x hx e => hm ⟨x, hx, e⟩]; decide
/-- the difference of the first and the third is both differences, merged -/
theorem of_chain {y i y' i' y'' i'' Y I Y' I' Y'' I'' : Int} {a b c r s t : List Ln} (h1 : IsOf y i a y' i' b 0 Y I r) (h2 : IsOf y' i' b y'' i'' c 0 Y' I' s) (h3 : IsOf y i a y'' i'' c 0 Y'' I'' t)
    (z1 : noneB Y I r = false) (z2 : noneB Y' I' s = false) (z3 : noneB Y'' I'' t = false) : merge Y I r Y' I' s = (0, Y'', I'', t) := by
  have k1 := of_ok h1
  have k2 := of_ok h2
  have k3 := of_ok h3
  obtain ⟨p1, p2, p3, p4, o1, f1, g1⟩ := of_period h1 z1
  obtain ⟨q1, q2, q3, q4, o2, f2, g2⟩ := of_period h2 z2
  obtain ⟨_, _, _, _, o3, f3, g3⟩ := of_period h3 z3
  have ra := wrong_ok k1.wa
  have rb := wrong_ok k1.wb
  have rc := wrong_ok k2.wb
  have hc1 : check Y I r = 0 := check_of ⟨p1, p2, p3, p4⟩ k1.del.rise (delta_right k1.del ra.2.2 rb.2.2 k1.fit) k1.few
  have hc2 : check Y' I' s = 0 := check_of ⟨q1, q2, q3, q4⟩ k2.del.rise (delta_right k2.del rb.2.2 rc.2.2 k2.fit) k2.few
  have hper : Y = Y' ∧ I = I' ∧ Y = Y'' ∧ I = I'' := by
    rcases hb : noneB y' i' b with _ | _
    · have e1 := g1 hb
      have e2 := f2 hb
      rcases o3 with h | h
      · have := f1 h; have := f3 h; omega
      · have := g2 h; have := g3 h; omega
    · have ha : noneB y i a = false := o1.elim id fun h => by rw [hb] at h; cases h
      have hc : noneB y'' i'' c = false := o2.elim (fun h => by rw [hb] at h; cases h) id
      have := f1 ha; have := g2 hc; have := f3 ha; have := g3 hc
      omega
  obtain ⟨rfl, rfl, rfl, rfl⟩ := hper
  have hm : mergeL r s = some t := by
    obtain ⟨l, hl⟩ := mergeL_some k1.del.rise k2.del.rise fun p d => by
      rw [k1.del.val, k2.del.val, show lval p d b - lval p d a + (lval p d c - lval p d b) = lval p d c - lval p d a by omega, ← k3.del.val]
      exact fit_all k3.del.rise k3.fit p d
    obtain ⟨l1, l2⟩ := mergeL_rise hl k1.del.rise k2.del.rise k1.del.nonz k2.del.nonz
    rw [hl, val_inj l1 k3.del.rise l2 k3.del.nonz fun p d => by rw [mergeL_val hl, k1.del.val, k2.del.val, k3.del.val]; omega]
  unfold merge
  have hfew := k3.few
  rw [if_neg (by rw [hc1]; decide), if_neg (by rw [hc2]; decide), if_neg (by omega), hm]
  simp only
  rw [if_neg (by omega)]

/-- a list of slips: their nets, added -/
structure Sl where
  y : Int
  i : Int
  v : Value
  l : List Ln
def netF : Int → List Sl → Int × Int
  | acc, [] => (acc, 0)
  | acc, s :: r => if noneB s.y s.i s.l = true then netF acc r
    else if (sums s.y s.i s.l).2.2.2.2 ≠ 0 then (0, (sums s.y s.i s.l).2.2.2.2)
    else if fits (acc + (sums s.y s.i s.l).2.2.1) = false then (0, 9) else netF (acc + (sums s.y s.i s.l).2.2.1) r

end Wb
end Go.Proofs.YtnefdpnolojojaaGreat
