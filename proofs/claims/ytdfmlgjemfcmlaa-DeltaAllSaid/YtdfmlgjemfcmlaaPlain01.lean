/- Plain facts for chapter 1 (cents): the text of an amount, what a text is read as, sums. No program in sight. -/
import Derived.Test.YtdfmlgjemfcmlaaPlain0
namespace Go.Proofs.Ytdfmlgjemfcmlaa
namespace Wb

/-- the bound of amounts -/
def most : Int := 1125899906842624
theorem most_eq : most = 1125899906842624 := rfl
def fits (c : Int) : Bool := decide (-1125899906842624 ≤ c) && decide (c ≤ 1125899906842624)
theorem fits_iff (c : Int) : fits c = true ↔ -1125899906842624 ≤ c ∧ c ≤ 1125899906842624 := by simp [fits]

/-- what Add and Sub come to: the amount and the error's number -/
def told (a b c : Int) : Int × Int := if fits a = true ∧ fits b = true then (if fits c = true then (c, 0) else (0, 9)) else (0, 2)
def sumTo (s : Int) : List Int → Int × Int
  | [] => (s, 0)
  | x :: r => if (told s x (s + x)).2 = 0 then sumTo (told s x (s + x)).1 r else (0, (told s x (s + x)).2)
def sum (l : List Int) : Int × Int := sumTo 0 l

/-- a digit -/
def dig (n : Nat) : UInt8 := UInt8.ofNat (48 + n)
/-- a whole number's digits -/
def digs (n : Nat) : List UInt8 := if _h : n < 10 then [dig n] else digs (n / 10) ++ [dig (n % 10)]
termination_by n
decreasing_by omega
theorem digs_lt {n : Nat} (h : n < 10) : digs n = [dig n] := by rw [digs]; simp [h]
theorem digs_ge {n : Nat} (h : 10 ≤ n) : digs n = digs (n / 10) ++ [dig (n % 10)] := by
  rw [digs]; have : ¬ n < 10 := by omega
  simp [this]

theorem digs_length (k : Nat) : ∀ n, n < 10 ^ (k + 1) → (digs n).length ≤ k + 1 := by
  induction k with
  | zero => intro n h; rw [digs_lt (by simpa using h)]; simp
  | succ k ih =>
    intro n h
    by_cases hn : n < 10
    · rw [digs_lt hn]; simp
    · rw [digs_ge (by omega)]
      have : n / 10 < 10 ^ (k + 1) := by rw [Nat.pow_succ] at h; omega
      have := ih (n / 10) this
      simp; omega
theorem digs_pos (n : Nat) : 0 < (digs n).length := by
  by_cases hn : n < 10
  · rw [digs_lt hn]; simp
  · rw [digs_ge (by omega)]; simp

/-- the text of an amount that is not below 0 -/
def textN (n : Nat) : List UInt8 := digs (n / 100) ++ [46] ++ digs (n / 10 % 10) ++ digs (n % 10)
/-- the text of an amount that fits -/
def textZ (c : Int) : List UInt8 := if c < 0 then 45 :: textN c.natAbs else textN c.natAbs
def text (c : Int) : List UInt8 := if fits c = true then textZ c else []


/-- Parse's loop: what is read up to now, is it below 0, is it the first byte -/
def scan (acc : Int) (below first : Bool) : List UInt8 → Option (Int × Bool)
  | [] => some (acc, below)
  | b :: r =>
    if first = true ∧ b = 45 then scan acc true false r
    else if b = 46 then scan acc below false r
    else if b < 48 ∨ 57 < b ∨ 1125899906842624 < acc then none
    else scan (10 * acc + (b.toNat - 48 : Int)) below false r

theorem dig_toNat {n : Nat} (h : n < 10) : (dig n).toNat = 48 + n := by simp [dig]; omega
theorem dig_is {n : Nat} (h : n < 10) : dig n ≠ 45 ∧ dig n ≠ 46 ∧ ¬ dig n < 48 ∧ ¬ 57 < dig n := by
  have := dig_toNat h
  refine ⟨?_, ?_, ?_, ?_⟩
  · intro e; rw [e] at this; simp at this; omega
  · intro e; rw [e] at this; simp at this; omega
  · rw [UInt8.lt_iff_toNat_lt, this]; simp
  · rw [UInt8.lt_iff_toNat_lt, this]; simp; omega
theorem scan_dig {n : Nat} (h : n < 10) {acc : Int} (ha : acc ≤ 1125899906842624) (below first : Bool) (r : List UInt8) :
    scan acc below first (dig n :: r) = scan (10 * acc + n) below false r := by
  have ⟨h1, h2, h3, h4⟩ := dig_is h
  have h5 : ¬ 1125899906842624 < acc := by omega
  rw [scan, if_neg (by simp [h1]), if_neg h2, if_neg (by simp only [h3, h4, h5]; simp), dig_toNat h]
  congr 1; omega
theorem scan_digs (n : Nat) : n ≤ 1125899906842624 → ∀ (below first : Bool) (r : List UInt8), scan 0 below first (digs n ++ r) = scan n below false r := by
  induction n using Nat.strongRecOn with
  | _ n ih =>
    intro hn below first r
    by_cases h : n < 10
    · rw [digs_lt h, List.singleton_append, scan_dig h (by omega)]; congr 1; omega
    · rw [digs_ge (by omega), List.append_assoc, ih (n / 10) (by omega) (by omega), List.singleton_append, scan_dig (by omega) (by omega)]
      congr 1; omega
theorem scan_textN {n : Nat} (hn : n ≤ 1125899906842624) (below first : Bool) : scan 0 below first (textN n) = some ((n : Int), below) := by
  unfold textN
  rw [List.append_assoc, List.append_assoc, scan_digs _ (by omega), digs_lt (n := n / 10 % 10) (by omega), digs_lt (n := n % 10) (by omega), List.singleton_append, scan, if_neg (by simp), if_pos rfl,
    List.singleton_append, scan_dig (by omega) (by omega), scan_dig (by omega) (by omega), scan]
  congr 2; omega

/-- what Parse comes to -/
theorem natAbs_fits {c : Int} (h : fits c = true) : c.natAbs ≤ 1125899906842624 := by have := (fits_iff c).1 h; omega
theorem scan_text {c : Int} (h : fits c = true) : ∃ x b, scan 0 false true (text c) = some (x, b) ∧ c = if b = true then -x else x := by
  have hn := natAbs_fits h
  by_cases h0 : c < 0
  · refine ⟨c.natAbs, true, ?_, by simp; omega⟩
    rw [text, if_pos h, textZ, if_pos h0, scan, if_pos ⟨rfl, rfl⟩, scan_textN hn]
  · refine ⟨c.natAbs, false, ?_, by simp; omega⟩
    rw [text, if_pos h, textZ, if_neg h0, scan_textN hn]
theorem text_inj {a b : Int} (ha : fits a = true) (hb : fits b = true) (h : text a = text b) : a = b := by
  obtain ⟨x, p, h1, h2⟩ := scan_text ha
  obtain ⟨y, q, h3, h4⟩ := scan_text hb
  rw [h, h3] at h1; injection h1 with h1; injection h1 with e1 e2; subst e1 e2; rw [h2, h4]
theorem text_ne {c : Int} (h : fits c = true) : text c ≠ [] := by
  rw [text, if_pos h, textZ]
  have : textN c.natAbs ≠ [] := by simp [textN]
  split <;> simp [this]

open Classical in
/-- the amount that a text is, and 0; or 0, and 3 -/
noncomputable def parse (l : List UInt8) : Int × Int := if h : ∃ c, fits c = true ∧ text c = l then (h.choose, 0) else (0, 3)
theorem parse_text {c : Int} (h : fits c = true) : parse (text c) = (c, 0) := by
  have hx : ∃ x, fits x = true ∧ text x = text c := ⟨c, h, rfl⟩
  rw [parse, dif_pos hx]
  rw [text_inj hx.choose_spec.1 h hx.choose_spec.2]
theorem parse_none {l : List UInt8} (h : ∀ c, fits c = true → text c ≠ l) : parse l = (0, 3) := by
  rw [parse, dif_neg]; rintro ⟨c, h1, h2⟩; exact h c h1 h2
theorem parse_cases (l : List UInt8) : (∃ c, fits c = true ∧ text c = l ∧ parse l = (c, 0)) ∨ ((∀ c, fits c = true → text c ≠ l) ∧ parse l = (0, 3)) := by
  by_cases h : ∃ c, fits c = true ∧ text c = l
  · obtain ⟨c, h1, h2⟩ := h; exact .inl ⟨c, h1, h2, by rw [← h2, parse_text h1]⟩
  · have h' : ∀ c, fits c = true → text c ≠ l := fun c h1 h2 => h ⟨c, h1, h2⟩
    exact .inr ⟨h', parse_none h'⟩

theorem parse_scan_none {l : List UInt8} (h : scan 0 false true l = none) : parse l = (0, 3) :=
  parse_none fun c h1 h2 => by obtain ⟨x, b, h3, _⟩ := scan_text h1; rw [h2, h] at h3; cases h3
theorem parse_scan_ok {l : List UInt8} {v : Int} (h0 : l ≠ []) (h : text v = l) : parse l = (v, 0) := by
  by_cases hf : fits v = true
  · rw [← h]; exact parse_text hf
  · rw [text, if_neg hf] at h; exact absurd h.symm h0
theorem parse_scan_not {l : List UInt8} {acc : Int} {bl : Bool} (h : scan 0 false true l = some (acc, bl)) (hn : text (if bl = true then -acc else acc) ≠ l) : parse l = (0, 3) :=
  parse_none fun c h1 h2 => by
    obtain ⟨x, b, h3, h4⟩ := scan_text h1
    rw [h2, h] at h3; injection h3 with h3; injection h3 with e1 e2; subst e1 e2
    exact hn (by rw [← h4]; exact h2)
theorem parse_nil : parse [] = (0, 3) := parse_none fun _ h1 h2 => text_ne h1 h2

theorem u8_eq {b : UInt8} {n : Nat} (hn : n < 256) : b = UInt8.ofNat n ↔ (b.toNat : Int) = n := by rw [← UInt8.toNat_inj]; simp; omega
theorem step45 {b : UInt8} (h : (b.toNat : Int) = 45) (acc : Int) (bl : Bool) (r : List UInt8) : scan acc bl true (b :: r) = scan acc true false r := by
  have : b = 45 := (u8_eq (n := 45) (by omega)).2 h
  rw [scan, if_pos ⟨rfl, this⟩]
theorem step46 {b : UInt8} (h : (b.toNat : Int) = 46) (acc : Int) (bl f : Bool) (r : List UInt8) : scan acc bl f (b :: r) = scan acc bl false r := by
  have : b = 46 := (u8_eq (n := 46) (by omega)).2 h
  subst this
  rw [scan, if_neg (by simp), if_pos rfl]
theorem stepBad {b : UInt8} {acc : Int} {bl f : Bool} (h1 : ¬ (f = true ∧ (b.toNat : Int) = 45)) (h2 : (b.toNat : Int) ≠ 46) (h3 : (b.toNat : Int) < 48 ∨ 57 < (b.toNat : Int) ∨ 1125899906842624 < acc) (r : List UInt8) :
    scan acc bl f (b :: r) = none := by
  have e1 : ¬ (f = true ∧ b = 45) := fun ⟨x, y⟩ => h1 ⟨x, (u8_eq (n := 45) (by omega)).1 y⟩
  have e2 : ¬ b = 46 := fun y => h2 ((u8_eq (n := 46) (by omega)).1 y)
  rw [scan, if_neg e1, if_neg e2, if_pos]
  rw [UInt8.lt_iff_toNat_lt, UInt8.lt_iff_toNat_lt]
  simpa using (by omega : b.toNat < 48 ∨ 57 < b.toNat ∨ 1125899906842624 < acc)
theorem stepDig {b : UInt8} {acc : Int} (h1 : 48 ≤ (b.toNat : Int)) (h2 : (b.toNat : Int) ≤ 57) (h3 : acc ≤ 1125899906842624) (bl f : Bool) (r : List UInt8) :
    scan acc bl f (b :: r) = scan (10 * acc + ((b.toNat : Int) - 48)) bl false r := by
  have e1 : ¬ (f = true ∧ b = 45) := fun ⟨_, y⟩ => by have := (u8_eq (n := 45) (by omega)).1 y; omega
  have e2 : ¬ b = 46 := fun y => by have := (u8_eq (n := 46) (by omega)).1 y; omega
  rw [scan, if_neg e1, if_neg e2, if_neg]
  rw [UInt8.lt_iff_toNat_lt, UInt8.lt_iff_toNat_lt]
  have : ¬ (b.toNat < 48 ∨ 57 < b.toNat ∨ 1125899906842624 < acc) := by omega
  simpa using this

/-! ### what the reference reads -/
def Dg (b : UInt8) : Prop := 48 ≤ b.toNat ∧ b.toNat ≤ 57
def val (l : List UInt8) : Nat := l.foldl (fun a b => 10 * a + (b.toNat - 48)) 0
theorem val_snoc (l : List UInt8) (b : UInt8) : val (l ++ [b]) = 10 * val l + (b.toNat - 48) := by simp [val]
theorem dig_val {b : UInt8} (h : Dg b) : dig (b.toNat - 48) = b := by
  rw [← UInt8.toNat_inj, dig_toNat (by have := h.2; omega)]; have := h.1; omega
theorem Dg_dig {n : Nat} (h : n < 10) : Dg (dig n) := by have := dig_toNat h; unfold Dg; omega

theorem digs_all (n : Nat) : ∀ b ∈ digs n, Dg b := by
  induction n using Nat.strongRecOn with
  | _ n ih =>
    by_cases h : n < 10
    · rw [digs_lt h]; simp; exact Dg_dig h
    · rw [digs_ge (by omega)]
      intro b hb
      rcases List.mem_append.1 hb with hb | hb
      · exact ih _ (by omega) b hb
      · rw [List.mem_singleton.1 hb]; exact Dg_dig (by omega)
theorem val_digs (n : Nat) : val (digs n) = n := by
  induction n using Nat.strongRecOn with
  | _ n ih =>
    by_cases h : n < 10
    · rw [digs_lt h]; simp [val, dig_toNat h]
    · rw [digs_ge (by omega), val_snoc, ih _ (by omega), dig_toNat (by omega)]; omega
theorem digs_head (n : Nat) (h : 10 ≤ n) : byteAt (digs n) 0 ≠ 48 := by
  induction n using Nat.strongRecOn with
  | _ n ih =>
    rw [digs_ge h, byteAt_left (digs_pos _)]
    by_cases h2 : 10 ≤ n / 10
    · exact ih _ (by omega) h2
    · rw [digs_lt (by omega), byteAt_cons0]
      intro e; have := dig_toNat (n := n / 10) (by omega); rw [e] at this; simp at this; omega

theorem val_pos : ∀ (l : List UInt8), (∀ b ∈ l, Dg b) → l ≠ [] → byteAt l 0 ≠ 48 → 1 ≤ val l := by
  refine snoc_ind ?_ ?_
  · intro _ h; exact absurd rfl h
  · intro l b ih hd _ h0
    rw [val_snoc]
    by_cases hl : l = []
    · subst hl
      have := hd b (by simp)
      simp [byteAt] at h0
      have hb : b.toNat ≠ 48 := fun e => h0 (UInt8.toNat_inj.1 e)
      have := this.1; omega
    · have hp : 0 < l.length := List.length_pos_iff.2 hl
      have := ih (fun b hb => hd b (by simp [hb])) hl (by rwa [byteAt_left hp] at h0)
      omega
theorem digs_val : ∀ (l : List UInt8), (∀ b ∈ l, Dg b) → l ≠ [] → (l.length = 1 ∨ byteAt l 0 ≠ 48) → digs (val l) = l := by
  refine snoc_ind ?_ ?_
  · intro _ h; exact absurd rfl h
  · intro l b ih hd _ h0
    have hb := hd b (by simp)
    rw [val_snoc]
    by_cases hl : l = []
    · subst hl
      have := hb.2
      simp only [val, List.foldl_nil, Nat.mul_zero, Nat.zero_add, List.nil_append]
      rw [digs_lt (by omega), dig_val hb]
    · have hp : 0 < l.length := List.length_pos_iff.2 hl
      have h1 : byteAt l 0 ≠ 48 := by
        rcases h0 with h0 | h0
        · simp at h0; exact absurd h0 hl
        · rwa [byteAt_left hp] at h0
      have hd' : ∀ b ∈ l, Dg b := fun b hb => hd b (by simp [hb])
      have h2 := val_pos l hd' hl h1
      have := hb.2
      rw [digs_ge (by omega), show (10 * val l + (b.toNat - 48)) / 10 = val l by omega, show (10 * val l + (b.toNat - 48)) % 10 = b.toNat - 48 by omega, ih hd' hl (.inr h1), dig_val hb]

/-- what of the first k bytes is a number, the point left out -/
def num (t : List UInt8) (k : Nat) : Nat := val (t.take (min k (t.length - 3)) ++ (t.drop (t.length - 2)).take (k - (t.length - 2)))
theorem num_zero (t : List UInt8) : num t 0 = 0 := by simp [num, val]
theorem num_left {t : List UInt8} {k : Nat} (h : k < t.length - 3) : num t (k + 1) = 10 * num t k + ((byteAt t k).toNat - 48) := by
  unfold num
  rw [show min (k + 1) (t.length - 3) = k + 1 by omega, show min k (t.length - 3) = k by omega, show k + 1 - (t.length - 2) = 0 by omega, show k - (t.length - 2) = 0 by omega, take_byte (by omega)]
  simp only [List.take_zero, List.append_nil]; rw [val_snoc]
theorem num_point {t : List UInt8} {k : Nat} (h : k = t.length - 3) (h4 : 3 ≤ t.length) : num t (k + 1) = num t k := by
  unfold num
  rw [show min (k + 1) (t.length - 3) = k by omega, show min k (t.length - 3) = k by omega, show k + 1 - (t.length - 2) = 0 by omega, show k - (t.length - 2) = 0 by omega]
theorem num_right {t : List UInt8} {k : Nat} (h : t.length - 3 < k) (hk : k < t.length) : num t (k + 1) = 10 * num t k + ((byteAt t k).toNat - 48) := by
  unfold num
  rw [show min (k + 1) (t.length - 3) = t.length - 3 by omega, show min k (t.length - 3) = t.length - 3 by omega, show k + 1 - (t.length - 2) = (k - (t.length - 2)) + 1 by omega,
    take_byte (by simp; omega), byteAt_drop, show t.length - 2 + (k - (t.length - 2)) = k by omega, ← List.append_assoc, val_snoc]

/-- a text that the reference takes -/
def Form (t : List UInt8) : Prop := 4 ≤ t.length ∧ t.length ≤ 17 ∧ byteAt t (t.length - 3) = 46 ∧ (∀ j, j < t.length → j ≠ t.length - 3 → Dg (byteAt t j)) ∧ ¬ (byteAt t 0 = 48 ∧ 4 < t.length)
theorem form_textN {n : Nat} (hn : n ≤ 1125899906842624) : Form (textN n) ∧ num (textN n) (textN n).length = n := by
  have hp := digs_pos (n / 100)
  have hl := digs_length 13 (n / 100) (by omega)
  have e : textN n = digs (n / 100) ++ 46 :: [dig (n / 10 % 10), dig (n % 10)] := by
    unfold textN; rw [digs_lt (n := n / 10 % 10) (by omega), digs_lt (n := n % 10) (by omega)]; simp
  have el : (textN n).length = (digs (n / 100)).length + 3 := by rw [e]; simp
  refine ⟨⟨by omega, by omega, ?_, ?_, ?_⟩, ?_⟩
  · rw [el, e, byteAt_right (by omega)]; simp [byteAt]
  · intro j hj hn3
    rw [el] at hj hn3
    rw [e]
    by_cases h : j < (digs (n / 100)).length
    · rw [byteAt_left h]; exact digs_all _ _ (byteAt_mem h)
    · rw [byteAt_right (by omega)]
      have : j - (digs (n / 100)).length = 1 ∨ j - (digs (n / 100)).length = 2 := by omega
      rcases this with h | h <;> rw [h] <;> simp [byteAt] <;> exact Dg_dig (by omega)
  · rintro ⟨h1, h2⟩
    rw [e, byteAt_left hp] at h1
    rw [el] at h2
    by_cases h10 : 10 ≤ n / 100
    · exact digs_head _ h10 h1
    · rw [digs_lt (by omega)] at h2; simp at h2
  · unfold num
    rw [el, show min ((digs (n / 100)).length + 3) ((digs (n / 100)).length + 3 - 3) = (digs (n / 100)).length by omega, show (digs (n / 100)).length + 3 - 2 = (digs (n / 100)).length + 1 by omega, e]
    rw [List.take_left' rfl, show (digs (n / 100) ++ 46 :: [dig (n / 10 % 10), dig (n % 10)]).drop ((digs (n / 100)).length + 1) = [dig (n / 10 % 10), dig (n % 10)] by simp [List.drop_append]]
    rw [show (digs (n / 100)).length + 3 - ((digs (n / 100)).length + 1) = 2 by omega]
    rw [show ([dig (n / 10 % 10), dig (n % 10)] : List UInt8).take 2 = [dig (n / 10 % 10)] ++ [dig (n % 10)] from rfl, ← List.append_assoc, val_snoc, val_snoc, val_digs, dig_toNat (by omega), dig_toNat (by omega)]
    omega
theorem textN_form {t : List UInt8} (h : Form t) : textN (num t t.length) = t := by
  obtain ⟨h4, _, hpt, hd, hz⟩ := h
  obtain ⟨hd', tl, rfl, hlt⟩ : ∃ a b, t = a ++ b ∧ b.length = 3 := ⟨t.take (t.length - 3), t.drop (t.length - 3), by simp, by simp; omega⟩
  obtain ⟨p, x, y, rfl⟩ : ∃ p x y, tl = [p, x, y] := by
    match tl, hlt with
    | [p, x, y], _ => exact ⟨p, x, y, rfl⟩
  have el : ∀ p x y : UInt8, (hd' ++ [p, x, y]).length = hd'.length + 3 := by intros; simp
  rw [el] at h4 hpt hz
  simp only [el] at hd
  have ep : p = 46 := by rw [show hd'.length + 3 - 3 = hd'.length by omega, byteAt_right (by omega)] at hpt; simpa [byteAt] using hpt
  subst ep
  have dx : Dg x := by have := hd (hd'.length + 1) (by omega) (by omega); rw [byteAt_right (by omega)] at this; simpa [byteAt] using this
  have dy : Dg y := by have := hd (hd'.length + 2) (by omega) (by omega); rw [byteAt_right (by omega)] at this; simpa [byteAt] using this
  have dh : ∀ b ∈ hd', Dg b := by
    intro b hb
    obtain ⟨j, hj, rfl⟩ := List.getElem_of_mem hb
    have := hd j (by omega) (by omega)
    rwa [byteAt_left hj, byteAt_eq hj] at this
  have hne : hd' ≠ [] := by rintro rfl; simp at h4
  have hz' : hd'.length = 1 ∨ byteAt hd' 0 ≠ 48 := by
    by_cases h1 : hd'.length = 1
    · exact .inl h1
    · exact .inr fun e => hz ⟨by rw [byteAt_left (by omega)]; exact e, by omega⟩
  have hnum : num (hd' ++ [46, x, y]) (hd'.length + 3) = 10 * (10 * val hd' + (x.toNat - 48)) + (y.toNat - 48) := by
    unfold num
    rw [el, show min (hd'.length + 3) (hd'.length + 3 - 3) = hd'.length by omega, List.take_left' rfl, show (hd' ++ [46, x, y]).drop (hd'.length + 3 - 2) = [x, y] by rw [show hd'.length + 3 - 2 = hd'.length + 1 by omega]; simp [List.drop_append],
      show hd'.length + 3 - (hd'.length + 3 - 2) = 2 by omega, show ([x, y] : List UInt8).take 2 = [x] ++ [y] from rfl, ← List.append_assoc, val_snoc, val_snoc]
  have := dx.2; have := dy.2
  rw [el, hnum]
  unfold textN
  rw [show (10 * (10 * val hd' + (x.toNat - 48)) + (y.toNat - 48)) / 100 = val hd' by omega, show (10 * (10 * val hd' + (x.toNat - 48)) + (y.toNat - 48)) / 10 % 10 = x.toNat - 48 by omega,
    show (10 * (10 * val hd' + (x.toNat - 48)) + (y.toNat - 48)) % 10 = y.toNat - 48 by omega, digs_val hd' dh hne hz', digs_lt (by omega), digs_lt (by omega), dig_val dx, dig_val dy]
  simp

theorem textN_no45 (n : Nat) : byteAt (textN n) 0 ≠ 45 := by
  have hp := digs_pos (n / 100)
  unfold textN
  rw [List.append_assoc, List.append_assoc, byteAt_left hp]
  have := (digs_all _ _ (byteAt_mem hp)).1
  intro e; rw [e] at this; simp at this
theorem fits_nat {n : Nat} (h : n ≤ 1125899906842624) : fits n = true ∧ fits (-n) = true := by rw [fits_iff, fits_iff]; omega

/-- below 0 -/
theorem parse_minus_ok {t : List UInt8} (h : Form t) (hm : num t t.length ≤ 1125899906842624) (h0 : num t t.length ≠ 0) : parse (45 :: t) = (-(num t t.length : Int), 0) := by
  have e : text (-(num t t.length : Int)) = 45 :: t := by
    rw [text, if_pos (fits_nat hm).2, textZ, if_pos (by omega), Int.natAbs_neg, Int.natAbs_natCast, textN_form h]
  rw [← e, parse_text (fits_nat hm).2]
theorem parse_minus_not {t : List UInt8} (h : ¬ (Form t ∧ num t t.length ≤ 1125899906842624 ∧ num t t.length ≠ 0)) : parse (45 :: t) = (0, 3) := by
  refine parse_none fun c h1 h2 => h ?_
  have hn := natAbs_fits h1
  rw [text, if_pos h1, textZ] at h2
  by_cases h0 : c < 0
  · rw [if_pos h0] at h2
    injection h2 with _ h2
    rw [← h2]
    obtain ⟨a, b⟩ := form_textN hn
    exact ⟨a, by rw [b]; exact hn, by rw [b]; omega⟩
  · rw [if_neg h0] at h2
    exact absurd (by rw [h2, byteAt_cons0]) (textN_no45 c.natAbs)
theorem parse_plain_ok {t : List UInt8} (h : Form t) (hm : num t t.length ≤ 1125899906842624) : parse t = ((num t t.length : Int), 0) := by
  have e : text ((num t t.length : Int)) = t := by
    rw [text, if_pos (fits_nat hm).1, textZ, if_neg (by omega), Int.natAbs_natCast, textN_form h]
  have := parse_text (fits_nat hm).1
  rwa [e] at this
theorem parse_plain_not {t : List UInt8} (h45 : byteAt t 0 ≠ 45 ∨ t = []) (h : ¬ (Form t ∧ num t t.length ≤ 1125899906842624)) : parse t = (0, 3) := by
  refine parse_none fun c h1 h2 => ?_
  have hn := natAbs_fits h1
  have hne := text_ne h1
  rw [text, if_pos h1, textZ] at h2
  by_cases h0 : c < 0
  · rw [if_pos h0] at h2
    rcases h45 with h45 | h45
    · exact h45 (by rw [← h2, byteAt_cons0])
    · rw [h45] at h2; cases h2
  · rw [if_neg h0] at h2
    obtain ⟨a, b⟩ := form_textN hn
    rw [← h2] at h
    exact h ⟨a, by rw [b]; exact hn⟩

/-- the two ways in which a text begins -/
def Case (bl : Bool) (l t : List UInt8) : Prop := (bl = true ∧ l = 45 :: t) ∨ (bl = false ∧ l = t ∧ (byteAt t 0 ≠ 45 ∨ t = []))
theorem fin_ok {bl : Bool} {l t : List UInt8} (hc : Case bl l t) (h : Form t) (hm : num t t.length ≤ 1125899906842624) (h0 : bl = true → num t t.length ≠ 0) :
    parse l = (if bl = true then -(num t t.length : Int) else num t t.length, 0) := by
  rcases hc with ⟨rfl, rfl⟩ | ⟨rfl, rfl, _⟩
  · rw [parse_minus_ok h hm (h0 rfl)]; rfl
  · rw [parse_plain_ok h hm]; rfl
theorem fin_not {bl : Bool} {l t : List UInt8} (hc : Case bl l t) (h : ¬ (Form t ∧ num t t.length ≤ 1125899906842624 ∧ (bl = true → num t t.length ≠ 0))) : parse l = (0, 3) := by
  rcases hc with ⟨rfl, rfl⟩ | ⟨rfl, rfl, h45⟩
  · exact parse_minus_not fun ⟨a, b, c⟩ => h ⟨a, b, fun _ => c⟩
  · exact parse_plain_not h45 fun ⟨a, b⟩ => h ⟨a, b, fun x => by cases x⟩
theorem val_lt : ∀ (l : List UInt8), (∀ b ∈ l, Dg b) → val l < 10 ^ l.length := by
  refine snoc_ind ?_ ?_
  · intro _; simp [val]
  · intro l b ih hd
    have := ih fun b hb => hd b (by simp [hb])
    have hb := (hd b (by simp)).2
    rw [val_snoc, List.length_append, List.length_singleton, Nat.pow_succ]; omega
theorem num_lt {t : List UInt8} {k : Nat} (h4 : 4 ≤ t.length) (hk : k ≤ t.length) (hd : ∀ j, j < k → j ≠ t.length - 3 → Dg (byteAt t j)) : num t k < 10 ^ k := by
  unfold num
  refine Nat.lt_of_lt_of_le (val_lt _ ?_) (Nat.pow_le_pow_right (by omega) (by simp; omega))
  intro b hb
  rcases List.mem_append.1 hb with hb | hb
  · obtain ⟨j, hj, rfl⟩ := List.getElem_of_mem hb
    simp at hj
    have := hd j (by omega) (by omega)
    rw [byteAt_eq (by omega)] at this
    simpa using this
  · obtain ⟨j, hj, rfl⟩ := List.getElem_of_mem hb
    simp at hj
    have := hd (t.length - 2 + j) (by omega) (by omega)
    rw [byteAt_eq (by omega)] at this
    simpa using this

/-! ### what the laws say -/
theorem told_neg {a b : Int} : told a (-b) (a + -b) = told a b (a - b) := by
  unfold told
  have : fits (-b) = fits b := by rw [Bool.eq_iff_iff, fits_iff, fits_iff]; omega
  rw [this, show a + -b = a - b by omega]
theorem told_nofit {a b c : Int} (h : ¬ fits b = true) : told a b c = (0, 2) := by unfold told; simp [h]
theorem told_comm (a b : Int) : told b a (b + a) = told a b (a + b) := by
  unfold told
  rw [Int.add_comm b a]
  by_cases h : fits a = true <;> by_cases k : fits b = true <;> simp [h, k]
theorem told_back {a b : Int} (h : (told a b (a + b)).2 = 0) : (told a b (a + b)).1 = a + b ∧ told (a + b) b (a + b - b) = (a, 0) ∧ sum [a, b] = (a + b, 0) ∧ fits (a + b) = true := by
  unfold told at h ⊢
  by_cases hab : fits a = true ∧ fits b = true
  · by_cases hc : fits (a + b) = true
    · have e : a + b - b = a := by omega
      have e0 : fits 0 = true := by decide
      simp [hab, hc, e, sum, sumTo, told, e0]
    · simp [hab, hc] at h
  · simp [hab] at h
theorem told_bad {a b c : Int} (h : (told a b c).2 ≠ 0) : (told a b c).1 = 0 := by
  unfold told at h ⊢
  split
  · split <;> simp_all
  · rfl
theorem parse_snd (l : List UInt8) : (parse l).2 = 0 ∨ (parse l).2 = 3 := by
  rcases parse_cases l with ⟨c, _, _, h⟩ | ⟨_, h⟩ <;> rw [h] <;> simp
theorem fits_false {c : Int} (h : fits c = false) : text c = [] := by simp [text, h]

/-- a list's sum -/
def total : List Int → Int | [] => 0 | x :: r => x + total r
theorem total_app (a b : List Int) : total (a ++ b) = total a + total b := by
  induction a with
  | nil => simp [total]
  | cons x r ih => simp only [List.cons_append, total, ih]; omega
theorem sumTo_small : ∀ (l : List Int) (s : Int), (∀ x ∈ l, -1099511627776 ≤ x ∧ x ≤ 1099511627776) → -(1125899906842624 - 1099511627776 * l.length) ≤ s → s ≤ 1125899906842624 - 1099511627776 * l.length → sumTo s l = (s + total l, 0) := by
  intro l
  induction l with
  | nil => intro s _ _ _; simp [sumTo, total]
  | cons x r ih =>
    intro s hx h1 h2
    have hx0 := hx x (by simp)
    simp only [List.length_cons] at h1 h2
    have hs : fits s = true := by rw [fits_iff]; omega
    have hxf : fits x = true := by rw [fits_iff]; omega
    have hsx : fits (s + x) = true := by rw [fits_iff]; omega
    have e : told s x (s + x) = (s + x, 0) := by simp [told, hs, hxf, hsx]
    rw [sumTo, e]
    simp only [if_true]
    rw [ih (s + x) (fun y hy => hx y (by simp [hy])) (by omega) (by omega), total]
    congr 1; omega
theorem sum_small {l : List Int} (hx : ∀ x ∈ l, -1099511627776 ≤ x ∧ x ≤ 1099511627776) (hl : l.length ≤ 400) : sum l = (total l, 0) := by
  unfold sum; rw [sumTo_small l 0 hx (by omega) (by omega)]; simp
theorem total_bound : ∀ {l : List Int}, (∀ x ∈ l, -1099511627776 ≤ x ∧ x ≤ 1099511627776) → -(1099511627776 * l.length : Int) ≤ total l ∧ total l ≤ 1099511627776 * l.length := by
  intro l
  induction l with
  | nil => intro _; simp [total]
  | cons x r ih =>
    intro hx
    have := ih fun y hy => hx y (by simp [hy])
    have := hx x (by simp)
    simp only [total, List.length_cons]; omega
theorem chains {a b : List Int} (ha : a.length ≤ 100) (hb : b.length ≤ 100) (hx : ∀ x ∈ a ++ b, -1099511627776 ≤ x ∧ x ≤ 1099511627776) :
    sum a = (total a, 0) ∧ sum b = (total b, 0) ∧ sum (a ++ b) = (total a + total b, 0) ∧ told (total a) (total b) (total a + total b) = (total a + total b, 0) := by
  have hxa : ∀ x ∈ a, -1099511627776 ≤ x ∧ x ≤ 1099511627776 := fun x h => hx x (by simp [h])
  have hxb : ∀ x ∈ b, -1099511627776 ≤ x ∧ x ≤ 1099511627776 := fun x h => hx x (by simp [h])
  refine ⟨sum_small hxa (by omega), sum_small hxb (by omega), ?_, ?_⟩
  · rw [sum_small hx (by simp; omega), total_app]
  · have h1 := total_bound hxa
    have h2 := total_bound hxb
    have f1 : fits (total a) = true := by rw [fits_iff]; omega
    have f2 : fits (total b) = true := by rw [fits_iff]; omega
    have f3 : fits (total a + total b) = true := by rw [fits_iff]; omega
    simp [told, f1, f2, f3]

end Wb
end Go.Proofs.Ytdfmlgjemfcmlaa
