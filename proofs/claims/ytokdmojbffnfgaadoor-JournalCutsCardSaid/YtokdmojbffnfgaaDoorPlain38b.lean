/- Plain facts for chapter 38: lines, texts, what a text is read to. No program in sight. -/
import Derived.Test.YtokdmojbffnfgaaDoorPlain01
import Derived.Test.YtokdmojbffnfgaaDoorPlain38
import Derived.Test.YtokdmojbffnfgaaDoorPlainS
namespace Go.Proofs.YtokdmojbffnfgaaDoor
namespace Wb

/-- behind the third blank -/
def cut3 (l : List UInt8) : Option (List UInt8) :=
  if (cutOn 32 l).2.2 = true ∧ (cutOn 32 (cutOn 32 l).2.1).2.2 = true ∧ (cutOn 32 (cutOn 32 (cutOn 32 l).2.1).2.1).2.2 = true then some (cutOn 32 (cutOn 32 (cutOn 32 l).2.1).2.1).2.1 else none
theorem cut3_hit {a b c r : List UInt8} (ha : (32 : UInt8) ∉ a) (hb : (32 : UInt8) ∉ b) (hc : (32 : UInt8) ∉ c) : cut3 (a ++ 32 :: (b ++ 32 :: (c ++ 32 :: r))) = some r := by
  simp [cut3, cutOn_hit ha, cutOn_hit hb, cutOn_hit hc]
theorem cut3_cases (l : List UInt8) : (cut3 l = none ∧ l.count 32 < 3) ∨ ∃ a b c r, l = a ++ 32 :: (b ++ 32 :: (c ++ 32 :: r)) ∧ (32 : UInt8) ∉ a ∧ (32 : UInt8) ∉ b ∧ (32 : UInt8) ∉ c ∧ cut3 l = some r := by
  rcases first_of 32 l with h | ⟨a, l2, rfl, ha⟩
  · left; exact ⟨by simp [cut3, cutOn_miss h], by rw [List.count_eq_zero.2 h]; omega⟩
  have ca := List.count_eq_zero.2 ha
  rcases first_of 32 l2 with h | ⟨b, l3, rfl, hb⟩
  · left; exact ⟨by simp [cut3, cutOn_hit ha, cutOn_miss h], by simp [ca, List.count_eq_zero.2 h]⟩
  have cb := List.count_eq_zero.2 hb
  rcases first_of 32 l3 with h | ⟨c, l4, rfl, hc⟩
  · left; exact ⟨by simp [cut3, cutOn_hit ha, cutOn_hit hb, cutOn_miss h], by simp [ca, cb, List.count_eq_zero.2 h]⟩
  · right; exact ⟨a, b, c, l4, rfl, ha, hb, hc, cut3_hit ha hb hc⟩
theorem cut_uniq {c : UInt8} {a a' r r' : List UInt8} (h : a ++ c :: r = a' ++ c :: r') (ha : c ∉ a) (ha' : c ∉ a') : a = a' ∧ r = r' := by
  have h1 := cutOn_hit (b := r) ha
  rw [h, cutOn_hit ha'] at h1
  simp only [Prod.mk.injEq] at h1
  exact ⟨h1.1.symm, h1.2.1.symm⟩

theorem digs_blank (n : Nat) : (32 : UInt8) ∉ digs n := fun h => by have := digs_all n _ h; exact absurd this.1 (by decide)
theorem digs_line (n : Nat) : (10 : UInt8) ∉ digs n := fun h => by have := digs_all n _ h; exact absurd this.1 (by decide)
theorem digs_inj {a b : Nat} (h : digs a = digs b) : a = b := by rw [← val_digs a, h, val_digs]
theorem digs_mono : ∀ {n m : Nat}, m ≤ n → (digs m).length ≤ (digs n).length := by
  intro n
  induction n using Nat.strongRecOn with
  | _ n ih =>
    intro m h
    by_cases hm : m < 10
    · have := digs_pos n
      rw [digs_lt hm]; simp; omega
    · rw [digs_ge (by omega), digs_ge (n := n) (by omega)]
      have := @ih (n / 10) (by omega) (m / 10) (Nat.div_le_div_right h)
      simp; exact this
theorem digs_grow {a b : Nat} (h : (digs a).length + a = (digs b).length + b) : a = b := by
  rcases Nat.lt_trichotomy a b with k | k | k
  · have := digs_mono (Nat.le_of_lt k); omega
  · exact k
  · have := digs_mono (Nat.le_of_lt k); omega
theorem hex_blank (m : Nat) : (32 : UInt8) ∉ hex m := fun h => (hexN_ne 16 m _ h).2 rfl
theorem hex_line (m : Nat) : (10 : UInt8) ∉ hex m := fun h => (hexN_ne 16 m _ h).1 rfl

/-- what stands ahead of an act -/
def headN (n len m : Nat) : List UInt8 := digs n ++ 32 :: (digs len ++ 32 :: (hex m ++ [32]))
theorem headN_app (n len m : Nat) (a : List UInt8) : headN n len m ++ a = digs n ++ 32 :: (digs len ++ 32 :: (hex m ++ 32 :: a)) := by simp [headN]
theorem cut3_head (n len m : Nat) (a : List UInt8) : cut3 (headN n len m ++ a) = some a := by
  rw [headN_app]; exact cut3_hit (digs_blank _) (digs_blank _) (hex_blank _)
theorem headN_line (n len m : Nat) : (10 : UInt8) ∉ headN n len m := by
  simp [headN, digs_line, hex_line]
theorem headN_length (n len m : Nat) : (headN n len m).length = (digs n).length + (digs len).length + 19 := by
  simp [headN, hex, hexN_length]; omega
theorem head_uniq {n n' len len' m m' : Nat} {a a' : List UInt8} (hm : m < MM) (hm' : m' < MM) (h : headN n len m ++ a = headN n' len' m' ++ a') : n = n' ∧ len = len' ∧ m = m' ∧ a = a' := by
  rw [headN_app, headN_app] at h
  obtain ⟨h1, h⟩ := cut_uniq h (digs_blank _) (digs_blank _)
  obtain ⟨h2, h⟩ := cut_uniq h (digs_blank _) (digs_blank _)
  obtain ⟨h3, h⟩ := cut_uniq h (hex_blank _) (hex_blank _)
  exact ⟨digs_inj h1, digs_inj h2, hex_inj hm hm' h3, h⟩

/-- a line, without its end; m: the mark ahead of it -/
def lineN (n m : Nat) (a : List UInt8) : List UInt8 := headN n a.length (mmark m a) ++ a
theorem lineN_length (n m : Nat) (a : List UInt8) : (lineN n m a).length = (digs n).length + (digs a.length).length + 19 + a.length := by
  rw [lineN, List.length_append, headN_length]
theorem lineN_line {n m : Nat} {a : List UInt8} (h : (10 : UInt8) ∉ a) : (10 : UInt8) ∉ lineN n m a := by
  rw [lineN, List.mem_append]; rintro (q | q)
  · exact headN_line _ _ _ q
  · exact h q
theorem lineN_inj {n m : Nat} {a a' : List UInt8} (h : lineN n m a = lineN n m a') : a = a' := (head_uniq (mmark_lt _ _) (mmark_lt _ _) h).2.2.2
theorem cut3_line (n m : Nat) (a : List UInt8) : cut3 (lineN n m a) = some a := cut3_head _ _ _ _

/-- an act that may be the next one behind k -/
def okA (k : Nat) (a : List UInt8) : Prop := a ≠ [] ∧ a.length ≤ 4096 ∧ (10 : UInt8) ∉ a ∧ k < 8192
def okK : Nat → List (List UInt8) → Prop
  | _, [] => True
  | k, a :: r => okA k a ∧ okK (k + 1) r
theorem okK_app {A B : List (List UInt8)} : ∀ {k : Nat}, okK k (A ++ B) ↔ okK k A ∧ okK (k + A.length) B := by
  induction A with
  | nil => intro k; simp [okK]
  | cons a A ih => intro k; simp only [List.cons_append, okK, ih, List.length_cons, and_assoc]; rw [Nat.add_assoc, Nat.add_comm 1]
/-- the text of acts -/
def textK : Nat → Nat → List (List UInt8) → List UInt8
  | _, _, [] => []
  | k, m, a :: r => lineN (k + 1) m a ++ 10 :: textK (k + 1) (mmark m a) r
theorem textK_app {B : List (List UInt8)} : ∀ {A : List (List UInt8)} {k m : Nat}, textK k m (A ++ B) = textK k m A ++ textK (k + A.length) (marksL m A) B
  | [], k, m => rfl
  | a :: A, k, m => by
    simp only [List.cons_append, textK, textK_app (A := A), List.length_cons, marksL_cons, List.append_assoc]
    rw [Nat.add_assoc, Nat.add_comm 1]
theorem textK_snoc {A : List (List UInt8)} {k m : Nat} {a : List UInt8} : textK k m (A ++ [a]) = textK k m A ++ (lineN (k + A.length + 1) (marksL m A) a ++ [10]) := by
  rw [textK_app]; rfl
theorem textK_cons {k m : Nat} {a : List UInt8} {r : List (List UInt8)} : textK k m (a :: r) = lineN (k + 1) m a ++ 10 :: textK (k + 1) (mmark m a) r := rfl
theorem textK_nil {k m : Nat} : textK k m [] = [] := rfl
abbrev textL (A : List (List UInt8)) : List UInt8 := textK 0 mfirst A

theorem textL_snoc (A : List (List UInt8)) (a : List UInt8) : textL (A ++ [a]) = textL A ++ (lineN (A.length + 1) (marksL mfirst A) a ++ [10]) := by
  have := textK_snoc (A := A) (k := 0) (m := mfirst) (a := a)
  rw [Nat.zero_add] at this; exact this
theorem textK_take (A : List (List UInt8)) (i k m : Nat) : (textK k m (A.take i)).length ≤ (textK k m A).length := by
  have h := textK_app (A := A.take i) (B := A.drop i) (k := k) (m := m)
  rw [List.take_append_drop] at h
  rw [h, List.length_append]; omega
theorem textL_take (A : List (List UInt8)) (i : Nat) : (textL (A.take i)).length ≤ (textL A).length := textK_take A i 0 mfirst
theorem textK_len : ∀ {A : List (List UInt8)} {k m : Nat}, (∀ s ∈ A, s.length ≤ 5000) → k + A.length ≤ 1000 → (textK k m A).length ≤ A.length * 5100
  | [], k, m, _, _ => by simp [textK_nil]
  | a :: r, k, m, h, hk => by
    have ha := h a (by simp)
    have h1 := digs_length 6 (k + 1) (by simp at hk; omega)
    have h2 := digs_length 6 a.length (by omega)
    have ih := textK_len (A := r) (k := k + 1) (m := mmark m a) (fun s hs => h s (by simp [hs])) (by simp at hk; omega)
    rw [textK_cons, List.length_append, List.length_cons, lineN_length, List.length_cons]
    omega
theorem textL_len {A : List (List UInt8)} (h : ∀ s ∈ A, s.length ≤ 5000) (hn : A.length ≤ 100) : (textL A).length ≤ 1000000 := by
  have := textK_len (k := 0) (m := mfirst) h (by omega)
  have h2 : A.length * 5100 ≤ 100 * 5100 := Nat.mul_le_mul_right _ hn
  exact Nat.le_trans this (by omega)
theorem marksL_snoc (m : Nat) (A : List (List UInt8)) (a : List UInt8) : marksL m (A ++ [a]) = mmark (marksL m A) a := foldl_snoc_of _ _ _ _
/-- nothing that follows is a line that may -/
def NoNextK (k m : Nat) (t : List UInt8) : Prop := ∀ a u, okA k a → t ≠ lineN (k + 1) m a ++ 10 :: u
def NoNext (A : List (List UInt8)) (t : List UInt8) : Prop := NoNextK A.length (marksL mfirst A) t
/-- a text is read to these acts -/
def IsRead (s : List UInt8) (A : List (List UInt8)) : Prop := okK 0 A ∧ ∃ t, s = textL A ++ t ∧ NoNext A t
theorem line_first {n m : Nat} {a a' u u' : List UInt8} (ha : (10 : UInt8) ∉ a) (ha' : (10 : UInt8) ∉ a') (h : lineN n m a ++ 10 :: u = lineN n m a' ++ 10 :: u') : a = a' ∧ u = u' := by
  obtain ⟨h1, h2⟩ := cut_uniq h (lineN_line ha) (lineN_line ha')
  exact ⟨lineN_inj h1, h2⟩
theorem read_uniq {A : List (List UInt8)} : ∀ {A' : List (List UInt8)} {k m : Nat} {t t' : List UInt8}, okK k A → okK k A' → textK k m A ++ t = textK k m A' ++ t' → NoNextK (k + A.length) (marksL m A) t → NoNextK (k + A'.length) (marksL m A') t' → A = A' := by
  induction A with
  | nil =>
    intro A' k m t t' hA hA' h hn hn'
    cases A' with
    | nil => rfl
    | cons a r =>
      simp only [textK, List.nil_append, List.append_assoc, List.cons_append] at h
      exact absurd h (hn a _ hA'.1)
  | cons a r ih =>
    intro A' k m t t' hA hA' h hn hn'
    cases A' with
    | nil =>
      simp only [textK, List.nil_append, List.append_assoc, List.cons_append] at h
      exact absurd h.symm (hn' a _ hA.1)
    | cons a' r' =>
      simp only [textK, List.append_assoc, List.cons_append] at h
      obtain ⟨e1, h2⟩ := line_first hA.1.2.2.1 hA'.1.2.2.1 h
      subst e1
      have e : ∀ q : List (List UInt8), k + (a :: q).length = k + 1 + q.length := fun q => by rw [List.length_cons]; omega
      rw [e, marksL_cons] at hn hn'
      rw [ih hA.2 hA'.2 h2 hn hn']
theorem IsRead.uniq {s : List UInt8} {A A' : List (List UInt8)} (h : IsRead s A) (h' : IsRead s A') : A = A' := by
  obtain ⟨o, t, e, n⟩ := h
  obtain ⟨o', t', e', n'⟩ := h'
  rw [NoNext, ← Nat.zero_add A.length] at n
  rw [NoNext, ← Nat.zero_add A'.length] at n'
  exact read_uniq o o' (e.symm.trans e') n n'
theorem IsRead.len {s : List UInt8} {A : List (List UInt8)} (h : IsRead s A) : (textL A).length ≤ s.length := by
  obtain ⟨_, t, rfl, _⟩ := h; simp
theorem IsRead.take {s : List UInt8} {A : List (List UInt8)} (h : IsRead s A) : s.take (textL A).length = textL A := by
  obtain ⟨_, t, rfl, _⟩ := h; simp
theorem NoNext.none {A : List (List UInt8)} {t : List UInt8} (h : (10 : UInt8) ∉ t) : NoNext A t := by
  rintro a u _ rfl
  exact h (by simp)
/-- what is written is read as it was -/
theorem IsRead.back {A : List (List UInt8)} (h : okK 0 A) : IsRead (textL A) A := ⟨h, [], by simp, NoNext.none (by simp)⟩

/-- the text cut: a line that lacks its end -/
theorem text_cut : ∀ {A : List (List UInt8)} {k m i : Nat}, okK k A → i ≤ (textK k m A).length →
    ∃ B C t, A = B ++ C ∧ (textK k m A).take i = textK k m B ++ t ∧ (10 : UInt8) ∉ t ∧ ((textK k m A).take i).count 10 = B.length
  | [], k, m, i, _, hi => by
    have : i = 0 := by simpa [textK] using hi
    subst this
    exact ⟨[], [], [], rfl, rfl, by simp, rfl⟩
  | a :: r, k, m, i, h, hi => by
    have hl := lineN_line (n := k + 1) (m := m) h.1.2.2.1
    by_cases hlt : i ≤ (lineN (k + 1) m a).length
    · have hn : (10 : UInt8) ∉ (lineN (k + 1) m a).take i := fun q => hl (List.mem_of_mem_take q)
      refine ⟨[], a :: r, (lineN (k + 1) m a).take i, rfl, ?_, hn, ?_⟩
      · rw [textK_cons, List.take_append_of_le_length hlt, textK_nil, List.nil_append]
      · rw [textK_cons, List.take_append_of_le_length hlt, List.count_eq_zero.2 hn, List.length_nil]
    · obtain ⟨j, rfl⟩ : ∃ j, i = (lineN (k + 1) m a).length + (j + 1) := ⟨i - (lineN (k + 1) m a).length - 1, by omega⟩
      simp only [textK, List.length_append, List.length_cons] at hi
      obtain ⟨B, C, t, h1, h2, h3, h4⟩ := text_cut (A := r) (k := k + 1) (m := mmark m a) (i := j) h.2 (by omega)
      have e : (textK k m (a :: r)).take ((lineN (k + 1) m a).length + (j + 1)) = lineN (k + 1) m a ++ 10 :: (textK (k + 1) (mmark m a) r).take j := by
        rw [textK_cons, List.take_length_add_append, List.take_succ_cons]
      refine ⟨a :: B, C, t, by rw [h1]; rfl, ?_, h3, ?_⟩
      · rw [e, h2]; simp [textK]
      · rw [e, List.count_append, List.count_eq_zero.2 hl, List.count_cons_self, h4]; simp
theorem okK_left {k : Nat} {A B : List (List UInt8)} (h : okK k (A ++ B)) : okK k A := (okK_app.1 h).1
theorem IsRead.cut {A : List (List UInt8)} {i : Nat} (h : okK 0 A) (hi : i ≤ (textL A).length) :
    IsRead ((textL A).take i) (A.take (((textL A).take i).count 10)) ∧ ∃ t, (textL A).take i = textL (A.take (((textL A).take i).count 10)) ++ t ∧ (10 : UInt8) ∉ t := by
  obtain ⟨B, C, t, rfl, h2, h3, h4⟩ := text_cut (m := mfirst) h hi
  rw [h4, List.take_left]
  exact ⟨⟨okK_left h, t, h2, NoNext.none h3⟩, t, h2, h3⟩

/-- a byte of a line (or its end) turned: it is no line that may follow -/
theorem line_turn {n m : Nat} {a a' u v w tail : List UInt8} {c c' : UInt8} (ha : (10 : UInt8) ∉ a) (ha' : (10 : UInt8) ∉ a') (hm : m < MM)
    (hl : lineN n m a ++ 10 :: tail = u ++ c :: v) (hu : u.length ≤ (lineN n m a).length) (hc : c ≠ c') : u ++ c' :: v ≠ lineN n m a' ++ 10 :: w := by
  intro h
  rcases Nat.lt_or_ge u.length (lineN n m a).length with hlt | hge
  · -- within the line
    obtain ⟨x, hx⟩ : ∃ x, lineN n m a = u ++ c :: x := by
      have h1 := congrArg (List.take (lineN n m a).length) hl
      rw [List.take_left, List.take_append, List.take_of_length_le (Nat.le_of_lt hlt)] at h1
      obtain ⟨d, hd⟩ : ∃ d, (lineN n m a).length - u.length = d + 1 := ⟨(lineN n m a).length - u.length - 1, by omega⟩
      rw [hd, List.take_succ_cons] at h1
      exact ⟨_, h1⟩
    have hv : v = x ++ 10 :: tail := by
      rw [hx, List.append_assoc] at hl
      have := List.append_cancel_left hl
      simp at this; exact this.symm
    subst hv
    have nl : (10 : UInt8) ∉ u ++ c :: x := by rw [← hx]; exact lineN_line ha
    have nu : (10 : UInt8) ∉ u := fun q => nl (List.mem_append_left _ q)
    have nx : (10 : UInt8) ∉ x := fun q => nl (by simp [q])
    by_cases h10 : c' = 10
    · subst h10
      obtain ⟨h1, _⟩ := cut_uniq h nu (lineN_line ha')
      rw [h1, lineN, lineN, List.append_assoc] at hx
      obtain ⟨_, h2, _, h3⟩ := head_uniq (mmark_lt _ _) (mmark_lt _ _) hx
      rw [h3] at h2; simp at h2
    · have nx' : (10 : UInt8) ∉ u ++ c' :: x := by
        simp only [List.mem_append, List.mem_cons]; rintro (q | q | q)
        · exact nu q
        · exact h10 q.symm
        · exact nx q
      rw [show u ++ c' :: (x ++ 10 :: tail) = (u ++ c' :: x) ++ 10 :: tail by simp] at h
      obtain ⟨h1, _⟩ := cut_uniq h nx' (lineN_line ha')
      have hlen : a.length = a'.length := by
        have e1 := congrArg List.length hx
        have e2 := congrArg List.length h1
        rw [lineN_length] at e1 e2
        simp only [List.length_append, List.length_cons] at e1 e2
        exact digs_grow (by omega)
      have hHl : (headN n a.length (mmark m a)).length = (headN n a'.length (mmark m a')).length := by rw [headN_length, headN_length, hlen]
      rcases Nat.lt_or_ge u.length (headN n a.length (mmark m a)).length with k | k
      · -- in the head: the acts are the same
        have e1 : a = x.drop ((headN n a.length (mmark m a)).length - u.length - 1) := by
          have := congrArg (List.drop (headN n a.length (mmark m a)).length) hx
          rw [lineN, List.drop_left, List.drop_append, List.drop_eq_nil_of_le (Nat.le_of_lt k), List.nil_append] at this
          obtain ⟨d, hd⟩ : ∃ d, (headN n a.length (mmark m a)).length - u.length = d + 1 := ⟨(headN n a.length (mmark m a)).length - u.length - 1, by omega⟩
          rw [hd, List.drop_succ_cons] at this
          rw [hd, Nat.add_sub_cancel]; exact this
        have e2 : a' = x.drop ((headN n a.length (mmark m a)).length - u.length - 1) := by
          have := congrArg (List.drop (headN n a.length (mmark m a)).length) h1
          rw [lineN, hHl, List.drop_left, ← hHl, List.drop_append, List.drop_eq_nil_of_le (Nat.le_of_lt k), List.nil_append] at this
          obtain ⟨d, hd⟩ : ∃ d, (headN n a.length (mmark m a)).length - u.length = d + 1 := ⟨(headN n a.length (mmark m a)).length - u.length - 1, by omega⟩
          rw [hd, List.drop_succ_cons] at this
          rw [hd, Nat.add_sub_cancel]; exact this.symm
        have e3 : a = a' := e1.trans e2.symm
        subst e3
        rw [hx] at h1
        have := List.append_cancel_left h1
        simp at this; exact hc this.symm
      · -- in the act: another mark
        obtain ⟨p, hp⟩ : ∃ p, u = headN n a.length (mmark m a) ++ p := by
          have := congrArg (List.take (headN n a.length (mmark m a)).length) hx
          rw [lineN, List.take_left, List.take_append_of_le_length k] at this
          exact ⟨_, ((List.take_append_drop (headN n a.length (mmark m a)).length u).symm.trans (by rw [← this]))⟩
        have e1 : a = p ++ c :: x := by
          rw [lineN, hp, List.append_assoc] at hx
          exact List.append_cancel_left hx
        have e2 := h1
        rw [lineN, hp, List.append_assoc] at e2
        obtain ⟨_, _, h4, h5⟩ := head_uniq (mmark_lt _ _) (mmark_lt _ _) e2
        have e4 : mmark m (p ++ c :: x) = mmark m (p ++ c' :: x) := by rw [← e1, h4, ← h5]
        exact mmark_turn hm hc e4
  · -- its end
    have hul : u.length = (lineN n m a).length := by omega
    obtain ⟨h1, h2⟩ := List.append_inj hl hul.symm
    subst h1
    simp at h2
    obtain ⟨rfl, rfl⟩ := h2
    have nl := lineN_line (n := n) (m := m) ha
    rcases first_of 10 (lineN n m a ++ c' :: tail) with q | ⟨x, y, q, qx⟩
    · exact q (by rw [h]; simp)
    · obtain ⟨h1, _⟩ := cut_uniq (q.symm.trans h) qx (lineN_line ha')
      -- x is longer than the line
      have hxl : (lineN n m a).length < x.length := by
        rcases Nat.lt_or_ge (lineN n m a).length x.length with k | k
        · exact k
        · exfalso
          have e := congrArg (fun l => l[x.length]?) q
          simp only [List.getElem?_append_right (Nat.le_refl _), Nat.sub_self, List.getElem?_cons_zero] at e
          rcases Nat.lt_or_ge x.length (lineN n m a).length with j | j
          · rw [List.getElem?_append_left j] at e
            exact nl (List.mem_of_getElem? e)
          · have : x.length = (lineN n m a).length := by omega
            rw [this, List.getElem?_append_right (Nat.le_refl _), Nat.sub_self, List.getElem?_cons_zero] at e
            exact hc (Option.some.inj e).symm
      obtain ⟨z, hz⟩ : ∃ z, x = lineN n m a ++ c' :: z := by
        have := congrArg (List.take x.length) q
        rw [List.take_left, List.take_append, List.take_of_length_le (Nat.le_of_lt hxl)] at this
        obtain ⟨d, hd⟩ : ∃ d, x.length - (lineN n m a).length = d + 1 := ⟨x.length - (lineN n m a).length - 1, by omega⟩
        rw [hd, List.take_succ_cons] at this
        exact ⟨_, this.symm⟩
      rw [hz, lineN, lineN, List.append_assoc] at h1
      obtain ⟨_, h2, _, h3⟩ := head_uniq (mmark_lt _ _) (mmark_lt _ _) h1
      rw [← h3] at h2; simp at h2
/-- a text, a byte of it turned -/
theorem text_turn : ∀ {A : List (List UInt8)} {k m i : Nat}, okK k A → m < MM → ∀ {u v : List UInt8} {c : UInt8}, textK k m A = u ++ c :: v → u.length = i →
    ∃ B a C x, A = B ++ a :: C ∧ u = textK k m B ++ x ∧ x.length ≤ (lineN (k + B.length + 1) (marksL m B) a).length ∧ lineN (k + B.length + 1) (marksL m B) a ++ 10 :: textK (k + B.length + 1) (mmark (marksL m B) a) C = x ++ c :: v ∧ u.count 10 = B.length
  | [], k, m, i, _, _, u, v, c, h, _ => by simp [textK] at h
  | a :: r, k, m, i, h, hm, u, v, c, he, hi => by
    have hl := lineN_line (n := k + 1) (m := m) h.1.2.2.1
    by_cases hlt : u.length ≤ (lineN (k + 1) m a).length
    · refine ⟨[], a, r, u, rfl, rfl, hlt, he, ?_⟩
      have : (10 : UInt8) ∉ u := by
        intro q
        have h1 := congrArg (List.take u.length) he
        rw [textK_cons, List.take_left, List.take_append_of_le_length hlt] at h1
        rw [← h1] at q
        exact hl (List.mem_of_mem_take q)
      exact List.count_eq_zero.2 this
    · obtain ⟨x, hx⟩ : ∃ x, u = lineN (k + 1) m a ++ 10 :: x := by
        have h1 := congrArg (List.take u.length) he
        rw [textK_cons, List.take_left, List.take_append, List.take_of_length_le (by omega)] at h1
        obtain ⟨d, hd⟩ : ∃ d, u.length - (lineN (k + 1) m a).length = d + 1 := ⟨u.length - (lineN (k + 1) m a).length - 1, by omega⟩
        rw [hd, List.take_succ_cons] at h1
        exact ⟨_, h1.symm⟩
      have he2 : textK (k + 1) (mmark m a) r = x ++ c :: v := by
        rw [textK_cons, hx] at he
        simpa using he
      obtain ⟨B, b, C, y, h1, h2, h3, h4, h5⟩ := text_turn (A := r) (k := k + 1) (m := mmark m a) h.2 (mmark_lt _ _) he2 rfl
      refine ⟨a :: B, b, C, y, by rw [h1]; rfl, by rw [hx, h2]; simp [textK], ?_, ?_, ?_⟩
      · rw [marksL_cons, List.length_cons, show k + (B.length + 1) + 1 = k + 1 + B.length + 1 by omega]; exact h3
      · rw [marksL_cons, List.length_cons, show k + (B.length + 1) + 1 = k + 1 + B.length + 1 by omega]; exact h4
      · rw [hx, List.count_append, List.count_eq_zero.2 hl, List.count_cons_self, h5]; simp
theorem IsRead.turn {A : List (List UInt8)} {u v : List UInt8} {c c' : UInt8} (h : okK 0 A) (he : textL A = u ++ c :: v) (hc : c ≠ c') :
    IsRead (u ++ c' :: v) (A.take (u.count 10)) ∧ (textL (A.take (u.count 10))).length ≤ u.length ∧ u.count 10 ≤ A.length := by
  obtain ⟨B, a, C, x, rfl, h2, h3, h4, h5⟩ := text_turn h mfirst_lt he rfl
  rw [h5, List.take_left]
  have ho := (okK_app.1 h).2
  refine ⟨⟨okK_left h, x ++ c' :: v, by rw [h2]; simp, ?_⟩, by rw [h2]; simp, by simp⟩
  intro a' w ha'
  rw [Nat.zero_add] at h3 h4
  exact line_turn ho.1.2.2.1 ha'.2.2.1 (marksL_lt mfirst_lt _) h4 h3 hc

/-- two logs of unlike acts one byte apart: the marks are unlike -/
theorem marks_apart {A C : List (List UInt8)} {p q : List UInt8} {b b' : UInt8} (h : b ≠ b') : marksL mfirst (A ++ (p ++ b :: q) :: C) ≠ marksL mfirst (A ++ (p ++ b' :: q) :: C) := by
  have e : ∀ x, marksL mfirst (A ++ x :: C) = marksL (mmark (marksL mfirst A) x) C := fun x => by simp [marksL]
  rw [e, e]
  intro k
  exact mmark_turn (marksL_lt mfirst_lt A) h (marksL_left (mmark_lt _ _) (mmark_lt _ _) k)

/-- the acts that may be, of some -/
def madeL (A : List (List UInt8)) : List (List UInt8) → List (List UInt8)
  | [] => A
  | s :: r => if s ≠ [] ∧ s.length ≤ 4096 ∧ (10 : UInt8) ∉ s ∧ A.length < 8192 then madeL (A ++ [s]) r else madeL A r

end Wb
end Go.Proofs.YtokdmojbffnfgaaDoor
