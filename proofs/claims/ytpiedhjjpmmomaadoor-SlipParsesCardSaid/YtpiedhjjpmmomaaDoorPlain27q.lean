/- Chapter 27: a right slip is read from its text; what is read has just that text. No program in sight. -/
import Derived.Test.YtpiedhjjpmmomaaDoorPlain27p
namespace Go.Proofs.YtpiedhjjpmmomaaDoor
namespace Wb

/-- a line's text without its end -/
def lineBody (x : Ln) : List UInt8 := wordOf x.part ++ [32] ++ x.code ++ [32] ++ text x.cents
theorem lineText_body (x : Ln) : lineText x = lineBody x ++ [10] := rfl
theorem digs_no {n : Nat} {c : UInt8} (h : ¬ Dg c) : c ∉ digs n := fun hc => h (digs_all n c hc)
theorem itoa_nat (n : Nat) : itoa n = digs n := by simp [itoa]
theorem text_no {c : UInt8} (h1 : ¬ Dg c) (h2 : c ≠ 45) (h3 : c ≠ 46) (z : Int) : c ∉ text z := by
  unfold text textZ textN
  split
  · split <;> simp [digs_no h1, h2, h3]
  · simp
theorem ptext_eq (y i : Nat) : ptext y i = digs y ++ 47 :: ((if i < 10 then [48] else []) ++ digs i) := by
  rw [ptext, itoa_nat, itoa_nat]
  by_cases h : i < 10
  · rw [if_pos (by omega), if_pos h]
  · rw [if_neg (by omega), if_neg h]
theorem head_text {y i : Int} (h1 : 1900 ≤ y) (h2 : y ≤ 2199) (h3 : 1 ≤ i) (h4 : i ≤ 400) : HeadIs (slipW ++ ptext y i) y i := by
  obtain ⟨y, rfl⟩ : ∃ n : Nat, y = n := ⟨y.toNat, by omega⟩
  obtain ⟨i, rfl⟩ : ∃ n : Nat, i = n := ⟨i.toNat, by omega⟩
  have ly : (digs y).length ≤ 4 := digs_length 3 y (by omega)
  have li : (digs i).length ≤ 3 := digs_length 2 i (by omega)
  have pi := digs_pos i
  have py := digs_pos y
  refine ⟨digs y, (if i < 10 then [48] else []) ++ digs i, by rw [ptext_eq], numOk_iff.2 ⟨by omega, by omega, digs_all y⟩, ?_, .inr (digs_head y (by omega)), ?_, by rw [val_digs], ?_⟩
  · by_cases hi : i < 10
    · rw [if_pos hi, numOk_iff]
      refine ⟨by simp; omega, by simp; omega, fun b hb => ?_⟩
      rcases List.mem_append.1 hb with hb | hb
      · simp at hb; subst hb; unfold Dg; decide
      · exact digs_all i b hb
    · rw [if_neg hi, numOk_iff]
      have : 2 ≤ (digs i).length := by rw [digs_ge (by omega)]; have := digs_pos (i / 10); simp; omega
      exact ⟨by simpa using this, by simp; omega, fun b hb => digs_all i b (by simpa using hb)⟩
  · by_cases hi : i < 10
    · rw [if_pos hi, digs_lt hi]; exact .inl rfl
    · rw [if_neg hi]; exact .inr (by simpa using digs_head i (by omega))
  · by_cases hi : i < 10
    · rw [if_pos hi, digs_lt hi]
      have := dig_toNat hi
      simp [val, this]
    · rw [if_neg hi, List.nil_append, val_digs]
theorem head_back {s : List UInt8} {y i : Int} (h : HeadIs s y i) : s = slipW ++ ptext y i := by
  obtain ⟨a, b, rfl, h1, h2, h3, h4, rfl, rfl⟩ := h
  obtain ⟨l1, _, d1⟩ := numOk_iff.1 h1
  obtain ⟨l2, _, d2⟩ := numOk_iff.1 h2
  rw [ptext_eq, digs_val a d1 (by intro e; subst e; simp at l1) h3]
  congr 2
  congr 1
  have hb : b ≠ [] := by intro e; subst e; simp at l2
  by_cases h48 : byteAt b 0 = 48
  · have hl : b.length = 2 := h4.elim id fun h => absurd h48 h
    match b, hl with
    | [p, q], _ =>
      simp [byteAt] at h48
      subst h48
      have dq := d2 q (by simp)
      have hv : val [48, q] = q.toNat - 48 := by simp [val]
      unfold Dg at dq
      rw [hv, if_pos (by omega), digs_lt (by omega), dig_val dq]; rfl
  · have hd := digs_val b d2 hb (.inr h48)
    have hge : ¬ val b < 10 := by
      intro hlt
      rw [digs_lt hlt] at hd
      have := congrArg List.length hd
      simp at this; omega
    rw [if_neg hge, hd]; rfl

theorem wordIx_of {k : Nat} {a : List UInt8} (h : wordIx a = some k) : k < 7 ∧ wordsL[k]? = some a := by
  rw [wordIx, List.findIdx?_eq_some_iff_getElem] at h
  obtain ⟨h1, h2, _⟩ := h
  refine ⟨h1, ?_⟩
  rw [List.getElem?_eq_getElem h1]
  exact congrArg some (by simpa using h2)
theorem wordIx_word {k : Nat} (h : k < 7) : wordIx (wordOf k) = some k := by
  match k, h with
  | 0, _ => rfl
  | 1, _ => rfl
  | 2, _ => rfl
  | 3, _ => rfl
  | 4, _ => rfl
  | 5, _ => rfl
  | 6, _ => rfl
theorem word_no {k : Nat} {c : UInt8} (hc : c = 32 ∨ c = 10) : c ∉ wordOf k := by
  rcases Nat.lt_or_ge k 7 with h | h
  · match k, h with
    | 0, _ => rcases hc with rfl | rfl <;> decide
    | 1, _ => rcases hc with rfl | rfl <;> decide
    | 2, _ => rcases hc with rfl | rfl <;> decide
    | 3, _ => rcases hc with rfl | rfl <;> decide
    | 4, _ => rcases hc with rfl | rfl <;> decide
    | 5, _ => rcases hc with rfl | rfl <;> decide
    | 6, _ => rcases hc with rfl | rfl <;> decide
  · have hn : wordsL[k]? = none := List.getElem?_eq_none h
    have : wordOf k = [] := by simp [wordOf, List.getD, hn]
    rw [this]; simp
theorem code_no {s : List UInt8} {c : UInt8} (h : codeOk s = true) (hc : c = 32 ∨ c = 10) : c ∉ s := by
  intro hm
  unfold codeOk at h
  simp only [Bool.and_eq_true, List.all_eq_true] at h
  have := h.2 c hm
  rcases hc with rfl | rfl <;> revert this <;> decide
theorem body_no {x : Ln} (h : lineErr x = 0) : (10 : UInt8) ∉ lineBody x := by
  obtain ⟨h1, h2, h3, h4, h5⟩ := lineErr_ok h
  obtain ⟨k, hk⟩ : ∃ n : Nat, x.part = n := ⟨x.part.toNat, by omega⟩
  have a1 := word_no (k := k) (c := 10) (.inr rfl)
  have a2 := code_no h3 (c := 10) (.inr rfl)
  have a3 := text_no (c := 10) (by unfold Dg; decide) (by decide) (by decide) x.cents
  simp only [lineBody, hk, List.mem_append, not_or]
  exact ⟨⟨⟨⟨a1, by decide⟩, a2⟩, by decide⟩, a3⟩
theorem read_body {x : Ln} (h : lineErr x = 0) : readOf (lineBody x) = some x := by
  obtain ⟨h1, h2, h3, h4, h5⟩ := lineErr_ok h
  obtain ⟨p, c, n⟩ := x
  simp only at h1 h2 h3 h4 h5
  obtain ⟨k, rfl⟩ : ∃ k : Nat, p = k := ⟨p.toNat, by omega⟩
  have a1 := word_no (k := k) (c := 32) (.inl rfl)
  have a2 := code_no h3 (c := 32) (.inl rfl)
  have a3 := text_no (c := 32) (by unfold Dg; decide) (by decide) (by decide) n
  have e : lineBody ⟨k, c, n⟩ = wordOf k ++ 32 :: (c ++ 32 :: text n) := by simp [lineBody]
  have hc0 : c ≠ [] := by intro e; subst e; simp [codeOk] at h3
  rw [readOf, e, splitOn_hit a1, splitOn_hit a2, splitOn_miss a3]
  simp only [if_neg hc0, wordIx_word (show k < 7 by omega), parse_text h5]
  rfl
theorem read_back {s : List UInt8} {x : Ln} (h : readOf s = some x) : s = lineBody x := by
  have hj := join_split 32 s
  unfold readOf at h
  split at h
  · rename_i a b c hs
    rw [hs] at hj
    split at h
    · cases h
    · split at h
      · cases h
      · rename_i k hk
        split at h
        · rename_i hp
          cases h
          obtain ⟨hk7, hw⟩ := wordIx_of hk
          rcases parse_cases c with ⟨v, hv, ht, hpv⟩ | ⟨_, hpv⟩
          · have hwo : wordOf (k : Int) = a := by simp [wordOf, List.getD, hw]
            rw [← hj]
            simp only [lineBody, hwo, hpv, ht, join]
            simp
          · rw [hpv] at hp; cases hp
        · cases h
  · cases h

theorem lines_split : ∀ {l : List Ln}, (∀ x ∈ l, lineErr x = 0) → splitOn 10 (linesText l) = l.map lineBody ++ [[]]
  | [], _ => rfl
  | x :: r, h => by
    have e : linesText (x :: r) = lineBody x ++ 10 :: linesText r := by simp [linesText, lineText_body]
    rw [e, splitOn_hit (body_no (h x (by simp))), lines_split fun z hz => h z (by simp [hz])]; rfl
theorem readAll_lines : ∀ {l : List Ln}, (∀ x ∈ l, lineErr x = 0) → readAll (l.map lineBody) = some l
  | [], _ => rfl
  | x :: r, h => by
    rw [List.map_cons, readAll, read_body (h x (by simp)), readAll_lines fun z hz => h z (by simp [hz])]; rfl
/-- a right slip is read from its text -/
theorem parse_slText {y i : Int} {l : List Ln} (h : check y i l = 0) : parseS (slText y i l) = (0, y, i, l) := by
  obtain ⟨h1, h2, h3, h4, h5, _, hl⟩ := check_ok h
  have hh := head_text h1 h2 h3 h4
  have e : slText y i l = (slipW ++ ptext y i) ++ 10 :: linesText l := by
    rw [slText, if_neg (by rw [h]; simp)]; simp [slipW]
  have hn : (10 : UInt8) ∉ slipW ++ ptext y i := by
    obtain ⟨a, b, e, n1, n2, _⟩ := hh
    rw [e]
    intro hc
    simp only [List.mem_append, List.mem_cons] at hc
    rcases hc with hc | hc | hc | hc
    · revert hc; decide
    · have := (numOk_iff.1 n1).2.2 _ hc; unfold Dg at this; revert this; decide
    · revert hc; decide
    · have := (numOk_iff.1 n2).2.2 _ hc; unfold Dg at this; revert this; decide
  rw [parseS, if_neg (by rw [e]; simp [slipW]), e, splitOn_hit hn, lines_split hl]
  simp only [List.headD_cons, headOf_some hh, List.tail_cons]
  have hlast : ((slipW ++ ptext y i) :: (l.map lineBody ++ [[]])).getLastD [] = [] := by
    rw [List.getLastD_cons]; simp
  rw [hlast]
  simp only [ne_eq, not_true_eq_false, if_false, List.dropLast_concat, readAll_lines hl]
  rw [if_neg (by rw [h]; simp)]
theorem readAll_back : ∀ {ss : List (List UInt8)} {l : List Ln}, readAll ss = some l → ss = l.map lineBody
  | [], l, h => by rw [readAll] at h; cases h; rfl
  | s :: r, l, h => by
    rw [readAll] at h
    cases hs : readOf s with
    | none => rw [hs] at h; cases h
    | some x =>
      rw [hs] at h
      obtain ⟨d, hd, rfl⟩ := Option.map_eq_some_iff.1 h
      rw [read_back hs, readAll_back hd]; rfl
theorem join_body (l : List Ln) : join 10 (l.map lineBody ++ [[]]) = linesText l := by
  induction l with
  | nil => rfl
  | cons x r ih =>
    rw [List.map_cons, List.cons_append, join_cons (by simp), ih]
    simp [linesText, lineText_body]
/-- what is read has just that text -/
theorem slText_parse {t : List UInt8} {y i : Int} {l : List Ln} (h : parseS t = (0, y, i, l)) : slText y i l = t ∧ check y i l = 0 := by
  unfold parseS at h
  split at h
  · simp at h
  · rename_i h0
    cases hh : headOf ((splitOn 10 t).headD []) with
    | none => rw [hh] at h; simp at h
    | some p =>
      obtain ⟨y', i'⟩ := p
      rw [hh] at h
      simp only at h
      split at h
      · simp at h
      · rename_i hlast
        cases hr : readAll (splitOn 10 t).tail.dropLast with
        | none => rw [hr] at h; simp at h
        | some m =>
          rw [hr] at h
          simp only at h
          split at h
          · rename_i hc
            exfalso; exact hc (Prod.ext_iff.1 h).1
          · rename_i hc
            simp only [Prod.mk.injEq, true_and] at h
            obtain ⟨rfl, rfl, rfl⟩ := h
            have hck : check y' i' m = 0 := by simpa using hc
            refine ⟨?_, hck⟩
            have hhd := head_back (headOf_is hh)
            have hj := join_split 10 t
            cases hs : splitOn 10 t with
            | nil => exact absurd hs (splitOn_pos 10 t)
            | cons a r =>
              rw [hs] at hj hhd hr hlast
              simp only [List.headD_cons, List.tail_cons, ne_eq, Decidable.not_not] at hhd hr hlast
              have hr0 : r ≠ [] := by
                intro e; subst e
                simp at hlast
                rw [hlast] at hhd
                simp [slipW] at hhd
              have hm := readAll_back hr
              have hrl : r = m.map lineBody ++ [[]] := by
                rw [← hm]
                have h2 := List.dropLast_concat_getLast hr0
                have h3 : r.getLast hr0 = [] := by
                  rw [List.getLastD_cons] at hlast
                  rw [List.getLastD_eq_getLast?, List.getLast?_eq_some_getLast hr0] at hlast
                  simpa using hlast
                rw [h3] at h2; exact h2.symm
              rw [← hj, hrl, join_cons (by simp), join_body, slText, if_neg (by rw [hck]; simp), hhd]
              simp [slipW]

end Wb
end Go.Proofs.YtpiedhjjpmmomaaDoor
