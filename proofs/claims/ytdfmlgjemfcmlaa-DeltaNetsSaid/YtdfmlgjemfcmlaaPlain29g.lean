/- Plain facts for chapter 29: the nets of all differences; a list to which they are added. -/
import Derived.Test.YtdfmlgjemfcmlaaPlain29f
namespace Go.Proofs.Ytdfmlgjemfcmlaa
namespace Wb

theorem of_wrong {y i y' i' Y I : Int} {a b r : List Ln} (h0 : IsOf y i a y' i' b 0 Y I r) : mergeL a r = some b := by
  have k := of_ok h0
  have ra := wrong_ok k.wa
  have rb := wrong_ok k.wb
  have hfb : ∀ p c, fits (lval p c b) = true := fun p c => by
    by_cases hm : ∃ x ∈ b, x.part = p ∧ x.code = c
    · obtain ⟨x, hx, rfl, rfl⟩ := hm
      rw [lval_mem rb.1 hx]; exact (lineErr_iff.1 (rb.2.2 x hx)).2.2.2.2
    · rw [lval_none fun x hx e => hm ⟨x, hx, e⟩]; decide
  obtain ⟨l, hl⟩ := mergeL_some ra.1 k.del.rise fun p c => by
    rw [k.del.val, show lval p c a + (lval p c b - lval p c a) = lval p c b by omega]; exact hfb p c
  obtain ⟨l1, l2⟩ := mergeL_rise hl ra.1 k.del.rise ra.2.1 k.del.nonz
  rw [hl, val_inj l1 rb.1 l2 rb.2.1 fun p c => by rw [mergeL_val hl, k.del.val]; omega]
theorem of_check {y i y' i' Y I : Int} {a b r : List Ln} (h0 : IsOf y i a y' i' b 0 Y I r) (hn : noneB y i a = false ∨ noneB y' i' b = false) : check Y I r = 0 := by
  have k := of_ok h0
  have ra := wrong_ok k.wa
  have rb := wrong_ok k.wb
  refine check_of ?_ k.del.rise (delta_right k.del ra.2.2 rb.2.2 k.fit) k.few
  rcases hb : noneB y' i' b with _ | _
  · have := ok_years (wrong_some k.wb hb)
    rw [k.hy, k.hi, hb]; simpa using this
  · rcases hn with hn | hn
    · have := ok_years (wrong_some k.wa hn)
      rw [k.hy, k.hi, hb]; simpa using this
    · rw [hb] at hn; cases hn
/-- what lines are worth, net -/
def nl (l : List Ln) : Int := sumOf 0 0 l - sumOf 1 5 l
theorem nl_nil : nl [] = 0 := rfl
theorem nl_merge {a r b : List Ln} (h : mergeL a r = some b) : nl b = nl a + nl r := by
  have h1 := sumOf_merge (f := 0) (t := 0) h
  have h2 := sumOf_merge (f := 1) (t := 5) h
  unfold nl; omega
theorem net_ok : ∀ {L : List Sl} {acc z : Int}, netF acc L = (z, 0) → z = acc + (L.map fun s => nl s.l).sum
  | [], acc, z, h => by simp [netF] at h; simp [h]
  | s :: r, acc, z, h => by
    rw [netF] at h
    split at h
    · rename_i hn
      obtain ⟨_, _, hl⟩ := none_iff.1 hn
      have := net_ok h
      rw [List.map_cons, List.sum_cons, hl, nl_nil, this]; omega
    · split at h
      · rename_i he
        simp only [Prod.mk.injEq] at h; exact absurd h.2 he
      · rename_i he
        split at h
        · simp at h
        · have := net_ok h
          have hs : (sums s.y s.i s.l).2.2.1 = nl s.l := by
            rcases sums_cases s.y s.i s.l with ⟨e, h1, h2⟩ | h2
            · rw [h2] at he; exact absurd h1 he
            · unfold sums
              unfold sums at he
              split
              · rename_i hc; rw [if_pos hc] at he; exact absurd hc he
              · rename_i hc
                rw [if_neg hc] at he
                split
                · rfl
                · rename_i hf; rw [if_neg hf] at he; simp at he
          rw [List.map_cons, List.sum_cons, this, hs]; omega
/-- over all periods -/
theorem sum_add (f g : Int × Int → Int) : ∀ ps : List (Int × Int), (ps.map fun p => f p + g p).sum = (ps.map f).sum + (ps.map g).sum
  | [] => rfl
  | p :: r => by simp only [List.map_cons, List.sum_cons, sum_add f g r]; omega
theorem sum_zero (f : Int × Int → Int) : ∀ ps : List (Int × Int), (∀ p ∈ ps, f p = 0) → (ps.map f).sum = 0
  | [], _ => rfl
  | p :: r, h => by rw [List.map_cons, List.sum_cons, h p (by simp), sum_zero f r fun q hq => h q (by simp [hq])]; rfl
theorem sum_one {q : Int × Int} {v : Int} : ∀ {ps : List (Int × Int)}, (ps.Pairwise fun a b => prLt a b = true) → q ∈ ps → (ps.map fun p => if q = p then v else 0).sum = v
  | p :: r, hr, h => by
    obtain ⟨h1, h2⟩ := List.pairwise_cons.1 hr
    rw [List.map_cons, List.sum_cons]
    by_cases e : q = p
    · subst e
      rw [if_pos rfl, sum_zero _ r fun z hz => if_neg fun e => pr_ne (h1 z hz) e]; omega
    · rw [if_neg e, sum_one h2 (by rcases List.mem_cons.1 h with h | h; exact absurd h e; exact h)]; omega
theorem sum_find : ∀ {A : List Sl} {ps : List (Int × Int)}, RiseP A → (ps.Pairwise fun a b => prLt a b = true) → (∀ s ∈ A, perS s ∈ ps) → (ps.map fun p => nl (linesO (findS A p))).sum = (A.map fun s => nl s.l).sum
  | [], ps, _, _, _ => sum_zero _ ps fun p _ => rfl
  | s :: r, ps, hr, hp, hm => by
    obtain ⟨h1, h2⟩ := List.pairwise_cons.1 hr
    have ih := sum_find h2 hp fun z hz => hm z (by simp [hz])
    have e : ∀ p, nl (linesO (findS (s :: r) p)) = (if perS s = p then nl s.l else 0) + nl (linesO (findS r p)) := fun p => by
      by_cases hs : perS s = p
      · have hn : findS r p = none := by
          rcases hf : findS r p with _ | t
          · rfl
          · obtain ⟨t1, t2⟩ := find_mem hf
            exact absurd (hs.trans t2.symm) (pr_ne (h1 t t1))
        rw [if_pos hs, hn]
        simp [findS, List.find?_cons, hs, linesO, nl_nil]
      · rw [if_neg hs]
        simp [findS, List.find?_cons, hs]
    simp only [e]
    rw [sum_add, ih, sum_one hp (hm s (by simp)), List.map_cons, List.sum_cons]
theorem all_ok {A B : List Sl} : ∀ {ps : List (Int × Int)} {acc R : List (Int × Int × List Ln)}, allG A B acc ps = (0, R) → R = acc ++ ps.map (fun p => (ofC (conO (findS A p)) (conO (findS B p))).2) ∧ ∀ p ∈ ps, (ofC (conO (findS A p)) (conO (findS B p))).1 = 0
  | [], acc, R, h => by simp [allG] at h; exact ⟨by simp [h], fun p hp => by cases hp⟩
  | p :: r, acc, R, h => by
    rw [allG] at h
    split at h
    · rename_i he; simp only [Prod.mk.injEq] at h; exact absurd h.1 he
    · rename_i he
      obtain ⟨h1, h2⟩ := all_ok h
      refine ⟨by rw [h1]; simp, fun q hq => ?_⟩
      rcases List.mem_cons.1 hq with rfl | hq
      · simpa using he
      · exact h2 q hq
theorem conO_lines (o : Option Sl) : (conO o).2.2 = linesO o := by cases o <;> rfl
/-- what one of all differences is -/
theorem of_con {A B : List Sl} {p : Int × Int} (h : (ofC (conO (findS A p)) (conO (findS B p))).1 = 0) :
    IsOf (conO (findS A p)).1 (conO (findS A p)).2.1 (linesO (findS A p)) (conO (findS B p)).1 (conO (findS B p)).2.1 (linesO (findS B p)) 0 (ofC (conO (findS A p)) (conO (findS B p))).2.1 (ofC (conO (findS A p)) (conO (findS B p))).2.2.1 (ofC (conO (findS A p)) (conO (findS B p))).2.2.2 := by
  have := ofF_is (conO (findS A p)).1 (conO (findS A p)).2.1 (conO (findS A p)).2.2 (conO (findS B p)).1 (conO (findS B p)).2.1 (conO (findS B p)).2.2
  have h' : (ofF (conO (findS A p)).1 (conO (findS A p)).2.1 (conO (findS A p)).2.2 (conO (findS B p)).1 (conO (findS B p)).2.1 (conO (findS B p)).2.2).1 = 0 := h
  rw [h', conO_lines, conO_lines] at this
  unfold ofC
  rw [conO_lines, conO_lines]
  exact this
/-- the head of one of all differences -/
theorem con_head {L : List Sl} {p : Int × Int} (hL : ∀ s ∈ L, check s.y s.i s.l = 0) : (findS L p = none ∧ noneB (conO (findS L p)).1 (conO (findS L p)).2.1 (linesO (findS L p)) = true) ∨ (∃ s ∈ L, findS L p = some s ∧ (conO (findS L p)).1 = p.1 ∧ (conO (findS L p)).2.1 = p.2 ∧ noneB (conO (findS L p)).1 (conO (findS L p)).2.1 (linesO (findS L p)) = false) := by
  rcases hf : findS L p with _ | s
  · exact .inl ⟨rfl, rfl⟩
  · obtain ⟨h1, h2⟩ := find_mem hf
    refine .inr ⟨s, h1, rfl, by rw [← h2]; rfl, by rw [← h2]; rfl, check_none (hL s h1)⟩
theorem of_head {A B : List Sl} {p : Int × Int} (hA : ∀ s ∈ A, check s.y s.i s.l = 0) (hB : ∀ s ∈ B, check s.y s.i s.l = 0) (hp : hasP A p ∨ hasP B p) (h : (ofC (conO (findS A p)) (conO (findS B p))).1 = 0) :
    (ofC (conO (findS A p)) (conO (findS B p))).2.1 = p.1 ∧ (ofC (conO (findS A p)) (conO (findS B p))).2.2.1 = p.2 ∧ check (ofC (conO (findS A p)) (conO (findS B p))).2.1 (ofC (conO (findS A p)) (conO (findS B p))).2.2.1 (ofC (conO (findS A p)) (conO (findS B p))).2.2.2 = 0 := by
  have h0 := of_con h
  have k := of_ok h0
  rcases con_head (p := p) hB with ⟨b1, b2⟩ | ⟨s, _, b1, b2, b3, b4⟩
  · rcases con_head (p := p) hA with ⟨a1, a2⟩ | ⟨s, _, a1, a2, a3, a4⟩
    · rw [hasP_find, hasP_find, a1, b1] at hp; simp at hp
    · refine ⟨by rw [k.hy, if_pos b2, a2], by rw [k.hi, if_pos b2, a3], of_check h0 (.inl a4)⟩
  · exact ⟨by rw [k.hy, if_neg (by rw [b4]; decide), b2], by rw [k.hi, if_neg (by rw [b4]; decide), b3], of_check h0 (.inr b4)⟩
/-- the nets of all differences -/
theorem nets_all {A B : List Sl} {ps : List (Int × Int)} {R : List (Int × Int × List Ln)} {D : List Sl} (hA : listE A = 0) (hB : listE B = 0) (hps : PerOf A B ps) (hall : allG A B [] ps = (0, R)) (hD : D.map ct = R) {x y z : Int} (hx : netF 0 A = (x, 0)) (hy : netF 0 B = (y, 0)) (hz : netF 0 D = (z, 0)) : z = y - x := by
  obtain ⟨_, ca, ra⟩ := list_ok hA
  obtain ⟨_, cb, rb⟩ := list_ok hB
  obtain ⟨h1, h2⟩ := all_ok hall
  have e1 := net_ok hx
  have e2 := net_ok hy
  have e3 := net_ok hz
  rw [← sum_find ra hps.1 fun s hs => (hps.2 _).2 (.inl ⟨s, hs, rfl⟩)] at e1
  rw [← sum_find rb hps.1 fun s hs => (hps.2 _).2 (.inr ⟨s, hs, rfl⟩)] at e2
  have e4 : (D.map fun s => nl s.l).sum = (ps.map fun p => nl (ofC (conO (findS A p)) (conO (findS B p))).2.2.2).sum := by
    have : (D.map fun s => nl s.l) = (D.map ct).map fun c => nl c.2.2 := by rw [List.map_map]; rfl
    rw [this, hD, h1, List.nil_append, List.map_map]; rfl
  rw [e4] at e3
  have e5 : (ps.map fun p => nl (linesO (findS B p))).sum = (ps.map fun p => nl (linesO (findS A p)) + nl (ofC (conO (findS A p)) (conO (findS B p))).2.2.2).sum := by
    congr 1
    refine List.map_congr_left fun p hp => ?_
    exact nl_merge (of_wrong (of_con (h2 p hp)))
  rw [sum_add] at e5
  omega
/-- a list against itself -/
theorem self_all {A : List Sl} {ps : List (Int × Int)} {R : List (Int × Int × List Ln)} (hA : listE A = 0) (hps : PerOf A A ps) (hall : allG A A [] ps = (0, R)) : R = A.map fun s => (s.y, s.i, []) := by
  obtain ⟨_, ca, ra⟩ := list_ok hA
  obtain ⟨h1, h2⟩ := all_ok hall
  have hp2 : ps = A.map perS := rise_uniq hps.1 (by rw [List.pairwise_map]; exact ra) fun p => by
    rw [hps.2, List.mem_map]
    simp only [or_self]
    exact Iff.rfl
  subst hp2
  rw [h1, List.nil_append, List.map_map]
  refine List.map_congr_left fun s hs => ?_
  have hm : perS s ∈ A.map perS := List.mem_map.2 ⟨s, hs, rfl⟩
  obtain ⟨e1, e2, _⟩ := of_head ca ca (.inl ⟨s, hs, rfl⟩) (h2 _ hm)
  have e3 := (of_ok (of_con (h2 _ hm))).del.self
  simp only [Function.comp_apply]
  rw [← e3, ← show _ = s.y from e1, ← show _ = s.i from e2]

/-- differences that are added: each is taken, and what comes is what is now -/
theorem adds_all {A B : List Sl} (hA : ∀ s ∈ A, check s.y s.i s.l = 0) (hB : ∀ s ∈ B, check s.y s.i s.l = 0) : ∀ (D : List Sl) (st : Int × Int → List Ln), (∀ s ∈ D, hasP A (perS s) ∨ hasP B (perS s)) → (∀ s ∈ D, (ofC (conO (findS A (perS s))) (conO (findS B (perS s)))).1 = 0 ∧ ct s = (ofC (conO (findS A (perS s))) (conO (findS B (perS s)))).2) →
    (D.Pairwise fun a b => perS a ≠ perS b) → (∀ s ∈ D, st (perS s) = linesO (findS A (perS s))) →
    ∃ st', addG st D = (0, st') ∧ (∀ s ∈ D, st' (perS s) = linesO (findS B (perS s))) ∧ ∀ q, (∀ s ∈ D, perS s ≠ q) → st' q = st q
  | [], st, _, _, _, _ => ⟨st, rfl, (fun s hs => by cases hs), fun q _ => rfl⟩
  | x :: r, st, hp, hc, hn, hs => by
    obtain ⟨n1, n2⟩ := List.pairwise_cons.1 hn
    obtain ⟨c1, c2⟩ := hc x (by simp)
    have h0 := of_con c1
    have hm := of_wrong h0
    obtain ⟨_, _, hck⟩ := of_head hA hB (hp x (by simp)) c1
    rw [← c2] at hm hck
    have hck : check x.y x.i x.l = 0 := hck
    have hm : mergeL (linesO (findS A (perS x))) x.l = some (linesO (findS B (perS x))) := hm
    have hbl : (linesO (findS B (perS x))).length ≤ 448 := by
      rcases hf : findS B (perS x) with _ | s
      · exact Nat.zero_le _
      · exact check_small (hB s (find_mem hf).1)
    have hca : check x.y x.i (linesO (findS A (perS x))) = 0 := by
      rcases hf : findS A (perS x) with _ | s
      · exact check_of (ok_years hck) List.Pairwise.nil (fun z hz => by cases hz) (Nat.zero_le _)
      · obtain ⟨f1, f2⟩ := find_mem hf
        have e1 : s.y = x.y := congrArg Prod.fst f2
        have e2 : s.i = x.i := congrArg Prod.snd f2
        have := hA s f1
        rw [e1, e2] at this; exact this
    have hmg : merge x.y x.i (st (perS x)) x.y x.i x.l = (0, x.y, x.i, linesO (findS B (perS x))) := by
      rw [hs x (by simp)]
      unfold merge
      rw [if_neg (by omega), if_neg (by omega), if_neg (by omega), hm]
      simp only
      rw [if_neg (by omega)]
    rw [add_more hck hmg]
    obtain ⟨st', k1, k2, k3⟩ := adds_all hA hB r (updS st (perS x) (linesO (findS B (perS x)))) (fun s hs => hp s (by simp [hs])) (fun s hs => hc s (by simp [hs])) n2 (fun s hs' => by
      unfold updS
      rw [if_neg fun e => n1 s hs' e.symm]
      exact hs s (by simp [hs']))
    refine ⟨st', k1, fun s hs' => ?_, fun q hq => ?_⟩
    · rcases List.mem_cons.1 hs' with rfl | hs'
      · rw [k3 _ fun z hz e => n1 z hz e.symm]
        unfold updS; rw [if_pos rfl]
      · exact k2 s hs'
    · rw [k3 q fun z hz => hq z (by simp [hz])]
      unfold updS
      rw [if_neg fun e => hq x (by simp) e.symm]

end Wb
end Go.Proofs.Ytdfmlgjemfcmlaa
