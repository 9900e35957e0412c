/- Plain facts for TopRuns: what is handed in; what each run leaves. -/
import Derived.Test.YtnefdpnolojojaaGreatPlainT
import Derived.Test.YtnefdpnolojojaaGreatMRd
namespace Go.Proofs.YtnefdpnolojojaaGreat
namespace Wb

/-- an amount of the law's -/
structure Cl where
  per : Nat
  run : Nat
  prd : Nat
  part : Nat
  code : Nat
  cents : Int
def inBox (p c : Nat) (x : Cl) : Bool := decide (x.part % 7 = p ∧ x.code % 4 = c)
def sumC (p c : Nat) : List Cl → Int
  | [] => 0
  | x :: r => (if inBox p c x = true then x.cents else 0) + sumC p c r
theorem sumC_snoc (p c : Nat) (l : List Cl) (x : Cl) : sumC p c (l ++ [x]) = sumC p c l + (if inBox p c x = true then x.cents else 0) := by
  induction l with
  | nil => simp [sumC]
  | cons y r ih => rw [List.cons_append, sumC, ih, sumC]; omega
def SmX (l : List Cl) : Prop := ∀ x ∈ l, -2147483648 ≤ x.cents ∧ x.cents ≤ 2147483647
theorem sumC_small (p c : Nat) : ∀ {l : List Cl}, SmX l → -(2147483648 * l.length : Int) ≤ sumC p c l ∧ sumC p c l ≤ 2147483648 * l.length
  | [], _ => by simp [sumC]
  | x :: r, h => by
    have h1 := sumC_small p c (l := r) fun y hy => h y (by simp [hy])
    have h2 := h x (by simp)
    rw [sumC, List.length_cons]
    split <;> push_cast <;> omega
/-- the k'th box's line -/
def lineAt (v : Nat → Nat → Int) (k : Nat) : List Ln := if v (k / 4) (k % 4) = 0 then [] else [⟨(k / 4 : Nat), [UInt8.ofNat (97 + k % 4)], v (k / 4) (k % 4)⟩]
def linesTo (v : Nat → Nat → Int) (n : Nat) : List Ln := (List.range n).flatMap (lineAt v)
theorem linesTo_succ (v : Nat → Nat → Int) (n : Nat) : linesTo v (n + 1) = linesTo v n ++ lineAt v n := by
  unfold linesTo
  rw [List.range_succ, List.flatMap_append]
  simp
theorem linesTo_len (v : Nat → Nat → Int) : ∀ n, (linesTo v n).length ≤ n
  | 0 => Nat.le_refl _
  | n + 1 => by
    have := linesTo_len v n
    rw [linesTo_succ, List.length_append]
    have h1 : (lineAt v n).length ≤ 1 := by unfold lineAt; split <;> simp
    omega
theorem linesTo_mem {v : Nat → Nat → Int} {n : Nat} {x : Ln} (h : x ∈ linesTo v n) : ∃ k, k < n ∧ x = ⟨(k / 4 : Nat), [UInt8.ofNat (97 + k % 4)], v (k / 4) (k % 4)⟩ ∧ v (k / 4) (k % 4) ≠ 0 := by
  obtain ⟨k, hk, hx⟩ := List.mem_flatMap.1 h
  unfold lineAt at hx
  split at hx
  · cases hx
  · rename_i hz
    exact ⟨k, List.mem_range.1 hk, List.mem_singleton.1 hx, hz⟩
theorem keys_rise : ∀ k < 28, ∀ j < k, (decide ((j / 4 : Nat) < k / 4) || ((j / 4 == k / 4) && Op.bytesLess [UInt8.ofNat (97 + j % 4)] [UInt8.ofNat (97 + k % 4)])) = true := by decide
theorem key_lt {j k : Nat} (hk : k < 28) (hj : j < k) (a b : Int) : lnLt ⟨(j / 4 : Nat), [UInt8.ofNat (97 + j % 4)], a⟩ ⟨(k / 4 : Nat), [UInt8.ofNat (97 + k % 4)], b⟩ = true := by
  have := keys_rise k hk j hj
  unfold lnLt
  simp only [Bool.or_eq_true, decide_eq_true_eq, Bool.and_eq_true, beq_iff_eq] at this ⊢
  rcases this with h | ⟨h1, h2⟩
  · left; omega
  · right; exact ⟨by omega, h2⟩
theorem linesTo_rise (v : Nat → Nat → Int) : ∀ n, n ≤ 28 → Rise (linesTo v n)
  | 0, _ => List.Pairwise.nil
  | n + 1, hn => by
    rw [linesTo_succ]
    refine List.pairwise_append.2 ⟨linesTo_rise v n (by omega), ?_, fun x hx y hy => ?_⟩
    · unfold lineAt; split
      · exact List.Pairwise.nil
      · exact List.pairwise_singleton _ _
    · obtain ⟨k, hk, rfl, -⟩ := linesTo_mem hx
      unfold lineAt at hy
      split at hy
      · cases hy
      · obtain rfl := List.mem_singleton.1 hy
        exact key_lt (by omega) hk _ _
theorem code_ok : ∀ c < 4, codeOk [UInt8.ofNat (97 + c)] = true := by decide
theorem linesTo_small {v : Nat → Nat → Int} {n : Nat} (hn : n ≤ 28) (h : ∀ p c, -KT ≤ v p c ∧ v p c ≤ KT) : SmL KT 28 (linesTo v n) := by
  refine ⟨linesTo_rise v n hn, Nat.le_trans (linesTo_len v n) hn, fun x hx => ?_, fun x hx => ?_⟩
  · obtain ⟨k, hk, rfl, hz⟩ := linesTo_mem hx
    have := h (k / 4) (k % 4)
    have e : KT = 128849018880 := rfl
    exact lineErr_iff.2 ⟨by simp only; omega, by simp only; omega, code_ok _ (Nat.mod_lt _ (by decide)), hz, by rw [fits_iff]; simp only; omega⟩
  · obtain ⟨k, hk, rfl, hz⟩ := linesTo_mem hx
    exact h _ _
/-- a slip of amounts -/
def slipL (l : List Cl) : List Ln := linesTo (fun p c => sumC p c l) 28
theorem slip_small {l : List Cl} (hx : SmX l) (hl : l.length ≤ 60) : SmL KT 28 (slipL l) := linesTo_small (Nat.le_refl _) fun p c => by
  have := sumC_small p c hx
  have e : KT = 128849018880 := rfl
  omega
/-- the amounts of a person, of a period, up to a run -/
def mine (p r i : Nat) (x : Cl) : Bool := decide (x.per % 3 = p ∧ x.prd % 6 + 1 = i ∧ x.run % 6 + 1 ≤ r)
def rowsX (l : List Cl) (p r i : Nat) : List Cl := l.filter (mine p r i)
theorem rowsX_small {l : List Cl} (h : SmX l) (p r i : Nat) : SmX (rowsX l p r i) := fun x hx => h x (List.mem_filter.1 hx).1
theorem rowsX_len (l : List Cl) (p r i : Nat) : (rowsX l p r i).length ≤ l.length := List.length_filter_le _ _
def slipX (l : List Cl) (p r i : Nat) : Ct := (2026, (i : Int), slipL (rowsX l p r i))
def slipsX (l : List Cl) (p r n : Nat) : List Ct := (List.range n).map fun i => slipX l p r (i + 1)
theorem slipsX_succ (l : List Cl) (p r n : Nat) : slipsX l p r (n + 1) = slipsX l p r n ++ [slipX l p r (n + 1)] := by
  unfold slipsX
  rw [List.range_succ, List.map_append]; rfl
theorem slipsX_len (l : List Cl) (p r n : Nat) : (slipsX l p r n).length = n := by simp [slipsX]
theorem slipsX_mem {l : List Cl} {p r n : Nat} {c : Ct} (h : c ∈ slipsX l p r n) : ∃ i, 1 ≤ i ∧ i ≤ n ∧ c = slipX l p r i := by
  obtain ⟨i, hi, rfl⟩ := List.mem_map.1 h
  have := List.mem_range.1 hi
  exact ⟨i + 1, by omega, by omega, rfl⟩
theorem slipsX_rise (l : List Cl) (p r : Nat) : ∀ n, RiseP (lst (slipsX l p r n))
  | 0 => List.Pairwise.nil
  | n + 1 => by
    rw [slipsX_succ]
    unfold lst
    rw [List.map_append]
    refine List.pairwise_append.2 ⟨slipsX_rise l p r n, List.pairwise_singleton _ _, fun x hx y hy => ?_⟩
    obtain ⟨c, hc, rfl⟩ := List.mem_map.1 hx
    obtain ⟨i, h1, h2, rfl⟩ := slipsX_mem hc
    obtain rfl : y = slO (slipX l p r (n + 1)) := by simpa using hy
    refine (prLt_iff _ _).2 (.inr ⟨rfl, ?_⟩)
    show (i : Int) < ((n + 1 : Nat) : Int)
    omega
theorem slipsX_small {l : List Cl} (h : SmX l) (hl : l.length ≤ 60) (p r n : Nat) : SmC KT 28 n (slipsX l p r n) :=
  ⟨fun c hc => by
    obtain ⟨i, h1, h2, rfl⟩ := slipsX_mem hc
    exact ⟨rfl, by show (1 : Int) ≤ (i : Int); omega, by show (i : Int) ≤ n; omega, slip_small (rowsX_small h p r i) (Nat.le_trans (rowsX_len l p r i) hl)⟩, slipsX_rise l p r n⟩
def someX (l : List Cl) (p r n : Nat) : Bool := (List.range n).any fun i => decide (0 < (rowsX l p r (i + 1)).length)
theorem someX_succ (l : List Cl) (p r n : Nat) : someX l p r (n + 1) = (someX l p r n || decide (0 < (rowsX l p r (n + 1)).length)) := by
  unfold someX
  rw [List.range_succ, List.any_append]; simp
/-- what is handed in for a run, by persons from 1 on -/
def handX (l : List Cl) (r : Nat) (q : Int) : List Ct := if 1 ≤ q ∧ q ≤ 3 ∧ someX l (q - 1).toNat r r = true then slipsX l (q - 1).toNat r r else []
theorem handX_small {l : List Cl} (h : SmX l) (hl : l.length ≤ 60) (r : Nat) (q : Int) : SmC KT 28 r (handX l r q) ∧ (handX l r q).length ≤ r := by
  unfold handX
  split
  · exact ⟨slipsX_small h hl _ _ _, by rw [slipsX_len]; exact Nat.le_refl _⟩
  · exact ⟨smC_nil, Nat.zero_le _⟩
theorem SmC.wide {M : Int} {n : Nat} {r t : Int} {C : List Ct} (h : SmC M n r C) (k : r ≤ t) : SmC M n t C := ⟨fun c hc => by
  obtain ⟨a, b, c, d⟩ := h.each c hc
  exact ⟨a, b, by omega, d⟩, h.rise⟩
/-- what holds behind j runs of the law's -/
structure TopI (l : List Cl) (j : Nat) (B : Bk) (sm : Int → Int) : Prop where
  ok : BkOk B
  runs : B.runs.length = j
  last : ∀ x, B.runs.getLast? = some x → x.y = 2026 ∧ x.i = j ∧ x.k = j
  paid : ∀ p, B.paid p = if j = 0 then [] else fullC (handX l j p)
  owed : ∀ p, 0 ≤ B.owed p ∧ B.owed p ≤ 176800000000000 * j
  sum : ∀ p, sm p - B.owed p = nlC (B.paid p)
  pos : ∀ p, 0 ≤ sm p
  top : ∀ p, sm p ≤ 1125899906842624 * j
theorem topI_none (l : List Cl) : TopI l 0 noBk (fun _ => 0) := ⟨bkOk_none, rfl, (fun x hx => by cases hx), (fun p => rfl), (fun p => ⟨Int.le_refl _, Int.le_refl _⟩), (fun p => rfl), (fun p => Int.le_refl _), (fun p => Int.le_refl _)⟩
/-- a run of the law's -/
theorem top_run {l : List Cl} (h : SmX l) (hl : l.length ≤ 60) {j : Nat} (hj : j < 6) {B B' : Bk} {sum : Int → Int} (hI : TopI l j B sum) {hs ps : List Int} {R : Rn} {E : Int} (hw : Who B (handX l (j + 1)) hs ps) (hd : doG B 2026 ((j + 1 : Nat) : Int) ((j + 1 : Nat) : Int) (handX l (j + 1)) hs ps = (B', R, E)) :
    E = 0 ∧ R.n = j + 1 ∧ R.i = j + 1 ∧ TopI l (j + 1) B' (addR sum R.rows) ∧ Behind B 2026 ((j + 1 : Nat) : Int) (handX l (j + 1)) B' R := by
  have hA : ∀ p, SmC KT 28 ((j + 1 : Nat) : Int) (B.paid p) ∧ (B.paid p).length ≤ 6 := fun p => by
    rw [hI.paid]
    split
    · exact ⟨smC_nil, Nat.zero_le _⟩
    · have := handX_small h hl j p
      exact ⟨(this.1.full).wide (by omega), Nat.le_trans (List.length_filter_le _ _) (by omega)⟩
  have hS : ∀ p, SmC KT 28 ((j + 1 : Nat) : Int) (handX l (j + 1) p) ∧ (handX l (j + 1) p).length ≤ 6 := fun p => by
    have := handX_small h hl (j + 1) p
    exact ⟨this.1, by omega⟩
  obtain ⟨B2, R2, h1, h2⟩ := do_small (B := B) (r := ((j + 1 : Nat) : Int)) (S := handX l (j + 1)) (hs := hs) (ps := ps) (by omega) (fun x hx => by
    obtain ⟨a, b, c⟩ := hI.last x hx
    exact ⟨a, by omega, by omega⟩) (fun p => (hA p).1) (fun p => (hS p).1) (fun p => (hA p).2) (fun p => (hS p).2) (fun p => by have := hI.owed p; omega)
  rw [hd] at h1
  simp only [Prod.mk.injEq] at h1
  obtain ⟨rfl, rfl, rfl⟩ := h1
  have ho := do_ok hd
  have hb := behind_of hI.ok hw ho
  have hn : R.n = j + 1 := by rw [ho.run.1, hI.runs]
  refine ⟨rfl, hn, by rw [ho.run.2.2.1]; push_cast; rfl, ⟨hb.ok, by rw [ho.runs, List.length_append, hI.runs]; rfl, fun x hx => ?_, fun p => ?_, fun p => ?_, fun p => sum_addR hb hI.sum p, fun p => ?_, fun p => ?_⟩, hb⟩
  · rw [ho.runs, getLast_snoc] at hx
    cases hx
    exact ⟨ho.run.2.1, ho.run.2.2.1, ho.run.2.2.2⟩
  · rw [hb.paid, if_neg (by omega)]
  · by_cases hp : handX l (j + 1) p = [] ∧ B.paid p = []
    · rw [hb.other p hp]
      have := hI.owed p
      omega
    · obtain ⟨x, hx, rfl⟩ := (hb.who p).2 hp
      have h3 := h2 x hx
      have h4 := (hb.rows x hx)
      have h5 := hI.owed x.p
      rw [h4.2]
      have := h4.1.owed
      omega
  · have := addR_bound (b := 1125899906842624) (c := 1125899906842624 * j) (s := sum) (p := p) hb.one (fun r hr => (hb.rows r hr).1.paid) (by omega) (hI.pos p) (hI.top p)
    exact this.1
  · have := addR_bound (b := 1125899906842624) (c := 1125899906842624 * j) (s := sum) (p := p) hb.one (fun r hr => (hb.rows r hr).1.paid) (by omega) (hI.pos p) (hI.top p)
    have := this.2
    push_cast
    omega
/-- differences of what is paid for and what was handed in -/
theorem all_small {C : List Ct} {r : Nat} (hr : r ≤ 6) (h : SmC KT 28 r C) : ∀ {ps : List (Int × Int)} {acc : List Ct}, (∀ p ∈ ps, hasP (lst (fullC C)) p ∨ hasP (lst C) p) → (∀ c ∈ acc, c.2.2 = []) →
    ∃ R, allG (lst (fullC C)) (lst C) acc ps = (0, R) ∧ ∀ c ∈ R, c.2.2 = []
  | [], acc, _, h2 => ⟨acc, by rw [allG], h2⟩
  | p :: t, acc, h1, h2 => by
    have hp : ∃ s, findS (lst C) p = some s := by
      have : hasP (lst C) p := by
        rcases h1 p (by simp) with ⟨s, hs, e⟩ | k
        · rw [full_lst] at hs
          exact ⟨s, (List.mem_filter.1 hs).1, e⟩
        · exact k
      exact Option.isSome_iff_exists.1 (hasP_find.1 this)
    obtain ⟨s, hs⟩ := hp
    obtain ⟨m1, m2⟩ := find_mem hs
    have hc := h.check (by omega) m1
    have hnb := check_noneB hc
    have hwb : wrongE s.y s.i s.l = 0 := by
      unfold wrongE; rw [hnb]; simpa using hc
    have hdd : ∀ a b : List Ln, a = b → deltaL a b = [] := fun a b e => by subst e; exact (delta_is a a).self
    have e : ∃ c : Ct, ofC (conO (findS (lst (fullC C)) p)) (conO (findS (lst C) p)) = (0, c) ∧ c.2.2 = [] := by
      rw [hs]
      by_cases hz : s.l = []
      · have hn : findS (lst (fullC C)) p = none := by
          rcases hf : findS (lst (fullC C)) p with _ | x
          · rfl
          · have hfl := find_full h.rise p
            obtain ⟨x1, x2⟩ := find_mem hf
            rw [hf, hs] at hfl
            rw [full_lst] at x1
            have := (List.mem_filter.1 x1).2
            have hxl : x.l = s.l := hfl
            rw [hxl, hz] at this
            simp at this
        rw [hn]
        refine ⟨(s.y, s.i, deltaL [] s.l), ?_, by show deltaL [] s.l = []; rw [hz]; exact hdd _ _ rfl⟩
        show ofF 0 0 [] s.y s.i s.l = _
        unfold ofF
        rw [if_neg (by simp [wrongE, noneB]), if_neg (by rw [hwb]; simp), if_neg (by simp [noneB]), if_neg (by rw [hz, hdd [] [] rfl]; simp), if_neg (by rw [hz, hdd [] [] rfl]; simp), hnb]
        simp
      · have hf : findS (lst (fullC C)) p = some s := by
          have hx : s ∈ lst (fullC C) := by
            rw [full_lst]
            exact List.mem_filter.2 ⟨m1, by simpa using hz⟩
          have := find_some (L := lst (fullC C)) (by rw [full_lst]; exact List.Pairwise.filter _ h.rise) hx
          rwa [m2] at this
        rw [hf]
        refine ⟨(s.y, s.i, deltaL s.l s.l), ?_, hdd _ _ rfl⟩
        show ofF s.y s.i s.l s.y s.i s.l = _
        unfold ofF
        rw [if_neg (by rw [hwb]; simp), if_neg (by rw [hwb]; simp), if_neg (by simp), if_neg (by rw [hdd _ _ rfl]; simp), if_neg (by rw [hdd _ _ rfl]; simp), hnb]
        simp
    obtain ⟨c, hc1, hc2⟩ := e
    obtain ⟨R, k1, k2⟩ := all_small hr h (ps := t) (acc := acc ++ [c]) (fun q hq => h1 q (by simp [hq])) (fun z hz => by
      rcases List.mem_append.1 hz with hz | hz
      · exact h2 z hz
      · rw [List.mem_singleton.1 hz]; exact hc2)
    exact ⟨R, by rw [all_more hc1, k1], k2⟩
theorem list_small {C : List Ct} {r : Nat} (hr : r ≤ 6) (h : SmC KT 28 r C) (hl : C.length ≤ 6) : listE (lst C) = 0 := by
  have key : ∀ {L : List Sl} {p : Option (Int × Int)}, (∀ s ∈ L, check s.y s.i s.l = 0) → RiseP L → (∀ a, p = some a → ∀ s ∈ L, prLt a (perS s) = true) → tabE p L = 0 := by
    intro L
    induction L with
    | nil => intro p _ _ _; rw [tabE]
    | cons s t ih =>
      intro p h1 h2 h3
      obtain ⟨r1, r2⟩ := List.pairwise_cons.1 h2
      have hn := ih (p := some (perS s)) (fun z hz => h1 z (by simp [hz])) r2 (fun a ha z hz => by cases ha; exact r1 z hz)
      rcases p with _ | q
      · rw [tab_first (h1 s (by simp)), hn]
      · rw [tab_more (h1 s (by simp)) (h3 q rfl s (by simp)), hn]
  unfold listE
  rw [if_neg (by simp [lst]; omega)]
  exact key (fun s hs => h.check (by omega) hs) h.rise (fun a ha => by cases ha)
end Wb
end Go.Proofs.YtnefdpnolojojaaGreat
