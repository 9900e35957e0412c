/- The reference of chapter 29: Add. -/
import Derived.Test.YtdfmlgjemfcmlaaRDelM
import Derived.Test.YtdfmlgjemfcmlaaDelM
import Derived.Test.YtdfmlgjemfcmlaaSlip16
import Derived.Test.YtdfmlgjemfcmlaaApp1
namespace Go.Proofs.Ytdfmlgjemfcmlaa
open Go.RowKit Go.Lib
set_option maxRecDepth 8000
attribute [local go_sem ↓] Go.wp_at_zero Go.wp_at_succ

namespace Wb
theorem pw_ne {ps : List (Int × Int)} (h : ps.Pairwise fun a b => prLt a b = true) : ∀ {j k : Nat} {p : Int × Int}, ps[j]? = some p → ps[k]? = some p → j = k := by
  intro j k p hj hk
  obtain ⟨h1, h2⟩ := List.getElem?_eq_some_iff.1 hj
  obtain ⟨h3, h4⟩ := List.getElem?_eq_some_iff.1 hk
  rcases Nat.lt_trichotomy j k with hlt | he | hlt
  · have := List.pairwise_iff_getElem.1 h j k h1 h3 hlt
    rw [h2, h4] at this; exact absurd rfl (pr_ne this)
  · exact he
  · have := List.pairwise_iff_getElem.1 h k j h3 h1 hlt
    rw [h2, h4] at this; exact absurd rfl (pr_ne this)
/-- the state's contents, one of them turned -/
theorem set_upd {ps : List (Int × Int)} (h : ps.Pairwise fun a b => prLt a b = true) {st : Int × Int → List Ln} {j : Nat} {p : Int × Int} (hj : ps[j]? = some p) (l : List Ln) :
    (ps.map fun p => (p.1, p.2, st p)).set j (p.1, p.2, l) = ps.map fun q => (q.1, q.2, updS st p l q) := by
  refine List.ext_getElem? fun k => ?_
  rw [List.getElem?_set, List.getElem?_map, List.getElem?_map, List.length_map]
  obtain ⟨h1, h2⟩ := List.getElem?_eq_some_iff.1 hj
  by_cases hk : j = k
  · subst hk
    rw [if_pos rfl, if_pos h1, hj]
    simp [updS]
  · rw [if_neg hk]
    rcases hq : ps[k]? with _ | q
    · rfl
    · have hne : ¬ q = p := fun e => hk (pw_ne h hj (e ▸ hq))
      simp [updS, hne]
/-- how far the look for a period has come -/
def Seen (ps : List (Int × Int)) (j : Nat) (x : Sl) (st st' : Int × Int → List Ln) : Prop :=
  (st' = st ∧ ∀ k p, k < j → ps[k]? = some p → p ≠ perS x) ∨ ((∃ k, k < j ∧ ps[k]? = some (perS x)) ∧ ∃ c, merge x.y x.i (st (perS x)) x.y x.i x.l = (0, c) ∧ st' = updS st (perS x) c.2.2)
theorem Seen.other {ps : List (Int × Int)} {j : Nat} {x : Sl} {st st' : Int × Int → List Ln} (h : Seen ps j x st st') {p : Int × Int} (hp : ps[j]? = some p) (hne : p ≠ perS x) : Seen ps (j + 1) x st st' := by
  rcases h with ⟨h1, h2⟩ | ⟨⟨k, h1, h2⟩, h3⟩
  · refine .inl ⟨h1, fun k q hk hq => ?_⟩
    rcases Nat.lt_or_ge k j with hlt | hge
    · exact h2 k q hlt hq
    · obtain rfl : k = j := by omega
      rw [hp] at hq; cases hq; exact hne
  · exact .inr ⟨⟨k, by omega, h2⟩, h3⟩
theorem Seen.here {ps : List (Int × Int)} (hr : ps.Pairwise fun a b => prLt a b = true) {j : Nat} {x : Sl} {st st' : Int × Int → List Ln} (h : Seen ps j x st st') (hp : ps[j]? = some (perS x)) : st' = st := by
  rcases h with ⟨h1, _⟩ | ⟨⟨k, h1, h2⟩, _⟩
  · exact h1
  · have := pw_ne hr hp h2; omega
theorem Seen.done {ps : List (Int × Int)} {x : Sl} {st st' : Int × Int → List Ln} (h : Seen ps ps.length x st st') (hm : perS x ∈ ps) : ∃ c, merge x.y x.i (st (perS x)) x.y x.i x.l = (0, c) ∧ st' = updS st (perS x) c.2.2 := by
  rcases h with ⟨_, h2⟩ | ⟨_, h3⟩
  · obtain ⟨k, hk, e⟩ := List.mem_iff_getElem.1 hm
    exact absurd rfl (h2 k (perS x) hk (by rw [List.getElem?_eq_getElem hk, e]))
  · exact h3
theorem heads_mem {A D : List Sl} {x : Sl} (hx : x ∈ D) : perS x ∈ headsP (A ++ D) := ((heads_of A D).2 _).2 (.inr ⟨x, hx, rfl⟩)
end Wb
theorem lnsn_size {w : World} {v : Value} {l : List Wb.Ln} (h : Lns w v l) (hne : l ≠ []) (q : Nat) (hq : v.ownBlock = some q) : q < w.heap.size := by
  obtain ⟨a, c, rfl⟩ := h.shape
  obtain ⟨b, off, rfl, hc⟩ := h.opened hne
  injection hq with hq
  obtain ⟨x, r, hx⟩ : ∃ x r, l = x :: r := by
    rcases ht : l with _ | ⟨x, r⟩
    · exact absurd ht hne
    · exact ⟨x, r, rfl⟩
  have := Wb.cell_size (hc 0 x (by rw [hx]; rfl)).1
  simp only at hq; omega
theorem lns_cells9 {w w' : World} {v : Value} {l : List Wb.Ln} (h : Lns w v l) (hk : ∀ b k u, (∀ q, v.ownBlock = some q → b = q) → l ≠ [] → w.cell? ⟨b, k, none⟩ = some u → w'.cell? ⟨b, k, none⟩ = some u) : Lns w' v l := by
  rcases h with q | ⟨b, off, cap, h1, h2⟩
  · exact .inl q
  · refine .inr ⟨b, off, cap, h1, fun j x hj => ?_⟩
    obtain ⟨c0, c1, c2⟩ := h2 j x hj
    have hne : l ≠ [] := by rintro rfl; simp at hj
    have hb : ∀ q, v.ownBlock = some q → b = q := fun q hq => by rw [h1] at hq; injection hq
    exact ⟨hk b _ _ hb hne c0, hk b _ _ hb hne c1, hk b _ _ hb hne c2⟩
theorem lns_kept9 {w w' : World} {v : Value} {l : List Wb.Ln} {row : Option Nat} (h : Lns w v l) (hg : w.grownBy w' row) (hne : l ≠ [] → ∀ q, v.ownBlock = some q → row ≠ some q) : Lns w' v l := by
  refine lns_cells9 h fun b k u hb hl hc => ?_
  obtain ⟨a, n, hv⟩ := h.shape
  rw [hg.cell_far ⟨b, k, none⟩ (Wb.cell_size hc) (fun e => ?_)]
  · exact hc
  · rcases a with _ | a
    · subst hv
      rcases h with ⟨q, _⟩ | ⟨_, _, _, q, _⟩
      · exact hl q
      · cases q
    · have hq : v.ownBlock = some a.block := by rw [hv]; rfl
      exact hne hl _ hq (by rw [← e, hb _ hq])
/-- a row of slips of the call's own; no line lies in it -/
def SlN (base : Nat) (w : World) (v : Value) (N : Nat) (R : List Wb.Sl) : Prop := w.ownsRow base 24 3 v N (rowsOf slc R) ∧ R.length = N ∧ (∀ s ∈ R, Lns w s.v s.l ∧ Sized s.l) ∧ ∀ s ∈ R, s.l ≠ [] → ∀ q, s.v.ownBlock = some q → v.ownBlock ≠ some q
theorem SlN.nil {base : Nat} {w : World} : SlN base w (.slice none 0 0) 0 [] := ⟨own_none, rfl, (fun s hs => by cases hs), fun s hs => by cases hs⟩
theorem SlN.ext {base : Nat} {w w' : World} {v : Value} {N : Nat} {R : List Wb.Sl} (h : SlN base w v N R) (k : Wb.Ext w w') : SlN base w' v N R := ⟨row_ext3 h.1 k, h.2.1, fun s hs => ⟨(h.2.2.1 s hs).1.ext k, (h.2.2.1 s hs).2⟩, h.2.2.2⟩
theorem SlN.mono {base base' : Nat} {w : World} {v : Value} {N : Nat} {R : List Wb.Sl} (h : SlN base w v N R) (k : base' ≤ base) : SlN base' w v N R := ⟨row_mono h.1 k, h.2⟩
theorem SlN.shape {base : Nat} {w : World} {v : Value} {N : Nat} {R : List Wb.Sl} (h : SlN base w v N R) : ∃ a c, v = .slice a N c := row_shape h.1
theorem SlN.tbl {base : Nat} {w : World} {v : Value} {N : Nat} {R : List Wb.Sl} (h : SlN base w v N R) : Tbl 3 slc w v R := by
  obtain ⟨h1, rfl, _⟩ := h
  exact row_tbl slc_len (by decide) h1
theorem SlN.append {base : Nat} {w w' : World} {v v' : Value} {N : Nat} {R : List Wb.Sl} {s : Wb.Sl} (h : SlN base w v N R) (ho : w'.ownsRow base 24 3 v' (N + 1) (rowsOf slc R ++ rowsOf slc [s])) (hg : w.grownBy w' v.ownBlock) (hb : v'.ownBlock = v.ownBlock ∨ v'.ownBlock = some w.heap.size)
    (hs : Lns w s.v s.l) (hz : Sized s.l) (hn : s.l ≠ [] → ∀ q, s.v.ownBlock = some q → v.ownBlock ≠ some q) : SlN base w' v' (N + 1) (R ++ [s]) := by
  refine ⟨by rw [rowsOf_app]; exact ho, by rw [List.length_append, h.2.1]; rfl, fun t ht => ?_, fun t ht hne q hq => ?_⟩
  · rcases List.mem_append.1 ht with ht | ht
    · exact ⟨lns_kept9 (h.2.2.1 t ht).1 hg (h.2.2.2 t ht), (h.2.2.1 t ht).2⟩
    · simp at ht; subst ht; exact ⟨lns_kept9 hs hg hn, hz⟩
  · have hold : v.ownBlock ≠ some q := by
      rcases List.mem_append.1 ht with ht | ht
      · exact h.2.2.2 t ht hne q hq
      · simp at ht; subst ht; exact hn hne q hq
    rcases hb with hb | hb
    · rw [hb]; exact hold
    · rw [hb]
      have hlt : q < w.heap.size := by
        rcases List.mem_append.1 ht with ht | ht
        · exact lnsn_size (h.2.2.1 t ht).1 hne q hq
        · simp at ht; subst ht; exact lnsn_size hs hne q hq
      intro e; injection e with e; omega
theorem rows_set9 (s : Wb.Sl) : ∀ (R : List Wb.Sl) (j : Nat), j < R.length → (((rowsOf slc R).set (j * 3) (.int .i64 s.y)).set (j * 3 + 1) (.int .i64 s.i)).set (j * 3 + 2) s.v = rowsOf slc (R.set j s)
  | [], j, h => by simp at h
  | x :: r, 0, _ => by simp [rowsOf, slc]
  | x :: r, j + 1, h => by
    have ih := rows_set9 s r j (by simpa using h)
    have e : ∀ l : List Wb.Sl, rowsOf slc (x :: l) = .int .i64 x.y :: .int .i64 x.i :: x.v :: rowsOf slc l := fun l => by simp [rowsOf, slc]
    rw [List.set_cons_succ, e, e, ← ih, show (j + 1) * 3 = j * 3 + 1 + 1 + 1 by omega]
    simp only [List.set_cons_succ]
theorem SlN.set {base g n c : Nat} {w : World} {N : Nat} {R : List Wb.Sl} {s : Wb.Sl} {j : Nat} (h : SlN base w (.slice (some ⟨g, 0, none⟩) n c) N R) (hj : j < N) (hs : Lns w s.v s.l) (hz : Sized s.l) (hn : s.l ≠ [] → ∀ q, s.v.ownBlock = some q → q ≠ g) :
    SlN base (((w.setCell ⟨g, j * 3, none⟩ (.int .i64 s.y)).setCell ⟨g, j * 3 + 1, none⟩ (.int .i64 s.i)).setCell ⟨g, j * 3 + 2, none⟩ s.v) (.slice (some ⟨g, 0, none⟩) n c) N (R.set j s) := by
  obtain ⟨a9, c9, e9⟩ := h.shape
  injection e9 with _ e92 _
  subst e92
  have far : ∀ {v : Value} {l : List Wb.Ln}, Lns w v l → (l ≠ [] → ∀ q, v.ownBlock = some q → q ≠ g) → Lns (((w.setCell ⟨g, j * 3, none⟩ (.int .i64 s.y)).setCell ⟨g, j * 3 + 1, none⟩ (.int .i64 s.i)).setCell ⟨g, j * 3 + 2, none⟩ s.v) v l := fun hl hne => by
    refine lns_cells9 hl fun b k u hb hr hc => ?_
    have hbg : ¬ g = b := by
      obtain ⟨a, c, e⟩ := hl.shape
      rw [e] at hl
      obtain ⟨b9, o9, e8, _⟩ := hl.opened hr
      rw [e8] at e
      have e7 : _ = some b9 := congrArg Value.ownBlock e
      have := hne hr b9 e7
      rw [hb b9 e7]; exact fun h => this h.symm
    first
      | (simp [go_sem, hbg, hc]; done)
      | (have hbg' : ¬ b = g := fun h => hbg h.symm
         simp [go_sem, hbg', hc])
  have own := (h.1.stored (j * 3) (.int .i64 s.y)).1
  have own := (own.stored (j * 3 + 1) (.int .i64 s.i)).1
  have own := (own.stored (j * 3 + 2) s.v).1
  refine ⟨by rw [← rows_set9 s R j (by rw [h.2.1]; exact hj)]; exact own, by rw [List.length_set]; exact h.2.1, fun t ht => ?_, fun t ht hne q hq => ?_⟩
  · rcases List.mem_or_eq_of_mem_set ht with ht | rfl
    · refine ⟨far (h.2.2.1 t ht).1 fun hr q hq e => h.2.2.2 t ht hr q hq (by rw [e]; rfl), (h.2.2.1 t ht).2⟩
    · exact ⟨far hs hn, hz⟩
  · rcases List.mem_or_eq_of_mem_set ht with ht | rfl
    · exact h.2.2.2 t ht hne q hq
    · intro e; injection e with e; exact hn hne q hq e.symm
/-- what is found, or an empty one of the period -/
theorem find_con2 {w : World} {v : Value} {L : List Wb.Sl} (h : SlsS w v L) (p : Int × Int) : ∃ a n c, findV L p (SlV p.1 p.2 (.slice none 0 0)) = SlV p.1 p.2 (.slice a n c) ∧ Lns w (.slice a n c) (Wb.linesO (Wb.findS L p)) ∧ Sized (Wb.linesO (Wb.findS L p)) := by
  unfold findV
  rcases hf : Wb.findS L p with _ | s
  · exact ⟨none, 0, 0, rfl, .inl ⟨rfl, _, _, rfl⟩, by simp [Sized, Wb.linesO]⟩
  · obtain ⟨h1, h4⟩ := Wb.find_mem hf
    obtain ⟨h2, h3⟩ := h.2.1 s h1
    obtain ⟨a, c, e⟩ := h2.1.1.shape
    refine ⟨a, s.l.length, c, ?_, by rw [← e]; exact h2.1.1, h3⟩
    rw [← e, ← h4]; rfl
/-- what the reference's Add yields -/
structure IsAddR (w w' : World) (A D : List Wb.Sl) (E : Int) (v : Value) (N : Nat) (R : List Wb.Sl) : Prop where
  val : Wb.addF A D = (E, R.map Wb.ct)
  row : SlN w.heap.size w' v N R
  ext : Wb.Ext w w'
set_option maxHeartbeats 16000000 in
theorem rdeladd_any (va vd : Value) (A D : List Wb.Sl) (w : World) (hA : SlsB w va A) (hD : SlsB w vd D) (hA2 : A.length ≤ 4096 → SlsS w va A) (hD2 : D.length ≤ 4096 → SlsS w vd D) (la : A.length ≤ 9223372036854775807) (ld : D.length ≤ 9223372036854775807) :
    Calls Try.prog 25 #[va, vd] w fun e w' => ∃ v E, e = .returned (.tuple #[v, .int .i64 E]) ∧ ∃ N R, IsAddR w w' A D E v N R := by
  obtain ⟨i0, hi, hz0, hz1, hz2⟩ := info_parts infoSlip
  have HIN := Lib.hid (show Try.prog.info? 24 = some i0 ∧ i0.zero = some slZ ∧ i0.size = 3 ∧ i0.bytes = 40 from ⟨hi, hz0, hz1, hz2⟩)
  clear hi hz0 hz1 hz2
  obtain ⟨xa, ka, rfl⟩ := hA.1.shape
  obtain ⟨da, dk, rfl⟩ := hD.1.shape
  have HA := Lib.hid hA
  have HA2 := Lib.hid hA2
  have HD2 := Lib.hid hD2
  clear hA hD hA2 hD2
  go_enter Try.func25, Try.ntmps25
  go_wp2_with fail
  go_fit (rlist_any _ A _ (HA.out.ext (by (repeat' (first | (with_reducible assumption) | (with_reducible exact Wb.Ext.refl _) | (with_reducible refine Wb.Ext.drew ?_) | (with_reducible refine Wb.Ext.drewN ?_ _) | (with_reducible refine Wb.Ext.alloc ?_ _) | (with_reducible refine Wb.Ext.trans ?_ (by assumption)))))) la); rintro e w1 ⟨rfl, hb1⟩
  have hx1 : Wb.Ext w w1 := Wb.Ext.trans (by (repeat' (first | (with_reducible assumption) | (with_reducible exact Wb.Ext.refl _) | (with_reducible refine Wb.Ext.drew ?_) | (with_reducible refine Wb.Ext.drewN ?_ _) | (with_reducible refine Wb.Ext.alloc ?_ _) | (with_reducible refine Wb.Ext.trans ?_ (by assumption))))) hb1
  clear hb1
  obtain ⟨E1, hE1⟩ : ∃ E, Wb.listE A = E := ⟨_, rfl⟩
  have HE1 := Lib.hid hE1
  rw [hE1]
  clear hE1
  by_cases hz1 : E1 = 0
  case neg =>
    have d1 : (E1 != 0) = true := by simpa using hz1
    have d2 : (E1 == 0) = false := by simpa using hz1
    have HV := Lib.hid (show Wb.addF A D = (E1, [].map Wb.ct) by rw [Wb.addF, if_pos (by rw [HE1.out]; exact hz1), HE1.out]; rfl)
    clear hz1
    go_wp2
    refine bodyPost_ret (v := .tuple #[.slice none 0 0, .int .i64 E1]) (by simp [results, Try.results25, go_sem]) rfl ⟨_, _, rfl, 0, [], HV.out, SlN.nil, by (repeat' (first | (with_reducible assumption) | (with_reducible exact Wb.Ext.refl _) | (with_reducible refine Wb.Ext.drew ?_) | (with_reducible refine Wb.Ext.drewN ?_ _) | (with_reducible refine Wb.Ext.alloc ?_ _) | (with_reducible refine Wb.Ext.trans ?_ (by assumption))))⟩
  subst hz1
  by_cases hmany : 4096 < D.length
  · have d : decide ((4096 : Int) < (D.length : Int)) = true := by simp; omega
    have HV := Lib.hid (show Wb.addF A D = (5, [].map Wb.ct) by rw [Wb.addF, if_neg (by rw [HE1.out]; simp), if_pos hmany]; rfl)
    clear hmany
    go_wp2
    refine bodyPost_ret (v := .tuple #[.slice none 0 0, .int .i64 5]) (by simp [results, Try.results25, go_sem]) rfl ⟨_, _, rfl, 0, [], HV.out, SlN.nil, by (repeat' (first | (with_reducible assumption) | (with_reducible exact Wb.Ext.refl _) | (with_reducible refine Wb.Ext.drew ?_) | (with_reducible refine Wb.Ext.drewN ?_ _) | (with_reducible refine Wb.Ext.alloc ?_ _) | (with_reducible refine Wb.Ext.trans ?_ (by assumption))))⟩
  have d : decide ((4096 : Int) < (D.length : Int)) = false := by simp; omega
  have hdl : D.length ≤ 4096 := by omega
  obtain ⟨ha1, _, _⟩ := Wb.list_ok HE1.out
  have HSA9 := Lib.hid (HA2.out ha1)
  have HSD9 := Lib.hid (HD2.out hdl)
  have HSHA := Lib.hid (sls_shape8 HSA9.out.sls)
  have HSHD := Lib.hid (sls_shape8 HSD9.out.sls)
  clear HA HA2 HD2 hmany
  obtain ⟨hi, hz0, hz1, hz2⟩ := HIN.out
  have hown0 : (w1.alloc (.cells #[] 24)).ownsRow w1.heap.size 24 3 (.slice (some ⟨w1.heap.size, 0, none⟩) 0 0) 0 [] := own_empty9 (Nat.le_refl _)
  go_wp2_with (at_builtin; go_loud (refine wpList_append_row2 rfl (.tmp 22) (.tmp 23) 25 rfl w1.heap.size 24 i0 slZ 3 40 Try.underlying25 hi hz0 hz1 hz2 rfl (by decide) _ _ _ rfl hown0 _ rfl A.length (rowsOf slc A) ?c1 ?c2 ?c3 ?c4 ?c5 ?_))
  case c1 => exact HSA9.out.2.2.ext (Wb.Ext.alloc hx1 _)
  case c2 => exact slc_one (w := w) HSHA.out
  case c3 => unfold maxLen; omega
  case c4 => omega
  case c5 => simp
  intro u3 w3 ho3 hg3 _
  have hx23 : Wb.Ext w1 w3 := Wb.Ext.grown (Wb.Ext.alloc (.refl _) _) hg3 (fun q hq => by cases hq; exact Nat.le_refl _)
  obtain ⟨a3, c3, rfl⟩ := row_shape ho3
  clear hg3 hown0
  go_wp2_with (at_builtin; go_loud (refine wpList_append_row2 rfl (.tmp 24) (.tmp 25) 25 rfl w1.heap.size 24 i0 slZ 3 40 Try.underlying25 hi hz0 hz1 hz2 rfl (by decide) _ _ _ rfl ho3 _ rfl D.length (rowsOf slc D) ?c1 ?c2 ?c3 ?c4 ?c5 ?_))
  case c1 => exact HSD9.out.2.2.ext (hx1.trans hx23)
  case c2 => exact slc_one (w := w) HSHD.out
  case c3 => unfold maxLen; omega
  case c4 => omega
  case c5 => exact hx23.size
  intro u4 w4 ho4 hg4 _
  have hx24 : Wb.Ext w1 w4 := hx23.grown hg4 (fun q hq => (ho3.lt q hq).1)
  have hx4 : Wb.Ext w w4 := hx1.trans hx24
  have HT4 : Hid (Tbl 3 slc w4 u4 (A ++ D)) := Lib.hid (row_tbl (base := w1.heap.size) (n := 0 + A.length + D.length) slc_len (by decide) (by rw [rowsOf_app]; simpa using ho4))
  obtain ⟨a4, c4, rfl⟩ := HT4.out.shape
  clear hi hz0 hz1 hz2 hg4 ho3 ho4 hx23 hx24 hx1
  go_wp2_with fail
  go_fit (rheads_any (.slice a4 (A.length + D.length) c4) (A ++ D) _ (by rw [← List.length_append]; exact HT4.out.ext (by (repeat' (first | (with_reducible assumption) | (with_reducible exact Wb.Ext.refl _) | (with_reducible refine Wb.Ext.drew ?_) | (with_reducible refine Wb.Ext.drewN ?_ _) | (with_reducible refine Wb.Ext.alloc ?_ _) | (with_reducible refine Wb.Ext.trans ?_ (by assumption)))))) (by rw [List.length_append]; omega)); rintro e wp ⟨hv, rfl, hhv, hbp⟩
  obtain ⟨ha9, hc9, rfl⟩ := row_shape hhv
  have HPW0 := Lib.hid (Wb.heads_of A D).1
  obtain ⟨ps, hps⟩ : ∃ ps, Wb.headsP (A ++ D) = ps := ⟨_, rfl⟩
  rw [hps] at hhv HPW0 ⊢
  have HPW : Hid (ps.Pairwise fun a b => prLt a b = true) := HPW0
  have hpl : ps.length ≤ 20000 := by
    have := Wb.heads_len (A ++ D)
    rw [hps, List.length_append] at this; omega
  have HPS := Lib.hid hps.symm
  have HTP := Lib.hid (row_tbl (f := hdc) hdc_len (by decide) hhv)
  have HWP := Lib.hid (hx4.trans (Wb.Ext.trans (by (repeat' (first | (with_reducible assumption) | (with_reducible exact Wb.Ext.refl _) | (with_reducible refine Wb.Ext.drew ?_) | (with_reducible refine Wb.Ext.drewN ?_ _) | (with_reducible refine Wb.Ext.alloc ?_ _) | (with_reducible refine Wb.Ext.trans ?_ (by assumption))))) hbp))
  clear hhv hbp hx4 HT4 hps HPW0
  go_wp2_with fail
  go_loopw [8, 9] (fun ov iv wr => ∃ (k : Nat) (R : List Wb.Sl), k ≤ ps.length ∧ iv = .int .i64 k ∧ Hid (SlN wp.heap.size wr ov k R) ∧ Hid (R.map Wb.ct = (ps.take k).map fun p => (p.1, p.2, Wb.startS A p)) ∧ Wb.Ext wp wr) (fun _ iv _ => ps.length - (intOf iv).toNat)
  case atStart => exact ⟨0, [], Nat.zero_le _, rfl, Lib.hid SlN.nil, Lib.hid rfl, by (repeat' (first | (with_reducible assumption) | (with_reducible exact Wb.Ext.refl _) | (with_reducible refine Wb.Ext.drew ?_) | (with_reducible refine Wb.Ext.drewN ?_ _) | (with_reducible refine Wb.Ext.alloc ?_ _) | (with_reducible refine Wb.Ext.trans ?_ (by assumption))))⟩
  case round =>
    obtain ⟨k, R, hk, rfl, HR, HT, hxr⟩ := hrel
    obtain ⟨oa, oc, rfl⟩ := HR.out.shape
    by_cases hlt : k < ps.length
    case neg =>
      obtain rfl : k = ps.length := by omega
      obtain ⟨N, hN⟩ : ∃ n, ps.length = n := ⟨_, rfl⟩
      rw [hN] at HR hk hpl HTP ⊢
      have HTA := Lib.hid (show R.map Wb.ct = ps.map (fun p => (p.1, p.2, Wb.startS A p)) by rw [HT.out, List.take_length])
      have HN := Lib.hid hN
      clear hN HT HTP hk hlt
      go_wp2_with fail
      go_loopw [6, 10] (fun ev iv wr => ∃ (i : Nat) (R : List Wb.Sl) (st : Int × Int → List Wb.Ln), i ≤ D.length ∧ iv = .int .i64 i ∧ Hid (SlN wp.heap.size wr (.slice oa N oc) N R) ∧ Hid (R.map Wb.ct = ps.map fun p => (p.1, p.2, st p)) ∧ Hid (Wb.addG (Wb.startS A) D = Wb.addG st (D.drop i)) ∧ Wb.Ext wp wr) (fun _ iv _ => D.length - (intOf iv).toNat)
      case atStart => exact ⟨0, R, Wb.startS A, Nat.zero_le _, rfl, Lib.hid (HR.out.ext (by (repeat' (first | (with_reducible assumption) | (with_reducible exact Wb.Ext.refl _) | (with_reducible refine Wb.Ext.drew ?_) | (with_reducible refine Wb.Ext.drewN ?_ _) | (with_reducible refine Wb.Ext.alloc ?_ _) | (with_reducible refine Wb.Ext.trans ?_ (by assumption)))))), HTA, Lib.hid rfl, by (repeat' (first | (with_reducible assumption) | (with_reducible exact Wb.Ext.refl _) | (with_reducible refine Wb.Ext.drew ?_) | (with_reducible refine Wb.Ext.drewN ?_ _) | (with_reducible refine Wb.Ext.alloc ?_ _) | (with_reducible refine Wb.Ext.trans ?_ (by assumption))))⟩
      clear hxr HR HTA R
      case round =>
        obtain ⟨i, R, st, hi, rfl, HR, HM, HAD, hxr⟩ := hrel
        by_cases hlti : i < D.length
        case neg =>
          obtain rfl : i = D.length := by omega
          have HV := Lib.hid (show Wb.addF A D = (0, R.map Wb.ct) by
            have hg := HAD.out
            rw [List.drop_length, Wb.addG] at hg
            rw [Wb.addF, if_neg (by rw [HE1.out]; simp), if_neg (by omega), hg, if_neg (by simp), HM.out, HPS.out])
          have hxf := HWP.out.trans hxr
          go_wp2
          refine bodyPost_ret (v := .tuple #[.slice oa N oc, .int .i64 0]) (by simp [results, Try.results25, go_sem]) rfl ⟨_, _, rfl, N, R, HV.out, HR.out.mono HWP.out.size, hxf⟩
        obtain ⟨x, hx⟩ := Wb.get_ex hlti
        obtain ⟨xb, xo, rfl, hcells⟩ := (HSD9.out.1.ext HWP.out).opened (tne hlti)
        have d0 := hcells _ x hx 0 _ rfl
        have d1 := hcells _ x hx 1 _ rfl
        have d2 := hcells _ x hx 2 _ rfl
        simp only [Nat.add_zero] at d0
        obtain ⟨hlx, hzx⟩ := HSD9.out.2.1 x (List.mem_of_getElem? hx)
        obtain ⟨xa, xc, hxv⟩ := hlx.1.1.shape
        obtain ⟨xn, hxn⟩ : ∃ n, x.l.length = n := ⟨_, rfl⟩
        rw [hxn] at hxv
        rw [hxv] at d2
        have hii : (i : Int) < D.length := by omega
        have HLX := Lib.hid (show Lns w (.slice xa xn xc) x.l by rw [← hxv]; exact hlx.1.1)
        have HSX := Lib.hid hzx
        have HXM := Lib.hid (show Wb.perS x ∈ ps by rw [HPS.out]; exact Wb.heads_mem (List.mem_of_getElem? hx))
        have HDR := Lib.hid (drop_at hx)
        clear hcells hx hlx hzx hxv hxn
        have c0 := hxr.keep d0
        have c1 := hxr.keep d1
        have c2 := hxr.keep d2
        go_wp2_with fail
        go_fit (rcheck_any x.y x.i _ x.l _ (HLX.out.ext (HWP.out.trans (Wb.Ext.trans hxr (by (repeat' (first | (with_reducible assumption) | (with_reducible exact Wb.Ext.refl _) | (with_reducible refine Wb.Ext.drew ?_) | (with_reducible refine Wb.Ext.drewN ?_ _) | (with_reducible refine Wb.Ext.alloc ?_ _) | (with_reducible refine Wb.Ext.trans ?_ (by assumption)))))))) HSX.out); rintro e wc ⟨rfl, hbc⟩
        have hxc : Wb.Ext wr wc := Wb.Ext.trans (by (repeat' (first | (with_reducible assumption) | (with_reducible exact Wb.Ext.refl _) | (with_reducible refine Wb.Ext.drew ?_) | (with_reducible refine Wb.Ext.drewN ?_ _) | (with_reducible refine Wb.Ext.alloc ?_ _) | (with_reducible refine Wb.Ext.trans ?_ (by assumption))))) hbc
        clear hbc c0 c1 c2
        obtain ⟨E2, hE2⟩ : ∃ E, Wb.check x.y x.i x.l = E := ⟨_, rfl⟩
        have HCK := Lib.hid hE2
        rw [hE2]
        clear hE2
        by_cases hz2 : E2 = 0
        case neg =>
          have k1 : (E2 != 0) = true := by simpa using hz2
          have k2 : (E2 == 0) = false := by simpa using hz2
          have HV := Lib.hid (show Wb.addF A D = (E2, [].map Wb.ct) by
            have hg := HAD.out
            rw [HDR.out, Wb.add_bad (by rw [HCK.out]; exact hz2), HCK.out] at hg
            rw [Wb.addF, if_neg (by rw [HE1.out]; simp), if_neg (by omega), hg, if_pos hz2]; rfl)
          have hxz := hxr.trans hxc
          clear hz2
          go_wp2
          refine bodyPost_ret (v := .tuple #[.slice none 0 0, .int .i64 E2]) (by simp [results, Try.results25, go_sem]) rfl ⟨_, _, rfl, 0, [], HV.out, SlN.nil, HWP.out.trans (Wb.Ext.trans hxz (by (repeat' (first | (with_reducible assumption) | (with_reducible exact Wb.Ext.refl _) | (with_reducible refine Wb.Ext.drew ?_) | (with_reducible refine Wb.Ext.drewN ?_ _) | (with_reducible refine Wb.Ext.alloc ?_ _) | (with_reducible refine Wb.Ext.trans ?_ (by assumption))))))⟩
        subst hz2
        have hxpc := hxr.trans hxc
        replace HR := Lib.hid (HR.out.ext hxc)
        clear hxr hxc
        go_wp2_with fail
        go_loopw [11] (fun jv wq => ∃ (j : Nat) (R2 : List Wb.Sl) (st2 : Int × Int → List Wb.Ln), j ≤ N ∧ jv = .int .i64 j ∧ Hid (SlN wp.heap.size wq (.slice oa N oc) N R2) ∧ Hid (R2.map Wb.ct = ps.map fun p => (p.1, p.2, st2 p)) ∧ Hid (Wb.Seen ps j x st st2) ∧ Wb.Ext wp wq) (fun jv _ => N - (intOf jv).toNat)
        case atStart => exact ⟨0, R, st, Nat.zero_le _, rfl, Lib.hid (HR.out.ext (by (repeat' (first | (with_reducible assumption) | (with_reducible exact Wb.Ext.refl _) | (with_reducible refine Wb.Ext.drew ?_) | (with_reducible refine Wb.Ext.drewN ?_ _) | (with_reducible refine Wb.Ext.alloc ?_ _) | (with_reducible refine Wb.Ext.trans ?_ (by assumption)))))), HM, Lib.hid (.inl ⟨rfl, fun k p hk => absurd hk (Nat.not_lt_zero _)⟩), by (repeat' (first | (with_reducible assumption) | (with_reducible exact Wb.Ext.refl _) | (with_reducible refine Wb.Ext.drew ?_) | (with_reducible refine Wb.Ext.drewN ?_ _) | (with_reducible refine Wb.Ext.alloc ?_ _) | (with_reducible refine Wb.Ext.trans ?_ (by assumption))))⟩
        case round =>
          obtain ⟨j, R2, st2, hj, rfl, HR2, HM2, HS2, hxq⟩ := hrel
          by_cases hltj : j < N
          case neg =>
            obtain rfl : j = N := by omega
            obtain ⟨c9, hc9, he9⟩ := (show Wb.Seen ps ps.length x st st2 by rw [HN.out]; exact HS2.out).done HXM.out
            have HAD2 := Lib.hid (show Wb.addG (Wb.startS A) D = Wb.addG st2 (D.drop (i + 1)) by rw [HAD.out, HDR.out, he9]; exact Wb.add_more HCK.out hc9)
            clear hc9 he9
            go_wp2
            go_roundw
            case rel => exact ⟨i + 1, R2, st2, by omega, by go_num, Lib.hid (HR2.out.ext (by (repeat' (first | (with_reducible assumption) | (with_reducible exact Wb.Ext.refl _) | (with_reducible refine Wb.Ext.drew ?_) | (with_reducible refine Wb.Ext.drewN ?_ _) | (with_reducible refine Wb.Ext.alloc ?_ _) | (with_reducible refine Wb.Ext.trans ?_ (by assumption)))))), HM2, HAD2, by (repeat' (first | (with_reducible assumption) | (with_reducible exact Wb.Ext.refl _) | (with_reducible refine Wb.Ext.drew ?_) | (with_reducible refine Wb.Ext.drewN ?_ _) | (with_reducible refine Wb.Ext.alloc ?_ _) | (with_reducible refine Wb.Ext.trans ?_ (by assumption))))⟩
            case measure => first | (simp [intOf]; done) | (simp [intOf]; omega)
          have hlenR : R2.length = N := HR2.out.2.1
          obtain ⟨y, hy⟩ := Wb.get_ex (show j < R2.length by omega)
          have hct : Wb.ct y = (ps.map fun p => (p.1, p.2, st2 p))[j]'(by rw [List.length_map, HN.out]; exact hltj) := by
            obtain ⟨h1, h2⟩ := List.getElem?_eq_some_iff.1 hy
            have h3 := HM2.out
            have : (R2.map Wb.ct)[j]? = some (Wb.ct y) := by rw [List.getElem?_map, hy]; rfl
            rw [h3] at this
            obtain ⟨h4, h5⟩ := List.getElem?_eq_some_iff.1 this
            exact h5.symm
          obtain ⟨⟨p, q⟩, hpj⟩ := Wb.get_ex (show j < ps.length by rw [HN.out]; exact hltj)
          have hct2 : Wb.ct y = (p, q, st2 (p, q)) := by
            rw [hct, List.getElem_map]
            obtain ⟨h1, h2⟩ := List.getElem?_eq_some_iff.1 hpj
            rw [h2]
          obtain ⟨yp, yq, yv, yl⟩ := y
          obtain ⟨hyp, hyq, hyl⟩ : yp = p ∧ yq = q ∧ yl = st2 (p, q) := by
            simp only [Wb.ct, Prod.mk.injEq] at hct2; exact hct2
          subst hyp hyq hyl
          clear hct hct2
          obtain ⟨hly, hzy⟩ := HR2.out.2.2.1 _ (List.mem_of_getElem? hy)
          obtain ⟨ya, yc, hyv⟩ := hly.shape
          simp only at hyv
          subst hyv
          obtain ⟨og, oo, hoe, hcells⟩ := HR2.out.tbl.opened (tne (by omega : j < R2.length))
          have hog : oa = some ⟨og, 0, none⟩ := by
            rcases HR2.out.1.2 with ⟨h1, _⟩ | ⟨g9, _, _, h1, _⟩
            · rw [hoe] at h1; cases h1
            · injection h1 with h1; rw [hoe] at h1; injection h1 with h1; injection h1 with h1 h2; rw [hoe, h2]
          subst hog
          injection hoe with hoe
          injection hoe with _ hoe
          subst hoe
          have y0 := hcells _ _ hy 0 _ rfl
          have y1 := hcells _ _ hy 1 _ rfl
          have y2 := hcells _ _ hy 2 _ rfl
          simp only [Nat.zero_add, Nat.add_zero] at y0 y1 y2
          have hji : (j : Int) < N := by omega
          have HPJ := Lib.hid hpj
          have HLY := Lib.hid hly
          have HSY := Lib.hid hzy
          have c0 := hxq.keep d0
          have c1 := hxq.keep d1
          have c2 := hxq.keep d2
          clear hcells hy hly hzy hpj hlenR
          by_cases hy9 : yp = x.y
          case neg =>
            have k1 : (yp != x.y) = true := by simpa using hy9
            have HNE := Lib.hid (show (yp, yq) ≠ Wb.perS x from fun e => hy9 (congrArg Prod.fst e))
            clear hy9
            go_wp2_with fail
            go_quiet (fail)
            have HS9 := Lib.hid (HS2.out.other HPJ.out HNE.out)
            go_wp2
            go_roundw
            case rel => exact ⟨j + 1, R2, st2, by omega, by go_num, Lib.hid (HR2.out.ext (by (repeat' (first | (with_reducible assumption) | (with_reducible exact Wb.Ext.refl _) | (with_reducible refine Wb.Ext.drew ?_) | (with_reducible refine Wb.Ext.drewN ?_ _) | (with_reducible refine Wb.Ext.alloc ?_ _) | (with_reducible refine Wb.Ext.trans ?_ (by assumption)))))), HM2, HS9, by (repeat' (first | (with_reducible assumption) | (with_reducible exact Wb.Ext.refl _) | (with_reducible refine Wb.Ext.drew ?_) | (with_reducible refine Wb.Ext.drewN ?_ _) | (with_reducible refine Wb.Ext.alloc ?_ _) | (with_reducible refine Wb.Ext.trans ?_ (by assumption))))⟩
            case measure => first | (simp [intOf]; done) | (simp [intOf]; omega)
          by_cases hi9 : yq = x.i
          case neg =>
            have k1 : (yp != x.y) = false := by simpa using hy9
            have k2 : (yq != x.i) = true := by simpa using hi9
            have HNE := Lib.hid (show (yp, yq) ≠ Wb.perS x from fun e => hi9 (congrArg Prod.snd e))
            clear hy9 hi9
            go_wp2_with fail
            go_quiet (fail)
            have HS9 := Lib.hid (HS2.out.other HPJ.out HNE.out)
            go_wp2
            go_roundw
            case rel => exact ⟨j + 1, R2, st2, by omega, by go_num, Lib.hid (HR2.out.ext (by (repeat' (first | (with_reducible assumption) | (with_reducible exact Wb.Ext.refl _) | (with_reducible refine Wb.Ext.drew ?_) | (with_reducible refine Wb.Ext.drewN ?_ _) | (with_reducible refine Wb.Ext.alloc ?_ _) | (with_reducible refine Wb.Ext.trans ?_ (by assumption)))))), HM2, HS9, by (repeat' (first | (with_reducible assumption) | (with_reducible exact Wb.Ext.refl _) | (with_reducible refine Wb.Ext.drew ?_) | (with_reducible refine Wb.Ext.drewN ?_ _) | (with_reducible refine Wb.Ext.alloc ?_ _) | (with_reducible refine Wb.Ext.trans ?_ (by assumption))))⟩
            case measure => first | (simp [intOf]; done) | (simp [intOf]; omega)
          subst hy9 hi9
          obtain rfl : st2 = st := HS2.out.here HPW.out HPJ.out
          obtain ⟨E9, Y9, I9, l9, hmg⟩ : ∃ E Y I l, Wb.merge x.y x.i (st2 (x.y, x.i)) x.y x.i x.l = (E, Y, I, l) := ⟨_, _, _, _, rfl⟩
          have HMG := Lib.hid hmg
          obtain ⟨yn, hyn⟩ : ∃ n, (st2 (x.y, x.i)).length = n := ⟨_, rfl⟩
          have HLY : Hid (Lns wr (.slice ya yn yc) (st2 (x.y, x.i))) := by rw [← hyn]; exact HLY
          rw [hyn] at y2
          have hjN : j < N := hltj
          clear hmg hyn hltj
          go_wp2_with fail
          go_quiet (fail)
          go_upto_region 22 with (fail)
          refine Wb.wp_at fun W0 hW0 => ?_
          have hb0 : Wb.Ext wr W0 := by rw [hW0]; first | exact Wb.Ext.refl _ | (repeat' (first | (with_reducible assumption) | (with_reducible exact Wb.Ext.refl _) | (with_reducible refine Wb.Ext.drew ?_) | (with_reducible refine Wb.Ext.drewN ?_ _) | (with_reducible refine Wb.Ext.alloc ?_ _) | (with_reducible refine Wb.Ext.trans ?_ (by assumption))))
          have c0 := hb0.keep c0
          have c1 := hb0.keep c1
          have c2 := hb0.keep c2
          have y0 := hb0.keep y0
          have y1 := hb0.keep y1
          have y2 := hb0.keep y2
          have HXQ := Lib.hid hb0
          have HXP := Lib.hid (hxq.trans hb0)
          have HXW := Lib.hid (HWP.out.trans HXP.out)
          replace HLY := Lib.hid (HLY.out.ext hb0)
          clear hW0 hb0
          refine region_start (S := (fun w' => w'.cell? ⟨xb, xo + i * 3, none⟩ = some (.int .i64 x.y) ∧ w'.cell? ⟨xb, xo + i * 3 + 1, none⟩ = some (.int .i64 x.i) ∧ w'.cell? ⟨xb, xo + i * 3 + 2, none⟩ = some (.slice xa xn xc) ∧ w'.cell? ⟨og, j * 3, none⟩ = some (.int .i64 x.y) ∧ w'.cell? ⟨og, j * 3 + 1, none⟩ = some (.int .i64 x.i) ∧ w'.cell? ⟨og, j * 3 + 2, none⟩ = some (.slice ya yn yc))) (n := 15) (l := #[false, false, false, false, false, false, false, false, false, false, false, false, false, false, false]) (by kernel_rfl) ⟨c0, c1, c2, y0, y1, y2⟩ (by kernel_rfl) (by kernel_rfl) (fun hHeld => ?_)
          refine take_d (i := 0) (d := 92) (v := ?_) rfl rfl (by kernel_rfl) (by kernel_rfl) (by kernel_rfl) (fun _ _ _ h => h) (Or.inl ⟨by rfl, ?_⟩) (by assumption) ?_
          rotate_left
          · (intro w hSw; (try dsimp only at hSw); go_simp; (try with_reducible rfl))
          (try simp only [Act.put, List.setIfInBounds_toArray, List.set_cons_zero, List.set_cons_succ])
          refine take_d (i := 1) (d := 93) (v := ?_) rfl rfl (by kernel_rfl) (by kernel_rfl) (by kernel_rfl) (fun _ _ _ h => h) (Or.inl ⟨by rfl, ?_⟩) (by assumption) ?_
          rotate_left
          · (intro w hSw; (try dsimp only at hSw); go_simp; (try with_reducible rfl))
          (try simp only [Act.put, List.setIfInBounds_toArray, List.set_cons_zero, List.set_cons_succ])
          refine take_d (i := 2) (d := 94) (v := ?_) rfl rfl (by kernel_rfl) (by kernel_rfl) (by kernel_rfl) (fun _ _ _ h => h) (Or.inl ⟨by rfl, ?_⟩) (by assumption) ?_
          rotate_left
          · (intro w hSw; (try dsimp only at hSw); go_simp; (try with_reducible rfl))
          (try simp only [Act.put, List.setIfInBounds_toArray, List.set_cons_zero, List.set_cons_succ])
          refine take_d (i := 3) (d := 95) (v := ?_) rfl rfl (by kernel_rfl) (by kernel_rfl) (by kernel_rfl) (fun _ _ _ h => h) (Or.inl ⟨by rfl, ?_⟩) (by assumption) ?_
          rotate_left
          · (intro w hSw; (try dsimp only at hSw); go_simp; (try with_reducible rfl))
          (try simp only [Act.put, List.setIfInBounds_toArray, List.set_cons_zero, List.set_cons_succ])
          refine take_d (i := 4) (d := 96) (v := ?_) rfl rfl (by kernel_rfl) (by kernel_rfl) (by kernel_rfl) (fun _ _ _ h => h) (Or.inl ⟨by rfl, ?_⟩) (by assumption) ?_
          rotate_left
          · (intro w hSw; (try dsimp only at hSw); go_simp; (try with_reducible rfl))
          (try simp only [Act.put, List.setIfInBounds_toArray, List.set_cons_zero, List.set_cons_succ])
          refine take_d (i := 5) (d := 97) (v := ?_) rfl rfl (by kernel_rfl) (by kernel_rfl) (by kernel_rfl) (fun _ _ _ h => h) (Or.inl ⟨by rfl, ?_⟩) (by assumption) ?_
          rotate_left
          · (intro w hSw; (try dsimp only at hSw); go_simp; (try with_reducible rfl))
          (try simp only [Act.put, List.setIfInBounds_toArray, List.set_cons_zero, List.set_cons_succ])
          refine take_d (i := 6) (d := 98) (v := ?_) rfl rfl (by kernel_rfl) (by kernel_rfl) (by kernel_rfl) (fun _ _ _ h => h) (Or.inl ⟨by rfl, ?_⟩) (by assumption) ?_
          rotate_left
          · (intro w hSw; (try dsimp only at hSw); go_simp; (try with_reducible rfl))
          (try simp only [Act.put, List.setIfInBounds_toArray, List.set_cons_zero, List.set_cons_succ])
          refine take_d (i := 7) (d := 99) (v := ?_) rfl rfl (by kernel_rfl) (by kernel_rfl) (by kernel_rfl) (fun _ _ _ h => h) (Or.inl ⟨by rfl, ?_⟩) (by assumption) ?_
          rotate_left
          · (intro w hSw; (try dsimp only at hSw); go_simp; (try with_reducible rfl))
          (try simp only [Act.put, List.setIfInBounds_toArray, List.set_cons_zero, List.set_cons_succ])
          refine wpAnyH_ready (rs := [8, 12]) (by kernel_rfl) (by simp) ?_
          refine AllReadyH.cons (o := _) rfl (fun K hK => ?_) ?_
          · go_simp
            go_at_call 53
            go_fit (rmergef_any x.y x.i x.y x.i _ _ (st2 (x.y, x.i)) x.l _ (HLY.out.ext (.drew (.refl _))) (HLX.out.ext (HXW.out.trans (.drew (.refl _)))) HSY.out HSX.out)
            rintro e w61 ⟨m, rfl, hlm, hnew, hb61⟩
            rw [HMG.out] at hlm ⊢
            obtain ⟨ma, mc, rfl⟩ := hlm.shape
            have HLM := Lib.hid hlm
            have HNW : Hid (∀ q, (Value.slice ma l9.length mc).ownBlock = some q → W0.heap.size ≤ q) := Lib.hid (fun q hq => hnew q hq)
            have hx61 : Wb.Ext W0 w61 := Wb.Ext.trans (.drew (.refl _)) hb61
            have HBS : Hid (l9 ≠ [] → ∀ q, (Value.slice ma l9.length mc).ownBlock = some q → q < w61.heap.size) := Lib.hid (lnsn_size HLM.out)
            clear hb61 hlm hnew
            refine hK.out _ _ ⟨hx61.keep c0, hx61.keep c1, hx61.keep c2, hx61.keep y0, hx61.keep y1, hx61.keep y2⟩ (fun hHeld => ?_)
            clear hK K
            (try simp only [List.setIfInBounds_toArray, List.set_cons_zero, List.set_cons_succ])
            refine take_d (i := 9) (d := 91) (v := ?_) rfl rfl (by kernel_rfl) (by kernel_rfl) (by kernel_rfl) (fun _ _ _ h => h) (Or.inl ⟨by rfl, ?_⟩) (by assumption) ?_
            rotate_left
            · (intro w hSw; (try dsimp only at hSw); go_simp; (try with_reducible rfl))
            (try simp only [Act.put, List.setIfInBounds_toArray, List.set_cons_zero, List.set_cons_succ])
            refine take_d (i := 10) (d := 101) (v := ?_) rfl rfl (by kernel_rfl) (by kernel_rfl) (by kernel_rfl) (fun _ _ _ h => h) (Or.inl ⟨by rfl, ?_⟩) (by assumption) ?_
            rotate_left
            · (intro w hSw; (try dsimp only at hSw); go_simp; (try with_reducible rfl))
            (try simp only [Act.put, List.setIfInBounds_toArray, List.set_cons_zero, List.set_cons_succ])
            refine take_d (i := 11) (d := 102) (v := ?_) rfl rfl (by kernel_rfl) (by kernel_rfl) (by kernel_rfl) (fun _ _ _ h => h) (Or.inl ⟨by rfl, ?_⟩) (by assumption) ?_
            rotate_left
            · (intro w hSw; (try dsimp only at hSw); go_simp; (try with_reducible rfl))
            (try simp only [Act.put, List.setIfInBounds_toArray, List.set_cons_zero, List.set_cons_succ])
            refine wpAnyH_ready (rs := [12]) (by kernel_rfl) (by simp) ?_
            refine AllReadyH.cons (o := _) rfl (fun K hK => ?_) AllReadyH.nil
            go_simp
            refine atK fun w62 hw62 => ?_
            have hx62 : Wb.Ext W0 w62 := by rw [hw62]; exact Wb.Ext.alloc hx61 _
            have hp62 : W0.heap.size ≤ w61.heap.size := hx61.size
            obtain ⟨G, hG⟩ : ∃ g, w61.heap.size = g := ⟨_, rfl⟩
            have g0 : w62.cell? ⟨G, 0, none⟩ = some (.int .i64 0) := by rw [hw62, ← hG]; simp [go_sem]
            have g1 : w62.cell? ⟨G, 1, none⟩ = some (.int .i64 0) := by rw [hw62, ← hG]; simp [go_sem]
            have g2 : w62.cell? ⟨G, 2, none⟩ = some (.slice none 0 0) := by rw [hw62, ← hG]; simp [go_sem]
            have gf : ∀ j, w62.frozen? ⟨G, j, none⟩ = false := fun j => by rw [hw62, ← hG]; simp [go_sem]
            have hGl : G < w62.heap.size := by rw [hw62, ← hG]; simp
            have hG0 : W0.heap.size ≤ G := by omega
            replace HLM := Lib.hid (HLM.out.ext (show Wb.Ext w61 w62 by rw [hw62]; exact Wb.Ext.alloc (.refl _) _))
            have HGQ : Hid (l9 ≠ [] → ∀ q, (Value.slice ma l9.length mc).ownBlock = some q → q ≠ G) := Lib.hid (fun hr q hq => by have := HBS.out hr q hq; omega)
            (try rw [hG])
            clear hw62 hG
            refine hK.out _ _ ⟨hx62.keep c0, hx62.keep c1, hx62.keep c2, hx62.keep y0, hx62.keep y1, hx62.keep y2⟩ (fun hHeld => ?_)
            clear hK K
            (try simp only [List.setIfInBounds_toArray, List.set_cons_zero, List.set_cons_succ])
            refine wpAnyH_ready (rs := [13]) (by kernel_rfl) (by simp) ?_
            refine AllReadyH.cons (o := _) rfl (fun K hK => ?_) AllReadyH.nil
            go_simp
            refine atK fun w63 hw63 => ?_
            have hst := st3d (w := w62) (w' := w63) (b := G) (x := .int .i64 Y9) (y := .int .i64 I9) (z := .slice ma l9.length mc) hw63 g0 g1 g2
            obtain ⟨z0, z1, z2, zk, zf, zz, ze⟩ := hst
            have hx63 := ze W0 hG0 hx62
            replace HLM := Lib.hid (lns_cells9 HLM.out fun b k u hb hr hc => by
              have hbg : b ≠ G := by
                rcases hq : (Value.slice ma l9.length mc).ownBlock with _ | q9
                · obtain ⟨b9, o9, e9, _⟩ := HLM.out.opened hr
                  subst e9; cases hq
                · rw [hb q9 hq]; exact HGQ.out hr q9 hq
              rw [zk b k hbg]; exact hc)
            have hGl : G < w63.heap.size := by rw [zz]; exact hGl
            clear hw63 zk zf zz ze g0 g1 g2 gf
            refine hK.out _ _ ⟨hx63.keep c0, hx63.keep c1, hx63.keep c2, hx63.keep y0, hx63.keep y1, hx63.keep y2⟩ (fun hHeld => ?_)
            clear hK K
            (try simp only [List.setIfInBounds_toArray, List.set_cons_zero, List.set_cons_succ])
            refine take_d (i := 14) (d := 13) (v := ?_) rfl rfl (by kernel_rfl) (by kernel_rfl) (by kernel_rfl) (fun _ _ _ h => h) (Or.inl ⟨by rfl, ?_⟩) (by assumption) ?_
            rotate_left
            · (intro w hSw; (try dsimp only at hSw); go_simp; (try with_reducible rfl))
            (try simp only [Act.put, List.setIfInBounds_toArray, List.set_cons_zero, List.set_cons_succ])
            refine wpAnyH_done (by kernel_rfl) ?_ _
            have HXZ := Lib.hid (HXP.out.trans hx63)
            have HRZ := Lib.hid (HR2.out.ext (show Wb.Ext wr w63 from HXQ.out.trans hx63))
            have hbw : og < W0.heap.size := by have := (HR2.out.1.lt og rfl).2; have := HXQ.out.size; omega
            have HNQ : Hid (l9 ≠ [] → ∀ q, (Value.slice ma l9.length mc).ownBlock = some q → q ≠ og) := Lib.hid (fun _ q hq => by have := HNW.out q hq; omega)
            clear hbw
            by_cases hz : E9 = 0
            case neg =>
              have d1 : (E9 != 0) = true := by simpa using hz
              have d2 : (E9 == 0) = false := by simpa using hz
              have HV := Lib.hid (show Wb.addF A D = (E9, [].map Wb.ct) by
                have hg := HAD.out
                rw [HDR.out, Wb.add_ill HCK.out (show Wb.merge x.y x.i (st2 (Wb.perS x)) x.y x.i x.l = (E9, Y9, I9, l9) from HMG.out) hz] at hg
                rw [Wb.addF, if_neg (by rw [HE1.out]; simp), if_neg (by omega), hg, if_pos hz]; rfl)
              have hxz := HXZ.out
              clear hz
              go_wp2
              refine bodyPost_ret (v := .tuple #[.slice none 0 0, .int .i64 E9]) (by simp [results, Try.results25, go_sem]) rfl ⟨_, _, rfl, 0, [], HV.out, SlN.nil, HWP.out.trans hxz⟩
            subst hz
            have HYI := Lib.hid (Wb.merge_per HMG.out)
            have HSN := Lib.hid (merge_sized HMG.out HSY.out HSX.out)
            have rf : ∀ j, w63.frozen? ⟨og, j, none⟩ = false := fun j => HRZ.out.1.frozenAt j
            have y0 := hx63.keep y0
            have y1 := hx63.keep y1
            have y2 := hx63.keep y2
            go_upto_region 20 with (fail)
            refine Wb.wp_at fun W9 hW9 => ?_
            have HR9 := Lib.hid (show SlN wp.heap.size W9 (.slice (some ⟨og, 0, none⟩) N oc) N (R2.set j ⟨Y9, I9, .slice ma l9.length mc, l9⟩) by
              have := SlN.set (s := ⟨Y9, I9, .slice ma l9.length mc, l9⟩) (HRZ.out.ext (show Wb.Ext w63 w63.drew from .drew (.refl _))) hjN (HLM.out.ext (.drew (.refl _))) HSN.out HNQ.out
              first
                | (rw [hW9]; exact this)
                | (rw [hW9]; simpa using this))
            have HX9 := Lib.hid (show Wb.Ext wp W9 by
              have hog := (HR2.out.1.lt og rfl).1
              have hz := HXZ.out
              rw [hW9]; (repeat' (first | (with_reducible assumption) | (with_reducible exact Wb.Ext.refl _) | (with_reducible refine Wb.Ext.drew ?_) | (with_reducible refine Wb.Ext.drewN ?_ _) | (with_reducible refine Wb.Ext.alloc ?_ _) | (with_reducible refine Wb.ext_set ?_ (by first | assumption | (simp; done) | (simp; omega) | omega) _) | (with_reducible refine Wb.Ext.trans ?_ (by assumption)))))
            have HM9 := Lib.hid (show (R2.set j ⟨Y9, I9, .slice ma l9.length mc, l9⟩).map Wb.ct = ps.map fun p => (p.1, p.2, Wb.updS st2 (Wb.perS x) l9 p) by
              rw [List.map_set, HM2.out, HYI.out.1, HYI.out.2]
              exact Wb.set_upd HPW.out HPJ.out l9)
            have HS9 := Lib.hid (show Wb.Seen ps (j + 1) x st2 (Wb.updS st2 (Wb.perS x) l9) from .inr ⟨⟨j, by omega, HPJ.out⟩, (Y9, I9, l9), HMG.out, rfl⟩)
            clear hW9
            go_wp2
            go_roundw
            case rel => exact ⟨j + 1, R2.set j ⟨Y9, I9, .slice ma l9.length mc, l9⟩, Wb.updS st2 (Wb.perS x) l9, by omega, by go_num, HR9, HM9, HS9, HX9.out⟩
            case measure => first | (simp [intOf]; done) | (simp [intOf]; omega)
          refine AllReadyH.cons (o := _) rfl (fun K hK => ?_) ?_
          · go_simp
            refine atK fun w61 hw61 => ?_
            have hx61 : Wb.Ext W0 w61 := by rw [hw61]; exact Wb.Ext.alloc (.drew (.refl _)) _
            have hp61 : W0.heap.size ≤ W0.heap.size := Nat.le_refl _
            obtain ⟨G, hG⟩ : ∃ g, W0.heap.size = g := ⟨_, rfl⟩
            have g0 : w61.cell? ⟨G, 0, none⟩ = some (.int .i64 0) := by rw [hw61, ← hG]; simp [go_sem]
            have g1 : w61.cell? ⟨G, 1, none⟩ = some (.int .i64 0) := by rw [hw61, ← hG]; simp [go_sem]
            have g2 : w61.cell? ⟨G, 2, none⟩ = some (.slice none 0 0) := by rw [hw61, ← hG]; simp [go_sem]
            have gf : ∀ j, w61.frozen? ⟨G, j, none⟩ = false := fun j => by rw [hw61, ← hG]; simp [go_sem]
            have hGl : G < w61.heap.size := by rw [hw61, ← hG]; simp
            have hG0 : W0.heap.size ≤ G := by omega
            (try rw [hG])
            clear hw61 hG
            refine hK.out _ _ ⟨hx61.keep c0, hx61.keep c1, hx61.keep c2, hx61.keep y0, hx61.keep y1, hx61.keep y2⟩ (fun hHeld => ?_)
            clear hK K
            (try simp only [List.setIfInBounds_toArray, List.set_cons_zero, List.set_cons_succ])
            refine wpAnyH_ready (rs := [8]) (by kernel_rfl) (by simp) ?_
            refine AllReadyH.cons (o := _) rfl (fun K hK => ?_) AllReadyH.nil
            go_simp
            go_at_call 53
            go_fit (rmergef_any x.y x.i x.y x.i _ _ (st2 (x.y, x.i)) x.l _ (HLY.out.ext hx61) (HLX.out.ext (HXW.out.trans hx61)) HSY.out HSX.out)
            rintro e w62 ⟨m, rfl, hlm, hnew, hb62⟩
            rw [HMG.out] at hlm ⊢
            obtain ⟨ma, mc, rfl⟩ := hlm.shape
            have HLM := Lib.hid hlm
            have HNW : Hid (∀ q, (Value.slice ma l9.length mc).ownBlock = some q → W0.heap.size ≤ q) := Lib.hid (fun q hq => Nat.le_trans hx61.size (hnew q hq))
            have hx62 : Wb.Ext W0 w62 := Wb.Ext.trans hx61 hb62
            have HBS : Hid (l9 ≠ [] → ∀ q, (Value.slice ma l9.length mc).ownBlock = some q → q < w62.heap.size) := Lib.hid (lnsn_size HLM.out)
            have g0 := hb62.keep g0
            have g1 := hb62.keep g1
            have g2 := hb62.keep g2
            have gf : ∀ j, w62.frozen? ⟨G, j, none⟩ = false := fun j => (Below.frozen hb62 (by simpa using hGl)).trans (gf j)
            have HGQ : Hid (l9 ≠ [] → ∀ q, (Value.slice ma l9.length mc).ownBlock = some q → q ≠ G) := Lib.hid (fun _ q hq => by have := hnew q hq; omega)
            replace hGl := Nat.lt_of_lt_of_le hGl hb62.size
            clear hb62 hlm hnew
            refine hK.out _ _ ⟨hx62.keep c0, hx62.keep c1, hx62.keep c2, hx62.keep y0, hx62.keep y1, hx62.keep y2⟩ (fun hHeld => ?_)
            clear hK K
            (try simp only [List.setIfInBounds_toArray, List.set_cons_zero, List.set_cons_succ])
            refine take_d (i := 9) (d := 91) (v := ?_) rfl rfl (by kernel_rfl) (by kernel_rfl) (by kernel_rfl) (fun _ _ _ h => h) (Or.inl ⟨by rfl, ?_⟩) (by assumption) ?_
            rotate_left
            · (intro w hSw; (try dsimp only at hSw); go_simp; (try with_reducible rfl))
            (try simp only [Act.put, List.setIfInBounds_toArray, List.set_cons_zero, List.set_cons_succ])
            refine take_d (i := 10) (d := 101) (v := ?_) rfl rfl (by kernel_rfl) (by kernel_rfl) (by kernel_rfl) (fun _ _ _ h => h) (Or.inl ⟨by rfl, ?_⟩) (by assumption) ?_
            rotate_left
            · (intro w hSw; (try dsimp only at hSw); go_simp; (try with_reducible rfl))
            (try simp only [Act.put, List.setIfInBounds_toArray, List.set_cons_zero, List.set_cons_succ])
            refine take_d (i := 11) (d := 102) (v := ?_) rfl rfl (by kernel_rfl) (by kernel_rfl) (by kernel_rfl) (fun _ _ _ h => h) (Or.inl ⟨by rfl, ?_⟩) (by assumption) ?_
            rotate_left
            · (intro w hSw; (try dsimp only at hSw); go_simp; (try with_reducible rfl))
            (try simp only [Act.put, List.setIfInBounds_toArray, List.set_cons_zero, List.set_cons_succ])
            refine wpAnyH_ready (rs := [13]) (by kernel_rfl) (by simp) ?_
            refine AllReadyH.cons (o := _) rfl (fun K hK => ?_) AllReadyH.nil
            go_simp
            refine atK fun w63 hw63 => ?_
            have hst := st3d (w := w62) (w' := w63) (b := G) (x := .int .i64 Y9) (y := .int .i64 I9) (z := .slice ma l9.length mc) hw63 g0 g1 g2
            obtain ⟨z0, z1, z2, zk, zf, zz, ze⟩ := hst
            have hx63 := ze W0 hG0 hx62
            replace HLM := Lib.hid (lns_cells9 HLM.out fun b k u hb hr hc => by
              have hbg : b ≠ G := by
                rcases hq : (Value.slice ma l9.length mc).ownBlock with _ | q9
                · obtain ⟨b9, o9, e9, _⟩ := HLM.out.opened hr
                  subst e9; cases hq
                · rw [hb q9 hq]; exact HGQ.out hr q9 hq
              rw [zk b k hbg]; exact hc)
            have hGl : G < w63.heap.size := by rw [zz]; exact hGl
            clear hw63 zk zf zz ze g0 g1 g2 gf
            refine hK.out _ _ ⟨hx63.keep c0, hx63.keep c1, hx63.keep c2, hx63.keep y0, hx63.keep y1, hx63.keep y2⟩ (fun hHeld => ?_)
            clear hK K
            (try simp only [List.setIfInBounds_toArray, List.set_cons_zero, List.set_cons_succ])
            refine take_d (i := 14) (d := 13) (v := ?_) rfl rfl (by kernel_rfl) (by kernel_rfl) (by kernel_rfl) (fun _ _ _ h => h) (Or.inl ⟨by rfl, ?_⟩) (by assumption) ?_
            rotate_left
            · (intro w hSw; (try dsimp only at hSw); go_simp; (try with_reducible rfl))
            (try simp only [Act.put, List.setIfInBounds_toArray, List.set_cons_zero, List.set_cons_succ])
            refine wpAnyH_done (by kernel_rfl) ?_ _
            have HXZ := Lib.hid (HXP.out.trans hx63)
            have HRZ := Lib.hid (HR2.out.ext (show Wb.Ext wr w63 from HXQ.out.trans hx63))
            have hbw : og < W0.heap.size := by have := (HR2.out.1.lt og rfl).2; have := HXQ.out.size; omega
            have HNQ : Hid (l9 ≠ [] → ∀ q, (Value.slice ma l9.length mc).ownBlock = some q → q ≠ og) := Lib.hid (fun _ q hq => by have := HNW.out q hq; omega)
            clear hbw
            by_cases hz : E9 = 0
            case neg =>
              have d1 : (E9 != 0) = true := by simpa using hz
              have d2 : (E9 == 0) = false := by simpa using hz
              have HV := Lib.hid (show Wb.addF A D = (E9, [].map Wb.ct) by
                have hg := HAD.out
                rw [HDR.out, Wb.add_ill HCK.out (show Wb.merge x.y x.i (st2 (Wb.perS x)) x.y x.i x.l = (E9, Y9, I9, l9) from HMG.out) hz] at hg
                rw [Wb.addF, if_neg (by rw [HE1.out]; simp), if_neg (by omega), hg, if_pos hz]; rfl)
              have hxz := HXZ.out
              clear hz
              go_wp2
              refine bodyPost_ret (v := .tuple #[.slice none 0 0, .int .i64 E9]) (by simp [results, Try.results25, go_sem]) rfl ⟨_, _, rfl, 0, [], HV.out, SlN.nil, HWP.out.trans hxz⟩
            subst hz
            have HYI := Lib.hid (Wb.merge_per HMG.out)
            have HSN := Lib.hid (merge_sized HMG.out HSY.out HSX.out)
            have rf : ∀ j, w63.frozen? ⟨og, j, none⟩ = false := fun j => HRZ.out.1.frozenAt j
            have y0 := hx63.keep y0
            have y1 := hx63.keep y1
            have y2 := hx63.keep y2
            go_upto_region 20 with (fail)
            refine Wb.wp_at fun W9 hW9 => ?_
            have HR9 := Lib.hid (show SlN wp.heap.size W9 (.slice (some ⟨og, 0, none⟩) N oc) N (R2.set j ⟨Y9, I9, .slice ma l9.length mc, l9⟩) by
              have := SlN.set (s := ⟨Y9, I9, .slice ma l9.length mc, l9⟩) (HRZ.out.ext (show Wb.Ext w63 w63.drew from .drew (.refl _))) hjN (HLM.out.ext (.drew (.refl _))) HSN.out HNQ.out
              first
                | (rw [hW9]; exact this)
                | (rw [hW9]; simpa using this))
            have HX9 := Lib.hid (show Wb.Ext wp W9 by
              have hog := (HR2.out.1.lt og rfl).1
              have hz := HXZ.out
              rw [hW9]; (repeat' (first | (with_reducible assumption) | (with_reducible exact Wb.Ext.refl _) | (with_reducible refine Wb.Ext.drew ?_) | (with_reducible refine Wb.Ext.drewN ?_ _) | (with_reducible refine Wb.Ext.alloc ?_ _) | (with_reducible refine Wb.ext_set ?_ (by first | assumption | (simp; done) | (simp; omega) | omega) _) | (with_reducible refine Wb.Ext.trans ?_ (by assumption)))))
            have HM9 := Lib.hid (show (R2.set j ⟨Y9, I9, .slice ma l9.length mc, l9⟩).map Wb.ct = ps.map fun p => (p.1, p.2, Wb.updS st2 (Wb.perS x) l9 p) by
              rw [List.map_set, HM2.out, HYI.out.1, HYI.out.2]
              exact Wb.set_upd HPW.out HPJ.out l9)
            have HS9 := Lib.hid (show Wb.Seen ps (j + 1) x st2 (Wb.updS st2 (Wb.perS x) l9) from .inr ⟨⟨j, by omega, HPJ.out⟩, (Y9, I9, l9), HMG.out, rfl⟩)
            clear hW9
            go_wp2
            go_roundw
            case rel => exact ⟨j + 1, R2.set j ⟨Y9, I9, .slice ma l9.length mc, l9⟩, Wb.updS st2 (Wb.perS x) l9, by omega, by go_num, HR9, HM9, HS9, HX9.out⟩
            case measure => first | (simp [intOf]; done) | (simp [intOf]; omega)
          exact AllReadyH.nil
    obtain ⟨⟨p, q⟩, hx⟩ := Wb.get_ex hlt
    obtain ⟨hb, ho, rfl, hcells⟩ := HTP.out.opened (tne hlt)
    have e0 := hcells _ (p, q) hx 0 _ rfl
    have e1 := hcells _ (p, q) hx 1 _ rfl
    have e2 := hcells _ (p, q) hx 2 _ rfl
    simp only [Nat.add_zero] at e0
    have c0 := hxr.keep e0
    have c1 := hxr.keep e1
    have c2 := hxr.keep e2
    have hki : (k : Int) < ps.length := by omega
    have HTK := Lib.hid (show ps.take (k + 1) = ps.take k ++ [(p, q)] by
      obtain ⟨h1, h2⟩ := List.getElem?_eq_some_iff.1 hx
      rw [List.take_succ_eq_append_getElem h1, h2])
    obtain ⟨na, nn, nc, hsa, hla, hza⟩ := find_con2 HSA9.out (p, q)
    have HFA := Lib.hid hsa
    have HLA := Lib.hid hla
    have HSA := Lib.hid hza
    have HNQ : Hid (Wb.linesO (Wb.findS A (p, q)) ≠ [] → ∀ q9, (Value.slice na nn nc).ownBlock = some q9 → (Value.slice oa k oc).ownBlock ≠ some q9) := Lib.hid (fun hne q9 hq9 e => by have h8 := (HR.out.1.lt q9 e).1; have h7 := lnsn_size HLA.out hne q9 hq9; have := HWP.out.size; omega)
    clear hcells hx hsa hla hza
    go_upto_region 11 with (fail)
    refine Wb.wp_at fun W0 hW0 => ?_
    have hb0 : Wb.Ext wr W0 := by rw [hW0]; first | exact Wb.Ext.refl _ | (repeat' (first | (with_reducible assumption) | (with_reducible exact Wb.Ext.refl _) | (with_reducible refine Wb.Ext.drew ?_) | (with_reducible refine Wb.Ext.drewN ?_ _) | (with_reducible refine Wb.Ext.alloc ?_ _) | (with_reducible refine Wb.Ext.trans ?_ (by assumption))))
    have c0 := hb0.keep c0
    have c1 := hb0.keep c1
    have c2 := hb0.keep c2
    have HXR := Lib.hid hb0
    have HXP := Lib.hid (hxr.trans hb0)
    have HXW := Lib.hid (HWP.out.trans HXP.out)
    clear hW0 hb0
    refine region_start (S := (fun w' => w'.cell? ⟨hb, ho + k * 3, none⟩ = some (.int .i64 p) ∧ w'.cell? ⟨hb, ho + k * 3 + 1, none⟩ = some (.int .i64 q) ∧ w'.cell? ⟨hb, ho + k * 3 + 2, none⟩ = some (.slice none 0 0))) (n := 14) (l := #[false, false, false, false, false, false, false, false, false, false, false, false, false, false]) (by kernel_rfl) ⟨c0, c1, c2⟩ (by kernel_rfl) (by kernel_rfl) (fun hHeld => ?_)
    refine take_d (i := 0) (d := 34) (v := ?_) rfl rfl (by kernel_rfl) (by kernel_rfl) (by kernel_rfl) (fun _ _ _ h => h) (Or.inl ⟨by rfl, ?_⟩) (by assumption) ?_
    rotate_left
    · (intro w hSw; (try dsimp only at hSw); go_simp; (try with_reducible rfl))
    (try simp only [Act.put, List.setIfInBounds_toArray, List.set_cons_zero, List.set_cons_succ])
    refine take_d (i := 1) (d := 35) (v := ?_) rfl rfl (by kernel_rfl) (by kernel_rfl) (by kernel_rfl) (fun _ _ _ h => h) (Or.inl ⟨by rfl, ?_⟩) (by assumption) ?_
    rotate_left
    · (intro w hSw; (try dsimp only at hSw); go_simp; (try with_reducible rfl))
    (try simp only [Act.put, List.setIfInBounds_toArray, List.set_cons_zero, List.set_cons_succ])
    refine take_d (i := 2) (d := 36) (v := ?_) rfl rfl (by kernel_rfl) (by kernel_rfl) (by kernel_rfl) (fun _ _ _ h => h) (Or.inl ⟨by rfl, ?_⟩) (by assumption) ?_
    rotate_left
    · (intro w hSw; (try dsimp only at hSw); go_simp; (try with_reducible rfl))
    (try simp only [Act.put, List.setIfInBounds_toArray, List.set_cons_zero, List.set_cons_succ])
    refine take_d (i := 3) (d := 37) (v := ?_) rfl rfl (by kernel_rfl) (by kernel_rfl) (by kernel_rfl) (fun _ _ _ h => h) (Or.inl ⟨by rfl, ?_⟩) (by assumption) ?_
    rotate_left
    · (intro w hSw; (try dsimp only at hSw); go_simp; (try with_reducible rfl))
    (try simp only [Act.put, List.setIfInBounds_toArray, List.set_cons_zero, List.set_cons_succ])
    refine take_d (i := 4) (d := 38) (v := ?_) rfl rfl (by kernel_rfl) (by kernel_rfl) (by kernel_rfl) (fun _ _ _ h => h) (Or.inl ⟨by rfl, ?_⟩) (by assumption) ?_
    rotate_left
    · (intro w hSw; (try dsimp only at hSw); go_simp; (try with_reducible rfl))
    (try simp only [Act.put, List.setIfInBounds_toArray, List.set_cons_zero, List.set_cons_succ])
    refine take_d (i := 5) (d := 39) (v := ?_) rfl rfl (by kernel_rfl) (by kernel_rfl) (by kernel_rfl) (fun _ _ _ h => h) (Or.inl ⟨by rfl, ?_⟩) (by assumption) ?_
    rotate_left
    · (intro w hSw; (try dsimp only at hSw); go_simp; (try with_reducible rfl))
    (try simp only [Act.put, List.setIfInBounds_toArray, List.set_cons_zero, List.set_cons_succ])
    refine take_d (i := 6) (d := 40) (v := ?_) rfl rfl (by kernel_rfl) (by kernel_rfl) (by kernel_rfl) (fun _ _ _ h => h) (Or.inl ⟨by rfl, ?_⟩) (by assumption) ?_
    rotate_left
    · (intro w hSw; (try dsimp only at hSw); go_simp; (try with_reducible rfl))
    (try simp only [Act.put, List.setIfInBounds_toArray, List.set_cons_zero, List.set_cons_succ])
    refine take_d (i := 7) (d := 41) (v := ?_) rfl rfl (by kernel_rfl) (by kernel_rfl) (by kernel_rfl) (fun _ _ _ h => h) (Or.inl ⟨by rfl, ?_⟩) (by assumption) ?_
    rotate_left
    · (intro w hSw; (try dsimp only at hSw); go_simp; (try with_reducible rfl))
    (try simp only [Act.put, List.setIfInBounds_toArray, List.set_cons_zero, List.set_cons_succ])
    refine take_d (i := 8) (d := 42) (v := ?_) rfl rfl (by kernel_rfl) (by kernel_rfl) (by kernel_rfl) (fun _ _ _ h => h) (Or.inl ⟨by rfl, ?_⟩) (by assumption) ?_
    rotate_left
    · (intro w hSw; (try dsimp only at hSw); go_simp; (try with_reducible rfl))
    (try simp only [Act.put, List.setIfInBounds_toArray, List.set_cons_zero, List.set_cons_succ])
    refine take_d (i := 9) (d := 43) (v := ?_) rfl rfl (by kernel_rfl) (by kernel_rfl) (by kernel_rfl) (fun _ _ _ h => h) (Or.inl ⟨by rfl, ?_⟩) (by assumption) ?_
    rotate_left
    · (intro w hSw; (try dsimp only at hSw); go_simp; (try with_reducible rfl))
    (try simp only [Act.put, List.setIfInBounds_toArray, List.set_cons_zero, List.set_cons_succ])
    refine wpAnyH_ready (rs := [10]) (by kernel_rfl) (by simp) ?_
    refine AllReadyH.cons (o := _) rfl (fun K hK => ?_) AllReadyH.nil
    go_simp
    go_at_call 27
    go_fit (rfind_any _ A p q none 0 0 p q none 0 0 _ (HSA9.out.1.ext (HXW.out.trans (.drew (.refl _)))) HSHA.out la)
    rintro e w21 ⟨rfl, hb21⟩
    rw [HFA.out]
    have hx21 : Wb.Ext W0 w21 := Wb.Ext.trans (.drew (.refl _)) hb21
    clear hb21
    refine hK.out _ _ ⟨hx21.keep c0, hx21.keep c1, hx21.keep c2⟩ (fun hHeld => ?_)
    clear hK K
    (try simp only [List.setIfInBounds_toArray, List.set_cons_zero, List.set_cons_succ])
    refine wpAnyH_ready (rs := [11]) (by kernel_rfl) (by simp) ?_
    refine AllReadyH.cons (o := _) rfl (fun K hK => ?_) AllReadyH.nil
    go_simp
    refine atK fun w22 hw22 => ?_
    have hx22 : Wb.Ext W0 w22 := by rw [hw22]; exact Wb.Ext.alloc hx21 _
    obtain ⟨gx, gxe⟩ : ∃ g, w21.heap.size = g := ⟨_, rfl⟩
    have HLx := Lib.hid (show Wb.SrcRow w22 3 (.slice (some ⟨gx, 0, none⟩) 1 1) 1 (rowsOf slc [(⟨p, q, .slice na nn nc, Wb.linesO (Wb.findS A (p, q))⟩ : Wb.Sl)]) by rw [hw22, ← gxe]; exact src_lit w21 _ rfl (rowsOf slc [(⟨p, q, .slice na nn nc, Wb.linesO (Wb.findS A (p, q))⟩ : Wb.Sl)]) _ _)
    (try rw [gxe])
    clear hw22 gxe
    refine hK.out _ _ ⟨hx22.keep c0, hx22.keep c1, hx22.keep c2⟩ (fun hHeld => ?_)
    clear hK K
    (try simp only [List.setIfInBounds_toArray, List.set_cons_zero, List.set_cons_succ])
    refine wpAnyH_ready (rs := [12]) (by kernel_rfl) (by simp) ?_
    refine AllReadyH.cons (o := _) rfl (fun K hK => ?_) AllReadyH.nil
    obtain ⟨hi, hz0, hz1, hz2⟩ := HIN.out
    refine Wb.step_append_row (by rfl) _ _ _ (by rfl) wp.heap.size 24 i0 slZ 3 40 Try.underlying25 hi hz0 hz1 hz2 (by rfl) (by decide) _ k (rowsOf slc R) (by rfl) (row_ext3 HR.out.1 (HXR.out.trans hx22)) _ (by rfl) 1 (rowsOf slc [(⟨p, q, .slice na nn nc, Wb.linesO (Wb.findS A (p, q))⟩ : Wb.Sl)]) (HLx.out) (by intro u hu; simp [rowsOf, slc] at hu; rcases hu with rfl | rfl | rfl <;> rfl) (by unfold maxLen; omega) (by omega) (HXP.out.trans hx22).size ?_
    intro v6 w6 ho6 hg6 hat6
    have HX6 := Lib.hid (show Wb.Ext wp w6 from Wb.Ext.grown (HXP.out.trans hx22) hg6 (fun q9 hq9 => (HR.out.1.lt q9 hq9).1))
    have HR6 := Lib.hid (show SlN wp.heap.size w6 v6 (k + 1) (R ++ [(⟨p, q, .slice na nn nc, Wb.linesO (Wb.findS A (p, q))⟩ : Wb.Sl)]) from SlN.append (HR.out.ext (HXR.out.trans hx22)) ho6 hg6 hat6 (HLA.out.ext (HXW.out.trans hx22)) HSA.out HNQ.out)
    obtain ⟨oa6, oc6, rfl⟩ := HR6.out.shape
    clear hi hz0 hz1 hz2 ho6 hg6 hat6
    refine hK.out _ _ ⟨HX6.out.keep e0, HX6.out.keep e1, HX6.out.keep e2⟩ (fun hHeld => ?_)
    clear hK K
    (try simp only [List.setIfInBounds_toArray, List.set_cons_zero, List.set_cons_succ])
    refine take_d (i := 13) (d := 8) (v := ?_) rfl rfl (by kernel_rfl) (by kernel_rfl) (by kernel_rfl) (fun _ _ _ h => h) (Or.inl ⟨by rfl, ?_⟩) (by assumption) ?_
    rotate_left
    · (intro w hSw; (try dsimp only at hSw); go_simp; (try with_reducible rfl))
    (try simp only [Act.put, List.setIfInBounds_toArray, List.set_cons_zero, List.set_cons_succ])
    refine wpAnyH_done (by kernel_rfl) ?_ _
    have HTN := Lib.hid (show (R ++ [(⟨p, q, .slice na nn nc, Wb.linesO (Wb.findS A (p, q))⟩ : Wb.Sl)]).map Wb.ct = (ps.take (k + 1)).map fun p => (p.1, p.2, Wb.startS A p) by rw [HTK.out, List.map_append, List.map_append, HT.out]; rfl)
    go_wp2
    go_roundw
    case rel => exact ⟨k + 1, R ++ [(⟨p, q, .slice na nn nc, Wb.linesO (Wb.findS A (p, q))⟩ : Wb.Sl)], by omega, by go_num, HR6, HTN, HX6.out⟩
    case measure => first | (simp [intOf]; done) | (simp [intOf]; omega)

end Go.Proofs.Ytdfmlgjemfcmlaa
