/- The walk of span.walk, for each of its closures. -/
import Derived.Test.YtheofklbmknipaaSpn8
namespace Go.Proofs.Ytheofklbmknipaa
open Go.RowKit Go.Lib
set_option maxRecDepth 8000
attribute [local go_sem ↓] Go.wp_at_zero Go.wp_at_succ

theorem ends_app (a b : List Wb.Sp) : Wb.endsL (a ++ b) = Wb.endsL a ++ Wb.endsL b := by simp [Wb.endsL]
theorem ends_one (s : Wb.Sp) : Wb.endsL [s] = [s.1, s.2] := rfl
theorem ends_len (a : List Wb.Sp) : (Wb.endsL a).length = a.length * 2 := by
  induction a with
  | nil => rfl
  | cons s r ih => simp only [Wb.endsL, List.flatMap_cons, List.length_append, List.length_cons, List.length_nil] at ih ⊢; omega
theorem src_twod (w : World) (n : Nat) (hn : n = w.heap.size) (x y : Int) (T : TypeId) (c : Nat) : Wb.SrcRow (w.alloc (.cells #[.int .i64 x, .int .i64 y] T)) 1 (.slice (some ⟨n, 0, none⟩) 2 c) 2 (days [x, y]) := by
  subst hn
  refine ⟨rfl, .inr ⟨_, _, rfl, fun j u hj => ?_⟩⟩
  match j, hj with
  | 0, hj => simp at hj; subst hj; simp [go_sem, Addr.add]
  | 1, hj => simp at hj; subst hj; simp [go_sem, Addr.add]
  | j + 2, hj => simp at hj
theorem pairs_len : ∀ E : List Int, (Wb.pairsL E).length = E.length - 1
  | [] => rfl
  | [_] => rfl
  | a :: b :: r => by rw [Wb.pairsL, List.length_cons, pairs_len (b :: r)]; simp
theorem pairs_get : ∀ {E : List Int} {i : Nat} {x y : Int}, E[i]? = some x → E[i + 1]? = some y → (Wb.pairsL E)[i]? = some (x, y)
  | [], _, _, _, h, _ => by simp at h
  | [_], 0, _, _, _, h => by simp at h
  | [_], i + 1, _, _, h, _ => by simp at h
  | a :: b :: r, 0, x, y, h, k => by simp at h k; subst h; subst k; simp [Wb.pairsL]
  | a :: b :: r, i + 1, x, y, h, k => by
    rw [Wb.pairsL, List.getElem?_cons_succ]
    exact pairs_get (by simpa using h) (by simpa using k)
/-- what is kept of the first i pairs -/
def keptL (E : List Int) (kp : Int → Bool) (i : Nat) : List Wb.Sp := Wb.foldJ (((Wb.pairsL E).take i).filter fun p => kp p.1)
theorem kept_all (E : List Int) (kp : Int → Bool) : keptL E kp (E.length - 1) = Wb.walkL E kp := by
  rw [keptL, List.take_of_length_le (by rw [pairs_len]; omega), Wb.walkL]
theorem kept_succ {E : List Int} {kp : Int → Bool} {i : Nat} {x y : Int} (hx : E[i]? = some x) (hy : E[i + 1]? = some y) : keptL E kp (i + 1) = if kp x then Wb.joinL (keptL E kp i) (x, y) else keptL E kp i := by
  obtain ⟨h1, h2⟩ := List.getElem?_eq_some_iff.1 (pairs_get hx hy)
  rw [keptL, List.take_succ_eq_append_getElem h1, h2, List.filter_append]
  by_cases h : kp x = true
  · rw [if_pos h]
    rw [show [(x, y)].filter (fun p => kp p.1) = [(x, y)] by simp [h], Wb.foldJ_snoc]; rfl
  · rw [if_neg h]
    rw [show [(x, y)].filter (fun p => kp p.1) = [] by simp [h], List.append_nil]; rfl
theorem kept_len (E : List Int) (kp : Int → Bool) (i : Nat) : (keptL E kp i).length ≤ i := by
  have h1 := fold_len (((Wb.pairsL E).take i).filter fun p => kp p.1)
  have h2 := List.length_filter_le (fun p : Wb.Sp => kp p.1) ((Wb.pairsL E).take i)
  rw [List.length_take] at h2
  rw [keptL]; omega
theorem kept_bd {E : List Int} {kp : Int → Bool} {i : Nat} (h : ∀ e ∈ E, -9223372036854775808 ≤ e ∧ e ≤ 9223372036854775807) : BdL (keptL E kp i) := by
  refine fold_bd fun x hx => ?_
  obtain ⟨h1, h2⟩ := Wb.pairsL_fst (List.mem_of_mem_take (List.mem_filter.1 hx).1)
  exact ⟨h _ h1, h _ h2⟩
/-- what the walk comes to -/
theorem walk_set {a b : List Wb.Sp} {F : List Int} {keep : Bool → Bool → Bool} (hF : Wb.Up F) (hm : ∀ x, x ∈ F ↔ x ∈ Wb.endsL (a ++ b)) (h0 : keep false false = false) (ba : BdL a) (bb : BdL b) (hl : F.length ≤ (a.length + b.length) * 2) :
    IsSet (keptL F (fun d => keep (Wb.hasL a d) (Wb.hasL b d)) (F.length - 1)) (fun d => keep (Wb.hasL a d) (Wb.hasL b d) = true) ((a.length + b.length) * 2) := by
  have hk := kept_bd (E := F) (kp := fun d => keep (Wb.hasL a d) (Wb.hasL b d)) (i := F.length - 1) fun e he => by
    obtain ⟨s, hs, hse⟩ := List.mem_flatMap.1 ((hm e).1 he)
    have hb : Bd s := (List.mem_append.1 hs).elim (ba s) (bb s)
    simp at hse
    rcases hse with rfl | rfl
    · exact hb.1
    · exact hb.2
  have hln := kept_len F (fun d => keep (Wb.hasL a d) (Wb.hasL b d)) (F.length - 1)
  rw [kept_all] at hk hln ⊢
  obtain ⟨q1, q2⟩ := Wb.walkL_two (E := F) (a := a) (b := b) (keep := keep) hF
    (fun s hs _ => ⟨(hm _).2 (Wb.endsL_mem (List.mem_append_left _ hs)).1, (hm _).2 (Wb.endsL_mem (List.mem_append_left _ hs)).2⟩)
    (fun s hs _ => ⟨(hm _).2 (Wb.endsL_mem (List.mem_append_right _ hs)).1, (hm _).2 (Wb.endsL_mem (List.mem_append_right _ hs)).2⟩) h0
  exact ⟨q1, q2, hk, by omega⟩

set_option maxHeartbeats 8000000 in
theorem walk_uni (va vb : Value) (a b : List Wb.Sp) (w : World) (hva : SpL w va a) (hvb : SpL w vb b) (hca : Wb.Canon a) (hcb : Wb.Canon b) (hba : BdL a) (hbb : BdL b) (hla : a.length ≤ 10000) (hlb : b.length ≤ 10000) :
    Calls Try.prog 46 #[SetV va, SetV vb, .func (.func 49) #[] #[]] w fun e w' => ∃ v' r, e = .returned (SetV v') ∧ IsSet r (fun d => (fun p q : Bool => p || q) (Wb.hasL a d) (Wb.hasL b d) = true) ((a.length + b.length) * 2) ∧ (∃ base, w.heap.size ≤ base ∧ w'.ownsRow base 24 2 v' r.length (rowsOf spc r)) ∧ Wb.Ext w w' := by
  obtain ⟨i0, hi, hz0, hz1, hz2⟩ := info_parts infoDay
  have HIN := Lib.hid (show Try.prog.info? 22 = some i0 ∧ i0.zero = some (.int .i64 0) ∧ i0.size = 1 ∧ i0.bytes = 8 from ⟨hi, hz0, hz1, hz2⟩)
  clear hi hz0 hz1 hz2
  obtain ⟨sa, sc, rfl⟩ := hva.1.shape
  obtain ⟨ta, tc, rfl⟩ := hvb.1.shape
  have HVA0 := Lib.hid hva
  have HVB0 := Lib.hid hvb
  have HCA := Lib.hid hca
  have HCB := Lib.hid hcb
  have HBA := Lib.hid hba
  have HBB := Lib.hid hbb
  clear hva hvb hca hcb hba hbb
  go_enter Try.func46, Try.ntmps46
  go_wp2_with fail
  refine Wb.wp_at fun W0 hW0 => ?_
  have hx0 : Wb.Ext w W0 := by rw [hW0]; (repeat' (first | (with_reducible assumption) | (with_reducible exact Wb.Ext.refl _) | (with_reducible refine Wb.Ext.drew ?_) | (with_reducible refine Wb.Ext.drewN ?_ _) | (with_reducible refine Wb.Ext.alloc ?_ _) | (with_reducible refine Wb.ext_set ?_ (by first | assumption | (simp; done) | (simp; omega) | omega) _) | (with_reducible refine Wb.Ext.trans ?_ (by assumption))))
  have p0 : W0.cell? ⟨w.heap.size, 0, none⟩ = some (.slice sa a.length sc) := by rw [hW0]; simp [go_sem]
  have p1 : W0.cell? ⟨w.heap.size + 1, 0, none⟩ = some (.slice ta b.length tc) := by rw [hW0]; simp [go_sem]
  have r0 : W0.cell? ⟨w.heap.size + 1 + 1, 0, none⟩ = some (.slice none 0 0) := by rw [hW0]; simp [go_sem]
  have rf : ∀ j, W0.frozen? ⟨w.heap.size + 1 + 1, j, none⟩ = false := fun j => by rw [hW0]; simp [go_sem]
  have s0 : W0.cell? ⟨w.heap.size + 1 + 1 + 1, 0, none⟩ = some (.slice sa a.length sc) := by rw [hW0]; simp [go_sem]
  have s1 : W0.cell? ⟨w.heap.size + 1 + 1 + 1, 1, none⟩ = some (.slice ta b.length tc) := by rw [hW0]; simp [go_sem]
  have hsz : w.heap.size + 1 + 1 + 1 < W0.heap.size := by rw [hW0]; simp [go_sem]
  have HVA := Lib.hid (HVA0.out.ext hx0)
  have HVB := Lib.hid (HVB0.out.ext hx0)
  clear hW0
  go_loopw [7, 20] (fun sv iv wr => ∃ k : Nat, k ≤ 2 ∧ iv = .int .i64 k ∧ wr.ownsRow W0.heap.size 22 1 sv (Wb.endsL ((if 0 < k then a else []) ++ (if 1 < k then b else []))).length (days (Wb.endsL ((if 0 < k then a else []) ++ (if 1 < k then b else [])))) ∧ Wb.Ext W0 wr) (fun _ iv _ => 2 - (intOf iv).toNat)
  case atStart => exact ⟨0, Nat.zero_le _, rfl, own_none, .refl _⟩
  case round =>
    obtain ⟨k, hk, rfl, hown, hext⟩ := hrel
    by_cases hlt : k < 2
    · obtain ⟨P, hP⟩ : ∃ P, Wb.endsL ((if 0 < k then a else []) ++ (if 1 < k then b else [])) = P := ⟨_, rfl⟩
      obtain ⟨xa, xc, x, hsp, hxl, hc0, hE⟩ : ∃ xa xc x, SpL W0 (.slice xa x.length xc) x ∧ x.length ≤ 10000 ∧ W0.cell? ⟨w.heap.size + 1 + 1 + 1, k, none⟩ = some (.slice xa x.length xc) ∧ Wb.endsL ((if 0 < k + 1 then a else []) ++ (if 1 < k + 1 then b else [])) = P ++ Wb.endsL x := by
        have : k = 0 ∨ k = 1 := by omega
        rcases this with rfl | rfl
        · exact ⟨sa, sc, a, HVA.out, hla, s0, by rw [← hP]; simp [Wb.endsL]⟩
        · exact ⟨ta, tc, b, HVB.out, hlb, s1, by rw [← hP]; simp [Wb.endsL]⟩
      have hPl : P.length ≤ 40000 := by
        rw [← hP, ends_len, List.length_append]
        have h1 : (if 0 < k then a else []).length ≤ 10000 := by split; exact hla; exact Nat.zero_le _
        have h2 : (if 1 < k then b else []).length ≤ 10000 := by split; exact hlb; exact Nat.zero_le _
        omega
      rw [hP] at hown
      have HOW := Lib.hid hown
      obtain ⟨ea, ec, rfl⟩ := row_shape hown
      have HE := Lib.hid hE
      have HSP := Lib.hid hsp.1
      have hc0 := hext.keep hc0
      have hk2 : (k : Int) < 2 := by omega
      have HEXT := Lib.hid hext
      clear hown hP hE hsp hext
      go_wp2_with fail
      go_loopw [7, 26] (fun sv iv WQ => ∃ j : Nat, j ≤ x.length ∧ iv = .int .i64 j ∧ WQ.ownsRow W0.heap.size 22 1 sv (P ++ Wb.endsL (x.take j)).length (days (P ++ Wb.endsL (x.take j))) ∧ Wb.Ext W0 WQ) (fun _ iv _ => x.length - (intOf iv).toNat)
      case atStart => exact ⟨0, Nat.zero_le _, rfl, by simpa [Wb.endsL] using HOW.out, HEXT.out⟩
      case round =>
        obtain ⟨j, hj, rfl, hown, hext⟩ := hrel
        by_cases hjl : j < x.length
        · obtain ⟨y, hy⟩ := Wb.get_ex hjl
          obtain ⟨bb, off, rfl, hcells⟩ := (HSP.out.ext hext).opened (tne hjl)
          have c0 := hcells _ y hy 0 _ rfl
          have c1 := hcells _ y hy 1 _ rfl
          have hji : (j : Int) < x.length := by omega
          obtain ⟨Q, hQ⟩ : ∃ Q, P ++ Wb.endsL (x.take j) = Q := ⟨_, rfl⟩
          have hQl : Q.length ≤ 60000 := by rw [← hQ, List.length_append, ends_len, List.length_take]; omega
          have HQS := Lib.hid (show P ++ Wb.endsL (x.take (j + 1)) = Q ++ [y.1, y.2] by
            obtain ⟨h1, h2⟩ := List.getElem?_eq_some_iff.1 hy
            rw [List.take_succ_eq_append_getElem h1, ends_app, h2, ends_one, ← List.append_assoc, hQ])
          rw [hQ] at hown
          have HOW2 := Lib.hid hown
          obtain ⟨fa, fc, rfl⟩ := row_shape hown
          clear hcells hy hown hQ
          simp only [Nat.add_zero] at c0
          go_upto_region 8 with (fail)
          refine Wb.wp_at fun w1 hw1 => ?_
          have hx1 : Wb.Ext wr w1 := by rw [hw1]; (repeat' (first | (with_reducible assumption) | (with_reducible exact Wb.Ext.refl _) | (with_reducible refine Wb.Ext.drew ?_) | (with_reducible refine Wb.Ext.drewN ?_ _) | (with_reducible refine Wb.Ext.alloc ?_ _) | (with_reducible refine Wb.ext_set ?_ (by first | assumption | (simp; done) | (simp; omega) | omega) _) | (with_reducible refine Wb.Ext.trans ?_ (by assumption))))
          have q0 : w1.cell? ⟨wr.heap.size, 0, none⟩ = some (.int .i64 y.1) := by rw [hw1]; simp [go_sem]
          have q1 : w1.cell? ⟨wr.heap.size, 1, none⟩ = some (.int .i64 y.2) := by rw [hw1]; simp [go_sem]
          have HXR := Lib.hid (hext.trans hx1)
          have HOW3 := Lib.hid (Wb.row_ext HOW2.out hx1)
          have hs1 := HXR.out.size
          clear hw1 hext hx1
          obtain ⟨hi, hz0, hz1, hz2⟩ := HIN.out
          go_wp2_with (at_builtin; go_loud (refine Wb.wpList_append_row rfl (.tmp 30) (.tmp 35) 104 rfl W0.heap.size 22 i0 (.int .i64 0) 1 8 Try.underlying104 hi hz0 hz1 hz2 rfl (by decide) _ _ _ rfl (HOW3.out.alloc _) _ rfl 2 (days [y.1, y.2]) ?c1 ?c2 ?c3 ?c4 ?c5 ?_))
          case c1 => exact src_twod w1 _ rfl y.1 y.2 _ _
          case c2 => exact days_one _
          case c3 => unfold maxLen; omega
          case c4 => omega
          case c5 => simp; omega
          intro u2 w6 hown2 hg2 hnil2
          have hx6 : Wb.Ext W0 w6 := Wb.Ext.grown (Wb.Ext.trans HXR.out (by (repeat' (first | (with_reducible assumption) | (with_reducible exact Wb.Ext.refl _) | (with_reducible refine Wb.Ext.drew ?_) | (with_reducible refine Wb.Ext.drewN ?_ _) | (with_reducible refine Wb.Ext.alloc ?_ _) | (with_reducible refine Wb.Ext.trans ?_ (by assumption)))))) hg2 (fun n hn => (HOW3.out.lt n hn).1)
          have HG := Lib.hid hx6
          have HO := Lib.hid hown2
          clear hi hz0 hz1 hz2 hg2 hown2 hnil2 hx6
          go_wp2
          go_roundw
          case rel => exact ⟨j + 1, by omega, by go_num, by rw [HQS.out, List.length_append, show days (Q ++ [y.1, y.2]) = days Q ++ days [y.1, y.2] by simp]; exact HO.out, HG.out⟩
          case measure => simp [intOf]; omega
        · obtain rfl : j = x.length := by omega
          rw [List.take_length, ← HE.out] at hown
          have HO := Lib.hid hown
          clear hown
          go_wp2
          go_roundw
          case rel => exact ⟨k + 1, by omega, by go_num, HO.out, hext⟩
          case measure => simp [intOf]; omega
    · obtain rfl : k = 2 := by omega
      simp only [show (0 : Nat) < 2 by decide, show (1 : Nat) < 2 by decide, if_true] at hown
      obtain ⟨E, hE⟩ : ∃ E, Wb.endsL (a ++ b) = E := ⟨_, rfl⟩
      rw [hE] at hown
      have HEL := Lib.hid (show E.length = (a.length + b.length) * 2 by rw [← hE, ends_len, List.length_append])
      have hEl := HEL.out
      have hEb : E.length ≤ 40000 := by omega
      clear hEl
      obtain ⟨ea, ec, rfl⟩ := row_shape hown
      have HOW := Lib.hid hown
      have HE := Lib.hid hE
      have HEXT := Lib.hid hext
      clear hown hE hext
      go_wp2_with fail
      go_fit (sortd_any _ _ E _ HOW.out (by omega)); rintro e w2 ⟨rfl, E2, hp2, hs2, ho2, hg2⟩
      have hx2 := HEXT.out.grown hg2 (fun n hn => (HOW.out.lt n hn).1)
      have hE2l : E2.length = E.length := hp2.length_eq
      have hEl := HEL.out
      rw [← hE2l] at ho2 ⊢
      obtain ⟨F, hF⟩ : ∃ F, compact E2 = F := ⟨_, rfl⟩
      have hFl : F.length ≤ E2.length := by rw [← hF]; exact compact_length_le E2
      have HFU := Lib.hid (show Wb.Up F ∧ ∀ x, x ∈ F ↔ x ∈ Wb.endsL (a ++ b) by
        obtain ⟨u1, u2⟩ := compact_up hs2
        rw [hF] at u1 u2
        exact ⟨u1, fun x => by rw [u2, hp2.mem_iff, HE.out]⟩)
      have HO2 := Lib.hid ho2
      have HX2 := Lib.hid hx2
      have HFD := Lib.hid hF
      have hE2b : E2.length ≤ 40000 := by omega
      have HFL := Lib.hid (show F.length ≤ (a.length + b.length) * 2 by omega)
      clear hp2 hs2 ho2 hg2 hx2 hE2l hEl hF
      go_wp2_with fail
      go_fit (compactd_any _ _ _ E2 _ HO2.out (by omega)); rintro e w3 ⟨rfl, ho3, hg3⟩
      rw [HFD.out] at ho3 ⊢
      have hx3 := HX2.out.grown hg3 (fun n hn => (HO2.out.lt n hn).1)
      have HO3 := Lib.hid ho3
      have HX3 := Lib.hid hx3
      clear ho3 hg3 hx3
      obtain ⟨q, hq⟩ : ∃ q, F.length - 1 = q := ⟨_, rfl⟩
      have hmx : (if (F.length : Int) - 1 < 0 then 0 else (F.length : Int) - 1) = (q : Int) := by split <;> omega
      have hmx2 : max ((F.length : Int) - 1) 0 = (q : Int) := by omega
      go_wp2_with fail
      refine Wb.wp_at fun W6 hW6 => ?_
      have hxw : Wb.Ext W0 W6 := by rw [hW6]; exact HX3.out
      have HXW6 := Lib.hid hxw
      have HROW := Lib.hid (show W6.ownsRow W0.heap.size 22 1 (.slice ea F.length ec) F.length (days F) by rw [hW6]; exact HO3.out)
      have HS6 := Lib.hid hxw.size
      clear hW6 hxw
      go_loopw [12, 47] (fun sv iv wr => ∃ i : Nat, i ≤ q ∧ iv = .int .i64 i ∧ wr.ownsRow W6.heap.size 24 2 sv (keptL F (fun d => (fun p q : Bool => p || q) (Wb.hasL a d) (Wb.hasL b d)) i).length (rowsOf spc (keptL F (fun d => (fun p q : Bool => p || q) (Wb.hasL a d) (Wb.hasL b d)) i)) ∧ Wb.Ext W6 wr) (fun _ iv _ => q - (intOf iv).toNat)
      case atStart => exact ⟨0, Nat.zero_le _, rfl, own_none, .refl _⟩
      case round =>
        obtain ⟨i, hi', rfl, hown, hext⟩ := hrel
        by_cases hlt : i < q
        · obtain ⟨x, hx⟩ := Wb.get_ex (l := F) (k := i) (by omega)
          obtain ⟨y, hy⟩ := Wb.get_ex (l := F) (k := i + 1) (by omega)
          have hne : Value.slice ea F.length ec ≠ .slice none 0 0 := by intro e; injection e; omega
          obtain ⟨g, cap, hvv, hgb, hgl, _, hcells⟩ := Wb.ownsRow_at HROW.out hne
          cases hvv
          have cx := hcells i (.int .i64 x) (by rw [List.getElem?_map, hx]; rfl)
          have cy := hcells (i + 1) (.int .i64 y) (by rw [List.getElem?_map, hy]; rfl)
          have z2 := hext.keep cx
          have z3 := hext.keep cy
          have z0 := hext.keep (HXW6.out.keep p0)
          have z1 := hext.keep (HXW6.out.keep p1)
          obtain ⟨ka, hka⟩ : ∃ ka, Wb.hasL a x = ka := ⟨_, rfl⟩
          obtain ⟨kb, hkb⟩ : ∃ kb, Wb.hasL b x = kb := ⟨_, rfl⟩
          obtain ⟨kv, hkv⟩ : ∃ kv, (ka || kb) = kv := ⟨_, rfl⟩
          have hks := kept_succ (kp := fun d => (fun p q : Bool => p || q) (Wb.hasL a d) (Wb.hasL b d)) hx hy
          simp only [hka, hkb] at hks
          obtain ⟨RL, hRL⟩ : ∃ RL, keptL F (fun d => (fun p q : Bool => p || q) (Wb.hasL a d) (Wb.hasL b d)) i = RL := ⟨_, rfl⟩
          have hRLl : RL.length ≤ i := by rw [← hRL]; exact kept_len _ _ _
          rw [hRL] at hks hown
          have HKY := Lib.hid (show kv = true → keptL F (fun d => (fun p q : Bool => p || q) (Wb.hasL a d) (Wb.hasL b d)) (i + 1) = Wb.joinL RL (x, y) from fun h => by rw [hks, if_pos (hkv.trans h)])
          have HKN := Lib.hid (show kv = false → keptL F (fun d => (fun p q : Bool => p || q) (Wb.hasL a d) (Wb.hasL b d)) (i + 1) = RL from fun h => by rw [hks, if_neg (by rw [show (ka || kb) = kv from hkv, h]; simp)])
          have HKA := Lib.hid hka
          have HKB := Lib.hid hkb
          have HKV := Lib.hid hkv
          have HOWN := Lib.hid hown
          obtain ⟨ra, rc, rfl⟩ := row_shape hown
          have hiF : (i : Int) < F.length := by omega
          have hiF1 : (i : Int) + 1 < F.length := by omega
          have hiq : (i : Int) < q := by omega
          have hwr : IntKind.i64.wrap ((i : Int) + 1) = (i : Int) + 1 := IntWalk.i64_in _ (by omega)
          have hi0 : (0 : Int) ≤ (i : Int) + 1 := by omega
          have hi1n : ((i : Int) + 1).toNat = i + 1 := by omega
          clear hx hy hne hcells hka hkb hkv hks hRL hown
          go_upto_region 17 with (fail)
          refine Wb.wp_at fun w7 hw7 => ?_
          have hx7 : Wb.Ext wr w7 := by rw [hw7]; (repeat' (first | (with_reducible assumption) | (with_reducible exact Wb.Ext.refl _) | (with_reducible refine Wb.Ext.drew ?_) | (with_reducible refine Wb.Ext.drewN ?_ _) | (with_reducible refine Wb.Ext.alloc ?_ _) | (with_reducible refine Wb.ext_set ?_ (by first | assumption | (simp; done) | (simp; omega) | omega) _) | (with_reducible refine Wb.Ext.trans ?_ (by assumption))))
          have z0 := hx7.keep z0
          have z1 := hx7.keep z1
          have z2 := hx7.keep z2
          have z3 := hx7.keep z3
          have HRW0 := Lib.hid (Wb.row_ext HOWN.out hx7)
          have HXI := Lib.hid (hext.trans hx7)
          have HXW := Lib.hid (HXW6.out.trans HXI.out)
          clear hw7 hx7 hext
          refine wp_region_held_drew (S := (fun w' => w'.cell? ⟨w.heap.size, 0, none⟩ = some (.slice sa a.length sc) ∧ w'.cell? ⟨w.heap.size + 1, 0, none⟩ = some (.slice ta b.length tc) ∧ w'.cell? ⟨g, i, none⟩ = some (.int .i64 x))) (by kernel_rfl) ⟨z0, z1, z2⟩ (fun hHeld => ?_)
          refine take_d (i := 0) (d := 50) (v := ?_) rfl rfl (by kernel_rfl) (by kernel_rfl) (by kernel_rfl) (fun _ _ _ h => h) (Or.inl ⟨by rfl, ?_⟩) (by assumption) ?_
          rotate_left
          · (intro w hSw; (try dsimp only at hSw); go_simp; (try with_reducible rfl))
          (try simp only [Act.put, List.setIfInBounds_toArray, List.set_cons_zero, List.set_cons_succ])
          refine take_d (i := 1) (d := 51) (v := ?_) rfl rfl (by kernel_rfl) (by kernel_rfl) (by kernel_rfl) (fun _ _ _ h => h) (Or.inl ⟨by rfl, ?_⟩) (by assumption) ?_
          rotate_left
          · (intro w hSw; (try dsimp only at hSw); go_simp; (try with_reducible rfl))
          (try simp only [Act.put, List.setIfInBounds_toArray, List.set_cons_zero, List.set_cons_succ])
          refine take_d (i := 2) (d := 52) (v := ?_) rfl rfl (by kernel_rfl) (by kernel_rfl) (by kernel_rfl) (fun _ _ _ h => h) (Or.inl ⟨by rfl, ?_⟩) (by assumption) ?_
          rotate_left
          · (intro w hSw; (try dsimp only at hSw); go_simp; (try with_reducible rfl))
          (try simp only [Act.put, List.setIfInBounds_toArray, List.set_cons_zero, List.set_cons_succ])
          refine take_d (i := 3) (d := 53) (v := ?_) rfl rfl (by kernel_rfl) (by kernel_rfl) (by kernel_rfl) (fun _ _ _ h => h) (Or.inl ⟨by rfl, ?_⟩) (by assumption) ?_
          rotate_left
          · (intro w hSw; (try dsimp only at hSw); go_simp; (try with_reducible rfl))
          (try simp only [Act.put, List.setIfInBounds_toArray, List.set_cons_zero, List.set_cons_succ])
          refine take_d (i := 4) (d := 54) (v := ?_) rfl rfl (by kernel_rfl) (by kernel_rfl) (by kernel_rfl) (fun _ _ _ h => h) (Or.inl ⟨by rfl, ?_⟩) (by assumption) ?_
          rotate_left
          · (intro w hSw; (try dsimp only at hSw); go_simp; (try with_reducible rfl))
          (try simp only [Act.put, List.setIfInBounds_toArray, List.set_cons_zero, List.set_cons_succ])
          refine take_d (i := 5) (d := 55) (v := ?_) rfl rfl (by kernel_rfl) (by kernel_rfl) (by kernel_rfl) (fun _ _ _ h => h) (Or.inl ⟨by rfl, ?_⟩) (by assumption) ?_
          rotate_left
          · (intro w hSw; (try dsimp only at hSw); go_simp; (try with_reducible rfl))
          (try simp only [Act.put, List.setIfInBounds_toArray, List.set_cons_zero, List.set_cons_succ])
          refine take_d (i := 7) (d := 57) (v := ?_) rfl rfl (by kernel_rfl) (by kernel_rfl) (by kernel_rfl) (fun _ _ _ h => h) (Or.inl ⟨by rfl, ?_⟩) (by assumption) ?_
          rotate_left
          · (intro w hSw; (try dsimp only at hSw); go_simp; (try with_reducible rfl))
          (try simp only [Act.put, List.setIfInBounds_toArray, List.set_cons_zero, List.set_cons_succ])
          refine take_d (i := 8) (d := 58) (v := ?_) rfl rfl (by kernel_rfl) (by kernel_rfl) (by kernel_rfl) (fun _ _ _ h => h) (Or.inl ⟨by rfl, ?_⟩) (by assumption) ?_
          rotate_left
          · (intro w hSw; (try dsimp only at hSw); go_simp; (try with_reducible rfl))
          (try simp only [Act.put, List.setIfInBounds_toArray, List.set_cons_zero, List.set_cons_succ])
          refine take_d (i := 9) (d := 59) (v := ?_) rfl rfl (by kernel_rfl) (by kernel_rfl) (by kernel_rfl) (fun _ _ _ h => h) (Or.inl ⟨by rfl, ?_⟩) (by assumption) ?_
          rotate_left
          · (intro w hSw; (try dsimp only at hSw); go_simp; (try with_reducible rfl))
          (try simp only [Act.put, List.setIfInBounds_toArray, List.set_cons_zero, List.set_cons_succ])
          refine take_d (i := 10) (d := 60) (v := ?_) rfl rfl (by kernel_rfl) (by kernel_rfl) (by kernel_rfl) (fun _ _ _ h => h) (Or.inl ⟨by rfl, ?_⟩) (by assumption) ?_
          rotate_left
          · (intro w hSw; (try dsimp only at hSw); go_simp; (try with_reducible rfl))
          (try simp only [Act.put, List.setIfInBounds_toArray, List.set_cons_zero, List.set_cons_succ])
          refine take_d (i := 11) (d := 61) (v := ?_) rfl rfl (by kernel_rfl) (by kernel_rfl) (by kernel_rfl) (fun _ _ _ h => h) (Or.inl ⟨by rfl, ?_⟩) (by assumption) ?_
          rotate_left
          · (intro w hSw; (try dsimp only at hSw); go_simp; (try with_reducible rfl))
          (try simp only [Act.put, List.setIfInBounds_toArray, List.set_cons_zero, List.set_cons_succ])
          refine wpAnyH_ready (rs := [6]) (by kernel_rfl) (by simp) ?_
          refine AllReadyH.cons (o := _) rfl (fun K hK => ?_) ?_
          · go_simp
            go_at_call 69
            go_fit (has05_any _ a x _ ((HVA.out.ext (HXW.out.trans (by (repeat' (first | (with_reducible assumption) | (with_reducible exact Wb.Ext.refl _) | (with_reducible refine Wb.Ext.drew ?_) | (with_reducible refine Wb.Ext.drewN ?_ _) | (with_reducible refine Wb.Ext.alloc ?_ _) | (with_reducible refine Wb.Ext.trans ?_ (by assumption))))))).1) HCA.out (by omega))
            rintro e w8 ⟨rfl, hb8⟩
            rw [HKA.out]
            refine hK.out _ _ ⟨Wb.Ext.keep (w := w7) (by (repeat' (first | (with_reducible assumption) | (with_reducible exact Wb.Ext.refl _) | (with_reducible refine Wb.Ext.drew ?_) | (with_reducible refine Wb.Ext.drewN ?_ _) | (with_reducible refine Wb.Ext.alloc ?_ _) | (with_reducible refine Wb.Ext.trans ?_ (by assumption))))) z0, Wb.Ext.keep (w := w7) (by (repeat' (first | (with_reducible assumption) | (with_reducible exact Wb.Ext.refl _) | (with_reducible refine Wb.Ext.drew ?_) | (with_reducible refine Wb.Ext.drewN ?_ _) | (with_reducible refine Wb.Ext.alloc ?_ _) | (with_reducible refine Wb.Ext.trans ?_ (by assumption))))) z1, Wb.Ext.keep (w := w7) (by (repeat' (first | (with_reducible assumption) | (with_reducible exact Wb.Ext.refl _) | (with_reducible refine Wb.Ext.drew ?_) | (with_reducible refine Wb.Ext.drewN ?_ _) | (with_reducible refine Wb.Ext.alloc ?_ _) | (with_reducible refine Wb.Ext.trans ?_ (by assumption))))) z2⟩ (fun hHeld => ?_)
            clear hK K
            (try simp only [Act.put, List.setIfInBounds_toArray, List.set_cons_zero, List.set_cons_succ])
            refine wpAnyH_ready (rs := [12]) (by kernel_rfl) (by simp) ?_
            refine AllReadyH.cons (o := _) rfl (fun K hK => ?_) ?_
            · go_simp
              go_at_call 69
              go_fit (has05_any _ b x _ ((HVB.out.ext (HXW.out.trans (by (repeat' (first | (with_reducible assumption) | (with_reducible exact Wb.Ext.refl _) | (with_reducible refine Wb.Ext.drew ?_) | (with_reducible refine Wb.Ext.drewN ?_ _) | (with_reducible refine Wb.Ext.alloc ?_ _) | (with_reducible refine Wb.Ext.trans ?_ (by assumption))))))).1) HCB.out (by omega))
              rintro e w9 ⟨rfl, hb9⟩
              rw [HKB.out]
              refine hK.out _ _ ⟨Wb.Ext.keep (w := w7) (by (repeat' (first | (with_reducible assumption) | (with_reducible exact Wb.Ext.refl _) | (with_reducible refine Wb.Ext.drew ?_) | (with_reducible refine Wb.Ext.drewN ?_ _) | (with_reducible refine Wb.Ext.alloc ?_ _) | (with_reducible refine Wb.Ext.trans ?_ (by assumption))))) z0, Wb.Ext.keep (w := w7) (by (repeat' (first | (with_reducible assumption) | (with_reducible exact Wb.Ext.refl _) | (with_reducible refine Wb.Ext.drew ?_) | (with_reducible refine Wb.Ext.drewN ?_ _) | (with_reducible refine Wb.Ext.alloc ?_ _) | (with_reducible refine Wb.Ext.trans ?_ (by assumption))))) z1, Wb.Ext.keep (w := w7) (by (repeat' (first | (with_reducible assumption) | (with_reducible exact Wb.Ext.refl _) | (with_reducible refine Wb.Ext.drew ?_) | (with_reducible refine Wb.Ext.drewN ?_ _) | (with_reducible refine Wb.Ext.alloc ?_ _) | (with_reducible refine Wb.Ext.trans ?_ (by assumption))))) z2⟩ (fun hHeld => ?_)
              clear hK K
              (try simp only [Act.put, List.setIfInBounds_toArray, List.set_cons_zero, List.set_cons_succ])
              refine wpAnyH_ready (rs := [13]) (by kernel_rfl) (by simp) ?_
              refine AllReadyH.cons (o := _) rfl (fun K hK => ?_) ?_
              · go_simp
                go_at_call 49
                go_fit (uni_any ka kb _)
                rintro e w' ⟨rfl, rfl⟩
                rw [HKV.out]
                refine hK.out _ _ ⟨Wb.Ext.keep (w := w7) (by (repeat' (first | (with_reducible assumption) | (with_reducible exact Wb.Ext.refl _) | (with_reducible refine Wb.Ext.drew ?_) | (with_reducible refine Wb.Ext.drewN ?_ _) | (with_reducible refine Wb.Ext.alloc ?_ _) | (with_reducible refine Wb.Ext.trans ?_ (by assumption))))) z0, Wb.Ext.keep (w := w7) (by (repeat' (first | (with_reducible assumption) | (with_reducible exact Wb.Ext.refl _) | (with_reducible refine Wb.Ext.drew ?_) | (with_reducible refine Wb.Ext.drewN ?_ _) | (with_reducible refine Wb.Ext.alloc ?_ _) | (with_reducible refine Wb.Ext.trans ?_ (by assumption))))) z1, Wb.Ext.keep (w := w7) (by (repeat' (first | (with_reducible assumption) | (with_reducible exact Wb.Ext.refl _) | (with_reducible refine Wb.Ext.drew ?_) | (with_reducible refine Wb.Ext.drewN ?_ _) | (with_reducible refine Wb.Ext.alloc ?_ _) | (with_reducible refine Wb.Ext.trans ?_ (by assumption))))) z2⟩ (fun hHeld => ?_)
                clear hK K
                (try simp only [Act.put, List.setIfInBounds_toArray, List.set_cons_zero, List.set_cons_succ])
                refine wpAnyH_done (by kernel_rfl) ?_ _
                cases kv
                · go_wp2
                  go_roundw
                  case rel => exact ⟨i + 1, by omega, by go_num, by rw [HKN.out rfl]; exact Wb.row_ext HRW0.out (by (repeat' (first | (with_reducible assumption) | (with_reducible exact Wb.Ext.refl _) | (with_reducible refine Wb.Ext.drew ?_) | (with_reducible refine Wb.Ext.drewN ?_ _) | (with_reducible refine Wb.Ext.alloc ?_ _) | (with_reducible refine Wb.Ext.trans ?_ (by assumption))))), HXI.out.trans (by (repeat' (first | (with_reducible assumption) | (with_reducible exact Wb.Ext.refl _) | (with_reducible refine Wb.Ext.drew ?_) | (with_reducible refine Wb.Ext.drewN ?_ _) | (with_reducible refine Wb.Ext.alloc ?_ _) | (with_reducible refine Wb.Ext.trans ?_ (by assumption)))))⟩
                  case measure => simp [intOf]; omega
                · have HKS := Lib.hid (HKY.out rfl)
                  go_upto_region 18 with (fail)
                  refine Wb.wp_at fun w10 hw10 => ?_
                  have hx10 : Wb.Ext w7 w10 := by rw [hw10]; (repeat' (first | (with_reducible assumption) | (with_reducible exact Wb.Ext.refl _) | (with_reducible refine Wb.Ext.drew ?_) | (with_reducible refine Wb.Ext.drewN ?_ _) | (with_reducible refine Wb.Ext.alloc ?_ _) | (with_reducible refine Wb.Ext.trans ?_ (by assumption))))
                  have y0 := hx10.keep z2
                  have y1 := hx10.keep z3
                  have HRW := Lib.hid (Wb.row_ext HRW0.out hx10)
                  have HX6 := Lib.hid (HXI.out.trans hx10)
                  clear hw10
                  refine wp_region_held_drew (S := (fun w' => w'.cell? ⟨g, i, none⟩ = some (.int .i64 x) ∧ w'.cell? ⟨g, i + 1, none⟩ = some (.int .i64 y))) (by kernel_rfl) ⟨y0, y1⟩ (fun hHeld => ?_)
                  refine take_d (i := 0) (d := 64) (v := ?_) rfl rfl (by kernel_rfl) (by kernel_rfl) (by kernel_rfl) (fun _ _ _ h => h) (Or.inl ⟨by rfl, ?_⟩) (by assumption) ?_
                  rotate_left
                  · (intro w hSw; (try dsimp only at hSw); go_simp; (try with_reducible rfl))
                  (try simp only [Act.put, List.setIfInBounds_toArray, List.set_cons_zero, List.set_cons_succ])
                  refine take_d (i := 1) (d := 65) (v := ?_) rfl rfl (by kernel_rfl) (by kernel_rfl) (by kernel_rfl) (fun _ _ _ h => h) (Or.inl ⟨by rfl, ?_⟩) (by assumption) ?_
                  rotate_left
                  · (intro w hSw; (try dsimp only at hSw); go_simp; (try with_reducible rfl))
                  (try simp only [Act.put, List.setIfInBounds_toArray, List.set_cons_zero, List.set_cons_succ])
                  refine take_d (i := 2) (d := 66) (v := ?_) rfl rfl (by kernel_rfl) (by kernel_rfl) (by kernel_rfl) (fun _ _ _ h => h) (Or.inl ⟨by rfl, ?_⟩) (by assumption) ?_
                  rotate_left
                  · (intro w hSw; (try dsimp only at hSw); go_simp; (try with_reducible rfl))
                  (try simp only [Act.put, List.setIfInBounds_toArray, List.set_cons_zero, List.set_cons_succ])
                  refine take_d (i := 3) (d := 67) (v := ?_) rfl rfl (by kernel_rfl) (by kernel_rfl) (by kernel_rfl) (fun _ _ _ h => h) (Or.inl ⟨by rfl, ?_⟩) (by assumption) ?_
                  rotate_left
                  · (intro w hSw; (try dsimp only at hSw); go_simp; (try with_reducible rfl))
                  (try simp only [Act.put, List.setIfInBounds_toArray, List.set_cons_zero, List.set_cons_succ])
                  refine take_d (i := 4) (d := 68) (v := ?_) rfl rfl (by kernel_rfl) (by kernel_rfl) (by kernel_rfl) (fun _ _ _ h => h) (Or.inl ⟨by rfl, ?_⟩) (by assumption) ?_
                  rotate_left
                  · (intro w hSw; (try dsimp only at hSw); go_simp; (try with_reducible rfl))
                  (try simp only [Act.put, List.setIfInBounds_toArray, List.set_cons_zero, List.set_cons_succ])
                  refine take_d (i := 5) (d := 69) (v := ?_) rfl rfl (by kernel_rfl) (by kernel_rfl) (by kernel_rfl) (fun _ _ _ h => h) (Or.inl ⟨by rfl, ?_⟩) (by assumption) ?_
                  rotate_left
                  · (intro w hSw; (try dsimp only at hSw); go_simp; (try with_reducible rfl))
                  (try simp only [Act.put, List.setIfInBounds_toArray, List.set_cons_zero, List.set_cons_succ])
                  refine take_d (i := 6) (d := 70) (v := ?_) rfl rfl (by kernel_rfl) (by kernel_rfl) (by kernel_rfl) (fun _ _ _ h => h) (Or.inl ⟨by rfl, ?_⟩) (by assumption) ?_
                  rotate_left
                  · (intro w hSw; (try dsimp only at hSw); go_simp; (try with_reducible rfl))
                  (try simp only [Act.put, List.setIfInBounds_toArray, List.set_cons_zero, List.set_cons_succ])
                  refine take_d (i := 7) (d := 71) (v := ?_) rfl rfl (by kernel_rfl) (by kernel_rfl) (by kernel_rfl) (fun _ _ _ h => h) (Or.inl ⟨by rfl, ?_⟩) (by assumption) ?_
                  rotate_left
                  · (intro w hSw; (try dsimp only at hSw); go_simp; (try with_reducible rfl))
                  (try simp only [Act.put, List.setIfInBounds_toArray, List.set_cons_zero, List.set_cons_succ])
                  refine take_d (i := 8) (d := 72) (v := ?_) rfl rfl (by kernel_rfl) (by kernel_rfl) (by kernel_rfl) (fun _ _ _ h => h) (Or.inl ⟨by rfl, ?_⟩) (by assumption) ?_
                  rotate_left
                  · (intro w hSw; (try dsimp only at hSw); go_simp; (try with_reducible rfl))
                  (try simp only [Act.put, List.setIfInBounds_toArray, List.set_cons_zero, List.set_cons_succ])
                  refine take_d (i := 9) (d := 73) (v := ?_) rfl rfl (by kernel_rfl) (by kernel_rfl) (by kernel_rfl) (fun _ _ _ h => h) (Or.inl ⟨by rfl, ?_⟩) (by assumption) ?_
                  rotate_left
                  · (intro w hSw; (try dsimp only at hSw); go_simp; (try with_reducible rfl))
                  (try simp only [Act.put, List.setIfInBounds_toArray, List.set_cons_zero, List.set_cons_succ])
                  refine take_d (i := 10) (d := 74) (v := ?_) rfl rfl (by kernel_rfl) (by kernel_rfl) (by kernel_rfl) (fun _ _ _ h => h) (Or.inl ⟨by rfl, ?_⟩) (by assumption) ?_
                  rotate_left
                  · (intro w hSw; (try dsimp only at hSw); go_simp; (try with_reducible rfl))
                  (try simp only [Act.put, List.setIfInBounds_toArray, List.set_cons_zero, List.set_cons_succ])
                  refine wpAnyH_ready (rs := [11]) (by kernel_rfl) (by simp) ?_
                  refine AllReadyH.cons (o := _) rfl (fun K hK => ?_) ?_
                  · go_simp
                    go_at_call 45
                    go_fit (join_any W6.heap.size _ _ (x, y) _ (HRW.out.drew) (by have := HX6.out.size; simp; omega) (by omega))
                    rintro e w11 ⟨v3, rfl, ho3, hg3⟩
                    have hxk : Wb.Ext W6 w11 := Wb.Ext.grown (Wb.Ext.trans HX6.out (by (repeat' (first | (with_reducible assumption) | (with_reducible exact Wb.Ext.refl _) | (with_reducible refine Wb.Ext.drew ?_) | (with_reducible refine Wb.Ext.drewN ?_ _) | (with_reducible refine Wb.Ext.alloc ?_ _) | (with_reducible refine Wb.Ext.trans ?_ (by assumption)))))) hg3 (fun j hj => (HRW.out.lt j hj).1)
                    have HO3 := Lib.hid ho3
                    clear ho3 hg3
                    refine hK.out _ _ ⟨hxk.keep cx, hxk.keep cy⟩ (fun hHeld => ?_)
                    clear hK K
                    (try simp only [Act.put, List.setIfInBounds_toArray, List.set_cons_zero, List.set_cons_succ])
                    refine take_d (i := 12) (d := 12) (v := ?_) rfl rfl (by kernel_rfl) (by kernel_rfl) (by kernel_rfl) (fun _ _ _ h => h) (Or.inl ⟨by rfl, ?_⟩) (by assumption) ?_
                    rotate_left
                    · (intro w hSw; (try dsimp only at hSw); go_simp; (try with_reducible rfl))
                    (try simp only [Act.put, List.setIfInBounds_toArray, List.set_cons_zero, List.set_cons_succ])
                    refine wpAnyH_done (by kernel_rfl) ?_ _
                    have HX11 := Lib.hid hxk
                    go_wp2
                    go_roundw
                    case rel => exact ⟨i + 1, by omega, by go_num, by rw [HKS.out]; exact HO3.out, HX11.out⟩
                    case measure => simp [intOf]; omega
                  exact AllReadyH.nil
              exact AllReadyH.nil
            exact AllReadyH.nil
          exact AllReadyH.nil
        · obtain rfl : i = q := by omega
          have HSET := Lib.hid (walk_set (a := a) (b := b) (keep := (fun p q : Bool => p || q)) HFU.out.1 HFU.out.2 rfl HBA.out HBB.out HFL.out)
          rw [hq] at HSET
          have HOWN := Lib.hid hown
          obtain ⟨ra, rc, rfl⟩ := row_shape hown
          have d0 := hext.keep (HXW6.out.keep r0)
          have hs6 := HS6.out
          have g0 : wr.frozen? ⟨w.heap.size + 1 + 1, 0, none⟩ = false := (Below.frozen (HXW6.out.trans hext) (show w.heap.size + 1 + 1 < W0.heap.size by omega)).trans (rf 0)
          obtain ⟨RL, hRL⟩ : ∃ RL, keptL F (fun d => (fun p q : Bool => p || q) (Wb.hasL a d) (Wb.hasL b d)) i = RL := ⟨_, rfl⟩
          rw [hRL] at HSET HOWN ⊢
          clear hown hRL
          go_wp2
          refine bodyPost_ret (v := SetV (.slice ra RL.length rc)) (by simp [results, Try.results46, go_sem, d0]) rfl ⟨_, _, rfl, HSET.out, ⟨W6.heap.size, Nat.le_trans hx0.size hs6, Wb.row_set HOWN.out (fun j hj => ?_) _⟩, Wb.ext_set (hx0.trans (HXW6.out.trans hext)) (show w.heap.size ≤ w.heap.size + 1 + 1 by omega) _⟩
          have := (HOWN.out.lt j hj).1
          simp only
          omega

set_option maxHeartbeats 8000000 in
theorem walk_met (va vb : Value) (a b : List Wb.Sp) (w : World) (hva : SpL w va a) (hvb : SpL w vb b) (hca : Wb.Canon a) (hcb : Wb.Canon b) (hba : BdL a) (hbb : BdL b) (hla : a.length ≤ 10000) (hlb : b.length ≤ 10000) :
    Calls Try.prog 46 #[SetV va, SetV vb, .func (.func 47) #[] #[]] w fun e w' => ∃ v' r, e = .returned (SetV v') ∧ IsSet r (fun d => (fun p q : Bool => p && q) (Wb.hasL a d) (Wb.hasL b d) = true) ((a.length + b.length) * 2) ∧ (∃ base, w.heap.size ≤ base ∧ w'.ownsRow base 24 2 v' r.length (rowsOf spc r)) ∧ Wb.Ext w w' := by
  obtain ⟨i0, hi, hz0, hz1, hz2⟩ := info_parts infoDay
  have HIN := Lib.hid (show Try.prog.info? 22 = some i0 ∧ i0.zero = some (.int .i64 0) ∧ i0.size = 1 ∧ i0.bytes = 8 from ⟨hi, hz0, hz1, hz2⟩)
  clear hi hz0 hz1 hz2
  obtain ⟨sa, sc, rfl⟩ := hva.1.shape
  obtain ⟨ta, tc, rfl⟩ := hvb.1.shape
  have HVA0 := Lib.hid hva
  have HVB0 := Lib.hid hvb
  have HCA := Lib.hid hca
  have HCB := Lib.hid hcb
  have HBA := Lib.hid hba
  have HBB := Lib.hid hbb
  clear hva hvb hca hcb hba hbb
  go_enter Try.func46, Try.ntmps46
  go_wp2_with fail
  refine Wb.wp_at fun W0 hW0 => ?_
  have hx0 : Wb.Ext w W0 := by rw [hW0]; (repeat' (first | (with_reducible assumption) | (with_reducible exact Wb.Ext.refl _) | (with_reducible refine Wb.Ext.drew ?_) | (with_reducible refine Wb.Ext.drewN ?_ _) | (with_reducible refine Wb.Ext.alloc ?_ _) | (with_reducible refine Wb.ext_set ?_ (by first | assumption | (simp; done) | (simp; omega) | omega) _) | (with_reducible refine Wb.Ext.trans ?_ (by assumption))))
  have p0 : W0.cell? ⟨w.heap.size, 0, none⟩ = some (.slice sa a.length sc) := by rw [hW0]; simp [go_sem]
  have p1 : W0.cell? ⟨w.heap.size + 1, 0, none⟩ = some (.slice ta b.length tc) := by rw [hW0]; simp [go_sem]
  have r0 : W0.cell? ⟨w.heap.size + 1 + 1, 0, none⟩ = some (.slice none 0 0) := by rw [hW0]; simp [go_sem]
  have rf : ∀ j, W0.frozen? ⟨w.heap.size + 1 + 1, j, none⟩ = false := fun j => by rw [hW0]; simp [go_sem]
  have s0 : W0.cell? ⟨w.heap.size + 1 + 1 + 1, 0, none⟩ = some (.slice sa a.length sc) := by rw [hW0]; simp [go_sem]
  have s1 : W0.cell? ⟨w.heap.size + 1 + 1 + 1, 1, none⟩ = some (.slice ta b.length tc) := by rw [hW0]; simp [go_sem]
  have hsz : w.heap.size + 1 + 1 + 1 < W0.heap.size := by rw [hW0]; simp [go_sem]
  have HVA := Lib.hid (HVA0.out.ext hx0)
  have HVB := Lib.hid (HVB0.out.ext hx0)
  clear hW0
  go_loopw [7, 20] (fun sv iv wr => ∃ k : Nat, k ≤ 2 ∧ iv = .int .i64 k ∧ wr.ownsRow W0.heap.size 22 1 sv (Wb.endsL ((if 0 < k then a else []) ++ (if 1 < k then b else []))).length (days (Wb.endsL ((if 0 < k then a else []) ++ (if 1 < k then b else [])))) ∧ Wb.Ext W0 wr) (fun _ iv _ => 2 - (intOf iv).toNat)
  case atStart => exact ⟨0, Nat.zero_le _, rfl, own_none, .refl _⟩
  case round =>
    obtain ⟨k, hk, rfl, hown, hext⟩ := hrel
    by_cases hlt : k < 2
    · obtain ⟨P, hP⟩ : ∃ P, Wb.endsL ((if 0 < k then a else []) ++ (if 1 < k then b else [])) = P := ⟨_, rfl⟩
      obtain ⟨xa, xc, x, hsp, hxl, hc0, hE⟩ : ∃ xa xc x, SpL W0 (.slice xa x.length xc) x ∧ x.length ≤ 10000 ∧ W0.cell? ⟨w.heap.size + 1 + 1 + 1, k, none⟩ = some (.slice xa x.length xc) ∧ Wb.endsL ((if 0 < k + 1 then a else []) ++ (if 1 < k + 1 then b else [])) = P ++ Wb.endsL x := by
        have : k = 0 ∨ k = 1 := by omega
        rcases this with rfl | rfl
        · exact ⟨sa, sc, a, HVA.out, hla, s0, by rw [← hP]; simp [Wb.endsL]⟩
        · exact ⟨ta, tc, b, HVB.out, hlb, s1, by rw [← hP]; simp [Wb.endsL]⟩
      have hPl : P.length ≤ 40000 := by
        rw [← hP, ends_len, List.length_append]
        have h1 : (if 0 < k then a else []).length ≤ 10000 := by split; exact hla; exact Nat.zero_le _
        have h2 : (if 1 < k then b else []).length ≤ 10000 := by split; exact hlb; exact Nat.zero_le _
        omega
      rw [hP] at hown
      have HOW := Lib.hid hown
      obtain ⟨ea, ec, rfl⟩ := row_shape hown
      have HE := Lib.hid hE
      have HSP := Lib.hid hsp.1
      have hc0 := hext.keep hc0
      have hk2 : (k : Int) < 2 := by omega
      have HEXT := Lib.hid hext
      clear hown hP hE hsp hext
      go_wp2_with fail
      go_loopw [7, 26] (fun sv iv WQ => ∃ j : Nat, j ≤ x.length ∧ iv = .int .i64 j ∧ WQ.ownsRow W0.heap.size 22 1 sv (P ++ Wb.endsL (x.take j)).length (days (P ++ Wb.endsL (x.take j))) ∧ Wb.Ext W0 WQ) (fun _ iv _ => x.length - (intOf iv).toNat)
      case atStart => exact ⟨0, Nat.zero_le _, rfl, by simpa [Wb.endsL] using HOW.out, HEXT.out⟩
      case round =>
        obtain ⟨j, hj, rfl, hown, hext⟩ := hrel
        by_cases hjl : j < x.length
        · obtain ⟨y, hy⟩ := Wb.get_ex hjl
          obtain ⟨bb, off, rfl, hcells⟩ := (HSP.out.ext hext).opened (tne hjl)
          have c0 := hcells _ y hy 0 _ rfl
          have c1 := hcells _ y hy 1 _ rfl
          have hji : (j : Int) < x.length := by omega
          obtain ⟨Q, hQ⟩ : ∃ Q, P ++ Wb.endsL (x.take j) = Q := ⟨_, rfl⟩
          have hQl : Q.length ≤ 60000 := by rw [← hQ, List.length_append, ends_len, List.length_take]; omega
          have HQS := Lib.hid (show P ++ Wb.endsL (x.take (j + 1)) = Q ++ [y.1, y.2] by
            obtain ⟨h1, h2⟩ := List.getElem?_eq_some_iff.1 hy
            rw [List.take_succ_eq_append_getElem h1, ends_app, h2, ends_one, ← List.append_assoc, hQ])
          rw [hQ] at hown
          have HOW2 := Lib.hid hown
          obtain ⟨fa, fc, rfl⟩ := row_shape hown
          clear hcells hy hown hQ
          simp only [Nat.add_zero] at c0
          go_upto_region 8 with (fail)
          refine Wb.wp_at fun w1 hw1 => ?_
          have hx1 : Wb.Ext wr w1 := by rw [hw1]; (repeat' (first | (with_reducible assumption) | (with_reducible exact Wb.Ext.refl _) | (with_reducible refine Wb.Ext.drew ?_) | (with_reducible refine Wb.Ext.drewN ?_ _) | (with_reducible refine Wb.Ext.alloc ?_ _) | (with_reducible refine Wb.ext_set ?_ (by first | assumption | (simp; done) | (simp; omega) | omega) _) | (with_reducible refine Wb.Ext.trans ?_ (by assumption))))
          have q0 : w1.cell? ⟨wr.heap.size, 0, none⟩ = some (.int .i64 y.1) := by rw [hw1]; simp [go_sem]
          have q1 : w1.cell? ⟨wr.heap.size, 1, none⟩ = some (.int .i64 y.2) := by rw [hw1]; simp [go_sem]
          have HXR := Lib.hid (hext.trans hx1)
          have HOW3 := Lib.hid (Wb.row_ext HOW2.out hx1)
          have hs1 := HXR.out.size
          clear hw1 hext hx1
          obtain ⟨hi, hz0, hz1, hz2⟩ := HIN.out
          go_wp2_with (at_builtin; go_loud (refine Wb.wpList_append_row rfl (.tmp 30) (.tmp 35) 104 rfl W0.heap.size 22 i0 (.int .i64 0) 1 8 Try.underlying104 hi hz0 hz1 hz2 rfl (by decide) _ _ _ rfl (HOW3.out.alloc _) _ rfl 2 (days [y.1, y.2]) ?c1 ?c2 ?c3 ?c4 ?c5 ?_))
          case c1 => exact src_twod w1 _ rfl y.1 y.2 _ _
          case c2 => exact days_one _
          case c3 => unfold maxLen; omega
          case c4 => omega
          case c5 => simp; omega
          intro u2 w6 hown2 hg2 hnil2
          have hx6 : Wb.Ext W0 w6 := Wb.Ext.grown (Wb.Ext.trans HXR.out (by (repeat' (first | (with_reducible assumption) | (with_reducible exact Wb.Ext.refl _) | (with_reducible refine Wb.Ext.drew ?_) | (with_reducible refine Wb.Ext.drewN ?_ _) | (with_reducible refine Wb.Ext.alloc ?_ _) | (with_reducible refine Wb.Ext.trans ?_ (by assumption)))))) hg2 (fun n hn => (HOW3.out.lt n hn).1)
          have HG := Lib.hid hx6
          have HO := Lib.hid hown2
          clear hi hz0 hz1 hz2 hg2 hown2 hnil2 hx6
          go_wp2
          go_roundw
          case rel => exact ⟨j + 1, by omega, by go_num, by rw [HQS.out, List.length_append, show days (Q ++ [y.1, y.2]) = days Q ++ days [y.1, y.2] by simp]; exact HO.out, HG.out⟩
          case measure => simp [intOf]; omega
        · obtain rfl : j = x.length := by omega
          rw [List.take_length, ← HE.out] at hown
          have HO := Lib.hid hown
          clear hown
          go_wp2
          go_roundw
          case rel => exact ⟨k + 1, by omega, by go_num, HO.out, hext⟩
          case measure => simp [intOf]; omega
    · obtain rfl : k = 2 := by omega
      simp only [show (0 : Nat) < 2 by decide, show (1 : Nat) < 2 by decide, if_true] at hown
      obtain ⟨E, hE⟩ : ∃ E, Wb.endsL (a ++ b) = E := ⟨_, rfl⟩
      rw [hE] at hown
      have HEL := Lib.hid (show E.length = (a.length + b.length) * 2 by rw [← hE, ends_len, List.length_append])
      have hEl := HEL.out
      have hEb : E.length ≤ 40000 := by omega
      clear hEl
      obtain ⟨ea, ec, rfl⟩ := row_shape hown
      have HOW := Lib.hid hown
      have HE := Lib.hid hE
      have HEXT := Lib.hid hext
      clear hown hE hext
      go_wp2_with fail
      go_fit (sortd_any _ _ E _ HOW.out (by omega)); rintro e w2 ⟨rfl, E2, hp2, hs2, ho2, hg2⟩
      have hx2 := HEXT.out.grown hg2 (fun n hn => (HOW.out.lt n hn).1)
      have hE2l : E2.length = E.length := hp2.length_eq
      have hEl := HEL.out
      rw [← hE2l] at ho2 ⊢
      obtain ⟨F, hF⟩ : ∃ F, compact E2 = F := ⟨_, rfl⟩
      have hFl : F.length ≤ E2.length := by rw [← hF]; exact compact_length_le E2
      have HFU := Lib.hid (show Wb.Up F ∧ ∀ x, x ∈ F ↔ x ∈ Wb.endsL (a ++ b) by
        obtain ⟨u1, u2⟩ := compact_up hs2
        rw [hF] at u1 u2
        exact ⟨u1, fun x => by rw [u2, hp2.mem_iff, HE.out]⟩)
      have HO2 := Lib.hid ho2
      have HX2 := Lib.hid hx2
      have HFD := Lib.hid hF
      have hE2b : E2.length ≤ 40000 := by omega
      have HFL := Lib.hid (show F.length ≤ (a.length + b.length) * 2 by omega)
      clear hp2 hs2 ho2 hg2 hx2 hE2l hEl hF
      go_wp2_with fail
      go_fit (compactd_any _ _ _ E2 _ HO2.out (by omega)); rintro e w3 ⟨rfl, ho3, hg3⟩
      rw [HFD.out] at ho3 ⊢
      have hx3 := HX2.out.grown hg3 (fun n hn => (HO2.out.lt n hn).1)
      have HO3 := Lib.hid ho3
      have HX3 := Lib.hid hx3
      clear ho3 hg3 hx3
      obtain ⟨q, hq⟩ : ∃ q, F.length - 1 = q := ⟨_, rfl⟩
      have hmx : (if (F.length : Int) - 1 < 0 then 0 else (F.length : Int) - 1) = (q : Int) := by split <;> omega
      have hmx2 : max ((F.length : Int) - 1) 0 = (q : Int) := by omega
      go_wp2_with fail
      refine Wb.wp_at fun W6 hW6 => ?_
      have hxw : Wb.Ext W0 W6 := by rw [hW6]; exact HX3.out
      have HXW6 := Lib.hid hxw
      have HROW := Lib.hid (show W6.ownsRow W0.heap.size 22 1 (.slice ea F.length ec) F.length (days F) by rw [hW6]; exact HO3.out)
      have HS6 := Lib.hid hxw.size
      clear hW6 hxw
      go_loopw [12, 47] (fun sv iv wr => ∃ i : Nat, i ≤ q ∧ iv = .int .i64 i ∧ wr.ownsRow W6.heap.size 24 2 sv (keptL F (fun d => (fun p q : Bool => p && q) (Wb.hasL a d) (Wb.hasL b d)) i).length (rowsOf spc (keptL F (fun d => (fun p q : Bool => p && q) (Wb.hasL a d) (Wb.hasL b d)) i)) ∧ Wb.Ext W6 wr) (fun _ iv _ => q - (intOf iv).toNat)
      case atStart => exact ⟨0, Nat.zero_le _, rfl, own_none, .refl _⟩
      case round =>
        obtain ⟨i, hi', rfl, hown, hext⟩ := hrel
        by_cases hlt : i < q
        · obtain ⟨x, hx⟩ := Wb.get_ex (l := F) (k := i) (by omega)
          obtain ⟨y, hy⟩ := Wb.get_ex (l := F) (k := i + 1) (by omega)
          have hne : Value.slice ea F.length ec ≠ .slice none 0 0 := by intro e; injection e; omega
          obtain ⟨g, cap, hvv, hgb, hgl, _, hcells⟩ := Wb.ownsRow_at HROW.out hne
          cases hvv
          have cx := hcells i (.int .i64 x) (by rw [List.getElem?_map, hx]; rfl)
          have cy := hcells (i + 1) (.int .i64 y) (by rw [List.getElem?_map, hy]; rfl)
          have z2 := hext.keep cx
          have z3 := hext.keep cy
          have z0 := hext.keep (HXW6.out.keep p0)
          have z1 := hext.keep (HXW6.out.keep p1)
          obtain ⟨ka, hka⟩ : ∃ ka, Wb.hasL a x = ka := ⟨_, rfl⟩
          obtain ⟨kb, hkb⟩ : ∃ kb, Wb.hasL b x = kb := ⟨_, rfl⟩
          obtain ⟨kv, hkv⟩ : ∃ kv, (ka && kb) = kv := ⟨_, rfl⟩
          have hks := kept_succ (kp := fun d => (fun p q : Bool => p && q) (Wb.hasL a d) (Wb.hasL b d)) hx hy
          simp only [hka, hkb] at hks
          obtain ⟨RL, hRL⟩ : ∃ RL, keptL F (fun d => (fun p q : Bool => p && q) (Wb.hasL a d) (Wb.hasL b d)) i = RL := ⟨_, rfl⟩
          have hRLl : RL.length ≤ i := by rw [← hRL]; exact kept_len _ _ _
          rw [hRL] at hks hown
          have HKY := Lib.hid (show kv = true → keptL F (fun d => (fun p q : Bool => p && q) (Wb.hasL a d) (Wb.hasL b d)) (i + 1) = Wb.joinL RL (x, y) from fun h => by rw [hks, if_pos (hkv.trans h)])
          have HKN := Lib.hid (show kv = false → keptL F (fun d => (fun p q : Bool => p && q) (Wb.hasL a d) (Wb.hasL b d)) (i + 1) = RL from fun h => by rw [hks, if_neg (by rw [show (ka && kb) = kv from hkv, h]; simp)])
          have HKA := Lib.hid hka
          have HKB := Lib.hid hkb
          have HKV := Lib.hid hkv
          have HOWN := Lib.hid hown
          obtain ⟨ra, rc, rfl⟩ := row_shape hown
          have hiF : (i : Int) < F.length := by omega
          have hiF1 : (i : Int) + 1 < F.length := by omega
          have hiq : (i : Int) < q := by omega
          have hwr : IntKind.i64.wrap ((i : Int) + 1) = (i : Int) + 1 := IntWalk.i64_in _ (by omega)
          have hi0 : (0 : Int) ≤ (i : Int) + 1 := by omega
          have hi1n : ((i : Int) + 1).toNat = i + 1 := by omega
          clear hx hy hne hcells hka hkb hkv hks hRL hown
          go_upto_region 17 with (fail)
          refine Wb.wp_at fun w7 hw7 => ?_
          have hx7 : Wb.Ext wr w7 := by rw [hw7]; (repeat' (first | (with_reducible assumption) | (with_reducible exact Wb.Ext.refl _) | (with_reducible refine Wb.Ext.drew ?_) | (with_reducible refine Wb.Ext.drewN ?_ _) | (with_reducible refine Wb.Ext.alloc ?_ _) | (with_reducible refine Wb.ext_set ?_ (by first | assumption | (simp; done) | (simp; omega) | omega) _) | (with_reducible refine Wb.Ext.trans ?_ (by assumption))))
          have z0 := hx7.keep z0
          have z1 := hx7.keep z1
          have z2 := hx7.keep z2
          have z3 := hx7.keep z3
          have HRW0 := Lib.hid (Wb.row_ext HOWN.out hx7)
          have HXI := Lib.hid (hext.trans hx7)
          have HXW := Lib.hid (HXW6.out.trans HXI.out)
          clear hw7 hx7 hext
          refine wp_region_held_drew (S := (fun w' => w'.cell? ⟨w.heap.size, 0, none⟩ = some (.slice sa a.length sc) ∧ w'.cell? ⟨w.heap.size + 1, 0, none⟩ = some (.slice ta b.length tc) ∧ w'.cell? ⟨g, i, none⟩ = some (.int .i64 x))) (by kernel_rfl) ⟨z0, z1, z2⟩ (fun hHeld => ?_)
          refine take_d (i := 0) (d := 50) (v := ?_) rfl rfl (by kernel_rfl) (by kernel_rfl) (by kernel_rfl) (fun _ _ _ h => h) (Or.inl ⟨by rfl, ?_⟩) (by assumption) ?_
          rotate_left
          · (intro w hSw; (try dsimp only at hSw); go_simp; (try with_reducible rfl))
          (try simp only [Act.put, List.setIfInBounds_toArray, List.set_cons_zero, List.set_cons_succ])
          refine take_d (i := 1) (d := 51) (v := ?_) rfl rfl (by kernel_rfl) (by kernel_rfl) (by kernel_rfl) (fun _ _ _ h => h) (Or.inl ⟨by rfl, ?_⟩) (by assumption) ?_
          rotate_left
          · (intro w hSw; (try dsimp only at hSw); go_simp; (try with_reducible rfl))
          (try simp only [Act.put, List.setIfInBounds_toArray, List.set_cons_zero, List.set_cons_succ])
          refine take_d (i := 2) (d := 52) (v := ?_) rfl rfl (by kernel_rfl) (by kernel_rfl) (by kernel_rfl) (fun _ _ _ h => h) (Or.inl ⟨by rfl, ?_⟩) (by assumption) ?_
          rotate_left
          · (intro w hSw; (try dsimp only at hSw); go_simp; (try with_reducible rfl))
          (try simp only [Act.put, List.setIfInBounds_toArray, List.set_cons_zero, List.set_cons_succ])
          refine take_d (i := 3) (d := 53) (v := ?_) rfl rfl (by kernel_rfl) (by kernel_rfl) (by kernel_rfl) (fun _ _ _ h => h) (Or.inl ⟨by rfl, ?_⟩) (by assumption) ?_
          rotate_left
          · (intro w hSw; (try dsimp only at hSw); go_simp; (try with_reducible rfl))
          (try simp only [Act.put, List.setIfInBounds_toArray, List.set_cons_zero, List.set_cons_succ])
          refine take_d (i := 4) (d := 54) (v := ?_) rfl rfl (by kernel_rfl) (by kernel_rfl) (by kernel_rfl) (fun _ _ _ h => h) (Or.inl ⟨by rfl, ?_⟩) (by assumption) ?_
          rotate_left
          · (intro w hSw; (try dsimp only at hSw); go_simp; (try with_reducible rfl))
          (try simp only [Act.put, List.setIfInBounds_toArray, List.set_cons_zero, List.set_cons_succ])
          refine take_d (i := 5) (d := 55) (v := ?_) rfl rfl (by kernel_rfl) (by kernel_rfl) (by kernel_rfl) (fun _ _ _ h => h) (Or.inl ⟨by rfl, ?_⟩) (by assumption) ?_
          rotate_left
          · (intro w hSw; (try dsimp only at hSw); go_simp; (try with_reducible rfl))
          (try simp only [Act.put, List.setIfInBounds_toArray, List.set_cons_zero, List.set_cons_succ])
          refine take_d (i := 7) (d := 57) (v := ?_) rfl rfl (by kernel_rfl) (by kernel_rfl) (by kernel_rfl) (fun _ _ _ h => h) (Or.inl ⟨by rfl, ?_⟩) (by assumption) ?_
          rotate_left
          · (intro w hSw; (try dsimp only at hSw); go_simp; (try with_reducible rfl))
          (try simp only [Act.put, List.setIfInBounds_toArray, List.set_cons_zero, List.set_cons_succ])
          refine take_d (i := 8) (d := 58) (v := ?_) rfl rfl (by kernel_rfl) (by kernel_rfl) (by kernel_rfl) (fun _ _ _ h => h) (Or.inl ⟨by rfl, ?_⟩) (by assumption) ?_
          rotate_left
          · (intro w hSw; (try dsimp only at hSw); go_simp; (try with_reducible rfl))
          (try simp only [Act.put, List.setIfInBounds_toArray, List.set_cons_zero, List.set_cons_succ])
          refine take_d (i := 9) (d := 59) (v := ?_) rfl rfl (by kernel_rfl) (by kernel_rfl) (by kernel_rfl) (fun _ _ _ h => h) (Or.inl ⟨by rfl, ?_⟩) (by assumption) ?_
          rotate_left
          · (intro w hSw; (try dsimp only at hSw); go_simp; (try with_reducible rfl))
          (try simp only [Act.put, List.setIfInBounds_toArray, List.set_cons_zero, List.set_cons_succ])
          refine take_d (i := 10) (d := 60) (v := ?_) rfl rfl (by kernel_rfl) (by kernel_rfl) (by kernel_rfl) (fun _ _ _ h => h) (Or.inl ⟨by rfl, ?_⟩) (by assumption) ?_
          rotate_left
          · (intro w hSw; (try dsimp only at hSw); go_simp; (try with_reducible rfl))
          (try simp only [Act.put, List.setIfInBounds_toArray, List.set_cons_zero, List.set_cons_succ])
          refine take_d (i := 11) (d := 61) (v := ?_) rfl rfl (by kernel_rfl) (by kernel_rfl) (by kernel_rfl) (fun _ _ _ h => h) (Or.inl ⟨by rfl, ?_⟩) (by assumption) ?_
          rotate_left
          · (intro w hSw; (try dsimp only at hSw); go_simp; (try with_reducible rfl))
          (try simp only [Act.put, List.setIfInBounds_toArray, List.set_cons_zero, List.set_cons_succ])
          refine wpAnyH_ready (rs := [6]) (by kernel_rfl) (by simp) ?_
          refine AllReadyH.cons (o := _) rfl (fun K hK => ?_) ?_
          · go_simp
            go_at_call 69
            go_fit (has05_any _ a x _ ((HVA.out.ext (HXW.out.trans (by (repeat' (first | (with_reducible assumption) | (with_reducible exact Wb.Ext.refl _) | (with_reducible refine Wb.Ext.drew ?_) | (with_reducible refine Wb.Ext.drewN ?_ _) | (with_reducible refine Wb.Ext.alloc ?_ _) | (with_reducible refine Wb.Ext.trans ?_ (by assumption))))))).1) HCA.out (by omega))
            rintro e w8 ⟨rfl, hb8⟩
            rw [HKA.out]
            refine hK.out _ _ ⟨Wb.Ext.keep (w := w7) (by (repeat' (first | (with_reducible assumption) | (with_reducible exact Wb.Ext.refl _) | (with_reducible refine Wb.Ext.drew ?_) | (with_reducible refine Wb.Ext.drewN ?_ _) | (with_reducible refine Wb.Ext.alloc ?_ _) | (with_reducible refine Wb.Ext.trans ?_ (by assumption))))) z0, Wb.Ext.keep (w := w7) (by (repeat' (first | (with_reducible assumption) | (with_reducible exact Wb.Ext.refl _) | (with_reducible refine Wb.Ext.drew ?_) | (with_reducible refine Wb.Ext.drewN ?_ _) | (with_reducible refine Wb.Ext.alloc ?_ _) | (with_reducible refine Wb.Ext.trans ?_ (by assumption))))) z1, Wb.Ext.keep (w := w7) (by (repeat' (first | (with_reducible assumption) | (with_reducible exact Wb.Ext.refl _) | (with_reducible refine Wb.Ext.drew ?_) | (with_reducible refine Wb.Ext.drewN ?_ _) | (with_reducible refine Wb.Ext.alloc ?_ _) | (with_reducible refine Wb.Ext.trans ?_ (by assumption))))) z2⟩ (fun hHeld => ?_)
            clear hK K
            (try simp only [Act.put, List.setIfInBounds_toArray, List.set_cons_zero, List.set_cons_succ])
            refine wpAnyH_ready (rs := [12]) (by kernel_rfl) (by simp) ?_
            refine AllReadyH.cons (o := _) rfl (fun K hK => ?_) ?_
            · go_simp
              go_at_call 69
              go_fit (has05_any _ b x _ ((HVB.out.ext (HXW.out.trans (by (repeat' (first | (with_reducible assumption) | (with_reducible exact Wb.Ext.refl _) | (with_reducible refine Wb.Ext.drew ?_) | (with_reducible refine Wb.Ext.drewN ?_ _) | (with_reducible refine Wb.Ext.alloc ?_ _) | (with_reducible refine Wb.Ext.trans ?_ (by assumption))))))).1) HCB.out (by omega))
              rintro e w9 ⟨rfl, hb9⟩
              rw [HKB.out]
              refine hK.out _ _ ⟨Wb.Ext.keep (w := w7) (by (repeat' (first | (with_reducible assumption) | (with_reducible exact Wb.Ext.refl _) | (with_reducible refine Wb.Ext.drew ?_) | (with_reducible refine Wb.Ext.drewN ?_ _) | (with_reducible refine Wb.Ext.alloc ?_ _) | (with_reducible refine Wb.Ext.trans ?_ (by assumption))))) z0, Wb.Ext.keep (w := w7) (by (repeat' (first | (with_reducible assumption) | (with_reducible exact Wb.Ext.refl _) | (with_reducible refine Wb.Ext.drew ?_) | (with_reducible refine Wb.Ext.drewN ?_ _) | (with_reducible refine Wb.Ext.alloc ?_ _) | (with_reducible refine Wb.Ext.trans ?_ (by assumption))))) z1, Wb.Ext.keep (w := w7) (by (repeat' (first | (with_reducible assumption) | (with_reducible exact Wb.Ext.refl _) | (with_reducible refine Wb.Ext.drew ?_) | (with_reducible refine Wb.Ext.drewN ?_ _) | (with_reducible refine Wb.Ext.alloc ?_ _) | (with_reducible refine Wb.Ext.trans ?_ (by assumption))))) z2⟩ (fun hHeld => ?_)
              clear hK K
              (try simp only [Act.put, List.setIfInBounds_toArray, List.set_cons_zero, List.set_cons_succ])
              refine wpAnyH_ready (rs := [13]) (by kernel_rfl) (by simp) ?_
              refine AllReadyH.cons (o := _) rfl (fun K hK => ?_) ?_
              · go_simp
                go_at_call 47
                go_fit (met_any ka kb _)
                rintro e w' ⟨rfl, rfl⟩
                rw [HKV.out]
                refine hK.out _ _ ⟨Wb.Ext.keep (w := w7) (by (repeat' (first | (with_reducible assumption) | (with_reducible exact Wb.Ext.refl _) | (with_reducible refine Wb.Ext.drew ?_) | (with_reducible refine Wb.Ext.drewN ?_ _) | (with_reducible refine Wb.Ext.alloc ?_ _) | (with_reducible refine Wb.Ext.trans ?_ (by assumption))))) z0, Wb.Ext.keep (w := w7) (by (repeat' (first | (with_reducible assumption) | (with_reducible exact Wb.Ext.refl _) | (with_reducible refine Wb.Ext.drew ?_) | (with_reducible refine Wb.Ext.drewN ?_ _) | (with_reducible refine Wb.Ext.alloc ?_ _) | (with_reducible refine Wb.Ext.trans ?_ (by assumption))))) z1, Wb.Ext.keep (w := w7) (by (repeat' (first | (with_reducible assumption) | (with_reducible exact Wb.Ext.refl _) | (with_reducible refine Wb.Ext.drew ?_) | (with_reducible refine Wb.Ext.drewN ?_ _) | (with_reducible refine Wb.Ext.alloc ?_ _) | (with_reducible refine Wb.Ext.trans ?_ (by assumption))))) z2⟩ (fun hHeld => ?_)
                clear hK K
                (try simp only [Act.put, List.setIfInBounds_toArray, List.set_cons_zero, List.set_cons_succ])
                refine wpAnyH_done (by kernel_rfl) ?_ _
                cases kv
                · go_wp2
                  go_roundw
                  case rel => exact ⟨i + 1, by omega, by go_num, by rw [HKN.out rfl]; exact Wb.row_ext HRW0.out (by (repeat' (first | (with_reducible assumption) | (with_reducible exact Wb.Ext.refl _) | (with_reducible refine Wb.Ext.drew ?_) | (with_reducible refine Wb.Ext.drewN ?_ _) | (with_reducible refine Wb.Ext.alloc ?_ _) | (with_reducible refine Wb.Ext.trans ?_ (by assumption))))), HXI.out.trans (by (repeat' (first | (with_reducible assumption) | (with_reducible exact Wb.Ext.refl _) | (with_reducible refine Wb.Ext.drew ?_) | (with_reducible refine Wb.Ext.drewN ?_ _) | (with_reducible refine Wb.Ext.alloc ?_ _) | (with_reducible refine Wb.Ext.trans ?_ (by assumption)))))⟩
                  case measure => simp [intOf]; omega
                · have HKS := Lib.hid (HKY.out rfl)
                  go_upto_region 18 with (fail)
                  refine Wb.wp_at fun w10 hw10 => ?_
                  have hx10 : Wb.Ext w7 w10 := by rw [hw10]; (repeat' (first | (with_reducible assumption) | (with_reducible exact Wb.Ext.refl _) | (with_reducible refine Wb.Ext.drew ?_) | (with_reducible refine Wb.Ext.drewN ?_ _) | (with_reducible refine Wb.Ext.alloc ?_ _) | (with_reducible refine Wb.Ext.trans ?_ (by assumption))))
                  have y0 := hx10.keep z2
                  have y1 := hx10.keep z3
                  have HRW := Lib.hid (Wb.row_ext HRW0.out hx10)
                  have HX6 := Lib.hid (HXI.out.trans hx10)
                  clear hw10
                  refine wp_region_held_drew (S := (fun w' => w'.cell? ⟨g, i, none⟩ = some (.int .i64 x) ∧ w'.cell? ⟨g, i + 1, none⟩ = some (.int .i64 y))) (by kernel_rfl) ⟨y0, y1⟩ (fun hHeld => ?_)
                  refine take_d (i := 0) (d := 64) (v := ?_) rfl rfl (by kernel_rfl) (by kernel_rfl) (by kernel_rfl) (fun _ _ _ h => h) (Or.inl ⟨by rfl, ?_⟩) (by assumption) ?_
                  rotate_left
                  · (intro w hSw; (try dsimp only at hSw); go_simp; (try with_reducible rfl))
                  (try simp only [Act.put, List.setIfInBounds_toArray, List.set_cons_zero, List.set_cons_succ])
                  refine take_d (i := 1) (d := 65) (v := ?_) rfl rfl (by kernel_rfl) (by kernel_rfl) (by kernel_rfl) (fun _ _ _ h => h) (Or.inl ⟨by rfl, ?_⟩) (by assumption) ?_
                  rotate_left
                  · (intro w hSw; (try dsimp only at hSw); go_simp; (try with_reducible rfl))
                  (try simp only [Act.put, List.setIfInBounds_toArray, List.set_cons_zero, List.set_cons_succ])
                  refine take_d (i := 2) (d := 66) (v := ?_) rfl rfl (by kernel_rfl) (by kernel_rfl) (by kernel_rfl) (fun _ _ _ h => h) (Or.inl ⟨by rfl, ?_⟩) (by assumption) ?_
                  rotate_left
                  · (intro w hSw; (try dsimp only at hSw); go_simp; (try with_reducible rfl))
                  (try simp only [Act.put, List.setIfInBounds_toArray, List.set_cons_zero, List.set_cons_succ])
                  refine take_d (i := 3) (d := 67) (v := ?_) rfl rfl (by kernel_rfl) (by kernel_rfl) (by kernel_rfl) (fun _ _ _ h => h) (Or.inl ⟨by rfl, ?_⟩) (by assumption) ?_
                  rotate_left
                  · (intro w hSw; (try dsimp only at hSw); go_simp; (try with_reducible rfl))
                  (try simp only [Act.put, List.setIfInBounds_toArray, List.set_cons_zero, List.set_cons_succ])
                  refine take_d (i := 4) (d := 68) (v := ?_) rfl rfl (by kernel_rfl) (by kernel_rfl) (by kernel_rfl) (fun _ _ _ h => h) (Or.inl ⟨by rfl, ?_⟩) (by assumption) ?_
                  rotate_left
                  · (intro w hSw; (try dsimp only at hSw); go_simp; (try with_reducible rfl))
                  (try simp only [Act.put, List.setIfInBounds_toArray, List.set_cons_zero, List.set_cons_succ])
                  refine take_d (i := 5) (d := 69) (v := ?_) rfl rfl (by kernel_rfl) (by kernel_rfl) (by kernel_rfl) (fun _ _ _ h => h) (Or.inl ⟨by rfl, ?_⟩) (by assumption) ?_
                  rotate_left
                  · (intro w hSw; (try dsimp only at hSw); go_simp; (try with_reducible rfl))
                  (try simp only [Act.put, List.setIfInBounds_toArray, List.set_cons_zero, List.set_cons_succ])
                  refine take_d (i := 6) (d := 70) (v := ?_) rfl rfl (by kernel_rfl) (by kernel_rfl) (by kernel_rfl) (fun _ _ _ h => h) (Or.inl ⟨by rfl, ?_⟩) (by assumption) ?_
                  rotate_left
                  · (intro w hSw; (try dsimp only at hSw); go_simp; (try with_reducible rfl))
                  (try simp only [Act.put, List.setIfInBounds_toArray, List.set_cons_zero, List.set_cons_succ])
                  refine take_d (i := 7) (d := 71) (v := ?_) rfl rfl (by kernel_rfl) (by kernel_rfl) (by kernel_rfl) (fun _ _ _ h => h) (Or.inl ⟨by rfl, ?_⟩) (by assumption) ?_
                  rotate_left
                  · (intro w hSw; (try dsimp only at hSw); go_simp; (try with_reducible rfl))
                  (try simp only [Act.put, List.setIfInBounds_toArray, List.set_cons_zero, List.set_cons_succ])
                  refine take_d (i := 8) (d := 72) (v := ?_) rfl rfl (by kernel_rfl) (by kernel_rfl) (by kernel_rfl) (fun _ _ _ h => h) (Or.inl ⟨by rfl, ?_⟩) (by assumption) ?_
                  rotate_left
                  · (intro w hSw; (try dsimp only at hSw); go_simp; (try with_reducible rfl))
                  (try simp only [Act.put, List.setIfInBounds_toArray, List.set_cons_zero, List.set_cons_succ])
                  refine take_d (i := 9) (d := 73) (v := ?_) rfl rfl (by kernel_rfl) (by kernel_rfl) (by kernel_rfl) (fun _ _ _ h => h) (Or.inl ⟨by rfl, ?_⟩) (by assumption) ?_
                  rotate_left
                  · (intro w hSw; (try dsimp only at hSw); go_simp; (try with_reducible rfl))
                  (try simp only [Act.put, List.setIfInBounds_toArray, List.set_cons_zero, List.set_cons_succ])
                  refine take_d (i := 10) (d := 74) (v := ?_) rfl rfl (by kernel_rfl) (by kernel_rfl) (by kernel_rfl) (fun _ _ _ h => h) (Or.inl ⟨by rfl, ?_⟩) (by assumption) ?_
                  rotate_left
                  · (intro w hSw; (try dsimp only at hSw); go_simp; (try with_reducible rfl))
                  (try simp only [Act.put, List.setIfInBounds_toArray, List.set_cons_zero, List.set_cons_succ])
                  refine wpAnyH_ready (rs := [11]) (by kernel_rfl) (by simp) ?_
                  refine AllReadyH.cons (o := _) rfl (fun K hK => ?_) ?_
                  · go_simp
                    go_at_call 45
                    go_fit (join_any W6.heap.size _ _ (x, y) _ (HRW.out.drew) (by have := HX6.out.size; simp; omega) (by omega))
                    rintro e w11 ⟨v3, rfl, ho3, hg3⟩
                    have hxk : Wb.Ext W6 w11 := Wb.Ext.grown (Wb.Ext.trans HX6.out (by (repeat' (first | (with_reducible assumption) | (with_reducible exact Wb.Ext.refl _) | (with_reducible refine Wb.Ext.drew ?_) | (with_reducible refine Wb.Ext.drewN ?_ _) | (with_reducible refine Wb.Ext.alloc ?_ _) | (with_reducible refine Wb.Ext.trans ?_ (by assumption)))))) hg3 (fun j hj => (HRW.out.lt j hj).1)
                    have HO3 := Lib.hid ho3
                    clear ho3 hg3
                    refine hK.out _ _ ⟨hxk.keep cx, hxk.keep cy⟩ (fun hHeld => ?_)
                    clear hK K
                    (try simp only [Act.put, List.setIfInBounds_toArray, List.set_cons_zero, List.set_cons_succ])
                    refine take_d (i := 12) (d := 12) (v := ?_) rfl rfl (by kernel_rfl) (by kernel_rfl) (by kernel_rfl) (fun _ _ _ h => h) (Or.inl ⟨by rfl, ?_⟩) (by assumption) ?_
                    rotate_left
                    · (intro w hSw; (try dsimp only at hSw); go_simp; (try with_reducible rfl))
                    (try simp only [Act.put, List.setIfInBounds_toArray, List.set_cons_zero, List.set_cons_succ])
                    refine wpAnyH_done (by kernel_rfl) ?_ _
                    have HX11 := Lib.hid hxk
                    go_wp2
                    go_roundw
                    case rel => exact ⟨i + 1, by omega, by go_num, by rw [HKS.out]; exact HO3.out, HX11.out⟩
                    case measure => simp [intOf]; omega
                  exact AllReadyH.nil
              exact AllReadyH.nil
            exact AllReadyH.nil
          exact AllReadyH.nil
        · obtain rfl : i = q := by omega
          have HSET := Lib.hid (walk_set (a := a) (b := b) (keep := (fun p q : Bool => p && q)) HFU.out.1 HFU.out.2 rfl HBA.out HBB.out HFL.out)
          rw [hq] at HSET
          have HOWN := Lib.hid hown
          obtain ⟨ra, rc, rfl⟩ := row_shape hown
          have d0 := hext.keep (HXW6.out.keep r0)
          have hs6 := HS6.out
          have g0 : wr.frozen? ⟨w.heap.size + 1 + 1, 0, none⟩ = false := (Below.frozen (HXW6.out.trans hext) (show w.heap.size + 1 + 1 < W0.heap.size by omega)).trans (rf 0)
          obtain ⟨RL, hRL⟩ : ∃ RL, keptL F (fun d => (fun p q : Bool => p && q) (Wb.hasL a d) (Wb.hasL b d)) i = RL := ⟨_, rfl⟩
          rw [hRL] at HSET HOWN ⊢
          clear hown hRL
          go_wp2
          refine bodyPost_ret (v := SetV (.slice ra RL.length rc)) (by simp [results, Try.results46, go_sem, d0]) rfl ⟨_, _, rfl, HSET.out, ⟨W6.heap.size, Nat.le_trans hx0.size hs6, Wb.row_set HOWN.out (fun j hj => ?_) _⟩, Wb.ext_set (hx0.trans (HXW6.out.trans hext)) (show w.heap.size ≤ w.heap.size + 1 + 1 by omega) _⟩
          have := (HOWN.out.lt j hj).1
          simp only
          omega

end Go.Proofs.Ytheofklbmknipaa
