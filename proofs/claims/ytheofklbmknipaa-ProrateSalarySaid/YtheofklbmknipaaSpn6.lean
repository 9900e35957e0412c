/- The walk of span.Of. -/
import Derived.Test.YtheofklbmknipaaSpn5
namespace Go.Proofs.Ytheofklbmknipaa
open Go.RowKit
set_option maxRecDepth 8000
attribute [local go_sem ↓] Go.wp_at_zero Go.wp_at_succ

theorem join_len (l : List Wb.Sp) (s : Wb.Sp) : (Wb.joinL l s).length ≤ l.length + 1 := by
  unfold Wb.joinL
  split
  · omega
  · split
    · split
      · simp only [List.length_append, List.length_dropLast, List.length_singleton]; omega
      · simp
    · simp
theorem join_bd {l : List Wb.Sp} {s : Wb.Sp} (hl : BdL l) (hs : Bd s) : BdL (Wb.joinL l s) := by
  by_cases he : s.2 ≤ s.1
  · rw [Wb.joinL_empty he]; exact hl
  rcases List.eq_nil_or_concat l with rfl | ⟨p, x, hx⟩
  · rw [Wb.joinL_nil (by omega)]; intro y hy; simp at hy; subst hy; exact hs
  · rw [List.concat_eq_append] at hx
    subst hx
    by_cases hk : s.1 ≤ x.2
    · rw [Wb.joinL_touch (by omega) hk]
      intro y hy
      rcases List.mem_append.1 hy with q | q
      · exact hl y (List.mem_append_left _ q)
      · simp at q; subst q
        have := hl x (by simp)
        exact ⟨this.1, by have := this.2; have := hs.2; simp only; omega⟩
    · rw [Wb.joinL_apart (by omega) (by omega)]
      intro y hy
      rcases List.mem_append.1 hy with q | q
      · exact hl y q
      · simp at q; subst q; exact hs
theorem fold_len (l : List Wb.Sp) : (Wb.foldJ l).length ≤ l.length := by
  induction l using Wb.snocI with
  | h0 => exact Nat.le_refl _
  | h1 l s ih => rw [Wb.foldJ_snoc]; have := join_len (Wb.foldJ l) s; simp; omega
theorem fold_bd {l : List Wb.Sp} (h : BdL l) : BdL (Wb.foldJ l) := by
  induction l using Wb.snocI with
  | h0 => intro s hs; cases hs
  | h1 l s ih => rw [Wb.foldJ_snoc]; exact join_bd (ih fun x hx => h x (List.mem_append_left _ hx)) (h s (by simp))
theorem fold_take {l : List Wb.Sp} {k : Nat} {s : Wb.Sp} (h : l[k]? = some s) : Wb.foldJ (l.take (k + 1)) = Wb.joinL (Wb.foldJ (l.take k)) s := by
  obtain ⟨h1, rfl⟩ := List.getElem?_eq_some_iff.1 h
  rw [List.take_succ_eq_append_getElem h1, Wb.foldJ_snoc]

/-- a set of the program's: its spans, canonical, within 64 bits -/
structure IsSet (r : List Wb.Sp) (p : Int → Prop) (n : Nat) : Prop where
  canon : Wb.Canon r
  mem : ∀ d, Wb.memL r d ↔ p d
  bd : BdL r
  len : r.length ≤ n

set_option maxHeartbeats 2000000 in
theorem of_any (v : Value) (l : List Wb.Sp) (w : World) (hv : SpL w v l) (hb : BdL l) (hl : l.length ≤ 100000) :
    Calls Try.prog 23 #[v] w fun e w' => ∃ v' r, e = .returned (SetV v') ∧ IsSet r (Wb.memL l) l.length ∧ SpL w' v' r ∧ Wb.Ext w w' := by
  obtain ⟨va, vc, rfl⟩ := hv.1.shape
  have HV := Lib.hid hv
  have HB := Lib.hid hb
  clear hv hb
  go_enter Try.func23, Try.ntmps23
  go_wp2_with fail
  go_fit (clone_any _ l _ (HV.out.ext (by (repeat' (first | (with_reducible assumption) | (with_reducible exact Wb.Ext.refl _) | (with_reducible refine Wb.Ext.drew ?_) | (with_reducible refine Wb.Ext.drewN ?_ _) | (with_reducible refine Wb.Ext.alloc ?_ _) | (with_reducible refine Wb.Ext.trans ?_ (by assumption)))))) (by omega)); rintro e w1 ⟨v1, rfl, ho1, hx1⟩
  have HXA := Lib.hid hx1
  obtain ⟨a1, k1, rfl⟩ := row_shape ho1
  have HO1 := Lib.hid ho1
  clear ho1 hx1
  go_wp2_with fail
  go_fit (sort_any _ _ l w1 HO1.out (by omega)); rintro e w2 ⟨rfl, l2, hp2, hs2, ho2, hg2⟩
  have hxA := HXA.out.grown hg2 (fun k hk => (HO1.out.lt k hk).1)
  have c0 : w2.cell? ⟨w.heap.size, 0, none⟩ = some (.slice none 0 0) := hxA.keep (by simp [go_sem])
  have f0 : ∀ k, w2.frozen? ⟨w.heap.size, k, none⟩ = false := fun k => (Below.frozen hxA (by simp)).trans (by simp [go_sem])
  have hx02 : Wb.Ext w w2 := Wb.Ext.trans (by (repeat' (first | (with_reducible assumption) | (with_reducible exact Wb.Ext.refl _) | (with_reducible refine Wb.Ext.drew ?_) | (with_reducible refine Wb.Ext.drewN ?_ _) | (with_reducible refine Wb.Ext.alloc ?_ _) | (with_reducible refine Wb.Ext.trans ?_ (by assumption))))) hxA
  have hs02 : w.heap.size < w2.heap.size := Nat.lt_of_lt_of_le (by simp) hxA.size
  have hl2 : l2.length = l.length := hp2.length_eq
  have hsp2 : Spans w2 (.slice a1 l2.length k1) l2 := by rw [hl2]; exact (spl_row ho2).1
  rw [← hl2]
  have HL2 := Lib.hid hl2
  have HSP := Lib.hid hsp2
  have HR := Lib.hid (show IsSet (Wb.foldJ l2) (Wb.memL l) l.length by
    obtain ⟨q1, q2, _⟩ := Wb.foldJ_ok hs2
    exact ⟨q1, fun d => (q2 d).trans (Wb.memL_perm hp2 d), fold_bd fun x hx => HB.out x (hp2.mem_iff.1 hx), by rw [← HL2.out]; exact fold_len l2⟩)
  clear hsp2 ho2 hg2 hxA hp2 hs2 hl2
  go_wp2_with fail
  go_loopw [4, 13] (fun sv iv wr => ∃ (k : Nat), k ≤ l2.length ∧ iv = .int .i64 k ∧ wr.ownsRow w2.heap.size 24 2 sv (Wb.foldJ (l2.take k)).length (rowsOf spc (Wb.foldJ (l2.take k))) ∧ Wb.Ext w2 wr) (fun _ iv _ => l2.length - (intOf iv).toNat)
  case atStart => exact ⟨0, Nat.zero_le _, rfl, own_none, by (repeat' (first | (with_reducible assumption) | (with_reducible exact Wb.Ext.refl _) | (with_reducible refine Wb.Ext.drew ?_) | (with_reducible refine Wb.Ext.drewN ?_ _) | (with_reducible refine Wb.Ext.alloc ?_ _) | (with_reducible refine Wb.Ext.trans ?_ (by assumption))))⟩
  case round =>
    obtain ⟨k, hk, rfl, hown, hext⟩ := hrel
    have HOW := Lib.hid hown
    obtain ⟨sa, sc, rfl⟩ := row_shape hown
    clear hown
    by_cases hlt : k < l2.length
    · obtain ⟨y, hy⟩ := Wb.get_ex hlt
      obtain ⟨b, off, rfl, hcells⟩ := (HSP.out.ext hext).opened (tne hlt)
      have c0 := hcells _ y hy 0 _ rfl
      have c1 := hcells _ y hy 1 _ rfl
      have hki : (k : Int) < l2.length := by omega
      have hfl := fold_len (l2.take k)
      have hl := HL2.out ▸ hl
      rw [List.length_take, Nat.min_eq_left hk] at hfl
      have HF := Lib.hid (fold_take hy)
      clear hcells hy
      simp only [Nat.add_zero] at c0
      go_wp2_with fail
      go_fit (join_any w2.heap.size _ _ y _ (Wb.row_ext HOW.out (by (repeat' (first | (with_reducible assumption) | (with_reducible exact Wb.Ext.refl _) | (with_reducible refine Wb.Ext.drew ?_) | (with_reducible refine Wb.Ext.drewN ?_ _) | (with_reducible refine Wb.Ext.alloc ?_ _) | (with_reducible refine Wb.Ext.trans ?_ (by assumption)))))) (by have := hext.size; simp; omega) (by omega)); rintro e w3 ⟨v3, rfl, ho3, hg3⟩
      have hx3 : Wb.Ext w2 w3 := Wb.Ext.grown (Wb.Ext.trans hext (by (repeat' (first | (with_reducible assumption) | (with_reducible exact Wb.Ext.refl _) | (with_reducible refine Wb.Ext.drew ?_) | (with_reducible refine Wb.Ext.drewN ?_ _) | (with_reducible refine Wb.Ext.alloc ?_ _) | (with_reducible refine Wb.Ext.trans ?_ (by assumption)))))) hg3 (fun j hj => (HOW.out.lt j hj).1)
      have HO3 := Lib.hid ho3
      have HX3 := Lib.hid hx3
      clear ho3 hg3 hx3
      go_wp2
      go_roundw
      case rel => exact ⟨k + 1, by omega, by go_num, by rw [HF.out]; exact HO3.out, HX3.out⟩
      case measure => simp [intOf]; omega
    · obtain rfl : k = l2.length := by omega
      rw [List.take_length] at HOW ⊢
      have d0 := hext.keep c0
      have g0 : wr.frozen? ⟨w.heap.size, 0, none⟩ = false := (Below.frozen hext hs02).trans (f0 0)
      go_wp2
      refine bodyPost_ret (v := SetV (.slice sa (Wb.foldJ l2).length sc)) (by simp [results, Try.results23, go_sem, d0]) rfl ⟨_, _, rfl, HR.out, spl_row (Wb.row_set HOW.out (fun j hj => ?_) _), Wb.ext_set (hx02.trans hext) (Nat.le_refl _) _⟩
      have := (HOW.out.lt j hj).1
      simp only
      omega

end Go.Proofs.Ytheofklbmknipaa
