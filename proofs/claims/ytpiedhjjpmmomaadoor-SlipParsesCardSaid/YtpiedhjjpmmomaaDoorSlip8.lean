/- Chapter 27: a part's lines. -/
import Derived.Test.YtpiedhjjpmmomaaDoorSlip7
namespace Go.Proofs.YtpiedhjjpmmomaaDoor
open Go.RowKit
set_option maxRecDepth 4000

def itv (x : Wb.Ln) : List Value := [.string (Wb.S x.code), .int .i64 x.cents]
def itvs (l : List Wb.Ln) : List Value := l.flatMap itv

theorem itvs_app (a b : List Wb.Ln) : itvs (a ++ b) = itvs a ++ itvs b := by simp [itvs]
theorem itvs_length (l : List Wb.Ln) : (itvs l).length = l.length * 2 := by
  induction l with
  | nil => rfl
  | cons x r ih => simp only [itvs, List.flatMap_cons, List.length_append] at ih ⊢; rw [ih]; simp [itv]; omega
theorem itvs_get {l : List Wb.Ln} : ∀ {j : Nat} {x : Wb.Ln}, l[j]? = some x → (itvs l)[j * 2]? = some (.string (Wb.S x.code)) ∧ (itvs l)[j * 2 + 1]? = some (.int .i64 x.cents) := by
  induction l with
  | nil => intro j x h; simp at h
  | cons y r ih =>
    intro j x h
    cases j with
    | zero => simp at h; subst h; simp [itvs, itv]
    | succ j =>
      have := ih (j := j) (x := x) (by simpa using h)
      have e1 : (j + 1) * 2 = j * 2 + 1 + 1 := by omega
      rw [e1]
      simpa [itvs, itv] using this

theorem infoItem : (Tryd.prog.info? 37).map (fun i => (i.zero, i.size, i.bytes)) = some (some (.agg #[.string "".toUTF8, .int .i64 0]), 2, 24) := by kernel_rfl

theorem its_of_row {w : World} {base n : Nat} {v : Value} {l : List Wb.Ln} (h : w.ownsRow base 37 2 v n (itvs l)) : Its w v l := by
  have hn : n = l.length := by have := h.1; rw [itvs_length] at this; omega
  subst hn
  by_cases hv : v = .slice none 0 0
  · obtain ⟨_, h | ⟨g, cap, cur, hv', _⟩⟩ := h
    · have : l = [] := List.length_eq_zero_iff.1 h.2
      exact .inl ⟨this, _, _, hv⟩
    · rw [hv] at hv'; cases hv'
  · obtain ⟨g, cap, rfl, _, _, _, hc⟩ := Wb.ownsRow_at h hv
    refine .inr ⟨g, 0, cap, rfl, fun j x hj => ?_⟩
    obtain ⟨h1, h2⟩ := itvs_get hj
    simp only [Nat.zero_add]
    exact ⟨hc _ _ h1, hc _ _ h2⟩

theorem src_two (w : World) (n : Nat) (hn : n = w.heap.size) (x y : Value) (T : TypeId) (c : Nat) : Wb.SrcRow (w.alloc (.cells #[x, y] T)) 2 (.slice (some ⟨n, 0, none⟩) 1 c) 1 [x, y] := by
  subst hn
  refine ⟨rfl, .inr ⟨_, _, rfl, fun j u hj => ?_⟩⟩
  match j, hj with
  | 0, hj => simp at hj; subst hj; simp [go_sem, Addr.add]
  | 1, hj => simp at hj; subst hj; simp [go_sem, Addr.add]
  | j + 2, hj => simp at hj

set_option maxHeartbeats 1000000 in
theorem part_any (y i : Int) (v : Value) (l : List Wb.Ln) (p : Int) (w : World) (hl : Lns w v l) (hs : Sized l) :
    Calls Tryd.prog 17 #[.agg #[.int .i64 y, .int .i64 i, v], .int .i64 p] w fun e w' => ∃ u, e = .returned u ∧ Its w' u (Wb.partOf p l) ∧ Wb.Ext w w' := by
  obtain ⟨i0, hi, hz0, hz1, hz2⟩ := info_parts infoItem
  have HIN := Lib.hid (show Tryd.prog.info? 37 = some i0 ∧ i0.zero = some (.agg #[.string "".toUTF8, .int .i64 0]) ∧ i0.size = 2 ∧ i0.bytes = 24 from ⟨hi, hz0, hz1, hz2⟩)
  clear hi hz0 hz1 hz2
  obtain ⟨a, cap, rfl⟩ := hl.shape
  have HL := Lib.hid hl; clear hl
  have hlen := hs.1
  have HS := Lib.hid hs; clear hs
  go_enter Tryd.func17, Tryd.ntmps17
  go_wp2
  go_loopw [5, 11] (fun ov iv wr => ∃ (k m : Nat) (u : Value), k ≤ l.length ∧ m ≤ k ∧ iv = .int .i64 k ∧ ov = u ∧ wr.ownsRow (w.heap.size + 1) 37 2 u m (itvs (Wb.partOf p (l.take k))) ∧ Wb.Ext (w.alloc (.cells #[.int .i64 y, .int .i64 i, .slice a l.length cap] 24)) wr) (fun _ iv _ => l.length - (intOf iv).toNat)
  case atStart => exact ⟨0, 0, _, by omega, by omega, rfl, rfl, World.ownsRow_nil _ _ _ _, by (repeat' (first | (with_reducible assumption) | (with_reducible exact Wb.Ext.refl _) | (with_reducible refine Wb.Ext.drew ?_) | (with_reducible refine Wb.Ext.drewN ?_ _) | (with_reducible refine Wb.Ext.alloc ?_ _) | (with_reducible refine Wb.Ext.trans ?_ (by assumption))))⟩
  case round =>
    obtain ⟨k, m, u, hk, hm, rfl, rfl, hown, hext⟩ := hrel
    have HO := Lib.hid hown; clear hown
    have hew : Wb.Ext w wr := by (repeat' (first | (with_reducible assumption) | (with_reducible exact Wb.Ext.refl _) | (with_reducible refine Wb.Ext.drew ?_) | (with_reducible refine Wb.Ext.drewN ?_ _) | (with_reducible refine Wb.Ext.alloc ?_ _) | (with_reducible refine Wb.Ext.trans ?_ (by assumption))))
    have hsz := hext.size
    have hz1 : w.heap.size < wr.heap.size := by simp at hsz; omega
    obtain ⟨hce, hfe⟩ := hext.cells
    by_cases hlt : k < l.length
    · obtain ⟨x, hx⟩ := Wb.get_ex hlt
      obtain ⟨b, off, rfl, hcells⟩ := (HL.out.ext hew).opened (ne_of_lt hlt)
      obtain ⟨hcp, hcx, hcn⟩ := hcells k x hx
      clear hcells
      have HT := Lib.hid (Wb.partOf_snoc (p := p) hx)
      clear hx
      cases h1 : (x.part == p)
      · have HI := Lib.hid (show ¬ x.part = p by simpa using h1)
        go_wp2
        go_roundw
        case rel => exact ⟨k + 1, m, _, by omega, by omega, by go_num, rfl, by rw [HT.out, if_neg HI.out]; exact HO.out.alloc _, by (repeat' (first | (with_reducible assumption) | (with_reducible exact Wb.Ext.refl _) | (with_reducible refine Wb.Ext.drew ?_) | (with_reducible refine Wb.Ext.drewN ?_ _) | (with_reducible refine Wb.Ext.alloc ?_ _) | (with_reducible refine Wb.Ext.trans ?_ (by assumption))))⟩
        case measure => simp [intOf]; omega
      · have HI := Lib.hid (show x.part = p by simpa using h1)
        obtain ⟨hi, hz0, hz1', hz2⟩ := HIN.out
        go_wp2_with (at_builtin; go_loud (refine Wb.wpList_append_row rfl (.tmp 19) (.tmp 25) 33 rfl (w.heap.size + 1) 37 i0 (.agg #[.string "".toUTF8, .int .i64 0]) 2 24 Tryd.underlying33 hi hz0 hz1' hz2 rfl (by decide) _ _ _ rfl ((HO.out.alloc _).alloc _) (.slice (some ⟨wr.heap.size + 1, 0, none⟩) 1 1) rfl 1 (itv x) ?c1 ?c2 ?c3 ?c4 ?c5 ?_))
        case c1 => exact src_two _ _ (by simp) _ _ _ _
        case c2 => intro u hu; simp [itv] at hu; rcases hu with rfl | rfl <;> rfl
        case c3 => unfold maxLen; omega
        case c4 => omega
        case c5 => simp; omega
        intro u2 w2 hown2 hg2 hnil2
        clear hi hz0 hz1' hz2 hnil2
        have he2 : Wb.Ext (w.alloc (.cells #[.int .i64 y, .int .i64 i, .slice (some ⟨b, off, none⟩) l.length cap] 24)) w2 := Wb.Ext.grown (by (repeat' (first | (with_reducible assumption) | (with_reducible exact Wb.Ext.refl _) | (with_reducible refine Wb.Ext.drew ?_) | (with_reducible refine Wb.Ext.drewN ?_ _) | (with_reducible refine Wb.Ext.alloc ?_ _) | (with_reducible refine Wb.Ext.trans ?_ (by assumption))))) hg2 (by intro q hq; have := HO.out.lt q hq; simp; omega)
        have HO2 := Lib.hid hown2
        clear hown2 hg2
        go_wp2
        go_roundw
        case rel => exact ⟨k + 1, m + 1, _, by omega, by omega, by go_num, rfl, by rw [HT.out, if_pos HI.out, itvs_app]; simpa [itvs] using HO2.out, by (repeat' (first | (with_reducible assumption) | (with_reducible exact Wb.Ext.refl _) | (with_reducible refine Wb.Ext.drew ?_) | (with_reducible refine Wb.Ext.drewN ?_ _) | (with_reducible refine Wb.Ext.alloc ?_ _) | (with_reducible refine Wb.Ext.trans ?_ (by assumption))))⟩
        case measure => simp [intOf]; omega
    · have HR := Lib.hid (show Wb.partOf p (l.take k) = Wb.partOf p l by rw [List.take_of_length_le (by omega)])
      have HI := its_of_row HO.out
      rw [HR.out] at HI
      have HJ := Lib.hid HI; clear HI
      go_wp2
      go_ret
      exact ⟨_, rfl, HJ.out, by (repeat' (first | (with_reducible assumption) | (with_reducible exact Wb.Ext.refl _) | (with_reducible refine Wb.Ext.drew ?_) | (with_reducible refine Wb.Ext.drewN ?_ _) | (with_reducible refine Wb.Ext.alloc ?_ _) | (with_reducible refine Wb.Ext.trans ?_ (by assumption))))⟩

end Go.Proofs.YtpiedhjjpmmomaaDoor
