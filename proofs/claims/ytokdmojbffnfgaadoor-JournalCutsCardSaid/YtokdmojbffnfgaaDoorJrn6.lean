/- The walks of package journal: Acts. -/
import Derived.Test.YtokdmojbffnfgaaDoorJrn5
namespace Go.Proofs.YtokdmojbffnfgaaDoor
open Go.RowKit
set_option maxRecDepth 4000

theorem infoStr : (Tryd.prog.info? 9).map (fun i => (i.zero, i.size, i.bytes)) = some (some (.string "".toUTF8), 1, 16) := by kernel_rfl
/-- texts behind a slice that is nil where there is no room -/
def StrsN (w : World) (v : Value) (l : List (List UInt8)) : Prop := Strs1 w v l ∧ (v = .slice none 0 0 ∨ ∃ ad n c, v = .slice (some ad) n c)
theorem StrsN.ext {w w' : World} {v : Value} {l : List (List UInt8)} (h : StrsN w v l) (k : Wb.Ext w w') : StrsN w' v l := ⟨h.1.ext k, h.2⟩
theorem StrsN.src {w : World} {v : Value} {l : List (List UInt8)} (h : StrsN w v l) : Wb.SrcRow w 1 v l.length (rowsOf strc l) := by
  refine ⟨by rw [rowsOf_length strc_len], ?_⟩
  rcases h.2 with h2 | ⟨ad, n, c, h2⟩
  · left
    obtain ⟨a, c, h3⟩ := h.1.shape
    rw [h2] at h3
    have := congrArg (fun v => match v with | .slice _ n _ => n | _ => 0) h3
    exact ⟨h2, by simpa using this.symm⟩
  · right
    rcases h.1 with ⟨h0, a, c', h3⟩ | ⟨b, off, c', h3, hc⟩
    · rw [h2] at h3; cases h3
      subst h0
      exact ⟨ad, c, h2, fun j u hj => by simp [rowsOf] at hj⟩
    · rw [h2] at h3; cases h3
      refine ⟨_, _, h2, fun j u hj => ?_⟩
      have hj2 : j < l.length := by
        have := (List.getElem?_eq_some_iff.1 hj).1
        rwa [rowsOf_length strc_len, Nat.mul_one] at this
      obtain ⟨x, hx⟩ := Wb.get_ex hj2
      have h4 := rowsOf_get strc_len (l := l) (j := j) (x := x) hx 0 (by decide)
      rw [Nat.mul_one, Nat.add_zero, hj] at h4
      have h5 := hc j x hx 0 u h4.symm
      rw [Nat.mul_one, Nat.add_zero] at h5
      have e : (⟨b, off, none⟩ : Addr).add j = ⟨b, off + j, none⟩ := by
        by_cases hj0 : j = 0
        · subst hj0; simp [Addr.add]
        · simp [Addr.add, hj0]
      rw [e]; exact h5

theorem acts_any (v : Value) (l : List (List UInt8)) (m : Nat) (w : World) (hv : StrsN w v l) (hl : l.length ≤ 100000) :
    Calls Tryd.prog 17 #[.agg #[v, .int .u64 (m : Int)]] w fun e w' => ∃ u, e = .returned u ∧ Strs1 w' u l ∧ Wb.Ext w w' := by
  obtain ⟨i0, hi, hz0, hz1, hz2⟩ := info_parts infoStr
  have HIN := Lib.hid (show Tryd.prog.info? 9 = some i0 ∧ i0.zero = some (.string "".toUTF8) ∧ i0.size = 1 ∧ i0.bytes = 16 from ⟨hi, hz0, hz1, hz2⟩)
  clear hi hz0 hz1 hz2
  have HV := Lib.hid hv
  obtain ⟨a, c, rfl⟩ := hv.1.shape
  clear hv
  go_enter Tryd.func17, Tryd.ntmps17
  obtain ⟨hi, hz0, hz1', hz2⟩ := HIN.out
  go_wp2_with (at_builtin; go_loud (refine Wb.wpList_append_row rfl (.const (.slice none 0 0)) (.tmp 4) 22 rfl (w.heap.size + 1) 9 i0 (.string "".toUTF8) 1 16 Tryd.underlying22 hi hz0 hz1' hz2 rfl (by decide) _ _ _ rfl (World.ownsRow_nil _ _ _ _) _ rfl l.length (rowsOf strc l) ?c1 ?c2 ?c3 ?c4 ?c5 ?_))
  case c1 => exact (HV.out.ext (by (repeat' (first | (with_reducible assumption) | (with_reducible exact Wb.Ext.refl _) | (with_reducible refine Wb.Ext.drew ?_) | (with_reducible refine Wb.Ext.drewN ?_ _) | (with_reducible refine Wb.Ext.alloc ?_ _) | (with_reducible refine Wb.Ext.trans ?_ (by assumption)))))).src
  case c2 =>
    intro u hu
    simp only [rowsOf, List.mem_flatMap, strc, List.mem_singleton] at hu
    obtain ⟨x, _, rfl⟩ := hu
    rfl
  case c3 => unfold maxLen; omega
  case c4 => omega
  case c5 => simp
  intro u2 w5 hown2 hg2 hnil2
  clear hi hz0 hz1' hz2 hnil2
  have he : Wb.Ext w w5 := Wb.Ext.grown (by (repeat' (first | (with_reducible assumption) | (with_reducible exact Wb.Ext.refl _) | (with_reducible refine Wb.Ext.drew ?_) | (with_reducible refine Wb.Ext.drewN ?_ _) | (with_reducible refine Wb.Ext.alloc ?_ _) | (with_reducible refine Wb.Ext.trans ?_ (by assumption))))) hg2 (fun q hq => by simp [Value.ownBlock] at hq)
  have HT := Lib.hid (row_tbl (k := 1) strc_len (by decide) (by simpa using hown2))
  clear hown2 hg2
  go_wp2
  go_ret
  exact ⟨_, rfl, HT.out, he⟩

end Go.Proofs.YtokdmojbffnfgaaDoor
