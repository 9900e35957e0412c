/- Chapter 27: the law's own helpers. -/
import Derived.Test.YtpiedhjjpmmomaaDoorSlip
import Derived.Test.YtpiedhjjpmmomaaDoorRows0
import Derived.Test.YtpiedhjjpmmomaaDoorPlain27b
namespace Go.Proofs.YtpiedhjjpmmomaaDoor
open Go.RowKit
set_option maxRecDepth 4000

theorem small_any (y i : Int) (v : Value) (l : List Wb.Ln) (w : World) (hl : Lns w v l) (hs : Sized l) :
    Calls Tryd.prog 10 #[.agg #[.int .i64 y, .int .i64 i, v]] w fun e w' => ∃ b, e = .returned (.bool b) ∧ Wb.Ext w w' := by
  obtain ⟨a, cap, rfl⟩ := hl.shape
  have HL := Lib.hid hl; clear hl
  have hlen := hs.1
  have HS := Lib.hid hs; clear hs
  go_enter Tryd.func10, Tryd.ntmps10
  go_wp2
  go_loopw [3, 9] (fun s iv wr => ∃ (k : Nat) (c : Int), k ≤ l.length ∧ iv = .int .i64 k ∧ s = .int .i64 c ∧ Wb.Ext (w.alloc (.cells #[.int .i64 y, .int .i64 i, .slice a l.length cap] 24)) wr) (fun _ iv _ => l.length - (intOf iv).toNat)
  case atStart => exact ⟨0, 0, by omega, rfl, rfl, by (repeat' (first | (with_reducible assumption) | (with_reducible exact Wb.Ext.refl _) | (with_reducible refine Wb.Ext.drew ?_) | (with_reducible refine Wb.Ext.drewN ?_ _) | (with_reducible refine Wb.Ext.alloc ?_ _) | (with_reducible refine Wb.Ext.trans ?_ (by assumption))))⟩
  case round =>
    obtain ⟨k, c, hk, rfl, rfl, hext⟩ := hrel
    have hew : Wb.Ext w wr := by (repeat' (first | (with_reducible assumption) | (with_reducible exact Wb.Ext.refl _) | (with_reducible refine Wb.Ext.drew ?_) | (with_reducible refine Wb.Ext.drewN ?_ _) | (with_reducible refine Wb.Ext.alloc ?_ _) | (with_reducible refine Wb.Ext.trans ?_ (by assumption))))
    have hsz := hext.size
    have hz1 : w.heap.size < wr.heap.size := by simp at hsz; omega
    obtain ⟨hce, hfe⟩ := hext.cells
    by_cases hlt : k < l.length
    · obtain ⟨x, hx⟩ := Wb.get_ex hlt
      obtain ⟨b, off, rfl, hcells⟩ := (HL.out.ext hew).opened (ne_of_lt hlt)
      obtain ⟨hcp, hcx, hcn⟩ := hcells k x hx
      clear hcells
      have hxb := HS.out.2 x (List.mem_of_getElem? hx)
      clear hx
      go_wp2
      go_roundw
      case rel => exact ⟨k + 1, _, by omega, by go_num, rfl, by (repeat' (first | (with_reducible assumption) | (with_reducible exact Wb.Ext.refl _) | (with_reducible refine Wb.Ext.drew ?_) | (with_reducible refine Wb.Ext.drewN ?_ _) | (with_reducible refine Wb.Ext.alloc ?_ _) | (with_reducible refine Wb.Ext.trans ?_ (by assumption))))⟩
      case measure => simp [intOf]; omega
    · go_wp2
      go_ret
      exact ⟨_, rfl, by (repeat' (first | (with_reducible assumption) | (with_reducible exact Wb.Ext.refl _) | (with_reducible refine Wb.Ext.drew ?_) | (with_reducible refine Wb.Ext.drewN ?_ _) | (with_reducible refine Wb.Ext.alloc ?_ _) | (with_reducible refine Wb.Ext.trans ?_ (by assumption))))⟩

/-- items in memory: the codes and the amounts of these lines -/
def Its (w : World) (v : Value) (l : List Wb.Ln) : Prop :=
  (l = [] ∧ ∃ a cap, v = .slice a 0 cap) ∨ ∃ b off cap, v = .slice (some ⟨b, off, none⟩) l.length cap ∧ ∀ j x, l[j]? = some x →
    w.cell? ⟨b, off + j * 2, none⟩ = some (.string (Wb.S x.code)) ∧ w.cell? ⟨b, off + j * 2 + 1, none⟩ = some (.int .i64 x.cents)
theorem Its.ext {w w' : World} {v : Value} {l : List Wb.Ln} (h : Its w v l) (k : Wb.Ext w w') : Its w' v l := by
  rcases h with h | ⟨b, off, cap, h1, h2⟩
  · exact .inl h
  · exact .inr ⟨b, off, cap, h1, fun j x hj => ⟨k.keep (h2 j x hj).1, k.keep (h2 j x hj).2⟩⟩
theorem Its.shape {w : World} {v : Value} {l : List Wb.Ln} (h : Its w v l) : ∃ a cap, v = .slice a l.length cap := by
  rcases h with ⟨rfl, a, cap, rfl⟩ | ⟨b, off, cap, rfl, _⟩
  · exact ⟨_, _, rfl⟩
  · exact ⟨_, _, rfl⟩
theorem Its.opened {w : World} {a : Option Addr} {n cap : Nat} {l : List Wb.Ln} (h : Its w (.slice a n cap) l) (hne : l ≠ []) : ∃ b off, a = some ⟨b, off, none⟩ ∧ ∀ j x, l[j]? = some x →
    w.cell? ⟨b, off + j * 2, none⟩ = some (.string (Wb.S x.code)) ∧ w.cell? ⟨b, off + j * 2 + 1, none⟩ = some (.int .i64 x.cents) := by
  rcases h with ⟨h, _⟩ | ⟨b, off, cap, hv, hc⟩
  · exact absurd h hne
  · cases hv; exact ⟨b, off, rfl, hc⟩

theorem items_any (v u : Value) (l : List Wb.Ln) (w : World) (hv : Its w v l) (hu : Its w u l) (hn : l.length ≤ 4398046511104) :
    Calls Tryd.prog 16 #[v, u] w fun e w' => e = .returned (.bool true) ∧ Wb.Ext w w' := by
  obtain ⟨a, cap, rfl⟩ := hv.shape
  obtain ⟨a2, cap2, rfl⟩ := hu.shape
  have HV := Lib.hid hv; clear hv
  have HU := Lib.hid hu; clear hu
  go_enter Tryd.func16, Tryd.ntmps16
  go_wp2
  go_loopw [13] (fun iv wr => ∃ k : Nat, k ≤ l.length ∧ iv = .int .i64 k ∧ Wb.Ext w wr) (fun iv _ => l.length - (intOf iv).toNat)
  case atStart => exact ⟨0, by omega, rfl, by (repeat' (first | (with_reducible assumption) | (with_reducible exact Wb.Ext.refl _) | (with_reducible refine Wb.Ext.drew ?_) | (with_reducible refine Wb.Ext.drewN ?_ _) | (with_reducible refine Wb.Ext.alloc ?_ _) | (with_reducible refine Wb.Ext.trans ?_ (by assumption))))⟩
  case round =>
    obtain ⟨k, hk, rfl, hext⟩ := hrel
    by_cases hlt : k < l.length
    · obtain ⟨x, hx⟩ := Wb.get_ex hlt
      obtain ⟨b, off, rfl, hcells⟩ := (HV.out.ext hext).opened (ne_of_lt hlt)
      obtain ⟨hc1, hc2⟩ := hcells k x hx
      obtain ⟨b2, off2, rfl, hcells2⟩ := (HU.out.ext hext).opened (ne_of_lt hlt)
      obtain ⟨hd1, hd2⟩ := hcells2 k x hx
      clear hcells hcells2 hx
      go_wp2
      go_region_with fail
      all_goals
        go_wp2
        go_roundw
        case rel => exact ⟨k + 1, by omega, by go_num, by (repeat' (first | (with_reducible assumption) | (with_reducible exact Wb.Ext.refl _) | (with_reducible refine Wb.Ext.drew ?_) | (with_reducible refine Wb.Ext.drewN ?_ _) | (with_reducible refine Wb.Ext.alloc ?_ _) | (with_reducible refine Wb.Ext.trans ?_ (by assumption))))⟩
        case measure => simp [intOf]; omega
    · go_wp2
      go_ret
      exact ⟨rfl, by (repeat' (first | (with_reducible assumption) | (with_reducible exact Wb.Ext.refl _) | (with_reducible refine Wb.Ext.drew ?_) | (with_reducible refine Wb.Ext.drewN ?_ _) | (with_reducible refine Wb.Ext.alloc ?_ _) | (with_reducible refine Wb.Ext.trans ?_ (by assumption))))⟩

end Go.Proofs.YtpiedhjjpmmomaaDoor
