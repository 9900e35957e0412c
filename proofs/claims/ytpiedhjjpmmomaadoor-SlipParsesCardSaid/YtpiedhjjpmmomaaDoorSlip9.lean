/- Chapter 27: a part's lines, the reference's. -/
import Derived.Test.YtpiedhjjpmmomaaDoorSlip8
import Derived.Deep.RegionHeldLaw
import Derived.Deep.AppendLies
namespace Go.Proofs.YtpiedhjjpmmomaaDoor
open Go.RowKit
set_option maxRecDepth 4000

set_option maxHeartbeats 1000000 in
theorem rpart_any (y i : Int) (v : Value) (l : List Wb.Ln) (p : Int) (w : World) (hl : Lns w v l) (hs : Sized l) :
    Calls Tryd.prog 18 #[.agg #[.int .i64 y, .int .i64 i, v], .int .i64 p] w fun e w' => ∃ u, e = .returned u ∧ Its w' u (Wb.partOf p l) ∧ Wb.Ext w w' := by
  obtain ⟨i0, hi, hz0, hz1, hz2⟩ := info_parts infoItem
  have HIN := Lib.hid (show Tryd.prog.info? 37 = some i0 ∧ i0.zero = some (.agg #[.string "".toUTF8, .int .i64 0]) ∧ i0.size = 2 ∧ i0.bytes = 24 from ⟨hi, hz0, hz1, hz2⟩)
  clear hi hz0 hz1 hz2
  obtain ⟨a, cap, rfl⟩ := hl.shape
  have HL := Lib.hid hl; clear hl
  have hlen := hs.1
  have HS := Lib.hid hs; clear hs
  go_enter Tryd.func18, Tryd.ntmps18
  go_wp2
  go_loopw [5, 6] (fun ov iv wr => ∃ (k m : Nat) (u : Value), k ≤ l.length ∧ m ≤ k ∧ iv = .int .i64 k ∧ ov = u ∧ wr.ownsRow (w.heap.size + 1) 37 2 u m (itvs (Wb.partOf p (l.take k))) ∧ Wb.Ext (w.alloc (.cells #[.int .i64 y, .int .i64 i, .slice a l.length cap] 24)) wr) (fun _ iv _ => l.length - (intOf iv).toNat)
  case atStart => exact ⟨0, 0, _, by omega, by omega, rfl, rfl, World.ownsRow_nil _ _ _ _, by (repeat' (first | (with_reducible assumption) | (with_reducible exact Wb.Ext.refl _) | (with_reducible refine Wb.Ext.drew ?_) | (with_reducible refine Wb.Ext.drewN ?_ _) | (with_reducible refine Wb.Ext.alloc ?_ _) | (with_reducible refine Wb.Ext.trans ?_ (by assumption))))⟩
  case round =>
    obtain ⟨k, m, u, hk, hm, rfl, rfl, hown, hext⟩ := hrel
    have HO := Lib.hid hown; clear hown
    have hew : Wb.Ext w wr := by (repeat' (first | (with_reducible assumption) | (with_reducible exact Wb.Ext.refl _) | (with_reducible refine Wb.Ext.drew ?_) | (with_reducible refine Wb.Ext.drewN ?_ _) | (with_reducible refine Wb.Ext.alloc ?_ _) | (with_reducible refine Wb.Ext.trans ?_ (by assumption))))
    have hsz := hext.size
    have hz1 : w.heap.size < wr.heap.size := by simp at hsz; omega
    obtain ⟨hce, hfe⟩ := hext.cells
    by_cases hlt : k < l.length
    · obtain ⟨x, hx⟩ := Wb.get_ex hlt
      obtain ⟨b, off, rfl, hcells⟩ := HL.out.opened (ne_of_lt hlt)
      obtain ⟨hcp0, hcx0, hcn0⟩ := hcells k x hx
      clear hcells
      have hcp := hew.keep hcp0
      have hcx := hew.keep hcx0
      have hcn := hew.keep hcn0
      have HX0 := Lib.hid hcx0
      have HN0 := Lib.hid hcn0
      have hbs := Wb.cell_size hcp
      clear hcp0 hcx0 hcn0
      have HT := Lib.hid (Wb.partOf_snoc (p := p) hx)
      clear hx
      cases h1 : (x.part == p)
      · have HI := Lib.hid (show ¬ x.part = p by simpa using h1)
        go_wp2
        go_roundw
        case rel => exact ⟨k + 1, m, _, by omega, by omega, by go_num, rfl, by rw [HT.out, if_neg HI.out]; exact HO.out, by (repeat' (first | (with_reducible assumption) | (with_reducible exact Wb.Ext.refl _) | (with_reducible refine Wb.Ext.drew ?_) | (with_reducible refine Wb.Ext.drewN ?_ _) | (with_reducible refine Wb.Ext.alloc ?_ _) | (with_reducible refine Wb.Ext.trans ?_ (by assumption))))⟩
        case measure => simp [intOf]; omega
      · have HI := Lib.hid (show x.part = p by simpa using h1)
        obtain ⟨hi, hz0, hz1', hz2⟩ := HIN.out
        go_wp2_with fail
        have hbx : wr.cell? ⟨w.heap.size, 2, none⟩ = some (.slice (some ⟨b, off, none⟩) l.length cap) := hext.keep (by simp [go_sem])
        go_region_held_law (fun w' => w'.cell? ⟨w.heap.size, 2, none⟩ = some (.slice (some ⟨b, off, none⟩) l.length cap) ∧ w'.cell? ⟨b, off + k * 3 + 1, none⟩ = some (.string (Wb.S x.code)) ∧ w'.cell? ⟨b, off + k * 3 + 2, none⟩ = some (.int .i64 x.cents)) (first | exact ⟨hbx, hcx, hcn⟩ | go_keep | (have he := Wb.Ext.grown (w := w.alloc (.cells #[.int .i64 y, .int .i64 i, .slice (some ⟨b, off, none⟩) l.length cap] 24)) (by (repeat' (first | (with_reducible assumption) | (with_reducible exact Wb.Ext.refl _) | (with_reducible refine Wb.Ext.drew ?_) | (with_reducible refine Wb.Ext.drewN ?_ _) | (with_reducible refine Wb.Ext.alloc ?_ _) | (with_reducible refine Wb.Ext.trans ?_ (by assumption))))) hgrow (by intro q hq; have := HO.out.lt q hq; simp; omega); exact ⟨he.keep (by simp [go_sem]), (Wb.Ext.trans ((Wb.Ext.refl w).alloc _) he).keep HX0.out, (Wb.Ext.trans ((Wb.Ext.refl w).alloc _) he).keep HN0.out⟩)) ((refine step_append_lies _ (by rfl) _ _ _ (by rfl) (w.heap.size + 1) 37 i0 (.agg #[.string "".toUTF8, .int .i64 0]) 2 24 Tryd.underlying33 hi hz0 hz1' hz2 (by rfl) (by decide) _ _ _ (by rfl) (HO.out.alloc _) _ 1 _ (itv x) (by rfl) (by rfl) (World.news_of_block (heap_alloc_new _ _)) (by intro u hu; simp [itv] at hu; rcases hu with rfl | rfl <;> rfl) (by decide) (by unfold maxLen; omega) (by omega) (by simp; omega) (wr.heap.size + 1) (by simp) ?_; intro g cap2 w1 hown1 hgrow hat hlt1))
        have he2 := Wb.Ext.grown (w := w.alloc (.cells #[.int .i64 y, .int .i64 i, .slice (some ⟨b, off, none⟩) l.length cap] 24)) (by (repeat' (first | (with_reducible assumption) | (with_reducible exact Wb.Ext.refl _) | (with_reducible refine Wb.Ext.drew ?_) | (with_reducible refine Wb.Ext.drewN ?_ _) | (with_reducible refine Wb.Ext.alloc ?_ _) | (with_reducible refine Wb.Ext.trans ?_ (by assumption))))) hgrow (by intro q hq; have := HO.out.lt q hq; simp; omega)
        have HO2 := Lib.hid hown1
        clear hown1 hi hz0 hz1' hz2 hgrow
        go_wp2
        go_roundw
        case rel => exact ⟨k + 1, m + 1, _, by omega, by omega, by go_num, rfl, by rw [HT.out, if_pos HI.out, itvs_app]; simpa [itvs] using HO2.out, by (repeat' (first | (with_reducible assumption) | (with_reducible exact Wb.Ext.refl _) | (with_reducible refine Wb.Ext.drew ?_) | (with_reducible refine Wb.Ext.drewN ?_ _) | (with_reducible refine Wb.Ext.alloc ?_ _) | (with_reducible refine Wb.Ext.trans ?_ (by assumption))))⟩
        case measure => simp [intOf]; omega
    · have HR := Lib.hid (show Wb.partOf p (l.take k) = Wb.partOf p l by rw [List.take_of_length_le (by omega)])
      have HI := its_of_row HO.out
      rw [HR.out] at HI
      have HJ := Lib.hid HI; clear HI
      go_wp2
      go_ret
      exact ⟨_, rfl, HJ.out, by (repeat' (first | (with_reducible assumption) | (with_reducible exact Wb.Ext.refl _) | (with_reducible refine Wb.Ext.drew ?_) | (with_reducible refine Wb.Ext.drewN ?_ _) | (with_reducible refine Wb.Ext.alloc ?_ _) | (with_reducible refine Wb.Ext.trans ?_ (by assumption))))⟩

end Go.Proofs.YtpiedhjjpmmomaaDoor
