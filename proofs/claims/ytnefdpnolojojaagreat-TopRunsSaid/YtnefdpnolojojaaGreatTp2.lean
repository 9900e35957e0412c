/- TopRuns: nets: the net of slips. -/
import Derived.Test.YtnefdpnolojojaaGreatTp1
import Derived.Test.YtnefdpnolojojaaGreatMDb
namespace Go.Proofs.YtnefdpnolojojaaGreat
open Go.RowKit Go.Sort Go.Lib Go.Maps
set_option maxRecDepth 8000
attribute [local go_sem ↓] Go.wp_at_zero Go.wp_at_succ

theorem nlS_snoc {L : List Wb.Sl} {k : Nat} {s : Wb.Sl} (h : L[k]? = some s) : Wb.nlS (L.take (k + 1)) = Wb.nlS (L.take k) + Wb.nl s.l := by
  unfold Wb.nlS
  rw [take_snoc h, List.map_append, List.sum_append]; simp
set_option maxHeartbeats 4000000 in
theorem netsT_any (v : Value) (L : List Wb.Sl) (w : World) (hL : Sls w v L) (hl : L.length ≤ 1000) (hE : ∀ s ∈ L, (Wb.sums s.y s.i s.l).2.2.2.2 = 0) :
    Calls Tryz.prog 16 #[v] w fun e w' => e = .returned (.tuple #[.int .i64 (Wb.nlS L), .bool true]) ∧ Wb.Ext w w' := by
  obtain ⟨va, vc, rfl⟩ := hL.1.shape
  have HL := Lib.hid hL
  have HE := Lib.hid hE
  clear hL hE
  go_enter Tryz.func16, Tryz.ntmps16
  go_wp2_with fail
  go_loopw [14, 4] (fun iv sv wr => ∃ (k : Nat) (acc : Int), k ≤ L.length ∧ iv = .int .i64 k ∧ sv = .int .i64 acc ∧ Hid (acc = Wb.nlS (L.take k)) ∧ (-(1125899906842624 * k : Int) ≤ acc ∧ acc ≤ 1125899906842624 * k) ∧ Wb.Ext w wr) (fun iv _ _ => L.length - (intOf iv).toNat)
  case atStart => exact ⟨0, 0, Nat.zero_le _, rfl, rfl, Lib.hid rfl, by omega, .refl _⟩
  case round =>
    obtain ⟨k, acc, hk, rfl, rfl, HA, hb, hext⟩ := hrel
    by_cases hlt : k < L.length
    · obtain ⟨s, hs⟩ := Wb.get_ex hlt
      obtain ⟨b, off, rfl, c0, c1, c2⟩ := (HL.out.ext hext).cells hs
      have hki : (k : Int) < L.length := by omega
      have HD := Lib.hid (nlS_snoc hs)
      have HS := Lib.hid ((HL.out.ext hext).2 s (List.mem_of_getElem? hs))
      have hes := HE.out s (List.mem_of_getElem? hs)
      clear hs
      obtain ⟨sa, sc, hsv⟩ := HS.out.1.1.shape
      rw [hsv] at c2
      have HSV := Lib.hid hsv
      have HS1 := Lib.hid (show Lns wr (.slice sa s.l.length sc) s.l by have := HS.out.1.1; rwa [hsv] at this)
      clear hsv
      obtain ⟨⟨q1, q2, q3, q4, q5⟩, hq⟩ : ∃ q, Wb.sums s.y s.i s.l = q := ⟨_, rfl⟩
      have hq3 : q3 = Wb.nl s.l := by have := Wb.sums_net hes; rw [hq] at this; exact this
      have hq5 : q5 = 0 := by rw [hq] at hes; exact hes
      have hf := Wb.sums_fit hes
      have HQ := Lib.hid hq
      have HQ3 := Lib.hid hq3
      rw [← hq3] at hf
      subst hq5
      clear hq hq3 hes
      have hwr : IntKind.i64.wrap (acc + q3) = acc + q3 := IntWalk.i64_in _ (by omega)
      have hwr2 : wrap64 (acc + q3) = acc + q3 := IntWalk.wrap64_in _ (by omega)
      go_wp2_with fail
      go_fit (sums_any s.y s.i _ s.l _ (HS1.out.ext (by (repeat' (first | (with_reducible assumption) | (with_reducible exact Wb.Ext.refl _) | (with_reducible refine Wb.Ext.drew ?_) | (with_reducible refine Wb.Ext.drewN ?_ _) | (with_reducible refine Wb.Ext.alloc ?_ _) | (with_reducible refine Wb.ext_set ?_ (by first | assumption | (simp; done) | (simp; omega) | omega) _) | (with_reducible refine Wb.Ext.trans ?_ (by assumption)))))) HS.out.2); rintro e w2 ⟨rfl, hb2⟩
      rw [HQ.out]
      have hx2 : Wb.Ext w w2 := hext.trans (Wb.Ext.trans (by (repeat' (first | (with_reducible assumption) | (with_reducible exact Wb.Ext.refl _) | (with_reducible refine Wb.Ext.drew ?_) | (with_reducible refine Wb.Ext.drewN ?_ _) | (with_reducible refine Wb.Ext.alloc ?_ _) | (with_reducible refine Wb.ext_set ?_ (by first | assumption | (simp; done) | (simp; omega) | omega) _) | (with_reducible refine Wb.Ext.trans ?_ (by assumption))))) hb2)
      clear hb2 c0 c1 c2
      go_wp2
      go_roundw
      case rel => exact ⟨k + 1, acc + q3, by omega, by go_num, rfl, Lib.hid (by rw [HD.out, HA.out, HQ3.out]), ⟨by omega, by omega⟩, hx2⟩
      case measure => first | (simp [intOf]; done) | (simp [intOf]; omega)
    · obtain rfl : k = L.length := by omega
      have HN := Lib.hid (show acc = Wb.nlS L by rw [HA.out, List.take_length])
      go_wp2
      refine bodyPost_ret (v := .tuple #[.int .i64 acc, .bool true]) (by simp [results, Tryz.results16, go_sem]) rfl ⟨by rw [HN.out], hext⟩
end Go.Proofs.YtnefdpnolojojaaGreat
