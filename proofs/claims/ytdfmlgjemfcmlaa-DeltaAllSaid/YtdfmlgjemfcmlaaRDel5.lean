/- The reference of chapter 29: Find; plain facts on what it finds. -/
import Derived.Test.YtdfmlgjemfcmlaaDelM
import Derived.Test.YtdfmlgjemfcmlaaDLawNets
import Derived.Deep.QuietTactic
import Derived.BigQuiet
namespace Go.Proofs.Ytdfmlgjemfcmlaa
open Go.RowKit Go.Lib
set_option maxRecDepth 8000
attribute [local go_sem ↓] Go.wp_at_zero Go.wp_at_succ

def findV (L : List Wb.Sl) (p : Int × Int) (d : Value) : Value := match Wb.findS L p with
  | none => d
  | some s => slV s
theorem find_at {L : List Wb.Sl} {k : Nat} {s : Wb.Sl} {p : Int × Int} (h : ∀ t ∈ L.take k, Wb.perS t ≠ p) (hs : L[k]? = some s) (hp : Wb.perS s = p) : Wb.findS L p = some s := by
  obtain ⟨h1, h2⟩ := List.getElem?_eq_some_iff.1 hs
  have e : L = L.take k ++ s :: L.drop (k + 1) := by
    conv => lhs; rw [← List.take_append_drop k L, List.drop_eq_getElem_cons h1, h2]
  rw [e]
  unfold Wb.findS
  rw [List.find?_append, List.find?_eq_none.2 (by intro t ht; simpa using h t ht)]
  simp [hp]
theorem find_end {L : List Wb.Sl} {p : Int × Int} (h : ∀ t ∈ L, Wb.perS t ≠ p) : Wb.findS L p = none := List.find?_eq_none.2 (by intro t ht; simpa using h t ht)
theorem take_ne {L : List Wb.Sl} {k : Nat} {s : Wb.Sl} {p : Int × Int} (h : ∀ t ∈ L.take k, Wb.perS t ≠ p) (hs : L[k]? = some s) (hp : Wb.perS s ≠ p) : ∀ t ∈ L.take (k + 1), Wb.perS t ≠ p := by
  intro t ht
  obtain ⟨h1, h2⟩ := List.getElem?_eq_some_iff.1 hs
  rw [List.take_succ_eq_append_getElem h1, h2] at ht
  rcases List.mem_append.1 ht with ht | ht
  · exact h t ht
  · simp at ht; subst ht; exact hp
set_option maxHeartbeats 4000000 in
theorem rfind_any (v : Value) (L : List Wb.Sl) (y i : Int) (ha : Option Addr) (hn hc : Nat) (y0 i0 : Int) (na : Option Addr) (nn nc : Nat) (w : World) (hL : Tbl 3 slc w v L) (hs : ∀ s ∈ L, ∃ a n c, s.v = .slice a n c) (hl : L.length ≤ 9223372036854775807) :
    Calls Try.prog 27 #[v, SlV y i (.slice ha hn hc), SlV y0 i0 (.slice na nn nc)] w fun e w' => e = .returned (findV L (y, i) (SlV y0 i0 (.slice na nn nc))) ∧ Wb.Ext w w' := by
  obtain ⟨va, vc, rfl⟩ := hL.shape
  have HL := Lib.hid hL
  have HS := Lib.hid hs
  clear hL hs
  go_enter Try.func27, Try.ntmps27
  go_upto_region 1 with (fail)
  refine Wb.wp_at fun W0 hW0 => ?_
  obtain ⟨X, hX⟩ : ∃ X, w.heap.size = X := ⟨_, rfl⟩
  have hb0 : Wb.Ext w W0 := by rw [hW0]; (repeat' (first | (with_reducible assumption) | (with_reducible exact Wb.Ext.refl _) | (with_reducible refine Wb.Ext.drew ?_) | (with_reducible refine Wb.Ext.drewN ?_ _) | (with_reducible refine Wb.Ext.alloc ?_ _) | (with_reducible refine Wb.ext_set ?_ (by first | assumption | (simp; done) | (simp; omega) | omega) _) | (with_reducible refine Wb.Ext.trans ?_ (by assumption))))
  have h0 : W0.cell? ⟨X, 0, none⟩ = some (.int .i64 y) := by rw [hW0, ← hX]; simp [go_sem]
  have h1 : W0.cell? ⟨X, 1, none⟩ = some (.int .i64 i) := by rw [hW0, ← hX]; simp [go_sem]
  have n0 : W0.cell? ⟨X + 1, 0, none⟩ = some (.int .i64 y0) := by rw [hW0, ← hX]; simp [go_sem]
  have n1 : W0.cell? ⟨X + 1, 1, none⟩ = some (.int .i64 i0) := by rw [hW0, ← hX]; simp [go_sem]
  have n2 : W0.cell? ⟨X + 1, 2, none⟩ = some (.slice na nn nc) := by rw [hW0, ← hX]; simp [go_sem]
  have r0 : W0.cell? ⟨X + 1 + 1, 0, none⟩ = some (.int .i64 0) := by rw [hW0, ← hX]; simp [go_sem]
  have r1 : W0.cell? ⟨X + 1 + 1, 1, none⟩ = some (.int .i64 0) := by rw [hW0, ← hX]; simp [go_sem]
  have r2 : W0.cell? ⟨X + 1 + 1, 2, none⟩ = some (.slice none 0 0) := by rw [hW0, ← hX]; simp [go_sem]
  have rf : ∀ j, W0.frozen? ⟨X + 1 + 1, j, none⟩ = false := fun j => by rw [hW0, ← hX]; simp [go_sem]
  have hXl : X + 1 + 1 < W0.heap.size := by rw [hW0, ← hX]; simp
  have hXw : w.heap.size ≤ X + 1 + 1 := by omega
  rw [hX]
  clear hW0 hX
  go_wp2_with fail
  go_loopw [7] (fun iv wr => ∃ k : Nat, k ≤ L.length ∧ iv = .int .i64 k ∧ Hid (∀ t ∈ L.take k, Wb.perS t ≠ (y, i)) ∧ Wb.Ext W0 wr) (fun iv _ => L.length - (intOf iv).toNat)
  case atStart => exact ⟨0, Nat.zero_le _, rfl, Lib.hid (fun t ht => by simp at ht), by (repeat' (first | (with_reducible assumption) | (with_reducible exact Wb.Ext.refl _) | (with_reducible refine Wb.Ext.drew ?_) | (with_reducible refine Wb.Ext.drewN ?_ _) | (with_reducible refine Wb.Ext.alloc ?_ _) | (with_reducible refine Wb.Ext.trans ?_ (by assumption))))⟩
  case round =>
    obtain ⟨k, hk, rfl, HN, hxr⟩ := hrel
    have h0 := hxr.keep h0
    have h1 := hxr.keep h1
    have n0 := hxr.keep n0
    have n1 := hxr.keep n1
    have n2 := hxr.keep n2
    have r0 := hxr.keep r0
    have r1 := hxr.keep r1
    have r2 := hxr.keep r2
    have rf : ∀ j, wr.frozen? ⟨X + 1 + 1, j, none⟩ = false := fun j => (Below.frozen hxr (by simpa using hXl)).trans (rf j)
    have hxw : Wb.Ext w wr := hb0.trans hxr
    by_cases hlt : k < L.length
    case neg =>
      obtain rfl : k = L.length := by omega
      have HF := Lib.hid (show findV L (y, i) (SlV y0 i0 (.slice na nn nc)) = SlV y0 i0 (.slice na nn nc) by rw [findV, find_end (by have := HN.out; rwa [List.take_length] at this)])
      go_wp2
      refine bodyPost_ret (v := SlV y0 i0 (.slice na nn nc)) (by simp [results, Try.results27, go_sem, r0, r1, r2]) rfl ⟨by rw [HF.out], by (repeat' (first | (with_reducible assumption) | (with_reducible exact Wb.Ext.refl _) | (with_reducible refine Wb.Ext.drew ?_) | (with_reducible refine Wb.Ext.drewN ?_ _) | (with_reducible refine Wb.Ext.alloc ?_ _) | (with_reducible refine Wb.ext_set ?_ (by first | assumption | (simp; done) | (simp; omega) | omega) _) | (with_reducible refine Wb.Ext.trans ?_ (by assumption))))⟩
    obtain ⟨s, hx⟩ := Wb.get_ex hlt
    obtain ⟨b, off, rfl, hcells⟩ := (HL.out.ext hxw).opened (tne hlt)
    have c0 := hcells _ s hx 0 _ rfl
    have c1 := hcells _ s hx 1 _ rfl
    have c2 := hcells _ s hx 2 _ rfl
    simp only [Nat.add_zero] at c0
    obtain ⟨sa, sn, sc, hsv⟩ := HS.out s (List.mem_of_getElem? hx)
    rw [hsv] at c2
    have hki : (k : Int) < L.length := by omega
    have HX := Lib.hid hx
    have HSV := Lib.hid hsv
    clear hx hsv hcells
    by_cases hy : s.y = y
    case neg =>
      have d1 : (s.y == y) = false := by simpa using hy
      have HN2 := Lib.hid (take_ne HN.out HX.out (by intro e; exact hy (congrArg Prod.fst e)))
      clear hy
      go_wp2_with fail
      go_quiet (fail)
      go_wp2
      go_roundw
      case rel => exact ⟨k + 1, by omega, by go_num, HN2, by (repeat' (first | (with_reducible assumption) | (with_reducible exact Wb.Ext.refl _) | (with_reducible refine Wb.Ext.drew ?_) | (with_reducible refine Wb.Ext.drewN ?_ _) | (with_reducible refine Wb.Ext.alloc ?_ _) | (with_reducible refine Wb.Ext.trans ?_ (by assumption))))⟩
      case measure => first | (simp [intOf]; done) | (simp [intOf]; omega)
    have d1 : (s.y == y) = true := by simpa using hy
    by_cases hi : s.i = i
    case neg =>
      have d2 : (s.i == i) = false := by simpa using hi
      have HN2 := Lib.hid (take_ne HN.out HX.out (by intro e; exact hi (congrArg Prod.snd e)))
      clear hi
      go_wp2_with fail
      go_quiet (fail)
      go_wp2
      go_roundw
      case rel => exact ⟨k + 1, by omega, by go_num, HN2, by (repeat' (first | (with_reducible assumption) | (with_reducible exact Wb.Ext.refl _) | (with_reducible refine Wb.Ext.drew ?_) | (with_reducible refine Wb.Ext.drewN ?_ _) | (with_reducible refine Wb.Ext.alloc ?_ _) | (with_reducible refine Wb.Ext.trans ?_ (by assumption))))⟩
      case measure => first | (simp [intOf]; done) | (simp [intOf]; omega)
    have d2 : (s.i == i) = true := by simpa using hi
    have HF := Lib.hid (show findV L (y, i) (SlV y0 i0 (.slice na nn nc)) = SlV s.y s.i (.slice sa sn sc) by
      rw [findV, find_at HN.out HX.out (by rw [← hy, ← hi]; rfl), ← HSV.out])
    clear hy hi
    go_wp2_with fail
    go_quiet (fail)
    go_wp2
    refine bodyPost_ret (v := SlV s.y s.i (.slice sa sn sc)) (by simp [results, Try.results27, go_sem, r0, r1, r2]) rfl ⟨by rw [HF.out], by (repeat' (first | (with_reducible assumption) | (with_reducible exact Wb.Ext.refl _) | (with_reducible refine Wb.Ext.drew ?_) | (with_reducible refine Wb.Ext.drewN ?_ _) | (with_reducible refine Wb.Ext.alloc ?_ _) | (with_reducible refine Wb.ext_set ?_ (by first | assumption | (simp; done) | (simp; omega) | omega) _) | (with_reducible refine Wb.Ext.trans ?_ (by assumption))))⟩

namespace Wb
theorem map_per {D : List Sl} : D.map perS = (D.map ct).map fun c => (c.1, c.2.1) := by rw [List.map_map]; rfl
/-- a list made of periods, in order -/
theorem find_R {R : List Sl} {ps : List (Int × Int)} {g : Int × Int → List Ln} (h : R.map ct = ps.map fun p => (p.1, p.2, g p)) (hp : ps.Pairwise fun a b => prLt a b = true) {p : Int × Int} (hm : p ∈ ps) : ∃ r ∈ R, findS R p = some r ∧ r.y = p.1 ∧ r.i = p.2 ∧ r.l = g p := by
  have e : R.map perS = ps := by rw [map_per, h, List.map_map]; exact (List.map_congr_left fun p _ => rfl).trans (List.map_id ps)
  have hr : RiseP R := by
    have := hp
    rw [← e, List.pairwise_map] at this
    exact this
  rw [← e] at hm
  obtain ⟨r, hr1, hr2⟩ := List.mem_map.1 hm
  have hf := find_some hr hr1
  rw [hr2] at hf
  have hc : ct r ∈ R.map ct := List.mem_map.2 ⟨r, hr1, rfl⟩
  rw [h] at hc
  obtain ⟨q, _, hq⟩ := List.mem_map.1 hc
  have hqp : q = p := by
    rw [← hr2]
    have e1 := congrArg (fun c => (c.1, c.2.1)) hq
    simp [ct, perS] at e1 ⊢
    exact Prod.ext e1.1 e1.2
  subst hqp
  refine ⟨r, hr1, hf, ?_, ?_, ?_⟩
  · exact (congrArg (fun c => c.1) hq).symm
  · exact (congrArg (fun c => c.2.1) hq).symm
  · exact (congrArg (fun c => c.2.2) hq).symm
theorem adds_law {A B D : List Sl} (h : allF A B = (0, D.map ct)) (hl : D.length ≤ 4096) : ∃ ps, PerOf A B ps ∧ D.map perS = ps ∧ addF A D = (0, ps.map fun p => (p.1, p.2, linesO (findS B p))) ∧ (∀ s ∈ B, check s.y s.i s.l = 0) ∧ RiseP B := by
  obtain ⟨h1, h2, h3⟩ := allF_ok h
  obtain ⟨_, ca, ra⟩ := list_ok h1
  obtain ⟨_, cb, rb⟩ := list_ok h2
  have hps := heads_of A B
  obtain ⟨ps, hpse⟩ : ∃ ps, headsP (A ++ B) = ps := ⟨_, rfl⟩
  rw [hpse] at h3 hps
  obtain ⟨h4, h5⟩ := all_ok h3
  rw [List.nil_append] at h4
  have hd : ∀ p ∈ ps, (ofC (conO (findS A p)) (conO (findS B p))).2.1 = p.1 ∧ (ofC (conO (findS A p)) (conO (findS B p))).2.2.1 = p.2 := fun p hp => by
    obtain ⟨e1, e2, _⟩ := of_head ca cb ((hps.2 p).1 hp) (h5 p hp)
    exact ⟨e1, e2⟩
  have hDp : D.map perS = ps := by
    rw [map_per, h4, List.map_map]
    refine (List.map_congr_left fun p hp => ?_).trans (List.map_id ps)
    obtain ⟨e1, e2⟩ := hd p hp
    exact Prod.ext e1 e2
  have hmem : ∀ s ∈ D, perS s ∈ ps ∧ ct s = (ofC (conO (findS A (perS s))) (conO (findS B (perS s)))).2 := fun s hs => by
    have hc : ct s ∈ D.map ct := List.mem_map.2 ⟨s, hs, rfl⟩
    rw [h4] at hc
    obtain ⟨p, hp, e⟩ := List.mem_map.1 hc
    obtain ⟨e1, e2⟩ := hd p hp
    have hpp : perS s = p := by
      have e3 := congrArg (fun c => (c.1, c.2.1)) e
      have e4 : ((ofC (conO (findS A p)) (conO (findS B p))).2.1, (ofC (conO (findS A p)) (conO (findS B p))).2.2.1) = perS s := e3
      rw [e1, e2] at e4
      exact e4.symm
    rw [hpp]; exact ⟨hp, e.symm⟩
  obtain ⟨st, g1, g2, _⟩ := adds_all ca cb D (startS A) (fun s hs => (hps.2 _).1 (hmem s hs).1) (fun s hs => ⟨h5 _ (hmem s hs).1, (hmem s hs).2⟩) (by
    have := hps.1
    rw [← hDp, List.pairwise_map] at this
    exact this.imp fun hab => pr_ne hab) (fun s hs => rfl)
  have hAD : headsP (A ++ D) = ps := (heads_of A D).uniq ⟨hps.1, fun p => by
    constructor
    · intro hp
      rw [← hDp] at hp
      obtain ⟨s, hs, e⟩ := List.mem_map.1 hp
      exact .inr ⟨s, hs, e⟩
    · rintro (⟨s, hs, e⟩ | ⟨s, hs, e⟩)
      · exact (hps.2 p).2 (.inl ⟨s, hs, e⟩)
      · rw [← e]; exact (hmem s hs).1⟩
  refine ⟨ps, hps, hDp, ?_, cb, rb⟩
  rw [addF, if_neg (by omega), if_neg (by omega), g1, if_neg (by simp), hAD]
  congr 1
  refine List.map_congr_left fun p hp => ?_
  rw [← hDp] at hp
  obtain ⟨s, hs, e⟩ := List.mem_map.1 hp
  rw [← e]
  show ((perS s).1, (perS s).2, st (perS s)) = _
  rw [g2 s hs]
end Wb

end Go.Proofs.Ytdfmlgjemfcmlaa
