/- Several texts in one. -/
import Derived.Test.YtdfmlgjemfcmlaaMap2
import Derived.Test.YtdfmlgjemfcmlaaPlain29m
import Derived.Test.YtdfmlgjemfcmlaaDel7
import Derived.Test.YtdfmlgjemfcmlaaDel6
import Derived.Deep.DeepCutAuto
import Derived.Deep.CutBlock
import Derived.IntWalk
import Derived.Test.YtdfmlgjemfcmlaaTbl
import Derived.Lib.SliceRun
import Derived.Laws.StructEq
import Derived.Laws.Cover2
import Derived.Lib.LazyBuf
import Derived.Deep.QuietTactic
import Derived.BigQuiet
import Derived.Test.YtdfmlgjemfcmlaaDel4
import Derived.Test.YtdfmlgjemfcmlaaApp1
/- Maps of package delta: slips by their periods. -/
namespace Go.Proofs.Ytdfmlgjemfcmlaa
open Go.RowKit Go.Maps

/-- may a period be a key? -/
def PrOk (p : Int × Int) : Prop := (Lit.int .i64 p.1).wf = true ∧ (Lit.int .i64 p.2).wf = true
theorem prOk_of {p : Int × Int} (h1 : -9223372036854775808 ≤ p.1 ∧ p.1 ≤ 9223372036854775807) (h2 : -9223372036854775808 ≤ p.2 ∧ p.2 ≤ 9223372036854775807) : PrOk p := by
  constructor <;> (simp [Lit.wf, IntKind.min, IntKind.max, IntKind.signed, IntKind.bits]; omega)
theorem prOk_bd {p : Int × Int} (h : PrOk p) : (-9223372036854775808 ≤ p.1 ∧ p.1 ≤ 9223372036854775807) ∧ (-9223372036854775808 ≤ p.2 ∧ p.2 ≤ 9223372036854775807) := by
  obtain ⟨h1, h2⟩ := h
  simp [Lit.wf, IntKind.min, IntKind.max, IntKind.signed, IntKind.bits] at h1 h2
  omega
theorem kPair_inj {p q : Int × Int} (h : PrOk p) (h' : PrOk q) (e : kPair p.1 p.2 = kPair q.1 q.2) : p = q := by
  have := pair_keyed.inj (pair_key h.1 h.2) (e ▸ pair_key h'.1 h'.2)
  simp only [Value.agg.injEq] at this
  have h1 := congrArg (fun a => a[0]?) this
  have h2 := congrArg (fun a => a[1]?) this
  simp at h1 h2
  exact Prod.ext h1 h2
theorem pair_law : WideMaps.KeyLaw Try.prog 76 := deep_law_laid laidOutM (m := 2) (by decide) (of_decide_eq_true (by kernel_rfl)) (by kernel_rfl) (by kernel_rfl)
abbrev slZ : Value := .agg #[.int .i64 0, .int .i64 0, .slice none 0 0]
abbrev slV (s : Wb.Sl) : Value := .agg #[.int .i64 s.y, .int .i64 s.i, s.v]
def slO : Option Wb.Sl → Value
  | none => slZ
  | some s => slV s
theorem zeroSlip (u : World) : (zeroValue 24).run Try.prog u = .ok slZ u := by kernel_rfl
/-- a map of slips: what it has at each period -/
def SMapIs (w : World) (b n : Nat) (f : Int × Int → Option Wb.Sl) : Prop := ∃ D, w.ownsMap Try.prog 76 RH b n D ∧ ∀ p, PrOk p → D.atKey (kPair p.1 p.2) (.held slZ) = .held (slO (f p)) ∧ Maps.has D (kPair p.1 p.2) = (f p).isSome
theorem SMapIs.lt {w : World} {b n : Nat} {f : Int × Int → Option Wb.Sl} (h : SMapIs w b n f) : b < w.heap.size := by
  obtain ⟨D, h1, _⟩ := h; exact h1.lt
theorem SMapIs.kept {w w' : World} {b n : Nat} {f : Int × Int → Option Wb.Sl} {row : Option Nat} (h : SMapIs w b n f) (hg : w.grownBy w' row) (hne : some b ≠ row) : SMapIs w' b n f := by
  obtain ⟨D, h1, h2⟩ := h
  exact ⟨D, h1.kept hg hne, h2⟩
theorem ext_grown {w w' : World} (h : Wb.Ext w w') : w.grownBy w' none := ⟨h.os, h.tape, h.output, h.size, fun k hk _ => h.block k hk⟩
theorem SMapIs.ext {w w' : World} {b n : Nat} {f : Int × Int → Option Wb.Sl} (h : SMapIs w b n f) (k : Wb.Ext w w') : SMapIs w' b n f := h.kept (ext_grown k) (by simp)
theorem SMapIs.mono {w : World} {b n m : Nat} {f : Int × Int → Option Wb.Sl} (h : SMapIs w b n f) (k : n ≤ m) : SMapIs w b m f := by
  obtain ⟨D, h1, h2⟩ := h
  exact ⟨D, h1.mono k, h2⟩
theorem smap_made (w : World) (b : Nat) (hb : b = w.heap.size) : SMapIs (w.alloc (.map #[] 0)) b 0 (fun _ => none) := by
  subst hb
  exact ⟨_, World.ownsMap_made w _ _ _, fun p hp => ⟨rfl, rfl⟩⟩
/-- 'm[p] = s' -/
theorem SMapIs.update {w : World} {b n : Nat} {f : Int × Int → Option Wb.Sl} (h : SMapIs w b n f) (hn : n < maxLen) {p : Int × Int} (hp : PrOk p) (s : Wb.Sl) :
    ∃ w', (Instr.mapUpdate 71 (.map (some b)) (.agg #[.int .i64 p.1, .int .i64 p.2]) (slV s)).run Try.prog w = .ok () w' ∧ SMapIs w' b (n + 1) (fun q => if p = q then some s else f q) ∧ w.grownBy w' (some b) := by
  obtain ⟨D, h1, h2⟩ := h
  have hm : IsMap D := by obtain ⟨es, clock, _, _, _, rfl⟩ := h1; exact ⟨_, rfl⟩
  obtain ⟨w', hrun, hown, hg⟩ := h1.update pair_keyed Try.underlying71 hn (pair_key hp.1 hp.2) (rfl : RH (slV s) = some (.held (slV s), []))
  refine ⟨w', hrun, ⟨_, hown, fun q hq => ?_⟩, hg⟩
  by_cases e : p = q
  · subst e
    have he : (if p = p then some s else f p) = some s := if_pos rfl
    show _ = DataW.held (slO (if p = p then some s else f p)) ∧ _ = (if p = p then some s else f p).isSome
    rw [he]
    exact ⟨Maps.atKey_put_same hm (pair_keyed.key (pair_key hp.1 hp.2)) _ _, Maps.has_put_same hm (pair_keyed.key (pair_key hp.1 hp.2)) _⟩
  · have hne : kPair q.1 q.2 ≠ kPair p.1 p.2 := fun h => e (kPair_inj hq hp h).symm
    have he : (if p = q then some s else f q) = f q := if_neg e
    show _ = DataW.held (slO (if p = q then some s else f q)) ∧ _ = (if p = q then some s else f q).isSome
    rw [he, Maps.atKey_put_other hne, Maps.has_put_other hne]
    exact h2 q hq
/-- 'm[p]' -/
theorem SMapIs.look {w : World} {b n : Nat} {f : Int × Int → Option Wb.Sl} (h : SMapIs w b n f) {p : Int × Int} (hp : PrOk p) :
    (Instr.lookup 71 (.map (some b)) (.agg #[.int .i64 p.1, .int .i64 p.2]) false).run Try.prog w = .ok (slO (f p)) w := by
  obtain ⟨D, h1, h2⟩ := h
  obtain ⟨x, ps, hr, hx⟩ := h1.lookup pair_keyed Try.underlying71 (zeroSlip w) (rfl : RH slZ = some (.held slZ, [])) (pair_key hp.1 hp.2)
  rw [(h2 p hp).1] at hx
  rw [RH_held hx] at hr
  exact hr
/-- 'm[p]', and whether it is there -/
theorem SMapIs.look_ok {w : World} {b n : Nat} {f : Int × Int → Option Wb.Sl} (h : SMapIs w b n f) {p : Int × Int} (hp : PrOk p) :
    (Instr.lookup 71 (.map (some b)) (.agg #[.int .i64 p.1, .int .i64 p.2]) true).run Try.prog w = .ok (.tuple #[slO (f p), .bool (f p).isSome]) w := by
  obtain ⟨D, h1, h2⟩ := h
  obtain ⟨x, ps, hr, hx⟩ := h1.look_ok pair_keyed Try.underlying71 (zeroSlip w) (rfl : RH slZ = some (.held slZ, [])) (pair_key hp.1 hp.2)
  rw [(h2 p hp).1] at hx
  rw [RH_held hx, (h2 p hp).2] at hr
  exact hr

end Go.Proofs.Ytdfmlgjemfcmlaa
/- The walks of delta.period and delta.table. -/
namespace Go.Proofs.Ytdfmlgjemfcmlaa
open Go.RowKit Go.Sort Go.Lib Go.Maps
set_option maxRecDepth 8000
attribute [local go_sem ↓] Go.wp_at_zero Go.wp_at_succ

theorem ext_grow (w : World) (q : Nat) (os : Array Obj) : Wb.Ext w (grow (w.drewN q) os) := by
  refine ⟨rfl, rfl, rfl, by simp [grow], fun k hk => ?_⟩
  show (w.heap ++ os)[k]? = w.heap[k]?
  rw [Array.getElem?_append_left hk]
theorem period_any (y i : Int) (a : Option Addr) (n c : Nat) (w : World) :
    Calls Try.prog 50 #[SlV y i (.slice a n c)] w fun e w' => e = .returned (PrV (y, i)) ∧ Wb.Ext w w' := by
  go_enter Try.func50, Try.ntmps50
  go_wp2
  refine bodyPost_ret (v := PrV (y, i)) (by simp [results, Try.results50, go_sem]) rfl ⟨rfl, by (repeat' (first | (with_reducible assumption) | (with_reducible exact Wb.Ext.refl _) | (with_reducible refine Wb.Ext.drew ?_) | (with_reducible refine Wb.Ext.drewN ?_ _) | (with_reducible refine Wb.Ext.alloc ?_ _) | (with_reducible refine Wb.ext_set ?_ (by first | assumption | (simp; done) | (simp; omega) | omega) _) | (with_reducible refine Wb.Ext.trans ?_ (by assumption))))⟩
/-- slips in memory; of too many nothing is asked -/
def SlsB (w : World) (v : Value) (L : List Wb.Sl) : Prop := Tbl 3 slc w v L ∧ (L.length ≤ 4096 → Sls w v L)
theorem SlsB.ext {w w' : World} {v : Value} {L : List Wb.Sl} (h : SlsB w v L) (k : Wb.Ext w w') : SlsB w' v L := ⟨h.1.ext k, fun hl => (h.2 hl).ext k⟩
theorem prOk_check {s : Wb.Sl} (h : Wb.check s.y s.i s.l = 0) : PrOk (Wb.perS s) := by
  obtain ⟨h1, h2, h3, h4⟩ := Wb.ok_years h
  exact prOk_of (by simp only [Wb.perS]; omega) (by simp only [Wb.perS]; omega)
theorem find_take {L : List Wb.Sl} {k : Nat} {x : Wb.Sl} (hx : L[k]? = some x) (h : ∀ s ∈ L.take k, Wb.perS s ≠ Wb.perS x) : (fun q => if Wb.perS x = q then some x else Wb.findS (L.take k) q) = Wb.findS (L.take (k + 1)) := by
  funext q
  have e : L.take (k + 1) = L.take k ++ [x] := by
    obtain ⟨h1, rfl⟩ := List.getElem?_eq_some_iff.1 hx
    exact List.take_succ_eq_append_getElem h1
  rw [e, Wb.find_app h]
theorem behind_all {L : List Wb.Sl} {k : Nat} {x : Wb.Sl} {q : Int × Int} (hr : Wb.RiseP (L.take k)) (hp : Wb.prevP L k = some q) (hq : prLt q (Wb.perS x) = true) : ∀ s ∈ L.take k, prLt (Wb.perS s) (Wb.perS x) = true := by
  intro s hs
  have hk : k ≠ 0 := by rintro rfl; simp [Wb.prevP] at hp
  simp only [Wb.prevP, if_neg hk, Option.map_eq_some_iff] at hp
  obtain ⟨z, hz, rfl⟩ := hp
  obtain ⟨j, hj⟩ := List.getElem?_of_mem hs
  have hzt : (L.take k)[k - 1]? = some z := by rw [List.getElem?_take, if_pos (by omega)]; exact hz
  obtain ⟨p1, p2⟩ := List.getElem?_eq_some_iff.1 hj
  obtain ⟨p3, p4⟩ := List.getElem?_eq_some_iff.1 hzt
  have hjk : j ≤ k - 1 := by have : j < k := by simp at p1; omega
                             omega
  rcases Nat.lt_or_eq_of_le hjk with h | h
  · have := List.pairwise_iff_getElem.1 hr j (k - 1) p1 p3 h
    rw [p2, p4] at this
    exact Wb.pr_trans this hq
  · subst h
    rw [p2] at p4; rw [p4]; exact hq
theorem rise_take {L : List Wb.Sl} {k : Nat} {x : Wb.Sl} (hx : L[k]? = some x) (hr : Wb.RiseP (L.take k)) (h : ∀ s ∈ L.take k, prLt (Wb.perS s) (Wb.perS x) = true) : Wb.RiseP (L.take (k + 1)) := by
  have e : L.take (k + 1) = L.take k ++ [x] := by
    obtain ⟨h1, rfl⟩ := List.getElem?_eq_some_iff.1 hx
    exact List.take_succ_eq_append_getElem h1
  unfold Wb.RiseP
  rw [e]
  exact List.pairwise_append.2 ⟨hr, List.pairwise_singleton _ _, fun s hs z hz => by simp at hz; subst hz; exact h s hs⟩
/-- what delta.table yields -/
structure IsTab (w w' : World) (L : List Wb.Sl) (m : Value) : Prop where
  tab : Wb.listE L = 0 → ∃ b, m = .map (some b) ∧ w.heap.size ≤ b ∧ SMapIs w' b L.length (Wb.findS L)
  ext : Wb.Ext w w'

set_option maxHeartbeats 8000000 in
theorem table_any (v : Value) (L : List Wb.Sl) (w : World) (hL : SlsB w v L) (hl : L.length ≤ 9223372036854775807) :
    Calls Try.prog 46 #[v] w fun e w' => ∃ m, e = .returned (.tuple #[m, .int .i64 (Wb.listE L)]) ∧ IsTab w w' L m := by
  obtain ⟨va, vc, rfl⟩ := hL.1.shape
  have HL := Lib.hid hL
  clear hL
  by_cases hmany : 4096 < L.length
  · have d : decide ((4096 : Int) < (L.length : Int)) = true := by simp; omega
    have HE := Lib.hid (show Wb.listE L = 5 by rw [Wb.listE, if_pos hmany])
    go_enter Try.func46, Try.ntmps46
    go_wp2
    refine bodyPost_ret (v := .tuple #[.map none, .int .i64 5]) (by simp [results, Try.results46, go_sem]) rfl ⟨_, by rw [HE.out], fun h => by (rw [HE.out] at h; cases h), by (repeat' (first | (with_reducible assumption) | (with_reducible exact Wb.Ext.refl _) | (with_reducible refine Wb.Ext.drew ?_) | (with_reducible refine Wb.Ext.drewN ?_ _) | (with_reducible refine Wb.Ext.alloc ?_ _) | (with_reducible refine Wb.Ext.trans ?_ (by assumption))))⟩
  have d : decide ((4096 : Int) < (L.length : Int)) = false := by simp; omega
  have hl2 : L.length ≤ 4096 := by omega
  have HS := Lib.hid (HL.out.2 hl2)
  have HLE := Lib.hid (show Wb.listE L = Wb.tabE none L by rw [Wb.listE, if_neg hmany])
  clear hmany HL
  have hmm := @run_makeMap Try.prog
  go_enter Try.func46, Try.ntmps46
  go_upto_region 4 with (fail)
  refine Wb.wp_at fun WB hWB => ?_
  obtain ⟨B, hB⟩ : ∃ B, w.heap.size = B := ⟨_, rfl⟩
  have HMB : Hid (SMapIs WB B 0 (fun _ => none)) := Lib.hid (by rw [hWB]; exact smap_made _ _ hB.symm)
  have HEB := Lib.hid (show Wb.Ext w WB by rw [hWB]; (repeat' (first | (with_reducible assumption) | (with_reducible exact Wb.Ext.refl _) | (with_reducible refine Wb.Ext.drew ?_) | (with_reducible refine Wb.Ext.drewN ?_ _) | (with_reducible refine Wb.Ext.alloc ?_ _) | (with_reducible refine Wb.Ext.trans ?_ (by assumption)))))
  have hBB : B < WB.heap.size := by rw [hWB, ← hB]; simp
  have hBw : w.heap.size ≤ B := by omega
  rw [hB]
  clear hWB hB hmm
  go_wp2_with fail
  go_loopw [14] (fun iv wr => ∃ k : Nat, k ≤ L.length ∧ iv = .int .i64 k ∧ Hid (Wb.tabE none L = Wb.tabE (Wb.prevP L k) (L.drop k)) ∧ Hid (SMapIs wr B k (Wb.findS (L.take k))) ∧ Hid (Wb.RiseP (L.take k)) ∧ B < wr.heap.size ∧ Wb.Ext w wr) (fun iv _ => L.length - (intOf iv).toNat)
  case atStart => exact ⟨0, Nat.zero_le _, rfl, Lib.hid rfl, HMB, Lib.hid List.Pairwise.nil, hBB, HEB.out⟩
  case round =>
    clear HMB HEB hBB
    obtain ⟨k, hk, rfl, HT, HM, HR, hB0, hxr⟩ := hrel
    by_cases hlt : k < L.length
    case neg =>
      obtain rfl : k = L.length := by omega
      have HE := Lib.hid (show Wb.listE L = 0 by rw [HLE.out, HT.out, List.drop_length, Wb.tabE])
      have HM2 := Lib.hid (show SMapIs wr B L.length (Wb.findS L) by have := HM.out; rwa [List.take_length] at this)
      go_wp2
      refine bodyPost_ret (v := .tuple #[.map (some B), .int .i64 0]) (by simp [results, Try.results46, go_sem]) rfl ⟨_, by rw [HE.out], fun _ => ⟨B, rfl, hBw, HM2.out⟩, by (repeat' (first | (with_reducible assumption) | (with_reducible exact Wb.Ext.refl _) | (with_reducible refine Wb.Ext.drew ?_) | (with_reducible refine Wb.Ext.drewN ?_ _) | (with_reducible refine Wb.Ext.alloc ?_ _) | (with_reducible refine Wb.Ext.trans ?_ (by assumption))))⟩
    obtain ⟨x, hx⟩ := Wb.get_ex hlt
    have hmem := List.mem_of_getElem? hx
    have HSr := Lib.hid (HS.out.ext hxr)
    obtain ⟨b, off, rfl, c0, c1, c2⟩ := HSr.out.cells hx
    obtain ⟨xa, xc, hxv⟩ := (HSr.out.2 x hmem).1.1.shape
    have HXV := Lib.hid hxv
    rw [hxv] at c2
    have HLN : Hid (Lns wr (.slice xa x.l.length xc) x.l) := Lib.hid (by rw [← hxv]; exact (HSr.out.2 x hmem).1.1)
    have HSZ := Lib.hid (HSr.out.2 x hmem).2
    have hki : (k : Int) < L.length := by omega
    have HX := Lib.hid hx
    have HDR := Lib.hid (drop_at hx)
    clear hxv
    go_upto_region 7 with (fail)
    refine Wb.wp_at fun W0 hW0 => ?_
    obtain ⟨X, hX⟩ : ∃ X, wr.heap.size = X := ⟨_, rfl⟩
    have hb0 : Wb.Ext wr W0 := by rw [hW0]; (repeat' (first | (with_reducible assumption) | (with_reducible exact Wb.Ext.refl _) | (with_reducible refine Wb.Ext.drew ?_) | (with_reducible refine Wb.Ext.drewN ?_ _) | (with_reducible refine Wb.Ext.alloc ?_ _) | (with_reducible refine Wb.ext_set ?_ (by first | assumption | (simp; done) | (simp; omega) | omega) _) | (with_reducible refine Wb.Ext.trans ?_ (by assumption))))
    have x0 : W0.cell? ⟨X, 0, none⟩ = some (.int .i64 x.y) := by rw [hW0, ← hX]; simp [go_sem]
    have x1 : W0.cell? ⟨X, 1, none⟩ = some (.int .i64 x.i) := by rw [hW0, ← hX]; simp [go_sem]
    have x2 : W0.cell? ⟨X, 2, none⟩ = some (.slice xa x.l.length xc) := by rw [hW0, ← hX]; simp [go_sem]
    have HM0 := Lib.hid (HM.out.ext hb0)
    have HW0 := Lib.hid (hxr.trans hb0)
    have hXB : X ≠ B := by omega
    have hB0 : B < W0.heap.size := Nat.lt_of_lt_of_le hB0 hb0.size
    replace HLN := Lib.hid (HLN.out.ext hb0)
    rw [hX]
    clear hW0 hX hmem c0 c1 c2 hb0
    obtain ⟨E, hE⟩ : ∃ E, Wb.check x.y x.i x.l = E := ⟨_, rfl⟩
    have HEE := Lib.hid hE
    clear hE
    go_wp2_with fail
    go_fit (check_any x.y x.i _ x.l _ HLN.out HSZ.out); rintro e w2 ⟨rfl, hb2⟩
    rw [HEE.out]
    have x0 := hb2.keep x0
    have x1 := hb2.keep x1
    have x2 := hb2.keep x2
    replace HM0 := Lib.hid (HM0.out.ext hb2)
    replace HW0 := Lib.hid (HW0.out.trans hb2)
    have hB0 : B < w2.heap.size := Nat.lt_of_lt_of_le hB0 hb2.size
    clear hb2 HM
    by_cases hz : E = 0
    case neg =>
      have d1 : (E != 0) = true := by simpa using hz
      have d2 : (E == 0) = false := by simpa using hz
      have HE := Lib.hid (show Wb.listE L = E by rw [HLE.out, HT.out, HDR.out, Wb.tab_bad (by rw [HEE.out]; exact hz), HEE.out])
      go_wp2
      refine bodyPost_ret (v := .tuple #[.map none, .int .i64 E]) (by simp [results, Try.results46, go_sem]) rfl ⟨_, by rw [HE.out], fun h => absurd (HE.out.symm.trans h) hz, HW0.out⟩
    subst hz
    have HPK : Hid (PrOk (x.y, x.i)) := Lib.hid (prOk_check HEE.out)
    by_cases hk0 : k = 0
    · have HTN := Lib.hid (show Wb.tabE none L = Wb.tabE (Wb.prevP L (k + 1)) (L.drop (k + 1)) by rw [HT.out, HDR.out, Wb.prevP_succ HX.out, show Wb.prevP L k = none by simp [Wb.prevP, hk0]]; exact Wb.tab_first HEE.out)
      have HNE : Hid (∀ s ∈ L.take k, Wb.perS s ≠ Wb.perS x) := Lib.hid (fun s hs => by rw [hk0] at hs; simp at hs)
      have HRN := Lib.hid (rise_take HX.out HR.out (fun s hs => by rw [hk0] at hs; simp at hs))
      have hd0 : decide ((0 : Int) < (k : Int)) = false := by rw [hk0]; rfl
      have hd1 : decide (0 < k) = false := by rw [hk0]; rfl
      clear hk0
      go_wp2_with fail
      go_quiet (fail)
      go_upto_region 12 with (fail)
      refine Wb.wp_at fun W1 hW1 => ?_
      have hb1 : Wb.Ext w2 W1 := by rw [hW1]; first | exact Wb.Ext.refl _ | (repeat' (first | (with_reducible assumption) | (with_reducible exact Wb.Ext.refl _) | (with_reducible refine Wb.Ext.drew ?_) | (with_reducible refine Wb.Ext.drewN ?_ _) | (with_reducible refine Wb.Ext.alloc ?_ _) | (with_reducible refine Wb.Ext.trans ?_ (by assumption))))
      have x0 := hb1.keep x0
      have x1 := hb1.keep x1
      have x2 := hb1.keep x2
      have HMP : Hid (SMapIs W1 B k (Wb.findS (L.take k))) := Lib.hid (HM0.out.ext hb1)
      have HW1 := Lib.hid (HW0.out.trans hb1)
      have hBl : B < W1.heap.size := Nat.lt_of_lt_of_le hB0 hb1.size
      have hXB : X ≠ B := by omega
      clear hW1 hb1
      refine region_start (S := (fun w' => w'.cell? ⟨X, 0, none⟩ = some (.int .i64 x.y) ∧ w'.cell? ⟨X, 1, none⟩ = some (.int .i64 x.i) ∧ w'.cell? ⟨X, 2, none⟩ = some (.slice xa x.l.length xc))) (n := 5) (l := #[false, false, false, false, false]) (by kernel_rfl) ⟨x0, x1, x2⟩ (by kernel_rfl) (by kernel_rfl) (fun hHeld => ?_)
      refine take_d (i := 0) (d := 38) (v := ?_) rfl rfl (by kernel_rfl) (by kernel_rfl) (by kernel_rfl) (fun _ _ _ h => h) (Or.inl ⟨by rfl, ?_⟩) (by assumption) ?_
      rotate_left
      · (intro w hSw; (try dsimp only at hSw); go_simp; (try with_reducible rfl))
      (try simp only [Act.put, List.setIfInBounds_toArray, List.set_cons_zero, List.set_cons_succ])
      refine take_d (i := 1) (d := 39) (v := ?_) rfl rfl (by kernel_rfl) (by kernel_rfl) (by kernel_rfl) (fun _ _ _ h => h) (Or.inl ⟨by rfl, ?_⟩) (by assumption) ?_
      rotate_left
      · (intro w hSw; (try dsimp only at hSw); go_simp; (try with_reducible rfl))
      (try simp only [Act.put, List.setIfInBounds_toArray, List.set_cons_zero, List.set_cons_succ])
      refine take_d (i := 3) (d := 41) (v := ?_) rfl rfl (by kernel_rfl) (by kernel_rfl) (by kernel_rfl) (fun _ _ _ h => h) (Or.inl ⟨by rfl, ?_⟩) (by assumption) ?_
      rotate_left
      · (intro w hSw; (try dsimp only at hSw); go_simp; (try with_reducible rfl))
      (try simp only [Act.put, List.setIfInBounds_toArray, List.set_cons_zero, List.set_cons_succ])
      refine wpAnyH_ready (rs := [2]) (by kernel_rfl) (by simp) ?_
      refine AllReadyH.cons (o := _) rfl (fun K hK => ?_) AllReadyH.nil
      go_simp
      go_at_call 50
      go_fit (period_any x.y x.i xa x.l.length xc _)
      rintro e w11 ⟨rfl, hb11⟩
      have hx11 : Wb.Ext W1 w11 := Wb.Ext.trans (.drew (.refl _)) hb11
      clear hb11
      refine hK.out _ _ ⟨hx11.keep x0, hx11.keep x1, hx11.keep x2⟩ (fun hHeld => ?_)
      clear hK K
      (try simp only [List.setIfInBounds_toArray, List.set_cons_zero, List.set_cons_succ])
      refine wpAnyH_ready (rs := [4]) (by kernel_rfl) (by simp) ?_
      refine AllReadyH.cons (o := _) rfl (fun K hK => ?_) AllReadyH.nil
      have hm12 := (HMP.out.ext (show Wb.Ext W1 w11 from hx11)).update (by unfold maxLen; omega) (p := (x.y, x.i)) HPK.out x
      obtain ⟨w12, hrun12, hsm12, hg12⟩ := hm12
      have hrun12 : (Instr.mapUpdate 71 (.map (some B)) (.agg #[.int .i64 x.y, .int .i64 x.i]) (.agg #[.int .i64 x.y, .int .i64 x.i, .slice xa x.l.length xc])).run Try.prog w11 = .ok () w12 := by rw [← HXV.out]; exact hrun12
      go_simp
      have HSM := Lib.hid hsm12
      have hx0 := grown_keep hg12 (hx11.keep x0) (by omega)
      have hx1' := grown_keep hg12 (hx11.keep x1) (by omega)
      have hx2' := grown_keep hg12 (hx11.keep x2) (by omega)
      have HXE := Lib.hid (show Wb.Ext w w12 from Wb.Ext.grown (HW1.out.trans hx11) hg12 (fun q hq => by injection hq with hq; omega))
      have hsz : B < w12.heap.size := Nat.lt_of_lt_of_le hBl (Nat.le_trans hx11.size hg12.size)
      clear hsm12 hg12 hrun12
      refine hK.out _ _ ⟨hx0, hx1', hx2'⟩ (fun hHeld => ?_)
      clear hK K
      (try simp only [List.setIfInBounds_toArray, List.set_cons_zero, List.set_cons_succ])
      refine wpAnyH_done (by kernel_rfl) ?_ _
      have HSM2 := Lib.hid (show SMapIs w12 B (k + 1) (Wb.findS (L.take (k + 1))) from by rw [← find_take HX.out HNE.out]; exact HSM.out)
      clear hx0 hx1' hx2'
      go_wp2
      go_roundw
      case rel => exact ⟨k + 1, by omega, by go_num, HTN, HSM2, HRN, hsz, HXE.out⟩
      case measure => first | (simp [intOf]; done) | (simp [intOf]; omega)
    · obtain ⟨z, hz⟩ := Wb.get_ex (show k - 1 < L.length by omega)
      have hmz := List.mem_of_getElem? hz
      obtain ⟨b2, off2, hbb, z0, z1, z2⟩ := (HS.out.ext HW0.out).cells hz
      injection hbb with hbb
      injection hbb with e1 e2 e3
      subst e1 e2
      clear e3
      obtain ⟨za, zc, hzv⟩ := ((HS.out.ext HW0.out).2 z hmz).1.1.shape
      rw [hzv] at z2
      have HPV := Lib.hid (show Wb.prevP L k = some (Wb.perS z) by rw [Wb.prevP, if_neg hk0, hz]; rfl)
      have hd0 : decide ((0 : Int) < (k : Int)) = true := by simp; omega
      have hd1 : decide (0 < k) = true := by simp; omega
      have hkw : IntKind.i64.wrap ((k : Int) - 1) = ((k - 1 : Nat) : Int) := by rw [IntWalk.i64_in _ (by omega)]; omega
      have hkm : ((k - 1 : Nat) : Int) < L.length := by omega
      obtain ⟨C, hC⟩ : ∃ C, cmpP (z.y, z.i) (x.y, x.i) = C := ⟨_, rfl⟩
      have HCM := Lib.hid hC
      clear hz hmz hzv hC hk0
      go_upto_region 10 with (fail)
      refine Wb.wp_at fun W1 hW1 => ?_
      have hb9 : Wb.Ext w2 W1 := by rw [hW1]; first | exact Wb.Ext.refl _ | (repeat' (first | (with_reducible assumption) | (with_reducible exact Wb.Ext.refl _) | (with_reducible refine Wb.Ext.drew ?_) | (with_reducible refine Wb.Ext.drewN ?_ _) | (with_reducible refine Wb.Ext.alloc ?_ _) | (with_reducible refine Wb.Ext.trans ?_ (by assumption))))
      have x0 := hb9.keep x0
      have x1 := hb9.keep x1
      have x2 := hb9.keep x2
      have z0 := hb9.keep z0
      have z1 := hb9.keep z1
      have z2 := hb9.keep z2
      replace HM0 := Lib.hid (HM0.out.ext hb9)
      replace HW0 := Lib.hid (HW0.out.trans hb9)
      have hB0 : B < W1.heap.size := Nat.lt_of_lt_of_le hB0 hb9.size
      clear hW1 hb9
      refine region_start (S := (fun w' => w'.cell? ⟨X, 0, none⟩ = some (.int .i64 x.y) ∧ w'.cell? ⟨X, 1, none⟩ = some (.int .i64 x.i) ∧ w'.cell? ⟨X, 2, none⟩ = some (.slice xa x.l.length xc) ∧ w'.cell? ⟨b, off + (k - 1) * 3, none⟩ = some (.int .i64 z.y) ∧ w'.cell? ⟨b, off + (k - 1) * 3 + 1, none⟩ = some (.int .i64 z.i) ∧ w'.cell? ⟨b, off + (k - 1) * 3 + 2, none⟩ = some (.slice za z.l.length zc))) (n := 14) (l := #[false, false, false, false, false, false, false, false, false, false, false, false, false, false]) (by kernel_rfl) ⟨x0, x1, x2, z0, z1, z2⟩ (by kernel_rfl) (by kernel_rfl) (fun hHeld => ?_)
      refine take_d (i := 0) (d := 24) (v := ?_) rfl rfl (by kernel_rfl) (by kernel_rfl) (by kernel_rfl) (fun _ _ _ h => h) (Or.inl ⟨by rfl, ?_⟩) (by assumption) ?_
      rotate_left
      · (intro w hSw; (try dsimp only at hSw); go_simp; (try with_reducible rfl))
      (try simp only [Act.put, List.setIfInBounds_toArray, List.set_cons_zero, List.set_cons_succ])
      refine take_d (i := 1) (d := 25) (v := ?_) rfl rfl (by kernel_rfl) (by kernel_rfl) (by kernel_rfl) (fun _ _ _ h => h) (Or.inl ⟨by rfl, ?_⟩) (by assumption) ?_
      rotate_left
      · (intro w hSw; (try dsimp only at hSw); go_simp; (try with_reducible rfl))
      (try simp only [Act.put, List.setIfInBounds_toArray, List.set_cons_zero, List.set_cons_succ])
      refine take_d (i := 2) (d := 26) (v := ?_) rfl rfl (by kernel_rfl) (by kernel_rfl) (by kernel_rfl) (fun _ _ _ h => h) (Or.inl ⟨by rfl, ?_⟩) (by assumption) ?_
      rotate_left
      · (intro w hSw; (try dsimp only at hSw); go_simp; (try with_reducible rfl))
      (try simp only [Act.put, List.setIfInBounds_toArray, List.set_cons_zero, List.set_cons_succ])
      refine take_d (i := 3) (d := 27) (v := ?_) rfl rfl (by kernel_rfl) (by kernel_rfl) (by kernel_rfl) (fun _ _ _ h => h) (Or.inl ⟨by rfl, ?_⟩) (by assumption) ?_
      rotate_left
      · (intro w hSw; (try dsimp only at hSw); go_simp; (try with_reducible rfl))
      (try simp only [Act.put, List.setIfInBounds_toArray, List.set_cons_zero, List.set_cons_succ])
      refine take_d (i := 4) (d := 28) (v := ?_) rfl rfl (by kernel_rfl) (by kernel_rfl) (by kernel_rfl) (fun _ _ _ h => h) (Or.inl ⟨by rfl, ?_⟩) (by assumption) ?_
      rotate_left
      · (intro w hSw; (try dsimp only at hSw); go_simp; (try with_reducible rfl))
      (try simp only [Act.put, List.setIfInBounds_toArray, List.set_cons_zero, List.set_cons_succ])
      refine take_d (i := 5) (d := 29) (v := ?_) rfl rfl (by kernel_rfl) (by kernel_rfl) (by kernel_rfl) (fun _ _ _ h => h) (Or.inl ⟨by rfl, ?_⟩) (by assumption) ?_
      rotate_left
      · (intro w hSw; (try dsimp only at hSw); go_simp; (try with_reducible rfl))
      (try simp only [Act.put, List.setIfInBounds_toArray, List.set_cons_zero, List.set_cons_succ])
      refine take_d (i := 6) (d := 30) (v := ?_) rfl rfl (by kernel_rfl) (by kernel_rfl) (by kernel_rfl) (fun _ _ _ h => h) (Or.inl ⟨by rfl, ?_⟩) (by assumption) ?_
      rotate_left
      · (intro w hSw; (try dsimp only at hSw); go_simp; (try with_reducible rfl))
      (try simp only [Act.put, List.setIfInBounds_toArray, List.set_cons_zero, List.set_cons_succ])
      refine take_d (i := 7) (d := 31) (v := ?_) rfl rfl (by kernel_rfl) (by kernel_rfl) (by kernel_rfl) (fun _ _ _ h => h) (Or.inl ⟨by rfl, ?_⟩) (by assumption) ?_
      rotate_left
      · (intro w hSw; (try dsimp only at hSw); go_simp; (try with_reducible rfl))
      (try simp only [Act.put, List.setIfInBounds_toArray, List.set_cons_zero, List.set_cons_succ])
      refine take_d (i := 9) (d := 33) (v := ?_) rfl rfl (by kernel_rfl) (by kernel_rfl) (by kernel_rfl) (fun _ _ _ h => h) (Or.inl ⟨by rfl, ?_⟩) (by assumption) ?_
      rotate_left
      · (intro w hSw; (try dsimp only at hSw); go_simp; (try with_reducible rfl))
      (try simp only [Act.put, List.setIfInBounds_toArray, List.set_cons_zero, List.set_cons_succ])
      refine wpAnyH_ready (rs := [8]) (by kernel_rfl) (by simp) ?_
      refine AllReadyH.cons (o := _) rfl (fun K hK => ?_) AllReadyH.nil
      go_simp
      go_at_call 50
      go_fit (period_any z.y z.i za z.l.length zc _)
      rintro e w21 ⟨rfl, hb21⟩
      have hx21 : Wb.Ext W1 w21 := Wb.Ext.trans (.drew (.refl _)) hb21
      clear hb21
      refine hK.out _ _ ⟨hx21.keep x0, hx21.keep x1, hx21.keep x2, hx21.keep z0, hx21.keep z1, hx21.keep z2⟩ (fun hHeld => ?_)
      clear hK K
      (try simp only [List.setIfInBounds_toArray, List.set_cons_zero, List.set_cons_succ])
      refine wpAnyH_ready (rs := [10]) (by kernel_rfl) (by simp) ?_
      refine AllReadyH.cons (o := _) rfl (fun K hK => ?_) AllReadyH.nil
      go_simp
      go_at_call 50
      go_fit (period_any x.y x.i xa x.l.length xc _)
      rintro e w22 ⟨rfl, hb22⟩
      have hx22 : Wb.Ext W1 w22 := Wb.Ext.trans hx21 hb22
      clear hb22
      refine hK.out _ _ ⟨hx22.keep x0, hx22.keep x1, hx22.keep x2, hx22.keep z0, hx22.keep z1, hx22.keep z2⟩ (fun hHeld => ?_)
      clear hK K
      (try simp only [List.setIfInBounds_toArray, List.set_cons_zero, List.set_cons_succ])
      refine wpAnyH_ready (rs := [11]) (by kernel_rfl) (by simp) ?_
      refine AllReadyH.cons (o := _) rfl (fun K hK => ?_) AllReadyH.nil
      go_simp
      go_at_call 65
      go_fit (ahead29_any (z.y, z.i) (x.y, x.i) _)
      rintro e w23 ⟨rfl, q23, os23, hw23⟩
      have hx23 : Wb.Ext W1 w23 := Wb.Ext.trans hx22 (by rw [hw23]; exact ext_grow _ _ _)
      rw [HCM.out]
      clear hw23
      refine hK.out _ _ ⟨hx23.keep x0, hx23.keep x1, hx23.keep x2, hx23.keep z0, hx23.keep z1, hx23.keep z2⟩ (fun hHeld => ?_)
      clear hK K
      (try simp only [List.setIfInBounds_toArray, List.set_cons_zero, List.set_cons_succ])
      refine take_d (i := 12) (d := 36) (v := ?_) rfl rfl (by kernel_rfl) (by kernel_rfl) (by kernel_rfl) (fun _ _ _ h => h) (Or.inl ⟨by rfl, ?_⟩) (by assumption) ?_
      rotate_left
      · (intro w hSw; (try dsimp only at hSw); go_simp; (try with_reducible rfl))
      (try simp only [Act.put, List.setIfInBounds_toArray, List.set_cons_zero, List.set_cons_succ])
      refine take_d (i := 13) (d := 37) (v := ?_) rfl rfl (by kernel_rfl) (by kernel_rfl) (by kernel_rfl) (fun _ _ _ h => h) (Or.inl ⟨by rfl, ?_⟩) (by assumption) ?_
      rotate_left
      · (intro w hSw; (try dsimp only at hSw); go_simp; (try with_reducible rfl))
      (try simp only [Act.put, List.setIfInBounds_toArray, List.set_cons_zero, List.set_cons_succ])
      refine wpAnyH_done (by kernel_rfl) ?_ _
      have x0 := hx23.keep x0
      have x1 := hx23.keep x1
      have x2 := hx23.keep x2
      replace HM0 := Lib.hid (HM0.out.ext hx23)
      replace HW0 := Lib.hid (HW0.out.trans hx23)
      have hB0 : B < w23.heap.size := Nat.lt_of_lt_of_le hB0 hx23.size
      by_cases hq : prLt (Wb.perS z) (Wb.perS x) = true
      · have hC : C = -1 := by
          have hq' : prLt (z.y, z.i) (x.y, x.i) = true := hq
          rw [← HCM.out, cmpP_val, if_pos hq']
        have hdC : decide ((0 : Int) ≤ C) = false := by rw [hC]; rfl
        have hnC : ¬ (0 : Int) ≤ C := by omega
        have hltC : C < 0 := by omega
        have HTN := Lib.hid (show Wb.tabE none L = Wb.tabE (Wb.prevP L (k + 1)) (L.drop (k + 1)) by rw [HT.out, HDR.out, Wb.prevP_succ HX.out, HPV.out]; exact Wb.tab_more HEE.out hq)
        have hbe := behind_all HR.out HPV.out hq
        have HNE : Hid (∀ s ∈ L.take k, Wb.perS s ≠ Wb.perS x) := Lib.hid (fun s hs => Wb.pr_ne (hbe s hs))
        have HRN := Lib.hid (rise_take HX.out HR.out hbe)
        clear hq hC hbe z0 z1 z2
        go_upto_region 12 with (fail)
        refine Wb.wp_at fun W1 hW1 => ?_
        have hb1 : Wb.Ext w23 W1 := by rw [hW1]; first | exact Wb.Ext.refl _ | (repeat' (first | (with_reducible assumption) | (with_reducible exact Wb.Ext.refl _) | (with_reducible refine Wb.Ext.drew ?_) | (with_reducible refine Wb.Ext.drewN ?_ _) | (with_reducible refine Wb.Ext.alloc ?_ _) | (with_reducible refine Wb.Ext.trans ?_ (by assumption))))
        have x0 := hb1.keep x0
        have x1 := hb1.keep x1
        have x2 := hb1.keep x2
        have HMP : Hid (SMapIs W1 B k (Wb.findS (L.take k))) := Lib.hid (HM0.out.ext hb1)
        have HW1 := Lib.hid (HW0.out.trans hb1)
        have hBl : B < W1.heap.size := Nat.lt_of_lt_of_le hB0 hb1.size
        have hXB : X ≠ B := by omega
        clear hW1 hb1
        refine region_start (S := (fun w' => w'.cell? ⟨X, 0, none⟩ = some (.int .i64 x.y) ∧ w'.cell? ⟨X, 1, none⟩ = some (.int .i64 x.i) ∧ w'.cell? ⟨X, 2, none⟩ = some (.slice xa x.l.length xc))) (n := 5) (l := #[false, false, false, false, false]) (by kernel_rfl) ⟨x0, x1, x2⟩ (by kernel_rfl) (by kernel_rfl) (fun hHeld => ?_)
        refine take_d (i := 0) (d := 38) (v := ?_) rfl rfl (by kernel_rfl) (by kernel_rfl) (by kernel_rfl) (fun _ _ _ h => h) (Or.inl ⟨by rfl, ?_⟩) (by assumption) ?_
        rotate_left
        · (intro w hSw; (try dsimp only at hSw); go_simp; (try with_reducible rfl))
        (try simp only [Act.put, List.setIfInBounds_toArray, List.set_cons_zero, List.set_cons_succ])
        refine take_d (i := 1) (d := 39) (v := ?_) rfl rfl (by kernel_rfl) (by kernel_rfl) (by kernel_rfl) (fun _ _ _ h => h) (Or.inl ⟨by rfl, ?_⟩) (by assumption) ?_
        rotate_left
        · (intro w hSw; (try dsimp only at hSw); go_simp; (try with_reducible rfl))
        (try simp only [Act.put, List.setIfInBounds_toArray, List.set_cons_zero, List.set_cons_succ])
        refine take_d (i := 3) (d := 41) (v := ?_) rfl rfl (by kernel_rfl) (by kernel_rfl) (by kernel_rfl) (fun _ _ _ h => h) (Or.inl ⟨by rfl, ?_⟩) (by assumption) ?_
        rotate_left
        · (intro w hSw; (try dsimp only at hSw); go_simp; (try with_reducible rfl))
        (try simp only [Act.put, List.setIfInBounds_toArray, List.set_cons_zero, List.set_cons_succ])
        refine wpAnyH_ready (rs := [2]) (by kernel_rfl) (by simp) ?_
        refine AllReadyH.cons (o := _) rfl (fun K hK => ?_) AllReadyH.nil
        go_simp
        go_at_call 50
        go_fit (period_any x.y x.i xa x.l.length xc _)
        rintro e w11 ⟨rfl, hb11⟩
        have hx11 : Wb.Ext W1 w11 := Wb.Ext.trans (.drew (.refl _)) hb11
        clear hb11
        refine hK.out _ _ ⟨hx11.keep x0, hx11.keep x1, hx11.keep x2⟩ (fun hHeld => ?_)
        clear hK K
        (try simp only [List.setIfInBounds_toArray, List.set_cons_zero, List.set_cons_succ])
        refine wpAnyH_ready (rs := [4]) (by kernel_rfl) (by simp) ?_
        refine AllReadyH.cons (o := _) rfl (fun K hK => ?_) AllReadyH.nil
        have hm12 := (HMP.out.ext (show Wb.Ext W1 w11 from hx11)).update (by unfold maxLen; omega) (p := (x.y, x.i)) HPK.out x
        obtain ⟨w12, hrun12, hsm12, hg12⟩ := hm12
        have hrun12 : (Instr.mapUpdate 71 (.map (some B)) (.agg #[.int .i64 x.y, .int .i64 x.i]) (.agg #[.int .i64 x.y, .int .i64 x.i, .slice xa x.l.length xc])).run Try.prog w11 = .ok () w12 := by rw [← HXV.out]; exact hrun12
        go_simp
        have HSM := Lib.hid hsm12
        have hx0 := grown_keep hg12 (hx11.keep x0) (by omega)
        have hx1' := grown_keep hg12 (hx11.keep x1) (by omega)
        have hx2' := grown_keep hg12 (hx11.keep x2) (by omega)
        have HXE := Lib.hid (show Wb.Ext w w12 from Wb.Ext.grown (HW1.out.trans hx11) hg12 (fun q hq => by injection hq with hq; omega))
        have hsz : B < w12.heap.size := Nat.lt_of_lt_of_le hBl (Nat.le_trans hx11.size hg12.size)
        clear hsm12 hg12 hrun12
        refine hK.out _ _ ⟨hx0, hx1', hx2'⟩ (fun hHeld => ?_)
        clear hK K
        (try simp only [List.setIfInBounds_toArray, List.set_cons_zero, List.set_cons_succ])
        refine wpAnyH_done (by kernel_rfl) ?_ _
        have HSM2 := Lib.hid (show SMapIs w12 B (k + 1) (Wb.findS (L.take (k + 1))) from by rw [← find_take HX.out HNE.out]; exact HSM.out)
        clear hx0 hx1' hx2'
        go_wp2
        go_roundw
        case rel => exact ⟨k + 1, by omega, by go_num, HTN, HSM2, HRN, hsz, HXE.out⟩
        case measure => first | (simp [intOf]; done) | (simp [intOf]; omega)
      · have hC : 0 ≤ C := by
          have hq' : ¬ prLt (z.y, z.i) (x.y, x.i) = true := hq
          rw [← HCM.out, cmpP_val, if_neg hq']; split <;> decide
        have hdC : decide ((0 : Int) ≤ C) = true := by simpa using hC
        have HE := Lib.hid (show Wb.listE L = 8 by rw [HLE.out, HT.out, HDR.out, HPV.out]; exact Wb.tab_order HEE.out (by simpa using hq))
        clear hq
        go_wp2
        refine bodyPost_ret (v := .tuple #[.map none, .int .i64 8]) (by simp [results, Try.results46, go_sem]) rfl ⟨_, by rw [HE.out], fun h => by (rw [HE.out] at h; cases h), HW0.out⟩

end Go.Proofs.Ytdfmlgjemfcmlaa
/- slices.Compact of periods. -/
namespace Go.Proofs.Ytdfmlgjemfcmlaa
open Go.RowKit Go.Lib
set_option maxRecDepth 8000
attribute [local go_sem ↓] Go.wp_at_zero Go.wp_at_succ

namespace Wb
theorem cpt_two (a b : Int × Int) (r : List (Int × Int)) : cpt (a :: b :: r) = if a = b then cpt (b :: r) else a :: cpt (b :: r) := rfl
theorem cpt_one (a : Int × Int) : cpt [a] = [a] := rfl
theorem cpt_snoc (y x : Int × Int) : ∀ l : List (Int × Int), cpt (l ++ [y, x]) = if y = x then cpt (l ++ [y]) else cpt (l ++ [y]) ++ [x]
  | [] => by
    simp only [List.nil_append, cpt_two, cpt_one]
    split
    · rename_i h; rw [h]
    · rfl
  | [a] => by
    simp only [List.cons_append, List.nil_append, cpt_two, cpt_one]
    by_cases h : a = y <;> by_cases k : y = x <;> simp [h, k]
  | a :: b :: r => by
    have ih := cpt_snoc y x (b :: r)
    simp only [List.cons_append] at ih ⊢
    rw [cpt_two, ih, cpt_two]
    by_cases h : a = b <;> by_cases k : y = x <;> simp [h, k]
theorem cpt_take {l : List (Int × Int)} {i : Nat} {y x : Int × Int} (hy : l[i]? = some y) (hx : l[i + 1]? = some x) : cpt (l.take (i + 2)) = if y = x then cpt (l.take (i + 1)) else cpt (l.take (i + 1)) ++ [x] := by
  obtain ⟨p1, p2⟩ := List.getElem?_eq_some_iff.1 hy
  obtain ⟨p3, p4⟩ := List.getElem?_eq_some_iff.1 hx
  have e1 : l.take (i + 1) = l.take i ++ [y] := by rw [List.take_succ_eq_append_getElem p1, p2]
  have e2 : l.take (i + 2) = l.take i ++ [y, x] := by rw [List.take_succ_eq_append_getElem p3, p4, e1, List.append_assoc]; rfl
  rw [e2, e1, cpt_snoc]
theorem cpt_len : ∀ l : List (Int × Int), (cpt l).length ≤ l.length
  | [] => Nat.le_refl _
  | [x] => Nat.le_refl _
  | x :: y :: r => by
    have := cpt_len (y :: r)
    rw [cpt]
    split
    · simp only [List.length_cons] at this ⊢; omega
    · simp only [List.length_cons] at this ⊢; omega
/-- within the inner loop: i are looked at, k are kept, the rest stands -/
structure CI (l : List (Int × Int)) (i k : Nat) (m : List (Int × Int)) : Prop where
  len : m.length = l.length
  kept : m.take k = cpt (l.take i)
  lt : k + 1 ≤ i
  rest : ∀ j, k ≤ j → m[j]? = l[j]?
theorem CI.start {l : List (Int × Int)} {i : Nat} {y : Int × Int} (hp : cpt (l.take (i + 1)) = l.take (i + 1)) (hy : l[i]? = some y) (hx : l[i + 1]? = some y) : CI l (i + 2) (i + 1) l :=
  ⟨rfl, by rw [cpt_take hy hx, if_pos rfl, hp], by omega, fun _ _ => rfl⟩
theorem CI.skip {l m : List (Int × Int)} {i k : Nat} {y : Int × Int} (h : CI l (i + 1) k m) (hy : l[i]? = some y) (hx : l[i + 1]? = some y) : CI l (i + 2) k m :=
  ⟨h.len, by rw [cpt_take hy hx, if_pos rfl]; exact h.kept, by have := h.lt; omega, h.rest⟩
theorem CI.keep {l m : List (Int × Int)} {i k : Nat} {y x : Int × Int} (h : CI l (i + 1) k m) (hy : l[i]? = some y) (hx : l[i + 1]? = some x) (hne : ¬ y = x) : CI l (i + 2) (k + 1) (m.set k x) := by
  have hk : k < m.length := by have := h.lt; have := (List.getElem?_eq_some_iff.1 hx).1; rw [h.len]; omega
  refine ⟨by rw [List.length_set]; exact h.len, ?_, by have := h.lt; omega, fun j hj => ?_⟩
  · rw [cpt_take hy hx, if_neg hne, ← h.kept, List.take_succ_eq_append_getElem (by rw [List.length_set]; exact hk), List.take_set_of_le (Nat.le_refl _)]
    simp
  · rw [List.getElem?_set_ne (by omega)]; exact h.rest j (by omega)
end Wb
/-- pairs in memory -/
def PairsC (w : World) (b off : Nat) (m : List (Int × Int)) : Prop := ∀ j p, m[j]? = some p → w.cell? ⟨b, off + j * 2, none⟩ = some (.int .i64 p.1) ∧ w.cell? ⟨b, off + j * 2 + 1, none⟩ = some (.int .i64 p.2)
theorem PairsC.drewN {w : World} {b off : Nat} {m : List (Int × Int)} (h : PairsC w b off m) (n : Nat) : PairsC (w.drewN n) b off m := fun j p hj => h j p hj
theorem PairsC.put {w : World} {b off k : Nat} {m : List (Int × Int)} {p p0 : Int × Int} (h : PairsC w b off m) (hk : m[k]? = some p0) :
    PairsC ((w.setCell ⟨b, off + k * 2, none⟩ (.int .i64 p.1)).setCell ⟨b, off + k * 2 + 1, none⟩ (.int .i64 p.2)) b off (m.set k p) := by
  intro j q hj
  by_cases e : k = j
  · subst e
    have hlt := (List.getElem?_eq_some_iff.1 hk).1
    rw [List.getElem?_set_self hlt] at hj
    obtain rfl := Option.some.inj hj
    obtain ⟨h1, h2⟩ := h k p0 hk
    refine ⟨?_, ?_⟩
    · rw [World.cell?_setCell_other _ _ _ _ (by intro e; injection e with _ e2 _; omega)]
      simp [go_sem, h1]
    · have h3 : (w.setCell ⟨b, off + k * 2, none⟩ (.int .i64 p.1)).cell? ⟨b, off + k * 2 + 1, none⟩ = some (.int .i64 p0.2) := by
        rw [World.cell?_setCell_other _ _ _ _ (by intro e; injection e with _ e2 _; omega)]; exact h2
      simp [go_sem, h3]
  · rw [List.getElem?_set_ne e] at hj
    obtain ⟨h1, h2⟩ := h j q hj
    refine ⟨?_, ?_⟩
    · rw [World.cell?_setCell_other _ _ _ _ (by intro e; injection e with _ e2 _; omega), World.cell?_setCell_other _ _ _ _ (by intro e; injection e with _ e2 _; omega)]; exact h1
    · rw [World.cell?_setCell_other _ _ _ _ (by intro e; injection e with _ e2 _; omega), World.cell?_setCell_other _ _ _ _ (by intro e; injection e with _ e2 _; omega)]; exact h2
@[go_sem] theorem eqPair (a b c d : Int) (w : World) : (Op.equalIn 10000 76 (.agg #[.int .i64 a, .int .i64 b]) (.agg #[.int .i64 c, .int .i64 d])).run Try.prog w = .ok (a == c && b == d) w := by
  have u3 := Try.underlying3
  have a3 := Try.isAgg3
  have z3 := Try.sizeOf3
  rw [show (10000 : Nat) = 9999 + 1 from rfl, Op.equalIn]
  simp only [Sem.run_bind, run_underlying Try.underlying76, Result.andThen_ok]
  simp only [Std.Legacy.Range.forIn_eq_forIn_range', Std.Legacy.Range.size, Nat.sub_zero, Nat.add_sub_cancel, Nat.div_one, List.range'_succ, List.range'_zero, List.forIn_cons, List.forIn_nil]
  go_simp
  by_cases h1 : a = c <;> by_cases h2 : b = d <;> simp [h1, h2]
theorem zeroPair (u : World) : (zeroValue 76).run Try.prog u = .ok (.agg #[.int .i64 0, .int .i64 0]) u := by kernel_rfl
theorem run_clear2 (w : World) (ty : TypeId) (b o n c : Nat) (hn : 0 < n) (hc : ∀ j, j < n * 2 → (w.cell? ⟨b, o + j, none⟩).isSome = true) (hf : ∀ j, j < n * 2 → w.frozen? ⟨b, o + j, none⟩ = false) :
    (Builtin.clear_ #[74] ty #[.slice (some ⟨b, o, none⟩) n c]).run Try.prog w = .ok (.tuple #[]) (w.setCells b o (List.replicate (n * 2) (.int .i64 0))) := by
  have hzc : (Builtin.zeroCells (Value.cells (.agg #[.int .i64 0, .int .i64 0])) n).toList = List.replicate (n * 2) (.int .i64 0) := by
    simp [Builtin.zeroCells, Value.cells]
    apply List.ext_getElem
    · simp
    · intro i h1 h2
      have hi : i % 2 = 0 ∨ i % 2 = 1 := by omega
      rcases hi with hi | hi <;> simp [hi]
  have hst := run_storeCells_cells (P := Try.prog) b o (List.replicate (n * 2) (.int .i64 0)) 0 w (by simpa using hc) (by simpa using hf) (by intro v hv'; rw [List.eq_of_mem_replicate hv']; rfl)
  simp only [Nat.add_zero] at hst
  obtain ⟨m, rfl⟩ : ∃ m, n = m + 1 := ⟨n - 1, by omega⟩
  simp [Builtin.clear_, run_underlying Try.underlying74, hzc, hst]
/-- what is left of a nil slice, or of one period -/
theorem compact_few (a : Option Addr) (n c : Nat) (w : World) (h : n < 2) :
    Calls Try.prog 67 #[.slice a n c] w fun e w' => e = .returned (.slice a n c) ∧ w = w' := by
  have d : decide ((n : Int) < 2) = true := by simp; omega
  go_enter Try.func67, Try.ntmps67
  go_wp2
  go_ret
  exact ⟨rfl, by first | rfl | trivial⟩
set_option maxHeartbeats 4000000 in
theorem compact_many (w0 : World) (b off c : Nat) (l : List (Int × Int)) (w : World) (h2 : 2 ≤ l.length) (hl : l.length ≤ 1000000) (hcap : l.length ≤ c) (hc : PairsC w b off l) (hf : ∀ j, w.frozen? ⟨b, j, none⟩ = false) (hb : w0.heap.size ≤ b) (hx : Wb.Ext w0 w) :
    Calls Try.prog 67 #[.slice (some ⟨b, off, none⟩) l.length c] w fun e w' => e = .returned (.slice (some ⟨b, off, none⟩) (Wb.cpt l).length c) ∧ PairsC w' b off (Wb.cpt l) ∧ Wb.Ext w0 w' := by
  have HC := Lib.hid hc
  have hF := hf
  clear hc hf
  have d : decide ((l.length : Int) < 2) = false := by simp; omega
  go_enter Try.func67, Try.ntmps67
  go_wp2_with fail
  go_loopw [3] (fun kv wr => ∃ k : Nat, 1 ≤ k ∧ k ≤ l.length ∧ kv = .int .i64 k ∧ Hid (Wb.cpt (l.take k) = l.take k) ∧ Hid (PairsC wr b off l) ∧ (∀ j, wr.frozen? ⟨b, j, none⟩ = false) ∧ Wb.Ext w0 wr) (fun kv _ => l.length - (intOf kv).toNat)
  case atStart => exact ⟨1, Nat.le_refl _, by omega, rfl, Lib.hid (by obtain ⟨x, r, rfl⟩ : ∃ x r, l = x :: r := (by cases l with | nil => simp at h2 | cons x r => exact ⟨x, r, rfl⟩); rfl), HC, hF, hx⟩
  case round =>
    clear HC hF hx
    obtain ⟨k, hk1, hk, rfl, HP, HC, hF, hx⟩ := hrel
    obtain ⟨i, hi⟩ : ∃ i, k = i + 1 := ⟨k - 1, by omega⟩
    by_cases hlt : k < l.length
    case neg =>
      have hk2 : k = l.length := by omega
      subst hk2
      have HE := Lib.hid (show Wb.cpt l = l by have := HP.out; rw [List.take_length] at this; exact this)
      go_wp2
      refine bodyPost_ret (v := .slice (some ⟨b, off, none⟩) l.length c) (by simp [results, Try.results67, go_sem]) rfl ⟨by rw [HE.out], by rw [HE.out]; exact HC.out, hx⟩
    obtain ⟨y, hy⟩ := Wb.get_ex (show i < l.length by omega)
    obtain ⟨x, hx1⟩ := Wb.get_ex hlt
    obtain ⟨y0, y1⟩ := HC.out i y hy
    obtain ⟨x0, x1⟩ := HC.out k x hx1
    rw [show i = k - 1 by omega] at y0 y1
    have HP' := Lib.hid (show Wb.cpt (l.take (i + 1)) = l.take (i + 1) by rw [← hi]; exact HP.out)
    have HY := Lib.hid hy
    have HX := Lib.hid (show l[i + 1]? = some x by rw [← hi]; exact hx1)
    have hki : (k : Int) < l.length := by omega
    have hkw : IntKind.i64.wrap ((k : Int) - 1) = ((k - 1 : Nat) : Int) := by rw [IntWalk.i64_in _ (by omega)]; omega
    have hkm : ((k - 1 : Nat) : Int) < l.length := by omega
    have HI0 := Lib.hid hi
    clear hy hx1 hi
    obtain ⟨p, q⟩ := x
    obtain ⟨p', q'⟩ := y
    simp only at x0 x1 y0 y1
    by_cases hdup : p = p' ∧ q = q'
    case neg =>
      have hdb : (p == p' && q == q') = false := by simpa using hdup
      have HN := Lib.hid (show Wb.cpt (l.take (k + 1)) = l.take (k + 1) by
        rw [HI0.out, Wb.cpt_take HY.out HX.out, if_neg (by intro e; injection e with e1 e2; exact hdup ⟨e1.symm, e2.symm⟩), HP'.out]
        obtain ⟨p3, p4⟩ := List.getElem?_eq_some_iff.1 HX.out
        rw [List.take_succ_eq_append_getElem p3, p4])
      go_wp2_with fail
      go_quiet (fail)
      go_wp2
      go_roundw
      case rel => exact ⟨k + 1, by omega, by omega, by go_num, HN, Lib.hid (HC.out.drewN _), fun j => hF j, by (repeat' (first | (with_reducible assumption) | (with_reducible exact Wb.Ext.refl _) | (with_reducible refine Wb.Ext.drew ?_) | (with_reducible refine Wb.Ext.drewN ?_ _) | (with_reducible refine Wb.Ext.alloc ?_ _) | (with_reducible refine Wb.Ext.trans ?_ (by assumption))))⟩
      case measure => first | (simp [intOf]; done) | (simp [intOf]; omega)
    obtain ⟨rfl, rfl⟩ := hdup
    have HI := Lib.hid (show Wb.CI l (k + 1) k l by rw [HI0.out]; exact Wb.CI.start HP'.out HY.out HX.out)
    go_wp2_with fail
    go_quiet (fail)
    go_wp2_with fail
    go_loopw [3, 5] (fun kv iv wr => ∃ (kk k2 : Nat) (m : List (Int × Int)), kv = .int .i64 kk ∧ iv = .int .i64 k2 ∧ 1 ≤ k2 ∧ k + k2 ≤ l.length ∧ Hid (Wb.CI l (k + k2) kk m) ∧ Hid (PairsC wr b off m) ∧ (∀ j, wr.frozen? ⟨b, j, none⟩ = false) ∧ Wb.Ext w0 wr) (fun _ iv _ => l.length - (intOf iv).toNat)
    case atStart => exact ⟨k, 1, l, rfl, rfl, Nat.le_refl _, by omega, HI, Lib.hid (HC.out.drewN _), fun j => hF j, by (repeat' (first | (with_reducible assumption) | (with_reducible exact Wb.Ext.refl _) | (with_reducible refine Wb.Ext.drew ?_) | (with_reducible refine Wb.Ext.drewN ?_ _) | (with_reducible refine Wb.Ext.alloc ?_ _) | (with_reducible refine Wb.Ext.trans ?_ (by assumption))))⟩
    case round =>
      clear HI HC hF hx x0 x1 y0 y1 HP HP' HY HX
      obtain ⟨kk, k2, m, rfl, rfl, hk21, hle, HI, HC, hF, hx⟩ := hrel
      have hkk : kk + 1 ≤ k + k2 := HI.out.lt
      by_cases hlt2 : k + k2 < l.length
      case neg =>
        have hend : k + k2 = l.length := by omega
        have d3 : decide ((k2 : Int) < (l.length : Int) - (k : Int)) = false := by simp; omega
        have hkl : kk < l.length := by omega
        have hml := HI.out.len
        have hEq : m.take kk = Wb.cpt l := by have := HI.out.kept; rw [hend, List.take_length] at this; exact this
        have hkn : (Wb.cpt l).length = kk := by rw [← hEq, List.length_take]; omega
        have hcl : ∀ ty, (Builtin.clear_ #[74] ty #[.slice (some ⟨b, off + kk * 2, none⟩) (l.length - kk) (c - kk)]).run Try.prog wr = .ok (.tuple #[]) (wr.setCells b (off + kk * 2) (List.replicate ((l.length - kk) * 2) (.int .i64 0))) := fun ty => by
          refine run_clear2 wr ty b (off + kk * 2) (l.length - kk) (c - kk) (by omega) (fun j hj => ?_) (fun j _ => hF _)
          obtain ⟨p, hp⟩ := Wb.get_ex (show kk + j / 2 < m.length by omega)
          obtain ⟨h1, h2⟩ := HC.out _ p hp
          have hj2 : j % 2 = 0 ∨ j % 2 = 1 := by omega
          rcases hj2 with hj2 | hj2
          · rw [show off + kk * 2 + j = off + (kk + j / 2) * 2 by omega, h1]; rfl
          · rw [show off + kk * 2 + j = off + (kk + j / 2) * 2 + 1 by omega, h2]; rfl
        have HPC : Hid (PairsC (wr.setCells b (off + kk * 2) (List.replicate ((l.length - kk) * 2) (.int .i64 0))) b off (Wb.cpt l)) := Lib.hid (fun j p hj => by
          have hjk : j < kk := by have := (List.getElem?_eq_some_iff.1 hj).1; omega
          rw [← hEq, List.getElem?_take, if_pos hjk] at hj
          obtain ⟨h1, h2⟩ := HC.out j p hj
          rw [World.cell?_setCells_out _ _ _ _ _ (fun _ _ => .inl (by simp only; omega)), World.cell?_setCells_out _ _ _ _ _ (fun _ _ => .inl (by simp only; omega))]
          exact ⟨h1, h2⟩)
        have HEX := Lib.hid (show Wb.Ext w0 (wr.setCells b (off + kk * 2) (List.replicate ((l.length - kk) * 2) (.int .i64 0))) from below_setCells hb _ _ _ hx)
        have HKN := Lib.hid hkn
        have hkc : ¬ c < kk := by omega
        have hki9 : (kk : Int) < l.length := by omega
        clear hEq hkn hml
        go_wp2
        refine bodyPost_ret (v := .slice (some ⟨b, off, none⟩) kk c) (by simp [results, Try.results67, go_sem]) rfl ⟨by rw [HKN.out], HPC.out, HEX.out⟩
      obtain ⟨i2, hi2⟩ : ∃ i2, k + k2 = i2 + 1 := ⟨k + k2 - 1, by omega⟩
      obtain ⟨v, hv⟩ := Wb.get_ex (show i2 < l.length by omega)
      obtain ⟨u, hu⟩ := Wb.get_ex (show i2 + 1 < l.length by omega)
      obtain ⟨o, ho⟩ := Wb.get_ex (show kk < m.length by rw [HI.out.len]; omega)
      have mv : m[i2]? = some v := by rw [HI.out.rest i2 (by omega)]; exact hv
      have mu : m[i2 + 1]? = some u := by rw [HI.out.rest (i2 + 1) (by omega)]; exact hu
      obtain ⟨v0, v1⟩ := HC.out i2 v mv
      obtain ⟨u0, u1⟩ := HC.out (i2 + 1) u mu
      obtain ⟨o0, o1⟩ := HC.out kk o ho
      rw [show off + i2 * 2 = off + k * 2 + (k2 - 1) * 2 by omega] at v0 v1
      rw [show off + (i2 + 1) * 2 = off + k * 2 + k2 * 2 by omega] at u0 u1
      have HV := Lib.hid hv
      have HU := Lib.hid hu
      have HO := Lib.hid ho
      have hkw2 : IntKind.i64.wrap ((k2 : Int) - 1) = ((k2 - 1 : Nat) : Int) := by rw [IntWalk.i64_in _ (by omega)]; omega
      have hkm2 : ((k2 - 1 : Nat) : Int) < (l.length : Int) - (k : Int) := by omega
      have hkm3 : k2 - 1 < l.length - k := by omega
      have hk2i : (k2 : Int) < (l.length : Int) - (k : Int) := by omega
      have d3 : decide ((k2 : Int) < (l.length : Int) - (k : Int)) = true := by simp; omega
      have hkki : (kk : Int) < l.length := by omega
      rw [hi2] at HI
      have HI2 := Lib.hid hi2
      clear hi2
      clear hv hu ho mv mu
      obtain ⟨u', u''⟩ := u
      obtain ⟨v', v''⟩ := v
      simp only at u0 u1 v0 v1
      by_cases hdup : u' = v' ∧ u'' = v''
      · obtain ⟨rfl, rfl⟩ := hdup
        have HN := Lib.hid (show Wb.CI l (k + (k2 + 1)) kk m by rw [show k + (k2 + 1) = i2 + 2 by have := HI2.out; omega]; exact HI.out.skip HV.out HU.out)
        go_wp2_with fail
        go_quiet (fail)
        go_wp2
        go_roundw
        case rel => exact ⟨kk, k2 + 1, m, rfl, by go_num, by omega, by omega, HN, Lib.hid (HC.out.drewN _), fun j => hF j, by (repeat' (first | (with_reducible assumption) | (with_reducible exact Wb.Ext.refl _) | (with_reducible refine Wb.Ext.drew ?_) | (with_reducible refine Wb.Ext.drewN ?_ _) | (with_reducible refine Wb.Ext.alloc ?_ _) | (with_reducible refine Wb.Ext.trans ?_ (by assumption))))⟩
        case measure => first | (simp [intOf]; done) | (simp [intOf]; omega)
      · have hdb : (u' == v' && u'' == v'') = false := by simpa using hdup
        have HN := Lib.hid (show Wb.CI l (k + (k2 + 1)) (kk + 1) (m.set kk (u', u'')) by
          rw [show k + (k2 + 1) = i2 + 2 by have := HI2.out; omega]
          exact HI.out.keep HV.out HU.out (by intro e; injection e with e1 e2; exact hdup ⟨e1.symm, e2.symm⟩))
        go_wp2_with fail
        go_quiet (fail)
        go_wp2
        go_roundw
        case rel => exact ⟨kk + 1, k2 + 1, m.set kk (u', u''), by go_num, by go_num, by omega, by omega, HN, Lib.hid ((HC.out.drewN _).put HO.out), fun j => by simp [go_sem, hF], Wb.ext_set (Wb.ext_set (by (repeat' (first | (with_reducible assumption) | (with_reducible exact Wb.Ext.refl _) | (with_reducible refine Wb.Ext.drew ?_) | (with_reducible refine Wb.Ext.drewN ?_ _) | (with_reducible refine Wb.Ext.alloc ?_ _) | (with_reducible refine Wb.Ext.trans ?_ (by assumption))))) (show w0.heap.size ≤ b from hb) _) (show w0.heap.size ≤ b from hb) _⟩
        case measure => first | (simp [intOf]; done) | (simp [intOf]; omega)

end Go.Proofs.Ytdfmlgjemfcmlaa
/- The walk of delta.periods: the periods of maps, rising, each once. -/
namespace Go.Proofs.Ytdfmlgjemfcmlaa
open Go.RowKit Go.Sort Go.Lib Go.Maps
set_option maxRecDepth 8000
attribute [local go_sem ↓] Go.wp_at_zero Go.wp_at_succ

theorem wpList_append_row2 {P : Program} {w : World} {ops : Array Oper} {rest : List Oper} {o : Oper} {a : Act} {Q : Exit → Act → World → Prop} (hgd : o.guard = none) (s x : Operand) (t : TypeId)
    (ho : o.op = .call { callee := .builtin .append, args := #[s, x], argTypes := #[t, t] })
    (base : Nat) (e : TypeId) (i : TypeInfo) (z : Value) (size bytes : Nat) (ht : P.underlying t = some (.slice e)) (hi : P.info? e = some i) (hz : i.zero = some z)
    (hsize : i.size = size) (hby : i.bytes = bytes) (hzs : z.cells.size = size) (hsz : 0 < size)
    (v : Value) (n : Nat) (xs : List Value) (hs : a.eval s = v) (hown : w.ownsRow base e size v n xs)
    (xv : Value) (hx : a.eval x = xv) (m : Nat) (news : List Value) (hsrc : Wb.SrcRow w size xv m news) (h1 : ∀ u ∈ news, u.oneCell' = true)
    (h63 : n + m ≤ maxLen) (hbytes : (n + m) * bytes ≤ 140737488355328) (hbase : base ≤ w.heap.size)
    (h : ∀ v' w', w'.ownsRow base e size v' (n + m) (xs ++ news) → w.grownBy w' v.ownBlock → (v'.ownBlock = v.ownBlock ∨ v'.ownBlock = some w.heap.size) → wpList P ops Q rest (a.put o.dst v') w') : wpList P ops Q (o :: rest) a w := by
  refine wpList_plain hgd fun K' hK' => ?_
  exact Wb.wp_append_row s x t ho base e i z size bytes ht hi hz hsize hby hzs hsz v n xs hs hown xv hx m news hsrc h1 h63 hbytes hbase (fun v' w' h1 h2 h3 => hK' _ _ (h v' w' h1 h2 h3))
/-- a map of slips in memory -/
structure MapD where
  b : Nat
  n : Nat
  f : Int × Int → Option Wb.Sl
def mpc (m : MapD) : List Value := [.map (some m.b)]
theorem mpc_len (m : MapD) : (mpc m).length = 1 := rfl
theorem infoPr : (Try.prog.info? 76).map (fun i => (i.zero, i.size, i.bytes)) = some (some (.agg #[.int .i64 0, .int .i64 0]), 2, 16) := by kernel_rfl
/-- the periods of a map that have come so far: those that are not left -/
structure SoP (f : Int × Int → Option Wb.Sl) (left : Lit → Bool) (r : List (Int × Int)) : Prop where
  ok : ∀ p ∈ r, PrOk p ∧ (f p).isSome = true ∧ left (kPair p.1 p.2) = false
  all : ∀ p, PrOk p → (f p).isSome = true → left (kPair p.1 p.2) = false → p ∈ r
  one : r.Nodup
theorem soP_more {f : Int × Int → Option Wb.Sl} {left : Lit → Bool} {r : List (Int × Int)} (h : SoP f left r) {p : Int × Int} (hp : PrOk p) (hf : (f p).isSome = true) (hl : left (kPair p.1 p.2) = true) : SoP f (fun z => left z && !z.sameKey (kPair p.1 p.2)) (r ++ [p]) := by
  have hself : (kPair p.1 p.2).sameKey (kPair p.1 p.2) = true := WideAt.sameKey_self (pair_keyed.key (pair_key hp.1 hp.2))
  refine ⟨fun q hq => ?_, fun q hq hqf hql => ?_, List.nodup_append.2 ⟨h.one, by simp, fun a ha b hb e => ?_⟩⟩
  · rcases List.mem_append.1 hq with hq | hq
    · obtain ⟨h1, h2, h3⟩ := h.ok q hq
      exact ⟨h1, h2, by rw [h3]; rfl⟩
    · simp at hq; subst hq; exact ⟨hp, hf, by simp [hself]⟩
  · rcases hb : left (kPair q.1 q.2) with _ | _
    · exact List.mem_append_left _ (h.all q hq hqf hb)
    · rw [hb, Bool.true_and, Bool.not_eq_false'] at hql
      by_cases e : kPair q.1 q.2 = kPair p.1 p.2
      · exact List.mem_append_right _ (by simp [kPair_inj hq hp e])
      · rw [Maps.sameKey_ne e] at hql; cases hql
  · simp at hb; subst hb; subst e
    have := (h.ok a ha).2.2
    rw [hl] at this; cases this
/-- what has come of the maps so far -/
structure OutP (ms : List MapD) (k : Nat) (r : List (Int × Int)) : Prop where
  mem : ∀ p, p ∈ r ↔ PrOk p ∧ ∃ m ∈ ms.take k, (m.f p).isSome = true
  len : r.length ≤ k * 10000
theorem outP_next {ms : List MapD} {k : Nat} {m : MapD} {r r1 : List (Int × Int)} {left : Lit → Bool} (h : OutP ms k r) (hm : ms[k]? = some m) (h1 : SoP m.f left r1) (hl : ∀ kl, left kl = false) (hc : r1.length ≤ 10000) : OutP ms (k + 1) (r ++ r1) := by
  have e : ms.take (k + 1) = ms.take k ++ [m] := by
    obtain ⟨p1, rfl⟩ := List.getElem?_eq_some_iff.1 hm
    exact List.take_succ_eq_append_getElem p1
  refine ⟨fun p => ?_, by rw [List.length_append]; have := h.len; omega⟩
  rw [List.mem_append, h.mem, e]
  constructor
  · rintro (⟨a, z, hz, hf⟩ | hp)
    · exact ⟨a, z, List.mem_append_left _ hz, hf⟩
    · obtain ⟨a, b, _⟩ := h1.ok p hp
      exact ⟨a, m, by simp, b⟩
  · rintro ⟨a, z, hz, hf⟩
    rcases List.mem_append.1 hz with hz | hz
    · exact .inl ⟨a, z, hz, hf⟩
    · simp at hz; subst hz
      exact .inr (h1.all p a hf (hl _))
theorem pairsC_tbl {w : World} {v : Value} {b off n c : Nat} {r : List (Int × Int)} (hv : v = .slice (some ⟨b, off, none⟩) n c) (hn : n = r.length) (h : PairsC w b off r) : Tbl 2 prc w v r := by
  refine .inr ⟨b, off, c, by rw [hv, hn], fun j p hj i u hu => ?_⟩
  obtain ⟨h1, h2⟩ := h j p hj
  match i, hu with
  | 0, hu => simp [prc] at hu; subst hu; simpa using h1
  | 1, hu => simp [prc] at hu; subst hu; exact h2
  | i + 2, hu => simp [prc] at hu
/-- what delta.periods yields -/
structure IsPers (w w' : World) (ms : List MapD) (u : Value) (r : List (Int × Int)) : Prop where
  tbl : Tbl 2 prc w' u r
  rise : r.Pairwise fun a b => prLt a b = true
  mem : ∀ p, p ∈ r ↔ PrOk p ∧ ∃ m ∈ ms, (m.f p).isSome = true
  len : r.length ≤ 20000
  ext : Wb.Ext w w'

set_option maxHeartbeats 8000000 in
theorem periods_any (v : Value) (ms : List MapD) (w : World) (hv : Tbl 1 mpc w v ms) (hm : ∀ m ∈ ms, SMapIs w m.b m.n m.f) (hl : ms.length ≤ 2) (hcnt : ∀ m ∈ ms, ∀ r : List (Int × Int), r.Nodup → (∀ p ∈ r, (m.f p).isSome = true) → r.length ≤ 10000) :
    Calls Try.prog 47 #[v] w fun e w' => ∃ u, e = .returned u ∧ ∃ r, IsPers w w' ms u r := by
  obtain ⟨i0, hi, hz0, hz1, hz2⟩ := info_parts infoPr
  have HIN := Lib.hid (show Try.prog.info? 76 = some i0 ∧ i0.zero = some (.agg #[.int .i64 0, .int .i64 0]) ∧ i0.size = 2 ∧ i0.bytes = 16 from ⟨hi, hz0, hz1, hz2⟩)
  clear hi hz0 hz1 hz2
  obtain ⟨va, vc, rfl⟩ := hv.shape
  have HV := Lib.hid hv
  have HM := Lib.hid hm
  have HCNT := Lib.hid hcnt
  clear hv hm hcnt
  go_enter Try.func47, Try.ntmps47
  go_wp2_with fail
  go_loopw [3, 9] (fun ov iv wr => ∃ (k : Nat) (r : List (Int × Int)), k ≤ ms.length ∧ iv = .int .i64 k ∧ Hid (wr.ownsRow w.heap.size 76 2 ov r.length (rowsOf prc r)) ∧ Hid (OutP ms k r) ∧ Wb.Ext w wr) (fun _ iv _ => ms.length - (intOf iv).toNat)
  case atStart => exact ⟨0, [], Nat.zero_le _, rfl, Lib.hid own_none, Lib.hid ⟨fun p => by simp, by simp⟩, by (repeat' (first | (with_reducible assumption) | (with_reducible exact Wb.Ext.refl _) | (with_reducible refine Wb.Ext.drew ?_) | (with_reducible refine Wb.Ext.drewN ?_ _) | (with_reducible refine Wb.Ext.alloc ?_ _) | (with_reducible refine Wb.Ext.trans ?_ (by assumption))))⟩
  case round =>
    obtain ⟨k, r, hk, rfl, HROW, HOUT, hxr⟩ := hrel
    obtain ⟨oa, oc, rfl⟩ := row_shape HROW.out
    have hrl : r.length ≤ 20000 := by have := HOUT.out.len; omega
    by_cases hlt : k < ms.length
    · obtain ⟨m, hmk⟩ := Wb.get_ex hlt
      have hmem := List.mem_of_getElem? hmk
      obtain ⟨b0, off0, rfl, hcells⟩ := (HV.out.ext hxr).opened (tne hlt)
      have c0 := hcells k m hmk 0 _ rfl
      simp only [Nat.add_zero, Nat.mul_one] at c0
      obtain ⟨D, hown, hD⟩ := HM.out m hmem
      have hmb := hown.lt
      have hown := hown.kept (ext_grown hxr) (by simp)
      have HD := Lib.hid hD
      have HMK := Lib.hid hmk
      have HCN := Lib.hid (HCNT.out m hmem)
      have hki : (k : Int) < ms.length := by omega
      clear hcells hmk hD hmem
      go_wp2_with (first
        | (at_range; refine wpList_range_own _ rfl _ 71 rfl 76 24 pair_keyed Try.underlying71 RH m.b m.n D rfl hown ?_; intro w0 hrg0 hg0 hs0)
        | go_in)
      obtain ⟨X, hX⟩ : ∃ X, wr.heap.size = X := ⟨_, rfl⟩
      have hg0' : Wb.Ext wr w0 := Wb.Ext.grown (.refl _) hg0 (fun k hk => by cases hk)
      have HX0 := Lib.hid (hxr.trans hg0')
      have HRG0 := Lib.hid hrg0
      have HROW0 := Lib.hid (HROW.out.kept hg0 (by
        rcases (Value.slice oa r.length oc).ownBlock with _ | q
        · exact .inl rfl
        · exact .inr (by simp)))
      have hXw : w.heap.size ≤ X := by rw [← hX]; exact hxr.size
      have hlt0 : X + 1 ≤ w0.heap.size := by omega
      have hrX : Hid (∀ q, (Value.slice oa r.length oc).ownBlock = some q → q ≠ X) := Lib.hid (fun q hq => by have := (HROW.out.lt q hq).2; omega)
      rw [hX] at HRG0 ⊢
      clear hown hrg0 hg0 hs0 hg0' HROW hX c0
      go_frame
      have HS0 := Lib.hid (show SoP m.f (Maps.has D) [] from ⟨(fun x hx => by cases hx), (fun p hp hf hl => by rw [(HD.out p hp).2, hf] at hl; cases hl), List.nodup_nil⟩)
      go_loopw [3] (fun ov wr => ∃ (left : Lit → Bool) (cnt : Nat) (r1 : List (Int × Int)), wr.ranges Try.prog 76 RH m.b X m.n D left cnt ∧ Hid (SoP m.f left r1) ∧ wr.ownsRow w.heap.size 76 2 ov (r.length + r1.length) (rowsOf prc (r ++ r1)) ∧ Hid (∀ q, ov.ownBlock = some q → q ≠ X) ∧ Hid (Wb.Ext w wr) ∧ w0.heap.size ≤ wr.heap.size) (fun _ wr => wr.rangeLeft m.b X)
      case atStart => exact ⟨_, _, [], HRG0.out, HS0, by rw [List.append_nil]; exact HROW0.out, hrX, HX0, Nat.le_refl _⟩
      case round =>
        clear HX0 HRG0 HROW0 hrX HS0
        obtain ⟨left, cnt, r1, hrg, HSO, hrow, HRX, HXR, hszr⟩ := hrel
        obtain ⟨pa, pc, rfl⟩ := row_shape hrow
        have hr1 : r1.length ≤ 10000 := HCN.out r1 HSO.out.one (fun p hp => (HSO.out.ok p hp).2.1)
        have HROW := Lib.hid hrow
        have HRG := Lib.hid hrg
        clear hrow
        go_wp2_with (first
          | (at_next; refine wpList_next_ranges (α := Int × Int) (β := Value) _ rfl _ rfl 76 pair_keyed RH (fun x => .agg #[.int .i64 x.1, .int .i64 x.2]) id (fun key kl hkey => by obtain ⟨p, c, rfl, _⟩ := pair_inv hkey; exact ⟨(p, c), rfl⟩) (fun v y hv => ⟨v, rfl⟩) m.b X m.n _ _ _ rfl hrg ?_ ?_)
          | go_in)
        · intro _ hl0
          have HN := Lib.hid (outP_next HOUT.out HMK.out HSO.out hl0 hr1)
          have HR2 := Lib.hid (show wr.ownsRow w.heap.size 76 2 (.slice pa (r ++ r1).length pc) (r ++ r1).length (rowsOf prc (r ++ r1)) by rw [List.length_append]; exact HROW.out)
          have hln : (r ++ r1).length = r.length + r1.length := List.length_append
          rw [← hln]
          clear hl0 hrg HROW
          go_wp2
          go_roundw
          case rel => exact ⟨k + 1, r ++ r1, by omega, by go_num, HR2, HN, HXR.out⟩
          case measure => first | (simp [intOf]; done) | (simp [intOf]; omega)
        · intro p q cv kl yd yp w1 cnt1 hkx hlx hry hat hrg1 hlt1 hg1 hs1 hen
          obtain ⟨y', i', e1, e2, hp', hc'⟩ := pair_inv hkx
          simp only [Value.agg.injEq] at e1
          have q1 := congrArg (fun a => a[0]?) e1
          have q2 := congrArg (fun a => a[1]?) e1
          simp at q1 q2
          subst q1 q2 e2
          have hpk : PrOk (p, q) := ⟨hp', hc'⟩
          have hff : (m.f (p, q)).isSome = true := by
            rw [← (HD.out (p, q) hpk).2]
            exact Maps.has_true_of_atKey hat
          have HN := Lib.hid (soP_more HSO.out hpk hff hlx)
          have HX1 := Lib.hid (show Wb.Ext w w1 from HXR.out.grown hg1 (fun k hk => by cases hk; exact hXw))
          have HROW1 := Lib.hid (HROW.out.kept hg1 (by
            rcases hb : (Value.slice pa (r.length + r1.length) pc).ownBlock with _ | k
            · exact .inl rfl
            · exact .inr (fun e => by injection e with e; exact HRX.out k hb e)))
          have HRG1 := Lib.hid hrg1
          have hsz1 : w0.heap.size ≤ w1.heap.size := by omega
          have hXs : X < w1.heap.size := by omega
          clear hkx hlx hry hat hrg1 hrg hg1 hs1 e1 hp' hc' hpk hff
          (try simp only [id] at hen)
          obtain ⟨hi, hz0, hz1, hz2⟩ := HIN.out
          go_wp2_with (at_builtin; go_loud (refine wpList_append_row2 rfl (.tmp 19) (.tmp 21) 74 rfl w.heap.size 76 i0 (.agg #[.int .i64 0, .int .i64 0]) 2 16 Try.underlying74 hi hz0 hz1 hz2 rfl (by decide) _ _ _ rfl ((HROW1.out.alloc _).alloc _) _ rfl 1 (prc (p, q)) ?c1 ?c2 ?c3 ?c4 ?c5 ?_))
          case c1 => exact src_lit _ _ (by simp) (prc (p, q)) _ _
          case c2 => intro u hu; simp [prc] at hu; rcases hu with rfl | rfl <;> rfl
          case c3 => unfold maxLen; omega
          case c4 => omega
          case c5 => first | omega | (simp; omega)
          intro u2 w6 hown2 hg2 hblk
          have hrb : ∀ k, (Value.slice pa (r.length + r1.length) pc).ownBlock = some k → w.heap.size ≤ k := fun k hk => (HROW1.out.lt k hk).1
          have HX6 := Lib.hid (show Wb.Ext w w6 from ((HX1.out.alloc _).alloc _).grown hg2 (fun k hk => hrb k hk))
          have HO := Lib.hid (show w6.ownsRow w.heap.size 76 2 u2 (r.length + (r1 ++ [(p, q)]).length) (rowsOf prc (r ++ (r1 ++ [(p, q)]))) by
            rw [← List.append_assoc, rowsOf_app prc (r ++ r1), rowsOf_one, show r.length + (r1 ++ [(p, q)]).length = r.length + r1.length + 1 by simp; omega]
            exact hown2)
          have HRX2 : Hid (∀ k, u2.ownBlock = some k → k ≠ X) := Lib.hid (fun k hk => by
            rcases hblk with h | h
            · rw [h] at hk; exact HRX.out k hk
            · rw [h] at hk; injection hk with hk; first | omega | (simp at hk; omega))
          have HRG6 := Lib.hid (((HRG1.out.alloc _).alloc _).kept hg2 (fun e => by have := hrb m.b e.symm; omega) (fun e => HRX.out X e.symm rfl))
          have hs6 : w0.heap.size ≤ w6.heap.size := by have := hg2.size; simp at this; omega
          clear hi hz0 hz1 hz2 hg2 hown2 hblk hrb
          go_wp2
          go_roundw
          case rel => exact ⟨_, cnt1, r1 ++ [(p, q)], HRG6.out, HN, HO.out, HRX2, HX6, hs6⟩
          case measure => rw [HRG6.out.left_eq, HRG.out.left_eq]; exact hlt1
    · obtain rfl : k = ms.length := by omega
      go_wp2_with fail
      go_fit (sortp_any w.heap.size _ r wr HROW.out (by omega)); rintro e w3 ⟨rfl, r2, hp, hs, ho, hg⟩
      have hx3 : Wb.Ext w w3 := hxr.grown hg (fun k hk => (HROW.out.lt k hk).1)
      have hln : r2.length = r.length := hp.length_eq
      have HMEM : Hid (∀ p, p ∈ Wb.cpt r2 ↔ PrOk p ∧ ∃ m ∈ ms, (m.f p).isSome = true) := Lib.hid (fun p => by
        rw [Wb.cpt_mem, hp.mem_iff, HOUT.out.mem, List.take_length])
      have HRI := Lib.hid (Wb.cpt_rise hs)
      have hcl := Wb.cpt_len r2
      clear hp hs hg
      by_cases hfew : r.length < 2
      · have HT := Lib.hid (show Tbl 2 prc w3 (.slice oa r.length oc) (Wb.cpt r2) by
          have e : Wb.cpt r2 = r2 := by
            match r2, hln with
            | [], _ => rfl
            | [x], _ => rfl
            | x :: y :: t, h => simp at h; omega
          rw [e]
          exact row_tbl prc_len (by decide) ho)
        clear ho
        go_wp2_with fail
        go_fit (compact_few oa r.length oc w3 hfew); rintro e w4 ⟨rfl, rfl⟩
        go_wp2
        refine bodyPost_ret (v := .slice oa r.length oc) (by simp [results, Try.results47, go_sem]) rfl ⟨_, rfl, Wb.cpt r2, HT.out, HRI.out, HMEM.out, by omega, by (repeat' (first | (with_reducible assumption) | (with_reducible exact Wb.Ext.refl _) | (with_reducible refine Wb.Ext.drew ?_) | (with_reducible refine Wb.Ext.drewN ?_ _) | (with_reducible refine Wb.Ext.alloc ?_ _) | (with_reducible refine Wb.Ext.trans ?_ (by assumption))))⟩
      · have hr2 : 2 ≤ r2.length := by omega
        obtain ⟨g, rfl, hcap⟩ : ∃ g, oa = some ⟨g, 0, none⟩ ∧ r.length ≤ oc := by
          obtain ⟨h1, h2 | ⟨g, cap, cur, hv, hb, hg, h3, h4, _⟩⟩ := ho
          · injection h2.1 with _ e _; omega
          · injection hv with e1 _ e3; exact ⟨g, e1, by omega⟩
        have HPC : Hid (PairsC w3 g 0 r2) := Lib.hid (fun j p hj => by
          obtain ⟨b1, o1, e1, hc⟩ := (row_tbl prc_len (by decide) ho).opened (by intro e; rw [e] at hr2; simp at hr2)
          injection e1 with e1
          injection e1 with e2 e3
          subst e2 e3
          have h0 := hc j p hj 0 _ rfl
          have h1 := hc j p hj 1 _ rfl
          exact ⟨by simpa using h0, h1⟩)
        have hfz : ∀ j, w3.frozen? ⟨g, j, none⟩ = false := own_free ho
        have hgb : w.heap.size ≤ g := (ho.lt g rfl).1
        rw [← hln] at hcap ⊢
        have hr2l : r2.length ≤ 20000 := by omega
        clear ho hln hrl
        go_wp2_with fail
        go_fit (compact_many w g 0 oc r2 w3 hr2 (by omega) hcap HPC.out hfz hgb hx3); rintro e w4 ⟨rfl, hpc, hx4⟩
        have HT := Lib.hid (pairsC_tbl (v := .slice (some ⟨g, 0, none⟩) (Wb.cpt r2).length oc) rfl rfl hpc)
        clear hpc
        go_wp2
        refine bodyPost_ret (v := .slice (some ⟨g, 0, none⟩) (Wb.cpt r2).length oc) (by simp [results, Try.results47, go_sem]) rfl ⟨_, rfl, Wb.cpt r2, HT.out, HRI.out, HMEM.out, by omega, hx4⟩

end Go.Proofs.Ytdfmlgjemfcmlaa
/- The walk of delta.All: the differences of two lists. -/
namespace Go.Proofs.Ytdfmlgjemfcmlaa
open Go.RowKit Go.Sort Go.Lib Go.Maps
set_option maxRecDepth 8000
attribute [local go_sem ↓] Go.wp_at_zero Go.wp_at_succ

namespace Wb
/-- all differences of two lists: the error, what they are -/
def allF (A B : List Sl) : Int × List (Int × Int × List Ln) := if listE A ≠ 0 then (listE A, []) else if listE B ≠ 0 then (listE B, []) else allG A B [] (headsP (A ++ B))
end Wb
/-- lines stay where no cell of their block turns -/
theorem lnsC_cells {w w' : World} {v : Value} {l : List Wb.Ln} (h : LnsC w v l) (hk : ∀ b k u, (∀ q, v.ownBlock = some q → b = q) → l ≠ [] → w.cell? ⟨b, k, none⟩ = some u → w'.cell? ⟨b, k, none⟩ = some u) : LnsC w' v l := by
  refine ⟨?_, h.2⟩
  rcases h.1 with q | ⟨b, off, cap, h1, h2⟩
  · exact .inl q
  · refine .inr ⟨b, off, cap, h1, fun j x hj => ?_⟩
    obtain ⟨c0, c1, c2⟩ := h2 j x hj
    have hne : l ≠ [] := by rintro rfl; simp at hj
    have hb : ∀ q, v.ownBlock = some q → b = q := fun q hq => by rw [h1] at hq; injection hq
    exact ⟨hk b _ _ hb hne c0, hk b _ _ hb hne c1, hk b _ _ hb hne c2⟩
theorem lnsC_kept {w w' : World} {v : Value} {l : List Wb.Ln} {row : Option Nat} (h : LnsC w v l) (hg : w.grownBy w' row) (hne : l ≠ [] → ∀ q, v.ownBlock = some q → row ≠ some q) : LnsC w' v l := by
  refine lnsC_cells h fun b k u hb hl hc => ?_
  obtain ⟨a, n, hv⟩ := h.1.shape
  rw [hg.cell_far ⟨b, k, none⟩ (Wb.cell_size hc) (fun e => ?_)]
  · exact hc
  · rcases a with _ | a
    · subst hv
      rcases h.1 with ⟨q, _⟩ | ⟨_, _, _, q, _⟩
      · exact hl q
      · cases q
    · have hq : v.ownBlock = some a.block := by rw [hv]; rfl
      exact hne hl _ hq (by rw [← e, hb _ hq])
/-- a row of slips of the call's own; no line lies in it -/
def SlR (base : Nat) (w : World) (v : Value) (R : List Wb.Sl) : Prop := w.ownsRow base 24 3 v R.length (rowsOf slc R) ∧ (∀ s ∈ R, LnsC w s.v s.l ∧ Sized s.l) ∧ ∀ s ∈ R, s.l ≠ [] → ∀ q, s.v.ownBlock = some q → v.ownBlock ≠ some q
theorem SlR.nil {base : Nat} {w : World} : SlR base w (.slice none 0 0) [] := ⟨own_none, (fun s hs => by cases hs), fun s hs => by cases hs⟩
theorem row_ext3 {w w' : World} {base e s n : Nat} {v : Value} {xs : List Value} (h : w.ownsRow base e s v n xs) (hw : Wb.Ext w w') : w'.ownsRow base e s v n xs := by
  have hl := h.lt
  obtain ⟨h1, h2 | ⟨g, cap, cur, hv, hb, hg, rest⟩⟩ := h
  · exact ⟨h1, .inl h2⟩
  · refine ⟨h1, .inr ⟨g, cap, cur, hv, hb, ?_, rest⟩⟩
    subst hv
    rw [hw.block g (hl g rfl).2]; exact hg
theorem SlR.ext {base : Nat} {w w' : World} {v : Value} {R : List Wb.Sl} (h : SlR base w v R) (k : Wb.Ext w w') : SlR base w' v R := ⟨row_ext3 h.1 k, fun s hs => ⟨(h.2.1 s hs).1.ext k, (h.2.1 s hs).2⟩, h.2.2⟩
theorem SlR.mono {base base' : Nat} {w : World} {v : Value} {R : List Wb.Sl} (h : SlR base w v R) (k : base' ≤ base) : SlR base' w v R := ⟨row_mono h.1 k, h.2⟩
theorem SlR.shape {base : Nat} {w : World} {v : Value} {R : List Wb.Sl} (h : SlR base w v R) : ∃ a c, v = .slice a R.length c := row_shape h.1
theorem SlR.sls {base : Nat} {w : World} {v : Value} {R : List Wb.Sl} (h : SlR base w v R) : Sls w v R := ⟨row_tbl slc_len (by decide) h.1, h.2.1⟩
theorem SlR.append {base : Nat} {w w' : World} {v v' : Value} {R : List Wb.Sl} {s : Wb.Sl} (h : SlR base w v R) (ho : w'.ownsRow base 24 3 v' (R.length + 1) (rowsOf slc R ++ slc s)) (hg : w.grownBy w' v.ownBlock) (hb : v'.ownBlock = v.ownBlock ∨ v'.ownBlock = some w.heap.size)
    (hs : LnsC w s.v s.l) (hz : Sized s.l) (hn : s.l ≠ [] → ∀ q, s.v.ownBlock = some q → v.ownBlock ≠ some q) : SlR base w' v' (R ++ [s]) := by
  have blk : ∀ t : Wb.Sl, LnsC w t.v t.l → t.l ≠ [] → ∀ q, t.v.ownBlock = some q → q < w.heap.size := by
    intro t ht hne q hq
    obtain ⟨a, n, hv⟩ := ht.1.shape
    have h1 := ht.1
    rw [hv] at h1 hq
    obtain ⟨b, off, rfl, hc⟩ := h1.opened hne
    injection hq with hq
    obtain ⟨x, r, hx⟩ : ∃ x r, t.l = x :: r := by
      rcases ht : t.l with _ | ⟨x, r⟩
      · exact absurd ht hne
      · exact ⟨x, r, rfl⟩
    have := Wb.cell_size (hc 0 x (by rw [hx]; rfl)).1
    simp only at hq; omega
  refine ⟨by rw [List.length_append, rowsOf_app, rowsOf_one]; exact ho, fun t ht => ?_, fun t ht hne q hq => ?_⟩
  · rcases List.mem_append.1 ht with ht | ht
    · exact ⟨lnsC_kept (h.2.1 t ht).1 hg (h.2.2 t ht), (h.2.1 t ht).2⟩
    · simp at ht; subst ht; exact ⟨lnsC_kept hs hg hn, hz⟩
  · have hold : v.ownBlock ≠ some q := by
      rcases List.mem_append.1 ht with ht | ht
      · exact h.2.2 t ht hne q hq
      · simp at ht; subst ht; exact hn hne q hq
    rcases hb with hb | hb
    · rw [hb]; exact hold
    · rw [hb]
      have hlt : q < w.heap.size := by
        rcases List.mem_append.1 ht with ht | ht
        · exact blk t (h.2.1 t ht).1 hne q hq
        · simp at ht; subst ht; exact blk _ hs hne q hq
      intro e; injection e with e; omega
theorem infoSlip : (Try.prog.info? 24).map (fun i => (i.zero, i.size, i.bytes)) = some (some slZ, 3, 40) := by kernel_rfl
theorem maps_lit (w : World) (n : Nat) (hn : n = w.heap.size) (L : List MapD) (T : TypeId) : Tbl 1 mpc (w.alloc (.cells (rowsOf mpc L).toArray T)) (.slice (some ⟨n, 0, none⟩) L.length L.length) L := by
  refine .inr ⟨n, 0, L.length, rfl, fun j x hj i u hu => ?_⟩
  subst hn
  match i, hu with
  | 0, hu =>
    simp [mpc] at hu
    subst hu
    have hl : (rowsOf mpc L)[j]? = some (.map (some x.b)) := by
      have e : rowsOf mpc L = L.map fun m => Value.map (some m.b) := by
        clear hj
        induction L with
        | nil => rfl
        | cons a r ih => simp only [rowsOf, List.flatMap_cons, mpc, List.map_cons, List.cons_append, List.nil_append] at ih ⊢; rw [ih]
      rw [e, List.getElem?_map, hj]; rfl
    simp [go_sem, hl]
  | i + 1, hu => simp [mpc] at hu
theorem nodup_len : ∀ (r L : List (Int × Int)), r.Nodup → (∀ p ∈ r, p ∈ L) → r.length ≤ L.length
  | [], _, _, _ => Nat.zero_le _
  | p :: r, L, h, k => by
    obtain ⟨h1, h2⟩ := List.nodup_cons.1 h
    obtain ⟨s, t, rfl⟩ := List.append_of_mem (k p (by simp))
    have := nodup_len r (s ++ t) h2 fun q hq => by
      rcases List.mem_append.1 (k q (by simp [hq])) with m | m
      · exact List.mem_append_left _ m
      · rcases List.mem_cons.1 m with rfl | m
        · exact absurd hq h1
        · exact List.mem_append_right _ m
    simp only [List.length_append, List.length_cons] at this ⊢
    omega
theorem find_cnt (L : List Wb.Sl) (r : List (Int × Int)) (h : r.Nodup) (k : ∀ p ∈ r, (Wb.findS L p).isSome = true) : r.length ≤ L.length := by
  have := nodup_len r (L.map Wb.perS) h fun p hp => by
    obtain ⟨s, hs, e⟩ := Wb.hasP_find.2 (k p hp)
    exact List.mem_map.2 ⟨s, hs, e⟩
  simpa using this
theorem st3d {w w' : World} {b : Nat} {x y z x' y' z' : Value} (hw : w' = ((w.setCell ⟨b, 0, none⟩ x).setCell ⟨b, 1, none⟩ y).setCell ⟨b, 2, none⟩ z) (h0 : w.cell? ⟨b, 0, none⟩ = some x') (h1 : w.cell? ⟨b, 1, none⟩ = some y') (h2 : w.cell? ⟨b, 2, none⟩ = some z') :
    w'.cell? ⟨b, 0, none⟩ = some x ∧ w'.cell? ⟨b, 1, none⟩ = some y ∧ w'.cell? ⟨b, 2, none⟩ = some z ∧ (∀ c o, c ≠ b → w'.cell? ⟨c, o, none⟩ = w.cell? ⟨c, o, none⟩) ∧ (∀ p, w'.frozen? p = w.frozen? p) ∧ w'.heap.size = w.heap.size ∧
    (∀ W : World, W.heap.size ≤ b → Wb.Ext W w → Wb.Ext W w') := by
  subst hw
  refine ⟨by simp [go_sem, h0], by simp [go_sem, h1], by simp [go_sem, h2], fun c o hc => ?_, fun p => by simp [go_sem], by simp [go_sem], fun W hW hE => Wb.ext_set (Wb.ext_set (Wb.ext_set hE hW _) hW _) hW _⟩
  have hc' : ¬ b = c := fun h => hc h.symm
  first
    | (simp [go_sem]; done)
    | simp [go_sem, hc']
    | simp [go_sem, hc]
theorem own_block {a : Option Addr} {n c q : Nat} (h : (Value.slice a n c).ownBlock = some q) : ∃ o s, a = some ⟨q, o, s⟩ := by
  rcases a with _ | ⟨b, o, s⟩
  · cases h
  · injection h with h; exact ⟨o, s, by rw [← h]⟩
/-- the slip of a period, as it is handed on -/
theorem slO_con {w : World} {L : List Wb.Sl} (h : ∀ s ∈ L, LnsC w s.v s.l ∧ Sized s.l) (p : Int × Int) : ∃ y i a n c l, slO (Wb.findS L p) = SlV y i (.slice a n c) ∧ Wb.conO (Wb.findS L p) = (y, i, l) ∧ LnsC w (.slice a n c) l ∧ Sized l := by
  rcases hf : Wb.findS L p with _ | s
  · exact ⟨0, 0, none, 0, 0, [], rfl, rfl, ⟨.inl ⟨rfl, _, _, rfl⟩, Nat.le_refl _⟩, by simp [Sized]⟩
  · obtain ⟨h1, _⟩ := Wb.find_mem hf
    obtain ⟨h2, h3⟩ := h s h1
    obtain ⟨a, c, hv⟩ := h2.1.shape
    exact ⟨s.y, s.i, a, s.l.length, c, s.l, by rw [← hv]; rfl, rfl, by rw [← hv]; exact h2, h3⟩
theorem of_sized9 {y i y' i' E Y I : Int} {a b r : List Wb.Ln} (h : Wb.IsOf y i a y' i' b E Y I r) (he : E = 0) : Sized r := by
  subst he
  have k := Wb.of_ok h
  have hr := Wb.delta_right k.del (Wb.wrong_ok k.wa).2.2 (Wb.wrong_ok k.wb).2.2 k.fit
  refine ⟨Nat.le_trans k.few (by decide), fun x hx => ?_⟩
  obtain ⟨_, _, h3, _⟩ := Wb.lineErr_iff.1 (hr x hx)
  have : x.code.length ≤ 32 := by
    simp [Wb.codeOk] at h3
    exact h3.1.2
  exact Nat.le_trans this (by decide)
theorem perOf_of {A B : List Wb.Sl} {r : List (Int × Int)} (ca : ∀ s ∈ A, Wb.check s.y s.i s.l = 0) (cb : ∀ s ∈ B, Wb.check s.y s.i s.l = 0) (h1 : r.Pairwise fun a b => prLt a b = true) (h2 : ∀ p, p ∈ r ↔ PrOk p ∧ ((Wb.findS A p).isSome = true ∨ (Wb.findS B p).isSome = true)) : Wb.PerOf A B r := by
  refine ⟨h1, fun p => ?_⟩
  rw [h2, Wb.hasP_find, Wb.hasP_find]
  refine ⟨fun h => h.2, fun h => ⟨?_, h⟩⟩
  rcases h with h | h
  · obtain ⟨s, hs, e⟩ := Wb.hasP_find.2 h
    rw [← e]; exact prOk_check (ca s hs)
  · obtain ⟨s, hs, e⟩ := Wb.hasP_find.2 h
    rw [← e]; exact prOk_check (cb s hs)
/-- what delta.All yields -/
structure IsAllM (w w' : World) (A B : List Wb.Sl) (E : Int) (v : Value) (R : List Wb.Sl) : Prop where
  val : Wb.allF A B = (E, R.map Wb.ct)
  row : SlR w.heap.size w' v R
  ext : Wb.Ext w w'

theorem lns_size {w : World} {a : Option Addr} {n c : Nat} {l : List Wb.Ln} (h : LnsC w (.slice a n c) l) (hne : l ≠ []) (q : Nat) (hq : (Value.slice a n c).ownBlock = some q) : q < w.heap.size := by
  obtain ⟨b, off, rfl, hc⟩ := h.1.opened hne
  injection hq with hq
  obtain ⟨x, r, hx⟩ : ∃ x r, l = x :: r := by
    rcases ht : l with _ | ⟨x, r⟩
    · exact absurd ht hne
    · exact ⟨x, r, rfl⟩
  have := Wb.cell_size (hc 0 x (by rw [hx]; rfl)).1
  simp only at hq; omega
set_option maxHeartbeats 8000000 in
theorem dall_any (va vb : Value) (A B : List Wb.Sl) (w : World) (hA : SlsB w va A) (hB : SlsB w vb B) (la : A.length ≤ 9223372036854775807) (lb : B.length ≤ 9223372036854775807) :
    Calls Try.prog 22 #[va, vb] w fun e w' => ∃ v E, e = .returned (.tuple #[v, .int .i64 E]) ∧ ∃ R, IsAllM w w' A B E v R := by
  obtain ⟨i0, hi, hz0, hz1, hz2⟩ := info_parts infoSlip
  have HIN := Lib.hid (show Try.prog.info? 24 = some i0 ∧ i0.zero = some slZ ∧ i0.size = 3 ∧ i0.bytes = 40 from ⟨hi, hz0, hz1, hz2⟩)
  clear hi hz0 hz1 hz2
  obtain ⟨xa, ka, rfl⟩ := hA.1.shape
  obtain ⟨xb, kb, rfl⟩ := hB.1.shape
  have HA := Lib.hid hA
  have HB := Lib.hid hB
  clear hA hB
  go_enter Try.func22, Try.ntmps22
  go_wp2_with fail
  go_fit (table_any _ A _ (HA.out.ext (by (repeat' (first | (with_reducible assumption) | (with_reducible exact Wb.Ext.refl _) | (with_reducible refine Wb.Ext.drew ?_) | (with_reducible refine Wb.Ext.drewN ?_ _) | (with_reducible refine Wb.Ext.alloc ?_ _) | (with_reducible refine Wb.Ext.trans ?_ (by assumption)))))) la); rintro e w1 ⟨m1, rfl, ht1⟩
  have hx1 : Wb.Ext w w1 := Wb.Ext.trans (by (repeat' (first | (with_reducible assumption) | (with_reducible exact Wb.Ext.refl _) | (with_reducible refine Wb.Ext.drew ?_) | (with_reducible refine Wb.Ext.drewN ?_ _) | (with_reducible refine Wb.Ext.alloc ?_ _) | (with_reducible refine Wb.Ext.trans ?_ (by assumption))))) ht1.ext
  have HT1 := Lib.hid ht1.tab
  clear ht1
  obtain ⟨E1, hE1⟩ : ∃ E, Wb.listE A = E := ⟨_, rfl⟩
  have HE1 := Lib.hid hE1
  rw [hE1]
  clear hE1
  by_cases hz1 : E1 = 0
  case neg =>
    have d1 : (E1 != 0) = true := by simpa using hz1
    have d2 : (E1 == 0) = false := by simpa using hz1
    have HV := Lib.hid (show Wb.allF A B = (E1, [].map Wb.ct) by rw [Wb.allF, if_pos (by rw [HE1.out]; exact hz1), HE1.out]; rfl)
    clear hz1
    go_wp2
    refine bodyPost_ret (v := .tuple #[.slice none 0 0, .int .i64 E1]) (by simp [results, Try.results22, go_sem]) rfl ⟨_, _, rfl, [], HV.out, SlR.nil, by (repeat' (first | (with_reducible assumption) | (with_reducible exact Wb.Ext.refl _) | (with_reducible refine Wb.Ext.drew ?_) | (with_reducible refine Wb.Ext.drewN ?_ _) | (with_reducible refine Wb.Ext.alloc ?_ _) | (with_reducible refine Wb.Ext.trans ?_ (by assumption))))⟩
  subst hz1
  obtain ⟨b1, rfl, hb1, hm1⟩ := HT1.out HE1.out
  have HM1 := Lib.hid hm1
  clear hm1 HT1
  go_wp2_with fail
  go_fit (table_any _ B _ (HB.out.ext (by (repeat' (first | (with_reducible assumption) | (with_reducible exact Wb.Ext.refl _) | (with_reducible refine Wb.Ext.drew ?_) | (with_reducible refine Wb.Ext.drewN ?_ _) | (with_reducible refine Wb.Ext.alloc ?_ _) | (with_reducible refine Wb.Ext.trans ?_ (by assumption)))))) lb); rintro e w2 ⟨m2, rfl, ht2⟩
  have hx12 := ht2.ext
  have hx2 : Wb.Ext w w2 := hx1.trans hx12
  have HT2 := Lib.hid ht2.tab
  replace HM1 := Lib.hid (HM1.out.ext hx12)
  clear ht2
  obtain ⟨E2, hE2⟩ : ∃ E, Wb.listE B = E := ⟨_, rfl⟩
  have HE2 := Lib.hid hE2
  rw [hE2]
  clear hE2
  by_cases hz2 : E2 = 0
  case neg =>
    have d1 : (E2 != 0) = true := by simpa using hz2
    have d2 : (E2 == 0) = false := by simpa using hz2
    have HV := Lib.hid (show Wb.allF A B = (E2, [].map Wb.ct) by rw [Wb.allF, if_neg (by rw [HE1.out]; simp), if_pos (by rw [HE2.out]; exact hz2), HE2.out]; rfl)
    clear hz2
    go_wp2
    refine bodyPost_ret (v := .tuple #[.slice none 0 0, .int .i64 E2]) (by simp [results, Try.results22, go_sem]) rfl ⟨_, _, rfl, [], HV.out, SlR.nil, by (repeat' (first | (with_reducible assumption) | (with_reducible exact Wb.Ext.refl _) | (with_reducible refine Wb.Ext.drew ?_) | (with_reducible refine Wb.Ext.drewN ?_ _) | (with_reducible refine Wb.Ext.alloc ?_ _) | (with_reducible refine Wb.Ext.trans ?_ (by assumption))))⟩
  subst hz2
  obtain ⟨b2, rfl, hb2, hm2⟩ := HT2.out HE2.out
  have HM2 := Lib.hid hm2
  clear hm2 HT2 hx12
  obtain ⟨ha1, ha2, _⟩ := Wb.list_ok HE1.out
  obtain ⟨hc1, hc2, _⟩ := Wb.list_ok HE2.out
  have HLSA := Lib.hid (HA.out.2 ha1).2
  have HLSB := Lib.hid (HB.out.2 hc1).2
  have HCKA := Lib.hid ha2
  have HCKB := Lib.hid hc2
  have HALL := Lib.hid (show Wb.allF A B = Wb.allG A B [] (Wb.headsP (A ++ B)) by rw [Wb.allF, if_neg (by rw [HE1.out]; simp), if_neg (by rw [HE2.out]; simp)])
  clear ha2 hc2
  go_wp2_with fail
  go_fit (periods_any _ [⟨b1, A.length, Wb.findS A⟩, ⟨b2, B.length, Wb.findS B⟩] _ (maps_lit w2 _ (by simp) [⟨b1, A.length, Wb.findS A⟩, ⟨b2, B.length, Wb.findS B⟩] _) (fun m hm => by
    simp at hm
    rcases hm with rfl | rfl
    · exact HM1.out.ext (by (repeat' (first | (with_reducible assumption) | (with_reducible exact Wb.Ext.refl _) | (with_reducible refine Wb.Ext.drew ?_) | (with_reducible refine Wb.Ext.drewN ?_ _) | (with_reducible refine Wb.Ext.alloc ?_ _) | (with_reducible refine Wb.Ext.trans ?_ (by assumption)))))
    · exact HM2.out.ext (by (repeat' (first | (with_reducible assumption) | (with_reducible exact Wb.Ext.refl _) | (with_reducible refine Wb.Ext.drew ?_) | (with_reducible refine Wb.Ext.drewN ?_ _) | (with_reducible refine Wb.Ext.alloc ?_ _) | (with_reducible refine Wb.Ext.trans ?_ (by assumption)))))) (by simp) (fun m hm r h1 h2 => by
    simp at hm
    rcases hm with rfl | rfl
    · exact Nat.le_trans (find_cnt A r h1 h2) (by omega)
    · exact Nat.le_trans (find_cnt B r h1 h2) (by omega))); rintro e wp ⟨pv, rfl, ps, hP⟩
  obtain ⟨pa, pc, rfl⟩ := hP.tbl.shape
  have HPS : Hid (Wb.headsP (A ++ B) = ps) := Lib.hid ((Wb.heads_of A B).uniq (perOf_of HCKA.out HCKB.out hP.rise fun p => by rw [hP.mem]; simp))
  have HTP := Lib.hid hP.tbl
  have hpl := hP.len
  have hx2p : Wb.Ext w2 wp := Wb.Ext.trans (by (repeat' (first | (with_reducible assumption) | (with_reducible exact Wb.Ext.refl _) | (with_reducible refine Wb.Ext.drew ?_) | (with_reducible refine Wb.Ext.drewN ?_ _) | (with_reducible refine Wb.Ext.alloc ?_ _) | (with_reducible refine Wb.Ext.trans ?_ (by assumption))))) hP.ext
  have HWP := Lib.hid (hx2.trans hx2p)
  replace HM1 := Lib.hid (HM1.out.ext hx2p)
  replace HM2 := Lib.hid (HM2.out.ext hx2p)
  have HPK : Hid (∀ p ∈ ps, PrOk p) := Lib.hid (fun p hp => ((hP.mem p).1 hp).1)
  rw [HPS.out] at HALL
  clear hP hx1 hx2 hx2p HPS
  go_wp2_with fail
  go_loopw [9, 35] (fun ov iv wr => ∃ (k : Nat) (R : List Wb.Sl), k ≤ ps.length ∧ iv = .int .i64 k ∧ Hid (SlR wp.heap.size wr ov R) ∧ Hid (Wb.allG A B [] ps = Wb.allG A B (R.map Wb.ct) (ps.drop k)) ∧ R.length = k ∧ Wb.Ext wp wr) (fun _ iv _ => ps.length - (intOf iv).toNat)
  case atStart => exact ⟨0, [], Nat.zero_le _, rfl, Lib.hid SlR.nil, Lib.hid rfl, rfl, by (repeat' (first | (with_reducible assumption) | (with_reducible exact Wb.Ext.refl _) | (with_reducible refine Wb.Ext.drew ?_) | (with_reducible refine Wb.Ext.drewN ?_ _) | (with_reducible refine Wb.Ext.alloc ?_ _) | (with_reducible refine Wb.Ext.trans ?_ (by assumption))))⟩
  case round =>
    obtain ⟨k, R, hk, rfl, HR, HT, hRk, hxr⟩ := hrel
    obtain ⟨oa, oc, rfl⟩ := HR.out.shape
    by_cases hlt : k < ps.length
    case neg =>
      obtain rfl : k = ps.length := by omega
      have HV := Lib.hid (show Wb.allF A B = (0, R.map Wb.ct) by rw [HALL.out, HT.out, List.drop_length, Wb.allG])
      have hxf := HWP.out.trans hxr
      go_wp2
      refine bodyPost_ret (v := .tuple #[.slice oa R.length oc, .int .i64 0]) (by simp [results, Try.results22, go_sem]) rfl ⟨_, _, rfl, R, HV.out, HR.out.mono HWP.out.size, hxf⟩
    obtain ⟨⟨p, q⟩, hx⟩ := Wb.get_ex hlt
    obtain ⟨bp, op, rfl, hcells⟩ := (HTP.out.ext hxr).opened (tne hlt)
    have c0 := hcells _ (p, q) hx 0 _ rfl
    have c1 := hcells _ (p, q) hx 1 _ rfl
    simp only [Nat.add_zero] at c0 c1
    have hki : (k : Int) < ps.length := by omega
    have HRK := Lib.hid hRk
    have hRle : R.length ≤ 20000 := by omega
    clear hRk
    have HDR := Lib.hid (drop_at hx)
    have HPQ := Lib.hid (HPK.out (p, q) (List.mem_of_getElem? hx))
    obtain ⟨ya, ia, aa, na, ca, la', hsa, hca, hla, hza⟩ := slO_con (w := w) HLSA.out (p, q)
    obtain ⟨yb, ib, ab, nb, cb, lb', hsb, hcb, hlb, hzb⟩ := slO_con (w := w) HLSB.out (p, q)
    have HCA := Lib.hid hca
    have HCB := Lib.hid hcb
    have HLA := Lib.hid hla
    have HLB := Lib.hid hlb
    have HSA := Lib.hid hza
    have HSB := Lib.hid hzb
    have HK1' : Hid (∀ w', Wb.Ext wr w' → (Instr.lookup 71 (.map (some b1)) (.agg #[.int .i64 p, .int .i64 q]) false).run Try.prog w' = .ok (SlV ya ia (.slice aa na ca)) w') := Lib.hid (fun w' h => by rw [← hsa]; exact ((HM1.out.ext hxr).ext h).look HPQ.out)
    have HK2' : Hid (∀ w', Wb.Ext wr w' → (Instr.lookup 71 (.map (some b2)) (.agg #[.int .i64 p, .int .i64 q]) false).run Try.prog w' = .ok (SlV yb ib (.slice ab nb cb)) w') := Lib.hid (fun w' h => by rw [← hsb]; exact ((HM2.out.ext hxr).ext h).look HPQ.out)
    clear hcells hx hsa hca hla hza hsb hcb hlb hzb
    go_upto_region 11 with (fail)
    refine Wb.wp_at fun W0 hW0 => ?_
    obtain ⟨X, hX⟩ : ∃ X, wr.heap.size = X := ⟨_, rfl⟩
    have hb0 : Wb.Ext wr W0 := by rw [hW0]; (repeat' (first | (with_reducible assumption) | (with_reducible exact Wb.Ext.refl _) | (with_reducible refine Wb.Ext.drew ?_) | (with_reducible refine Wb.Ext.drewN ?_ _) | (with_reducible refine Wb.Ext.alloc ?_ _) | (with_reducible refine Wb.ext_set ?_ (by first | assumption | (simp; done) | (simp; omega) | omega) _) | (with_reducible refine Wb.Ext.trans ?_ (by assumption))))
    have x0 : W0.cell? ⟨X, 0, none⟩ = some (.int .i64 p) := by rw [hW0, ← hX]; simp [go_sem]
    have x1 : W0.cell? ⟨X, 1, none⟩ = some (.int .i64 q) := by rw [hW0, ← hX]; simp [go_sem]
    have HXR := Lib.hid hb0
    have HXP := Lib.hid (hxr.trans hb0)
    have HXW := Lib.hid (HWP.out.trans HXP.out)
    have HK1 : Hid (∀ w', Wb.Ext W0 w' → (Instr.lookup 71 (.map (some b1)) (.agg #[.int .i64 p, .int .i64 q]) false).run Try.prog w' = .ok (SlV ya ia (.slice aa na ca)) w') := Lib.hid (fun w' h => HK1'.out w' (hb0.trans h))
    have HK2 : Hid (∀ w', Wb.Ext W0 w' → (Instr.lookup 71 (.map (some b2)) (.agg #[.int .i64 p, .int .i64 q]) false).run Try.prog w' = .ok (SlV yb ib (.slice ab nb cb)) w') := Lib.hid (fun w' h => HK2'.out w' (hb0.trans h))
    have hl1 := HK1.out W0.drew (.drew (.refl W0))
    have hl2 := HK2.out W0.drew (.drew (.refl W0))
    rw [hX]
    clear hW0 hX c0 c1 hb0 HK1' HK2'
    refine region_start (S := (fun w' => w'.cell? ⟨X, 0, none⟩ = some (.int .i64 p) ∧ w'.cell? ⟨X, 1, none⟩ = some (.int .i64 q) ∧ (Instr.lookup 71 (.map (some b1)) (.agg #[.int .i64 p, .int .i64 q]) false).run Try.prog w' = .ok (SlV ya ia (.slice aa na ca)) w' ∧ (Instr.lookup 71 (.map (some b2)) (.agg #[.int .i64 p, .int .i64 q]) false).run Try.prog w' = .ok (SlV yb ib (.slice ab nb cb)) w')) (n := 13) (l := #[false, false, false, false, false, false, false, false, false, false, false, false, false]) (by kernel_rfl) ⟨x0, x1, hl1, hl2⟩ (by kernel_rfl) (by kernel_rfl) (fun hHeld => ?_)
    refine take_d (i := 0) (d := 40) (v := ?_) rfl rfl (by kernel_rfl) (by kernel_rfl) (by kernel_rfl) (fun _ _ _ h => h) (Or.inl ⟨by rfl, ?_⟩) (by assumption) ?_
    rotate_left
    · (intro w hSw; (try dsimp only at hSw); go_simp; (try with_reducible rfl))
    (try simp only [Act.put, List.setIfInBounds_toArray, List.set_cons_zero, List.set_cons_succ])
    refine take_d (i := 1) (d := 41) (v := ?_) rfl rfl (by kernel_rfl) (by kernel_rfl) (by kernel_rfl) (fun _ _ _ h => h) (Or.inl ⟨by rfl, ?_⟩) (by assumption) ?_
    rotate_left
    · (intro w hSw; (try dsimp only at hSw); go_simp; (try with_reducible rfl))
    (try simp only [Act.put, List.setIfInBounds_toArray, List.set_cons_zero, List.set_cons_succ])
    refine take_d (i := 2) (d := 42) (v := ?_) rfl rfl (by kernel_rfl) (by kernel_rfl) (by kernel_rfl) (fun _ _ _ h => h) (Or.inl ⟨by rfl, ?_⟩) (by assumption) ?_
    rotate_left
    · (intro w hSw; (try dsimp only at hSw); go_simp; (try with_reducible rfl))
    (try simp only [Act.put, List.setIfInBounds_toArray, List.set_cons_zero, List.set_cons_succ])
    refine take_d (i := 3) (d := 43) (v := ?_) rfl rfl (by kernel_rfl) (by kernel_rfl) (by kernel_rfl) (fun _ _ _ h => h) (Or.inl ⟨by rfl, ?_⟩) (by assumption) ?_
    rotate_left
    · (intro w hSw; (try dsimp only at hSw); go_simp; (try with_reducible rfl))
    (try simp only [Act.put, List.setIfInBounds_toArray, List.set_cons_zero, List.set_cons_succ])
    refine take_d (i := 4) (d := 44) (v := ?_) rfl rfl (by kernel_rfl) (by kernel_rfl) (by kernel_rfl) (fun _ _ _ h => h) (Or.inl ⟨by rfl, ?_⟩) (by assumption) ?_
    rotate_left
    · (intro w hSw; (try dsimp only at hSw); go_simp; (try with_reducible rfl))
    (try simp only [Act.put, List.setIfInBounds_toArray, List.set_cons_zero, List.set_cons_succ])
    refine take_d (i := 5) (d := 45) (v := ?_) rfl rfl (by kernel_rfl) (by kernel_rfl) (by kernel_rfl) (fun _ _ _ h => h) (Or.inl ⟨by rfl, ?_⟩) (by assumption) ?_
    rotate_left
    · (intro w hSw; (try dsimp only at hSw); go_simp; (try with_reducible rfl))
    (try simp only [Act.put, List.setIfInBounds_toArray, List.set_cons_zero, List.set_cons_succ])
    refine wpAnyH_ready (rs := [6, 10]) (by kernel_rfl) (by simp) ?_
    refine AllReadyH.cons (o := _) rfl (fun K hK => ?_) ?_
    · go_simp
      go_at_call 13
      go_fit (dof_any ya ia _ la' yb ib _ lb' _ (HLA.out.1.ext (HXW.out.trans (.drew (.refl _)))) HSA.out (HLB.out.1.ext (HXW.out.trans (.drew (.refl _)))) HSB.out)
      rintro e w21 ⟨Y, I, m, E, rfl, r, hO⟩
      obtain ⟨ma, mc, rfl⟩ := hO.lns.1.shape
      have HOF := Lib.hid hO.of
      have HLN := Lib.hid hO.lns
      have hb21 := hO.ext
      have hx21 : Wb.Ext W0 w21 := Wb.Ext.trans (.drew (.refl _)) hb21
      have HNW : Hid (∀ q, (Value.slice ma r.length mc).ownBlock = some q → W0.heap.size ≤ q) := Lib.hid (fun q hq => hO.new q hq)
      have HBS : Hid (r ≠ [] → ∀ q, (Value.slice ma r.length mc).ownBlock = some q → q < w21.heap.size) := Lib.hid (lns_size hO.lns)
      clear hO hb21
      refine hK.out _ _ ⟨hx21.keep x0, hx21.keep x1, HK1.out _ hx21, HK2.out _ hx21⟩ (fun hHeld => ?_)
      clear hK K
      (try simp only [List.setIfInBounds_toArray, List.set_cons_zero, List.set_cons_succ])
      refine take_d (i := 7) (d := 39) (v := ?_) rfl rfl (by kernel_rfl) (by kernel_rfl) (by kernel_rfl) (fun _ _ _ h => h) (Or.inl ⟨by rfl, ?_⟩) (by assumption) ?_
      rotate_left
      · (intro w hSw; (try dsimp only at hSw); go_simp; (try with_reducible rfl))
      (try simp only [Act.put, List.setIfInBounds_toArray, List.set_cons_zero, List.set_cons_succ])
      refine take_d (i := 8) (d := 47) (v := ?_) rfl rfl (by kernel_rfl) (by kernel_rfl) (by kernel_rfl) (fun _ _ _ h => h) (Or.inl ⟨by rfl, ?_⟩) (by assumption) ?_
      rotate_left
      · (intro w hSw; (try dsimp only at hSw); go_simp; (try with_reducible rfl))
      (try simp only [Act.put, List.setIfInBounds_toArray, List.set_cons_zero, List.set_cons_succ])
      refine take_d (i := 9) (d := 48) (v := ?_) rfl rfl (by kernel_rfl) (by kernel_rfl) (by kernel_rfl) (fun _ _ _ h => h) (Or.inl ⟨by rfl, ?_⟩) (by assumption) ?_
      rotate_left
      · (intro w hSw; (try dsimp only at hSw); go_simp; (try with_reducible rfl))
      (try simp only [Act.put, List.setIfInBounds_toArray, List.set_cons_zero, List.set_cons_succ])
      refine wpAnyH_ready (rs := [10]) (by kernel_rfl) (by simp) ?_
      refine AllReadyH.cons (o := _) rfl (fun K hK => ?_) AllReadyH.nil
      go_simp
      refine atK fun w22 hw22 => ?_
      have hx22 : Wb.Ext W0 w22 := by rw [hw22]; exact Wb.Ext.alloc hx21 _
      have hp22 : W0.heap.size ≤ w21.heap.size := hx21.size
      obtain ⟨G, hG⟩ : ∃ g, w21.heap.size = g := ⟨_, rfl⟩
      have g0 : w22.cell? ⟨G, 0, none⟩ = some (.int .i64 0) := by rw [hw22, ← hG]; simp [go_sem]
      have g1 : w22.cell? ⟨G, 1, none⟩ = some (.int .i64 0) := by rw [hw22, ← hG]; simp [go_sem]
      have g2 : w22.cell? ⟨G, 2, none⟩ = some (.slice none 0 0) := by rw [hw22, ← hG]; simp [go_sem]
      have gf : ∀ j, w22.frozen? ⟨G, j, none⟩ = false := fun j => by rw [hw22, ← hG]; simp [go_sem]
      have hGl : G < w22.heap.size := by rw [hw22, ← hG]; simp
      have hG0 : W0.heap.size ≤ G := by omega
      replace HLN := Lib.hid (HLN.out.ext (show Wb.Ext w21 w22 by rw [hw22]; exact Wb.Ext.alloc (.refl _) _))
      have HGQ : Hid (r ≠ [] → ∀ q, (Value.slice ma r.length mc).ownBlock = some q → q ≠ G) := Lib.hid (fun hr q hq => by have := HBS.out hr q hq; omega)
      (try rw [hG])
      clear hw22 hG
      refine hK.out _ _ ⟨hx22.keep x0, hx22.keep x1, HK1.out _ hx22, HK2.out _ hx22⟩ (fun hHeld => ?_)
      clear hK K
      (try simp only [List.setIfInBounds_toArray, List.set_cons_zero, List.set_cons_succ])
      refine wpAnyH_ready (rs := [11]) (by kernel_rfl) (by simp) ?_
      refine AllReadyH.cons (o := _) rfl (fun K hK => ?_) AllReadyH.nil
      go_simp
      refine atK fun w23 hw23 => ?_
      have hst := st3d (w := w22) (w' := w23) (b := G) (x := .int .i64 Y) (y := .int .i64 I) (z := .slice ma r.length mc) hw23 g0 g1 g2
      obtain ⟨z0, z1, z2, zk, zf, zz, ze⟩ := hst
      have hx23 : Wb.Ext W0 w23 := ze W0 hG0 hx22
      replace HLN := Lib.hid (lnsC_cells HLN.out fun b k u hb hr hc => by
        have hbg : b ≠ G := by
          rcases hq : (Value.slice ma r.length mc).ownBlock with _ | q9
          · obtain ⟨b9, o9, e9, _⟩ := HLN.out.1.opened hr
            subst e9; cases hq
          · rw [hb q9 hq]; exact HGQ.out hr q9 hq
        rw [zk b k hbg]; exact hc)
      replace hGl : G < w23.heap.size := by rw [zz]; exact hGl
      clear hw23 zk zf zz ze g0 g1 g2 gf
      refine hK.out _ _ ⟨hx23.keep x0, hx23.keep x1, HK1.out _ hx23, HK2.out _ hx23⟩ (fun hHeld => ?_)
      clear hK K
      (try simp only [List.setIfInBounds_toArray, List.set_cons_zero, List.set_cons_succ])
      refine take_d (i := 12) (d := 13) (v := ?_) rfl rfl (by kernel_rfl) (by kernel_rfl) (by kernel_rfl) (fun _ _ _ h => h) (Or.inl ⟨by rfl, ?_⟩) (by assumption) ?_
      rotate_left
      · (intro w hSw; (try dsimp only at hSw); go_simp; (try with_reducible rfl))
      (try simp only [Act.put, List.setIfInBounds_toArray, List.set_cons_zero, List.set_cons_succ])
      refine wpAnyH_done (by kernel_rfl) ?_ _
      have HXZ := Lib.hid (HXP.out.trans hx23)
      have HRZ := Lib.hid (HR.out.ext (show Wb.Ext wr w23 from HXR.out.trans hx23))
      have hbw : ∀ q, (Value.slice oa R.length oc).ownBlock = some q → q < W0.heap.size := fun q hq => by have := (HR.out.1.lt q hq).2; have := HXR.out.size; omega
      have HNQ : Hid (r ≠ [] → ∀ q, (Value.slice ma r.length mc).ownBlock = some q → (Value.slice oa R.length oc).ownBlock ≠ some q) := Lib.hid (fun _ q hq e => by have := hbw q e; have := HNW.out q hq; omega)
      have HOC := Lib.hid (show Wb.ofC (Wb.conO (Wb.findS A (p, q))) (Wb.conO (Wb.findS B (p, q))) = (E, Y, I, r) by rw [HCA.out, HCB.out]; exact Wb.of_eq HOF.out)
      clear hbw
      by_cases hz : E = 0
      case neg =>
        have d1 : (E != 0) = true := by simpa using hz
        have d2 : (E == 0) = false := by simpa using hz
        have HV := Lib.hid (show Wb.allF A B = (E, [].map Wb.ct) by rw [HALL.out, HT.out, HDR.out]; exact Wb.all_bad HOC.out hz)
        have hxz := HXZ.out
        clear hz
        go_wp2
        refine bodyPost_ret (v := .tuple #[.slice none 0 0, .int .i64 E]) (by simp [results, Try.results22, go_sem]) rfl ⟨_, _, rfl, [], HV.out, SlR.nil, HWP.out.trans hxz⟩
      subst hz
      have HTN := Lib.hid (show Wb.allG A B [] ps = Wb.allG A B ((R ++ [(⟨Y, I, .slice ma r.length mc, r⟩ : Wb.Sl)]).map Wb.ct) (ps.drop (k + 1)) by rw [HT.out, HDR.out, Wb.all_more HOC.out, List.map_append]; rfl)
      have HSZ := Lib.hid (of_sized9 HOF.out rfl)
      obtain ⟨hi, hz0, hz1, hz2⟩ := HIN.out
      go_wp2_with (at_builtin; go_loud (refine wpList_append_row2 rfl (.tmp 52) (.tmp 54) 25 rfl wp.heap.size 24 i0 slZ 3 40 Try.underlying25 hi hz0 hz1 hz2 rfl (by decide) _ _ _ rfl (HRZ.out.ext (Wb.Ext.alloc (.refl _) _)).1 _ rfl 1 (slc (⟨Y, I, .slice ma r.length mc, r⟩ : Wb.Sl)) ?c1 ?c2 ?c3 ?c4 ?c5 ?_))
      case c1 => exact src_lit _ _ (by simp) (slc (⟨Y, I, .slice ma r.length mc, r⟩ : Wb.Sl)) _ _
      case c2 => intro u hu; simp [slc] at hu; rcases hu with rfl | rfl | rfl <;> rfl
      case c3 => unfold maxLen; omega
      case c4 => omega
      case c5 => have := HXZ.out.size; first | omega | (simp; omega)
      intro u2 w6 hown2 hg2 hblk
      have hrb : ∀ q, (Value.slice oa R.length oc).ownBlock = some q → wp.heap.size ≤ q := fun q hq => (HR.out.1.lt q hq).1
      have HX6 := Lib.hid (show Wb.Ext wp w6 from Wb.Ext.grown (Wb.Ext.trans HXZ.out (by (repeat' (first | (with_reducible assumption) | (with_reducible exact Wb.Ext.refl _) | (with_reducible refine Wb.Ext.drew ?_) | (with_reducible refine Wb.Ext.drewN ?_ _) | (with_reducible refine Wb.Ext.alloc ?_ _) | (with_reducible refine Wb.Ext.trans ?_ (by assumption)))))) hg2 (fun q hq => hrb q hq))
      have HR6 := Lib.hid (SlR.append (s := ⟨Y, I, .slice ma r.length mc, r⟩) (HRZ.out.ext (by (repeat' (first | (with_reducible assumption) | (with_reducible exact Wb.Ext.refl _) | (with_reducible refine Wb.Ext.drew ?_) | (with_reducible refine Wb.Ext.drewN ?_ _) | (with_reducible refine Wb.Ext.alloc ?_ _) | (with_reducible refine Wb.Ext.trans ?_ (by assumption)))))) hown2 hg2 (by have := hblk; simp at this ⊢; exact this) (HLN.out.ext (by (repeat' (first | (with_reducible assumption) | (with_reducible exact Wb.Ext.refl _) | (with_reducible refine Wb.Ext.drew ?_) | (with_reducible refine Wb.Ext.drewN ?_ _) | (with_reducible refine Wb.Ext.alloc ?_ _) | (with_reducible refine Wb.Ext.trans ?_ (by assumption)))))) HSZ.out HNQ.out)
      clear hi hz0 hz1 hz2 hg2 hown2 hblk hrb
      go_wp2
      go_roundw
      case rel => exact ⟨k + 1, R ++ [⟨Y, I, .slice ma r.length mc, r⟩], by omega, by go_num, HR6, HTN, by rw [List.length_append, HRK.out]; rfl, HX6.out⟩
      case measure => first | (simp [intOf]; done) | (simp [intOf]; omega)
    refine AllReadyH.cons (o := _) rfl (fun K hK => ?_) ?_
    · go_simp
      refine atK fun w21 hw21 => ?_
      have hx21 : Wb.Ext W0 w21 := by rw [hw21]; exact Wb.Ext.alloc (.drew (.refl _)) _
      have hp21 : W0.heap.size ≤ W0.heap.size := Nat.le_refl _
      obtain ⟨G, hG⟩ : ∃ g, W0.heap.size = g := ⟨_, rfl⟩
      have g0 : w21.cell? ⟨G, 0, none⟩ = some (.int .i64 0) := by rw [hw21, ← hG]; simp [go_sem]
      have g1 : w21.cell? ⟨G, 1, none⟩ = some (.int .i64 0) := by rw [hw21, ← hG]; simp [go_sem]
      have g2 : w21.cell? ⟨G, 2, none⟩ = some (.slice none 0 0) := by rw [hw21, ← hG]; simp [go_sem]
      have gf : ∀ j, w21.frozen? ⟨G, j, none⟩ = false := fun j => by rw [hw21, ← hG]; simp [go_sem]
      have hGl : G < w21.heap.size := by rw [hw21, ← hG]; simp
      have hG0 : W0.heap.size ≤ G := by omega
      (try rw [hG])
      clear hw21 hG
      refine hK.out _ _ ⟨hx21.keep x0, hx21.keep x1, HK1.out _ hx21, HK2.out _ hx21⟩ (fun hHeld => ?_)
      clear hK K
      (try simp only [List.setIfInBounds_toArray, List.set_cons_zero, List.set_cons_succ])
      refine wpAnyH_ready (rs := [6]) (by kernel_rfl) (by simp) ?_
      refine AllReadyH.cons (o := _) rfl (fun K hK => ?_) AllReadyH.nil
      go_simp
      go_at_call 13
      go_fit (dof_any ya ia _ la' yb ib _ lb' _ (HLA.out.1.ext (HXW.out.trans hx21)) HSA.out (HLB.out.1.ext (HXW.out.trans hx21)) HSB.out)
      rintro e w22 ⟨Y, I, m, E, rfl, r, hO⟩
      obtain ⟨ma, mc, rfl⟩ := hO.lns.1.shape
      have HOF := Lib.hid hO.of
      have HLN := Lib.hid hO.lns
      have hb22 := hO.ext
      have hx22 : Wb.Ext W0 w22 := Wb.Ext.trans hx21 hb22
      have HNW : Hid (∀ q, (Value.slice ma r.length mc).ownBlock = some q → W0.heap.size ≤ q) := Lib.hid (fun q hq => Nat.le_trans hx21.size (hO.new q hq))
      have HGQ : Hid (r ≠ [] → ∀ q, (Value.slice ma r.length mc).ownBlock = some q → q ≠ G) := Lib.hid (fun _ q hq => by have := hO.new q hq; omega)
      have g0 := hb22.keep g0
      have g1 := hb22.keep g1
      have g2 := hb22.keep g2
      have gf : ∀ j, w22.frozen? ⟨G, j, none⟩ = false := fun j => (Below.frozen hb22 (by simpa using hGl)).trans (gf j)
      replace hGl := Nat.lt_of_lt_of_le hGl hb22.size
      clear hO hb22
      refine hK.out _ _ ⟨hx22.keep x0, hx22.keep x1, HK1.out _ hx22, HK2.out _ hx22⟩ (fun hHeld => ?_)
      clear hK K
      (try simp only [List.setIfInBounds_toArray, List.set_cons_zero, List.set_cons_succ])
      refine take_d (i := 7) (d := 39) (v := ?_) rfl rfl (by kernel_rfl) (by kernel_rfl) (by kernel_rfl) (fun _ _ _ h => h) (Or.inl ⟨by rfl, ?_⟩) (by assumption) ?_
      rotate_left
      · (intro w hSw; (try dsimp only at hSw); go_simp; (try with_reducible rfl))
      (try simp only [Act.put, List.setIfInBounds_toArray, List.set_cons_zero, List.set_cons_succ])
      refine take_d (i := 8) (d := 47) (v := ?_) rfl rfl (by kernel_rfl) (by kernel_rfl) (by kernel_rfl) (fun _ _ _ h => h) (Or.inl ⟨by rfl, ?_⟩) (by assumption) ?_
      rotate_left
      · (intro w hSw; (try dsimp only at hSw); go_simp; (try with_reducible rfl))
      (try simp only [Act.put, List.setIfInBounds_toArray, List.set_cons_zero, List.set_cons_succ])
      refine take_d (i := 9) (d := 48) (v := ?_) rfl rfl (by kernel_rfl) (by kernel_rfl) (by kernel_rfl) (fun _ _ _ h => h) (Or.inl ⟨by rfl, ?_⟩) (by assumption) ?_
      rotate_left
      · (intro w hSw; (try dsimp only at hSw); go_simp; (try with_reducible rfl))
      (try simp only [Act.put, List.setIfInBounds_toArray, List.set_cons_zero, List.set_cons_succ])
      refine wpAnyH_ready (rs := [11]) (by kernel_rfl) (by simp) ?_
      refine AllReadyH.cons (o := _) rfl (fun K hK => ?_) AllReadyH.nil
      go_simp
      refine atK fun w23 hw23 => ?_
      have hst := st3d (w := w22) (w' := w23) (b := G) (x := .int .i64 Y) (y := .int .i64 I) (z := .slice ma r.length mc) hw23 g0 g1 g2
      obtain ⟨z0, z1, z2, zk, zf, zz, ze⟩ := hst
      have hx23 : Wb.Ext W0 w23 := ze W0 hG0 hx22
      replace HLN := Lib.hid (lnsC_cells HLN.out fun b k u hb hr hc => by
        have hbg : b ≠ G := by
          rcases hq : (Value.slice ma r.length mc).ownBlock with _ | q9
          · obtain ⟨b9, o9, e9, _⟩ := HLN.out.1.opened hr
            subst e9; cases hq
          · rw [hb q9 hq]; exact HGQ.out hr q9 hq
        rw [zk b k hbg]; exact hc)
      replace hGl : G < w23.heap.size := by rw [zz]; exact hGl
      clear hw23 zk zf zz ze g0 g1 g2 gf
      refine hK.out _ _ ⟨hx23.keep x0, hx23.keep x1, HK1.out _ hx23, HK2.out _ hx23⟩ (fun hHeld => ?_)
      clear hK K
      (try simp only [List.setIfInBounds_toArray, List.set_cons_zero, List.set_cons_succ])
      refine take_d (i := 12) (d := 13) (v := ?_) rfl rfl (by kernel_rfl) (by kernel_rfl) (by kernel_rfl) (fun _ _ _ h => h) (Or.inl ⟨by rfl, ?_⟩) (by assumption) ?_
      rotate_left
      · (intro w hSw; (try dsimp only at hSw); go_simp; (try with_reducible rfl))
      (try simp only [Act.put, List.setIfInBounds_toArray, List.set_cons_zero, List.set_cons_succ])
      refine wpAnyH_done (by kernel_rfl) ?_ _
      have HXZ := Lib.hid (HXP.out.trans hx23)
      have HRZ := Lib.hid (HR.out.ext (show Wb.Ext wr w23 from HXR.out.trans hx23))
      have hbw : ∀ q, (Value.slice oa R.length oc).ownBlock = some q → q < W0.heap.size := fun q hq => by have := (HR.out.1.lt q hq).2; have := HXR.out.size; omega
      have HNQ : Hid (r ≠ [] → ∀ q, (Value.slice ma r.length mc).ownBlock = some q → (Value.slice oa R.length oc).ownBlock ≠ some q) := Lib.hid (fun _ q hq e => by have := hbw q e; have := HNW.out q hq; omega)
      have HOC := Lib.hid (show Wb.ofC (Wb.conO (Wb.findS A (p, q))) (Wb.conO (Wb.findS B (p, q))) = (E, Y, I, r) by rw [HCA.out, HCB.out]; exact Wb.of_eq HOF.out)
      clear hbw
      by_cases hz : E = 0
      case neg =>
        have d1 : (E != 0) = true := by simpa using hz
        have d2 : (E == 0) = false := by simpa using hz
        have HV := Lib.hid (show Wb.allF A B = (E, [].map Wb.ct) by rw [HALL.out, HT.out, HDR.out]; exact Wb.all_bad HOC.out hz)
        have hxz := HXZ.out
        clear hz
        go_wp2
        refine bodyPost_ret (v := .tuple #[.slice none 0 0, .int .i64 E]) (by simp [results, Try.results22, go_sem]) rfl ⟨_, _, rfl, [], HV.out, SlR.nil, HWP.out.trans hxz⟩
      subst hz
      have HTN := Lib.hid (show Wb.allG A B [] ps = Wb.allG A B ((R ++ [(⟨Y, I, .slice ma r.length mc, r⟩ : Wb.Sl)]).map Wb.ct) (ps.drop (k + 1)) by rw [HT.out, HDR.out, Wb.all_more HOC.out, List.map_append]; rfl)
      have HSZ := Lib.hid (of_sized9 HOF.out rfl)
      obtain ⟨hi, hz0, hz1, hz2⟩ := HIN.out
      go_wp2_with (at_builtin; go_loud (refine wpList_append_row2 rfl (.tmp 52) (.tmp 54) 25 rfl wp.heap.size 24 i0 slZ 3 40 Try.underlying25 hi hz0 hz1 hz2 rfl (by decide) _ _ _ rfl (HRZ.out.ext (Wb.Ext.alloc (.refl _) _)).1 _ rfl 1 (slc (⟨Y, I, .slice ma r.length mc, r⟩ : Wb.Sl)) ?c1 ?c2 ?c3 ?c4 ?c5 ?_))
      case c1 => exact src_lit _ _ (by simp) (slc (⟨Y, I, .slice ma r.length mc, r⟩ : Wb.Sl)) _ _
      case c2 => intro u hu; simp [slc] at hu; rcases hu with rfl | rfl | rfl <;> rfl
      case c3 => unfold maxLen; omega
      case c4 => omega
      case c5 => have := HXZ.out.size; first | omega | (simp; omega)
      intro u2 w6 hown2 hg2 hblk
      have hrb : ∀ q, (Value.slice oa R.length oc).ownBlock = some q → wp.heap.size ≤ q := fun q hq => (HR.out.1.lt q hq).1
      have HX6 := Lib.hid (show Wb.Ext wp w6 from Wb.Ext.grown (Wb.Ext.trans HXZ.out (by (repeat' (first | (with_reducible assumption) | (with_reducible exact Wb.Ext.refl _) | (with_reducible refine Wb.Ext.drew ?_) | (with_reducible refine Wb.Ext.drewN ?_ _) | (with_reducible refine Wb.Ext.alloc ?_ _) | (with_reducible refine Wb.Ext.trans ?_ (by assumption)))))) hg2 (fun q hq => hrb q hq))
      have HR6 := Lib.hid (SlR.append (s := ⟨Y, I, .slice ma r.length mc, r⟩) (HRZ.out.ext (by (repeat' (first | (with_reducible assumption) | (with_reducible exact Wb.Ext.refl _) | (with_reducible refine Wb.Ext.drew ?_) | (with_reducible refine Wb.Ext.drewN ?_ _) | (with_reducible refine Wb.Ext.alloc ?_ _) | (with_reducible refine Wb.Ext.trans ?_ (by assumption)))))) hown2 hg2 (by have := hblk; simp at this ⊢; exact this) (HLN.out.ext (by (repeat' (first | (with_reducible assumption) | (with_reducible exact Wb.Ext.refl _) | (with_reducible refine Wb.Ext.drew ?_) | (with_reducible refine Wb.Ext.drewN ?_ _) | (with_reducible refine Wb.Ext.alloc ?_ _) | (with_reducible refine Wb.Ext.trans ?_ (by assumption)))))) HSZ.out HNQ.out)
      clear hi hz0 hz1 hz2 hg2 hown2 hblk hrb
      go_wp2
      go_roundw
      case rel => exact ⟨k + 1, R ++ [⟨Y, I, .slice ma r.length mc, r⟩], by omega, by go_num, HR6, HTN, by rw [List.length_append, HRK.out]; rfl, HX6.out⟩
      case measure => first | (simp [intOf]; done) | (simp [intOf]; omega)
    exact AllReadyH.nil

end Go.Proofs.Ytdfmlgjemfcmlaa
/- The walk of delta.Add: slips to which differences are added. -/
namespace Go.Proofs.Ytdfmlgjemfcmlaa
open Go.RowKit Go.Sort Go.Lib Go.Maps
set_option maxRecDepth 8000
attribute [local go_sem ↓] Go.wp_at_zero Go.wp_at_succ

namespace Wb
/-- what differences are added to: the error, what comes -/
def addF (A D : List Sl) : Int × List (Int × Int × List Ln) := if listE A ≠ 0 then (listE A, []) else if 4096 < D.length then (5, []) else
  if (addG (startS A) D).1 ≠ 0 then ((addG (startS A) D).1, []) else (0, (headsP (A ++ D)).map fun p => (p.1, p.2, (addG (startS A) D).2 p))
theorem hasP_take {D : List Sl} {k : Nat} {x : Sl} (hx : D[k]? = some x) (p : Int × Int) : hasP (D.take (k + 1)) p ↔ hasP (D.take k) p ∨ perS x = p := by
  have e : D.take (k + 1) = D.take k ++ [x] := by
    obtain ⟨h1, rfl⟩ := List.getElem?_eq_some_iff.1 hx
    exact List.take_succ_eq_append_getElem h1
  rw [e]
  constructor
  · rintro ⟨s, hs, h⟩
    rcases List.mem_append.1 hs with hs | hs
    · exact .inl ⟨s, hs, h⟩
    · simp at hs; subst hs; exact .inr h
  · rintro (⟨s, hs, h⟩ | h)
    · exact ⟨s, List.mem_append_left _ hs, h⟩
    · exact ⟨x, List.mem_append_right _ (by simp), h⟩
end Wb
theorem lvnv_one (l : List Wb.Ln) : ∀ u ∈ lnvs l, u.oneCell' = true := by
  intro u hu
  obtain ⟨x, _, hx⟩ := List.mem_flatMap.1 hu
  simp [lnv] at hx
  rcases hx with rfl | rfl | rfl <;> rfl
theorem lns_src {w : World} {ad : Addr} {n c : Nat} {l : List Wb.Ln} (h : Lns w (.slice (some ad) n c) l) : Wb.SrcRow w 3 (.slice (some ad) n c) l.length (lnvs l) := by
  obtain ⟨a9, c9, e9⟩ := h.shape
  injection e9 with e1 e2 e3
  subst e2
  refine ⟨lnvs_length l, .inr ⟨ad, c, rfl, fun j u hj => ?_⟩⟩
  have hj3 : j < l.length * 3 := by rw [← lnvs_length]; exact (List.getElem?_eq_some_iff.1 hj).1
  have hne : l ≠ [] := by rintro rfl; simp at hj3
  obtain ⟨b, off, hb, hc⟩ := h.opened hne
  injection hb with hb
  subst hb
  have hq : j / 3 < l.length := by omega
  obtain ⟨x, hx⟩ := Wb.get_ex hq
  obtain ⟨g0, g1, g2⟩ := lnvs_get hx
  obtain ⟨h0, h1, h2⟩ := hc _ x hx
  have hadd : ∀ i, ((⟨b, off, none⟩ : Addr).add i) = ⟨b, off + i, none⟩ := fun i => by
    by_cases hi : i = 0
    · subst hi; rfl
    · simp [Addr.add, hi]
  rw [hadd]
  have hm : j % 3 = 0 ∨ j % 3 = 1 ∨ j % 3 = 2 := by omega
  rcases hm with hm | hm | hm
  · rw [show j = j / 3 * 3 by omega] at hj ⊢
    rw [g0] at hj; cases hj; exact h0
  · rw [show j = j / 3 * 3 + 1 by omega] at hj ⊢
    rw [g1] at hj; cases hj; rw [← Nat.add_assoc]; exact h1
  · rw [show j = j / 3 * 3 + 2 by omega] at hj ⊢
    rw [g2] at hj; cases hj; rw [← Nat.add_assoc]; exact h2
theorem clonel_any (v : Value) (l : List Wb.Ln) (w : World) (h : Lns w v l) (hl : l.length ≤ 1000000) :
    Calls Try.prog 51 #[v] w fun e w' => ∃ v', e = .returned v' ∧ w'.ownsRow w.heap.size 44 3 v' l.length (lnvs l) ∧ Wb.Ext w w' := by
  obtain ⟨i0, hi, hz0, hz1, hz2⟩ := info_parts infoLine
  have HIN := Lib.hid (show Try.prog.info? 44 = some i0 ∧ i0.zero = some (.agg #[.int .i64 0, .string "".toUTF8, .int .i64 0]) ∧ i0.size = 3 ∧ i0.bytes = 32 from ⟨hi, hz0, hz1, hz2⟩)
  clear hi hz0 hz1 hz2
  obtain ⟨a, c, rfl⟩ := h.shape
  have q : ∀ (w : World) (a : Option Addr) (n c n' c' : Nat), (binOp .eql 22 (.slice a n c) (.slice none n' c')).run Try.prog w = .ok (.bool a.isNone) w := fun w a n c n' c' => Lib.run_eql_slice_nil w _ _ a n c n' c' Try.underlying22
  rcases a with _ | ad
  · obtain rfl : l = [] := by
      rcases l with _ | ⟨x, r⟩
      · rfl
      · obtain ⟨b, off, hb, _⟩ := h.opened (by simp)
        cases hb
    clear h
    go_enter Try.func51, Try.ntmps51
    go_wp2
    go_ret
    exact ⟨_, rfl, own_none, .refl _⟩
  · have HS := Lib.hid (lns_src h)
    have HL := Lib.hid hl
    clear h hl
    have hown0 : (w.alloc (.cells #[] 44)).ownsRow w.heap.size 44 3 (.slice (some ⟨w.heap.size, 0, none⟩) 0 0) 0 [] :=
      ⟨by simp, .inr ⟨w.heap.size, 0, #[], rfl, Nat.le_refl _, by show (w.heap.push _)[w.heap.size]? = _; simp, by simp, by simp, by simp, by simp⟩⟩
    go_enter Try.func51, Try.ntmps51
    obtain ⟨hi, hz0, hz1, hz2⟩ := HIN.out
    go_wp2_with (at_builtin; go_loud (refine Wb.wpList_append_row rfl (.tmp 5) (.tmp 6) 22 rfl w.heap.size 44 i0 (.agg #[.int .i64 0, .string "".toUTF8, .int .i64 0]) 3 32 Try.underlying22 hi hz0 hz1 hz2 rfl (by decide) _ _ _ rfl hown0 _ rfl l.length (lnvs l) ?c1 ?c2 ?c3 ?c4 ?c5 ?_))
    case c1 => exact HS.out.ext ((Wb.Ext.refl w).alloc _)
    case c2 => exact lvnv_one l
    case c3 => have := HL.out; unfold maxLen; omega
    case c4 => have := HL.out; omega
    case c5 => simp
    intro u2 w6 hown2 hg2 hnil2
    have HX := Lib.hid (((Wb.Ext.refl w).alloc (.cells #[] 44)).grown hg2 (by intro k hk; cases hk; exact Nat.le_refl _))
    have HO := Lib.hid (show w6.ownsRow w.heap.size 44 3 u2 l.length (lnvs l) by simpa using hown2)
    clear hi hz0 hz1 hz2 hg2 hown2 hnil2 hown0
    go_wp2
    go_ret
    exact ⟨_, rfl, HO.out, HX.out⟩
theorem smap_nocell {w : World} {b n : Nat} {f : Int × Int → Option Wb.Sl} (h : SMapIs w b n f) (k : Nat) : w.cell? ⟨b, k, none⟩ = none := by
  obtain ⟨D, ⟨es, clock, hb, _⟩, _⟩ := h
  simp [World.cell?, hb]
/-- lines outlive what a map's call does -/
theorem lnsC_map {w w' : World} {b n : Nat} {f : Int × Int → Option Wb.Sl} {v : Value} {l : List Wb.Ln} (h : LnsC w v l) (hm : SMapIs w b n f) (hg : w.grownBy w' (some b)) : LnsC w' v l := by
  refine lnsC_cells h fun c k u _ _ hc => ?_
  have hcb : c ≠ b := by rintro rfl; rw [smap_nocell hm] at hc; cases hc
  rw [hg.cell_far ⟨c, k, none⟩ (Wb.cell_size hc) (fun e => hcb (by injection e))]; exact hc
/-- what the map has, while differences are added -/
structure StM (w : World) (A D : List Wb.Sl) (f : Int × Int → Option Wb.Sl) (st : Int × Int → List Wb.Ln) : Prop where
  has : ∀ p, (f p).isSome = true ↔ Wb.hasP A p ∨ Wb.hasP D p
  one : ∀ p s, f p = some s → Wb.perS s = p ∧ s.l = st p ∧ LnsC w s.v s.l ∧ Sized s.l ∧ s.l.length ≤ 448
  no : ∀ p, f p = none → st p = []
theorem StM.keep {w w' : World} {A D : List Wb.Sl} {f : Int × Int → Option Wb.Sl} {st : Int × Int → List Wb.Ln} (h : StM w A D f st) (k : ∀ v l, LnsC w v l → LnsC w' v l) : StM w' A D f st :=
  ⟨h.has, fun p s hs => ⟨(h.one p s hs).1, (h.one p s hs).2.1, k _ _ (h.one p s hs).2.2.1, (h.one p s hs).2.2.2⟩, h.no⟩
theorem StM.put {w : World} {A D : List Wb.Sl} {f : Int × Int → Option Wb.Sl} {st : Int × Int → List Wb.Ln} {k : Nat} {x : Wb.Sl} (h : StM w A (D.take k) f st) (hx : D[k]? = some x) {s : Wb.Sl} (hp : Wb.perS s = Wb.perS x) (hs : LnsC w s.v s.l) (hz : Sized s.l) (h448 : s.l.length ≤ 448) :
    StM w A (D.take (k + 1)) (fun q => if Wb.perS x = q then some s else f q) (Wb.updS st (Wb.perS x) s.l) := by
  refine ⟨fun p => ?_, fun p t ht => ?_, fun p hp => ?_⟩
  · rw [Wb.hasP_take hx]
    by_cases e : Wb.perS x = p
    · simp [e]
    · simp only [if_neg e, e, or_false]; exact h.has p
  · by_cases e : Wb.perS x = p
    · simp only [if_pos e, Option.some.injEq] at ht
      subst ht
      refine ⟨hp.trans e, ?_, hs, hz, h448⟩
      unfold Wb.updS; rw [if_pos e.symm]
    · simp only [if_neg e] at ht
      obtain ⟨h1, h2, h3⟩ := h.one p t ht
      refine ⟨h1, ?_, h3⟩
      unfold Wb.updS; rw [if_neg fun q => e q.symm]; exact h2
  · by_cases e : Wb.perS x = p
    · simp [if_pos e] at hp
    · simp only [if_neg e] at hp
      unfold Wb.updS; rw [if_neg fun q => e q.symm]; exact h.no p hp
/-- what is at a period, as it is handed on -/
theorem StM.con {w : World} {A D : List Wb.Sl} {f : Int × Int → Option Wb.Sl} {st : Int × Int → List Wb.Ln} (h : StM w A D f st) {p : Int × Int} : (f p = none ∧ st p = []) ∨ ∃ a n c, slO (f p) = SlV p.1 p.2 (.slice a n c) ∧ (f p).isSome = true ∧ LnsC w (.slice a n c) (st p) ∧ Sized (st p) ∧ (st p).length ≤ 448 := by
  rcases hf : f p with _ | s
  · exact .inl ⟨rfl, h.no p hf⟩
  · obtain ⟨h1, h2, h3, h4, h5⟩ := h.one p s hf
    obtain ⟨a, c, hv⟩ := h3.1.shape
    refine .inr ⟨a, s.l.length, c, ?_, rfl, by rw [← hv, ← h2]; exact h3, by rw [← h2]; exact h4, by rw [← h2]; exact h5⟩
    rw [← h1, ← hv]; rfl
theorem merge_sized {y i y' i' Y I : Int} {a b l : List Wb.Ln} (h : Wb.merge y i a y' i' b = (0, Y, I, l)) (ha : Sized a) (hb : Sized b) : Sized l := by
  unfold Wb.merge at h
  split at h
  · rename_i h1; simp only [Prod.mk.injEq] at h; exact absurd h.1 h1
  rename_i c1
  split at h
  · rename_i h1; simp only [Prod.mk.injEq] at h; exact absurd h.1 h1
  rename_i c2
  split at h
  · simp at h
  split at h
  · simp at h
  rename_i m hm
  split at h
  · simp at h
  rename_i hl
  simp only [Prod.mk.injEq] at h
  obtain ⟨_, _, _, rfl⟩ := h
  have ra := Wb.rise_of (show Wb.check y i a = 0 by omega)
  have rb := Wb.rise_of (show Wb.check y' i' b = 0 by omega)
  obtain ⟨r1, r2⟩ := Wb.mergeL_rise hm ra.1 rb.1 ra.2.1 rb.2.1
  refine ⟨Nat.le_trans (by omega : m.length ≤ 448) (by decide), fun x hx => ?_⟩
  have hv : Wb.lval x.part x.code m = x.cents := Wb.lval_mem r1 hx
  have hne := r2 x hx
  rw [← hv, Wb.mergeL_val hm] at hne
  by_cases h1 : Wb.lval x.part x.code a = 0
  · obtain ⟨z, hz, _, e⟩ := lval_key (l := b) (p := x.part) (c := x.code) (by omega)
    rw [← e]; exact hb.2 z hz
  · obtain ⟨z, hz, _, e⟩ := lval_key h1
    rw [← e]; exact ha.2 z hz
theorem not_in {w : World} {a : Option Addr} {n c G : Nat} {l : List Wb.Ln} (h : LnsC w (.slice a n c) l) (hr : l ≠ []) (gs : ∀ j s, w.cell? ⟨G, j, none⟩ ≠ some (.string s)) (q : Nat) (hq : (Value.slice a n c).ownBlock = some q) : q ≠ G := by
  obtain ⟨b, off, rfl, hc⟩ := h.1.opened hr
  injection hq with hq
  simp only at hq
  subst hq
  rintro rfl
  obtain ⟨x, r, hx⟩ : ∃ x r, l = x :: r := by
    rcases ht : l with _ | ⟨x, r⟩
    · exact absurd ht hr
    · exact ⟨x, r, rfl⟩
  exact gs _ _ (hc 0 x (by rw [hx]; rfl)).2.1
theorem st1d {w w' : World} {b o : Nat} {x x' : Value} (hw : w' = w.setCell ⟨b, o, none⟩ x) (h0 : w.cell? ⟨b, o, none⟩ = some x') :
    w'.cell? ⟨b, o, none⟩ = some x ∧ (∀ c k, (c ≠ b ∨ k ≠ o) → w'.cell? ⟨c, k, none⟩ = w.cell? ⟨c, k, none⟩) ∧ w'.heap.size = w.heap.size ∧ (∀ W : World, W.heap.size ≤ b → Wb.Ext W w → Wb.Ext W w') := by
  subst hw
  refine ⟨by simp [go_sem, h0], fun c k hc => ?_, by simp [go_sem], fun W hW hE => Wb.ext_set hE hW _⟩
  rw [World.cell?_setCell_other _ _ _ _ (by intro e; injection e with e1 e2 _; rcases hc with hc | hc; exact hc e1.symm; exact hc e2.symm)]
theorem add_checks : ∀ {D : List Wb.Sl} {st st' : Int × Int → List Wb.Ln}, Wb.addG st D = (0, st') → ∀ x ∈ D, Wb.check x.y x.i x.l = 0
  | [], _, _, _, x, hx => by cases hx
  | z :: r, st, st', h, x, hx => by
    rw [Wb.addG] at h
    split at h
    · rename_i h1; simp only [Prod.mk.injEq] at h; exact absurd h.1 h1
    rename_i h1
    split at h
    · rename_i h2; simp only [Prod.mk.injEq] at h; exact absurd h.1 h2
    rcases List.mem_cons.1 hx with rfl | hx
    · omega
    · exact add_checks h x hx
theorem merge_len {y i y' i' Y I : Int} {a b l : List Wb.Ln} (h : Wb.merge y i a y' i' b = (0, Y, I, l)) : l.length ≤ 448 := by
  unfold Wb.merge at h
  split at h
  · rename_i h1; simp only [Prod.mk.injEq] at h; exact absurd h.1 h1
  split at h
  · rename_i h1; simp only [Prod.mk.injEq] at h; exact absurd h.1 h1
  split at h
  · simp at h
  split at h
  · simp at h
  split at h
  · simp at h
  · rename_i hl
    simp only [Prod.mk.injEq] at h
    obtain ⟨_, _, _, rfl⟩ := h
    omega
/-- what delta.Add yields -/
structure IsAddM (w w' : World) (A D : List Wb.Sl) (E : Int) (v : Value) (R : List Wb.Sl) : Prop where
  val : Wb.addF A D = (E, R.map Wb.ct)
  row : SlR w.heap.size w' v R
  ext : Wb.Ext w w'

set_option maxHeartbeats 8000000 in
theorem dadd_any (va vd : Value) (A D : List Wb.Sl) (w : World) (hA : SlsB w va A) (hD : SlsB w vd D) (la : A.length ≤ 9223372036854775807) (ld : D.length ≤ 9223372036854775807) :
    Calls Try.prog 24 #[va, vd] w fun e w' => ∃ v E, e = .returned (.tuple #[v, .int .i64 E]) ∧ ∃ R, IsAddM w w' A D E v R := by
  obtain ⟨i0, hi, hz0, hz1, hz2⟩ := info_parts infoSlip
  have HIN := Lib.hid (show Try.prog.info? 24 = some i0 ∧ i0.zero = some slZ ∧ i0.size = 3 ∧ i0.bytes = 40 from ⟨hi, hz0, hz1, hz2⟩)
  clear hi hz0 hz1 hz2
  obtain ⟨aA, aK, rfl⟩ := hA.1.shape
  obtain ⟨dA, dK, rfl⟩ := hD.1.shape
  have HA := Lib.hid hA
  have HD := Lib.hid hD
  clear hA hD
  go_enter Try.func24, Try.ntmps24
  go_wp2_with fail
  go_fit (table_any _ A _ (HA.out.ext (by (repeat' (first | (with_reducible assumption) | (with_reducible exact Wb.Ext.refl _) | (with_reducible refine Wb.Ext.drew ?_) | (with_reducible refine Wb.Ext.drewN ?_ _) | (with_reducible refine Wb.Ext.alloc ?_ _) | (with_reducible refine Wb.Ext.trans ?_ (by assumption)))))) la); rintro e w1 ⟨m1, rfl, ht1⟩
  have hx1 : Wb.Ext w w1 := Wb.Ext.trans (by (repeat' (first | (with_reducible assumption) | (with_reducible exact Wb.Ext.refl _) | (with_reducible refine Wb.Ext.drew ?_) | (with_reducible refine Wb.Ext.drewN ?_ _) | (with_reducible refine Wb.Ext.alloc ?_ _) | (with_reducible refine Wb.Ext.trans ?_ (by assumption))))) ht1.ext
  have HT1 := Lib.hid ht1.tab
  clear ht1
  obtain ⟨E1, hE1⟩ : ∃ E, Wb.listE A = E := ⟨_, rfl⟩
  have HE1 := Lib.hid hE1
  rw [hE1]
  clear hE1
  by_cases hz1 : E1 = 0
  case neg =>
    have d1 : (E1 != 0) = true := by simpa using hz1
    have d2 : (E1 == 0) = false := by simpa using hz1
    have HV := Lib.hid (show Wb.addF A D = (E1, [].map Wb.ct) by rw [Wb.addF, if_pos (by rw [HE1.out]; exact hz1), HE1.out]; rfl)
    clear hz1
    go_wp2
    refine bodyPost_ret (v := .tuple #[.slice none 0 0, .int .i64 E1]) (by simp [results, Try.results24, go_sem]) rfl ⟨_, _, rfl, [], HV.out, SlR.nil, by (repeat' (first | (with_reducible assumption) | (with_reducible exact Wb.Ext.refl _) | (with_reducible refine Wb.Ext.drew ?_) | (with_reducible refine Wb.Ext.drewN ?_ _) | (with_reducible refine Wb.Ext.alloc ?_ _) | (with_reducible refine Wb.Ext.trans ?_ (by assumption))))⟩
  subst hz1
  obtain ⟨B, rfl, hBw, hm1⟩ := HT1.out HE1.out
  have HM1 := Lib.hid hm1
  have hB1 := hm1.lt
  clear hm1 HT1
  obtain ⟨ha1, ha2, _⟩ := Wb.list_ok HE1.out
  have HLSA := Lib.hid (HA.out.2 ha1).2
  have HCKA := Lib.hid ha2
  clear ha2
  by_cases hmany : 4096 < D.length
  · have d : decide ((4096 : Int) < (D.length : Int)) = true := by simp; omega
    have HV := Lib.hid (show Wb.addF A D = (5, [].map Wb.ct) by rw [Wb.addF, if_neg (by rw [HE1.out]; simp), if_pos hmany]; rfl)
    go_wp2
    refine bodyPost_ret (v := .tuple #[.slice none 0 0, .int .i64 5]) (by simp [results, Try.results24, go_sem]) rfl ⟨_, _, rfl, [], HV.out, SlR.nil, by (repeat' (first | (with_reducible assumption) | (with_reducible exact Wb.Ext.refl _) | (with_reducible refine Wb.Ext.drew ?_) | (with_reducible refine Wb.Ext.drewN ?_ _) | (with_reducible refine Wb.Ext.alloc ?_ _) | (with_reducible refine Wb.Ext.trans ?_ (by assumption))))⟩
  have d : decide ((4096 : Int) < (D.length : Int)) = false := by simp; omega
  have hd2 : D.length ≤ 4096 := by omega
  have HSD := Lib.hid (HD.out.2 hd2)
  have HADD := Lib.hid (show Wb.addF A D = if (Wb.addG (Wb.startS A) D).1 ≠ 0 then ((Wb.addG (Wb.startS A) D).1, []) else (0, (Wb.headsP (A ++ D)).map fun p => (p.1, p.2, (Wb.addG (Wb.startS A) D).2 p)) by rw [Wb.addF, if_neg (by rw [HE1.out]; simp), if_neg hmany])
  have HST0 : Hid (StM w1 A (D.take 0) (Wb.findS A) (Wb.startS A)) := Lib.hid ⟨fun p => ⟨fun h => .inl (Wb.hasP_find.2 h), fun h => by
    rcases h with h | ⟨s, hs, _⟩
    · exact Wb.hasP_find.1 h
    · simp at hs⟩, fun p s hs => by
    obtain ⟨h1, h2⟩ := Wb.find_mem hs
    obtain ⟨h3, h4⟩ := HLSA.out s h1
    exact ⟨h2, by rw [Wb.startS, hs]; rfl, h3.ext hx1, h4, Wb.check_small (HCKA.out s h1)⟩, fun p hp => by rw [Wb.startS, hp]; rfl⟩
  clear hmany HD
  go_wp2_with fail
  go_loopw [30] (fun iv wr => ∃ (k : Nat) (f : Int × Int → Option Wb.Sl) (st : Int × Int → List Wb.Ln), k ≤ D.length ∧ iv = .int .i64 k ∧ Hid (SMapIs wr B (A.length + k) f) ∧ Hid (StM wr A (D.take k) f st) ∧ Hid (Wb.addG (Wb.startS A) D = Wb.addG st (D.drop k)) ∧ B < wr.heap.size ∧ Wb.Ext w wr) (fun iv _ => D.length - (intOf iv).toNat)
  case atStart => exact ⟨0, _, _, Nat.zero_le _, rfl, HM1, HST0, Lib.hid rfl, hB1, by (repeat' (first | (with_reducible assumption) | (with_reducible exact Wb.Ext.refl _) | (with_reducible refine Wb.Ext.drew ?_) | (with_reducible refine Wb.Ext.drewN ?_ _) | (with_reducible refine Wb.Ext.alloc ?_ _) | (with_reducible refine Wb.Ext.trans ?_ (by assumption))))⟩
  case round =>
    clear HM1 HST0 hB1 hx1
    obtain ⟨k, f, st, hk, rfl, HM, HST, HT, hB0, hxr⟩ := hrel
    by_cases hlt : k < D.length
    case neg =>
      obtain rfl : k = D.length := by omega
      have HG := Lib.hid (show Wb.addG (Wb.startS A) D = (0, st) by rw [HT.out, List.drop_length, Wb.addG])
      have HCKD := Lib.hid (add_checks HG.out)
      have HSTD : Hid (StM wr A D f st) := Lib.hid (by have := HST.out; rwa [List.take_length] at this)
      clear HST HT
      go_wp2_with fail
      go_fit (periods_any _ [⟨B, A.length + D.length, f⟩] _ (maps_lit wr _ (by simp) [⟨B, A.length + D.length, f⟩] _) (fun m hm => by
        simp at hm
        subst hm
        exact HM.out.ext (by (repeat' (first | (with_reducible assumption) | (with_reducible exact Wb.Ext.refl _) | (with_reducible refine Wb.Ext.drew ?_) | (with_reducible refine Wb.Ext.drewN ?_ _) | (with_reducible refine Wb.Ext.alloc ?_ _) | (with_reducible refine Wb.Ext.trans ?_ (by assumption)))))) (by simp) (fun m hm r h1 h2 => by
        simp at hm
        subst hm
        have h3 := nodup_len r ((A ++ D).map Wb.perS) h1 fun p hp => by
          rcases (HSTD.out.has p).1 (h2 p hp) with ⟨s, hs, e⟩ | ⟨s, hs, e⟩
          · exact List.mem_map.2 ⟨s, List.mem_append_left _ hs, e⟩
          · exact List.mem_map.2 ⟨s, List.mem_append_right _ hs, e⟩
        simp at h3; omega)); rintro e wp ⟨pv, rfl, ps, hP⟩
      obtain ⟨pa, pc, rfl⟩ := hP.tbl.shape
      have HPS : Hid (Wb.headsP (A ++ D) = ps) := Lib.hid ((Wb.heads_of A D).uniq ⟨hP.rise, fun p => by
        rw [hP.mem]
        simp only [List.mem_singleton, exists_eq_left]
        rw [HSTD.out.has]
        refine ⟨fun h => h.2, fun h => ⟨?_, h⟩⟩
        rcases h with ⟨s, hs, e⟩ | ⟨s, hs, e⟩
        · rw [← e]; exact prOk_check (HCKA.out s hs)
        · rw [← e]; exact prOk_check (HCKD.out s hs)⟩)
      have HTP := Lib.hid hP.tbl
      have hpl := hP.len
      have hxp : Wb.Ext wr wp := Wb.Ext.trans (by (repeat' (first | (with_reducible assumption) | (with_reducible exact Wb.Ext.refl _) | (with_reducible refine Wb.Ext.drew ?_) | (with_reducible refine Wb.Ext.drewN ?_ _) | (with_reducible refine Wb.Ext.alloc ?_ _) | (with_reducible refine Wb.Ext.trans ?_ (by assumption))))) hP.ext
      have HWP := Lib.hid (hxr.trans hxp)
      have HMp := Lib.hid (HM.out.ext hxp)
      have HSTp := Lib.hid (HSTD.out.keep fun v l h => h.ext hxp)
      have HPK : Hid (∀ p ∈ ps, PrOk p ∧ (f p).isSome = true) := Lib.hid (fun p hp => by
        obtain ⟨h1, m, hm, h2⟩ := (hP.mem p).1 hp
        simp at hm; subst hm; exact ⟨h1, h2⟩)
      have HVV := Lib.hid (show Wb.addF A D = (0, ps.map fun p => (p.1, p.2, st p)) by rw [HADD.out, HG.out, if_neg (by simp), HPS.out])
      clear hP hxp hxr HPS HSTD HM
      go_wp2_with fail
      go_loopw [13, 71] (fun ov iv wr => ∃ (j : Nat) (R : List Wb.Sl), j ≤ ps.length ∧ iv = .int .i64 j ∧ Hid (SlR wp.heap.size wr ov R) ∧ Hid (R.map Wb.ct = (ps.take j).map fun p => (p.1, p.2, st p)) ∧ R.length = j ∧ Wb.Ext wp wr) (fun _ iv _ => ps.length - (intOf iv).toNat)
      case atStart => exact ⟨0, [], Nat.zero_le _, rfl, Lib.hid SlR.nil, Lib.hid (by simp), rfl, by (repeat' (first | (with_reducible assumption) | (with_reducible exact Wb.Ext.refl _) | (with_reducible refine Wb.Ext.drew ?_) | (with_reducible refine Wb.Ext.drewN ?_ _) | (with_reducible refine Wb.Ext.alloc ?_ _) | (with_reducible refine Wb.Ext.trans ?_ (by assumption))))⟩
      case round =>
        obtain ⟨j, R, hj, rfl, HR, HRC, hRj, hxr⟩ := hrel
        obtain ⟨oa, oc, rfl⟩ := HR.out.shape
        by_cases hltj : j < ps.length
        case neg =>
          obtain rfl : j = ps.length := by omega
          have HV := Lib.hid (show Wb.addF A D = (0, R.map Wb.ct) by rw [HVV.out, HRC.out, List.take_length])
          have hxf := HWP.out.trans hxr
          go_wp2
          refine bodyPost_ret (v := .tuple #[.slice oa R.length oc, .int .i64 0]) (by simp [results, Try.results24, go_sem]) rfl ⟨_, _, rfl, R, HV.out, HR.out.mono HWP.out.size, hxf⟩
        obtain ⟨⟨p, q⟩, hx⟩ := Wb.get_ex hltj
        obtain ⟨bp, op, rfl, hcells⟩ := (HTP.out.ext hxr).opened (tne hltj)
        have c0 := hcells _ (p, q) hx 0 _ rfl
        have c1 := hcells _ (p, q) hx 1 _ rfl
        simp only [Nat.add_zero] at c0 c1
        have hji : (j : Int) < ps.length := by omega
        have HRJ := Lib.hid hRj
        have hRle : R.length ≤ 20000 := by omega
        clear hRj
        have HTK := Lib.hid (show ps.take (j + 1) = ps.take j ++ [(p, q)] by
          obtain ⟨h1, h2⟩ := List.getElem?_eq_some_iff.1 hx
          rw [List.take_succ_eq_append_getElem h1, h2])
        have HPQ := Lib.hid (HPK.out (p, q) (List.mem_of_getElem? hx))
        obtain ⟨sa, sn, sc, hso, hls, hsz, hsl⟩ : ∃ a n c, slO (f (p, q)) = SlV p q (.slice a n c) ∧ LnsC wp (.slice a n c) (st (p, q)) ∧ Sized (st (p, q)) ∧ (st (p, q)).length ≤ 448 := by
          rcases HSTp.out.con (p := (p, q)) with ⟨hf, _⟩ | ⟨a, n, c, h1, _, h3, h4⟩
          · have := HPQ.out.2; rw [hf] at this; cases this
          · exact ⟨a, n, c, h1, h3, h4⟩
        obtain ⟨a9, c9, e9⟩ := hls.1.shape
        injection e9 with e91 e92 e93
        subst e92
        have HLS := Lib.hid hls
        have HSZ := Lib.hid hsz
        clear hcells hx hls hsz e91 e93
        go_upto_region 24 with (fail)
        refine Wb.wp_at fun W0 hW0 => ?_
        obtain ⟨X, hX⟩ : ∃ X, wr.heap.size = X := ⟨_, rfl⟩
        have hb0 : Wb.Ext wr W0 := by rw [hW0]; (repeat' (first | (with_reducible assumption) | (with_reducible exact Wb.Ext.refl _) | (with_reducible refine Wb.Ext.drew ?_) | (with_reducible refine Wb.Ext.drewN ?_ _) | (with_reducible refine Wb.Ext.alloc ?_ _) | (with_reducible refine Wb.ext_set ?_ (by first | assumption | (simp; done) | (simp; omega) | omega) _) | (with_reducible refine Wb.Ext.trans ?_ (by assumption))))
        have x0 : W0.cell? ⟨X, 0, none⟩ = some (.int .i64 p) := by rw [hW0, ← hX]; simp [go_sem]
        have x1 : W0.cell? ⟨X, 1, none⟩ = some (.int .i64 q) := by rw [hW0, ← hX]; simp [go_sem]
        have hxp0 : Wb.Ext wp W0 := hxr.trans hb0
        have hlk : (Instr.lookup 71 (.map (some B)) (.agg #[.int .i64 p, .int .i64 q]) false).run Try.prog W0 = .ok (.agg #[.int .i64 p, .int .i64 q, .slice sa (st (p, q)).length sc]) W0 := ((HMp.out.ext hxp0).look HPQ.out.1).trans (by rw [hso])
        rw [hX]
        clear hW0 hX c0 c1 hso
        go_upto_region 25 with (fail)
        refine Wb.wp_at fun W1 hW1 => ?_
        obtain ⟨G, hG⟩ : ∃ G, W0.heap.size = G := ⟨_, rfl⟩
        have hb1 : Wb.Ext W0 W1 := by rw [hW1]; (repeat' (first | (with_reducible assumption) | (with_reducible exact Wb.Ext.refl _) | (with_reducible refine Wb.Ext.drew ?_) | (with_reducible refine Wb.Ext.drewN ?_ _) | (with_reducible refine Wb.Ext.alloc ?_ _) | (with_reducible refine Wb.ext_set ?_ (by first | assumption | (simp; done) | (simp; omega) | omega) _) | (with_reducible refine Wb.Ext.trans ?_ (by assumption))))
        have g0 : W1.cell? ⟨G, 0, none⟩ = some (.int .i64 p) := by rw [hW1, ← hG]; simp [go_sem]
        have g1 : W1.cell? ⟨G, 1, none⟩ = some (.int .i64 q) := by rw [hW1, ← hG]; simp [go_sem]
        have g2 : W1.cell? ⟨G, 2, none⟩ = some (.slice sa (st (p, q)).length sc) := by rw [hW1, ← hG]; simp [go_sem]
        have gf : ∀ j, W1.frozen? ⟨G, j, none⟩ = false := fun j => by rw [hW1, ← hG]; simp [go_sem]
        have hGl : G < W1.heap.size := by rw [hW1, ← hG]; simp [go_sem]
        have hG0 : wp.heap.size ≤ G := by rw [← hG]; exact hxp0.size
        have hrG : wr.heap.size ≤ G := by rw [← hG]; exact hb0.size
        have hxp1 : Wb.Ext wp W1 := hxp0.trans hb1
        have hwr1 : Wb.Ext wr W1 := hb0.trans hb1
        (try rw [hG])
        clear hW1 hG hlk hb1 hb0
        go_wp2_with fail
        go_fit (clonel_any _ (st (p, q)) _ (HLS.out.1.ext (by (repeat' (first | (with_reducible assumption) | (with_reducible exact Wb.Ext.refl _) | (with_reducible refine Wb.Ext.drew ?_) | (with_reducible refine Wb.Ext.drewN ?_ _) | (with_reducible refine Wb.Ext.alloc ?_ _) | (with_reducible refine Wb.Ext.trans ?_ (by assumption)))))) (by omega)); rintro e w9 ⟨cv, rfl, hcv, hb9⟩
        obtain ⟨ca, cc, rfl⟩ := row_shape hcv
        have hb9 : Wb.Ext W1 w9 := Wb.Ext.trans (by (repeat' (first | (with_reducible assumption) | (with_reducible exact Wb.Ext.refl _) | (with_reducible refine Wb.Ext.drew ?_) | (with_reducible refine Wb.Ext.drewN ?_ _) | (with_reducible refine Wb.Ext.alloc ?_ _) | (with_reducible refine Wb.Ext.trans ?_ (by assumption))))) hb9
        have g0 := hb9.keep g0
        have g1 := hb9.keep g1
        have g2 := hb9.keep g2
        have gf : ∀ j, w9.frozen? ⟨G, j, none⟩ = false := fun j => (Below.frozen hb9 (by simpa using hGl)).trans (gf j)
        have HNB : Hid (∀ q9, (Value.slice ca (st (p, q)).length cc).ownBlock = some q9 → W1.heap.size ≤ q9) := Lib.hid (fun q9 hq9 => (hcv.lt q9 hq9).1)
        have HLC := Lib.hid (show LnsC w9 (.slice ca (st (p, q)).length cc) (st (p, q)) from lnsC_of_row hcv)
        clear hcv
        go_upto_region 26 with (fail)
        refine Wb.wp_at fun W2 hW2 => ?_
        obtain ⟨h2, zk, zz, ze⟩ := st1d (w := w9) (w' := W2) (b := G) (o := 2) (x := .slice ca (st (p, q)).length cc) hW2 g2
        have g0 : W2.cell? ⟨G, 0, none⟩ = some (.int .i64 p) := by rw [zk G 0 (.inr (by decide))]; exact g0
        have g1 : W2.cell? ⟨G, 1, none⟩ = some (.int .i64 q) := by rw [zk G 1 (.inr (by decide))]; exact g1
        have hxp2 : Wb.Ext wp W2 := ze wp hG0 (hxp1.trans hb9)
        have hwr2 : Wb.Ext wr W2 := ze wr hrG (hwr1.trans hb9)
        have HLC2 := Lib.hid (lnsC_cells HLC.out fun b k u hb hr hc => by
          have hbg : b ≠ G := by
            obtain ⟨b9, o9, e9, _⟩ := HLC.out.1.opened hr
            have hq9 : (Value.slice ca (st (p, q)).length cc).ownBlock = some b9 := by rw [e9]; rfl
            have h8 := HNB.out b9 hq9
            rw [hb b9 hq9]; omega
          rw [zk b k (.inl hbg)]; exact hc)
        have HRZ := Lib.hid (HR.out.ext hwr2)
        have HNQ : Hid (st (p, q) ≠ [] → ∀ q9, (Value.slice ca (st (p, q)).length cc).ownBlock = some q9 → (Value.slice oa R.length oc).ownBlock ≠ some q9) := Lib.hid (fun _ q9 hq9 e => by have h7 := (HR.out.1.lt q9 e).2; have h8 := HNB.out q9 hq9; omega)
        clear hW2 zk zz ze hb9 hwr1 hxp1
        obtain ⟨hi, hz0, hz1, hz2⟩ := HIN.out
        go_wp2_with (at_builtin; go_loud (refine wpList_append_row2 rfl (.tmp 82) (.tmp 84) 25 rfl wp.heap.size 24 i0 slZ 3 40 Try.underlying25 hi hz0 hz1 hz2 rfl (by decide) _ _ _ rfl (HRZ.out.ext (Wb.Ext.alloc (.refl _) _)).1 _ rfl 1 (slc (⟨p, q, .slice ca (st (p, q)).length cc, st (p, q)⟩ : Wb.Sl)) ?c1 ?c2 ?c3 ?c4 ?c5 ?_))
        case c1 => exact src_lit _ _ (by first | rfl | simp) (slc (⟨p, q, .slice ca (st (p, q)).length cc, st (p, q)⟩ : Wb.Sl)) _ _
        case c2 => intro u hu; simp [slc] at hu; rcases hu with rfl | rfl | rfl <;> rfl
        case c3 => unfold maxLen; omega
        case c4 => omega
        case c5 => have := hxp2.size; first | omega | (simp; omega)
        intro u2 w6 hown2 hg2 hblk
        have hrb : ∀ q9, (Value.slice oa R.length oc).ownBlock = some q9 → wp.heap.size ≤ q9 := fun q9 hq9 => (HR.out.1.lt q9 hq9).1
        have HX6 := Lib.hid (show Wb.Ext wp w6 from Wb.Ext.grown (Wb.Ext.alloc hxp2 _) hg2 (fun q9 hq9 => hrb q9 hq9))
        have HR6 := Lib.hid (SlR.append (s := ⟨p, q, .slice ca (st (p, q)).length cc, st (p, q)⟩) (HRZ.out.ext (Wb.Ext.alloc (.refl _) _)) hown2 hg2 (by have := hblk; simp at this ⊢; exact this) (HLC2.out.ext (Wb.Ext.alloc (.refl _) _)) HSZ.out HNQ.out)
        have HRN := Lib.hid (show (R ++ [(⟨p, q, .slice ca (st (p, q)).length cc, st (p, q)⟩ : Wb.Sl)]).map Wb.ct = (ps.take (j + 1)).map fun p => (p.1, p.2, st p) by rw [HTK.out, List.map_append, List.map_append, HRC.out]; rfl)
        clear hi hz0 hz1 hz2 hg2 hown2 hblk hrb
        go_wp2
        go_roundw
        case rel => exact ⟨j + 1, R ++ [⟨p, q, .slice ca (st (p, q)).length cc, st (p, q)⟩], by omega, by go_num, HR6, HRN, by rw [List.length_append, HRJ.out]; rfl, HX6.out⟩
        case measure => first | (simp [intOf]; done) | (simp [intOf]; omega)
    obtain ⟨x, hx⟩ := Wb.get_ex hlt
    have hmem := List.mem_of_getElem? hx
    obtain ⟨b, off, rfl, c0, c1, c2⟩ := (HSD.out.ext hxr).cells hx
    obtain ⟨xa, xc, hxv⟩ := (HSD.out.2 x hmem).1.1.shape
    rw [hxv] at c2
    have HLX0 : Hid (LnsC wr (.slice xa x.l.length xc) x.l) := Lib.hid (by rw [← hxv]; exact (HSD.out.2 x hmem).1.ext hxr)
    have HSX := Lib.hid (HSD.out.2 x hmem).2
    have hki : (k : Int) < D.length := by omega
    have HX := Lib.hid hx
    have HDR := Lib.hid (drop_at hx)
    clear hx hmem hxv
    go_upto_region 9 with (fail)
    refine Wb.wp_at fun W0 hW0 => ?_
    obtain ⟨X, hX⟩ : ∃ X, wr.heap.size = X := ⟨_, rfl⟩
    have hb0 : Wb.Ext wr W0 := by rw [hW0]; (repeat' (first | (with_reducible assumption) | (with_reducible exact Wb.Ext.refl _) | (with_reducible refine Wb.Ext.drew ?_) | (with_reducible refine Wb.Ext.drewN ?_ _) | (with_reducible refine Wb.Ext.alloc ?_ _) | (with_reducible refine Wb.ext_set ?_ (by first | assumption | (simp; done) | (simp; omega) | omega) _) | (with_reducible refine Wb.Ext.trans ?_ (by assumption))))
    have x0 : W0.cell? ⟨X, 0, none⟩ = some (.int .i64 x.y) := by rw [hW0, ← hX]; simp [go_sem]
    have x1 : W0.cell? ⟨X, 1, none⟩ = some (.int .i64 x.i) := by rw [hW0, ← hX]; simp [go_sem]
    have x2 : W0.cell? ⟨X, 2, none⟩ = some (.slice xa x.l.length xc) := by rw [hW0, ← hX]; simp [go_sem]
    have hXl : X < W0.heap.size := by rw [hW0, ← hX]; simp
    have hXr : wr.heap.size ≤ X := by omega
    rw [hX]
    clear hW0 hX c0 c1 c2
    obtain ⟨E, hE⟩ : ∃ E, Wb.check x.y x.i x.l = E := ⟨_, rfl⟩
    have HEE := Lib.hid hE
    clear hE
    go_wp2_with fail
    go_fit (check_any x.y x.i _ x.l _ (HLX0.out.1.ext (by (repeat' (first | (with_reducible assumption) | (with_reducible exact Wb.Ext.refl _) | (with_reducible refine Wb.Ext.drew ?_) | (with_reducible refine Wb.Ext.drewN ?_ _) | (with_reducible refine Wb.Ext.alloc ?_ _) | (with_reducible refine Wb.Ext.trans ?_ (by assumption)))))) HSX.out); rintro e w2 ⟨rfl, hb2⟩
    rw [HEE.out]
    have hb2 : Wb.Ext W0 w2 := Wb.Ext.trans (by (repeat' (first | (with_reducible assumption) | (with_reducible exact Wb.Ext.refl _) | (with_reducible refine Wb.Ext.drew ?_) | (with_reducible refine Wb.Ext.drewN ?_ _) | (with_reducible refine Wb.Ext.alloc ?_ _) | (with_reducible refine Wb.Ext.trans ?_ (by assumption))))) hb2
    have x0 := hb2.keep x0
    have x1 := hb2.keep x1
    have x2 := hb2.keep x2
    have hxr2 : Wb.Ext wr w2 := hb0.trans hb2
    replace hXl := Nat.lt_of_lt_of_le hXl hb2.size
    clear hb2 hb0
    by_cases hz : E = 0
    case neg =>
      have d1 : (E != 0) = true := by simpa using hz
      have d2 : (E == 0) = false := by simpa using hz
      have HV := Lib.hid (show Wb.addF A D = (E, [].map Wb.ct) by
        have : (Wb.addG (Wb.startS A) D).1 = E := by rw [HT.out, HDR.out, Wb.add_bad (by rw [HEE.out]; exact hz), HEE.out]
        rw [HADD.out, if_pos (by rw [this]; exact hz), this]; rfl)
      have hxe := hxr.trans hxr2
      clear hz
      go_wp2
      refine bodyPost_ret (v := .tuple #[.slice none 0 0, .int .i64 E]) (by simp [results, Try.results24, go_sem]) rfl ⟨_, _, rfl, [], HV.out, SlR.nil, by (repeat' (first | (with_reducible assumption) | (with_reducible exact Wb.Ext.refl _) | (with_reducible refine Wb.Ext.drew ?_) | (with_reducible refine Wb.Ext.drewN ?_ _) | (with_reducible refine Wb.Ext.alloc ?_ _) | (with_reducible refine Wb.Ext.trans ?_ (by assumption))))⟩
    subst hz
    have HPK : Hid (PrOk (x.y, x.i)) := Lib.hid (prOk_check HEE.out)
    go_wp2_with fail
    go_fit (period_any x.y x.i xa x.l.length xc _); rintro e w3 ⟨rfl, hb3⟩
    have hb3 : Wb.Ext w2 w3 := Wb.Ext.trans (by (repeat' (first | (with_reducible assumption) | (with_reducible exact Wb.Ext.refl _) | (with_reducible refine Wb.Ext.drew ?_) | (with_reducible refine Wb.Ext.drewN ?_ _) | (with_reducible refine Wb.Ext.alloc ?_ _) | (with_reducible refine Wb.Ext.trans ?_ (by assumption))))) hb3
    have x0 := hb3.keep x0
    have x1 := hb3.keep x1
    have x2 := hb3.keep x2
    have hxr3 : Wb.Ext wr w3 := hxr2.trans hb3
    replace hXl := Nat.lt_of_lt_of_le hXl hb3.size
    have hlk := (HM.out.ext hxr3).look_ok HPK.out
    clear hb3 hxr2
    rcases HST.out.con (p := (x.y, x.i)) with ⟨hf, hst0⟩ | ⟨sa, sn, sc, hso, hss, hls, hsz, _⟩
    · rw [hf] at hlk
      replace hlk : (Instr.lookup 71 (.map (some B)) (.agg #[.int .i64 x.y, .int .i64 x.i]) true).run Try.prog w3 = .ok (.tuple #[.agg #[.int .i64 0, .int .i64 0, .slice none 0 0], .bool false]) w3 := hlk
      go_upto_region 15 with (fail)
      refine Wb.wp_at fun W7 hW7 => ?_
      obtain ⟨G, hG⟩ : ∃ G, w3.heap.size = G := ⟨_, rfl⟩
      have hb7 : Wb.Ext w3 W7 := by rw [hW7]; (repeat' (first | (with_reducible assumption) | (with_reducible exact Wb.Ext.refl _) | (with_reducible refine Wb.Ext.drew ?_) | (with_reducible refine Wb.Ext.drewN ?_ _) | (with_reducible refine Wb.Ext.alloc ?_ _) | (with_reducible refine Wb.ext_set ?_ (by first | assumption | (simp; done) | (simp; omega) | omega) _) | (with_reducible refine Wb.Ext.trans ?_ (by assumption))))
      have g0 : W7.cell? ⟨G, 0, none⟩ = some (.int .i64 x.y) := by rw [hW7, ← hG]; simp [go_sem]
      have g1 : W7.cell? ⟨G, 1, none⟩ = some (.int .i64 x.i) := by rw [hW7, ← hG]; simp [go_sem]
      have g2 : W7.cell? ⟨G, 2, none⟩ = some (.slice none 0 0) := by rw [hW7, ← hG]; simp [go_sem]
      have gf : ∀ j, W7.frozen? ⟨G, j, none⟩ = false := fun j => by rw [hW7, ← hG]; simp [go_sem]
      have gs : ∀ j s, W7.cell? ⟨G, j, none⟩ ≠ some (.string s) := fun j s => by
        match j with
        | 0 => rw [g0]; intro e; cases e
        | 1 => rw [g1]; intro e; cases e
        | 2 => rw [g2]; intro e; cases e
        | j + 3 => rw [hW7, ← hG]; simp [go_sem]
      have hGl : G < W7.heap.size := by rw [hW7, ← hG]; simp [go_sem]
      have hGr : wr.heap.size ≤ G := by rw [← hG]; exact hxr3.size
      have hGw : w.heap.size ≤ G := Nat.le_trans hxr.size hGr
      have hGX0 : X < G := by omega
      have x0 := hb7.keep x0
      have x1 := hb7.keep x1
      have x2 := hb7.keep x2
      have hxr0 : Wb.Ext wr W7 := hxr3.trans hb7
      have HLS : Hid (LnsC W7 (.slice none 0 0) (st (x.y, x.i))) := Lib.hid (by rw [hst0]; exact ⟨.inl ⟨rfl, _, _, rfl⟩, Nat.le_refl _⟩)
      have HSS : Hid (Sized (st (x.y, x.i))) := Lib.hid (by rw [hst0]; simp [Sized])
      have HLX := Lib.hid (HLX0.out.ext hxr0)
      (try rw [hG])
      clear hW7 hG hb7 hf hst0 hlk hxr3 HLX0
      obtain ⟨⟨E2, Y2, I2, ml⟩, hmg⟩ : ∃ p, Wb.merge x.y x.i (st (x.y, x.i)) x.y x.i x.l = p := ⟨_, rfl⟩
      have HMG := Lib.hid hmg
      clear hmg
      go_wp2_with fail
      go_fit (merge_any x.y x.i x.y x.i _ _ (st (x.y, x.i)) x.l _ (HLS.out.1.ext (by (repeat' (first | (with_reducible assumption) | (with_reducible exact Wb.Ext.refl _) | (with_reducible refine Wb.Ext.drew ?_) | (with_reducible refine Wb.Ext.drewN ?_ _) | (with_reducible refine Wb.Ext.alloc ?_ _) | (with_reducible refine Wb.Ext.trans ?_ (by assumption)))))) (HLX.out.1.ext (by (repeat' (first | (with_reducible assumption) | (with_reducible exact Wb.Ext.refl _) | (with_reducible refine Wb.Ext.drew ?_) | (with_reducible refine Wb.Ext.drewN ?_ _) | (with_reducible refine Wb.Ext.alloc ?_ _) | (with_reducible refine Wb.Ext.trans ?_ (by assumption)))))) HSS.out HSX.out HLS.out.2 HLX.out.2); rintro e w8 ⟨m, rfl, hm, hb8⟩
      rw [HMG.out] at hm ⊢
      simp only at hm ⊢
      obtain ⟨ma, mc, rfl⟩ := hm.1.shape
      have HML := Lib.hid hm
      have hb8 : Wb.Ext W7 w8 := Wb.Ext.trans (by (repeat' (first | (with_reducible assumption) | (with_reducible exact Wb.Ext.refl _) | (with_reducible refine Wb.Ext.drew ?_) | (with_reducible refine Wb.Ext.drewN ?_ _) | (with_reducible refine Wb.Ext.alloc ?_ _) | (with_reducible refine Wb.Ext.trans ?_ (by assumption))))) hb8
      have x0 := hb8.keep x0
      have x1 := hb8.keep x1
      have x2 := hb8.keep x2
      have g0 := hb8.keep g0
      have g1 := hb8.keep g1
      have g2 := hb8.keep g2
      have gf : ∀ j, w8.frozen? ⟨G, j, none⟩ = false := fun j => (Below.frozen hb8 (by simpa using hGl)).trans (gf j)
      have hGl0 := hGl
      replace hGl := Nat.lt_of_lt_of_le hGl hb8.size
      have hx8w : Wb.Ext w w8 := hxr.trans (hxr0.trans hb8)
      have gs : ∀ j s, w8.cell? ⟨G, j, none⟩ ≠ some (.string s) := fun j s => by rw [hb8.cells.1 G j hGl0]; exact gs j s
      clear hm
      by_cases hz2 : E2 = 0
      case neg =>
        have d1 : (E2 != 0) = true := by simpa using hz2
        have d2 : (E2 == 0) = false := by simpa using hz2
        have HV := Lib.hid (show Wb.addF A D = (E2, [].map Wb.ct) by
          have : (Wb.addG (Wb.startS A) D).1 = E2 := by rw [HT.out, HDR.out, Wb.add_ill HEE.out HMG.out hz2]
          rw [HADD.out, if_pos (by rw [this]; exact hz2), this]; rfl)
        clear hz2 hb8
        go_wp2
        refine bodyPost_ret (v := .tuple #[.slice none 0 0, .int .i64 E2]) (by simp [results, Try.results24, go_sem]) rfl ⟨_, _, rfl, [], HV.out, SlR.nil, by (repeat' (first | (with_reducible assumption) | (with_reducible exact Wb.Ext.refl _) | (with_reducible refine Wb.Ext.drew ?_) | (with_reducible refine Wb.Ext.drewN ?_ _) | (with_reducible refine Wb.Ext.alloc ?_ _) | (with_reducible refine Wb.ext_set ?_ (by first | assumption | (simp; done) | (simp; omega) | omega) _) | (with_reducible refine Wb.Ext.trans ?_ (by assumption))))⟩
      subst hz2
      obtain ⟨rfl, rfl⟩ := Wb.merge_per HMG.out
      have HMS := Lib.hid (merge_sized HMG.out HSS.out HSX.out)
      have HTN := Lib.hid (show Wb.addG (Wb.startS A) D = Wb.addG (Wb.updS st (Wb.perS x) ml) (D.drop (k + 1)) by rw [HT.out, HDR.out]; exact Wb.add_more HEE.out HMG.out)
      go_upto_region 18 with (fail)
      refine Wb.wp_at fun W0 hW0 => ?_
      have hst := st3d (w := w8) (w' := W0) (b := G) (x := .int .i64 x.y) (y := .int .i64 x.i) (z := .slice ma ml.length mc) hW0 g0 g1 g2
      obtain ⟨h0, h1, h2, zk, zf, zz, ze⟩ := hst
      have hGX : X ≠ G := by omega
      have x0 : W0.cell? ⟨X, 0, none⟩ = some (.int .i64 x.y) := by rw [zk X 0 hGX]; exact x0
      have x1 : W0.cell? ⟨X, 1, none⟩ = some (.int .i64 x.i) := by rw [zk X 1 hGX]; exact x1
      have x2 : W0.cell? ⟨X, 2, none⟩ = some (.slice xa x.l.length xc) := by rw [zk X 2 hGX]; exact x2
      have HWr := Lib.hid (ze wr hGr (hxr0.trans hb8))
      have HW0 := Lib.hid (hxr.trans HWr.out)
      have HMP : Hid (SMapIs W0 B (A.length + k) f) := Lib.hid (HM.out.ext HWr.out)
      have HST0 := Lib.hid (HST.out.keep fun v l h => h.ext HWr.out)
      replace HML := Lib.hid (lnsC_cells HML.out fun b q u hb hr hc => by
        have hbg : b ≠ G := by
          obtain ⟨b9, o9, e9, _⟩ := HML.out.1.opened hr
          have hq9 : (Value.slice ma ml.length mc).ownBlock = some b9 := by rw [e9]; rfl
          rw [hb b9 hq9]
          exact not_in HML.out hr gs b9 hq9
        rw [zk b q hbg]; exact hc)
      have hBl : B < W0.heap.size := Nat.lt_of_lt_of_le hB0 HWr.out.size
      have hXB : X ≠ B := by omega
      have hGB : G ≠ B := by omega
      have g0 := h0
      have g1 := h1
      have g2 := h2
      clear hW0 zk zf zz ze h0 h1 h2
      refine region_start (S := (fun w' => w'.cell? ⟨X, 0, none⟩ = some (.int .i64 x.y) ∧ w'.cell? ⟨X, 1, none⟩ = some (.int .i64 x.i) ∧ w'.cell? ⟨X, 2, none⟩ = some (.slice xa x.l.length xc) ∧ w'.cell? ⟨G, 0, none⟩ = some (.int .i64 x.y) ∧ w'.cell? ⟨G, 1, none⟩ = some (.int .i64 x.i) ∧ w'.cell? ⟨G, 2, none⟩ = some (.slice ma ml.length mc))) (n := 5) (l := #[false, false, false, false, false]) (by kernel_rfl) ⟨x0, x1, x2, g0, g1, g2⟩ (by kernel_rfl) (by kernel_rfl) (fun hHeld => ?_)
      refine take_d (i := 0) (d := 62) (v := ?_) rfl rfl (by kernel_rfl) (by kernel_rfl) (by kernel_rfl) (fun _ _ _ h => h) (Or.inl ⟨by rfl, ?_⟩) (by assumption) ?_
      rotate_left
      · (intro w hSw; (try dsimp only at hSw); go_simp; (try with_reducible rfl))
      (try simp only [Act.put, List.setIfInBounds_toArray, List.set_cons_zero, List.set_cons_succ])
      refine take_d (i := 1) (d := 63) (v := ?_) rfl rfl (by kernel_rfl) (by kernel_rfl) (by kernel_rfl) (fun _ _ _ h => h) (Or.inl ⟨by rfl, ?_⟩) (by assumption) ?_
      rotate_left
      · (intro w hSw; (try dsimp only at hSw); go_simp; (try with_reducible rfl))
      (try simp only [Act.put, List.setIfInBounds_toArray, List.set_cons_zero, List.set_cons_succ])
      refine take_d (i := 3) (d := 65) (v := ?_) rfl rfl (by kernel_rfl) (by kernel_rfl) (by kernel_rfl) (fun _ _ _ h => h) (Or.inl ⟨by rfl, ?_⟩) (by assumption) ?_
      rotate_left
      · (intro w hSw; (try dsimp only at hSw); go_simp; (try with_reducible rfl))
      (try simp only [Act.put, List.setIfInBounds_toArray, List.set_cons_zero, List.set_cons_succ])
      refine wpAnyH_ready (rs := [2]) (by kernel_rfl) (by simp) ?_
      refine AllReadyH.cons (o := _) rfl (fun K hK => ?_) AllReadyH.nil
      go_simp
      go_at_call 50
      go_fit (period_any x.y x.i xa x.l.length xc _)
      rintro e w21 ⟨rfl, hb21⟩
      have hx21 : Wb.Ext W0 w21 := Wb.Ext.trans (.drew (.refl _)) hb21
      clear hb21
      refine hK.out _ _ ⟨hx21.keep x0, hx21.keep x1, hx21.keep x2, hx21.keep g0, hx21.keep g1, hx21.keep g2⟩ (fun hHeld => ?_)
      clear hK K
      (try simp only [List.setIfInBounds_toArray, List.set_cons_zero, List.set_cons_succ])
      refine wpAnyH_ready (rs := [4]) (by kernel_rfl) (by simp) ?_
      refine AllReadyH.cons (o := _) rfl (fun K hK => ?_) AllReadyH.nil
      have hmp := HMP.out.ext (show Wb.Ext W0 w21 from hx21)
      have hm22 := hmp.update (by unfold maxLen; omega) (p := (x.y, x.i)) HPK.out ⟨x.y, x.i, .slice ma ml.length mc, ml⟩
      obtain ⟨w22, hrun22, hsm22, hg22⟩ := hm22
      have hrun22 : (Instr.mapUpdate 71 (.map (some B)) (.agg #[.int .i64 x.y, .int .i64 x.i]) (.agg #[.int .i64 x.y, .int .i64 x.i, .slice ma ml.length mc])).run Try.prog w21 = .ok () w22 := hrun22
      go_simp
      have HSM := Lib.hid hsm22
      have zx0 := grown_keep hg22 (hx21.keep x0) (by omega)
      have zx1 := grown_keep hg22 (hx21.keep x1) (by omega)
      have zx2 := grown_keep hg22 (hx21.keep x2) (by omega)
      have zg0 := grown_keep hg22 (hx21.keep g0) (by omega)
      have zg1 := grown_keep hg22 (hx21.keep g1) (by omega)
      have zg2 := grown_keep hg22 (hx21.keep g2) (by omega)
      have HXE := Lib.hid (show Wb.Ext w w22 from Wb.Ext.grown (HW0.out.trans hx21) hg22 (fun q hq => by injection hq with hq; omega))
      have HSTN := Lib.hid ((HST0.out.keep fun v l h => lnsC_map (h.ext hx21) hmp hg22).put HX.out (s := ⟨x.y, x.i, .slice ma ml.length mc, ml⟩) rfl (lnsC_map (HML.out.ext hx21) hmp hg22) HMS.out (merge_len HMG.out))
      have hsz : B < w22.heap.size := Nat.lt_of_lt_of_le hBl (Nat.le_trans hx21.size hg22.size)
      clear hsm22 hg22 hrun22 hmp
      refine hK.out _ _ ⟨zx0, zx1, zx2, zg0, zg1, zg2⟩ (fun hHeld => ?_)
      clear hK K
      (try simp only [List.setIfInBounds_toArray, List.set_cons_zero, List.set_cons_succ])
      refine wpAnyH_done (by kernel_rfl) ?_ _
      clear zx0 zx1 zx2 zg0 zg1 zg2
      go_wp2
      go_roundw
      case rel => exact ⟨k + 1, _, _, by omega, by go_num, HSM, HSTN, HTN, hsz, HXE.out⟩
      case measure => first | (simp [intOf]; done) | (simp [intOf]; omega)
    · rw [hso, hss] at hlk
      replace hlk : (Instr.lookup 71 (.map (some B)) (.agg #[.int .i64 x.y, .int .i64 x.i]) true).run Try.prog w3 = .ok (.tuple #[.agg #[.int .i64 x.y, .int .i64 x.i, .slice sa sn sc], .bool true]) w3 := hlk
      go_upto_region 15 with (fail)
      refine Wb.wp_at fun W7 hW7 => ?_
      obtain ⟨G, hG⟩ : ∃ G, w3.heap.size = G := ⟨_, rfl⟩
      have hb7 : Wb.Ext w3 W7 := by rw [hW7]; (repeat' (first | (with_reducible assumption) | (with_reducible exact Wb.Ext.refl _) | (with_reducible refine Wb.Ext.drew ?_) | (with_reducible refine Wb.Ext.drewN ?_ _) | (with_reducible refine Wb.Ext.alloc ?_ _) | (with_reducible refine Wb.ext_set ?_ (by first | assumption | (simp; done) | (simp; omega) | omega) _) | (with_reducible refine Wb.Ext.trans ?_ (by assumption))))
      have g0 : W7.cell? ⟨G, 0, none⟩ = some (.int .i64 x.y) := by rw [hW7, ← hG]; simp [go_sem]
      have g1 : W7.cell? ⟨G, 1, none⟩ = some (.int .i64 x.i) := by rw [hW7, ← hG]; simp [go_sem]
      have g2 : W7.cell? ⟨G, 2, none⟩ = some (.slice sa sn sc) := by rw [hW7, ← hG]; simp [go_sem]
      have gf : ∀ j, W7.frozen? ⟨G, j, none⟩ = false := fun j => by rw [hW7, ← hG]; simp [go_sem]
      have gs : ∀ j s, W7.cell? ⟨G, j, none⟩ ≠ some (.string s) := fun j s => by
        match j with
        | 0 => rw [g0]; intro e; cases e
        | 1 => rw [g1]; intro e; cases e
        | 2 => rw [g2]; intro e; cases e
        | j + 3 => rw [hW7, ← hG]; simp [go_sem]
      have hGl : G < W7.heap.size := by rw [hW7, ← hG]; simp [go_sem]
      have hGr : wr.heap.size ≤ G := by rw [← hG]; exact hxr3.size
      have hGw : w.heap.size ≤ G := Nat.le_trans hxr.size hGr
      have hGX0 : X < G := by omega
      have x0 := hb7.keep x0
      have x1 := hb7.keep x1
      have x2 := hb7.keep x2
      have hxr0 : Wb.Ext wr W7 := hxr3.trans hb7
      have HLS := Lib.hid (hls.ext hxr0)
      have HSS := Lib.hid hsz
      have HLX := Lib.hid (HLX0.out.ext hxr0)
      (try rw [hG])
      clear hW7 hG hb7 hso hss hls hsz hlk hxr3 HLX0
      obtain ⟨⟨E2, Y2, I2, ml⟩, hmg⟩ : ∃ p, Wb.merge x.y x.i (st (x.y, x.i)) x.y x.i x.l = p := ⟨_, rfl⟩
      have HMG := Lib.hid hmg
      clear hmg
      go_wp2_with fail
      go_fit (merge_any x.y x.i x.y x.i _ _ (st (x.y, x.i)) x.l _ (HLS.out.1.ext (by (repeat' (first | (with_reducible assumption) | (with_reducible exact Wb.Ext.refl _) | (with_reducible refine Wb.Ext.drew ?_) | (with_reducible refine Wb.Ext.drewN ?_ _) | (with_reducible refine Wb.Ext.alloc ?_ _) | (with_reducible refine Wb.Ext.trans ?_ (by assumption)))))) (HLX.out.1.ext (by (repeat' (first | (with_reducible assumption) | (with_reducible exact Wb.Ext.refl _) | (with_reducible refine Wb.Ext.drew ?_) | (with_reducible refine Wb.Ext.drewN ?_ _) | (with_reducible refine Wb.Ext.alloc ?_ _) | (with_reducible refine Wb.Ext.trans ?_ (by assumption)))))) HSS.out HSX.out HLS.out.2 HLX.out.2); rintro e w8 ⟨m, rfl, hm, hb8⟩
      rw [HMG.out] at hm ⊢
      simp only at hm ⊢
      obtain ⟨ma, mc, rfl⟩ := hm.1.shape
      have HML := Lib.hid hm
      have hb8 : Wb.Ext W7 w8 := Wb.Ext.trans (by (repeat' (first | (with_reducible assumption) | (with_reducible exact Wb.Ext.refl _) | (with_reducible refine Wb.Ext.drew ?_) | (with_reducible refine Wb.Ext.drewN ?_ _) | (with_reducible refine Wb.Ext.alloc ?_ _) | (with_reducible refine Wb.Ext.trans ?_ (by assumption))))) hb8
      have x0 := hb8.keep x0
      have x1 := hb8.keep x1
      have x2 := hb8.keep x2
      have g0 := hb8.keep g0
      have g1 := hb8.keep g1
      have g2 := hb8.keep g2
      have gf : ∀ j, w8.frozen? ⟨G, j, none⟩ = false := fun j => (Below.frozen hb8 (by simpa using hGl)).trans (gf j)
      have hGl0 := hGl
      replace hGl := Nat.lt_of_lt_of_le hGl hb8.size
      have hx8w : Wb.Ext w w8 := hxr.trans (hxr0.trans hb8)
      have gs : ∀ j s, w8.cell? ⟨G, j, none⟩ ≠ some (.string s) := fun j s => by rw [hb8.cells.1 G j hGl0]; exact gs j s
      clear hm
      by_cases hz2 : E2 = 0
      case neg =>
        have d1 : (E2 != 0) = true := by simpa using hz2
        have d2 : (E2 == 0) = false := by simpa using hz2
        have HV := Lib.hid (show Wb.addF A D = (E2, [].map Wb.ct) by
          have : (Wb.addG (Wb.startS A) D).1 = E2 := by rw [HT.out, HDR.out, Wb.add_ill HEE.out HMG.out hz2]
          rw [HADD.out, if_pos (by rw [this]; exact hz2), this]; rfl)
        clear hz2 hb8
        go_wp2
        refine bodyPost_ret (v := .tuple #[.slice none 0 0, .int .i64 E2]) (by simp [results, Try.results24, go_sem]) rfl ⟨_, _, rfl, [], HV.out, SlR.nil, by (repeat' (first | (with_reducible assumption) | (with_reducible exact Wb.Ext.refl _) | (with_reducible refine Wb.Ext.drew ?_) | (with_reducible refine Wb.Ext.drewN ?_ _) | (with_reducible refine Wb.Ext.alloc ?_ _) | (with_reducible refine Wb.ext_set ?_ (by first | assumption | (simp; done) | (simp; omega) | omega) _) | (with_reducible refine Wb.Ext.trans ?_ (by assumption))))⟩
      subst hz2
      obtain ⟨rfl, rfl⟩ := Wb.merge_per HMG.out
      have HMS := Lib.hid (merge_sized HMG.out HSS.out HSX.out)
      have HTN := Lib.hid (show Wb.addG (Wb.startS A) D = Wb.addG (Wb.updS st (Wb.perS x) ml) (D.drop (k + 1)) by rw [HT.out, HDR.out]; exact Wb.add_more HEE.out HMG.out)
      go_upto_region 18 with (fail)
      refine Wb.wp_at fun W0 hW0 => ?_
      have hst := st3d (w := w8) (w' := W0) (b := G) (x := .int .i64 x.y) (y := .int .i64 x.i) (z := .slice ma ml.length mc) hW0 g0 g1 g2
      obtain ⟨h0, h1, h2, zk, zf, zz, ze⟩ := hst
      have hGX : X ≠ G := by omega
      have x0 : W0.cell? ⟨X, 0, none⟩ = some (.int .i64 x.y) := by rw [zk X 0 hGX]; exact x0
      have x1 : W0.cell? ⟨X, 1, none⟩ = some (.int .i64 x.i) := by rw [zk X 1 hGX]; exact x1
      have x2 : W0.cell? ⟨X, 2, none⟩ = some (.slice xa x.l.length xc) := by rw [zk X 2 hGX]; exact x2
      have HWr := Lib.hid (ze wr hGr (hxr0.trans hb8))
      have HW0 := Lib.hid (hxr.trans HWr.out)
      have HMP : Hid (SMapIs W0 B (A.length + k) f) := Lib.hid (HM.out.ext HWr.out)
      have HST0 := Lib.hid (HST.out.keep fun v l h => h.ext HWr.out)
      replace HML := Lib.hid (lnsC_cells HML.out fun b q u hb hr hc => by
        have hbg : b ≠ G := by
          obtain ⟨b9, o9, e9, _⟩ := HML.out.1.opened hr
          have hq9 : (Value.slice ma ml.length mc).ownBlock = some b9 := by rw [e9]; rfl
          rw [hb b9 hq9]
          exact not_in HML.out hr gs b9 hq9
        rw [zk b q hbg]; exact hc)
      have hBl : B < W0.heap.size := Nat.lt_of_lt_of_le hB0 HWr.out.size
      have hXB : X ≠ B := by omega
      have hGB : G ≠ B := by omega
      have g0 := h0
      have g1 := h1
      have g2 := h2
      clear hW0 zk zf zz ze h0 h1 h2
      refine region_start (S := (fun w' => w'.cell? ⟨X, 0, none⟩ = some (.int .i64 x.y) ∧ w'.cell? ⟨X, 1, none⟩ = some (.int .i64 x.i) ∧ w'.cell? ⟨X, 2, none⟩ = some (.slice xa x.l.length xc) ∧ w'.cell? ⟨G, 0, none⟩ = some (.int .i64 x.y) ∧ w'.cell? ⟨G, 1, none⟩ = some (.int .i64 x.i) ∧ w'.cell? ⟨G, 2, none⟩ = some (.slice ma ml.length mc))) (n := 5) (l := #[false, false, false, false, false]) (by kernel_rfl) ⟨x0, x1, x2, g0, g1, g2⟩ (by kernel_rfl) (by kernel_rfl) (fun hHeld => ?_)
      refine take_d (i := 0) (d := 62) (v := ?_) rfl rfl (by kernel_rfl) (by kernel_rfl) (by kernel_rfl) (fun _ _ _ h => h) (Or.inl ⟨by rfl, ?_⟩) (by assumption) ?_
      rotate_left
      · (intro w hSw; (try dsimp only at hSw); go_simp; (try with_reducible rfl))
      (try simp only [Act.put, List.setIfInBounds_toArray, List.set_cons_zero, List.set_cons_succ])
      refine take_d (i := 1) (d := 63) (v := ?_) rfl rfl (by kernel_rfl) (by kernel_rfl) (by kernel_rfl) (fun _ _ _ h => h) (Or.inl ⟨by rfl, ?_⟩) (by assumption) ?_
      rotate_left
      · (intro w hSw; (try dsimp only at hSw); go_simp; (try with_reducible rfl))
      (try simp only [Act.put, List.setIfInBounds_toArray, List.set_cons_zero, List.set_cons_succ])
      refine take_d (i := 3) (d := 65) (v := ?_) rfl rfl (by kernel_rfl) (by kernel_rfl) (by kernel_rfl) (fun _ _ _ h => h) (Or.inl ⟨by rfl, ?_⟩) (by assumption) ?_
      rotate_left
      · (intro w hSw; (try dsimp only at hSw); go_simp; (try with_reducible rfl))
      (try simp only [Act.put, List.setIfInBounds_toArray, List.set_cons_zero, List.set_cons_succ])
      refine wpAnyH_ready (rs := [2]) (by kernel_rfl) (by simp) ?_
      refine AllReadyH.cons (o := _) rfl (fun K hK => ?_) AllReadyH.nil
      go_simp
      go_at_call 50
      go_fit (period_any x.y x.i xa x.l.length xc _)
      rintro e w21 ⟨rfl, hb21⟩
      have hx21 : Wb.Ext W0 w21 := Wb.Ext.trans (.drew (.refl _)) hb21
      clear hb21
      refine hK.out _ _ ⟨hx21.keep x0, hx21.keep x1, hx21.keep x2, hx21.keep g0, hx21.keep g1, hx21.keep g2⟩ (fun hHeld => ?_)
      clear hK K
      (try simp only [List.setIfInBounds_toArray, List.set_cons_zero, List.set_cons_succ])
      refine wpAnyH_ready (rs := [4]) (by kernel_rfl) (by simp) ?_
      refine AllReadyH.cons (o := _) rfl (fun K hK => ?_) AllReadyH.nil
      have hmp := HMP.out.ext (show Wb.Ext W0 w21 from hx21)
      have hm22 := hmp.update (by unfold maxLen; omega) (p := (x.y, x.i)) HPK.out ⟨x.y, x.i, .slice ma ml.length mc, ml⟩
      obtain ⟨w22, hrun22, hsm22, hg22⟩ := hm22
      have hrun22 : (Instr.mapUpdate 71 (.map (some B)) (.agg #[.int .i64 x.y, .int .i64 x.i]) (.agg #[.int .i64 x.y, .int .i64 x.i, .slice ma ml.length mc])).run Try.prog w21 = .ok () w22 := hrun22
      go_simp
      have HSM := Lib.hid hsm22
      have zx0 := grown_keep hg22 (hx21.keep x0) (by omega)
      have zx1 := grown_keep hg22 (hx21.keep x1) (by omega)
      have zx2 := grown_keep hg22 (hx21.keep x2) (by omega)
      have zg0 := grown_keep hg22 (hx21.keep g0) (by omega)
      have zg1 := grown_keep hg22 (hx21.keep g1) (by omega)
      have zg2 := grown_keep hg22 (hx21.keep g2) (by omega)
      have HXE := Lib.hid (show Wb.Ext w w22 from Wb.Ext.grown (HW0.out.trans hx21) hg22 (fun q hq => by injection hq with hq; omega))
      have HSTN := Lib.hid ((HST0.out.keep fun v l h => lnsC_map (h.ext hx21) hmp hg22).put HX.out (s := ⟨x.y, x.i, .slice ma ml.length mc, ml⟩) rfl (lnsC_map (HML.out.ext hx21) hmp hg22) HMS.out (merge_len HMG.out))
      have hsz : B < w22.heap.size := Nat.lt_of_lt_of_le hBl (Nat.le_trans hx21.size hg22.size)
      clear hsm22 hg22 hrun22 hmp
      refine hK.out _ _ ⟨zx0, zx1, zx2, zg0, zg1, zg2⟩ (fun hHeld => ?_)
      clear hK K
      (try simp only [List.setIfInBounds_toArray, List.set_cons_zero, List.set_cons_succ])
      refine wpAnyH_done (by kernel_rfl) ?_ _
      clear zx0 zx1 zx2 zg0 zg1 zg2
      go_wp2
      go_roundw
      case rel => exact ⟨k + 1, _, _, by omega, by go_num, HSM, HSTN, HTN, hsz, HXE.out⟩
      case measure => first | (simp [intOf]; done) | (simp [intOf]; omega)
end Go.Proofs.Ytdfmlgjemfcmlaa
