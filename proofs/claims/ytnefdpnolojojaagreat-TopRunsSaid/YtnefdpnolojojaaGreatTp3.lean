/- TopRuns: handed: what a run is handed. -/
import Derived.Test.YtnefdpnolojojaaGreatTp2
import Derived.Test.YtnefdpnolojojaaGreatMRb
import Derived.Test.YtnefdpnolojojaaGreatMod7
namespace Go.Proofs.YtnefdpnolojojaaGreat
open Go.RowKit Go.Sort Go.Lib Go.Maps
set_option maxRecDepth 8000
attribute [local go_sem ↓] Go.wp_at_zero Go.wp_at_succ

def clZ : Value := .agg #[.int .u8 0, .int .u8 0, .int .u8 0, .int .u8 0, .int .u8 0, .int .i32 0]
theorem infoCl : (Tryz.prog.info? 80).map (fun i => (i.zero, i.size, i.bytes)) = some (some clZ, 6, 12) := by kernel_rfl
theorem slip_sized {l : List Wb.Cl} : Sized (Wb.slipL l) := by
  refine ⟨Nat.le_trans (Wb.linesTo_len _ _) (by decide), fun x hx => ?_⟩
  obtain ⟨k, hk, rfl, -⟩ := Wb.linesTo_mem hx
  simp
/-- the map of what is handed in, behind some persons -/
structure HdAt (w wr : World) (M : Nat) (L : List Wb.Cl) (r p : Nat) : Prop where
  map : ∃ (n : Nat) (f : Int → Option Value), n ≤ p ∧ KMap kU32 wr M n (.slice none 0 0) f ∧ (∀ q, (f q).isSome = true → 1 ≤ q ∧ q ≤ p) ∧
    ∀ q : Int, (q ≤ p → ∃ R : List Wb.Sl, (∀ w2, Kept (fun b => w.heap.size ≤ b ∧ b ≠ M) wr w2 → SlsK w2 ((f q).getD (.slice none 0 0)) R) ∧ R.map Wb.ct = Wb.handX L r q ∧ (Wb.handX L r q ≠ [] → (f q).isSome = true))
  ext : Wb.Ext w wr
  lt : M < wr.heap.size ∧ w.heap.size ≤ M
theorem HdAt.kept {w wr w2 : World} {M : Nat} {L : List Wb.Cl} {r p : Nat} (h : HdAt w wr M L r p) (k : Wb.Ext wr w2) : HdAt w w2 M L r p := by
  obtain ⟨⟨n, f, h1, h2, h3, h4⟩, h5, h6⟩ := h
  exact ⟨⟨n, f, h1, h2.ext k, h3, fun q hq => by
    obtain ⟨R, k1, k2⟩ := h4 q hq
    exact ⟨R, fun w3 h => k1 w3 ((Kept.ext k).trans h), k2⟩⟩, h5.trans k, ⟨Nat.lt_of_lt_of_le h6.1 k.size, h6.2⟩⟩
theorem HdAt.skip {w wr : World} {M : Nat} {L : List Wb.Cl} {r p : Nat} (h : HdAt w wr M L r p) (hs : Wb.someX L p r r = false) : HdAt w wr M L r (p + 1) := by
  obtain ⟨⟨n, f, h1, h2, h3, h4⟩, h5, h6⟩ := h
  refine ⟨⟨n, f, by omega, h2, fun q hq => by have := h3 q hq; omega, fun q hq => ?_⟩, h5, h6⟩
  by_cases e : q ≤ p
  · exact h4 q e
  · have e : q = ((p + 1 : Nat) : Int) := by omega
    have hn : Wb.handX L r q = [] := by
      unfold Wb.handX
      rw [if_neg]
      rintro ⟨-, -, h⟩
      rw [show (q - 1).toNat = p by omega, hs] at h; cases h
    have hf : f q = none := by
      rcases hf : f q with _ | x
      · rfl
      · have := h3 q (by rw [hf]; rfl); omega
    rw [hn, hf]
    exact ⟨[], fun w2 _ => slsK_nil, rfl, fun h => absurd rfl h⟩
theorem HdAt.put {w wr w2 : World} {M : Nat} {L : List Wb.Cl} {r p n : Nat} {f : Int → Option Value} {v : Value} {R : List Wb.Sl} (h5 : Wb.Ext w wr) (h6 : M < wr.heap.size ∧ w.heap.size ≤ M) (h1 : n ≤ p) (h3 : ∀ q, (f q).isSome = true → 1 ≤ q ∧ q ≤ p)
    (h4 : ∀ q : Int, (q ≤ p → ∃ R : List Wb.Sl, (∀ w2, Kept (fun b => w.heap.size ≤ b ∧ b ≠ M) wr w2 → SlsK w2 ((f q).getD (.slice none 0 0)) R) ∧ R.map Wb.ct = Wb.handX L r q ∧ (Wb.handX L r q ≠ [] → (f q).isSome = true)))
    (hm : KMap kU32 w2 M (n + 1) (.slice none 0 0) (fun q => if ((p + 1 : Nat) : Int) = q then some v else f q)) (hg : wr.grownBy w2 (some M)) (hv : ∀ w3, Kept (fun b => w.heap.size ≤ b ∧ b ≠ M) wr w3 → SlsK w3 v R) (hR : R.map Wb.ct = Wb.slipsX L p r r) (hp : p < 3) (hs : Wb.someX L p r r = true) :
    HdAt w w2 M L r (p + 1) := by
  have hk : Kept (fun b => w.heap.size ≤ b ∧ b ≠ M) wr w2 := .grown hg (fun b e _ h => by cases e; exact h.2 rfl)
  refine ⟨⟨n + 1, _, by omega, hm, fun q hq => ?_, fun q hq => ?_⟩, Wb.Ext.grown h5 hg (fun b e => by cases e; exact h6.2), ⟨Nat.lt_of_lt_of_le h6.1 hg.size, h6.2⟩⟩
  · by_cases e : ((p + 1 : Nat) : Int) = q
    · omega
    · simp only [if_neg e] at hq
      have := h3 q hq; omega
  · by_cases e : ((p + 1 : Nat) : Int) = q
    · subst e
      simp only [if_true]
      have hx : Wb.handX L r ((p + 1 : Nat) : Int) = Wb.slipsX L p r r := by
        unfold Wb.handX
        have e2 : (((p + 1 : Nat) : Int) - 1).toNat = p := by omega
        rw [e2, if_pos ⟨by omega, by omega, hs⟩]
      exact ⟨R, fun w3 h => hv w3 (hk.trans h), by rw [hx]; exact hR, fun _ => rfl⟩
    · simp only [if_neg e]
      obtain ⟨R, k1, k2⟩ := h4 q (by omega)
      exact ⟨R, fun w3 h => k1 w3 (hk.trans h), k2⟩
/-- the slips of a person, behind some periods -/
structure SpAt (w wr : World) (M n0 : Nat) (v : Value) (L : List Wb.Cl) (p r i : Nat) (R : List Wb.Sl) : Prop where
  row : SlR n0 wr v R
  cts : R.map Wb.ct = Wb.slipsX L p r i
  far : ∀ s ∈ R, ∀ q, s.v.ownBlock = some q → w.heap.size ≤ q ∧ q ≠ M
theorem SpAt.ext {w wr w2 : World} {M n0 : Nat} {v : Value} {L : List Wb.Cl} {p r i : Nat} {R : List Wb.Sl} (h : SpAt w wr M n0 v L p r i R) (k : Wb.Ext wr w2) : SpAt w w2 M n0 v L p r i R := ⟨h.row.ext k, h.cts, h.far⟩
set_option maxHeartbeats 8000000 in
theorem handed_any (v : Value) (L : List Wb.Cl) (r : Nat) (w : World) (h : ClsM w v L) (hl : L.length ≤ 60) (hr : r ≤ 6) :
    Calls Tryz.prog 11 #[v, .int .i64 r] w fun e w' => ∃ M, e = .returned (.map (some M)) ∧ HdAt w w' M L r 3 := by
  obtain ⟨va, vc, rfl⟩ := h.tab.shape
  have HL := Lib.hid h
  have HIN := Lib.hid (info_parts infoCl)
  have HIS := Lib.hid (info_parts infoSlip)
  clear h
  have hmm := @run_makeMap Tryz.prog
  go_enter Tryz.func11, Tryz.ntmps11
  go_upto_region 2 with (fail)
  refine Wb.wp_at fun W0 hW0 => ?_
  obtain ⟨M, hM⟩ : ∃ M, w.heap.size = M := ⟨_, rfl⟩
  have HX0 := Lib.hid (show Wb.Ext w W0 by rw [hW0]; (repeat' (first | (with_reducible assumption) | (with_reducible exact Wb.Ext.refl _) | (with_reducible refine Wb.Ext.drew ?_) | (with_reducible refine Wb.Ext.drewN ?_ _) | (with_reducible refine Wb.Ext.alloc ?_ _) | (with_reducible refine Wb.Ext.trans ?_ (by assumption)))))
  have HM0 : Hid (HdAt w W0 M L r 0) := Lib.hid ⟨⟨0, fun _ => none, Nat.le_refl _, by rw [hW0]; exact kmap_made kU32 w (.slice none 0 0) M hM.symm, (fun q hq => by cases hq), fun q hq => by
    have e : Wb.handX L r q = [] := by unfold Wb.handX; rw [if_neg (by omega)]
    rw [e]
    exact ⟨[], fun w2 _ => slsK_nil, rfl, fun h => absurd rfl h⟩⟩, HX0.out, ⟨by rw [hW0, ← hM]; simp, by omega⟩⟩
  rw [hM]
  have hMw : w.heap.size ≤ M := by omega
  clear hW0 hM hmm
  go_wp2_with fail
  go_loopw [14] (fun pv wr => ∃ p : Nat, p ≤ 3 ∧ pv = .int .u32 p ∧ Hid (HdAt w wr M L r p)) (fun pv _ => 3 - (intOf pv).toNat)
  case atStart => exact ⟨0, by omega, rfl, HM0⟩
  case round =>
    clear HM0
    obtain ⟨p, hp, rfl, HP⟩ := hrel
    obtain ⟨wP, hwz⟩ : ∃ z, z = wr := ⟨_, rfl⟩
    subst hwz
    by_cases hlp : p < 3
    case neg =>
      obtain rfl : p = 3 := by omega
      have d1 : decide ((3 : Int) < 3) = false := by decide
      clear hlp hp
      go_wp2
      exact bodyPost_ret (v := .map (some M)) (by simp [results, Tryz.results11, go_sem]) rfl ⟨M, rfl, HP.out⟩
    have hpi : (p : Int) < 3 := by omega
    have d1 : decide ((p : Int) < 3) = true := by simp; omega
    obtain ⟨n0, hn0⟩ : ∃ n0, wP.heap.size = n0 := ⟨_, rfl⟩
    have HN0 := Lib.hid hn0
    have hMn : M < n0 := by have := HP.out.lt; omega
    clear hn0 hp
    have hrow0 : Hid (SpAt w wP M n0 (.slice none 0 0) L p r 0 []) := Lib.hid ⟨SlR.nil, rfl, fun s hs => by cases hs⟩
    go_upto_region 8 with (fail)
    go_wp2_with fail
    go_loopw [9, 7, 8] (fun iv sv bv wr => ∃ (t : Nat) (oa : Option Addr) (oc : Nat) (R : List Wb.Sl) (g : Bool), 1 ≤ t ∧ t ≤ r + 1 ∧ iv = .int .i64 t ∧ sv = .slice oa R.length oc ∧ bv = .bool g ∧ R.length + 1 = t ∧ Hid (g = Wb.someX L p r (t - 1)) ∧ Hid (SpAt w wr M n0 (.slice oa R.length oc) L p r (t - 1) R) ∧ Hid (Wb.Ext wP wr)) (fun iv _ _ _ => r + 1 - (intOf iv).toNat)
    case atStart => exact ⟨1, none, 0, [], false, by omega, by omega, rfl, rfl, rfl, rfl, Lib.hid rfl, hrow0, Lib.hid (.refl _)⟩
    case round =>
      clear hrow0
      obtain ⟨t, oa, oc, R, g, ht1, ht2, rfl, rfl, rfl, hRl, HG, HR, HX⟩ := hrel
      obtain ⟨wO, hwz⟩ : ∃ z, z = wr := ⟨_, rfl⟩
      subst hwz
      have HRL := Lib.hid hRl
      have hRb : R.length ≤ 10 := by omega
      clear hRl
      by_cases hlt : t ≤ r
      case neg =>
        have htr : t - 1 = r := by omega
        rw [htr] at HG HR
        have HPO := Lib.hid (HP.out.kept HX.out)
        have d2 : decide ((t : Int) ≤ (r : Int)) = false := by simp; omega
        have d2n : ¬ (t : Int) ≤ (r : Int) := by omega
        clear hlt htr ht1 ht2 HX HRL
        cases g
        case false =>
          have HN := Lib.hid (HPO.out.skip HG.out.symm)
          have hw3 : IntKind.u32.wrap ((p : Int) + 1) = (p : Int) + 1 := by rw [IntKind.wrap_u32]; omega
          go_wp2
          go_roundw
          case rel => exact ⟨p + 1, by omega, by go_num, HN⟩
          case measure => first | (simp [intOf]; done) | (simp [intOf]; omega)
        case true =>
          obtain ⟨⟨n, f, h1, h2, h3, h4⟩, h5, h6⟩ := HPO.out
          have hpo : kU32.ok ((p + 1 : Nat) : Int) := u32_ok (by omega)
          obtain ⟨w2, hrun, hm2, hg2⟩ := h2.update Tryz.underlying24 (by unfold maxLen; omega) hpo (.slice oa R.length oc)
          have hw3 : IntKind.u32.wrap ((p : Int) + 1) = (p : Int) + 1 := by rw [IntKind.wrap_u32]; omega
          replace hrun : (Instr.mapUpdate 24 (.map (some M)) (.int .u32 ((p : Int) + 1)) (.slice oa R.length oc)).run Tryz.prog wO = .ok () w2 := hrun
          have hrl := HR.out.row.1.lt
          have HN := Lib.hid (HdAt.put (R := R) h5 h6 h1 h3 h4 hm2 hg2 (fun w3 k => ⟨k.sls HR.out.row.sls (fun q hq => by have := (hrl q hq).1; have := HPO.out.lt; omega) (fun s hs _ q hq => HR.out.far s hs q hq), by omega, fun s hs => by
            have hc : Wb.ct s ∈ Wb.slipsX L p r r := by rw [← HR.out.cts]; exact List.mem_map_of_mem hs
            obtain ⟨i, -, -, e⟩ := Wb.slipsX_mem hc
            have e2 : s.l = Wb.slipL (Wb.rowsX L p r i) := congrArg (fun c => c.2.2) e
            rw [e2]
            exact Nat.le_trans (Wb.linesTo_len _ _) (by decide)⟩) HR.out.cts hlp HG.out.symm)
          clear h1 h2 h3 h4 h5 h6 hm2 hg2 hrl hpo HPO
          go_wp2
          go_roundw
          case rel => exact ⟨p + 1, by omega, by go_num, HN⟩
          case measure => first | (simp [intOf]; done) | (simp [intOf]; omega)
      have d2 : decide ((t : Int) ≤ (r : Int)) = true := by simp; omega
      have d2n : (t : Int) ≤ (r : Int) := by omega
      obtain ⟨n1, hn1⟩ : ∃ n1, wO.heap.size = n1 := ⟨_, rfl⟩
      have HN1 := Lib.hid hn1
      clear hn1
      go_upto_region 12 with (fail)
      go_loopw [24, 10] (fun kv qv wr => ∃ (k : Nat) (qa : Option Addr) (qc : Nat) (Q : List Wb.Cl), k ≤ L.length ∧ kv = .int .i64 k ∧ qv = .slice qa Q.length qc ∧ Hid (Q = Wb.rowsX (L.take k) p r t) ∧ Hid (wr.ownsRow n1 80 6 (.slice qa Q.length qc) Q.length (rowsOf clc Q)) ∧ Hid (Wb.Ext wO wr)) (fun kv _ _ => L.length - (intOf kv).toNat)
      case atStart => exact ⟨0, none, 0, [], Nat.zero_le _, rfl, rfl, Lib.hid rfl, Lib.hid own_none, Lib.hid (.refl _)⟩
      case round =>
        obtain ⟨k, qa, qc, Q, hk, rfl, rfl, HQ, HO, HXQ⟩ := hrel
        obtain ⟨wB, hwz⟩ : ∃ z, z = wr := ⟨_, rfl⟩
        subst hwz
        by_cases hlk : k < L.length
        case neg =>
          obtain rfl : k = L.length := by omega
          have HQF := Lib.hid (show Q = Wb.rowsX L p r t by have := HQ.out; rwa [List.take_length] at this)
          have d4 : decide ((L.length : Int) < (L.length : Int)) = false := by simp
          have n4 : ¬ (L.length : Int) < (L.length : Int) := by omega
          have HCM : Hid (ClsM wB (.slice qa Q.length qc) Q) := Lib.hid ⟨row_tbl clc_len (by decide) HO.out, fun x hx => HL.out.byte x (by rw [HQF.out] at hx; exact (List.mem_filter.1 hx).1), by rw [HQF.out]; exact Wb.rowsX_small HL.out.small _ _ _⟩
          have hQl : Q.length ≤ 60 := by rw [HQF.out]; exact Nat.le_trans (Wb.rowsX_len _ _ _ _) hl
          obtain ⟨g', hg'⟩ : ∃ g', (g || decide (0 < Q.length)) = g' := ⟨_, rfl⟩
          have HG' := Lib.hid (show g' = Wb.someX L p r t by
            obtain ⟨j, rfl⟩ : ∃ j, t = j + 1 := ⟨t - 1, by omega⟩
            rw [Wb.someX_succ, ← hg', HQF.out]
            have := HG.out
            rw [show j + 1 - 1 = j by omega] at this
            rw [← this])
          have HGG := Lib.hid hg'
          clear hlk hk hg' HQ HO
          go_upto_region 17 with (fail)
          go_cut [8] (fun bv wx => bv = .bool g' ∧ wB = wx)
          case first =>
            cases g
            case true =>
              have e := HGG.out
              simp at e
              subst e
              go_wp2_with fail
              go_meet
              exact ⟨rfl, rfl⟩
            case false =>
              have e := HGG.out
              simp only [Bool.false_or] at e
              by_cases h0 : 0 < Q.length
              · have e1 : decide ((0 : Int) < (Q.length : Int)) = true := decide_eq_true (by omega)
                have e1n : decide (0 < Q.length) = true := decide_eq_true h0
                rw [e1n] at e
                subst e
                clear h0
                go_wp2_with fail
                go_meet
                exact ⟨rfl, rfl⟩
              · have e1 : decide ((0 : Int) < (Q.length : Int)) = false := decide_eq_false (by omega)
                have e1n : decide (0 < Q.length) = false := decide_eq_false h0
                have e1m : ¬ (0 : Int) < (Q.length : Int) := by omega
                rw [e1n] at e
                subst e
                clear h0
                go_wp2_with fail
                go_meet
                exact ⟨rfl, rfl⟩
          case rest =>
          obtain ⟨rfl, rfl⟩ := hcut
          go_wp2_with fail
          go_fit (slipof_any 2026 t _ Q _ HCM.out hQl); rintro e w5 ⟨u, rfl, hu1, hu2, hx5⟩
          obtain ⟨sa, sn, sc, hsv⟩ : ∃ a n c, u = .slice a n c := by
            obtain ⟨a, c, e⟩ := hu1.1.shape
            exact ⟨a, _, c, e⟩
          subst hsv
          have HU := Lib.hid hu1
          have HU2 := Lib.hid hu2
          have HX5 := Lib.hid (HXQ.out.trans hx5)
          have hs5 := hx5.size
          have hsO := HXQ.out.size
          have HR5 := Lib.hid (HR.out.ext HX5.out)
          clear hu1 hu2 hx5 d4 n4
          obtain ⟨hi, hz0, hz1, hz2⟩ := HIS.out.choose_spec
          go_wp2_with (at_builtin; go_loud (refine wpList_append_row2 rfl (.tmp 63) (.tmp 67) 39 rfl n0 38 _ slZ 3 40 Tryz.underlying39 hi hz0 hz1 hz2 rfl (by decide) _ _ _ rfl (HR5.out.row.ext (Wb.Ext.alloc (.refl _) _)).1 _ rfl 1 (slc (⟨2026, t, .slice sa sn sc, Wb.slipL Q⟩ : Wb.Sl)) ?c1 ?c2 ?c3 ?c4 ?c5 ?_))
          case c1 => exact src_lit _ _ (by first | rfl | simp) (slc (⟨2026, t, .slice sa sn sc, Wb.slipL Q⟩ : Wb.Sl)) _ _
          case c2 => intro u hu; simp [slc] at hu; rcases hu with rfl | rfl | rfl <;> rfl
          case c3 => unfold maxLen; omega
          case c4 => omega
          case c5 => have := HX.out.size; have := HN0.out; first | omega | (simp; omega)
          intro u2 w6 hown2 hg2 hblk
          have hrb : ∀ q9, (Value.slice oa R.length oc).ownBlock = some q9 → n0 ≤ q9 ∧ q9 < wO.heap.size := fun q9 hq9 => HR.out.row.1.lt q9 hq9
          have HX6 := Lib.hid (show Wb.Ext wP w6 from Wb.Ext.grown (Wb.Ext.alloc (HX.out.trans HX5.out) _) hg2 (fun q9 hq9 => by have := (hrb q9 hq9).1; have := HN0.out; omega))
          have HR6 := Lib.hid (SlR.append (s := ⟨2026, t, .slice sa sn sc, Wb.slipL Q⟩) (HR5.out.row.ext (Wb.Ext.alloc (.refl _) _)) hown2 hg2 (by have := hblk; simp at this ⊢; exact this) (HU.out.ext (Wb.Ext.alloc (.refl _) _)) slip_sized (fun _ q hq e => by have h1 := HU2.out q hq; have h2 := (hrb q e).2; omega))
          obtain ⟨ua, uc, rfl⟩ := row_shape hown2
          have HSP : Hid (SpAt w w6 M n0 (.slice ua (R ++ [(⟨2026, t, .slice sa sn sc, Wb.slipL Q⟩ : Wb.Sl)]).length uc) L p r t (R ++ [⟨2026, t, .slice sa sn sc, Wb.slipL Q⟩])) := Lib.hid ⟨by rw [List.length_append]; exact HR6.out, by
            obtain ⟨j, rfl⟩ : ∃ j, t = j + 1 := ⟨t - 1, by omega⟩
            have h9 := HR.out.cts
            rw [show j + 1 - 1 = j by omega] at h9
            rw [Wb.slipsX_succ, List.map_append, h9, HQF.out]; rfl, fun s hs q hq => by
            rcases List.mem_append.1 hs with hs | hs
            · exact HR.out.far s hs q hq
            · obtain rfl := List.mem_singleton.1 hs
              have h1 := HU2.out q hq
              have h2 := HX.out.size
              have h3 := HP.out.ext.size
              have h4 := HN0.out
              exact ⟨by omega, by omega⟩⟩
          have hle : R.length + 1 = (R ++ [(⟨2026, t, .slice sa sn sc, Wb.slipL Q⟩ : Wb.Sl)]).length := by simp
          have HGN := Lib.hid (show g' = Wb.someX L p r (t + 1 - 1) by rw [Nat.add_sub_cancel]; exact HG'.out)
          have HRLN : R.length + 1 = t := HRL.out
          clear hi hz0 hz1 hz2 hg2 hown2 hblk hrb HRL
          go_wp2
          go_roundw
          case rel => exact ⟨t + 1, ua, uc, R ++ [⟨2026, t, .slice sa sn sc, Wb.slipL Q⟩], g', by omega, by omega, by go_num, by rw [← hle], rfl, by rw [← hle, HRLN], HGN, by rw [Nat.add_sub_cancel]; exact HSP, HX6⟩
          case measure => first | (simp [intOf]; done) | (simp [intOf]; omega)
        obtain ⟨x, hx⟩ := Wb.get_ex hlk
        have hmem := List.mem_of_getElem? hx
        have hby := HL.out.byte x hmem
        have hxw : Wb.Ext w wB := HP.out.ext.trans (HX.out.trans HXQ.out)
        obtain ⟨b, off, hb9, hc9⟩ := HL.out.tab.opened (by rintro rfl; simp at hx)
        obtain rfl : va = some ⟨b, off, none⟩ := hb9
        have l0 := hxw.keep (hc9 k x hx 0 _ rfl)
        have l1 := hxw.keep (hc9 k x hx 1 _ rfl)
        have l2 := hxw.keep (hc9 k x hx 2 _ rfl)
        have l3 := hxw.keep (hc9 k x hx 3 _ rfl)
        have l4 := hxw.keep (hc9 k x hx 4 _ rfl)
        have l5 := hxw.keep (hc9 k x hx 5 _ rfl)
        rw [Nat.add_zero] at l0
        have hki : (k : Int) < L.length := by omega
        have d3 : decide ((k : Int) < (L.length : Int)) = true := by simp; omega
        have HTK := Lib.hid (show Wb.rowsX (L.take (k + 1)) p r t = Wb.rowsX (L.take k) p r t ++ (if Wb.mine p r t x = true then [x] else []) by
          unfold Wb.rowsX
          rw [take_snoc hx, List.filter_append]
          by_cases e : Wb.mine p r t x = true <;> simp [e])
        clear hc9 hx hmem hlk hxw
        go_upto_region 14 with (fail)
        refine Wb.wp_at fun W4 hW4 => ?_
        obtain ⟨Y, hY⟩ : ∃ Y, wB.heap.size = Y := ⟨_, rfl⟩
        have y0 : W4.cell? ⟨Y, 0, none⟩ = some (.int .u8 x.per) := by rw [hW4, ← hY]; simp [go_sem]
        have y1 : W4.cell? ⟨Y, 1, none⟩ = some (.int .u8 x.run) := by rw [hW4, ← hY]; simp [go_sem]
        have y2 : W4.cell? ⟨Y, 2, none⟩ = some (.int .u8 x.prd) := by rw [hW4, ← hY]; simp [go_sem]
        have y3 : W4.cell? ⟨Y, 3, none⟩ = some (.int .u8 x.part) := by rw [hW4, ← hY]; simp [go_sem]
        have y4 : W4.cell? ⟨Y, 4, none⟩ = some (.int .u8 x.code) := by rw [hW4, ← hY]; simp [go_sem]
        have y5 : W4.cell? ⟨Y, 5, none⟩ = some (.int .i32 x.cents) := by rw [hW4, ← hY]; simp [go_sem]
        have hx4 : Wb.Ext wB W4 := by rw [hW4]; (repeat' (first | (with_reducible assumption) | (with_reducible exact Wb.Ext.refl _) | (with_reducible refine Wb.Ext.drew ?_) | (with_reducible refine Wb.Ext.drewN ?_ _) | (with_reducible refine Wb.Ext.alloc ?_ _) | (with_reducible refine Wb.Ext.trans ?_ (by assumption))))
        have HO4 := Lib.hid (Wb.row_ext HO.out hx4)
        have HX4 := Lib.hid (HXQ.out.trans hx4)
        rw [hY]
        clear hW4 hY hx4 l0 l1 l2 l3 l4 l5 HO HXQ
        obtain ⟨A3, hA3⟩ : ∃ A3, x.per % 3 = A3 := ⟨_, rfl⟩
        obtain ⟨B6, hB6⟩ : ∃ B6, x.prd % 6 = B6 := ⟨_, rfl⟩
        obtain ⟨C6, hC6⟩ : ∃ C6, x.run % 6 = C6 := ⟨_, rfl⟩
        have iA : (x.per : Int) % 3 = (A3 : Int) := by omega
        have iB : (x.prd : Int) % 6 = (B6 : Int) := by omega
        have iC : (x.run : Int) % 6 = (C6 : Int) := by omega
        have wA : IntKind.u32.wrap (A3 : Int) = (A3 : Int) := by rw [IntKind.wrap_u32]; omega
        have hB9 : B6 < 6 := by omega
        have hC9 : C6 < 6 := by omega
        have HM := Lib.hid (show Wb.mine p r t x = decide (A3 = p ∧ B6 + 1 = t ∧ C6 + 1 ≤ r) by unfold Wb.mine; rw [hA3, hB6, hC6])
        clear hA3 hB6 hC6
        have HSK := Lib.hid (show ¬ (A3 = p ∧ B6 + 1 = t ∧ C6 + 1 ≤ r) → Hid (Q = Wb.rowsX (L.take (k + 1)) p r t) from fun h => Lib.hid (by
          rw [HTK.out, HM.out, if_neg (by simpa using h)]
          rw [HQ.out]; simp))
        have e8 : A3 < 3 := by omega
        by_cases hA : A3 = p
        case neg =>
          have HN := HSK.out (fun h => hA h.1)
          have e1 : ((A3 : Int) == (p : Int)) = false := beq_eq_false_iff_ne.2 (by omega)
          have e1n : (A3 == p) = false := by simpa using hA
          clear hA
          go_wp2
          go_roundw
          case rel => exact ⟨k + 1, qa, qc, Q, by omega, by go_num, rfl, HN, HO4, HX4⟩
          case measure => first | (simp [intOf]; done) | (simp [intOf]; omega)
        have e1 : ((A3 : Int) == (p : Int)) = true := beq_iff_eq.2 (by omega)
        have e1n : (A3 == p) = true := by simpa using hA
        by_cases hB : B6 + 1 = t
        case neg =>
          have HN := HSK.out (fun h => hB h.2.1)
          have hBi : ¬ ((B6 : Int) + 1 = (t : Int)) := by omega
          have e2 : (((B6 : Int) + 1) == (t : Int)) = false := beq_eq_false_iff_ne.2 hBi
          clear hA hB
          go_wp2
          go_roundw
          case rel => exact ⟨k + 1, qa, qc, Q, by omega, by go_num, rfl, HN, HO4, HX4⟩
          case measure => first | (simp [intOf]; done) | (simp [intOf]; omega)
        have hBi : (B6 : Int) + 1 = (t : Int) := by omega
        have e2 : (((B6 : Int) + 1) == (t : Int)) = true := beq_iff_eq.2 hBi
        by_cases hC : C6 + 1 ≤ r
        case neg =>
          have HN := HSK.out (fun h => hC h.2.2)
          have hCi : ¬ ((C6 : Int) + 1 ≤ (r : Int)) := by omega
          have e3 : decide ((C6 : Int) + 1 ≤ (r : Int)) = false := decide_eq_false hCi
          clear hA hB hC hBi
          go_wp2
          go_roundw
          case rel => exact ⟨k + 1, qa, qc, Q, by omega, by go_num, rfl, HN, HO4, HX4⟩
          case measure => first | (simp [intOf]; done) | (simp [intOf]; omega)
        have hCi : (C6 : Int) + 1 ≤ (r : Int) := by omega
        have e3 : decide ((C6 : Int) + 1 ≤ (r : Int)) = true := decide_eq_true hCi
        have HQN := Lib.hid (show Q ++ [x] = Wb.rowsX (L.take (k + 1)) p r t by rw [HTK.out, HM.out, if_pos (by simpa using ⟨hA, hB, hC⟩), HQ.out])
        have hQl : Q.length ≤ 60 := by rw [HQ.out]; exact Nat.le_trans (Wb.rowsX_len _ _ _ _) (by rw [List.length_take]; omega)
        clear hA hB hC hBi HSK
        obtain ⟨hi, hz0, hz1, hz2⟩ := HIN.out.choose_spec
        go_upto_region 15 with (fail)
        go_wp2_with (at_builtin; go_loud (refine Wb.wpList_append_row rfl (.tmp 52) (.tmp 54) 22 rfl n1 80 _ clZ 6 12 Tryz.underlying22 hi hz0 hz1 hz2 rfl (by decide) _ _ _ rfl (Wb.row_ext HO4.out ((Wb.Ext.refl _).alloc _)) _ rfl 1 (clc x) ?c1 ?c2 ?c3 ?c4 ?c5 ?_))
        case c1 => exact src_lit _ _ (by simp) (clc x) _ _
        case c2 => intro u hu; simp [clc] at hu; rcases hu with rfl | rfl | rfl | rfl | rfl | rfl <;> rfl
        case c3 => unfold maxLen; omega
        case c4 => omega
        case c5 => have := HX4.out.size; have := HN1.out; simp; omega
        intro u2 w6 hown2 hg2 hnil2
        obtain ⟨ua2, uc2, rfl⟩ := row_shape hown2
        have HN : Hid (w6.ownsRow n1 80 6 (.slice ua2 (Q ++ [x]).length uc2) (Q ++ [x]).length (rowsOf clc (Q ++ [x]))) := Lib.hid (by
          rw [rowsOf_app, rowsOf_one, List.length_append]; exact hown2)
        have hl9 := HO4.out.lt
        have HX6 := Lib.hid (show Wb.Ext wO w6 from (HX4.out.trans ((Wb.Ext.refl _).alloc _)).grown hg2 (fun q e => by have := (hl9 q e).1; have := HN1.out; omega))
        have hle : Q.length + 1 = (Q ++ [x]).length := by simp
        clear hi hz0 hz1 hz2 hg2 hown2 hnil2 hl9 y0 y1 y2 y3 y4 y5
        go_wp2
        go_roundw
        case rel => exact ⟨k + 1, ua2, uc2, Q ++ [x], by omega, by go_num, by rw [← hle], HQN, HN, HX6⟩
        case measure => first | (simp [intOf]; done) | (simp [intOf]; omega)
end Go.Proofs.YtnefdpnolojojaaGreat
