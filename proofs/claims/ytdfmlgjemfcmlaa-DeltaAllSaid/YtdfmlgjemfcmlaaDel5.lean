/- The walks of delta.Of's closure, and of slices.IndexFunc, ContainsFunc over lines. -/
import Derived.Test.YtdfmlgjemfcmlaaDel4
import Derived.Test.YtdfmlgjemfcmlaaSlip15
namespace Go.Proofs.Ytdfmlgjemfcmlaa
open Go.RowKit Go.Sort Go.Lib Go.Maps
set_option maxRecDepth 8000
attribute [local go_sem ↓] Go.wp_at_zero Go.wp_at_succ

theorem ofc29_any (x : Wb.Ln) (w : World) :
    Calls Try.prog 34 #[LnV x] w fun e w' => e = .returned (.bool (!Wb.fits x.cents)) ∧ Wb.Ext w w' := by
  obtain ⟨p, hp⟩ : ∃ p, Wb.fits x.cents = p := ⟨_, rfl⟩
  have HP := Lib.hid hp
  clear hp
  cases p <;> (
    go_enter Try.func34, Try.ntmps34
    go_wp2_with fail
    go_fit (fits_any x.cents _); rintro e w' ⟨rfl, rfl⟩
    rw [HP.out]
    go_wp2
    go_ret
    exact ⟨Wb.ret_bool (by rw [HP.out]; rfl), by (repeat' (first | (with_reducible assumption) | (with_reducible exact Wb.Ext.refl _) | (with_reducible refine Wb.Ext.drew ?_) | (with_reducible refine Wb.Ext.drewN ?_ _) | (with_reducible refine Wb.Ext.alloc ?_ _) | (with_reducible refine Wb.Ext.trans ?_ (by assumption))))⟩)
/-- is there a line whose amount does not fit? -/
def unfit (l : List Wb.Ln) : Bool := l.any fun x => !Wb.fits x.cents
theorem unfit_iff (l : List Wb.Ln) : unfit l = true ↔ ∃ x ∈ l, Wb.fits x.cents = false := by simp [unfit]
theorem unfit_no {l : List Wb.Ln} (h : unfit l = false) : ∀ x ∈ l, Wb.fits x.cents = true := fun x hx => by
  rw [Bool.eq_false_iff, ne_eq, unfit_iff] at h
  rcases hf : Wb.fits x.cents with _ | _
  · exact absurd ⟨x, hx, hf⟩ h
  · rfl
set_option maxHeartbeats 1000000 in
theorem indexf_any (v : Value) (l : List Wb.Ln) (w : World) (hv : Lns w v l) (hl : l.length ≤ 1000000) :
    Calls Try.prog 59 #[v, .func (.func 34) #[] #[]] w fun e w' => ∃ i : Int, e = .returned (.int .i64 i) ∧ (decide (0 ≤ i) = unfit l ∧ Wb.Ext w w') := by
  obtain ⟨va, vc, rfl⟩ := hv.shape
  have HV := Lib.hid hv
  clear hv
  go_enter Try.func59, Try.ntmps59
  go_wp2_with fail
  go_loopw [8] (fun iv wr => ∃ k : Nat, k ≤ l.length ∧ iv = .int .i64 k ∧ Hid (∀ t x, l[t]? = some x → t < k → Wb.fits x.cents = true) ∧ Wb.Ext w wr) (fun iv _ => l.length - (intOf iv).toNat)
  case atStart => exact ⟨0, Nat.zero_le _, rfl, Lib.hid (fun t x _ h => absurd h (Nat.not_lt_zero _)), .refl _⟩
  case round =>
    obtain ⟨k, hk, rfl, HLO, hext⟩ := hrel
    by_cases hlt : k < l.length
    · obtain ⟨y, hy⟩ := Wb.get_ex hlt
      obtain ⟨b, off, rfl, hcells⟩ := (HV.out.ext hext).opened (tne hlt)
      obtain ⟨c0, c1, c2⟩ := hcells _ y hy
      have hki : (k : Int) < l.length := by omega
      have HY := Lib.hid hy
      clear hcells hy
      go_wp2_with fail
      go_fit (ofc29_any y _); rintro e w1 ⟨rfl, hb1⟩
      have HX := Lib.hid (hext.trans hb1)
      clear hb1
      obtain ⟨p, hp⟩ : ∃ p, Wb.fits y.cents = p := ⟨_, rfl⟩
      have HP := Lib.hid hp
      rw [hp]
      clear hp
      cases p
      · have HU := Lib.hid (show unfit l = true from (unfit_iff l).2 ⟨y, List.mem_of_getElem? HY.out, HP.out⟩)
        go_wp2
        go_ret
        exact ⟨_, rfl, by rw [HU.out]; simp, HX.out⟩
      · have HLO2 : Hid (∀ t x, l[t]? = some x → t < k + 1 → Wb.fits x.cents = true) := Lib.hid (fun t x ht htk => by
          rcases Nat.lt_or_ge t k with q | q
          · exact HLO.out t x ht q
          · obtain rfl : t = k := by omega
            rw [HY.out] at ht; cases ht; exact HP.out)
        go_wp2
        go_roundw
        case rel => exact ⟨k + 1, by omega, by go_num, HLO2, HX.out⟩
        case measure => simp [intOf]; omega
    · obtain rfl : k = l.length := by omega
      have HU := Lib.hid (show unfit l = false by
        rw [Bool.eq_false_iff, ne_eq, unfit_iff]
        rintro ⟨x, hx, hf⟩
        obtain ⟨t, ht⟩ := List.getElem?_of_mem hx
        have := HLO.out t x ht (List.getElem?_eq_some_iff.1 ht).1
        rw [this] at hf; cases hf)
      go_wp2
      go_ret
      exact ⟨_, rfl, by rw [HU.out]; rfl, hext⟩
theorem containsf_any (v : Value) (l : List Wb.Ln) (w : World) (hv : Lns w v l) (hl : l.length ≤ 1000000) :
    Calls Try.prog 33 #[v, .func (.func 34) #[] #[]] w fun e w' => e = .returned (.bool (unfit l)) ∧ Wb.Ext w w' := by
  have HV := Lib.hid hv
  clear hv
  go_enter Try.func33, Try.ntmps33
  go_wp2_with fail
  go_fit (indexf_any v l w HV.out hl); rintro e w1 ⟨i, rfl, hi, hx⟩
  have HI := Lib.hid hi
  have HX := Lib.hid hx
  clear hi hx
  go_wp2
  go_ret
  exact ⟨Wb.ret_bool HI.out, HX.out⟩

/-! ### a map of amounts, one more -/
theorem mapIs_put {w w' : World} {b n : Nat} {f : Int → List UInt8 → Int} {D : DataW Value} (hD : ∀ p c, KeyOk p c → D.atKey (kSpot p c) (.held (.int .i64 0)) = .held (.int .i64 (f p c))) (hm : IsMap D) {p : Int} {c : List UInt8} (hk : KeyOk p c) {v : Int}
    (ho : w'.ownsMap Try.prog 57 RH b n (D.put (kSpot p c) (.held (.int .i64 v)))) {g : Int → List UInt8 → Int} (hg : ∀ q d, g q d = if p = q ∧ c = d then v else f q d) : MapIs w' b n g := by
  refine ⟨_, ho, fun q d hq => ?_⟩
  rw [hg]
  by_cases e : p = q ∧ c = d
  · obtain ⟨rfl, rfl⟩ := e
    rw [if_pos ⟨rfl, rfl⟩]
    exact Maps.atKey_put_same hm (spot_keyed.key (spot_key hk.1 hk.2)) _ _
  · rw [if_neg e, Maps.atKey_put_other (fun h => e (by obtain ⟨h1, h2⟩ := kSpot_inj hq hk h; exact ⟨h1.symm, h2.symm⟩)), hD q d hq]
theorem mapIs_kept {w w' : World} {b n : Nat} {f : Int → List UInt8 → Int} {row : Option Nat} (h : MapIs w b n f) (hg : w.grownBy w' row) (hne : some b ≠ row) : MapIs w' b n f := by
  obtain ⟨D, h1, h2⟩ := h
  exact ⟨D, h1.kept hg hne, h2⟩
theorem mapIs_isMap {w : World} {b n : Nat} {D : DataW Value} (h : w.ownsMap Try.prog 57 RH b n D) : IsMap D := by
  obtain ⟨es, clock, _, _, _, rfl⟩ := h
  exact ⟨_, rfl⟩
theorem keyOk_line {x : Wb.Ln} (h : Wb.lineErr x = 0) : KeyOk x.part x.code := by
  obtain ⟨h1, h2, h3, _⟩ := Wb.lineErr_ok h
  refine ⟨?_, ?_⟩
  · simp [Lit.wf, IntKind.min, IntKind.max, IntKind.signed, IntKind.bits]; omega
  · have : x.code.length ≤ 32 := by
      simp [Wb.codeOk] at h3
      exact h3.1.2
    unfold maxLen; omega

end Go.Proofs.Ytdfmlgjemfcmlaa
