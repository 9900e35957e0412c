/- Maps of package delta: slips by their periods. -/
import Derived.Test.YtdfmlgjemfcmlaaMap2
import Derived.Test.YtdfmlgjemfcmlaaPlain29f
import Derived.Test.YtdfmlgjemfcmlaaDel7
namespace Go.Proofs.Ytdfmlgjemfcmlaa
open Go.RowKit Go.Maps

/-- may a period be a key? -/
def PrOk (p : Int × Int) : Prop := (Lit.int .i64 p.1).wf = true ∧ (Lit.int .i64 p.2).wf = true
theorem prOk_of {p : Int × Int} (h1 : -9223372036854775808 ≤ p.1 ∧ p.1 ≤ 9223372036854775807) (h2 : -9223372036854775808 ≤ p.2 ∧ p.2 ≤ 9223372036854775807) : PrOk p := by
  constructor <;> (simp [Lit.wf, IntKind.min, IntKind.max, IntKind.signed, IntKind.bits]; omega)
theorem prOk_bd {p : Int × Int} (h : PrOk p) : (-9223372036854775808 ≤ p.1 ∧ p.1 ≤ 9223372036854775807) ∧ (-9223372036854775808 ≤ p.2 ∧ p.2 ≤ 9223372036854775807) := by
  obtain ⟨h1, h2⟩ := h
  simp [Lit.wf, IntKind.min, IntKind.max, IntKind.signed, IntKind.bits] at h1 h2
  omega
theorem kPair_inj {p q : Int × Int} (h : PrOk p) (h' : PrOk q) (e : kPair p.1 p.2 = kPair q.1 q.2) : p = q := by
  have := pair_keyed.inj (pair_key h.1 h.2) (e ▸ pair_key h'.1 h'.2)
  simp only [Value.agg.injEq] at this
  have h1 := congrArg (fun a => a[0]?) this
  have h2 := congrArg (fun a => a[1]?) this
  simp at h1 h2
  exact Prod.ext h1 h2
theorem pair_law : WideMaps.KeyLaw Try.prog 76 := deep_law_laid laidOutM (m := 2) (by decide) (of_decide_eq_true (by kernel_rfl)) (by kernel_rfl) (by kernel_rfl)
abbrev slZ : Value := .agg #[.int .i64 0, .int .i64 0, .slice none 0 0]
abbrev slV (s : Wb.Sl) : Value := .agg #[.int .i64 s.y, .int .i64 s.i, s.v]
def slO : Option Wb.Sl → Value
  | none => slZ
  | some s => slV s
theorem zeroSlip (u : World) : (zeroValue 24).run Try.prog u = .ok slZ u := by kernel_rfl
/-- a map of slips: what it has at each period -/
def SMapIs (w : World) (b n : Nat) (f : Int × Int → Option Wb.Sl) : Prop := ∃ D, w.ownsMap Try.prog 76 RH b n D ∧ ∀ p, PrOk p → D.atKey (kPair p.1 p.2) (.held slZ) = .held (slO (f p)) ∧ Maps.has D (kPair p.1 p.2) = (f p).isSome
theorem SMapIs.lt {w : World} {b n : Nat} {f : Int × Int → Option Wb.Sl} (h : SMapIs w b n f) : b < w.heap.size := by
  obtain ⟨D, h1, _⟩ := h; exact h1.lt
theorem SMapIs.kept {w w' : World} {b n : Nat} {f : Int × Int → Option Wb.Sl} {row : Option Nat} (h : SMapIs w b n f) (hg : w.grownBy w' row) (hne : some b ≠ row) : SMapIs w' b n f := by
  obtain ⟨D, h1, h2⟩ := h
  exact ⟨D, h1.kept hg hne, h2⟩
theorem ext_grown {w w' : World} (h : Wb.Ext w w') : w.grownBy w' none := ⟨h.os, h.tape, h.output, h.size, fun k hk _ => h.block k hk⟩
theorem SMapIs.ext {w w' : World} {b n : Nat} {f : Int × Int → Option Wb.Sl} (h : SMapIs w b n f) (k : Wb.Ext w w') : SMapIs w' b n f := h.kept (ext_grown k) (by simp)
theorem SMapIs.mono {w : World} {b n m : Nat} {f : Int × Int → Option Wb.Sl} (h : SMapIs w b n f) (k : n ≤ m) : SMapIs w b m f := by
  obtain ⟨D, h1, h2⟩ := h
  exact ⟨D, h1.mono k, h2⟩
theorem smap_made (w : World) (b : Nat) (hb : b = w.heap.size) : SMapIs (w.alloc (.map #[] 0)) b 0 (fun _ => none) := by
  subst hb
  exact ⟨_, World.ownsMap_made w _ _ _, fun p hp => ⟨rfl, rfl⟩⟩
/-- 'm[p] = s' -/
theorem SMapIs.update {w : World} {b n : Nat} {f : Int × Int → Option Wb.Sl} (h : SMapIs w b n f) (hn : n < maxLen) {p : Int × Int} (hp : PrOk p) (s : Wb.Sl) :
    ∃ w', (Instr.mapUpdate 71 (.map (some b)) (.agg #[.int .i64 p.1, .int .i64 p.2]) (slV s)).run Try.prog w = .ok () w' ∧ SMapIs w' b (n + 1) (fun q => if p = q then some s else f q) ∧ w.grownBy w' (some b) := by
  obtain ⟨D, h1, h2⟩ := h
  have hm : IsMap D := by obtain ⟨es, clock, _, _, _, rfl⟩ := h1; exact ⟨_, rfl⟩
  obtain ⟨w', hrun, hown, hg⟩ := h1.update pair_keyed Try.underlying71 hn (pair_key hp.1 hp.2) (rfl : RH (slV s) = some (.held (slV s), []))
  refine ⟨w', hrun, ⟨_, hown, fun q hq => ?_⟩, hg⟩
  by_cases e : p = q
  · subst e
    have he : (if p = p then some s else f p) = some s := if_pos rfl
    show _ = DataW.held (slO (if p = p then some s else f p)) ∧ _ = (if p = p then some s else f p).isSome
    rw [he]
    exact ⟨Maps.atKey_put_same hm (pair_keyed.key (pair_key hp.1 hp.2)) _ _, Maps.has_put_same hm (pair_keyed.key (pair_key hp.1 hp.2)) _⟩
  · have hne : kPair q.1 q.2 ≠ kPair p.1 p.2 := fun h => e (kPair_inj hq hp h).symm
    have he : (if p = q then some s else f q) = f q := if_neg e
    show _ = DataW.held (slO (if p = q then some s else f q)) ∧ _ = (if p = q then some s else f q).isSome
    rw [he, Maps.atKey_put_other hne, Maps.has_put_other hne]
    exact h2 q hq
/-- 'm[p]' -/
theorem SMapIs.look {w : World} {b n : Nat} {f : Int × Int → Option Wb.Sl} (h : SMapIs w b n f) {p : Int × Int} (hp : PrOk p) :
    (Instr.lookup 71 (.map (some b)) (.agg #[.int .i64 p.1, .int .i64 p.2]) false).run Try.prog w = .ok (slO (f p)) w := by
  obtain ⟨D, h1, h2⟩ := h
  obtain ⟨x, ps, hr, hx⟩ := h1.lookup pair_keyed Try.underlying71 (zeroSlip w) (rfl : RH slZ = some (.held slZ, [])) (pair_key hp.1 hp.2)
  rw [(h2 p hp).1] at hx
  rw [RH_held hx] at hr
  exact hr
/-- 'm[p]', and whether it is there -/
theorem SMapIs.look_ok {w : World} {b n : Nat} {f : Int × Int → Option Wb.Sl} (h : SMapIs w b n f) {p : Int × Int} (hp : PrOk p) :
    (Instr.lookup 71 (.map (some b)) (.agg #[.int .i64 p.1, .int .i64 p.2]) true).run Try.prog w = .ok (.tuple #[slO (f p), .bool (f p).isSome]) w := by
  obtain ⟨D, h1, h2⟩ := h
  obtain ⟨x, ps, hr, hx⟩ := h1.look_ok pair_keyed Try.underlying71 (zeroSlip w) (rfl : RH slZ = some (.held slZ, [])) (pair_key hp.1 hp.2)
  rw [(h2 p hp).1] at hx
  rw [RH_held hx, (h2 p hp).2] at hr
  exact hr

end Go.Proofs.Ytdfmlgjemfcmlaa
