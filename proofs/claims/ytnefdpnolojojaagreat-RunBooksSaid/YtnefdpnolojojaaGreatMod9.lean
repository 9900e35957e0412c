/- Mod9 -/
import Derived.Test.YtnefdpnolojojaaGreatMod8
import Derived.Test.YtnefdpnolojojaaGreatMRf
namespace Go.Proofs.YtnefdpnolojojaaGreat
open Go.RowKit Go.Sort Go.Lib Go.Maps
set_option maxRecDepth 8000
attribute [local go_sem ↓] Go.wp_at_zero Go.wp_at_succ
theorem mdid_law {P : Nat → Prop} {w0 WR W : World} {j : Nat} {rv xv : Value} {mp mo : Option Nat} {B : Wb.Bk} {ks hs : List Int} {N : Nat} {HS : List HdM} {y i k : Int}
  (hb : BkF (fun q => ¬ P q) WR rv mp mo B ks N) (hi : BkI j B ks N) (hj : j ≤ 40) (hH : HdsM w0 xv HS) (hx0 : Wb.Ext w0 WR) (hP : ∀ q, P q → w0.heap.size ≤ q ∧ q < WR.heap.size)
  (hRW : Wb.Ext WR W) (hk : KeysAre kU32 (fH HS) hs) (hr : hs.Pairwise (· ≤ ·)) (hl : HS.length ≤ 20) (hhl : hs.length ≤ HS.length) (hS : ∀ p, (SH HS p).length ≤ 60) :
  Calls Tryz.prog 21 #[BkV rv mp mo, .agg #[.int .i64 y, .int .i64 i, .int .i64 k, xv]] W fun e w' => ∃ (ra : Option Addr) (rl rc : Nat) (mp' mo' : Option Nat) (B' : Wb.Bk) (n1 y1 i1 k1 : Int) (qa : Option Addr) (qc : Nat) (rows : List RwM) (E : Int) (nW : Nat), e = .returned (.tuple #[BkV (.slice ra rl rc) mp' mo', RnV n1 y1 i1 k1 (.slice qa rows.length qc), .int .i64 E]) ∧
   nW = W.heap.size ∧ WR.heap.size ≤ nW ∧ Hid (DidF (fun q => q < nW → Ok0 P WR.heap.size WR.heap.size WR.heap.size q) w' (.slice ra rl rc) mp' mo' B B' y i k (SH HS) hs ks N ⟨n1, y1, i1, k1, .slice qa rows.length qc, rows⟩ E) ∧ Hid (BkI (j + 1) B' (ks ++ hs) (N + ks.length + hs.length)) ∧ Wb.Ext W w' := by
 have h1 : BkF (Ok0 P WR.heap.size WR.heap.size WR.heap.size) W rv mp mo B ks N := (hb.mono (fun q h1 h2 => .inl ⟨h2, h1⟩)).kept (.ext hRW)
 have h2 : ∀ w2, Kept (Ok0 P WR.heap.size WR.heap.size WR.heap.size) W w2 → HdsM w2 xv HS := fun w2 k2 =>
  hH.ext (k2.old (hx0.trans hRW) (fun q hq => .inl ⟨fun h => by have := hP q h; omega, by have := hx0.size; omega⟩))
 have hlen := hi.len
 have hmany := hi.many
 have hkeys := hi.keys
 refine (mdo31_any (Ok0 P WR.heap.size WR.heap.size WR.heap.size) rv mp mo B ks hs N y i k xv HS W h1 hi.ok hi.runs (by omega) (fun p => by have := hi.few p; omega) (by omega) (by omega) h2 (by omega) hk hr hhl (fun p => by have := hS p; omega)).mono ?_
 rintro e w' ⟨ps, rv', mp', mo', r, B', E, hw, hd, rfl, hb', hr', hx⟩
 obtain ⟨ra, rc, rfl⟩ := hb'.now.shape
 obtain ⟨qa, qc, hq⟩ := (hr' w' .refl).tab.shape
 obtain ⟨n1, y1, i1, k1, rv1, rows⟩ := r
 simp only at hq
 subst hq
 exact ⟨ra, _, rc, mp', mo', B', n1, y1, i1, k1, qa, qc, rows, E, W.heap.size, rfl, rfl, hRW.size, Lib.hid ⟨⟨ps, hw, hd⟩, hb', hr'⟩, Lib.hid (hi.step hj hw hd (by omega) hS), hx⟩
theorem two_law {F1 F2 : Nat → Prop} {w1 w2 : World} {rv rv2 : Value} {mp mo mp2 mo2 : Option Nat} {B B' C' : Wb.Bk} {y i k : Int} {S : Int → List Wb.Ct} {hs ks hs2 ks2 : List Int} {N N2 : Nat} {r r2 : RnM} {E E2 : Int}
  (h1 : DidF F1 w1 rv mp mo B B' y i k S hs ks N r E) (h2 : DidF F2 w2 rv2 mp2 mo2 B C' y i k S hs2 ks2 N2 r2 E2) (hs12 : hs = hs2) : E2 = E ∧ C' = B' ∧ r.c = r2.c := by
 subst hs12
 obtain ⟨ps, hw, hd⟩ := h1.did
 obtain ⟨ps', hw', hd'⟩ := h2.did
 rw [Wb.do_who hw hw', hd'] at hd
 simp only [Prod.mk.injEq] at hd
 exact ⟨hd.2.2, hd.1, hd.2.1.symm⟩
end Go.Proofs.YtnefdpnolojojaaGreat
