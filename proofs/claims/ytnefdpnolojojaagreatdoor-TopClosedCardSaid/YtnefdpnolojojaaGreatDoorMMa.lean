/- MMa -/
import Derived.Test.YtnefdpnolojojaaGreatDoorMTb
import Derived.Maps.OwnOps
import Derived.Maps.OwnSet
import Derived.Maps.RangeWalk
import Derived.DeepKeys4
import Derived.WideKeyEntry
namespace Go.Proofs.YtnefdpnolojojaaGreatDoor
open Go.RowKit Go.Maps
theorem laidOutM : laidOutB Tryz.prog = true := by kernel_rfl
theorem spot_law : WideMaps.KeyLaw Tryz.prog 142 := deep_law_laid laidOutM (m := 2) (by decide) (of_decide_eq_true (by kernel_rfl)) (by kernel_rfl) (by kernel_rfl)
theorem spot_keyed : Keyed Tryz.prog 142 := Keyed.of_law spot_law
theorem pair_keyed : Keyed Tryz.prog 131 := Keyed.of_law (deep_law_laid laidOutM (m := 2) (by decide) (of_decide_eq_true (by kernel_rfl)) (by kernel_rfl) (by kernel_rfl))
theorem cellsSpot : Tryz.prog.cellsOf 142 = 2 := by kernel_rfl
theorem cells1i : Tryz.prog.cellsOf 3 = 1 := by kernel_rfl
theorem cells1s : Tryz.prog.cellsOf 9 = 1 := by kernel_rfl
theorem sizeTypes : ∃ n, Tryz.prog.types.size + 1 = n + 2 := ⟨Tryz.prog.types.size - 1, by have : 0 < Tryz.prog.types.size := of_decide_eq_true (by kernel_rfl); omega⟩
theorem keySpot : Tryz.prog.keyType 142 = true := by kernel_rfl
def kSpot (p : Int) (c : List UInt8) : Lit := .string (keyBytes [.int .i64 p, .string c])
theorem lits_int (n : Nat) (q : IntKind) (t : Nat) (p : Int) (ht : Tryz.prog.underlying t = some (.int q)) (hp : (Lit.int q p).wf = true) : Tryz.prog.keyLits (n + 1) t [.int q p] = some [.int q p] := by
 unfold Program.keyLits; rw [ht]; simp [hp]
theorem lits_str (n : Nat) (t : Nat) (c : List UInt8) (ht : Tryz.prog.underlying t = some .string) (hc : c.length ≤ maxLen) : Tryz.prog.keyLits (n + 1) t [.string (Wb.S c)] = some [.string c] := by
 unfold Program.keyLits
 rw [ht]
 have hs : (Wb.S c).size ≤ maxLen := by rw [Wb.S_size]; exact hc
 simp only [hs, if_true]
 rfl
theorem lits_spot (n : Nat) (p : Int) (c : List UInt8) (hp : (Lit.int .i64 p).wf = true) (hc : c.length ≤ maxLen) : Tryz.prog.keyLits (n + 2) 142 [.int .i64 p, .string (Wb.S c)] = some [.int .i64 p, .string c] := by
 unfold Program.keyLits
 rw [Tryz.underlying142]
 have h1 := lits_int n .i64 3 p Tryz.underlying3 hp
 have h2 := lits_str n 9 c Tryz.underlying9 hc
 simp [cellsSpot, cells1i, cells1s, h1, h2]
theorem spot_key {p : Int} {c : List UInt8} (hp : (Lit.int .i64 p).wf = true) (hc : c.length ≤ maxLen) : keyOf Tryz.prog 142 (.agg #[.int .i64 p, .string (Wb.S c)]) = some (kSpot p c) := by
 obtain ⟨n, hn⟩ := sizeTypes
 have h1 := lits_spot n p c hp hc
 have h2 : (Value.agg #[.int .i64 p, .string (Wb.S c)]).formed Tryz.prog 142 = true := by simp [Value.formed, Tryz.underlying142, cellsSpot]
 rw [keyOf, Tryz.underlying142]
 simp only [keySpot, h2, Bool.and_self, if_true, hn, Value.cells]
 rw [h1]; rfl
set_option maxRecDepth 100000 in
theorem spot_inv {v : Value} {l : Lit} (h : keyOf Tryz.prog 142 v = some l) : ∃ p c, v = .agg #[.int .i64 p, .string (Wb.S c)] ∧ l = kSpot p c ∧ (Lit.int .i64 p).wf = true ∧ c.length ≤ maxLen := by
 obtain ⟨n, hn⟩ := sizeTypes
 have h0 := h
 rw [keyOf, Tryz.underlying142] at h
 dsimp only at h
 rw [keySpot, Bool.true_and] at h
 generalize Tryz.prog.types.size + 1 = N at h hn
 subst hn
 split at h
 ·rename_i hf
  obtain ⟨ls, hls, rfl⟩ := Option.map_eq_some_iff.1 h
  unfold Program.keyLits at hls
  rw [Tryz.underlying142] at hls
  have hv : ∃ a b, v = .agg #[a, b] := by
   cases v <;> simp [Value.formed, Tryz.underlying142, cellsSpot] at hf
   rename_i cs
   obtain ⟨l⟩ := cs
   match l, hf with
   | [a, b], _ => exact ⟨a, b, rfl⟩
  obtain ⟨a, b, rfl⟩ := hv
  simp [Value.cells, cellsSpot, cells1i, cells1s, Option.bind_eq_some_iff] at hls
  obtain ⟨x, hx, y, hy, _⟩ := hls
  have ha : ∃ p, a = .int .i64 p ∧ (Lit.int .i64 p).wf = true := by
   unfold Program.keyLits at hx
   rw [Tryz.underlying3] at hx
   cases a <;> simp at hx
   obtain ⟨⟨rfl, hw⟩, _⟩ := hx
   exact ⟨_, rfl, hw⟩
  have hb : ∃ c, b = .string (Wb.S c) ∧ c.length ≤ maxLen := by
   unfold Program.keyLits at hy
   rw [Tryz.underlying9] at hy
   cases b <;> simp at hy
   rename_i s
   obtain ⟨c, rfl⟩ := Wb.S_ex s
   rw [Wb.S_size] at hy
   obtain ⟨_, ⟨hc, _⟩, _⟩ := hy
   exact ⟨c, rfl, hc⟩
  obtain ⟨p, rfl, hp⟩ := ha
  obtain ⟨c, rfl, hc⟩ := hb
  rw [spot_key hp hc] at h0
  exact ⟨p, c, rfl, (Option.some.inj h0).symm, hp, hc⟩
 ·cases h
theorem cellsPair : Tryz.prog.cellsOf 131 = 2 := by kernel_rfl
theorem keyPair : Tryz.prog.keyType 131 = true := by kernel_rfl
def kPair (y i : Int) : Lit := .string (keyBytes [.int .i64 y, .int .i64 i])
theorem lits_pair (n : Nat) (y i : Int) (hy : (Lit.int .i64 y).wf = true) (hi : (Lit.int .i64 i).wf = true) : Tryz.prog.keyLits (n + 2) 131 [.int .i64 y, .int .i64 i] = some [.int .i64 y, .int .i64 i] := by
 unfold Program.keyLits
 rw [Tryz.underlying131]
 have h1 := lits_int n .i64 3 y Tryz.underlying3 hy
 have h2 := lits_int n .i64 3 i Tryz.underlying3 hi
 simp [cellsPair, cells1i, h1, h2, List.range_succ]
theorem pair_key {y i : Int} (hy : (Lit.int .i64 y).wf = true) (hi : (Lit.int .i64 i).wf = true) : keyOf Tryz.prog 131 (.agg #[.int .i64 y, .int .i64 i]) = some (kPair y i) := by
 obtain ⟨n, hn⟩ := sizeTypes
 have h1 := lits_pair n y i hy hi
 have h2 : (Value.agg #[.int .i64 y, .int .i64 i]).formed Tryz.prog 131 = true := by simp [Value.formed, Tryz.underlying131, cellsPair]
 rw [keyOf, Tryz.underlying131]
 simp only [keyPair, h2, Bool.and_self, if_true, hn, Value.cells]
 rw [h1]; rfl
set_option maxRecDepth 100000 in
theorem pair_inv {v : Value} {l : Lit} (h : keyOf Tryz.prog 131 v = some l) : ∃ y i, v = .agg #[.int .i64 y, .int .i64 i] ∧ l = kPair y i ∧ (Lit.int .i64 y).wf = true ∧ (Lit.int .i64 i).wf = true := by
 obtain ⟨n, hn⟩ := sizeTypes
 have h0 := h
 rw [keyOf, Tryz.underlying131] at h
 dsimp only at h
 rw [keyPair, Bool.true_and] at h
 generalize Tryz.prog.types.size + 1 = N at h hn
 subst hn
 split at h
 ·rename_i hf
  obtain ⟨ls, hls, rfl⟩ := Option.map_eq_some_iff.1 h
  unfold Program.keyLits at hls
  rw [Tryz.underlying131] at hls
  have hv : ∃ a b, v = .agg #[a, b] := by
   cases v <;> simp [Value.formed, Tryz.underlying131, cellsPair] at hf
   rename_i cs
   obtain ⟨l⟩ := cs
   match l, hf with
   | [a, b], _ => exact ⟨a, b, rfl⟩
  obtain ⟨a, b, rfl⟩ := hv
  simp [Value.cells, cellsPair, cells1i, Option.bind_eq_some_iff, List.range_succ] at hls
  obtain ⟨x, hx, _, ⟨y, hy, _⟩, _⟩ := hls
  have key : ∀ (a : Value) (x : List Lit), Tryz.prog.keyLits (n + 1) 3 [a] = some x → ∃ p, a = .int .i64 p ∧ (Lit.int .i64 p).wf = true := by
   intro a x hx
   unfold Program.keyLits at hx
   rw [Tryz.underlying3] at hx
   cases a <;> simp at hx
   obtain ⟨⟨rfl, hw⟩, _⟩ := hx
   exact ⟨_, rfl, hw⟩
  obtain ⟨p, rfl, hp⟩ := key a x hx
  obtain ⟨q, rfl, hq⟩ := key b y hy
  rw [pair_key hp hq] at h0
  exact ⟨p, q, rfl, (Option.some.inj h0).symm, hp, hq⟩
 ·cases h
end Go.Proofs.YtnefdpnolojojaaGreatDoor
namespace Go.Proofs.YtnefdpnolojojaaGreatDoor
open Go.RowKit Go.Maps
open Go.WideElems (Fit)
def RH (v : Value) : Option (DataW Value × List MemPlace) := some (.held v, [])
theorem RH_val {v : Value} {d : DataW Value} {ps : List MemPlace} (h : RH v = some (d, ps)) : d = .held v := by
 simp [RH] at h; exact h.1.symm
theorem RH_held {v u : Value} {ps : List MemPlace} (h : RH v = some (.held u, ps)) : v = u := by simp [RH] at h; exact h.1
section
variable {P : Program} {k t e : TypeId} {w : World} {b n : Nat} {D : DataW Value} {z : Value}
theorem setBlock_same {w : World} {b : Nat} {o : Obj} (h : w.heap[b]? = some o) : ChangeMaps.setBlock w b o = w := by
 obtain ⟨hb, he⟩ := Array.getElem?_eq_some_iff.1 h
 have : w.heap.setIfInBounds b o = w.heap := by
  apply Array.ext (by simp)
  intro i h1 h2
  rw [Array.getElem_setIfInBounds]
  split
  ·rename_i hi; subst hi; exact he.symm
  ·rfl
 cases w
 simp only [ChangeMaps.setBlock] at this ⊢
 simp_all
theorem entry_own (h : w.ownsMap P k RH b n D) (K : Keyed P k) (ht : P.underlying t = some (.map k e)) (hz : ∀ u : World, (zeroValue e).run P u = .ok z u) (hn : n < maxLen) {key : Value} {kl : Lit} (hkey : keyOf P k key = some kl) :
  ∃ v st w1, D.atKey kl (.held z) = .held v ∧ (Instr.mapEntry t (.map (some b)) key).run P w = .ok (.tuple #[v, goInt st]) w1 ∧ w.grownBy w1 (some b) ∧ w1.heap.size = w.heap.size ∧
   (∃ D1, w1.ownsMap P k RH b (n + 1) D1 ∧ D1.atKey kl (.held z) = .held v) := by
 have h0 := h
 obtain ⟨es, clock, hb, F, hs, hD⟩ := h
 rcases Maps.fit_look false K ht (hz w) hb F hkey with ⟨_, hno, hat⟩ | ⟨e0, y, he0, hk0, _, hR, hat, _⟩
 ·rcases K.find w hkey es.toList F.keys with ⟨h1, h2⟩ | ⟨j, e1, h1, h2, h3⟩
  ·obtain ⟨w2, hup, hown, hgr⟩ := h0.update K ht hn hkey (rfl : RH z = some (.held z, []))
   have hupd : (Instr.mapUpdate t (.map (some b)) key z).run P w = .ok () (ChangeMaps.setBlock w b (.map (es.push ⟨key, z, clock⟩) (clock + 1))) := by
    simp [Instr.mapUpdate, run_underlying ht, MapKept.run_getObj_map hb, K.check w false hkey, h1, MapKept.run_setObj_map _ hb, Result.andThen, ChangeMaps.setBlock]
   rw [hupd] at hup
   have hw2 : w2 = ChangeMaps.setBlock w b (.map (es.push ⟨key, z, clock⟩) (clock + 1)) := by injection hup with _ h; exact h.symm
   refine ⟨z, clock, w2, by rw [hD]; exact hat _, ?_, hgr, by rw [hw2]; simp [ChangeMaps.setBlock], _, hown, ?_⟩
   ·rw [hw2]
    simp [Instr.mapEntry, run_underlying ht, MapKept.run_getObj_map hb, K.check w false hkey, h1, hz, MapKept.run_setObj_map _ hb, Result.andThen, ChangeMaps.setBlock]
   ·exact Maps.atKey_put_same (by rw [hD]; exact ⟨_, rfl⟩) (K.key hkey) _ _
  ·exact absurd h3 (hno e1 (List.mem_of_getElem? h2))
 ·rcases K.find w hkey es.toList F.keys with ⟨h1, h2⟩ | ⟨j, e1, h1, h2, h3⟩
  ·exact absurd hk0 (h2 e0 he0)
  ·have hj : es[j]? = some e1 := by simpa using h2
   have hsame : es.modify j (fun e => { e with key := key }) = es := by
    apply Array.ext (by simp)
    intro i i1 i2
    rw [Array.getElem_modify]
    split
    ·rename_i hi
     subst hi
     have : es[j] = e1 := (Array.getElem?_eq_some_iff.1 hj).2
     rw [this, ← h3]
    ·rfl
   have hv : e1.val = e0.val := by
    have hn : es.toList.Pairwise (fun x y => x.key ≠ y.key) := ((MapKept.stamped_iff es clock).1 F.stamped).2.2
    have hj2 : e1 ∈ es.toList := List.mem_of_getElem? h2
    obtain ⟨a, ha⟩ := List.getElem?_of_mem he0
    by_cases haj : a = j
    ·subst haj; rw [h2] at ha; rw [Option.some.inj ha]
    ·exfalso
     obtain ⟨p1, p2⟩ := List.getElem?_eq_some_iff.1 ha
     obtain ⟨p3, p4⟩ := List.getElem?_eq_some_iff.1 h2
     rcases Nat.lt_or_gt_of_ne haj with q | q
     ·have := List.pairwise_iff_getElem.1 hn a j p1 p3 q
      rw [p2, p4, hk0, h3] at this; exact this rfl
     ·have := List.pairwise_iff_getElem.1 hn j a p3 p1 q
      rw [p2, p4, hk0, h3] at this; exact this rfl
   obtain ⟨y1, y2⟩ := y
   have hy := RH_val hR
   refine ⟨e0.val, e1.born, w, by rw [hD, hat]; exact hy, ?_, Wb.grownBy_refl _ _, rfl, D, h0.mono (by omega), by rw [hD, hat]; exact hy⟩
   have hsb := setBlock_same hb
   simp only [ChangeMaps.setBlock] at hsb
   simp [Instr.mapEntry, run_underlying ht, MapKept.run_getObj_map hb, K.check w false hkey, h1, hj, h3, K.stays w hkey, hsame, MapKept.run_setObj_map _ hb, Result.andThen, hsb, hv]
theorem setBlock_twice (w : World) (b : Nat) (o o' : Obj) : ChangeMaps.setBlock (ChangeMaps.setBlock w b o) b o' = ChangeMaps.setBlock w b o' := by
 simp [ChangeMaps.setBlock]
theorem goInt_inj {a c : Int} (h : goInt a = goInt c) : a = c := by simpa [goInt] using h
theorem map_add (h : w.ownsMap P k RH b n D) (K : WideMaps.KeyLaw P k) (ht : P.underlying t = some (.map k e)) (hz : ∀ u : World, (zeroValue e).run P u = .ok z u) (hn : n + 1 < maxLen) {key : Value} {kl : Lit} (hkey : keyOf P k key = some kl) :
  ∃ v st w1, D.atKey kl (.held z) = .held v ∧ (Instr.lookup t (.map (some b)) key false).run P w = .ok v w ∧
   (Instr.mapEntry t (.map (some b)) key).run P w = .ok (.tuple #[v, goInt st]) w1 ∧ w.grownBy w1 (some b) ∧ (Instr.lookup t (.map (some b)) key false).run P w1 = .ok v w1 ∧
   ∀ val, ∃ w2, (Instr.entryStore t (.map (some b)) (goInt st) val).run P w1 = .ok () w2 ∧ w2.ownsMap P k RH b (n + 1) (D.put kl (.held val)) ∧ w.grownBy w2 (some b) := by
 have K' := Keyed.of_law K
 obtain ⟨v, st, w1, hat, hent, hg1, _, D1, ho1, hat1⟩ := entry_own h K' ht hz (by omega) hkey
 have look : ∀ (u : World) (m : Nat) (E : DataW Value), u.ownsMap P k RH b m E → E.atKey kl (.held z) = .held v → (Instr.lookup t (.map (some b)) key false).run P u = .ok v u := by
  intro u m E hu hE
  obtain ⟨x, ps, hr, hx⟩ := hu.lookup K' ht (hz u) (rfl : RH z = some (.held z, [])) hkey
  rw [hE] at hx
  rw [RH_held hx] at hr
  exact hr
 refine ⟨v, st, w1, hat, look w n D h hat, hent, hg1, look w1 _ D1 ho1 hat1, fun val => ?_⟩
 have h0 := h
 obtain ⟨es, clock, hb, F, hs, hD⟩ := h
 obtain ⟨v0, st0, es1, clock1, hrun, _, hst⟩ := WideElems.entry_then_store K ht hz hb F hkey
 rw [hent] at hrun
 injection hrun with e1 e2
 have hst0 : st = st0 := by
  have := goInt_inj (a := (st : Int)) (c := (st0 : Int)) (by injection e1 with e1; injection e1 with e1; simp at e1; exact e1.2)
  omega
 obtain ⟨es', clock', hs1, hs2⟩ := hst w1 val (by rw [e2]; exact ChangeMaps.heap_setBlock_same hb _)
 obtain ⟨w2, hup, hown, hgr⟩ := h0.update K' ht (by omega) hkey (rfl : RH val = some (.held val, []))
 rw [hs2] at hup
 injection hup with _ e3
 rw [e2, setBlock_twice, e3] at hs1
 refine ⟨w2, ?_, hown, hgr⟩
 rw [hst0, e2]
 exact hs1
end
end Go.Proofs.YtnefdpnolojojaaGreatDoor
