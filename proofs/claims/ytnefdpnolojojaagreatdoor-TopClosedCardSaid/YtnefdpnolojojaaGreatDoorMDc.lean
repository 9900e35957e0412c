/- MDc -/
import Derived.Test.YtnefdpnolojojaaGreatDoorMPm
import Derived.Test.YtnefdpnolojojaaGreatDoorMTb
import Derived.Lib.SliceRun
import Derived.Laws.StructEq
import Derived.Laws.Cover2
import Derived.Lib.LazyBuf
import Derived.Deep.QuietTactic
import Derived.BigQuiet
import Derived.Deep.DeepCutAuto
import Derived.IntWalk
import Derived.Test.YtnefdpnolojojaaGreatDoorMKm
import Derived.Test.YtnefdpnolojojaaGreatDoorRun1
import Derived.Test.YtnefdpnolojojaaGreatDoorMDb
namespace Go.Proofs.YtnefdpnolojojaaGreatDoor
open Go.RowKit Go.Lib
set_option maxRecDepth 8000
attribute [local go_sem ↓] Go.wp_at_zero Go.wp_at_succ
namespace Wb
theorem cpt_two (a b : Int × Int) (r : List (Int × Int)) : cpt (a :: b :: r) = if a = b then cpt (b :: r) else a :: cpt (b :: r) := rfl
theorem cpt_one (a : Int × Int) : cpt [a] = [a] := rfl
theorem cpt_snoc (y x : Int × Int) : ∀ l : List (Int × Int), cpt (l ++ [y, x]) = if y = x then cpt (l ++ [y]) else cpt (l ++ [y]) ++ [x]
  | [] => by
    simp only [List.nil_append, cpt_two, cpt_one]
    split
    · rename_i h; rw [h]
    · rfl
  | [a] => by
    simp only [List.cons_append, List.nil_append, cpt_two, cpt_one]
    by_cases h : a = y <;> by_cases k : y = x <;> simp [h, k]
  | a :: b :: r => by
    have ih := cpt_snoc y x (b :: r)
    simp only [List.cons_append] at ih ⊢
    rw [cpt_two, ih, cpt_two]
    by_cases h : a = b <;> by_cases k : y = x <;> simp [h, k]
theorem cpt_take {l : List (Int × Int)} {i : Nat} {y x : Int × Int} (hy : l[i]? = some y) (hx : l[i + 1]? = some x) : cpt (l.take (i + 2)) = if y = x then cpt (l.take (i + 1)) else cpt (l.take (i + 1)) ++ [x] := by
  obtain ⟨p1, p2⟩ := List.getElem?_eq_some_iff.1 hy
  obtain ⟨p3, p4⟩ := List.getElem?_eq_some_iff.1 hx
  have e1 : l.take (i + 1) = l.take i ++ [y] := by rw [List.take_succ_eq_append_getElem p1, p2]
  have e2 : l.take (i + 2) = l.take i ++ [y, x] := by rw [List.take_succ_eq_append_getElem p3, p4, e1, List.append_assoc]; rfl
  rw [e2, e1, cpt_snoc]
structure CI (l : List (Int × Int)) (i k : Nat) (m : List (Int × Int)) : Prop where
  len : m.length = l.length
  kept : m.take k = cpt (l.take i)
  lt : k + 1 ≤ i
  rest : ∀ j, k ≤ j → m[j]? = l[j]?
theorem CI.skip {l m : List (Int × Int)} {i k : Nat} {y : Int × Int} (h : CI l (i + 1) k m) (hy : l[i]? = some y) (hx : l[i + 1]? = some y) : CI l (i + 2) k m :=
  ⟨h.len, by rw [cpt_take hy hx, if_pos rfl]; exact h.kept, by have := h.lt; omega, h.rest⟩
theorem CI.keep {l m : List (Int × Int)} {i k : Nat} {y x : Int × Int} (h : CI l (i + 1) k m) (hy : l[i]? = some y) (hx : l[i + 1]? = some x) (hne : ¬ y = x) : CI l (i + 2) (k + 1) (m.set k x) := by
  have hk : k < m.length := by have := h.lt; have := (List.getElem?_eq_some_iff.1 hx).1; rw [h.len]; omega
  refine ⟨by rw [List.length_set]; exact h.len, ?_, by have := h.lt; omega, fun j hj => ?_⟩
  · rw [cpt_take hy hx, if_neg hne, ← h.kept, List.take_succ_eq_append_getElem (by rw [List.length_set]; exact hk), List.take_set_of_le (Nat.le_refl _)]
    simp
  · rw [List.getElem?_set_ne (by omega)]; exact h.rest j (by omega)
end Wb
def PairsC (w : World) (b off : Nat) (m : List (Int × Int)) : Prop := ∀ j p, m[j]? = some p → w.cell? ⟨b, off + j * 2, none⟩ = some (.int .i64 p.1) ∧ w.cell? ⟨b, off + j * 2 + 1, none⟩ = some (.int .i64 p.2)
theorem PairsC.drewN {w : World} {b off : Nat} {m : List (Int × Int)} (h : PairsC w b off m) (n : Nat) : PairsC (w.drewN n) b off m := fun j p hj => h j p hj
theorem PairsC.put {w : World} {b off k : Nat} {m : List (Int × Int)} {p p0 : Int × Int} (h : PairsC w b off m) (hk : m[k]? = some p0) :
    PairsC ((w.setCell ⟨b, off + k * 2, none⟩ (.int .i64 p.1)).setCell ⟨b, off + k * 2 + 1, none⟩ (.int .i64 p.2)) b off (m.set k p) := by
  intro j q hj
  by_cases e : k = j
  · subst e
    have hlt := (List.getElem?_eq_some_iff.1 hk).1
    rw [List.getElem?_set_self hlt] at hj
    obtain rfl := Option.some.inj hj
    obtain ⟨h1, h2⟩ := h k p0 hk
    refine ⟨?_, ?_⟩
    · rw [World.cell?_setCell_other _ _ _ _ (by intro e; injection e with _ e2 _; omega)]
      simp [go_sem, h1]
    · have h3 : (w.setCell ⟨b, off + k * 2, none⟩ (.int .i64 p.1)).cell? ⟨b, off + k * 2 + 1, none⟩ = some (.int .i64 p0.2) := by
        rw [World.cell?_setCell_other _ _ _ _ (by intro e; injection e with _ e2 _; omega)]; exact h2
      simp [go_sem, h3]
  · rw [List.getElem?_set_ne e] at hj
    obtain ⟨h1, h2⟩ := h j q hj
    refine ⟨?_, ?_⟩
    · rw [World.cell?_setCell_other _ _ _ _ (by intro e; injection e with _ e2 _; omega), World.cell?_setCell_other _ _ _ _ (by intro e; injection e with _ e2 _; omega)]; exact h1
    · rw [World.cell?_setCell_other _ _ _ _ (by intro e; injection e with _ e2 _; omega), World.cell?_setCell_other _ _ _ _ (by intro e; injection e with _ e2 _; omega)]; exact h2
@[go_sem] theorem eqPair (a b c d : Int) (w : World) : (Op.equalIn 10000 131 (.agg #[.int .i64 a, .int .i64 b]) (.agg #[.int .i64 c, .int .i64 d])).run Tryz.prog w = .ok (a == c && b == d) w := by
  have u3 := Tryz.underlying3
  have a3 := Tryz.isAgg3
  have z3 := Tryz.sizeOf3
  rw [show (10000 : Nat) = 9999 + 1 from rfl, Op.equalIn]
  simp only [Sem.run_bind, run_underlying Tryz.underlying131, Result.andThen_ok]
  simp only [Std.Legacy.Range.forIn_eq_forIn_range', Std.Legacy.Range.size, Nat.sub_zero, Nat.add_sub_cancel, Nat.div_one, List.range'_succ, List.range'_zero, List.forIn_cons, List.forIn_nil]
  go_simp
  by_cases h1 : a = c <;> by_cases h2 : b = d <;> simp [h1, h2]
end Go.Proofs.YtnefdpnolojojaaGreatDoor
namespace Go.Proofs.YtnefdpnolojojaaGreatDoor
open Go.RowKit Go.Maps
set_option maxRecDepth 100000
theorem keysP_it (m : Nat) (l Bm : Nat) {mb : Option Nat} {n : Nat} {z : Value} {f : (Int × Int) → Option Value} (J : List (Int × Int) → World → Prop)
    (hY : ∀ pre x W, J pre W → pre.length < n → YieldAt Fence.wide (m - 1) Tryz.prog l #[kPr.v x] W fun e W' => e = .returned (.bool true) ∧ J (pre ++ [x]) W' ∧ KeepsWalks W W')
    (W : World) (hJ : AbidesFrom W.heap.size J) (hm : W.cell? ⟨Bm, 0, none⟩ = some (.map mb)) (hown : KMapO kPr W mb n z f) (h0 : J [] W) :
    CallsIn Fence.wide m Tryz.prog 98 #[.func (.yield l) #[] #[], .pointer (some ⟨Bm, 0, none⟩)] W fun e W' => (∃ v, e = .returned v) ∧ ∃ ss : List (Int × Int), KeysAre kPr f ss ∧ J ss W' := by
  have hh : m = m := rfl
  refine callsIn_of_wp Tryz.func98 rfl trivial ?_ rfl
  simp only [Tryz.ntmps98, List.size_toArray, List.length_cons, List.length_nil, Nat.reduceAdd, Nat.reduceSub, Array.replicate_succ, Array.replicate_zero, List.push_toArray, List.append_toArray, List.nil_append, List.cons_append]
  gi_wp2_with (first
    | (gi_at_range; refine wpListIn_range_km (K := kPr) rfl _ 130 108 rfl Tryz.underlying130 mb n z f rfl hown ?_; intro w0 cnt0 hrg0 hc0 hg0 hs0)
    | gi_in)
  (try go_frame)
  gi_loopw [3] (fun _ wr => ∃ (cnt : Nat) (ss : List (Int × Int)), KRng kPr wr mb W.heap.size n z f ss cnt ∧ ss.length + cnt ≤ n ∧ J ss wr)
    (fun _ wr => kLeft mb W.heap.size wr)
  case atStart =>
    exact ⟨_, [], hrg0, by simpa using hc0, hJ [] W w0 none h0 hg0 (fun r e => by cases e)⟩
  case round =>
    obtain ⟨cnt, ss, hrg, hcs, hJs⟩ := hrel
    gi_wp2_with (first
      | (gi_at_next; refine wpListIn_next_km (K := kPr) rfl _ rfl rfl hrg ?_ ?_)
      | gi_in)
    · intro hall
      have hKA : KeysAre kPr f ss := ⟨hrg.one, fun p => ⟨fun hp => hrg.ok p hp, fun ⟨h1, h2⟩ => hall p.1 p.2 h1 h2⟩⟩
      gi_wp2
      go_end0
      exact ⟨⟨_, rfl⟩, ss, hKA, hJs⟩
    · intro x1 x2 v w2 cnt2 hok hfx hnr hrg2 hlt hg2 hs2 hen
      obtain ⟨x, hxe⟩ : ∃ x : Int × Int, x = (x1, x2) := ⟨_, rfl⟩
      rw [← hxe] at hok hfx hnr hrg2 hen ⊢
      have hxv : kPr.v x = .agg #[.int .i64 x.1, .int .i64 x.2] := rfl
      have hJ2 : J ss w2 := hJ ss wr w2 (some W.heap.size) hJs hg2 (fun r e => by cases e; exact ⟨Nat.le_refl _, hrg.walk⟩)
      obtain ⟨W5, hW5⟩ : ∃ W5, w2.alloc (.cells #[.int .i64 x.1, .int .i64 x.2] 131) = W5 := ⟨_, rfl⟩
      have hE : Wb.Ext w2 W5 := by rw [← hW5]; exact Wb.Ext.alloc (.refl _) _
      have hc5 : W5.cell? ⟨w2.heap.size, 0, none⟩ = some (.int .i64 x.1) ∧ W5.cell? ⟨w2.heap.size, 1, none⟩ = some (.int .i64 x.2) := by rw [← hW5]; constructor <;> simp [go_sem]
      obtain ⟨hc50, hc51⟩ := hc5
      have hJ5 : J ss W5 := hJ ss w2 W5 none hJ2 (ext_grown' hE) (fun r e => by cases e)
      have hrg5 := hrg2.ext hE
      obtain ⟨fn, tmps, assign, body, hy, hR⟩ := hY ss x W5 hJ5 (by omega)
      rw [hxv] at hy hen ⊢
      clear hs2 hok hfx hnr hxe hxv
      gi_wp2_with (first | (rw [hW5]; gi_in) | gi_in)
      refine ⟨(fun h => by cases h), hR.mono ?_⟩
      rintro e W3 ⟨rfl, hJ3, hk3⟩
      gi_wp2
      have hrg3 := hrg5.walks hk3
      go_roundw
      case rel => exact ⟨cnt2, ss ++ [x], hrg3, by simp; omega, hJ3⟩
      case measure => rw [hrg3.left, hrg.left]; exact hlt
theorem keysP_gives (m : Nat) (Bm : Nat) {mb : Option Nat} {n : Nat} {z : Value} {f : (Int × Int) → Option Value} (w : World) (hBm : Bm < w.heap.size) (hm : w.cell? ⟨Bm, 0, none⟩ = some (.map mb)) (hown : KMapO kPr w mb n z f) :
    SeqGives Fence.wide m Tryz.prog 98 #[.pointer (some ⟨Bm, 0, none⟩)] kPr.v (KeysAre kPr f) n w := fun l J W hW hJ hY h0 => by
  have hown' : KMapO kPr W mb n z f := by
    cases mb with
    | none => exact hown
    | some b =>
      have hbl : b < w.heap.size := hown.lt b rfl
      obtain ⟨D, ⟨es, clock, hb, Ft, hs, hD⟩, h2⟩ := hown
      exact ⟨D, ⟨es, clock, (hW.block b hbl).trans hb, Ft, hs, hD⟩, h2⟩
  exact keysP_it m l Bm J hY W hJ ((hW.cell (p := ⟨Bm, 0, none⟩) hBm).trans hm) hown' h0
theorem keysP_any (mb : Option Nat) (w : World) :
    Calls Tryz.prog 65 #[.map mb] w fun e w' => e = .returned (.func (.func 98) #[] #[.pointer (some ⟨w.heap.size, 0, none⟩)]) ∧ w' = w.alloc (.cells #[.map mb] 130) := by
  go_enter Tryz.func65, Tryz.ntmps65
  go_wp2
  go_ret
  exact ⟨rfl, rfl⟩
theorem colP_info : (Tryz.prog.info? 131).map (fun i => (i.zero, i.size, i.bytes)) = some (some (.agg #[.int .i64 0, .int .i64 0]), 2, 16) := by kernel_rfl
theorem colP_types : (132 : Nat) ≠ 131 := by decide
def colPAssign : Code := (Code.region 2 #[{ dst := some 5, op := Op.alloc 131, type := 0, pos := "iter.go:51", after := #[], guard := none }, { dst := none, op := Op.store 131 (Operand.tmp 5) (Operand.tmp 7), type := 0, pos := "iter.go:51", after := #[{ on := 0, ground := Ground.data }, { on := 0, ground := Ground.phase }], guard := none }] false)
def colPBody : Code := (Code.block 1 (Code.region 3 #[{ dst := some 8, op := Op.load 132 (Operand.tmp 2), type := 132, pos := "iter.go:52", after := #[], guard := none }, { dst := some 9, op := Op.load 131 (Operand.tmp 5), type := 131, pos := "iter.go:52", after := #[], guard := none }, { dst := some 10, op := Op.buildSlice 132 1 #[(0, Operand.tmp 9)], type := 132, pos := "iter.go:52", after := #[{ on := 1, ground := Ground.data }], guard := none }, { dst := some 11, op := Op.call { callee := Callee.builtin Builtin.append, args := #[Operand.tmp 8, Operand.tmp 10], argTypes := #[132, 132] }, type := 132, pos := "iter.go:52", after := #[{ on := 0, ground := Ground.data }, { on := 2, ground := Ground.data }], guard := none }, { dst := none, op := Op.store 132 (Operand.tmp 2) (Operand.tmp 11), type := 0, pos := "iter.go:52", after := #[{ on := 3, ground := Ground.data }, { on := 3, ground := Ground.chain }, { on := 0, ground := Ground.phase }, { on := 1, ground := Ground.phase }, { on := 2, ground := Ground.phase }, { on := 3, ground := Ground.phase }], guard := none }] false))
def colPRec (fn : FuncId) (sv : Value) (Bs D : Nat) (st : LoopState) (pend : Option Code) : Loop :=
  { state := st, pending := pend, fn, tmps := #[.slice none 0 0, sv, .pointer (some ⟨Bs, 0, none⟩), undef, .slice none 0 0, undef, sv, undef, undef, undef, undef, undef, undef], params := #[7], assign := colPAssign, body := colPBody, defers := D }
structure colPAt (w0 : World) (fn : FuncId) (sv : Value) (Bs l D : Nat) (ss : List (Int × Int)) (W : World) : Prop where
  box : ∃ v, W.heap[Bs]? = some (.cells #[v] 132 (0, 0)) ∧ W.ownsRow w0.heap.size 131 2 v ss.length (rowsOf prc ss)
  L : W.heap[l]? = some (.loop (colPRec fn sv Bs D .ready none))
  K : W.heap[D]? = some (.deferred (some []))
  below : Below w0.heap.size w0 W
theorem colP_abides (w0 : World) (fn : FuncId) (sv : Value) (Bs l D B : Nat) (hB : w0.heap.size ≤ B) : AbidesFrom B (colPAt w0 fn sv Bs l D) := fun s W W' row h hg hrow => by
  have hrow' : ∀ r, row = some r → ∃ o : Obj, W.heap[r]? = some o ∧ o.isWalk = true := fun r e => (hrow r e).2
  obtain ⟨v, hv, hr⟩ := h.box
  exact ⟨⟨v, (grownBy_keeps hg hrow' hv rfl).trans hv, row_abides hr hg hrow'⟩, (grownBy_keeps hg hrow' h.L rfl).trans h.L, (grownBy_keeps hg hrow' h.K rfl).trans h.K,
    h.below.grown hg h.below.size (fun k e => Nat.le_trans hB (hrow k e).1)⟩
set_option maxHeartbeats 4000000 in
theorem colP_yield (m : Nat) (w0 : World) (fn : FuncId) (sv : Value) (Bs l D : Nat) (hBl : Bs ≠ l) (hDl : D ≠ l) (hDB : D ≠ Bs) (h0B : w0.heap.size ≤ Bs) (h0l : w0.heap.size ≤ l)
    (N : Nat) (hN : N ≤ maxLen) (hNb : N * 16 ≤ 140737488355328) (ss : List (Int × Int)) (x : (Int × Int)) (W : World) (h : colPAt w0 fn sv Bs l D ss W) (hlen : ss.length < N) :
    YieldAt Fence.wide m Tryz.prog l #[kPr.v x] W fun e W' => e = .returned (.bool true) ∧ colPAt w0 fn sv Bs l D (ss ++ [x]) W' ∧ KeepsWalks W W' := by
  have h0 := h
  obtain ⟨W5, hW5⟩ : ∃ W5, W.alloc (.cells #[.int .i64 x.1, .int .i64 x.2] 131) = W5 := ⟨_, rfl⟩
  have hk5 : KeepsWalks W W5 := by rw [← hW5]; exact KeepsWalks.alloc _ _
  replace h : colPAt w0 fn sv Bs l D ss W5 := by
    rw [← hW5]
    exact colP_abides w0 fn sv Bs l D W.heap.size h0.below.size ss W _ none h0 (World.grownBy_alloc W _ none) (fun r e => by cases e)
  have hlW : l < W.heap.size := (Array.getElem?_eq_some_iff.1 h0.L).1
  obtain ⟨i0, hi, hz0, hz1, hz2⟩ := info_parts colP_info
  obtain ⟨v, hv, hrow⟩ := h.box
  refine ⟨fn, #[.slice none 0 0, sv, .pointer (some ⟨Bs, 0, none⟩), undef, .slice none 0 0, undef, sv, kPr.v x, undef, undef, undef, undef, undef], colPAssign, colPBody, by simpa [colPRec] using run_yield (P := Tryz.prog) (args := #[kPr.v x]) h0.L rfl, roundIn_of_wpIn trivial ?_⟩
  have hl : l < W5.heap.size := (Array.getElem?_eq_some_iff.1 h.L).1
  have hbr := run_beginRound (P := Tryz.prog) h.L rfl
  obtain ⟨W2, hW2⟩ : ∃ W2, W5.putObj l (.loop { colPRec fn sv Bs D .ready none with state := .busy }) = W2 := ⟨_, rfl⟩
  rw [hW2] at hbr
  have hg2 : W5.grownBy W2 (some l) := by rw [← hW2]; exact put_grown _ _ _
  have hk2 : KeepsWalks W5 W2 := by rw [← hW2]; exact KeepsWalks.putObj _ h.L rfl
  have hv2 : W2.heap[Bs]? = some (.cells #[v] 132 (0, 0)) := by rw [← hW2]; exact (World.putObj_heap_other hBl).trans hv
  have hK2 : W2.heap[D]? = some (.deferred (some [])) := by rw [← hW2]; exact (World.putObj_heap_other hDl).trans h.K
  have hL2 : W2.heap[l]? = some (.loop { colPRec fn sv Bs D .ready none with state := .busy }) := by rw [← hW2]; exact World.putObj_heap_same hl
  have hrow2 : W2.ownsRow w0.heap.size 131 2 v ss.length (rowsOf prc ss) := hrow.kept hg2 (row_ne hrow h.L (fun cur e => by cases e))
  have hb2 : Below w0.heap.size w0 W2 := h.below.grown hg2 h.below.size (fun k e => by cases e; exact h0l)
  have hBlt : Bs < W2.heap.size := (Array.getElem?_eq_some_iff.1 hv2).1
  have hl2 : l < W2.heap.size := (Array.getElem?_eq_some_iff.1 hL2).1
  have hDlt : D < W2.heap.size := (Array.getElem?_eq_some_iff.1 hK2).1
  have hx2 : W2.heap[W.heap.size]? = some (.cells #[.int .i64 x.1, .int .i64 x.2] 131 (0, 0)) := by
    rw [← hW2]
    refine (World.putObj_heap_other (by omega)).trans ?_
    rw [← hW5]; exact World.alloc_heap_new W _
  have hx20 : W2.cell? ⟨W.heap.size, 0, none⟩ = some (.int .i64 x.1) := by simp [World.cell?, hx2]
  have hx21 : W2.cell? ⟨W.heap.size, 1, none⟩ = some (.int .i64 x.2) := by simp [World.cell?, hx2]
  have hxv : kPr.v x = .agg #[.int .i64 x.1, .int .i64 x.2] := rfl
  rw [hxv]
  clear hW2 hx2 hxv
  unfold colPAssign
  gi_wp2_with (rw [Oper.semAt_eq _ _ _ (fun c h => by cases h)]; go_simp; try go_bits)
  have ne_of : ∀ {j : Nat} {o : Obj}, W2.heap[j]? = some o → (∀ cur, o ≠ .cells cur 131 (0, 0)) → some j ≠ v.ownBlock := fun hj hno => by
    rcases row_ne hrow2 hj hno with e | e
    · rw [e]; simp
    · exact fun e' => e e'.symm
  obtain ⟨hc2, hf2⟩ := box_cell hv2
  unfold colPBody
  gi_wp2_with (first
    | (gi_at_builtin; refine wpListIn_append_row9 rfl _ _ 132 rfl w0.heap.size 131 i0 (.agg #[.int .i64 0, .int .i64 0]) 2 16 Tryz.underlying132 hi hz0 hz1 hz2 rfl (by decide) _ _ _ rfl (hrow2.alloc _) _ rfl 1 ([.int .i64 x.1, .int .i64 x.2]) (src_lit9 _ _ rfl ([.int .i64 x.1, .int .i64 x.2]) _ rfl) (by intro u hu; simp at hu; rcases hu with rfl | rfl <;> rfl) (by omega) (by omega) (by have := hb2.size; simp; omega) ?_; intro v' w3 hown' hg3 hnil3
       have hv3 : w3.heap[Bs]? = some (.cells #[v] 132 (0, 0)) := (hg3.block Bs (by simp; omega) (ne_of hv2 (fun cur e => by first | cases e | exact colP_types (Obj.cells.inj e).2.1))).trans ((Below.heap_alloc _ _ Bs hBlt).trans hv2)
       obtain ⟨hc3, hf3⟩ := box_cell hv3
       obtain ⟨g', cap', cur', rfl, hbase', hgb', hr1, hr2, hr3, hr4⟩ : ∃ g' cap' cur', v' = .slice (some ⟨g', 0, none⟩) (ss.length + 1) cap' ∧ w0.heap.size ≤ g' ∧ w3.heap[g']? = some (.cells cur' 131 (0, 0)) ∧ ss.length + 1 ≤ cap' ∧ cap' ≤ maxLen ∧ cur'.size = cap' * 2 ∧ cur'.toList.take ((ss.length + 1) * 2) = rowsOf prc ss ++ [.int .i64 x.1, .int .i64 x.2] := by
         rcases hown'.2 with ⟨_, h0⟩ | h'
         · exact absurd h0 (by omega)
         · exact h'
       go_frame)
    | (rw [Oper.semAt_eq _ _ _ (fun c h => by cases h)]; go_simp; try go_bits))
  have hg3' : (W2.alloc (.cells #[.int .i64 x.1, .int .i64 x.2] 131)).grownBy w3 v.ownBlock := hg3
  have hL3 : w3.heap[l]? = some (.loop { colPRec fn sv Bs D .ready none with state := .busy }) := (hg3'.block l (by simp; omega) (ne_of hL2 (fun cur e => by cases e))).trans ((Below.heap_alloc _ _ l hl2).trans hL2)
  have hK3 : w3.heap[D]? = some (.deferred (some [])) := (hg3'.block D (by simp; omega) (ne_of hK2 (fun cur e => by cases e))).trans ((Below.heap_alloc _ _ D hDlt).trans hK2)
  obtain ⟨w4, hw4⟩ : ∃ w4, w3.setCell ⟨Bs, 0, none⟩ (.slice (some ⟨g', 0, none⟩) (ss.length + 1) cap') = w4 := ⟨_, rfl⟩
  rw [hw4]
  have hg4 : w3.grownBy w4 (some Bs) := by rw [← hw4]; exact set_grown0 _ _ _
  have hv4 : w4.heap[Bs]? = some (.cells #[.slice (some ⟨g', 0, none⟩) (ss.length + 1) cap'] 132 (0, 0)) := by rw [← hw4]; exact set_box _ hv3
  have hL4 : w4.heap[l]? = some (.loop { colPRec fn sv Bs D .ready none with state := .busy }) := (hg4.block l (Array.getElem?_eq_some_iff.1 hL3).1 (fun e => hBl (by cases e; rfl))).trans hL3
  have hK4 : w4.heap[D]? = some (.deferred (some [])) := (hg4.block D (Array.getElem?_eq_some_iff.1 hK3).1 (fun e => hDB (by cases e; rfl))).trans hK3
  have hrow4 := hown'.kept hg4 (row_ne hown' hv3 (fun cur e => by first | cases e | exact colP_types (Obj.cells.inj e).2.1))
  have hl4 : l < w4.heap.size := (Array.getElem?_eq_some_iff.1 hL4).1
  have hb3 : Below w0.heap.size w0 w3 := (hb2.alloc hb2.size _).grown hg3' (by have := hb2.size; simp; omega) (fun k e => (hrow2.lt k e).1)
  have hb4 : Below w0.heap.size w0 w4 := hb3.grown hg4 hb3.size (fun k e => by cases e; exact h0B)
  have hk4 : KeepsWalks W5 w4 := ((hk2.trans (KeepsWalks.alloc _ _)).trans (KeepsWalks.of_grownBy hg3' (row_not_walk (hrow2.alloc _)))).trans (by rw [← hw4]; exact KeepsWalks.setCell _ _ _)
  clear hw4
  refine ⟨_, _, run_endRound none hL4, rfl, ⟨⟨_, (World.putObj_heap_other hBl).trans hv4, ?_⟩, World.putObj_heap_same hl4, (World.putObj_heap_other hDl).trans hK4, hb4.grown (put_grown _ _ _) hb4.size (fun k e => by cases e; exact h0l)⟩, hk5.trans (hk4.trans (KeepsWalks.putObj _ hL4 rfl))⟩
  have := hrow4.kept (put_grown w4 l (.loop { { colPRec fn sv Bs D .ready none with state := .busy } with state := if (none : Option Code).isNone then .ready else .done, pending := none })) (row_ne hrow4 hL4 (fun cur e => by cases e))
  rw [rowsOf_app, rowsOf_one]; simpa [prc] using this
theorem colP_append (n : Nat) (g : Nat) (lb : Array Value) (eg : ∀ args w, (callFunc g args).run Tryz.prog w = .ok (.enter g args) w)
    (S : List (Int × Int) → Prop) (N : Nat) (hN : N ≤ maxLen) (hNb : N * 16 ≤ 140737488355328) (w : World) (hseq : SeqGives Fence.wide (n - 1) Tryz.prog g lb kPr.v S N w) :
    CallsIn Fence.wide n Tryz.prog 118 #[.slice none 0 0, .func (.func g) #[] lb] w fun e w' => ∃ (v : Value) (ss : List (Int × Int)), e = .returned v ∧ S ss ∧ w'.ownsRow w.heap.size 131 2 v ss.length (rowsOf prc ss) ∧ Below w.heap.size w w' := by
  refine callsIn_of_wp_marks Tryz.func118 rfl trivial ?_ rfl
  simp only [Tryz.ntmps118, List.size_toArray, List.length_cons, List.length_nil, Nat.reduceAdd, Nat.reduceSub, Array.replicate_succ, Array.replicate_zero, List.push_toArray, List.append_toArray, List.nil_append, List.cons_append]
  gi_wp2
  refine wpIn_rangeFunc ?_
  intro fn hfn
  rw [show Fence.wide.round = none from rfl]
  obtain ⟨W0, hW0⟩ : ∃ W0, w.alloc (.cells #[.slice none 0 0] 132) = W0 := ⟨_, rfl⟩
  have hs0 : W0.heap.size = w.heap.size + 1 := by rw [← hW0]; simp
  have hv0 : W0.heap[w.heap.size]? = some (.cells #[.slice none 0 0] 132 (0, 0)) := by rw [← hW0]; exact World.alloc_heap_new w _
  have hb0 : Below w.heap.size w W0 := by rw [← hW0]; exact (Below.refl _ w).alloc (Nat.le_refl _) _
  rw [hW0]
  obtain ⟨W1, hW1⟩ : ∃ W1, (W0.alloc (.deferred (some []))).alloc (.loop (colPRec fn (.func (.func g) #[] lb) w.heap.size W0.heap.size .ready none)) = W1 := ⟨_, rfl⟩
  have hold : ∀ k, k < W0.heap.size → W1.heap[k]? = W0.heap[k]? := fun k hk => by
    rw [← hW1]; exact (Below.heap_alloc _ _ k (by simp; omega)).trans (Below.heap_alloc _ _ k hk)
  have hb1 : Below w.heap.size w W1 := by rw [← hW1]; exact (hb0.alloc hb0.size _).alloc (by have := hb0.size; simp; omega) _
  have hs1 : W1.heap.size = W0.heap.size + 2 := by rw [← hW1]; simp
  have hM : colPAt w fn (.func (.func g) #[] lb) w.heap.size (W0.heap.size + 1) W0.heap.size [] W1 :=
    ⟨⟨_, (hold w.heap.size (by omega)).trans hv0, ⟨rfl, .inl ⟨rfl, rfl⟩⟩⟩,
     by rw [← hW1]; have := World.alloc_heap_new (W0.alloc (.deferred (some []))) (.loop (colPRec fn (.func (.func g) #[] lb) w.heap.size W0.heap.size .ready none)); rwa [World.size_alloc] at this,
     by rw [← hW1]; exact (Below.heap_alloc _ _ _ (by simp)).trans (World.alloc_heap_new W0 _), hb1⟩
  refine ⟨W0.heap.size + 1, [{ target := .collected W0.heap.size, args := #[] }], W1, { target := .fn (.func g) lb, args := #[.func (.yield (W0.heap.size + 1)) #[] #[]] }, W1, g,
    #[.func (.yield (W0.heap.size + 1)) #[] #[]] ++ lb, W1, ?_, ?_, ?_, ?_, (fun h => by cases h), ?_⟩
  · rw [← hW1]; exact run_enterLoop_outer _ _ _ _ _
  · simp [resolve, go_sem]
  · intro f' hf'; trivial
  · simp [invoke, go_sem, eg]
  · refine (hseq (W0.heap.size + 1) (colPAt w fn (.func (.func g) #[] lb) w.heap.size (W0.heap.size + 1) W0.heap.size) W1 hb1 (colP_abides _ _ _ _ _ _ _ hb1.size)
      (fun pre x W hJ hl => colP_yield (n - 1 - 1) w fn _ w.heap.size (W0.heap.size + 1) W0.heap.size (by omega) (by omega) (by omega) (Nat.le_refl _) (by omega) N hN hNb pre x W hJ hl) hM).mono ?_
    rintro e W2 ⟨⟨v0, rfl⟩, ss, hS, h2⟩
    obtain ⟨v, hv, hrow⟩ := h2.box
    have hend := run_endLoop (P := Tryz.prog) h2.L (by simp [colPRec])
    obtain ⟨W3, hW3⟩ : ∃ W3, W2.putObj (W0.heap.size + 1) (.loop { colPRec fn (.func (.func g) #[] lb) w.heap.size W0.heap.size .ready none with state := .exhausted }) = W3 := ⟨_, rfl⟩
    rw [hW3] at hend
    have hg3 : W2.grownBy W3 (some (W0.heap.size + 1)) := by rw [← hW3]; exact put_grown _ _ _
    have hv3 : W3.heap[w.heap.size]? = some (.cells #[v] 132 (0, 0)) := by rw [← hW3]; exact (World.putObj_heap_other (by omega)).trans hv
    have hK3 : W3.heap[W0.heap.size]? = some (.deferred (some [])) := by rw [← hW3]; exact (World.putObj_heap_other (by omega)).trans h2.K
    have hrow3 := hrow.kept hg3 (row_ne hrow h2.L (fun cur e => by cases e))
    have hb3 : Below w.heap.size w W3 := h2.below.grown hg3 h2.below.size (fun k e => by cases e; omega)
    obtain ⟨hc3, hf3⟩ := box_cell hv3
    clear hW3
    refine ⟨none, W3, hend, ?_⟩
    gi_wp2
    rw [← hs0]
    refine ⟨by simp, .inl ⟨_, _, rfl, run_takeDeferred hK3, ?_⟩⟩
    exact ⟨_, results_tmp rfl _ _ _, v, ss, rfl, hS, hrow3.kept (put_grown _ _ _) (row_ne hrow3 hK3 (fun cur e => by cases e)), hb3.grown (put_grown _ _ _) hb3.size (fun k e => by cases e; omega)⟩
theorem colP_any (g : Nat) (lb : Array Value) (eg : ∀ args w, (callFunc g args).run Tryz.prog w = .ok (.enter g args) w)
    (S : List (Int × Int) → Prop) (N : Nat) (hN : N ≤ maxLen) (hNb : N * 16 ≤ 140737488355328) (w : World) (hseq : ∀ m, SeqGives Fence.wide m Tryz.prog g lb kPr.v S N w) :
    Calls Tryz.prog 96 #[.func (.func g) #[] lb] w fun e w' => ∃ (v : Value) (ss : List (Int × Int)), e = .returned v ∧ S ss ∧ w'.ownsRow w.heap.size 131 2 v ss.length (rowsOf prc ss) ∧ Wb.Ext w w' := by
  have hcall : Calls Tryz.prog 118 #[.slice none 0 0, .func (.func g) #[] lb] w fun e w' => ∃ (v : Value) (ss : List (Int × Int)), e = .returned v ∧ S ss ∧ w'.ownsRow w.heap.size 131 2 v ss.length (rowsOf prc ss) ∧ Below w.heap.size w w' :=
    callsIn_wide.1 (colP_append 5 g lb eg S N hN hNb w (hseq 4))
  go_enter Tryz.func96, Tryz.ntmps96
  go_wp2_with (go_at_call 118; refine hcall.mono ?_; rintro e w' ⟨v, ss, rfl, hS, hrow, hb⟩)
  go_ret
  exact ⟨v, ss, rfl, hS, hrow, hb⟩
end Go.Proofs.YtnefdpnolojojaaGreatDoor
namespace Go.Proofs.YtnefdpnolojojaaGreatDoor
open Go.RowKit Go.Sort Go.Lib Go.Maps
set_option maxRecDepth 8000
attribute [local go_sem ↓] Go.wp_at_zero Go.wp_at_succ
theorem cmpI_lt {a b : Int} (h : a < b) : cmpI a b = -1 := by simp [cmpI, h]
theorem cmpI_gt {a b : Int} (h : b < a) : cmpI a b = 1 := by
  have : ¬ a < b := by omega
  simp [cmpI, h, this]
theorem cmpI_eq (a : Int) : cmpI a a = 0 := by simp [cmpI]
theorem cmpSl_any (a b : Int × Int) (X Y : Nat) (w : World) (x0 : w.cell? ⟨X, 0, none⟩ = some (.int .i64 a.1)) (x1 : w.cell? ⟨X, 1, none⟩ = some (.int .i64 a.2)) (y0 : w.cell? ⟨Y, 0, none⟩ = some (.int .i64 b.1)) (y1 : w.cell? ⟨Y, 1, none⟩ = some (.int .i64 b.2)) :
    Calls Tryz.prog 67 #[.slice (some ⟨X, 0, none⟩) 2 2, .slice (some ⟨Y, 0, none⟩) 2 2] w fun e w' => e = .returned (.int .i64 (cmpP a b)) ∧ w' = w := by
  go_enter Tryz.func67, Tryz.ntmps67
  go_wp2_with fail
  go_loopw [11] (fun iv wr => ∃ k : Nat, iv = .int .i64 k ∧ k ≤ 2 ∧ Hid ((1 ≤ k → a.1 = b.1) ∧ (2 ≤ k → a.2 = b.2)) ∧ wr = w) (fun iv _ => 2 - (intOf iv).toNat)
  case atStart => exact ⟨0, rfl, by omega, Lib.hid ⟨fun h => by omega, fun h => by omega⟩, rfl⟩
  case round =>
    obtain ⟨k, rfl, hk, HE, rfl⟩ := hrel
    have hk' : k = 0 ∨ k = 1 ∨ k = 2 := by omega
    rcases hk' with rfl | rfl | rfl
    · go_wp2_with fail
      go_fit (cmpi_any a.1 b.1 _); rintro e w1 ⟨rfl, rfl⟩
      rcases Int.lt_trichotomy a.1 b.1 with h | h | h
      · have HF := Lib.hid (show cmpP a b = -1 by unfold cmpP orI; rw [cmpI_lt h]; rfl)
        rw [cmpI_lt h]
        clear h
        go_wp2
        refine bodyPost_ret (v := .int .i64 (-1)) (by simp [results, Tryz.results67, go_sem]) rfl ⟨by rw [HF.out], rfl⟩
      · have HH := Lib.hid h
        rw [h, cmpI_eq]
        clear h
        go_wp2
        go_roundw
        case rel => exact ⟨1, rfl, by omega, Lib.hid ⟨fun _ => HH.out, fun h => by omega⟩, by first | rfl | trivial⟩
        case measure => simp [intOf]
      · have HF := Lib.hid (show cmpP a b = 1 by unfold cmpP orI; rw [cmpI_gt h]; rfl)
        rw [cmpI_gt h]
        clear h
        go_wp2
        refine bodyPost_ret (v := .int .i64 1) (by simp [results, Tryz.results67, go_sem]) rfl ⟨by rw [HF.out], rfl⟩
    · go_wp2_with fail
      go_fit (cmpi_any a.2 b.2 _); rintro e w1 ⟨rfl, rfl⟩
      have hE := HE.out.1 (by omega)
      rcases Int.lt_trichotomy a.2 b.2 with h | h | h
      · have HF := Lib.hid (show cmpP a b = -1 by unfold cmpP orI; rw [hE, cmpI_eq, cmpI_lt h]; rfl)
        rw [cmpI_lt h]
        clear h hE
        go_wp2
        refine bodyPost_ret (v := .int .i64 (-1)) (by simp [results, Tryz.results67, go_sem]) rfl ⟨by rw [HF.out], rfl⟩
      · have HH := Lib.hid h
        have HE1 := Lib.hid hE
        rw [h, cmpI_eq]
        clear h hE
        go_wp2
        go_roundw
        case rel => exact ⟨2, rfl, by omega, Lib.hid ⟨fun _ => HE1.out, fun _ => HH.out⟩, by first | rfl | trivial⟩
        case measure => simp [intOf]
      · have HF := Lib.hid (show cmpP a b = 1 by unfold cmpP orI; rw [hE, cmpI_eq, cmpI_gt h]; rfl)
        rw [cmpI_gt h]
        clear h hE
        go_wp2
        refine bodyPost_ret (v := .int .i64 1) (by simp [results, Tryz.results67, go_sem]) rfl ⟨by rw [HF.out], rfl⟩
    · have HF := Lib.hid (show cmpP a b = 0 by unfold cmpP orI; rw [HE.out.1 (by omega), HE.out.2 (by omega), cmpI_eq, cmpI_eq]; rfl)
      go_wp2
      refine bodyPost_ret (v := .int .i64 0) (by simp [results, Tryz.results67, go_sem]) rfl ⟨by rw [HF.out], rfl⟩
theorem grow2d (w : World) (a b : Obj) (n : Nat) : ((w.alloc a).alloc b).drewN n = grow (w.drewN n) #[a, b] := by
  rw [alloc_eq_grow, alloc_eq_grow, grow_grow]; rfl
theorem cmp31_any (a b : Int × Int) (w : World) :
    Calls Tryz.prog 66 #[PrV a, PrV b] w fun e w' => e = .returned (.int .i64 (cmpP a b)) ∧ ∃ q os', w' = grow (w.drewN q) os' := by
  unfold PrV
  go_enter Tryz.func66, Tryz.ntmps66
  go_upto_region 1 with (fail)
  refine Wb.wp_at fun W0 hW0 => ?_
  have z0 : W0.cell? ⟨w.heap.size, 0, none⟩ = some (.int .i64 a.1) := by rw [hW0]; simp [go_sem]
  have z1 : W0.cell? ⟨w.heap.size, 1, none⟩ = some (.int .i64 a.2) := by rw [hW0]; simp [go_sem]
  have y0 : W0.cell? ⟨w.heap.size + 1, 0, none⟩ = some (.int .i64 b.1) := by rw [hW0]; simp [go_sem]
  have y1 : W0.cell? ⟨w.heap.size + 1, 1, none⟩ = some (.int .i64 b.2) := by rw [hW0]; simp [go_sem]
  have HW0 := Lib.hid hW0
  clear hW0
  go_quiet (first | (go_at_call 67; refine Calls.quiet_of_same (cmpSl_any a b w.heap.size (w.heap.size + 1) _ (by assumption) (by assumption) (by assumption) (by assumption))))
  go_wp2
  go_ret
  exact ⟨rfl, _, _, by rw [HW0.out]; exact grow2d _ _ _ _⟩
theorem ahead31_sort (base : Nat) (v : Value) (l : List (Int × Int)) (w : World) (h : w.ownsRow base 131 2 v l.length (rowsOf prc l)) (hl : l.length ≤ 1000000) :
    Calls Tryz.prog 97 #[v, .func (.func 66) #[] #[]] w fun e w' => e = .returned (.tuple #[]) ∧ ∃ l' : List (Int × Int), l'.Perm l ∧ l'.Pairwise (fun a b => prLt b a = false) ∧ w'.ownsRow base 131 2 v l.length (rowsOf prc l') ∧ w.grownBy w' v.ownBlock := by
  by_cases hv : v = .slice none 0 0
  · subst hv
    obtain ⟨_, ⟨_, h0⟩ | ⟨g, cap, cur, hv', _⟩⟩ := id h
    · obtain rfl : l = [] := List.length_eq_zero_iff.1 h0
      refine (AnyF.slices_SortFunc_none Tryz.sortPair none 0 _ w).mono fun e w' hh => ?_
      obtain ⟨rfl, rfl⟩ := hh
      exact ⟨rfl, [], .refl _, .nil, own_none, Wb.grownBy_refl _ _⟩
    · cases hv'
  · have hlt := h.lt
    obtain ⟨hn, h2 | ⟨g, cap, cur, rfl, hb, hg, hc, hm, hs, hx⟩⟩ := id h
    · exact absurd h2.1 hv
    have hgs := (hlt g rfl).2
    have hF := flat_of (by decide) prc prc_len l
    have hH : HoldsK prc 2 w g 0 l.toArray := by
      intro j hj
      rw [hF] at hj ⊢
      have hj' : j < (rowsOf prc l).length := by simpa using hj
      refine ⟨?_, own_free h _⟩
      obtain ⟨g', cap', hvv, _, _, _, hcell⟩ := Wb.ownsRow_at h hv
      cases hvv
      rw [Nat.zero_add, hcell j _ (List.getElem?_eq_getElem hj'), getElem!_pos (rowsOf prc l).toArray j hj]
      rfl
    have eg : ∀ args w, (callFunc 66 args).run Tryz.prog w = .ok (.enter 66 args) w := enters_of Tryz.func66 (by kernel_rfl) rfl
    have hcl : CmpLays Tryz.prog 66 #[] prc 2 cmpP g 0 l.toArray.size w := fun _ _ _ _ x y => cmp31_any x y _
    have hcon := AnyQ.slices_SortFunc Tryz.sortPair 2 Tryz.isAgg131 Tryz.sizeOf131 prc (fun _ => rfl) (fun x v hv => by simp [prc] at hv; rcases hv with rfl | rfl <;> rfl) cmpP swo_pr 66 #[] g 0 cap l.toArray w eg hcl hH hgs (by simp; omega)
    rw [show l.toArray.size = l.length by simp] at hcon
    refine hcon.mono fun e w' hh => ?_
    obtain ⟨rfl, d', n, os, hp, hso, rfl⟩ := hh
    obtain ⟨p1, _, p3⟩ := hp
    have hd : d'.size = l.length := by simpa using p1
    have e1 : d'.extract 0 l.length = d' := by rw [← hd]; simp
    have e2 : l.toArray.extract 0 l.length = l.toArray := by simp
    rw [e1, e2] at p3
    have hdt : d' = d'.toList.toArray := by simp
    refine ⟨rfl, d'.toList, by simpa using p3, ?_, ?_, ?_⟩
    · rw [List.pairwise_iff_getElem]
      intro i j hi hj hij
      have hi' : i < d'.size := by simpa using hi
      have hj' : j < d'.size := by simpa using hj
      have := hso i j (Nat.zero_le _) hij (by rw [← hd]; exact hj')
      rw [lt_pr, getElem!_pos d' i hi', getElem!_pos d' j hj'] at this
      simpa using this
    · rw [sortWorldK, putRowK, hdt, flat_of (by decide) prc prc_len]
      have hrl : (rowsOf prc d'.toList).length = l.length * 2 := by rw [rowsOf_length prc_len]; simp [hd]
      refine ⟨hrl, .inr ⟨g, cap, _, rfl, hb, heap_putId _ hg, hc, hm, by simp [putCells, hs], ?_⟩⟩
      rw [← hrl]
      exact take_putId _ _ (by rw [hrl, hs]; omega)
    · rw [sortWorldK, putRowK]
      exact grown_putId _
end Go.Proofs.YtnefdpnolojojaaGreatDoor
namespace Go.Proofs.YtnefdpnolojojaaGreatDoor
open Go.RowKit Go.Sort Go.Lib Go.Maps
set_option maxRecDepth 8000
attribute [local go_sem ↓] Go.wp_at_zero Go.wp_at_succ
theorem wpList_append_row2 {P : Program} {w : World} {ops : Array Oper} {rest : List Oper} {o : Oper} {a : Act} {Q : Exit → Act → World → Prop} (hgd : o.guard = none) (s x : Operand) (t : TypeId)
    (ho : o.op = .call { callee := .builtin .append, args := #[s, x], argTypes := #[t, t] })
    (base : Nat) (e : TypeId) (i : TypeInfo) (z : Value) (size bytes : Nat) (ht : P.underlying t = some (.slice e)) (hi : P.info? e = some i) (hz : i.zero = some z)
    (hsize : i.size = size) (hby : i.bytes = bytes) (hzs : z.cells.size = size) (hsz : 0 < size)
    (v : Value) (n : Nat) (xs : List Value) (hs : a.eval s = v) (hown : w.ownsRow base e size v n xs)
    (xv : Value) (hx : a.eval x = xv) (m : Nat) (news : List Value) (hsrc : Wb.SrcRow w size xv m news) (h1 : ∀ u ∈ news, u.oneCell' = true)
    (h63 : n + m ≤ maxLen) (hbytes : (n + m) * bytes ≤ 140737488355328) (hbase : base ≤ w.heap.size)
    (h : ∀ v' w', w'.ownsRow base e size v' (n + m) (xs ++ news) → w.grownBy w' v.ownBlock → (v'.ownBlock = v.ownBlock ∨ v'.ownBlock = some w.heap.size) → wpList P ops Q rest (a.put o.dst v') w') : wpList P ops Q (o :: rest) a w := by
  refine wpList_plain hgd fun K' hK' => ?_
  exact Wb.wp_append_row s x t ho base e i z size bytes ht hi hz hsize hby hzs hsz v n xs hs hown xv hx m news hsrc h1 h63 hbytes hbase (fun v' w' h1 h2 h3 => hK' _ _ (h v' w' h1 h2 h3))
end Go.Proofs.YtnefdpnolojojaaGreatDoor
