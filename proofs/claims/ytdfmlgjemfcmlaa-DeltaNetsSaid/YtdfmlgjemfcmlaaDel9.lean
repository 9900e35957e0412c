/- slices.Compact of periods. -/
import Derived.Test.YtdfmlgjemfcmlaaPlain29f
import Derived.Test.YtdfmlgjemfcmlaaTbl
import Derived.Lib.SliceRun
import Derived.Laws.StructEq
import Derived.Laws.Cover2
import Derived.Lib.LazyBuf
import Derived.Deep.QuietTactic
import Derived.BigQuiet
import Derived.Deep.DeepCutAuto
import Derived.IntWalk
namespace Go.Proofs.Ytdfmlgjemfcmlaa
open Go.RowKit Go.Lib
set_option maxRecDepth 8000
attribute [local go_sem ↓] Go.wp_at_zero Go.wp_at_succ

namespace Wb
theorem cpt_two (a b : Int × Int) (r : List (Int × Int)) : cpt (a :: b :: r) = if a = b then cpt (b :: r) else a :: cpt (b :: r) := rfl
theorem cpt_one (a : Int × Int) : cpt [a] = [a] := rfl
theorem cpt_snoc (y x : Int × Int) : ∀ l : List (Int × Int), cpt (l ++ [y, x]) = if y = x then cpt (l ++ [y]) else cpt (l ++ [y]) ++ [x]
  | [] => by
    simp only [List.nil_append, cpt_two, cpt_one]
    split
    · rename_i h; rw [h]
    · rfl
  | [a] => by
    simp only [List.cons_append, List.nil_append, cpt_two, cpt_one]
    by_cases h : a = y <;> by_cases k : y = x <;> simp [h, k]
  | a :: b :: r => by
    have ih := cpt_snoc y x (b :: r)
    simp only [List.cons_append] at ih ⊢
    rw [cpt_two, ih, cpt_two]
    by_cases h : a = b <;> by_cases k : y = x <;> simp [h, k]
theorem cpt_take {l : List (Int × Int)} {i : Nat} {y x : Int × Int} (hy : l[i]? = some y) (hx : l[i + 1]? = some x) : cpt (l.take (i + 2)) = if y = x then cpt (l.take (i + 1)) else cpt (l.take (i + 1)) ++ [x] := by
  obtain ⟨p1, p2⟩ := List.getElem?_eq_some_iff.1 hy
  obtain ⟨p3, p4⟩ := List.getElem?_eq_some_iff.1 hx
  have e1 : l.take (i + 1) = l.take i ++ [y] := by rw [List.take_succ_eq_append_getElem p1, p2]
  have e2 : l.take (i + 2) = l.take i ++ [y, x] := by rw [List.take_succ_eq_append_getElem p3, p4, e1, List.append_assoc]; rfl
  rw [e2, e1, cpt_snoc]
theorem cpt_len : ∀ l : List (Int × Int), (cpt l).length ≤ l.length
  | [] => Nat.le_refl _
  | [x] => Nat.le_refl _
  | x :: y :: r => by
    have := cpt_len (y :: r)
    rw [cpt]
    split
    · simp only [List.length_cons] at this ⊢; omega
    · simp only [List.length_cons] at this ⊢; omega
/-- within the inner loop: i are looked at, k are kept, the rest stands -/
structure CI (l : List (Int × Int)) (i k : Nat) (m : List (Int × Int)) : Prop where
  len : m.length = l.length
  kept : m.take k = cpt (l.take i)
  lt : k + 1 ≤ i
  rest : ∀ j, k ≤ j → m[j]? = l[j]?
theorem CI.start {l : List (Int × Int)} {i : Nat} {y : Int × Int} (hp : cpt (l.take (i + 1)) = l.take (i + 1)) (hy : l[i]? = some y) (hx : l[i + 1]? = some y) : CI l (i + 2) (i + 1) l :=
  ⟨rfl, by rw [cpt_take hy hx, if_pos rfl, hp], by omega, fun _ _ => rfl⟩
theorem CI.skip {l m : List (Int × Int)} {i k : Nat} {y : Int × Int} (h : CI l (i + 1) k m) (hy : l[i]? = some y) (hx : l[i + 1]? = some y) : CI l (i + 2) k m :=
  ⟨h.len, by rw [cpt_take hy hx, if_pos rfl]; exact h.kept, by have := h.lt; omega, h.rest⟩
theorem CI.keep {l m : List (Int × Int)} {i k : Nat} {y x : Int × Int} (h : CI l (i + 1) k m) (hy : l[i]? = some y) (hx : l[i + 1]? = some x) (hne : ¬ y = x) : CI l (i + 2) (k + 1) (m.set k x) := by
  have hk : k < m.length := by have := h.lt; have := (List.getElem?_eq_some_iff.1 hx).1; rw [h.len]; omega
  refine ⟨by rw [List.length_set]; exact h.len, ?_, by have := h.lt; omega, fun j hj => ?_⟩
  · rw [cpt_take hy hx, if_neg hne, ← h.kept, List.take_succ_eq_append_getElem (by rw [List.length_set]; exact hk), List.take_set_of_le (Nat.le_refl _)]
    simp
  · rw [List.getElem?_set_ne (by omega)]; exact h.rest j (by omega)
end Wb
/-- pairs in memory -/
def PairsC (w : World) (b off : Nat) (m : List (Int × Int)) : Prop := ∀ j p, m[j]? = some p → w.cell? ⟨b, off + j * 2, none⟩ = some (.int .i64 p.1) ∧ w.cell? ⟨b, off + j * 2 + 1, none⟩ = some (.int .i64 p.2)
theorem PairsC.drewN {w : World} {b off : Nat} {m : List (Int × Int)} (h : PairsC w b off m) (n : Nat) : PairsC (w.drewN n) b off m := fun j p hj => h j p hj
theorem PairsC.put {w : World} {b off k : Nat} {m : List (Int × Int)} {p p0 : Int × Int} (h : PairsC w b off m) (hk : m[k]? = some p0) :
    PairsC ((w.setCell ⟨b, off + k * 2, none⟩ (.int .i64 p.1)).setCell ⟨b, off + k * 2 + 1, none⟩ (.int .i64 p.2)) b off (m.set k p) := by
  intro j q hj
  by_cases e : k = j
  · subst e
    have hlt := (List.getElem?_eq_some_iff.1 hk).1
    rw [List.getElem?_set_self hlt] at hj
    obtain rfl := Option.some.inj hj
    obtain ⟨h1, h2⟩ := h k p0 hk
    refine ⟨?_, ?_⟩
    · rw [World.cell?_setCell_other _ _ _ _ (by intro e; injection e with _ e2 _; omega)]
      simp [go_sem, h1]
    · have h3 : (w.setCell ⟨b, off + k * 2, none⟩ (.int .i64 p.1)).cell? ⟨b, off + k * 2 + 1, none⟩ = some (.int .i64 p0.2) := by
        rw [World.cell?_setCell_other _ _ _ _ (by intro e; injection e with _ e2 _; omega)]; exact h2
      simp [go_sem, h3]
  · rw [List.getElem?_set_ne e] at hj
    obtain ⟨h1, h2⟩ := h j q hj
    refine ⟨?_, ?_⟩
    · rw [World.cell?_setCell_other _ _ _ _ (by intro e; injection e with _ e2 _; omega), World.cell?_setCell_other _ _ _ _ (by intro e; injection e with _ e2 _; omega)]; exact h1
    · rw [World.cell?_setCell_other _ _ _ _ (by intro e; injection e with _ e2 _; omega), World.cell?_setCell_other _ _ _ _ (by intro e; injection e with _ e2 _; omega)]; exact h2
@[go_sem] theorem eqPair (a b c d : Int) (w : World) : (Op.equalIn 10000 76 (.agg #[.int .i64 a, .int .i64 b]) (.agg #[.int .i64 c, .int .i64 d])).run Try.prog w = .ok (a == c && b == d) w := by
  have u3 := Try.underlying3
  have a3 := Try.isAgg3
  have z3 := Try.sizeOf3
  rw [show (10000 : Nat) = 9999 + 1 from rfl, Op.equalIn]
  simp only [Sem.run_bind, run_underlying Try.underlying76, Result.andThen_ok]
  simp only [Std.Legacy.Range.forIn_eq_forIn_range', Std.Legacy.Range.size, Nat.sub_zero, Nat.add_sub_cancel, Nat.div_one, List.range'_succ, List.range'_zero, List.forIn_cons, List.forIn_nil]
  go_simp
  by_cases h1 : a = c <;> by_cases h2 : b = d <;> simp [h1, h2]
theorem zeroPair (u : World) : (zeroValue 76).run Try.prog u = .ok (.agg #[.int .i64 0, .int .i64 0]) u := by kernel_rfl
theorem run_clear2 (w : World) (ty : TypeId) (b o n c : Nat) (hn : 0 < n) (hc : ∀ j, j < n * 2 → (w.cell? ⟨b, o + j, none⟩).isSome = true) (hf : ∀ j, j < n * 2 → w.frozen? ⟨b, o + j, none⟩ = false) :
    (Builtin.clear_ #[74] ty #[.slice (some ⟨b, o, none⟩) n c]).run Try.prog w = .ok (.tuple #[]) (w.setCells b o (List.replicate (n * 2) (.int .i64 0))) := by
  have hzc : (Builtin.zeroCells (Value.cells (.agg #[.int .i64 0, .int .i64 0])) n).toList = List.replicate (n * 2) (.int .i64 0) := by
    simp [Builtin.zeroCells, Value.cells]
    apply List.ext_getElem
    · simp
    · intro i h1 h2
      have hi : i % 2 = 0 ∨ i % 2 = 1 := by omega
      rcases hi with hi | hi <;> simp [hi]
  have hst := run_storeCells_cells (P := Try.prog) b o (List.replicate (n * 2) (.int .i64 0)) 0 w (by simpa using hc) (by simpa using hf) (by intro v hv'; rw [List.eq_of_mem_replicate hv']; rfl)
  simp only [Nat.add_zero] at hst
  obtain ⟨m, rfl⟩ : ∃ m, n = m + 1 := ⟨n - 1, by omega⟩
  simp [Builtin.clear_, run_underlying Try.underlying74, zeroPair, hzc, hst]
/-- what is left of a nil slice, or of one period -/
theorem compact_few (a : Option Addr) (n c : Nat) (w : World) (h : n < 2) :
    Calls Try.prog 67 #[.slice a n c] w fun e w' => e = .returned (.slice a n c) ∧ w = w' := by
  have d : decide ((n : Int) < 2) = true := by simp; omega
  go_enter Try.func67, Try.ntmps67
  go_wp2
  go_ret
  exact ⟨rfl, by first | rfl | trivial⟩
set_option maxHeartbeats 4000000 in
theorem compact_many (w0 : World) (b off c : Nat) (l : List (Int × Int)) (w : World) (h2 : 2 ≤ l.length) (hl : l.length ≤ 1000000) (hcap : l.length ≤ c) (hc : PairsC w b off l) (hf : ∀ j, w.frozen? ⟨b, j, none⟩ = false) (hb : w0.heap.size ≤ b) (hx : Wb.Ext w0 w) :
    Calls Try.prog 67 #[.slice (some ⟨b, off, none⟩) l.length c] w fun e w' => e = .returned (.slice (some ⟨b, off, none⟩) (Wb.cpt l).length c) ∧ PairsC w' b off (Wb.cpt l) ∧ Wb.Ext w0 w' := by
  have HC := Lib.hid hc
  have hF := hf
  clear hc hf
  have d : decide ((l.length : Int) < 2) = false := by simp; omega
  go_enter Try.func67, Try.ntmps67
  go_wp2_with fail
  go_loopw [3] (fun kv wr => ∃ k : Nat, 1 ≤ k ∧ k ≤ l.length ∧ kv = .int .i64 k ∧ Hid (Wb.cpt (l.take k) = l.take k) ∧ Hid (PairsC wr b off l) ∧ (∀ j, wr.frozen? ⟨b, j, none⟩ = false) ∧ Wb.Ext w0 wr) (fun kv _ => l.length - (intOf kv).toNat)
  case atStart => exact ⟨1, Nat.le_refl _, by omega, rfl, Lib.hid (by obtain ⟨x, r, rfl⟩ : ∃ x r, l = x :: r := (by cases l with | nil => simp at h2 | cons x r => exact ⟨x, r, rfl⟩); rfl), HC, hF, hx⟩
  case round =>
    clear HC hF hx
    obtain ⟨k, hk1, hk, rfl, HP, HC, hF, hx⟩ := hrel
    obtain ⟨i, hi⟩ : ∃ i, k = i + 1 := ⟨k - 1, by omega⟩
    by_cases hlt : k < l.length
    case neg =>
      have hk2 : k = l.length := by omega
      subst hk2
      have HE := Lib.hid (show Wb.cpt l = l by have := HP.out; rw [List.take_length] at this; exact this)
      go_wp2
      refine bodyPost_ret (v := .slice (some ⟨b, off, none⟩) l.length c) (by simp [results, Try.results67, go_sem]) rfl ⟨by rw [HE.out], by rw [HE.out]; exact HC.out, hx⟩
    obtain ⟨y, hy⟩ := Wb.get_ex (show i < l.length by omega)
    obtain ⟨x, hx1⟩ := Wb.get_ex hlt
    obtain ⟨y0, y1⟩ := HC.out i y hy
    obtain ⟨x0, x1⟩ := HC.out k x hx1
    rw [show i = k - 1 by omega] at y0 y1
    have HP' := Lib.hid (show Wb.cpt (l.take (i + 1)) = l.take (i + 1) by rw [← hi]; exact HP.out)
    have HY := Lib.hid hy
    have HX := Lib.hid (show l[i + 1]? = some x by rw [← hi]; exact hx1)
    have hki : (k : Int) < l.length := by omega
    have hkw : IntKind.i64.wrap ((k : Int) - 1) = ((k - 1 : Nat) : Int) := by rw [IntWalk.i64_in _ (by omega)]; omega
    have hkm : ((k - 1 : Nat) : Int) < l.length := by omega
    have HI0 := Lib.hid hi
    clear hy hx1 hi
    obtain ⟨p, q⟩ := x
    obtain ⟨p', q'⟩ := y
    simp only at x0 x1 y0 y1
    by_cases hdup : p = p' ∧ q = q'
    case neg =>
      have hdb : (p == p' && q == q') = false := by simpa using hdup
      have HN := Lib.hid (show Wb.cpt (l.take (k + 1)) = l.take (k + 1) by
        rw [HI0.out, Wb.cpt_take HY.out HX.out, if_neg (by intro e; injection e with e1 e2; exact hdup ⟨e1.symm, e2.symm⟩), HP'.out]
        obtain ⟨p3, p4⟩ := List.getElem?_eq_some_iff.1 HX.out
        rw [List.take_succ_eq_append_getElem p3, p4])
      go_wp2_with fail
      go_quiet (fail)
      go_wp2
      go_roundw
      case rel => exact ⟨k + 1, by omega, by omega, by go_num, HN, Lib.hid (HC.out.drewN _), fun j => hF j, by (repeat' (first | (with_reducible assumption) | (with_reducible exact Wb.Ext.refl _) | (with_reducible refine Wb.Ext.drew ?_) | (with_reducible refine Wb.Ext.drewN ?_ _) | (with_reducible refine Wb.Ext.alloc ?_ _) | (with_reducible refine Wb.Ext.trans ?_ (by assumption))))⟩
      case measure => first | (simp [intOf]; done) | (simp [intOf]; omega)
    obtain ⟨rfl, rfl⟩ := hdup
    have HI := Lib.hid (show Wb.CI l (k + 1) k l by rw [HI0.out]; exact Wb.CI.start HP'.out HY.out HX.out)
    go_wp2_with fail
    go_quiet (fail)
    go_wp2_with fail
    go_loopw [3, 5] (fun kv iv wr => ∃ (kk k2 : Nat) (m : List (Int × Int)), kv = .int .i64 kk ∧ iv = .int .i64 k2 ∧ 1 ≤ k2 ∧ k + k2 ≤ l.length ∧ Hid (Wb.CI l (k + k2) kk m) ∧ Hid (PairsC wr b off m) ∧ (∀ j, wr.frozen? ⟨b, j, none⟩ = false) ∧ Wb.Ext w0 wr) (fun _ iv _ => l.length - (intOf iv).toNat)
    case atStart => exact ⟨k, 1, l, rfl, rfl, Nat.le_refl _, by omega, HI, Lib.hid (HC.out.drewN _), fun j => hF j, by (repeat' (first | (with_reducible assumption) | (with_reducible exact Wb.Ext.refl _) | (with_reducible refine Wb.Ext.drew ?_) | (with_reducible refine Wb.Ext.drewN ?_ _) | (with_reducible refine Wb.Ext.alloc ?_ _) | (with_reducible refine Wb.Ext.trans ?_ (by assumption))))⟩
    case round =>
      clear HI HC hF hx x0 x1 y0 y1 HP HP' HY HX
      obtain ⟨kk, k2, m, rfl, rfl, hk21, hle, HI, HC, hF, hx⟩ := hrel
      have hkk : kk + 1 ≤ k + k2 := HI.out.lt
      by_cases hlt2 : k + k2 < l.length
      case neg =>
        have hend : k + k2 = l.length := by omega
        have d3 : decide ((k2 : Int) < (l.length : Int) - (k : Int)) = false := by simp; omega
        have hkl : kk < l.length := by omega
        have hml := HI.out.len
        have hEq : m.take kk = Wb.cpt l := by have := HI.out.kept; rw [hend, List.take_length] at this; exact this
        have hkn : (Wb.cpt l).length = kk := by rw [← hEq, List.length_take]; omega
        have hcl : ∀ ty, (Builtin.clear_ #[74] ty #[.slice (some ⟨b, off + kk * 2, none⟩) (l.length - kk) (c - kk)]).run Try.prog wr = .ok (.tuple #[]) (wr.setCells b (off + kk * 2) (List.replicate ((l.length - kk) * 2) (.int .i64 0))) := fun ty => by
          refine run_clear2 wr ty b (off + kk * 2) (l.length - kk) (c - kk) (by omega) (fun j hj => ?_) (fun j _ => hF _)
          obtain ⟨p, hp⟩ := Wb.get_ex (show kk + j / 2 < m.length by omega)
          obtain ⟨h1, h2⟩ := HC.out _ p hp
          have hj2 : j % 2 = 0 ∨ j % 2 = 1 := by omega
          rcases hj2 with hj2 | hj2
          · rw [show off + kk * 2 + j = off + (kk + j / 2) * 2 by omega, h1]; rfl
          · rw [show off + kk * 2 + j = off + (kk + j / 2) * 2 + 1 by omega, h2]; rfl
        have HPC : Hid (PairsC (wr.setCells b (off + kk * 2) (List.replicate ((l.length - kk) * 2) (.int .i64 0))) b off (Wb.cpt l)) := Lib.hid (fun j p hj => by
          have hjk : j < kk := by have := (List.getElem?_eq_some_iff.1 hj).1; omega
          rw [← hEq, List.getElem?_take, if_pos hjk] at hj
          obtain ⟨h1, h2⟩ := HC.out j p hj
          rw [World.cell?_setCells_out _ _ _ _ _ (fun _ _ => .inl (by simp only; omega)), World.cell?_setCells_out _ _ _ _ _ (fun _ _ => .inl (by simp only; omega))]
          exact ⟨h1, h2⟩)
        have HEX := Lib.hid (show Wb.Ext w0 (wr.setCells b (off + kk * 2) (List.replicate ((l.length - kk) * 2) (.int .i64 0))) from below_setCells hb _ _ _ hx)
        have HKN := Lib.hid hkn
        have hkc : ¬ c < kk := by omega
        have hki9 : (kk : Int) < l.length := by omega
        clear hEq hkn hml
        go_wp2
        refine bodyPost_ret (v := .slice (some ⟨b, off, none⟩) kk c) (by simp [results, Try.results67, go_sem]) rfl ⟨by rw [HKN.out], HPC.out, HEX.out⟩
      obtain ⟨i2, hi2⟩ : ∃ i2, k + k2 = i2 + 1 := ⟨k + k2 - 1, by omega⟩
      obtain ⟨v, hv⟩ := Wb.get_ex (show i2 < l.length by omega)
      obtain ⟨u, hu⟩ := Wb.get_ex (show i2 + 1 < l.length by omega)
      obtain ⟨o, ho⟩ := Wb.get_ex (show kk < m.length by rw [HI.out.len]; omega)
      have mv : m[i2]? = some v := by rw [HI.out.rest i2 (by omega)]; exact hv
      have mu : m[i2 + 1]? = some u := by rw [HI.out.rest (i2 + 1) (by omega)]; exact hu
      obtain ⟨v0, v1⟩ := HC.out i2 v mv
      obtain ⟨u0, u1⟩ := HC.out (i2 + 1) u mu
      obtain ⟨o0, o1⟩ := HC.out kk o ho
      rw [show off + i2 * 2 = off + k * 2 + (k2 - 1) * 2 by omega] at v0 v1
      rw [show off + (i2 + 1) * 2 = off + k * 2 + k2 * 2 by omega] at u0 u1
      have HV := Lib.hid hv
      have HU := Lib.hid hu
      have HO := Lib.hid ho
      have hkw2 : IntKind.i64.wrap ((k2 : Int) - 1) = ((k2 - 1 : Nat) : Int) := by rw [IntWalk.i64_in _ (by omega)]; omega
      have hkm2 : ((k2 - 1 : Nat) : Int) < (l.length : Int) - (k : Int) := by omega
      have hkm3 : k2 - 1 < l.length - k := by omega
      have hk2i : (k2 : Int) < (l.length : Int) - (k : Int) := by omega
      have d3 : decide ((k2 : Int) < (l.length : Int) - (k : Int)) = true := by simp; omega
      have hkki : (kk : Int) < l.length := by omega
      rw [hi2] at HI
      have HI2 := Lib.hid hi2
      clear hi2
      clear hv hu ho mv mu
      obtain ⟨u', u''⟩ := u
      obtain ⟨v', v''⟩ := v
      simp only at u0 u1 v0 v1
      by_cases hdup : u' = v' ∧ u'' = v''
      · obtain ⟨rfl, rfl⟩ := hdup
        have HN := Lib.hid (show Wb.CI l (k + (k2 + 1)) kk m by rw [show k + (k2 + 1) = i2 + 2 by have := HI2.out; omega]; exact HI.out.skip HV.out HU.out)
        go_wp2_with fail
        go_quiet (fail)
        go_wp2
        go_roundw
        case rel => exact ⟨kk, k2 + 1, m, rfl, by go_num, by omega, by omega, HN, Lib.hid (HC.out.drewN _), fun j => hF j, by (repeat' (first | (with_reducible assumption) | (with_reducible exact Wb.Ext.refl _) | (with_reducible refine Wb.Ext.drew ?_) | (with_reducible refine Wb.Ext.drewN ?_ _) | (with_reducible refine Wb.Ext.alloc ?_ _) | (with_reducible refine Wb.Ext.trans ?_ (by assumption))))⟩
        case measure => first | (simp [intOf]; done) | (simp [intOf]; omega)
      · have hdb : (u' == v' && u'' == v'') = false := by simpa using hdup
        have HN := Lib.hid (show Wb.CI l (k + (k2 + 1)) (kk + 1) (m.set kk (u', u'')) by
          rw [show k + (k2 + 1) = i2 + 2 by have := HI2.out; omega]
          exact HI.out.keep HV.out HU.out (by intro e; injection e with e1 e2; exact hdup ⟨e1.symm, e2.symm⟩))
        go_wp2_with fail
        go_quiet (fail)
        go_wp2
        go_roundw
        case rel => exact ⟨kk + 1, k2 + 1, m.set kk (u', u''), by go_num, by go_num, by omega, by omega, HN, Lib.hid ((HC.out.drewN _).put HO.out), fun j => by simp [go_sem, hF], Wb.ext_set (Wb.ext_set (by (repeat' (first | (with_reducible assumption) | (with_reducible exact Wb.Ext.refl _) | (with_reducible refine Wb.Ext.drew ?_) | (with_reducible refine Wb.Ext.drewN ?_ _) | (with_reducible refine Wb.Ext.alloc ?_ _) | (with_reducible refine Wb.Ext.trans ?_ (by assumption))))) (show w0.heap.size ≤ b from hb) _) (show w0.heap.size ≤ b from hb) _⟩
        case measure => first | (simp [intOf]; done) | (simp [intOf]; omega)

end Go.Proofs.Ytdfmlgjemfcmlaa
