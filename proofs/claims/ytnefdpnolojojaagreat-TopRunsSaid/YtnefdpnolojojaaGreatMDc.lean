/- Several texts in one. -/
import Derived.Test.YtnefdpnolojojaaGreatMPm
import Derived.Test.YtnefdpnolojojaaGreatMTb
import Derived.Lib.SliceRun
import Derived.Laws.StructEq
import Derived.Laws.Cover2
import Derived.Lib.LazyBuf
import Derived.Deep.QuietTactic
import Derived.BigQuiet
import Derived.Deep.DeepCutAuto
import Derived.IntWalk
import Derived.Test.YtnefdpnolojojaaGreatMKm
import Derived.Test.YtnefdpnolojojaaGreatRun1
import Derived.Test.YtnefdpnolojojaaGreatMDb
/- slices.Compact of periods. -/
namespace Go.Proofs.YtnefdpnolojojaaGreat
open Go.RowKit Go.Lib
set_option maxRecDepth 8000
attribute [local go_sem ↓] Go.wp_at_zero Go.wp_at_succ

namespace Wb
theorem cpt_two (a b : Int × Int) (r : List (Int × Int)) : cpt (a :: b :: r) = if a = b then cpt (b :: r) else a :: cpt (b :: r) := rfl
theorem cpt_one (a : Int × Int) : cpt [a] = [a] := rfl
theorem cpt_snoc (y x : Int × Int) : ∀ l : List (Int × Int), cpt (l ++ [y, x]) = if y = x then cpt (l ++ [y]) else cpt (l ++ [y]) ++ [x]
  | [] => by
    simp only [List.nil_append, cpt_two, cpt_one]
    split
    · rename_i h; rw [h]
    · rfl
  | [a] => by
    simp only [List.cons_append, List.nil_append, cpt_two, cpt_one]
    by_cases h : a = y <;> by_cases k : y = x <;> simp [h, k]
  | a :: b :: r => by
    have ih := cpt_snoc y x (b :: r)
    simp only [List.cons_append] at ih ⊢
    rw [cpt_two, ih, cpt_two]
    by_cases h : a = b <;> by_cases k : y = x <;> simp [h, k]
theorem cpt_take {l : List (Int × Int)} {i : Nat} {y x : Int × Int} (hy : l[i]? = some y) (hx : l[i + 1]? = some x) : cpt (l.take (i + 2)) = if y = x then cpt (l.take (i + 1)) else cpt (l.take (i + 1)) ++ [x] := by
  obtain ⟨p1, p2⟩ := List.getElem?_eq_some_iff.1 hy
  obtain ⟨p3, p4⟩ := List.getElem?_eq_some_iff.1 hx
  have e1 : l.take (i + 1) = l.take i ++ [y] := by rw [List.take_succ_eq_append_getElem p1, p2]
  have e2 : l.take (i + 2) = l.take i ++ [y, x] := by rw [List.take_succ_eq_append_getElem p3, p4, e1, List.append_assoc]; rfl
  rw [e2, e1, cpt_snoc]
theorem cpt_len : ∀ l : List (Int × Int), (cpt l).length ≤ l.length
  | [] => Nat.le_refl _
  | [x] => Nat.le_refl _
  | x :: y :: r => by
    have := cpt_len (y :: r)
    rw [cpt]
    split
    · simp only [List.length_cons] at this ⊢; omega
    · simp only [List.length_cons] at this ⊢; omega
/-- within the inner loop: i are looked at, k are kept, the rest stands -/
structure CI (l : List (Int × Int)) (i k : Nat) (m : List (Int × Int)) : Prop where
  len : m.length = l.length
  kept : m.take k = cpt (l.take i)
  lt : k + 1 ≤ i
  rest : ∀ j, k ≤ j → m[j]? = l[j]?
theorem CI.start {l : List (Int × Int)} {i : Nat} {y : Int × Int} (hp : cpt (l.take (i + 1)) = l.take (i + 1)) (hy : l[i]? = some y) (hx : l[i + 1]? = some y) : CI l (i + 2) (i + 1) l :=
  ⟨rfl, by rw [cpt_take hy hx, if_pos rfl, hp], by omega, fun _ _ => rfl⟩
theorem CI.skip {l m : List (Int × Int)} {i k : Nat} {y : Int × Int} (h : CI l (i + 1) k m) (hy : l[i]? = some y) (hx : l[i + 1]? = some y) : CI l (i + 2) k m :=
  ⟨h.len, by rw [cpt_take hy hx, if_pos rfl]; exact h.kept, by have := h.lt; omega, h.rest⟩
theorem CI.keep {l m : List (Int × Int)} {i k : Nat} {y x : Int × Int} (h : CI l (i + 1) k m) (hy : l[i]? = some y) (hx : l[i + 1]? = some x) (hne : ¬ y = x) : CI l (i + 2) (k + 1) (m.set k x) := by
  have hk : k < m.length := by have := h.lt; have := (List.getElem?_eq_some_iff.1 hx).1; rw [h.len]; omega
  refine ⟨by rw [List.length_set]; exact h.len, ?_, by have := h.lt; omega, fun j hj => ?_⟩
  · rw [cpt_take hy hx, if_neg hne, ← h.kept, List.take_succ_eq_append_getElem (by rw [List.length_set]; exact hk), List.take_set_of_le (Nat.le_refl _)]
    simp
  · rw [List.getElem?_set_ne (by omega)]; exact h.rest j (by omega)
end Wb
/-- pairs in memory -/
def PairsC (w : World) (b off : Nat) (m : List (Int × Int)) : Prop := ∀ j p, m[j]? = some p → w.cell? ⟨b, off + j * 2, none⟩ = some (.int .i64 p.1) ∧ w.cell? ⟨b, off + j * 2 + 1, none⟩ = some (.int .i64 p.2)
theorem PairsC.drewN {w : World} {b off : Nat} {m : List (Int × Int)} (h : PairsC w b off m) (n : Nat) : PairsC (w.drewN n) b off m := fun j p hj => h j p hj
theorem PairsC.put {w : World} {b off k : Nat} {m : List (Int × Int)} {p p0 : Int × Int} (h : PairsC w b off m) (hk : m[k]? = some p0) :
    PairsC ((w.setCell ⟨b, off + k * 2, none⟩ (.int .i64 p.1)).setCell ⟨b, off + k * 2 + 1, none⟩ (.int .i64 p.2)) b off (m.set k p) := by
  intro j q hj
  by_cases e : k = j
  · subst e
    have hlt := (List.getElem?_eq_some_iff.1 hk).1
    rw [List.getElem?_set_self hlt] at hj
    obtain rfl := Option.some.inj hj
    obtain ⟨h1, h2⟩ := h k p0 hk
    refine ⟨?_, ?_⟩
    · rw [World.cell?_setCell_other _ _ _ _ (by intro e; injection e with _ e2 _; omega)]
      simp [go_sem, h1]
    · have h3 : (w.setCell ⟨b, off + k * 2, none⟩ (.int .i64 p.1)).cell? ⟨b, off + k * 2 + 1, none⟩ = some (.int .i64 p0.2) := by
        rw [World.cell?_setCell_other _ _ _ _ (by intro e; injection e with _ e2 _; omega)]; exact h2
      simp [go_sem, h3]
  · rw [List.getElem?_set_ne e] at hj
    obtain ⟨h1, h2⟩ := h j q hj
    refine ⟨?_, ?_⟩
    · rw [World.cell?_setCell_other _ _ _ _ (by intro e; injection e with _ e2 _; omega), World.cell?_setCell_other _ _ _ _ (by intro e; injection e with _ e2 _; omega)]; exact h1
    · rw [World.cell?_setCell_other _ _ _ _ (by intro e; injection e with _ e2 _; omega), World.cell?_setCell_other _ _ _ _ (by intro e; injection e with _ e2 _; omega)]; exact h2
@[go_sem] theorem eqPair (a b c d : Int) (w : World) : (Op.equalIn 10000 102 (.agg #[.int .i64 a, .int .i64 b]) (.agg #[.int .i64 c, .int .i64 d])).run Tryz.prog w = .ok (a == c && b == d) w := by
  have u3 := Tryz.underlying3
  have a3 := Tryz.isAgg3
  have z3 := Tryz.sizeOf3
  rw [show (10000 : Nat) = 9999 + 1 from rfl, Op.equalIn]
  simp only [Sem.run_bind, run_underlying Tryz.underlying102, Result.andThen_ok]
  simp only [Std.Legacy.Range.forIn_eq_forIn_range', Std.Legacy.Range.size, Nat.sub_zero, Nat.add_sub_cancel, Nat.div_one, List.range'_succ, List.range'_zero, List.forIn_cons, List.forIn_nil]
  go_simp
  by_cases h1 : a = c <;> by_cases h2 : b = d <;> simp [h1, h2]
theorem run_clear2 (w : World) (ty : TypeId) (b o n c : Nat) (hn : 0 < n) (hc : ∀ j, j < n * 2 → (w.cell? ⟨b, o + j, none⟩).isSome = true) (hf : ∀ j, j < n * 2 → w.frozen? ⟨b, o + j, none⟩ = false) :
    (Builtin.clear_ #[100] ty #[.slice (some ⟨b, o, none⟩) n c]).run Tryz.prog w = .ok (.tuple #[]) (w.setCells b o (List.replicate (n * 2) (.int .i64 0))) := by
  have hzc : (Builtin.zeroCells (Value.cells (.agg #[.int .i64 0, .int .i64 0])) n).toList = List.replicate (n * 2) (.int .i64 0) := by
    simp [Builtin.zeroCells, Value.cells]
    apply List.ext_getElem
    · simp
    · intro i h1 h2
      have hi : i % 2 = 0 ∨ i % 2 = 1 := by omega
      rcases hi with hi | hi <;> simp [hi]
  have hst := run_storeCells_cells (P := Tryz.prog) b o (List.replicate (n * 2) (.int .i64 0)) 0 w (by simpa using hc) (by simpa using hf) (by intro v hv'; rw [List.eq_of_mem_replicate hv']; rfl)
  simp only [Nat.add_zero] at hst
  obtain ⟨m, rfl⟩ : ∃ m, n = m + 1 := ⟨n - 1, by omega⟩
  simp [Builtin.clear_, run_underlying Tryz.underlying100, hzc, hst]
/-- what is left of a nil slice, or of one period -/
theorem compact_few (a : Option Addr) (n c : Nat) (w : World) (h : n < 2) :
    Calls Tryz.prog 71 #[.slice a n c] w fun e w' => e = .returned (.slice a n c) ∧ w = w' := by
  have d : decide ((n : Int) < 2) = true := by simp; omega
  go_enter Tryz.func71, Tryz.ntmps71
  go_wp2
  go_ret
  exact ⟨rfl, by first | rfl | trivial⟩
set_option maxHeartbeats 4000000 in
theorem compact_many (w0 : World) (b off c : Nat) (l : List (Int × Int)) (w : World) (h2 : 2 ≤ l.length) (hl : l.length ≤ 1000000) (hcap : l.length ≤ c) (hc : PairsC w b off l) (hf : ∀ j, w.frozen? ⟨b, j, none⟩ = false) (hb : w0.heap.size ≤ b) (hx : Wb.Ext w0 w) :
    Calls Tryz.prog 71 #[.slice (some ⟨b, off, none⟩) l.length c] w fun e w' => e = .returned (.slice (some ⟨b, off, none⟩) (Wb.cpt l).length c) ∧ PairsC w' b off (Wb.cpt l) ∧ Wb.Ext w0 w' := by
  have HC := Lib.hid hc
  have hF := hf
  clear hc hf
  have d : decide ((l.length : Int) < 2) = false := by simp; omega
  go_enter Tryz.func71, Tryz.ntmps71
  go_wp2_with fail
  go_loopw [3] (fun kv wr => ∃ k : Nat, 1 ≤ k ∧ k ≤ l.length ∧ kv = .int .i64 k ∧ Hid (Wb.cpt (l.take k) = l.take k) ∧ Hid (PairsC wr b off l) ∧ (∀ j, wr.frozen? ⟨b, j, none⟩ = false) ∧ Wb.Ext w0 wr) (fun kv _ => l.length - (intOf kv).toNat)
  case atStart => exact ⟨1, Nat.le_refl _, by omega, rfl, Lib.hid (by obtain ⟨x, r, rfl⟩ : ∃ x r, l = x :: r := (by cases l with | nil => simp at h2 | cons x r => exact ⟨x, r, rfl⟩); rfl), HC, hF, hx⟩
  case round =>
    clear HC hF hx
    obtain ⟨k, hk1, hk, rfl, HP, HC, hF, hx⟩ := hrel
    obtain ⟨i, hi⟩ : ∃ i, k = i + 1 := ⟨k - 1, by omega⟩
    by_cases hlt : k < l.length
    case neg =>
      have hk2 : k = l.length := by omega
      subst hk2
      have HE := Lib.hid (show Wb.cpt l = l by have := HP.out; rw [List.take_length] at this; exact this)
      go_wp2
      refine bodyPost_ret (v := .slice (some ⟨b, off, none⟩) l.length c) (by simp [results, Tryz.results71, go_sem]) rfl ⟨by rw [HE.out], by rw [HE.out]; exact HC.out, hx⟩
    obtain ⟨y, hy⟩ := Wb.get_ex (show i < l.length by omega)
    obtain ⟨x, hx1⟩ := Wb.get_ex hlt
    obtain ⟨y0, y1⟩ := HC.out i y hy
    obtain ⟨x0, x1⟩ := HC.out k x hx1
    rw [show i = k - 1 by omega] at y0 y1
    have HP' := Lib.hid (show Wb.cpt (l.take (i + 1)) = l.take (i + 1) by rw [← hi]; exact HP.out)
    have HY := Lib.hid hy
    have HX := Lib.hid (show l[i + 1]? = some x by rw [← hi]; exact hx1)
    have hki : (k : Int) < l.length := by omega
    have hkw : IntKind.i64.wrap ((k : Int) - 1) = ((k - 1 : Nat) : Int) := by rw [IntWalk.i64_in _ (by omega)]; omega
    have hkm : ((k - 1 : Nat) : Int) < l.length := by omega
    have HI0 := Lib.hid hi
    clear hy hx1 hi
    obtain ⟨p, q⟩ := x
    obtain ⟨p', q'⟩ := y
    simp only at x0 x1 y0 y1
    by_cases hdup : p = p' ∧ q = q'
    case neg =>
      have hdb : (p == p' && q == q') = false := by simpa using hdup
      have HN := Lib.hid (show Wb.cpt (l.take (k + 1)) = l.take (k + 1) by
        rw [HI0.out, Wb.cpt_take HY.out HX.out, if_neg (by intro e; injection e with e1 e2; exact hdup ⟨e1.symm, e2.symm⟩), HP'.out]
        obtain ⟨p3, p4⟩ := List.getElem?_eq_some_iff.1 HX.out
        rw [List.take_succ_eq_append_getElem p3, p4])
      go_wp2_with fail
      go_quiet (fail)
      go_wp2
      go_roundw
      case rel => exact ⟨k + 1, by omega, by omega, by go_num, HN, Lib.hid (HC.out.drewN _), fun j => hF j, by (repeat' (first | (with_reducible assumption) | (with_reducible exact Wb.Ext.refl _) | (with_reducible refine Wb.Ext.drew ?_) | (with_reducible refine Wb.Ext.drewN ?_ _) | (with_reducible refine Wb.Ext.alloc ?_ _) | (with_reducible refine Wb.Ext.trans ?_ (by assumption))))⟩
      case measure => first | (simp [intOf]; done) | (simp [intOf]; omega)
    obtain ⟨rfl, rfl⟩ := hdup
    have HI := Lib.hid (show Wb.CI l (k + 1) k l by rw [HI0.out]; exact Wb.CI.start HP'.out HY.out HX.out)
    go_wp2_with fail
    go_quiet (fail)
    go_wp2_with fail
    go_loopw [3, 5] (fun kv iv wr => ∃ (kk k2 : Nat) (m : List (Int × Int)), kv = .int .i64 kk ∧ iv = .int .i64 k2 ∧ 1 ≤ k2 ∧ k + k2 ≤ l.length ∧ Hid (Wb.CI l (k + k2) kk m) ∧ Hid (PairsC wr b off m) ∧ (∀ j, wr.frozen? ⟨b, j, none⟩ = false) ∧ Wb.Ext w0 wr) (fun _ iv _ => l.length - (intOf iv).toNat)
    case atStart => exact ⟨k, 1, l, rfl, rfl, Nat.le_refl _, by omega, HI, Lib.hid (HC.out.drewN _), fun j => hF j, by (repeat' (first | (with_reducible assumption) | (with_reducible exact Wb.Ext.refl _) | (with_reducible refine Wb.Ext.drew ?_) | (with_reducible refine Wb.Ext.drewN ?_ _) | (with_reducible refine Wb.Ext.alloc ?_ _) | (with_reducible refine Wb.Ext.trans ?_ (by assumption))))⟩
    case round =>
      clear HI HC hF hx x0 x1 y0 y1 HP HP' HY HX
      obtain ⟨kk, k2, m, rfl, rfl, hk21, hle, HI, HC, hF, hx⟩ := hrel
      have hkk : kk + 1 ≤ k + k2 := HI.out.lt
      by_cases hlt2 : k + k2 < l.length
      case neg =>
        have hend : k + k2 = l.length := by omega
        have d3 : decide ((k2 : Int) < (l.length : Int) - (k : Int)) = false := by simp; omega
        have hkl : kk < l.length := by omega
        have hml := HI.out.len
        have hEq : m.take kk = Wb.cpt l := by have := HI.out.kept; rw [hend, List.take_length] at this; exact this
        have hkn : (Wb.cpt l).length = kk := by rw [← hEq, List.length_take]; omega
        have hcl : ∀ ty, (Builtin.clear_ #[100] ty #[.slice (some ⟨b, off + kk * 2, none⟩) (l.length - kk) (c - kk)]).run Tryz.prog wr = .ok (.tuple #[]) (wr.setCells b (off + kk * 2) (List.replicate ((l.length - kk) * 2) (.int .i64 0))) := fun ty => by
          refine run_clear2 wr ty b (off + kk * 2) (l.length - kk) (c - kk) (by omega) (fun j hj => ?_) (fun j _ => hF _)
          obtain ⟨p, hp⟩ := Wb.get_ex (show kk + j / 2 < m.length by omega)
          obtain ⟨h1, h2⟩ := HC.out _ p hp
          have hj2 : j % 2 = 0 ∨ j % 2 = 1 := by omega
          rcases hj2 with hj2 | hj2
          · rw [show off + kk * 2 + j = off + (kk + j / 2) * 2 by omega, h1]; rfl
          · rw [show off + kk * 2 + j = off + (kk + j / 2) * 2 + 1 by omega, h2]; rfl
        have HPC : Hid (PairsC (wr.setCells b (off + kk * 2) (List.replicate ((l.length - kk) * 2) (.int .i64 0))) b off (Wb.cpt l)) := Lib.hid (fun j p hj => by
          have hjk : j < kk := by have := (List.getElem?_eq_some_iff.1 hj).1; omega
          rw [← hEq, List.getElem?_take, if_pos hjk] at hj
          obtain ⟨h1, h2⟩ := HC.out j p hj
          rw [World.cell?_setCells_out _ _ _ _ _ (fun _ _ => .inl (by simp only; omega)), World.cell?_setCells_out _ _ _ _ _ (fun _ _ => .inl (by simp only; omega))]
          exact ⟨h1, h2⟩)
        have HEX := Lib.hid (show Wb.Ext w0 (wr.setCells b (off + kk * 2) (List.replicate ((l.length - kk) * 2) (.int .i64 0))) from below_setCells hb _ _ _ hx)
        have HKN := Lib.hid hkn
        have hkc : ¬ c < kk := by omega
        have hki9 : (kk : Int) < l.length := by omega
        clear hEq hkn hml
        go_wp2
        refine bodyPost_ret (v := .slice (some ⟨b, off, none⟩) kk c) (by simp [results, Tryz.results71, go_sem]) rfl ⟨by rw [HKN.out], HPC.out, HEX.out⟩
      obtain ⟨i2, hi2⟩ : ∃ i2, k + k2 = i2 + 1 := ⟨k + k2 - 1, by omega⟩
      obtain ⟨v, hv⟩ := Wb.get_ex (show i2 < l.length by omega)
      obtain ⟨u, hu⟩ := Wb.get_ex (show i2 + 1 < l.length by omega)
      obtain ⟨o, ho⟩ := Wb.get_ex (show kk < m.length by rw [HI.out.len]; omega)
      have mv : m[i2]? = some v := by rw [HI.out.rest i2 (by omega)]; exact hv
      have mu : m[i2 + 1]? = some u := by rw [HI.out.rest (i2 + 1) (by omega)]; exact hu
      obtain ⟨v0, v1⟩ := HC.out i2 v mv
      obtain ⟨u0, u1⟩ := HC.out (i2 + 1) u mu
      obtain ⟨o0, o1⟩ := HC.out kk o ho
      rw [show off + i2 * 2 = off + k * 2 + (k2 - 1) * 2 by omega] at v0 v1
      rw [show off + (i2 + 1) * 2 = off + k * 2 + k2 * 2 by omega] at u0 u1
      have HV := Lib.hid hv
      have HU := Lib.hid hu
      have HO := Lib.hid ho
      have hkw2 : IntKind.i64.wrap ((k2 : Int) - 1) = ((k2 - 1 : Nat) : Int) := by rw [IntWalk.i64_in _ (by omega)]; omega
      have hkm2 : ((k2 - 1 : Nat) : Int) < (l.length : Int) - (k : Int) := by omega
      have hkm3 : k2 - 1 < l.length - k := by omega
      have hk2i : (k2 : Int) < (l.length : Int) - (k : Int) := by omega
      have d3 : decide ((k2 : Int) < (l.length : Int) - (k : Int)) = true := by simp; omega
      have hkki : (kk : Int) < l.length := by omega
      rw [hi2] at HI
      have HI2 := Lib.hid hi2
      clear hi2
      clear hv hu ho mv mu
      obtain ⟨u', u''⟩ := u
      obtain ⟨v', v''⟩ := v
      simp only at u0 u1 v0 v1
      by_cases hdup : u' = v' ∧ u'' = v''
      · obtain ⟨rfl, rfl⟩ := hdup
        have HN := Lib.hid (show Wb.CI l (k + (k2 + 1)) kk m by rw [show k + (k2 + 1) = i2 + 2 by have := HI2.out; omega]; exact HI.out.skip HV.out HU.out)
        go_wp2_with fail
        go_quiet (fail)
        go_wp2
        go_roundw
        case rel => exact ⟨kk, k2 + 1, m, rfl, by go_num, by omega, by omega, HN, Lib.hid (HC.out.drewN _), fun j => hF j, by (repeat' (first | (with_reducible assumption) | (with_reducible exact Wb.Ext.refl _) | (with_reducible refine Wb.Ext.drew ?_) | (with_reducible refine Wb.Ext.drewN ?_ _) | (with_reducible refine Wb.Ext.alloc ?_ _) | (with_reducible refine Wb.Ext.trans ?_ (by assumption))))⟩
        case measure => first | (simp [intOf]; done) | (simp [intOf]; omega)
      · have hdb : (u' == v' && u'' == v'') = false := by simpa using hdup
        have HN := Lib.hid (show Wb.CI l (k + (k2 + 1)) (kk + 1) (m.set kk (u', u'')) by
          rw [show k + (k2 + 1) = i2 + 2 by have := HI2.out; omega]
          exact HI.out.keep HV.out HU.out (by intro e; injection e with e1 e2; exact hdup ⟨e1.symm, e2.symm⟩))
        go_wp2_with fail
        go_quiet (fail)
        go_wp2
        go_roundw
        case rel => exact ⟨kk + 1, k2 + 1, m.set kk (u', u''), by go_num, by go_num, by omega, by omega, HN, Lib.hid ((HC.out.drewN _).put HO.out), fun j => by simp [go_sem, hF], Wb.ext_set (Wb.ext_set (by (repeat' (first | (with_reducible assumption) | (with_reducible exact Wb.Ext.refl _) | (with_reducible refine Wb.Ext.drew ?_) | (with_reducible refine Wb.Ext.drewN ?_ _) | (with_reducible refine Wb.Ext.alloc ?_ _) | (with_reducible refine Wb.Ext.trans ?_ (by assumption))))) (show w0.heap.size ≤ b from hb) _) (show w0.heap.size ≤ b from hb) _⟩
        case measure => first | (simp [intOf]; done) | (simp [intOf]; omega)

end Go.Proofs.YtnefdpnolojojaaGreat
/- The iterators over a map's keys, and what is collected of them: periods as keys. -/
namespace Go.Proofs.YtnefdpnolojojaaGreat
open Go.RowKit Go.Maps
set_option maxRecDepth 100000

/-- the iterator that maps.Keys hands back: each key once, in some order -/
theorem keysP_it (m : Nat) (l Bm : Nat) {mb : Option Nat} {n : Nat} {z : Value} {f : (Int × Int) → Option Value} (J : List (Int × Int) → World → Prop)
    (hY : ∀ pre x W, J pre W → pre.length < n → YieldAt Fence.wide (m - 1) Tryz.prog l #[kPr.v x] W fun e W' => e = .returned (.bool true) ∧ J (pre ++ [x]) W' ∧ KeepsWalks W W')
    (W : World) (hJ : AbidesFrom W.heap.size J) (hm : W.cell? ⟨Bm, 0, none⟩ = some (.map mb)) (hown : KMapO kPr W mb n z f) (h0 : J [] W) :
    CallsIn Fence.wide m Tryz.prog 112 #[.func (.yield l) #[] #[], .pointer (some ⟨Bm, 0, none⟩)] W fun e W' => (∃ v, e = .returned v) ∧ ∃ ss : List (Int × Int), KeysAre kPr f ss ∧ J ss W' := by
  have hh : m = m := rfl
  refine callsIn_of_wp Tryz.func112 rfl trivial ?_ rfl
  simp only [Tryz.ntmps112, List.size_toArray, List.length_cons, List.length_nil, Nat.reduceAdd, Nat.reduceSub, Array.replicate_succ, Array.replicate_zero, List.push_toArray, List.append_toArray, List.nil_append, List.cons_append]
  gi_wp2_with (first
    | (gi_at_range; refine wpListIn_range_km (K := kPr) rfl _ 158 127 rfl Tryz.underlying158 mb n z f rfl hown ?_; intro w0 cnt0 hrg0 hc0 hg0 hs0)
    | gi_in)
  (try go_frame)
  gi_loopw [3] (fun _ wr => ∃ (cnt : Nat) (ss : List (Int × Int)), KRng kPr wr mb W.heap.size n z f ss cnt ∧ ss.length + cnt ≤ n ∧ J ss wr)
    (fun _ wr => kLeft mb W.heap.size wr)
  case atStart =>
    exact ⟨_, [], hrg0, by simpa using hc0, hJ [] W w0 none h0 hg0 (fun r e => by cases e)⟩
  case round =>
    obtain ⟨cnt, ss, hrg, hcs, hJs⟩ := hrel
    gi_wp2_with (first
      | (gi_at_next; refine wpListIn_next_km (K := kPr) rfl _ rfl rfl hrg ?_ ?_)
      | gi_in)
    · intro hall
      have hKA : KeysAre kPr f ss := ⟨hrg.one, fun p => ⟨fun hp => hrg.ok p hp, fun ⟨h1, h2⟩ => hall p.1 p.2 h1 h2⟩⟩
      gi_wp2
      go_end0
      exact ⟨⟨_, rfl⟩, ss, hKA, hJs⟩
    · intro x1 x2 v w2 cnt2 hok hfx hnr hrg2 hlt hg2 hs2 hen
      obtain ⟨x, hxe⟩ : ∃ x : Int × Int, x = (x1, x2) := ⟨_, rfl⟩
      rw [← hxe] at hok hfx hnr hrg2 hen ⊢
      have hxv : kPr.v x = .agg #[.int .i64 x.1, .int .i64 x.2] := rfl
      have hJ2 : J ss w2 := hJ ss wr w2 (some W.heap.size) hJs hg2 (fun r e => by cases e; exact ⟨Nat.le_refl _, hrg.walk⟩)
      obtain ⟨W5, hW5⟩ : ∃ W5, w2.alloc (.cells #[.int .i64 x.1, .int .i64 x.2] 102) = W5 := ⟨_, rfl⟩
      have hE : Wb.Ext w2 W5 := by rw [← hW5]; exact Wb.Ext.alloc (.refl _) _
      have hc5 : W5.cell? ⟨w2.heap.size, 0, none⟩ = some (.int .i64 x.1) ∧ W5.cell? ⟨w2.heap.size, 1, none⟩ = some (.int .i64 x.2) := by rw [← hW5]; constructor <;> simp [go_sem]
      obtain ⟨hc50, hc51⟩ := hc5
      have hJ5 : J ss W5 := hJ ss w2 W5 none hJ2 (ext_grown' hE) (fun r e => by cases e)
      have hrg5 := hrg2.ext hE
      obtain ⟨fn, tmps, assign, body, hy, hR⟩ := hY ss x W5 hJ5 (by omega)
      rw [hxv] at hy hen ⊢
      clear hs2 hok hfx hnr hxe hxv
      gi_wp2_with (first | (rw [hW5]; gi_in) | gi_in)
      refine ⟨(fun h => by cases h), hR.mono ?_⟩
      rintro e W3 ⟨rfl, hJ3, hk3⟩
      gi_wp2
      have hrg3 := hrg5.walks hk3
      go_roundw
      case rel => exact ⟨cnt2, ss ++ [x], hrg3, by simp; omega, hJ3⟩
      case measure => rw [hrg3.left, hrg.left]; exact hlt
theorem keysP_gives (m : Nat) (Bm : Nat) {mb : Option Nat} {n : Nat} {z : Value} {f : (Int × Int) → Option Value} (w : World) (hBm : Bm < w.heap.size) (hm : w.cell? ⟨Bm, 0, none⟩ = some (.map mb)) (hown : KMapO kPr w mb n z f) :
    SeqGives Fence.wide m Tryz.prog 112 #[.pointer (some ⟨Bm, 0, none⟩)] kPr.v (KeysAre kPr f) n w := fun l J W hW hJ hY h0 => by
  have hown' : KMapO kPr W mb n z f := by
    cases mb with
    | none => exact hown
    | some b =>
      have hbl : b < w.heap.size := hown.lt b rfl
      obtain ⟨D, ⟨es, clock, hb, Ft, hs, hD⟩, h2⟩ := hown
      exact ⟨D, ⟨es, clock, (hW.block b hbl).trans hb, Ft, hs, hD⟩, h2⟩
  exact keysP_it m l Bm J hY W hJ ((hW.cell (p := ⟨Bm, 0, none⟩) hBm).trans hm) hown' h0
/-- maps.Keys -/
theorem keysP_any (mb : Option Nat) (w : World) :
    Calls Tryz.prog 87 #[.map mb] w fun e w' => e = .returned (.func (.func 112) #[] #[.pointer (some ⟨w.heap.size, 0, none⟩)]) ∧ w' = w.alloc (.cells #[.map mb] 158) := by
  go_enter Tryz.func87, Tryz.ntmps87
  go_wp2
  go_ret
  exact ⟨rfl, rfl⟩

theorem colP_info : (Tryz.prog.info? 102).map (fun i => (i.zero, i.size, i.bytes)) = some (some (.agg #[.int .i64 0, .int .i64 0]), 2, 16) := by kernel_rfl
theorem colP_types : (100 : Nat) ≠ 102 := by decide
def colPAssign : Code := (Code.region 2 #[{ dst := some 5, op := Op.alloc 102, type := 0, pos := "iter.go:51", after := #[], guard := none }, { dst := none, op := Op.store 102 (Operand.tmp 5) (Operand.tmp 7), type := 0, pos := "iter.go:51", after := #[{ on := 0, ground := Ground.data }, { on := 0, ground := Ground.phase }], guard := none }] false)
def colPBody : Code := (Code.block 1 (Code.region 3 #[{ dst := some 8, op := Op.load 100 (Operand.tmp 2), type := 100, pos := "iter.go:52", after := #[], guard := none }, { dst := some 9, op := Op.load 102 (Operand.tmp 5), type := 102, pos := "iter.go:52", after := #[], guard := none }, { dst := some 10, op := Op.buildSlice 100 1 #[(0, Operand.tmp 9)], type := 100, pos := "iter.go:52", after := #[{ on := 1, ground := Ground.data }], guard := none }, { dst := some 11, op := Op.call { callee := Callee.builtin Builtin.append, args := #[Operand.tmp 8, Operand.tmp 10], argTypes := #[100, 100] }, type := 100, pos := "iter.go:52", after := #[{ on := 0, ground := Ground.data }, { on := 2, ground := Ground.data }], guard := none }, { dst := none, op := Op.store 100 (Operand.tmp 2) (Operand.tmp 11), type := 0, pos := "iter.go:52", after := #[{ on := 3, ground := Ground.data }, { on := 3, ground := Ground.chain }, { on := 0, ground := Ground.phase }, { on := 1, ground := Ground.phase }, { on := 2, ground := Ground.phase }, { on := 3, ground := Ground.phase }], guard := none }] false))
/-- the loop's record -/
def colPRec (fn : FuncId) (sv : Value) (Bs D : Nat) (st : LoopState) (pend : Option Code) : Loop :=
  { state := st, pending := pend, fn, tmps := #[.slice none 0 0, sv, .pointer (some ⟨Bs, 0, none⟩), undef, .slice none 0 0, undef, sv, undef, undef, undef, undef, undef, undef], params := #[7], assign := colPAssign, body := colPBody, defers := D }
/-- between two rounds: the box holds a slice that owns what has come so far -/
structure colPAt (w0 : World) (fn : FuncId) (sv : Value) (Bs l D : Nat) (ss : List (Int × Int)) (W : World) : Prop where
  box : ∃ v, W.heap[Bs]? = some (.cells #[v] 100 (0, 0)) ∧ W.ownsRow w0.heap.size 102 2 v ss.length (rowsOf prc ss)
  L : W.heap[l]? = some (.loop (colPRec fn sv Bs D .ready none))
  K : W.heap[D]? = some (.deferred (some []))
  below : Below w0.heap.size w0 W
theorem colP_abides (w0 : World) (fn : FuncId) (sv : Value) (Bs l D B : Nat) (hB : w0.heap.size ≤ B) : AbidesFrom B (colPAt w0 fn sv Bs l D) := fun s W W' row h hg hrow => by
  have hrow' : ∀ r, row = some r → ∃ o : Obj, W.heap[r]? = some o ∧ o.isWalk = true := fun r e => (hrow r e).2
  obtain ⟨v, hv, hr⟩ := h.box
  exact ⟨⟨v, (grownBy_keeps hg hrow' hv rfl).trans hv, row_abides hr hg hrow'⟩, (grownBy_keeps hg hrow' h.L rfl).trans h.L, (grownBy_keeps hg hrow' h.K rfl).trans h.K,
    h.below.grown hg h.below.size (fun k e => Nat.le_trans hB (hrow k e).1)⟩

set_option maxHeartbeats 4000000 in
theorem colP_yield (m : Nat) (w0 : World) (fn : FuncId) (sv : Value) (Bs l D : Nat) (hBl : Bs ≠ l) (hDl : D ≠ l) (hDB : D ≠ Bs) (h0B : w0.heap.size ≤ Bs) (h0l : w0.heap.size ≤ l)
    (N : Nat) (hN : N ≤ maxLen) (hNb : N * 16 ≤ 140737488355328) (ss : List (Int × Int)) (x : (Int × Int)) (W : World) (h : colPAt w0 fn sv Bs l D ss W) (hlen : ss.length < N) :
    YieldAt Fence.wide m Tryz.prog l #[kPr.v x] W fun e W' => e = .returned (.bool true) ∧ colPAt w0 fn sv Bs l D (ss ++ [x]) W' ∧ KeepsWalks W W' := by
  have h0 := h
  obtain ⟨W5, hW5⟩ : ∃ W5, W.alloc (.cells #[.int .i64 x.1, .int .i64 x.2] 102) = W5 := ⟨_, rfl⟩
  have hk5 : KeepsWalks W W5 := by rw [← hW5]; exact KeepsWalks.alloc _ _
  replace h : colPAt w0 fn sv Bs l D ss W5 := by
    rw [← hW5]
    exact colP_abides w0 fn sv Bs l D W.heap.size h0.below.size ss W _ none h0 (World.grownBy_alloc W _ none) (fun r e => by cases e)
  have hlW : l < W.heap.size := (Array.getElem?_eq_some_iff.1 h0.L).1
  obtain ⟨i0, hi, hz0, hz1, hz2⟩ := info_parts colP_info
  obtain ⟨v, hv, hrow⟩ := h.box
  refine ⟨fn, #[.slice none 0 0, sv, .pointer (some ⟨Bs, 0, none⟩), undef, .slice none 0 0, undef, sv, kPr.v x, undef, undef, undef, undef, undef], colPAssign, colPBody, by simpa [colPRec] using run_yield (P := Tryz.prog) (args := #[kPr.v x]) h0.L rfl, roundIn_of_wpIn trivial ?_⟩
  have hl : l < W5.heap.size := (Array.getElem?_eq_some_iff.1 h.L).1
  have hbr := run_beginRound (P := Tryz.prog) h.L rfl
  obtain ⟨W2, hW2⟩ : ∃ W2, W5.putObj l (.loop { colPRec fn sv Bs D .ready none with state := .busy }) = W2 := ⟨_, rfl⟩
  rw [hW2] at hbr
  have hg2 : W5.grownBy W2 (some l) := by rw [← hW2]; exact put_grown _ _ _
  have hk2 : KeepsWalks W5 W2 := by rw [← hW2]; exact KeepsWalks.putObj _ h.L rfl
  have hv2 : W2.heap[Bs]? = some (.cells #[v] 100 (0, 0)) := by rw [← hW2]; exact (World.putObj_heap_other hBl).trans hv
  have hK2 : W2.heap[D]? = some (.deferred (some [])) := by rw [← hW2]; exact (World.putObj_heap_other hDl).trans h.K
  have hL2 : W2.heap[l]? = some (.loop { colPRec fn sv Bs D .ready none with state := .busy }) := by rw [← hW2]; exact World.putObj_heap_same hl
  have hrow2 : W2.ownsRow w0.heap.size 102 2 v ss.length (rowsOf prc ss) := hrow.kept hg2 (row_ne hrow h.L (fun cur e => by cases e))
  have hb2 : Below w0.heap.size w0 W2 := h.below.grown hg2 h.below.size (fun k e => by cases e; exact h0l)
  have hBlt : Bs < W2.heap.size := (Array.getElem?_eq_some_iff.1 hv2).1
  have hl2 : l < W2.heap.size := (Array.getElem?_eq_some_iff.1 hL2).1
  have hDlt : D < W2.heap.size := (Array.getElem?_eq_some_iff.1 hK2).1
  have hx2 : W2.heap[W.heap.size]? = some (.cells #[.int .i64 x.1, .int .i64 x.2] 102 (0, 0)) := by
    rw [← hW2]
    refine (World.putObj_heap_other (by omega)).trans ?_
    rw [← hW5]; exact World.alloc_heap_new W _
  have hx20 : W2.cell? ⟨W.heap.size, 0, none⟩ = some (.int .i64 x.1) := by simp [World.cell?, hx2]
  have hx21 : W2.cell? ⟨W.heap.size, 1, none⟩ = some (.int .i64 x.2) := by simp [World.cell?, hx2]
  have hxv : kPr.v x = .agg #[.int .i64 x.1, .int .i64 x.2] := rfl
  rw [hxv]
  clear hW2 hx2 hxv
  unfold colPAssign
  gi_wp2_with (rw [Oper.semAt_eq _ _ _ (fun c h => by cases h)]; go_simp; try go_bits)

  have ne_of : ∀ {j : Nat} {o : Obj}, W2.heap[j]? = some o → (∀ cur, o ≠ .cells cur 102 (0, 0)) → some j ≠ v.ownBlock := fun hj hno => by
    rcases row_ne hrow2 hj hno with e | e
    · rw [e]; simp
    · exact fun e' => e e'.symm
  obtain ⟨hc2, hf2⟩ := box_cell hv2
  unfold colPBody
  gi_wp2_with (first
    | (gi_at_builtin; refine wpListIn_append_row9 rfl _ _ 100 rfl w0.heap.size 102 i0 (.agg #[.int .i64 0, .int .i64 0]) 2 16 Tryz.underlying100 hi hz0 hz1 hz2 rfl (by decide) _ _ _ rfl (hrow2.alloc _) _ rfl 1 ([.int .i64 x.1, .int .i64 x.2]) (src_lit9 _ _ rfl ([.int .i64 x.1, .int .i64 x.2]) _ rfl) (by intro u hu; simp at hu; rcases hu with rfl | rfl <;> rfl) (by omega) (by omega) (by have := hb2.size; simp; omega) ?_; intro v' w3 hown' hg3 hnil3
       have hv3 : w3.heap[Bs]? = some (.cells #[v] 100 (0, 0)) := (hg3.block Bs (by simp; omega) (ne_of hv2 (fun cur e => by first | cases e | exact colP_types (Obj.cells.inj e).2.1))).trans ((Below.heap_alloc _ _ Bs hBlt).trans hv2)
       obtain ⟨hc3, hf3⟩ := box_cell hv3
       obtain ⟨g', cap', cur', rfl, hbase', hgb', hr1, hr2, hr3, hr4⟩ : ∃ g' cap' cur', v' = .slice (some ⟨g', 0, none⟩) (ss.length + 1) cap' ∧ w0.heap.size ≤ g' ∧ w3.heap[g']? = some (.cells cur' 102 (0, 0)) ∧ ss.length + 1 ≤ cap' ∧ cap' ≤ maxLen ∧ cur'.size = cap' * 2 ∧ cur'.toList.take ((ss.length + 1) * 2) = rowsOf prc ss ++ [.int .i64 x.1, .int .i64 x.2] := by
         rcases hown'.2 with ⟨_, h0⟩ | h'
         · exact absurd h0 (by omega)
         · exact h'
       go_frame)
    | (rw [Oper.semAt_eq _ _ _ (fun c h => by cases h)]; go_simp; try go_bits))
  have hg3' : (W2.alloc (.cells #[.int .i64 x.1, .int .i64 x.2] 102)).grownBy w3 v.ownBlock := hg3
  have hL3 : w3.heap[l]? = some (.loop { colPRec fn sv Bs D .ready none with state := .busy }) := (hg3'.block l (by simp; omega) (ne_of hL2 (fun cur e => by cases e))).trans ((Below.heap_alloc _ _ l hl2).trans hL2)
  have hK3 : w3.heap[D]? = some (.deferred (some [])) := (hg3'.block D (by simp; omega) (ne_of hK2 (fun cur e => by cases e))).trans ((Below.heap_alloc _ _ D hDlt).trans hK2)
  obtain ⟨w4, hw4⟩ : ∃ w4, w3.setCell ⟨Bs, 0, none⟩ (.slice (some ⟨g', 0, none⟩) (ss.length + 1) cap') = w4 := ⟨_, rfl⟩
  rw [hw4]
  have hg4 : w3.grownBy w4 (some Bs) := by rw [← hw4]; exact set_grown0 _ _ _
  have hv4 : w4.heap[Bs]? = some (.cells #[.slice (some ⟨g', 0, none⟩) (ss.length + 1) cap'] 100 (0, 0)) := by rw [← hw4]; exact set_box _ hv3
  have hL4 : w4.heap[l]? = some (.loop { colPRec fn sv Bs D .ready none with state := .busy }) := (hg4.block l (Array.getElem?_eq_some_iff.1 hL3).1 (fun e => hBl (by cases e; rfl))).trans hL3
  have hK4 : w4.heap[D]? = some (.deferred (some [])) := (hg4.block D (Array.getElem?_eq_some_iff.1 hK3).1 (fun e => hDB (by cases e; rfl))).trans hK3
  have hrow4 := hown'.kept hg4 (row_ne hown' hv3 (fun cur e => by first | cases e | exact colP_types (Obj.cells.inj e).2.1))
  have hl4 : l < w4.heap.size := (Array.getElem?_eq_some_iff.1 hL4).1
  have hb3 : Below w0.heap.size w0 w3 := (hb2.alloc hb2.size _).grown hg3' (by have := hb2.size; simp; omega) (fun k e => (hrow2.lt k e).1)
  have hb4 : Below w0.heap.size w0 w4 := hb3.grown hg4 hb3.size (fun k e => by cases e; exact h0B)
  have hk4 : KeepsWalks W5 w4 := ((hk2.trans (KeepsWalks.alloc _ _)).trans (KeepsWalks.of_grownBy hg3' (row_not_walk (hrow2.alloc _)))).trans (by rw [← hw4]; exact KeepsWalks.setCell _ _ _)
  clear hw4
  refine ⟨_, _, run_endRound none hL4, rfl, ⟨⟨_, (World.putObj_heap_other hBl).trans hv4, ?_⟩, World.putObj_heap_same hl4, (World.putObj_heap_other hDl).trans hK4, hb4.grown (put_grown _ _ _) hb4.size (fun k e => by cases e; exact h0l)⟩, hk5.trans (hk4.trans (KeepsWalks.putObj _ hL4 rfl))⟩
  have := hrow4.kept (put_grown w4 l (.loop { { colPRec fn sv Bs D .ready none with state := .busy } with state := if (none : Option Code).isNone then .ready else .done, pending := none })) (row_ne hrow4 hL4 (fun cur e => by cases e))
  rw [rowsOf_app, rowsOf_one]; simpa [prc] using this

/-- slices.AppendSeq(nil, seq) -/
theorem colP_append (n : Nat) (g : Nat) (lb : Array Value) (eg : ∀ args w, (callFunc g args).run Tryz.prog w = .ok (.enter g args) w)
    (S : List (Int × Int) → Prop) (N : Nat) (hN : N ≤ maxLen) (hNb : N * 16 ≤ 140737488355328) (w : World) (hseq : SeqGives Fence.wide (n - 1) Tryz.prog g lb kPr.v S N w) :
    CallsIn Fence.wide n Tryz.prog 130 #[.slice none 0 0, .func (.func g) #[] lb] w fun e w' => ∃ (v : Value) (ss : List (Int × Int)), e = .returned v ∧ S ss ∧ w'.ownsRow w.heap.size 102 2 v ss.length (rowsOf prc ss) ∧ Below w.heap.size w w' := by
  refine callsIn_of_wp_marks Tryz.func130 rfl trivial ?_ rfl
  simp only [Tryz.ntmps130, List.size_toArray, List.length_cons, List.length_nil, Nat.reduceAdd, Nat.reduceSub, Array.replicate_succ, Array.replicate_zero, List.push_toArray, List.append_toArray, List.nil_append, List.cons_append]
  gi_wp2
  refine wpIn_rangeFunc ?_
  intro fn hfn
  rw [show Fence.wide.round = none from rfl]
  obtain ⟨W0, hW0⟩ : ∃ W0, w.alloc (.cells #[.slice none 0 0] 100) = W0 := ⟨_, rfl⟩
  have hs0 : W0.heap.size = w.heap.size + 1 := by rw [← hW0]; simp
  have hv0 : W0.heap[w.heap.size]? = some (.cells #[.slice none 0 0] 100 (0, 0)) := by rw [← hW0]; exact World.alloc_heap_new w _
  have hb0 : Below w.heap.size w W0 := by rw [← hW0]; exact (Below.refl _ w).alloc (Nat.le_refl _) _
  rw [hW0]
  obtain ⟨W1, hW1⟩ : ∃ W1, (W0.alloc (.deferred (some []))).alloc (.loop (colPRec fn (.func (.func g) #[] lb) w.heap.size W0.heap.size .ready none)) = W1 := ⟨_, rfl⟩
  have hold : ∀ k, k < W0.heap.size → W1.heap[k]? = W0.heap[k]? := fun k hk => by
    rw [← hW1]; exact (Below.heap_alloc _ _ k (by simp; omega)).trans (Below.heap_alloc _ _ k hk)
  have hb1 : Below w.heap.size w W1 := by rw [← hW1]; exact (hb0.alloc hb0.size _).alloc (by have := hb0.size; simp; omega) _
  have hs1 : W1.heap.size = W0.heap.size + 2 := by rw [← hW1]; simp
  have hM : colPAt w fn (.func (.func g) #[] lb) w.heap.size (W0.heap.size + 1) W0.heap.size [] W1 :=
    ⟨⟨_, (hold w.heap.size (by omega)).trans hv0, ⟨rfl, .inl ⟨rfl, rfl⟩⟩⟩,
     by rw [← hW1]; have := World.alloc_heap_new (W0.alloc (.deferred (some []))) (.loop (colPRec fn (.func (.func g) #[] lb) w.heap.size W0.heap.size .ready none)); rwa [World.size_alloc] at this,
     by rw [← hW1]; exact (Below.heap_alloc _ _ _ (by simp)).trans (World.alloc_heap_new W0 _), hb1⟩
  refine ⟨W0.heap.size + 1, [{ target := .collected W0.heap.size, args := #[] }], W1, { target := .fn (.func g) lb, args := #[.func (.yield (W0.heap.size + 1)) #[] #[]] }, W1, g,
    #[.func (.yield (W0.heap.size + 1)) #[] #[]] ++ lb, W1, ?_, ?_, ?_, ?_, (fun h => by cases h), ?_⟩
  · rw [← hW1]; exact run_enterLoop_outer _ _ _ _ _
  · simp [resolve, go_sem]
  · intro f' hf'; trivial
  · simp [invoke, go_sem, eg]
  · refine (hseq (W0.heap.size + 1) (colPAt w fn (.func (.func g) #[] lb) w.heap.size (W0.heap.size + 1) W0.heap.size) W1 hb1 (colP_abides _ _ _ _ _ _ _ hb1.size)
      (fun pre x W hJ hl => colP_yield (n - 1 - 1) w fn _ w.heap.size (W0.heap.size + 1) W0.heap.size (by omega) (by omega) (by omega) (Nat.le_refl _) (by omega) N hN hNb pre x W hJ hl) hM).mono ?_
    rintro e W2 ⟨⟨v0, rfl⟩, ss, hS, h2⟩
    obtain ⟨v, hv, hrow⟩ := h2.box
    have hend := run_endLoop (P := Tryz.prog) h2.L (by simp [colPRec])
    obtain ⟨W3, hW3⟩ : ∃ W3, W2.putObj (W0.heap.size + 1) (.loop { colPRec fn (.func (.func g) #[] lb) w.heap.size W0.heap.size .ready none with state := .exhausted }) = W3 := ⟨_, rfl⟩
    rw [hW3] at hend
    have hg3 : W2.grownBy W3 (some (W0.heap.size + 1)) := by rw [← hW3]; exact put_grown _ _ _
    have hv3 : W3.heap[w.heap.size]? = some (.cells #[v] 100 (0, 0)) := by rw [← hW3]; exact (World.putObj_heap_other (by omega)).trans hv
    have hK3 : W3.heap[W0.heap.size]? = some (.deferred (some [])) := by rw [← hW3]; exact (World.putObj_heap_other (by omega)).trans h2.K
    have hrow3 := hrow.kept hg3 (row_ne hrow h2.L (fun cur e => by cases e))
    have hb3 : Below w.heap.size w W3 := h2.below.grown hg3 h2.below.size (fun k e => by cases e; omega)
    obtain ⟨hc3, hf3⟩ := box_cell hv3
    clear hW3
    refine ⟨none, W3, hend, ?_⟩
    gi_wp2
    rw [← hs0]
    refine ⟨by simp, .inl ⟨_, _, rfl, run_takeDeferred hK3, ?_⟩⟩
    exact ⟨_, results_tmp rfl _ _ _, v, ss, rfl, hS, hrow3.kept (put_grown _ _ _) (row_ne hrow3 hK3 (fun cur e => by cases e)), hb3.grown (put_grown _ _ _) hb3.size (fun k e => by cases e; omega)⟩
/-- slices.Collect(seq) -/
theorem colP_any (g : Nat) (lb : Array Value) (eg : ∀ args w, (callFunc g args).run Tryz.prog w = .ok (.enter g args) w)
    (S : List (Int × Int) → Prop) (N : Nat) (hN : N ≤ maxLen) (hNb : N * 16 ≤ 140737488355328) (w : World) (hseq : ∀ m, SeqGives Fence.wide m Tryz.prog g lb kPr.v S N w) :
    Calls Tryz.prog 111 #[.func (.func g) #[] lb] w fun e w' => ∃ (v : Value) (ss : List (Int × Int)), e = .returned v ∧ S ss ∧ w'.ownsRow w.heap.size 102 2 v ss.length (rowsOf prc ss) ∧ Wb.Ext w w' := by
  have hcall : Calls Tryz.prog 130 #[.slice none 0 0, .func (.func g) #[] lb] w fun e w' => ∃ (v : Value) (ss : List (Int × Int)), e = .returned v ∧ S ss ∧ w'.ownsRow w.heap.size 102 2 v ss.length (rowsOf prc ss) ∧ Below w.heap.size w w' :=
    callsIn_wide.1 (colP_append 5 g lb eg S N hN hNb w (hseq 4))
  go_enter Tryz.func111, Tryz.ntmps111
  go_wp2_with (go_at_call 130; refine hcall.mono ?_; rintro e w' ⟨v, ss, rfl, hS, hrow, hb⟩)
  go_ret
  exact ⟨v, ss, rfl, hS, hrow, hb⟩

end Go.Proofs.YtnefdpnolojojaaGreat
/- The walk of run.pairs: first its comparison, and the sort of its keys. -/
namespace Go.Proofs.YtnefdpnolojojaaGreat
open Go.RowKit Go.Sort Go.Lib Go.Maps
set_option maxRecDepth 8000
attribute [local go_sem ↓] Go.wp_at_zero Go.wp_at_succ

theorem cmpI_lt {a b : Int} (h : a < b) : cmpI a b = -1 := by simp [cmpI, h]
theorem cmpI_gt {a b : Int} (h : b < a) : cmpI a b = 1 := by
  have : ¬ a < b := by omega
  simp [cmpI, h, this]
theorem cmpI_eq (a : Int) : cmpI a a = 0 := by simp [cmpI]
/-- slices.Compare of two pairs -/
theorem cmpSl_any (a b : Int × Int) (X Y : Nat) (w : World) (x0 : w.cell? ⟨X, 0, none⟩ = some (.int .i64 a.1)) (x1 : w.cell? ⟨X, 1, none⟩ = some (.int .i64 a.2)) (y0 : w.cell? ⟨Y, 0, none⟩ = some (.int .i64 b.1)) (y1 : w.cell? ⟨Y, 1, none⟩ = some (.int .i64 b.2)) :
    Calls Tryz.prog 89 #[.slice (some ⟨X, 0, none⟩) 2 2, .slice (some ⟨Y, 0, none⟩) 2 2] w fun e w' => e = .returned (.int .i64 (cmpP a b)) ∧ w' = w := by
  go_enter Tryz.func89, Tryz.ntmps89
  go_wp2_with fail
  go_loopw [11] (fun iv wr => ∃ k : Nat, iv = .int .i64 k ∧ k ≤ 2 ∧ Hid ((1 ≤ k → a.1 = b.1) ∧ (2 ≤ k → a.2 = b.2)) ∧ wr = w) (fun iv _ => 2 - (intOf iv).toNat)
  case atStart => exact ⟨0, rfl, by omega, Lib.hid ⟨fun h => by omega, fun h => by omega⟩, rfl⟩
  case round =>
    obtain ⟨k, rfl, hk, HE, rfl⟩ := hrel
    have hk' : k = 0 ∨ k = 1 ∨ k = 2 := by omega
    rcases hk' with rfl | rfl | rfl
    · go_wp2_with fail
      go_fit (cmpi_any a.1 b.1 _); rintro e w1 ⟨rfl, rfl⟩
      rcases Int.lt_trichotomy a.1 b.1 with h | h | h
      · have HF := Lib.hid (show cmpP a b = -1 by unfold cmpP orI; rw [cmpI_lt h]; rfl)
        rw [cmpI_lt h]
        clear h
        go_wp2
        refine bodyPost_ret (v := .int .i64 (-1)) (by simp [results, Tryz.results89, go_sem]) rfl ⟨by rw [HF.out], rfl⟩
      · have HH := Lib.hid h
        rw [h, cmpI_eq]
        clear h
        go_wp2
        go_roundw
        case rel => exact ⟨1, rfl, by omega, Lib.hid ⟨fun _ => HH.out, fun h => by omega⟩, by first | rfl | trivial⟩
        case measure => simp [intOf]
      · have HF := Lib.hid (show cmpP a b = 1 by unfold cmpP orI; rw [cmpI_gt h]; rfl)
        rw [cmpI_gt h]
        clear h
        go_wp2
        refine bodyPost_ret (v := .int .i64 1) (by simp [results, Tryz.results89, go_sem]) rfl ⟨by rw [HF.out], rfl⟩
    · go_wp2_with fail
      go_fit (cmpi_any a.2 b.2 _); rintro e w1 ⟨rfl, rfl⟩
      have hE := HE.out.1 (by omega)
      rcases Int.lt_trichotomy a.2 b.2 with h | h | h
      · have HF := Lib.hid (show cmpP a b = -1 by unfold cmpP orI; rw [hE, cmpI_eq, cmpI_lt h]; rfl)
        rw [cmpI_lt h]
        clear h hE
        go_wp2
        refine bodyPost_ret (v := .int .i64 (-1)) (by simp [results, Tryz.results89, go_sem]) rfl ⟨by rw [HF.out], rfl⟩
      · have HH := Lib.hid h
        have HE1 := Lib.hid hE
        rw [h, cmpI_eq]
        clear h hE
        go_wp2
        go_roundw
        case rel => exact ⟨2, rfl, by omega, Lib.hid ⟨fun _ => HE1.out, fun _ => HH.out⟩, by first | rfl | trivial⟩
        case measure => simp [intOf]
      · have HF := Lib.hid (show cmpP a b = 1 by unfold cmpP orI; rw [hE, cmpI_eq, cmpI_gt h]; rfl)
        rw [cmpI_gt h]
        clear h hE
        go_wp2
        refine bodyPost_ret (v := .int .i64 1) (by simp [results, Tryz.results89, go_sem]) rfl ⟨by rw [HF.out], rfl⟩
    · have HF := Lib.hid (show cmpP a b = 0 by unfold cmpP orI; rw [HE.out.1 (by omega), HE.out.2 (by omega), cmpI_eq, cmpI_eq]; rfl)
      go_wp2
      refine bodyPost_ret (v := .int .i64 0) (by simp [results, Tryz.results89, go_sem]) rfl ⟨by rw [HF.out], rfl⟩
theorem grow2d (w : World) (a b : Obj) (n : Nat) : ((w.alloc a).alloc b).drewN n = grow (w.drewN n) #[a, b] := by
  rw [alloc_eq_grow, alloc_eq_grow, grow_grow]; rfl
theorem cmp31_any (a b : Int × Int) (w : World) :
    Calls Tryz.prog 88 #[PrV a, PrV b] w fun e w' => e = .returned (.int .i64 (cmpP a b)) ∧ ∃ q os', w' = grow (w.drewN q) os' := by
  unfold PrV
  go_enter Tryz.func88, Tryz.ntmps88
  go_upto_region 1 with (fail)
  refine Wb.wp_at fun W0 hW0 => ?_
  have z0 : W0.cell? ⟨w.heap.size, 0, none⟩ = some (.int .i64 a.1) := by rw [hW0]; simp [go_sem]
  have z1 : W0.cell? ⟨w.heap.size, 1, none⟩ = some (.int .i64 a.2) := by rw [hW0]; simp [go_sem]
  have y0 : W0.cell? ⟨w.heap.size + 1, 0, none⟩ = some (.int .i64 b.1) := by rw [hW0]; simp [go_sem]
  have y1 : W0.cell? ⟨w.heap.size + 1, 1, none⟩ = some (.int .i64 b.2) := by rw [hW0]; simp [go_sem]
  have HW0 := Lib.hid hW0
  clear hW0
  go_quiet (first | (go_at_call 89; refine Calls.quiet_of_same (cmpSl_any a b w.heap.size (w.heap.size + 1) _ (by assumption) (by assumption) (by assumption) (by assumption))))
  go_wp2
  go_ret
  exact ⟨rfl, _, _, by rw [HW0.out]; exact grow2d _ _ _ _⟩
theorem ahead31_sort (base : Nat) (v : Value) (l : List (Int × Int)) (w : World) (h : w.ownsRow base 102 2 v l.length (rowsOf prc l)) (hl : l.length ≤ 1000000) :
    Calls Tryz.prog 70 #[v, .func (.func 88) #[] #[]] w fun e w' => e = .returned (.tuple #[]) ∧ ∃ l' : List (Int × Int), l'.Perm l ∧ l'.Pairwise (fun a b => prLt b a = false) ∧ w'.ownsRow base 102 2 v l.length (rowsOf prc l') ∧ w.grownBy w' v.ownBlock := by
  by_cases hv : v = .slice none 0 0
  · subst hv
    obtain ⟨_, ⟨_, h0⟩ | ⟨g, cap, cur, hv', _⟩⟩ := id h
    · obtain rfl : l = [] := List.length_eq_zero_iff.1 h0
      refine (AnyF.slices_SortFunc_none Tryz.sortPair none 0 _ w).mono fun e w' hh => ?_
      obtain ⟨rfl, rfl⟩ := hh
      exact ⟨rfl, [], .refl _, .nil, own_none, Wb.grownBy_refl _ _⟩
    · cases hv'
  · have hlt := h.lt
    obtain ⟨hn, h2 | ⟨g, cap, cur, rfl, hb, hg, hc, hm, hs, hx⟩⟩ := id h
    · exact absurd h2.1 hv
    have hgs := (hlt g rfl).2
    have hF := flat_of (by decide) prc prc_len l
    have hH : HoldsK prc 2 w g 0 l.toArray := by
      intro j hj
      rw [hF] at hj ⊢
      have hj' : j < (rowsOf prc l).length := by simpa using hj
      refine ⟨?_, own_free h _⟩
      obtain ⟨g', cap', hvv, _, _, _, hcell⟩ := Wb.ownsRow_at h hv
      cases hvv
      rw [Nat.zero_add, hcell j _ (List.getElem?_eq_getElem hj'), getElem!_pos (rowsOf prc l).toArray j hj]
      rfl
    have eg : ∀ args w, (callFunc 88 args).run Tryz.prog w = .ok (.enter 88 args) w := enters_of Tryz.func88 (by kernel_rfl) rfl
    have hcl : CmpLays Tryz.prog 88 #[] prc 2 cmpP g 0 l.toArray.size w := fun _ _ _ _ x y => cmp31_any x y _
    have hcon := AnyQ.slices_SortFunc Tryz.sortPair 2 Tryz.isAgg102 Tryz.sizeOf102 prc (fun _ => rfl) (fun x v hv => by simp [prc] at hv; rcases hv with rfl | rfl <;> rfl) cmpP swo_pr 88 #[] g 0 cap l.toArray w eg hcl hH hgs (by simp; omega)
    rw [show l.toArray.size = l.length by simp] at hcon
    refine hcon.mono fun e w' hh => ?_
    obtain ⟨rfl, d', n, os, hp, hso, rfl⟩ := hh
    obtain ⟨p1, _, p3⟩ := hp
    have hd : d'.size = l.length := by simpa using p1
    have e1 : d'.extract 0 l.length = d' := by rw [← hd]; simp
    have e2 : l.toArray.extract 0 l.length = l.toArray := by simp
    rw [e1, e2] at p3
    have hdt : d' = d'.toList.toArray := by simp
    refine ⟨rfl, d'.toList, by simpa using p3, ?_, ?_, ?_⟩
    · rw [List.pairwise_iff_getElem]
      intro i j hi hj hij
      have hi' : i < d'.size := by simpa using hi
      have hj' : j < d'.size := by simpa using hj
      have := hso i j (Nat.zero_le _) hij (by rw [← hd]; exact hj')
      rw [lt_pr, getElem!_pos d' i hi', getElem!_pos d' j hj'] at this
      simpa using this
    · rw [sortWorldK, putRowK, hdt, flat_of (by decide) prc prc_len]
      have hrl : (rowsOf prc d'.toList).length = l.length * 2 := by rw [rowsOf_length prc_len]; simp [hd]
      refine ⟨hrl, .inr ⟨g, cap, _, rfl, hb, heap_putId _ hg, hc, hm, by simp [putCells, hs], ?_⟩⟩
      rw [← hrl]
      exact take_putId _ _ (by rw [hrl, hs]; omega)
    · rw [sortWorldK, putRowK]
      exact grown_putId _
end Go.Proofs.YtnefdpnolojojaaGreat
/- The walk of delta.periods: the periods of maps, rising, each once. -/
namespace Go.Proofs.YtnefdpnolojojaaGreat
open Go.RowKit Go.Sort Go.Lib Go.Maps
set_option maxRecDepth 8000
attribute [local go_sem ↓] Go.wp_at_zero Go.wp_at_succ

theorem wpList_append_row2 {P : Program} {w : World} {ops : Array Oper} {rest : List Oper} {o : Oper} {a : Act} {Q : Exit → Act → World → Prop} (hgd : o.guard = none) (s x : Operand) (t : TypeId)
    (ho : o.op = .call { callee := .builtin .append, args := #[s, x], argTypes := #[t, t] })
    (base : Nat) (e : TypeId) (i : TypeInfo) (z : Value) (size bytes : Nat) (ht : P.underlying t = some (.slice e)) (hi : P.info? e = some i) (hz : i.zero = some z)
    (hsize : i.size = size) (hby : i.bytes = bytes) (hzs : z.cells.size = size) (hsz : 0 < size)
    (v : Value) (n : Nat) (xs : List Value) (hs : a.eval s = v) (hown : w.ownsRow base e size v n xs)
    (xv : Value) (hx : a.eval x = xv) (m : Nat) (news : List Value) (hsrc : Wb.SrcRow w size xv m news) (h1 : ∀ u ∈ news, u.oneCell' = true)
    (h63 : n + m ≤ maxLen) (hbytes : (n + m) * bytes ≤ 140737488355328) (hbase : base ≤ w.heap.size)
    (h : ∀ v' w', w'.ownsRow base e size v' (n + m) (xs ++ news) → w.grownBy w' v.ownBlock → (v'.ownBlock = v.ownBlock ∨ v'.ownBlock = some w.heap.size) → wpList P ops Q rest (a.put o.dst v') w') : wpList P ops Q (o :: rest) a w := by
  refine wpList_plain hgd fun K' hK' => ?_
  exact Wb.wp_append_row s x t ho base e i z size bytes ht hi hz hsize hby hzs hsz v n xs hs hown xv hx m news hsrc h1 h63 hbytes hbase (fun v' w' h1 h2 h3 => hK' _ _ (h v' w' h1 h2 h3))
/-- a map of slips in memory -/
structure MapD where
  b : Nat
  n : Nat
  f : Int × Int → Option Wb.Sl
def mpc (m : MapD) : List Value := [.map (some m.b)]
theorem infoPr : (Tryz.prog.info? 102).map (fun i => (i.zero, i.size, i.bytes)) = some (some (.agg #[.int .i64 0, .int .i64 0]), 2, 16) := by kernel_rfl
/-- the periods of a map that have come so far: those that are not left -/
structure SoP (f : Int × Int → Option Wb.Sl) (left : Lit → Bool) (r : List (Int × Int)) : Prop where
  ok : ∀ p ∈ r, PrOk p ∧ (f p).isSome = true ∧ left (kPair p.1 p.2) = false
  all : ∀ p, PrOk p → (f p).isSome = true → left (kPair p.1 p.2) = false → p ∈ r
  one : r.Nodup
theorem soP_more {f : Int × Int → Option Wb.Sl} {left : Lit → Bool} {r : List (Int × Int)} (h : SoP f left r) {p : Int × Int} (hp : PrOk p) (hf : (f p).isSome = true) (hl : left (kPair p.1 p.2) = true) : SoP f (fun z => left z && !z.sameKey (kPair p.1 p.2)) (r ++ [p]) := by
  have hself : (kPair p.1 p.2).sameKey (kPair p.1 p.2) = true := WideAt.sameKey_self (pair_keyed.key (pair_key hp.1 hp.2))
  refine ⟨fun q hq => ?_, fun q hq hqf hql => ?_, List.nodup_append.2 ⟨h.one, by simp, fun a ha b hb e => ?_⟩⟩
  · rcases List.mem_append.1 hq with hq | hq
    · obtain ⟨h1, h2, h3⟩ := h.ok q hq
      exact ⟨h1, h2, by rw [h3]; rfl⟩
    · simp at hq; subst hq; exact ⟨hp, hf, by simp [hself]⟩
  · rcases hb : left (kPair q.1 q.2) with _ | _
    · exact List.mem_append_left _ (h.all q hq hqf hb)
    · rw [hb, Bool.true_and, Bool.not_eq_false'] at hql
      by_cases e : kPair q.1 q.2 = kPair p.1 p.2
      · exact List.mem_append_right _ (by simp [kPair_inj hq hp e])
      · rw [Maps.sameKey_ne e] at hql; cases hql
  · simp at hb; subst hb; subst e
    have := (h.ok a ha).2.2
    rw [hl] at this; cases this
/-- what has come of the maps so far -/
structure OutP (ms : List MapD) (k : Nat) (r : List (Int × Int)) : Prop where
  mem : ∀ p, p ∈ r ↔ PrOk p ∧ ∃ m ∈ ms.take k, (m.f p).isSome = true
  len : r.length ≤ k * 10000
theorem outP_next {ms : List MapD} {k : Nat} {m : MapD} {r r1 : List (Int × Int)} {left : Lit → Bool} (h : OutP ms k r) (hm : ms[k]? = some m) (h1 : SoP m.f left r1) (hl : ∀ kl, left kl = false) (hc : r1.length ≤ 10000) : OutP ms (k + 1) (r ++ r1) := by
  have e : ms.take (k + 1) = ms.take k ++ [m] := by
    obtain ⟨p1, rfl⟩ := List.getElem?_eq_some_iff.1 hm
    exact List.take_succ_eq_append_getElem p1
  refine ⟨fun p => ?_, by rw [List.length_append]; have := h.len; omega⟩
  rw [List.mem_append, h.mem, e]
  constructor
  · rintro (⟨a, z, hz, hf⟩ | hp)
    · exact ⟨a, z, List.mem_append_left _ hz, hf⟩
    · obtain ⟨a, b, _⟩ := h1.ok p hp
      exact ⟨a, m, by simp, b⟩
  · rintro ⟨a, z, hz, hf⟩
    rcases List.mem_append.1 hz with hz | hz
    · exact .inl ⟨a, z, hz, hf⟩
    · simp at hz; subst hz
      exact .inr (h1.all p a hf (hl _))
theorem pairsC_tbl {w : World} {v : Value} {b off n c : Nat} {r : List (Int × Int)} (hv : v = .slice (some ⟨b, off, none⟩) n c) (hn : n = r.length) (h : PairsC w b off r) : Tbl 2 prc w v r := by
  refine .inr ⟨b, off, c, by rw [hv, hn], fun j p hj i u hu => ?_⟩
  obtain ⟨h1, h2⟩ := h j p hj
  match i, hu with
  | 0, hu => simp [prc] at hu; subst hu; simpa using h1
  | 1, hu => simp [prc] at hu; subst hu; exact h2
  | i + 2, hu => simp [prc] at hu
/-- what delta.periods yields -/
structure IsPers (w w' : World) (ms : List MapD) (u : Value) (r : List (Int × Int)) : Prop where
  tbl : Tbl 2 prc w' u r
  rise : r.Pairwise fun a b => prLt a b = true
  mem : ∀ p, p ∈ r ↔ PrOk p ∧ ∃ m ∈ ms, (m.f p).isSome = true
  len : r.length ≤ 20000
  ext : Wb.Ext w w'

set_option maxHeartbeats 8000000 in
theorem periods_any (v : Value) (ms : List MapD) (w : World) (hv : Tbl 1 mpc w v ms) (hm : ∀ m ∈ ms, SMapIs w m.b m.n m.f) (hl : ms.length ≤ 2) (hcnt : ∀ m ∈ ms, ∀ r : List (Int × Int), r.Nodup → (∀ p ∈ r, (m.f p).isSome = true) → r.length ≤ 10000) :
    Calls Tryz.prog 47 #[v] w fun e w' => ∃ u, e = .returned u ∧ ∃ r, IsPers w w' ms u r := by
  obtain ⟨i0, hi, hz0, hz1, hz2⟩ := info_parts infoPr
  have HIN := Lib.hid (show Tryz.prog.info? 102 = some i0 ∧ i0.zero = some (.agg #[.int .i64 0, .int .i64 0]) ∧ i0.size = 2 ∧ i0.bytes = 16 from ⟨hi, hz0, hz1, hz2⟩)
  clear hi hz0 hz1 hz2
  obtain ⟨va, vc, rfl⟩ := hv.shape
  have HV := Lib.hid hv
  have HM := Lib.hid hm
  have HCNT := Lib.hid hcnt
  clear hv hm hcnt
  go_enter Tryz.func47, Tryz.ntmps47
  go_wp2_with fail
  go_loopw [3, 9] (fun ov iv wr => ∃ (k : Nat) (r : List (Int × Int)), k ≤ ms.length ∧ iv = .int .i64 k ∧ Hid (wr.ownsRow w.heap.size 102 2 ov r.length (rowsOf prc r)) ∧ Hid (OutP ms k r) ∧ Wb.Ext w wr) (fun _ iv _ => ms.length - (intOf iv).toNat)
  case atStart => exact ⟨0, [], Nat.zero_le _, rfl, Lib.hid own_none, Lib.hid ⟨fun p => by simp, by simp⟩, by (repeat' (first | (with_reducible assumption) | (with_reducible exact Wb.Ext.refl _) | (with_reducible refine Wb.Ext.drew ?_) | (with_reducible refine Wb.Ext.drewN ?_ _) | (with_reducible refine Wb.Ext.alloc ?_ _) | (with_reducible refine Wb.Ext.trans ?_ (by assumption))))⟩
  case round =>
    obtain ⟨k, r, hk, rfl, HROW, HOUT, hxr⟩ := hrel
    obtain ⟨oa, oc, rfl⟩ := row_shape HROW.out
    have hrl : r.length ≤ 20000 := by have := HOUT.out.len; omega
    by_cases hlt : k < ms.length
    · obtain ⟨m, hmk⟩ := Wb.get_ex hlt
      have hmem := List.mem_of_getElem? hmk
      obtain ⟨b0, off0, rfl, hcells⟩ := (HV.out.ext hxr).opened (tne hlt)
      have c0 := hcells k m hmk 0 _ rfl
      simp only [Nat.add_zero, Nat.mul_one] at c0
      obtain ⟨D, hown, hD⟩ := HM.out m hmem
      have hmb := hown.lt
      have hown := hown.kept (ext_grown hxr) (by simp)
      have HD := Lib.hid hD
      have HMK := Lib.hid hmk
      have HCN := Lib.hid (HCNT.out m hmem)
      have hki : (k : Int) < ms.length := by omega
      clear hcells hmk hD hmem
      go_wp2_with (first
        | (at_range; refine wpList_range_own _ rfl _ 97 rfl 102 38 pair_keyed Tryz.underlying97 RH m.b m.n D rfl hown ?_; intro w0 hrg0 hg0 hs0)
        | go_in)
      obtain ⟨X, hX⟩ : ∃ X, wr.heap.size = X := ⟨_, rfl⟩
      have hg0' : Wb.Ext wr w0 := Wb.Ext.grown (.refl _) hg0 (fun k hk => by cases hk)
      have HX0 := Lib.hid (hxr.trans hg0')
      have HRG0 := Lib.hid hrg0
      have HROW0 := Lib.hid (HROW.out.kept hg0 (by
        rcases (Value.slice oa r.length oc).ownBlock with _ | q
        · exact .inl rfl
        · exact .inr (by simp)))
      have hXw : w.heap.size ≤ X := by rw [← hX]; exact hxr.size
      have hlt0 : X + 1 ≤ w0.heap.size := by omega
      have hrX : Hid (∀ q, (Value.slice oa r.length oc).ownBlock = some q → q ≠ X) := Lib.hid (fun q hq => by have := (HROW.out.lt q hq).2; omega)
      rw [hX] at HRG0 ⊢
      clear hown hrg0 hg0 hs0 hg0' HROW hX c0
      go_frame
      have HS0 := Lib.hid (show SoP m.f (Maps.has D) [] from ⟨(fun x hx => by cases hx), (fun p hp hf hl => by rw [(HD.out p hp).2, hf] at hl; cases hl), List.nodup_nil⟩)
      go_loopw [3] (fun ov wr => ∃ (left : Lit → Bool) (cnt : Nat) (r1 : List (Int × Int)), wr.ranges Tryz.prog 102 RH m.b X m.n D left cnt ∧ Hid (SoP m.f left r1) ∧ wr.ownsRow w.heap.size 102 2 ov (r.length + r1.length) (rowsOf prc (r ++ r1)) ∧ Hid (∀ q, ov.ownBlock = some q → q ≠ X) ∧ Hid (Wb.Ext w wr) ∧ w0.heap.size ≤ wr.heap.size) (fun _ wr => wr.rangeLeft m.b X)
      case atStart => exact ⟨_, _, [], HRG0.out, HS0, by rw [List.append_nil]; exact HROW0.out, hrX, HX0, Nat.le_refl _⟩
      case round =>
        clear HX0 HRG0 HROW0 hrX HS0
        obtain ⟨left, cnt, r1, hrg, HSO, hrow, HRX, HXR, hszr⟩ := hrel
        obtain ⟨pa, pc, rfl⟩ := row_shape hrow
        have hr1 : r1.length ≤ 10000 := HCN.out r1 HSO.out.one (fun p hp => (HSO.out.ok p hp).2.1)
        have HROW := Lib.hid hrow
        have HRG := Lib.hid hrg
        clear hrow
        go_wp2_with (first
          | (at_next; refine wpList_next_ranges (α := Int × Int) (β := Value) _ rfl _ rfl 102 pair_keyed RH (fun x => .agg #[.int .i64 x.1, .int .i64 x.2]) id (fun key kl hkey => by obtain ⟨p, c, rfl, _⟩ := pair_inv hkey; exact ⟨(p, c), rfl⟩) (fun v y hv => ⟨v, rfl⟩) m.b X m.n _ _ _ rfl hrg ?_ ?_)
          | go_in)
        · intro _ hl0
          have HN := Lib.hid (outP_next HOUT.out HMK.out HSO.out hl0 hr1)
          have HR2 := Lib.hid (show wr.ownsRow w.heap.size 102 2 (.slice pa (r ++ r1).length pc) (r ++ r1).length (rowsOf prc (r ++ r1)) by rw [List.length_append]; exact HROW.out)
          have hln : (r ++ r1).length = r.length + r1.length := List.length_append
          rw [← hln]
          clear hl0 hrg HROW
          go_wp2
          go_roundw
          case rel => exact ⟨k + 1, r ++ r1, by omega, by go_num, HR2, HN, HXR.out⟩
          case measure => first | (simp [intOf]; done) | (simp [intOf]; omega)
        · intro p q cv kl yd yp w1 cnt1 hkx hlx hry hat hrg1 hlt1 hg1 hs1 hen
          obtain ⟨y', i', e1, e2, hp', hc'⟩ := pair_inv hkx
          simp only [Value.agg.injEq] at e1
          have q1 := congrArg (fun a => a[0]?) e1
          have q2 := congrArg (fun a => a[1]?) e1
          simp at q1 q2
          subst q1 q2 e2
          have hpk : PrOk (p, q) := ⟨hp', hc'⟩
          have hff : (m.f (p, q)).isSome = true := by
            rw [← (HD.out (p, q) hpk).2]
            exact Maps.has_true_of_atKey hat
          have HN := Lib.hid (soP_more HSO.out hpk hff hlx)
          have HX1 := Lib.hid (show Wb.Ext w w1 from HXR.out.grown hg1 (fun k hk => by cases hk; exact hXw))
          have HROW1 := Lib.hid (HROW.out.kept hg1 (by
            rcases hb : (Value.slice pa (r.length + r1.length) pc).ownBlock with _ | k
            · exact .inl rfl
            · exact .inr (fun e => by injection e with e; exact HRX.out k hb e)))
          have HRG1 := Lib.hid hrg1
          have hsz1 : w0.heap.size ≤ w1.heap.size := by omega
          have hXs : X < w1.heap.size := by omega
          clear hkx hlx hry hat hrg1 hrg hg1 hs1 e1 hp' hc' hpk hff
          (try simp only [id] at hen)
          obtain ⟨hi, hz0, hz1, hz2⟩ := HIN.out
          go_wp2_with (at_builtin; go_loud (refine wpList_append_row2 rfl (.tmp 19) (.tmp 21) 100 rfl w.heap.size 102 i0 (.agg #[.int .i64 0, .int .i64 0]) 2 16 Tryz.underlying100 hi hz0 hz1 hz2 rfl (by decide) _ _ _ rfl ((HROW1.out.alloc _).alloc _) _ rfl 1 (prc (p, q)) ?c1 ?c2 ?c3 ?c4 ?c5 ?_))
          case c1 => exact src_lit _ _ (by simp) (prc (p, q)) _ _
          case c2 => intro u hu; simp [prc] at hu; rcases hu with rfl | rfl <;> rfl
          case c3 => unfold maxLen; omega
          case c4 => omega
          case c5 => first | omega | (simp; omega)
          intro u2 w6 hown2 hg2 hblk
          have hrb : ∀ k, (Value.slice pa (r.length + r1.length) pc).ownBlock = some k → w.heap.size ≤ k := fun k hk => (HROW1.out.lt k hk).1
          have HX6 := Lib.hid (show Wb.Ext w w6 from ((HX1.out.alloc _).alloc _).grown hg2 (fun k hk => hrb k hk))
          have HO := Lib.hid (show w6.ownsRow w.heap.size 102 2 u2 (r.length + (r1 ++ [(p, q)]).length) (rowsOf prc (r ++ (r1 ++ [(p, q)]))) by
            rw [← List.append_assoc, rowsOf_app prc (r ++ r1), rowsOf_one, show r.length + (r1 ++ [(p, q)]).length = r.length + r1.length + 1 by simp; omega]
            exact hown2)
          have HRX2 : Hid (∀ k, u2.ownBlock = some k → k ≠ X) := Lib.hid (fun k hk => by
            rcases hblk with h | h
            · rw [h] at hk; exact HRX.out k hk
            · rw [h] at hk; injection hk with hk; first | omega | (simp at hk; omega))
          have HRG6 := Lib.hid (((HRG1.out.alloc _).alloc _).kept hg2 (fun e => by have := hrb m.b e.symm; omega) (fun e => HRX.out X e.symm rfl))
          have hs6 : w0.heap.size ≤ w6.heap.size := by have := hg2.size; simp at this; omega
          clear hi hz0 hz1 hz2 hg2 hown2 hblk hrb
          go_wp2
          go_roundw
          case rel => exact ⟨_, cnt1, r1 ++ [(p, q)], HRG6.out, HN, HO.out, HRX2, HX6, hs6⟩
          case measure => rw [HRG6.out.left_eq, HRG.out.left_eq]; exact hlt1
    · obtain rfl : k = ms.length := by omega
      go_wp2_with fail
      go_fit (sortp_any w.heap.size _ r wr HROW.out (by omega)); rintro e w3 ⟨rfl, r2, hp, hs, ho, hg⟩
      have hx3 : Wb.Ext w w3 := hxr.grown hg (fun k hk => (HROW.out.lt k hk).1)
      have hln : r2.length = r.length := hp.length_eq
      have HMEM : Hid (∀ p, p ∈ Wb.cpt r2 ↔ PrOk p ∧ ∃ m ∈ ms, (m.f p).isSome = true) := Lib.hid (fun p => by
        rw [Wb.cpt_mem, hp.mem_iff, HOUT.out.mem, List.take_length])
      have HRI := Lib.hid (Wb.cpt_rise hs)
      have hcl := Wb.cpt_len r2
      clear hp hs hg
      by_cases hfew : r.length < 2
      · have HT := Lib.hid (show Tbl 2 prc w3 (.slice oa r.length oc) (Wb.cpt r2) by
          have e : Wb.cpt r2 = r2 := by
            match r2, hln with
            | [], _ => rfl
            | [x], _ => rfl
            | x :: y :: t, h => simp at h; omega
          rw [e]
          exact row_tbl prc_len (by decide) ho)
        clear ho
        go_wp2_with fail
        go_fit (compact_few oa r.length oc w3 hfew); rintro e w4 ⟨rfl, rfl⟩
        go_wp2
        refine bodyPost_ret (v := .slice oa r.length oc) (by simp [results, Tryz.results47, go_sem]) rfl ⟨_, rfl, Wb.cpt r2, HT.out, HRI.out, HMEM.out, by omega, by (repeat' (first | (with_reducible assumption) | (with_reducible exact Wb.Ext.refl _) | (with_reducible refine Wb.Ext.drew ?_) | (with_reducible refine Wb.Ext.drewN ?_ _) | (with_reducible refine Wb.Ext.alloc ?_ _) | (with_reducible refine Wb.Ext.trans ?_ (by assumption))))⟩
      · have hr2 : 2 ≤ r2.length := by omega
        obtain ⟨g, rfl, hcap⟩ : ∃ g, oa = some ⟨g, 0, none⟩ ∧ r.length ≤ oc := by
          obtain ⟨h1, h2 | ⟨g, cap, cur, hv, hb, hg, h3, h4, _⟩⟩ := ho
          · injection h2.1 with _ e _; omega
          · injection hv with e1 _ e3; exact ⟨g, e1, by omega⟩
        have HPC : Hid (PairsC w3 g 0 r2) := Lib.hid (fun j p hj => by
          obtain ⟨b1, o1, e1, hc⟩ := (row_tbl prc_len (by decide) ho).opened (by intro e; rw [e] at hr2; simp at hr2)
          injection e1 with e1
          injection e1 with e2 e3
          subst e2 e3
          have h0 := hc j p hj 0 _ rfl
          have h1 := hc j p hj 1 _ rfl
          exact ⟨by simpa using h0, h1⟩)
        have hfz : ∀ j, w3.frozen? ⟨g, j, none⟩ = false := own_free ho
        have hgb : w.heap.size ≤ g := (ho.lt g rfl).1
        rw [← hln] at hcap ⊢
        have hr2l : r2.length ≤ 20000 := by omega
        clear ho hln hrl
        go_wp2_with fail
        go_fit (compact_many w g 0 oc r2 w3 hr2 (by omega) hcap HPC.out hfz hgb hx3); rintro e w4 ⟨rfl, hpc, hx4⟩
        have HT := Lib.hid (pairsC_tbl (v := .slice (some ⟨g, 0, none⟩) (Wb.cpt r2).length oc) rfl rfl hpc)
        clear hpc
        go_wp2
        refine bodyPost_ret (v := .slice (some ⟨g, 0, none⟩) (Wb.cpt r2).length oc) (by simp [results, Tryz.results47, go_sem]) rfl ⟨_, rfl, Wb.cpt r2, HT.out, HRI.out, HMEM.out, by omega, hx4⟩

end Go.Proofs.YtnefdpnolojojaaGreat
