/- MMo -/
import Derived.Test.YtnefdpnolojojaaGreatDoorMSt
import Derived.Test.YtnefdpnolojojaaGreatDoorMRf
import Derived.Test.YtnefdpnolojojaaGreatDoorMDa
import Derived.Test.YtnefdpnolojojaaGreatDoorRun26
import Derived.Deep.RegionHeld
import Derived.Test.YtnefdpnolojojaaGreatDoorMRa
import Derived.Deep.RegionHeld3
namespace Go.Proofs.YtnefdpnolojojaaGreatDoor
open Go.RowKit Go.Sort Go.Lib Go.Maps
set_option maxRecDepth 8000
attribute [local go_sem ↓] Go.wp_at_zero Go.wp_at_succ
end Go.Proofs.YtnefdpnolojojaaGreatDoor
namespace Go.Proofs.YtnefdpnolojojaaGreatDoor
open Go.RowKit Go.Sort Go.Lib Go.Maps
set_option maxRecDepth 8000
attribute [local go_sem ↓] Go.wp_at_zero Go.wp_at_succ
end Go.Proofs.YtnefdpnolojojaaGreatDoor
namespace Go.Proofs.YtnefdpnolojojaaGreatDoor
open Go.RowKit Go.Sort Go.Lib Go.Maps
set_option maxRecDepth 8000
attribute [local go_sem ↓] Go.wp_at_zero Go.wp_at_succ
end Go.Proofs.YtnefdpnolojojaaGreatDoor
namespace Go.Proofs.YtnefdpnolojojaaGreatDoor
open Go.RowKit Go.Sort Go.Lib Go.Maps
set_option maxRecDepth 8000
attribute [local go_sem ↓] Go.wp_at_zero Go.wp_at_succ
def SrcX (w : World) (size : Nat) (v : Value) (m : Nat) (news : List Value) : Prop := Wb.SrcRow w size v m news ∨ (m = 0 ∧ news = [] ∧ ∃ c, v = .slice none 0 c)
theorem SrcX.ext {w w' : World} {size m : Nat} {v : Value} {news : List Value} (h : SrcX w size v m news) (k : Wb.Ext w w') : SrcX w' size v m news := h.elim (fun h => .inl (h.ext k)) .inr
end Go.Proofs.YtnefdpnolojojaaGreatDoor
namespace Go.Proofs.YtnefdpnolojojaaGreatDoor
open Go.RowKit Go.Sort Go.Lib Go.Maps
set_option maxRecDepth 8000
attribute [local go_sem ↓] Go.wp_at_zero Go.wp_at_succ
end Go.Proofs.YtnefdpnolojojaaGreatDoor
namespace Go.Proofs.YtnefdpnolojojaaGreatDoor
open Go.RowKit Go.Sort Go.Lib Go.Maps
set_option maxRecDepth 8000
attribute [local go_sem ↓] Go.wp_at_zero Go.wp_at_succ
theorem slsK_nil {w : World} : SlsK w (.slice none 0 0) [] := ⟨⟨.inl ⟨rfl, _, _, rfl⟩, fun s hs => by cases hs⟩, by simp, fun s hs => by cases hs⟩
def HF (F0 : Nat → Prop) (A s : Nat) (v : Value) (q : Nat) : Prop := (q < A ∧ F0 q) ∨ (s ≤ q ∧ v.ownBlock ≠ some q)
structure MLp (F0 : Nat → Prop) (wB wr : World) (A P R s : Nat) (RL : Int) (y i k : Int) (B : Wb.Bk) (S : Int → List Wb.Ct) (who : List Int) (n1 n2 : Nat) (ga : Option Addr) (gc : Nat) (rows : List RwM) (dp : List Int) (ro : List Wb.Rw) : Prop where
 kept : Kept (fun q => q < s ∧ q ≠ P ∧ q ≠ P + 1 ∧ q ≠ R) wB wr
 size : s ≤ wr.heap.size
 ord : A + 4 ≤ P ∧ P + 2 ≤ R ∧ R < s
 r0 : wr.cell? ⟨R, 0, none⟩ = some (.int .i64 RL)
 r1 : wr.cell? ⟨R, 1, none⟩ = some (.int .i64 y)
 r2 : wr.cell? ⟨R, 2, none⟩ = some (.int .i64 i)
 r3 : wr.cell? ⟨R, 3, none⟩ = some (.int .i64 k)
 r4 : wr.cell? ⟨R, 4, none⟩ = some (.slice ga rows.length gc)
 rf : ∀ j, wr.frozen? ⟨R, j, none⟩ = false
 paid : ∃ fp, KMap kU32 wr P n1 (.slice none 0 0) fp ∧ (∀ p, ∃ L, (∀ w2, Kept (HF F0 A s (.slice ga rows.length gc)) wr w2 → SlsK w2 ((fp p).getD (.slice none 0 0)) L) ∧ L.map Wb.ct = if p ∈ dp then Wb.fullC (S p) else []) ∧
  (∀ p, (if p ∈ dp then Wb.fullC (S p) else []) ≠ [] → kU32.ok p ∧ (fp p).isSome = true) ∧ ∀ p, kU32.ok p → (fp p).isSome = true → p ∈ who
 owed : ∃ fo, KMap kU32 wr (P + 1) n2 (.int .i64 0) fo ∧ (∀ p, (fo p).getD (.int .i64 0) = .int .i64 (Wb.owedBy ro B.owed p)) ∧ ∀ p, kU32.ok p → (fo p).isSome = true → p ∈ who
 own : wr.ownsRow s 54 8 (.slice ga rows.length gc) rows.length (rowsOf rwc rows)
 each : ∀ r ∈ rows, ∀ w2, Kept (HF F0 A s (.slice ga rows.length gc)) wr w2 → RwIs w2 r
section
variable {F0 : Nat → Prop} {wB wr w' : World} {A P R s : Nat} {RL : Int} {y i k : Int} {B : Wb.Bk} {S : Int → List Wb.Ct} {who : List Int} {n1 n2 : Nat} {ga : Option Addr} {gc : Nat} {rows : List RwM} {dp : List Int} {ro : List Wb.Rw}
theorem MLp.later (h : MLp F0 wB wr A P R s RL y i k B S who n1 n2 ga gc rows dp ro) (e : Wb.Ext wr w') : MLp F0 wB w' A P R s RL y i k B S who n1 n2 ga gc rows dp ro := by
 have hs := h.size
 have ho := h.ord
 obtain ⟨fp, p1, p2, p3, p4⟩ := h.paid
 obtain ⟨fo, o1, o2, o3⟩ := h.owed
 exact ⟨h.kept.trans (.ext e), Nat.le_trans hs e.size, ho, e.keep h.r0, e.keep h.r1, e.keep h.r2, e.keep h.r3, e.keep h.r4, fun j => (e.cells.2 _ _ (by omega)).trans (h.rf j),
  ⟨fp, p1.ext e, fun p => by obtain ⟨L, l1, l2⟩ := p2 p; exact ⟨L, fun w2 h2 => l1 w2 ((Kept.ext e).trans h2), l2⟩, p3, p4⟩, ⟨fo, o1.ext e, o2, o3⟩, row_ext3 h.own e, fun r hr w2 h2 => h.each r hr w2 ((Kept.ext e).trans h2)⟩
theorem MLp.skip {p : Int} (h : MLp F0 wB wr A P R s RL y i k B S who n1 n2 ga gc rows dp ro) (h1 : Wb.fullC (S p) = []) :
  MLp F0 wB wr A P R s RL y i k B S who (n1 + 1) n2 ga gc rows (dp ++ [p]) ro := by
 obtain ⟨fp, p1, p2, p3, p4⟩ := h.paid
 have e : ∀ q, (if q ∈ dp ++ [p] then Wb.fullC (S q) else []) = if q ∈ dp then Wb.fullC (S q) else [] := fun q => by
  by_cases e : q = p
  ·subst e
   rw [if_pos (by simp), h1]
   split <;> rfl
  ·simp [e]
 exact { h with
  paid := ⟨fp, p1.mono (by omega), fun q => by rw [e]; exact p2 q, fun q => by rw [e]; exact p3 q, p4⟩ }
theorem MLp.paid_run {p : Int} {u : Value} {L : List Wb.Sl} (h : MLp F0 wB wr A P R s RL y i k B S who n1 n2 ga gc rows dp ro) (hp : kU32.ok p) (hw : p ∈ who) (hn : n1 < maxLen)
  (hu : ∀ w2, Kept (HF F0 A s (.slice ga rows.length gc)) wr w2 → SlsK w2 u L) (hL : L.map Wb.ct = Wb.fullC (S p)) :
  ∃ w12, (Instr.mapUpdate 24 (.map (some P)) (.int .u32 p) u).run Tryz.prog wr = .ok () w12 ∧ MLp F0 wB w12 A P R s RL y i k B S who (n1 + 1) n2 ga gc rows (dp ++ [p]) ro ∧ wr.grownBy w12 (some P) := by
 obtain ⟨fp, p1, p2, p3, p4⟩ := h.paid
 obtain ⟨fo, o1, o2, o3⟩ := h.owed
 obtain ⟨w12, hrun, hm, hg⟩ := p1.update Tryz.underlying24 hn hp u
 have ho := h.ord
 have hk : Kept (HF F0 A s (.slice ga rows.length gc)) wr w12 := .grown hg (fun q e hq hne => by cases e; rcases hne with h | h <;> omega)
 have hkk : Kept (fun q => q ≠ P) wr w12 := .grown hg (fun q e hq hne => by cases e; exact hne rfl)
 have hlt := h.own.lt
 refine ⟨w12, hrun, ⟨h.kept.trans (hkk.mono fun q _ hq => hq.2.1), Nat.le_trans h.size hkk.size, ho, hkk.cell (by omega) h.r0, hkk.cell (by omega) h.r1, hkk.cell (by omega) h.r2, hkk.cell (by omega) h.r3, hkk.cell (by omega) h.r4, fun j => hkk.frozen (by omega) (by have := h.size; omega) (h.rf j),
  ⟨_, hm, fun q => ?_, fun q => ?_, fun q hq => ?_⟩, ⟨fo, o1.kept hg (by intro e; injection e with e; omega), o2, o3⟩, own_keptF h.own hkk (fun q hq => by have := hlt q hq; omega), fun r hr w2 h2 => h.each r hr w2 (hk.trans h2)⟩, hg⟩
 ·by_cases e : p = q
  ·subst e
   exact ⟨L, fun w2 h2 => by rw [if_pos rfl]; exact hu w2 (hk.trans h2), by rw [if_pos (by simp), hL]⟩
  ·obtain ⟨L1, l1, l2⟩ := p2 q
   have e2 : ¬ q = p := fun h => e h.symm
   exact ⟨L1, fun w2 h2 => by rw [if_neg e]; exact l1 w2 (hk.trans h2), by rw [l2]; simp [e2]⟩
 ·by_cases e : p = q
  ·subst e
   exact fun _ => ⟨hp, by rw [if_pos rfl]; rfl⟩
  ·have e2 : ¬ q = p := fun h => e h.symm
   rw [if_neg e]
   have := p3 q
   simpa [e2] using this
 ·by_cases e : p = q
  ·subst e; exact fun _ => hw
  ·rw [if_neg e]; exact p4 q hq
theorem MLp.owed_run {p : Int} {r : Wb.Rw} (h : MLp F0 wB wr A P R s RL y i k B S who n1 n2 ga gc rows dp ro) (hp : kU32.ok p) (hw : p ∈ who) (hn : n2 < maxLen) (hr : r.p = p) (hnew : ∀ t ∈ ro, t.p ≠ p) :
  ∃ w12, (Instr.mapUpdate 25 (.map (some (P + 1))) (.int .u32 p) (.int .i64 r.owed)).run Tryz.prog wr = .ok () w12 ∧ MLp F0 wB w12 A P R s RL y i k B S who n1 (n2 + 1) ga gc rows dp (ro ++ [r]) ∧ wr.grownBy w12 (some (P + 1)) := by
 obtain ⟨fp, p1, p2, p3, p4⟩ := h.paid
 obtain ⟨fo, o1, o2, o3⟩ := h.owed
 obtain ⟨w12, hrun, hm, hg⟩ := o1.update Tryz.underlying25 hn hp (.int .i64 r.owed)
 have ho := h.ord
 have hk : Kept (HF F0 A s (.slice ga rows.length gc)) wr w12 := .grown hg (fun q e hq hne => by cases e; rcases hne with h | h <;> omega)
 have hkk : Kept (fun q => q ≠ P + 1) wr w12 := .grown hg (fun q e hq hne => by cases e; exact hne rfl)
 have hlt := h.own.lt
 refine ⟨w12, hrun, ⟨h.kept.trans (hkk.mono fun q _ hq => hq.2.2.1), Nat.le_trans h.size hkk.size, ho, hkk.cell (by omega) h.r0, hkk.cell (by omega) h.r1, hkk.cell (by omega) h.r2, hkk.cell (by omega) h.r3, hkk.cell (by omega) h.r4, fun j => hkk.frozen (by omega) (by have := h.size; omega) (h.rf j),
  ⟨fp, p1.kept hg (by intro e; injection e with e; omega), fun q => ?_, p3, p4⟩, ⟨_, hm, fun q => ?_, fun q hq => ?_⟩, own_keptF h.own hkk (fun q hq => by have := hlt q hq; omega), fun r hr w2 h2 => h.each r hr w2 (hk.trans h2)⟩, hg⟩
 ·obtain ⟨L1, l1, l2⟩ := p2 q
  exact ⟨L1, fun w2 h2 => l1 w2 (hk.trans h2), l2⟩
 ·unfold Wb.owedBy
  rw [List.find?_append]
  by_cases e : p = q
  ·subst e
   rw [if_pos rfl, List.find?_eq_none.2 (fun t ht => by simpa using hnew t ht)]
   simp [hr]
  ·rw [if_neg e, o2 q]
   unfold Wb.owedBy
   have e2 : ¬ r.p = q := by rw [hr]; exact e
   cases hfd : List.find? (fun r => decide (r.p = q)) ro with
   | none => simp [e2]
   | some t => simp
 ·by_cases e : p = q
  ·subst e; exact fun _ => hw
  ·rw [if_neg e]; exact o3 q hq
theorem MLp.push {w6 : World} {r : RwM} {ea : Option Addr} {ec : Nat} (h : MLp F0 wB wr A P R s RL y i k B S who n1 n2 ga gc rows dp ro)
  (ho : w6.ownsRow s 54 8 (.slice ea (rows.length + 1) ec) (rows.length + 1) (rowsOf rwc rows ++ rwc r)) (hg : wr.grownBy w6 (Value.slice ga rows.length gc).ownBlock)
  (hb : (Value.slice ea (rows.length + 1) ec).ownBlock = (Value.slice ga rows.length gc).ownBlock ∨ (Value.slice ea (rows.length + 1) ec).ownBlock = some wr.heap.size)
  (hr : ∀ w2, Kept (HF F0 A s (.slice ga rows.length gc)) wr w2 → RwIs w2 r) :
  MLp F0 wB (w6.setCell ⟨R, 4, none⟩ (.slice ea (rows.length + 1) ec)) A P R s RL y i k B S who n1 n2 ea ec (rows ++ [r]) dp ro := by
 have hne := h.ord
 have hsz := h.size
 have hlt := h.own.lt
 have hg2 : w6.grownBy (w6.setCell ⟨R, 4, none⟩ (.slice ea (rows.length + 1) ec)) (some R) := setj_grown _ _ _ _
 have k1 : Kept (fun q => (Value.slice ga rows.length gc).ownBlock ≠ some q) wr w6 := .grown hg (fun q e hq hne => hne e)
 have k2 : Kept (fun q => q ≠ R) w6 (w6.setCell ⟨R, 4, none⟩ (.slice ea (rows.length + 1) ec)) := .grown hg2 (fun q e hq hne => by cases e; exact hne rfl)
 have kk : Kept (fun q => (Value.slice ga rows.length gc).ownBlock ≠ some q ∧ q ≠ R) wr (w6.setCell ⟨R, 4, none⟩ (.slice ea (rows.length + 1) ec)) := (k1.mono fun q _ hq => hq.1).trans (k2.mono fun q _ hq => hq.2)
 have low : ∀ q, q < s → (Value.slice ga rows.length gc).ownBlock ≠ some q := fun q hq e => by have := (hlt q e).1; omega
 have kb : ∀ w2, Kept (HF F0 A s (.slice ea (rows.length + 1) ec)) (w6.setCell ⟨R, 4, none⟩ (.slice ea (rows.length + 1) ec)) w2 → Kept (HF F0 A s (.slice ga rows.length gc)) wr w2 := fun w2 h2 =>
  ⟨h2.os.trans kk.os, h2.tape.trans kk.tape, h2.output.trans kk.output, Nat.le_trans kk.size h2.size, fun q hq hf => by
   have hnR : q ≠ R := fun e => by rcases hf with h | h <;> omega
   have hng : (Value.slice ga rows.length gc).ownBlock ≠ some q := by
    rcases hf with h | h
    ·exact low q (by omega)
    ·exact h.2
   refine (h2.block q (Nat.lt_of_lt_of_le hq kk.size) ?_).trans (kk.block q hq ⟨hng, hnR⟩)
   rcases hf with h | h
   ·exact .inl h
   ·refine .inr ⟨h.1, fun e => ?_⟩
    rcases hb with e2 | e2
    ·exact hng (e2 ▸ e)
    ·rw [e2] at e; injection e with e; omega⟩
 have hc : ∀ j v, j ≠ 4 → wr.cell? ⟨R, j, none⟩ = some v → (w6.setCell ⟨R, 4, none⟩ (.slice ea (rows.length + 1) ec)).cell? ⟨R, j, none⟩ = some v := fun j v hj hv => by
  rw [World.cell?_setCell_other _ _ _ _ (by intro e; injection e with _ e2 _; exact hj e2.symm)]
  exact k1.cell (low R (by omega)) hv
 have h4 : (w6.setCell ⟨R, 4, none⟩ (.slice ea (rows.length + 1) ec)).cell? ⟨R, 4, none⟩ = some (.slice ea (rows.length + 1) ec) := by
  have := k1.cell (low R (by omega)) h.r4
  simp [go_sem, this]
 obtain ⟨fp, p1, p2, p3, p4⟩ := h.paid
 obtain ⟨fo, o1, o2, o3⟩ := h.owed
 have G : ∀ q, q < s → q ≠ R → (Value.slice ga rows.length gc).ownBlock ≠ some q ∧ q ≠ R := fun q h1 h2 => ⟨low q h1, h2⟩
 have hl1 : (rows ++ [r]).length = rows.length + 1 := by simp
 refine ⟨h.kept.trans (kk.mono fun q _ hq => G q hq.1 hq.2.2.2), Nat.le_trans hsz kk.size, hne, hc 0 _ (by decide) h.r0, hc 1 _ (by decide) h.r1, hc 2 _ (by decide) h.r2, hc 3 _ (by decide) h.r3, by rw [hl1]; exact h4, fun j => ?_,
  ⟨fp, p1.keptF kk (G _ (by omega) (by omega)), fun q => by rw [hl1]; obtain ⟨L1, l1, l2⟩ := p2 q; exact ⟨L1, fun w2 h2 => l1 w2 (kb w2 h2), l2⟩, p3, p4⟩, ⟨fo, o1.keptF kk (G _ (by omega) (by omega)), o2, o3⟩, ?_, fun t ht w2 h2 => ?_⟩
 ·have := k1.frozen (low R (by omega)) (by omega) (h.rf j)
  simp [go_sem, this]
 ·rw [hl1]
  have e : rowsOf rwc (rows ++ [r]) = rowsOf rwc rows ++ rwc r := by simp [rowsOf]
  rw [e]
  refine own_keptF ho k2 (fun q hq e2 => ?_)
  have := ho.lt q hq
  omega
 ·rw [hl1] at h2
  rcases List.mem_append.1 ht with ht | ht
  ·exact h.each t ht w2 (kb w2 h2)
  ·obtain rfl : t = r := by simpa using ht
   exact hr w2 (kb w2 h2)
end
end Go.Proofs.YtnefdpnolojojaaGreatDoor
