/- Mod8 -/
import Derived.Test.YtnefdpnolojojaaGreatMod34
namespace Go.Proofs.YtnefdpnolojojaaGreat
open Go.RowKit Go.Sort Go.Lib Go.Maps
set_option maxRecDepth 8000
attribute [local go_sem ↓] Go.wp_at_zero Go.wp_at_succ
structure DmAt (w W : World) (A : Nat) (ra : Option Addr) (RL rc : Nat) (mp mo : Option Nat) (y i k : Int) (xv : Value) : Prop where
  b0 : W.cell? ⟨A, 0, none⟩ = some (.slice ra RL rc)
  b1 : W.cell? ⟨A, 1, none⟩ = some (.map mp)
  b2 : W.cell? ⟨A, 2, none⟩ = some (.map mo)
  x0 : W.cell? ⟨A + 1, 0, none⟩ = some (.int .i64 y)
  x1 : W.cell? ⟨A + 1, 1, none⟩ = some (.int .i64 i)
  x2 : W.cell? ⟨A + 1, 2, none⟩ = some (.int .i64 k)
  x3 : W.cell? ⟨A + 1, 3, none⟩ = some xv
  o0 : W.cell? ⟨A + 1 + 1, 0, none⟩ = some (.slice none 0 0)
  o1 : W.cell? ⟨A + 1 + 1, 1, none⟩ = some (.map none)
  o2 : W.cell? ⟨A + 1 + 1, 2, none⟩ = some (.map none)
  q0 : W.cell? ⟨A + 1 + 1 + 1, 0, none⟩ = some (.int .i64 0)
  q1 : W.cell? ⟨A + 1 + 1 + 1, 1, none⟩ = some (.int .i64 0)
  q2 : W.cell? ⟨A + 1 + 1 + 1, 2, none⟩ = some (.int .i64 0)
  q3 : W.cell? ⟨A + 1 + 1 + 1, 3, none⟩ = some (.int .i64 0)
  q4 : W.cell? ⟨A + 1 + 1 + 1, 4, none⟩ = some (.slice none 0 0)
  fo : ∀ j, W.frozen? ⟨A + 1 + 1, j, none⟩ = false
  fq : ∀ j, W.frozen? ⟨A + 1 + 1 + 1, j, none⟩ = false
  lo : w.heap.size = A
  hi : A + 4 ≤ W.heap.size
  ext : Wb.Ext w W
theorem DmAt.kept {w W W' : World} {A : Nat} {ra : Option Addr} {RL rc : Nat} {mp mo : Option Nat} {y i k : Int} {xv : Value} {F : Nat → Prop} (h : DmAt w W A ra RL rc mp mo y i k xv) (e : Kept F W W') (hF : ∀ q, q < A + 4 → F q) : DmAt w W' A ra RL rc mp mo y i k xv := by
  have h0 := hF A (by omega)
  have h1 := hF (A + 1) (by omega)
  have h2 := hF (A + 1 + 1) (by omega)
  have h3 := hF (A + 1 + 1 + 1) (by omega)
  have hi := h.hi
  exact ⟨e.cell h0 h.b0, e.cell h0 h.b1, e.cell h0 h.b2, e.cell h1 h.x0, e.cell h1 h.x1, e.cell h1 h.x2, e.cell h1 h.x3, e.cell h2 h.o0, e.cell h2 h.o1, e.cell h2 h.o2, e.cell h3 h.q0, e.cell h3 h.q1, e.cell h3 h.q2, e.cell h3 h.q3, e.cell h3 h.q4,
    fun j => e.frozen h2 (by omega) (h.fo j), fun j => e.frozen h3 (by omega) (h.fq j), h.lo, Nat.le_trans h.hi e.size, e.old h.ext (fun i hi => hF i (by have := h.lo; omega))⟩
theorem DmAt.later {w W W' : World} {A : Nat} {ra : Option Addr} {RL rc : Nat} {mp mo : Option Nat} {y i k : Int} {xv : Value} (h : DmAt w W A ra RL rc mp mo y i k xv) (e : Wb.Ext W W') : DmAt w W' A ra RL rc mp mo y i k xv := h.kept (F := fun _ => True) (.ext e) (fun _ _ => trivial)
theorem MLp.mono {F0 : Nat → Prop} {wB wr : World} {A P R s : Nat} {RL y i k : Int} {B : Wb.Bk} {S : Int → List Wb.Ct} {who : List Int} {n1 n2 m1 m2 : Nat} {ga : Option Addr} {gc : Nat} {rows : List RwM} {dp : List Int} {ro : List Wb.Rw} (h : MLp F0 wB wr A P R s RL y i k B S who n1 n2 ga gc rows dp ro) (h1 : n1 ≤ m1) (h2 : n2 ≤ m2) :
    MLp F0 wB wr A P R s RL y i k B S who m1 m2 ga gc rows dp ro := by
  obtain ⟨fp, p1, p2⟩ := h.paid
  obtain ⟨fo, o1, o2⟩ := h.owed
  exact { h with paid := ⟨fp, p1.mono h1, p2⟩, owed := ⟨fo, o1.mono h2, o2⟩ }
def KEm (A O : Nat) (q : Nat) : Prop := (q < A ∨ A + 4 ≤ q) ∧ q ≠ O
theorem Kept.drewM {F : Nat → Prop} {w w' : World} (h : Kept F w w') : Kept F w w'.drew := h.trans (.ext (.drew (.refl _)))
theorem mrows_fin {F0 : Nat → Prop} {wB wr wE w2 : World} {A P R O s n1 n2 : Nat} {RL y i k : Int} {B : Wb.Bk} {S : Int → List Wb.Ct} {who ps : List Int} {ga : Option Addr} {gc : Nat} {rows : List RwM} {ro : List Wb.Rw}
    (h : MLp F0 wB wr A P R s RL y i k B S who n1 n2 ga gc rows ps ro) (hk : Kept (KEm A O) wr wE) (hO : P + 2 = O ∧ O < R) (hrw : rows.length ≤ 100000) (h2 : Kept (FE F0 A) wE w2) : RowsM w2 (.slice ga rows.length gc) rows := by
  have ho := h.ord
  have hown := h.own.lt
  have hF : Kept (HF F0 A s (.slice ga rows.length gc)) wr w2 := ⟨h2.os.trans hk.os, h2.tape.trans hk.tape, h2.output.trans hk.output, Nat.le_trans hk.size h2.size, fun q hq hf => by
    have hA2 : KEm A O q := by rcases hf with hf | hf <;> exact ⟨by omega, by omega⟩
    refine (h2.block q (Nat.lt_of_lt_of_le hq hk.size) ?_).trans (hk.block q hq hA2)
    rcases hf with hf | hf
    · exact fun _ => hf.2
    · exact fun e => absurd e (by omega)⟩
  exact ⟨row_tbl rwc_len (by decide) (own_keptF (own_keptF h.own hk (fun q hq => by have := (hown q hq).1; exact ⟨by omega, by omega⟩)) h2 (fun q hq e => by have := (hown q hq).1; omega)),
     fun t ht => h.each t ht w2 hF, hrw, fun t ht => by
       have h9 := h.each t ht wr .refl
       obtain ⟨a, c, e1⟩ := h9.now.1.shape
       obtain ⟨a', c', e2⟩ := h9.back.1.shape
       exact ⟨a, _, c, a', _, c', e1, e2⟩⟩
theorem mdo_fin {F0 : Nat → Prop} {w wB wr wE : World} {A P R O s n1 n2 RL : Nat} {y i k : Int} {B : Wb.Bk} {S : Int → List Wb.Ct} {hs ks ps : List Int} {N : Nat} {ga : Option Addr} {gc : Nat} {rows : List RwM} {v2 : Value} {r1 : RnM} {LR : List RnM}
    (h : MLp F0 wB wr A P R s ((RL : Int) + 1) y i k B S (ks ++ hs) n1 n2 ga gc rows (ps.take ps.length) (rows.map RwM.c)) (hk : Kept (KEm A O) wr wE) (hO : P + 2 = O ∧ O < R) (hlo : w.heap.size = A) (hx : Wb.Ext w wr) (hn1 : n1 ≤ N + ps.length) (hn2 : n2 ≤ N + ps.length)
    (hw : Wb.Who B S hs ps) (h0 : Wb.headE B.runs y i k = 0) (h1 : Wb.handsE (y, i) S hs = 0) (h2 : Wb.rowsG (y, i) B S [] ps = (0, rows.map RwM.c)) (hpl : ps.length ≤ ks.length + hs.length) (hrw : rows.length ≤ 100000)
    (hr : ∀ w2, Kept (FE F0 A) wE w2 → RunsM w2 v2 (LR ++ [r1])) (hLR : LR.map RnM.c = B.runs) (hrl : B.runs.length = RL) (hr1 : r1.c = ⟨(RL : Int) + 1, y, i, k, rows.map RwM.c⟩) :
    DoPost F0 B y i k S hs ks N w (.returned (.tuple #[BkV v2 (some P) (some (P + 1)), RnV ((RL : Int) + 1) y i k (.slice ga rows.length gc), .int .i64 0])) wE := by
  have ho := h.ord
  obtain ⟨fp, p1, p2, p3, p4⟩ := h.paid
  obtain ⟨fo, o1, o2, o3⟩ := h.owed
  rw [List.take_length] at p2 p3
  have e : ∀ p, (if p ∈ ps then Wb.fullC (S p) else []) = Wb.fullC (S p) := fun p => by
    by_cases hp : p ∈ ps
    · rw [if_pos hp]
    · rw [if_neg hp]
      have h5 : S p = [] := Classical.byContradiction fun h => hp (hw.all p (.inl h))
      rw [h5]; rfl
  have hF : ∀ w2, Kept (FE F0 A) wE w2 → Kept (HF F0 A s (.slice ga rows.length gc)) wr w2 := fun w2 h2 => ⟨h2.os.trans hk.os, h2.tape.trans hk.tape, h2.output.trans hk.output, Nat.le_trans hk.size h2.size, fun q hq hf => by
    have hA2 : KEm A O q := by rcases hf with hf | hf <;> exact ⟨by omega, by omega⟩
    refine (h2.block q (Nat.lt_of_lt_of_le hq hk.size) ?_).trans (hk.block q hq hA2)
    rcases hf with hf | hf
    · exact fun _ => hf.2
    · exact fun e => absurd e (by omega)⟩
  have hxE : Wb.Ext w wE := hk.old hx (fun q hq => ⟨by omega, by omega⟩)
  have hf : (fun q => q < w.heap.size → F0 q) = FE F0 A := by rw [hlo]; rfl
  have hown := h.own.lt
  have hL : ∀ w2, Kept (FE F0 A) wE w2 → RowsM w2 (.slice ga rows.length gc) rows := fun w2 h2 =>
    ⟨row_tbl rwc_len (by decide) (own_keptF (own_keptF h.own hk (fun q hq => by have := (hown q hq).1; exact ⟨by omega, by omega⟩)) h2 (fun q hq e => by have := (hown q hq).1; omega)),
     fun t ht => h.each t ht w2 (hF w2 h2), hrw, fun t ht => by
       have h9 := h.each t ht wr .refl
       obtain ⟨a, c, e1⟩ := h9.now.1.shape
       obtain ⟨a', c', e2⟩ := h9.back.1.shape
       exact ⟨a, _, c, a', _, c', e1, e2⟩⟩
  refine ⟨ps, v2, some P, some (P + 1), ⟨(RL : Int) + 1, y, i, k, .slice ga rows.length gc, rows⟩, ⟨B.runs ++ [⟨(RL : Int) + 1, y, i, k, rows.map RwM.c⟩], fun p => Wb.fullC (S p), Wb.owedBy (rows.map RwM.c) B.owed⟩, 0, hw, ?_, rfl, ?_, by rw [hf]; exact hL, hxE⟩
  · rw [do_good h0 h1 h2, hrl]
    rfl
  rw [hf]
  refine ⟨⟨LR ++ [r1], hr, by rw [List.map_append, hLR, List.map_cons, List.map_nil, hr1]⟩, ⟨n1, fp, ⟨fun w2 h2 => ((p1.keptF hk ⟨by omega, by omega⟩).keptF h2 (fun e => by omega)).opt, fun p => ?_, fun p hp => ?_⟩, by omega, p4⟩, ⟨n2, fo, fun w2 h2 => ((o1.keptF hk ⟨by omega, by omega⟩).keptF h2 (fun e => by omega)).opt, by omega, o2, o3⟩⟩
  · obtain ⟨L, l1, l2⟩ := p2 p
    exact ⟨L, fun w2 h2 => l1 w2 (hF w2 h2), by rw [l2, e]⟩
  · have := p3 p
    rw [e] at this
    exact this hp
theorem mwho_any {w : World} {rv : Value} {mp mo : Option Nat} {B : Wb.Bk} {ks hs : List Int} {N : Nat} {f : Int → Option Value} {S : Int → List Wb.Ct} (h : BkAt w rv mp mo B ks N) (hS : ∀ p, S p ≠ [] → kU32.ok p ∧ (f p).isSome = true) (hh : KeysAre kU32 f hs) : ∃ ps, Wb.Who B S hs ps := by
  obtain ⟨ps0, h10, h20⟩ := exists_nodup (hs ++ ks)
  have hperm := List.mergeSort_perm ps0 (fun a b => decide (a ≤ b))
  have hup := List.pairwise_mergeSort (le := fun a b : Int => decide (a ≤ b)) (fun a b c h1 h2 => by simp at *; omega) (fun a b => by simp; omega) ps0
  obtain ⟨ps, hps⟩ : ∃ ps, ps = ps0.mergeSort (fun a b => decide (a ≤ b)) := ⟨_, rfl⟩
  rw [← hps] at hperm hup
  have h1 : ps.Nodup := hperm.nodup_iff.2 h10
  have h2 : ∀ x, x ∈ ps ↔ x ∈ hs ++ ks := fun x => by rw [hperm.mem_iff, h20]
  have h3 : ∀ p, S p ≠ [] → p ∈ hs := fun p hp => (hh.2 p).2 (hS p hp)
  obtain ⟨n2, f2, h4, -, h5⟩ := h.paid
  refine ⟨ps, h3, fun p hp => (h2 p).2 ?_, h1, Wb.up_lt h1 (hup.imp fun {a b} h => by simpa using h)⟩
  rcases hp with hp | hp
  · exact List.mem_append_left _ (h3 p hp)
  · obtain ⟨a, b⟩ := h4.full p hp
    exact List.mem_append_right _ (h5 p a b)
theorem head_range {runs : List Wb.Rn} {y i k : Int} (h : y < 1900 ∨ 2199 < y ∨ i < 1 ∨ 400 < i ∨ k < 0) : Wb.headE runs y i k = 2 := by unfold Wb.headE; rw [if_pos h]
theorem head_none {y i k : Int} (h : ¬ (y < 1900 ∨ 2199 < y ∨ i < 1 ∨ 400 < i ∨ k < 0)) : Wb.headE [] y i k = 0 := by unfold Wb.headE; rw [if_neg h]; rfl
theorem mhead_last {runs : List Wb.Rn} {r : Wb.Rn} {y i k : Int} (h : ¬ (y < 1900 ∨ 2199 < y ∨ i < 1 ∨ 400 < i ∨ k < 0)) (hr : runs.getLast? = some r) (ho : 1 ≤ r.i ∧ r.i ≤ 400) :
    Wb.headE runs y i k = if prLt (r.y, r.i) (y, i) = false ∨ k < r.k then 8 else 0 := by
  unfold Wb.headE
  rw [if_neg h, hr]
  have e : Wb.perN y i ≤ Wb.perN r.y r.i ↔ prLt (r.y, r.i) (y, i) = false := by
    unfold Wb.perN
    constructor
    · intro h1
      rw [Bool.eq_false_iff]; intro h2
      rcases (prLt_iff _ _).1 h2 with h3 | h3 <;> simp at h3 <;> omega
    · intro h1
      have h2 : ¬ (r.y < y ∨ r.y = y ∧ r.i < i) := fun h3 => by
        have := (prLt_iff (r.y, r.i) (y, i)).2 h3
        rw [h1] at this; cases this
      omega
  simp only [e]
set_option maxHeartbeats 16000000 in
theorem mdo31_any (F0 : Nat → Prop) (rv : Value) (mp mo : Option Nat) (B : Wb.Bk) (ks hs : List Int) (N : Nat) (y i k : Int) (xv : Value) (HS : List HdM) (w : World)
    (hb : BkF F0 w rv mp mo B ks N) (hB : Wb.BkOk B) (hro : RunsOk B.runs) (hrl : B.runs.length < 4000) (hfew : ∀ p, (B.paid p).length ≤ 4096) (hN : N ≤ 50000) (hkl : ks.length ≤ 10000)
    (hH : ∀ w2, Kept F0 w w2 → HdsM w2 xv HS) (hHl : HS.length ≤ 200) (hh : KeysAre kU32 (fH HS) hs) (hr : hs.Pairwise (· ≤ ·)) (hhl : hs.length ≤ HS.length) (hsf : ∀ p, (SH HS p).length ≤ 4096) :
    Calls Tryz.prog 21 #[BkV rv mp mo, .agg #[.int .i64 y, .int .i64 i, .int .i64 k, xv]] w (DoPost F0 B y i k (SH HS) hs ks N w) := by
  obtain ⟨ra, rc, rfl⟩ := hb.now.shape
  obtain ⟨xa, xc, rfl⟩ := (hH w .refl).tab.shape
  obtain ⟨RL, hRL⟩ : ∃ RL, B.runs.length = RL := ⟨_, rfl⟩
  have HRL := Lib.hid hRL
  rw [hRL] at hb hrl ⊢
  have HBKF := Lib.hid hb
  have HBK := Lib.hid hb.now
  have HBO := Lib.hid hB
  have HRO := Lib.hid hro
  have HFEW := Lib.hid hfew
  have HHM := Lib.hid hH
  have HKH := Lib.hid hh
  have HRI := Lib.hid hr
  have HSF := Lib.hid hsf
  have hfull : ∀ p, SH HS p ≠ [] → kU32.ok p ∧ (fH HS p).isSome = true := fun p hp => by
    unfold SH at hp
    unfold fH
    rcases hf : findH HS p with _ | x
    · rw [hf] at hp; exact absurd rfl hp
    · have := find_in hf
      exact ⟨by rw [← this.2]; exact ((hH w .refl).each x this.1).2, rfl⟩
  have HFU := Lib.hid hfull
  obtain ⟨ps0, hps0⟩ := mwho_any hb.now hfull hh
  have HW0 := Lib.hid hps0
  obtain ⟨LR, hlr1, hlr2⟩ := hb.runs
  have HLRF := Lib.hid hlr1
  have HLRC := Lib.hid hlr2
  have hll : LR.length = RL := by rw [← hRL, ← hlr2, List.length_map]
  have HLL := Lib.hid hll
  clear hb hB hro hfew hH hh hr hsf hps0 hlr1 hlr2 hll hRL hfull
  unfold BkV
  go_enter Tryz.func21, Tryz.ntmps21
  go_upto_region 1 with (fail)
  refine Wb.wp_at fun W1 hW1 => ?_
  obtain ⟨A, hA⟩ : ∃ A, w.heap.size = A := ⟨_, rfl⟩
  have HD := Lib.hid (show DmAt w W1 A ra RL rc mp mo y i k (.slice xa HS.length xc) from
    ⟨by rw [hW1, ← hA]; simp [go_sem], by rw [hW1, ← hA]; simp [go_sem], by rw [hW1, ← hA]; simp [go_sem], by rw [hW1, ← hA]; simp [go_sem], by rw [hW1, ← hA]; simp [go_sem], by rw [hW1, ← hA]; simp [go_sem], by rw [hW1, ← hA]; simp [go_sem],
     by rw [hW1, ← hA]; simp [go_sem], by rw [hW1, ← hA]; simp [go_sem], by rw [hW1, ← hA]; simp [go_sem], by rw [hW1, ← hA]; simp [go_sem], by rw [hW1, ← hA]; simp [go_sem], by rw [hW1, ← hA]; simp [go_sem], by rw [hW1, ← hA]; simp [go_sem], by rw [hW1, ← hA]; simp [go_sem],
     fun j => by rw [hW1, ← hA]; simp [go_sem], fun j => by rw [hW1, ← hA]; simp [go_sem], hA, by rw [hW1, ← hA]; simp, by rw [hW1]; (repeat' (first | (with_reducible assumption) | (with_reducible exact Wb.Ext.refl _) | (with_reducible refine Wb.Ext.drew ?_) | (with_reducible refine Wb.Ext.drewN ?_ _) | (with_reducible refine Wb.Ext.alloc ?_ _) | (with_reducible refine Wb.Ext.trans ?_ (by assumption))))⟩)
  rw [hA]
  clear hW1 hA
  have b0 := HD.out.b0
  have b1 := HD.out.b1
  have b2 := HD.out.b2
  have x0 := HD.out.x0
  have x1 := HD.out.x1
  have x2 := HD.out.x2
  obtain ⟨bad, HBAD⟩ : ∃ bad : Bool, Hid (bad = true ↔ (y < 1900 ∨ 2199 < y ∨ i < 1 ∨ 400 < i ∨ k < 0)) := by
    rcases Classical.em (y < 1900 ∨ 2199 < y ∨ i < 1 ∨ 400 < i ∨ k < 0) with h | h
    · exact ⟨true, Lib.hid ⟨fun _ => h, fun _ => rfl⟩⟩
    · exact ⟨false, Lib.hid ⟨(fun h2 => by cases h2), fun h2 => absurd h2 h⟩⟩
  go_cut [43] (fun v wx => v = .bool bad ∧ W1 = wx)
  case first =>
    by_cases h1 : y < 1900
    · have HBT := Lib.hid (show bad = true from HBAD.out.2 (by omega))
      have dh1 : decide (y < 1900) = true := by simpa using h1
      clear h1
      go_wp2_with fail
      go_meet
      exact ⟨by rw [HBT.out], rfl⟩
    · have dh1 : decide (y < 1900) = false := by simpa using h1
      by_cases h2 : 2199 < y
      · have HBT := Lib.hid (show bad = true from HBAD.out.2 (by omega))
        have dh2 : decide (2199 < y) = true := by simpa using h2
        clear h2 h1
        go_wp2_with fail
        go_meet
        exact ⟨by rw [HBT.out], rfl⟩
      · have dh2 : decide (2199 < y) = false := by simpa using h2
        by_cases h3 : i < 1
        · have HBT := Lib.hid (show bad = true from HBAD.out.2 (by omega))
          have dh3 : decide (i < 1) = true := by simpa using h3
          clear h3 h1 h2
          go_wp2_with fail
          go_meet
          exact ⟨by rw [HBT.out], rfl⟩
        · have dh3 : decide (i < 1) = false := by simpa using h3
          by_cases h4 : 400 < i
          · have HBT := Lib.hid (show bad = true from HBAD.out.2 (by omega))
            have dh4 : decide (400 < i) = true := by simpa using h4
            clear h4 h1 h2 h3
            go_wp2_with fail
            go_meet
            exact ⟨by rw [HBT.out], rfl⟩
          · have dh4 : decide (400 < i) = false := by simpa using h4
            by_cases h5 : k < 0
            · have HBT := Lib.hid (show bad = true from HBAD.out.2 (by omega))
              have dh5 : decide (k < 0) = true := by simpa using h5
              clear h5 h1 h2 h3 h4
              go_wp2_with fail
              go_meet
              exact ⟨by rw [HBT.out], rfl⟩
            · have dh5 : decide (k < 0) = false := by simpa using h5
              have HBT := Lib.hid (show bad = false by rw [Bool.eq_false_iff]; intro h; have := HBAD.out.1 h; omega)
              clear h1 h2 h3 h4 h5
              go_wp2_with fail
              go_meet
              exact ⟨by rw [HBT.out], rfl⟩
  case rest =>
  obtain ⟨rfl, rfl⟩ := hcut
  cases bad
  case true =>
    have hbad := HBAD.out.1 rfl
    have HHE := Lib.hid (show Wb.headE B.runs y i k = 2 from head_range hbad)
    clear hbad b0 b1 b2 x0 x1 x2
    have HP := Lib.hid (show ∀ w', Wb.Ext w w' → DoPost F0 B y i k (SH HS) hs ks N w (.returned (.tuple #[BkV (.slice ra RL rc) mp mo, RnV 0 0 0 0 (.slice none 0 0), .int .i64 2])) w' from fun w' hx =>
      do_err HBKF.out HW0.out (do_head HHE.out (by decide)) hx)
    have b0 := HD.out.b0
    have b1 := HD.out.b1
    have b2 := HD.out.b2
    have o0 := HD.out.o0
    have o1 := HD.out.o1
    have o2 := HD.out.o2
    have q0 := HD.out.q0
    have q1 := HD.out.q1
    have q2 := HD.out.q2
    have q3 := HD.out.q3
    have q4 := HD.out.q4
    have fo := HD.out.fo
    have fq := HD.out.fq
    have hx9 := HD.out.ext
    have hlo := HD.out.lo
    have hlo2 : w.heap.size ≤ A := by omega
    go_wp2
    refine bodyPost_ret (v := .tuple #[BkV (.slice ra RL rc) mp mo, RnV 0 0 0 0 (.slice none 0 0), .int .i64 2]) (by simp [results, Tryz.results21, go_sem, BkV, RnV, o0, o1, o2, q0, q1, q2, q3, q4]) rfl (HP.out _ (by (repeat' (first | (with_reducible assumption) | (with_reducible exact Wb.Ext.refl _) | (with_reducible refine Wb.Ext.drew ?_) | (with_reducible refine Wb.Ext.drewN ?_ _) | (with_reducible refine Wb.Ext.alloc ?_ _) | (with_reducible refine Wb.ext_set ?_ (by first | assumption | (simp; done) | (simp; omega) | omega) _) | (with_reducible refine Wb.Ext.trans ?_ (by assumption))))))
  case false =>
  have HNB := Lib.hid (show ¬ (y < 1900 ∨ 2199 < y ∨ i < 1 ∨ 400 < i ∨ k < 0) from fun h => by have := HBAD.out.2 h; cases this)
  clear HBAD
  have b0 := HD.out.b0
  go_upto_if 50 with (fail)
  go_cut [] (fun wx => Hid (Wb.headE B.runs y i k = 0) ∧ Hid (Wb.Ext W1 wx))
  case first =>
    by_cases hz : RL = 0
    · have d1 : decide ((0 : Int) < (RL : Int)) = false := by simp; omega
      have d1n : ¬ (0 : Int) < (RL : Int) := by omega
      have HH0 := Lib.hid (show Wb.headE B.runs y i k = 0 by
        have : B.runs = [] := List.length_eq_zero_iff.1 (HRL.out.trans hz)
        rw [this]; exact head_none HNB.out)
      clear hz
      go_wp2_with fail
      go_meet
      exact ⟨HH0, Lib.hid (.refl _)⟩
    have d1 : decide ((0 : Int) < (RL : Int)) = true := by simp; omega
    obtain ⟨T, hT⟩ : ∃ T, T + 1 = RL := ⟨RL - 1, by omega⟩
    obtain ⟨r, hr⟩ := Wb.get_ex (show T < LR.length by have := HLL.out; omega)
    have hRM := HLRF.out W1 (.ext HD.out.ext)
    have hmr := List.mem_of_getElem? hr
    obtain ⟨b, off, hb9, hc9⟩ := hRM.tab.opened (by rintro rfl; simp at hr)
    obtain rfl : ra = some ⟨b, off, none⟩ := hb9
    obtain ⟨qa, qc, hqv⟩ := (hRM.each r hmr).tab.shape
    have c0 := hc9 T r hr 0 _ rfl
    have c1 := hc9 T r hr 1 _ rfl
    have c2 := hc9 T r hr 2 _ rfl
    have c3 := hc9 T r hr 3 _ rfl
    have c4 := hc9 T r hr 4 (.slice qa r.rows.length qc) (by rw [← hqv]; rfl)
    rw [Nat.add_zero] at c0
    have hlast : B.runs.getLast? = some r.c := by
      rw [← HLRC.out, List.getLast?_eq_getElem?, List.length_map, List.getElem?_map, show LR.length - 1 = T by have := HLL.out; omega, hr]; rfl
    have hro9 := HRO.out r.c (List.mem_of_getLast? hlast)
    have HHL := Lib.hid (mhead_last HNB.out hlast hro9.2.2)
    obtain ⟨g, hg⟩ : ∃ g, prLt (r.y, r.i) (y, i) = g := ⟨_, rfl⟩
    have HG := Lib.hid hg
    have hw1 : IntKind.i64.wrap ((RL : Int) - 1) = (T : Int) := by rw [show ((RL : Int) - 1) = (T : Int) by omega]; exact IntWalk.i64_in _ (by omega)
    have hTi : (T : Int) < RL := by omega
    have HT := Lib.hid hT
    clear hz hT hr hRM hmr hc9 hqv hlast hro9 hg
    go_upto_region 6 with (fail)
    refine Wb.wp_at fun W5 hW5 => ?_
    obtain ⟨Z, hZ⟩ : ∃ Z, W1.heap.size = Z := ⟨_, rfl⟩
    have hx5 : Wb.Ext W1 W5 := by rw [hW5]; (repeat' (first | (with_reducible assumption) | (with_reducible exact Wb.Ext.refl _) | (with_reducible refine Wb.Ext.drew ?_) | (with_reducible refine Wb.Ext.drewN ?_ _) | (with_reducible refine Wb.Ext.alloc ?_ _) | (with_reducible refine Wb.Ext.trans ?_ (by assumption))))
    have z1 : W5.cell? ⟨Z, 1, none⟩ = some (.int .i64 r.y) := by rw [hW5, ← hZ]; simp [go_sem]
    have z2 : W5.cell? ⟨Z, 2, none⟩ = some (.int .i64 r.i) := by rw [hW5, ← hZ]; simp [go_sem]
    have z3 : W5.cell? ⟨Z, 3, none⟩ = some (.int .i64 r.k) := by rw [hW5, ← hZ]; simp [go_sem]
    have HD5 := Lib.hid (HD.out.later hx5)
    have HX5 := Lib.hid hx5
    rw [hZ]
    clear hW5 hZ c0 c1 c2 c3 c4 b0 b1 b2 x0 x1 x2 hx5 d1
    have x0 := HD5.out.x0
    have x1 := HD5.out.x1
    have x2 := HD5.out.x2
    go_wp2_with fail
    go_fit (rless31_any r.y r.i y i _); rintro e w6 ⟨rfl, rfl⟩
    rw [HG.out]
    cases g
    case false =>
      have HHE := Lib.hid (show Wb.headE B.runs y i k = 8 by rw [HHL.out, if_pos (.inl HG.out)])
      clear x0 x1 x2 z1 z2 z3
      have HP := Lib.hid (show ∀ w', Wb.Ext w w' → DoPost F0 B y i k (SH HS) hs ks N w (.returned (.tuple #[BkV (.slice (some ⟨b, off, none⟩) RL rc) mp mo, RnV 0 0 0 0 (.slice none 0 0), .int .i64 8])) w' from fun w' hx =>
        do_err HBKF.out HW0.out (do_head HHE.out (by decide)) hx)
      have b0 := HD5.out.b0
      have b1 := HD5.out.b1
      have b2 := HD5.out.b2
      have o0 := HD5.out.o0
      have o1 := HD5.out.o1
      have o2 := HD5.out.o2
      have q0 := HD5.out.q0
      have q1 := HD5.out.q1
      have q2 := HD5.out.q2
      have q3 := HD5.out.q3
      have q4 := HD5.out.q4
      have fo := HD5.out.fo
      have fq := HD5.out.fq
      have hx9 := HD5.out.ext
      have hlo := HD5.out.lo
      have hlo2 : w.heap.size ≤ A := by omega
      go_wp2
      refine bodyPost_ret (v := .tuple #[BkV (.slice (some ⟨b, off, none⟩) RL rc) mp mo, RnV 0 0 0 0 (.slice none 0 0), .int .i64 8]) (by simp [results, Tryz.results21, go_sem, BkV, RnV, o0, o1, o2, q0, q1, q2, q3, q4]) rfl (HP.out _ (by (repeat' (first | (with_reducible assumption) | (with_reducible exact Wb.Ext.refl _) | (with_reducible refine Wb.Ext.drew ?_) | (with_reducible refine Wb.Ext.drewN ?_ _) | (with_reducible refine Wb.Ext.alloc ?_ _) | (with_reducible refine Wb.ext_set ?_ (by first | assumption | (simp; done) | (simp; omega) | omega) _) | (with_reducible refine Wb.Ext.trans ?_ (by assumption))))))
    case true =>
    by_cases hkr : k < r.k
    · have HHE := Lib.hid (show Wb.headE B.runs y i k = 8 by rw [HHL.out, if_pos (.inr hkr)])
      have d3 : decide (k < r.k) = true := by simpa using hkr
      clear x0 x1 hkr
      have HP := Lib.hid (show ∀ w', Wb.Ext w w' → DoPost F0 B y i k (SH HS) hs ks N w (.returned (.tuple #[BkV (.slice (some ⟨b, off, none⟩) RL rc) mp mo, RnV 0 0 0 0 (.slice none 0 0), .int .i64 8])) w' from fun w' hx =>
        do_err HBKF.out HW0.out (do_head HHE.out (by decide)) hx)
      have b0 := HD5.out.b0
      have b1 := HD5.out.b1
      have b2 := HD5.out.b2
      have o0 := HD5.out.o0
      have o1 := HD5.out.o1
      have o2 := HD5.out.o2
      have q0 := HD5.out.q0
      have q1 := HD5.out.q1
      have q2 := HD5.out.q2
      have q3 := HD5.out.q3
      have q4 := HD5.out.q4
      have fo := HD5.out.fo
      have fq := HD5.out.fq
      have hx9 := HD5.out.ext
      have hlo := HD5.out.lo
      have hlo2 : w.heap.size ≤ A := by omega
      go_wp2
      refine bodyPost_ret (v := .tuple #[BkV (.slice (some ⟨b, off, none⟩) RL rc) mp mo, RnV 0 0 0 0 (.slice none 0 0), .int .i64 8]) (by simp [results, Tryz.results21, go_sem, BkV, RnV, o0, o1, o2, q0, q1, q2, q3, q4]) rfl (HP.out _ (by (repeat' (first | (with_reducible assumption) | (with_reducible exact Wb.Ext.refl _) | (with_reducible refine Wb.Ext.drew ?_) | (with_reducible refine Wb.Ext.drewN ?_ _) | (with_reducible refine Wb.Ext.alloc ?_ _) | (with_reducible refine Wb.ext_set ?_ (by first | assumption | (simp; done) | (simp; omega) | omega) _) | (with_reducible refine Wb.Ext.trans ?_ (by assumption))))))
    · have HH0 := Lib.hid (show Wb.headE B.runs y i k = 0 by
        rw [HHL.out, if_neg]
        rintro (h | h)
        · have : prLt (r.y, r.i) (y, i) = false := h
          rw [HG.out] at this; cases this
        · exact hkr h)
      have d3 : decide (k < r.k) = false := by simpa using hkr
      clear hkr
      go_wp2_with fail
      go_meet
      exact ⟨HH0, HX5⟩
  case rest =>
  obtain ⟨HH0, HXH⟩ := hcut
  obtain ⟨W2, hwz⟩ : ∃ z, z = wc := ⟨_, rfl⟩
  subst hwz
  have HD2 := Lib.hid (HD.out.later HXH.out)
  clear b0 b1 b2 x0 x1 x2 HD HXH
  have HSMF0 := Lib.hid (show ∀ w2, Kept (fun q => q < A → F0 q) W2 w2 → HdsM w2 (.slice xa HS.length xc) HS from fun w2 h2 => HHM.out w2 (Kept.since HD2.out.ext h2 (fun q hq hf _ => hf)))
  have b0 := HD2.out.b0
  have x3 := HD2.out.x3
  go_wp2_with fail
  go_fit (table31_any (fun q => q < A → F0 q) _ HS _ HSMF0.out (by omega)); rintro e w3 ⟨M, rfl, hT, hM1, hx3⟩
  have HTM := Lib.hid hT.now
  have HD3 := Lib.hid (HD2.out.later hx3)
  clear hT hM1 hx3 b0 x3 HD2
  obtain ⟨cn, hcn, hlen⟩ := HTM.out.map.fin
  have hlen := hlen Tryz.underlying24
  have d1 : decide ((256 : Int) < (cn : Int)) = false := by simp; omega
  have d1n : ¬ (256 : Int) < (cn : Int) := by omega
  have x0 := HD3.out.x0
  have x1 := HD3.out.x1
  have x2 := HD3.out.x2
  have x3 := HD3.out.x3
  go_wp2_with fail
  go_fit (mhands31_any y i k _ _ _ M HS.length (fH HS) (SH HS) hs _ HTM.out (by omega) HKH.out HRI.out HSF.out); rintro e w4 ⟨rfl, hx4⟩
  obtain ⟨E, hE⟩ : ∃ E, Wb.handsE (y, i) (SH HS) hs = E := ⟨_, rfl⟩
  have HE := Lib.hid hE
  rw [hE]
  have HTM4 := Lib.hid (HTM.out.ext hx4)
  have HD4 := Lib.hid (HD3.out.later hx4)
  clear hE hx4 hlen hcn x0 x1 x2 x3 HD3 HTM d1 d1n
  by_cases he : E = 0
  case neg =>
    have dd : (E == 0) = false := by simpa using he
    have dd2 : (E != 0) = true := by simpa using he
    have HEN := Lib.hid he
    clear he
    have HP := Lib.hid (show ∀ w', Wb.Ext w w' → DoPost F0 B y i k (SH HS) hs ks N w (.returned (.tuple #[BkV (.slice ra RL rc) mp mo, RnV 0 0 0 0 (.slice none 0 0), .int .i64 E])) w' from fun w' hx =>
      do_err HBKF.out HW0.out (do_hands HH0.out HE.out HEN.out) hx)
    have b0 := HD4.out.b0
    have b1 := HD4.out.b1
    have b2 := HD4.out.b2
    have o0 := HD4.out.o0
    have o1 := HD4.out.o1
    have o2 := HD4.out.o2
    have q0 := HD4.out.q0
    have q1 := HD4.out.q1
    have q2 := HD4.out.q2
    have q3 := HD4.out.q3
    have q4 := HD4.out.q4
    have fo := HD4.out.fo
    have fq := HD4.out.fq
    have hx9 := HD4.out.ext
    have hlo := HD4.out.lo
    have hlo2 : w.heap.size ≤ A := by omega
    go_wp2
    refine bodyPost_ret (v := .tuple #[BkV (.slice ra RL rc) mp mo, RnV 0 0 0 0 (.slice none 0 0), .int .i64 E]) (by simp [results, Tryz.results21, go_sem, BkV, RnV, o0, o1, o2, q0, q1, q2, q3, q4]) rfl (HP.out _ (by (repeat' (first | (with_reducible assumption) | (with_reducible exact Wb.Ext.refl _) | (with_reducible refine Wb.Ext.drew ?_) | (with_reducible refine Wb.Ext.drewN ?_ _) | (with_reducible refine Wb.Ext.alloc ?_ _) | (with_reducible refine Wb.ext_set ?_ (by first | assumption | (simp; done) | (simp; omega) | omega) _) | (with_reducible refine Wb.Ext.trans ?_ (by assumption))))))
  subst he
  have hmm := @run_makeMap Tryz.prog
  go_upto_region 15 with (fail)
  refine Wb.wp_at fun W5 hW5 => ?_
  obtain ⟨P, hP⟩ : ∃ P, w4.heap.size = P := ⟨_, rfl⟩
  obtain ⟨O, hO⟩ : ∃ O, P + 1 + 1 = O := ⟨_, rfl⟩
  have hx5 : Wb.Ext w4 W5 := by rw [hW5]; (repeat' (first | (with_reducible assumption) | (with_reducible exact Wb.Ext.refl _) | (with_reducible refine Wb.Ext.drew ?_) | (with_reducible refine Wb.Ext.drewN ?_ _) | (with_reducible refine Wb.Ext.alloc ?_ _) | (with_reducible refine Wb.ext_set ?_ (by first | assumption | (simp; done) | (simp; omega) | omega) _) | (with_reducible refine Wb.Ext.trans ?_ (by assumption))))
  have HP0 : Hid (KMap kU32 W5 P 0 (.slice none 0 0) (fun _ => none)) := Lib.hid (by rw [hW5]; exact (kmap_made kU32 w4 (.slice none 0 0) P hP.symm).ext (by (repeat' (first | (with_reducible assumption) | (with_reducible exact Wb.Ext.refl _) | (with_reducible refine Wb.Ext.drew ?_) | (with_reducible refine Wb.Ext.drewN ?_ _) | (with_reducible refine Wb.Ext.alloc ?_ _) | (with_reducible refine Wb.ext_set ?_ (by first | assumption | (simp; done) | (simp; omega) | omega) _) | (with_reducible refine Wb.Ext.trans ?_ (by assumption))))))
  have HP1 : Hid (KMap kU32 W5 (P + 1) 0 (.int .i64 0) (fun _ => none)) := Lib.hid (by rw [hW5]; exact (kmap_made kU32 (w4.alloc (.map #[] 0)) (.int .i64 0) (P + 1) (by rw [← hP]; simp)).ext (by (repeat' (first | (with_reducible assumption) | (with_reducible exact Wb.Ext.refl _) | (with_reducible refine Wb.Ext.drew ?_) | (with_reducible refine Wb.Ext.drewN ?_ _) | (with_reducible refine Wb.Ext.alloc ?_ _) | (with_reducible refine Wb.ext_set ?_ (by first | assumption | (simp; done) | (simp; omega) | omega) _) | (with_reducible refine Wb.Ext.trans ?_ (by assumption))))))
  have o0 : W5.cell? ⟨O, 0, none⟩ = some (.slice none 0 0) := by rw [hW5, ← hO, ← hP]; simp [go_sem]
  have o1 : W5.cell? ⟨O, 1, none⟩ = some (.map (some P)) := by rw [hW5, ← hO, ← hP]; simp [go_sem]
  have o2 : W5.cell? ⟨O, 2, none⟩ = some (.map (some (P + 1))) := by rw [hW5, ← hO, ← hP]; simp [go_sem]
  have of : ∀ j, W5.frozen? ⟨O, j, none⟩ = false := fun j => by rw [hW5, ← hO, ← hP]; simp [go_sem]
  have hs5 : O + 1 = W5.heap.size := by rw [hW5, ← hO, ← hP]; simp
  have hAP : A + 4 ≤ P := by have := HD4.out.hi; omega
  have HX5 := Lib.hid hx5
  have HPW := Lib.hid hP
  have HOC := Lib.hid (And.intro o0 (And.intro o1 (And.intro o2 of)))
  have HD5 := Lib.hid (HD4.out.later hx5)
  obtain ⟨no, fo, hfo1, hfo2, hfo3, hfo4⟩ := HBKF.out.owed
  have HFO3 := Lib.hid hfo3
  have HFO4 := Lib.hid hfo4
  have hso : KMapO kU32 W5 mo no (.int .i64 0) fo := hfo1 W5 (.ext HD5.out.ext)
  have hmP : ∀ b, mo = some b → b < w.heap.size := (hfo1 w .refl).lt
  have HMO := Lib.hid hmP
  have hoo : P + 1 < O := by omega
  have hlow := HD5.out.lo
  simp only [hP, hO]
  have HOE := Lib.hid (show P + 2 = O by omega)
  have HFO1 := Lib.hid hfo1
  clear hW5 hP hO hx5 hfo1 hfo3 hfo4 hmm hmP o0 o1 of
  have b2 := HD5.out.b2
  go_wp2_with (first
    | (at_range; refine wpList_range_km (K := kU32) rfl _ 25 40 rfl Tryz.underlying25 mo no (.int .i64 0) fo rfl hso ?_; intro w6 cnt0 hrg0 hc0 hg0 hs0)
    | go_in)
  (try go_frame)
  obtain ⟨X, hX⟩ : ∃ X, W5.heap.size = X := ⟨_, rfl⟩
  have HRG0 := Lib.hid hrg0
  have hx6 := Wb.Ext.grown (.refl W5) hg0 (fun q h => by cases h)
  have HK0 : Hid (Kept (fun q => q < X ∧ q ≠ P + 1) W5 w6) := Lib.hid (.ext hx6)
  have HM0 := Lib.hid (HP1.out.ext hx6)
  rw [hX] at HRG0 ⊢
  have hXO : O < X := by omega
  clear hso hg0 hs0 hrg0 hX hx6 b2 hs5 o2 HP1
  go_loopw [12] (fun _ wr => ∃ (cnt : Nat) (ss : List Int), Hid (KRng kU32 wr mo X no (.int .i64 0) fo ss cnt) ∧ ss.length + cnt ≤ no ∧ Hid (KMap kU32 wr (P + 1) ss.length (.int .i64 0) (fun p => if p ∈ ss then fo p else none)) ∧ Hid (Kept (fun q => q < X ∧ q ≠ P + 1) W5 wr)) (fun _ wr => kLeft mo X wr)
  case atStart => exact ⟨cnt0, [], HRG0, by simpa using hc0, Lib.hid (KMap.congr HM0.out (fun p => by simp)), HK0⟩
  case round =>
    clear HRG0 HK0 HM0
    obtain ⟨cnt, ss, HRG, hcs, HMM, HKP⟩ := hrel
    obtain ⟨wO, hwz⟩ : ∃ z, z = wr := ⟨_, rfl⟩
    subst hwz
    have hrg := HRG.out
    go_wp2_with (first
      | (at_next; refine wpList_next_km (K := kU32) rfl _ rfl rfl hrg ?_ ?_)
      | go_in)
    · intro hall
      have HFO := Lib.hid (show KMap kU32 wO (P + 1) no (.int .i64 0) fo by
        obtain ⟨D, h1, h2⟩ := HMM.out.mono (show ss.length ≤ no by omega)
        refine ⟨D, h1, fun p hp => ?_⟩
        have h3 := h2 p hp
        by_cases hm : p ∈ ss
        · simp only [if_pos hm] at h3; exact h3
        · have hf : fo p = none := by
            rcases hx : fo p with _ | v
            · rfl
            · exact absurd (hall p hp (by rw [hx]; rfl)) hm
          simp only [if_neg hm] at h3
          rw [hf]; exact h3)
      have HRGX := Lib.hid HRG.out.lt
      clear hall hrg HRG HMM hcs
      have HX6 := Lib.hid (show Wb.Ext w4 wO from HKP.out.old HX5.out (fun q hq => by have := HPW.out; omega))
      have HD6 := Lib.hid (HD4.out.later HX6.out)
      have HO6 : Hid (wO.cell? ⟨O, 0, none⟩ = some (.slice none 0 0) ∧ wO.cell? ⟨O, 1, none⟩ = some (.map (some P)) ∧ wO.cell? ⟨O, 2, none⟩ = some (.map (some (P + 1))) ∧ ∀ j, wO.frozen? ⟨O, j, none⟩ = false) := Lib.hid
        ⟨HKP.out.cell ⟨by omega, by omega⟩ HOC.out.1, HKP.out.cell ⟨by omega, by omega⟩ HOC.out.2.1, HKP.out.cell ⟨by omega, by omega⟩ HOC.out.2.2.1, fun j => HKP.out.frozen ⟨by omega, by omega⟩ (Wb.cell_size HOC.out.1) (HOC.out.2.2.2 j)⟩
      have HP6 := Lib.hid (HP0.out.keptF HKP.out ⟨by omega, by omega⟩)
      have b0 := HD6.out.b0
      have x0 := HD6.out.x0
      have x1 := HD6.out.x1
      have x2 := HD6.out.x2
      have hwr : IntKind.i64.wrap ((RL : Int) + 1) = (RL : Int) + 1 := IntWalk.i64_in _ (by omega)
      have hXs : X < wO.heap.size := HRGX.out
      go_upto_region 20 with (fail)
      refine Wb.wp_at fun W7 hW7 => ?_
      obtain ⟨R, hR⟩ : ∃ R, wO.heap.size = R := ⟨_, rfl⟩
      have hx7 : Wb.Ext wO W7 := by rw [hW7]; (repeat' (first | (with_reducible assumption) | (with_reducible exact Wb.Ext.refl _) | (with_reducible refine Wb.Ext.drew ?_) | (with_reducible refine Wb.Ext.drewN ?_ _) | (with_reducible refine Wb.Ext.alloc ?_ _) | (with_reducible refine Wb.Ext.trans ?_ (by assumption))))
      have HRC : Hid (W7.cell? ⟨R, 0, none⟩ = some (.int .i64 ((RL : Int) + 1)) ∧ W7.cell? ⟨R, 1, none⟩ = some (.int .i64 y) ∧ W7.cell? ⟨R, 2, none⟩ = some (.int .i64 i) ∧ W7.cell? ⟨R, 3, none⟩ = some (.int .i64 k) ∧ W7.cell? ⟨R, 4, none⟩ = some (.slice none 0 0) ∧ ∀ j, W7.frozen? ⟨R, j, none⟩ = false) := Lib.hid (by
        rw [hW7, ← hR]
        exact ⟨by simp [go_sem], by simp [go_sem], by simp [go_sem], by simp [go_sem], by simp [go_sem], fun j => by simp [go_sem]⟩)
      have HX7 := Lib.hid hx7
      have hRs : R < W7.heap.size := Wb.cell_size HRC.out.1
      have hXR : X < R := by omega
      rw [hR]
      clear hW7 hR hx7 b0 x0 x1 x2 hXs hwr
      have HX47 := Lib.hid (HX6.out.trans HX7.out)
      have HD7 := Lib.hid (HD4.out.later HX47.out)
      obtain ⟨np, fp0, hsf, hnp, hkp⟩ := HBKF.out.paid
      have HSFP := Lib.hid hsf
      have HKP9 := Lib.hid hkp
      have hpm : KMapO kU32 W7 mp np (.slice none 0 0) fp0 := hsf.map W7 (.ext HD7.out.ext)
      have b1 := HD7.out.b1
      clear hsf hkp
      go_wp2_with fail
      go_fit (persons31_any (some M) mp HS.length np (.slice none 0 0) (.slice none 0 0) (fH HS) fp0 _ (HTM4.out.map.ext HX47.out) hpm (by omega) (by omega)); rintro e wB ⟨pv, ps, rfl, hps, hpr, hpmm, hpl, hxB⟩
      obtain ⟨ta, tc, rfl⟩ := hps.shape
      have HTB := Lib.hid hps.tbl
      have HXB := Lib.hid (HX47.out.trans hxB)
      have HDB := Lib.hid (HD4.out.later HXB.out)
      have HPS : Hid (Wb.Who B (SH HS) hs ps) := Lib.hid ⟨HW0.out.hand, fun p hp => (hpmm p).2 (by
        rcases hp with hp | hp
        · have := HFU.out p hp; exact ⟨this.1, .inl this.2⟩
        · have := HSFP.out.full p hp; exact ⟨this.1, .inr this.2⟩), List.Pairwise.imp (fun h => by omega) hpr, hpr⟩
      have HPOK : Hid (∀ p ∈ ps, kU32.ok p) := Lib.hid (fun p hp => ((hpmm p).1 hp).1)
      have HPWHO : Hid (∀ p ∈ ps, p ∈ ks ++ hs) := Lib.hid (fun p hp => by
        obtain ⟨h1, h2⟩ := (hpmm p).1 hp
        rcases h2 with h2 | h2
        · exact List.mem_append_right _ ((HKH.out.2 p).2 ⟨h1, h2⟩)
        · exact List.mem_append_left _ (HKP9.out p h1 h2))
      obtain ⟨s, hs9⟩ : ∃ s, wB.heap.size = s := ⟨_, rfl⟩
      have hRs2 : R < s := by have := hxB.size; omega
      have HPVB : Hid (∀ q, (Value.slice ta ps.length tc).ownBlock = some q → R < q ∧ q < s) := Lib.hid (fun q e => by have := hps.lt q e; omega)
      have HOB : Hid (wB.cell? ⟨O, 0, none⟩ = some (.slice none 0 0) ∧ wB.cell? ⟨O, 1, none⟩ = some (.map (some P)) ∧ wB.cell? ⟨O, 2, none⟩ = some (.map (some (P + 1))) ∧ ∀ j, wB.frozen? ⟨O, j, none⟩ = false) := Lib.hid (by
        have e := HX7.out.trans hxB
        exact ⟨e.keep HO6.out.1, e.keep HO6.out.2.1, e.keep HO6.out.2.2.1, fun j => (e.cells.2 _ _ (Wb.cell_size HO6.out.1)).trans (HO6.out.2.2.2 j)⟩)
      have HLP : Hid (MLp F0 wB wB A P R s ((RL : Int) + 1) y i k B (SH HS) (ks ++ hs) (0 + 0) (no + 0) none 0 [] (ps.take 0) (([] : List RwM).map RwM.c)) := Lib.hid (by
        obtain ⟨r0, r1, r2, r3, r4, rf⟩ := HRC.out
        have e := HX7.out.trans hxB
        refine ⟨.refl, by omega, ⟨hAP, by omega, hRs2⟩, hxB.keep r0, hxB.keep r1, hxB.keep r2, hxB.keep r3, hxB.keep r4, fun j => (hxB.cells.2 _ _ hRs).trans (rf j),
          ⟨_, HP6.out.ext e, fun p => ⟨[], fun w2 _ => slsK_nil, by simp⟩, fun p hp => absurd (by simp) hp, fun p _ hp => by cases hp⟩, ⟨_, HFO.out.ext e, fun p => ?_, fun p h1 h2 => List.mem_append_left _ (HFO4.out p h1 h2)⟩, own_none, fun r hr => by cases hr⟩
        have := HFO3.out p
        unfold Wb.owedBy
        simpa using this)
      clear hps hpr hpmm hxB hpm b1 hs9 HRC HO6 HP6 HP0 HFO HX6 HD6 HKP HX7 HX47 HD7 hRs HOC HX5 HRGX
      go_wp2_with fail
      go_loopw [16] (fun iv wr => ∃ (j : Nat) (ga : Option Addr) (gc : Nat) (rows : List RwM), j ≤ ps.length ∧ iv = .int .i64 j ∧ rows.length ≤ j ∧ Hid (MLp F0 wB wr A P R s ((RL : Int) + 1) y i k B (SH HS) (ks ++ hs) (0 + j) (no + j) ga gc rows (ps.take j) (rows.map RwM.c)) ∧ Hid (Wb.rowsG (y, i) B (SH HS) [] ps = Wb.rowsG (y, i) B (SH HS) (rows.map RwM.c) (ps.drop j)) ∧ Hid (∀ t ∈ rows.map RwM.c, t.p ∈ ps.take j)) (fun iv _ => ps.length - (intOf iv).toNat)
      case atStart => exact ⟨0, none, 0, [], Nat.zero_le _, rfl, Nat.le_refl _, HLP, Lib.hid rfl, Lib.hid (fun t ht => by cases ht)⟩
      case round =>
        clear HLP
        obtain ⟨j, ga, gc, rows, hj, rfl, hrj, HLP, HRG9, HRP⟩ := hrel
        obtain ⟨wL, hwz⟩ : ∃ z, z = wr := ⟨_, rfl⟩
        subst hwz
        have hAPR : A + 4 ≤ P ∧ P + 2 ≤ R ∧ R < s := HLP.out.ord
        by_cases hlt : j < ps.length
        case neg =>
          obtain rfl : j = ps.length := by omega
          have d1 : decide ((ps.length : Int) < (ps.length : Int)) = false := by simp
          have HRG0 := Lib.hid (show Wb.rowsG (y, i) B (SH HS) [] ps = (0, rows.map RwM.c) by rw [HRG9.out, List.drop_length]; rfl)
          have HX := Lib.hid (show Wb.Ext w4 wL from HLP.out.kept.old HXB.out (fun q hq => by have := HPW.out; exact ⟨by omega, by omega, by omega, by omega⟩))
          have HDL := Lib.hid (HD4.out.later HX.out)
          have hOk : O < s ∧ O ≠ P ∧ O ≠ P + 1 ∧ O ≠ R := ⟨by omega, by omega, by omega, by omega⟩
          have o0 := HLP.out.kept.cell hOk HOB.out.1
          have o1 := HLP.out.kept.cell hOk HOB.out.2.1
          have o2 := HLP.out.kept.cell hOk HOB.out.2.2.1
          have of : ∀ j, wL.frozen? ⟨O, j, none⟩ = false := fun j => HLP.out.kept.frozen hOk (Wb.cell_size HOB.out.1) (HOB.out.2.2.2 j)
          have hOs : O < wL.heap.size := Wb.cell_size o0
          have r0 := HLP.out.r0
          have r1 := HLP.out.r1
          have r2 := HLP.out.r2
          have r3 := HLP.out.r3
          have r4 := HLP.out.r4
          have b0 := HDL.out.b0
          have hRM := HLRF.out wL (.ext HDL.out.ext)
          have HSRC := Lib.hid (show SrcX wL 5 (.slice ra RL rc) RL (rowsOf rnc LR) from by
            have := srcx_tbl rnc_len (by decide) hRM.tab
            rwa [HLL.out] at this)
          have HONE := Lib.hid (rnc_one hRM.one)
          clear hRM d1
          go_upto_region 34 with (fail)
          refine Code.wp_mono (OnEnd.imp ?_) (m34 _ _ _ _ _ _ _ _ _ _ _ _ _ _ _ _ _ _ _ _ _ _ _ _ _ _ _ _ _ _ _ _ _ _ _ _ _ _ _ _ _ _ _ _ _ _ _ _ _ _ _ _ _ _ _ _ _ _ _ _ _ _ _ _ _ _ _ _ _ _ _ _ _ _ _ _ _ _ _ _ _ _ _ _ _ _ _ _ _ _ _ _ _ _ _ _ _ _ _ _ _ _ _ _ _ _ _ _ _ _ _ _ _ _ _ _ _ _ _ _ _ _ _ _ _ _ _ _ _ _ _ _ _ _ _ _ _ _ _ _ _ _ _ _ _ _ _ _ _ _ _ _ _ _ _ _ _ _ _ _ _ _ _ _ _ _ _ _ _ _ _ _ _ _ _ _ _ _ _ _ _ _ _ _ _ _ _ _ _ _ _ _ _ _ _ _ _ wL A O R RL ((RL : Int) + 1) y i k ra rc LR ga rows.length gc _ _ hOs b0 r0 r1 r2 r3 r4 o0 o1 o2 of HSRC.out HONE.out (by omega))
          rintro a' wc ⟨va, vc, u189, u190, u191, u192, u193, u194, u195, u196, rfl, HK, c0, c1, c2, HOW⟩
          (try dsimp only)
          obtain ⟨w5, hwz⟩ : ∃ z, z = wc := ⟨_, rfl⟩
          subst hwz
          have HKO : Hid (Kept (KEm A O) wL w5 ∧ ∀ q, q < A + 4 → q < wL.heap.size ∧ q ≠ O) := Lib.hid ⟨⟨HK.out.os, HK.out.tape, HK.out.output, HK.out.size, fun q hq hf => HK.out.block q hq ⟨hq, hf.2⟩⟩, fun q hq => ⟨by omega, by omega⟩⟩
          have HD5 := Lib.hid (HDL.out.kept HK.out HKO.out.2)
          have hRO : R < wL.heap.size ∧ R ≠ O := ⟨Wb.cell_size r0, by omega⟩
          have s0 := HK.out.cell hRO r0
          have s1 := HK.out.cell hRO r1
          have s2 := HK.out.cell hRO r2
          have s3 := HK.out.cell hRO r3
          have s4 := HK.out.cell hRO r4
          have hs5 := HK.out.size
          have HPN : Hid (no ≤ N ∧ ps.length ≤ ks.length + hs.length) := Lib.hid ⟨hfo2, by
            have := nodup_le (L := ks ++ hs) HPS.out.one HPWHO.out
            rwa [List.length_append] at this⟩
          have HP := Lib.hid (show ∀ wE, Kept (KEm A O) w5 wE → DoPost F0 B y i k (SH HS) hs ks N w (.returned (.tuple #[BkV (.slice va (RL + 1) vc) (some P) (some (P + 1)), RnV ((RL : Int) + 1) y i k (.slice ga rows.length gc), .int .i64 0])) wE from fun wE hk => by
            have hkk : Kept (KEm A O) wL wE := HKO.out.1.trans hk
            have hpn := HPN.out
            have hlo := HDL.out.lo
            have hown := HLP.out.own.lt
            have hsz := HLP.out.size
            have hRr : ∀ w2, Kept (FE F0 A) wE w2 → RowsM w2 (.slice ga rows.length gc) rows := fun w2 h2 => mrows_fin HLP.out hkk ⟨HOE.out, by omega⟩ (by omega) h2
            refine mdo_fin (r1 := ⟨(RL : Int) + 1, y, i, k, .slice ga rows.length gc, rows⟩) (LR := LR) HLP.out hkk ⟨HOE.out, by omega⟩ hlo HDL.out.ext (by omega) (by omega) HPS.out HH0.out HE.out HRG0.out hpn.2 (by omega) (fun w2 h2 => ?_) HLRC.out HRL.out rfl
            have e9 : (LR ++ [(⟨(RL : Int) + 1, y, i, k, .slice ga rows.length gc, rows⟩ : RnM)]).length = RL + 1 := by have := HLL.out; simp [this]
            have e8 : rowsOf rnc (LR ++ [(⟨(RL : Int) + 1, y, i, k, .slice ga rows.length gc, rows⟩ : RnM)]) = rowsOf rnc LR ++ [.int .i64 ((RL : Int) + 1), .int .i64 y, .int .i64 i, .int .i64 k, .slice ga rows.length gc] := by simp [rowsOf, rnc]
            have hw2 : Kept F0 w w2 := Kept.since (HKO.out.1.old HDL.out.ext (fun q hq => ⟨.inl (by omega), by omega⟩)) (show Kept (fun q => KEm A O q ∧ FE F0 A q) w5 w2 from (hk.mono (fun q _ h => h.1)).trans (h2.mono (fun q _ h => h.2))) (fun q hq h0 => ⟨⟨.inl (by omega), by omega⟩, fun _ => h0⟩)
            have hR := HLRF.out w2 hw2
            refine ⟨row_tbl (base := wL.heap.size) (e := 31) rnc_len (by decide) (by rw [e8]; exact own_keptF (own_keptF HOW.out hk (fun q hq => by have := (HOW.out.lt q hq).1; exact ⟨.inr (by omega), by omega⟩)) h2 (fun q hq e => by have := (HOW.out.lt q hq).1; omega)), fun t ht => ?_, by rw [e9]; omega, fun t ht => ?_⟩
            · rcases List.mem_append.1 ht with ht | ht
              · exact hR.each t ht
              · obtain rfl : t = _ := by simpa using ht
                exact hRr w2 h2
            · rcases List.mem_append.1 ht with ht | ht
              · exact hR.one t ht
              · obtain rfl : t = _ := by simpa using ht
                exact ⟨_, _, _, rfl⟩)
          have a0 := HD5.out.o0
          have a1 := HD5.out.o1
          have a2 := HD5.out.o2
          have q0 := HD5.out.q0
          have q1 := HD5.out.q1
          have q2 := HD5.out.q2
          have q3 := HD5.out.q3
          have q4 := HD5.out.q4
          have fo9 := HD5.out.fo
          have fq9 := HD5.out.fq
          have hAO : A + 4 ≤ O := by omega
          clear r0 r1 r2 r3 r4 o0 o1 o2 of b0
          go_wp2_with fail
          go_region
          all_goals (try go_wp2)
          all_goals (try rw [Exit.noGoto_ret])
          all_goals refine bodyPost_ret (v := .tuple #[BkV (.slice va (RL + 1) vc) (some P) (some (P + 1)), RnV ((RL : Int) + 1) y i k (.slice ga rows.length gc), .int .i64 0]) (by simp [results, Tryz.results21, go_sem, BkV, RnV, a0, a1, a2, q0, q1, q2, q3, q4]) rfl (HP.out _ (by (repeat' (first | (with_reducible exact Kept.refl) | (with_reducible refine Kept.drewM ?_) | (with_reducible refine Kept.setj ?_ ?_) | (exact fun h => by have := h.1; omega)))))
        obtain ⟨p, hp⟩ := Wb.get_ex hlt
        have hmem := List.mem_of_getElem? hp
        have hok := HPOK.out p hmem
        have HOK := Lib.hid hok
        have HWP := Lib.hid (HPWHO.out p hmem)
        have HPN : Hid (p ∉ ps.take j) := Lib.hid (fun hin => by
          have h1 : (ps.take (j + 1)).Nodup := List.Nodup.sublist (List.take_sublist _ _) HPS.out.one
          rw [take_snoc hp, List.nodup_append] at h1
          exact h1.2.2 p hin p (by simp) rfl)
        have HX := Lib.hid (show Wb.Ext w4 wL from HLP.out.kept.old HXB.out (fun q hq => by have := HPW.out; exact ⟨by omega, by omega, by omega, by omega⟩))
        have HDL := Lib.hid (HD4.out.later HX.out)
        have htb := HLP.out.kept.tbl HTB.out (fun q e => by have := HPVB.out q e; exact ⟨by omega, by omega, by omega, by omega⟩)
        obtain ⟨b, off, cap, hv, c0⟩ := look_tbl htb hp
        simp only [Value.slice.injEq] at hv
        obtain ⟨rfl, -, rfl⟩ := hv
        have hji : (j : Int) < ps.length := by omega
        have d1 : decide ((j : Int) < (ps.length : Int)) = true := by simp; omega
        have HDR := Lib.hid (drop_at hp)
        have HTK := Lib.hid (take_snoc hp)
        obtain ⟨LA, hLAF, hLAc⟩ := HSFP.out.each p
        have hLA := hLAF wL (.ext HDL.out.ext)
        obtain ⟨ya, yc, hLAv⟩ := slsK_shape hLA
        rw [hLAv] at hLA
        have hLB := LH_sls (HHM.out wL (.ext HDL.out.ext)) p
        have hLBF : ∀ w2, Kept F0 w w2 → SlsK w2 ((fH HS p).getD (.slice none 0 0)) (LH HS p) := fun w2 h2 => LH_sls (HHM.out w2 h2) p
        obtain ⟨LB, hLBe⟩ : ∃ L, LH HS p = L := ⟨_, rfl⟩
        have hLBc : LB.map Wb.ct = SH HS p := by rw [← hLBe]; exact LH_ct HS p
        rw [hLBe] at hLB hLBF
        obtain ⟨za, zc, hLBv⟩ := slsK_shape hLB
        rw [hLBv] at hLB hLBF
        have HLA := Lib.hid hLA
        have HLB := Lib.hid hLB
        have HLBF := Lib.hid hLBF
        have HLBV := Lib.hid hLBv
        have hlk0 : (Instr.lookup 24 (.map (some M)) (.int .u32 p) false).run Tryz.prog wL = .ok (.slice za LB.length zc) wL := by
          have := KMapO.look (p := p) (HTM4.out.map.ext HX.out) Tryz.underlying24 zeroSlips hok
          rw [hLBv] at this; exact this
        have hlk1 : (Instr.lookup 24 (.map mp) (.int .u32 p) false).run Tryz.prog wL = .ok (.slice ya LA.length yc) wL := by
          have := KMapO.look (p := p) (HSFP.out.map wL (.ext HDL.out.ext)) Tryz.underlying24 zeroSlips hok
          rw [hLAv] at this; exact this
        have hlk3 : (Instr.lookup 25 (.map mo) (.int .u32 p) false).run Tryz.prog wL = .ok (.int .i64 (B.owed p)) wL := by
          have := KMapO.look (p := p) (HFO1.out wL (.ext HDL.out.ext)) Tryz.underlying25 zeroCents hok
          rw [HFO3.out p] at this; exact this
        have HCA := Lib.hid hLAc
        have HCB := Lib.hid hLBc
        have hLAl : LA.length ≤ 4096 := by have := HFEW.out p; rwa [← hLAc, List.length_map] at this
        have hLBl : LB.length ≤ 4096 := by have := HSF.out p; rwa [← hLBc, List.length_map] at this
        have hnA : LA.length = 0 ↔ B.paid p = [] := by rw [← hLAc]; simp
        have hnB : LB.length = 0 ↔ SH HS p = [] := by rw [← hLBc]; simp
        obtain ⟨g, HG⟩ : ∃ g : Bool, Hid (g = true ↔ LB.length = 0 ∧ LA.length = 0) := by
          rcases Classical.em (LB.length = 0 ∧ LA.length = 0) with h | h
          · exact ⟨true, Lib.hid ⟨fun _ => h, fun _ => rfl⟩⟩
          · exact ⟨false, Lib.hid ⟨(fun h2 => by cases h2), fun h2 => absurd h2 h⟩⟩
        have HNA := Lib.hid hnA
        have HNB9 := Lib.hid hnB
        have b1 := HDL.out.b1
        have b2 := HDL.out.b2
        have x0 := HDL.out.x0
        have x1 := HDL.out.x1
        have x2 := HDL.out.x2
        have x3 := HDL.out.x3
        clear hLAF hLA hLAc hLAv hLBF hLB hLBc hLBv hLBe htb hp hmem hok hnA hnB
        go_upto_region 25 with (fail)
        go_cut [144] (fun v wx => v = .bool g ∧ wL = wx)
        case first =>
          by_cases h1 : LB.length = 0
          · have e1 : ((LB.length : Int) == 0) = true := by simp [h1]
            have e1n : (LB.length == 0) = true := by simp [h1]
            have e1d : decide ((LB.length : Int) = 0) = true := by simp [h1]
            by_cases h2 : LA.length = 0
            · have e2 : ((LA.length : Int) == 0) = true := by simp [h2]
              have e2n : (LA.length == 0) = true := by simp [h2]
              have e2d : decide ((LA.length : Int) = 0) = true := by simp [h2]
              obtain rfl : g = true := HG.out.2 ⟨h1, h2⟩
              clear h1 h2
              go_wp2_with fail
              go_meet
              exact ⟨rfl, rfl⟩
            · have h2i : ¬ (LA.length : Int) = 0 := by omega
              have e2 : ((LA.length : Int) == 0) = false := by simpa using h2i
              have e2n : (LA.length == 0) = false := by simpa using h2
              have e2d : decide ((LA.length : Int) = 0) = false := by simpa using h2i
              obtain rfl : g = false := by
                cases g
                · rfl
                · exact absurd (HG.out.1 rfl).2 h2
              clear h1
              go_wp2_with fail
              go_meet
              exact ⟨rfl, rfl⟩
          · have h1i : ¬ (LB.length : Int) = 0 := by omega
            have e1 : ((LB.length : Int) == 0) = false := by simpa using h1i
            have e1n : (LB.length == 0) = false := by simpa using h1
            have e1d : decide ((LB.length : Int) = 0) = false := by simpa using h1i
            obtain rfl : g = false := by
              cases g
              · rfl
              · exact absurd (HG.out.1 rfl).1 h1
            go_wp2_with fail
            go_meet
            exact ⟨rfl, rfl⟩
        case rest =>
        obtain ⟨rfl, rfl⟩ := hcut
        cases g
        case true =>
          have hno : SH HS p = [] ∧ B.paid p = [] := ⟨HNB9.out.1 (HG.out.1 rfl).1, HNA.out.1 (HG.out.1 rfl).2⟩
          have HRN := Lib.hid (show Wb.rowsG (y, i) B (SH HS) [] ps = Wb.rowsG (y, i) B (SH HS) (rows.map RwM.c) (ps.drop (j + 1)) by rw [HRG9.out, HDR.out, Wb.rowsG, if_pos hno])
          have HRPN := Lib.hid (show ∀ t ∈ rows.map RwM.c, t.p ∈ ps.take (j + 1) from fun t ht => by rw [HTK.out]; exact List.mem_append_left _ (HRP.out t ht))
          have HLN := Lib.hid (show MLp F0 wB wL A P R s ((RL : Int) + 1) y i k B (SH HS) (ks ++ hs) (0 + (j + 1)) (no + (j + 1)) ga gc rows (ps.take (j + 1)) (rows.map RwM.c) by
            rw [HTK.out]; exact (HLP.out.skip (p := p) (by rw [hno.1]; rfl)).mono (by omega) (by omega))
          clear hno b1 b2 x0 x1 x2 x3
          go_wp2
          go_roundw
          case rel => exact ⟨j + 1, ga, gc, rows, by omega, by go_num, by omega, HLN, HRN, HRPN⟩
          case measure => first | (simp [intOf]; done) | (simp [intOf]; omega)
        case false =>
        have HYES := Lib.hid (show ¬ (SH HS p = [] ∧ B.paid p = []) from fun h => by have := HG.out.2 ⟨HNB9.out.2 h.1, HNA.out.2 h.2⟩; cases this)
        have HROWG := Lib.hid (show Wb.rowG p (y, i) (Wb.lst (B.paid p)) (Wb.lst (SH HS p)) (B.owed p) = Wb.rowG p (y, i) LA LB (B.owed p) by rw [← HCA.out, ← HCB.out, Wb.lst_ct, Wb.lst_ct, Wb.row_nrm])
        obtain ⟨⟨rw1, E⟩, hRW⟩ : ∃ q, Wb.rowG p (y, i) LA LB (B.owed p) = q := ⟨_, rfl⟩
        have HRW := Lib.hid hRW
        clear hRW HG HNA HNB9
        go_wp2_with fail
        go_fit (mrow31_any p y i k (B.owed p) _ _ _ _ _ LA LB _ HLA.out.sls HLB.out.sls (now_in HE.out (fun h => HPS.out.hand p h) HCB.out).2 (by omega) (by omega) (HBO.out.owed p)); rintro e w13 ⟨r, rfl, ⟨na, nn, nc, ba, bn, bc, hnv, hbv⟩, hr13, hx13⟩
        have e2 : (Wb.rowG p (y, i) LA LB (B.owed p)).2 = E := by rw [HRW.out]
        have e1 : (Wb.rowG p (y, i) LA LB (B.owed p)).1 = rw1 := by rw [HRW.out]
        rw [e2, e1] at hr13
        rw [e2]
        have HR13 := Lib.hid hr13
        have HL13 := Lib.hid (HLP.out.later hx13)
        have HD13 := Lib.hid (HDL.out.later hx13)
        have HX13 := Lib.hid hx13
        unfold rwv
        rw [hnv, hbv]
        have HNV := Lib.hid hnv
        have HBV := Lib.hid hbv
        clear hr13 hx13 hlk0 hlk1 hlk3 c0 b1 b2 x0 x1 x2 x3 e1 e2 hnv hbv
        go_upto_region 27 with (fail)
        refine Wb.wp_at fun W14 hW14 => ?_
        obtain ⟨X3, hX3⟩ : ∃ X3, w13.heap.size = X3 := ⟨_, rfl⟩
        have hb14 : Wb.Ext w13 W14 := by rw [hW14]; (repeat' (first | (with_reducible assumption) | (with_reducible exact Wb.Ext.refl _) | (with_reducible refine Wb.Ext.drew ?_) | (with_reducible refine Wb.Ext.drewN ?_ _) | (with_reducible refine Wb.Ext.alloc ?_ _) | (with_reducible refine Wb.ext_set ?_ (by first | assumption | (simp; done) | (simp; omega) | omega) _) | (with_reducible refine Wb.Ext.trans ?_ (by assumption))))
        have z7 : W14.cell? ⟨X3, 7, none⟩ = some (.int .i64 r.owed) := by rw [hW14, ← hX3]; simp [go_sem]
        have z0 : W14.cell? ⟨X3, 0, none⟩ = some (.int .u32 r.p) := by rw [hW14, ← hX3]; simp [go_sem]
        have z1 : W14.cell? ⟨X3, 1, none⟩ = some (.int .i64 r.now.y) := by rw [hW14, ← hX3]; simp [go_sem]
        have z2 : W14.cell? ⟨X3, 2, none⟩ = some (.int .i64 r.now.i) := by rw [hW14, ← hX3]; simp [go_sem]
        have z3 : W14.cell? ⟨X3, 3, none⟩ = some (.slice na nn nc) := by rw [hW14, ← hX3]; simp [go_sem]
        have z4 : W14.cell? ⟨X3, 4, none⟩ = some (.slice ba bn bc) := by rw [hW14, ← hX3]; simp [go_sem]
        have z5 : W14.cell? ⟨X3, 5, none⟩ = some (.int .i64 r.due) := by rw [hW14, ← hX3]; simp [go_sem]
        have z6 : W14.cell? ⟨X3, 6, none⟩ = some (.int .i64 r.paid) := by rw [hW14, ← hX3]; simp [go_sem]
        have HL14 := Lib.hid (HL13.out.later hb14)
        have HD14 := Lib.hid (HD13.out.later hb14)
        have hXg : wL.heap.size ≤ X3 := by rw [← hX3]; exact HX13.out.size
        have HX14 := Lib.hid (HX13.out.trans hb14)
        have HB14 := Lib.hid hb14
        rw [hX3]
        clear hW14 hX3 hb14 HL13 HD13
        by_cases he : E = 0
        case neg =>
          have dd : (E == 0) = false := by simpa using he
          have dd2 : (E != 0) = true := by simpa using he
          have HP := Lib.hid (show ∀ w', Wb.Ext w w' → DoPost F0 B y i k (SH HS) hs ks N w (.returned (.tuple #[BkV (.slice ra RL rc) mp mo, RnV 0 0 0 0 (.slice none 0 0), .int .i64 E])) w' from fun w' hx =>
            do_err HBKF.out HPS.out (do_rows HH0.out HE.out (by
              rw [HRG9.out, HDR.out, Wb.rowsG, if_neg HYES.out, HROWG.out, HRW.out]
              simp only [if_pos he, ne_eq]) he) hx)
          have b0 := HD14.out.b0
          have b1 := HD14.out.b1
          have b2 := HD14.out.b2
          have o0 := HD14.out.o0
          have o1 := HD14.out.o1
          have o2 := HD14.out.o2
          have q0 := HD14.out.q0
          have q1 := HD14.out.q1
          have q2 := HD14.out.q2
          have q3 := HD14.out.q3
          have q4 := HD14.out.q4
          have fo := HD14.out.fo
          have fq := HD14.out.fq
          have hx9 := HD14.out.ext
          have hlo := HD14.out.lo
          have hlo2 : w.heap.size ≤ A := by omega
          clear he
          go_wp2
          (try rw [Exit.noGoto_ret])
          refine bodyPost_ret (v := .tuple #[BkV (.slice ra RL rc) mp mo, RnV 0 0 0 0 (.slice none 0 0), .int .i64 E]) (by simp [results, Tryz.results21, go_sem, BkV, RnV, o0, o1, o2, q0, q1, q2, q3, q4]) rfl (HP.out _ (by (repeat' (first | (with_reducible assumption) | (with_reducible exact Wb.Ext.refl _) | (with_reducible refine Wb.Ext.drew ?_) | (with_reducible refine Wb.Ext.drewN ?_ _) | (with_reducible refine Wb.Ext.alloc ?_ _) | (with_reducible refine Wb.ext_set ?_ (by first | assumption | (simp; done) | (simp; omega) | omega) _) | (with_reducible refine Wb.Ext.trans ?_ (by assumption))))))
        subst he
        obtain ⟨hrc, hri, hrf⟩ := HR13.out rfl
        have HRC9 := Lib.hid hrc
        have HRF := Lib.hid hrf
        have HLOWN := Lib.hid (show ∀ q, (Value.slice ga rows.length gc).ownBlock = some q → s ≤ q ∧ q < wL.heap.size from fun q hq => HLP.out.own.lt q hq)
        have hgO : s ≤ wL.heap.size := HLP.out.size
        clear hrc hri hrf HR13 HLP
        have r4 := HL14.out.r4
        have rf := HL14.out.rf
        have HIN := Lib.hid (info_parts infoRow)
        have HRWC := Lib.hid (show rwc r = [.int .u32 r.p, .int .i64 r.now.y, .int .i64 r.now.i, .slice na nn nc, .slice ba bn bc, .int .i64 r.due, .int .i64 r.paid, .int .i64 r.owed] by unfold rwc; rw [HNV.out, HBV.out])
        obtain ⟨hi, hz0, hz1, hz2⟩ := HIN.out.choose_spec
        go_upto_region 29 with (fail)
        go_wp2_with (at_builtin; go_loud (refine wpList_append_row2 rfl (.tmp 168) (.tmp 170) 29 rfl s 42 _ rwZ 8 96 Tryz.underlying29 hi hz0 hz1 hz2 rfl (by decide) _ _ _ rfl (row_ext3 HL14.out.own ((Wb.Ext.refl _).alloc _)) _ rfl 1 [.int .u32 r.p, .int .i64 r.now.y, .int .i64 r.now.i, .slice na nn nc, .slice ba bn bc, .int .i64 r.due, .int .i64 r.paid, .int .i64 r.owed] ?c1 ?c2 ?c3 ?c4 ?c5 ?_))
        case c1 => exact src_lit _ _ (by simp) _ _ _
        case c2 => intro u hu; simp at hu; rcases hu with rfl | rfl | rfl | rfl | rfl | rfl | rfl | rfl <;> rfl
        case c3 => unfold maxLen; omega
        case c4 => omega
        case c5 => have := HL14.out.size; simp; omega
        intro u2 w15 hown2 hg2 hblk
        obtain ⟨ua, uc, rfl⟩ := row_shape hown2
        rw [← HRWC.out] at hown2
        obtain ⟨W14a, hW14a⟩ : ∃ z, W14.alloc (.cells #[.int .u32 r.p, .int .i64 r.now.y, .int .i64 r.now.i, .slice na nn nc, .slice ba bn bc, .int .i64 r.due, .int .i64 r.paid, .int .i64 r.owed] 42) = z := ⟨_, rfl⟩
        have hxa : Wb.Ext W14 W14a := by rw [← hW14a]; exact .alloc (.refl _) _
        have hblk : (Value.slice ua (rows.length + 1) uc).ownBlock = (Value.slice ga rows.length gc).ownBlock ∨ (Value.slice ua (rows.length + 1) uc).ownBlock = some W14a.heap.size := by
          rw [show W14a.heap.size = W14.heap.size + 1 by rw [← hW14a]; simp]; exact hblk
        have hg2 : W14a.grownBy w15 (Value.slice ga rows.length gc).ownBlock := by rw [← hW14a]; exact hg2
        have hlow9 := HD14.out.lo
        have hlp := (HL14.out.later hxa).push hown2 hg2 hblk (fun w2 h2 => by
          refine HRF.out (HF F0 A s (.slice ga rows.length gc)) w2 ((Kept.ext (HB14.out.trans hxa)).trans h2) (fun q hq => .inr ⟨by omega, fun e => by have := (HLOWN.out q e).2; omega⟩) (fun t ht => ?_)
          exact ((HLBF.out w2 (Kept.since ((HD14.out.ext).trans hxa) h2 (fun q hq h0 => .inl ⟨by omega, h0⟩))).sls.2 t ht).1)
        have kx : Kept (fun q => (Value.slice ga rows.length gc).ownBlock ≠ some q) W14a w15 := .grown hg2 (fun q e hq hne => hne e)
        have hX3s : X3 < W14a.heap.size := Nat.lt_of_lt_of_le (Wb.cell_size z0) hxa.size
        have hX3o : (Value.slice ga rows.length gc).ownBlock ≠ some X3 := fun e => by have := (HLOWN.out _ e).2; omega
        have hRo : (Value.slice ga rows.length gc).ownBlock ≠ some R := fun e => by have := (HLOWN.out _ e).1; omega
        have hXR9 : ¬ X3 = R := by omega
        have hRX9 : ¬ R = X3 := by omega
        have hRs9 : R < W14.heap.size := by have := HL14.out.size; omega
        replace r4 := kx.cell hRo (hxa.keep r4)
        replace rf : ∀ j, w15.frozen? ⟨R, j, none⟩ = false := fun j => kx.frozen hRo (by have := hxa.size; omega) ((hxa.cells.2 _ _ hRs9).trans (rf j))
        have HLP15 := Lib.hid hlp
        have x7' := kx.cell hX3o (hxa.keep z7)
        clear z0 z1 z2 z3 z4 z5 z6 z7 hi hz0 hz1 hz2 hg2 hown2 hblk hlp hxa hW14a HIN HRWC HRF HB14 HNV HBV kx hX3s HL14
        go_upto_region 30 with (fail)
        refine Wb.wp_at fun W16 hW16 => ?_
        rw [← hW16] at HLP15
        have x7 : W16.cell? ⟨X3, 7, none⟩ = some (.int .i64 r.owed) := by
          rw [hW16, World.cell?_setCell_other _ _ _ _ (by intro e; injection e with e1 e2 _; omega)]
          exact x7'
        obtain ⟨rs, hrs⟩ : ∃ rs, rows ++ [r] = rs := ⟨_, rfl⟩
        rw [hrs] at HLP15
        have hrsl : rs.length ≤ j + 1 := by rw [← hrs]; simp; omega
        have HRSC := Lib.hid (show rs.map RwM.c = rows.map RwM.c ++ [r.c] by rw [← hrs, List.map_append]; rfl)
        clear hW16 r4 rf x7' hrs
        have hOk : O < s ∧ O ≠ P ∧ O ≠ P + 1 ∧ O ≠ R := ⟨by omega, by omega, by omega, by omega⟩
        have o2 := HLP15.out.kept.cell hOk HOB.out.2.2.1
        have hrp : r.c.p = p := by rw [HRC9.out]; exact rowG_p HRW.out
        obtain ⟨w18, hrun18, hl18, -⟩ := HLP15.out.owed_run (p := p) (r := r.c) HOK.out HWP.out (by unfold maxLen; omega) hrp (fun t ht e => HPN.out (e ▸ HRP.out t ht))
        have hrun18 : (Instr.mapUpdate 25 (.map (some (P + 1))) (.int .u32 p) (.int .i64 r.owed)).run Tryz.prog W16 = .ok () w18 := hrun18
        rw [← HRSC.out] at hl18
        have HL18 := Lib.hid hl18
        have HRPC := Lib.hid hrp
        clear hl18 HLP15 hrp
        go_upto_region 31 with (fail)
        have HX18 := Lib.hid (show Wb.Ext w4 w18 from HL18.out.kept.old HXB.out (fun q hq => by have := HPW.out; exact ⟨by omega, by omega, by omega, by omega⟩))
        have HD18 := Lib.hid (HD4.out.later HX18.out)
        clear hrun18 o2 x7
        have hlk0 : (Instr.lookup 24 (.map (some M)) (.int .u32 p) false).run Tryz.prog w18 = .ok (.slice za LB.length zc) w18 := by
          have := KMapO.look (p := p) (HTM4.out.map.ext HX18.out) Tryz.underlying24 zeroSlips HOK.out
          rw [HLBV.out] at this; exact this
        go_wp2_with fail
        go_fit (full31_is _ LB _ (HLBF.out _ (.ext HD18.out.ext))); rintro e w19 ⟨u, rfl, hu9, hx19⟩
        obtain ⟨fa, fc, rfl⟩ : ∃ a c, u = .slice a (fullK LB).length c := by
          obtain ⟨a, c, e⟩ := row_shape hu9.1
          exact ⟨a, c, e⟩
        have HL19 := Lib.hid (HL18.out.later hx19)
        have HD19 := Lib.hid (HD18.out.later hx19)
        have HFC := Lib.hid (show (fullK LB).map Wb.ct = Wb.fullC (SH HS p) by rw [fullK_ct, HCB.out])
        have HRN := Lib.hid (show Wb.rowsG (y, i) B (SH HS) [] ps = Wb.rowsG (y, i) B (SH HS) (rs.map RwM.c) (ps.drop (j + 1)) by
          rw [HRG9.out, HDR.out, Wb.rowsG, if_neg HYES.out, HROWG.out, HRW.out, if_neg (by simp), HRSC.out, ← HRC9.out])
        have HRPN := Lib.hid (show ∀ t ∈ rs.map RwM.c, t.p ∈ ps.take (j + 1) from fun t ht => by
          rw [HTK.out]
          rw [HRSC.out] at ht
          rcases List.mem_append.1 ht with ht | ht
          · exact List.mem_append_left _ (HRP.out t ht)
          · obtain rfl : t = r.c := by simpa using ht
            rw [HRPC.out]; simp)
        have HU := Lib.hid (show ∀ w2, Kept (HF F0 A s (.slice ua rs.length uc)) w19 w2 → SlsK w2 (.slice fa (fullK LB).length fc) (fullK LB) from fun w2 h2 => by
          have hl9 := HD19.out.lo
          have h7 := HLBF.out w2 (Kept.since HD19.out.ext h2 (fun q hq h0 => .inl ⟨by omega, h0⟩))
          have hs7 := hu9.1.lt
          have hs8 := HL18.out.own.lt
          have hs9 := HL18.out.size
          exact ⟨⟨row_tbl slc_len (by decide) (own_keptF hu9.1 h2 (fun q hq => .inr ⟨by have := (hs7 q hq).1; omega, fun e => by have := (hs8 q e).2; have := (hs7 q hq).1; omega⟩)), fun t ht => h7.sls.2 t (List.mem_filter.1 ht).1⟩, Nat.le_trans (List.length_filter_le _ _) h7.many, fun t ht => h7.less t (List.mem_filter.1 ht).1⟩)
        obtain ⟨fn, hfn⟩ : ∃ fn, (fullK LB).length = fn := ⟨_, rfl⟩
        have HFN := Lib.hid hfn
        rw [hfn] at HU ⊢
        clear hfn hu9 hx19 hlk0
        by_cases hf0 : fn = 0
        · have d4 : decide ((0 : Int) < (fn : Int)) = false := by simp; omega
          have d4n : ¬ (0 : Int) < (fn : Int) := by omega
          have HLN := Lib.hid (show MLp F0 wB w19 A P R s ((RL : Int) + 1) y i k B (SH HS) (ks ++ hs) (0 + (j + 1)) (no + (j + 1)) ua uc rs (ps.take (j + 1)) (rs.map RwM.c) by
            rw [HTK.out]
            exact (HL19.out.skip (p := p) (by rw [← HFC.out, List.length_eq_zero_iff.1 (HFN.out.trans hf0)]; rfl)).mono (by omega) (by omega))
          clear hf0
          go_wp2
          go_roundw
          case rel => exact ⟨j + 1, ua, uc, rs, by omega, by go_num, hrsl, HLN, HRN, HRPN⟩
          case measure => first | (simp [intOf]; done) | (simp [intOf]; omega)
        · have d4 : decide ((0 : Int) < (fn : Int)) = true := by simp; omega
          have d4n : (0 : Int) < (fn : Int) := by omega
          have o1 := HL19.out.kept.cell hOk HOB.out.2.1
          obtain ⟨w20, hrun20, hl20, -⟩ := HL19.out.paid_run (p := p) (L := fullK LB) HOK.out HWP.out (by unfold maxLen; omega) (u := .slice fa fn fc) HU.out HFC.out
          have hrun20 : (Instr.mapUpdate 24 (.map (some P)) (.int .u32 p) (.slice fa fn fc)).run Tryz.prog w19 = .ok () w20 := hrun20
          have HLN := Lib.hid (show MLp F0 wB w20 A P R s ((RL : Int) + 1) y i k B (SH HS) (ks ++ hs) (0 + (j + 1)) (no + (j + 1)) ua uc rs (ps.take (j + 1)) (rs.map RwM.c) by
            rw [HTK.out]
            exact hl20.mono (by omega) (by omega))
          clear hf0 hl20
          go_wp2
          go_roundw
          case rel => exact ⟨j + 1, ua, uc, rs, by omega, by go_num, hrsl, HLN, HRN, HRPN⟩
          case measure => first | (simp [intOf]; done) | (simp [intOf]; omega)
    · intro x v w2 cnt2 hok hfx hnr hrg2 hlt hg2 hs2 hen
      have hg2' : wO.grownBy w2 (some X) := hg2
      obtain ⟨w3, hrun, hm3, hg3⟩ := (HMM.out.kept hg2 (by intro e; injection e with e; omega)).update Tryz.underlying25 (by unfold maxLen; omega) hok v
      have hrun : (Instr.mapUpdate 25 (.map (some (P + 1))) (.int .u32 x) v).run Tryz.prog w2 = .ok () w3 := hrun
      have hen : (Instr.entry (.pointer (some ⟨X, 0, none⟩))).run Tryz.prog w2 = .ok (.tuple #[.int .u32 x, v]) w2 := hen
      have HM3 := Lib.hid (show KMap kU32 w3 (P + 1) (ss ++ [x]).length (.int .i64 0) (fun p => if p ∈ ss ++ [x] then fo p else none) by
        rw [List.length_append]
        refine KMap.congr hm3 fun p => ?_
        by_cases e : x = p
        · subst e; simp [hfx]
        · rw [if_neg e]
          by_cases hm : p ∈ ss
          · simp [hm]
          · have : ¬ p = x := fun h => e h.symm
            simp [hm, this])
      have hmoP : mo ≠ some (P + 1) := fun e => by have := HMO.out _ e; omega
      have HRG3 := Lib.hid (hrg2.kept hg3 (fun b hb e => hmoP (by rw [hb, ← e])) (by intro e; injection e with e; omega))
      have hk2 : Kept (fun q => q < X ∧ q ≠ P + 1) wO w2 := .grown hg2 (fun q e _ h => by cases e; exact Nat.lt_irrefl _ h.1)
      have HKP3 := Lib.hid ((HKP.out.trans hk2).trans (.grown hg3 (fun q e _ h => by cases e; exact h.2 rfl)))
      have o2 := (HKP.out.trans hk2).cell ⟨by omega, by omega⟩ HOC.out.2.2.1
      have hlt3 := hlt
      have hl0 : kLeft mo X wO = cnt := HRG.out.left
      clear hm3 hg3 hg2 hg2' hs2 hrg2 hfx hnr hok hrg hlt hk2
      (try go_frame)
      go_wp2
      go_roundw
      case rel => exact ⟨cnt2, ss ++ [x], HRG3, by simp; omega, HM3, HKP3⟩
      case measure => rw [HRG3.out.left, hl0]; exact hlt3
end Go.Proofs.YtnefdpnolojojaaGreat
