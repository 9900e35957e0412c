/- The walks of package prorate: a piece, Salary. -/
import Derived.Test.YtheofklbmknipaaPro1
import Derived.Test.YtheofklbmknipaaSpn10
import Derived.Test.YtheofklbmknipaaSpn8
import Derived.Deep.RegionHeld3
import Derived.Deep.DeepCutAuto
namespace Go.Proofs.Ytheofklbmknipaa
open Go.RowKit Go.Lib
set_option maxRecDepth 8000
attribute [local go_sem ↓] Go.wp_at_zero Go.wp_at_succ

/-- a set within some days has no more spans than days -/
theorem canon_len : ∀ {r : List Wb.Sp} {lo hi : Int}, Wb.Canon r → (∀ d, Wb.memL r d → lo ≤ d ∧ d < hi) → (r.length : Int) ≤ max (hi - lo) 0
  | [], lo, hi, _, _ => by simp; omega
  | x :: r, lo, hi, h, k => by
    obtain ⟨h1, h2⟩ := h
    obtain ⟨h3, h4⟩ := List.pairwise_cons.1 h2
    have hx := h1 x (by simp)
    have hk := k x.1 ⟨x, by simp, Int.le_refl _, hx⟩
    have ih := canon_len (r := r) (lo := x.1 + 1) (hi := hi) ⟨fun s hs => h1 s (by simp [hs]), h4⟩ (fun d hd => by
      obtain ⟨s, hs, hd1, hd2⟩ := hd
      have := h3 s hs
      have := k d ⟨s, by simp [hs], hd1, hd2⟩
      omega)
    simp only [List.length_cons]
    omega
theorem days_none {r : List Wb.Sp} (h : ∀ d, ¬ Wb.memL r d) (hc : Wb.Canon r) : r = [] := by
  cases r with
  | nil => rfl
  | cons x r => exact absurd ⟨x, by simp, Int.le_refl _, hc.1 x (by simp)⟩ (h x.1)
theorem days_pos : ∀ {r : List Wb.Sp} {n : Int}, (∀ s ∈ r, s.1 < s.2) → 0 ≤ n → n ≤ 4611686018427387904 → r ≠ [] ∨ 0 < n → 0 < r.foldl (fun n s => min n (4611686018427387904 - lenS s) + lenS s) n
  | [], n, _, h0, _, h => by simpa using h
  | x :: r, n, hr, h0, hm, _ => by
    rw [List.foldl_cons]
    have hx := hr x (by simp)
    have h1 : 1 ≤ lenS x ∧ lenS x ≤ 4611686018427387904 := by
      have := lenS_ok x
      refine ⟨?_, this.2⟩
      unfold lenS; rw [if_neg (by omega)]; omega
    exact days_pos (fun s hs => hr s (by simp [hs])) (by omega) (by omega) (.inr (by omega))
theorem daysL_iff {r : List Wb.Sp} (hc : Wb.Canon r) : 0 < daysL r ↔ ∃ d, Wb.memL r d := by
  constructor
  · intro h
    cases r with
    | nil => simp [daysL] at h
    | cons x r => exact ⟨x.1, x, by simp, Int.le_refl _, hc.1 x (by simp)⟩
  · rintro ⟨d, s, hs, _⟩
    exact days_pos hc.1 (Int.le_refl _) (by decide) (.inl (by rintro rfl; cases hs))
/-- the period's test in the program's words -/
theorem inP_prog (s d : Wb.Sp) : inP s d = !(decide (lenS d = 0) || !decide (lenS (crossS d s) = lenS d) || decide (366 < lenS s)) := by
  obtain ⟨a, b⟩ := d
  obtain ⟨f, t⟩ := s
  rw [Bool.eq_iff_iff, inP_iff]
  simp only [Bool.not_eq_true', Bool.or_eq_false_iff, decide_eq_false_iff_not, Bool.not_eq_false', decide_eq_true_eq]
  unfold crossS lenS
  simp only
  constructor
  · intro ⟨h1, h2, h3, h4⟩
    rw [if_neg (show ¬ b ≤ a by omega), if_neg (show ¬ t ≤ f by omega), if_neg (show ¬ min b t ≤ max a f by omega)]
    simp only
    rw [if_neg (show ¬ min b t ≤ max a f by omega)]
    omega
  · intro ⟨⟨h1, h2⟩, h3⟩
    by_cases e1 : b ≤ a
    · rw [if_pos e1] at h1; exact absurd rfl h1
    · rw [if_neg e1] at h1 h2
      by_cases e2 : min b t ≤ max a f
      · rw [if_pos e2] at h2
        simp only at h2
        rw [if_pos (Int.le_refl _)] at h2
        omega
      · rw [if_neg e2] at h2
        simp only at h2
        rw [if_neg e2] at h2
        by_cases e3 : t ≤ f
        · omega
        · rw [if_neg e3] at h3
          omega

/-! ### the walks -/
set_option maxHeartbeats 2000000 in
theorem piece_any (y ix o : Int) (s : Wb.Sp) (pay : Int) (x : Pc) (hi : -9223372036854775808 ≤ ix ∧ ix ≤ 9223372036854775807) (hs : Bd s) (hx : inP s x.d = true) (hd : Bd x.d) (w : World) :
    Calls Try.prog 29 #[PeV y ix o s pay, PcV x] w fun e w' => e = Two (pcR ix o s x) ∧ Wb.Ext w w' := by
  obtain ⟨⟨a, b⟩, yr, part⟩ := x
  obtain ⟨f, t⟩ := s
  obtain ⟨x1, x2, x3, x4⟩ := inP_iff.1 hx
  simp only at x1 x2 x3 x4
  have HBD := Lib.hid hs
  obtain ⟨⟨s1, s2⟩, s3, s4⟩ := hs
  obtain ⟨⟨d1, d2⟩, d3, d4⟩ := hd
  simp only at s1 s2 s3 s4 d1 d2 d3 d4
  obtain ⟨⟨p1, p2⟩, hp⟩ : ∃ p, Wb.ofR yr part = p := ⟨_, rfl⟩
  have HP := Lib.hid hp
  have HR := Lib.hid (show pcR ix o (f, t) ⟨(a, b), yr, part⟩ = if p2 ≠ 0 then (0, p2) else if (perR ix o p1).2 ≠ 0 then (0, (perR ix o p1).2) else Wb.betw (perR ix o p1).1 (a - f) (b - f) (lenS (f, t)) by rw [pcR]; simp only [hp])
  have hII := Lib.hid hi
  clear hp hx
  by_cases h0 : p2 = 0
  case neg =>
    have d : (p2 == 0) = false := by simpa using h0
    have d2 : (p2 != 0) = true := by simpa using h0
    have H := Lib.hid (show pcR ix o (f, t) ⟨(a, b), yr, part⟩ = (0, p2) by rw [HR.out, if_pos h0])
    clear h0
    go_enter Try.func29, Try.ntmps29
    go_wp2_with fail
    go_fit (rateof_any yr part _); rintro e w1 ⟨rfl, hb1⟩
    rw [HP.out]
    go_wp2
    refine bodyPost_ret (v := .tuple #[.int .i64 0, .int .i64 p2]) (by simp [results, Try.results29, go_sem]) rfl ⟨by rw [H.out], Wb.Ext.trans (by (repeat' (first | (with_reducible assumption) | (with_reducible exact Wb.Ext.refl _) | (with_reducible refine Wb.Ext.drew ?_) | (with_reducible refine Wb.Ext.drewN ?_ _) | (with_reducible refine Wb.Ext.alloc ?_ _) | (with_reducible refine Wb.Ext.trans ?_ (by assumption))))) hb1⟩
  subst h0
  obtain ⟨⟨c1, c2⟩, hc⟩ : ∃ p, perR ix o p1 = p := ⟨_, rfl⟩
  have HC := Lib.hid hc
  have HR2 := Lib.hid (show pcR ix o (f, t) ⟨(a, b), yr, part⟩ = if c2 ≠ 0 then (0, c2) else Wb.betw c1 (a - f) (b - f) (lenS (f, t)) by rw [HR.out, if_neg (by simp)]; simp only [hc])
  clear hc HR
  by_cases h1 : c2 = 0
  case neg =>
    have d : (c2 == 0) = false := by simpa using h1
    have d2 : (c2 != 0) = true := by simpa using h1
    have H := Lib.hid (show pcR ix o (f, t) ⟨(a, b), yr, part⟩ = (0, c2) by rw [HR2.out, if_pos h1])
    clear h1
    go_enter Try.func29, Try.ntmps29
    go_wp2_with fail
    go_fit (rateof_any yr part _); rintro e w1 ⟨rfl, hb1⟩
    rw [HP.out]
    have u0 : w1.cell? ⟨w.heap.size, 0, none⟩ = some (.int .i64 y) := hb1.keep (by simp [go_sem])
    have u1 : w1.cell? ⟨w.heap.size, 1, none⟩ = some (.int .i64 ix) := hb1.keep (by simp [go_sem])
    have u2 : w1.cell? ⟨w.heap.size, 2, none⟩ = some (.int .i64 o) := hb1.keep (by simp [go_sem])
    have u3 : w1.cell? ⟨w.heap.size, 3, none⟩ = some (.int .i64 f) := hb1.keep (by simp [go_sem])
    have u4 : w1.cell? ⟨w.heap.size, 4, none⟩ = some (.int .i64 t) := hb1.keep (by simp [go_sem])
    have u5 : w1.cell? ⟨w.heap.size, 5, none⟩ = some (.int .i64 pay) := hb1.keep (by simp [go_sem])
    have v0 : w1.cell? ⟨w.heap.size + 1, 0, none⟩ = some (.int .i64 a) := hb1.keep (by simp [go_sem])
    have v1 : w1.cell? ⟨w.heap.size + 1, 1, none⟩ = some (.int .i64 b) := hb1.keep (by simp [go_sem])
    have v2 : w1.cell? ⟨w.heap.size + 1, 2, none⟩ = some (.int .i64 yr) := hb1.keep (by simp [go_sem])
    have v3 : w1.cell? ⟨w.heap.size + 1, 3, none⟩ = some (.int .i64 part) := hb1.keep (by simp [go_sem])
    have hx1 : Wb.Ext w w1 := Wb.Ext.trans (by (repeat' (first | (with_reducible assumption) | (with_reducible exact Wb.Ext.refl _) | (with_reducible refine Wb.Ext.drew ?_) | (with_reducible refine Wb.Ext.drewN ?_ _) | (with_reducible refine Wb.Ext.alloc ?_ _) | (with_reducible refine Wb.Ext.trans ?_ (by assumption))))) hb1
    clear hb1
    go_wp2_with fail
    go_fit (period_any y ix o (f, t) pay p1 hII.out _); rintro e w2 ⟨rfl, hb2⟩
    rw [HC.out]
    go_wp2
    refine bodyPost_ret (v := .tuple #[.int .i64 0, .int .i64 c2]) (by simp [results, Try.results29, go_sem]) rfl ⟨by rw [H.out], hx1.trans hb2⟩
  subst h1
  obtain ⟨L, hL⟩ : ∃ L, lenS (f, t) = L := ⟨_, rfl⟩
  have HL := Lib.hid hL
  obtain ⟨⟨q1, q2⟩, hq⟩ : ∃ p, Wb.betw c1 (a - f) (b - f) L = p := ⟨_, rfl⟩
  have HQ := Lib.hid hq
  have H := Lib.hid (show pcR ix o (f, t) ⟨(a, b), yr, part⟩ = (q1, q2) by rw [HR2.out, if_neg (by simp), hL, hq])
  have e1 : IntKind.i64.wrap (a - f) = a - f := IntWalk.i64_in _ (by omega)
  have e2 : IntKind.i64.wrap (b - f) = b - f := IntWalk.i64_in _ (by omega)
  clear hq hL HR2
  go_enter Try.func29, Try.ntmps29
  go_wp2_with fail
  go_fit (rateof_any yr part _); rintro e w1 ⟨rfl, hb1⟩
  rw [HP.out]
  have u0 : w1.cell? ⟨w.heap.size, 0, none⟩ = some (.int .i64 y) := hb1.keep (by simp [go_sem])
  have u1 : w1.cell? ⟨w.heap.size, 1, none⟩ = some (.int .i64 ix) := hb1.keep (by simp [go_sem])
  have u2 : w1.cell? ⟨w.heap.size, 2, none⟩ = some (.int .i64 o) := hb1.keep (by simp [go_sem])
  have u3 : w1.cell? ⟨w.heap.size, 3, none⟩ = some (.int .i64 f) := hb1.keep (by simp [go_sem])
  have u4 : w1.cell? ⟨w.heap.size, 4, none⟩ = some (.int .i64 t) := hb1.keep (by simp [go_sem])
  have u5 : w1.cell? ⟨w.heap.size, 5, none⟩ = some (.int .i64 pay) := hb1.keep (by simp [go_sem])
  have v0 : w1.cell? ⟨w.heap.size + 1, 0, none⟩ = some (.int .i64 a) := hb1.keep (by simp [go_sem])
  have v1 : w1.cell? ⟨w.heap.size + 1, 1, none⟩ = some (.int .i64 b) := hb1.keep (by simp [go_sem])
  have v2 : w1.cell? ⟨w.heap.size + 1, 2, none⟩ = some (.int .i64 yr) := hb1.keep (by simp [go_sem])
  have v3 : w1.cell? ⟨w.heap.size + 1, 3, none⟩ = some (.int .i64 part) := hb1.keep (by simp [go_sem])
  have hx1 : Wb.Ext w w1 := Wb.Ext.trans (by (repeat' (first | (with_reducible assumption) | (with_reducible exact Wb.Ext.refl _) | (with_reducible refine Wb.Ext.drew ?_) | (with_reducible refine Wb.Ext.drewN ?_ _) | (with_reducible refine Wb.Ext.alloc ?_ _) | (with_reducible refine Wb.Ext.trans ?_ (by assumption))))) hb1
  clear hb1
  go_wp2_with fail
  go_fit (period_any y ix o (f, t) pay p1 hII.out _); rintro e w2 ⟨rfl, hb2⟩
  rw [HC.out]
  have u0 := hb2.keep u0
  have u1 := hb2.keep u1
  have u2 := hb2.keep u2
  have u3 := hb2.keep u3
  have u4 := hb2.keep u4
  have u5 := hb2.keep u5
  have v0 := hb2.keep v0
  have v1 := hb2.keep v1
  have v2 := hb2.keep v2
  have v3 := hb2.keep v3
  have hx2 := hx1.trans hb2
  clear hb2 hx1
  go_wp2_with fail
  go_region_held3 (fun w' => w'.cell? ⟨w.heap.size, 3, none⟩ = some (.int .i64 f) ∧ w'.cell? ⟨w.heap.size, 4, none⟩ = some (.int .i64 t) ∧ w'.cell? ⟨w.heap.size + 1, 0, none⟩ = some (.int .i64 a) ∧ w'.cell? ⟨w.heap.size + 1, 1, none⟩ = some (.int .i64 b)) (first | exact ⟨u3, u4, v0, v1⟩ | (obtain ⟨k0, k1, k2, k3⟩ := ‹_ ∧ _ ∧ _ ∧ _›; exact ⟨hb.keep k0, hb.keep k1, hb.keep k2, hb.keep k3⟩)) (first | (go_at_call 25; go_fit (length_any (f, t) HBD.out _); rintro e w' ⟨rfl, hb⟩; rw [HL.out]) | (go_at_call 21; go_fit (between_any c1 (a - f) (b - f) L _); rintro e w' ⟨rfl, hb⟩; rw [HQ.out]))
  all_goals
    have hx9 : Wb.Ext w w' := by (repeat' (first | (with_reducible assumption) | (with_reducible exact Wb.Ext.refl _) | (with_reducible refine Wb.Ext.drew ?_) | (with_reducible refine Wb.Ext.drewN ?_ _) | (with_reducible refine Wb.Ext.alloc ?_ _) | (with_reducible refine Wb.Ext.trans ?_ (by assumption))))
    go_wp2
    refine bodyPost_ret (v := .tuple #[.int .i64 q1, .int .i64 q2]) (by simp [results, Try.results29, go_sem]) rfl ⟨by rw [H.out], hx9⟩

end Go.Proofs.Ytheofklbmknipaa
