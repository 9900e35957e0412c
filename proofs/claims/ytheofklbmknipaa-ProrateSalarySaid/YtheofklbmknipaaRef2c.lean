/- The reference of chapter 02: product, Divided. -/
import Derived.Test.YtheofklbmknipaaRef2b
import Derived.Test.YtheofklbmknipaaPlainPrd
import Derived.Test.YtheofklbmknipaaTbl
import Derived.Laws.MakeOwn
import Derived.Deep.QuietTactic
import Derived.BigQuiet
namespace Go.Proofs.Ytheofklbmknipaa
open Go.RowKit Go.Lib
set_option maxRecDepth 8000

theorem infoU64 : (Try.prog.info? 84).map (fun i => (i.zero, i.size, i.bytes)) = some (some (.int .u64 0), 1, 8) := by kernel_rfl
theorem make129 (w : World) : (Instr.makeSlice 110 (.int .i64 129) (.int .i64 129)).run Try.prog w = .ok (.slice (some ⟨w.heap.size, 0, none⟩) 129 129) (w.alloc (.cells (madeCells #[.int .u64 0] 129) 84)) := by
  have h := infoU64
  cases hi : Try.prog.info? 84 with
  | none => rw [hi] at h; cases h
  | some i =>
    rw [hi] at h
    simp only [Option.map_some, Option.some.injEq, Prod.mk.injEq] at h
    obtain ⟨h1, h2, h3⟩ := h
    have := run_makeSlice (P := Try.prog) w 110 84 i (.int .u64 0) (by kernel_rfl) hi h1 .i64 .i64 129 129 (by decide) (by decide) (by rw [h2]; decide) (by rw [h3]; decide) (by decide)
    rw [this, h2]
    rfl
/-- bits in memory -/
def BitsC (w : World) (X : Nat) (l : List Nat) : Prop := ∀ j x, l[j]? = some x → w.cell? ⟨X, j, none⟩ = some (.int .u64 (x : Nat))
theorem bitsC_made (w : World) (X : Nat) (hX : X = w.heap.size) (T : TypeId) (n : Nat) : BitsC (w.alloc (.cells (madeCells #[.int .u64 0] n) T)) X (List.replicate n 0) := by
  subst hX
  intro j x hx
  obtain ⟨h1, h2⟩ := List.getElem?_eq_some_iff.1 hx
  simp at h1 h2
  subst h2
  have hm : j % 1 = 0 := Nat.mod_one j
  simp [go_sem, madeCells, h1, hm]
theorem BitsC.ext {w w' : World} {X : Nat} {l : List Nat} (h : BitsC w X l) (k : Wb.Ext w w') : BitsC w' X l := fun j x hx => k.keep (h j x hx)
theorem BitsC.drewN {w : World} {X : Nat} {l : List Nat} (h : BitsC w X l) (n : Nat) : BitsC (w.drewN n) X l := h.ext (Wb.Ext.drewN (.refl _) n)
theorem BitsC.put {w : World} {X p y x0 : Nat} {l : List Nat} (h : BitsC w X l) (hp : l[p]? = some x0) : BitsC (w.setCell ⟨X, p, none⟩ (.int .u64 (y : Nat))) X (l.set p y) := by
  intro j x hx
  by_cases hj : p = j
  · subst hj
    have hlt := (List.getElem?_eq_some_iff.1 hp).1
    rw [List.getElem?_set_self hlt] at hx
    obtain rfl := Option.some.inj hx
    have := h p _ hp
    simp [go_sem, this]
  · rw [List.getElem?_set_ne hj] at hx
    rw [World.cell?_setCell_other]
    · exact h j x hx
    · intro e; injection e with _ e2 _; first | exact hj e2 | exact hj e2.symm
/-- the carry behind a round -/
def EndI (a b i : Nat) (kz : Int) (c : Nat) (l : List Nat) : Prop := (c = 0 ∧ Wb.PrI a b (i + 1) l) ∨ (c = 1 ∧ kz = ((i + 64 : Nat) : Int) ∧ l[i + 64]? = some 0 ∧ Wb.PrI a b (i + 1) (l.set (i + 64) 1))
theorem endI_of {a b i c : Nat} {l : List Nat} (h : Wb.InI a b i 64 c l) (hb : b < 18446744073709551616) (hi : i < 64) : EndI a b i ((i + 64 : Nat) : Int) c l := by
  obtain ⟨x, hx, hx1⟩ := h.1.at (k := i + 64) (by omega)
  obtain ⟨h1, h2, h3⟩ := Wb.inI_last h hb hx
  have hc := h.2.1
  by_cases h0 : c = 0
  · exact .inl ⟨h0, h2 h0⟩
  · have hx0 : x = 0 := by rcases h1 with h | h; exact absurd h h0; exact h
    obtain rfl : c = 1 := by omega
    subst hx0
    exact .inr ⟨rfl, rfl, hx, h3 rfl⟩
theorem endI_len {a b i c : Nat} {kz : Int} {l : List Nat} (h : EndI a b i kz c l) : c ≤ 1 := by rcases h with ⟨h, _⟩ | ⟨h, _⟩ <;> omega

set_option maxHeartbeats 4000000 in
theorem product_any (a b : Nat) (w : World) (ha : a < 18446744073709551616) (hb : b < 18446744073709551616) :
    Calls Try.prog 75 #[.int .u64 a, .int .u64 b] w fun e w' => ∃ v, e = .returned v ∧ ∃ l, BitsV w' v l ∧ Wb.valB l = a * b ∧ Wb.Ext w w' := by
  have hmk := make129
  go_enter Try.func75, Try.ntmps75
  go_upto_region 2 with (fail)
  refine Wb.wp_at fun W0 hW0 => ?_
  obtain ⟨X, hX⟩ : ∃ X, w.heap.size = X := ⟨_, rfl⟩
  have HC0 : Hid (BitsC W0 X (List.replicate 129 0)) := Lib.hid (by rw [hW0]; exact bitsC_made _ X hX.symm _ 129)
  have hf0 : ∀ j, W0.frozen? ⟨X, j, none⟩ = false := fun j => by rw [hW0, ← hX]; simp [go_sem]
  have hXl : X < W0.heap.size := by rw [hW0, ← hX]; simp
  have hE0 : Wb.Ext w W0 := by rw [hW0]; (repeat' (first | (with_reducible assumption) | (with_reducible exact Wb.Ext.refl _) | (with_reducible refine Wb.Ext.drew ?_) | (with_reducible refine Wb.Ext.drewN ?_ _) | (with_reducible refine Wb.Ext.alloc ?_ _) | (with_reducible refine Wb.Ext.trans ?_ (by assumption))))
  rw [hX]
  have hXw : w.heap.size ≤ X := by omega
  clear hW0 hX hmk
  go_wp2_with fail
  go_loopw [6] (fun iv wr => ∃ (i : Nat) (l : List Nat), i ≤ 64 ∧ iv = .int .i64 i ∧ Hid (Wb.PrI a b i l) ∧ Hid (BitsC wr X l) ∧ (∀ j, wr.frozen? ⟨X, j, none⟩ = false) ∧ X < wr.heap.size ∧ Wb.Ext w wr) (fun iv _ => 64 - (intOf iv).toNat)
  case atStart => exact ⟨0, _, by omega, rfl, Lib.hid (Wb.prI_start a b), HC0, hf0, hXl, hE0⟩
  case round =>
    clear HC0 hf0 hXl hE0
    obtain ⟨i, l, hi, rfl, HI, HC, hf, hXl, hE⟩ := hrel
    by_cases hlt : i < 64
    case neg =>
      obtain rfl : i = 64 := by omega
      obtain ⟨e1, e2, e3⟩ := Wb.prI_end HI.out ha hb
      have HR := Lib.hid (show BitsV wr (.slice (some ⟨X, 0, none⟩) 128 129) (l.take 128) from ⟨X, 129, rfl, e1, e2, fun j x hx => HC.out j x (by
        obtain ⟨h1, h2⟩ := List.getElem?_eq_some_iff.1 hx
        rw [List.getElem_take] at h2
        rw [← h2]
        exact List.getElem?_eq_getElem _)⟩)
      clear e1 e2
      go_wp2
      refine bodyPost_ret (v := .slice (some ⟨X, 0, none⟩) 128 129) (by simp [results, Try.results75, go_sem]) rfl ⟨_, rfl, l.take 128, ?_, e3, by (repeat' (first | (with_reducible assumption) | (with_reducible exact Wb.Ext.refl _) | (with_reducible refine Wb.Ext.drew ?_) | (with_reducible refine Wb.Ext.drewN ?_ _) | (with_reducible refine Wb.Ext.alloc ?_ _) | (with_reducible refine Wb.Ext.trans ?_ (by assumption))))⟩
      exact HR.out
    have hlti : (i : Int) < 64 := by omega
    go_wp2_with fail
    go_fit (rbit_any a i ha hi _); rintro e w1 ⟨rfl, rfl⟩
    have hbit : a / 2 ^ i % 2 = 0 ∨ a / 2 ^ i % 2 = 1 := by omega
    obtain ⟨B, hB⟩ : ∃ B, a / 2 ^ i % 2 = B := ⟨_, rfl⟩
    rw [hB] at hbit ⊢
    rcases hbit with rfl | rfl
    · have HI2 := Lib.hid (Wb.prI_skip HI.out hB)
      clear hB
      go_wp2
      go_roundw
      case rel => exact ⟨i + 1, l, by omega, by go_num, HI2, HC, hf, hXl, by (repeat' (first | (with_reducible assumption) | (with_reducible exact Wb.Ext.refl _) | (with_reducible refine Wb.Ext.drew ?_) | (with_reducible refine Wb.Ext.drewN ?_ _) | (with_reducible refine Wb.Ext.alloc ?_ _) | (with_reducible refine Wb.Ext.trans ?_ (by assumption))))⟩
      case measure => first | (simp [intOf]; done) | (simp [intOf]; omega)
    have HS := Lib.hid (Wb.inI_start HI.out hB)
    clear hB HI
    go_wp2_with fail
    go_loopw [7, 8] (fun cv kv wr => ∃ (k c : Nat) (l : List Nat), k ≤ 64 ∧ kv = .int .i64 k ∧ cv = .int .u64 c ∧ Hid (Wb.InI a b i k c l) ∧ Hid (BitsC wr X l) ∧ (∀ j, wr.frozen? ⟨X, j, none⟩ = false) ∧ X < wr.heap.size ∧ Wb.Ext w wr) (fun _ kv _ => 64 - (intOf kv).toNat)
    case atStart => exact ⟨0, 0, l, by omega, rfl, rfl, HS, HC, hf, hXl, by (repeat' (first | (with_reducible assumption) | (with_reducible exact Wb.Ext.refl _) | (with_reducible refine Wb.Ext.drew ?_) | (with_reducible refine Wb.Ext.drewN ?_ _) | (with_reducible refine Wb.Ext.alloc ?_ _) | (with_reducible refine Wb.Ext.trans ?_ (by assumption))))⟩
    case round =>
      clear HS HC hf hXl hE
      obtain ⟨k, c, l2, hk, rfl, rfl, HI, HC, hf, hXl, hE⟩ := hrel
      by_cases hkt : k < 64
      case neg =>
        obtain rfl : k = 64 := by omega
        have HN := Lib.hid (endI_of HI.out hb hlt)
        clear HI
        go_wp2_with fail
        go_loopw [7, 10] (fun cv kv wr => ∃ (c : Nat) (kz : Int) (l : List Nat), cv = .int .u64 c ∧ kv = .int .i64 kz ∧ Hid (EndI a b i kz c l) ∧ Hid (BitsC wr X l) ∧ (∀ j, wr.frozen? ⟨X, j, none⟩ = false) ∧ X < wr.heap.size ∧ Wb.Ext w wr) (fun cv _ _ => (intOf cv).toNat)
        case atStart => exact ⟨c, ((i + 64 : Nat) : Int), l2, rfl, by go_num, HN, HC, hf, hXl, by (repeat' (first | (with_reducible assumption) | (with_reducible exact Wb.Ext.refl _) | (with_reducible refine Wb.Ext.drew ?_) | (with_reducible refine Wb.Ext.drewN ?_ _) | (with_reducible refine Wb.Ext.alloc ?_ _) | (with_reducible refine Wb.Ext.trans ?_ (by assumption))))⟩
        case round =>
          clear HN HC hf hXl hE
          obtain ⟨c, kz, l3, rfl, rfl, HI, HC, hf, hXl, hE⟩ := hrel
          rcases HI.out with ⟨rfl, h1⟩ | ⟨rfl, rfl, h0, h1⟩
          · have HI2 := Lib.hid h1
            clear h1
            go_wp2
            go_roundw
            case rel => exact ⟨i + 1, l3, by omega, by go_num, HI2, HC, hf, hXl, by (repeat' (first | (with_reducible assumption) | (with_reducible exact Wb.Ext.refl _) | (with_reducible refine Wb.Ext.drew ?_) | (with_reducible refine Wb.Ext.drewN ?_ _) | (with_reducible refine Wb.Ext.alloc ?_ _) | (with_reducible refine Wb.Ext.trans ?_ (by assumption))))⟩
            case measure => first | (simp [intOf]; done) | (simp [intOf]; omega)
          · obtain ⟨p, hp⟩ : ∃ p, i + 64 = p := ⟨_, rfl⟩
            rw [hp] at h0 h1 ⊢
            have hpb : (p : Int) < 129 := by omega
            have c0 := HC.out p 0 h0
            have f0 := hf p
            have HP := Lib.hid (show EndI a b i ((p + 1 : Nat) : Int) 0 (l3.set p 1) from .inl ⟨rfl, h1⟩)
            have H0 := Lib.hid h0
            clear h0 h1 hp HI
            go_wp2
            go_roundw
            case rel => exact ⟨0, _, l3.set p 1, by go_num, by go_num, HP, Lib.hid (HC.out.put H0.out), fun j => by simp [go_sem, hf], by simpa using hXl, Wb.ext_set hE hXw _⟩
            case measure => first | (simp [intOf]; done) | (simp [intOf]; omega)
      have hkti : (k : Int) < 64 := by omega
      have hpb : (i : Int) + (k : Int) < 129 := by omega
      have hp0 : (0 : Int) ≤ (i : Int) + (k : Int) := by omega
      obtain ⟨x, hx, hx1⟩ := HI.out.1.at (k := i + k) (by omega)
      have c0 := HC.out (i + k) x hx
      have f0 := hf (i + k)
      have hst := Wb.inI_step HI.out hx hx1
      have hc1 : c ≤ 1 := HI.out.2.1
      obtain ⟨B, hB⟩ : ∃ B, b / 2 ^ k % 2 = B := ⟨_, rfl⟩
      have hB1 : B ≤ 1 := by omega
      rw [hB] at hst
      have hbk : ∀ w1 : World, Calls Try.prog 90 #[.int .u64 b, .int .i64 k] w1 fun e w' => e = .returned (.int .u64 (B : Nat)) ∧ w' = w1 := fun w1 => (rbit_any b k hb hk w1).mono fun _ _ ⟨h1, h2⟩ => ⟨by rw [h1, hB], h2.symm⟩
      have HX := Lib.hid hx
      have HS2 := Lib.hid hst
      clear hx hst hB HI
      go_wp2_with fail
      go_quiet ((go_at_call 90; exact Calls.quiet_of_same (hbk _)))
      clear hbk
      go_wp2
      go_roundw
      case rel => exact ⟨k + 1, (x + B + c) / 2, l2.set (i + k) ((x + B + c) % 2), by omega, by go_num, by go_num, HS2, Lib.hid ((HC.out.drewN _).put HX.out), fun j => by simp [go_sem, hf], by simpa using hXl, Wb.ext_set (by (repeat' (first | (with_reducible assumption) | (with_reducible exact Wb.Ext.refl _) | (with_reducible refine Wb.Ext.drew ?_) | (with_reducible refine Wb.Ext.drewN ?_ _) | (with_reducible refine Wb.Ext.alloc ?_ _) | (with_reducible refine Wb.Ext.trans ?_ (by assumption))))) (show w.heap.size ≤ X from hXw) _⟩
      case measure => first | (simp [intOf]; done) | (simp [intOf]; omega)
theorem divided_any (a b d : Nat) (ha : a < 18446744073709551616) (hb : b < 18446744073709551616) (hd : 0 < d) (hd2 : d < 9223372036854775808) (w : World) :
    Calls Try.prog 56 #[.int .u64 a, .int .u64 b, .int .u64 d] w fun e w' => ∃ (q : Nat) (few : Bool), e = .returned (.tuple #[.int .u64 q, .int .u64 ((a * b % d : Nat) : Int), .bool few]) ∧ Wb.DvI d (a * b) q few ∧ q < 18446744073709551616 ∧ Wb.Ext w w' :=
  divided_of (fun a b w ha hb => product_any a b w ha hb) a b d ha hb hd hd2 w

end Go.Proofs.Ytheofklbmknipaa
