/- The walk of journal.Read. -/
import Derived.Test.YtokdmojbffnfgaaDoorJrn13
import Derived.Test.YtokdmojbffnfgaaDoorJLaw1
import Derived.Deep.RegionHeld3
import Derived.Deep.DrawnRows
import Derived.Deep.Cut
namespace Go.Proofs.YtokdmojbffnfgaaDoor
open Go.RowKit
set_option maxRecDepth 8000
attribute [local go_sem ↓] Go.wp_at_zero Go.wp_at_succ

theorem Wb.indexb_hit {c : UInt8} : ∀ {a b : List UInt8}, c ∉ a → Lib.indexByte (a ++ c :: b) c = a.length
  | [], b, _ => by simp [Lib.indexByte]
  | x :: a, b, h => by
    have hb : ¬ x = c := fun e => h (by simp [e])
    have ih := Wb.indexb_hit (c := c) (a := a) (b := b) fun e => h (List.mem_cons_of_mem _ e)
    have : ¬ (a.length : Int) = -1 := by omega
    simp [Lib.indexByte, hb, ih, this]
theorem idx_any (t : List UInt8) (w : World) : Calls Tryd.prog 33 #[.string (Wb.S t), .int .u8 10] w fun e w' => e = .returned (.int .i64 (Lib.indexByte t 10)) ∧ w = w' := by
  refine (Tryd.strings_IndexByte (Wb.S t) 10 w).mono ?_
  rintro e w' ⟨rfl, rfl⟩
  exact ⟨by rw [show (Wb.S t).data.toList = t by simp [Wb.S]]; rfl, rfl⟩
/-- where the program's reading stands -/
def PR (w wr : World) (s : List UInt8) (A : List (List UInt8)) (i m c : Nat) (ao : Option Addr) (t : List UInt8) : Prop :=
  Wb.okK 0 A ∧ s = Wb.textL A ++ t ∧ i = (Wb.textL A).length ∧ wr.cell? ⟨w.heap.size + 1, 0, none⟩ = some (.slice ao A.length c) ∧ wr.cell? ⟨w.heap.size + 1, 1, none⟩ = some (.int .u64 (m : Int)) ∧ (∀ j, wr.frozen? ⟨w.heap.size + 1, j, none⟩ = false) ∧
    wr.cell? ⟨w.heap.size, 0, none⟩ = some (.slice none 0 0) ∧ wr.cell? ⟨w.heap.size, 1, none⟩ = some (.int .u64 0) ∧ (∀ j, wr.frozen? ⟨w.heap.size, j, none⟩ = false) ∧ LogV wr (.agg #[.slice ao A.length c, .int .u64 (m : Int)]) A ∧ Wb.Ext w wr
/-- what a reading comes to -/
def PReadTo (w w' : World) (s : List UInt8) (e : Ending) : Prop :=
  ∃ (u : Value) (A : List (List UInt8)) (i : Nat) (z : Int), e = .returned (.tuple #[u, .int .i64 (i : Int), .int .i64 z]) ∧ i = (Wb.textL A).length ∧ LogV w' u A ∧ Wb.IsRead s A ∧ ((z = 0 ∧ s.length ≤ i) ∨ (z = 20 ∧ i < s.length)) ∧ Wb.Ext w w'

set_option maxHeartbeats 8000000 in
theorem read_any (s : List UInt8) (w : World) (hs : s.length ≤ 1000000) (ht : Tab10 w) (hm : MaxL w) :
    Calls Tryd.prog 20 #[.string (Wb.S s)] w fun e w' => PReadTo w w' s e := by
  have HT := Lib.hid ht
  have HMX := Lib.hid hm
  clear ht hm
  go_enter Tryd.func20, Tryd.ntmps20
  go_wp2_with fail
  go_loopw [6] (fun iv wr => ∃ (A : List (List UInt8)) (i m c : Nat) (ao : Option Addr) (t : List UInt8), i ≤ s.length ∧ iv = .int .i64 (i : Int) ∧ PR w wr s A i m c ao t) (fun iv _ => s.length - (intOf iv).toNat)
  case atStart => exact ⟨[], 0, 0, 0, none, s, by omega, rfl, trivial, by simp [Wb.textK_nil], by simp [Wb.textK_nil], by simp [go_sem], by simp [go_sem], fun j => by simp [go_sem], by simp [go_sem], by simp [go_sem], fun j => by simp [go_sem], LogV.zero, by (repeat' (first | (with_reducible assumption) | (with_reducible exact Wb.Ext.refl _) | (with_reducible refine Wb.Ext.drew ?_) | (with_reducible refine Wb.Ext.drewN ?_ _) | (with_reducible refine Wb.Ext.alloc ?_ _) | (with_reducible refine Wb.Ext.trans ?_ (by assumption))))⟩
  case round =>
    obtain ⟨A, i, m, c, ao, t, hil, rfl, hok, hst, hie, q0, q1, qf, p0, p1, pf, hlog, hx⟩ := hrel
    have HOK := Lib.hid hok
    have HST := Lib.hid hst
    have HIE := Lib.hid hie
    have HLOG := Lib.hid hlog
    have HX := Lib.hid hx
    have hAn := Wb.okK_le hok
    have hz := Wb.cell_size q0
    have hdt : (s.drop i).take (s.length - i) = t := by
      have : s.drop i = t := by rw [hst, hie, List.drop_left]
      rw [this]
      have : s.length - i = t.length := by rw [hst, hie, List.length_append]; omega
      rw [this, List.take_length]
    have htl : t.length + i = s.length := by rw [hst, hie, List.length_append]; omega
    clear hok hst hie hlog hx
    have hi1 : (i : Int) ≤ s.length := by omega
    have hi2 : (s.length : Int) ≤ 1000000 := by omega
    by_cases hlt : i < s.length
    · obtain ⟨q, hq⟩ : ∃ q, Lib.indexByte t 10 = q := ⟨_, rfl⟩
      have HQ := Lib.hid hq
      go_wp2_with fail
      go_fit (idx_any t _); rintro e w' ⟨rfl, rfl⟩
      rw [HQ.out]
      rcases Wb.first_of 10 t with h10 | ⟨ln, u, rfl, h10⟩
      · have HNX := Lib.hid (Wb.NoNext.none (A := A) h10)
        obtain rfl : q = -1 := by
          have h1 := index_mem t 10
          rw [hq] at h1
          have h2 := Lib.indexByte_ge t 10
          rw [hq] at h2
          by_cases h3 : 0 ≤ q
          · exact absurd (h1.1 h3) h10
          · omega
        clear h10 hq
        have HX3 := HX.out
        go_wp2
        refine bodyPost_ret (v := .tuple #[.agg #[.slice ao A.length c, .int .u64 (m : Int)], .int .i64 (i : Int), .int .i64 20]) (by simp [results, Tryd.results20, go_sem, p0, p1, pf, q0, q1]) rfl ⟨_, A, i, 20, rfl, HIE.out, ?_, ⟨HOK.out, t, HST.out, HNX.out⟩, .inr ⟨rfl, by omega⟩, ?_⟩
        · obtain ⟨x, m', he, hr, hm⟩ := HLOG.out
          cases he
          exact ⟨_, _, rfl, hr.set2 p0 _ _, hm⟩
        · exact Wb.ext_set (Wb.ext_set HX3 (Nat.le_refl _) _) (Nat.le_refl _) _
      · have H10 := Lib.hid h10
        obtain rfl : q = (ln.length : Int) := by
          rw [← hq]; exact Wb.indexb_hit h10
        have hsl : (s.drop i).take (i + ln.length - i) = ln := by
          have h1 : s.drop i = ln ++ 10 :: u := by rw [HST.out, HIE.out, List.drop_left]
          rw [h1, show i + ln.length - i = ln.length by omega, List.take_left]
        have hsl2 : (s.drop i).take ln.length = ln := by
          rw [show ln.length = i + ln.length - i by omega]; rw [show i + ln.length - i = i + ln.length - i from rfl] at hsl; exact hsl
        have hlu : i + (ln.length + 1) + u.length = s.length := by rw [← htl]; simp; omega
        have hw1 : IntKind.i64.wrap ((i : Int) + (ln.length : Int)) = (i : Int) + (ln.length : Int) := IntWalk.i64_in _ (by omega)
        have htn : ((i : Int) + (ln.length : Int)).toNat = i + ln.length := by omega
        have hb1 : (0 : Int) ≤ (i : Int) + (ln.length : Int) := by omega
        have hb2 : (i : Int) ≤ (i : Int) + (ln.length : Int) := by omega
        have hb3' : (i : Int) + (ln.length : Int) ≤ (s.length : Int) := by omega
        clear h10 htl hq hdt
        go_wp2_with fail
        refine wp_region_held_drew (S := (fun w' => w'.cell? ⟨w.heap.size + 1, 0, none⟩ = some (.slice ao A.length c) ∧ w'.cell? ⟨w.heap.size + 1, 1, none⟩ = some (.int .u64 (m : Int)))) (by kernel_rfl) ⟨q0, q1⟩ (fun hHeld => ?_)
        refine take_d (i := 0) (d := 23) (v := ?_) rfl rfl (by kernel_rfl) (by kernel_rfl) (by kernel_rfl) (fun _ _ _ h => h) (Or.inl ⟨by rfl, ?_⟩) (by assumption) ?_
        rotate_left
        · (intro w hSw; (try dsimp only at hSw); go_simp; (try with_reducible rfl))
        (try simp only [Act.put, List.setIfInBounds_toArray, List.set_cons_zero, List.set_cons_succ])
        refine take_d (i := 1) (d := 24) (v := ?_) rfl rfl (by kernel_rfl) (by kernel_rfl) (by kernel_rfl) (fun _ _ _ h => h) (Or.inl ⟨by rfl, ?_⟩) (by assumption) ?_
        rotate_left
        · (intro w hSw; (try dsimp only at hSw); go_simp; (try with_reducible rfl))
        (try simp only [Act.put, List.setIfInBounds_toArray, List.set_cons_zero, List.set_cons_succ])
        refine take_d (i := 2) (d := 25) (v := ?_) rfl rfl (by kernel_rfl) (by kernel_rfl) (by kernel_rfl) (fun _ _ _ h => h) (Or.inl ⟨by rfl, ?_⟩) (by assumption) ?_
        rotate_left
        · (intro w hSw; (try dsimp only at hSw); go_simp; (try with_reducible rfl))
        (try simp only [Act.put, List.setIfInBounds_toArray, List.set_cons_zero, List.set_cons_succ])
        refine take_d (i := 3) (d := 26) (v := ?_) rfl rfl (by kernel_rfl) (by kernel_rfl) (by kernel_rfl) (fun _ _ _ h => h) (Or.inl ⟨by rfl, ?_⟩) (by assumption) ?_
        rotate_left
        · (intro w hSw; (try dsimp only at hSw); go_simp; (try with_reducible rfl))
        (try simp only [Act.put, List.setIfInBounds_toArray, List.set_cons_zero, List.set_cons_succ])
        refine take_d (i := 4) (d := 27) (v := ?_) rfl rfl (by kernel_rfl) (by kernel_rfl) (by kernel_rfl) (fun _ _ _ h => h) (Or.inl ⟨by rfl, ?_⟩) (by assumption) ?_
        rotate_left
        · (intro w hSw; (try dsimp only at hSw); go_simp; (try with_reducible rfl))
        (try simp only [Act.put, List.setIfInBounds_toArray, List.set_cons_zero, List.set_cons_succ])
        refine take_d (i := 5) (d := 28) (v := ?_) rfl rfl (by kernel_rfl) (by kernel_rfl) (by kernel_rfl) (fun _ _ _ h => h) (Or.inl ⟨by rfl, ?_⟩) (by assumption) ?_
        rotate_left
        · (intro w hSw; (try dsimp only at hSw); go_simp; (try with_reducible rfl))
        (try simp only [Act.put, List.setIfInBounds_toArray, List.set_cons_zero, List.set_cons_succ])
        refine take_d (i := 6) (d := 29) (v := ?_) rfl rfl (by kernel_rfl) (by kernel_rfl) (by kernel_rfl) (fun _ _ _ h => h) (Or.inl ⟨by rfl, ?_⟩) (by assumption) ?_
        rotate_left
        · (intro w hSw; (try dsimp only at hSw); go_simp; (try with_reducible rfl))
        (try simp only [Act.put, List.setIfInBounds_toArray, List.set_cons_zero, List.set_cons_succ])
        refine wpAnyH_ready (rs := [7]) (by kernel_rfl) (by simp) ?_
        refine AllReadyH.cons (o := _) rfl (fun K hK => ?_) ?_
        · go_simp
          go_at_call 34
          go_fit (next_any (.slice ao A.length c) A m ln _ (HLOG.out.ext (by (repeat' (first | (with_reducible assumption) | (with_reducible exact Wb.Ext.refl _) | (with_reducible refine Wb.Ext.drew ?_) | (with_reducible refine Wb.Ext.drewN ?_ _) | (with_reducible refine Wb.Ext.alloc ?_ _) | (with_reducible refine Wb.Ext.trans ?_ (by assumption)))))) (by omega) (by omega) ((HT.out.ext HX.out).ext (by (repeat' (first | (with_reducible assumption) | (with_reducible exact Wb.Ext.refl _) | (with_reducible refine Wb.Ext.drew ?_) | (with_reducible refine Wb.Ext.drewN ?_ _) | (with_reducible refine Wb.Ext.alloc ?_ _) | (with_reducible refine Wb.Ext.trans ?_ (by assumption)))))) ((HMX.out.ext HX.out).ext (by (repeat' (first | (with_reducible assumption) | (with_reducible exact Wb.Ext.refl _) | (with_reducible refine Wb.Ext.drew ?_) | (with_reducible refine Wb.Ext.drewN ?_ _) | (with_reducible refine Wb.Ext.alloc ?_ _) | (with_reducible refine Wb.Ext.trans ?_ (by assumption)))))))
          rintro e w3 ⟨r, ok, rfl, hnx, hb3⟩
          have HNI := Lib.hid hnx
          clear hnx
          refine hK.out _ _ ⟨Wb.Ext.keep (w := wr) (by (repeat' (first | (with_reducible assumption) | (with_reducible exact Wb.Ext.refl _) | (with_reducible refine Wb.Ext.drew ?_) | (with_reducible refine Wb.Ext.drewN ?_ _) | (with_reducible refine Wb.Ext.alloc ?_ _) | (with_reducible refine Wb.Ext.trans ?_ (by assumption))))) q0, Wb.Ext.keep (w := wr) (by (repeat' (first | (with_reducible assumption) | (with_reducible exact Wb.Ext.refl _) | (with_reducible refine Wb.Ext.drew ?_) | (with_reducible refine Wb.Ext.drewN ?_ _) | (with_reducible refine Wb.Ext.alloc ?_ _) | (with_reducible refine Wb.Ext.trans ?_ (by assumption))))) q1⟩ (fun hHeld => ?_)
          clear hK K
          (try simp only [Act.put, List.setIfInBounds_toArray, List.set_cons_zero, List.set_cons_succ])
          refine take_d (i := 8) (d := 22) (v := ?_) rfl rfl (by kernel_rfl) (by kernel_rfl) (by kernel_rfl) (fun _ _ _ h => h) (Or.inl ⟨by rfl, ?_⟩) (by assumption) ?_
          rotate_left
          · (intro w hSw; (try dsimp only at hSw); go_simp; (try with_reducible rfl))
          (try simp only [Act.put, List.setIfInBounds_toArray, List.set_cons_zero, List.set_cons_succ])
          refine take_d (i := 9) (d := 31) (v := ?_) rfl rfl (by kernel_rfl) (by kernel_rfl) (by kernel_rfl) (fun _ _ _ h => h) (Or.inl ⟨by rfl, ?_⟩) (by assumption) ?_
          rotate_left
          · (intro w hSw; (try dsimp only at hSw); go_simp; (try with_reducible rfl))
          (try simp only [Act.put, List.setIfInBounds_toArray, List.set_cons_zero, List.set_cons_succ])
          refine take_d (i := 10) (d := 32) (v := ?_) rfl rfl (by kernel_rfl) (by kernel_rfl) (by kernel_rfl) (fun _ _ _ h => h) (Or.inl ⟨by rfl, ?_⟩) (by assumption) ?_
          rotate_left
          · (intro w hSw; (try dsimp only at hSw); go_simp; (try with_reducible rfl))
          (try simp only [Act.put, List.setIfInBounds_toArray, List.set_cons_zero, List.set_cons_succ])
          refine take_d (i := 11) (d := 8) (v := ?_) rfl rfl (by kernel_rfl) (by kernel_rfl) (by kernel_rfl) (fun _ _ _ h => h) (Or.inl ⟨by rfl, ?_⟩) (by assumption) ?_
          rotate_left
          · (intro w hSw; (try dsimp only at hSw); go_simp; (try with_reducible rfl))
          (try simp only [Act.put, List.setIfInBounds_toArray, List.set_cons_zero, List.set_cons_succ])
          refine take_d (i := 12) (d := 9) (v := ?_) rfl rfl (by kernel_rfl) (by kernel_rfl) (by kernel_rfl) (fun _ _ _ h => h) (Or.inl ⟨by rfl, ?_⟩) (by assumption) ?_
          rotate_left
          · (intro w hSw; (try dsimp only at hSw); go_simp; (try with_reducible rfl))
          (try simp only [Act.put, List.setIfInBounds_toArray, List.set_cons_zero, List.set_cons_succ])
          refine wpAnyH_done (by kernel_rfl) ?_ _
          cases ok
          · have HNX := Lib.hid (show Wb.NoNext A (ln ++ 10 :: u) from Wb.NoNext.line H10.out (HNI.out.2 rfl))
            have hx3 : Wb.Ext wr w3 := by (repeat' (first | (with_reducible assumption) | (with_reducible exact Wb.Ext.refl _) | (with_reducible refine Wb.Ext.drew ?_) | (with_reducible refine Wb.Ext.drewN ?_ _) | (with_reducible refine Wb.Ext.alloc ?_ _) | (with_reducible refine Wb.Ext.trans ?_ (by assumption))))
            have q0 := hx3.keep q0
            have q1 := hx3.keep q1
            have p0 := hx3.keep p0
            have p1 := hx3.keep p1
            have pf : ∀ j, w3.frozen? ⟨w.heap.size, j, none⟩ = false := fun j => (Below.frozen hx3 (show w.heap.size < wr.heap.size by omega)).trans (pf j)
            have HX3 := HX.out.trans hx3
            go_wp2
            refine bodyPost_ret (v := .tuple #[.agg #[.slice ao A.length c, .int .u64 (m : Int)], .int .i64 (i : Int), .int .i64 20]) (by simp [results, Tryd.results20, go_sem, p0, p1, pf, q0, q1]) rfl ⟨_, A, i, 20, rfl, HIE.out, ?_, ⟨HOK.out, _, HST.out, HNX.out⟩, .inr ⟨rfl, by omega⟩, ?_⟩
            · obtain ⟨x, m', he, hr, hm⟩ := HLOG.out.ext hx3
              cases he
              exact ⟨_, _, rfl, hr.set2 p0 _ _, hm⟩
            · exact Wb.ext_set (Wb.ext_set HX3 (Nat.le_refl _) _) (Nat.le_refl _) _
          · have HN2 := Lib.hid (HNI.out.1 rfl)
            have hx3 : Wb.Ext wr w3 := by (repeat' (first | (with_reducible assumption) | (with_reducible exact Wb.Ext.refl _) | (with_reducible refine Wb.Ext.drew ?_) | (with_reducible refine Wb.Ext.drewN ?_ _) | (with_reducible refine Wb.Ext.alloc ?_ _) | (with_reducible refine Wb.Ext.trans ?_ (by assumption))))
            have q0 := hx3.keep q0
            have q1 := hx3.keep q1
            have p0 := hx3.keep p0
            have p1 := hx3.keep p1
            have qf3 : ∀ j, w3.frozen? ⟨w.heap.size + 1, j, none⟩ = false := fun j => (Below.frozen hx3 (show w.heap.size + 1 < wr.heap.size by omega)).trans (qf j)
            have pf3 : ∀ j, w3.frozen? ⟨w.heap.size, j, none⟩ = false := fun j => (Below.frozen hx3 (show w.heap.size < wr.heap.size by omega)).trans (pf j)
            have hrl : r.length ≤ 4096 := HN2.out.1.2.1
            have hz3 := Wb.cell_size q0
            clear qf pf hb3
            go_wp2_with fail
            go_fit (append_ok2 _ A r _ (HLOG.out.ext hx3) (by omega) (by omega) HN2.out.1); rintro e w4 ⟨sv, m4, rfl, hu, hfr, hb4⟩
            obtain ⟨A2, hA2⟩ : ∃ A2, A ++ [r] = A2 := ⟨_, rfl⟩
            rw [hA2] at hu
            obtain ⟨sv', m4', hee, hr4, hm4⟩ := hu
            obtain ⟨rfl, rfl⟩ : sv = sv' ∧ m4 = m4' := by simp at hee; exact ⟨hee.1, by omega⟩
            obtain ⟨ao4, c4, rfl, _, _, _⟩ := hr4.shape
            have HR4 := Lib.hid hr4
            have HM4 := Lib.hid hm4
            have HA2 := Lib.hid hA2
            have q0 := hb4.keep q0
            have q1 := hb4.keep q1
            have p0 := hb4.keep p0
            have p1 := hb4.keep p1
            have qf4 : ∀ j, w4.frozen? ⟨w.heap.size + 1, j, none⟩ = false := fun j => (Below.frozen hb4 hz3).trans (qf3 j)
            have pf4 : ∀ j, w4.frozen? ⟨w.heap.size, j, none⟩ = false := fun j => (Below.frozen hb4 (show w.heap.size < w3.heap.size by omega)).trans (pf3 j)
            have hx4 := hx3.trans hb4
            clear hee hr4 hm4 hA2 hfr qf3 pf3 hb4 hx3
            go_upto_region 11 with (fail)
            refine Wb.wp_at fun w5 hw5 => ?_
            have q05 : w5.cell? ⟨w.heap.size + 1, 0, none⟩ = some (.slice ao4 A2.length c4) := by rw [hw5]; simp [go_sem, q0, q1, qf4]
            have q15 : w5.cell? ⟨w.heap.size + 1, 1, none⟩ = some (.int .u64 (m4 : Int)) := by rw [hw5]; simp [go_sem, q0, q1, qf4]
            have qf5 : ∀ j, w5.frozen? ⟨w.heap.size + 1, j, none⟩ = false := fun j => by rw [hw5]; simp [go_sem, qf4]
            have p05 : w5.cell? ⟨w.heap.size, 0, none⟩ = some (.slice none 0 0) := by rw [hw5]; simp [go_sem, p0]
            have p15 : w5.cell? ⟨w.heap.size, 1, none⟩ = some (.int .u64 0) := by rw [hw5]; simp [go_sem, p1]
            have pf5 : ∀ j, w5.frozen? ⟨w.heap.size, j, none⟩ = false := fun j => by rw [hw5]; simp [go_sem, pf4]
            have HR5 := Lib.hid (show Row38 w5 (.slice ao4 A2.length c4) A2 by rw [hw5]; exact HR4.out.set2 q0 _ _)
            have he5 : Wb.Ext w w5 := by rw [hw5]; exact Wb.ext_set (Wb.ext_set (HX.out.trans hx4) (by simp) _) (by simp) _
            clear hw5 q0 q1 p0 p1 qf4 pf4
            have HTX := Lib.hid (show Wb.textL A2 = Wb.textL A ++ (ln ++ [10]) by
              have := HN2.out.2
              rw [← HA2.out, Wb.textL_snoc, this])
            go_wp2
            go_roundw
            case rel =>
              refine ⟨A2, i + (ln.length + 1), m4, c4, ao4, u, by omega, by go_num, ?_, ?_, ?_, q05, q15, qf5, p05, p15, pf5, ⟨_, _, rfl, HR5.out, HM4.out⟩, he5⟩
              · rw [← HA2.out]; exact Wb.okK_snoc HOK.out HN2.out.1
              · rw [HTX.out, HST.out]; simp
              · rw [HTX.out, List.length_append, ← HIE.out]; simp
            case measure => simp [intOf]; omega
        exact AllReadyH.nil
    · have HNX := Lib.hid (show Wb.NoNext A t from Wb.NoNext.none (by
        have : t = [] := List.length_eq_zero_iff.1 (by omega)
        rw [this]; simp))
      have HX3 := HX.out
      go_wp2
      refine bodyPost_ret (v := .tuple #[.agg #[.slice ao A.length c, .int .u64 (m : Int)], .int .i64 (i : Int), .int .i64 0]) (by simp [results, Tryd.results20, go_sem, p0, p1, pf, q0, q1]) rfl ⟨_, A, i, 0, rfl, HIE.out, ?_, ⟨HOK.out, t, HST.out, HNX.out⟩, .inl ⟨rfl, by omega⟩, ?_⟩
      · obtain ⟨x, m', he, hr, hm⟩ := HLOG.out
        cases he
        exact ⟨_, _, rfl, hr.set2 p0 _ _, hm⟩
      · exact Wb.ext_set (Wb.ext_set HX3 (Nat.le_refl _) _) (Nat.le_refl _) _

end Go.Proofs.YtokdmojbffnfgaaDoor
