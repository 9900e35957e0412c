/- The reference of package span: In, Any, is, Length, Days, Same. -/
import Derived.Test.YtdckghdmopafpaaSpn11
namespace Go.Proofs.Ytdckghdmopafpaa
open Go.RowKit Go.Lib
set_option maxRecDepth 8000
attribute [local go_sem ↓] Go.wp_at_zero Go.wp_at_succ

def inB (s : Wb.Sp) (d : Int) : Bool := decide (s.1 ≤ d) && decide (d < s.2)
theorem in_any (s : Wb.Sp) (d : Int) (w : World) :
    Calls Try.prog 46 #[SpV s, .int .i64 d] w fun e w' => e = .returned (.bool (inB s d)) ∧ Wb.Ext w w' := by
  obtain ⟨f, t⟩ := s
  by_cases h : f ≤ d
  · have H := Lib.hid (show decide (d < t) = inB (f, t) d by simp [inB, h])
    go_enter Try.func46, Try.ntmps46
    go_wp2
    go_ret
    exact ⟨Wb.ret_bool H.out, by (repeat' (first | (with_reducible assumption) | (with_reducible exact Wb.Ext.refl _) | (with_reducible refine Wb.Ext.drew ?_) | (with_reducible refine Wb.Ext.drewN ?_ _) | (with_reducible refine Wb.Ext.alloc ?_ _) | (with_reducible refine Wb.Ext.trans ?_ (by assumption))))⟩
  · have h1 : decide (f ≤ d) = false := by simpa using h
    have H := Lib.hid (show false = inB (f, t) d by simp only [inB, h1]; rfl)
    go_enter Try.func46, Try.ntmps46
    go_wp2
    go_ret
    exact ⟨Wb.ret_bool H.out, by (repeat' (first | (with_reducible assumption) | (with_reducible exact Wb.Ext.refl _) | (with_reducible refine Wb.Ext.drew ?_) | (with_reducible refine Wb.Ext.drewN ?_ _) | (with_reducible refine Wb.Ext.alloc ?_ _) | (with_reducible refine Wb.Ext.trans ?_ (by assumption))))⟩
theorem has_take {l : List Wb.Sp} {k : Nat} {s : Wb.Sp} {d : Int} (h : l[k]? = some s) : Wb.hasL (l.take (k + 1)) d = (Wb.hasL (l.take k) d || inB s d) := by
  obtain ⟨h1, rfl⟩ := List.getElem?_eq_some_iff.1 h
  rw [List.take_succ_eq_append_getElem h1, Wb.hasL, Wb.hasL, List.any_append]
  simp [inB]
theorem has_hit {l : List Wb.Sp} {k : Nat} {s : Wb.Sp} {d : Int} (h : l[k]? = some s) (hi : inB s d = true) : Wb.hasL l d = true := by
  simp [inB] at hi
  exact Wb.hasL_iff.2 ⟨s, List.mem_of_getElem? h, hi⟩
theorem rany_any (v : Value) (l : List Wb.Sp) (d : Int) (w : World) (hv : Spans w v l) (hl : l.length ≤ 1000000) :
    Calls Try.prog 23 #[v, .int .i64 d] w fun e w' => e = .returned (.bool (Wb.hasL l d)) ∧ Wb.Ext w w' := by
  obtain ⟨va, vc, rfl⟩ := hv.shape
  have HV := Lib.hid hv
  clear hv
  go_enter Try.func23, Try.ntmps23
  go_wp2_with fail
  go_loopw [5] (fun iv wr => ∃ k : Nat, k ≤ l.length ∧ iv = .int .i64 k ∧ Wb.hasL (l.take k) d = false ∧ Wb.Ext w wr) (fun iv _ => l.length - (intOf iv).toNat)
  case atStart => exact ⟨0, Nat.zero_le _, rfl, rfl, .refl _⟩
  case round =>
    obtain ⟨k, hk, rfl, hno, hext⟩ := hrel
    have HNO := Lib.hid hno
    clear hno
    by_cases hlt : k < l.length
    · obtain ⟨y, hy⟩ := Wb.get_ex hlt
      obtain ⟨b, off, rfl, hcells⟩ := (HV.out.ext hext).opened (tne hlt)
      have c0 := hcells _ y hy 0 _ rfl
      have c1 := hcells _ y hy 1 _ rfl
      have hki : (k : Int) < l.length := by omega
      have HY := Lib.hid hy
      clear hcells hy
      simp only [Nat.add_zero] at c0
      go_wp2_with fail
      go_fit (in_any y d _); rintro e w1 ⟨rfl, hb1⟩
      have HX := Lib.hid (hext.trans hb1)
      clear hb1
      cases hin : inB y d
      · have HN := Lib.hid (show Wb.hasL (l.take (k + 1)) d = false by rw [has_take HY.out, HNO.out, hin]; rfl)
        clear hin
        go_wp2
        go_roundw
        case rel => exact ⟨k + 1, by omega, by go_num, HN.out, HX.out⟩
        case measure => simp [intOf]; omega
      · have HN := Lib.hid (has_hit HY.out hin)
        clear hin
        go_wp2
        go_ret
        exact ⟨Wb.ret_bool HN.out.symm, HX.out⟩
    · obtain rfl : k = l.length := by omega
      rw [List.take_length] at HNO
      go_wp2
      go_ret
      exact ⟨Wb.ret_bool HNO.out.symm, hext⟩

/-- the ways of taking two sets together -/
def isB (n : Nat) (p q : Bool) : Bool := if n = 1 then p || q else if n = 2 then p && q else p && !q
theorem is_any (n : Nat) (hn : n = 1 ∨ n = 2 ∨ n = 3) (va vb : Value) (a b : List Wb.Sp) (d : Int) (w : World) (ha : Spans w va a) (hb : Spans w vb b) (hla : a.length ≤ 1000000) (hlb : b.length ≤ 1000000) :
    Calls Try.prog 41 #[va, vb, .int .i64 (n : Int), .int .i64 d] w fun e w' => e = .returned (.bool (isB n (Wb.hasL a d) (Wb.hasL b d))) ∧ Wb.Ext w w' := by
  have HA := Lib.hid ha
  have HB := Lib.hid hb
  obtain ⟨p, hp⟩ : ∃ p, Wb.hasL a d = p := ⟨_, rfl⟩
  obtain ⟨q, hq⟩ : ∃ q, Wb.hasL b d = q := ⟨_, rfl⟩
  have HP := Lib.hid hp
  have HQ := Lib.hid hq
  rw [hp, hq]
  clear ha hb hp hq
  rcases hn with rfl | rfl | rfl <;> cases p <;> cases q <;> (
    go_enter Try.func41, Try.ntmps41
    go_wp2_with fail
    go_fit (rany_any va a d _ HA.out hla); rintro e w1 ⟨rfl, hb1⟩
    rw [HP.out]
    go_wp2_with fail
    go_fit (rany_any vb b d _ (HB.out.ext (by (repeat' (first | (with_reducible assumption) | (with_reducible exact Wb.Ext.refl _) | (with_reducible refine Wb.Ext.drew ?_) | (with_reducible refine Wb.Ext.drewN ?_ _) | (with_reducible refine Wb.Ext.alloc ?_ _) | (with_reducible refine Wb.Ext.trans ?_ (by assumption)))))) hlb); rintro e w2 ⟨rfl, hb2⟩
    rw [HQ.out]
    go_wp2
    go_ret
    exact ⟨rfl, by (repeat' (first | (with_reducible assumption) | (with_reducible exact Wb.Ext.refl _) | (with_reducible refine Wb.Ext.drew ?_) | (with_reducible refine Wb.Ext.drewN ?_ _) | (with_reducible refine Wb.Ext.alloc ?_ _) | (with_reducible refine Wb.Ext.trans ?_ (by assumption))))⟩)

set_option maxHeartbeats 1000000 in
theorem rlen_any (s : Wb.Sp) (hb : Bd s) (w : World) :
    Calls Try.prog 26 #[SpV s] w fun e w' => e = .returned (.int .i64 (lenS s)) ∧ Wb.Ext w w' := by
  obtain ⟨f, t⟩ := s
  obtain ⟨⟨b1, b2⟩, b3, b4⟩ := hb
  simp only at b1 b2 b3 b4
  by_cases he : t ≤ f
  · have H := Lib.hid (show lenS (f, t) = 0 from if_pos he)
    have d : decide (t ≤ f) = true := by simpa using he
    go_enter Try.func26, Try.ntmps26
    go_wp2
    go_ret
    exact ⟨Wb.ret_int H.out.symm, by (repeat' (first | (with_reducible assumption) | (with_reducible exact Wb.Ext.refl _) | (with_reducible refine Wb.Ext.drew ?_) | (with_reducible refine Wb.Ext.drewN ?_ _) | (with_reducible refine Wb.Ext.alloc ?_ _) | (with_reducible refine Wb.Ext.trans ?_ (by assumption))))⟩
  · have H := Lib.hid (show lenS (f, t) = min (t - f) 4611686018427387904 from if_neg he)
    have d : decide (t ≤ f) = false := by simpa using he
    have e1 : IntKind.u64.wrap (IntKind.u64.wrap t - IntKind.u64.wrap f) = t - f := by
      rw [IntKind.wrap_u64, IntKind.wrap_u64, IntKind.wrap_u64]; omega
    by_cases hm : 4611686018427387904 < t - f
    · go_enter Try.func26, Try.ntmps26
      go_wp2
      go_ret
      exact ⟨Wb.ret_int (by rw [H.out]; omega), by (repeat' (first | (with_reducible assumption) | (with_reducible exact Wb.Ext.refl _) | (with_reducible refine Wb.Ext.drew ?_) | (with_reducible refine Wb.Ext.drewN ?_ _) | (with_reducible refine Wb.Ext.alloc ?_ _) | (with_reducible refine Wb.Ext.trans ?_ (by assumption))))⟩
    · have dm : decide (4611686018427387904 < t - f) = false := by simpa using hm
      have e2 : IntKind.i64.wrap (t - f) = t - f := IntWalk.i64_in _ (by omega)
      go_enter Try.func26, Try.ntmps26
      go_wp2
      go_ret
      exact ⟨Wb.ret_int (by rw [H.out]; omega), by (repeat' (first | (with_reducible assumption) | (with_reducible exact Wb.Ext.refl _) | (with_reducible refine Wb.Ext.drew ?_) | (with_reducible refine Wb.Ext.drewN ?_ _) | (with_reducible refine Wb.Ext.alloc ?_ _) | (with_reducible refine Wb.Ext.trans ?_ (by assumption))))⟩

end Go.Proofs.Ytdckghdmopafpaa
