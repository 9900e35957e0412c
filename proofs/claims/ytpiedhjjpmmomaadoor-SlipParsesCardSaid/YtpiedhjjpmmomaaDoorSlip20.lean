/- Chapter 27: the program's number, head and read. -/
import Derived.Test.YtpiedhjjpmmomaaDoorPlain27q
import Derived.Test.YtpiedhjjpmmomaaDoorShelf
namespace Go.Proofs.YtpiedhjjpmmomaaDoor
open Go.RowKit
set_option maxRecDepth 4000

theorem xset {w w' : World} (h : Wb.Ext w w') {p : Addr} (hp : w.heap.size ≤ p.block) (u : Value) : Wb.Ext w (w'.setCell p u) := Below.setCell h hp u
/-- the library's variable that its search asks for -/
def MaxL (w : World) : Prop := ∃ m, w.cell? ⟨1, 0, none⟩ = some (.int .i64 m)
theorem MaxL.ext {w w' : World} (h : MaxL w) (k : Wb.Ext w w') : MaxL w' := h.imp fun _ h => k.keep h
theorem maxL_of {w : World} (h : w.ShapedOpen Tryd.prog) : MaxL w := Tryd.laysM146.s1_3 w h
/-- texts in memory, one behind the other -/
def Strs (w : World) (b off : Nat) (l : List (List UInt8)) : Prop := ∀ j a, l[j]? = some a → w.cell? ⟨b, off + j, none⟩ = some (.string (Wb.S a))
theorem Strs.ext {w w' : World} {b off : Nat} {l : List (List UInt8)} (h : Strs w b off l) (k : Wb.Ext w w') : Strs w' b off l := fun j a hj => k.keep (h j a hj)

theorem split_any (s : List UInt8) (c : UInt8) (w : World) (hm : MaxL w) (hs : s.length < 4294967281) :
    Calls Tryd.prog 38 #[.string (Wb.S s), .string (Wb.S [c])] w fun e w' => e = .returned (.slice (some ⟨w.heap.size, 0, none⟩) (Wb.splitOn c s).length (Wb.splitOn c s).length) ∧ Strs w' w.heap.size 0 (Wb.splitOn c s) ∧ Wb.Ext w w' := by
  obtain ⟨m, hm⟩ := hm
  have hsz : (Wb.S s).size < 4294967281 := by rw [Wb.S_size]; exact hs
  have h1 : 1 ≤ (Wb.S [c]).size := by rw [Wb.S_size]; simp
  refine (Go.Proofs.Any.strings_Split { Tryd.laysM146 with } Tryd.laysM146.i9 (Wb.S s) (Wb.S [c]) m w hsz hm h1).mono ?_
  rintro e w' ⟨rfl, rfl⟩
  rw [Wb.lib_split, Wb.lib_count, ← Wb.splitOn_len]
  refine ⟨rfl, fun j a hj => ?_, (Wb.Ext.refl w).alloc _⟩
  simp [go_sem, hj]
theorem cut_any (s : List UInt8) (c : UInt8) (w : World) (hm : MaxL w) (hs : s.length < 4294967281) :
    Calls Tryd.prog 52 #[.string (Wb.S s), .string (Wb.S [c])] w fun e w' => e = .returned (.tuple #[.string (Wb.S (Wb.cutOn c s).1), .string (Wb.S (Wb.cutOn c s).2.1), .bool (Wb.cutOn c s).2.2]) ∧ Wb.Ext w w' := by
  obtain ⟨m, hm⟩ := hm
  refine (Go.Proofs.Any.strings_Cut { Tryd.laysM145 with } (Wb.S s) (Wb.S [c]) m w (by rw [Wb.S_size]; exact hs) hm).mono ?_
  rintro e w' ⟨rfl, n, rfl⟩
  rw [show (Wb.S s).data.toList = s by simp [Wb.S], show (Wb.S [c]).data.toList = [c] by simp [Wb.S], Wb.lib_cut]
  exact ⟨rfl, (Wb.Ext.refl w).drewN n⟩
theorem trim_any (s p : List UInt8) (w : World) :
    Calls Tryd.prog 53 #[.string (Wb.S s), .string (Wb.S p)] w fun e w' => e = .returned (.string (Wb.S (Lib.trimPrefix s p))) ∧ w = w' := by
  refine (Tryd.strings_TrimPrefix (Wb.S s) (Wb.S p) w).mono ?_
  rintro e w' ⟨rfl, rfl⟩
  rw [show (Wb.S s).data.toList = s by simp [Wb.S], show (Wb.S p).data.toList = p by simp [Wb.S]]
  exact ⟨rfl, rfl⟩
theorem hasp_any (s p : List UInt8) (w : World) :
    Calls Tryd.prog 55 #[.string (Wb.S s), .string (Wb.S p)] w fun e w' => e = .returned (.bool (Lib.hasPrefix s p)) ∧ w = w' := by
  refine (Tryd.strings_HasPrefix (Wb.S s) (Wb.S p) w).mono ?_
  rintro e w' ⟨rfl, rfl⟩
  rw [show (Wb.S s).data.toList = s by simp [Wb.S], show (Wb.S p).data.toList = p by simp [Wb.S]]
  exact ⟨rfl, rfl⟩

/-- what 'number' comes to -/
def NumV (k : Nat) (s : List UInt8) : Value := .tuple #[.int .i64 (if Wb.numOk k s = true then (Wb.val s : Int) else 0), .bool (Wb.numOk k s)]
theorem numOk_bad {k j : Nat} {s : List UInt8} (hj : j < s.length) (h : Wb.isDg (Wb.byteAt s j) = false) : Wb.numOk k s = false := by
  cases hn : Wb.numOk k s with
  | false => rfl
  | true =>
    have := (Wb.numOk_iff.1 hn).2.2 _ (Wb.byteAt_mem hj)
    rw [Wb.isDg_iff.2 this] at h; cases h

set_option maxHeartbeats 1000000 in
theorem number_any (s : List UInt8) (k : Nat) (w : World) :
    Calls Tryd.prog 54 #[.string (Wb.S s), .int .i64 k] w fun e w' => e = .returned (NumV k s) ∧ Wb.Ext w w' := by
  by_cases h1 : s.length < k
  · have H := Lib.hid (show Wb.numOk k s = false by rw [Bool.eq_false_iff]; intro h; have := (Wb.numOk_iff.1 h).1; omega)
    have d1 : decide ((s.length : Int) < k) = true := by simp; omega
    go_enter Tryd.func54, Tryd.ntmps54
    go_wp2
    go_ret2
    exact ⟨by rw [NumV, H.out]; rfl, by (repeat' (first | (with_reducible assumption) | (with_reducible exact Wb.Ext.refl _) | (with_reducible refine Wb.Ext.drew ?_) | (with_reducible refine Wb.Ext.drewN ?_ _) | (with_reducible refine Wb.Ext.alloc ?_ _) | (with_reducible refine Wb.Ext.trans ?_ (by assumption))))⟩
  · have d1 : decide ((s.length : Int) < k) = false := by simp; omega
    have d1' : ¬ ((s.length : Int) < k) := by omega
    have d1n : decide (s.length < k) = false := by simp; omega
    by_cases h2 : 7 < s.length
    · have H := Lib.hid (show Wb.numOk k s = false by rw [Bool.eq_false_iff]; intro h; have := (Wb.numOk_iff.1 h).2.1; omega)
      have h2i : (7 : Int) < s.length := by omega
      go_enter Tryd.func54, Tryd.ntmps54
      go_wp2
      go_ret2
      exact ⟨by rw [NumV, H.out]; rfl, by (repeat' (first | (with_reducible assumption) | (with_reducible exact Wb.Ext.refl _) | (with_reducible refine Wb.Ext.drew ?_) | (with_reducible refine Wb.Ext.drewN ?_ _) | (with_reducible refine Wb.Ext.alloc ?_ _) | (with_reducible refine Wb.Ext.trans ?_ (by assumption))))⟩
    · have d2 : decide ((7 : Int) < s.length) = false := by simp; omega
      obtain ⟨w1, cap, hcv, hext, hcell⟩ := Wb.conv_bytes (P := Tryd.prog) w 9 90 5 s Tryd.underlying9 Tryd.underlying90 Tryd.underlying5
      have HC := Lib.hid hcell; clear hcell
      have HX := Lib.hid hext; clear hext
      go_enter Tryd.func54, Tryd.ntmps54
      go_wp2
      go_loop [6, 21] (fun n i => ∃ j : Nat, j ≤ s.length ∧ i = .int .i64 j ∧ n = .int .i64 (Wb.val (s.take j)) ∧ Wb.val (s.take j) < 10 ^ j ∧ ∀ b ∈ s.take j, Wb.Dg b) (fun _ i => s.length - (intOf i).toNat)
      case atStart => exact ⟨0, by omega, rfl, rfl, by simp [Wb.val], by simp⟩
      case round =>
        obtain ⟨j, hj, rfl, rfl, hv, hall⟩ := hrel
        have HA := Lib.hid hall; clear hall
        have hv7 : Wb.val (s.take j) < 10000000 := Nat.lt_of_lt_of_le hv (Nat.pow_le_pow_right (by omega) (show j ≤ 7 by omega))
        have HV := Lib.hid hv; clear hv
        by_cases hlt : j < s.length
        · have hcell := HC.out j hlt
          obtain ⟨b, hb⟩ : ∃ b, Wb.byteAt s j = b := ⟨_, rfl⟩
          have HTK := Lib.hid (Wb.take_byte hlt)
          rw [hb] at hcell HTK
          have hb8 : (b.toNat : Int) < 256 := by have := b.toNat_lt; omega
          by_cases h48 : (b.toNat : Int) < 48
          · have H := Lib.hid (numOk_bad (k := k) hlt (by rw [hb]; simp [Wb.isDg]; omega))
            clear hb
            go_wp2
            go_ret2
            exact ⟨by rw [NumV, H.out]; rfl, HX.out⟩
          · have d48 : decide ((b.toNat : Int) < 48) = false := by simpa using h48
            by_cases h57 : 57 < (b.toNat : Int)
            · have H := Lib.hid (numOk_bad (k := k) hlt (by rw [hb]; simp [Wb.isDg]; omega))
              clear hb
              go_wp2
              go_ret2
              exact ⟨by rw [NumV, H.out]; rfl, HX.out⟩
            · have d57 : decide (57 < (b.toNat : Int)) = false := by simpa using h57
              clear hb
              have HVS := Lib.hid (show ((Wb.val (s.take (j + 1)) : Nat) : Int) = 10 * (Wb.val (s.take j) : Int) + ((b.toNat : Int) - 48) by rw [HTK.out, Wb.val_snoc]; omega)
              have hdg : Wb.Dg b := ⟨by omega, by omega⟩
              have HDG := Lib.hid hdg; clear hdg
              have HP := Lib.hid (show Wb.val (s.take (j + 1)) < 10 ^ (j + 1) by have h1 := HVS.out; have h2 := HV.out; rw [Nat.pow_succ]; omega)
              go_wp2
              go_round
              case rel => exact ⟨j + 1, by omega, by go_num, by rw [HVS.out], HP.out, fun q hq => by rw [HTK.out] at hq; rcases List.mem_append.1 hq with hq | hq; exact HA.out q hq; simp at hq; rw [hq]; exact HDG.out⟩
              case measure => simp [intOf]; omega
        · have hje : j = s.length := by omega
          have H := Lib.hid (show Wb.numOk k s = true by rw [Wb.numOk_iff]; refine ⟨by omega, by omega, ?_⟩; have := HA.out; rwa [List.take_of_length_le (by omega)] at this)
          have HT := Lib.hid (show Wb.val (s.take j) = Wb.val s by rw [List.take_of_length_le (by omega)])
          clear hje
          go_wp2
          go_ret2
          exact ⟨by rw [NumV, H.out, if_pos rfl, HT.out]; rfl, HX.out⟩

/-- what 'head' comes to -/
def HeadV : Option (Int × Int) → Value
  | none => .tuple #[.agg #[.int .i64 0, .int .i64 0, .slice none 0 0], .bool false]
  | some p => .tuple #[.agg #[.int .i64 p.1, .int .i64 p.2, .slice none 0 0], .bool true]

set_option maxHeartbeats 2000000 in
theorem head_any (s : List UInt8) (hs : s.length < 4294967281) (w : World) (hm : MaxL w) :
    Calls Tryd.prog 39 #[.string (Wb.S s)] w fun e w' => e = .returned (HeadV (Wb.headOf s)) ∧ Wb.Ext w w' := by
  obtain ⟨r, hr⟩ : ∃ r, Lib.trimPrefix s Wb.slipW = r := ⟨_, rfl⟩
  have hrl : r.length < 4294967281 := by
    rw [← hr, Lib.trimPrefix]; split
    · simp; omega
    · exact hs
  obtain ⟨x, hx⟩ : ∃ x, Wb.cutOn 47 r = x := ⟨_, rfl⟩
  obtain ⟨a, b, ok⟩ := x
  have HP := Lib.hid (Wb.head_prog (s := s) (a := a) (b := b) (ok := ok) (by rw [hr]; exact hx))
  have HR := Lib.hid hr
  have HX := Lib.hid hx
  have HM := Lib.hid hm
  clear hr hx hm
  obtain ⟨n1, hn1⟩ : ∃ n, Wb.numOk 1 a = n := ⟨_, rfl⟩
  obtain ⟨n2, hn2⟩ : ∃ n, Wb.numOk 2 b = n := ⟨_, rfl⟩
  obtain ⟨hp, hhp⟩ : ∃ p, Lib.hasPrefix s Wb.slipW = p := ⟨_, rfl⟩
  have HN1 := Lib.hid hn1
  have HN2 := Lib.hid hn2
  have HHP := Lib.hid hhp
  clear hn1 hn2 hhp
  go_enter Tryd.func39, Tryd.ntmps39
  go_wp2_with fail
  refine (trim_any s Wb.slipW _).mono ?_; rintro e w' ⟨rfl, rfl⟩
  rw [HR.out]
  go_wp2_with fail
  refine (cut_any r 47 _ (HM.out.ext (by (repeat' (first | (with_reducible assumption) | (with_reducible exact Wb.Ext.refl _) | (with_reducible refine Wb.Ext.drew ?_) | (with_reducible refine Wb.Ext.drewN ?_ _) | (with_reducible refine Wb.Ext.alloc ?_ _) | (with_reducible refine Wb.Ext.trans ?_ (by assumption)))))) hrl).mono ?_; rintro e w1 ⟨rfl, hb1⟩
  rw [HX.out]
  have q0 : w1.cell? ⟨w.heap.size, 0, none⟩ = some (.int .i64 0) := hb1.keep (by simp [go_sem])
  have q1 : w1.cell? ⟨w.heap.size, 1, none⟩ = some (.int .i64 0) := hb1.keep (by simp [go_sem])
  have q2 : w1.cell? ⟨w.heap.size, 2, none⟩ = some (.slice none 0 0) := hb1.keep (by simp [go_sem])
  have qf : ∀ j, w1.frozen? ⟨w.heap.size, j, none⟩ = false := fun j => (Below.frozen hb1 (by simp)).trans (by simp [go_sem])
  have he1 : Wb.Ext w w1 := by (repeat' (first | (with_reducible assumption) | (with_reducible exact Wb.Ext.refl _) | (with_reducible refine Wb.Ext.drew ?_) | (with_reducible refine Wb.Ext.drewN ?_ _) | (with_reducible refine Wb.Ext.alloc ?_ _) | (with_reducible refine Wb.Ext.trans ?_ (by assumption))))
  clear hb1
  go_wp2_with fail
  refine (number_any a 1 _).mono ?_; rintro e w2 ⟨rfl, hb2⟩
  have q0 := hb2.keep q0
  have q1 := hb2.keep q1
  have q2 := hb2.keep q2
  have hz1 := Wb.cell_size q0
  have qf : ∀ j, w2.frozen? ⟨w.heap.size, j, none⟩ = false := fun j => (Below.frozen hb2 (by simp; exact Wb.cell_size (by assumption))).trans (qf j)
  have he2 : Wb.Ext w w2 := he1.trans hb2
  clear hb2
  rw [NumV, HN1.out]
  obtain ⟨v1, hv1⟩ : ∃ v : Int, (if n1 = true then (Wb.val a : Int) else 0) = v := ⟨_, rfl⟩
  rw [hv1]
  have HV1 := Lib.hid hv1
  clear hv1
  go_wp2_with fail
  refine (number_any b 2 _).mono ?_; rintro e w3 ⟨rfl, hb3⟩
  have q0 := hb3.keep q0
  have q1 := hb3.keep q1
  have q2 := hb3.keep q2
  have qf : ∀ j, w3.frozen? ⟨w.heap.size, j, none⟩ = false := fun j => (Below.frozen hb3 (by simp; omega)).trans (qf j)
  have he3 : Wb.Ext w w3 := he2.trans hb3
  clear hb3 he1 he2
  rw [NumV, HN2.out]
  obtain ⟨v2, hv2⟩ : ∃ v : Int, (if n2 = true then (Wb.val b : Int) else 0) = v := ⟨_, rfl⟩
  rw [hv2]
  have HV2 := Lib.hid hv2
  clear hv2
  cases ok
  case false =>
    have H := Lib.hid (show Wb.headOf s = none by rw [HP.out, if_neg (by simp)])
    go_wp2
    refine bodyPost_ret (v := .tuple #[.agg #[.int .i64 0, .int .i64 0, .slice none 0 0], .bool false]) (by simp [results, Tryd.results39, go_sem, q0, q1, q2]) rfl ⟨by rw [H.out]; rfl, xset (xset (xset he3 (by simp) _) (by simp) _) (by simp) _⟩
  cases n1
  case false =>
    have H := Lib.hid (show Wb.headOf s = none by rw [HP.out, HN1.out, if_neg (by simp)])
    go_wp2
    refine bodyPost_ret (v := .tuple #[.agg #[.int .i64 0, .int .i64 0, .slice none 0 0], .bool false]) (by simp [results, Tryd.results39, go_sem, q0, q1, q2]) rfl ⟨by rw [H.out]; rfl, xset (xset (xset he3 (by simp) _) (by simp) _) (by simp) _⟩
  cases n2
  case false =>
    have H := Lib.hid (show Wb.headOf s = none by rw [HP.out, HN2.out, if_neg (by simp)])
    go_wp2
    refine bodyPost_ret (v := .tuple #[.agg #[.int .i64 0, .int .i64 0, .slice none 0 0], .bool false]) (by simp [results, Tryd.results39, go_sem, q0, q1, q2]) rfl ⟨by rw [H.out]; rfl, xset (xset (xset he3 (by simp) _) (by simp) _) (by simp) _⟩
  have hv1 := HV1.out
  have hv2 := HV2.out
  rw [if_pos rfl] at hv1 hv2
  subst hv1 hv2
  clear HV1 HV2
  go_wp2_with fail
  refine (hasp_any s Wb.slipW _).mono ?_; rintro e w' ⟨rfl, rfl⟩
  rw [HHP.out]
  cases hp
  case false =>
    have H := Lib.hid (show Wb.headOf s = none by rw [HP.out, HHP.out, if_neg (by simp)])
    go_wp2
    refine bodyPost_ret (v := .tuple #[.agg #[.int .i64 0, .int .i64 0, .slice none 0 0], .bool false]) (by simp [results, Tryd.results39, go_sem, q0, q1, q2]) rfl ⟨by rw [H.out]; rfl, xset (xset (xset he3 (by simp) _) (by simp) _) (by simp) _⟩
  have la := (Wb.numOk_iff.1 HN1.out).1
  have lb := (Wb.numOk_iff.1 HN2.out).1
  have la7 := (Wb.numOk_iff.1 HN1.out).2.1
  have lb7 := (Wb.numOk_iff.1 HN2.out).2.1
  have HP2 := Lib.hid (show Wb.headOf s = if (a.length = 1 ∨ Wb.byteAt a 0 ≠ 48) ∧ (b.length = 2 ∨ Wb.byteAt b 0 ≠ 48) then some ((Wb.val a : Int), (Wb.val b : Int)) else none by rw [HP.out, HN1.out, HN2.out, HHP.out]; simp)
  clear HP
  have u48 : ∀ x : UInt8, ((x.toNat : Int) == 48) = false → x ≠ 48 := fun x h e => by subst e; simp at h
  have v48 : ∀ x : UInt8, ((x.toNat : Int) == 48) = true → x = 48 := fun x h => UInt8.toNat_inj.1 (by have h2 := beq_iff_eq.1 h; show x.toNat = 48; omega)
  have HU := Lib.hid u48
  have HV := Lib.hid v48
  clear u48 v48
  by_cases l1 : a.length = 1
  · have d1 : decide ((1 : Int) < a.length) = false := by simp; omega
    have HL1 := Lib.hid l1
    by_cases l2 : b.length = 2
    · have d2 : decide ((2 : Int) < b.length) = false := by simp; omega
      have HL2 := Lib.hid l2
      clear l1 l2
      have H := Lib.hid (show Wb.headOf s = some ((Wb.val a : Int), (Wb.val b : Int)) by rw [HP2.out, if_pos ⟨.inl HL1.out, .inl HL2.out⟩])
      go_wp2
      refine bodyPost_ret (v := .tuple #[.agg #[.int .i64 (Wb.val a), .int .i64 (Wb.val b), .slice none 0 0], .bool true]) (by simp [results, Tryd.results39, go_sem, q0, q1, q2]) rfl ⟨by rw [H.out]; rfl, xset (xset (xset he3 (by simp) _) (by simp) _) (by simp) _⟩
    · have d2 : (2 : Int) < b.length := by omega
      have HL2 := Lib.hid l2
      have hb0 : 0 < b.length := by omega
      clear l1 l2
      cases hz : (((Wb.byteAt b 0).toNat : Int) == 48)
      · have H := Lib.hid (show Wb.headOf s = some ((Wb.val a : Int), (Wb.val b : Int)) by rw [HP2.out, if_pos ⟨.inl HL1.out, .inr (HU.out _ hz)⟩])
        go_wp2
        refine bodyPost_ret (v := .tuple #[.agg #[.int .i64 (Wb.val a), .int .i64 (Wb.val b), .slice none 0 0], .bool true]) (by simp [results, Tryd.results39, go_sem, q0, q1, q2]) rfl ⟨by rw [H.out]; rfl, xset (xset (xset he3 (by simp) _) (by simp) _) (by simp) _⟩
      · have H := Lib.hid (show Wb.headOf s = none by rw [HP2.out, if_neg (fun h => h.2.elim HL2.out (fun k => k (HV.out _ hz)))])
        go_wp2
        refine bodyPost_ret (v := .tuple #[.agg #[.int .i64 0, .int .i64 0, .slice none 0 0], .bool false]) (by simp [results, Tryd.results39, go_sem, q0, q1, q2]) rfl ⟨by rw [H.out]; rfl, xset (xset (xset he3 (by simp) _) (by simp) _) (by simp) _⟩
  · have d1 : (1 : Int) < a.length := by omega
    have HL1 := Lib.hid l1
    have ha0 : 0 < a.length := by omega
    clear l1
    cases hz1 : (((Wb.byteAt a 0).toNat : Int) == 48)
    · have HZ1 := Lib.hid (HU.out _ hz1)
      by_cases l2 : b.length = 2
      · have d2 : decide ((2 : Int) < b.length) = false := by simp; omega
        have HL2 := Lib.hid l2
        clear l2
        have H := Lib.hid (show Wb.headOf s = some ((Wb.val a : Int), (Wb.val b : Int)) by rw [HP2.out, if_pos ⟨.inr HZ1.out, .inl HL2.out⟩])
        go_wp2
        refine bodyPost_ret (v := .tuple #[.agg #[.int .i64 (Wb.val a), .int .i64 (Wb.val b), .slice none 0 0], .bool true]) (by simp [results, Tryd.results39, go_sem, q0, q1, q2]) rfl ⟨by rw [H.out]; rfl, xset (xset (xset he3 (by simp) _) (by simp) _) (by simp) _⟩
      · have d2 : (2 : Int) < b.length := by omega
        have HL2 := Lib.hid l2
        have hb0 : 0 < b.length := by omega
        clear l2
        cases hz : (((Wb.byteAt b 0).toNat : Int) == 48)
        · have H := Lib.hid (show Wb.headOf s = some ((Wb.val a : Int), (Wb.val b : Int)) by rw [HP2.out, if_pos ⟨.inr HZ1.out, .inr (HU.out _ hz)⟩])
          go_wp2
          refine bodyPost_ret (v := .tuple #[.agg #[.int .i64 (Wb.val a), .int .i64 (Wb.val b), .slice none 0 0], .bool true]) (by simp [results, Tryd.results39, go_sem, q0, q1, q2]) rfl ⟨by rw [H.out]; rfl, xset (xset (xset he3 (by simp) _) (by simp) _) (by simp) _⟩
        · have H := Lib.hid (show Wb.headOf s = none by rw [HP2.out, if_neg (fun h => h.2.elim HL2.out (fun k => k (HV.out _ hz)))])
          go_wp2
          refine bodyPost_ret (v := .tuple #[.agg #[.int .i64 0, .int .i64 0, .slice none 0 0], .bool false]) (by simp [results, Tryd.results39, go_sem, q0, q1, q2]) rfl ⟨by rw [H.out]; rfl, xset (xset (xset he3 (by simp) _) (by simp) _) (by simp) _⟩
    · have H := Lib.hid (show Wb.headOf s = none by rw [HP2.out, if_neg (fun h => h.1.elim HL1.out (fun k => k (HV.out _ hz1)))])
      go_wp2
      refine bodyPost_ret (v := .tuple #[.agg #[.int .i64 0, .int .i64 0, .slice none 0 0], .bool false]) (by simp [results, Tryd.results39, go_sem, q0, q1, q2]) rfl ⟨by rw [H.out]; rfl, xset (xset (xset he3 (by simp) _) (by simp) _) (by simp) _⟩

end Go.Proofs.YtpiedhjjpmmomaaDoor
