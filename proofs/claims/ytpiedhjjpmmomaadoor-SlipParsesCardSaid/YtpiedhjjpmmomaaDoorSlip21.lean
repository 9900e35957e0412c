/- Chapter 27: the program's read. -/
import Derived.Test.YtpiedhjjpmmomaaDoorSlip20
namespace Go.Proofs.YtpiedhjjpmmomaaDoor
open Go.RowKit
set_option maxRecDepth 4000

/-- what 'read' comes to -/
def ReadPost (o : Option Wb.Ln) (w : World) (e : Ending) (w' : World) : Prop :=
  (match o with
    | some x => e = .returned (.tuple #[LnV x, .bool true])
    | none => ∃ (p : Int) (c : List UInt8) (n : Int), e = .returned (.tuple #[.agg #[.int .i64 p, .string (Wb.S c), .int .i64 n], .bool false])) ∧ Wb.Ext w w'
theorem readPost_none {o : Option Wb.Ln} {w w' : World} {e : Ending} (h : o = none) (p : Int) (c : List UInt8) (n : Int) (he : e = .returned (.tuple #[.agg #[.int .i64 p, .string (Wb.S c), .int .i64 n], .bool false])) (hb : Wb.Ext w w') : ReadPost o w e w' := by
  subst h; exact ⟨⟨p, c, n, he⟩, hb⟩
theorem readPost_some {o : Option Wb.Ln} {w w' : World} {e : Ending} {x : Wb.Ln} (h : o = some x) (he : e = .returned (.tuple #[LnV x, .bool true])) (hb : Wb.Ext w w') : ReadPost o w e w' := by
  subst h; exact ⟨he, hb⟩
theorem readOf_not {s : List UInt8} (h : (Wb.splitOn 32 s).length ≠ 3) : Wb.readOf s = none := by
  unfold Wb.readOf
  split
  · rename_i hs; rw [hs] at h; exact absurd rfl h
  · rfl
theorem readOf_three {s a b c : List UInt8} (h : Wb.splitOn 32 s = [a, b, c]) : Wb.readOf s = if b = [] then none else match Wb.wordIx a with
    | none => none
    | some k => if (Wb.parse c).2 = 0 then some ⟨k, b, (Wb.parse c).1⟩ else none := by
  unfold Wb.readOf; rw [h]; rfl
theorem wordIx_here {a : List UInt8} {k : Nat} (hk : k < 7) (h : wordsL[k]? = some a) : Wb.wordIx a = some k := by
  have e : wordOf (k : Int) = a := by simp [wordOf, List.getD, h]
  rw [← e]; exact Wb.wordIx_word hk
theorem wordIx_none {a : List UInt8} (h : ∀ j, j < 7 → wordsL[j]? ≠ some a) : Wb.wordIx a = none := by
  cases hw : Wb.wordIx a with
  | none => rfl
  | some k => exact absurd (Wb.wordIx_of hw).2 (h k (Wb.wordIx_of hw).1)
theorem no_next {a : List UInt8} {k : Nat} {s : List UInt8} (h : ∀ j, j < k → wordsL[j]? ≠ some a) (hk : wordsL[k]? = some s) (hs : ¬ s = a) : ∀ j, j < k + 1 → wordsL[j]? ≠ some a := by
  intro j hj
  by_cases hjk : j < k
  · exact h j hjk
  · obtain rfl : j = k := by omega
    rw [hk]; intro e; exact hs (Option.some.inj e)

set_option maxHeartbeats 4000000 in
theorem read_any (s : List UInt8) (hs : s.length < 4294967281) (w : World) (hm : MaxL w) (hw : Words w) :
    Calls Tryd.prog 40 #[.string (Wb.S s)] w (ReadPost (Wb.readOf s) w) := by
  have HM := Lib.hid hm
  have HW := Lib.hid hw
  clear hm hw
  obtain ⟨L, hL⟩ : ∃ L, Wb.splitOn 32 s = L := ⟨_, rfl⟩
  have HLE := Lib.hid (show ∀ a ∈ L, a.length < 4294967281 from fun a ha => by have := Wb.splitOn_le (c := 32) (l := s) (a := a) (by rw [hL]; exact ha); omega)
  have HL := Lib.hid hL
  clear hL
  go_enter Tryd.func40, Tryd.ntmps40
  go_wp2_with fail
  refine (split_any s 32 _ (HM.out.ext (by (repeat' (first | (with_reducible assumption) | (with_reducible exact Wb.Ext.refl _) | (with_reducible refine Wb.Ext.drew ?_) | (with_reducible refine Wb.Ext.drewN ?_ _) | (with_reducible refine Wb.Ext.alloc ?_ _) | (with_reducible refine Wb.Ext.trans ?_ (by assumption)))))) hs).mono ?_; rintro e w1 ⟨rfl, hst, hb1⟩
  rw [HL.out] at hst ⊢
  have he1 : Wb.Ext w w1 := by (repeat' (first | (with_reducible assumption) | (with_reducible exact Wb.Ext.refl _) | (with_reducible refine Wb.Ext.drew ?_) | (with_reducible refine Wb.Ext.drewN ?_ _) | (with_reducible refine Wb.Ext.alloc ?_ _) | (with_reducible refine Wb.Ext.trans ?_ (by assumption))))
  have q0 : w1.cell? ⟨w.heap.size, 0, none⟩ = some (.int .i64 0) := hb1.keep (by simp [go_sem])
  have q1 : w1.cell? ⟨w.heap.size, 1, none⟩ = some (.string ⟨#[]⟩) := hb1.keep (by simp [go_sem])
  have q2 : w1.cell? ⟨w.heap.size, 2, none⟩ = some (.int .i64 0) := hb1.keep (by simp [go_sem])
  have qf : ∀ j, w1.frozen? ⟨w.heap.size, j, none⟩ = false := fun j => (Below.frozen hb1 (by simp)).trans (by simp [go_sem])
  have hz1 := Wb.cell_size q0
  clear hb1
  by_cases h3 : L.length = 3
  · obtain ⟨a, b, c, rfl⟩ : ∃ a b c, L = [a, b, c] := by
      match L, h3 with
      | [a, b, c], _ => exact ⟨a, b, c, rfl⟩
    have sa : w1.cell? ⟨w.heap.size + 1, 0, none⟩ = some (.string (Wb.S a)) := by have := hst 0 a rfl; simpa using this
    have sb : w1.cell? ⟨w.heap.size + 1, 1, none⟩ = some (.string (Wb.S b)) := by have := hst 1 b rfl; simpa using this
    have sc : w1.cell? ⟨w.heap.size + 1, 2, none⟩ = some (.string (Wb.S c)) := by have := hst 2 c rfl; simpa using this
    clear hst h3
    have hla := HLE.out a (by simp)
    have hlb := HLE.out b (by simp)
    have hlc := HLE.out c (by simp)
    have HRO := Lib.hid (readOf_three HL.out)
    clear HLE
    simp only [List.length_cons, List.length_nil]
    by_cases hb : b = []
    · have H := Lib.hid (show Wb.readOf s = none by rw [HRO.out, if_pos hb])
      subst hb
      go_wp2
      refine bodyPost_ret (v := .tuple #[.agg #[.int .i64 0, .string ⟨#[]⟩, .int .i64 0], .bool false]) (by simp [results, Tryd.results40, go_sem, q0, q1, q2]) rfl (readPost_none H.out 0 [] 0 rfl (xset (xset (xset he1 (by simp) _) (by simp) _) (by simp) _))
    · have hbe : b.isEmpty = false := by simpa using hb
      have hbe2 : (b == []) = false := by simpa using hb
      have HRO2 := Lib.hid (show Wb.readOf s = match Wb.wordIx a with
        | none => none
        | some k => if (Wb.parse c).2 = 0 then some ⟨k, b, (Wb.parse c).1⟩ else none by rw [HRO.out, if_neg hb])
      clear hb
      obtain ⟨pc, hpc⟩ : ∃ p, Wb.parse c = p := ⟨_, rfl⟩
      obtain ⟨pv, pe⟩ := pc
      have HPC := Lib.hid hpc
      clear hpc HRO
      have d0 : w1.cell? ⟨0, 0, none⟩ = some (.string (Wb.S [103, 114, 111, 115, 115])) := HW.out.ext he1 0 _ rfl
      have d1 : w1.cell? ⟨0, 1, none⟩ = some (.string (Wb.S [98, 101, 102, 111, 114, 101])) := HW.out.ext he1 1 _ rfl
      have d2 : w1.cell? ⟨0, 2, none⟩ = some (.string (Wb.S [119, 111, 114, 107, 101, 114])) := HW.out.ext he1 2 _ rfl
      have d3 : w1.cell? ⟨0, 3, none⟩ = some (.string (Wb.S [116, 97, 120])) := HW.out.ext he1 3 _ rfl
      have d4 : w1.cell? ⟨0, 4, none⟩ = some (.string (Wb.S [97, 102, 116, 101, 114])) := HW.out.ext he1 4 _ rfl
      have d5 : w1.cell? ⟨0, 5, none⟩ = some (.string (Wb.S [111, 114, 100, 101, 114, 115])) := HW.out.ext he1 5 _ rfl
      have d6 : w1.cell? ⟨0, 6, none⟩ = some (.string (Wb.S [102, 105, 114, 109])) := HW.out.ext he1 6 _ rfl
      have hz0 := Wb.cell_size d0
      go_wp2_with (go_at_call 56; refine (parse_any c (by omega) _).mono ?_; rintro e w' ⟨rfl, rfl⟩; rw [HPC.out])
      go_loop [29] (fun i => ∃ k : Nat, k ≤ 7 ∧ i = .int .i64 k ∧ ∀ j, j < k → wordsL[j]? ≠ some a) (fun i => 7 - (intOf i).toNat)
      case atStart => exact ⟨0, by omega, rfl, by intro j hj; omega⟩
      case round =>
        obtain ⟨k, hk, rfl, hno⟩ := hrel
        have HNO := Lib.hid hno; clear hno
        have hk8 : k = 0 ∨ k = 1 ∨ k = 2 ∨ k = 3 ∨ k = 4 ∨ k = 5 ∨ k = 6 ∨ k = 7 := by omega
        rcases hk8 with rfl | rfl | rfl | rfl | rfl | rfl | rfl | rfl
        · rw [show ((0 : Nat) : Int) = 0 from rfl]
          have ik : ∀ w : World, (Instr.index 75 (.agg #[.string (Wb.S [103, 114, 111, 115, 115]), .string (Wb.S [98, 101, 102, 111, 114, 101]), .string (Wb.S [119, 111, 114, 107, 101, 114]), .string (Wb.S [116, 97, 120]), .string (Wb.S [97, 102, 116, 101, 114]), .string (Wb.S [111, 114, 100, 101, 114, 115]), .string (Wb.S [102, 105, 114, 109])]) (.int .i64 0)).run Tryd.prog w = .ok (.string (Wb.S [103, 114, 111, 115, 115])) w := fun _ => by kernel_rfl
          cases hq : (([103, 114, 111, 115, 115] : List UInt8) == a)
          · have HNX := Lib.hid (no_next HNO.out (k := 0) (s := [103, 114, 111, 115, 115]) rfl (by simpa using hq))
            go_wp2
            go_round
            case rel => exact ⟨0 + 1, by omega, by go_num, HNX.out⟩
            case measure => simp [intOf]
          · have HX := Lib.hid (wordIx_here (a := a) (k := 0) (by decide) (congrArg some (beq_iff_eq.1 hq)))
            cases hpe : (pe == 0)
            · have H := Lib.hid (show Wb.readOf s = none by rw [HRO2.out, HX.out]; simp only; rw [HPC.out, if_neg (by simpa using hpe)])
              go_wp2
              refine bodyPost_ret (v := .tuple #[.agg #[.int .i64 0, .string (Wb.S b), .int .i64 pv], .bool false]) (by simp [results, Tryd.results40, go_sem, q0, q1, q2]) rfl (readPost_none H.out _ _ _ rfl (xset (xset (xset he1 (by simp) _) (by simp) _) (by simp) _))
            · have H := Lib.hid (show Wb.readOf s = some ⟨0, b, pv⟩ by rw [HRO2.out, HX.out]; simp only; rw [HPC.out, if_pos (by simpa using hpe)]; rfl)
              go_wp2
              refine bodyPost_ret (v := .tuple #[.agg #[.int .i64 0, .string (Wb.S b), .int .i64 pv], .bool true]) (by simp [results, Tryd.results40, go_sem, q0, q1, q2]) rfl (readPost_some H.out rfl (xset (xset (xset he1 (by simp) _) (by simp) _) (by simp) _))
        · rw [show ((1 : Nat) : Int) = 1 from rfl]
          have ik : ∀ w : World, (Instr.index 75 (.agg #[.string (Wb.S [103, 114, 111, 115, 115]), .string (Wb.S [98, 101, 102, 111, 114, 101]), .string (Wb.S [119, 111, 114, 107, 101, 114]), .string (Wb.S [116, 97, 120]), .string (Wb.S [97, 102, 116, 101, 114]), .string (Wb.S [111, 114, 100, 101, 114, 115]), .string (Wb.S [102, 105, 114, 109])]) (.int .i64 1)).run Tryd.prog w = .ok (.string (Wb.S [98, 101, 102, 111, 114, 101])) w := fun _ => by kernel_rfl
          cases hq : (([98, 101, 102, 111, 114, 101] : List UInt8) == a)
          · have HNX := Lib.hid (no_next HNO.out (k := 1) (s := [98, 101, 102, 111, 114, 101]) rfl (by simpa using hq))
            go_wp2
            go_round
            case rel => exact ⟨1 + 1, by omega, by go_num, HNX.out⟩
            case measure => simp [intOf]
          · have HX := Lib.hid (wordIx_here (a := a) (k := 1) (by decide) (congrArg some (beq_iff_eq.1 hq)))
            cases hpe : (pe == 0)
            · have H := Lib.hid (show Wb.readOf s = none by rw [HRO2.out, HX.out]; simp only; rw [HPC.out, if_neg (by simpa using hpe)])
              go_wp2
              refine bodyPost_ret (v := .tuple #[.agg #[.int .i64 1, .string (Wb.S b), .int .i64 pv], .bool false]) (by simp [results, Tryd.results40, go_sem, q0, q1, q2]) rfl (readPost_none H.out _ _ _ rfl (xset (xset (xset he1 (by simp) _) (by simp) _) (by simp) _))
            · have H := Lib.hid (show Wb.readOf s = some ⟨1, b, pv⟩ by rw [HRO2.out, HX.out]; simp only; rw [HPC.out, if_pos (by simpa using hpe)]; rfl)
              go_wp2
              refine bodyPost_ret (v := .tuple #[.agg #[.int .i64 1, .string (Wb.S b), .int .i64 pv], .bool true]) (by simp [results, Tryd.results40, go_sem, q0, q1, q2]) rfl (readPost_some H.out rfl (xset (xset (xset he1 (by simp) _) (by simp) _) (by simp) _))
        · rw [show ((2 : Nat) : Int) = 2 from rfl]
          have ik : ∀ w : World, (Instr.index 75 (.agg #[.string (Wb.S [103, 114, 111, 115, 115]), .string (Wb.S [98, 101, 102, 111, 114, 101]), .string (Wb.S [119, 111, 114, 107, 101, 114]), .string (Wb.S [116, 97, 120]), .string (Wb.S [97, 102, 116, 101, 114]), .string (Wb.S [111, 114, 100, 101, 114, 115]), .string (Wb.S [102, 105, 114, 109])]) (.int .i64 2)).run Tryd.prog w = .ok (.string (Wb.S [119, 111, 114, 107, 101, 114])) w := fun _ => by kernel_rfl
          cases hq : (([119, 111, 114, 107, 101, 114] : List UInt8) == a)
          · have HNX := Lib.hid (no_next HNO.out (k := 2) (s := [119, 111, 114, 107, 101, 114]) rfl (by simpa using hq))
            go_wp2
            go_round
            case rel => exact ⟨2 + 1, by omega, by go_num, HNX.out⟩
            case measure => simp [intOf]
          · have HX := Lib.hid (wordIx_here (a := a) (k := 2) (by decide) (congrArg some (beq_iff_eq.1 hq)))
            cases hpe : (pe == 0)
            · have H := Lib.hid (show Wb.readOf s = none by rw [HRO2.out, HX.out]; simp only; rw [HPC.out, if_neg (by simpa using hpe)])
              go_wp2
              refine bodyPost_ret (v := .tuple #[.agg #[.int .i64 2, .string (Wb.S b), .int .i64 pv], .bool false]) (by simp [results, Tryd.results40, go_sem, q0, q1, q2]) rfl (readPost_none H.out _ _ _ rfl (xset (xset (xset he1 (by simp) _) (by simp) _) (by simp) _))
            · have H := Lib.hid (show Wb.readOf s = some ⟨2, b, pv⟩ by rw [HRO2.out, HX.out]; simp only; rw [HPC.out, if_pos (by simpa using hpe)]; rfl)
              go_wp2
              refine bodyPost_ret (v := .tuple #[.agg #[.int .i64 2, .string (Wb.S b), .int .i64 pv], .bool true]) (by simp [results, Tryd.results40, go_sem, q0, q1, q2]) rfl (readPost_some H.out rfl (xset (xset (xset he1 (by simp) _) (by simp) _) (by simp) _))
        · rw [show ((3 : Nat) : Int) = 3 from rfl]
          have ik : ∀ w : World, (Instr.index 75 (.agg #[.string (Wb.S [103, 114, 111, 115, 115]), .string (Wb.S [98, 101, 102, 111, 114, 101]), .string (Wb.S [119, 111, 114, 107, 101, 114]), .string (Wb.S [116, 97, 120]), .string (Wb.S [97, 102, 116, 101, 114]), .string (Wb.S [111, 114, 100, 101, 114, 115]), .string (Wb.S [102, 105, 114, 109])]) (.int .i64 3)).run Tryd.prog w = .ok (.string (Wb.S [116, 97, 120])) w := fun _ => by kernel_rfl
          cases hq : (([116, 97, 120] : List UInt8) == a)
          · have HNX := Lib.hid (no_next HNO.out (k := 3) (s := [116, 97, 120]) rfl (by simpa using hq))
            go_wp2
            go_round
            case rel => exact ⟨3 + 1, by omega, by go_num, HNX.out⟩
            case measure => simp [intOf]
          · have HX := Lib.hid (wordIx_here (a := a) (k := 3) (by decide) (congrArg some (beq_iff_eq.1 hq)))
            cases hpe : (pe == 0)
            · have H := Lib.hid (show Wb.readOf s = none by rw [HRO2.out, HX.out]; simp only; rw [HPC.out, if_neg (by simpa using hpe)])
              go_wp2
              refine bodyPost_ret (v := .tuple #[.agg #[.int .i64 3, .string (Wb.S b), .int .i64 pv], .bool false]) (by simp [results, Tryd.results40, go_sem, q0, q1, q2]) rfl (readPost_none H.out _ _ _ rfl (xset (xset (xset he1 (by simp) _) (by simp) _) (by simp) _))
            · have H := Lib.hid (show Wb.readOf s = some ⟨3, b, pv⟩ by rw [HRO2.out, HX.out]; simp only; rw [HPC.out, if_pos (by simpa using hpe)]; rfl)
              go_wp2
              refine bodyPost_ret (v := .tuple #[.agg #[.int .i64 3, .string (Wb.S b), .int .i64 pv], .bool true]) (by simp [results, Tryd.results40, go_sem, q0, q1, q2]) rfl (readPost_some H.out rfl (xset (xset (xset he1 (by simp) _) (by simp) _) (by simp) _))
        · rw [show ((4 : Nat) : Int) = 4 from rfl]
          have ik : ∀ w : World, (Instr.index 75 (.agg #[.string (Wb.S [103, 114, 111, 115, 115]), .string (Wb.S [98, 101, 102, 111, 114, 101]), .string (Wb.S [119, 111, 114, 107, 101, 114]), .string (Wb.S [116, 97, 120]), .string (Wb.S [97, 102, 116, 101, 114]), .string (Wb.S [111, 114, 100, 101, 114, 115]), .string (Wb.S [102, 105, 114, 109])]) (.int .i64 4)).run Tryd.prog w = .ok (.string (Wb.S [97, 102, 116, 101, 114])) w := fun _ => by kernel_rfl
          cases hq : (([97, 102, 116, 101, 114] : List UInt8) == a)
          · have HNX := Lib.hid (no_next HNO.out (k := 4) (s := [97, 102, 116, 101, 114]) rfl (by simpa using hq))
            go_wp2
            go_round
            case rel => exact ⟨4 + 1, by omega, by go_num, HNX.out⟩
            case measure => simp [intOf]
          · have HX := Lib.hid (wordIx_here (a := a) (k := 4) (by decide) (congrArg some (beq_iff_eq.1 hq)))
            cases hpe : (pe == 0)
            · have H := Lib.hid (show Wb.readOf s = none by rw [HRO2.out, HX.out]; simp only; rw [HPC.out, if_neg (by simpa using hpe)])
              go_wp2
              refine bodyPost_ret (v := .tuple #[.agg #[.int .i64 4, .string (Wb.S b), .int .i64 pv], .bool false]) (by simp [results, Tryd.results40, go_sem, q0, q1, q2]) rfl (readPost_none H.out _ _ _ rfl (xset (xset (xset he1 (by simp) _) (by simp) _) (by simp) _))
            · have H := Lib.hid (show Wb.readOf s = some ⟨4, b, pv⟩ by rw [HRO2.out, HX.out]; simp only; rw [HPC.out, if_pos (by simpa using hpe)]; rfl)
              go_wp2
              refine bodyPost_ret (v := .tuple #[.agg #[.int .i64 4, .string (Wb.S b), .int .i64 pv], .bool true]) (by simp [results, Tryd.results40, go_sem, q0, q1, q2]) rfl (readPost_some H.out rfl (xset (xset (xset he1 (by simp) _) (by simp) _) (by simp) _))
        · rw [show ((5 : Nat) : Int) = 5 from rfl]
          have ik : ∀ w : World, (Instr.index 75 (.agg #[.string (Wb.S [103, 114, 111, 115, 115]), .string (Wb.S [98, 101, 102, 111, 114, 101]), .string (Wb.S [119, 111, 114, 107, 101, 114]), .string (Wb.S [116, 97, 120]), .string (Wb.S [97, 102, 116, 101, 114]), .string (Wb.S [111, 114, 100, 101, 114, 115]), .string (Wb.S [102, 105, 114, 109])]) (.int .i64 5)).run Tryd.prog w = .ok (.string (Wb.S [111, 114, 100, 101, 114, 115])) w := fun _ => by kernel_rfl
          cases hq : (([111, 114, 100, 101, 114, 115] : List UInt8) == a)
          · have HNX := Lib.hid (no_next HNO.out (k := 5) (s := [111, 114, 100, 101, 114, 115]) rfl (by simpa using hq))
            go_wp2
            go_round
            case rel => exact ⟨5 + 1, by omega, by go_num, HNX.out⟩
            case measure => simp [intOf]
          · have HX := Lib.hid (wordIx_here (a := a) (k := 5) (by decide) (congrArg some (beq_iff_eq.1 hq)))
            cases hpe : (pe == 0)
            · have H := Lib.hid (show Wb.readOf s = none by rw [HRO2.out, HX.out]; simp only; rw [HPC.out, if_neg (by simpa using hpe)])
              go_wp2
              refine bodyPost_ret (v := .tuple #[.agg #[.int .i64 5, .string (Wb.S b), .int .i64 pv], .bool false]) (by simp [results, Tryd.results40, go_sem, q0, q1, q2]) rfl (readPost_none H.out _ _ _ rfl (xset (xset (xset he1 (by simp) _) (by simp) _) (by simp) _))
            · have H := Lib.hid (show Wb.readOf s = some ⟨5, b, pv⟩ by rw [HRO2.out, HX.out]; simp only; rw [HPC.out, if_pos (by simpa using hpe)]; rfl)
              go_wp2
              refine bodyPost_ret (v := .tuple #[.agg #[.int .i64 5, .string (Wb.S b), .int .i64 pv], .bool true]) (by simp [results, Tryd.results40, go_sem, q0, q1, q2]) rfl (readPost_some H.out rfl (xset (xset (xset he1 (by simp) _) (by simp) _) (by simp) _))
        · rw [show ((6 : Nat) : Int) = 6 from rfl]
          have ik : ∀ w : World, (Instr.index 75 (.agg #[.string (Wb.S [103, 114, 111, 115, 115]), .string (Wb.S [98, 101, 102, 111, 114, 101]), .string (Wb.S [119, 111, 114, 107, 101, 114]), .string (Wb.S [116, 97, 120]), .string (Wb.S [97, 102, 116, 101, 114]), .string (Wb.S [111, 114, 100, 101, 114, 115]), .string (Wb.S [102, 105, 114, 109])]) (.int .i64 6)).run Tryd.prog w = .ok (.string (Wb.S [102, 105, 114, 109])) w := fun _ => by kernel_rfl
          cases hq : (([102, 105, 114, 109] : List UInt8) == a)
          · have HNX := Lib.hid (no_next HNO.out (k := 6) (s := [102, 105, 114, 109]) rfl (by simpa using hq))
            go_wp2
            go_round
            case rel => exact ⟨6 + 1, by omega, by go_num, HNX.out⟩
            case measure => simp [intOf]
          · have HX := Lib.hid (wordIx_here (a := a) (k := 6) (by decide) (congrArg some (beq_iff_eq.1 hq)))
            cases hpe : (pe == 0)
            · have H := Lib.hid (show Wb.readOf s = none by rw [HRO2.out, HX.out]; simp only; rw [HPC.out, if_neg (by simpa using hpe)])
              go_wp2
              refine bodyPost_ret (v := .tuple #[.agg #[.int .i64 6, .string (Wb.S b), .int .i64 pv], .bool false]) (by simp [results, Tryd.results40, go_sem, q0, q1, q2]) rfl (readPost_none H.out _ _ _ rfl (xset (xset (xset he1 (by simp) _) (by simp) _) (by simp) _))
            · have H := Lib.hid (show Wb.readOf s = some ⟨6, b, pv⟩ by rw [HRO2.out, HX.out]; simp only; rw [HPC.out, if_pos (by simpa using hpe)]; rfl)
              go_wp2
              refine bodyPost_ret (v := .tuple #[.agg #[.int .i64 6, .string (Wb.S b), .int .i64 pv], .bool true]) (by simp [results, Tryd.results40, go_sem, q0, q1, q2]) rfl (readPost_some H.out rfl (xset (xset (xset he1 (by simp) _) (by simp) _) (by simp) _))
        · rw [show ((7 : Nat) : Int) = 7 from rfl]
          have H := Lib.hid (show Wb.readOf s = none by rw [HRO2.out, wordIx_none HNO.out])
          go_wp2
          refine bodyPost_ret (v := .tuple #[.agg #[.int .i64 0, .string ⟨#[]⟩, .int .i64 0], .bool false]) (by simp [results, Tryd.results40, go_sem, q0, q1, q2]) rfl (readPost_none H.out 0 [] 0 rfl (xset (xset (xset he1 (by simp) _) (by simp) _) (by simp) _))
  · have H := Lib.hid (readOf_not (s := s) (by rw [HL.out]; exact h3))
    have h3i : ((L.length : Int) != 3) = true := by simp; omega
    go_wp2
    refine bodyPost_ret (v := .tuple #[.agg #[.int .i64 0, .string ⟨#[]⟩, .int .i64 0], .bool false]) (by simp [results, Tryd.results40, go_sem, q0, q1, q2]) rfl (readPost_none H.out 0 [] 0 rfl (xset (xset (xset he1 (by simp) _) (by simp) _) (by simp) _))

end Go.Proofs.YtpiedhjjpmmomaaDoor
