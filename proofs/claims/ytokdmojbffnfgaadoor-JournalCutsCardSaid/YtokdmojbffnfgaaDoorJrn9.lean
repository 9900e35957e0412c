/- The walks of package journal: Append joined; Text. -/
import Derived.Test.YtokdmojbffnfgaaDoorJrn8
namespace Go.Proofs.YtokdmojbffnfgaaDoor
open Go.RowKit
set_option maxRecDepth 4000

theorem strCells_S (l : List UInt8) : Lib.strCells (Wb.S l) = Lib.byteCells l := rfl
theorem append_ok2 (v : Value) (A : List (List UInt8)) (a : List UInt8) (w : World) (hv : LogV w v A) (hn : A.length ≤ 100000) (ha : a.length ≤ 4611686018427387904) (hw : Wb.okA A.length a) :
    Calls Tryd.prog 11 #[v, .string (Wb.S a)] w fun e w' => ∃ (x : Value) (m : Nat), e = .returned (.tuple #[.agg #[x, .int .u64 (m : Int)], .int .i64 0]) ∧ LogV w' (.agg #[x, .int .u64 (m : Int)]) (A ++ [a]) ∧ (∀ k, x.ownBlock = some k → w.heap.size ≤ k) ∧ Wb.Ext w w' := by
  obtain ⟨u, m, rfl, hr, hm⟩ := hv
  obtain ⟨M0, h0⟩ : ∃ M0, (if A = [] then Wb.mfirst else m : Nat) = M0 := ⟨_, rfl⟩
  have hm2 : M0 = Wb.marksL Wb.mfirst A := by
    by_cases h1 : A = []
    · subst h1; rw [if_pos rfl] at h0; rw [← h0, Wb.marksL, List.foldl_nil]
    · rw [if_neg h1] at h0; rw [← h0]; exact hm h1
  obtain ⟨M1, h1⟩ : ∃ M1, Wb.mmark M0 a = M1 := ⟨_, rfl⟩
  have hl : M0 < Wb.MM := by rw [hm2]; exact Wb.marksL_lt Wb.mfirst_lt _
  have hf : M1 = Wb.marksL Wb.mfirst (A ++ [a]) := by rw [Wb.marksL_snoc, ← hm2, h1]
  rcases hr with ⟨e0, rfl⟩ | ⟨b, c, rfl, hc, hcell⟩
  · subst e0
    refine (append_first a m M0 M1 w ha (wrong_ok.2 hw) h0 hl h1).mono ?_
    rintro e w' ⟨u, he, hu, hk, hx⟩
    exact ⟨u, M1, he, ⟨u, M1, rfl, hu, fun _ => hf⟩, hk, hx⟩
  · refine (append_row A a m b c M0 M1 w (.inr ⟨b, c, rfl, hc, hcell⟩) hc hn ha (wrong_ok.2 hw) h0 hl h1).mono ?_
    rintro e w' ⟨u, he, hu, hk, hx⟩
    exact ⟨u, M1, he, ⟨u, M1, rfl, hu, fun _ => hf⟩, hk, hx⟩
theorem append_ok (v : Value) (A : List (List UInt8)) (a : List UInt8) (w : World) (hv : LogV w v A) (hn : A.length ≤ 100000) (ha : a.length ≤ 4611686018427387904) (hw : Wb.okA A.length a) :
    Calls Tryd.prog 11 #[v, .string (Wb.S a)] w fun e w' => ∃ u, e = .returned (.tuple #[u, .int .i64 0]) ∧ LogV w' u (A ++ [a]) ∧ Wb.Ext w w' :=
  (append_ok2 v A a w hv hn ha hw).mono fun e w' ⟨x, m, he, hl, _, hx⟩ => ⟨_, he, hl, hx⟩

theorem ib_ext {T e : TypeId} {B b : Nat} {bs : List Value} {w w' : World} (h : Lib.IsBuilder T e B b bs w) (k : Wb.Ext w w') : Lib.IsBuilder T e B b bs w' := by
  have aux : ∀ p, Lib.BuilderAt T e B b p bs w → Lib.BuilderAt T e B b p bs w' := by
    intro p h
    have hlt := h.lt
    obtain ⟨hB, v, hb, hown, hne⟩ := h
    exact ⟨hB, v, by rw [k.block b hlt]; exact hb, Wb.row_ext hown k, hne⟩
  exact h.imp (aux _) (aux _)

theorem itoa_nat (n : Nat) : itoa n = Wb.digs n := by
  unfold itoa; rw [if_neg (by omega), Int.natAbs_natCast]
theorem headOf_nat (n len m : Nat) : headOf n len m = Wb.headN n len m := by rw [headOf, Wb.headN, itoa_nat, itoa_nat]
theorem head1_any (k : Nat) (a : List UInt8) (m : Nat) (hn : k ≤ 90000) (ha : a.length ≤ 100000) (hm : m < Wb.MM) (w : World) (ht : Tab10 w) :
    Calls Tryd.prog 30 #[.int .i64 ((k : Int) + 1), .string (Wb.S a), .int .u64 (m : Int)] w fun e w' => e = .returned (.string (Wb.S (Wb.headN (k + 1) a.length m))) ∧ Wb.Ext w w' := by
  have h := head_any (k + 1) a m (by omega) ha hm w ht
  rw [headOf_nat] at h
  exact h
theorem headN_len (n len m : Nat) (hn : n ≤ 1000000) (hl : len ≤ 1000000) : (Wb.headN n len m).length ≤ 40 := by
  rw [Wb.headN_length]
  have h1 := Wb.digs_length 6 n (by omega)
  have h2 := Wb.digs_length 6 len (by omega)
  omega

set_option maxHeartbeats 1000000 in
theorem text_any (v : Value) (A : List (List UInt8)) (w : World) (hv : LogV w v A) (hn : A.length ≤ 50000) (hs : ∀ s ∈ A, s.length ≤ 50000) (hT : (Wb.textL A).length ≤ 1000000000) (ht : Tab10 w) :
    Calls Tryd.prog 18 #[v] w fun e w' => e = .returned (.string (Wb.S (Wb.textL A))) ∧ Wb.Ext w w' := by
  obtain ⟨u, m, rfl, hr, _⟩ := hv
  obtain ⟨ao, c, rfl, _, _, _⟩ := hr.shape
  have HR := Lib.hid hr
  have HS := Lib.hid hs
  have HTX := Lib.hid hT
  have HT := Lib.hid ht
  clear hr hs hT ht
  go_enter Tryd.func18, Tryd.ntmps18
  go_wp2_with fail
  go_loopw [4, 10] (fun mv iv wr => ∃ k M : Nat, k ≤ A.length ∧ iv = .int .i64 k ∧ mv = .int .u64 (M : Int) ∧ Wb.marksL Wb.mfirst (A.take k) = M ∧ Lib.IsBuilder 56 5 (w.heap.size + 1) (w.heap.size + 1) (Lib.byteCells (Wb.textL (A.take k))) wr ∧ Wb.Ext (w.alloc (.cells #[.slice ao A.length c, .int .u64 m] 27)) wr) (fun _ iv _ => A.length - (intOf iv).toNat)
  case atStart =>
    refine ⟨0, 14695981039346656037, by omega, rfl, rfl, rfl, ?_, by (repeat' (first | (with_reducible assumption) | (with_reducible exact Wb.Ext.refl _) | (with_reducible refine Wb.Ext.drew ?_) | (with_reducible refine Wb.Ext.drewN ?_ _) | (with_reducible refine Wb.Ext.alloc ?_ _) | (with_reducible refine Wb.Ext.trans ?_ (by assumption))))⟩
    have := Lib.fresh_isBuilder 56 5 (w.alloc (.cells #[.slice ao A.length c, .int .u64 m] 27))
    simpa [Wb.textK_nil, Lib.byteCells] using this
  case round =>
    obtain ⟨k, M, hk, rfl, rfl, hM, hib, hext⟩ := hrel
    have HM := Lib.hid hM
    have HIB := Lib.hid hib
    have hew : Wb.Ext w wr := by (repeat' (first | (with_reducible assumption) | (with_reducible exact Wb.Ext.refl _) | (with_reducible refine Wb.Ext.drew ?_) | (with_reducible refine Wb.Ext.drewN ?_ _) | (with_reducible refine Wb.Ext.alloc ?_ _) | (with_reducible refine Wb.Ext.trans ?_ (by assumption))))
    have hsz := hext.size
    simp at hsz
    clear hM hib
    by_cases hlt : k < A.length
    · obtain ⟨s, hs⟩ := Wb.get_ex hlt
      have hsl := HS.out s (List.mem_of_getElem? hs)
      obtain ⟨b, c', rfl, hcell⟩ : ∃ b c', ao = some ⟨b, 0, none⟩ ∧ wr.cell? ⟨b, k, none⟩ = some (.string (Wb.S s)) := by
        rcases HR.out.ext hew with ⟨h0, _⟩ | ⟨b, c', h1, _, h3⟩
        · rw [h0] at hlt; simp at hlt
        · cases h1; exact ⟨b, c, rfl, h3 k s hs⟩
      have hML : M < Wb.MM := by rw [← HM.out]; exact Wb.marksL_lt Wb.mfirst_lt _
      have htk : A.take (k + 1) = A.take k ++ [s] := by
        obtain ⟨h1, h2⟩ := List.getElem?_eq_some_iff.1 hs
        rw [List.take_succ_eq_append_getElem h1, h2]
      obtain ⟨M2, hM2⟩ : ∃ M2, Wb.mmark M s = M2 := ⟨_, rfl⟩
      have HM2 := Lib.hid hM2
      have hM3 : Wb.marksL Wb.mfirst (A.take (k + 1)) = M2 := by rw [htk, Wb.marksL_snoc, HM.out, hM2]
      have htx : Wb.textL (A.take (k + 1)) = Wb.textL (A.take k) ++ (Wb.headN (k + 1) s.length M2 ++ (s ++ [10])) := by
        rw [htk, Wb.textL_snoc, List.length_take, Nat.min_eq_left hk, HM.out, Wb.lineN, hM2, List.append_assoc]
      have hle : (Wb.textL (A.take (k + 1))).length ≤ 1000000000 := Nat.le_trans (Wb.textL_take A (k + 1)) HTX.out
      have hM2l : M2 < Wb.MM := by rw [← hM2]; exact Wb.mmark_lt _ _
      have hhl := headN_len (k + 1) s.length M2 (by omega) (by omega)
      obtain ⟨hd, hhd⟩ : ∃ hd, Wb.headN (k + 1) s.length M2 = hd := ⟨_, rfl⟩
      rw [hhd] at htx hhl
      have HHD := Lib.hid hhd
      have HM3 := Lib.hid hM3
      have HTK := Lib.hid htx
      have HLE := Lib.hid (show (Lib.byteCells (Wb.textL (A.take k))).length + (Wb.S (hd ++ (s ++ [10]))).size ≤ 140737488355328 by
        rw [htx, List.length_append] at hle
        rw [Lib.byteCells_length, Wb.S_size]; omega)
      have HML := Lib.hid hML
      have HM2L := Lib.hid hM2l
      have hki : (k : Int) < A.length := by omega
      clear hM2 hM3 htx hle hM2l hML htk hs hhd
      go_wp2_with fail
      refine (mark_any M s HML.out (by omega) _).mono ?_; rintro e w' ⟨rfl, rfl⟩
      rw [HM2.out]
      go_wp2_with fail
      refine (head1_any k s M2 (by omega) (by omega) HM2L.out _ (HT.out.ext hew)).mono ?_; rintro e w2 ⟨rfl, hb2⟩
      rw [HHD.out]
      have HIB2 := Lib.hid (ib_ext HIB.out hb2)
      have hx2 := hext.trans hb2
      have hsz2 := hb2.size
      go_wp2_with fail
      go_fit (Tryd.Builder_WriteString (w.heap.size + 1) (w.heap.size + 1) (Lib.byteCells (Wb.textL (A.take k))) (Wb.S (hd ++ (s ++ [10]))) w2 HIB2.out HLE.out (by omega)); rintro e w3 ⟨rfl, hb3, hbel⟩
      have HIB3 := Lib.hid hb3
      have hx3 : Wb.Ext (w.alloc (.cells #[.slice (some ⟨b, 0, none⟩) A.length c, .int .u64 m] 27)) w3 := Below.trans hx2 (by simpa using hbel)
      clear hb3 hbel hb2 hcell
      go_wp2
      go_roundw
      case rel =>
        refine ⟨k + 1, M2, by omega, by go_num, rfl, HM3.out, .inr ?_, hx3⟩
        have := HIB3.out
        rw [strCells_S, ← Lib.byteCells_append, ← HTK.out] at this
        exact this
      case measure => simp [intOf]; omega
    · have HE := Lib.hid (show A.take k = A from List.take_of_length_le (by omega))
      rw [HE.out] at HIB
      go_wp2_with fail
      refine (Tryd.Builder_String_any (w.heap.size + 1) (w.heap.size + 1) _ _ HIB.out (by omega)).mono ?_; rintro e w3 ⟨rfl, hbel⟩
      have hx3 : Wb.Ext w w3 := Wb.Ext.trans ((Wb.Ext.refl w).alloc _) (Below.trans hext (by simpa using hbel))
      go_wp2
      go_ret
      exact ⟨rfl, hx3⟩

end Go.Proofs.YtokdmojbffnfgaaDoor
