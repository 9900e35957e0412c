/- Chapter 27: the reference's Parse. -/
import Derived.Test.YtpiedhjjpmmomaaDoorSlip24
import Derived.Test.YtpiedhjjpmmomaaDoorSlip22
import Derived.Deep.RegionLaw
namespace Go.Proofs.YtpiedhjjpmmomaaDoor
open Go.RowKit
set_option maxRecDepth 4000
attribute [local go_sem ↓] Go.wp_at_zero Go.wp_at_succ

/-- the last of the first words that a text is; -1: none -/
def partAt (a : List UInt8) : Nat → Int
  | 0 => -1
  | k + 1 => if wordsL[k]? = some a then (k : Int) else partAt a k
theorem partAt_seven (a : List UInt8) : (partAt a 7 = -1 ∧ Wb.wordIx a = none) ∨ ∃ k : Nat, partAt a 7 = k ∧ Wb.wordIx a = some k := by
  cases hw : Wb.wordIx a with
  | none =>
    left
    have h : ∀ j : Nat, wordsL[j]? ≠ some a := by
      intro j hj
      have hj7 : j < 7 := (List.getElem?_eq_some_iff.1 hj).1
      rw [wordIx_here hj7 hj] at hw; cases hw
    refine ⟨?_, rfl⟩
    simp [partAt, h]
  | some k =>
    right
    obtain ⟨h7, hk⟩ := Wb.wordIx_of hw
    refine ⟨k, ?_, rfl⟩
    match k, h7, hk with
    | 0, _, hk => obtain rfl := Option.some.inj hk; rfl
    | 1, _, hk => obtain rfl := Option.some.inj hk; rfl
    | 2, _, hk => obtain rfl := Option.some.inj hk; rfl
    | 3, _, hk => obtain rfl := Option.some.inj hk; rfl
    | 4, _, hk => obtain rfl := Option.some.inj hk; rfl
    | 5, _, hk => obtain rfl := Option.some.inj hk; rfl
    | 6, _, hk => obtain rfl := Option.some.inj hk; rfl
theorem partAt_low (a : List UInt8) : ∀ k : Nat, -1 ≤ partAt a k ∧ partAt a k ≤ k
  | 0 => by simp [partAt]
  | k + 1 => by
    have := partAt_low a k
    rw [partAt]; split <;> omega

set_option maxHeartbeats 8000000 in
theorem rparse27_any (t : List UInt8) (ht : t.length < 4294967281) (w : World) :
    Calls Tryd.prog 24 #[.string (Wb.S t)] w fun e w' => ∃ m, e = .returned (.tuple #[.agg #[.int .i64 (Wb.parseS t).2.1, .int .i64 (Wb.parseS t).2.2.1, m], .int .i64 (Wb.parseS t).1]) ∧ Lns w' m (Wb.parseS t).2.2.2 ∧ Wb.Ext w w' := by
  obtain ⟨i0, hi, hz0, hz1, hz2⟩ := info_parts infoLine
  have HIN := Lib.hid (show Tryd.prog.info? 39 = some i0 ∧ i0.zero = some (.agg #[.int .i64 0, .string "".toUTF8, .int .i64 0]) ∧ i0.size = 3 ∧ i0.bytes = 32 from ⟨hi, hz0, hz1, hz2⟩)
  clear hi hz0 hz1 hz2
  by_cases h0 : t = []
  · subst h0
    have HM := Lib.hid (show Wb.parseS [] = (10, 0, 0, []) by rw [Wb.parseS, if_pos rfl])
    go_enter Tryd.func24, Tryd.ntmps24
    go_wp2
    refine bodyPost_ret (v := .tuple #[.agg #[.int .i64 0, .int .i64 0, .slice none 0 0], .int .i64 10]) (by simp [results, Tryd.results24, go_sem]) rfl ⟨.slice none 0 0, by rw [HM.out] <;> rfl, by rw [HM.out]; exact .inl ⟨rfl, _, _, rfl⟩, by (repeat' (first | (with_reducible assumption) | (with_reducible exact Wb.Ext.refl _) | (with_reducible refine Wb.Ext.drew ?_) | (with_reducible refine Wb.Ext.drewN ?_ _) | (with_reducible refine Wb.Ext.alloc ?_ _) | (with_reducible refine Wb.Ext.trans ?_ (by assumption))))⟩
  · have h1 : t.isEmpty = false := by simpa using h0
    have h2 : (t == []) = false := by simpa using h0
    obtain ⟨L, hL⟩ : ∃ L, Wb.splitOn 10 t = L := ⟨_, rfl⟩
    have HPS := Lib.hid (show Wb.parseS t = match Wb.headOf (L.headD []) with
      | none => (3, 0, 0, [])
      | some (y, i) => if L.getLastD [] ≠ [] then (3, 0, 0, []) else
        match Wb.readAll L.tail.dropLast with
        | none => (3, 0, 0, [])
        | some l => if Wb.check y i l ≠ 0 then (Wb.check y i l, 0, 0, []) else (0, y, i, l) by subst hL; rw [Wb.parseS, if_neg h0]; rfl)
    have HLE := Lib.hid (show ∀ a ∈ L, a.length < 4294967281 from fun a ha => by have := Wb.splitOn_le (c := 10) (l := t) (a := a) (by rw [hL]; exact ha); omega)
    have hln : L.length ≤ 4294967281 := by
      rw [← hL, Wb.splitOn_len]; have := List.count_le_length (a := (10 : UInt8)) (l := t); omega
    have hpos := Wb.splitOn_pos 10 t
    rw [hL] at hpos
    have HL := Lib.hid hL
    clear hL h0
    obtain ⟨hd, r, rfl⟩ : ∃ hd r, L = hd :: r := by
      cases L with
      | nil => exact absurd rfl hpos
      | cons hd r => exact ⟨hd, r, rfl⟩
    clear hpos
    have hhl := HLE.out hd (by simp)
    go_enter Tryd.func24, Tryd.ntmps24
    go_wp2_with fail
    refine (rcut_any t 10 ht _).mono ?_; rintro e w1 ⟨g, cap, rfl, hst, hb1⟩
    rw [HL.out] at hst ⊢
    have he1 : Wb.Ext w w1 := by (repeat' (first | (with_reducible assumption) | (with_reducible exact Wb.Ext.refl _) | (with_reducible refine Wb.Ext.drew ?_) | (with_reducible refine Wb.Ext.drewN ?_ _) | (with_reducible refine Wb.Ext.alloc ?_ _) | (with_reducible refine Wb.Ext.trans ?_ (by assumption))))
    have q0 : w1.cell? ⟨w.heap.size, 0, none⟩ = some (.int .i64 0) := hb1.keep (by simp [go_sem])
    have q1 : w1.cell? ⟨w.heap.size, 1, none⟩ = some (.int .i64 0) := hb1.keep (by simp [go_sem])
    have q2 : w1.cell? ⟨w.heap.size, 2, none⟩ = some (.slice none 0 0) := hb1.keep (by simp [go_sem])
    have qf : ∀ j, w1.frozen? ⟨w.heap.size, j, none⟩ = false := fun j => (Below.frozen hb1 (by simp)).trans (by simp [go_sem])
    have HST := Lib.hid hst
    have s0 : w1.cell? ⟨g, 0, none⟩ = some (.string (Wb.S hd)) := HST.out 0 hd rfl
    have hz1 := Wb.cell_size q0
    clear hb1 hst
    rw [List.length_cons]
    have hrl : r.length + 1 ≤ 4294967281 := by simpa using hln
    have hri : (0 : Int) < r.length + 1 := by omega
    have hri0 : (0 : Int) ≤ r.length := by omega
    obtain ⟨la, hla⟩ : ∃ la, (hd :: r)[r.length]? = some la := Wb.get_ex (by simp)
    have HLA := Lib.hid (show (hd :: r).getLastD [] = la by rw [List.getLastD_cons]; have := List.getLast?_eq_getElem? (l := hd :: r); simp only [List.length_cons, Nat.add_sub_cancel] at this; rw [hla] at this; rw [List.getLastD_eq_getLast?]; rw [List.getLast?_cons] at this; simpa using this)
    have sl : w1.cell? ⟨g, r.length, none⟩ = some (.string (Wb.S la)) := by have := HST.out _ _ hla; simpa using this
    have HLA2 := Lib.hid hla
    clear hla
    by_cases hle : la = []
    case neg =>
      have hlb : la.isEmpty = false := by simpa using hle
      have hlb2 : (la == []) = false := by simpa using hle
      have HM := Lib.hid (show Wb.parseS t = (3, 0, 0, []) by
        rw [HPS.out, HLA.out]
        cases Wb.headOf ((hd :: r).headD []) with
        | none => rfl
        | some p => simp only; rw [if_pos hle])
      clear hle
      go_wp2
      refine bodyPost_ret (v := .tuple #[.agg #[.int .i64 0, .int .i64 0, .slice none 0 0], .int .i64 3]) (by simp [results, Tryd.results24, go_sem, q0, q1, q2]) rfl ⟨.slice none 0 0, by rw [HM.out] <;> rfl, by rw [HM.out]; exact .inl ⟨rfl, _, _, rfl⟩, xset (xset (xset he1 (by simp) _) (by simp) _) (by simp) _⟩
    have HPS1 := Lib.hid (show Wb.parseS t = match Wb.headOf hd with
      | none => (3, 0, 0, [])
      | some (y, i) => match Wb.readAll r.dropLast with
        | none => (3, 0, 0, [])
        | some l => if Wb.check y i l ≠ 0 then (Wb.check y i l, 0, 0, []) else (0, y, i, l) by
      rw [HPS.out, HLA.out, hle]
      simp only [List.headD_cons, List.tail_cons]
      cases Wb.headOf hd with
      | none => rfl
      | some p => simp only; rw [if_neg (by simp)])
    have HLE0 := Lib.hid hle
    subst hle
    go_wp2_with fail
    refine (rhead_any hd hhl _).mono ?_; rintro e w2 ⟨rfl, hb2⟩
    have q0 := hb2.keep q0
    have q1 := hb2.keep q1
    have q2 := hb2.keep q2
    have qf : ∀ j, w2.frozen? ⟨w.heap.size, j, none⟩ = false := fun j => (Below.frozen hb2 (by simp; omega)).trans (qf j)
    have HST := Lib.hid (HST.out.ext hb2)
    have he2 : Wb.Ext w w2 := he1.trans hb2
    have hzg := Wb.cell_size (hb2.keep s0)
    have hzw := Wb.cell_size q0
    have hzw1 : ¬ w.heap.size = w2.heap.size := by omega
    have hzw2 : ¬ w2.heap.size = w.heap.size := by omega
    clear hb2 he1 s0 hz1 sl
    cases hh : Wb.headOf hd with
    | none =>
      have HM := Lib.hid (show Wb.parseS t = (3, 0, 0, []) by rw [HPS1.out, hh])
      rw [RHeadV]
      clear hh
      go_wp2
      refine bodyPost_ret (v := .tuple #[.agg #[.int .i64 0, .int .i64 0, .slice none 0 0], .int .i64 3]) (by simp [results, Tryd.results24, go_sem, q0, q1, q2]) rfl ⟨.slice none 0 0, by rw [HM.out] <;> rfl, by rw [HM.out]; exact .inl ⟨rfl, _, _, rfl⟩, xset (xset (xset he2 (by simp) _) (by simp) _) (by simp) _⟩
    | some yi =>
      obtain ⟨y, i⟩ := yi
      simp only [RHeadV]
      have hr1 : r ≠ [] := by
        intro h
        have h3 := HLA2.out
        subst h
        simp at h3
        subst h3
        rw [headOf_nil] at hh; cases hh
      obtain ⟨n, hn⟩ : ∃ n, r.length = n + 1 := ⟨r.length - 1, by have := List.length_pos_iff.2 hr1; omega⟩
      rw [hn] at hrl hri hri0 ⊢
      rw [show ((n + 1 : Nat) : Int) = (n : Int) + 1 by omega]
      have hml : r.dropLast.length = n := by rw [List.length_dropLast]; omega
      obtain ⟨M, hM⟩ : ∃ M, r.dropLast = M := ⟨_, rfl⟩
      have HSM := Lib.hid (show ∀ j a, M[j]? = some a → w2.cell? ⟨g, j + 1, none⟩ = some (.string (Wb.S a)) from fun j a hj => by
        have h1 : (hd :: r)[j + 1]? = some a := by
          rw [List.getElem?_cons_succ, ← hj, ← hM, List.getElem?_dropLast, if_pos]
          have := (List.getElem?_eq_some_iff.1 hj).1; rw [← hM] at this; simpa using this
        have := HST.out _ _ h1
        rwa [Nat.zero_add] at this)
      have HME := Lib.hid (show ∀ a ∈ M, a.length < 4294967281 from fun a ha => HLE.out a (by rw [← hM] at ha; exact List.mem_cons_of_mem _ (List.dropLast_subset _ ha)))
      have HM2 := Lib.hid (show Wb.parseS t = match Wb.readAll M with
        | none => (3, 0, 0, [])
        | some l => if Wb.check y i l ≠ 0 then (Wb.check y i l, 0, 0, []) else (0, y, i, l) by rw [HPS1.out, hh, hM])
      rw [hM] at hml
      clear hn hr1 hM HST HLE HPS HPS1 HLA HLA2 hln hh
      have hM0 : n ≤ 4294967280 := by omega
      go_wp2
      go_loopw [9] (fun iv wr => ∃ (k : Nat) (d : List Wb.Ln) (ov : Value), iv = .int .i64 ((k : Int) + 1) ∧ k ≤ n ∧ Wb.readAll (M.take k) = some d ∧ wr.ownsRow (w2.heap.size + 1) 39 3 ov k (lnvs d) ∧ wr.cell? ⟨w2.heap.size, 0, none⟩ = some (.int .i64 y) ∧ wr.cell? ⟨w2.heap.size, 1, none⟩ = some (.int .i64 i) ∧ wr.cell? ⟨w2.heap.size, 2, none⟩ = some ov ∧ (∀ j, wr.frozen? ⟨w2.heap.size, j, none⟩ = false) ∧ Wb.Ext w2 wr) (fun iv _ => n + 1 - (intOf iv).toNat)
      case atStart => exact ⟨0, [], .slice none 0 0, rfl, by omega, rfl, World.ownsRow_nil _ _ _ _, by simp [go_sem], by simp [go_sem], by simp [go_sem], by intro j; simp [go_sem], by (repeat' (first | (with_reducible assumption) | (with_reducible exact Wb.Ext.refl _) | (with_reducible refine Wb.Ext.drew ?_) | (with_reducible refine Wb.Ext.drewN ?_ _) | (with_reducible refine Wb.Ext.alloc ?_ _) | (with_reducible refine Wb.Ext.trans ?_ (by assumption))))⟩
      case round =>
        obtain ⟨k, d, ov, rfl, hk, hrd, hown, hc0, hc1, hc2, hcf, hext⟩ := hrel
        obtain ⟨oa, oc, rfl⟩ := row_shape3 hown
        have HO := Lib.hid hown; clear hown
        have HRD := Lib.hid hrd; clear hrd
        have hew : Wb.Ext w wr := he2.trans hext
        have hzr := Wb.cell_size hc0
        have hne : some w2.heap.size ≠ (Value.slice oa k oc).ownBlock := fun h => by have := HO.out.lt _ h.symm; omega
        have q0 := hext.keep q0
        have q1 := hext.keep q1
        have q2 := hext.keep q2
        have qf : ∀ j, wr.frozen? ⟨w.heap.size, j, none⟩ = false := fun j => (Below.frozen hext (by simp; omega)).trans (qf j)
        by_cases hlt : k < n
        · obtain ⟨s, hs⟩ := Wb.get_ex (l := M) (k := k) (by omega)
          have sk := hext.keep (HSM.out k s hs)
          have hsl := HME.out s (List.mem_of_getElem? hs)
          have HTN := Lib.hid (take_next hs)
          have HDN := Lib.hid (Wb.drop_get hs)
          have hki : (k : Int) + 1 < (n : Int) + 1 := by omega
          have hki2 : (k : Int) + 1 < (n : Int) + 1 + 1 := by omega
          have hkn : ((k : Int) + 1).toNat = k + 1 := by omega
          clear hs
          have HBAD := Lib.hid (show Wb.readOf s = none → Wb.parseS t = (3, 0, 0, []) from fun hro => by
            rw [HM2.out, show Wb.readAll M = none by rw [← List.take_append_drop k M, HDN.out]; exact Wb.readAll_none HRD.out hro])
          obtain ⟨L2, hL2⟩ : ∃ L2, Wb.splitOn 32 s = L2 := ⟨_, rfl⟩
          have HL2 := Lib.hid hL2
          have hle2 : ∀ a ∈ L2, a.length < 4294967281 := fun a ha => by have := Wb.splitOn_le (c := 32) (l := s) (a := a) (by rw [hL2]; exact ha); omega
          have HLE2 := Lib.hid hle2
          clear hL2 hle2
          go_wp2_with fail
          refine (rcut_any s 32 hsl _).mono ?_; rintro e w3 ⟨g2, cap2, rfl, hst2, hb⟩
          rw [HL2.out] at hst2 ⊢
          have q0 := hb.keep q0
          have q1 := hb.keep q1
          have q2 := hb.keep q2
          have qf : ∀ j, w3.frozen? ⟨w.heap.size, j, none⟩ = false := fun j => (Below.frozen hb (by simp; omega)).trans (qf j)
          have hc0 := hb.keep hc0
          have hc1 := hb.keep hc1
          have hc2 := hb.keep hc2
          have hcf : ∀ j, w3.frozen? ⟨w2.heap.size, j, none⟩ = false := fun j => (Below.frozen hb (by simp; omega)).trans (hcf j)
          have HO := Lib.hid (row_ext HO.out hb)
          have hext : Wb.Ext w2 w3 := hext.trans hb
          have hew : Wb.Ext w w3 := hew.trans hb
          have hzr := Wb.cell_size hc0
          clear hb sk
          by_cases h3 : L2.length = 3
          case neg =>
            have h3i : ((L2.length : Int) != 3) = true := by simp; omega
            have HM3 := Lib.hid (HBAD.out (readOf_not (by rw [HL2.out]; exact h3)))
            go_wp2
            refine bodyPost_ret (v := .tuple #[.agg #[.int .i64 0, .int .i64 0, .slice none 0 0], .int .i64 3]) (by simp [results, Tryd.results24, go_sem, q0, q1, q2]) rfl ⟨.slice none 0 0, by rw [HM3.out] <;> rfl, by rw [HM3.out]; exact .inl ⟨rfl, _, _, rfl⟩, xset (xset (xset hew (by simp) _) (by simp) _) (by simp) _⟩
          obtain ⟨a, b, c, rfl⟩ : ∃ a b c, L2 = [a, b, c] := by
            match L2, h3 with
            | [a, b, c], _ => exact ⟨a, b, c, rfl⟩
          have sa : w3.cell? ⟨g2, 0, none⟩ = some (.string (Wb.S a)) := by have := hst2 0 a rfl; simpa using this
          have sb : w3.cell? ⟨g2, 1, none⟩ = some (.string (Wb.S b)) := by have := hst2 1 b rfl; simpa using this
          have sc : w3.cell? ⟨g2, 2, none⟩ = some (.string (Wb.S c)) := by have := hst2 2 c rfl; simpa using this
          have hlc := HLE2.out c (by simp)
          have hlb := HLE2.out b (by simp)
          clear hst2 h3 HLE2
          have HRO := Lib.hid (readOf_three HL2.out)
          rw [show ([a, b, c] : List (List UInt8)).length = 3 from rfl]
          by_cases hbn : b = []
          case pos =>
            have HM3 := Lib.hid (HBAD.out (by rw [HRO.out, if_pos hbn]))
            subst hbn
            go_wp2
            refine bodyPost_ret (v := .tuple #[.agg #[.int .i64 0, .int .i64 0, .slice none 0 0], .int .i64 3]) (by simp [results, Tryd.results24, go_sem, q0, q1, q2]) rfl ⟨.slice none 0 0, by rw [HM3.out] <;> rfl, by rw [HM3.out]; exact .inl ⟨rfl, _, _, rfl⟩, xset (xset (xset hew (by simp) _) (by simp) _) (by simp) _⟩
          have hbe : b.isEmpty = false := by simpa using hbn
          have hbe2 : (b == []) = false := by simpa using hbn
          have HRO2 := Lib.hid (show Wb.readOf s = match Wb.wordIx a with
            | none => none
            | some k => if (Wb.parse c).2 = 0 then some ⟨k, b, (Wb.parse c).1⟩ else none by rw [HRO.out, if_neg hbn] <;> rfl)
          clear hbn HRO
          go_wp2_with fail
          go_loopw [11, 12] (fun pv jv wq => ∃ q : Nat, q ≤ 7 ∧ jv = .int .i64 q ∧ pv = .int .i64 (partAt a q) ∧ Wb.Ext w3 wq) (fun _ jv _ => 7 - (intOf jv).toNat)
          case atStart => exact ⟨0, by omega, rfl, rfl, by (repeat' (first | (with_reducible assumption) | (with_reducible exact Wb.Ext.refl _) | (with_reducible refine Wb.Ext.drew ?_) | (with_reducible refine Wb.Ext.drewN ?_ _) | (with_reducible refine Wb.Ext.alloc ?_ _) | (with_reducible refine Wb.Ext.trans ?_ (by assumption))))⟩
          case round =>
            obtain ⟨q, hq7, rfl, rfl, hextq⟩ := hrel
            have sa := hextq.keep sa
            have hzq := Wb.cell_size sa
            have hk8 : q = 0 ∨ q = 1 ∨ q = 2 ∨ q = 3 ∨ q = 4 ∨ q = 5 ∨ q = 6 ∨ q = 7 := by omega
            rcases hk8 with rfl | rfl | rfl | rfl | rfl | rfl | rfl | rfl
            · rw [show ((0 : Nat) : Int) = 0 from rfl]
              obtain ⟨pz, hpz⟩ : ∃ p, partAt a 0 = p := ⟨_, rfl⟩
              rw [hpz]
              go_wp2_with fail
              refine wp_region_held_drew (S := (fun w' => w'.cell? ⟨g2, 0, none⟩ = some (.string (Wb.S a)))) (by kernel_rfl) (cd sa) (fun hHeld => ?_)
              refine wpAnyH_take (i := 1) (v := ?_) rfl (by kernel_rfl) (by kernel_rfl) (by kernel_rfl) (fun _ _ _ h => h) (Or.inl ⟨by rfl, ?_⟩) (by assumption) ?_
              rotate_left
              · (intro w hSw; (try dsimp only at hSw); go_simp; (try with_reducible rfl))
              (skip; try simp only [Act.put, List.setIfInBounds_toArray])
              refine wpAnyH_take (i := 4) (v := ?_) rfl (by kernel_rfl) (by kernel_rfl) (by kernel_rfl) (fun _ _ _ h => h) (Or.inl ⟨by rfl, ?_⟩) (by assumption) ?_
              rotate_left
              · (intro w hSw; (try dsimp only at hSw); go_simp; (try with_reducible rfl))
              (skip; try simp only [Act.put])
              refine wpAnyH_take (i := 5) (v := ?_) rfl (by kernel_rfl) (by kernel_rfl) (by kernel_rfl) (fun _ _ _ h => h) (Or.inl ⟨by rfl, ?_⟩) (by assumption) ?_
              rotate_left
              · (intro w hSw; (try dsimp only at hSw); go_simp; (try with_reducible rfl))
              (skip; try simp only [Act.put])
              refine wpAnyH_take (i := 6) (v := ?_) rfl (by kernel_rfl) (by kernel_rfl) (by kernel_rfl) (fun _ _ _ h => h) (Or.inl ⟨by rfl, ?_⟩) (by assumption) ?_
              rotate_left
              · (intro w hSw; (try dsimp only at hSw); go_simp; (try with_reducible rfl))
              (skip; try simp only [Act.put])
              refine wpAnyH_ready (rs := [0]) (by kernel_rfl) (by simp) ?_
              refine AllReadyH.cons (o := _) rfl (fun K hK => ?_) ?_
              · go_simp
                go_at_call 43
                go_fit (words_any _)
                rintro e w' ⟨rfl, hws, hb⟩
                have hwq : w'.cell? ⟨wr.heap.size, 0, none⟩ = some (.string (Wb.S [103, 114, 111, 115, 115])) := by have := hws 0 _ rfl; simpa using this
                clear hws
                refine hK.out _ _ (hb.keep hHeld) (fun hHeld => ?_)
                clear hK K
                (skip; try simp only [Act.put, List.setIfInBounds_toArray, List.set_cons_zero, List.set_cons_succ])
                refine wpAnyH_take (i := 2) (v := ?_) rfl (by kernel_rfl) (by kernel_rfl) (by kernel_rfl) (fun _ _ _ h => h) (Or.inl ⟨by rfl, ?_⟩) (by assumption) ?_
                rotate_left
                · (intro w hSw; (try dsimp only at hSw); go_simp; (try with_reducible rfl))
                (skip; try simp only [Act.put, List.setIfInBounds_toArray])
                refine wpAnyH_ready (rs := [3]) (by kernel_rfl) (by simp) ?_
                refine AllReadyH.cons (o := _) rfl (fun K hK => ?_) ?_
                · go_simp
                  refine hK.out _ _ (by assumption) (fun hHeld => ?_)
                  clear hK K
                  (skip; try simp only [Act.put, List.setIfInBounds_toArray, List.set_cons_zero, List.set_cons_succ])
                  refine wpAnyH_take (i := 7) (v := ?_) rfl (by kernel_rfl) (by kernel_rfl) (by kernel_rfl) (fun _ _ _ h => h) (Or.inl ⟨by rfl, ?_⟩) (by assumption) ?_
                  rotate_left
                  · (intro w hSw; (try dsimp only at hSw); go_simp; (try with_reducible rfl))
                  (skip; try simp only [Act.put, List.setIfInBounds_toArray])
                  refine wpAnyH_done (by kernel_rfl) ?_ _
                  cases hq : (([103, 114, 111, 115, 115] : List UInt8) == a)
                  · have HPZ := Lib.hid (show partAt a (0 + 1) = pz by rw [partAt, if_neg, hpz]; intro h; have h2 := Option.some.inj h; rw [← h2] at hq; exact absurd hq (by decide))
                    clear hpz
                    go_wp2
                    go_roundw
                    case rel => exact ⟨0 + 1, by omega, by go_num, by rw [HPZ.out], by (repeat' (first | (with_reducible assumption) | (with_reducible exact Wb.Ext.refl _) | (with_reducible refine Wb.Ext.drew ?_) | (with_reducible refine Wb.Ext.drewN ?_ _) | (with_reducible refine Wb.Ext.alloc ?_ _) | (with_reducible refine Wb.Ext.trans ?_ (by assumption))))⟩
                    case measure => simp [intOf]
                  · have HPZ := Lib.hid (show partAt a (0 + 1) = 0 by rw [partAt, if_pos (show wordsL[0]? = some a from congrArg some (beq_iff_eq.1 hq))]; rfl)
                    clear hpz
                    go_wp2
                    go_roundw
                    case rel => exact ⟨0 + 1, by omega, by go_num, by rw [HPZ.out], by (repeat' (first | (with_reducible assumption) | (with_reducible exact Wb.Ext.refl _) | (with_reducible refine Wb.Ext.drew ?_) | (with_reducible refine Wb.Ext.drewN ?_ _) | (with_reducible refine Wb.Ext.alloc ?_ _) | (with_reducible refine Wb.Ext.trans ?_ (by assumption))))⟩
                    case measure => simp [intOf]
                exact AllReadyH.nil
              exact AllReadyH.nil
            · rw [show ((1 : Nat) : Int) = 1 from rfl]
              obtain ⟨pz, hpz⟩ : ∃ p, partAt a 1 = p := ⟨_, rfl⟩
              rw [hpz]
              go_wp2_with fail
              refine wp_region_held_drew (S := (fun w' => w'.cell? ⟨g2, 0, none⟩ = some (.string (Wb.S a)))) (by kernel_rfl) (cd sa) (fun hHeld => ?_)
              refine wpAnyH_take (i := 1) (v := ?_) rfl (by kernel_rfl) (by kernel_rfl) (by kernel_rfl) (fun _ _ _ h => h) (Or.inl ⟨by rfl, ?_⟩) (by assumption) ?_
              rotate_left
              · (intro w hSw; (try dsimp only at hSw); go_simp; (try with_reducible rfl))
              (skip; try simp only [Act.put, List.setIfInBounds_toArray])
              refine wpAnyH_take (i := 4) (v := ?_) rfl (by kernel_rfl) (by kernel_rfl) (by kernel_rfl) (fun _ _ _ h => h) (Or.inl ⟨by rfl, ?_⟩) (by assumption) ?_
              rotate_left
              · (intro w hSw; (try dsimp only at hSw); go_simp; (try with_reducible rfl))
              (skip; try simp only [Act.put])
              refine wpAnyH_take (i := 5) (v := ?_) rfl (by kernel_rfl) (by kernel_rfl) (by kernel_rfl) (fun _ _ _ h => h) (Or.inl ⟨by rfl, ?_⟩) (by assumption) ?_
              rotate_left
              · (intro w hSw; (try dsimp only at hSw); go_simp; (try with_reducible rfl))
              (skip; try simp only [Act.put])
              refine wpAnyH_take (i := 6) (v := ?_) rfl (by kernel_rfl) (by kernel_rfl) (by kernel_rfl) (fun _ _ _ h => h) (Or.inl ⟨by rfl, ?_⟩) (by assumption) ?_
              rotate_left
              · (intro w hSw; (try dsimp only at hSw); go_simp; (try with_reducible rfl))
              (skip; try simp only [Act.put])
              refine wpAnyH_ready (rs := [0]) (by kernel_rfl) (by simp) ?_
              refine AllReadyH.cons (o := _) rfl (fun K hK => ?_) ?_
              · go_simp
                go_at_call 43
                go_fit (words_any _)
                rintro e w' ⟨rfl, hws, hb⟩
                have hwq : w'.cell? ⟨wr.heap.size, 1, none⟩ = some (.string (Wb.S [98, 101, 102, 111, 114, 101])) := by have := hws 1 _ rfl; simpa using this
                clear hws
                refine hK.out _ _ (hb.keep hHeld) (fun hHeld => ?_)
                clear hK K
                (skip; try simp only [Act.put, List.setIfInBounds_toArray, List.set_cons_zero, List.set_cons_succ])
                refine wpAnyH_take (i := 2) (v := ?_) rfl (by kernel_rfl) (by kernel_rfl) (by kernel_rfl) (fun _ _ _ h => h) (Or.inl ⟨by rfl, ?_⟩) (by assumption) ?_
                rotate_left
                · (intro w hSw; (try dsimp only at hSw); go_simp; (try with_reducible rfl))
                (skip; try simp only [Act.put, List.setIfInBounds_toArray])
                refine wpAnyH_ready (rs := [3]) (by kernel_rfl) (by simp) ?_
                refine AllReadyH.cons (o := _) rfl (fun K hK => ?_) ?_
                · go_simp
                  refine hK.out _ _ (by assumption) (fun hHeld => ?_)
                  clear hK K
                  (skip; try simp only [Act.put, List.setIfInBounds_toArray, List.set_cons_zero, List.set_cons_succ])
                  refine wpAnyH_take (i := 7) (v := ?_) rfl (by kernel_rfl) (by kernel_rfl) (by kernel_rfl) (fun _ _ _ h => h) (Or.inl ⟨by rfl, ?_⟩) (by assumption) ?_
                  rotate_left
                  · (intro w hSw; (try dsimp only at hSw); go_simp; (try with_reducible rfl))
                  (skip; try simp only [Act.put, List.setIfInBounds_toArray])
                  refine wpAnyH_done (by kernel_rfl) ?_ _
                  cases hq : (([98, 101, 102, 111, 114, 101] : List UInt8) == a)
                  · have HPZ := Lib.hid (show partAt a (1 + 1) = pz by rw [partAt, if_neg, hpz]; intro h; have h2 := Option.some.inj h; rw [← h2] at hq; exact absurd hq (by decide))
                    clear hpz
                    go_wp2
                    go_roundw
                    case rel => exact ⟨1 + 1, by omega, by go_num, by rw [HPZ.out], by (repeat' (first | (with_reducible assumption) | (with_reducible exact Wb.Ext.refl _) | (with_reducible refine Wb.Ext.drew ?_) | (with_reducible refine Wb.Ext.drewN ?_ _) | (with_reducible refine Wb.Ext.alloc ?_ _) | (with_reducible refine Wb.Ext.trans ?_ (by assumption))))⟩
                    case measure => simp [intOf]
                  · have HPZ := Lib.hid (show partAt a (1 + 1) = 1 by rw [partAt, if_pos (show wordsL[1]? = some a from congrArg some (beq_iff_eq.1 hq))]; rfl)
                    clear hpz
                    go_wp2
                    go_roundw
                    case rel => exact ⟨1 + 1, by omega, by go_num, by rw [HPZ.out], by (repeat' (first | (with_reducible assumption) | (with_reducible exact Wb.Ext.refl _) | (with_reducible refine Wb.Ext.drew ?_) | (with_reducible refine Wb.Ext.drewN ?_ _) | (with_reducible refine Wb.Ext.alloc ?_ _) | (with_reducible refine Wb.Ext.trans ?_ (by assumption))))⟩
                    case measure => simp [intOf]
                exact AllReadyH.nil
              exact AllReadyH.nil
            · rw [show ((2 : Nat) : Int) = 2 from rfl]
              obtain ⟨pz, hpz⟩ : ∃ p, partAt a 2 = p := ⟨_, rfl⟩
              rw [hpz]
              go_wp2_with fail
              refine wp_region_held_drew (S := (fun w' => w'.cell? ⟨g2, 0, none⟩ = some (.string (Wb.S a)))) (by kernel_rfl) (cd sa) (fun hHeld => ?_)
              refine wpAnyH_take (i := 1) (v := ?_) rfl (by kernel_rfl) (by kernel_rfl) (by kernel_rfl) (fun _ _ _ h => h) (Or.inl ⟨by rfl, ?_⟩) (by assumption) ?_
              rotate_left
              · (intro w hSw; (try dsimp only at hSw); go_simp; (try with_reducible rfl))
              (skip; try simp only [Act.put, List.setIfInBounds_toArray])
              refine wpAnyH_take (i := 4) (v := ?_) rfl (by kernel_rfl) (by kernel_rfl) (by kernel_rfl) (fun _ _ _ h => h) (Or.inl ⟨by rfl, ?_⟩) (by assumption) ?_
              rotate_left
              · (intro w hSw; (try dsimp only at hSw); go_simp; (try with_reducible rfl))
              (skip; try simp only [Act.put])
              refine wpAnyH_take (i := 5) (v := ?_) rfl (by kernel_rfl) (by kernel_rfl) (by kernel_rfl) (fun _ _ _ h => h) (Or.inl ⟨by rfl, ?_⟩) (by assumption) ?_
              rotate_left
              · (intro w hSw; (try dsimp only at hSw); go_simp; (try with_reducible rfl))
              (skip; try simp only [Act.put])
              refine wpAnyH_take (i := 6) (v := ?_) rfl (by kernel_rfl) (by kernel_rfl) (by kernel_rfl) (fun _ _ _ h => h) (Or.inl ⟨by rfl, ?_⟩) (by assumption) ?_
              rotate_left
              · (intro w hSw; (try dsimp only at hSw); go_simp; (try with_reducible rfl))
              (skip; try simp only [Act.put])
              refine wpAnyH_ready (rs := [0]) (by kernel_rfl) (by simp) ?_
              refine AllReadyH.cons (o := _) rfl (fun K hK => ?_) ?_
              · go_simp
                go_at_call 43
                go_fit (words_any _)
                rintro e w' ⟨rfl, hws, hb⟩
                have hwq : w'.cell? ⟨wr.heap.size, 2, none⟩ = some (.string (Wb.S [119, 111, 114, 107, 101, 114])) := by have := hws 2 _ rfl; simpa using this
                clear hws
                refine hK.out _ _ (hb.keep hHeld) (fun hHeld => ?_)
                clear hK K
                (skip; try simp only [Act.put, List.setIfInBounds_toArray, List.set_cons_zero, List.set_cons_succ])
                refine wpAnyH_take (i := 2) (v := ?_) rfl (by kernel_rfl) (by kernel_rfl) (by kernel_rfl) (fun _ _ _ h => h) (Or.inl ⟨by rfl, ?_⟩) (by assumption) ?_
                rotate_left
                · (intro w hSw; (try dsimp only at hSw); go_simp; (try with_reducible rfl))
                (skip; try simp only [Act.put, List.setIfInBounds_toArray])
                refine wpAnyH_ready (rs := [3]) (by kernel_rfl) (by simp) ?_
                refine AllReadyH.cons (o := _) rfl (fun K hK => ?_) ?_
                · go_simp
                  refine hK.out _ _ (by assumption) (fun hHeld => ?_)
                  clear hK K
                  (skip; try simp only [Act.put, List.setIfInBounds_toArray, List.set_cons_zero, List.set_cons_succ])
                  refine wpAnyH_take (i := 7) (v := ?_) rfl (by kernel_rfl) (by kernel_rfl) (by kernel_rfl) (fun _ _ _ h => h) (Or.inl ⟨by rfl, ?_⟩) (by assumption) ?_
                  rotate_left
                  · (intro w hSw; (try dsimp only at hSw); go_simp; (try with_reducible rfl))
                  (skip; try simp only [Act.put, List.setIfInBounds_toArray])
                  refine wpAnyH_done (by kernel_rfl) ?_ _
                  cases hq : (([119, 111, 114, 107, 101, 114] : List UInt8) == a)
                  · have HPZ := Lib.hid (show partAt a (2 + 1) = pz by rw [partAt, if_neg, hpz]; intro h; have h2 := Option.some.inj h; rw [← h2] at hq; exact absurd hq (by decide))
                    clear hpz
                    go_wp2
                    go_roundw
                    case rel => exact ⟨2 + 1, by omega, by go_num, by rw [HPZ.out], by (repeat' (first | (with_reducible assumption) | (with_reducible exact Wb.Ext.refl _) | (with_reducible refine Wb.Ext.drew ?_) | (with_reducible refine Wb.Ext.drewN ?_ _) | (with_reducible refine Wb.Ext.alloc ?_ _) | (with_reducible refine Wb.Ext.trans ?_ (by assumption))))⟩
                    case measure => simp [intOf]
                  · have HPZ := Lib.hid (show partAt a (2 + 1) = 2 by rw [partAt, if_pos (show wordsL[2]? = some a from congrArg some (beq_iff_eq.1 hq))]; rfl)
                    clear hpz
                    go_wp2
                    go_roundw
                    case rel => exact ⟨2 + 1, by omega, by go_num, by rw [HPZ.out], by (repeat' (first | (with_reducible assumption) | (with_reducible exact Wb.Ext.refl _) | (with_reducible refine Wb.Ext.drew ?_) | (with_reducible refine Wb.Ext.drewN ?_ _) | (with_reducible refine Wb.Ext.alloc ?_ _) | (with_reducible refine Wb.Ext.trans ?_ (by assumption))))⟩
                    case measure => simp [intOf]
                exact AllReadyH.nil
              exact AllReadyH.nil
            · rw [show ((3 : Nat) : Int) = 3 from rfl]
              obtain ⟨pz, hpz⟩ : ∃ p, partAt a 3 = p := ⟨_, rfl⟩
              rw [hpz]
              go_wp2_with fail
              refine wp_region_held_drew (S := (fun w' => w'.cell? ⟨g2, 0, none⟩ = some (.string (Wb.S a)))) (by kernel_rfl) (cd sa) (fun hHeld => ?_)
              refine wpAnyH_take (i := 1) (v := ?_) rfl (by kernel_rfl) (by kernel_rfl) (by kernel_rfl) (fun _ _ _ h => h) (Or.inl ⟨by rfl, ?_⟩) (by assumption) ?_
              rotate_left
              · (intro w hSw; (try dsimp only at hSw); go_simp; (try with_reducible rfl))
              (skip; try simp only [Act.put, List.setIfInBounds_toArray])
              refine wpAnyH_take (i := 4) (v := ?_) rfl (by kernel_rfl) (by kernel_rfl) (by kernel_rfl) (fun _ _ _ h => h) (Or.inl ⟨by rfl, ?_⟩) (by assumption) ?_
              rotate_left
              · (intro w hSw; (try dsimp only at hSw); go_simp; (try with_reducible rfl))
              (skip; try simp only [Act.put])
              refine wpAnyH_take (i := 5) (v := ?_) rfl (by kernel_rfl) (by kernel_rfl) (by kernel_rfl) (fun _ _ _ h => h) (Or.inl ⟨by rfl, ?_⟩) (by assumption) ?_
              rotate_left
              · (intro w hSw; (try dsimp only at hSw); go_simp; (try with_reducible rfl))
              (skip; try simp only [Act.put])
              refine wpAnyH_take (i := 6) (v := ?_) rfl (by kernel_rfl) (by kernel_rfl) (by kernel_rfl) (fun _ _ _ h => h) (Or.inl ⟨by rfl, ?_⟩) (by assumption) ?_
              rotate_left
              · (intro w hSw; (try dsimp only at hSw); go_simp; (try with_reducible rfl))
              (skip; try simp only [Act.put])
              refine wpAnyH_ready (rs := [0]) (by kernel_rfl) (by simp) ?_
              refine AllReadyH.cons (o := _) rfl (fun K hK => ?_) ?_
              · go_simp
                go_at_call 43
                go_fit (words_any _)
                rintro e w' ⟨rfl, hws, hb⟩
                have hwq : w'.cell? ⟨wr.heap.size, 3, none⟩ = some (.string (Wb.S [116, 97, 120])) := by have := hws 3 _ rfl; simpa using this
                clear hws
                refine hK.out _ _ (hb.keep hHeld) (fun hHeld => ?_)
                clear hK K
                (skip; try simp only [Act.put, List.setIfInBounds_toArray, List.set_cons_zero, List.set_cons_succ])
                refine wpAnyH_take (i := 2) (v := ?_) rfl (by kernel_rfl) (by kernel_rfl) (by kernel_rfl) (fun _ _ _ h => h) (Or.inl ⟨by rfl, ?_⟩) (by assumption) ?_
                rotate_left
                · (intro w hSw; (try dsimp only at hSw); go_simp; (try with_reducible rfl))
                (skip; try simp only [Act.put, List.setIfInBounds_toArray])
                refine wpAnyH_ready (rs := [3]) (by kernel_rfl) (by simp) ?_
                refine AllReadyH.cons (o := _) rfl (fun K hK => ?_) ?_
                · go_simp
                  refine hK.out _ _ (by assumption) (fun hHeld => ?_)
                  clear hK K
                  (skip; try simp only [Act.put, List.setIfInBounds_toArray, List.set_cons_zero, List.set_cons_succ])
                  refine wpAnyH_take (i := 7) (v := ?_) rfl (by kernel_rfl) (by kernel_rfl) (by kernel_rfl) (fun _ _ _ h => h) (Or.inl ⟨by rfl, ?_⟩) (by assumption) ?_
                  rotate_left
                  · (intro w hSw; (try dsimp only at hSw); go_simp; (try with_reducible rfl))
                  (skip; try simp only [Act.put, List.setIfInBounds_toArray])
                  refine wpAnyH_done (by kernel_rfl) ?_ _
                  cases hq : (([116, 97, 120] : List UInt8) == a)
                  · have HPZ := Lib.hid (show partAt a (3 + 1) = pz by rw [partAt, if_neg, hpz]; intro h; have h2 := Option.some.inj h; rw [← h2] at hq; exact absurd hq (by decide))
                    clear hpz
                    go_wp2
                    go_roundw
                    case rel => exact ⟨3 + 1, by omega, by go_num, by rw [HPZ.out], by (repeat' (first | (with_reducible assumption) | (with_reducible exact Wb.Ext.refl _) | (with_reducible refine Wb.Ext.drew ?_) | (with_reducible refine Wb.Ext.drewN ?_ _) | (with_reducible refine Wb.Ext.alloc ?_ _) | (with_reducible refine Wb.Ext.trans ?_ (by assumption))))⟩
                    case measure => simp [intOf]
                  · have HPZ := Lib.hid (show partAt a (3 + 1) = 3 by rw [partAt, if_pos (show wordsL[3]? = some a from congrArg some (beq_iff_eq.1 hq))]; rfl)
                    clear hpz
                    go_wp2
                    go_roundw
                    case rel => exact ⟨3 + 1, by omega, by go_num, by rw [HPZ.out], by (repeat' (first | (with_reducible assumption) | (with_reducible exact Wb.Ext.refl _) | (with_reducible refine Wb.Ext.drew ?_) | (with_reducible refine Wb.Ext.drewN ?_ _) | (with_reducible refine Wb.Ext.alloc ?_ _) | (with_reducible refine Wb.Ext.trans ?_ (by assumption))))⟩
                    case measure => simp [intOf]
                exact AllReadyH.nil
              exact AllReadyH.nil
            · rw [show ((4 : Nat) : Int) = 4 from rfl]
              obtain ⟨pz, hpz⟩ : ∃ p, partAt a 4 = p := ⟨_, rfl⟩
              rw [hpz]
              go_wp2_with fail
              refine wp_region_held_drew (S := (fun w' => w'.cell? ⟨g2, 0, none⟩ = some (.string (Wb.S a)))) (by kernel_rfl) (cd sa) (fun hHeld => ?_)
              refine wpAnyH_take (i := 1) (v := ?_) rfl (by kernel_rfl) (by kernel_rfl) (by kernel_rfl) (fun _ _ _ h => h) (Or.inl ⟨by rfl, ?_⟩) (by assumption) ?_
              rotate_left
              · (intro w hSw; (try dsimp only at hSw); go_simp; (try with_reducible rfl))
              (skip; try simp only [Act.put, List.setIfInBounds_toArray])
              refine wpAnyH_take (i := 4) (v := ?_) rfl (by kernel_rfl) (by kernel_rfl) (by kernel_rfl) (fun _ _ _ h => h) (Or.inl ⟨by rfl, ?_⟩) (by assumption) ?_
              rotate_left
              · (intro w hSw; (try dsimp only at hSw); go_simp; (try with_reducible rfl))
              (skip; try simp only [Act.put])
              refine wpAnyH_take (i := 5) (v := ?_) rfl (by kernel_rfl) (by kernel_rfl) (by kernel_rfl) (fun _ _ _ h => h) (Or.inl ⟨by rfl, ?_⟩) (by assumption) ?_
              rotate_left
              · (intro w hSw; (try dsimp only at hSw); go_simp; (try with_reducible rfl))
              (skip; try simp only [Act.put])
              refine wpAnyH_take (i := 6) (v := ?_) rfl (by kernel_rfl) (by kernel_rfl) (by kernel_rfl) (fun _ _ _ h => h) (Or.inl ⟨by rfl, ?_⟩) (by assumption) ?_
              rotate_left
              · (intro w hSw; (try dsimp only at hSw); go_simp; (try with_reducible rfl))
              (skip; try simp only [Act.put])
              refine wpAnyH_ready (rs := [0]) (by kernel_rfl) (by simp) ?_
              refine AllReadyH.cons (o := _) rfl (fun K hK => ?_) ?_
              · go_simp
                go_at_call 43
                go_fit (words_any _)
                rintro e w' ⟨rfl, hws, hb⟩
                have hwq : w'.cell? ⟨wr.heap.size, 4, none⟩ = some (.string (Wb.S [97, 102, 116, 101, 114])) := by have := hws 4 _ rfl; simpa using this
                clear hws
                refine hK.out _ _ (hb.keep hHeld) (fun hHeld => ?_)
                clear hK K
                (skip; try simp only [Act.put, List.setIfInBounds_toArray, List.set_cons_zero, List.set_cons_succ])
                refine wpAnyH_take (i := 2) (v := ?_) rfl (by kernel_rfl) (by kernel_rfl) (by kernel_rfl) (fun _ _ _ h => h) (Or.inl ⟨by rfl, ?_⟩) (by assumption) ?_
                rotate_left
                · (intro w hSw; (try dsimp only at hSw); go_simp; (try with_reducible rfl))
                (skip; try simp only [Act.put, List.setIfInBounds_toArray])
                refine wpAnyH_ready (rs := [3]) (by kernel_rfl) (by simp) ?_
                refine AllReadyH.cons (o := _) rfl (fun K hK => ?_) ?_
                · go_simp
                  refine hK.out _ _ (by assumption) (fun hHeld => ?_)
                  clear hK K
                  (skip; try simp only [Act.put, List.setIfInBounds_toArray, List.set_cons_zero, List.set_cons_succ])
                  refine wpAnyH_take (i := 7) (v := ?_) rfl (by kernel_rfl) (by kernel_rfl) (by kernel_rfl) (fun _ _ _ h => h) (Or.inl ⟨by rfl, ?_⟩) (by assumption) ?_
                  rotate_left
                  · (intro w hSw; (try dsimp only at hSw); go_simp; (try with_reducible rfl))
                  (skip; try simp only [Act.put, List.setIfInBounds_toArray])
                  refine wpAnyH_done (by kernel_rfl) ?_ _
                  cases hq : (([97, 102, 116, 101, 114] : List UInt8) == a)
                  · have HPZ := Lib.hid (show partAt a (4 + 1) = pz by rw [partAt, if_neg, hpz]; intro h; have h2 := Option.some.inj h; rw [← h2] at hq; exact absurd hq (by decide))
                    clear hpz
                    go_wp2
                    go_roundw
                    case rel => exact ⟨4 + 1, by omega, by go_num, by rw [HPZ.out], by (repeat' (first | (with_reducible assumption) | (with_reducible exact Wb.Ext.refl _) | (with_reducible refine Wb.Ext.drew ?_) | (with_reducible refine Wb.Ext.drewN ?_ _) | (with_reducible refine Wb.Ext.alloc ?_ _) | (with_reducible refine Wb.Ext.trans ?_ (by assumption))))⟩
                    case measure => simp [intOf]
                  · have HPZ := Lib.hid (show partAt a (4 + 1) = 4 by rw [partAt, if_pos (show wordsL[4]? = some a from congrArg some (beq_iff_eq.1 hq))]; rfl)
                    clear hpz
                    go_wp2
                    go_roundw
                    case rel => exact ⟨4 + 1, by omega, by go_num, by rw [HPZ.out], by (repeat' (first | (with_reducible assumption) | (with_reducible exact Wb.Ext.refl _) | (with_reducible refine Wb.Ext.drew ?_) | (with_reducible refine Wb.Ext.drewN ?_ _) | (with_reducible refine Wb.Ext.alloc ?_ _) | (with_reducible refine Wb.Ext.trans ?_ (by assumption))))⟩
                    case measure => simp [intOf]
                exact AllReadyH.nil
              exact AllReadyH.nil
            · rw [show ((5 : Nat) : Int) = 5 from rfl]
              obtain ⟨pz, hpz⟩ : ∃ p, partAt a 5 = p := ⟨_, rfl⟩
              rw [hpz]
              go_wp2_with fail
              refine wp_region_held_drew (S := (fun w' => w'.cell? ⟨g2, 0, none⟩ = some (.string (Wb.S a)))) (by kernel_rfl) (cd sa) (fun hHeld => ?_)
              refine wpAnyH_take (i := 1) (v := ?_) rfl (by kernel_rfl) (by kernel_rfl) (by kernel_rfl) (fun _ _ _ h => h) (Or.inl ⟨by rfl, ?_⟩) (by assumption) ?_
              rotate_left
              · (intro w hSw; (try dsimp only at hSw); go_simp; (try with_reducible rfl))
              (skip; try simp only [Act.put, List.setIfInBounds_toArray])
              refine wpAnyH_take (i := 4) (v := ?_) rfl (by kernel_rfl) (by kernel_rfl) (by kernel_rfl) (fun _ _ _ h => h) (Or.inl ⟨by rfl, ?_⟩) (by assumption) ?_
              rotate_left
              · (intro w hSw; (try dsimp only at hSw); go_simp; (try with_reducible rfl))
              (skip; try simp only [Act.put])
              refine wpAnyH_take (i := 5) (v := ?_) rfl (by kernel_rfl) (by kernel_rfl) (by kernel_rfl) (fun _ _ _ h => h) (Or.inl ⟨by rfl, ?_⟩) (by assumption) ?_
              rotate_left
              · (intro w hSw; (try dsimp only at hSw); go_simp; (try with_reducible rfl))
              (skip; try simp only [Act.put])
              refine wpAnyH_take (i := 6) (v := ?_) rfl (by kernel_rfl) (by kernel_rfl) (by kernel_rfl) (fun _ _ _ h => h) (Or.inl ⟨by rfl, ?_⟩) (by assumption) ?_
              rotate_left
              · (intro w hSw; (try dsimp only at hSw); go_simp; (try with_reducible rfl))
              (skip; try simp only [Act.put])
              refine wpAnyH_ready (rs := [0]) (by kernel_rfl) (by simp) ?_
              refine AllReadyH.cons (o := _) rfl (fun K hK => ?_) ?_
              · go_simp
                go_at_call 43
                go_fit (words_any _)
                rintro e w' ⟨rfl, hws, hb⟩
                have hwq : w'.cell? ⟨wr.heap.size, 5, none⟩ = some (.string (Wb.S [111, 114, 100, 101, 114, 115])) := by have := hws 5 _ rfl; simpa using this
                clear hws
                refine hK.out _ _ (hb.keep hHeld) (fun hHeld => ?_)
                clear hK K
                (skip; try simp only [Act.put, List.setIfInBounds_toArray, List.set_cons_zero, List.set_cons_succ])
                refine wpAnyH_take (i := 2) (v := ?_) rfl (by kernel_rfl) (by kernel_rfl) (by kernel_rfl) (fun _ _ _ h => h) (Or.inl ⟨by rfl, ?_⟩) (by assumption) ?_
                rotate_left
                · (intro w hSw; (try dsimp only at hSw); go_simp; (try with_reducible rfl))
                (skip; try simp only [Act.put, List.setIfInBounds_toArray])
                refine wpAnyH_ready (rs := [3]) (by kernel_rfl) (by simp) ?_
                refine AllReadyH.cons (o := _) rfl (fun K hK => ?_) ?_
                · go_simp
                  refine hK.out _ _ (by assumption) (fun hHeld => ?_)
                  clear hK K
                  (skip; try simp only [Act.put, List.setIfInBounds_toArray, List.set_cons_zero, List.set_cons_succ])
                  refine wpAnyH_take (i := 7) (v := ?_) rfl (by kernel_rfl) (by kernel_rfl) (by kernel_rfl) (fun _ _ _ h => h) (Or.inl ⟨by rfl, ?_⟩) (by assumption) ?_
                  rotate_left
                  · (intro w hSw; (try dsimp only at hSw); go_simp; (try with_reducible rfl))
                  (skip; try simp only [Act.put, List.setIfInBounds_toArray])
                  refine wpAnyH_done (by kernel_rfl) ?_ _
                  cases hq : (([111, 114, 100, 101, 114, 115] : List UInt8) == a)
                  · have HPZ := Lib.hid (show partAt a (5 + 1) = pz by rw [partAt, if_neg, hpz]; intro h; have h2 := Option.some.inj h; rw [← h2] at hq; exact absurd hq (by decide))
                    clear hpz
                    go_wp2
                    go_roundw
                    case rel => exact ⟨5 + 1, by omega, by go_num, by rw [HPZ.out], by (repeat' (first | (with_reducible assumption) | (with_reducible exact Wb.Ext.refl _) | (with_reducible refine Wb.Ext.drew ?_) | (with_reducible refine Wb.Ext.drewN ?_ _) | (with_reducible refine Wb.Ext.alloc ?_ _) | (with_reducible refine Wb.Ext.trans ?_ (by assumption))))⟩
                    case measure => simp [intOf]
                  · have HPZ := Lib.hid (show partAt a (5 + 1) = 5 by rw [partAt, if_pos (show wordsL[5]? = some a from congrArg some (beq_iff_eq.1 hq))]; rfl)
                    clear hpz
                    go_wp2
                    go_roundw
                    case rel => exact ⟨5 + 1, by omega, by go_num, by rw [HPZ.out], by (repeat' (first | (with_reducible assumption) | (with_reducible exact Wb.Ext.refl _) | (with_reducible refine Wb.Ext.drew ?_) | (with_reducible refine Wb.Ext.drewN ?_ _) | (with_reducible refine Wb.Ext.alloc ?_ _) | (with_reducible refine Wb.Ext.trans ?_ (by assumption))))⟩
                    case measure => simp [intOf]
                exact AllReadyH.nil
              exact AllReadyH.nil
            · rw [show ((6 : Nat) : Int) = 6 from rfl]
              obtain ⟨pz, hpz⟩ : ∃ p, partAt a 6 = p := ⟨_, rfl⟩
              rw [hpz]
              go_wp2_with fail
              refine wp_region_held_drew (S := (fun w' => w'.cell? ⟨g2, 0, none⟩ = some (.string (Wb.S a)))) (by kernel_rfl) (cd sa) (fun hHeld => ?_)
              refine wpAnyH_take (i := 1) (v := ?_) rfl (by kernel_rfl) (by kernel_rfl) (by kernel_rfl) (fun _ _ _ h => h) (Or.inl ⟨by rfl, ?_⟩) (by assumption) ?_
              rotate_left
              · (intro w hSw; (try dsimp only at hSw); go_simp; (try with_reducible rfl))
              (skip; try simp only [Act.put, List.setIfInBounds_toArray])
              refine wpAnyH_take (i := 4) (v := ?_) rfl (by kernel_rfl) (by kernel_rfl) (by kernel_rfl) (fun _ _ _ h => h) (Or.inl ⟨by rfl, ?_⟩) (by assumption) ?_
              rotate_left
              · (intro w hSw; (try dsimp only at hSw); go_simp; (try with_reducible rfl))
              (skip; try simp only [Act.put])
              refine wpAnyH_take (i := 5) (v := ?_) rfl (by kernel_rfl) (by kernel_rfl) (by kernel_rfl) (fun _ _ _ h => h) (Or.inl ⟨by rfl, ?_⟩) (by assumption) ?_
              rotate_left
              · (intro w hSw; (try dsimp only at hSw); go_simp; (try with_reducible rfl))
              (skip; try simp only [Act.put])
              refine wpAnyH_take (i := 6) (v := ?_) rfl (by kernel_rfl) (by kernel_rfl) (by kernel_rfl) (fun _ _ _ h => h) (Or.inl ⟨by rfl, ?_⟩) (by assumption) ?_
              rotate_left
              · (intro w hSw; (try dsimp only at hSw); go_simp; (try with_reducible rfl))
              (skip; try simp only [Act.put])
              refine wpAnyH_ready (rs := [0]) (by kernel_rfl) (by simp) ?_
              refine AllReadyH.cons (o := _) rfl (fun K hK => ?_) ?_
              · go_simp
                go_at_call 43
                go_fit (words_any _)
                rintro e w' ⟨rfl, hws, hb⟩
                have hwq : w'.cell? ⟨wr.heap.size, 6, none⟩ = some (.string (Wb.S [102, 105, 114, 109])) := by have := hws 6 _ rfl; simpa using this
                clear hws
                refine hK.out _ _ (hb.keep hHeld) (fun hHeld => ?_)
                clear hK K
                (skip; try simp only [Act.put, List.setIfInBounds_toArray, List.set_cons_zero, List.set_cons_succ])
                refine wpAnyH_take (i := 2) (v := ?_) rfl (by kernel_rfl) (by kernel_rfl) (by kernel_rfl) (fun _ _ _ h => h) (Or.inl ⟨by rfl, ?_⟩) (by assumption) ?_
                rotate_left
                · (intro w hSw; (try dsimp only at hSw); go_simp; (try with_reducible rfl))
                (skip; try simp only [Act.put, List.setIfInBounds_toArray])
                refine wpAnyH_ready (rs := [3]) (by kernel_rfl) (by simp) ?_
                refine AllReadyH.cons (o := _) rfl (fun K hK => ?_) ?_
                · go_simp
                  refine hK.out _ _ (by assumption) (fun hHeld => ?_)
                  clear hK K
                  (skip; try simp only [Act.put, List.setIfInBounds_toArray, List.set_cons_zero, List.set_cons_succ])
                  refine wpAnyH_take (i := 7) (v := ?_) rfl (by kernel_rfl) (by kernel_rfl) (by kernel_rfl) (fun _ _ _ h => h) (Or.inl ⟨by rfl, ?_⟩) (by assumption) ?_
                  rotate_left
                  · (intro w hSw; (try dsimp only at hSw); go_simp; (try with_reducible rfl))
                  (skip; try simp only [Act.put, List.setIfInBounds_toArray])
                  refine wpAnyH_done (by kernel_rfl) ?_ _
                  cases hq : (([102, 105, 114, 109] : List UInt8) == a)
                  · have HPZ := Lib.hid (show partAt a (6 + 1) = pz by rw [partAt, if_neg, hpz]; intro h; have h2 := Option.some.inj h; rw [← h2] at hq; exact absurd hq (by decide))
                    clear hpz
                    go_wp2
                    go_roundw
                    case rel => exact ⟨6 + 1, by omega, by go_num, by rw [HPZ.out], by (repeat' (first | (with_reducible assumption) | (with_reducible exact Wb.Ext.refl _) | (with_reducible refine Wb.Ext.drew ?_) | (with_reducible refine Wb.Ext.drewN ?_ _) | (with_reducible refine Wb.Ext.alloc ?_ _) | (with_reducible refine Wb.Ext.trans ?_ (by assumption))))⟩
                    case measure => simp [intOf]
                  · have HPZ := Lib.hid (show partAt a (6 + 1) = 6 by rw [partAt, if_pos (show wordsL[6]? = some a from congrArg some (beq_iff_eq.1 hq))]; rfl)
                    clear hpz
                    go_wp2
                    go_roundw
                    case rel => exact ⟨6 + 1, by omega, by go_num, by rw [HPZ.out], by (repeat' (first | (with_reducible assumption) | (with_reducible exact Wb.Ext.refl _) | (with_reducible refine Wb.Ext.drew ?_) | (with_reducible refine Wb.Ext.drewN ?_ _) | (with_reducible refine Wb.Ext.alloc ?_ _) | (with_reducible refine Wb.Ext.trans ?_ (by assumption))))⟩
                    case measure => simp [intOf]
                exact AllReadyH.nil
              exact AllReadyH.nil
            · rw [show ((7 : Nat) : Int) = 7 from rfl]
              have q0 := hextq.keep q0
              have q1 := hextq.keep q1
              have q2 := hextq.keep q2
              have qf : ∀ j, wr.frozen? ⟨w.heap.size, j, none⟩ = false := fun j => (Below.frozen hextq (by simp; omega)).trans (qf j)
              have hc0 := hextq.keep hc0
              have hc1 := hextq.keep hc1
              have hc2 := hextq.keep hc2
              have hcf : ∀ j, wr.frozen? ⟨w2.heap.size, j, none⟩ = false := fun j => (Below.frozen hextq (by simp; omega)).trans (hcf j)
              have HO := Lib.hid (row_ext HO.out hextq)
              have hext : Wb.Ext w2 wr := hext.trans hextq
              have hew : Wb.Ext w wr := hew.trans hextq
              have hzr := Wb.cell_size hc0
              have sb := hextq.keep sb
              have sc := hextq.keep sc
              clear hextq sa hq7
              obtain ⟨pa, hpa⟩ : ∃ p, partAt a 7 = p := ⟨_, rfl⟩
              have HPA := Lib.hid hpa
              have hplow := partAt_low a 7
              rw [hpa] at hplow
              have hpseven := partAt_seven a
              rw [hpa] at hpseven
              have HP7 := Lib.hid hpseven
              obtain ⟨pc, hpc⟩ : ∃ p, Wb.parse c = p := ⟨_, rfl⟩
              obtain ⟨pv, pe⟩ := pc
              have HPC := Lib.hid hpc
              rw [hpa]
              clear hpc hpa hpseven
              go_wp2_with fail
              refine (rparse_any c (by omega) _).mono ?_; rintro e w' ⟨rfl, rfl⟩
              rw [HPC.out]
              by_cases hpn : pa < 0
              case pos =>
                have HM3 := Lib.hid (HBAD.out (by
                  rw [HRO2.out]
                  rcases HP7.out with ⟨_, h⟩ | ⟨k, h, _⟩
                  · rw [h]
                  · omega))
                go_wp2
                refine bodyPost_ret (v := .tuple #[.agg #[.int .i64 0, .int .i64 0, .slice none 0 0], .int .i64 3]) (by simp [results, Tryd.results24, go_sem, q0, q1, q2]) rfl ⟨.slice none 0 0, by rw [HM3.out] <;> rfl, by rw [HM3.out]; exact .inl ⟨rfl, _, _, rfl⟩, xset (xset (xset hew (by simp) _) (by simp) _) (by simp) _⟩
              have hpd : decide (pa < 0) = false := by simpa using hpn
              cases hpe : (pe == 0)
              case false =>
                have HM3 := Lib.hid (HBAD.out (by
                  rw [HRO2.out]
                  cases Wb.wordIx a with
                  | none => rfl
                  | some k => simp only; rw [HPC.out, if_neg (by simpa using hpe)]))
                go_wp2
                refine bodyPost_ret (v := .tuple #[.agg #[.int .i64 0, .int .i64 0, .slice none 0 0], .int .i64 3]) (by simp [results, Tryd.results24, go_sem, q0, q1, q2]) rfl ⟨.slice none 0 0, by rw [HM3.out] <;> rfl, by rw [HM3.out]; exact .inl ⟨rfl, _, _, rfl⟩, xset (xset (xset hew (by simp) _) (by simp) _) (by simp) _⟩
              have HR3 := Lib.hid (show Wb.readOf s = some ⟨pa, b, pv⟩ by
                rw [HRO2.out]
                rcases HP7.out with ⟨h, _⟩ | ⟨k, h, h2⟩
                · omega
                · rw [h2]; simp only; rw [HPC.out, if_pos (by simpa using hpe), h])
              have HR2 := Lib.hid (show Wb.readAll (M.take (k + 1)) = some (d ++ [⟨pa, b, pv⟩]) by rw [HTN.out, Wb.readAll_snoc, HRD.out]; simp only [HR3.out]; rfl)
              clear hpn q0 q1 q2 qf sc
              obtain ⟨hi1, hi2, hi3, hi4⟩ := HIN.out
              have hsz9 : w2.heap.size + 1 ≤ wr.heap.size := by omega
              go_wp2_with fail
              go_region_law ((refine step_append_lies _ (by rfl) _ _ _ (by rfl) (w2.heap.size + 1) 39 i0 (.agg #[.int .i64 0, .string "".toUTF8, .int .i64 0]) 3 32 Tryd.underlying22 hi1 hi2 hi3 hi4 (by rfl) (by decide) _ _ _ (by rfl) (HO.out.alloc _) _ 1 _ (lnv ⟨pa, b, pv⟩) (by rfl) (by rfl) (World.news_of_block (heap_alloc_new _ _)) (by intro r hr; simp [lnv] at hr; rcases hr with rfl | rfl | rfl <;> rfl) (by decide) (by unfold maxLen; omega) (by omega) (by simp; omega) (wr.heap.size + 1) (by simp) ?_; intro gg cc w4 hown4 hg4 hat4 hlt4; have g2 : w4.cell? ⟨w2.heap.size, 2, none⟩ = some (.slice oa k oc) := (hg4.cell_far _ (by simp; omega) hne).trans (Wb.Ext.keep (by (repeat' (first | (with_reducible assumption) | (with_reducible exact Wb.Ext.refl _) | (with_reducible refine Wb.Ext.drew ?_) | (with_reducible refine Wb.Ext.drewN ?_ _) | (with_reducible refine Wb.Ext.alloc ?_ _) | (with_reducible refine Wb.Ext.trans ?_ (by assumption))))) hc2); have g0 : w4.cell? ⟨w2.heap.size, 0, none⟩ = some (.int .i64 y) := (hg4.cell_far _ (by simp; omega) hne).trans (Wb.Ext.keep (by (repeat' (first | (with_reducible assumption) | (with_reducible exact Wb.Ext.refl _) | (with_reducible refine Wb.Ext.drew ?_) | (with_reducible refine Wb.Ext.drewN ?_ _) | (with_reducible refine Wb.Ext.alloc ?_ _) | (with_reducible refine Wb.Ext.trans ?_ (by assumption))))) hc0); have g1 : w4.cell? ⟨w2.heap.size, 1, none⟩ = some (.int .i64 i) := (hg4.cell_far _ (by simp; omega) hne).trans (Wb.Ext.keep (by (repeat' (first | (with_reducible assumption) | (with_reducible exact Wb.Ext.refl _) | (with_reducible refine Wb.Ext.drew ?_) | (with_reducible refine Wb.Ext.drewN ?_ _) | (with_reducible refine Wb.Ext.alloc ?_ _) | (with_reducible refine Wb.Ext.trans ?_ (by assumption))))) hc1); have gf : ∀ j, w4.frozen? ⟨w2.heap.size, j, none⟩ = false := fun j => (hg4.frozen_far _ (by simp; omega) hne).trans ((Below.frozen (show Wb.Ext wr _ by (repeat' (first | (with_reducible assumption) | (with_reducible exact Wb.Ext.refl _) | (with_reducible refine Wb.Ext.drew ?_) | (with_reducible refine Wb.Ext.drewN ?_ _) | (with_reducible refine Wb.Ext.alloc ?_ _) | (with_reducible refine Wb.Ext.trans ?_ (by assumption))))) (by simp; omega)).trans (hcf j)); have hE4 : Wb.Ext w2 w4 := Wb.Ext.grown (show Wb.Ext w2 _ by (repeat' (first | (with_reducible assumption) | (with_reducible exact Wb.Ext.refl _) | (with_reducible refine Wb.Ext.drew ?_) | (with_reducible refine Wb.Ext.drewN ?_ _) | (with_reducible refine Wb.Ext.alloc ?_ _) | (with_reducible refine Wb.Ext.trans ?_ (by assumption))))) hg4 (fun r hr => by have := HO.out.lt r hr; omega)))
              all_goals
                have hE5 := ext_set hE4 (p := ⟨w2.heap.size, 2, none⟩) (by simp) (.slice (some ⟨gg, 0, none⟩) (k + 1) cc)
                have HO4 := Lib.hid (row_set hown4 (p := ⟨w2.heap.size, 2, none⟩) (by simp) (.slice (some ⟨gg, 0, none⟩) (k + 1) cc))
                clear hown4 hg4 hat4 hlt4 hE4
                go_wp2
                go_roundw
                case rel =>
                  refine ⟨k + 1, d ++ [⟨pa, b, pv⟩], .slice (some ⟨gg, 0, none⟩) (k + 1) cc, by go_num, by omega, HR2.out, ?_, by simp [go_sem, g0], by simp [go_sem, g1], by simp [go_sem, g2], by intro j; simp [go_sem, gf], hE5⟩
                  rw [lnvs_app]
                  simpa [lnvs] using HO4.out
                case measure => simp [intOf] <;> omega
        · have hke : k = n := by omega
          subst hke
          have hkd : decide ((k : Int) + 1 < (k : Int) + 1) = false := by simp
          have hrd := HRD.out
          rw [List.take_of_length_le (by omega)] at hrd
          obtain ⟨hdl, hdc⟩ := readAll_sized (N := 4294967281) hrd (fun s hs => Nat.le_of_lt (HME.out s hs))
          have HSD := Lib.hid (show Sized d from ⟨by omega, fun x hx => Nat.le_trans (hdc x hx) (by omega)⟩)
          have HM3 := Lib.hid (show Wb.parseS t = if Wb.check y i d ≠ 0 then (Wb.check y i d, 0, 0, []) else (0, y, i, d) by rw [HM2.out, hrd])
          obtain ⟨ck, hck⟩ : ∃ c, Wb.check y i d = c := ⟨_, rfl⟩
          have HCK := Lib.hid hck
          have HLD := Lib.hid (lns_of_row HO.out)
          clear hrd hdl hdc hck
          go_wp2_with fail
          refine (rcheck_any y i _ d _ HLD.out HSD.out).mono ?_; rintro e w3 ⟨rfl, hb⟩
          rw [HCK.out]
          have q0 := hb.keep q0
          have q1 := hb.keep q1
          have q2 := hb.keep q2
          have qf : ∀ j, w3.frozen? ⟨w.heap.size, j, none⟩ = false := fun j => (Below.frozen hb (by simp; omega)).trans (qf j)
          have hc0 := hb.keep hc0
          have hc1 := hb.keep hc1
          have hc2 := hb.keep hc2
          have HO := Lib.hid (row_ext HO.out hb)
          have he3 : Wb.Ext w w3 := hew.trans hb
          clear hb
          cases hc : (ck != 0)
          · have HM4 := Lib.hid (show Wb.parseS t = (0, y, i, d) by rw [HM3.out, HCK.out, if_neg (by simpa using hc)])
            have hes := xset (xset (xset he3 (p := ⟨w.heap.size, 0, none⟩) (by simp) (.int .i64 y)) (p := ⟨w.heap.size, 1, none⟩) (by simp) (.int .i64 i)) (p := ⟨w.heap.size, 2, none⟩) (by simp) (.slice oa k oc)
            go_wp2
            refine bodyPost_ret (v := .tuple #[.agg #[.int .i64 y, .int .i64 i, .slice oa k oc], .int .i64 0]) (by simp [results, Tryd.results24, go_sem, q0, q1, q2]) rfl ⟨.slice oa k oc, by rw [HM4.out] <;> rfl, by rw [HM4.out]; exact lns_of_row (row_set (row_set (row_set HO.out (by simp; omega) _) (by simp; omega) _) (by simp; omega) _), hes⟩
          · have HM4 := Lib.hid (show Wb.parseS t = (ck, 0, 0, []) by rw [HM3.out, HCK.out, if_pos (by simpa using hc)])
            go_wp2
            refine bodyPost_ret (v := .tuple #[.agg #[.int .i64 0, .int .i64 0, .slice none 0 0], .int .i64 ck]) (by simp [results, Tryd.results24, go_sem, q0, q1, q2]) rfl ⟨.slice none 0 0, by rw [HM4.out] <;> rfl, by rw [HM4.out]; exact .inl ⟨rfl, _, _, rfl⟩, xset (xset (xset he3 (by simp) _) (by simp) _) (by simp) _⟩

end Go.Proofs.YtpiedhjjpmmomaaDoor
