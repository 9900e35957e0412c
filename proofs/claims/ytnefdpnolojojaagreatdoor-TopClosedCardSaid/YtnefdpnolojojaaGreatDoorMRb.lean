/- MRb -/
import Derived.Test.YtnefdpnolojojaaGreatDoorSrtU8
import Derived.Test.YtnefdpnolojojaaGreatDoorMKm
import Derived.Test.YtnefdpnolojojaaGreatDoorRun8
namespace Go.Proofs.YtnefdpnolojojaaGreatDoor
open Go.RowKit Go.Sort Go.Maps
set_option maxRecDepth 8000
set_option maxHeartbeats 4000000
attribute [local go_sem ↓] Go.wp_at_zero Go.wp_at_succ
theorem pdqNil_any (lim : Nat) (w : World) (_hl : lim ≤ 1000000) : Calls Tryz.prog 60 #[.slice none 0 0, .int .i64 0, .int .i64 0, .int .i64 lim] w fun e w' => e = .returned (.tuple #[]) ∧ w' = w := by
 have hi : ∀ u, Calls Tryz.prog 84 #[.slice none 0 0, .int .i64 0, .int .i64 0] u fun e w' => e = .returned (.tuple #[]) ∧ u = w' := fun u => by
  go_enter Tryz.func84, Tryz.ntmps84
  go_wp2_with fail
  go_loopw [6] (fun vi wr => vi = .int .i64 1 ∧ wr = u) (fun _ _ => 0)
  case atStart => exact ⟨by first | rfl | go_num, rfl⟩
  case round =>
   obtain ⟨rfl, rfl⟩ := hrel
   go_wp2
   go_end0
   exact ⟨rfl, rfl⟩
 go_enter Tryz.func60, Tryz.ntmps60
 go_wp2_with fail
 go_loopw [1, 2, 3, 8, 9] (fun v1 v2 v3 v8 v9 wr => v1 = .int .i64 0 ∧ v2 = .int .i64 0 ∧ v3 = .int .i64 lim ∧ v8 = .bool true ∧ v9 = .bool true ∧ wr = w) (fun _ _ _ _ _ _ => 0)
 case atStart => exact ⟨rfl, rfl, rfl, rfl, rfl, rfl⟩
 case round =>
  obtain ⟨rfl, rfl, rfl, rfl, rfl, rfl⟩ := hrel
  go_wp2_with fail
  go_fit (hi _); rintro e w1 ⟨rfl, rfl⟩
  go_wp2
  refine bodyPost_ret (v := .tuple #[]) (by simp [results, Tryz.results60, go_sem]) rfl ⟨rfl, rfl⟩
theorem perm_of {d d' : Array Int} (h : PermIn 0 d.size d d') : d'.toList.Perm d.toList := by
 obtain ⟨hsz, _, hperm⟩ := h
 have e1 : d'.extract 0 d.size = d' := by rw [← hsz]; exact Array.extract_size
 rwa [e1, Array.extract_size] at hperm
theorem rise_of {d' : Array Int} {n : Nat} (hn : d'.size = n) (h : SortedIn ltInt 0 n d') : d'.toList.Pairwise fun a b => a ≤ b := by
 rw [List.pairwise_iff_getElem]
 intro i j hi hj hij
 have hi' : i < d'.size := by simpa using hi
 have hj' : j < d'.size := by simpa using hj
 have := h i j (Nat.zero_le _) hij (by omega)
 rw [getElem!_pos d' j hj', getElem!_pos d' i hi'] at this
 simp [ltInt] at this
 simpa using this
theorem sortU_any (base : Nat) (v : Value) (ss : List Int) (w : World) (h : w.ownsRow base 47 1 v ss.length (ss.map (Value.int .u32))) (hb : base ≤ w.heap.size) (hn : ss.length ≤ 1000000) :
  Calls Tryz.prog 43 #[v] w fun e w' => e = .returned (.tuple #[]) ∧ ∃ tt : List Int, tt.Perm ss ∧ (tt.Pairwise fun a b => a ≤ b) ∧ w'.ownsRow base 47 1 v ss.length (tt.map (Value.int .u32)) ∧ w.grownBy w' v.ownBlock := by
 have hlen := h.1
 obtain ⟨L0, hL0⟩ : ∃ n, ss.length = n := ⟨_, rfl⟩
 rcases h.2 with ⟨rfl, h0⟩ | ⟨g, cap, cur, hv, hg, hgb, hr1, hr2, hr3, hr4⟩
 ·have hs0 : ss = [] := List.length_eq_zero_iff.1 h0
  subst hs0
  have HH := Lib.hid h
  clear h hlen hL0
  go_enter Tryz.func43, Tryz.ntmps43
  go_wp2_with fail
  go_fit (bitsLenU_any 0 (by omega) _); rintro e w1 ⟨L, hL, rfl, rfl⟩
  go_wp2_with fail
  go_fit (pdqNil_any L _ (by omega)); rintro e w2 ⟨rfl, rfl⟩
  go_wp2
  go_end0
  exact ⟨rfl, [], List.Perm.refl _, List.Pairwise.nil, HH.out, Wb.grownBy_refl _ _⟩
 ·subst hv
  have hgN : g < w.heap.size := (Array.getElem?_eq_some_iff.1 hgb).1
  have HR := Lib.hid (show RowU w w g ss.length cap ss.toArray from ⟨⟨by simp, .inr ⟨g, cap, cur, rfl, Nat.le_refl _, hgb, hr1, hr2, hr3, by simpa using hr4⟩⟩, Wb.grownBy_refl _ _⟩)
  clear h hlen hr4 hr3 hr2 hr1 hgb
  rw [hL0] at HR hn ⊢
  have HB := Lib.hid hb
  have HG := Lib.hid hg
  clear hb hg
  have hnu : IntKind.u64.wrap (L0 : Int) = (L0 : Int) := by rw [IntKind.wrap_u64]; omega
  have HL := Lib.hid hL0
  clear hL0
  go_enter Tryz.func43, Tryz.ntmps43
  go_wp2_with fail
  go_fit (bitsLenU_any L0 (by omega) _); rintro e w1 ⟨L, hL, rfl, hw1⟩
  have HR1 := Lib.hid (show RowU w w1 g L0 cap ss.toArray by rw [hw1]; exact HR.out.ext (by (repeat' (first | (with_reducible assumption) | (with_reducible exact Wb.Ext.refl _) | (with_reducible refine Wb.Ext.drew ?_) | (with_reducible refine Wb.Ext.drewN ?_ _) | (with_reducible refine Wb.Ext.alloc ?_ _) | (with_reducible refine Wb.Ext.trans ?_ (by assumption))))))
  clear hw1
  go_wp2_with fail
  go_fit (pdqU_all g L0 cap (by omega) L0 0 L0 L ss.toArray w _ (by omega) (HR1.out.ext (by (repeat' (first | (with_reducible assumption) | (with_reducible exact Wb.Ext.refl _) | (with_reducible refine Wb.Ext.drew ?_) | (with_reducible refine Wb.Ext.drewN ?_ _) | (with_reducible refine Wb.Ext.alloc ?_ _) | (with_reducible refine Wb.Ext.trans ?_ (by assumption)))))) (Nat.zero_le _) (Nat.le_refl _) (by omega) (.inl rfl)); rintro e w2 ⟨rfl, d', hp, hs, hr⟩
  have HP := Lib.hid hp
  have HS := Lib.hid hs
  have HR2 := Lib.hid hr
  clear hp hs hr
  go_wp2
  go_end0
  have hsz := HR2.out.size
  have hown := HR2.out.own
  refine ⟨rfl, d'.toList, ?_, rise_of hsz HS.out, ?_, HR2.out.grow⟩
  ·have e9 : ss.toArray.size = L0 := by simp [HL.out]
   have := HP.out
   rw [← e9] at this
   simpa using perm_of this
  ·refine ⟨by simp [hsz], ?_⟩
   rcases hown.2 with h1 | ⟨g', cap', cur', hv, hg', hrest⟩
   ·exact .inl h1
   ·cases hv
    exact .inr ⟨_, _, _, rfl, HG.out, hrest⟩
theorem sortedU_any (g : Nat) (lb : Array Value) (eg : ∀ args w, (callFunc g args).run Tryz.prog w = .ok (.enter g args) w)
  (S : List Int → Prop) (hperm : ∀ a b : List Int, a.Perm b → S b → S a) (N : Nat) (hN : N ≤ 1000000) (hlen : ∀ s, S s → s.length ≤ N) (w : World) (hseq : ∀ m, SeqGives Fence.wide m Tryz.prog g lb kU32.v S N w) :
  Calls Tryz.prog 16 #[.func (.func g) #[] lb] w fun e w' => ∃ (v : Value) (ss : List Int), e = .returned v ∧ S ss ∧ (ss.Pairwise fun a b => a ≤ b) ∧ w'.ownsRow w.heap.size 47 1 v ss.length (ss.map (Value.int .u32)) ∧ Wb.Ext w w' := by
 have HQ := Lib.hid hseq
 have HP := Lib.hid hperm
 have HLN := Lib.hid hlen
 clear hseq hperm hlen
 go_enter Tryz.func16, Tryz.ntmps16
 go_wp2_with fail
 go_fit (colU_any g lb eg S N (by unfold maxLen; omega) (by omega) _ HQ.out); rintro e w1 ⟨v, ss, rfl, hS, hrow, hx⟩
 have HS := Lib.hid hS
 have HR := Lib.hid hrow
 have HX := Lib.hid hx
 have hs1 := hx.size
 clear hS hrow hx
 go_wp2_with fail
 go_fit (sortU_any w.heap.size v ss _ HR.out hs1 (Nat.le_trans (HLN.out _ HS.out) hN)); rintro e w2 ⟨rfl, tt, h1, h2, h3, h4⟩
 have H1 := Lib.hid h1
 have H2 := Lib.hid h2
 have H3 := Lib.hid h3
 have H4 := Lib.hid h4
 clear h1 h2 h3 h4
 go_wp2
 go_ret
 have hlt := HR.out.lt
 have hl := H1.out.length_eq
 refine ⟨v, tt, rfl, HP.out _ _ H1.out HS.out, H2.out, by rw [hl]; exact H3.out, ?_⟩
 exact HX.out.grown H4.out (fun k e => (hlt k e).1)
end Go.Proofs.YtnefdpnolojojaaGreatDoor
namespace Go.Proofs.YtnefdpnolojojaaGreatDoor
open Go.RowKit Go.Sort Go.Lib Go.Maps
set_option maxRecDepth 8000
attribute [local go_sem ↓] Go.wp_at_zero Go.wp_at_succ
theorem copyS_any (md : Nat) (ms : Option Nat) (n : Nat) (z : Value) (f : Int → Option Value) (w : World) (hd : KMap kU32 w md 0 z (fun _ => none)) (hs : KMapO kU32 w ms n z f) (hne : ms ≠ some md) (hn : n ≤ 100000) :
  Calls Tryz.prog 19 #[.map (some md), .map ms] w fun e w' => e = .returned (.tuple #[]) ∧ KMap kU32 w' md n z f ∧ w.grownBy w' (some md) := by
 have HD := Lib.hid hd
 have HS := Lib.hid hs
 clear hd
 go_enter Tryz.func19, Tryz.ntmps19
 go_wp2_with (first
  | (at_range; refine wpList_range_km (K := kU32) rfl _ 24 51 rfl Tryz.underlying24 ms n z f rfl hs ?_; intro w0 cnt0 hrg0 hc0 hg0 hs0)
  | go_in)
 (try go_frame)
 have HD0 := Lib.hid (HD.out.kept hg0 (by simp))
 have hmd : md < w.heap.size := KMap.lt HD.out
 have HG0 := Lib.hid (show w.grownBy w0 (some md) from hg0.but _)
 obtain ⟨X, hX⟩ : ∃ X, w.heap.size = X := ⟨_, rfl⟩
 have hXm : X ≠ md := by omega
 have HRG0 := Lib.hid hrg0
 rw [hX] at HRG0 ⊢
 have hXs : w.heap.size ≤ X := by omega
 clear hs hg0 hs0 hrg0 hX
 go_loopw [9] (fun _ wr => ∃ (cnt : Nat) (ss : List Int), Hid (KRng kU32 wr ms X n z f ss cnt) ∧ ss.length + cnt ≤ n ∧ Hid (KMap kU32 wr md ss.length z (fun p => if p ∈ ss then f p else none)) ∧ Hid (w.grownBy wr (some md))) (fun _ wr => kLeft ms X wr)
 case atStart => exact ⟨cnt0, [], HRG0, by simpa using hc0, Lib.hid (KMap.congr HD0.out (fun p => by simp)), HG0⟩
 case round =>
  clear HRG0 HD0 HG0
  obtain ⟨cnt, ss, HRG, hcs, HM, HG⟩ := hrel
  obtain ⟨wO, hwz⟩ : ∃ z, z = wr := ⟨_, rfl⟩
  subst hwz
  have hrg := HRG.out
  go_wp2_with (first
   | (at_next; refine wpList_next_km (K := kU32) rfl _ rfl rfl hrg ?_ ?_)
   | go_in)
  ·intro hall
   have HF := Lib.hid (show KMap kU32 wO md n z f by
    obtain ⟨D, h1, h2⟩ := HM.out.mono (show ss.length ≤ n by omega)
    refine ⟨D, h1, fun p hp => ?_⟩
    have h3 := h2 p hp
    by_cases hm : p ∈ ss
    ·simp only [if_pos hm] at h3; exact h3
    ·have hf : f p = none := by
      rcases hx : f p with _ | v
      ·rfl
      ·exact absurd (hall p hp (by rw [hx]; rfl)) hm
     simp only [if_neg hm] at h3
     rw [hf]; exact h3)
   clear hall hrg
   go_wp2
   go_end0
   exact ⟨rfl, HF.out, HG.out⟩
  ·intro x v w2 cnt2 hok hfx hnr hrg2 hlt hg2 hs2 hen
   have hg2' : wO.grownBy w2 (some X) := hg2
   obtain ⟨w3, hrun, hm3, hg3⟩ := (HM.out.kept hg2 (by intro e; injection e with e; omega)).update Tryz.underlying24 (by unfold maxLen; omega) hok v
   have hrun : (Instr.mapUpdate 24 (.map (some md)) (.int .u32 x) v).run Tryz.prog w2 = .ok () w3 := hrun
   have hen : (Instr.entry (.pointer (some ⟨X, 0, none⟩))).run Tryz.prog w2 = .ok (.tuple #[.int .u32 x, v]) w2 := hen
   have HM3 := Lib.hid (show KMap kU32 w3 md (ss ++ [x]).length z (fun p => if p ∈ ss ++ [x] then f p else none) by
    rw [List.length_append]
    refine KMap.congr hm3 fun p => ?_
    by_cases e : x = p
    ·subst e; simp [hfx]
    ·rw [if_neg e]
     by_cases hm : p ∈ ss
     ·simp [hm]
     ·have : ¬ p = x := fun h => e h.symm
      simp [hm, this])
   have HRG3 := Lib.hid (hrg2.kept hg3 (fun b hb e => hne (by rw [hb, ← e])) (by intro e; injection e with e; omega))
   have HG3 := Lib.hid (show w.grownBy w3 (some md) from by
    refine grown_trans ?_ hg3
    have h9 := HG.out
    exact ⟨hg2.os.trans h9.os, hg2.tape.trans h9.tape, hg2.output.trans h9.output, Nat.le_trans h9.size hg2.size, fun k hk hr => by rw [hg2.block k (Nat.lt_of_lt_of_le hk h9.size) (fun e => by cases e; omega)]; exact h9.block k hk hr⟩)
   have hlt3 := hlt
   have hl0 : kLeft ms X wO = cnt := HRG.out.left
   clear hm3 hg3 hg2 hg2' hs2 hrg2 hfx hnr hok hrg hlt
   (try go_frame)
   go_wp2
   go_roundw
   case rel => exact ⟨cnt2, ss ++ [x], HRG3, by simp; omega, HM3, HG3⟩
   case measure => rw [HRG3.out.left, hl0]; exact hlt3
theorem copyC_any (md : Nat) (ms : Option Nat) (n : Nat) (z : Value) (f : Int → Option Value) (w : World) (hd : KMap kU32 w md 0 z (fun _ => none)) (hs : KMapO kU32 w ms n z f) (hne : ms ≠ some md) (hn : n ≤ 100000) :
  Calls Tryz.prog 20 #[.map (some md), .map ms] w fun e w' => e = .returned (.tuple #[]) ∧ KMap kU32 w' md n z f ∧ w.grownBy w' (some md) := by
 have HD := Lib.hid hd
 have HS := Lib.hid hs
 clear hd
 go_enter Tryz.func20, Tryz.ntmps20
 go_wp2_with (first
  | (at_range; refine wpList_range_km (K := kU32) rfl _ 25 52 rfl Tryz.underlying25 ms n z f rfl hs ?_; intro w0 cnt0 hrg0 hc0 hg0 hs0)
  | go_in)
 (try go_frame)
 have HD0 := Lib.hid (HD.out.kept hg0 (by simp))
 have hmd : md < w.heap.size := KMap.lt HD.out
 have HG0 := Lib.hid (show w.grownBy w0 (some md) from hg0.but _)
 obtain ⟨X, hX⟩ : ∃ X, w.heap.size = X := ⟨_, rfl⟩
 have hXm : X ≠ md := by omega
 have HRG0 := Lib.hid hrg0
 rw [hX] at HRG0 ⊢
 have hXs : w.heap.size ≤ X := by omega
 clear hs hg0 hs0 hrg0 hX
 go_loopw [9] (fun _ wr => ∃ (cnt : Nat) (ss : List Int), Hid (KRng kU32 wr ms X n z f ss cnt) ∧ ss.length + cnt ≤ n ∧ Hid (KMap kU32 wr md ss.length z (fun p => if p ∈ ss then f p else none)) ∧ Hid (w.grownBy wr (some md))) (fun _ wr => kLeft ms X wr)
 case atStart => exact ⟨cnt0, [], HRG0, by simpa using hc0, Lib.hid (KMap.congr HD0.out (fun p => by simp)), HG0⟩
 case round =>
  clear HRG0 HD0 HG0
  obtain ⟨cnt, ss, HRG, hcs, HM, HG⟩ := hrel
  obtain ⟨wO, hwz⟩ : ∃ z, z = wr := ⟨_, rfl⟩
  subst hwz
  have hrg := HRG.out
  go_wp2_with (first
   | (at_next; refine wpList_next_km (K := kU32) rfl _ rfl rfl hrg ?_ ?_)
   | go_in)
  ·intro hall
   have HF := Lib.hid (show KMap kU32 wO md n z f by
    obtain ⟨D, h1, h2⟩ := HM.out.mono (show ss.length ≤ n by omega)
    refine ⟨D, h1, fun p hp => ?_⟩
    have h3 := h2 p hp
    by_cases hm : p ∈ ss
    ·simp only [if_pos hm] at h3; exact h3
    ·have hf : f p = none := by
      rcases hx : f p with _ | v
      ·rfl
      ·exact absurd (hall p hp (by rw [hx]; rfl)) hm
     simp only [if_neg hm] at h3
     rw [hf]; exact h3)
   clear hall hrg
   go_wp2
   go_end0
   exact ⟨rfl, HF.out, HG.out⟩
  ·intro x v w2 cnt2 hok hfx hnr hrg2 hlt hg2 hs2 hen
   have hg2' : wO.grownBy w2 (some X) := hg2
   obtain ⟨w3, hrun, hm3, hg3⟩ := (HM.out.kept hg2 (by intro e; injection e with e; omega)).update Tryz.underlying25 (by unfold maxLen; omega) hok v
   have hrun : (Instr.mapUpdate 25 (.map (some md)) (.int .u32 x) v).run Tryz.prog w2 = .ok () w3 := hrun
   have hen : (Instr.entry (.pointer (some ⟨X, 0, none⟩))).run Tryz.prog w2 = .ok (.tuple #[.int .u32 x, v]) w2 := hen
   have HM3 := Lib.hid (show KMap kU32 w3 md (ss ++ [x]).length z (fun p => if p ∈ ss ++ [x] then f p else none) by
    rw [List.length_append]
    refine KMap.congr hm3 fun p => ?_
    by_cases e : x = p
    ·subst e; simp [hfx]
    ·rw [if_neg e]
     by_cases hm : p ∈ ss
     ·simp [hm]
     ·have : ¬ p = x := fun h => e h.symm
      simp [hm, this])
   have HRG3 := Lib.hid (hrg2.kept hg3 (fun b hb e => hne (by rw [hb, ← e])) (by intro e; injection e with e; omega))
   have HG3 := Lib.hid (show w.grownBy w3 (some md) from by
    refine grown_trans ?_ hg3
    have h9 := HG.out
    exact ⟨hg2.os.trans h9.os, hg2.tape.trans h9.tape, hg2.output.trans h9.output, Nat.le_trans h9.size hg2.size, fun k hk hr => by rw [hg2.block k (Nat.lt_of_lt_of_le hk h9.size) (fun e => by cases e; omega)]; exact h9.block k hk hr⟩)
   have hlt3 := hlt
   have hl0 : kLeft ms X wO = cnt := HRG.out.left
   clear hm3 hg3 hg2 hg2' hs2 hrg2 hfx hnr hok hrg hlt
   (try go_frame)
   go_wp2
   go_roundw
   case rel => exact ⟨cnt2, ss ++ [x], HRG3, by simp; omega, HM3, HG3⟩
   case measure => rw [HRG3.out.left, hl0]; exact hlt3
end Go.Proofs.YtnefdpnolojojaaGreatDoor
namespace Go.Proofs.YtnefdpnolojojaaGreatDoor
open Go.RowKit Go.Sort Go.Lib Go.Maps
set_option maxRecDepth 8000
attribute [local go_sem ↓] Go.wp_at_zero Go.wp_at_succ
structure RnM where
 n : Int
 y : Int
 i : Int
 k : Int
 rv : Value
 rows : List RwM
def RnM.c (r : RnM) : Wb.Rn := ⟨r.n, r.y, r.i, r.k, r.rows.map RwM.c⟩
def rnc (r : RnM) : List Value := [.int .i64 r.n, .int .i64 r.y, .int .i64 r.i, .int .i64 r.k, r.rv]
theorem rnc_len (r : RnM) : (rnc r).length = 5 := rfl
def rnZ : Value := .agg #[.int .i64 0, .int .i64 0, .int .i64 0, .int .i64 0, .slice none 0 0]
theorem infoRun : (Tryz.prog.info? 31).map (fun i => (i.zero, i.size, i.bytes)) = some (some rnZ, 5, 56) := by kernel_rfl
structure RunsM (w : World) (v : Value) (L : List RnM) : Prop where
 tab : Tbl 5 rnc w v L
 each : ∀ r ∈ L, RowsM w r.rv r.rows
 many : L.length ≤ 100000
 one : ∀ r ∈ L, ∃ a n c, r.rv = .slice a n c
theorem RunsM.ext {w w' : World} {v : Value} {L : List RnM} (h : RunsM w v L) (k : Wb.Ext w w') : RunsM w' v L := ⟨h.tab.ext k, fun r hr => (h.each r hr).ext k, h.many, h.one⟩
theorem rnc_one {L : List RnM} (h : ∀ r ∈ L, ∃ a n c, r.rv = .slice a n c) : ∀ u ∈ rowsOf rnc L, u.oneCell' = true := by
 intro u hu
 obtain ⟨r, hr, hx⟩ := List.mem_flatMap.1 hu
 obtain ⟨a, n, c, h1⟩ := h r hr
 simp [rnc, h1] at hx
 rcases hx with rfl | rfl | rfl | rfl | rfl <;> rfl
theorem clonern_any (v : Value) (L : List RnM) (w : World) (h : RunsM w v L) :
  Calls Tryz.prog 26 #[v] w fun e w' => ∃ v', e = .returned v' ∧ w'.ownsRow w.heap.size 31 5 v' L.length (rowsOf rnc L) ∧ Wb.Ext w w' := by
 have HIN := Lib.hid (info_parts infoRun)
 obtain ⟨a, c, rfl⟩ := h.tab.shape
 have q : ∀ (w : World) (a : Option Addr) (n c n' c' : Nat), (binOp .eql 23 (.slice a n c) (.slice none n' c')).run Tryz.prog w = .ok (.bool a.isNone) w := fun w a n c n' c' => Lib.run_eql_slice_nil w _ _ a n c n' c' Tryz.underlying23
 rcases a with _ | ad
 ·obtain rfl : L = [] := by
   rcases L with _ | ⟨x, r⟩
   ·rfl
   ·obtain ⟨b, off, hb, _⟩ := h.tab.opened (by simp)
    cases hb
  clear h
  go_enter Tryz.func26, Tryz.ntmps26
  go_wp2
  go_ret
  exact ⟨_, rfl, own_none, .refl _⟩
 ·have HS := Lib.hid (src_tbl rnc_len (by decide) h.tab)
  have HL := Lib.hid h.many
  have HO1 := Lib.hid (rnc_one h.one)
  clear h
  have hown0 : (w.alloc (.cells #[] 31)).ownsRow w.heap.size 31 5 (.slice (some ⟨w.heap.size, 0, none⟩) 0 0) 0 [] :=
   ⟨by simp, .inr ⟨w.heap.size, 0, #[], rfl, Nat.le_refl _, by show (w.heap.push _)[w.heap.size]? = _; simp, by simp, by simp, by simp, by simp⟩⟩
  go_enter Tryz.func26, Tryz.ntmps26
  obtain ⟨hi, hz0, hz1, hz2⟩ := HIN.out.choose_spec
  go_wp2_with (at_builtin; go_loud (refine Wb.wpList_append_row rfl (.tmp 5) (.tmp 6) 23 rfl w.heap.size 31 _ rnZ 5 56 Tryz.underlying23 hi hz0 hz1 hz2 rfl (by decide) _ _ _ rfl hown0 _ rfl L.length (rowsOf rnc L) ?c1 ?c2 ?c3 ?c4 ?c5 ?_))
  case c1 => exact HS.out.ext ((Wb.Ext.refl w).alloc _)
  case c2 => exact HO1.out
  case c3 => have := HL.out; unfold maxLen; omega
  case c4 => have := HL.out; omega
  case c5 => simp
  intro u2 w6 hown2 hg2 hnil2
  have HX := Lib.hid (((Wb.Ext.refl w).alloc (.cells #[] 31)).grown hg2 (by intro k hk; cases hk; exact Nat.le_refl _))
  have HO := Lib.hid (show w6.ownsRow w.heap.size 31 5 u2 L.length (rowsOf rnc L) by simpa using hown2)
  clear hi hz0 hz1 hz2 hg2 hown2 hnil2 hown0
  go_wp2
  go_ret
  exact ⟨_, rfl, HO.out, HX.out⟩
structure SMapAt (w : World) (mb : Option Nat) (n : Nat) (f : Int → Option Value) (S : Int → List Wb.Ct) : Prop where
 map : KMapO kU32 w mb n (.slice none 0 0) f
 each : ∀ p, ∃ L, SlsK w ((f p).getD (.slice none 0 0)) L ∧ L.map Wb.ct = S p
 full : ∀ p, S p ≠ [] → kU32.ok p ∧ (f p).isSome = true
theorem SMapAt.ext {w w' : World} {mb : Option Nat} {n : Nat} {f : Int → Option Value} {S : Int → List Wb.Ct} (h : SMapAt w mb n f S) (k : Wb.Ext w w') : SMapAt w' mb n f S :=
 ⟨h.map.ext k, fun p => by obtain ⟨L, h1, h2⟩ := h.each p; exact ⟨L, h1.ext k, h2⟩, h.full⟩
structure BkAt (w : World) (rv : Value) (mp mo : Option Nat) (B : Wb.Bk) (ks : List Int) (N : Nat) : Prop where
 runs : ∃ L, RunsM w rv L ∧ L.map RnM.c = B.runs
 paid : ∃ n f, SMapAt w mp n f B.paid ∧ n ≤ N ∧ ∀ p, kU32.ok p → (f p).isSome = true → p ∈ ks
 owed : ∃ n f, KMapO kU32 w mo n (.int .i64 0) f ∧ n ≤ N ∧ (∀ p, (f p).getD (.int .i64 0) = .int .i64 (B.owed p)) ∧ ∀ p, kU32.ok p → (f p).isSome = true → p ∈ ks
theorem BkAt.ext {w w' : World} {rv : Value} {mp mo : Option Nat} {B : Wb.Bk} {ks : List Int} {N : Nat} (h : BkAt w rv mp mo B ks N) (k : Wb.Ext w w') : BkAt w' rv mp mo B ks N := by
 obtain ⟨⟨L, h1, h2⟩, ⟨n, f, h3, h4⟩, ⟨m, g, h5, h6⟩⟩ := h
 exact ⟨⟨L, h1.ext k, h2⟩, ⟨n, f, h3.ext k, h4⟩, ⟨m, g, h5.ext k, h6⟩⟩
structure SMapF (F : Nat → Prop) (w : World) (mb : Option Nat) (n : Nat) (f : Int → Option Value) (S : Int → List Wb.Ct) : Prop where
 map : ∀ w2, Kept F w w2 → KMapO kU32 w2 mb n (.slice none 0 0) f
 each : ∀ p, ∃ L, (∀ w2, Kept F w w2 → SlsK w2 ((f p).getD (.slice none 0 0)) L) ∧ L.map Wb.ct = S p
 full : ∀ p, S p ≠ [] → kU32.ok p ∧ (f p).isSome = true
theorem SMapF.now {F : Nat → Prop} {w : World} {mb : Option Nat} {n : Nat} {f : Int → Option Value} {S : Int → List Wb.Ct} (h : SMapF F w mb n f S) : SMapAt w mb n f S :=
 ⟨h.map w .refl, fun p => by obtain ⟨L, h1, h2⟩ := h.each p; exact ⟨L, h1 w .refl, h2⟩, h.full⟩
theorem SMapF.kept {F : Nat → Prop} {w w' : World} {mb : Option Nat} {n : Nat} {f : Int → Option Value} {S : Int → List Wb.Ct} (h : SMapF F w mb n f S) (k : Kept F w w') : SMapF F w' mb n f S :=
 ⟨fun w2 h2 => h.map w2 (k.trans h2), fun p => by obtain ⟨L, h1, h2⟩ := h.each p; exact ⟨L, fun w2 h3 => h1 w2 (k.trans h3), h2⟩, h.full⟩
theorem SMapF.mono {F G : Nat → Prop} {w : World} {mb : Option Nat} {n : Nat} {f : Int → Option Value} {S : Int → List Wb.Ct} (h : SMapF F w mb n f S) (k : ∀ q, q < w.heap.size → F q → G q) : SMapF G w mb n f S :=
 ⟨fun w2 h2 => h.map w2 (h2.mono k), fun p => by obtain ⟨L, h1, h2⟩ := h.each p; exact ⟨L, fun w2 h3 => h1 w2 (h3.mono k), h2⟩, h.full⟩
structure BkF (F : Nat → Prop) (w : World) (rv : Value) (mp mo : Option Nat) (B : Wb.Bk) (ks : List Int) (N : Nat) : Prop where
 runs : ∃ L, (∀ w2, Kept F w w2 → RunsM w2 rv L) ∧ L.map RnM.c = B.runs
 paid : ∃ n f, SMapF F w mp n f B.paid ∧ n ≤ N ∧ ∀ p, kU32.ok p → (f p).isSome = true → p ∈ ks
 owed : ∃ n f, (∀ w2, Kept F w w2 → KMapO kU32 w2 mo n (.int .i64 0) f) ∧ n ≤ N ∧ (∀ p, (f p).getD (.int .i64 0) = .int .i64 (B.owed p)) ∧ ∀ p, kU32.ok p → (f p).isSome = true → p ∈ ks
theorem BkF.now {F : Nat → Prop} {w : World} {rv : Value} {mp mo : Option Nat} {B : Wb.Bk} {ks : List Int} {N : Nat} (h : BkF F w rv mp mo B ks N) : BkAt w rv mp mo B ks N := by
 obtain ⟨⟨L, h1, h2⟩, ⟨n, f, h3, h4⟩, ⟨m, g, h5, h6⟩⟩ := h
 exact ⟨⟨L, h1 w .refl, h2⟩, ⟨n, f, h3.now, h4⟩, ⟨m, g, h5 w .refl, h6⟩⟩
theorem BkF.kept {F : Nat → Prop} {w w' : World} {rv : Value} {mp mo : Option Nat} {B : Wb.Bk} {ks : List Int} {N : Nat} (h : BkF F w rv mp mo B ks N) (k : Kept F w w') : BkF F w' rv mp mo B ks N := by
 obtain ⟨⟨L, h1, h2⟩, ⟨n, f, h3, h4⟩, ⟨m, g, h5, h6⟩⟩ := h
 exact ⟨⟨L, fun w2 h => h1 w2 (k.trans h), h2⟩, ⟨n, f, h3.kept k, h4⟩, ⟨m, g, fun w2 h => h5 w2 (k.trans h), h6⟩⟩
theorem BkF.mono {F G : Nat → Prop} {w : World} {rv : Value} {mp mo : Option Nat} {B : Wb.Bk} {ks : List Int} {N : Nat} (h : BkF F w rv mp mo B ks N) (k : ∀ q, q < w.heap.size → F q → G q) : BkF G w rv mp mo B ks N := by
 obtain ⟨⟨L, h1, h2⟩, ⟨n, f, h3, h4⟩, ⟨m, g, h5, h6⟩⟩ := h
 exact ⟨⟨L, fun w2 h => h1 w2 (h.mono k), h2⟩, ⟨n, f, h3.mono k, h4⟩, ⟨m, g, fun w2 h => h5 w2 (h.mono k), h6⟩⟩
theorem Kept.since {F G : Nat → Prop} {w w1 w2 : World} (e : Wb.Ext w w1) (h : Kept G w1 w2) (k : ∀ q, q < w.heap.size → F q → G q) : Kept F w w2 :=
 ⟨h.os.trans e.os, h.tape.trans e.tape, h.output.trans e.output, Nat.le_trans e.size h.size, fun q hq hf => (h.block q (Nat.lt_of_lt_of_le hq e.size) (k q hq hf)).trans (e.block q hq)⟩
def BkV (rv : Value) (mp mo : Option Nat) : Value := .agg #[rv, .map mp, .map mo]
def lastC (L : List RnM) : Wb.Rn := match L.getLast? with | none => Wb.noRn | some x => x.c
theorem zeroSlips (u : World) : (zeroValue 51).run Tryz.prog u = .ok (.slice none 0 0) u := by kernel_rfl
set_option maxHeartbeats 4000000 in
theorem last31_any (rv : Value) (mp mo : Option Nat) (L : List RnM) (w : World) (h : RunsM w rv L) :
  Calls Tryz.prog 40 #[BkV rv mp mo] w fun e w' => ∃ (r : RnM), e = .returned (.tuple #[RnV r.n r.y r.i r.k r.rv, .bool (!L.isEmpty)]) ∧ RowsM w' r.rv r.rows ∧ r.c = lastC L ∧ (∃ a n c, r.rv = .slice a n c) ∧ (∀ lo hi w2, hi < w.heap.size → GrownIn lo hi w' w2 → RowsM w2 r.rv r.rows) ∧ Wb.Ext w w' := by
 obtain ⟨ra, rc, rfl⟩ := h.tab.shape
 have HL := Lib.hid h
 have hll := h.many
 clear h
 unfold BkV
 rcases Nat.eq_zero_or_pos L.length with h0 | h0
 ·obtain rfl : L = [] := List.length_eq_zero_iff.1 h0
  go_enter Tryz.func40, Tryz.ntmps40
  go_wp2
  refine bodyPost_ret (v := .tuple #[RnV 0 0 0 0 (.slice none 0 0), .bool false]) (by simp [results, Tryz.results40, go_sem, RnV]) rfl ⟨⟨0, 0, 0, 0, .slice none 0 0, []⟩, rfl, ⟨Tbl.nil, (fun r hr => by cases hr), by simp, (fun r hr => by cases hr)⟩, rfl, ⟨_, _, _, rfl⟩, (fun _ _ _ _ _ => ⟨Tbl.nil, (fun r hr => by cases hr), by simp, (fun r hr => by cases hr)⟩), by (repeat' (first | (with_reducible assumption) | (with_reducible exact Wb.Ext.refl _) | (with_reducible refine Wb.Ext.drew ?_) | (with_reducible refine Wb.Ext.drewN ?_ _) | (with_reducible refine Wb.Ext.alloc ?_ _) | (with_reducible refine Wb.ext_set ?_ (by first | assumption | (simp; done) | (simp; omega) | omega) _) | (with_reducible refine Wb.Ext.trans ?_ (by assumption))))⟩
 obtain ⟨j, hj⟩ : ∃ j, j + 1 = L.length := ⟨L.length - 1, by omega⟩
 obtain ⟨x, hx⟩ := Wb.get_ex (show j < L.length by omega)
 have hmem := List.mem_of_getElem? hx
 have hlast : L.getLast? = some x := by rw [List.getLast?_eq_getElem?, show L.length - 1 = j by omega]; exact hx
 have hemp : (!L.isEmpty) = true := by
  rcases L with _ | ⟨a, b⟩
  ·simp at h0
  ·rfl
 have HLAST := Lib.hid hlast
 have HEMP := Lib.hid hemp
 obtain ⟨b, off, hb, hc⟩ := HL.out.tab.opened (by rintro rfl; simp at hx)
 obtain rfl : ra = some ⟨b, off, none⟩ := hb
 obtain ⟨xa, xc, hxv⟩ := (HL.out.each x hmem).tab.shape
 have c0 := hc j x hx 0 _ rfl
 have c1 := hc j x hx 1 _ rfl
 have c2 := hc j x hx 2 _ rfl
 have c3 := hc j x hx 3 _ rfl
 have c4 := hc j x hx 4 (.slice xa x.rows.length xc) (by rw [← hxv]; rfl)
 rw [Nat.add_zero] at c0
 have HE := Lib.hid (show RowsM w (.slice xa x.rows.length xc) x.rows by rw [← hxv]; exact HL.out.each x hmem)
 have d0 : ((L.length : Int) == 0) = false := beq_eq_false_iff_ne.2 (by omega)
 have hbl : b < w.heap.size := Wb.cell_size c0
 have hjw : IntKind.i64.wrap ((L.length : Int) - 1) = (j : Int) := by rw [show ((L.length : Int) - 1) = (j : Int) by omega]; exact IntWalk.i64_in _ (by omega)
 have hji : (j : Int) < L.length := by omega
 have HXV := Lib.hid hxv
 clear hx hmem hlast hemp hc hxv
 go_enter Tryz.func40, Tryz.ntmps40
 go_wp2_with fail
 go_fit (rclone31_any x.n x.y x.i x.k _ x.rows _ (HE.out.ext (by (repeat' (first | (with_reducible assumption) | (with_reducible exact Wb.Ext.refl _) | (with_reducible refine Wb.Ext.drew ?_) | (with_reducible refine Wb.Ext.drewN ?_ _) | (with_reducible refine Wb.Ext.alloc ?_ _) | (with_reducible refine Wb.ext_set ?_ (by first | assumption | (simp; done) | (simp; omega) | omega) _) | (with_reducible refine Wb.Ext.trans ?_ (by assumption))))))); rintro e w1 ⟨u, R, rfl, hR, hRc, hnew, hx1⟩
 unfold RnV
 obtain ⟨ua, uc, rfl⟩ := hR.tab.shape
 obtain ⟨Z, hZ⟩ : ∃ Z, w.heap.size = Z := ⟨_, rfl⟩
 have HNEW := Lib.hid (show ∀ lo hi w2, hi < Z + 2 → GrownIn lo hi w1 w2 → RowsM w2 (.slice ua R.length uc) R from fun lo hi w2 h1 h2 => hnew lo hi w2 (by simp; omega) h2)
 clear hnew
 have z0 : w1.cell? ⟨Z + 1, 0, none⟩ = some (.int .i64 0) := by rw [← hZ]; exact hx1.keep (by simp [go_sem])
 have z1 : w1.cell? ⟨Z + 1, 1, none⟩ = some (.int .i64 0) := by rw [← hZ]; exact hx1.keep (by simp [go_sem])
 have z2 : w1.cell? ⟨Z + 1, 2, none⟩ = some (.int .i64 0) := by rw [← hZ]; exact hx1.keep (by simp [go_sem])
 have z3 : w1.cell? ⟨Z + 1, 3, none⟩ = some (.int .i64 0) := by rw [← hZ]; exact hx1.keep (by simp [go_sem])
 have z4 : w1.cell? ⟨Z + 1, 4, none⟩ = some (.slice none 0 0) := by rw [← hZ]; exact hx1.keep (by simp [go_sem])
 have zf : ∀ j, w1.frozen? ⟨Z + 1, j, none⟩ = false := fun j => by rw [← hZ]; exact (hx1.cells.2 _ _ (by simp <;> omega)).trans (by simp [go_sem])
 have hxa : Wb.Ext w w1 := Wb.Ext.trans (by (repeat' (first | (with_reducible assumption) | (with_reducible exact Wb.Ext.refl _) | (with_reducible refine Wb.Ext.drew ?_) | (with_reducible refine Wb.Ext.drewN ?_ _) | (with_reducible refine Wb.Ext.alloc ?_ _) | (with_reducible refine Wb.ext_set ?_ (by first | assumption | (simp; done) | (simp; omega) | omega) _) | (with_reducible refine Wb.Ext.trans ?_ (by assumption))))) hx1
 have hZw : w.heap.size ≤ Z := by omega
 have hZZ : Z + 1 < w1.heap.size := by have := hx1.size; simp at this; omega
 have HR := Lib.hid hR
 have HRC := Lib.hid hRc
 rw [hZ]
 clear c0 c1 c2 c3 c4 hx1 hZ hR hRc
 have hgb : ∀ (u0 u1 u2 u3 u4 : Value), Wb.Ext w (((((w1.setCell ⟨Z + 1, 0, none⟩ u0).setCell ⟨Z + 1, 1, none⟩ u1).setCell ⟨Z + 1, 2, none⟩ u2).setCell ⟨Z + 1, 3, none⟩ u3).setCell ⟨Z + 1, 4, none⟩ u4) := fun u0 u1 u2 u3 u4 => by (repeat' (first | (with_reducible assumption) | (with_reducible exact Wb.Ext.refl _) | (with_reducible refine Wb.Ext.drew ?_) | (with_reducible refine Wb.Ext.drewN ?_ _) | (with_reducible refine Wb.Ext.alloc ?_ _) | (with_reducible refine Wb.ext_set ?_ (by first | assumption | (simp; done) | (simp; omega) | omega) _) | (with_reducible refine Wb.Ext.trans ?_ (by assumption))))
 have hgi : ∀ (u0 u1 u2 u3 u4 : Value), GrownIn 0 (Z + 1) w1 (((((w1.setCell ⟨Z + 1, 0, none⟩ u0).setCell ⟨Z + 1, 1, none⟩ u1).setCell ⟨Z + 1, 2, none⟩ u2).setCell ⟨Z + 1, 3, none⟩ u3).setCell ⟨Z + 1, 4, none⟩ u4) := fun u0 u1 u2 u3 u4 =>
  ((((GrownIn.grown (setj_grown w1 (Z + 1) 0 u0) (by omega) (by omega)).trans (GrownIn.grown (setj_grown _ (Z + 1) 1 u1) (by omega) (by omega))).trans (GrownIn.grown (setj_grown _ (Z + 1) 2 u2) (by omega) (by omega))).trans (GrownIn.grown (setj_grown _ (Z + 1) 3 u3) (by omega) (by omega))).trans (GrownIn.grown (setj_grown _ (Z + 1) 4 u4) (by omega) (by omega))
 go_wp2
 refine bodyPost_ret (v := .tuple #[RnV x.n x.y x.i x.k (.slice ua R.length uc), .bool true]) (by simp [results, Tryz.results40, go_sem, RnV, z0, z1, z2, z3, z4]) rfl ⟨⟨x.n, x.y, x.i, x.k, .slice ua R.length uc, R⟩, by rw [HEMP.out], HNEW.out 0 (Z + 1) _ (by omega) (hgi _ _ _ _ _), ?_, ⟨_, _, _, rfl⟩, ?_, hgb _ _ _ _ _⟩
 ·unfold lastC
  rw [HLAST.out]
  unfold RnM.c
  simp only
  rw [HRC.out]
 ·intro lo hi w2 hhi h2
  exact HNEW.out 0 (Z + 1) w2 (by omega) ((hgi _ _ _ _ _).trans ⟨h2.os, h2.tape, h2.output, h2.size, fun k hk hr => h2.block k hk (.inr (by omega))⟩)
end Go.Proofs.YtnefdpnolojojaaGreatDoor
namespace Go.Proofs.YtnefdpnolojojaaGreatDoor
open Go.RowKit Go.Sort Go.Lib Go.Maps
set_option maxRecDepth 8000
attribute [local go_sem ↓] Go.wp_at_zero Go.wp_at_succ
theorem BkAt.shape {w : World} {rv : Value} {mp mo : Option Nat} {B : Wb.Bk} {ks : List Int} {N : Nat} (h : BkAt w rv mp mo B ks N) : ∃ a c, rv = .slice a B.runs.length c := by
 obtain ⟨L, h1, h2⟩ := h.runs
 obtain ⟨a, c, e⟩ := h1.tab.shape
 exact ⟨a, c, by rw [e, ← h2, List.length_map]⟩
theorem zeroBool (u : World) : (zeroValue 4).run Tryz.prog u = .ok (.bool false) u := by kernel_rfl
theorem slsK_shape {w : World} {v : Value} {L : List Wb.Sl} (h : SlsK w v L) : ∃ a c, v = .slice a L.length c := by
 obtain ⟨a, c, e⟩ := h.sls.1.shape
 exact ⟨a, c, e⟩
theorem del31n_any (c : Nat) (w : World) :
  Calls Tryz.prog 24 #[.slice none 0 c, .func (.func 23) #[] #[]] w fun e w' => ∃ u, e = .returned u ∧ u = .slice none 0 c ∧ Wb.Ext w w' := by
 go_enter Tryz.func24, Tryz.ntmps24
 go_wp2_with fail
 go_fit (index31_any _ [] _ ⟨.inl ⟨rfl, none, c, rfl⟩, (fun s hs => by cases hs)⟩ (by simp)); rintro e w1 ⟨rfl, hb1⟩
 have HB := Lib.hid hb1
 have dd : (idxE 0 [] == -1) = true := rfl
 clear hb1
 go_wp2
 refine bodyPost_ret (v := .slice none 0 c) (by simp [results, Tryz.results24, go_sem]) rfl ⟨_, rfl, rfl, HB.out⟩
end Go.Proofs.YtnefdpnolojojaaGreatDoor
