/- Run3 -/
import Derived.Test.YtnefdpnolojojaaGreatDoorMDc
import Derived.Test.YtnefdpnolojojaaGreatDoorDel11
import Derived.Deep.CutBlock
namespace Go.Proofs.YtnefdpnolojojaaGreatDoor
open Go.RowKit Go.Sort Go.Lib Go.Maps
set_option maxRecDepth 8000
attribute [local go_sem ↓] Go.wp_at_zero Go.wp_at_succ
structure Pd where
 was : Wb.Sl
 now : Wb.Sl
def pdc (x : Pd) : List Value := [.int .i64 x.was.y, .int .i64 x.was.i, x.was.v, .int .i64 x.now.y, .int .i64 x.now.i, x.now.v]
theorem pdc_len (x : Pd) : (pdc x).length = 6 := rfl
def pdv (x : Pd) : Value := .agg #[.int .i64 x.was.y, .int .i64 x.was.i, x.was.v, .int .i64 x.now.y, .int .i64 x.now.i, x.now.v]
def pdZ : Value := .agg #[.int .i64 0, .int .i64 0, .slice none 0 0, .int .i64 0, .int .i64 0, .slice none 0 0]
theorem zeroPd (u : World) : (zeroValue 108).run Tryz.prog u = .ok pdZ u := by kernel_rfl
theorem infoPd : (Tryz.prog.info? 108).map (fun i => (i.zero, i.size, i.bytes)) = some (some pdZ, 6, 80) := by kernel_rfl
def empS (p : Int × Int) : Wb.Sl := ⟨p.1, p.2, .slice none 0 0, []⟩
def wasS : Option Wb.Sl → Wb.Sl
 | none => ⟨0, 0, .slice none 0 0, []⟩
 | some s => s
def nowS (p : Int × Int) : Option Wb.Sl → Wb.Sl
 | none => empS p
 | some s => s
theorem ct_was (o : Option Wb.Sl) : Wb.ct (wasS o) = Wb.conO o := by cases o <;> rfl
theorem ct_now (p : Int × Int) (o : Option Wb.Sl) : Wb.ct (nowS p o) = Wb.nowO p o := by cases o <;> rfl
theorem field0_pd (a b c d e f : Value) (u : World) : (Instr.field 108 (.agg #[a, b, c, d, e, f]) 0).run Tryz.prog u = .ok (.agg #[a, b, c]) u := by kernel_rfl
def pairO (A B : List Wb.Sl) (p : Int × Int) : Option Value := match Wb.findS B p with
 | some t => some (pdv ⟨wasS (Wb.findS A p), t⟩)
 | none => (Wb.findS A p).map fun s => pdv ⟨s, empS p⟩
def pdOf (A B : List Wb.Sl) (p : Int × Int) : Pd := ⟨wasS (Wb.findS A p), nowS p (Wb.findS B p)⟩
theorem pairO_some {A B : List Wb.Sl} {p : Int × Int} (h : Wb.hasP A p ∨ Wb.hasP B p) : pairO A B p = some (pdv (pdOf A B p)) := by
 rw [Wb.hasP_find, Wb.hasP_find] at h
 unfold pairO pdOf
 rcases hb : Wb.findS B p with _ | t
 ·rcases ha : Wb.findS A p with _ | s
  ·rw [ha, hb] at h; simp at h
  ·rfl
 ·rfl
theorem pairO_is {A B : List Wb.Sl} {p : Int × Int} : (pairO A B p).isSome = true ↔ (Wb.hasP A p ∨ Wb.hasP B p) := by
 rw [Wb.hasP_find, Wb.hasP_find]
 unfold pairO
 rcases hb : Wb.findS B p with _ | t
 ·rcases ha : Wb.findS A p with _ | s <;> simp
 ·simp
theorem pair_stepA {A : List Wb.Sl} {k : Nat} {x : Wb.Sl} (hx : A[k]? = some x) (h : ∀ s ∈ A.take k, Wb.perS s ≠ Wb.perS x) (q : Int × Int) :
  (if Wb.perS x = q then some (pdv ⟨x, empS (Wb.perS x)⟩) else pairO (A.take k) [] q) = pairO (A.take (k + 1)) [] q := by
 have := congrFun (find_take hx h) q
 unfold pairO
 rw [show Wb.findS [] q = none from rfl]
 simp only
 rw [← this]
 by_cases e : Wb.perS x = q
 ·rw [if_pos e]; simp [e]
 ·rw [if_neg e]; simp [e]
theorem pair_stepB {A B : List Wb.Sl} {k : Nat} {x : Wb.Sl} (hx : B[k]? = some x) (h : ∀ s ∈ B.take k, Wb.perS s ≠ Wb.perS x) (q : Int × Int) :
  (if Wb.perS x = q then some (pdv ⟨wasS (Wb.findS A (Wb.perS x)), x⟩) else pairO A (B.take k) q) = pairO A (B.take (k + 1)) q := by
 have := congrFun (find_take hx h) q
 unfold pairO
 rw [← this]
 by_cases e : Wb.perS x = q
 ·rw [if_pos e]; simp [e]
 ·rw [if_neg e]; simp [e]
theorem KMap.congr {κ : Type} {K : KeyK κ} {w : World} {b n : Nat} {z : Value} {f g : κ → Option Value} (h : KMap K w b n z f) (e : ∀ p, f p = g p) : KMap K w b n z g := by
 rw [← funext e]; exact h
theorem find_ahead {B : List Wb.Sl} {k : Nat} {x : Wb.Sl} (h : ∀ s ∈ B.take k, Wb.perS s ≠ Wb.perS x) : Wb.findS (B.take k) (Wb.perS x) = none := by
 rcases hf : Wb.findS (B.take k) (Wb.perS x) with _ | s
 ·rfl
 ·obtain ⟨h1, h2⟩ := Wb.find_mem hf
  exact absurd h2 (h s h1)
theorem sortedP_any (g : Nat) (lb : Array Value) (eg : ∀ args w, (callFunc g args).run Tryz.prog w = .ok (.enter g args) w)
  (S : List (Int × Int) → Prop) (N : Nat) (hN : N ≤ 1000000) (hlen : ∀ s, S s → s.length ≤ N) (w : World) (hseq : ∀ m, SeqGives Fence.wide m Tryz.prog g lb kPr.v S N w) :
  Calls Tryz.prog 64 #[.func (.func g) #[] lb, .func (.func 66) #[] #[]] w fun e w' => ∃ (v : Value) (ss tt : List (Int × Int)), e = .returned v ∧ S ss ∧ tt.Perm ss ∧ (tt.Pairwise fun a b => prLt b a = false) ∧ w'.ownsRow w.heap.size 131 2 v tt.length (rowsOf prc tt) ∧ Wb.Ext w w' := by
 have HQ := Lib.hid hseq
 have HLN := Lib.hid hlen
 clear hseq hlen
 go_enter Tryz.func64, Tryz.ntmps64
 go_wp2_with fail
 go_fit (colP_any g lb eg S N (by unfold maxLen; omega) (by omega) _ HQ.out); rintro e w1 ⟨v, ss, rfl, hS, hrow, hx⟩
 have HS := Lib.hid hS
 have HR := Lib.hid hrow
 have HX := Lib.hid hx
 clear hS hrow hx
 go_wp2_with fail
 go_fit (ahead31_sort w.heap.size v ss _ HR.out (Nat.le_trans (HLN.out _ HS.out) hN)); rintro e w2 ⟨rfl, tt, h1, h2, h3, h4⟩
 have H1 := Lib.hid h1
 have H2 := Lib.hid h2
 have H3 := Lib.hid h3
 have H4 := Lib.hid h4
 clear h1 h2 h3 h4
 go_wp2
 go_ret
 have hlt := HR.out.lt
 have hl := H1.out.length_eq
 exact ⟨v, ss, tt, rfl, HS.out, H1.out, H2.out, by rw [hl]; exact H3.out, HX.out.grown H4.out (fun k e => (hlt k e).1)⟩
theorem pers_perm {A B : List Wb.Sl} {f : Int × Int → Option Value} {ss tt : List (Int × Int)} (hf : ∀ p, (f p).isSome = true ↔ (Wb.hasP A p ∨ Wb.hasP B p)) (hok : ∀ p, Wb.hasP A p ∨ Wb.hasP B p → kPr.ok p) (h : KeysAre kPr f ss) (hp : tt.Perm ss) (hr : tt.Pairwise fun a b => prLt b a = false) : tt = Wb.persP A B := by
 have hn : tt.Nodup := hp.nodup_iff.2 h.1
 have hs : tt.Pairwise fun a b => prLt a b = true := by
  have : tt.Pairwise fun a b => a ≠ b ∧ prLt b a = false := List.Pairwise.and hn hr
  refine this.imp ?_
  intro a b h9
  cases hx : prLt a b
  ·exact absurd (Wb.pr_total hx h9.2) h9.1
  ·rfl
 refine Wb.PerOf.uniq (A := A) (B := B) ⟨hs, fun p => ?_⟩ (Wb.persP_of A B)
 rw [hp.mem_iff, h.2, hf]
 exact ⟨fun h => h.2, fun h => ⟨hok p h, h⟩⟩
theorem nodup_le {α : Type} [DecidableEq α] : ∀ {ss L : List α}, ss.Nodup → (∀ x ∈ ss, x ∈ L) → ss.length ≤ L.length
 | [], _, _, _ => Nat.zero_le _
 | a :: r, L, hn, hm => by
  obtain ⟨h1, h2⟩ := List.nodup_cons.1 hn
  have ha := hm a (by simp)
  have ih := nodup_le (L := L.erase a) h2 fun x hx => (List.mem_erase_of_ne (by rintro rfl; exact h1 hx)).2 (hm x (by simp [hx]))
  rw [List.length_erase_of_mem ha] at ih
  have : 0 < L.length := List.length_pos_of_mem ha
  simp; omega
theorem keys_len {A B : List Wb.Sl} {ss : List (Int × Int)} (h : KeysAre kPr (pairO A B) ss) : ss.length ≤ A.length + B.length := by
 have h1 := nodup_le (L := Wb.persP A B) h.1 fun p hp => ((Wb.persP_of A B).2 p).2 (pairO_is.1 ((h.2 p).1 hp).2)
 have h2 := Wb.heads_len (A ++ B)
 unfold Wb.persP at h1
 rw [List.length_append] at h2
 omega
set_option maxHeartbeats 4000000 in
theorem pairs_any (va vb : Value) (A B : List Wb.Sl) (w : World) (hA : Sls w va A) (hB : Sls w vb B) (ra : Wb.RiseP A) (rb : Wb.RiseP B) (hok : ∀ p, Wb.hasP A p ∨ Wb.hasP B p → kPr.ok p) (hla : A.length ≤ 10000) (hlb : B.length ≤ 10000) :
  Calls Tryz.prog 47 #[va, vb] w fun e w' => ∃ u, e = .returned u ∧ Tbl 6 pdc w' u ((Wb.persP A B).map (pdOf A B)) ∧ (∀ q, u.ownBlock = some q → w.heap.size ≤ q) ∧ Wb.Ext w w' := by
 obtain ⟨aa, ac, rfl⟩ := hA.1.shape
 obtain ⟨ba, bc, rfl⟩ := hB.1.shape
 have HA := Lib.hid hA
 have HB := Lib.hid hB
 have HRA := Lib.hid ra
 have HRB := Lib.hid rb
 have HOK := Lib.hid hok
 clear hA hB ra rb hok
 have hmm := @run_makeMap Tryz.prog
 go_enter Tryz.func47, Tryz.ntmps47
 go_upto_region 2 with (fail)
 refine Wb.wp_at fun WB hWB => ?_
 obtain ⟨M, hM⟩ : ∃ M, w.heap.size = M := ⟨_, rfl⟩
 have HMB : Hid (KMap kPr WB M 0 pdZ (pairO (A.take 0) [])) := Lib.hid (by rw [hWB]; exact kmap_made kPr w pdZ M hM.symm)
 have HEB := Lib.hid (show Wb.Ext w WB by rw [hWB]; (repeat' (first | (with_reducible assumption) | (with_reducible exact Wb.Ext.refl _) | (with_reducible refine Wb.Ext.drew ?_) | (with_reducible refine Wb.Ext.drewN ?_ _) | (with_reducible refine Wb.Ext.alloc ?_ _) | (with_reducible refine Wb.Ext.trans ?_ (by assumption)))))
 have hMB : M < WB.heap.size := by rw [hWB, ← hM]; simp
 have hMw : w.heap.size ≤ M := by omega
 rw [hM]
 have HMW := Lib.hid hMw
 clear hWB hM hmm hMw
 go_wp2_with fail
 go_loopw [18] (fun iv wr => ∃ k : Nat, k ≤ A.length ∧ iv = .int .i64 k ∧ Hid (KMap kPr wr M k pdZ (pairO (A.take k) [])) ∧ M < wr.heap.size ∧ Hid (Wb.Ext w wr)) (fun iv _ => A.length - (intOf iv).toNat)
 case atStart => exact ⟨0, Nat.zero_le _, rfl, HMB, hMB, HEB⟩
 case round =>
  clear HMB HEB hMB
  obtain ⟨k, hk, rfl, HM, hM0, HXR⟩ := hrel
  obtain ⟨wO, hwz⟩ : ∃ z, z = wr := ⟨_, rfl⟩
  subst hwz
  by_cases hlt : k < A.length
  ·obtain ⟨x, hx⟩ := Wb.get_ex hlt
   have hmem := List.mem_of_getElem? hx
   have HSr := Lib.hid (HA.out.ext HXR.out)
   obtain ⟨b, off, rfl, c0, c1, c2⟩ := HSr.out.cells hx
   have hki : (k : Int) < A.length := by omega
   have HX := Lib.hid hx
   have HNE := Lib.hid (Wb.rise_app HRA.out hx)
   have HPK : Hid (kPr.ok (x.y, x.i)) := Lib.hid (HOK.out (x.y, x.i) (.inl ⟨x, hmem, rfl⟩))
   obtain ⟨xa, xc, hxv⟩ := (HSr.out.2 x hmem).1.1.shape
   have HXV := Lib.hid hxv
   rw [hxv] at c2
   clear hmem hx hxv
   go_upto_region 5 with (fail)
   refine Wb.wp_at fun W0 hW0 => ?_
   obtain ⟨X, hX⟩ : ∃ X, wO.heap.size = X := ⟨_, rfl⟩
   have hb0 : Wb.Ext wO W0 := by rw [hW0]; (repeat' (first | (with_reducible assumption) | (with_reducible exact Wb.Ext.refl _) | (with_reducible refine Wb.Ext.drew ?_) | (with_reducible refine Wb.Ext.drewN ?_ _) | (with_reducible refine Wb.Ext.alloc ?_ _) | (with_reducible refine Wb.ext_set ?_ (by first | assumption | (simp; done) | (simp; omega) | omega) _) | (with_reducible refine Wb.Ext.trans ?_ (by assumption))))
   have x0 : W0.cell? ⟨X, 0, none⟩ = some (.int .i64 x.y) := by rw [hW0, ← hX]; simp [go_sem]
   have x1 : W0.cell? ⟨X, 1, none⟩ = some (.int .i64 x.i) := by rw [hW0, ← hX]; simp [go_sem]
   have x2 : W0.cell? ⟨X, 2, none⟩ = some (.slice xa x.l.length xc) := by rw [hW0, ← hX]; simp [go_sem]
   have HX0 := Lib.hid (HXR.out.trans hb0)
   rw [hX]
   obtain ⟨w12, hrun12, hm12, hg12⟩ := (HM.out.ext hb0).update Tryz.underlying130 (by unfold maxLen; omega) (p := (x.y, x.i)) HPK.out (pdv ⟨x, empS (x.y, x.i)⟩)
   have hrun12 : (Instr.mapUpdate 130 (.map (some M)) (.agg #[.int .i64 x.y, .int .i64 x.i]) (.agg #[.int .i64 x.y, .int .i64 x.i, .slice xa x.l.length xc, .int .i64 x.y, .int .i64 x.i, .slice none 0 0])).run Tryz.prog W0 = .ok () w12 := by rw [← HXV.out]; exact hrun12
   have HM12 := Lib.hid (KMap.congr hm12 (pair_stepA HX.out HNE.out))
   have hM12 : M < w12.heap.size := by have := hb0.size; have := hg12.size; omega
   have HX12 := Lib.hid (show Wb.Ext w w12 from HX0.out.grown hg12 (by intro k hk; cases hk; exact HMW.out))
   clear hW0 hX c0 c1 c2 hb0 hm12 hg12
   go_wp2
   go_roundw
   case rel => exact ⟨k + 1, by omega, by go_num, HM12, hM12, HX12⟩
   case measure => first | (simp [intOf]; done) | (simp [intOf]; omega)
  obtain rfl : k = A.length := by omega
  have HM2 : Hid (KMap kPr wO M A.length pdZ (pairO A (B.take 0))) := Lib.hid (by have := HM.out; rw [List.take_length] at this; exact this)
  clear HM hlt hk
  go_wp2_with fail
  go_loopw [38] (fun iv wr => ∃ k : Nat, k ≤ B.length ∧ iv = .int .i64 k ∧ Hid (KMap kPr wr M (A.length + k) pdZ (pairO A (B.take k))) ∧ M < wr.heap.size ∧ Hid (Wb.Ext w wr)) (fun iv _ => B.length - (intOf iv).toNat)
  case atStart => exact ⟨0, Nat.zero_le _, rfl, HM2, hM0, HXR⟩
  case round =>
   clear HM2 hM0 HXR
   obtain ⟨k, hk, rfl, HM, hM0, HXR⟩ := hrel
   obtain ⟨wP, hwz⟩ : ∃ z, z = wr := ⟨_, rfl⟩
   subst hwz
   by_cases hlt : k < B.length
   ·obtain ⟨x, hx⟩ := Wb.get_ex hlt
    have hmem := List.mem_of_getElem? hx
    have HSr := Lib.hid (HB.out.ext HXR.out)
    obtain ⟨b, off, rfl, c0, c1, c2⟩ := HSr.out.cells hx
    have hki : (k : Int) < B.length := by omega
    have HX := Lib.hid hx
    have hne := Wb.rise_app HRB.out hx
    have HNE := Lib.hid hne
    have HPK : Hid (kPr.ok (x.y, x.i)) := Lib.hid (HOK.out (x.y, x.i) (.inr ⟨x, hmem, rfl⟩))
    obtain ⟨xa, xc, hxv⟩ := (HSr.out.2 x hmem).1.1.shape
    have HXV := Lib.hid hxv
    rw [hxv] at c2
    obtain ⟨s, hs⟩ : ∃ s, wasS (Wb.findS A (x.y, x.i)) = s := ⟨_, rfl⟩
    obtain ⟨sa, sn, sc, hsv⟩ : ∃ sa sn sc, s.v = .slice sa sn sc := by
     rw [← hs]
     rcases hf : Wb.findS A (x.y, x.i) with _ | s9
     ·exact ⟨_, _, _, rfl⟩
     ·obtain ⟨a9, c9, e9⟩ := (HA.out.2 s9 (Wb.find_mem hf).1).1.1.shape
      exact ⟨_, _, _, e9⟩
    have HSV := Lib.hid hsv
    have HSS := Lib.hid hs
    clear hmem hx hxv hsv hs
    go_upto_region 11 with (fail)
    refine Wb.wp_at fun W0 hW0 => ?_
    obtain ⟨X, hX⟩ : ∃ X, wP.heap.size = X := ⟨_, rfl⟩
    have hb0 : Wb.Ext wP W0 := by rw [hW0]; (repeat' (first | (with_reducible assumption) | (with_reducible exact Wb.Ext.refl _) | (with_reducible refine Wb.Ext.drew ?_) | (with_reducible refine Wb.Ext.drewN ?_ _) | (with_reducible refine Wb.Ext.alloc ?_ _) | (with_reducible refine Wb.ext_set ?_ (by first | assumption | (simp; done) | (simp; omega) | omega) _) | (with_reducible refine Wb.Ext.trans ?_ (by assumption))))
    have x0 : W0.cell? ⟨X, 0, none⟩ = some (.int .i64 x.y) := by rw [hW0, ← hX]; simp [go_sem]
    have x1 : W0.cell? ⟨X, 1, none⟩ = some (.int .i64 x.i) := by rw [hW0, ← hX]; simp [go_sem]
    have x2 : W0.cell? ⟨X, 2, none⟩ = some (.slice xa x.l.length xc) := by rw [hW0, ← hX]; simp [go_sem]
    have y0 : W0.cell? ⟨X + 1, 0, none⟩ = some (.int .i64 x.y) := by rw [hW0, ← hX]; simp [go_sem]
    have y1 : W0.cell? ⟨X + 1, 1, none⟩ = some (.int .i64 x.i) := by rw [hW0, ← hX]; simp [go_sem]
    have HX0 := Lib.hid (HXR.out.trans hb0)
    rw [hX]
    obtain ⟨t0, t1, t2, hval⟩ : ∃ t0 t1 t2, (pairO A (B.take k) (x.y, x.i)).getD pdZ = .agg #[.int .i64 s.y, .int .i64 s.i, .slice sa sn sc, t0, t1, t2] := by
     rw [← HSV.out]
     have hn := find_ahead hne
     unfold pairO
     rw [show Wb.findS (B.take k) (x.y, x.i) = none from hn, ← HSS.out]
     rcases Wb.findS A (x.y, x.i) with _ | s
     ·exact ⟨_, _, _, rfl⟩
     ·exact ⟨_, _, _, rfl⟩
    have hlk : (Instr.lookup 130 (.map (some M)) (.agg #[.int .i64 x.y, .int .i64 x.i]) false).run Tryz.prog W0.drew = .ok (.agg #[.int .i64 s.y, .int .i64 s.i, .slice sa sn sc, t0, t1, t2]) W0.drew := by
     have := KMapO.look (p := (x.y, x.i)) (KMap.opt (HM.out.ext hb0.drew)) Tryz.underlying130 zeroPd HPK.out
     rw [hval] at this; exact this
    obtain ⟨w12, hrun12, hm12, hg12⟩ := (HM.out.ext hb0.drew).update Tryz.underlying130 (by unfold maxLen; omega) (p := (x.y, x.i)) HPK.out (pdv ⟨s, x⟩)
    have hrun12 : (Instr.mapUpdate 130 (.map (some M)) (.agg #[.int .i64 x.y, .int .i64 x.i]) (.agg #[.int .i64 s.y, .int .i64 s.i, .slice sa sn sc, .int .i64 x.y, .int .i64 x.i, .slice xa x.l.length xc])).run Tryz.prog W0.drew = .ok () w12 := by rw [← HSV.out, ← HXV.out]; exact hrun12
    have HM12 := Lib.hid (KMap.congr hm12 (by rw [← HSS.out]; exact pair_stepB HX.out HNE.out))
    have hM12 : M < w12.heap.size := by have := hb0.drew.size; have := hg12.size; omega
    have HX12 := Lib.hid (show Wb.Ext w w12 from HX0.out.drew.grown hg12 (by intro k hk; cases hk; exact HMW.out))
    have hfld : (Instr.field 108 (.agg #[.int .i64 s.y, .int .i64 s.i, .slice sa sn sc, t0, t1, t2]) 0).run Tryz.prog W0.drew = .ok (.agg #[.int .i64 s.y, .int .i64 s.i, .slice sa sn sc]) W0.drew := field0_pd _ _ _ _ _ _ _
    clear hW0 hX c0 c1 c2 hb0 hval hne hm12 hg12
    go_wp2_with fail
    go_region
    all_goals go_wp2
    go_roundw
    case rel => exact ⟨k + 1, by omega, by go_num, HM12, hM12, HX12⟩
    case measure => first | (simp [intOf]; done) | (simp [intOf]; omega)
   obtain rfl : k = B.length := by omega
   have HM2 : Hid (KMap kPr wP M (A.length + B.length) pdZ (pairO A B)) := Lib.hid (by have := HM.out; rwa [List.take_length] at this)
   clear HM hlt hk
   have HIN := Lib.hid (info_parts infoPd)
   have eg : ∀ args w, (callFunc 98 args).run Tryz.prog w = .ok (.enter 98 args) w := enters_of Tryz.func98 (by kernel_rfl) rfl
   have HEG := Lib.hid eg
   clear eg
   go_wp2_with fail
   go_fit (keysP_any (some M) _); rintro e w1 ⟨rfl, hw1⟩
   obtain ⟨Y, hY⟩ : ∃ Y, wP.heap.size = Y := ⟨_, rfl⟩
   have hb1 : Wb.Ext wP w1 := by rw [hw1]; (repeat' (first | (with_reducible assumption) | (with_reducible exact Wb.Ext.refl _) | (with_reducible refine Wb.Ext.drew ?_) | (with_reducible refine Wb.Ext.drewN ?_ _) | (with_reducible refine Wb.Ext.alloc ?_ _) | (with_reducible refine Wb.Ext.trans ?_ (by assumption))))
   have hYc : w1.cell? ⟨Y, 0, none⟩ = some (.map (some M)) := by rw [hw1, ← hY]; simp [go_sem]
   have hYs : Y < w1.heap.size := by rw [hw1, ← hY]; simp
   have HM3 := Lib.hid (HM2.out.ext hb1)
   have HX1 := Lib.hid (HXR.out.trans hb1)
   rw [hY]
   clear hw1 hY
   have HYC := Lib.hid hYc
   have HQ := Lib.hid (fun m => keysP_gives m Y w1 hYs hYc (KMap.opt HM3.out))
   clear hYc
   go_wp2_with fail
   go_fit (sortedP_any 98 #[.pointer (some ⟨Y, 0, none⟩)] HEG.out (KeysAre kPr (pairO A B)) (A.length + B.length) (by omega) (fun _ h => keys_len h) _ HQ.out); rintro e w2 ⟨v, ss, tt, rfl, hS, hp, hr, hrow, hx⟩
   have htt := pers_perm (fun _ => pairO_is) HOK.out hS hp hr
   have htl : tt.length ≤ A.length + B.length := by rw [hp.length_eq]; exact keys_len hS
   have HTT := Lib.hid htt
   have HROW := Lib.hid (row_tbl prc_len (by decide) hrow)
   have HM4 := Lib.hid (HM3.out.ext hx)
   have HX2 := Lib.hid (HX1.out.trans hx)
   obtain ⟨ta, tc, rfl⟩ := HROW.out.shape
   have hmem : ∀ p ∈ tt, Wb.hasP A p ∨ Wb.hasP B p := fun p hp => ((Wb.persP_of A B).2 p).1 (htt ▸ hp)
   have HMEM := Lib.hid hmem
   clear hS hp hr hrow hx htt hmem HYC HQ HM3 HM2 HX1 hb1
   go_wp2_with fail
   go_loopw [61, 12] (fun iv ov wr => ∃ (k : Nat) (oa : Option Addr) (oc : Nat), k ≤ tt.length ∧ iv = .int .i64 k ∧ ov = .slice oa k oc ∧ Hid (wr.ownsRow w2.heap.size 108 6 (.slice oa k oc) k (rowsOf pdc ((tt.take k).map (pdOf A B)))) ∧ Hid (Wb.Ext w2 wr)) (fun iv _ _ => tt.length - (intOf iv).toNat)
   case atStart => exact ⟨0, none, 0, Nat.zero_le _, rfl, rfl, Lib.hid own_none, Lib.hid (.refl _)⟩
   case round =>
    obtain ⟨k, oa, oc, hk, rfl, rfl, HO, HXE⟩ := hrel
    obtain ⟨wQ, hwz⟩ : ∃ z, z = wr := ⟨_, rfl⟩
    subst hwz
    by_cases hlt : k < tt.length
    ·obtain ⟨p, hp⟩ := Wb.get_ex hlt
     have hpm := List.mem_of_getElem? hp
     have hrw := HROW.out.ext HXE.out
     obtain ⟨b, off, rfl, hc⟩ := hrw.opened (by rintro rfl; simp at hp)
     have c0 := hc k p hp 0 _ rfl
     have c1 := hc k p hp 1 _ rfl
     rw [Nat.add_zero] at c0
     have hki : (k : Int) < tt.length := by omega
     have HP := Lib.hid hp
     have hPO := HMEM.out p hpm
     have HPK := Lib.hid (HOK.out p hPO)
     obtain ⟨s, hs⟩ : ∃ s, wasS (Wb.findS A p) = s := ⟨_, rfl⟩
     obtain ⟨sa, sn, sc, hsv⟩ : ∃ sa sn sc, s.v = .slice sa sn sc := by
      rw [← hs]
      rcases hf : Wb.findS A p with _ | s9
      ·exact ⟨_, _, _, rfl⟩
      ·obtain ⟨a9, c9, e9⟩ := (HA.out.2 s9 (Wb.find_mem hf).1).1.1.shape
       exact ⟨_, _, _, e9⟩
     obtain ⟨t, ht⟩ : ∃ t, nowS p (Wb.findS B p) = t := ⟨_, rfl⟩
     obtain ⟨na, nn, nc, htv⟩ : ∃ sa sn sc, t.v = .slice sa sn sc := by
      rw [← ht]
      rcases hf : Wb.findS B p with _ | s9
      ·exact ⟨_, _, _, rfl⟩
      ·obtain ⟨a9, c9, e9⟩ := (HB.out.2 s9 (Wb.find_mem hf).1).1.1.shape
       exact ⟨_, _, _, e9⟩
     have hpd : pdOf A B p = ⟨s, t⟩ := by unfold pdOf; rw [hs, ht]
     have HPD := Lib.hid hpd
     have hval : pdv (pdOf A B p) = .agg #[.int .i64 s.y, .int .i64 s.i, .slice sa sn sc, .int .i64 t.y, .int .i64 t.i, .slice na nn nc] := by rw [hpd, pdv, hsv, htv]
     have hcl : pdc (pdOf A B p) = [.int .i64 s.y, .int .i64 s.i, .slice sa sn sc, .int .i64 t.y, .int .i64 t.i, .slice na nn nc] := by rw [hpd, pdc, hsv, htv]
     have HCL := Lib.hid hcl
     have HPS := Lib.hid (show (pairO A B p).getD pdZ = .agg #[.int .i64 s.y, .int .i64 s.i, .slice sa sn sc, .int .i64 t.y, .int .i64 t.i, .slice na nn nc] by rw [pairO_some hPO, ← hval]; rfl)
     clear hp hpm hrw hc hPO hs hsv ht htv hpd hval hcl
     go_upto_region 18 with (fail)
     refine Wb.wp_at fun W0 hW0 => ?_
     obtain ⟨X, hX⟩ : ∃ X, wQ.heap.size = X := ⟨_, rfl⟩
     have hb0 : Wb.Ext wQ W0 := by rw [hW0]; (repeat' (first | (with_reducible assumption) | (with_reducible exact Wb.Ext.refl _) | (with_reducible refine Wb.Ext.drew ?_) | (with_reducible refine Wb.Ext.drewN ?_ _) | (with_reducible refine Wb.Ext.alloc ?_ _) | (with_reducible refine Wb.ext_set ?_ (by first | assumption | (simp; done) | (simp; omega) | omega) _) | (with_reducible refine Wb.Ext.trans ?_ (by assumption))))
     have x0 : W0.cell? ⟨X, 0, none⟩ = some (.int .i64 p.1) := by rw [hW0, ← hX]; simp [go_sem]
     have x1 : W0.cell? ⟨X, 1, none⟩ = some (.int .i64 p.2) := by rw [hW0, ← hX]; simp [go_sem]
     have hlk : (Instr.lookup 130 (.map (some M)) (.agg #[.int .i64 p.1, .int .i64 p.2]) false).run Tryz.prog W0 = .ok (.agg #[.int .i64 s.y, .int .i64 s.i, .slice sa sn sc, .int .i64 t.y, .int .i64 t.i, .slice na nn nc]) W0 := by
      have := KMapO.look (p := p) (KMap.opt (HM4.out.ext (HXE.out.trans hb0))) Tryz.underlying130 zeroPd HPK.out
      rw [HPS.out] at this; exact this
     have HO0 := Lib.hid (row_ext3 HO.out hb0)
     have HX0 := Lib.hid (HXE.out.trans hb0)
     have hs0 : w2.heap.size ≤ W0.heap.size := HX0.out.size
     rw [hX]
     clear hW0 hX c0 c1 hb0 HO
     obtain ⟨hi, hz0, hz1, hz2⟩ := HIN.out.choose_spec
     go_wp2_with (at_builtin; go_loud (refine wpList_append_row2 rfl (.tmp 65) (.tmp 69) 105 rfl w2.heap.size 108 _ pdZ 6 80 Tryz.underlying105 hi hz0 hz1 hz2 rfl (by decide) _ _ _ rfl (row_ext3 HO0.out ((Wb.Ext.refl _).alloc _)) _ rfl 1 [.int .i64 s.y, .int .i64 s.i, .slice sa sn sc, .int .i64 t.y, .int .i64 t.i, .slice na nn nc] ?c1 ?c2 ?c3 ?c4 ?c5 ?_))
     case c1 => exact src_lit _ _ (by simp) [.int .i64 s.y, .int .i64 s.i, .slice sa sn sc, .int .i64 t.y, .int .i64 t.i, .slice na nn nc] _ _
     case c2 => intro u hu; simp at hu; rcases hu with rfl | rfl | rfl | rfl | rfl | rfl <;> rfl
     case c3 => unfold maxLen; omega
     case c4 => omega
     case c5 => first | omega | (simp; omega)
     intro u2 w6 hown2 hg2 hblk
     have hrb : ∀ q, (Value.slice oa k oc).ownBlock = some q → w2.heap.size ≤ q := fun q hq => (HO0.out.lt q hq).1
     have HX6 := Lib.hid (show Wb.Ext w2 w6 from Wb.Ext.grown (Wb.Ext.trans HX0.out (by (repeat' (first | (with_reducible assumption) | (with_reducible exact Wb.Ext.refl _) | (with_reducible refine Wb.Ext.drew ?_) | (with_reducible refine Wb.Ext.drewN ?_ _) | (with_reducible refine Wb.Ext.alloc ?_ _) | (with_reducible refine Wb.Ext.trans ?_ (by assumption)))))) hg2 (fun q hq => hrb q hq))
     have HO6 := Lib.hid (show w6.ownsRow w2.heap.size 108 6 u2 (k + 1) (rowsOf pdc ((tt.take (k + 1)).map (pdOf A B))) by
      have e : tt.take (k + 1) = tt.take k ++ [p] := by
       obtain ⟨h1, h2⟩ := List.getElem?_eq_some_iff.1 HP.out
       rw [← h2]; exact List.take_succ_eq_append_getElem h1
      rw [e, List.map_append, rowsOf_app, List.map_singleton, rowsOf_one, HCL.out]
      have h9 := hown2
      first | exact h9 | (rw [← List.map_take] at h9; exact h9))
     obtain ⟨ua, uc, rfl⟩ := row_shape HO6.out
     clear hi hz0 hz1 hz2 hg2 hown2 hblk hrb
     go_wp2
     go_roundw
     case rel => exact ⟨k + 1, ua, uc, by omega, by go_num, rfl, HO6, HX6⟩
     case measure => first | (simp [intOf]; done) | (simp [intOf]; omega)
    obtain rfl : k = tt.length := by omega
    have HF := Lib.hid (show Tbl 6 pdc wQ (.slice oa tt.length oc) ((Wb.persP A B).map (pdOf A B)) by
     have := row_tbl pdc_len (by decide) HO.out
     rw [List.take_length] at this
     rw [← HTT.out]; exact this)
    have HXF := Lib.hid (HX2.out.trans HXE.out)
    go_wp2
    refine bodyPost_ret (v := .slice oa tt.length oc) (by simp [results, Tryz.results47, go_sem]) rfl ⟨_, rfl, HF.out, fun q hq => Nat.le_trans HX2.out.size (HO.out.lt q hq).1, HXF.out⟩
end Go.Proofs.YtnefdpnolojojaaGreatDoor
