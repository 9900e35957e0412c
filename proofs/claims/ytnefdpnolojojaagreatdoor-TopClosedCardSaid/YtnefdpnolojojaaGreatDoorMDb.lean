/- MDb -/
import Derived.Test.YtnefdpnolojojaaGreatDoorMDa
import Derived.Test.YtnefdpnolojojaaGreatDoorMPl
import Derived.Test.YtnefdpnolojojaaGreatDoorMSm
import Derived.Test.YtnefdpnolojojaaGreatDoorMMa
import Derived.Test.YtnefdpnolojojaaGreatDoorMPm
import Derived.Test.YtnefdpnolojojaaGreatDoorDel3
namespace Go.Proofs.YtnefdpnolojojaaGreatDoor
open Go.RowKit Go.Sort
set_option maxRecDepth 8000
attribute [local go_sem ↓] Go.wp_at_zero Go.wp_at_succ
def slc (s : Wb.Sl) : List Value := [.int .i64 s.y, .int .i64 s.i, s.v]
theorem slc_len (s : Wb.Sl) : (slc s).length = 3 := rfl
def Sls (w : World) (v : Value) (L : List Wb.Sl) : Prop := Tbl 3 slc w v L ∧ ∀ s ∈ L, LnsC w s.v s.l ∧ Sized s.l
theorem Sls.ext {w w' : World} {v : Value} {L : List Wb.Sl} (h : Sls w v L) (k : Wb.Ext w w') : Sls w' v L := ⟨h.1.ext k, fun s hs => ⟨(h.2 s hs).1.ext k, (h.2 s hs).2⟩⟩
theorem Sls.cells {w : World} {a : Option Addr} {n cap : Nat} {L : List Wb.Sl} (h : Sls w (.slice a n cap) L) {k : Nat} {s : Wb.Sl} (hk : L[k]? = some s) : ∃ b off, a = some ⟨b, off, none⟩ ∧ w.cell? ⟨b, off + k * 3, none⟩ = some (.int .i64 s.y) ∧ w.cell? ⟨b, off + k * 3 + 1, none⟩ = some (.int .i64 s.i) ∧ w.cell? ⟨b, off + k * 3 + 2, none⟩ = some s.v := by
 obtain ⟨b, off, rfl, hc⟩ := h.1.opened (by rintro rfl; simp at hk)
 exact ⟨b, off, rfl, hc k s hk 0 _ rfl, hc k s hk 1 _ rfl, hc k s hk 2 _ rfl⟩
theorem drop_at {α : Type} {l : List α} {k : Nat} {x : α} (h : l[k]? = some x) : l.drop k = x :: l.drop (k + 1) := by
 obtain ⟨h1, rfl⟩ := List.getElem?_eq_some_iff.1 h
 exact List.drop_eq_getElem_cons h1
theorem dzero_any (y i : Int) (v : Value) (l : List Wb.Ln) (w : World) (hl : Lns w v l) :
  Calls Tryz.prog 49 #[SlV y i v] w fun e w' => e = .returned (.bool l.isEmpty) ∧ Wb.Ext w w' := by
 obtain ⟨a, c, rfl⟩ := hl.shape
 clear hl
 cases l with
 | nil =>
  go_enter Tryz.func49, Tryz.ntmps49
  go_wp2
  go_ret
  exact ⟨rfl, by (repeat' (first | (with_reducible assumption) | (with_reducible exact Wb.Ext.refl _) | (with_reducible refine Wb.Ext.drew ?_) | (with_reducible refine Wb.Ext.drewN ?_ _) | (with_reducible refine Wb.Ext.alloc ?_ _) | (with_reducible refine Wb.Ext.trans ?_ (by assumption))))⟩
 | cons x r =>
  have d : (((x :: r).length : Int) == 0) = false := by simp; omega
  have H := Lib.hid (show (x :: r).isEmpty = false from rfl)
  generalize (x :: r).length = n at d ⊢
  go_enter Tryz.func49, Tryz.ntmps49
  go_wp2
  go_ret
  exact ⟨Wb.ret_bool H.out.symm, by (repeat' (first | (with_reducible assumption) | (with_reducible exact Wb.Ext.refl _) | (with_reducible refine Wb.Ext.drew ?_) | (with_reducible refine Wb.Ext.drewN ?_ _) | (with_reducible refine Wb.Ext.alloc ?_ _) | (with_reducible refine Wb.Ext.trans ?_ (by assumption))))⟩
theorem net_none {acc : Int} {s : Wb.Sl} {r : List Wb.Sl} (h : Wb.noneB s.y s.i s.l = true) : Wb.netF acc (s :: r) = Wb.netF acc r := by rw [Wb.netF, if_pos h]
theorem net_err {acc a b c d e : Int} {s : Wb.Sl} {r : List Wb.Sl} (h : Wb.noneB s.y s.i s.l = false) (hs : Wb.sums s.y s.i s.l = (a, b, c, d, e)) (he : e ≠ 0) : Wb.netF acc (s :: r) = (0, e) := by
 rw [Wb.netF, if_neg (by rw [h]; exact Bool.false_ne_true), hs, if_pos he]
theorem net_over {acc a b c d : Int} {s : Wb.Sl} {r : List Wb.Sl} (h : Wb.noneB s.y s.i s.l = false) (hs : Wb.sums s.y s.i s.l = (a, b, c, d, 0)) (he : Wb.fits (acc + c) = false) : Wb.netF acc (s :: r) = (0, 9) := by
 rw [Wb.netF, if_neg (by rw [h]; exact Bool.false_ne_true), hs, if_neg (by simp), if_pos he]
theorem net_more {acc a b c d : Int} {s : Wb.Sl} {r : List Wb.Sl} (h : Wb.noneB s.y s.i s.l = false) (hs : Wb.sums s.y s.i s.l = (a, b, c, d, 0)) (he : Wb.fits (acc + c) = true) : Wb.netF acc (s :: r) = Wb.netF (acc + c) r := by
 rw [Wb.netF, if_neg (by rw [h]; exact Bool.false_ne_true), hs, if_neg (by simp), if_neg (by rw [he]; decide)]
set_option maxHeartbeats 2000000 in
theorem dnet_any (v : Value) (L : List Wb.Sl) (w : World) (hL : Sls w v L) (hl : L.length ≤ 1000000) :
  Calls Tryz.prog 74 #[v] w fun e w' => e = Two (Wb.netF 0 L) ∧ Wb.Ext w w' := by
 obtain ⟨va, vc, rfl⟩ := hL.1.shape
 have HL := Lib.hid hL
 clear hL
 go_enter Tryz.func74, Tryz.ntmps74
 go_wp2_with fail
 go_loopw [14, 4] (fun iv sv wr => ∃ (k : Nat) (acc : Int), k ≤ L.length ∧ iv = .int .i64 k ∧ sv = .int .i64 acc ∧ Hid (Wb.fits acc = true ∧ Wb.netF 0 L = Wb.netF acc (L.drop k)) ∧ Wb.Ext w wr) (fun iv _ _ => L.length - (intOf iv).toNat)
 case atStart => exact ⟨0, 0, Nat.zero_le _, rfl, rfl, Lib.hid ⟨by decide, rfl⟩, .refl _⟩
 case round =>
  obtain ⟨k, acc, hk, rfl, rfl, HA, hext⟩ := hrel
  by_cases hlt : k < L.length
  ·obtain ⟨s, hs⟩ := Wb.get_ex hlt
   obtain ⟨b, off, rfl, c0, c1, c2⟩ := (HL.out.ext hext).cells hs
   have hki : (k : Int) < L.length := by omega
   have HD := Lib.hid (drop_at hs)
   have HS := Lib.hid ((HL.out.ext hext).2 s (List.mem_of_getElem? hs))
   clear hs
   obtain ⟨sa, sc, hsv⟩ := HS.out.1.1.shape
   rw [hsv] at c2
   have HSV := Lib.hid hsv
   have HS1 := Lib.hid (show Lns wr (.slice sa s.l.length sc) s.l by have := HS.out.1.1; rwa [hsv] at this)
   clear hsv
   go_wp2_with fail
   go_fit (dnone_any s.y s.i _ s.l _ (HS1.out.ext (by (repeat' (first | (with_reducible assumption) | (with_reducible exact Wb.Ext.refl _) | (with_reducible refine Wb.Ext.drew ?_) | (with_reducible refine Wb.Ext.drewN ?_ _) | (with_reducible refine Wb.Ext.alloc ?_ _) | (with_reducible refine Wb.ext_set ?_ (by first | assumption | (simp; done) | (simp; omega) | omega) _) | (with_reducible refine Wb.Ext.trans ?_ (by assumption))))))); rintro e w1 ⟨rfl, hb1⟩
   have d0 : w1.cell? ⟨wr.heap.size, 0, none⟩ = some (.int .i64 s.y) := hb1.keep (by simp [go_sem])
   have d1 : w1.cell? ⟨wr.heap.size, 1, none⟩ = some (.int .i64 s.i) := hb1.keep (by simp [go_sem])
   have d2 : w1.cell? ⟨wr.heap.size, 2, none⟩ = some (.slice sa s.l.length sc) := hb1.keep (by simp [go_sem])
   have hx1 : Wb.Ext wr w1 := Wb.Ext.trans (by (repeat' (first | (with_reducible assumption) | (with_reducible exact Wb.Ext.refl _) | (with_reducible refine Wb.Ext.drew ?_) | (with_reducible refine Wb.Ext.drewN ?_ _) | (with_reducible refine Wb.Ext.alloc ?_ _) | (with_reducible refine Wb.ext_set ?_ (by first | assumption | (simp; done) | (simp; omega) | omega) _) | (with_reducible refine Wb.Ext.trans ?_ (by assumption))))) hb1
   clear hb1 c0 c1 c2
   obtain ⟨p, hp⟩ : ∃ p, Wb.noneB s.y s.i s.l = p := ⟨_, rfl⟩
   have HP := Lib.hid hp
   rw [hp]
   clear hp
   cases p
   ·obtain ⟨⟨q1, q2, q3, q4, q5⟩, hq⟩ : ∃ q, Wb.sums s.y s.i s.l = q := ⟨_, rfl⟩
    have HQ := Lib.hid hq
    have HQF := Lib.hid (Wb.sums_law hq)
    clear hq
    go_wp2_with fail
    go_fit (sums_any s.y s.i _ s.l _ (HS1.out.ext hx1) HS.out.2); rintro e w2 ⟨rfl, hb2⟩
    rw [HQ.out]
    have hx2 : Wb.Ext w w2 := (hext.trans hx1).trans hb2
    clear hb2 hx1 d0 d1 d2
    by_cases he : q5 = 0
    ·subst he
     go_wp2_with fail
     go_fit (add_any acc q3 _); rintro e w3 ⟨rfl, rfl⟩
     obtain ⟨f, hf⟩ : ∃ f, Wb.fits (acc + q3) = f := ⟨_, rfl⟩
     have HF := Lib.hid hf
     have HQ3 := Lib.hid (show Wb.fits q3 = true from (Wb.fits_iff _).2 HQF.out.2.2.2.1)
     clear hf
     cases f
     ·have HT := Lib.hid (told_over HA.out.1 HQ3.out (by rw [HF.out]; exact Bool.false_ne_true))
      have HN := Lib.hid (show Wb.netF 0 L = (0, 9) by rw [HA.out.2, HD.out, net_over HP.out HQ.out HF.out])
      rw [HT.out]
      go_wp2
      refine bodyPost_ret (v := .tuple #[.int .i64 0, .int .i64 9]) (by simp [results, Tryz.results74, go_sem]) rfl ⟨by rw [HN.out], hx2⟩
     ·have HT := Lib.hid (told_in HA.out.1 HQ3.out HF.out)
      have HN := Lib.hid (show Wb.netF 0 L = Wb.netF (acc + q3) (L.drop (k + 1)) by rw [HA.out.2, HD.out, net_more HP.out HQ.out HF.out])
      rw [HT.out]
      go_wp2
      go_roundw
      case rel => exact ⟨k + 1, acc + q3, by omega, by go_num, rfl, Lib.hid ⟨HF.out, HN.out⟩, hx2⟩
      case measure => simp [intOf]; omega
    ·have d : (q5 == 0) = false := by simpa using he
     have d2 : (q5 != 0) = true := by simpa using he
     have HN := Lib.hid (show Wb.netF 0 L = (0, q5) by rw [HA.out.2, HD.out, net_err HP.out HQ.out he])
     go_wp2
     refine bodyPost_ret (v := .tuple #[.int .i64 0, .int .i64 q5]) (by simp [results, Tryz.results74, go_sem]) rfl ⟨by rw [HN.out], hx2⟩
   ·have HN := Lib.hid (show Wb.netF 0 L = Wb.netF acc (L.drop (k + 1)) by rw [HA.out.2, HD.out, net_none HP.out])
    go_wp2
    go_roundw
    case rel => exact ⟨k + 1, acc, by omega, by go_num, rfl, Lib.hid ⟨HA.out.1, HN.out⟩, hext.trans hx1⟩
    case measure => simp [intOf]; omega
  ·obtain rfl : k = L.length := by omega
   have HN := Lib.hid (show Wb.netF 0 L = (acc, 0) by rw [HA.out.2, List.drop_length, Wb.netF])
   go_wp2
   refine bodyPost_ret (v := .tuple #[.int .i64 acc, .int .i64 0]) (by simp [results, Tryz.results74, go_sem]) rfl ⟨by rw [HN.out], hext⟩
end Go.Proofs.YtnefdpnolojojaaGreatDoor
namespace Go.Proofs.YtnefdpnolojojaaGreatDoor
open Go.RowKit Go.Maps
def PrOk (p : Int × Int) : Prop := (Lit.int .i64 p.1).wf = true ∧ (Lit.int .i64 p.2).wf = true
theorem prOk_of {p : Int × Int} (h1 : -9223372036854775808 ≤ p.1 ∧ p.1 ≤ 9223372036854775807) (h2 : -9223372036854775808 ≤ p.2 ∧ p.2 ≤ 9223372036854775807) : PrOk p := by
 constructor <;> (simp [Lit.wf, IntKind.min, IntKind.max, IntKind.signed, IntKind.bits]; omega)
abbrev slZ : Value := .agg #[.int .i64 0, .int .i64 0, .slice none 0 0]
abbrev slV (s : Wb.Sl) : Value := .agg #[.int .i64 s.y, .int .i64 s.i, s.v]
def slO : Option Wb.Sl → Value
 | none => slZ
 | some s => slV s
def SMapIs (w : World) (b n : Nat) (f : Int × Int → Option Wb.Sl) : Prop := ∃ D, w.ownsMap Tryz.prog 131 RH b n D ∧ ∀ p, PrOk p → D.atKey (kPair p.1 p.2) (.held slZ) = .held (slO (f p)) ∧ Maps.has D (kPair p.1 p.2) = (f p).isSome
theorem SMapIs.lt {w : World} {b n : Nat} {f : Int × Int → Option Wb.Sl} (h : SMapIs w b n f) : b < w.heap.size := by
 obtain ⟨D, h1, _⟩ := h; exact h1.lt
theorem SMapIs.kept {w w' : World} {b n : Nat} {f : Int × Int → Option Wb.Sl} {row : Option Nat} (h : SMapIs w b n f) (hg : w.grownBy w' row) (hne : some b ≠ row) : SMapIs w' b n f := by
 obtain ⟨D, h1, h2⟩ := h
 exact ⟨D, h1.kept hg hne, h2⟩
theorem ext_grown {w w' : World} (h : Wb.Ext w w') : w.grownBy w' none := ⟨h.os, h.tape, h.output, h.size, fun k hk _ => h.block k hk⟩
theorem SMapIs.ext {w w' : World} {b n : Nat} {f : Int × Int → Option Wb.Sl} (h : SMapIs w b n f) (k : Wb.Ext w w') : SMapIs w' b n f := h.kept (ext_grown k) (by simp)
theorem SMapIs.mono {w : World} {b n m : Nat} {f : Int × Int → Option Wb.Sl} (h : SMapIs w b n f) (k : n ≤ m) : SMapIs w b m f := by
 obtain ⟨D, h1, h2⟩ := h
 exact ⟨D, h1.mono k, h2⟩
end Go.Proofs.YtnefdpnolojojaaGreatDoor
namespace Go.Proofs.YtnefdpnolojojaaGreatDoor
open Go.RowKit Go.Sort Go.Lib Go.Maps
set_option maxRecDepth 8000
attribute [local go_sem ↓] Go.wp_at_zero Go.wp_at_succ
def KeyOk (p : Int) (c : List UInt8) : Prop := (Lit.int .i64 p).wf = true ∧ c.length ≤ maxLen
def MapIs (w : World) (b n : Nat) (f : Int → List UInt8 → Int) : Prop := ∃ D, w.ownsMap Tryz.prog 142 RH b n D ∧ ∀ p c, KeyOk p c → D.atKey (kSpot p c) (.held (.int .i64 0)) = .held (.int .i64 (f p c))
theorem kSpot_inj {p p' : Int} {c c' : List UInt8} (h : KeyOk p c) (h' : KeyOk p' c') (e : kSpot p c = kSpot p' c') : p = p' ∧ c = c' := by
 have := spot_keyed.inj (spot_key h.1 h.2) (e ▸ spot_key h'.1 h'.2)
 simp only [Value.agg.injEq] at this
 have h1 := congrArg (fun a => a[0]?) this
 have h2 := congrArg (fun a => a[1]?) this
 simp at h1 h2
 exact ⟨h1, Wb.S_inj h2⟩
structure SoFar (f : Int → List UInt8 → Int) (left : Lit → Bool) (r : List Wb.Ln) : Prop where
 ok : ∀ x ∈ r, KeyOk x.part x.code ∧ x.cents = f x.part x.code ∧ x.cents ≠ 0
 none : ∀ x ∈ r, left (kSpot x.part x.code) = false
 all : ∀ p c, KeyOk p c → left (kSpot p c) = false → f p c ≠ 0 → ∃ x ∈ r, x.part = p ∧ x.code = c
 one : r.Pairwise fun a b => ¬ (a.part = b.part ∧ a.code = b.code)
theorem lval_perm {a b : List Wb.Ln} (h : a.Perm b) (p : Int) (c : List UInt8) : Wb.lval p c a = Wb.lval p c b := by
 induction h with
 | nil => rfl
 | cons x _ ih => rw [Wb.lval, Wb.lval, ih]
 | swap x y l => simp only [Wb.lval]; omega
 | trans _ _ ih1 ih2 => rw [ih1, ih2]
theorem lval_one {r : List Wb.Ln} (h : r.Pairwise fun a b => ¬ (a.part = b.part ∧ a.code = b.code)) {x : Wb.Ln} (hx : x ∈ r) : Wb.lval x.part x.code r = x.cents := by
 induction r with
 | nil => cases hx
 | cons z r ih =>
  obtain ⟨h1, h2⟩ := List.pairwise_cons.1 h
  rcases List.mem_cons.1 hx with rfl | hx
  ·rw [Wb.lval, if_pos ⟨rfl, rfl⟩, Wb.lval_none fun y hy e => h1 y hy ⟨e.1.symm, e.2.symm⟩]; omega
  ·rw [Wb.lval, if_neg (h1 x hx), ih h2 hx]; omega
theorem so_end {f : Int → List UInt8 → Int} {left : Lit → Bool} {r s : List Wb.Ln} (h : SoFar f left r) (hl : ∀ k, left k = false) (hf : ∀ p c, f p c ≠ 0 → KeyOk p c) (hp : s.Perm r) (hs : s.Pairwise fun a b => Wb.lnLt b a = false) :
  Wb.Rise s ∧ Wb.NonZ s ∧ ∀ p c, Wb.lval p c s = f p c := by
 have hone : s.Pairwise fun a b => ¬ (a.part = b.part ∧ a.code = b.code) := (hp.pairwise_iff (fun {_ _} hab e => hab ⟨e.1.symm, e.2.symm⟩)).2 h.one
 refine ⟨?_, fun x hx => (h.ok x (hp.mem_iff.1 hx)).2.2, fun p c => ?_⟩
 ·unfold Wb.Rise
  refine (hs.and hone).imp fun {a b} hab => ?_
  rcases hlt : Wb.lnLt a b with _ | _
  ·exact absurd (Wb.lnLt_total hlt hab.1) hab.2
  ·rfl
 ·rw [lval_perm hp]
  by_cases hz : f p c = 0
  ·rw [hz]
   by_cases hm : ∃ x ∈ r, x.part = p ∧ x.code = c
   ·obtain ⟨x, hx, rfl, rfl⟩ := hm
    have := h.ok x hx
    rw [hz] at this
    exact absurd this.2.1 this.2.2
   ·exact Wb.lval_none fun x hx e => hm ⟨x, hx, e⟩
  ·obtain ⟨x, hx, rfl, rfl⟩ := h.all p c (hf p c hz) (hl _) hz
   rw [lval_one h.one hx]; exact (h.ok x hx).2.1
theorem strike_self (kl : Lit) (hk : WideAt.IsKeyLit kl) : kl.sameKey kl = true := WideAt.sameKey_self hk
theorem so_same {f : Int → List UInt8 → Int} {left : Lit → Bool} {r : List Wb.Ln} (h : SoFar f left r) {p : Int} {c : List UInt8} (hk : KeyOk p c) (hz : f p c = 0) : SoFar f (fun z => left z && !z.sameKey (kSpot p c)) r := by
 refine ⟨h.ok, fun x hx => by rw [h.none x hx]; rfl, fun q d hq hl hn => ?_, h.one⟩
 rcases hlq : left (kSpot q d) with _ | _
 ·exact h.all q d hq hlq hn
 ·rw [hlq, Bool.true_and, Bool.not_eq_false'] at hl
  by_cases e : kSpot q d = kSpot p c
  ·obtain ⟨rfl, rfl⟩ := kSpot_inj hq hk e
   exact absurd hz hn
  ·rw [Maps.sameKey_ne e] at hl; cases hl
theorem so_more {f : Int → List UInt8 → Int} {left : Lit → Bool} {r : List Wb.Ln} (h : SoFar f left r) {p : Int} {c : List UInt8} (hk : KeyOk p c) (hl : left (kSpot p c) = true) (hz : f p c ≠ 0) : SoFar f (fun z => left z && !z.sameKey (kSpot p c)) (r ++ [⟨p, c, f p c⟩]) := by
 have hself : (kSpot p c).sameKey (kSpot p c) = true := strike_self _ (spot_keyed.key (spot_key hk.1 hk.2))
 refine ⟨fun x hx => ?_, fun x hx => ?_, fun q d hq hlq hn => ?_, List.pairwise_append.2 ⟨h.one, List.pairwise_singleton _ _, fun x hx y hy e => ?_⟩⟩
 ·rcases List.mem_append.1 hx with q | q
  ·exact h.ok x q
  ·simp at q; subst q; exact ⟨hk, rfl, hz⟩
 ·rcases List.mem_append.1 hx with q | q
  ·rw [h.none x q]; rfl
  ·simp at q; subst q; simp [hself]
 ·rcases hb : left (kSpot q d) with _ | _
  ·obtain ⟨x, hx, e⟩ := h.all q d hq hb hn
   exact ⟨x, List.mem_append_left _ hx, e⟩
  ·rw [hb, Bool.true_and, Bool.not_eq_false'] at hlq
   by_cases e : kSpot q d = kSpot p c
   ·obtain ⟨rfl, rfl⟩ := kSpot_inj hq hk e
    exact ⟨⟨q, d, f q d⟩, List.mem_append_right _ (by simp), rfl, rfl⟩
   ·rw [Maps.sameKey_ne e] at hlq; cases hlq
 ·simp at hy; subst hy
  have := h.none x hx
  simp only at e
  rw [e.1, e.2, hl] at this; cases this
theorem row_mono {w : World} {base base' e s n : Nat} {v : Value} {xs : List Value} (h : w.ownsRow base e s v n xs) (hb : base' ≤ base) : w.ownsRow base' e s v n xs := by
 obtain ⟨h1, h2 | ⟨g, cap, cur, hv, hg, rest⟩⟩ := h
 ·exact ⟨h1, .inl h2⟩
 ·exact ⟨h1, .inr ⟨g, cap, cur, hv, Nat.le_trans hb hg, rest⟩⟩
theorem infoLn : (Tryz.prog.info? 89).map (fun i => (i.zero, i.size, i.bytes)) = some (some (.agg #[.int .i64 0, .string "".toUTF8, .int .i64 0]), 3, 32) := by kernel_rfl
structure IsLines (w w' : World) (f : Int → List UInt8 → Int) (v : Value) (r : List Wb.Ln) : Prop where
 rise : Wb.Rise r
 nonz : Wb.NonZ r
 val : ∀ p c, Wb.lval p c r = f p c
 row : w'.ownsRow w.heap.size 89 3 v r.length (rowsOf lnc r)
 ext : Wb.Ext w w'
set_option maxHeartbeats 4000000 in
theorem lines_any (b n : Nat) (f : Int → List UInt8 → Int) (w : World) (hm : MapIs w b n f) (hf : ∀ p c, f p c ≠ 0 → KeyOk p c) (_ : n ≤ 100000) (hcnt : ∀ r : List Wb.Ln, (∀ x ∈ r, KeyOk x.part x.code ∧ x.cents = f x.part x.code ∧ x.cents ≠ 0) → (r.Pairwise fun a b => ¬ (a.part = b.part ∧ a.code = b.code)) → r.length ≤ 100000) :
  Calls Tryz.prog 70 #[.map (some b)] w fun e w' => ∃ v, e = .returned v ∧ ∃ r, IsLines w w' f v r := by
 obtain ⟨i0, hi, hz0, hz1, hz2⟩ := info_parts infoLn
 have HIN := Lib.hid (show Tryz.prog.info? 89 = some i0 ∧ i0.zero = some (.agg #[.int .i64 0, .string "".toUTF8, .int .i64 0]) ∧ i0.size = 3 ∧ i0.bytes = 32 from ⟨hi, hz0, hz1, hz2⟩)
 clear hi hz0 hz1 hz2
 obtain ⟨D, hown, hD⟩ := hm
 have HD := Lib.hid hD
 have HF := Lib.hid hf
 have HCNT := Lib.hid hcnt
 have hblt := hown.lt
 clear hD hf hcnt
 go_enter Tryz.func70, Tryz.ntmps70
 go_wp2_with (first
  | (at_range; refine wpList_range_own _ rfl _ 140 rfl 142 52 spot_keyed Tryz.underlying140 RH b n D rfl hown ?_; intro w0 hrg0 hg0 hs0)
  | go_in)
 have HX0 := Lib.hid (show Wb.Ext w w0 from Wb.Ext.grown (.refl _) hg0 (fun k hk => by cases hk))
 have HRG0 := Lib.hid hrg0
 have hlt0 : w.heap.size + 1 ≤ w0.heap.size := by omega
 clear hown hrg0 hg0 hs0
 go_frame
 have HS0 := Lib.hid (show SoFar f (Maps.has D) [] from ⟨(fun x hx => by cases hx), (fun x hx => by cases hx), fun p c hk hl hne => absurd (by
  have h1 := HD.out p c hk
  rw [Maps.atKey_of_not_has hl] at h1
  simpa using h1.symm) hne, List.Pairwise.nil⟩)
 go_loopw [3] (fun ov wr => ∃ (left : Lit → Bool) (cnt : Nat) (r : List Wb.Ln), wr.ranges Tryz.prog 142 RH b w.heap.size n D left cnt ∧ Hid (SoFar f left r) ∧ wr.ownsRow w0.heap.size 89 3 ov r.length (rowsOf lnc r) ∧ Hid (Wb.Ext w wr) ∧ w0.heap.size ≤ wr.heap.size) (fun _ wr => wr.rangeLeft b w.heap.size)
 case atStart => exact ⟨_, _, [], HRG0.out, HS0, own_none, HX0, Nat.le_refl _⟩
 case round =>
  obtain ⟨left, cnt, r, hrg, HSO, hrow, HXR, hszr⟩ := hrel
  obtain ⟨oa, oc, rfl⟩ := row_shape hrow
  have hrl : r.length ≤ 100000 := HCNT.out r HSO.out.ok HSO.out.one
  have HROW := Lib.hid hrow
  have HRG := Lib.hid hrg
  clear hrow
  go_wp2_with (first
   | (at_next; refine wpList_next_ranges (α := Int × List UInt8) (β := Value) _ rfl _ rfl 142 spot_keyed RH (fun x => .agg #[.int .i64 x.1, .string (Wb.S x.2)]) id (fun key kl hkey => by obtain ⟨p, c, rfl, _⟩ := spot_inv hkey; exact ⟨(p, c), rfl⟩) (fun v y hv => ⟨v, rfl⟩) b w.heap.size n _ _ _ rfl hrg ?_ ?_)
   | go_in)
  ·intro _ hl0
   have HL0 := Lib.hid hl0
   clear hl0 hrg
   go_wp2_with fail
   go_fit (sortl_any w0.heap.size _ r wr HROW.out (by omega)); rintro e w3 ⟨rfl, r2, hp, hs, ho, hg⟩
   have hx3 : Wb.Ext w w3 := HXR.out.grown hg (fun k hk => by have := (HROW.out.lt k hk).1; omega)
   obtain ⟨e1, e2, e3⟩ := so_end HSO.out HL0.out HF.out hp hs
   have hln : r2.length = r.length := hp.length_eq
   have HRES := Lib.hid (show IsLines w w3 f (.slice oa r.length oc) r2 from ⟨e1, e2, e3, by rw [hln]; exact row_mono ho (by omega), hx3⟩)
   clear hp hs ho hg hx3 e1 e2 e3 hln
   go_wp2
   go_ret
   exact ⟨_, rfl, r2, HRES.out⟩
  ·intro p c cv kl yd yp w1 cnt1 hkx hlx hry hat hrg1 hlt hg1 hs1 hen
   obtain ⟨p', c', e1, e2, hp', hc'⟩ := spot_inv hkx
   simp only [Value.agg.injEq] at e1
   have q1 := congrArg (fun a => a[0]?) e1
   have q2 := congrArg (fun a => a[1]?) e1
   simp at q1 q2
   obtain rfl := q1
   have hcc := Wb.S_inj q2
   subst hcc
   subst e2
   have hko : KeyOk p c := ⟨hp', hc'⟩
   have hcv : cv = .int .i64 (f p c) := by
    have h1 := hat (.held (.int .i64 0))
    rw [HD.out p c hko] at h1
    have h2 := RH_val hry
    (try simp only at h1)
    rw [h2] at h1
    simp only [DataW.held.injEq] at h1
    exact h1.symm
   subst hcv
   have HKO := Lib.hid hko
   have HLX := Lib.hid hlx
   have HX1 := Lib.hid (show Wb.Ext w w1 from HXR.out.grown hg1 (fun k hk => by cases hk; exact Nat.le_refl _))
   have HROW1 := Lib.hid (HROW.out.kept hg1 (by
    rcases hb : (Value.slice oa r.length oc).ownBlock with _ | k
    ·exact .inl rfl
    ·exact .inr (fun e => by have := (HROW.out.lt k hb).1; injection e with e; omega)))
   have HRG1 := Lib.hid hrg1
   have hsz1 : wr.heap.size ≤ w1.heap.size := Nat.le_of_eq hs1.symm
   obtain ⟨m, hmf⟩ : ∃ m, f p c = m := ⟨_, rfl⟩
   have HMF := Lib.hid hmf
   rw [hmf] at hen ⊢
   clear hko hlx hg1 hrg1 hrg hat hry hkx hp' hc' e1 q2 hmf hs1
   (try simp only [id] at hen)
   by_cases hz : m = 0
   ·subst hz
    have HN := Lib.hid (so_same HSO.out HKO.out HMF.out)
    go_wp2
    go_roundw
    case rel => exact ⟨_, cnt1, r, (HRG1.out.alloc _), HN, HROW1.out.alloc _, Lib.hid (HX1.out.alloc _), by simp; omega⟩
    case measure => rw [(HRG1.out.alloc _).left_eq, HRG.out.left_eq]; exact hlt
   ·have d : (m == 0) = false := by simpa using hz
    have d2 : (m != 0) = true := by simpa using hz
    have HN := Lib.hid (so_more HSO.out HKO.out HLX.out (by rw [HMF.out]; exact hz))
    clear hz
    obtain ⟨hi, hz0, hz1, hz2⟩ := HIN.out
    go_wp2_with (at_builtin; go_loud (refine Wb.wpList_append_row rfl (.tmp 15) (.tmp 22) 48 rfl w0.heap.size 89 i0 (.agg #[.int .i64 0, .string "".toUTF8, .int .i64 0]) 3 32 Tryz.underlying48 hi hz0 hz1 hz2 rfl (by decide) _ _ _ rfl ((HROW1.out.alloc _).alloc _) _ rfl 1 (lnc ⟨p, c, m⟩) ?c1 ?c2 ?c3 ?c4 ?c5 ?_))
    case c1 => exact src_lit _ _ (by simp) (lnc ⟨p, c, m⟩) _ _
    case c2 => intro u hu; simp [lnc] at hu; rcases hu with rfl | rfl | rfl <;> rfl
    case c3 => unfold maxLen; omega
    case c4 => omega
    case c5 => simp; omega
    intro u2 w6 hown2 hg2 hnil2
    have hrb : ∀ k, (Value.slice oa r.length oc).ownBlock = some k → w0.heap.size ≤ k := fun k hk => (HROW1.out.lt k hk).1
    have HX6 := Lib.hid (show Wb.Ext w w6 from ((HX1.out.alloc _).alloc _).grown hg2 (fun k hk => by have := hrb k hk; omega))
    have HO := Lib.hid hown2
    have HRG6 := Lib.hid (((HRG1.out.alloc _).alloc _).kept hg2 (fun e => by have := hrb b e.symm; omega) (fun e => by have := hrb w.heap.size e.symm; omega))
    have hs6 : w0.heap.size ≤ w6.heap.size := by have := hg2.size; simp at this; omega
    clear hi hz0 hz1 hz2 hg2 hown2 hnil2
    go_wp2
    go_roundw
    case rel => exact ⟨_, cnt1, _, HRG6.out, HN, by rw [HMF.out, List.length_append, rowsOf_app, rowsOf_one]; exact HO.out, HX6, hs6⟩
    case measure => rw [HRG6.out.left_eq, HRG.out.left_eq]; exact hlt
end Go.Proofs.YtnefdpnolojojaaGreatDoor
namespace Go.Proofs.YtnefdpnolojojaaGreatDoor
open Go.RowKit Go.Sort Go.Lib Go.Maps
set_option maxRecDepth 8000
attribute [local go_sem ↓] Go.wp_at_zero Go.wp_at_succ
theorem ofc29_any (x : Wb.Ln) (w : World) :
  Calls Tryz.prog 72 #[LnV x] w fun e w' => e = .returned (.bool (!Wb.fits x.cents)) ∧ Wb.Ext w w' := by
 obtain ⟨p, hp⟩ : ∃ p, Wb.fits x.cents = p := ⟨_, rfl⟩
 have HP := Lib.hid hp
 clear hp
 cases p <;> (
  go_enter Tryz.func72, Tryz.ntmps72
  go_wp2_with fail
  go_fit (fits_any x.cents _); rintro e w' ⟨rfl, rfl⟩
  rw [HP.out]
  go_wp2
  go_ret
  exact ⟨Wb.ret_bool (by rw [HP.out]; rfl), by (repeat' (first | (with_reducible assumption) | (with_reducible exact Wb.Ext.refl _) | (with_reducible refine Wb.Ext.drew ?_) | (with_reducible refine Wb.Ext.drewN ?_ _) | (with_reducible refine Wb.Ext.alloc ?_ _) | (with_reducible refine Wb.Ext.trans ?_ (by assumption))))⟩)
def unfit (l : List Wb.Ln) : Bool := l.any fun x => !Wb.fits x.cents
theorem unfit_iff (l : List Wb.Ln) : unfit l = true ↔ ∃ x ∈ l, Wb.fits x.cents = false := by simp [unfit]
theorem unfit_no {l : List Wb.Ln} (h : unfit l = false) : ∀ x ∈ l, Wb.fits x.cents = true := fun x hx => by
 rw [Bool.eq_false_iff, ne_eq, unfit_iff] at h
 rcases hf : Wb.fits x.cents with _ | _
 ·exact absurd ⟨x, hx, hf⟩ h
 ·rfl
set_option maxHeartbeats 1000000 in
theorem indexf_any (v : Value) (l : List Wb.Ln) (w : World) (hv : Lns w v l) (hl : l.length ≤ 1000000) :
  Calls Tryz.prog 104 #[v, .func (.func 72) #[] #[]] w fun e w' => ∃ i : Int, e = .returned (.int .i64 i) ∧ (decide (0 ≤ i) = unfit l ∧ Wb.Ext w w') := by
 obtain ⟨va, vc, rfl⟩ := hv.shape
 have HV := Lib.hid hv
 clear hv
 go_enter Tryz.func104, Tryz.ntmps104
 go_wp2_with fail
 go_loopw [8] (fun iv wr => ∃ k : Nat, k ≤ l.length ∧ iv = .int .i64 k ∧ Hid (∀ t x, l[t]? = some x → t < k → Wb.fits x.cents = true) ∧ Wb.Ext w wr) (fun iv _ => l.length - (intOf iv).toNat)
 case atStart => exact ⟨0, Nat.zero_le _, rfl, Lib.hid (fun t x _ h => absurd h (Nat.not_lt_zero _)), .refl _⟩
 case round =>
  obtain ⟨k, hk, rfl, HLO, hext⟩ := hrel
  by_cases hlt : k < l.length
  ·obtain ⟨y, hy⟩ := Wb.get_ex hlt
   obtain ⟨b, off, rfl, hcells⟩ := (HV.out.ext hext).opened (tne hlt)
   obtain ⟨c0, c1, c2⟩ := hcells _ y hy
   have hki : (k : Int) < l.length := by omega
   have HY := Lib.hid hy
   clear hcells hy
   go_wp2_with fail
   go_fit (ofc29_any y _); rintro e w1 ⟨rfl, hb1⟩
   have HX := Lib.hid (hext.trans hb1)
   clear hb1
   obtain ⟨p, hp⟩ : ∃ p, Wb.fits y.cents = p := ⟨_, rfl⟩
   have HP := Lib.hid hp
   rw [hp]
   clear hp
   cases p
   ·have HU := Lib.hid (show unfit l = true from (unfit_iff l).2 ⟨y, List.mem_of_getElem? HY.out, HP.out⟩)
    go_wp2
    go_ret
    exact ⟨_, rfl, by rw [HU.out]; simp, HX.out⟩
   ·have HLO2 : Hid (∀ t x, l[t]? = some x → t < k + 1 → Wb.fits x.cents = true) := Lib.hid (fun t x ht htk => by
     rcases Nat.lt_or_ge t k with q | q
     ·exact HLO.out t x ht q
     ·obtain rfl : t = k := by omega
      rw [HY.out] at ht; cases ht; exact HP.out)
    go_wp2
    go_roundw
    case rel => exact ⟨k + 1, by omega, by go_num, HLO2, HX.out⟩
    case measure => simp [intOf]; omega
  ·obtain rfl : k = l.length := by omega
   have HU := Lib.hid (show unfit l = false by
    rw [Bool.eq_false_iff, ne_eq, unfit_iff]
    rintro ⟨x, hx, hf⟩
    obtain ⟨t, ht⟩ := List.getElem?_of_mem hx
    have := HLO.out t x ht (List.getElem?_eq_some_iff.1 ht).1
    rw [this] at hf; cases hf)
   go_wp2
   go_ret
   exact ⟨_, rfl, by rw [HU.out]; rfl, hext⟩
theorem containsf_any (v : Value) (l : List Wb.Ln) (w : World) (hv : Lns w v l) (hl : l.length ≤ 1000000) :
  Calls Tryz.prog 71 #[v, .func (.func 72) #[] #[]] w fun e w' => e = .returned (.bool (unfit l)) ∧ Wb.Ext w w' := by
 have HV := Lib.hid hv
 clear hv
 go_enter Tryz.func71, Tryz.ntmps71
 go_wp2_with fail
 go_fit (indexf_any v l w HV.out hl); rintro e w1 ⟨i, rfl, hi, hx⟩
 have HI := Lib.hid hi
 have HX := Lib.hid hx
 clear hi hx
 go_wp2
 go_ret
 exact ⟨Wb.ret_bool HI.out, HX.out⟩
theorem mapIs_put {w' : World} {b n : Nat} {f : Int → List UInt8 → Int} {D : DataW Value} (hD : ∀ p c, KeyOk p c → D.atKey (kSpot p c) (.held (.int .i64 0)) = .held (.int .i64 (f p c))) (hm : IsMap D) {p : Int} {c : List UInt8} (hk : KeyOk p c) {v : Int}
  (ho : w'.ownsMap Tryz.prog 142 RH b n (D.put (kSpot p c) (.held (.int .i64 v)))) {g : Int → List UInt8 → Int} (hg : ∀ q d, g q d = if p = q ∧ c = d then v else f q d) : MapIs w' b n g := by
 refine ⟨_, ho, fun q d hq => ?_⟩
 rw [hg]
 by_cases e : p = q ∧ c = d
 ·obtain ⟨rfl, rfl⟩ := e
  rw [if_pos ⟨rfl, rfl⟩]
  exact Maps.atKey_put_same hm (spot_keyed.key (spot_key hk.1 hk.2)) _ _
 ·rw [if_neg e, Maps.atKey_put_other (fun h => e (by obtain ⟨h1, h2⟩ := kSpot_inj hq hk h; exact ⟨h1.symm, h2.symm⟩)), hD q d hq]
theorem mapIs_kept {w w' : World} {b n : Nat} {f : Int → List UInt8 → Int} {row : Option Nat} (h : MapIs w b n f) (hg : w.grownBy w' row) (hne : some b ≠ row) : MapIs w' b n f := by
 obtain ⟨D, h1, h2⟩ := h
 exact ⟨D, h1.kept hg hne, h2⟩
theorem mapIs_isMap {w : World} {b n : Nat} {D : DataW Value} (h : w.ownsMap Tryz.prog 142 RH b n D) : IsMap D := by
 obtain ⟨es, clock, _, _, _, rfl⟩ := h
 exact ⟨_, rfl⟩
theorem keyOk_line {x : Wb.Ln} (h : Wb.lineErr x = 0) : KeyOk x.part x.code := by
 obtain ⟨h1, h2, h3, _⟩ := Wb.lineErr_ok h
 refine ⟨?_, ?_⟩
 ·simp [Lit.wf, IntKind.min, IntKind.max, IntKind.signed, IntKind.bits]; omega
 ·have : x.code.length ≤ 32 := by
   simp [Wb.codeOk] at h3
   exact h3.1.2
  unfold maxLen; omega
end Go.Proofs.YtnefdpnolojojaaGreatDoor
