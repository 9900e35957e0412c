/- MTc -/
import Derived.Test.YtnefdpnolojojaaGreatDoorMTp
import Derived.Test.YtnefdpnolojojaaGreatDoorMRc
import Derived.Test.YtnefdpnolojojaaGreatDoorTxT
import Derived.Deep.RegionHeldLaw
namespace Go.Proofs.YtnefdpnolojojaaGreatDoor
open Go.RowKit Go.Sort Go.Lib Go.Maps
set_option maxRecDepth 8000
theorem top_other {l o : List Wb.Cl} (h : Wb.SmX l) (hl : l.length ≤ 60) (h2 : Wb.SmX o) (hl2 : o.length ≤ 60) {j t : Nat} (hj : j < 6) {B B' : Wb.Bk} {sum : Int → Int} (hI : Wb.TopI l j B sum) (hjt : j + 1 = t) {hs ps : List Int} {R : Wb.Rn} {E : Int}
  (hd : Wb.doG B 2026 (t : Int) (t : Int) (Wb.handX o t) hs ps = (B', R, E)) : E = 0 := by
 subst hjt
 have hA : ∀ p, Wb.SmC Wb.KT 28 ((j + 1 : Nat) : Int) (B.paid p) ∧ (B.paid p).length ≤ 6 := fun p => by
  rw [hI.paid]
  split
  ·exact ⟨Wb.smC_nil, Nat.zero_le _⟩
  ·have := Wb.handX_small h hl j p
   exact ⟨(this.1.full).wide (by omega), Nat.le_trans (List.length_filter_le _ _) (by omega)⟩
 have hS : ∀ p, Wb.SmC Wb.KT 28 ((j + 1 : Nat) : Int) (Wb.handX o (j + 1) p) ∧ (Wb.handX o (j + 1) p).length ≤ 6 := fun p => by
  have := Wb.handX_small h2 hl2 (j + 1) p
  exact ⟨this.1, by omega⟩
 obtain ⟨B2, R2, h1, _⟩ := Wb.do_small (B := B) (r := ((j + 1 : Nat) : Int)) (S := Wb.handX o (j + 1)) (hs := hs) (ps := ps) (by omega) (fun x hx => by
  obtain ⟨a, b, c⟩ := hI.last x hx
  exact ⟨a, by omega, by omega⟩) (fun p => (hA p).1) (fun p => (hS p).1) (fun p => (hA p).2) (fun p => (hS p).2) (fun p => by have := hI.owed p; omega)
 rw [hd] at h1
 simp only [Prod.mk.injEq] at h1
 exact h1.2.2
def HdT (w0 : World) (lo : Nat) (W : World) (M : Nat) (L : List Wb.Cl) (t : Nat) : Prop := ∃ (n : Nat) (f : Int → Option Value), n ≤ 3 ∧ (∀ q, (f q).isSome = true → 1 ≤ q ∧ q ≤ 3) ∧ SMapF (fun q => q < lo → q < w0.heap.size) W (some M) n f (Wb.handX L t)
theorem hand_law {w0 WR : World} {v : Value} {L : List Wb.Cl} {t : Nat} (h : ClsM w0 v L) (hl : L.length ≤ 60) (ht : t ≤ 6) (h0 : Wb.Ext w0 WR) : ∀ W, Wb.Ext WR W →
  Calls Tryz.prog 6 #[v, .int .i64 t] W fun e w' => ∃ M lo, e = .returned (.map (some M)) ∧ lo = W.heap.size ∧ Hid (HdT w0 lo w' M L t) ∧ WR.heap.size ≤ lo ∧ lo ≤ M ∧ M < w'.heap.size ∧ Wb.Ext W w' := by
 intro W hx
 refine (handed_any v L t W (h.ext (h0.trans hx)) hl ht).mono ?_
 rintro e w' ⟨M, rfl, hD⟩
 obtain ⟨n, f, h1, h2, h3⟩ := hd_smap (P := fun q => q < W.heap.size ∧ w0.heap.size ≤ q) hD (fun q hq => hq.1)
 exact ⟨M, W.heap.size, rfl, rfl, Lib.hid ⟨n, f, h1, h2, h3.mono fun q _ hq hlt => by
  apply Classical.byContradiction
  intro hn
  exact hq ⟨hlt, by omega⟩⟩, hx.size, hD.lt.2, hD.lt.1, hD.ext⟩
theorem top_did {P : Nat → Prop} {w0 WR : World} {j t : Nat} {rv : Value} {mp mo : Option Nat} {B : Wb.Bk} {ks : List Int} {N : Nat} {L : List Wb.Cl} (hsm : Wb.SmX L) (hl : L.length ≤ 60) (ht : t ≤ 6)
  (hb : BkF (fun q => ¬ P q) WR rv mp mo B ks N) (hi : BkI j B ks N) (hj : j ≤ 40) (h0R : w0.heap.size ≤ WR.heap.size) (hP : ∀ q, P q → w0.heap.size ≤ q ∧ q < WR.heap.size) :
  ∀ W' W lo M, Hid (HdT w0 lo W' M L t) → WR.heap.size ≤ lo → Wb.Ext WR W → Wb.Ext W' W → Calls Tryz.prog 5 #[BkV rv mp mo, .int .i64 2026, .int .i64 t, .int .i64 t, .map (some M)] W fun e w' => ∃ (ra : Option Addr) (rl rc : Nat) (mp' mo' : Option Nat) (B' : Wb.Bk) (n1 y1 i1 k1 : Int) (qa : Option Addr) (qc : Nat) (rows : List RwM) (E : Int) (hs : List Int) (nW : Nat), e = .returned (.tuple #[BkV (.slice ra rl rc) mp' mo', .agg #[.int .i64 n1, .int .i64 y1, .int .i64 i1, .int .i64 k1, .slice qa rows.length qc], .int .i64 E]) ∧
   nW = W.heap.size ∧ WR.heap.size ≤ nW ∧ Hid (DidF (fun q => q < nW → Ok0 P WR.heap.size lo W'.heap.size q) w' (.slice ra rl rc) mp' mo' B B' 2026 t t (Wb.handX L t) hs ks N ⟨n1, y1, i1, k1, .slice qa rows.length qc, rows⟩ E) ∧ Hid (BkI (j + 1) B' (ks ++ hs) (N + ks.length + hs.length)) ∧ Wb.Ext W w' := by
 intro W' W lo M hT hlo hRW hTW
 obtain ⟨n, f, hn, hf3, hSM⟩ := hT.out
 obtain ⟨hs, hk1, hk2, hk3⟩ := keys_three hf3
 have hS : ∀ p, (Wb.handX L t p).length ≤ 60 := fun p => by have := (Wb.handX_small hsm hl t p).2; omega
 have h1 : BkF (Ok0 P WR.heap.size lo W'.heap.size) W rv mp mo B ks N := (hb.mono (fun q h1 h2 => .inl ⟨h2, h1⟩)).kept (.ext hRW)
 have h2 : SMapF (Ok0 P WR.heap.size lo W'.heap.size) W (some M) n f (Wb.handX L t) := (SMapF.mono hSM (fun q h1 h2 => by
  by_cases e : q < lo
  ·have := h2 e
   refine .inl ⟨fun h => ?_, by omega⟩
   have := hP q h; omega
  ·exact .inr ⟨by omega, h1⟩)).kept (.ext hTW)
 have hlen := hi.len
 have hmany := hi.many
 have hkeys := hi.keys
 refine (do31_any (Ok0 P WR.heap.size lo W'.heap.size) rv mp mo (some M) n f (Wb.handX L t) B ks hs N 2026 t t W h1 hi.ok hi.runs (by omega) (fun p => by have := hi.few p; omega) (by omega) (by omega) h2 (by omega) (by omega) hk1 hk2 (fun p => by have := hS p; omega)).mono ?_
 rintro e w' ⟨ps, rv', mp', mo', r, B', E, hw, hd, rfl, hb', hr', hx⟩
 obtain ⟨ra, rc, rfl⟩ := hb'.now.shape
 obtain ⟨qa, qc, hq⟩ := (hr' w' .refl).tab.shape
 obtain ⟨n1, y1, i1, k1, rv1, rows⟩ := r
 simp only at hq
 subst hq
 exact ⟨ra, _, rc, mp', mo', B', n1, y1, i1, k1, qa, qc, rows, E, hs, W.heap.size, rfl, rfl, hRW.size, Lib.hid ⟨⟨ps, hw, hd⟩, hb', hr'⟩, Lib.hid (hi.step hj hw hd (by omega) hS), hx⟩
theorem step_word {ops : Array Oper} {o : Oper} {a : Act} {w : World} {K : Act → World → Prop} {Q : Exit → Act → World → Prop} {E : Prop} (hgd : o.guard = none) (s x : Operand)
  (ho : o.op = .call { callee := .builtin .append, args := #[s, x], argTypes := #[28, 28] }) (tv : Value) (b c : Nat) (hs : a.eval s = tv) (hx : a.eval x = .slice (some ⟨b, 0, none⟩) 1 c)
  (base j : Nat) (ws : List (List UInt8)) (tx : List UInt8) (hown : w.ownsRow base 9 1 tv j (wsv ws)) (hb : w.heap[b]? = some (.cells #[.string (Wb.S tx)] 9 (0, 0))) (hj : j ≤ 10) (hbase : base ≤ w.heap.size)
  (h : ∀ v9 w9, w9.ownsRow base 9 1 v9 (j + 1) (wsv (ws ++ [tx])) → w.grownBy w9 tv.ownBlock → (v9.ownBlock = tv.ownBlock ∨ v9.ownBlock = some w.heap.size) → K (a.put o.dst v9) w9) :
  if Region.wanted o (yielded ops a.tmps) = true then Oper.wp Tryz.prog o a w K Q else E := by
 obtain ⟨i0, hi, hz0, hz1, hz2⟩ := info_parts infoStrX
 refine Wb.step_append_row hgd s x _ ho base 9 i0 (.string "".toUTF8) 1 16 Tryz.underlying28 hi hz0 hz1 hz2 (by rfl) (by decide) _ j (wsv ws) hs hown _ hx 1 (wsv [tx]) ⟨rfl, .inr ⟨_, _, rfl, World.news_of_block (cs := #[.string (Wb.S tx)]) hb⟩⟩ (wsv_one _) (by unfold maxLen; omega) (by omega) hbase ?_
 intro v9 w9 h1 h2 h3
 exact h v9 w9 (by unfold wsv at h1 ⊢; rw [List.map_append]; exact h1) h2 h3
structure TcP (A j : Nat) (P0 : Nat → Prop) (tv b0 b1 b2 : Value) (ws : List (List UInt8)) (wO : World) (tv' : Value) (wx : World) : Prop where
 kept : Kept (fun q => ¬ P0 q) wO wx
 a0 : wx.cell? ⟨A, 0, none⟩ = some b0
 a1 : wx.cell? ⟨A, 1, none⟩ = some b1
 a2 : wx.cell? ⟨A, 2, none⟩ = some b2
 af : ∀ i, wx.frozen? ⟨A, i, none⟩ = false
 row : wx.ownsRow (A + 1) 9 1 tv' (j + 1) (wsv ws)
 blk : tv'.ownBlock = tv.ownBlock ∨ ∃ H, tv'.ownBlock = some H ∧ wO.heap.size ≤ H
structure TcJ (w : World) (A j : Nat) (P0 : Nat → Prop) (wr : World) (ra : Option Addr) (rl rc : Nat) (mp mo : Option Nat) (B : Wb.Bk) (ks : List Int) (N : Nat) (tv : Value) (L : List Wb.Cl) (sum : Int → Int) : Prop where
 book : ApI w P0 A j wr ra rl rc mp mo B ks N
 law : Wb.TopI L j B sum
 paid : Wb.PaidOk B
 runs : ∀ x ∈ B.runs, Wb.RnOk x
 texts : wr.ownsRow (A + 1) 9 1 tv j (wsv (B.runs.map Wb.runT))
 isA : P0 A
 own : ∀ q, tv.ownBlock = some q → P0 q
 new : ∀ q, P0 q → A ≤ q ∧ q < wr.heap.size
theorem TcJ.ext {w : World} {A j : Nat} {P0 : Nat → Prop} {wr w2 : World} {ra : Option Addr} {rl rc : Nat} {mp mo : Option Nat} {B : Wb.Bk} {ks : List Int} {N : Nat} {tv : Value} {L : List Wb.Cl} {sum : Int → Int} (h : TcJ w A j P0 wr ra rl rc mp mo B ks N tv L sum) (k : Wb.Ext wr w2) : TcJ w A j P0 w2 ra rl rc mp mo B ks N tv L sum :=
 ⟨h.book.ext' k, h.law, h.paid, h.runs, Wb.row_ext h.texts k, h.isA, h.own, fun q hq => ⟨(h.new q hq).1, Nat.lt_of_lt_of_le (h.new q hq).2 k.size⟩⟩
theorem tc_ok {w : World} {A j t : Nat} {P0 : Nat → Prop} {wr wE : World} {ra : Option Addr} {rl rc : Nat} {rv' : Value} {mp mo mp' mo' : Option Nat} {B B' : Wb.Bk} {ks hs : List Int} {N : Nat} {tv : Value} {L : List Wb.Cl} {sum : Int → Int} {r : RnM}
  (h : TcJ w A j P0 wr ra rl rc mp mo B ks N tv L sum) (hsm : Wb.SmX L) (hl : L.length ≤ 60) (hjt : j + 1 = t) (hj : j < 6) (hd : DidF (fun q => ¬ P0 q) wE rv' mp' mo' B B' 2026 t t (Wb.handX L t) hs ks N r 0) : Wb.PaidOk B' ∧ Wb.RnOk r.c := by
 obtain ⟨ps, hw, hdo⟩ := hd.did
 have hmy : ∀ p, ¬ (Wb.handX L t p = [] ∧ B.paid p = []) → 0 ≤ p ∧ p ≤ 4294967295 := fun p hp => by
  by_cases e : Wb.handX L t p = []
  ·obtain ⟨n, f, hm, -, -⟩ := h.book.book.paid
   have h2 : (Lit.int .u32 p).wf = true := (hm.full p (fun e2 => hp ⟨e, e2⟩)).1
   simp [Lit.wf, IntKind.min, IntKind.max, IntKind.signed, IntKind.bits] at h2
   omega
  ·unfold Wb.handX at e
   split at e
   ·omega
   ·exact absurd rfl e
 exact Wb.do_okX hdo (by subst hjt; omega) h.paid (by have := h.book.ok.len; omega) (fun p => by have := (Wb.handX_small hsm hl t p).2; omega) (fun p hp => by
  apply Classical.byContradiction
  intro e
  exact hp (hw.hand p e)) hmy
theorem tc_rn {w : World} {A j t : Nat} {P0 : Nat → Prop} {wr wE : World} {ra : Option Addr} {rl rc : Nat} {rv' : Value} {mp mo mp' mo' : Option Nat} {B B' : Wb.Bk} {ks hs : List Int} {N : Nat} {tv : Value} {L : List Wb.Cl} {sum : Int → Int} {r : RnM}
  (h : TcJ w A j P0 wr ra rl rc mp mo B ks N tv L sum) (hsm : Wb.SmX L) (hl : L.length ≤ 60) (hjt : j + 1 = t) (hj : j < 6) (hd : DidF (fun q => ¬ P0 q) wE rv' mp' mo' B B' 2026 t t (Wb.handX L t) hs ks N r 0) : Wb.RnOk r.c := (tc_ok h hsm hl hjt hj hd).2
theorem TcJ.step {w : World} {A j t : Nat} {P0 : Nat → Prop} {wr wE wF : World} {ra ra' : Option Addr} {rl rc rl' rc' : Nat} {mp mo mp' mo' : Option Nat} {B B' : Wb.Bk} {ks hs : List Int} {N : Nat} {tv tv' : Value} {L : List Wb.Cl} {sum : Int → Int} {r : RnM}
  (h : TcJ w A j P0 wr ra rl rc mp mo B ks N tv L sum) (hsm : Wb.SmX L) (hl : L.length ≤ 60) (hjt : j + 1 = t) (hj : j < 6) (hx : Wb.Ext wr wE) (hd : DidF (fun q => ¬ P0 q) wE (.slice ra' rl' rc') mp' mo' B B' 2026 t t (Wb.handX L t) hs ks N r 0) (hI : BkI (j + 1) B' (ks ++ hs) (N + ks.length + hs.length))
  (hT : TcP A j P0 tv (.slice ra' rl' rc') (.map mp') (.map mo') (B.runs.map Wb.runT ++ [Wb.runT r.c]) wE tv' wF) :
  TcJ w A t (fun q => P0 q ∨ tv'.ownBlock = some q) wF ra' rl' rc' mp' mo' B' (ks ++ hs) (N + ks.length + hs.length) tv' L (Wb.addR sum (r.rows.map RwM.c)) := by
 obtain ⟨ps, hw, hdo⟩ := hd.did
 obtain ⟨-, -, -, hTI, -⟩ := top_runT hsm hl hj h.law hjt hw hdo
 have hruns : B'.runs = B.runs ++ [r.c] := (Wb.do_ok hdo).runs
 have hsz := hx.size
 have hkn := hT.kept.size
 have h4 := h.book.lt
 obtain ⟨hpk, hrn⟩ := tc_ok h hsm hl hjt hj hd
 subst hjt
 refine ⟨⟨hT.a0, hT.a1, hT.a2, hT.af, ?_, hI, ⟨by omega, h4.2⟩, hT.kept.old (h.book.ext.trans hx) (fun i hi hp => by have := h.new i hp; omega)⟩, hTI, hpk, fun x hm => ?_, ?_, .inl h.isA, fun q e => .inr e, fun q e => ?_⟩
 ·refine (hd.book.mono (G := fun q => ¬ (P0 q ∨ tv'.ownBlock = some q)) fun q hq hp e => ?_).kept (hT.kept.mono fun q _ hq e => hq (.inl e))
  rcases e with e | e
  ·exact hp e
  ·rcases hT.blk with e2 | ⟨H, e2, e3⟩
   ·exact hp (h.own q (e2 ▸ e))
   ·rw [e2] at e; injection e with e; omega
 ·rw [hruns] at hm
  rcases List.mem_append.1 hm with hm | hm
  ·exact h.runs x hm
  ·rw [List.mem_singleton.1 hm]; exact hrn
 ·have := hT.row
  rw [hruns, List.map_append]
  exact this
 ·rcases e with e | e
  ·have := h.new q e; omega
  ·have := hT.row.lt q e; omega
end Go.Proofs.YtnefdpnolojojaaGreatDoor
namespace Go.Proofs.YtnefdpnolojojaaGreatDoor
open Go.RowKit Go.Sort Go.Lib
set_option maxRecDepth 8000
noncomputable def tc13R : Code := ((Tryz.f3.body.bind (findRegX 13)).getD .skip)
set_option maxHeartbeats 100000000 in
theorem tc13 (x0 x1 x2 x3 x4 x5 x6 x9 x10 x13 x14 x15 x16 x17 x18 x19 x20 x21 x22 x23 x24 x25 x26 x27 x28 x29 x30 x31 x32 x33 x34 x35 x36 x37 x38 x39 x40 x41 x42 x43 x44 x45 x46 x47 x48 x49 x50 x51 x52 x53 x54 x55 x56 x57 x58 x59 x60 x61 x62 x63 x64 x65 x66 x67 x68 x69 x70 x71 x72 x73 x74 x75 x76 x77 x78 x79 x80 x81 x82 x83 x84 x85 x86 x87 x88 x89 x90 x91 x92 x93 x94 x95 x96 x97 x98 : Value) (ds) (wO : World) (A C R j : Nat) (P0 : Nat → Prop) (tv : Value) (ra qa : Option Addr) (rl rc qc nr : Nat) (mp mo : Option Nat) (n y i k : Int) (tx : List UInt8) (ws : List (List UInt8)) (hA : P0 A) (hAs : A < wO.heap.size) (hAT : tv.ownBlock ≠ some A) (hT : ∀ q, tv.ownBlock = some q → P0 q) (hj : j ≤ 10) (af : ∀ i, wO.frozen? ⟨A, i, none⟩ = false) (b0 : Value) (b1 : Value) (b2 : Value) (a0 : wO.cell? ⟨A, 0, none⟩ = some b0) (a1 : wO.cell? ⟨A, 1, none⟩ = some b1) (a2 : wO.cell? ⟨A, 2, none⟩ = some b2) (ho : wO.ownsRow (A + 1) 9 1 tv j (wsv ws)) (c0 : ∀ x, Kept (fun q => ¬ P0 q) wO x → x.cell? ⟨C, 0, none⟩ = some (.slice ra rl rc)) (c1 : ∀ x, Kept (fun q => ¬ P0 q) wO x → x.cell? ⟨C, 1, none⟩ = some (.map mp)) (c2 : ∀ x, Kept (fun q => ¬ P0 q) wO x → x.cell? ⟨C, 2, none⟩ = some (.map mo)) (r0 : ∀ x, Kept (fun q => ¬ P0 q) wO x → x.cell? ⟨R, 0, none⟩ = some (.int .i64 n)) (r1 : ∀ x, Kept (fun q => ¬ P0 q) wO x → x.cell? ⟨R, 1, none⟩ = some (.int .i64 y)) (r2 : ∀ x, Kept (fun q => ¬ P0 q) wO x → x.cell? ⟨R, 2, none⟩ = some (.int .i64 i)) (r3 : ∀ x, Kept (fun q => ¬ P0 q) wO x → x.cell? ⟨R, 3, none⟩ = some (.int .i64 k)) (r4 : ∀ x, Kept (fun q => ¬ P0 q) wO x → x.cell? ⟨R, 4, none⟩ = some (.slice qa nr qc)) (htx : ∀ x, Wb.Ext wO x → Calls Tryz.prog 7 #[.agg #[.int .i64 n, .int .i64 y, .int .i64 i, .int .i64 k, .slice qa nr qc]] x fun e w' => e = .returned (.string (Wb.S tx)) ∧ Wb.Ext x w') :
  Code.wp Tryz.prog tc13R (OnEndX fun a' wx => ∃ (u64 u65 u66 u67 u68 u69 : Value), a' = ⟨#[x0, x1, x2, x3, x4, x5, x6, .pointer (some ⟨A, 0, none⟩), u69, x9, x10, .pointer (some ⟨C, 0, none⟩), .pointer (some ⟨R, 0, none⟩), x13, x14, x15, x16, x17, x18, x19, x20, x21, x22, x23, x24, x25, x26, x27, x28, x29, x30, x31, x32, x33, x34, x35, x36, x37, x38, x39, x40, x41, x42, x43, x44, x45, x46, x47, x48, x49, x50, x51, x52, x53, x54, x55, x56, x57, x58, x59, x60, x61, x62, x63, u64, u65, u66, u67, u68, u69, x70, x71, x72, x73, x74, x75, x76, x77, x78, x79, x80, x81, x82, x83, x84, x85, x86, x87, x88, x89, x90, x91, x92, x93, x94, x95, x96, x97, x98], ds⟩ ∧ TcP A j P0 tv (.slice ra rl rc) (.map mp) (.map mo) (ws ++ [tx]) wO u69 wx) ⟨#[x0, x1, x2, x3, x4, x5, x6, .pointer (some ⟨A, 0, none⟩), tv, x9, x10, .pointer (some ⟨C, 0, none⟩), .pointer (some ⟨R, 0, none⟩), x13, x14, x15, x16, x17, x18, x19, x20, x21, x22, x23, x24, x25, x26, x27, x28, x29, x30, x31, x32, x33, x34, x35, x36, x37, x38, x39, x40, x41, x42, x43, x44, x45, x46, x47, x48, x49, x50, x51, x52, x53, x54, x55, x56, x57, x58, x59, x60, x61, x62, x63, x64, x65, x66, x67, x68, x69, x70, x71, x72, x73, x74, x75, x76, x77, x78, x79, x80, x81, x82, x83, x84, x85, x86, x87, x88, x89, x90, x91, x92, x93, x94, x95, x96, x97, x98], ds⟩ wO := by
 have HTX := Lib.hid htx
 have HO := Lib.hid ho
 clear htx ho
 conv => arg 2; whnf
 go_region_held_law (fun x => Kept (fun q => ¬ P0 q) wO x) (first | assumption | (exact ((hk9.setj (fun h => h hA)).setj (fun h => h hA)).setj (fun h => h hA)) | (exact ((hk9.drewR.setj (fun h => h hA)).setj (fun h => h hA)).setj (fun h => h hA)) | (with_reducible refine Kept.drewR ?_; assumption) | (exact Kept.ext (by (repeat' (first | (with_reducible assumption) | (with_reducible exact Wb.Ext.refl _) | (with_reducible refine Wb.Ext.drew ?_) | (with_reducible refine Wb.Ext.drewN ?_ _) | (with_reducible refine Wb.Ext.alloc ?_ _) | (with_reducible refine Wb.Ext.trans ?_ (by assumption))))))) (first
   | (go_at_call 7; refine (HTX.out _ (by (repeat' (first | (with_reducible assumption) | (with_reducible exact Wb.Ext.refl _) | (with_reducible refine Wb.Ext.drew ?_) | (with_reducible refine Wb.Ext.drewN ?_ _) | (with_reducible refine Wb.Ext.alloc ?_ _) | (with_reducible refine Wb.Ext.trans ?_ (by assumption)))))).mono ?_; rintro e w2 ⟨rfl, hx2⟩)
   | (refine step_word (by rfl) _ _ (by rfl) tv _ 1 (by rfl) (by rfl) (A + 1) j ws tx (Wb.row_ext HO.out (by (repeat' (first | (with_reducible assumption) | (with_reducible exact Wb.Ext.refl _) | (with_reducible refine Wb.Ext.drew ?_) | (with_reducible refine Wb.Ext.drewN ?_ _) | (with_reducible refine Wb.Ext.alloc ?_ _) | (with_reducible refine Wb.Ext.trans ?_ (by assumption)))))) (by first | exact heap_alloc_new _ _ | exact bxx_ext (heap_alloc_new _ _) (by assumption) | exact bxx_ext (heap_alloc_new _ _) (by (repeat' (first | (with_reducible assumption) | (with_reducible exact Wb.Ext.refl _) | (with_reducible refine Wb.Ext.drew ?_) | (with_reducible refine Wb.Ext.drewN ?_ _) | (with_reducible refine Wb.Ext.alloc ?_ _) | (with_reducible refine Wb.Ext.trans ?_ (by assumption)))))) hj (Nat.le_trans (by omega) (ext_sz (w := wO) (by (repeat' (first | (with_reducible assumption) | (with_reducible exact Wb.Ext.refl _) | (with_reducible refine Wb.Ext.drew ?_) | (with_reducible refine Wb.Ext.drewN ?_ _) | (with_reducible refine Wb.Ext.alloc ?_ _) | (with_reducible refine Wb.Ext.trans ?_ (by assumption))))))) ?_; intro v9 w9 hown9 hg9 hblk9; have a09 := (hg9.cell_far ⟨A, 0, none⟩ (Nat.lt_of_lt_of_le hAs (ext_sz (w := wO) (by (repeat' (first | (with_reducible assumption) | (with_reducible exact Wb.Ext.refl _) | (with_reducible refine Wb.Ext.drew ?_) | (with_reducible refine Wb.Ext.drewN ?_ _) | (with_reducible refine Wb.Ext.alloc ?_ _) | (with_reducible refine Wb.Ext.trans ?_ (by assumption))))))) (fun e => hAT e.symm)).trans (Wb.Ext.keep (w := wO) (by (repeat' (first | (with_reducible assumption) | (with_reducible exact Wb.Ext.refl _) | (with_reducible refine Wb.Ext.drew ?_) | (with_reducible refine Wb.Ext.drewN ?_ _) | (with_reducible refine Wb.Ext.alloc ?_ _) | (with_reducible refine Wb.Ext.trans ?_ (by assumption))))) a0); have a19 := (hg9.cell_far ⟨A, 1, none⟩ (Nat.lt_of_lt_of_le hAs (ext_sz (w := wO) (by (repeat' (first | (with_reducible assumption) | (with_reducible exact Wb.Ext.refl _) | (with_reducible refine Wb.Ext.drew ?_) | (with_reducible refine Wb.Ext.drewN ?_ _) | (with_reducible refine Wb.Ext.alloc ?_ _) | (with_reducible refine Wb.Ext.trans ?_ (by assumption))))))) (fun e => hAT e.symm)).trans (Wb.Ext.keep (w := wO) (by (repeat' (first | (with_reducible assumption) | (with_reducible exact Wb.Ext.refl _) | (with_reducible refine Wb.Ext.drew ?_) | (with_reducible refine Wb.Ext.drewN ?_ _) | (with_reducible refine Wb.Ext.alloc ?_ _) | (with_reducible refine Wb.Ext.trans ?_ (by assumption))))) a1); have a29 := (hg9.cell_far ⟨A, 2, none⟩ (Nat.lt_of_lt_of_le hAs (ext_sz (w := wO) (by (repeat' (first | (with_reducible assumption) | (with_reducible exact Wb.Ext.refl _) | (with_reducible refine Wb.Ext.drew ?_) | (with_reducible refine Wb.Ext.drewN ?_ _) | (with_reducible refine Wb.Ext.alloc ?_ _) | (with_reducible refine Wb.Ext.trans ?_ (by assumption))))))) (fun e => hAT e.symm)).trans (Wb.Ext.keep (w := wO) (by (repeat' (first | (with_reducible assumption) | (with_reducible exact Wb.Ext.refl _) | (with_reducible refine Wb.Ext.drew ?_) | (with_reducible refine Wb.Ext.drewN ?_ _) | (with_reducible refine Wb.Ext.alloc ?_ _) | (with_reducible refine Wb.Ext.trans ?_ (by assumption))))) a2); have af9 : ∀ i, w9.frozen? ⟨A, i, none⟩ = false := fun i => (hg9.frozen_far ⟨A, i, none⟩ (Nat.lt_of_lt_of_le hAs (ext_sz (w := wO) (by (repeat' (first | (with_reducible assumption) | (with_reducible exact Wb.Ext.refl _) | (with_reducible refine Wb.Ext.drew ?_) | (with_reducible refine Wb.Ext.drewN ?_ _) | (with_reducible refine Wb.Ext.alloc ?_ _) | (with_reducible refine Wb.Ext.trans ?_ (by assumption))))))) (fun e => hAT e.symm)).trans ((Below.frozen (show Wb.Ext wO _ by (repeat' (first | (with_reducible assumption) | (with_reducible exact Wb.Ext.refl _) | (with_reducible refine Wb.Ext.drew ?_) | (with_reducible refine Wb.Ext.drewN ?_ _) | (with_reducible refine Wb.Ext.alloc ?_ _) | (with_reducible refine Wb.Ext.trans ?_ (by assumption))))) hAs).trans (af i)); have hk9 : Kept (fun q => ¬ P0 q) wO w9 := (Kept.ext (show Wb.Ext wO _ by (repeat' (first | (with_reducible assumption) | (with_reducible exact Wb.Ext.refl _) | (with_reducible refine Wb.Ext.drew ?_) | (with_reducible refine Wb.Ext.drewN ?_ _) | (with_reducible refine Wb.Ext.alloc ?_ _) | (with_reducible refine Wb.Ext.trans ?_ (by assumption)))))).trans (.grown hg9 (fun q e _ hn => hn (hT q e))); clear hg9))
 all_goals
  have hlo9 : ∀ k, v9.ownBlock = some k → k ≠ A := fun k hk => by have := hown9.lt k hk; omega
  exact ⟨_, _, _, _, _, _, rfl, ⟨by assumption, by simp [go_sem, a09], by simp [go_sem, a19], by simp [go_sem, a29], fun i => by simp [go_sem, af9], Wb.row_set (Wb.row_set (Wb.row_set hown9 hlo9 _) hlo9 _) hlo9 _, hblk9.imp id fun e => ⟨_, e, ext_sz (w := wO) (by (repeat' (first | (with_reducible assumption) | (with_reducible exact Wb.Ext.refl _) | (with_reducible refine Wb.Ext.drew ?_) | (with_reducible refine Wb.Ext.drewN ?_ _) | (with_reducible refine Wb.Ext.alloc ?_ _) | (with_reducible refine Wb.Ext.trans ?_ (by assumption)))))⟩⟩⟩
end Go.Proofs.YtnefdpnolojojaaGreatDoor
namespace Go.Proofs.YtnefdpnolojojaaGreatDoor
open Go.RowKit Go.Sort Go.Lib
set_option maxRecDepth 8000
noncomputable def tc19R : Code := ((Tryz.f3.body.bind (findRegX 19)).getD .skip)
set_option maxHeartbeats 100000000 in
theorem tc19 (x0 x1 x2 x3 x4 x5 x6 x7 x9 x10 x11 x12 x13 x14 x15 x16 x19 x20 x21 x22 x23 x24 x25 x26 x27 x28 x29 x30 x31 x32 x33 x34 x35 x36 x37 x38 x39 x40 x41 x42 x43 x44 x45 x46 x47 x48 x49 x50 x51 x52 x53 x54 x55 x56 x57 x58 x59 x60 x61 x62 x63 x64 x65 x66 x67 x68 x69 x70 x71 x72 x73 x74 x75 x76 x77 x78 x79 x80 x81 x82 x83 x84 x85 x86 x87 x88 x89 x90 x91 x92 x93 x94 x95 x96 x97 x98 : Value) (ds) (wO : World) (Y g m c ii nr qc : Nat) (qa : Option Addr) (n y i k : Int) (tx : List UInt8) (r0 : ∀ x, Wb.Ext wO x → x.cell? ⟨Y, 0, none⟩ = some (.int .i64 n)) (r1 : ∀ x, Wb.Ext wO x → x.cell? ⟨Y, 1, none⟩ = some (.int .i64 y)) (r2 : ∀ x, Wb.Ext wO x → x.cell? ⟨Y, 2, none⟩ = some (.int .i64 i)) (r3 : ∀ x, Wb.Ext wO x → x.cell? ⟨Y, 3, none⟩ = some (.int .i64 k)) (r4 : ∀ x, Wb.Ext wO x → x.cell? ⟨Y, 4, none⟩ = some (.slice qa nr qc)) (t0 : ∀ x, Wb.Ext wO x → x.cell? ⟨g, ii, none⟩ = some (.string (Wb.S tx))) (hii : (ii : Int) < (m : Int)) (htx : ∀ x, Wb.Ext wO x → Calls Tryz.prog 7 #[.agg #[.int .i64 n, .int .i64 y, .int .i64 i, .int .i64 k, .slice qa nr qc]] x fun e w' => e = .returned (.string (Wb.S tx)) ∧ Wb.Ext x w') :
  Code.wp Tryz.prog tc19R (OnEndX fun a' wx => ∃ (u91 u92 u93 u94 u95 u96 : Value), a' = ⟨#[x0, x1, x2, x3, x4, x5, x6, x7, .slice (some ⟨g, 0, none⟩) m c, x9, x10, x11, x12, x13, x14, x15, x16, .int .i64 ii, .pointer (some ⟨Y, 0, none⟩), x19, x20, x21, x22, x23, x24, x25, x26, x27, x28, x29, x30, x31, x32, x33, x34, x35, x36, x37, x38, x39, x40, x41, x42, x43, x44, x45, x46, x47, x48, x49, x50, x51, x52, x53, x54, x55, x56, x57, x58, x59, x60, x61, x62, x63, x64, x65, x66, x67, x68, x69, x70, x71, x72, x73, x74, x75, x76, x77, x78, x79, x80, x81, x82, x83, x84, x85, x86, x87, x88, x89, x90, u91, u92, u93, u94, u95, u96, .bool false, x98], ds⟩ ∧ Wb.Ext wO wx) ⟨#[x0, x1, x2, x3, x4, x5, x6, x7, .slice (some ⟨g, 0, none⟩) m c, x9, x10, x11, x12, x13, x14, x15, x16, .int .i64 ii, .pointer (some ⟨Y, 0, none⟩), x19, x20, x21, x22, x23, x24, x25, x26, x27, x28, x29, x30, x31, x32, x33, x34, x35, x36, x37, x38, x39, x40, x41, x42, x43, x44, x45, x46, x47, x48, x49, x50, x51, x52, x53, x54, x55, x56, x57, x58, x59, x60, x61, x62, x63, x64, x65, x66, x67, x68, x69, x70, x71, x72, x73, x74, x75, x76, x77, x78, x79, x80, x81, x82, x83, x84, x85, x86, x87, x88, x89, x90, x91, x92, x93, x94, x95, x96, x97, x98], ds⟩ wO := by
 have HTX := Lib.hid htx
 clear htx
 conv => arg 2; whnf
 go_region_held_law (fun x => Wb.Ext wO x) ((repeat' (first | (with_reducible assumption) | (with_reducible exact Wb.Ext.refl _) | (with_reducible refine Wb.Ext.drew ?_) | (with_reducible refine Wb.Ext.drewN ?_ _) | (with_reducible refine Wb.Ext.alloc ?_ _) | (with_reducible refine Wb.Ext.trans ?_ (by assumption))))) (
   (go_at_call 7; refine (HTX.out _ (by (repeat' (first | (with_reducible assumption) | (with_reducible exact Wb.Ext.refl _) | (with_reducible refine Wb.Ext.drew ?_) | (with_reducible refine Wb.Ext.drewN ?_ _) | (with_reducible refine Wb.Ext.alloc ?_ _) | (with_reducible refine Wb.Ext.trans ?_ (by assumption)))))).mono ?_; rintro e w2 ⟨rfl, hx2⟩))
 all_goals exact ⟨_, _, _, _, _, _, rfl, by (repeat' (first | (with_reducible assumption) | (with_reducible exact Wb.Ext.refl _) | (with_reducible refine Wb.Ext.drew ?_) | (with_reducible refine Wb.Ext.drewN ?_ _) | (with_reducible refine Wb.Ext.alloc ?_ _) | (with_reducible refine Wb.Ext.trans ?_ (by assumption))))⟩
end Go.Proofs.YtnefdpnolojojaaGreatDoor
