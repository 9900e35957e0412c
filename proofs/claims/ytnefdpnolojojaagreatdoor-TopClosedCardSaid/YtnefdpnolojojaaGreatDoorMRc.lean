/- MRc -/
import Derived.Test.YtnefdpnolojojaaGreatDoorRun12
import Derived.Test.YtnefdpnolojojaaGreatDoorMPm
import Derived.WalkMore
import Derived.Deep.RegionLaw
namespace Go.Proofs.YtnefdpnolojojaaGreatDoor
open Go.RowKit Go.Sort Go.Lib Go.Maps
set_option maxRecDepth 8000
theorem exists_nodup : ∀ L : List Int, ∃ M : List Int, M.Nodup ∧ ∀ x, x ∈ M ↔ x ∈ L
  | [] => ⟨[], List.nodup_nil, fun _ => Iff.rfl⟩
  | a :: r => by
    obtain ⟨M, h1, h2⟩ := exists_nodup r
    by_cases h : a ∈ M
    · exact ⟨M, h1, fun x => by rw [h2, List.mem_cons]; exact ⟨.inr, fun k => k.elim (fun e => e ▸ (h2 a).1 h) id⟩⟩
    · exact ⟨a :: M, List.nodup_cons.2 ⟨h, h1⟩, fun x => by rw [List.mem_cons, List.mem_cons, h2]⟩
theorem hand_nrm (q : Int × Int) : ∀ (L : List Wb.Sl) (p : Option (Int × Int)), Wb.handE q p (L.map Wb.nrm) = Wb.handE q p L
  | [], _ => rfl
  | s :: r, p => by
    rw [List.map_cons, Wb.handE, Wb.handE, hand_nrm q r]
    rfl
def u32c (p : Int) : List Value := [.int .u32 p]
theorem u32c_len (p : Int) : (u32c p).length = 1 := rfl
theorem rows_u32 : ∀ l : List Int, l.map (Value.int .u32) = rowsOf u32c l
  | [] => rfl
  | a :: r => by
    have := rows_u32 r
    unfold rowsOf at this ⊢
    rw [List.map_cons, this]; rfl
theorem look_tbl {w : World} {v : Value} {l : List Int} (h : Tbl 1 u32c w v l) {j : Nat} {p : Int} (hj : l[j]? = some p) : ∃ b off cap, v = .slice (some ⟨b, off, none⟩) l.length cap ∧ w.cell? ⟨b, off + j, none⟩ = some (.int .u32 p) := by
  obtain ⟨a, c, rfl⟩ := h.shape
  obtain ⟨b, off, hb, hc⟩ := h.opened (by rintro rfl; simp at hj)
  obtain rfl : a = some ⟨b, off, none⟩ := hb
  have := hc j p hj 0 _ rfl
  rw [Nat.mul_one, Nat.add_zero] at this
  exact ⟨b, off, c, rfl, this⟩
structure DoAt (w W : World) (A : Nat) (ra : Option Addr) (rl rc : Nat) (mp mo : Option Nat) : Prop where
  b0 : W.cell? ⟨A, 0, none⟩ = some (.slice ra rl rc)
  b1 : W.cell? ⟨A, 1, none⟩ = some (.map mp)
  b2 : W.cell? ⟨A, 2, none⟩ = some (.map mo)
  o0 : W.cell? ⟨A + 1, 0, none⟩ = some (.slice none 0 0)
  o1 : W.cell? ⟨A + 1, 1, none⟩ = some (.map none)
  o2 : W.cell? ⟨A + 1, 2, none⟩ = some (.map none)
  q0 : W.cell? ⟨A + 1 + 1, 0, none⟩ = some (.int .i64 0)
  q1 : W.cell? ⟨A + 1 + 1, 1, none⟩ = some (.int .i64 0)
  q2 : W.cell? ⟨A + 1 + 1, 2, none⟩ = some (.int .i64 0)
  q3 : W.cell? ⟨A + 1 + 1, 3, none⟩ = some (.int .i64 0)
  q4 : W.cell? ⟨A + 1 + 1, 4, none⟩ = some (.slice none 0 0)
  fo : ∀ j, W.frozen? ⟨A + 1, j, none⟩ = false
  fq : ∀ j, W.frozen? ⟨A + 1 + 1, j, none⟩ = false
  lo : w.heap.size = A
  hi : A + 3 ≤ W.heap.size
  ext : Wb.Ext w W
theorem DoAt.kept {w W W' : World} {A : Nat} {ra : Option Addr} {rl rc : Nat} {mp mo : Option Nat} {F : Nat → Prop} (h : DoAt w W A ra rl rc mp mo) (k : Kept F W W') (hF : ∀ i, i < A + 3 → F i) : DoAt w W' A ra rl rc mp mo := by
  have h0 := hF A (by omega)
  have h1 := hF (A + 1) (by omega)
  have h2 := hF (A + 1 + 1) (by omega)
  have hi := h.hi
  exact ⟨k.cell h0 h.b0, k.cell h0 h.b1, k.cell h0 h.b2, k.cell h1 h.o0, k.cell h1 h.o1, k.cell h1 h.o2, k.cell h2 h.q0, k.cell h2 h.q1, k.cell h2 h.q2, k.cell h2 h.q3, k.cell h2 h.q4,
    fun j => k.frozen h1 (by omega) (h.fo j), fun j => k.frozen h2 (by omega) (h.fq j), h.lo, Nat.le_trans h.hi k.size, k.old h.ext (fun i hi => hF i (by have := h.lo; omega))⟩
theorem DoAt.later {w W W' : World} {A : Nat} {ra : Option Addr} {rl rc : Nat} {mp mo : Option Nat} (h : DoAt w W A ra rl rc mp mo) (k : Wb.Ext W W') : DoAt w W' A ra rl rc mp mo := h.kept (F := fun _ => True) (.ext k) (fun _ _ => trivial)
def DoPost (F0 : Nat → Prop) (B : Wb.Bk) (y i k : Int) (S : Int → List Wb.Ct) (hs ks : List Int) (N : Nat) (w : World) (e : Ending) (w' : World) : Prop :=
  ∃ (ps : List Int) (rv' : Value) (mp' mo' : Option Nat) (r : RnM) (B' : Wb.Bk) (E : Int), Wb.Who B S hs ps ∧ Wb.doG B y i k S hs ps = (B', r.c, E) ∧ e = .returned (.tuple #[BkV rv' mp' mo', RnV r.n r.y r.i r.k r.rv, .int .i64 E]) ∧
    BkF (fun q => q < w.heap.size → F0 q) w' rv' mp' mo' B' (ks ++ hs) (N + ks.length + hs.length) ∧ (∀ w2, Kept (fun q => q < w.heap.size → F0 q) w' w2 → RowsM w2 r.rv r.rows) ∧ Wb.Ext w w'
theorem BkAt.wide {w : World} {rv : Value} {mp mo : Option Nat} {B : Wb.Bk} {ks ks' : List Int} {N N' : Nat} (h : BkAt w rv mp mo B ks N) (hk : ∀ p ∈ ks, p ∈ ks') (hn : N ≤ N') : BkAt w rv mp mo B ks' N' := by
  obtain ⟨h1, ⟨n, f, h2, h3, h4⟩, ⟨m, g, h5, h6, h7, h8⟩⟩ := h
  exact ⟨h1, ⟨n, f, h2, Nat.le_trans h3 hn, fun p a b => hk p (h4 p a b)⟩, ⟨m, g, h5, Nat.le_trans h6 hn, h7, fun p a b => hk p (h8 p a b)⟩⟩
theorem who_any {w : World} {rv : Value} {mp mo ms : Option Nat} {B : Wb.Bk} {ks hs : List Int} {N n : Nat} {f : Int → Option Value} {S : Int → List Wb.Ct} (h : BkAt w rv mp mo B ks N) (hS : SMapAt w ms n f S) (hh : KeysAre kU32 f hs) : ∃ ps, Wb.Who B S hs ps := by
  obtain ⟨ps0, h10, h20⟩ := exists_nodup (hs ++ ks)
  have hperm := List.mergeSort_perm ps0 (fun a b => decide (a ≤ b))
  have hup := List.pairwise_mergeSort (le := fun a b : Int => decide (a ≤ b)) (fun a b c h1 h2 => by simp at *; omega) (fun a b => by simp; omega) ps0
  obtain ⟨ps, hps⟩ : ∃ ps, ps = ps0.mergeSort (fun a b => decide (a ≤ b)) := ⟨_, rfl⟩
  rw [← hps] at hperm hup
  have h1 : ps.Nodup := hperm.nodup_iff.2 h10
  have h2 : ∀ x, x ∈ ps ↔ x ∈ hs ++ ks := fun x => by rw [hperm.mem_iff, h20]
  have h3 : ∀ p, S p ≠ [] → p ∈ hs := fun p hp => (hh.2 p).2 (hS.full p hp)
  obtain ⟨n2, f2, h4, -, h5⟩ := h.paid
  refine ⟨ps, h3, fun p hp => (h2 p).2 ?_, h1, Wb.up_lt h1 (hup.imp fun {a b} h => by simpa using h)⟩
  rcases hp with hp | hp
  · exact List.mem_append_left _ (h3 p hp)
  · obtain ⟨a, b⟩ := h4.full p hp
    exact List.mem_append_right _ (h5 p a b)
theorem BkF.wide {F : Nat → Prop} {w : World} {rv : Value} {mp mo : Option Nat} {B : Wb.Bk} {ks ks' : List Int} {N N' : Nat} (h : BkF F w rv mp mo B ks N) (hk : ∀ p ∈ ks, p ∈ ks') (hn : N ≤ N') : BkF F w rv mp mo B ks' N' := by
  obtain ⟨h1, ⟨n, f, h2, h3, h4⟩, ⟨m, g, h5, h6, h7, h8⟩⟩ := h
  exact ⟨h1, ⟨n, f, h2, Nat.le_trans h3 hn, fun p a b => hk p (h4 p a b)⟩, ⟨m, g, h5, Nat.le_trans h6 hn, h7, fun p a b => hk p (h8 p a b)⟩⟩
theorem BkF.since {F : Nat → Prop} {w w' : World} {rv : Value} {mp mo : Option Nat} {B : Wb.Bk} {ks : List Int} {N : Nat} (h : BkF F w rv mp mo B ks N) (e : Wb.Ext w w') : BkF (fun q => q < w.heap.size → F q) w' rv mp mo B ks N := by
  have k : ∀ w2, Kept (fun q => q < w.heap.size → F q) w' w2 → Kept F w w2 := fun w2 h2 => Kept.since e h2 (fun q _ hf _ => hf)
  obtain ⟨⟨L, h1, h2⟩, ⟨n, f, h3, h4⟩, ⟨m, g, h5, h6⟩⟩ := h
  exact ⟨⟨L, fun w2 h => h1 w2 (k w2 h), h2⟩, ⟨n, f, ⟨fun w2 h => h3.map w2 (k w2 h), fun p => by obtain ⟨L, l1, l2⟩ := h3.each p; exact ⟨L, fun w2 h => l1 w2 (k w2 h), l2⟩, h3.full⟩, h4⟩, ⟨m, g, fun w2 h => h5 w2 (k w2 h), h6⟩⟩
theorem do_err {F0 : Nat → Prop} {w w' : World} {rv : Value} {mp mo : Option Nat} {B : Wb.Bk} {y i k : Int} {S : Int → List Wb.Ct} {hs ks ps : List Int} {N : Nat} {E : Int} (h : BkF F0 w rv mp mo B ks N) (hw : Wb.Who B S hs ps) (hd : Wb.doG B y i k S hs ps = (B, Wb.noRn, E)) (hx : Wb.Ext w w') :
    DoPost F0 B y i k S hs ks N w (.returned (.tuple #[BkV rv mp mo, RnV 0 0 0 0 (.slice none 0 0), .int .i64 E])) w' :=
  ⟨ps, rv, mp, mo, ⟨0, 0, 0, 0, .slice none 0 0, []⟩, B, E, hw, hd, rfl, ((h.wide (fun p hp => List.mem_append_left _ hp) (by omega)).since hx), fun w2 _ => ⟨Tbl.nil, (fun r hr => by cases hr), by simp, (fun r hr => by cases hr)⟩, hx⟩
theorem do_head {B : Wb.Bk} {y i k : Int} {S : Int → List Wb.Ct} {hs ps : List Int} {E : Int} (h : Wb.headE B.runs y i k = E) (he : E ≠ 0) : Wb.doG B y i k S hs ps = (B, Wb.noRn, E) := by
  unfold Wb.doG
  rw [h, if_pos he]
theorem do_hands {B : Wb.Bk} {y i k : Int} {S : Int → List Wb.Ct} {hs ps : List Int} {E : Int} (h0 : Wb.headE B.runs y i k = 0) (h : Wb.handsE (y, i) S hs = E) (he : E ≠ 0) : Wb.doG B y i k S hs ps = (B, Wb.noRn, E) := by
  unfold Wb.doG
  rw [h0, if_neg (by simp), h, if_pos he]
theorem keys_hs {f : Int → Option Value} {hs ss : List Int} (h : KeysAre kU32 f hs) (hr : hs.Pairwise (· ≤ ·)) (h2 : KeysAre kU32 f ss) (hr2 : ss.Pairwise (· ≤ ·)) : ss = hs := by
  have up : ∀ {l : List Int}, l.Nodup → l.Pairwise (· ≤ ·) → l.Pairwise (· < ·) := fun h1 h2 => (List.Pairwise.and h1 h2).imp fun {a b} h => by
    have h3 : a ≠ b := h.1
    have h4 : a ≤ b := h.2
    omega
  have key : ∀ {l m : List Int}, l.Pairwise (· < ·) → m.Pairwise (· < ·) → (∀ x, x ∈ l ↔ x ∈ m) → l = m := by
    intro l
    induction l with
    | nil => intro m _ _ h; rcases m with _ | ⟨b, m⟩; · rfl
             exact absurd ((h b).2 (by simp)) (by simp)
    | cons a r ih =>
      intro m h1 h2 h3
      rcases m with _ | ⟨b, m⟩
      · exact absurd ((h3 a).1 (by simp)) (by simp)
      rw [List.pairwise_cons] at h1 h2
      have e : a = b := by
        rcases List.mem_cons.1 ((h3 a).1 (by simp)) with e | e
        · exact e
        · have k1 := h2.1 a e
          rcases List.mem_cons.1 ((h3 b).2 (by simp)) with e2 | e2
          · exact e2.symm
          · have := h1.1 b e2; omega
      subst e
      rw [ih h1.2 h2.2 fun x => ?_]
      have := h3 x
      simp only [List.mem_cons] at this
      constructor
      · intro hx
        have k1 := h1.1 x hx
        rcases this.1 (.inr hx) with e | e
        · omega
        · exact e
      · intro hx
        have k1 := h2.1 x hx
        rcases this.2 (.inr hx) with e | e
        · omega
        · exact e
  exact key (up h2.1 hr2) (up h.1 hr) fun x => by rw [h2.2, h.2]
end Go.Proofs.YtnefdpnolojojaaGreatDoor
namespace Go.Proofs.YtnefdpnolojojaaGreatDoor
open Go.RowKit Go.Sort Go.Lib Go.Maps
set_option maxRecDepth 8000
theorem step_append_run {P : Program} {ops : Array Oper} {o : Oper} {a : Act} {w : World} {K : Act → World → Prop} {Q : Exit → Act → World → Prop} {E : Prop}
    (hg : o.guard = none) (s x : Operand) (t : TypeId) (hop : o.op = Op.call { callee := Callee.builtin Builtin.append, args := #[s, x], argTypes := #[t, t] })
    (v xv v' : Value) (w' : World) (hs : a.eval s = v) (hx : a.eval x = xv) (hrun : (Builtin.append_ #[t, t] o.type #[v, xv]).run P w = .ok v' w') (hK : K (a.put o.dst v') w') :
    if Region.wanted o (yielded ops a.tmps) = true then Oper.wp P o a w K Q else E := by
  have hw : Region.wanted o (yielded ops a.tmps) = true := by simp [Region.wanted, hg]
  rw [if_pos hw]
  unfold Oper.wp
  simp only [execOp, hop, resolve, invoke, builtin, Sem.run_bind, Sem.run_pure, Result.andThen_ok, List.map_toArray, List.map_cons, List.map_nil, hs, hx, hrun]
  exact hK
theorem Kept.setj {F : Nat → Prop} {w w' : World} {b j : Nat} {u : Value} (h : Kept F w w') (hb : ¬ F b) : Kept F w (w'.setCell ⟨b, j, none⟩ u) :=
  h.trans (.grown (setj_grown _ _ _ _) (fun q e _ hq => by cases e; exact hb hq))
theorem kept8 {F : Nat → Prop} {b c : Nat} (hb : ¬ F b) (hc : ¬ F c) (w : World) (u0 u1 u2 v0 v1 v2 v3 v4 : Value) :
    Kept F w ((((((((w.setCell ⟨b, 0, none⟩ u0).setCell ⟨b, 1, none⟩ u1).setCell ⟨b, 2, none⟩ u2).setCell ⟨c, 0, none⟩ v0).setCell ⟨c, 1, none⟩ v1).setCell ⟨c, 2, none⟩ v2).setCell ⟨c, 3, none⟩ v3).setCell ⟨c, 4, none⟩ v4) :=
  (((((((Kept.refl.setj hb).setj hb).setj hb).setj hc).setj hc).setj hc).setj hc).setj hc
theorem KMap.keptF {κ : Type} {K : KeyK κ} {F : Nat → Prop} {w w' : World} {b n : Nat} {z : Value} {f : κ → Option Value} (h : KMap K w b n z f) (k : Kept F w w') (hb : F b) : KMap K w' b n z f := by
  have hl := KMap.lt h
  obtain ⟨D, ⟨es, clock, hc, Ft, hs, hD⟩, h2⟩ := h
  exact ⟨D, ⟨es, clock, (k.block b hl hb).trans hc, Ft, hs, hD⟩, h2⟩
theorem own_keptF {F : Nat → Prop} {w w' : World} {base e s n : Nat} {v : Value} {xs : List Value} (h : w.ownsRow base e s v n xs) (k : Kept F w w') (hF : ∀ q, v.ownBlock = some q → F q) : w'.ownsRow base e s v n xs := by
  have hl := h.lt
  obtain ⟨h1, h2 | ⟨g, cap, cur, hv, hb, hg, rest⟩⟩ := h
  · exact ⟨h1, .inl h2⟩
  · subst hv
    exact ⟨h1, .inr ⟨g, cap, cur, rfl, hb, (k.block g (hl g rfl).2 (hF g rfl)).trans hg, rest⟩⟩
theorem do_rows {B : Wb.Bk} {y i k : Int} {S : Int → List Wb.Ct} {hs ps : List Int} {E : Int} (h0 : Wb.headE B.runs y i k = 0) (h1 : Wb.handsE (y, i) S hs = 0) (h : Wb.rowsG (y, i) B S [] ps = (E, [])) (he : E ≠ 0) : Wb.doG B y i k S hs ps = (B, Wb.noRn, E) := by
  unfold Wb.doG
  rw [h0, h1, h, if_neg (by simp), if_neg (by simp), if_pos he]
theorem rowG_p {p : Int} {q : Int × Int} {A B : List Wb.Sl} {o : Int} {r : Wb.Rw} (h : Wb.rowG p q A B o = (r, 0)) : r.p = p := by
  unfold Wb.rowG at h
  split at h
  · rename_i he; simp only [Prod.mk.injEq] at h; exact absurd h.2 he
  · split at h
    · rename_i he; simp only [Prod.mk.injEq] at h; exact absurd h.2 he
    · simp only [Prod.mk.injEq] at h
      rw [← h.1]
theorem slC_own {w : World} {base g cap : Nat} {L : List Wb.Sl} (h : w.ownsRow base 50 3 (.slice (some ⟨g, 0, none⟩) L.length cap) L.length (rowsOf slc L)) : SlC w g L := by
  have ht := row_tbl slc_len (by decide) h
  intro j s hj
  obtain ⟨b, off, hb, hc⟩ := ht.opened (by rintro rfl; simp at hj)
  obtain ⟨rfl, rfl⟩ : g = b ∧ 0 = off := by
    injection hb with hb
    injection hb with h1 h2 h3
    exact ⟨h1, h2⟩
  have h0 := hc j s hj 0 _ rfl
  have h1 := hc j s hj 1 _ rfl
  have h2 := hc j s hj 2 _ rfl
  simp only [Nat.zero_add, Nat.add_zero] at h0 h1 h2
  exact ⟨h0, h1, h2⟩
theorem del31r_any (w0 w w1 : World) (base : Nat) (u : Value) (D : List Wb.Sl) (h : SlR base w1 u D) (hb : w0.heap.size ≤ base) (hx : Wb.Ext w1 w) (hx0 : Wb.Ext w0 w1) (hl : D.length ≤ 100000) :
    Calls Tryz.prog 24 #[u, .func (.func 23) #[] #[]] w fun e w' => ∃ v, e = .returned v ∧ Sls w' v (fullS D) ∧ (∀ q, v.ownBlock = some q → w0.heap.size ≤ q) ∧ Wb.Ext w0 w' := by
  have hr := row_ext3 h.1 hx
  have h3 := h.2.2
  obtain ⟨a, c, rfl⟩ := row_shape h.1
  rcases hr.2 with ⟨hv0, hn0⟩ | ⟨g, cap, cur, hv, hg, hgb, hr1, hr2, hr3, hr4⟩
  · have hD : D = [] := List.length_eq_zero_iff.1 hn0
    subst hD
    simp only [List.length_nil, Value.slice.injEq] at hv0
    obtain ⟨rfl, -, rfl⟩ := hv0
    refine (del31n_any 0 w).mono ?_
    rintro e w' ⟨u, rfl, rfl, hx2⟩
    exact ⟨_, rfl, ⟨.inl ⟨rfl, _, _, rfl⟩, fun s hs => by cases hs⟩, (fun q hq => by cases hq), (hx0.trans hx).trans hx2⟩
  · simp only [Value.slice.injEq] at hv
    obtain ⟨rfl, -, rfl⟩ := hv
    have hlt := hr.lt g rfl
    exact del31_any w0 w g c D (slC_own hr) (by first | omega | (have := hr4; omega) | (have := hr3; omega)) (fun j => own_free hr _) hlt.2 (Nat.le_trans hb hg) (hx0.trans hx) hl (fun s hs => ⟨(h.2.1 s hs).1.ext hx, (h.2.1 s hs).2⟩) (fun s hs hl q hq e => h3 s hs hl q hq (by rw [e]; rfl))
theorem rise_nrm {L : List Wb.Sl} (h : Wb.RiseP (L.map Wb.nrm)) : Wb.RiseP L := by
  unfold Wb.RiseP at h ⊢
  rw [List.pairwise_map] at h
  exact h
theorem was_in {B : Wb.Bk} (hB : Wb.BkOk B) (p : Int) {L : List Wb.Sl} (h : L.map Wb.ct = B.paid p) : Wb.RiseP L ∧ ∀ s ∈ L, Wb.check s.y s.i s.l = 0 := by
  have h1 := hB.rise p
  have h2 := hB.right p
  rw [← h, Wb.lst_ct] at h1 h2
  exact ⟨rise_nrm h1, fun s hs => (h2 _ (List.mem_map_of_mem hs)).1⟩
theorem now_in {q : Int × Int} {S : Int → List Wb.Ct} {hs : List Int} (hh : Wb.handsE q S hs = 0) {p : Int} (hp : S p ≠ [] → p ∈ hs) {L : List Wb.Sl} (h : L.map Wb.ct = S p) : Wb.RiseP L ∧ ∀ s ∈ L, Wb.check s.y s.i s.l = 0 := by
  by_cases e : S p = []
  · rw [e] at h
    obtain rfl : L = [] := by simpa using h
    exact ⟨List.Pairwise.nil, fun s hs => by cases hs⟩
  · have h1 := Wb.hand_ok (Wb.hands_ok hh p (hp e))
    rw [← h, Wb.lst_ct] at h1
    exact ⟨rise_nrm h1.2.1, fun s hs => (h1.1 _ (List.mem_map_of_mem hs)).1⟩
def FF (F0 : Nat → Prop) (A R : Nat) (v : Value) (q : Nat) : Prop := ¬ (A ≤ q ∧ q ≤ R + 3) ∧ v.ownBlock ≠ some q ∧ (q < A → F0 q)
structure LpAt (F0 : Nat → Prop) (w wr : World) (A M R nP : Nat) (ra : Option Addr) (RL rc : Nat) (mp mo : Option Nat) (gP : Int → Option Value) (ps : List Int) (tv : Value) (y i k : Int) (B : Wb.Bk) (S : Int → List Wb.Ct) (who : List Int) (n1 n2 : Nat) (ga : Option Addr) (gl gc : Nat) (rows : List RwM) (dp : List Int) (ro : List Wb.Rw) : Prop where
  at_ : DoAt w wr A ra RL rc mp mo
  per : KMap kU32 wr M nP (.bool false) gP
  tab : Tbl 1 u32c wr tv ps
  tfar : ∀ q, tv.ownBlock = some q → R + 4 ≤ q ∧ q < gl
  r0 : wr.cell? ⟨R, 0, none⟩ = some (.int .i64 ((RL : Int) + 1))
  r1 : wr.cell? ⟨R, 1, none⟩ = some (.int .i64 y)
  r2 : wr.cell? ⟨R, 2, none⟩ = some (.int .i64 i)
  r3 : wr.cell? ⟨R, 3, none⟩ = some (.int .i64 k)
  r4 : wr.cell? ⟨R, 4, none⟩ = some (.slice ga rows.length gc)
  rf : ∀ j, wr.frozen? ⟨R, j, none⟩ = false
  u0 : wr.cell? ⟨R + 1 + 1 + 1, 0, none⟩ = some (.slice none 0 0)
  u1 : wr.cell? ⟨R + 1 + 1 + 1, 1, none⟩ = some (.map (some (R + 1)))
  u2 : wr.cell? ⟨R + 1 + 1 + 1, 2, none⟩ = some (.map (some (R + 1 + 1)))
  uf : ∀ j, wr.frozen? ⟨R + 1 + 1 + 1, j, none⟩ = false
  ne : A + 3 ≤ M ∧ M < R
  hi : gl ≤ wr.heap.size ∧ R + 4 ≤ gl
  paid : ∃ fp, KMap kU32 wr (R + 1) n1 (.slice none 0 0) fp ∧ (∀ p, ∃ L, (∀ w2, Kept (FF F0 A R (.slice ga rows.length gc)) wr w2 → SlsK w2 ((fp p).getD (.slice none 0 0)) L) ∧ L.map Wb.ct = if p ∈ dp then Wb.fullC (S p) else B.paid p) ∧
    (∀ p, (if p ∈ dp then Wb.fullC (S p) else B.paid p) ≠ [] → kU32.ok p ∧ (fp p).isSome = true) ∧ ∀ p, kU32.ok p → (fp p).isSome = true → p ∈ who
  owed : ∃ fo, KMap kU32 wr (R + 1 + 1) n2 (.int .i64 0) fo ∧ (∀ p, (fo p).getD (.int .i64 0) = .int .i64 (Wb.owedBy ro B.owed p)) ∧ ∀ p, kU32.ok p → (fo p).isSome = true → p ∈ who
  own : wr.ownsRow gl 54 8 (.slice ga rows.length gc) rows.length (rowsOf rwc rows)
  each : ∀ r ∈ rows, ∀ w2, Kept (FF F0 A R (.slice ga rows.length gc)) wr w2 → RwIs w2 r
section
variable {F0 : Nat → Prop} {w wr w' : World} {A M R nP : Nat} {ra : Option Addr} {RL rc : Nat} {mp mo : Option Nat} {gP : Int → Option Value} {ps : List Int} {tv : Value} {y i k : Int} {B : Wb.Bk} {S : Int → List Wb.Ct} {who : List Int} {n1 n2 : Nat} {ga : Option Addr} {gl gc : Nat} {rows : List RwM} {dp : List Int} {ro : List Wb.Rw}
theorem LpAt.later (h : LpAt F0 w wr A M R nP ra RL rc mp mo gP ps tv y i k B S who n1 n2 ga gl gc rows dp ro) (e : Wb.Ext wr w') : LpAt F0 w w' A M R nP ra RL rc mp mo gP ps tv y i k B S who n1 n2 ga gl gc rows dp ro := by
  have hi := h.hi
  obtain ⟨fp, p1, p2, p3, p4⟩ := h.paid
  obtain ⟨fo, o1, o2, o3⟩ := h.owed
  exact ⟨h.at_.later e, h.per.ext e, h.tab.ext e, h.tfar, e.keep h.r0, e.keep h.r1, e.keep h.r2, e.keep h.r3, e.keep h.r4, fun j => (e.cells.2 _ _ (by omega)).trans (h.rf j), e.keep h.u0, e.keep h.u1, e.keep h.u2, fun j => (e.cells.2 _ _ (by omega)).trans (h.uf j), h.ne,
    ⟨Nat.le_trans hi.1 e.size, hi.2⟩, ⟨fp, p1.ext e, fun p => by obtain ⟨L, l1, l2⟩ := p2 p; exact ⟨L, fun w2 h2 => l1 w2 ((Kept.ext e).trans h2), l2⟩, p3, p4⟩, ⟨fo, o1.ext e, o2, o3⟩, row_ext3 h.own e, fun r hr w2 h2 => h.each r hr w2 ((Kept.ext e).trans h2)⟩
theorem LpAt.skip {p : Int} (h : LpAt F0 w wr A M R nP ra RL rc mp mo gP ps tv y i k B S who n1 n2 ga gl gc rows dp ro) (h1 : S p = []) (h2 : B.paid p = []) :
    LpAt F0 w wr A M R nP ra RL rc mp mo gP ps tv y i k B S who (n1 + 1) (n2 + 1) ga gl gc rows (dp ++ [p]) ro := by
  obtain ⟨fp, p1, p2, p3, p4⟩ := h.paid
  obtain ⟨fo, o1, o2, o3⟩ := h.owed
  have e : ∀ q, (if q ∈ dp ++ [p] then Wb.fullC (S q) else B.paid q) = if q ∈ dp then Wb.fullC (S q) else B.paid q := fun q => by
    by_cases e : q = p
    · subst e
      rw [if_pos (by simp), h1, h2]
      split <;> rfl
    · simp [e]
  exact { h with
    paid := ⟨fp, p1.mono (by omega), fun q => by rw [e]; exact p2 q, fun q => by rw [e]; exact p3 q, p4⟩
    owed := ⟨fo, o1.mono (by omega), o2, o3⟩ }
theorem LpAt.paid_run {p : Int} {u : Value} {L : List Wb.Sl} (h : LpAt F0 w wr A M R nP ra RL rc mp mo gP ps tv y i k B S who n1 n2 ga gl gc rows dp ro) (hp : kU32.ok p) (hw : p ∈ who) (hn : n1 < maxLen)
    (hu : ∀ w2, Kept (FF F0 A R (.slice ga rows.length gc)) wr w2 → SlsK w2 u L) (hL : L.map Wb.ct = Wb.fullC (S p)) :
    ∃ w12, (Instr.mapUpdate 24 (.map (some (R + 1))) (.int .u32 p) u).run Tryz.prog wr = .ok () w12 ∧ LpAt F0 w w12 A M R nP ra RL rc mp mo gP ps tv y i k B S who (n1 + 1) n2 ga gl gc rows (dp ++ [p]) ro ∧ wr.grownBy w12 (some (R + 1)) := by
  obtain ⟨fp, p1, p2, p3, p4⟩ := h.paid
  obtain ⟨fo, o1, o2, o3⟩ := h.owed
  obtain ⟨w12, hrun, hm, hg⟩ := p1.update Tryz.underlying24 hn hp u
  have hk : Kept (FF F0 A R (.slice ga rows.length gc)) wr w12 := .grown hg (fun q e hq hne => by cases e; exact hne.1 ⟨by have := h.ne; omega, by omega⟩)
  have hP : ∃ fp, KMap kU32 w12 (R + 1) (n1 + 1) (.slice none 0 0) fp ∧ (∀ q, ∃ L, (∀ w2, Kept (FF F0 A R (.slice ga rows.length gc)) w12 w2 → SlsK w2 ((fp q).getD (.slice none 0 0)) L) ∧ L.map Wb.ct = if q ∈ dp ++ [p] then Wb.fullC (S q) else B.paid q) ∧
      (∀ q, (if q ∈ dp ++ [p] then Wb.fullC (S q) else B.paid q) ≠ [] → kU32.ok q ∧ (fp q).isSome = true) ∧ ∀ q, kU32.ok q → (fp q).isSome = true → q ∈ who := by
    refine ⟨_, hm, fun q => ?_, fun q => ?_, fun q hq => ?_⟩
    · by_cases e : p = q
      · subst e
        exact ⟨L, fun w2 h2 => by rw [if_pos rfl]; exact hu w2 (hk.trans h2), by rw [if_pos (by simp), hL]⟩
      · obtain ⟨L1, l1, l2⟩ := p2 q
        have e2 : ¬ q = p := fun h => e h.symm
        exact ⟨L1, fun w2 h2 => by rw [if_neg e]; exact l1 w2 (hk.trans h2), by rw [l2]; simp [e2]⟩
    · by_cases e : p = q
      · subst e
        exact fun _ => ⟨hp, by rw [if_pos rfl]; rfl⟩
      · have e2 : ¬ q = p := fun h => e h.symm
        rw [if_neg e]
        have := p3 q
        simpa [e2] using this
    · by_cases e : p = q
      · subst e; exact fun _ => hw
      · rw [if_neg e]; exact p4 q hq
  have hO : ∃ fo, KMap kU32 w12 (R + 1 + 1) n2 (.int .i64 0) fo ∧ (∀ p, (fo p).getD (.int .i64 0) = .int .i64 (Wb.owedBy ro B.owed p)) ∧ ∀ p, kU32.ok p → (fo p).isSome = true → p ∈ who :=
    ⟨fo, o1.kept hg (by intro e; injection e with e; omega), o2, o3⟩
  have hU := h
  have hi := h.hi
  have hne := h.ne
  have hkk : Kept (fun q => q ≠ R + 1) wr w12 := .grown hg (fun q e hq hne => by cases e; exact hne rfl)
  have hlt := h.own.lt
  exact ⟨w12, hrun, ⟨h.at_.kept hkk (fun q hq => by omega), h.per.keptF hkk (by omega), hkk.tbl h.tab (fun q hq => by have := h.tfar q hq; omega), h.tfar, hkk.cell (by omega) h.r0, hkk.cell (by omega) h.r1, hkk.cell (by omega) h.r2, hkk.cell (by omega) h.r3, hkk.cell (by omega) h.r4, fun j => hkk.frozen (by omega) (by omega) (h.rf j),
    hkk.cell (by omega) h.u0, hkk.cell (by omega) h.u1, hkk.cell (by omega) h.u2, fun j => hkk.frozen (by omega) (by omega) (h.uf j), hne, ⟨Nat.le_trans hi.1 hkk.size, hi.2⟩, hP, hO, own_keptF h.own hkk (fun q hq => by have := hlt q hq; omega), fun r hr w2 h2 => h.each r hr w2 (hk.trans h2)⟩, hg⟩
theorem LpAt.owed_run {p : Int} {r : Wb.Rw} (h : LpAt F0 w wr A M R nP ra RL rc mp mo gP ps tv y i k B S who n1 n2 ga gl gc rows dp ro) (hp : kU32.ok p) (hw : p ∈ who) (hn : n2 < maxLen) (hr : r.p = p) (hnew : ∀ t ∈ ro, t.p ≠ p) :
    ∃ w12, (Instr.mapUpdate 25 (.map (some (R + 1 + 1))) (.int .u32 p) (.int .i64 r.owed)).run Tryz.prog wr = .ok () w12 ∧ LpAt F0 w w12 A M R nP ra RL rc mp mo gP ps tv y i k B S who n1 (n2 + 1) ga gl gc rows dp (ro ++ [r]) ∧ wr.grownBy w12 (some (R + 1 + 1)) := by
  obtain ⟨fp, p1, p2, p3, p4⟩ := h.paid
  obtain ⟨fo, o1, o2, o3⟩ := h.owed
  obtain ⟨w12, hrun, hm, hg⟩ := o1.update Tryz.underlying25 hn hp (.int .i64 r.owed)
  have hk : Kept (FF F0 A R (.slice ga rows.length gc)) wr w12 := .grown hg (fun q e hq hne => by cases e; exact hne.1 ⟨by have := h.ne; omega, by omega⟩)
  have hi := h.hi
  have hne := h.ne
  have hkk : Kept (fun q => q ≠ R + 1 + 1) wr w12 := .grown hg (fun q e hq hne => by cases e; exact hne rfl)
  have hlt := h.own.lt
  refine ⟨w12, hrun, ⟨h.at_.kept hkk (fun q hq => by omega), h.per.keptF hkk (by omega), hkk.tbl h.tab (fun q hq => by have := h.tfar q hq; omega), h.tfar, hkk.cell (by omega) h.r0, hkk.cell (by omega) h.r1, hkk.cell (by omega) h.r2, hkk.cell (by omega) h.r3, hkk.cell (by omega) h.r4, fun j => hkk.frozen (by omega) (by omega) (h.rf j),
    hkk.cell (by omega) h.u0, hkk.cell (by omega) h.u1, hkk.cell (by omega) h.u2, fun j => hkk.frozen (by omega) (by omega) (h.uf j), hne, ⟨Nat.le_trans hi.1 hkk.size, hi.2⟩, ⟨fp, p1.kept hg (by intro e; injection e with e; omega), fun q => ?_, p3, p4⟩, ⟨_, hm, fun q => ?_, fun q hq => ?_⟩, own_keptF h.own hkk (fun q hq => by have := hlt q hq; omega), fun r hr w2 h2 => h.each r hr w2 (hk.trans h2)⟩, hg⟩
  · obtain ⟨L1, l1, l2⟩ := p2 q
    exact ⟨L1, fun w2 h2 => l1 w2 (hk.trans h2), l2⟩
  · unfold Wb.owedBy
    rw [List.find?_append]
    by_cases e : p = q
    · subst e
      rw [if_pos rfl, List.find?_eq_none.2 (fun t ht => by simpa using hnew t ht)]
      simp [hr]
    · rw [if_neg e, o2 q]
      unfold Wb.owedBy
      have e2 : ¬ r.p = q := by rw [hr]; exact e
      cases hfd : List.find? (fun r => decide (r.p = q)) ro with
      | none => simp [e2]
      | some t => simp
  · by_cases e : p = q
    · subst e; exact fun _ => hw
    · rw [if_neg e]; exact o3 q hq
theorem LpAt.push {w6 : World} {r : RwM} {ea : Option Addr} {ec : Nat} (h : LpAt F0 w wr A M R nP ra RL rc mp mo gP ps tv y i k B S who n1 n2 ga gl gc rows dp ro)
    (ho : w6.ownsRow gl 54 8 (.slice ea (rows.length + 1) ec) (rows.length + 1) (rowsOf rwc rows ++ rwc r)) (hg : wr.grownBy w6 (Value.slice ga rows.length gc).ownBlock)
    (hb : (Value.slice ea (rows.length + 1) ec).ownBlock = (Value.slice ga rows.length gc).ownBlock ∨ (Value.slice ea (rows.length + 1) ec).ownBlock = some wr.heap.size)
    (hr : ∀ (F : Nat → Prop) w2, Kept F wr w2 → (∀ q, q < A → F0 q → F q) → (∀ q, gl ≤ q → (Value.slice ga rows.length gc).ownBlock ≠ some q → F q) → RwIs w2 r) :
    LpAt F0 w (w6.setCell ⟨R, 4, none⟩ (.slice ea (rows.length + 1) ec)) A M R nP ra RL rc mp mo gP ps tv y i k B S who n1 n2 ea gl ec (rows ++ [r]) dp ro := by
  have hi := h.hi
  have hne := h.ne
  have hlt := h.own.lt
  have hg2 : w6.grownBy (w6.setCell ⟨R, 4, none⟩ (.slice ea (rows.length + 1) ec)) (some R) := setj_grown _ _ _ _
  have hs6 := hg.size
  have k1 : Kept (fun q => (Value.slice ga rows.length gc).ownBlock ≠ some q) wr w6 := .grown hg (fun q e hq hne => hne e)
  have k2 : Kept (fun q => q ≠ R) w6 (w6.setCell ⟨R, 4, none⟩ (.slice ea (rows.length + 1) ec)) := .grown hg2 (fun q e hq hne => by cases e; exact hne rfl)
  have kk : Kept (fun q => (Value.slice ga rows.length gc).ownBlock ≠ some q ∧ q ≠ R) wr (w6.setCell ⟨R, 4, none⟩ (.slice ea (rows.length + 1) ec)) := (k1.mono fun q _ hq => hq.1).trans (k2.mono fun q _ hq => hq.2)
  have low : ∀ q, q < gl → (Value.slice ga rows.length gc).ownBlock ≠ some q := fun q hq e => by have := (hlt q e).1; omega
  have kb : ∀ w2, Kept (FF F0 A R (.slice ea (rows.length + 1) ec)) (w6.setCell ⟨R, 4, none⟩ (.slice ea (rows.length + 1) ec)) w2 → Kept (FF F0 A R (.slice ga rows.length gc)) wr w2 := fun w2 h2 =>
    ⟨h2.os.trans kk.os, h2.tape.trans kk.tape, h2.output.trans kk.output, Nat.le_trans kk.size h2.size, fun q hq hf => by
      refine (h2.block q (Nat.lt_of_lt_of_le hq kk.size) ⟨hf.1, fun e => ?_, hf.2.2⟩).trans (kk.block q hq ⟨hf.2.1, fun e => hf.1 ⟨by omega, by omega⟩⟩)
      rcases hb with e2 | e2
      · exact hf.2.1 (e2 ▸ e)
      · rw [e2] at e; injection e with e; omega⟩
  have hc : ∀ j v, j ≠ 4 → wr.cell? ⟨R, j, none⟩ = some v → (w6.setCell ⟨R, 4, none⟩ (.slice ea (rows.length + 1) ec)).cell? ⟨R, j, none⟩ = some v := fun j v hj hv => by
    rw [World.cell?_setCell_other _ _ _ _ (by intro e; injection e with _ e2 _; exact hj e2.symm)]
    exact k1.cell (low R (by omega)) hv
  have h4 : (w6.setCell ⟨R, 4, none⟩ (.slice ea (rows.length + 1) ec)).cell? ⟨R, 4, none⟩ = some (.slice ea (rows.length + 1) ec) := by
    have := k1.cell (low R (by omega)) h.r4
    simp [go_sem, this]
  obtain ⟨fp, p1, p2, p3, p4⟩ := h.paid
  obtain ⟨fo, o1, o2, o3⟩ := h.owed
  have G : ∀ q, q < gl → q ≠ R → (Value.slice ga rows.length gc).ownBlock ≠ some q ∧ q ≠ R := fun q h1 h2 => ⟨low q h1, h2⟩
  have hl1 : (rows ++ [r]).length = rows.length + 1 := by simp
  refine ⟨h.at_.kept kk (fun q hq => G q (by omega) (by omega)), h.per.keptF kk (G _ (by omega) (by omega)), kk.tbl h.tab (fun q hq => by have := h.tfar q hq; exact G q (by omega) (by omega)), h.tfar, hc 0 _ (by decide) h.r0, hc 1 _ (by decide) h.r1, hc 2 _ (by decide) h.r2, hc 3 _ (by decide) h.r3, by rw [hl1]; exact h4, fun j => ?_,
    kk.cell (G _ (by omega) (by omega)) h.u0, kk.cell (G _ (by omega) (by omega)) h.u1, kk.cell (G _ (by omega) (by omega)) h.u2, fun j => kk.frozen (G _ (by omega) (by omega)) (by omega) (h.uf j), hne, ⟨Nat.le_trans hi.1 kk.size, hi.2⟩,
    ⟨fp, p1.keptF kk (G _ (by omega) (by omega)), fun q => by rw [hl1]; obtain ⟨L1, l1, l2⟩ := p2 q; exact ⟨L1, fun w2 h2 => l1 w2 (kb w2 h2), l2⟩, p3, p4⟩, ⟨fo, o1.keptF kk (G _ (by omega) (by omega)), o2, o3⟩, ?_, fun t ht w2 h2 => ?_⟩
  · have := k1.frozen (low R (by omega)) (by omega) (h.rf j)
    simp [go_sem, this]
  · rw [hl1]
    have e : rowsOf rwc (rows ++ [r]) = rowsOf rwc rows ++ rwc r := by simp [rowsOf]
    rw [e]
    refine own_keptF ho k2 (fun q hq e2 => ?_)
    have := ho.lt q hq
    omega
  · rw [hl1] at h2
    rcases List.mem_append.1 ht with ht | ht
    · exact h.each t ht w2 (kb w2 h2)
    · obtain rfl : t = r := by simpa using ht
      have k3 := kb w2 h2
      refine hr (FF F0 A R (.slice ga rows.length gc)) w2 k3 (fun q hq h0 => ⟨by omega, low q (by omega), fun _ => h0⟩) (fun q hq hne2 => ⟨by omega, hne2, fun h => by omega⟩)
def KE (A R q : Nat) : Prop := q ≠ A + 1 ∧ q ≠ A + 1 + 1 ∧ q ≠ R + 1 + 1 + 1
def FE (F0 : Nat → Prop) (A q : Nat) : Prop := q < A → F0 q
theorem do_good {B : Wb.Bk} {y i k : Int} {S : Int → List Wb.Ct} {hs ps : List Int} {R : List Wb.Rw} (h0 : Wb.headE B.runs y i k = 0) (h1 : Wb.handsE (y, i) S hs = 0) (h : Wb.rowsG (y, i) B S [] ps = (0, R)) :
    Wb.doG B y i k S hs ps = (⟨B.runs ++ [⟨B.runs.length + 1, y, i, k, R⟩], fun p => Wb.fullC (S p), Wb.owedBy R B.owed⟩, ⟨B.runs.length + 1, y, i, k, R⟩, 0) := by
  unfold Wb.doG
  rw [h0, h1, h, if_neg (by simp), if_neg (by simp), if_neg (by simp)]
theorem do_fin {wE : World} {hs ks : List Int} {N : Nat} {v2 uv : Value} {r1 : RnM} {LR : List RnM} {L' : List RwM}
    (h : LpAt F0 w wr A M R nP ra RL rc mp mo gP ps tv y i k B S (ks ++ hs) (N + ps.length) (N + ps.length) ga gl gc rows (ps.take ps.length) (rows.map RwM.c)) (hk : Kept (KE A R) wr wE)
    (hw : Wb.Who B S hs ps) (h0 : Wb.headE B.runs y i k = 0) (h1 : Wb.handsE (y, i) S hs = 0) (h2 : Wb.rowsG (y, i) B S [] ps = (0, rows.map RwM.c)) (hpl : ps.length ≤ ks.length + hs.length)
    (hr : ∀ w2, Kept (FE F0 A) wE w2 → RunsM w2 v2 (LR ++ [r1])) (hLR : LR.map RnM.c = B.runs) (hrl : B.runs.length = RL) (hr1 : r1.c = ⟨(RL : Int) + 1, y, i, k, rows.map RwM.c⟩) (hL : ∀ w2, Kept (FE F0 A) wE w2 → RowsM w2 uv L') (hL' : L'.map RwM.c = rows.map RwM.c) :
    DoPost F0 B y i k S hs ks N w (.returned (.tuple #[BkV v2 (some (R + 1)) (some (R + 1 + 1)), RnV ((RL : Int) + 1) y i k uv, .int .i64 0])) wE := by
  have hne := h.ne
  have hi := h.hi
  have hA := h.at_.lo
  obtain ⟨fp, p1, p2, p3, p4⟩ := h.paid
  obtain ⟨fo, o1, o2, o3⟩ := h.owed
  rw [List.take_length] at p2 p3
  have e : ∀ p, (if p ∈ ps then Wb.fullC (S p) else B.paid p) = Wb.fullC (S p) := fun p => by
    by_cases hp : p ∈ ps
    · rw [if_pos hp]
    · rw [if_neg hp]
      have h3 : ¬ (S p ≠ [] ∨ B.paid p ≠ []) := fun h => hp (hw.all p h)
      have h4 : B.paid p = [] := Classical.byContradiction fun h => h3 (.inr h)
      have h5 : S p = [] := Classical.byContradiction fun h => h3 (.inl h)
      rw [h4, h5]; rfl
  have hF : ∀ w2, Kept (FE F0 A) wE w2 → Kept (FF F0 A R (.slice ga rows.length gc)) wr w2 := fun w2 h2 => ⟨h2.os.trans hk.os, h2.tape.trans hk.tape, h2.output.trans hk.output, Nat.le_trans hk.size h2.size, fun q hq hf =>
    (h2.block q (Nat.lt_of_lt_of_le hq hk.size) hf.2.2).trans (hk.block q hq ⟨fun e => hf.1 ⟨by omega, by omega⟩, fun e => hf.1 ⟨by omega, by omega⟩, fun e => hf.1 ⟨by omega, by omega⟩⟩)⟩
  have hx : Wb.Ext w wE := hk.old h.at_.ext (fun q hq => ⟨by omega, by omega, by omega⟩)
  have hf : (fun q => q < w.heap.size → F0 q) = FE F0 A := by rw [hA]; rfl
  refine ⟨ps, v2, some (R + 1), some (R + 1 + 1), ⟨(RL : Int) + 1, y, i, k, uv, L'⟩, ⟨B.runs ++ [⟨(RL : Int) + 1, y, i, k, rows.map RwM.c⟩], fun p => Wb.fullC (S p), Wb.owedBy (rows.map RwM.c) B.owed⟩, 0, hw, ?_, rfl, ?_, by rw [hf]; exact hL, hx⟩
  · rw [do_good h0 h1 h2, hrl]
    unfold RnM.c
    simp only [hL']
  rw [hf]
  refine ⟨⟨LR ++ [r1], hr, by rw [List.map_append, hLR, List.map_cons, List.map_nil, hr1]⟩, ⟨N + ps.length, fp, ⟨fun w2 h2 => ((p1.keptF hk ⟨by omega, by omega, by omega⟩).keptF h2 (fun e => by omega)).opt, fun p => ?_, fun p hp => ?_⟩, by omega, p4⟩, ⟨N + ps.length, fo, fun w2 h2 => ((o1.keptF hk ⟨by omega, by omega, by omega⟩).keptF h2 (fun e => by omega)).opt, by omega, o2, o3⟩⟩
  · obtain ⟨L, l1, l2⟩ := p2 p
    exact ⟨L, fun w2 h2 => l1 w2 (hF w2 h2), by rw [l2, e]⟩
  · have := p3 p
    rw [e] at this
    exact this hp
end
end Go.Proofs.YtnefdpnolojojaaGreatDoor
namespace Go.Proofs.YtnefdpnolojojaaGreatDoor
open Go.RowKit Go.Sort Go.Lib Go.Maps
set_option maxRecDepth 8000
attribute [local go_sem ↓] Go.wp_at_zero Go.wp_at_succ
structure HdM where
  p : Int
  v : Value
  L : List Wb.Sl
def hdc (h : HdM) : List Value := [.int .u32 h.p, h.v]
structure HdsM (w : World) (v : Value) (hs : List HdM) : Prop where
  tab : Tbl 2 hdc w v hs
  each : ∀ h ∈ hs, SlsK w h.v h.L ∧ kU32.ok h.p
theorem HdsM.ext {w w' : World} {v : Value} {hs : List HdM} (h : HdsM w v hs) (k : Wb.Ext w w') : HdsM w' v hs := ⟨h.tab.ext k, fun x hx => ⟨(h.each x hx).1.ext k, (h.each x hx).2⟩⟩
def findH (hs : List HdM) (p : Int) : Option HdM := hs.find? fun h => decide (h.p = p)
def SH (hs : List HdM) (p : Int) : List Wb.Ct := match findH hs p with
  | none => []
  | some h => h.L.map Wb.ct
end Go.Proofs.YtnefdpnolojojaaGreatDoor
namespace Go.Proofs.YtnefdpnolojojaaGreatDoor
open Go.RowKit Go.Lib
set_option maxRecDepth 8000
end Go.Proofs.YtnefdpnolojojaaGreatDoor
namespace Go.Proofs.YtnefdpnolojojaaGreatDoor
open Go.RowKit Go.Sort Go.Lib Go.Maps
set_option maxRecDepth 8000
attribute [local go_sem ↓] Go.wp_at_zero Go.wp_at_succ
set_option maxHeartbeats 4000000 in
theorem runs31_any (rv : Value) (mp mo : Option Nat) (L : List RnM) (w : World) (h : RunsM w rv L) (hl : L.length ≤ 50000) :
    Calls Tryz.prog 8 #[BkV rv mp mo] w fun e w' => ∃ u L', e = .returned u ∧ (∀ w2, Kept (fun q => w.heap.size ≤ q) w' w2 → RunsM w2 u L') ∧ L'.map RnM.c = L.map RnM.c ∧ Wb.Ext w w' := by
  obtain ⟨va, vc, rfl⟩ := h.tab.shape
  have HS := Lib.hid h
  have HIN := Lib.hid (info_parts infoRun)
  clear h
  unfold BkV
  go_enter Tryz.func8, Tryz.ntmps8
  go_upto_region 2 with (fail)
  refine Wb.wp_at fun WB hWB => ?_
  obtain ⟨A, hA⟩ : ∃ A, w.heap.size = A := ⟨_, rfl⟩
  have b0 : WB.cell? ⟨A, 0, none⟩ = some (.slice va L.length vc) := by rw [hWB, ← hA]; simp [go_sem]
  have HXB := Lib.hid (show Wb.Ext w WB by rw [hWB]; (repeat' (first | (with_reducible assumption) | (with_reducible exact Wb.Ext.refl _) | (with_reducible refine Wb.Ext.drew ?_) | (with_reducible refine Wb.Ext.drewN ?_ _) | (with_reducible refine Wb.Ext.alloc ?_ _) | (with_reducible refine Wb.ext_set ?_ (by first | assumption | (simp; done) | (simp; omega) | omega) _) | (with_reducible refine Wb.Ext.trans ?_ (by assumption)))))
  rw [hA]
  clear hWB hA
  go_wp2_with fail
  go_loopw [9, 3] (fun iv ov wr => ∃ (k : Nat) (oa : Option Addr) (oc : Nat) (R : List RnM), k ≤ L.length ∧ iv = .int .i64 k ∧ ov = .slice oa R.length oc ∧ R.length = k ∧ Hid (wr.ownsRow w.heap.size 31 5 (.slice oa R.length oc) R.length (rowsOf rnc R)) ∧ Hid (∀ r ∈ R, (∃ a n c, r.rv = .slice a n c) ∧ ∀ w2, Kept (fun q => w.heap.size ≤ q ∧ (Value.slice oa R.length oc).ownBlock ≠ some q) wr w2 → RowsM w2 r.rv r.rows) ∧ Hid (R.map RnM.c = (L.take k).map RnM.c) ∧ Hid (Wb.Ext w wr)) (fun iv _ _ => L.length - (intOf iv).toNat)
  case atStart => exact ⟨0, none, 0, [], Nat.zero_le _, rfl, rfl, rfl, Lib.hid own_none, Lib.hid (fun r hr => by cases hr), Lib.hid rfl, HXB⟩
  case round =>
    clear HXB b0
    obtain ⟨k, oa, oc, R, hk, rfl, rfl, hRl, HO, HE, HC, HX⟩ := hrel
    obtain ⟨wO, hwz⟩ : ∃ z, z = wr := ⟨_, rfl⟩
    subst hwz
    have HRL := Lib.hid hRl
    have hRb : R.length ≤ 50000 := by omega
    clear hRl
    by_cases hlt : k < L.length
    case neg =>
      obtain rfl : k = L.length := by omega
      have HCN := Lib.hid (show R.map RnM.c = L.map RnM.c by have := HC.out; rwa [List.take_length] at this)
      go_wp2
      refine bodyPost_ret (v := .slice oa R.length oc) (by simp [results, Tryz.results8, go_sem]) rfl ⟨_, R, rfl, fun w2 h2 => ⟨row_tbl rnc_len (by decide) (own_keptF HO.out h2 (fun q hq => (HO.out.lt q hq).1)), fun r hr => (HE.out r hr).2 _ (h2.mono fun q _ hq => hq.1), by omega, fun r hr => (HE.out r hr).1⟩, HCN.out, HX.out⟩
    obtain ⟨x, hx⟩ := Wb.get_ex hlt
    have hmem := List.mem_of_getElem? hx
    obtain ⟨b, off, hb, hc⟩ := (HS.out.tab.ext HX.out).opened (by rintro rfl; simp at hx)
    obtain rfl : va = some ⟨b, off, none⟩ := hb
    obtain ⟨xa, xc, hxv⟩ := (HS.out.each x hmem).tab.shape
    have c0 := hc k x hx 0 _ rfl
    have c1 := hc k x hx 1 _ rfl
    have c2 := hc k x hx 2 _ rfl
    have c3 := hc k x hx 3 _ rfl
    have c4 := hc k x hx 4 (.slice xa x.rows.length xc) (by rw [← hxv]; rfl)
    rw [Nat.add_zero] at c0
    have HER := Lib.hid (show RowsM w (.slice xa x.rows.length xc) x.rows by rw [← hxv]; exact HS.out.each x hmem)
    have hki : (k : Int) < L.length := by omega
    have HXX := Lib.hid hx
    have hbl : b < wO.heap.size := Wb.cell_size c0
    clear hx hmem hc hxv
    go_wp2_with fail
    go_fit (rclone31_any x.n x.y x.i x.k _ x.rows _ (HER.out.ext (Wb.Ext.trans HX.out (by (repeat' (first | (with_reducible assumption) | (with_reducible exact Wb.Ext.refl _) | (with_reducible refine Wb.Ext.drew ?_) | (with_reducible refine Wb.Ext.drewN ?_ _) | (with_reducible refine Wb.Ext.alloc ?_ _) | (with_reducible refine Wb.ext_set ?_ (by first | assumption | (simp; done) | (simp; omega) | omega) _) | (with_reducible refine Wb.Ext.trans ?_ (by assumption)))))))); rintro e w1 ⟨u, D, rfl, hD, hDc, hnew, hx1⟩
    unfold RnV
    obtain ⟨ua, uc, rfl⟩ := hD.tab.shape
    have hE1 : Wb.Ext wO w1 := Wb.Ext.trans (by (repeat' (first | (with_reducible assumption) | (with_reducible exact Wb.Ext.refl _) | (with_reducible refine Wb.Ext.drew ?_) | (with_reducible refine Wb.Ext.drewN ?_ _) | (with_reducible refine Wb.Ext.alloc ?_ _) | (with_reducible refine Wb.ext_set ?_ (by first | assumption | (simp; done) | (simp; omega) | omega) _) | (with_reducible refine Wb.Ext.trans ?_ (by assumption))))) hx1
    have HE1 := Lib.hid hE1
    have HNEW := Lib.hid (show ∀ w2, Kept (fun q => wO.heap.size ≤ q) w1 w2 → RowsM w2 (.slice ua D.length uc) D from fun w2 h2 => hnew 0 (wO.heap.size - 1) w2 (by simp; omega) ⟨h2.os, h2.tape, h2.output, h2.size, fun q hq hr => h2.block q hq (by show wO.heap.size ≤ q; omega)⟩)
    have HDC := Lib.hid hDc
    clear c0 c1 c2 c3 c4 hD hDc hnew hx1 hE1
    have HO1 := Lib.hid (row_ext3 HO.out HE1.out)
    obtain ⟨hi, hz0, hz1, hz2⟩ := HIN.out.choose_spec
    go_wp2_with (at_builtin; go_loud (refine wpList_append_row2 rfl (.tmp 13) (.tmp 16) 23 rfl w.heap.size 31 _ rnZ 5 56 Tryz.underlying23 hi hz0 hz1 hz2 rfl (by decide) _ _ _ rfl (row_ext3 HO1.out ((Wb.Ext.refl _).alloc _)) _ rfl 1 [.int .i64 x.n, .int .i64 x.y, .int .i64 x.i, .int .i64 x.k, .slice ua D.length uc] ?c1 ?c2 ?c3 ?c4 ?c5 ?_))
    case c1 => exact src_lit _ _ (by simp) _ _ _
    case c2 => intro u hu; simp at hu; rcases hu with rfl | rfl | rfl | rfl | rfl <;> rfl
    case c3 => unfold maxLen; omega
    case c4 => omega
    case c5 => have := HE1.out.size; have := HX.out.size; simp; omega
    intro u2 w6 hown2 hg2 hblk
    obtain ⟨fa, fc, rfl⟩ := row_shape hown2
    obtain ⟨r1, hr1⟩ : ∃ r1 : RnM, r1 = ⟨x.n, x.y, x.i, x.k, .slice ua D.length uc, D⟩ := ⟨_, rfl⟩
    obtain ⟨wa, hwa⟩ : ∃ z, w1.alloc (.cells #[.int .i64 x.n, .int .i64 x.y, .int .i64 x.i, .int .i64 x.k, .slice ua D.length uc] 31) = z := ⟨_, rfl⟩
    have hxa : Wb.Ext w1 wa := by rw [← hwa]; exact .alloc (.refl _) _
    have hsz : wa.heap.size = w1.heap.size + 1 := by rw [← hwa]; simp
    have hg2 : wa.grownBy w6 (Value.slice oa R.length oc).ownBlock := by rw [← hwa]; exact hg2
    have hblk : (Value.slice fa (R.length + 1) fc).ownBlock = (Value.slice oa R.length oc).ownBlock ∨ (Value.slice fa (R.length + 1) fc).ownBlock = some wa.heap.size := by rw [hsz]; exact hblk
    have hlt1 := HO.out.lt
    have hk6 : Kept (fun q => (Value.slice oa R.length oc).ownBlock ≠ some q) wa w6 := .grown hg2 (fun q e hq hne => hne e)
    have HX6 := Lib.hid (show Wb.Ext w w6 from ((HX.out.trans HE1.out).trans hxa).grown hg2 (fun q hq => (hlt1 q hq).1))
    have hl1 : (R ++ [r1]).length = R.length + 1 := by simp
    have e8 : rowsOf rnc (R ++ [r1]) = rowsOf rnc R ++ [.int .i64 x.n, .int .i64 x.y, .int .i64 x.i, .int .i64 x.k, .slice ua D.length uc] := by rw [hr1]; simp [rowsOf, rnc]
    have HON := Lib.hid (show w6.ownsRow w.heap.size 31 5 (.slice fa (R ++ [r1]).length fc) (R ++ [r1]).length (rowsOf rnc (R ++ [r1])) by rw [hl1, e8]; exact hown2)
    have hb2 : ∀ w2, Kept (fun q => w.heap.size ≤ q ∧ (Value.slice fa (R.length + 1) fc).ownBlock ≠ some q) w6 w2 → Kept (fun q => w.heap.size ≤ q ∧ (Value.slice oa R.length oc).ownBlock ≠ some q) wa w2 := fun w2 h2 =>
      ⟨h2.os.trans hk6.os, h2.tape.trans hk6.tape, h2.output.trans hk6.output, Nat.le_trans hk6.size h2.size, fun q hq hf => by
        refine (h2.block q (Nat.lt_of_lt_of_le hq hk6.size) ⟨hf.1, fun e => ?_⟩).trans (hk6.block q hq hf.2)
        rcases hblk with e2 | e2
        · exact hf.2 (e2 ▸ e)
        · rw [e2] at e; injection e with e; omega⟩
    have HEN := Lib.hid (show ∀ r ∈ R ++ [r1], (∃ a n c, r.rv = .slice a n c) ∧ ∀ w2, Kept (fun q => w.heap.size ≤ q ∧ (Value.slice fa (R ++ [r1]).length fc).ownBlock ≠ some q) w6 w2 → RowsM w2 r.rv r.rows from fun r hr => by
      rw [hl1]
      rcases List.mem_append.1 hr with hr | hr
      · exact ⟨(HE.out r hr).1, fun w2 h2 => (HE.out r hr).2 w2 ((Kept.ext (HE1.out.trans hxa)).trans (hb2 w2 h2))⟩
      · obtain rfl : r = r1 := by simpa using hr
        subst hr1
        refine ⟨⟨_, _, _, rfl⟩, fun w2 h2 => HNEW.out w2 ((Kept.ext hxa).trans ((hb2 w2 h2).mono fun q hq hf => ⟨?_, fun e => ?_⟩))⟩
        · have hf : wO.heap.size ≤ q := hf
          have := HX.out.size
          omega
        · have := (hlt1 q e).2
          have hf : wO.heap.size ≤ q := hf
          omega)
    have HCN := Lib.hid (show (R ++ [r1]).map RnM.c = (L.take (k + 1)).map RnM.c by
      rw [take_snoc HXX.out, List.map_append, List.map_append, HC.out, hr1]
      unfold RnM.c
      simp [HDC.out])
    clear hi hz0 hz1 hz2 hg2 hown2 hblk hk6 hb2 hxa hwa hsz e8 hr1
    have hl2 : R.length + 1 = (R ++ [r1]).length := hl1.symm
    go_wp2
    go_roundw
    case rel => exact ⟨k + 1, fa, fc, R ++ [r1], by omega, by go_num, by rw [hl1], by rw [hl1, HRL.out], HON, HEN, HCN, HX6⟩
    case measure => first | (simp [intOf]; done) | (simp [intOf]; omega)
end Go.Proofs.YtnefdpnolojojaaGreatDoor
