/- The walk of delta.periods: the periods of maps, rising, each once. -/
import Derived.Test.YtdfmlgjemfcmlaaMap3
import Derived.Test.YtdfmlgjemfcmlaaDel4
import Derived.Test.YtdfmlgjemfcmlaaDel9
import Derived.Test.YtdfmlgjemfcmlaaApp1
namespace Go.Proofs.Ytdfmlgjemfcmlaa
open Go.RowKit Go.Sort Go.Lib Go.Maps
set_option maxRecDepth 8000
attribute [local go_sem ↓] Go.wp_at_zero Go.wp_at_succ

theorem wpList_append_row2 {P : Program} {w : World} {ops : Array Oper} {rest : List Oper} {o : Oper} {a : Act} {Q : Exit → Act → World → Prop} (hgd : o.guard = none) (s x : Operand) (t : TypeId)
    (ho : o.op = .call { callee := .builtin .append, args := #[s, x], argTypes := #[t, t] })
    (base : Nat) (e : TypeId) (i : TypeInfo) (z : Value) (size bytes : Nat) (ht : P.underlying t = some (.slice e)) (hi : P.info? e = some i) (hz : i.zero = some z)
    (hsize : i.size = size) (hby : i.bytes = bytes) (hzs : z.cells.size = size) (hsz : 0 < size)
    (v : Value) (n : Nat) (xs : List Value) (hs : a.eval s = v) (hown : w.ownsRow base e size v n xs)
    (xv : Value) (hx : a.eval x = xv) (m : Nat) (news : List Value) (hsrc : Wb.SrcRow w size xv m news) (h1 : ∀ u ∈ news, u.oneCell' = true)
    (h63 : n + m ≤ maxLen) (hbytes : (n + m) * bytes ≤ 140737488355328) (hbase : base ≤ w.heap.size)
    (h : ∀ v' w', w'.ownsRow base e size v' (n + m) (xs ++ news) → w.grownBy w' v.ownBlock → (v'.ownBlock = v.ownBlock ∨ v'.ownBlock = some w.heap.size) → wpList P ops Q rest (a.put o.dst v') w') : wpList P ops Q (o :: rest) a w := by
  refine wpList_plain hgd fun K' hK' => ?_
  exact Wb.wp_append_row s x t ho base e i z size bytes ht hi hz hsize hby hzs hsz v n xs hs hown xv hx m news hsrc h1 h63 hbytes hbase (fun v' w' h1 h2 h3 => hK' _ _ (h v' w' h1 h2 h3))
/-- a map of slips in memory -/
structure MapD where
  b : Nat
  n : Nat
  f : Int × Int → Option Wb.Sl
def mpc (m : MapD) : List Value := [.map (some m.b)]
theorem mpc_len (m : MapD) : (mpc m).length = 1 := rfl
theorem infoPr : (Try.prog.info? 76).map (fun i => (i.zero, i.size, i.bytes)) = some (some (.agg #[.int .i64 0, .int .i64 0]), 2, 16) := by kernel_rfl
/-- the periods of a map that have come so far: those that are not left -/
structure SoP (f : Int × Int → Option Wb.Sl) (left : Lit → Bool) (r : List (Int × Int)) : Prop where
  ok : ∀ p ∈ r, PrOk p ∧ (f p).isSome = true ∧ left (kPair p.1 p.2) = false
  all : ∀ p, PrOk p → (f p).isSome = true → left (kPair p.1 p.2) = false → p ∈ r
  one : r.Nodup
theorem soP_more {f : Int × Int → Option Wb.Sl} {left : Lit → Bool} {r : List (Int × Int)} (h : SoP f left r) {p : Int × Int} (hp : PrOk p) (hf : (f p).isSome = true) (hl : left (kPair p.1 p.2) = true) : SoP f (fun z => left z && !z.sameKey (kPair p.1 p.2)) (r ++ [p]) := by
  have hself : (kPair p.1 p.2).sameKey (kPair p.1 p.2) = true := WideAt.sameKey_self (pair_keyed.key (pair_key hp.1 hp.2))
  refine ⟨fun q hq => ?_, fun q hq hqf hql => ?_, List.nodup_append.2 ⟨h.one, by simp, fun a ha b hb e => ?_⟩⟩
  · rcases List.mem_append.1 hq with hq | hq
    · obtain ⟨h1, h2, h3⟩ := h.ok q hq
      exact ⟨h1, h2, by rw [h3]; rfl⟩
    · simp at hq; subst hq; exact ⟨hp, hf, by simp [hself]⟩
  · rcases hb : left (kPair q.1 q.2) with _ | _
    · exact List.mem_append_left _ (h.all q hq hqf hb)
    · rw [hb, Bool.true_and, Bool.not_eq_false'] at hql
      by_cases e : kPair q.1 q.2 = kPair p.1 p.2
      · exact List.mem_append_right _ (by simp [kPair_inj hq hp e])
      · rw [Maps.sameKey_ne e] at hql; cases hql
  · simp at hb; subst hb; subst e
    have := (h.ok a ha).2.2
    rw [hl] at this; cases this
/-- what has come of the maps so far -/
structure OutP (ms : List MapD) (k : Nat) (r : List (Int × Int)) : Prop where
  mem : ∀ p, p ∈ r ↔ PrOk p ∧ ∃ m ∈ ms.take k, (m.f p).isSome = true
  len : r.length ≤ k * 10000
theorem outP_next {ms : List MapD} {k : Nat} {m : MapD} {r r1 : List (Int × Int)} {left : Lit → Bool} (h : OutP ms k r) (hm : ms[k]? = some m) (h1 : SoP m.f left r1) (hl : ∀ kl, left kl = false) (hc : r1.length ≤ 10000) : OutP ms (k + 1) (r ++ r1) := by
  have e : ms.take (k + 1) = ms.take k ++ [m] := by
    obtain ⟨p1, rfl⟩ := List.getElem?_eq_some_iff.1 hm
    exact List.take_succ_eq_append_getElem p1
  refine ⟨fun p => ?_, by rw [List.length_append]; have := h.len; omega⟩
  rw [List.mem_append, h.mem, e]
  constructor
  · rintro (⟨a, z, hz, hf⟩ | hp)
    · exact ⟨a, z, List.mem_append_left _ hz, hf⟩
    · obtain ⟨a, b, _⟩ := h1.ok p hp
      exact ⟨a, m, by simp, b⟩
  · rintro ⟨a, z, hz, hf⟩
    rcases List.mem_append.1 hz with hz | hz
    · exact .inl ⟨a, z, hz, hf⟩
    · simp at hz; subst hz
      exact .inr (h1.all p a hf (hl _))
theorem pairsC_tbl {w : World} {v : Value} {b off n c : Nat} {r : List (Int × Int)} (hv : v = .slice (some ⟨b, off, none⟩) n c) (hn : n = r.length) (h : PairsC w b off r) : Tbl 2 prc w v r := by
  refine .inr ⟨b, off, c, by rw [hv, hn], fun j p hj i u hu => ?_⟩
  obtain ⟨h1, h2⟩ := h j p hj
  match i, hu with
  | 0, hu => simp [prc] at hu; subst hu; simpa using h1
  | 1, hu => simp [prc] at hu; subst hu; exact h2
  | i + 2, hu => simp [prc] at hu
/-- what delta.periods yields -/
structure IsPers (w w' : World) (ms : List MapD) (u : Value) (r : List (Int × Int)) : Prop where
  tbl : Tbl 2 prc w' u r
  rise : r.Pairwise fun a b => prLt a b = true
  mem : ∀ p, p ∈ r ↔ PrOk p ∧ ∃ m ∈ ms, (m.f p).isSome = true
  len : r.length ≤ 20000
  ext : Wb.Ext w w'

set_option maxHeartbeats 8000000 in
theorem periods_any (v : Value) (ms : List MapD) (w : World) (hv : Tbl 1 mpc w v ms) (hm : ∀ m ∈ ms, SMapIs w m.b m.n m.f) (hl : ms.length ≤ 2) (hcnt : ∀ m ∈ ms, ∀ r : List (Int × Int), r.Nodup → (∀ p ∈ r, (m.f p).isSome = true) → r.length ≤ 10000) :
    Calls Try.prog 47 #[v] w fun e w' => ∃ u, e = .returned u ∧ ∃ r, IsPers w w' ms u r := by
  obtain ⟨i0, hi, hz0, hz1, hz2⟩ := info_parts infoPr
  have HIN := Lib.hid (show Try.prog.info? 76 = some i0 ∧ i0.zero = some (.agg #[.int .i64 0, .int .i64 0]) ∧ i0.size = 2 ∧ i0.bytes = 16 from ⟨hi, hz0, hz1, hz2⟩)
  clear hi hz0 hz1 hz2
  obtain ⟨va, vc, rfl⟩ := hv.shape
  have HV := Lib.hid hv
  have HM := Lib.hid hm
  have HCNT := Lib.hid hcnt
  clear hv hm hcnt
  go_enter Try.func47, Try.ntmps47
  go_wp2_with fail
  go_loopw [3, 9] (fun ov iv wr => ∃ (k : Nat) (r : List (Int × Int)), k ≤ ms.length ∧ iv = .int .i64 k ∧ Hid (wr.ownsRow w.heap.size 76 2 ov r.length (rowsOf prc r)) ∧ Hid (OutP ms k r) ∧ Wb.Ext w wr) (fun _ iv _ => ms.length - (intOf iv).toNat)
  case atStart => exact ⟨0, [], Nat.zero_le _, rfl, Lib.hid own_none, Lib.hid ⟨fun p => by simp, by simp⟩, by (repeat' (first | (with_reducible assumption) | (with_reducible exact Wb.Ext.refl _) | (with_reducible refine Wb.Ext.drew ?_) | (with_reducible refine Wb.Ext.drewN ?_ _) | (with_reducible refine Wb.Ext.alloc ?_ _) | (with_reducible refine Wb.Ext.trans ?_ (by assumption))))⟩
  case round =>
    obtain ⟨k, r, hk, rfl, HROW, HOUT, hxr⟩ := hrel
    obtain ⟨oa, oc, rfl⟩ := row_shape HROW.out
    have hrl : r.length ≤ 20000 := by have := HOUT.out.len; omega
    by_cases hlt : k < ms.length
    · obtain ⟨m, hmk⟩ := Wb.get_ex hlt
      have hmem := List.mem_of_getElem? hmk
      obtain ⟨b0, off0, rfl, hcells⟩ := (HV.out.ext hxr).opened (tne hlt)
      have c0 := hcells k m hmk 0 _ rfl
      simp only [Nat.add_zero, Nat.mul_one] at c0
      obtain ⟨D, hown, hD⟩ := HM.out m hmem
      have hmb := hown.lt
      have hown := hown.kept (ext_grown hxr) (by simp)
      have HD := Lib.hid hD
      have HMK := Lib.hid hmk
      have HCN := Lib.hid (HCNT.out m hmem)
      have hki : (k : Int) < ms.length := by omega
      clear hcells hmk hD hmem
      go_wp2_with (first
        | (at_range; refine wpList_range_own _ rfl _ 71 rfl 76 24 pair_keyed Try.underlying71 RH m.b m.n D rfl hown ?_; intro w0 hrg0 hg0 hs0)
        | go_in)
      obtain ⟨X, hX⟩ : ∃ X, wr.heap.size = X := ⟨_, rfl⟩
      have hg0' : Wb.Ext wr w0 := Wb.Ext.grown (.refl _) hg0 (fun k hk => by cases hk)
      have HX0 := Lib.hid (hxr.trans hg0')
      have HRG0 := Lib.hid hrg0
      have HROW0 := Lib.hid (HROW.out.kept hg0 (by
        rcases (Value.slice oa r.length oc).ownBlock with _ | q
        · exact .inl rfl
        · exact .inr (by simp)))
      have hXw : w.heap.size ≤ X := by rw [← hX]; exact hxr.size
      have hlt0 : X + 1 ≤ w0.heap.size := by omega
      have hrX : Hid (∀ q, (Value.slice oa r.length oc).ownBlock = some q → q ≠ X) := Lib.hid (fun q hq => by have := (HROW.out.lt q hq).2; omega)
      rw [hX] at HRG0 ⊢
      clear hown hrg0 hg0 hs0 hg0' HROW hX c0
      go_frame
      have HS0 := Lib.hid (show SoP m.f (Maps.has D) [] from ⟨(fun x hx => by cases hx), (fun p hp hf hl => by rw [(HD.out p hp).2, hf] at hl; cases hl), List.nodup_nil⟩)
      go_loopw [3] (fun ov wr => ∃ (left : Lit → Bool) (cnt : Nat) (r1 : List (Int × Int)), wr.ranges Try.prog 76 RH m.b X m.n D left cnt ∧ Hid (SoP m.f left r1) ∧ wr.ownsRow w.heap.size 76 2 ov (r.length + r1.length) (rowsOf prc (r ++ r1)) ∧ Hid (∀ q, ov.ownBlock = some q → q ≠ X) ∧ Hid (Wb.Ext w wr) ∧ w0.heap.size ≤ wr.heap.size) (fun _ wr => wr.rangeLeft m.b X)
      case atStart => exact ⟨_, _, [], HRG0.out, HS0, by rw [List.append_nil]; exact HROW0.out, hrX, HX0, Nat.le_refl _⟩
      case round =>
        clear HX0 HRG0 HROW0 hrX HS0
        obtain ⟨left, cnt, r1, hrg, HSO, hrow, HRX, HXR, hszr⟩ := hrel
        obtain ⟨pa, pc, rfl⟩ := row_shape hrow
        have hr1 : r1.length ≤ 10000 := HCN.out r1 HSO.out.one (fun p hp => (HSO.out.ok p hp).2.1)
        have HROW := Lib.hid hrow
        have HRG := Lib.hid hrg
        clear hrow
        go_wp2_with (first
          | (at_next; refine wpList_next_ranges (α := Int × Int) (β := Value) _ rfl _ rfl 76 pair_keyed RH (fun x => .agg #[.int .i64 x.1, .int .i64 x.2]) id (fun key kl hkey => by obtain ⟨p, c, rfl, _⟩ := pair_inv hkey; exact ⟨(p, c), rfl⟩) (fun v y hv => ⟨v, rfl⟩) m.b X m.n _ _ _ rfl hrg ?_ ?_)
          | go_in)
        · intro _ hl0
          have HN := Lib.hid (outP_next HOUT.out HMK.out HSO.out hl0 hr1)
          have HR2 := Lib.hid (show wr.ownsRow w.heap.size 76 2 (.slice pa (r ++ r1).length pc) (r ++ r1).length (rowsOf prc (r ++ r1)) by rw [List.length_append]; exact HROW.out)
          have hln : (r ++ r1).length = r.length + r1.length := List.length_append
          rw [← hln]
          clear hl0 hrg HROW
          go_wp2
          go_roundw
          case rel => exact ⟨k + 1, r ++ r1, by omega, by go_num, HR2, HN, HXR.out⟩
          case measure => first | (simp [intOf]; done) | (simp [intOf]; omega)
        · intro p q cv kl yd yp w1 cnt1 hkx hlx hry hat hrg1 hlt1 hg1 hs1 hen
          obtain ⟨y', i', e1, e2, hp', hc'⟩ := pair_inv hkx
          simp only [Value.agg.injEq] at e1
          have q1 := congrArg (fun a => a[0]?) e1
          have q2 := congrArg (fun a => a[1]?) e1
          simp at q1 q2
          subst q1 q2 e2
          have hpk : PrOk (p, q) := ⟨hp', hc'⟩
          have hff : (m.f (p, q)).isSome = true := by
            rw [← (HD.out (p, q) hpk).2]
            exact Maps.has_true_of_atKey hat
          have HN := Lib.hid (soP_more HSO.out hpk hff hlx)
          have HX1 := Lib.hid (show Wb.Ext w w1 from HXR.out.grown hg1 (fun k hk => by cases hk; exact hXw))
          have HROW1 := Lib.hid (HROW.out.kept hg1 (by
            rcases hb : (Value.slice pa (r.length + r1.length) pc).ownBlock with _ | k
            · exact .inl rfl
            · exact .inr (fun e => by injection e with e; exact HRX.out k hb e)))
          have HRG1 := Lib.hid hrg1
          have hsz1 : w0.heap.size ≤ w1.heap.size := by omega
          have hXs : X < w1.heap.size := by omega
          clear hkx hlx hry hat hrg1 hrg hg1 hs1 e1 hp' hc' hpk hff
          (try simp only [id] at hen)
          obtain ⟨hi, hz0, hz1, hz2⟩ := HIN.out
          go_wp2_with (at_builtin; go_loud (refine wpList_append_row2 rfl (.tmp 19) (.tmp 21) 74 rfl w.heap.size 76 i0 (.agg #[.int .i64 0, .int .i64 0]) 2 16 Try.underlying74 hi hz0 hz1 hz2 rfl (by decide) _ _ _ rfl ((HROW1.out.alloc _).alloc _) _ rfl 1 (prc (p, q)) ?c1 ?c2 ?c3 ?c4 ?c5 ?_))
          case c1 => exact src_lit _ _ (by simp) (prc (p, q)) _ _
          case c2 => intro u hu; simp [prc] at hu; rcases hu with rfl | rfl <;> rfl
          case c3 => unfold maxLen; omega
          case c4 => omega
          case c5 => first | omega | (simp; omega)
          intro u2 w6 hown2 hg2 hblk
          have hrb : ∀ k, (Value.slice pa (r.length + r1.length) pc).ownBlock = some k → w.heap.size ≤ k := fun k hk => (HROW1.out.lt k hk).1
          have HX6 := Lib.hid (show Wb.Ext w w6 from ((HX1.out.alloc _).alloc _).grown hg2 (fun k hk => hrb k hk))
          have HO := Lib.hid (show w6.ownsRow w.heap.size 76 2 u2 (r.length + (r1 ++ [(p, q)]).length) (rowsOf prc (r ++ (r1 ++ [(p, q)]))) by
            rw [← List.append_assoc, rowsOf_app prc (r ++ r1), rowsOf_one, show r.length + (r1 ++ [(p, q)]).length = r.length + r1.length + 1 by simp; omega]
            exact hown2)
          have HRX2 : Hid (∀ k, u2.ownBlock = some k → k ≠ X) := Lib.hid (fun k hk => by
            rcases hblk with h | h
            · rw [h] at hk; exact HRX.out k hk
            · rw [h] at hk; injection hk with hk; first | omega | (simp at hk; omega))
          have HRG6 := Lib.hid (((HRG1.out.alloc _).alloc _).kept hg2 (fun e => by have := hrb m.b e.symm; omega) (fun e => HRX.out X e.symm rfl))
          have hs6 : w0.heap.size ≤ w6.heap.size := by have := hg2.size; simp at this; omega
          clear hi hz0 hz1 hz2 hg2 hown2 hblk hrb
          go_wp2
          go_roundw
          case rel => exact ⟨_, cnt1, r1 ++ [(p, q)], HRG6.out, HN, HO.out, HRX2, HX6, hs6⟩
          case measure => rw [HRG6.out.left_eq, HRG.out.left_eq]; exact hlt1
    · obtain rfl : k = ms.length := by omega
      go_wp2_with fail
      go_fit (sortp_any w.heap.size _ r wr HROW.out (by omega)); rintro e w3 ⟨rfl, r2, hp, hs, ho, hg⟩
      have hx3 : Wb.Ext w w3 := hxr.grown hg (fun k hk => (HROW.out.lt k hk).1)
      have hln : r2.length = r.length := hp.length_eq
      have HMEM : Hid (∀ p, p ∈ Wb.cpt r2 ↔ PrOk p ∧ ∃ m ∈ ms, (m.f p).isSome = true) := Lib.hid (fun p => by
        rw [Wb.cpt_mem, hp.mem_iff, HOUT.out.mem, List.take_length])
      have HRI := Lib.hid (Wb.cpt_rise hs)
      have hcl := Wb.cpt_len r2
      clear hp hs hg
      by_cases hfew : r.length < 2
      · have HT := Lib.hid (show Tbl 2 prc w3 (.slice oa r.length oc) (Wb.cpt r2) by
          have e : Wb.cpt r2 = r2 := by
            match r2, hln with
            | [], _ => rfl
            | [x], _ => rfl
            | x :: y :: t, h => simp at h; omega
          rw [e]
          exact row_tbl prc_len (by decide) ho)
        clear ho
        go_wp2_with fail
        go_fit (compact_few oa r.length oc w3 hfew); rintro e w4 ⟨rfl, rfl⟩
        go_wp2
        refine bodyPost_ret (v := .slice oa r.length oc) (by simp [results, Try.results47, go_sem]) rfl ⟨_, rfl, Wb.cpt r2, HT.out, HRI.out, HMEM.out, by omega, by (repeat' (first | (with_reducible assumption) | (with_reducible exact Wb.Ext.refl _) | (with_reducible refine Wb.Ext.drew ?_) | (with_reducible refine Wb.Ext.drewN ?_ _) | (with_reducible refine Wb.Ext.alloc ?_ _) | (with_reducible refine Wb.Ext.trans ?_ (by assumption))))⟩
      · have hr2 : 2 ≤ r2.length := by omega
        obtain ⟨g, rfl, hcap⟩ : ∃ g, oa = some ⟨g, 0, none⟩ ∧ r.length ≤ oc := by
          obtain ⟨h1, h2 | ⟨g, cap, cur, hv, hb, hg, h3, h4, _⟩⟩ := ho
          · injection h2.1 with _ e _; omega
          · injection hv with e1 _ e3; exact ⟨g, e1, by omega⟩
        have HPC : Hid (PairsC w3 g 0 r2) := Lib.hid (fun j p hj => by
          obtain ⟨b1, o1, e1, hc⟩ := (row_tbl prc_len (by decide) ho).opened (by intro e; rw [e] at hr2; simp at hr2)
          injection e1 with e1
          injection e1 with e2 e3
          subst e2 e3
          have h0 := hc j p hj 0 _ rfl
          have h1 := hc j p hj 1 _ rfl
          exact ⟨by simpa using h0, h1⟩)
        have hfz : ∀ j, w3.frozen? ⟨g, j, none⟩ = false := own_free ho
        have hgb : w.heap.size ≤ g := (ho.lt g rfl).1
        rw [← hln] at hcap ⊢
        have hr2l : r2.length ≤ 20000 := by omega
        clear ho hln hrl
        go_wp2_with fail
        go_fit (compact_many w g 0 oc r2 w3 hr2 (by omega) hcap HPC.out hfz hgb hx3); rintro e w4 ⟨rfl, hpc, hx4⟩
        have HT := Lib.hid (pairsC_tbl (v := .slice (some ⟨g, 0, none⟩) (Wb.cpt r2).length oc) rfl rfl hpc)
        clear hpc
        go_wp2
        refine bodyPost_ret (v := .slice (some ⟨g, 0, none⟩) (Wb.cpt r2).length oc) (by simp [results, Try.results47, go_sem]) rfl ⟨_, rfl, Wb.cpt r2, HT.out, HRI.out, HMEM.out, by omega, hx4⟩

end Go.Proofs.Ytdfmlgjemfcmlaa
