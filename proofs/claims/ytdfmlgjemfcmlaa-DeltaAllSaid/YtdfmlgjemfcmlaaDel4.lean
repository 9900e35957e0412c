/- The walk of delta.lines: the amounts of a map, as lines that rise. -/
import Derived.Test.YtdfmlgjemfcmlaaDel3
import Derived.Test.YtdfmlgjemfcmlaaMap2
namespace Go.Proofs.Ytdfmlgjemfcmlaa
open Go.RowKit Go.Sort Go.Lib Go.Maps
set_option maxRecDepth 8000
attribute [local go_sem ↓] Go.wp_at_zero Go.wp_at_succ

/-- may a part and a code be a key? -/
def KeyOk (p : Int) (c : List UInt8) : Prop := (Lit.int .i64 p).wf = true ∧ c.length ≤ maxLen
/-- a map of amounts: what it has at each part and code -/
def MapIs (w : World) (b n : Nat) (f : Int → List UInt8 → Int) : Prop := ∃ D, w.ownsMap Try.prog 57 RH b n D ∧ ∀ p c, KeyOk p c → D.atKey (kSpot p c) (.held (.int .i64 0)) = .held (.int .i64 (f p c))
theorem kSpot_inj {p p' : Int} {c c' : List UInt8} (h : KeyOk p c) (h' : KeyOk p' c') (e : kSpot p c = kSpot p' c') : p = p' ∧ c = c' := by
  have := spot_keyed.inj (spot_key h.1 h.2) (e ▸ spot_key h'.1 h'.2)
  simp only [Value.agg.injEq] at this
  have h1 := congrArg (fun a => a[0]?) this
  have h2 := congrArg (fun a => a[1]?) this
  simp at h1 h2
  exact ⟨h1, Wb.S_inj h2⟩
/-- the lines that have come so far: those of the keys that are not left -/
structure SoFar (f : Int → List UInt8 → Int) (left : Lit → Bool) (r : List Wb.Ln) : Prop where
  ok : ∀ x ∈ r, KeyOk x.part x.code ∧ x.cents = f x.part x.code ∧ x.cents ≠ 0
  none : ∀ x ∈ r, left (kSpot x.part x.code) = false
  all : ∀ p c, KeyOk p c → left (kSpot p c) = false → f p c ≠ 0 → ∃ x ∈ r, x.part = p ∧ x.code = c
  one : r.Pairwise fun a b => ¬ (a.part = b.part ∧ a.code = b.code)
theorem lval_perm {a b : List Wb.Ln} (h : a.Perm b) (p : Int) (c : List UInt8) : Wb.lval p c a = Wb.lval p c b := by
  induction h with
  | nil => rfl
  | cons x _ ih => rw [Wb.lval, Wb.lval, ih]
  | swap x y l => simp only [Wb.lval]; omega
  | trans _ _ ih1 ih2 => rw [ih1, ih2]
theorem lval_one {r : List Wb.Ln} (h : r.Pairwise fun a b => ¬ (a.part = b.part ∧ a.code = b.code)) {x : Wb.Ln} (hx : x ∈ r) : Wb.lval x.part x.code r = x.cents := by
  induction r with
  | nil => cases hx
  | cons z r ih =>
    obtain ⟨h1, h2⟩ := List.pairwise_cons.1 h
    rcases List.mem_cons.1 hx with rfl | hx
    · rw [Wb.lval, if_pos ⟨rfl, rfl⟩, Wb.lval_none fun y hy e => h1 y hy ⟨e.1.symm, e.2.symm⟩]; omega
    · rw [Wb.lval, if_neg (h1 x hx), ih h2 hx]; omega
/-- in the end: sorted, they rise, and have what the map has -/
theorem so_end {f : Int → List UInt8 → Int} {left : Lit → Bool} {r s : List Wb.Ln} (h : SoFar f left r) (hl : ∀ k, left k = false) (hf : ∀ p c, f p c ≠ 0 → KeyOk p c) (hp : s.Perm r) (hs : s.Pairwise fun a b => Wb.lnLt b a = false) :
    Wb.Rise s ∧ Wb.NonZ s ∧ ∀ p c, Wb.lval p c s = f p c := by
  have hone : s.Pairwise fun a b => ¬ (a.part = b.part ∧ a.code = b.code) := (hp.pairwise_iff (fun {_ _} hab e => hab ⟨e.1.symm, e.2.symm⟩)).2 h.one
  refine ⟨?_, fun x hx => (h.ok x (hp.mem_iff.1 hx)).2.2, fun p c => ?_⟩
  · unfold Wb.Rise
    refine (hs.and hone).imp fun {a b} hab => ?_
    rcases hlt : Wb.lnLt a b with _ | _
    · exact absurd (Wb.lnLt_total hlt hab.1) hab.2
    · rfl
  · rw [lval_perm hp]
    by_cases hz : f p c = 0
    · rw [hz]
      by_cases hm : ∃ x ∈ r, x.part = p ∧ x.code = c
      · obtain ⟨x, hx, rfl, rfl⟩ := hm
        have := h.ok x hx
        rw [hz] at this
        exact absurd this.2.1 this.2.2
      · exact Wb.lval_none fun x hx e => hm ⟨x, hx, e⟩
    · obtain ⟨x, hx, rfl, rfl⟩ := h.all p c (hf p c hz) (hl _) hz
      rw [lval_one h.one hx]; exact (h.ok x hx).2.1
theorem strike_self (kl : Lit) (hk : WideAt.IsKeyLit kl) : kl.sameKey kl = true := WideAt.sameKey_self hk
theorem so_same {f : Int → List UInt8 → Int} {left : Lit → Bool} {r : List Wb.Ln} (h : SoFar f left r) {p : Int} {c : List UInt8} (hk : KeyOk p c) (hz : f p c = 0) : SoFar f (fun z => left z && !z.sameKey (kSpot p c)) r := by
  refine ⟨h.ok, fun x hx => by rw [h.none x hx]; rfl, fun q d hq hl hn => ?_, h.one⟩
  rcases hlq : left (kSpot q d) with _ | _
  · exact h.all q d hq hlq hn
  · rw [hlq, Bool.true_and, Bool.not_eq_false'] at hl
    by_cases e : kSpot q d = kSpot p c
    · obtain ⟨rfl, rfl⟩ := kSpot_inj hq hk e
      exact absurd hz hn
    · rw [Maps.sameKey_ne e] at hl; cases hl
theorem so_more {f : Int → List UInt8 → Int} {left : Lit → Bool} {r : List Wb.Ln} (h : SoFar f left r) {p : Int} {c : List UInt8} (hk : KeyOk p c) (hl : left (kSpot p c) = true) (hz : f p c ≠ 0) : SoFar f (fun z => left z && !z.sameKey (kSpot p c)) (r ++ [⟨p, c, f p c⟩]) := by
  have hself : (kSpot p c).sameKey (kSpot p c) = true := strike_self _ (spot_keyed.key (spot_key hk.1 hk.2))
  refine ⟨fun x hx => ?_, fun x hx => ?_, fun q d hq hlq hn => ?_, List.pairwise_append.2 ⟨h.one, List.pairwise_singleton _ _, fun x hx y hy e => ?_⟩⟩
  · rcases List.mem_append.1 hx with q | q
    · exact h.ok x q
    · simp at q; subst q; exact ⟨hk, rfl, hz⟩
  · rcases List.mem_append.1 hx with q | q
    · rw [h.none x q]; rfl
    · simp at q; subst q; simp [hself]
  · rcases hb : left (kSpot q d) with _ | _
    · obtain ⟨x, hx, e⟩ := h.all q d hq hb hn
      exact ⟨x, List.mem_append_left _ hx, e⟩
    · rw [hb, Bool.true_and, Bool.not_eq_false'] at hlq
      by_cases e : kSpot q d = kSpot p c
      · obtain ⟨rfl, rfl⟩ := kSpot_inj hq hk e
        exact ⟨⟨q, d, f q d⟩, List.mem_append_right _ (by simp), rfl, rfl⟩
      · rw [Maps.sameKey_ne e] at hlq; cases hlq
  · simp at hy; subst hy
    have := h.none x hx
    simp only at e
    rw [e.1, e.2, hl] at this; cases this

theorem row_mono {w : World} {base base' e s n : Nat} {v : Value} {xs : List Value} (h : w.ownsRow base e s v n xs) (hb : base' ≤ base) : w.ownsRow base' e s v n xs := by
  obtain ⟨h1, h2 | ⟨g, cap, cur, hv, hg, rest⟩⟩ := h
  · exact ⟨h1, .inl h2⟩
  · exact ⟨h1, .inr ⟨g, cap, cur, hv, Nat.le_trans hb hg, rest⟩⟩
theorem infoLn : (Try.prog.info? 44).map (fun i => (i.zero, i.size, i.bytes)) = some (some (.agg #[.int .i64 0, .string "".toUTF8, .int .i64 0]), 3, 32) := by kernel_rfl
/-- what delta.lines yields -/
structure IsLines (w w' : World) (f : Int → List UInt8 → Int) (v : Value) (r : List Wb.Ln) : Prop where
  rise : Wb.Rise r
  nonz : Wb.NonZ r
  val : ∀ p c, Wb.lval p c r = f p c
  row : w'.ownsRow w.heap.size 44 3 v r.length (rowsOf lnc r)
  ext : Wb.Ext w w'

set_option maxHeartbeats 4000000 in
theorem lines_any (b n : Nat) (f : Int → List UInt8 → Int) (w : World) (hm : MapIs w b n f) (hf : ∀ p c, f p c ≠ 0 → KeyOk p c) (_ : n ≤ 100000) (hcnt : ∀ r : List Wb.Ln, (∀ x ∈ r, KeyOk x.part x.code ∧ x.cents = f x.part x.code ∧ x.cents ≠ 0) → (r.Pairwise fun a b => ¬ (a.part = b.part ∧ a.code = b.code)) → r.length ≤ 100000) :
    Calls Try.prog 32 #[.map (some b)] w fun e w' => ∃ v, e = .returned v ∧ ∃ r, IsLines w w' f v r := by
  obtain ⟨i0, hi, hz0, hz1, hz2⟩ := info_parts infoLn
  have HIN := Lib.hid (show Try.prog.info? 44 = some i0 ∧ i0.zero = some (.agg #[.int .i64 0, .string "".toUTF8, .int .i64 0]) ∧ i0.size = 3 ∧ i0.bytes = 32 from ⟨hi, hz0, hz1, hz2⟩)
  clear hi hz0 hz1 hz2
  obtain ⟨D, hown, hD⟩ := hm
  have HD := Lib.hid hD
  have HF := Lib.hid hf
  have HCNT := Lib.hid hcnt
  have hblt := hown.lt
  clear hD hf hcnt
  go_enter Try.func32, Try.ntmps32
  go_wp2_with (first
    | (at_range; refine wpList_range_own _ rfl _ 55 rfl 57 34 spot_keyed Try.underlying55 RH b n D rfl hown ?_; intro w0 hrg0 hg0 hs0)
    | go_in)
  have HX0 := Lib.hid (show Wb.Ext w w0 from Wb.Ext.grown (.refl _) hg0 (fun k hk => by cases hk))
  have HRG0 := Lib.hid hrg0
  have hlt0 : w.heap.size + 1 ≤ w0.heap.size := by omega
  clear hown hrg0 hg0 hs0
  go_frame
  have HS0 := Lib.hid (show SoFar f (Maps.has D) [] from ⟨(fun x hx => by cases hx), (fun x hx => by cases hx), fun p c hk hl hne => absurd (by
    have h1 := HD.out p c hk
    rw [Maps.atKey_of_not_has hl] at h1
    simpa using h1.symm) hne, List.Pairwise.nil⟩)
  go_loopw [3] (fun ov wr => ∃ (left : Lit → Bool) (cnt : Nat) (r : List Wb.Ln), wr.ranges Try.prog 57 RH b w.heap.size n D left cnt ∧ Hid (SoFar f left r) ∧ wr.ownsRow w0.heap.size 44 3 ov r.length (rowsOf lnc r) ∧ Hid (Wb.Ext w wr) ∧ w0.heap.size ≤ wr.heap.size) (fun _ wr => wr.rangeLeft b w.heap.size)
  case atStart => exact ⟨_, _, [], HRG0.out, HS0, own_none, HX0, Nat.le_refl _⟩
  case round =>
    obtain ⟨left, cnt, r, hrg, HSO, hrow, HXR, hszr⟩ := hrel
    obtain ⟨oa, oc, rfl⟩ := row_shape hrow
    have hrl : r.length ≤ 100000 := HCNT.out r HSO.out.ok HSO.out.one
    have HROW := Lib.hid hrow
    have HRG := Lib.hid hrg
    clear hrow
    go_wp2_with (first
      | (at_next; refine wpList_next_ranges (α := Int × List UInt8) (β := Value) _ rfl _ rfl 57 spot_keyed RH (fun x => .agg #[.int .i64 x.1, .string (Wb.S x.2)]) id (fun key kl hkey => by obtain ⟨p, c, rfl, _⟩ := spot_inv hkey; exact ⟨(p, c), rfl⟩) (fun v y hv => ⟨v, rfl⟩) b w.heap.size n _ _ _ rfl hrg ?_ ?_)
      | go_in)
    · intro _ hl0
      have HL0 := Lib.hid hl0
      clear hl0 hrg
      go_wp2_with fail
      go_fit (sortl_any w0.heap.size _ r wr HROW.out (by omega)); rintro e w3 ⟨rfl, r2, hp, hs, ho, hg⟩
      have hx3 : Wb.Ext w w3 := HXR.out.grown hg (fun k hk => by have := (HROW.out.lt k hk).1; omega)
      obtain ⟨e1, e2, e3⟩ := so_end HSO.out HL0.out HF.out hp hs
      have hln : r2.length = r.length := hp.length_eq
      have HRES := Lib.hid (show IsLines w w3 f (.slice oa r.length oc) r2 from ⟨e1, e2, e3, by rw [hln]; exact row_mono ho (by omega), hx3⟩)
      clear hp hs ho hg hx3 e1 e2 e3 hln
      go_wp2
      go_ret
      exact ⟨_, rfl, r2, HRES.out⟩
    · intro p c cv kl yd yp w1 cnt1 hkx hlx hry hat hrg1 hlt hg1 hs1 hen
      obtain ⟨p', c', e1, e2, hp', hc'⟩ := spot_inv hkx
      simp only [Value.agg.injEq] at e1
      have q1 := congrArg (fun a => a[0]?) e1
      have q2 := congrArg (fun a => a[1]?) e1
      simp at q1 q2
      obtain rfl := q1
      have hcc := Wb.S_inj q2
      subst hcc
      subst e2
      have hko : KeyOk p c := ⟨hp', hc'⟩
      have hcv : cv = .int .i64 (f p c) := by
        have h1 := hat (.held (.int .i64 0))
        rw [HD.out p c hko] at h1
        have h2 := RH_val hry
        (try simp only at h1)
        rw [h2] at h1
        simp only [DataW.held.injEq] at h1
        exact h1.symm
      subst hcv
      have HKO := Lib.hid hko
      have HLX := Lib.hid hlx
      have HX1 := Lib.hid (show Wb.Ext w w1 from HXR.out.grown hg1 (fun k hk => by cases hk; exact Nat.le_refl _))
      have HROW1 := Lib.hid (HROW.out.kept hg1 (by
        rcases hb : (Value.slice oa r.length oc).ownBlock with _ | k
        · exact .inl rfl
        · exact .inr (fun e => by have := (HROW.out.lt k hb).1; injection e with e; omega)))
      have HRG1 := Lib.hid hrg1
      have hsz1 : wr.heap.size ≤ w1.heap.size := Nat.le_of_eq hs1.symm
      obtain ⟨m, hmf⟩ : ∃ m, f p c = m := ⟨_, rfl⟩
      have HMF := Lib.hid hmf
      rw [hmf] at hen ⊢
      clear hko hlx hg1 hrg1 hrg hat hry hkx hp' hc' e1 q2 hmf hs1
      (try simp only [id] at hen)
      by_cases hz : m = 0
      · subst hz
        have HN := Lib.hid (so_same HSO.out HKO.out HMF.out)
        go_wp2
        go_roundw
        case rel => exact ⟨_, cnt1, r, (HRG1.out.alloc _), HN, HROW1.out.alloc _, Lib.hid (HX1.out.alloc _), by simp; omega⟩
        case measure => rw [(HRG1.out.alloc _).left_eq, HRG.out.left_eq]; exact hlt
      · have d : (m == 0) = false := by simpa using hz
        have d2 : (m != 0) = true := by simpa using hz
        have HN := Lib.hid (so_more HSO.out HKO.out HLX.out (by rw [HMF.out]; exact hz))
        clear hz
        obtain ⟨hi, hz0, hz1, hz2⟩ := HIN.out
        go_wp2_with (at_builtin; go_loud (refine Wb.wpList_append_row rfl (.tmp 15) (.tmp 22) 22 rfl w0.heap.size 44 i0 (.agg #[.int .i64 0, .string "".toUTF8, .int .i64 0]) 3 32 Try.underlying22 hi hz0 hz1 hz2 rfl (by decide) _ _ _ rfl ((HROW1.out.alloc _).alloc _) _ rfl 1 (lnc ⟨p, c, m⟩) ?c1 ?c2 ?c3 ?c4 ?c5 ?_))
        case c1 => exact src_lit _ _ (by simp) (lnc ⟨p, c, m⟩) _ _
        case c2 => intro u hu; simp [lnc] at hu; rcases hu with rfl | rfl | rfl <;> rfl
        case c3 => unfold maxLen; omega
        case c4 => omega
        case c5 => simp; omega
        intro u2 w6 hown2 hg2 hnil2
        have hrb : ∀ k, (Value.slice oa r.length oc).ownBlock = some k → w0.heap.size ≤ k := fun k hk => (HROW1.out.lt k hk).1
        have HX6 := Lib.hid (show Wb.Ext w w6 from ((HX1.out.alloc _).alloc _).grown hg2 (fun k hk => by have := hrb k hk; omega))
        have HO := Lib.hid hown2
        have HRG6 := Lib.hid (((HRG1.out.alloc _).alloc _).kept hg2 (fun e => by have := hrb b e.symm; omega) (fun e => by have := hrb w.heap.size e.symm; omega))
        have hs6 : w0.heap.size ≤ w6.heap.size := by have := hg2.size; simp at this; omega
        clear hi hz0 hz1 hz2 hg2 hown2 hnil2
        go_wp2
        go_roundw
        case rel => exact ⟨_, cnt1, _, HRG6.out, HN, by rw [HMF.out, List.length_append, rowsOf_app, rowsOf_one]; exact HO.out, HX6, hs6⟩
        case measure => rw [HRG6.out.left_eq, HRG.out.left_eq]; exact hlt

end Go.Proofs.Ytdfmlgjemfcmlaa
