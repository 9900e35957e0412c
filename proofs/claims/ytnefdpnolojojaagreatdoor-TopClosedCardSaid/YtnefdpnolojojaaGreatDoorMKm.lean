/- MKm -/
import Derived.Test.YtnefdpnolojojaaGreatDoorMMa
import Derived.Laws.IdiomRangeMap
import Derived.RangeFuncGives
import Derived.Sort.MapsRangeIn
import Derived.Maps.AppendAt
import Derived.WalkKit
import Derived.OwnWalkIn
import Derived.TacticsInMore
import Derived.RegionIn
import Derived.LoopNIn
import Derived.LoopIn
import Derived.Test.YtnefdpnolojojaaGreatDoorMTb
import Derived.Deep.AppendLies
namespace Go.Proofs.YtnefdpnolojojaaGreatDoor
open Go.RowKit Go.Maps
set_option maxRecDepth 8000
structure KeyK (κ : Type) where
  t : TypeId
  v : κ → Value
  l : κ → Lit
  ok : κ → Prop
  keyed : Keyed Tryz.prog t
  key : ∀ {p}, ok p → keyOf Tryz.prog t (v p) = some (l p)
  inv : ∀ {x kl}, keyOf Tryz.prog t x = some kl → ∃ p, ok p ∧ x = v p ∧ kl = l p
  injv : ∀ {p q}, ok p → ok q → v p = v q → p = q
section
variable {κ : Type} {K : KeyK κ}
theorem KeyK.inj {p q : κ} (hp : K.ok p) (hq : K.ok q) (e : K.l p = K.l q) : p = q := K.injv hp hq (K.keyed.inj (K.key hp) (e ▸ K.key hq))
def KMap (K : KeyK κ) (w : World) (b n : Nat) (z : Value) (f : κ → Option Value) : Prop := ∃ D, w.ownsMap Tryz.prog K.t RH b n D ∧ ∀ p, K.ok p → D.atKey (K.l p) (.held z) = .held ((f p).getD z) ∧ Maps.has D (K.l p) = (f p).isSome
def KMapO (K : KeyK κ) (w : World) (mb : Option Nat) (n : Nat) (z : Value) (f : κ → Option Value) : Prop := match mb with
  | none => ∀ p, f p = none
  | some b => KMap K w b n z f
theorem KMap.lt {w : World} {b n : Nat} {z : Value} {f : κ → Option Value} (h : KMap K w b n z f) : b < w.heap.size := by
  obtain ⟨D, h1, _⟩ := h; exact h1.lt
theorem KMap.kept {w w' : World} {b n : Nat} {z : Value} {f : κ → Option Value} {row : Option Nat} (h : KMap K w b n z f) (hg : w.grownBy w' row) (hne : some b ≠ row) : KMap K w' b n z f := by
  obtain ⟨D, h1, h2⟩ := h
  exact ⟨D, h1.kept hg hne, h2⟩
theorem ext_grown' {w w' : World} (h : Wb.Ext w w') : w.grownBy w' none := ⟨h.os, h.tape, h.output, h.size, fun k hk _ => h.block k hk⟩
theorem KMap.ext {w w' : World} {b n : Nat} {z : Value} {f : κ → Option Value} (h : KMap K w b n z f) (k : Wb.Ext w w') : KMap K w' b n z f := h.kept (ext_grown' k) (by simp)
theorem KMap.mono {w : World} {b n m : Nat} {z : Value} {f : κ → Option Value} (h : KMap K w b n z f) (k : n ≤ m) : KMap K w b m z f := by
  obtain ⟨D, h1, h2⟩ := h
  exact ⟨D, h1.mono k, h2⟩
theorem KMapO.kept {w w' : World} {mb : Option Nat} {n : Nat} {z : Value} {f : κ → Option Value} {row : Option Nat} (h : KMapO K w mb n z f) (hg : w.grownBy w' row) (hne : ∀ b, mb = some b → some b ≠ row) : KMapO K w' mb n z f := by
  cases mb with
  | none => exact h
  | some b => exact KMap.kept h hg (hne b rfl)
theorem KMapO.ext {w w' : World} {mb : Option Nat} {n : Nat} {z : Value} {f : κ → Option Value} (h : KMapO K w mb n z f) (k : Wb.Ext w w') : KMapO K w' mb n z f := h.kept (ext_grown' k) (by simp)
theorem KMapO.mono {w : World} {mb : Option Nat} {n m : Nat} {z : Value} {f : κ → Option Value} (h : KMapO K w mb n z f) (k : n ≤ m) : KMapO K w mb m z f := by
  cases mb with
  | none => exact h
  | some b => exact KMap.mono h k
theorem KMapO.lt {w : World} {mb : Option Nat} {n : Nat} {z : Value} {f : κ → Option Value} (h : KMapO K w mb n z f) : ∀ b, mb = some b → b < w.heap.size := by
  rintro b rfl; exact KMap.lt h
theorem KMap.opt {w : World} {b n : Nat} {z : Value} {f : κ → Option Value} (h : KMap K w b n z f) : KMapO K w (some b) n z f := h
theorem kmap_made (K : KeyK κ) (w : World) (z : Value) (b : Nat) (hb : b = w.heap.size) : KMap K (w.alloc (.map #[] 0)) b 0 z (fun _ => none) := by
  subst hb
  exact ⟨_, World.ownsMap_made w _ _ _, fun p hp => ⟨rfl, rfl⟩⟩
theorem KMap.fin {w : World} {b n : Nat} {z : Value} {f : κ → Option Value} (h : KMap K w b n z f) : ∃ c : Nat, c ≤ n ∧ ∀ {t e : TypeId} (_ : Tryz.prog.underlying t = some (.map K.t e)) (ty : TypeId), (Builtin.len_ #[t] ty #[.map (some b)]).run Tryz.prog w = .ok (.int .i64 c) w := by
  obtain ⟨D, h1, _⟩ := h
  exact ⟨Maps.size D, h1.size_le, fun ht ty => h1.len ht ty⟩
theorem KMapO.fin {w : World} {mb : Option Nat} {n : Nat} {z : Value} {f : κ → Option Value} (h : KMapO K w mb n z f) : ∃ c : Nat, c ≤ n ∧ ∀ {t e : TypeId} (_ : Tryz.prog.underlying t = some (.map K.t e)) (ty : TypeId), (Builtin.len_ #[t] ty #[.map mb]).run Tryz.prog w = .ok (.int .i64 c) w := by
  cases mb with
  | none => exact ⟨0, Nat.zero_le _, fun ht ty => Maps.len_nil ht ty⟩
  | some b => exact KMap.fin h
theorem KMap.update [DecidableEq κ] {t e : TypeId} {w : World} {b n : Nat} {z : Value} {f : κ → Option Value} (h : KMap K w b n z f) (ht : Tryz.prog.underlying t = some (.map K.t e)) (hn : n < maxLen) {p : κ} (hp : K.ok p) (v : Value) :
    ∃ w', (Instr.mapUpdate t (.map (some b)) (K.v p) v).run Tryz.prog w = .ok () w' ∧ KMap K w' b (n + 1) z (fun q => if p = q then some v else f q) ∧ w.grownBy w' (some b) := by
  obtain ⟨D, h1, h2⟩ := h
  have hm : IsMap D := by obtain ⟨es, clock, _, _, _, rfl⟩ := h1; exact ⟨_, rfl⟩
  obtain ⟨w', hrun, hown, hg⟩ := h1.update K.keyed ht hn (K.key hp) (rfl : RH v = some (.held v, []))
  refine ⟨w', hrun, ⟨_, hown, fun q hq => ?_⟩, hg⟩
  by_cases e : p = q
  · subst e
    have he : (if p = p then some v else f p) = some v := if_pos rfl
    show _ = DataW.held ((if p = p then some v else f p).getD z) ∧ _ = (if p = p then some v else f p).isSome
    rw [he]
    exact ⟨Maps.atKey_put_same hm (K.keyed.key (K.key hp)) _ _, Maps.has_put_same hm (K.keyed.key (K.key hp)) _⟩
  · have hne : K.l q ≠ K.l p := fun h => e (K.inj hq hp h).symm
    have he : (if p = q then some v else f q) = f q := if_neg e
    show _ = DataW.held ((if p = q then some v else f q).getD z) ∧ _ = (if p = q then some v else f q).isSome
    rw [he, Maps.atKey_put_other hne, Maps.has_put_other hne]
    exact h2 q hq
theorem KMapO.look {t e : TypeId} {w : World} {mb : Option Nat} {n : Nat} {z : Value} {f : κ → Option Value} (h : KMapO K w mb n z f) (ht : Tryz.prog.underlying t = some (.map K.t e)) (hz : ∀ u : World, (zeroValue e).run Tryz.prog u = .ok z u) {p : κ} (hp : K.ok p) :
    (Instr.lookup t (.map mb) (K.v p) false).run Tryz.prog w = .ok ((f p).getD z) w := by
  cases mb with
  | none => rw [show f p = none from h p]; exact Maps.look_nil false K.keyed ht (hz w) (K.key hp)
  | some b =>
    obtain ⟨D, h1, h2⟩ := h
    obtain ⟨x, ps, hr, hx⟩ := h1.lookup K.keyed ht (hz w) (rfl : RH z = some (.held z, [])) (K.key hp)
    rw [(h2 p hp).1] at hx
    rw [RH_held hx] at hr
    exact hr
structure KRng (K : KeyK κ) (w : World) (mb : Option Nat) (X n : Nat) (z : Value) (f : κ → Option Value) (r : List κ) (cnt : Nat) : Prop where
  one : r.Nodup
  ok : ∀ p ∈ r, K.ok p ∧ (f p).isSome = true
  at_ : match mb with
    | none => (∀ p, f p = none) ∧ w.heap[X]? = some (.mapIter none 0 #[] 0) ∧ cnt = 0
    | some b => ∃ D left, (∀ p, K.ok p → D.atKey (K.l p) (.held z) = .held ((f p).getD z) ∧ Maps.has D (K.l p) = (f p).isSome) ∧ w.ranges Tryz.prog K.t RH b X n D left cnt ∧ (∀ p ∈ r, left (K.l p) = false) ∧ (∀ p, K.ok p → (f p).isSome = true → left (K.l p) = false → p ∈ r)
theorem KRng.lt {w : World} {mb : Option Nat} {X n cnt : Nat} {z : Value} {f : κ → Option Value} {r : List κ} (h : KRng K w mb X n z f r cnt) : X < w.heap.size := by
  cases mb with
  | none => exact (Array.getElem?_eq_some_iff.1 h.at_.2.1).1
  | some b =>
    obtain ⟨D, left, _, h1, _⟩ := h.at_
    exact h1.lt
theorem KRng.walk {w : World} {mb : Option Nat} {X n cnt : Nat} {z : Value} {f : κ → Option Value} {r : List κ} (h : KRng K w mb X n z f r cnt) : ∃ o : Obj, w.heap[X]? = some o ∧ o.isWalk = true := by
  cases mb with
  | none => exact ⟨_, h.at_.2.1, rfl⟩
  | some b =>
    obtain ⟨D, left, _, h1, _⟩ := h.at_
    exact h1.iter_walk
theorem KRng.kept {w w' : World} {mb : Option Nat} {X n cnt : Nat} {z : Value} {f : κ → Option Value} {r : List κ} {row : Option Nat} (h : KRng K w mb X n z f r cnt) (hg : w.grownBy w' row) (hb : ∀ b, mb = some b → some b ≠ row) (hX : some X ≠ row) : KRng K w' mb X n z f r cnt := by
  have hlt := h.lt
  refine ⟨h.one, h.ok, ?_⟩
  cases mb with
  | none => exact ⟨h.at_.1, (hg.block X hlt hX).trans h.at_.2.1, h.at_.2.2⟩
  | some b =>
    obtain ⟨D, left, h0, h1, h2⟩ := h.at_
    exact ⟨D, left, h0, h1.kept hg (hb b rfl) hX, h2⟩
theorem KRng.ext {w w' : World} {mb : Option Nat} {X n cnt : Nat} {z : Value} {f : κ → Option Value} {r : List κ} (h : KRng K w mb X n z f r cnt) (k : Wb.Ext w w') : KRng K w' mb X n z f r cnt := h.kept (ext_grown' k) (by simp) (by simp)
def kLeft (mb : Option Nat) (X : Nat) (w : World) : Nat := match mb with
  | none => 0
  | some b => w.rangeLeft b X
theorem KRng.left {w : World} {mb : Option Nat} {X n cnt : Nat} {z : Value} {f : κ → Option Value} {r : List κ} (h : KRng K w mb X n z f r cnt) : kLeft mb X w = cnt := by
  cases mb with
  | none => exact h.at_.2.2.symm
  | some b =>
    obtain ⟨D, left, _, h1, _⟩ := h.at_
    exact h1.left_eq
theorem KRng.walks {w w' : World} {mb : Option Nat} {X n cnt : Nat} {z : Value} {f : κ → Option Value} {r : List κ} (h : KRng K w mb X n z f r cnt) (k : KeepsWalks w w') : KRng K w' mb X n z f r cnt := by
  refine ⟨h.one, h.ok, ?_⟩
  cases mb with
  | none => exact ⟨h.at_.1, k.same X _ h.at_.2.1 rfl, h.at_.2.2⟩
  | some b =>
    obtain ⟨D, left, h0, h1, h2⟩ := h.at_
    exact ⟨D, left, h0, h1.of_walks k, h2⟩
theorem KRng.hold {w : World} {mb : Option Nat} {X n cnt : Nat} {z : Value} {f : κ → Option Value} {r : List κ} (h : KRng K w mb X n z f r cnt) : KMapO K w mb n z f := by
  cases mb with
  | none => exact h.at_.1
  | some b =>
    obtain ⟨D, left, h0, ⟨es, clock, since, seen, c0, hb, F, hs, hD, _⟩, _⟩ := h.at_
    exact ⟨D, ⟨es, clock, hb, F, hs, hD⟩, h0⟩
theorem KMapO.range {t e : TypeId} {w : World} {mb : Option Nat} {n : Nat} {z : Value} {f : κ → Option Value} (h : KMapO K w mb n z f) (ht : Tryz.prog.underlying t = some (.map K.t e)) :
    ∃ w' cnt, (Instr.range t (.map mb)).run Tryz.prog w = .ok (.pointer (some ⟨w.heap.size, 0, none⟩)) w' ∧ KRng K w' mb w.heap.size n z f [] cnt ∧ cnt ≤ n ∧ w.grownBy w' none ∧ w'.heap.size = w.heap.size + 1 := by
  cases mb with
  | none =>
    refine ⟨_, 0, run_range_nilMap w t K.t e ht, ⟨List.nodup_nil, (fun p hp => by cases hp), h, ?_, rfl⟩, Nat.zero_le _, World.grownBy_alloc w _ none, by simp⟩
    exact World.alloc_heap_new w _
  | some b =>
    obtain ⟨D, h1, h2⟩ := h
    obtain ⟨w', hrun, r1, r2, r3⟩ := h1.range K.keyed ht
    exact ⟨w', _, hrun, ⟨List.nodup_nil, (fun p hp => by cases hp), D, _, h2, r1, (fun p hp => by cases hp), fun p hp hf hl => by rw [(h2 p hp).2, hf] at hl; cases hl⟩, h1.size_le, r2, r3⟩
theorem KRng.next {w : World} {mb : Option Nat} {X n cnt : Nat} {z : Value} {f : κ → Option Value} {r : List κ} (h : KRng K w mb X n z f r cnt) (ty : TypeId) :
    ((∀ p, K.ok p → (f p).isSome = true → p ∈ r) ∧ (Instr.next (.pointer (some ⟨X, 0, none⟩)) false ty).run Tryz.prog w = .ok (.tuple #[.bool false]) w) ∨
    ∃ p v w' cnt', K.ok p ∧ f p = some v ∧ p ∉ r ∧ (Instr.next (.pointer (some ⟨X, 0, none⟩)) false ty).run Tryz.prog w = .ok (.tuple #[.bool true, K.v p, v]) w' ∧ KRng K w' mb X n z f (r ++ [p]) cnt' ∧ cnt' < cnt ∧ w.grownBy w' (some X) ∧ w'.heap.size = w.heap.size ∧
      (Instr.entry (.pointer (some ⟨X, 0, none⟩))).run Tryz.prog w' = .ok (.tuple #[K.v p, v]) w' := by
  cases mb with
  | none =>
    refine .inl ⟨fun p _ hf => (by rw [h.at_.1 p] at hf; cases hf), ?_⟩
    have := h.at_.2.1
    simp only [Instr.next, getObj, Sem.run_bind, Sem.run, this, Result.andThen]
    rfl
  | some b =>
    obtain ⟨D, left, h0, h1, h2, h3⟩ := h.at_
    rcases h1.next K.keyed ty with ⟨_, hl, hrun⟩ | ⟨key, v, kl, y, w', cnt', hkey, hlk, hv, hat, hrun, hrg, hlt, hgr, hsz, hen⟩
    · exact .inl ⟨fun p hp hf => h3 p hp hf (hl _), hrun⟩
    · obtain ⟨p, hp, rfl, rfl⟩ := K.inv hkey
      have hy : y.1 = .held v := by
        rcases y with ⟨y1, y2⟩
        exact RH_val hv
      have hf : f p = some v := by
        have hs : (f p).isSome = true := by rw [← (h0 p hp).2]; exact Maps.has_true_of_atKey hat
        have h4 := (h0 p hp).1
        rw [hat, hy] at h4
        injection h4 with h4
        obtain ⟨u, hu⟩ := Option.isSome_iff_exists.1 hs
        rw [hu] at h4 ⊢
        simp at h4; rw [h4]
      have hnr : p ∉ r := fun hr => by rw [h2 p hr] at hlk; cases hlk
      have hself : (K.l p).sameKey (K.l p) = true := WideAt.sameKey_self (K.keyed.key (K.key hp))
      refine .inr ⟨p, v, w', cnt', hp, hf, hnr, hrun, ⟨?_, ?_, D, _, h0, hrg, ?_, ?_⟩, hlt, hgr, hsz, hen⟩
      · exact List.nodup_append.2 ⟨h.one, by simp, fun a ha b hb e => by simp at hb; subst hb; subst e; exact hnr ha⟩
      · intro q hq
        rcases List.mem_append.1 hq with hq | hq
        · exact h.ok q hq
        · simp at hq; subst hq; exact ⟨hp, by rw [hf]; rfl⟩
      · intro q hq
        rcases List.mem_append.1 hq with hq | hq
        · rw [h2 q hq]; rfl
        · simp at hq; subst hq; rw [hself]; simp
      · intro q hq hqf hql
        rcases hb : left (K.l q) with _ | _
        · exact List.mem_append_left _ (h3 q hq hqf hb)
        · rw [hb, Bool.true_and, Bool.not_eq_false'] at hql
          by_cases e : K.l q = K.l p
          · exact List.mem_append_right _ (by simp [K.inj hq hp e])
          · rw [Maps.sameKey_ne e] at hql; cases hql
theorem wpList_range_km {w : World} {ops : Array Oper} {rest : List Oper} {o : Oper} {a : Act} {Q : Exit → Act → World → Prop} (hg : o.guard = none) (m : Operand) (t e : TypeId) (hop : o.op = Op.range t m) (ht : Tryz.prog.underlying t = some (.map K.t e))
    (mb : Option Nat) (n : Nat) (z : Value) (f : κ → Option Value) (hm : a.eval m = .map mb) (h : KMapO K w mb n z f)
    (hK : ∀ w' cnt, KRng K w' mb w.heap.size n z f [] cnt → cnt ≤ n → w.grownBy w' none → w'.heap.size = w.heap.size + 1 → wpList Tryz.prog ops Q rest (a.put o.dst (.pointer (some ⟨w.heap.size, 0, none⟩))) w') :
    wpList Tryz.prog ops Q (o :: rest) a w := by
  refine wpList_plain hg fun K' hK' => ?_
  obtain ⟨w', cnt, hrun, r1, r4, r2, r3⟩ := h.range ht
  unfold Oper.wp
  simp [execOp, hop, hm, hrun, Result.andThen]
  exact hK' _ _ (hK w' cnt r1 r4 r2 r3)
theorem wpList_next_km {w : World} {ops : Array Oper} {rest : List Oper} {o : Oper} {a : Act} {Q : Exit → Act → World → Prop} (hg : o.guard = none) (it : Operand) (hop : o.op = Op.next it false)
    {mb : Option Nat} {X n cnt : Nat} {z : Value} {f : κ → Option Value} {r : List κ} (hit : a.eval it = .pointer (some ⟨X, 0, none⟩)) (h : KRng K w mb X n z f r cnt)
    (hDone : (∀ p, K.ok p → (f p).isSome = true → p ∈ r) → wpList Tryz.prog ops Q rest (a.put o.dst (.tuple #[.bool false])) w)
    (hMore : ∀ p v w' cnt', K.ok p → f p = some v → p ∉ r → KRng K w' mb X n z f (r ++ [p]) cnt' → cnt' < cnt → w.grownBy w' (some X) → w'.heap.size = w.heap.size → (Instr.entry (.pointer (some ⟨X, 0, none⟩))).run Tryz.prog w' = .ok (.tuple #[K.v p, v]) w' → wpList Tryz.prog ops Q rest (a.put o.dst (.tuple #[.bool true, K.v p, v])) w') :
    wpList Tryz.prog ops Q (o :: rest) a w := by
  refine wpList_plain hg fun K' hK' => ?_
  unfold Oper.wp
  rcases h.next o.type with ⟨hd, hrun⟩ | ⟨p, v, w', cnt', hp, hf, hnr, hrun, hrg, hlt, hgr, hsz, hen⟩
  · simp [execOp, hop, hit, hrun, Result.andThen]
    exact hK' _ _ (hDone hd)
  · simp [execOp, hop, hit, hrun, Result.andThen]
    exact hK' _ _ (hMore p v w' cnt' hp hf hnr hrg hlt hgr hsz hen)
end
theorem keyOf_u32 {x : Value} {kl : Lit} (h : keyOf Tryz.prog 47 x = some kl) : ∃ p : Int, (Lit.int .u32 p).wf = true ∧ x = .int .u32 p ∧ kl = .int .u32 p := by
  obtain ⟨p, rfl, rfl, hp⟩ := Maps.keyOf_int_inv Tryz.underlying47 h
  exact ⟨p, hp, rfl, rfl⟩
def kU32 : KeyK Int where
  t := 47
  v := .int .u32
  l := .int .u32
  ok p := (Lit.int .u32 p).wf = true
  keyed := int_keyed Tryz.underlying47
  key hp := keyOf_int_mk Tryz.underlying47 hp
  inv h := keyOf_u32 h
  injv _ _ e := by injection e
theorem u32_ok {p : Int} (h : 0 ≤ p ∧ p < 4294967296) : kU32.ok p := by
  show (Lit.int .u32 p).wf = true
  simp [Lit.wf, IntKind.min, IntKind.max, IntKind.signed, IntKind.bits]
  omega
def PrOk' (p : Int × Int) : Prop := (Lit.int .i64 p.1).wf = true ∧ (Lit.int .i64 p.2).wf = true
def kPr : KeyK (Int × Int) where
  t := 131
  v p := .agg #[.int .i64 p.1, .int .i64 p.2]
  l p := kPair p.1 p.2
  ok := PrOk'
  keyed := pair_keyed
  key hp := pair_key hp.1 hp.2
  inv h := by
    obtain ⟨y, i, e1, e2, h1, h2⟩ := pair_inv h
    exact ⟨(y, i), ⟨h1, h2⟩, e1, e2⟩
  injv _ _ e := by
    simp only [Value.agg.injEq] at e
    have h1 := congrArg (fun a => a[0]?) e
    have h2 := congrArg (fun a => a[1]?) e
    simp at h1 h2
    exact Prod.ext h1 h2
end Go.Proofs.YtnefdpnolojojaaGreatDoor
namespace Go.Proofs.YtnefdpnolojojaaGreatDoor
open Go.RowKit Go.Maps
set_option maxRecDepth 8000
section
variable {κ : Type} {K : KeyK κ} {F : Fence} {N : Nat} {w : World} {ops : Array Oper} {rest : List Oper} {o : Oper} {a : Act} {Q : Exit → Act → World → Prop}
theorem wpListIn_range_km (hg : o.guard = none) (m : Operand) (t e : TypeId) (hop : o.op = Op.range t m) (ht : Tryz.prog.underlying t = some (.map K.t e))
    (mb : Option Nat) (n : Nat) (z : Value) (f : κ → Option Value) (hm : a.eval m = .map mb) (h : KMapO K w mb n z f)
    (hK : ∀ w' cnt, KRng K w' mb w.heap.size n z f [] cnt → cnt ≤ n → w.grownBy w' none → w'.heap.size = w.heap.size + 1 → wpListIn F N Tryz.prog ops Q rest (a.put o.dst (.pointer (some ⟨w.heap.size, 0, none⟩))) w') :
    wpListIn F N Tryz.prog ops Q (o :: rest) a w := by
  refine wpListIn_plain hg fun K' hK' => ?_
  obtain ⟨w', cnt, hrun, r1, r4, r2, r3⟩ := h.range ht
  unfold Oper.wpIn
  refine ⟨?_, ?_⟩
  · simp [Oper.about, hop]
  · rw [Oper.semAt_plain F _ _ (by rw [hop]; intro c hc'; cases hc')]
    simp [execOp, hop, hm, hrun, Result.andThen]
    exact hK' _ _ (hK w' cnt r1 r4 r2 r3)
theorem wpListIn_next_km (hg : o.guard = none) (it : Operand) (hop : o.op = Op.next it false)
    {mb : Option Nat} {X n cnt : Nat} {z : Value} {f : κ → Option Value} {r : List κ} (hit : a.eval it = .pointer (some ⟨X, 0, none⟩)) (h : KRng K w mb X n z f r cnt)
    (hDone : (∀ p, K.ok p → (f p).isSome = true → p ∈ r) → wpListIn F N Tryz.prog ops Q rest (a.put o.dst (.tuple #[.bool false])) w)
    (hMore : ∀ p v w' cnt', K.ok p → f p = some v → p ∉ r → KRng K w' mb X n z f (r ++ [p]) cnt' → cnt' < cnt → w.grownBy w' (some X) → w'.heap.size = w.heap.size → (Instr.entry (.pointer (some ⟨X, 0, none⟩))).run Tryz.prog w' = .ok (.tuple #[K.v p, v]) w' → wpListIn F N Tryz.prog ops Q rest (a.put o.dst (.tuple #[.bool true, K.v p, v])) w') :
    wpListIn F N Tryz.prog ops Q (o :: rest) a w := by
  refine wpListIn_plain hg fun K' hK' => ?_
  unfold Oper.wpIn
  refine ⟨by simp [Oper.about, hop], ?_⟩
  rw [Oper.semAt_plain F _ _ (by rw [hop]; intro c hc'; cases hc')]
  rcases h.next o.type with ⟨hd, hrun⟩ | ⟨p, v, w', cnt', hp, hf, hnr, hrun, hrg, hlt, hgr, hsz, hen⟩
  · simp [execOp, hop, hit, hrun, Result.andThen]
    exact hK' _ _ (hDone hd)
  · simp [execOp, hop, hit, hrun, Result.andThen]
    exact hK' _ _ (hMore p v w' cnt' hp hf hnr hrg hlt hgr hsz hen)
theorem row_abides {W W' : World} {row : Option Nat} {base : Nat} {e : TypeId} {size : Nat} {v : Value} {k : Nat} {xs : List Value} (h : W.ownsRow base e size v k xs) (hg : W.grownBy W' row)
    (hrow : ∀ r, row = some r → ∃ o : Obj, W.heap[r]? = some o ∧ o.isWalk = true) : W'.ownsRow base e size v k xs := by
  refine h.kept hg ?_
  rcases h.2 with ⟨rfl, _⟩ | ⟨g, cap, cur, rfl, _, hgb, _⟩
  · exact .inl rfl
  · refine .inr fun e' => ?_
    obtain ⟨o, ho, hw⟩ := hrow g (by simpa [Value.ownBlock] using e'.symm)
    rw [hgb] at ho; cases ho; cases hw
theorem put_grown (W : World) (l : Nat) (o : Obj) : W.grownBy (W.putObj l o) (some l) :=
  ⟨rfl, rfl, rfl, by simp, fun k _ hk => World.putObj_heap_other (fun e => hk (by rw [e]))⟩
theorem set_grown0 (W : World) (b : Nat) (v : Value) : W.grownBy (W.setCell ⟨b, 0, none⟩ v) (some b) :=
  ⟨rfl, rfl, rfl, (KeepsWalks.setCell W _ v).size, fun k _ hk => Below.heap_setCell _ _ _ k (fun e => hk (by rw [e]))⟩
theorem row_ne {W : World} {base : Nat} {e : TypeId} {size : Nat} {v : Value} {k : Nat} {xs : List Value} (h : W.ownsRow base e size v k xs) {j : Nat} {o : Obj} (hj : W.heap[j]? = some o) (hno : ∀ cur, o ≠ .cells cur e (0, 0)) :
    v.ownBlock = none ∨ v.ownBlock ≠ some j := by
  rcases h.2 with ⟨rfl, _⟩ | ⟨g, cap, cur, rfl, _, hgb, _⟩
  · exact .inl rfl
  · refine .inr fun e' => ?_
    have : g = j := by simpa [Value.ownBlock] using e'
    subst this; rw [hgb] at hj; cases hj; exact hno cur rfl
theorem box_cell {W : World} {B : Nat} {v : Value} {t : TypeId} (h : W.heap[B]? = some (.cells #[v] t (0, 0))) : W.cell? ⟨B, 0, none⟩ = some v ∧ W.frozen? ⟨B, 0, none⟩ = false := by
  constructor <;> simp [World.cell?, World.frozen?, h]
theorem set_box {W : World} {B : Nat} {v : Value} {t : TypeId} (v' : Value) (h : W.heap[B]? = some (.cells #[v] t (0, 0))) : (W.setCell ⟨B, 0, none⟩ v').heap[B]? = some (.cells #[v'] t (0, 0)) := by
  obtain ⟨hlt, hk⟩ := Array.getElem?_eq_some_iff.1 h
  show (W.heap.modify B _)[B]? = _
  rw [Array.getElem?_eq_getElem (by rw [Array.size_modify]; exact hlt), Array.getElem_modify_self, hk]
  rfl
theorem row_not_walk {W : World} {base : Nat} {e : TypeId} {size : Nat} {v : Value} {k : Nat} {xs : List Value} (h : W.ownsRow base e size v k xs) : ∀ (j : Nat) (o : Obj), v.ownBlock = some j → W.heap[j]? = some o → o.isWalk = false := by
  intro j o hj ho
  rcases h.2 with ⟨rfl, _⟩ | ⟨g, cap, cur, rfl, _, hgb, _⟩
  · simp [Value.ownBlock] at hj
  · have : g = j := by simpa [Value.ownBlock] using hj
    subst this; rw [hgb] at ho; cases ho; rfl
def KeysAre (K : KeyK κ) (f : κ → Option Value) (ss : List κ) : Prop := ss.Nodup ∧ ∀ p, p ∈ ss ↔ K.ok p ∧ (f p).isSome = true
end
end Go.Proofs.YtnefdpnolojojaaGreatDoor
namespace Go.Proofs.YtnefdpnolojojaaGreatDoor
open Go.RowKit
namespace Wb
theorem wp_append_row {P : Program} {w : World} {o : Oper} {a : Act} {K : Act → World → Prop} {Q : Exit → Act → World → Prop} (s x : Operand) (t : TypeId)
    (ho : o.op = .call { callee := .builtin .append, args := #[s, x], argTypes := #[t, t] })
    (base : Nat) (e : TypeId) (i : TypeInfo) (z : Value) (size bytes : Nat) (ht : P.underlying t = some (.slice e)) (hi : P.info? e = some i) (hz : i.zero = some z)
    (hsize : i.size = size) (hby : i.bytes = bytes) (hzs : z.cells.size = size) (hsz : 0 < size)
    (v : Value) (n : Nat) (xs : List Value) (hs : a.eval s = v) (hown : w.ownsRow base e size v n xs)
    (xv : Value) (hx : a.eval x = xv) (m : Nat) (news : List Value) (hsrc : SrcRow w size xv m news) (h1 : ∀ u ∈ news, u.oneCell' = true)
    (h63 : n + m ≤ maxLen) (hbytes : (n + m) * bytes ≤ 140737488355328) (hbase : base ≤ w.heap.size)
    (h : ∀ v' w', w'.ownsRow base e size v' (n + m) (xs ++ news) → w.grownBy w' v.ownBlock → (v'.ownBlock = v.ownBlock ∨ v'.ownBlock = some w.heap.size) → K (a.put o.dst v') w') : o.wp P a w K Q := by
  obtain ⟨hl, hsrc | ⟨ad, c, hv, hcells⟩⟩ := hsrc
  · obtain ⟨rfl, rfl⟩ := hsrc
    have hn : news = [] := by simpa using hl
    subst hn
    have hrun := run_append_owned_none (P := P) (w := w) base t o.type e i size ht hi v n xs hown
    unfold Oper.wp execOp
    simp only [ho, resolve, invoke, builtin, Sem.run_bind, Sem.run_pure, Result.andThen_ok, List.map_toArray, List.map_cons, List.map_nil, hs, hx, hrun]
    exact h v w (by simpa using hown) (grownBy_refl _ _) (.inl rfl)
  · subst hv
    obtain ⟨v', w', hr, h2, h3, _, h5⟩ := run_append_own_at (P := P) w base t o.type e i z size bytes ht hi hz hsize hby hzs hsz v n xs hown ad m c news hl hcells h1 h63 hbytes hbase
    unfold Oper.wp execOp
    simp only [ho, resolve, invoke, builtin, Sem.run_bind, Sem.run_pure, Result.andThen_ok, List.map_toArray, List.map_cons, List.map_nil, hs, hx, hr]
    exact h v' w' h2 h3 h5
theorem step_append_row {P : Program} {w : World} {ops : Array Oper} {o : Oper} {a : Act} {K : Act → World → Prop} {Q : Exit → Act → World → Prop} {E : Prop} (hgd : o.guard = none) (s x : Operand) (t : TypeId)
    (ho : o.op = .call { callee := .builtin .append, args := #[s, x], argTypes := #[t, t] })
    (base : Nat) (e : TypeId) (i : TypeInfo) (z : Value) (size bytes : Nat) (ht : P.underlying t = some (.slice e)) (hi : P.info? e = some i) (hz : i.zero = some z)
    (hsize : i.size = size) (hby : i.bytes = bytes) (hzs : z.cells.size = size) (hsz : 0 < size)
    (v : Value) (n : Nat) (xs : List Value) (hs : a.eval s = v) (hown : w.ownsRow base e size v n xs)
    (xv : Value) (hx : a.eval x = xv) (m : Nat) (news : List Value) (hsrc : SrcRow w size xv m news) (h1 : ∀ u ∈ news, u.oneCell' = true)
    (h63 : n + m ≤ maxLen) (hbytes : (n + m) * bytes ≤ 140737488355328) (hbase : base ≤ w.heap.size)
    (h : ∀ v' w', w'.ownsRow base e size v' (n + m) (xs ++ news) → w.grownBy w' v.ownBlock → (v'.ownBlock = v.ownBlock ∨ v'.ownBlock = some w.heap.size) → K (a.put o.dst v') w') :
    if Region.wanted o (yielded ops a.tmps) = true then Oper.wp P o a w K Q else E := by
  have hw : Region.wanted o (yielded ops a.tmps) = true := by simp [Region.wanted, hgd]
  rw [if_pos hw]
  exact wp_append_row s x t ho base e i z size bytes ht hi hz hsize hby hzs hsz v n xs hs hown xv hx m news hsrc h1 h63 hbytes hbase h
end Wb
end Go.Proofs.YtnefdpnolojojaaGreatDoor
namespace Go.Proofs.YtnefdpnolojojaaGreatDoor
open Go.RowKit Go.Maps
set_option maxRecDepth 100000
theorem wpListIn_append_row9 {F : Fence} {N : Nat} {P : Program} {w : World} {ops : Array Oper} {rest : List Oper} {o : Oper} {a : Act} {Q : Exit → Act → World → Prop} (hgd : o.guard = none) (s x : Operand) (t : TypeId)
    (ho : o.op = .call { callee := .builtin .append, args := #[s, x], argTypes := #[t, t] })
    (base : Nat) (e : TypeId) (i : TypeInfo) (z : Value) (size bytes : Nat) (ht : P.underlying t = some (.slice e)) (hi : P.info? e = some i) (hz : i.zero = some z)
    (hsize : i.size = size) (hby : i.bytes = bytes) (hzs : z.cells.size = size) (hsz : 0 < size)
    (v : Value) (n : Nat) (xs : List Value) (hs : a.eval s = v) (hown : w.ownsRow base e size v n xs)
    (xv : Value) (hx : a.eval x = xv) (m : Nat) (news : List Value) (hsrc : Wb.SrcRow w size xv m news) (h1 : ∀ u ∈ news, u.oneCell' = true)
    (h63 : n + m ≤ maxLen) (hbytes : (n + m) * bytes ≤ 140737488355328) (hbase : base ≤ w.heap.size)
    (h : ∀ v' w', w'.ownsRow base e size v' (n + m) (xs ++ news) → w.grownBy w' v.ownBlock → (v'.ownBlock = v.ownBlock ∨ v'.ownBlock = some w.heap.size) → wpListIn F N P ops Q rest (a.put o.dst v') w') : wpListIn F N P ops Q (o :: rest) a w := by
  refine wpListIn_plain hgd fun K' hK' => ?_
  unfold Oper.wpIn
  refine ⟨?_, ?_⟩
  · simp [Oper.about, ho, resolve, Target.leads, Sem.run_pure]
  · rw [Oper.semAt_plain F _ _ (by rw [ho]; intro c hc'; cases hc')]
    obtain ⟨hl, hsrc | ⟨ad, c, hv, hcells⟩⟩ := hsrc
    · obtain ⟨rfl, rfl⟩ := hsrc
      have hn : news = [] := by simpa using hl
      subst hn
      have hrun := run_append_owned_none (P := P) (w := w) base t o.type e i size ht hi v n xs hown
      unfold execOp
      simp only [ho, resolve, invoke, builtin, Sem.run_bind, Sem.run_pure, Result.andThen_ok, List.map_toArray, List.map_cons, List.map_nil, hs, hx, hrun]
      exact hK' _ _ (h v w (by simpa using hown) (Wb.grownBy_refl _ _) (.inl rfl))
    · subst hv
      obtain ⟨v', w', hr, h2, h3, _, h5⟩ := run_append_own_at (P := P) w base t o.type e i z size bytes ht hi hz hsize hby hzs hsz v n xs hown ad m c news hl hcells h1 h63 hbytes hbase
      unfold execOp
      simp only [ho, resolve, invoke, builtin, Sem.run_bind, Sem.run_pure, Result.andThen_ok, List.map_toArray, List.map_cons, List.map_nil, hs, hx, hr]
      exact hK' _ _ (h v' w' h2 h3 h5)
theorem src_lit9 {size : Nat} (w : World) (m : Nat) {news : List Value} (hl : news.length = m * size) (xs : List Value) (T : TypeId) (hx : xs = news) : Wb.SrcRow (w.alloc (.cells xs.toArray T)) size (.slice (some ⟨w.heap.size, 0, none⟩) m m) m news := by
  subst hx
  refine ⟨hl, .inr ⟨_, _, rfl, fun j u hj => ?_⟩⟩
  have e : ((⟨w.heap.size, 0, none⟩ : Addr).add j) = ⟨w.heap.size, j, none⟩ := by
    by_cases hj0 : j = 0
    · subst hj0; rfl
    · simp [Addr.add, hj0]
  rw [e]
  simp [go_sem, hj]
theorem keysS_it (m : Nat) (l Bm : Nat) {mb : Option Nat} {n : Nat} {z : Value} {f : Int → Option Value} (J : List Int → World → Prop)
    (hY : ∀ pre x W, J pre W → pre.length < n → YieldAt Fence.wide (m - 1) Tryz.prog l #[kU32.v x] W fun e W' => e = .returned (.bool true) ∧ J (pre ++ [x]) W' ∧ KeepsWalks W W')
    (W : World) (hJ : AbidesFrom W.heap.size J) (hm : W.cell? ⟨Bm, 0, none⟩ = some (.map mb)) (hown : KMapO kU32 W mb n z f) (h0 : J [] W) :
    CallsIn Fence.wide m Tryz.prog 44 #[.func (.yield l) #[] #[], .pointer (some ⟨Bm, 0, none⟩)] W fun e W' => (∃ v, e = .returned v) ∧ ∃ ss : List Int, KeysAre kU32 f ss ∧ J ss W' := by
  have hh : m = m := rfl
  refine callsIn_of_wp Tryz.func44 rfl trivial ?_ rfl
  simp only [Tryz.ntmps44, List.size_toArray, List.length_cons, List.length_nil, Nat.reduceAdd, Nat.reduceSub, Array.replicate_succ, Array.replicate_zero, List.push_toArray, List.append_toArray, List.nil_append, List.cons_append]
  gi_wp2_with (first
    | (gi_at_range; refine wpListIn_range_km (K := kU32) rfl _ 24 51 rfl Tryz.underlying24 mb n z f rfl hown ?_; intro w0 cnt0 hrg0 hc0 hg0 hs0)
    | gi_in)
  (try go_frame)
  gi_loopw [3] (fun _ wr => ∃ (cnt : Nat) (ss : List Int), KRng kU32 wr mb W.heap.size n z f ss cnt ∧ ss.length + cnt ≤ n ∧ J ss wr)
    (fun _ wr => kLeft mb W.heap.size wr)
  case atStart =>
    exact ⟨_, [], hrg0, by simpa using hc0, hJ [] W w0 none h0 hg0 (fun r e => by cases e)⟩
  case round =>
    obtain ⟨cnt, ss, hrg, hcs, hJs⟩ := hrel
    gi_wp2_with (first
      | (gi_at_next; refine wpListIn_next_km (K := kU32) rfl _ rfl rfl hrg ?_ ?_)
      | gi_in)
    · intro hall
      have hKA : KeysAre kU32 f ss := ⟨hrg.one, fun p => ⟨fun hp => hrg.ok p hp, fun ⟨h1, h2⟩ => hall p h1 h2⟩⟩
      gi_wp2
      go_end0
      exact ⟨⟨_, rfl⟩, ss, hKA, hJs⟩
    · intro x v w2 cnt2 hok hfx hnr hrg2 hlt hg2 hs2 hen
      have hJ2 : J ss w2 := hJ ss wr w2 (some W.heap.size) hJs hg2 (fun r e => by cases e; exact ⟨Nat.le_refl _, hrg.walk⟩)
      obtain ⟨fn, tmps, assign, body, hy, hR⟩ := hY ss x w2 hJ2 (by omega)
      clear hs2 hok hfx hnr
      gi_wp2
      refine ⟨(fun h => by cases h), hR.mono ?_⟩
      rintro e W3 ⟨rfl, hJ3, hk3⟩
      gi_wp2
      have hrg3 := hrg2.walks hk3
      go_roundw
      case rel => exact ⟨cnt2, ss ++ [x], hrg3, by simp; omega, hJ3⟩
      case measure => rw [hrg3.left, hrg.left]; exact hlt
theorem keysS_gives (m : Nat) (Bm : Nat) {mb : Option Nat} {n : Nat} {z : Value} {f : Int → Option Value} (w : World) (hBm : Bm < w.heap.size) (hm : w.cell? ⟨Bm, 0, none⟩ = some (.map mb)) (hown : KMapO kU32 w mb n z f) :
    SeqGives Fence.wide m Tryz.prog 44 #[.pointer (some ⟨Bm, 0, none⟩)] kU32.v (KeysAre kU32 f) n w := fun l J W hW hJ hY h0 => by
  have hown' : KMapO kU32 W mb n z f := by
    cases mb with
    | none => exact hown
    | some b =>
      have hbl : b < w.heap.size := hown.lt b rfl
      obtain ⟨D, ⟨es, clock, hb, Ft, hs, hD⟩, h2⟩ := hown
      exact ⟨D, ⟨es, clock, (hW.block b hbl).trans hb, Ft, hs, hD⟩, h2⟩
  exact keysS_it m l Bm J hY W hJ ((hW.cell (p := ⟨Bm, 0, none⟩) hBm).trans hm) hown' h0
theorem keysS_any (mb : Option Nat) (w : World) :
    Calls Tryz.prog 17 #[.map mb] w fun e w' => e = .returned (.func (.func 44) #[] #[.pointer (some ⟨w.heap.size, 0, none⟩)]) ∧ w' = w.alloc (.cells #[.map mb] 24) := by
  go_enter Tryz.func17, Tryz.ntmps17
  go_wp2
  go_ret
  exact ⟨rfl, rfl⟩
theorem keysB_it (m : Nat) (l Bm : Nat) {mb : Option Nat} {n : Nat} {z : Value} {f : Int → Option Value} (J : List Int → World → Prop)
    (hY : ∀ pre x W, J pre W → pre.length < n → YieldAt Fence.wide (m - 1) Tryz.prog l #[kU32.v x] W fun e W' => e = .returned (.bool true) ∧ J (pre ++ [x]) W' ∧ KeepsWalks W W')
    (W : World) (hJ : AbidesFrom W.heap.size J) (hm : W.cell? ⟨Bm, 0, none⟩ = some (.map mb)) (hown : KMapO kU32 W mb n z f) (h0 : J [] W) :
    CallsIn Fence.wide m Tryz.prog 46 #[.func (.yield l) #[] #[], .pointer (some ⟨Bm, 0, none⟩)] W fun e W' => (∃ v, e = .returned v) ∧ ∃ ss : List Int, KeysAre kU32 f ss ∧ J ss W' := by
  have hh : m = m := rfl
  refine callsIn_of_wp Tryz.func46 rfl trivial ?_ rfl
  simp only [Tryz.ntmps46, List.size_toArray, List.length_cons, List.length_nil, Nat.reduceAdd, Nat.reduceSub, Array.replicate_succ, Array.replicate_zero, List.push_toArray, List.append_toArray, List.nil_append, List.cons_append]
  gi_wp2_with (first
    | (gi_at_range; refine wpListIn_range_km (K := kU32) rfl _ 64 4 rfl Tryz.underlying64 mb n z f rfl hown ?_; intro w0 cnt0 hrg0 hc0 hg0 hs0)
    | gi_in)
  (try go_frame)
  gi_loopw [3] (fun _ wr => ∃ (cnt : Nat) (ss : List Int), KRng kU32 wr mb W.heap.size n z f ss cnt ∧ ss.length + cnt ≤ n ∧ J ss wr)
    (fun _ wr => kLeft mb W.heap.size wr)
  case atStart =>
    exact ⟨_, [], hrg0, by simpa using hc0, hJ [] W w0 none h0 hg0 (fun r e => by cases e)⟩
  case round =>
    obtain ⟨cnt, ss, hrg, hcs, hJs⟩ := hrel
    gi_wp2_with (first
      | (gi_at_next; refine wpListIn_next_km (K := kU32) rfl _ rfl rfl hrg ?_ ?_)
      | gi_in)
    · intro hall
      have hKA : KeysAre kU32 f ss := ⟨hrg.one, fun p => ⟨fun hp => hrg.ok p hp, fun ⟨h1, h2⟩ => hall p h1 h2⟩⟩
      gi_wp2
      go_end0
      exact ⟨⟨_, rfl⟩, ss, hKA, hJs⟩
    · intro x v w2 cnt2 hok hfx hnr hrg2 hlt hg2 hs2 hen
      have hJ2 : J ss w2 := hJ ss wr w2 (some W.heap.size) hJs hg2 (fun r e => by cases e; exact ⟨Nat.le_refl _, hrg.walk⟩)
      obtain ⟨fn, tmps, assign, body, hy, hR⟩ := hY ss x w2 hJ2 (by omega)
      clear hs2 hok hfx hnr
      gi_wp2
      refine ⟨(fun h => by cases h), hR.mono ?_⟩
      rintro e W3 ⟨rfl, hJ3, hk3⟩
      gi_wp2
      have hrg3 := hrg2.walks hk3
      go_roundw
      case rel => exact ⟨cnt2, ss ++ [x], hrg3, by simp; omega, hJ3⟩
      case measure => rw [hrg3.left, hrg.left]; exact hlt
theorem keysB_gives (m : Nat) (Bm : Nat) {mb : Option Nat} {n : Nat} {z : Value} {f : Int → Option Value} (w : World) (hBm : Bm < w.heap.size) (hm : w.cell? ⟨Bm, 0, none⟩ = some (.map mb)) (hown : KMapO kU32 w mb n z f) :
    SeqGives Fence.wide m Tryz.prog 46 #[.pointer (some ⟨Bm, 0, none⟩)] kU32.v (KeysAre kU32 f) n w := fun l J W hW hJ hY h0 => by
  have hown' : KMapO kU32 W mb n z f := by
    cases mb with
    | none => exact hown
    | some b =>
      have hbl : b < w.heap.size := hown.lt b rfl
      obtain ⟨D, ⟨es, clock, hb, Ft, hs, hD⟩, h2⟩ := hown
      exact ⟨D, ⟨es, clock, (hW.block b hbl).trans hb, Ft, hs, hD⟩, h2⟩
  exact keysB_it m l Bm J hY W hJ ((hW.cell (p := ⟨Bm, 0, none⟩) hBm).trans hm) hown' h0
theorem keysB_any (mb : Option Nat) (w : World) :
    Calls Tryz.prog 21 #[.map mb] w fun e w' => e = .returned (.func (.func 46) #[] #[.pointer (some ⟨w.heap.size, 0, none⟩)]) ∧ w' = w.alloc (.cells #[.map mb] 64) := by
  go_enter Tryz.func21, Tryz.ntmps21
  go_wp2
  go_ret
  exact ⟨rfl, rfl⟩
theorem colU_info : (Tryz.prog.info? 47).map (fun i => (i.zero, i.size, i.bytes)) = some (some (.int .u32 0), 1, 4) := by kernel_rfl
theorem colU_types : (58 : Nat) ≠ 47 := by decide
def colUAssign : Code := (Code.region 2 #[{ dst := some 5, op := Op.assign (Operand.tmp 7), type := 47, pos := "iter.go:51", after := #[], guard := none }] false)
def colUBody : Code := (Code.block 1 (Code.region 3 #[{ dst := some 8, op := Op.load 58 (Operand.tmp 2), type := 58, pos := "iter.go:52", after := #[], guard := none }, { dst := some 9, op := Op.move (Operand.tmp 5), type := 47, pos := "iter.go:52", after := #[], guard := none }, { dst := some 10, op := Op.buildSlice 58 1 #[(0, Operand.tmp 9)], type := 58, pos := "iter.go:52", after := #[{ on := 1, ground := Ground.data }], guard := none }, { dst := some 11, op := Op.call { callee := Callee.builtin Builtin.append, args := #[Operand.tmp 8, Operand.tmp 10], argTypes := #[58, 58] }, type := 58, pos := "iter.go:52", after := #[{ on := 0, ground := Ground.data }, { on := 2, ground := Ground.data }], guard := none }, { dst := none, op := Op.store 58 (Operand.tmp 2) (Operand.tmp 11), type := 0, pos := "iter.go:52", after := #[{ on := 3, ground := Ground.data }, { on := 3, ground := Ground.chain }, { on := 0, ground := Ground.phase }, { on := 1, ground := Ground.phase }, { on := 2, ground := Ground.phase }, { on := 3, ground := Ground.phase }], guard := none }] false))
def colURec (fn : FuncId) (sv : Value) (Bs D : Nat) (st : LoopState) (pend : Option Code) : Loop :=
  { state := st, pending := pend, fn, tmps := #[.slice none 0 0, sv, .pointer (some ⟨Bs, 0, none⟩), undef, .slice none 0 0, undef, sv, undef, undef, undef, undef, undef, undef], params := #[7], assign := colUAssign, body := colUBody, defers := D }
structure colUAt (w0 : World) (fn : FuncId) (sv : Value) (Bs l D : Nat) (ss : List Int) (W : World) : Prop where
  box : ∃ v, W.heap[Bs]? = some (.cells #[v] 58 (0, 0)) ∧ W.ownsRow w0.heap.size 47 1 v ss.length (ss.map (Value.int .u32))
  L : W.heap[l]? = some (.loop (colURec fn sv Bs D .ready none))
  K : W.heap[D]? = some (.deferred (some []))
  below : Below w0.heap.size w0 W
theorem colU_abides (w0 : World) (fn : FuncId) (sv : Value) (Bs l D B : Nat) (hB : w0.heap.size ≤ B) : AbidesFrom B (colUAt w0 fn sv Bs l D) := fun s W W' row h hg hrow => by
  have hrow' : ∀ r, row = some r → ∃ o : Obj, W.heap[r]? = some o ∧ o.isWalk = true := fun r e => (hrow r e).2
  obtain ⟨v, hv, hr⟩ := h.box
  exact ⟨⟨v, (grownBy_keeps hg hrow' hv rfl).trans hv, row_abides hr hg hrow'⟩, (grownBy_keeps hg hrow' h.L rfl).trans h.L, (grownBy_keeps hg hrow' h.K rfl).trans h.K,
    h.below.grown hg h.below.size (fun k e => Nat.le_trans hB (hrow k e).1)⟩
set_option maxHeartbeats 4000000 in
theorem colU_yield (m : Nat) (w0 : World) (fn : FuncId) (sv : Value) (Bs l D : Nat) (hBl : Bs ≠ l) (hDl : D ≠ l) (hDB : D ≠ Bs) (h0B : w0.heap.size ≤ Bs) (h0l : w0.heap.size ≤ l)
    (N : Nat) (hN : N ≤ maxLen) (hNb : N * 4 ≤ 140737488355328) (ss : List Int) (x : Int) (W : World) (h : colUAt w0 fn sv Bs l D ss W) (hlen : ss.length < N) :
    YieldAt Fence.wide m Tryz.prog l #[kU32.v x] W fun e W' => e = .returned (.bool true) ∧ colUAt w0 fn sv Bs l D (ss ++ [x]) W' ∧ KeepsWalks W W' := by
  obtain ⟨i0, hi, hz0, hz1, hz2⟩ := info_parts colU_info
  obtain ⟨v, hv, hrow⟩ := h.box
  refine ⟨fn, #[.slice none 0 0, sv, .pointer (some ⟨Bs, 0, none⟩), undef, .slice none 0 0, undef, sv, kU32.v x, undef, undef, undef, undef, undef], colUAssign, colUBody, by simpa [colURec] using run_yield (P := Tryz.prog) (args := #[kU32.v x]) h.L rfl, roundIn_of_wpIn trivial ?_⟩
  have hl : l < W.heap.size := (Array.getElem?_eq_some_iff.1 h.L).1
  have hbr := run_beginRound (P := Tryz.prog) h.L rfl
  obtain ⟨W2, hW2⟩ : ∃ W2, W.putObj l (.loop { colURec fn sv Bs D .ready none with state := .busy }) = W2 := ⟨_, rfl⟩
  rw [hW2] at hbr
  have hg2 : W.grownBy W2 (some l) := by rw [← hW2]; exact put_grown _ _ _
  have hk2 : KeepsWalks W W2 := by rw [← hW2]; exact KeepsWalks.putObj _ h.L rfl
  have hv2 : W2.heap[Bs]? = some (.cells #[v] 58 (0, 0)) := by rw [← hW2]; exact (World.putObj_heap_other hBl).trans hv
  have hK2 : W2.heap[D]? = some (.deferred (some [])) := by rw [← hW2]; exact (World.putObj_heap_other hDl).trans h.K
  have hL2 : W2.heap[l]? = some (.loop { colURec fn sv Bs D .ready none with state := .busy }) := by rw [← hW2]; exact World.putObj_heap_same hl
  have hrow2 : W2.ownsRow w0.heap.size 47 1 v ss.length (ss.map (Value.int .u32)) := hrow.kept hg2 (row_ne hrow h.L (fun cur e => by cases e))
  have hb2 : Below w0.heap.size w0 W2 := h.below.grown hg2 h.below.size (fun k e => by cases e; exact h0l)
  have hBlt : Bs < W2.heap.size := (Array.getElem?_eq_some_iff.1 hv2).1
  have hl2 : l < W2.heap.size := (Array.getElem?_eq_some_iff.1 hL2).1
  have hDlt : D < W2.heap.size := (Array.getElem?_eq_some_iff.1 hK2).1
  clear hW2
  have hx2 : kU32.v x = .int .u32 x := rfl
  rw [hx2]
  clear hx2
  unfold colUAssign
  gi_wp2_with (rw [Oper.semAt_eq _ _ _ (fun c h => by cases h)]; go_simp; try go_bits)
  have ne_of : ∀ {j : Nat} {o : Obj}, W2.heap[j]? = some o → (∀ cur, o ≠ .cells cur 47 (0, 0)) → some j ≠ v.ownBlock := fun hj hno => by
    rcases row_ne hrow2 hj hno with e | e
    · rw [e]; simp
    · exact fun e' => e e'.symm
  obtain ⟨hc2, hf2⟩ := box_cell hv2
  unfold colUBody
  gi_wp2_with (first
    | (gi_at_builtin; refine wpListIn_append_row9 rfl _ _ 58 rfl w0.heap.size 47 i0 (.int .u32 0) 1 4 Tryz.underlying58 hi hz0 hz1 hz2 rfl (by decide) _ _ _ rfl (hrow2.alloc _) _ rfl 1 ([.int .u32 x]) (src_lit9 _ _ rfl ([.int .u32 x]) _ rfl) (by intro u hu; simp at hu; subst hu; rfl) (by omega) (by omega) (by have := hb2.size; simp; omega) ?_; intro v' w3 hown' hg3 hnil3
       have hv3 : w3.heap[Bs]? = some (.cells #[v] 58 (0, 0)) := (hg3.block Bs (by simp; omega) (ne_of hv2 (fun cur e => by first | cases e | exact colU_types (Obj.cells.inj e).2.1))).trans ((Below.heap_alloc _ _ Bs hBlt).trans hv2)
       obtain ⟨hc3, hf3⟩ := box_cell hv3
       obtain ⟨g', cap', cur', rfl, hbase', hgb', hr1, hr2, hr3, hr4⟩ : ∃ g' cap' cur', v' = .slice (some ⟨g', 0, none⟩) (ss.length + 1) cap' ∧ w0.heap.size ≤ g' ∧ w3.heap[g']? = some (.cells cur' 47 (0, 0)) ∧ ss.length + 1 ≤ cap' ∧ cap' ≤ maxLen ∧ cur'.size = cap' * 1 ∧ cur'.toList.take ((ss.length + 1) * 1) = ss.map (Value.int .u32) ++ [.int .u32 x] := by
         rcases hown'.2 with ⟨_, h0⟩ | h'
         · exact absurd h0 (by omega)
         · exact h'
       go_frame)
    | (rw [Oper.semAt_eq _ _ _ (fun c h => by cases h)]; go_simp; try go_bits))
  have hg3' : (W2.alloc (.cells #[.int .u32 x] 47)).grownBy w3 v.ownBlock := hg3
  have hL3 : w3.heap[l]? = some (.loop { colURec fn sv Bs D .ready none with state := .busy }) := (hg3'.block l (by simp; omega) (ne_of hL2 (fun cur e => by cases e))).trans ((Below.heap_alloc _ _ l hl2).trans hL2)
  have hK3 : w3.heap[D]? = some (.deferred (some [])) := (hg3'.block D (by simp; omega) (ne_of hK2 (fun cur e => by cases e))).trans ((Below.heap_alloc _ _ D hDlt).trans hK2)
  obtain ⟨w4, hw4⟩ : ∃ w4, w3.setCell ⟨Bs, 0, none⟩ (.slice (some ⟨g', 0, none⟩) (ss.length + 1) cap') = w4 := ⟨_, rfl⟩
  rw [hw4]
  have hg4 : w3.grownBy w4 (some Bs) := by rw [← hw4]; exact set_grown0 _ _ _
  have hv4 : w4.heap[Bs]? = some (.cells #[.slice (some ⟨g', 0, none⟩) (ss.length + 1) cap'] 58 (0, 0)) := by rw [← hw4]; exact set_box _ hv3
  have hL4 : w4.heap[l]? = some (.loop { colURec fn sv Bs D .ready none with state := .busy }) := (hg4.block l (Array.getElem?_eq_some_iff.1 hL3).1 (fun e => hBl (by cases e; rfl))).trans hL3
  have hK4 : w4.heap[D]? = some (.deferred (some [])) := (hg4.block D (Array.getElem?_eq_some_iff.1 hK3).1 (fun e => hDB (by cases e; rfl))).trans hK3
  have hrow4 := hown'.kept hg4 (row_ne hown' hv3 (fun cur e => by first | cases e | exact colU_types (Obj.cells.inj e).2.1))
  have hl4 : l < w4.heap.size := (Array.getElem?_eq_some_iff.1 hL4).1
  have hb3 : Below w0.heap.size w0 w3 := (hb2.alloc hb2.size _).grown hg3' (by have := hb2.size; simp; omega) (fun k e => (hrow2.lt k e).1)
  have hb4 : Below w0.heap.size w0 w4 := hb3.grown hg4 hb3.size (fun k e => by cases e; exact h0B)
  have hk4 : KeepsWalks W w4 := ((hk2.trans (KeepsWalks.alloc _ _)).trans (KeepsWalks.of_grownBy hg3' (row_not_walk (hrow2.alloc _)))).trans (by rw [← hw4]; exact KeepsWalks.setCell _ _ _)
  clear hw4
  refine ⟨_, _, run_endRound none hL4, rfl, ⟨⟨_, (World.putObj_heap_other hBl).trans hv4, ?_⟩, World.putObj_heap_same hl4, (World.putObj_heap_other hDl).trans hK4, hb4.grown (put_grown _ _ _) hb4.size (fun k e => by cases e; exact h0l)⟩, hk4.trans (KeepsWalks.putObj _ hL4 rfl)⟩
  have := hrow4.kept (put_grown w4 l (.loop { { colURec fn sv Bs D .ready none with state := .busy } with state := if (none : Option Code).isNone then .ready else .done, pending := none })) (row_ne hrow4 hL4 (fun cur e => by cases e))
  simpa using this
theorem colU_append (n : Nat) (g : Nat) (lb : Array Value) (eg : ∀ args w, (callFunc g args).run Tryz.prog w = .ok (.enter g args) w)
    (S : List Int → Prop) (N : Nat) (hN : N ≤ maxLen) (hNb : N * 4 ≤ 140737488355328) (w : World) (hseq : SeqGives Fence.wide (n - 1) Tryz.prog g lb kU32.v S N w) :
    CallsIn Fence.wide n Tryz.prog 59 #[.slice none 0 0, .func (.func g) #[] lb] w fun e w' => ∃ (v : Value) (ss : List Int), e = .returned v ∧ S ss ∧ w'.ownsRow w.heap.size 47 1 v ss.length (ss.map (Value.int .u32)) ∧ Below w.heap.size w w' := by
  refine callsIn_of_wp_marks Tryz.func59 rfl trivial ?_ rfl
  simp only [Tryz.ntmps59, List.size_toArray, List.length_cons, List.length_nil, Nat.reduceAdd, Nat.reduceSub, Array.replicate_succ, Array.replicate_zero, List.push_toArray, List.append_toArray, List.nil_append, List.cons_append]
  gi_wp2
  refine wpIn_rangeFunc ?_
  intro fn hfn
  rw [show Fence.wide.round = none from rfl]
  obtain ⟨W0, hW0⟩ : ∃ W0, w.alloc (.cells #[.slice none 0 0] 58) = W0 := ⟨_, rfl⟩
  have hs0 : W0.heap.size = w.heap.size + 1 := by rw [← hW0]; simp
  have hv0 : W0.heap[w.heap.size]? = some (.cells #[.slice none 0 0] 58 (0, 0)) := by rw [← hW0]; exact World.alloc_heap_new w _
  have hb0 : Below w.heap.size w W0 := by rw [← hW0]; exact (Below.refl _ w).alloc (Nat.le_refl _) _
  rw [hW0]
  obtain ⟨W1, hW1⟩ : ∃ W1, (W0.alloc (.deferred (some []))).alloc (.loop (colURec fn (.func (.func g) #[] lb) w.heap.size W0.heap.size .ready none)) = W1 := ⟨_, rfl⟩
  have hold : ∀ k, k < W0.heap.size → W1.heap[k]? = W0.heap[k]? := fun k hk => by
    rw [← hW1]; exact (Below.heap_alloc _ _ k (by simp; omega)).trans (Below.heap_alloc _ _ k hk)
  have hb1 : Below w.heap.size w W1 := by rw [← hW1]; exact (hb0.alloc hb0.size _).alloc (by have := hb0.size; simp; omega) _
  have hs1 : W1.heap.size = W0.heap.size + 2 := by rw [← hW1]; simp
  have hM : colUAt w fn (.func (.func g) #[] lb) w.heap.size (W0.heap.size + 1) W0.heap.size [] W1 :=
    ⟨⟨_, (hold w.heap.size (by omega)).trans hv0, ⟨rfl, .inl ⟨rfl, rfl⟩⟩⟩,
     by rw [← hW1]; have := World.alloc_heap_new (W0.alloc (.deferred (some []))) (.loop (colURec fn (.func (.func g) #[] lb) w.heap.size W0.heap.size .ready none)); rwa [World.size_alloc] at this,
     by rw [← hW1]; exact (Below.heap_alloc _ _ _ (by simp)).trans (World.alloc_heap_new W0 _), hb1⟩
  refine ⟨W0.heap.size + 1, [{ target := .collected W0.heap.size, args := #[] }], W1, { target := .fn (.func g) lb, args := #[.func (.yield (W0.heap.size + 1)) #[] #[]] }, W1, g,
    #[.func (.yield (W0.heap.size + 1)) #[] #[]] ++ lb, W1, ?_, ?_, ?_, ?_, (fun h => by cases h), ?_⟩
  · rw [← hW1]; exact run_enterLoop_outer _ _ _ _ _
  · simp [resolve, go_sem]
  · intro f' hf'; trivial
  · simp [invoke, go_sem, eg]
  · refine (hseq (W0.heap.size + 1) (colUAt w fn (.func (.func g) #[] lb) w.heap.size (W0.heap.size + 1) W0.heap.size) W1 hb1 (colU_abides _ _ _ _ _ _ _ hb1.size)
      (fun pre x W hJ hl => colU_yield (n - 1 - 1) w fn _ w.heap.size (W0.heap.size + 1) W0.heap.size (by omega) (by omega) (by omega) (Nat.le_refl _) (by omega) N hN hNb pre x W hJ hl) hM).mono ?_
    rintro e W2 ⟨⟨v0, rfl⟩, ss, hS, h2⟩
    obtain ⟨v, hv, hrow⟩ := h2.box
    have hend := run_endLoop (P := Tryz.prog) h2.L (by simp [colURec])
    obtain ⟨W3, hW3⟩ : ∃ W3, W2.putObj (W0.heap.size + 1) (.loop { colURec fn (.func (.func g) #[] lb) w.heap.size W0.heap.size .ready none with state := .exhausted }) = W3 := ⟨_, rfl⟩
    rw [hW3] at hend
    have hg3 : W2.grownBy W3 (some (W0.heap.size + 1)) := by rw [← hW3]; exact put_grown _ _ _
    have hv3 : W3.heap[w.heap.size]? = some (.cells #[v] 58 (0, 0)) := by rw [← hW3]; exact (World.putObj_heap_other (by omega)).trans hv
    have hK3 : W3.heap[W0.heap.size]? = some (.deferred (some [])) := by rw [← hW3]; exact (World.putObj_heap_other (by omega)).trans h2.K
    have hrow3 := hrow.kept hg3 (row_ne hrow h2.L (fun cur e => by cases e))
    have hb3 : Below w.heap.size w W3 := h2.below.grown hg3 h2.below.size (fun k e => by cases e; omega)
    obtain ⟨hc3, hf3⟩ := box_cell hv3
    clear hW3
    refine ⟨none, W3, hend, ?_⟩
    gi_wp2
    rw [← hs0]
    refine ⟨by simp, .inl ⟨_, _, rfl, run_takeDeferred hK3, ?_⟩⟩
    exact ⟨_, results_tmp rfl _ _ _, v, ss, rfl, hS, hrow3.kept (put_grown _ _ _) (row_ne hrow3 hK3 (fun cur e => by cases e)), hb3.grown (put_grown _ _ _) hb3.size (fun k e => by cases e; omega)⟩
theorem colU_any (g : Nat) (lb : Array Value) (eg : ∀ args w, (callFunc g args).run Tryz.prog w = .ok (.enter g args) w)
    (S : List Int → Prop) (N : Nat) (hN : N ≤ maxLen) (hNb : N * 4 ≤ 140737488355328) (w : World) (hseq : ∀ m, SeqGives Fence.wide m Tryz.prog g lb kU32.v S N w) :
    Calls Tryz.prog 42 #[.func (.func g) #[] lb] w fun e w' => ∃ (v : Value) (ss : List Int), e = .returned v ∧ S ss ∧ w'.ownsRow w.heap.size 47 1 v ss.length (ss.map (Value.int .u32)) ∧ Wb.Ext w w' := by
  have hcall : Calls Tryz.prog 59 #[.slice none 0 0, .func (.func g) #[] lb] w fun e w' => ∃ (v : Value) (ss : List Int), e = .returned v ∧ S ss ∧ w'.ownsRow w.heap.size 47 1 v ss.length (ss.map (Value.int .u32)) ∧ Below w.heap.size w w' :=
    callsIn_wide.1 (colU_append 5 g lb eg S N hN hNb w (hseq 4))
  go_enter Tryz.func42, Tryz.ntmps42
  go_wp2_with (go_at_call 59; refine hcall.mono ?_; rintro e w' ⟨v, ss, rfl, hS, hrow, hb⟩)
  go_ret
  exact ⟨v, ss, rfl, hS, hrow, hb⟩
end Go.Proofs.YtnefdpnolojojaaGreatDoor
