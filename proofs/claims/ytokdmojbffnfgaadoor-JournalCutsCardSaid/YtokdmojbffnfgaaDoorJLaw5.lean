/- Chapter 38: JournalCuts: the walk. -/
import Derived.Test.YtokdmojbffnfgaaDoorJLaw4
namespace Go.Proofs.YtokdmojbffnfgaaDoor
open Go.RowKit
set_option maxRecDepth 8000
attribute [local go_sem ↓] Go.wp_at_zero Go.wp_at_succ

theorem S_at (l : List UInt8) (k : Nat) : (Wb.S l).data[k]! = Wb.byteAt l k := by
  simp [Wb.S, Wb.byteAt, getElem!_def]
  cases l[k]? <;> rfl
/-- the last line's end -/
theorem last_nl {X Y t : List UInt8} (h : X = Y ++ t) (ht : (10 : UInt8) ∉ t) (hY : Y = [] ∨ ∃ Z, Y = Z ++ [10]) : Lib.lastIndexByte (Wb.S X) 10 = (Y.length : Int) - 1 := by
  have h1 : ∀ d, d ≤ t.length → Lib.lastIdx (Wb.S X) 10 (Y.length + d) = Lib.lastIdx (Wb.S X) 10 Y.length := by
    intro d
    induction d with
    | zero => intro _; rfl
    | succ d ih =>
      intro hd
      rw [← Nat.add_assoc, Lib.lastIdx_miss, ih (by omega)]
      rw [S_at, h, Wb.byteAt_right (by omega), Nat.add_sub_cancel_left]
      intro e
      have : Wb.byteAt t d = 10 := UInt8.toNat_inj.1 (by show _ = 10; omega)
      exact ht (this ▸ Wb.byteAt_mem (by omega))
  have h2 := h1 t.length (Nat.le_refl _)
  rw [Lib.lastIndexByte, Wb.S_size, show X.length = Y.length + t.length by rw [h, List.length_append], h2]
  rcases hY with rfl | ⟨Z, rfl⟩
  · simp [Lib.lastIdx]
  · rw [List.length_append, List.length_singleton, Lib.lastIdx_hit]
    · omega
    · rw [S_at, h, List.append_assoc, Wb.byteAt_right (Nat.le_refl _), Nat.sub_self]; rfl
theorem textL_end (A : List (List UInt8)) : Wb.textL A = [] ∨ ∃ Z, Wb.textL A = Z ++ [10] := by
  induction A using Wb.snoc_ind with
  | h0 => exact .inl rfl
  | h1 A a _ => exact .inr ⟨Wb.textL A ++ Wb.lineN (A.length + 1) (Wb.marksL Wb.mfirst A) a, by rw [Wb.textL_snoc, List.append_assoc]⟩
theorem count_lines : ∀ {A : List (List UInt8)} {k m : Nat}, Wb.okK k A → (Wb.textK k m A).count 10 = A.length
  | [], _, _, _ => rfl
  | a :: r, k, m, h => by
    have hl := Wb.lineN_line (n := k + 1) (m := m) h.1.2.2.1
    rw [Wb.textK_cons, List.count_append, List.count_eq_zero.2 hl, List.count_cons_self, count_lines h.2]; simp
theorem lasti_any (t : List UInt8) (w : World) (h : t.length < 4611686018427387904) :
    Calls Tryd.prog 24 #[.string (Wb.S t), .int .u8 10] w fun e w' => e = .returned (.int .i64 (Lib.lastIndexByte (Wb.S t) 10)) ∧ w = w' := by
  refine (Tryd.strings_LastIndexByte (Wb.S t) 10 (by rw [Wb.S_size]; exact h) w).mono ?_
  rintro e w' ⟨rfl, rfl⟩
  exact ⟨rfl, rfl⟩

set_option maxHeartbeats 16000000 in
theorem cuts_walk (v : Value) (l : List (List UInt8)) (a : Nat) (more : List UInt8) (w : World) (hv : Strs1 w v l) (hl : l.length ≤ 9223372036854775807) (hs : ∀ s ∈ l, s.length ≤ 9223372036854775807) (ha : a < 4294967296) (hmo : more.length ≤ 9223372036854775807) (ht : Tab10 w) (hm : MaxL w) :
    Calls Tryd.prog 7 #[v, .int .u32 (a : Int), .string (Wb.S more)] w fun e w' => e = .returned (.bool true) ∧ Wb.Ext w w' := by
  obtain ⟨i0, hi, hz0, hz1, hz2⟩ := info_parts infoStr
  have HIN := Lib.hid (show Tryd.prog.info? 9 = some i0 ∧ i0.zero = some (.string "".toUTF8) ∧ i0.size = 1 ∧ i0.bytes = 16 from ⟨hi, hz0, hz1, hz2⟩)
  clear hi hz0 hz1 hz2
  obtain ⟨va, vc, rfl⟩ := hv.shape
  have HV := Lib.hid hv
  have HT := Lib.hid ht
  have HMX := Lib.hid hm
  have HS := Lib.hid hs
  clear hv ht hs hm
  go_enter Tryd.func7, Tryd.ntmps7
  go_wp2_with fail
  go_fit (awake38_any _ HT.out); rintro e w1 ⟨rfl, hb1⟩
  go_wp2_with fail
  go_fit (few_any _ l _ (HV.out.ext hb1) hl HS.out); rintro e w' ⟨rfl, rfl⟩
  cases hf : fewB l
  case false =>
    go_wp2
    go_ret
    exact ⟨rfl, hb1⟩
  case true =>
    obtain ⟨hf1, hf2⟩ := fewB_ok hf
    have HF1 := Lib.hid hf1
    clear hf hf1 hl
    by_cases hm5 : 5000 < more.length
    · have d5 : decide (5000 < (more.length : Int)) = true := by simp; omega
      have d5' : decide (5000 < more.length) = true := by simp; omega
      go_wp2
      go_ret
      exact ⟨rfl, hb1⟩
    · have d5 : decide (5000 < (more.length : Int)) = false := by simp; omega
      have d5' : decide (5000 < more.length) = false := by simp; omega
      go_wp2_with fail
      go_fit (made_any _ l _ (HV.out.ext hb1) (by omega) (fun s hs => Nat.le_trans (HF1.out s hs) (by omega))); rintro e w2 ⟨x, u, m, rfl, hlog, hrow, hb2⟩
      obtain ⟨A, hA⟩ : ∃ A, madeL l = A := ⟨_, rfl⟩
      have HOK := Lib.hid (show Wb.okK 0 A by rw [← hA]; exact madeL_ok l)
      have HA5 := Lib.hid (show ∀ s ∈ A, s.length ≤ 5000 by rw [← hA]; exact fun s hs => HF1.out s (madeL_mem l s hs))
      have hAl : A.length ≤ 40 := by have := madeL_len l; rw [hA] at this; omega
      rw [hA] at hlog hrow
      obtain ⟨x', m', hee, hr, hmm⟩ := hlog
      obtain ⟨rfl, rfl⟩ : x = x' ∧ m = m' := by simp at hee; exact ⟨hee.1, by omega⟩
      obtain ⟨ao, c, rfl, _, _, _⟩ := hr.shape
      obtain ⟨ao2, c2, rfl, hc2, hno2, _⟩ := hrow.shape
      have HNO2 := Lib.hid hno2
      have HLOG : Hid (LogV w2 (.agg #[.slice ao A.length c, .int .u64 (m : Int)]) A) := ⟨_, _, rfl, hr, hmm⟩
      have HROW := Lib.hid hrow
      have HX2 := Lib.hid (hb1.trans hb2)
      obtain ⟨T, hT⟩ : ∃ T, Wb.textL A = T := ⟨_, rfl⟩
      have hTl : T.length ≤ 1000000 := by rw [← hT]; exact Wb.textL_len HA5.out (by omega)
      have HTT := Lib.hid hT
      clear hA hee hr hmm hrow hT hb1 hb2 hno2
      go_wp2_with fail
      go_fit (text_any _ A _ (HLOG.out.ext (by (repeat' (first | (with_reducible assumption) | (with_reducible exact Wb.Ext.refl _) | (with_reducible refine Wb.Ext.drew ?_) | (with_reducible refine Wb.Ext.drewN ?_ _) | (with_reducible refine Wb.Ext.alloc ?_ _) | (with_reducible refine Wb.ext_set ?_ (by first | assumption | (simp; done) | (simp; omega) | omega) _) | (with_reducible refine Wb.Ext.trans ?_ (by assumption)))))) (by omega) (fun s hs => Nat.le_trans (HA5.out s hs) (by omega)) (by rw [HTT.out]; omega) (HT.out.ext (HX2.out.trans (by (repeat' (first | (with_reducible assumption) | (with_reducible exact Wb.Ext.refl _) | (with_reducible refine Wb.Ext.drew ?_) | (with_reducible refine Wb.Ext.drewN ?_ _) | (with_reducible refine Wb.Ext.alloc ?_ _) | (with_reducible refine Wb.ext_set ?_ (by first | assumption | (simp; done) | (simp; omega) | omega) _) | (with_reducible refine Wb.Ext.trans ?_ (by assumption)))))))); rintro e w4 ⟨rfl, hb4⟩
      rw [HTT.out]
      have hx24 : Wb.Ext w2 w4 := by (repeat' (first | (with_reducible assumption) | (with_reducible exact Wb.Ext.refl _) | (with_reducible refine Wb.Ext.drew ?_) | (with_reducible refine Wb.Ext.drewN ?_ _) | (with_reducible refine Wb.Ext.alloc ?_ _) | (with_reducible refine Wb.ext_set ?_ (by first | assumption | (simp; done) | (simp; omega) | omega) _) | (with_reducible refine Wb.Ext.trans ?_ (by assumption))))
      have HX4 := Lib.hid (HX2.out.trans hx24)
      have HROW4 := Lib.hid (HROW.out.ext hx24)
      obtain ⟨k, hk⟩ : ∃ k, a % (T.length + 1) = k := ⟨_, rfl⟩
      have hkl : k ≤ T.length := by have := Nat.mod_lt a (show 0 < T.length + 1 by omega); omega
      have hak : (a : Int) % ((T.length : Int) + 1) = (k : Int) := by rw [← hk]; rfl
      have hki : (k : Int) ≤ T.length := by omega
      have ha64 : IntKind.i64.wrap (a : Int) = (a : Int) := IntWalk.i64_in _ (by omega)
      obtain ⟨X, hX⟩ : ∃ X, T.take k = X := ⟨_, rfl⟩
      have hXl : X.length = k := by rw [← hX, List.length_take]; omega
      obtain ⟨n, hn⟩ : ∃ n, X.count 10 = n := ⟨_, rfl⟩
      have HCUT := Lib.hid (Wb.IsRead.cut (i := k) HOK.out (by rw [HTT.out]; exact hkl))
      have HX := Lib.hid hX
      have HXL := Lib.hid hXl
      have HN := Lib.hid hn
      have hXm : X.length ≤ 1000000 := by omega
      clear hk hb4 hx24 hXl hn
      go_wp2_with fail
      go_fit (count_any X _); rintro e w' ⟨rfl, rfl⟩
      rw [HN.out]
      go_wp2_with fail
      go_fit (read_any X _ hXm (HT.out.ext HX4.out) (HMX.out.ext HX4.out)); rintro e w8 ⟨u3, B, i3, z, rfl, hi3, hlog3, hread3, hz3, hb8⟩
      have hBt : A.take n = B := by
        have h1 := HCUT.out.1
        rw [HTT.out, HX.out, HN.out] at h1
        exact h1.uniq hread3
      obtain ⟨t, ht1, ht2⟩ := HCUT.out.2
      rw [HTT.out, HX.out, HN.out, hBt] at ht1
      have hLI := Lib.hid (show Lib.lastIndexByte (Wb.S X) 10 = (i3 : Int) - 1 by rw [hi3]; exact last_nl ht1 ht2 (textL_end B))
      have hnl : n ≤ A.length := by
        rcases Nat.lt_or_ge A.length n with q | q
        · exfalso
          have h1 : B = A := by rw [← hBt]; exact List.take_of_length_le (by omega)
          have h2 : Wb.textL A = X ++ T.drop k := by rw [HTT.out, ← HX.out, List.take_append_drop]
          have h3 : X.count 10 ≤ (Wb.textL A).count 10 := by rw [h2, List.count_append]; omega
          have h4 : (Wb.textL A).count 10 = A.length := count_lines HOK.out
          rw [h4, HN.out] at h3; omega
        · exact q
      have hBl : B.length = n := by rw [← hBt, List.length_take, Nat.min_eq_left hnl]
      obtain ⟨x3, m3, rfl, hr3, hm3⟩ := hlog3
      obtain ⟨ao3, c3, rfl, _, _, _⟩ := hr3.shape
      subst hBl
      have hi3k : i3 ≤ k := by
        have := congrArg List.length ht1
        rw [HXL.out, List.length_append, ← hi3] at this; omega
      have HBT := Lib.hid hBt
      have HOKB := Lib.hid hread3.1
      have HB5 := Lib.hid (show ∀ s ∈ B, s.length ≤ 5000 by rw [← hBt]; exact fun s hs => HA5.out s (List.mem_of_mem_take hs))
      have HR8 := Lib.hid hr3
      have HM3 := Lib.hid hm3
      have HX8 := Lib.hid (HX4.out.trans hb8)
      have HROW8 := Lib.hid (HROW4.out.ext hb8)
      have HBN := Lib.hid hnl
      have hba : (B.length : Int) ≤ (A.length : Int) := by omega
      have hbc : (B.length : Int) ≤ (c2 : Int) := by omega
      have hB40 : B.length ≤ 40 := by omega
      have HCUTS : Hid (∀ w', Row38 w' (.slice ao2 A.length c2) A → Wb.SrcRow w' 1 (.slice ao2 B.length c2) B.length (rowsOf strc B)) := fun w' h => by
        have h1 := h.cut (v := .bool false) HBN.out
        rw [HBT.out] at h1
        refine StrsN.src ⟨h1, ?_⟩
        cases ao2 with
        | none => left; obtain ⟨h2, h3⟩ := HNO2.out rfl; rw [show B.length = 0 by omega, h3]
        | some ad => right; exact ⟨_, _, _, rfl⟩
      have hzk : (z = 0 ∧ i3 = k) ∨ (z = 20 ∧ i3 ≠ k) := by
        rcases hz3 with ⟨rfl, h⟩ | ⟨rfl, h⟩
        · left; rw [HXL.out] at h; exact ⟨rfl, by omega⟩
        · right; rw [HXL.out] at h; exact ⟨rfl, by omega⟩
      have HZK := Lib.hid hzk
      clear hi3 hread3 hz3 hr3 hm3 hBt ht1 ht2 hb8 hzk
      go_wp2_with fail
      go_fit (lasti_any X _ (by omega)); rintro e w' ⟨rfl, rfl⟩
      rw [hLI.out]
      clear hX
      go_upto_region 11 with (fail)
      refine Wb.wp_at fun w9 hw9 => ?_
      have hx89 : Wb.Ext w8 w9 := by rw [hw9]; (repeat' (first | (with_reducible assumption) | (with_reducible exact Wb.Ext.refl _) | (with_reducible refine Wb.Ext.drew ?_) | (with_reducible refine Wb.Ext.drewN ?_ _) | (with_reducible refine Wb.Ext.alloc ?_ _) | (with_reducible refine Wb.ext_set ?_ (by first | assumption | (simp; done) | (simp; omega) | omega) _) | (with_reducible refine Wb.Ext.trans ?_ (by assumption))))
      have q0 : w9.cell? ⟨w8.heap.size, 0, none⟩ = some (.slice ao3 B.length c3) := by rw [hw9]; simp [go_sem]
      have q1 : w9.cell? ⟨w8.heap.size, 1, none⟩ = some (.int .u64 (m3 : Int)) := by rw [hw9]; simp [go_sem]
      have HR9 := Lib.hid (HR8.out.ext hx89)
      have HX9 := Lib.hid (HX8.out.trans hx89)
      have HROW9 := Lib.hid (HROW8.out.ext hx89)
      have HSL9 := Lib.hid (show Strs1 w9 (.slice ao2 B.length c2) B by
        have := HROW9.out.cut (v := .bool false) HBN.out
        rw [HBT.out] at this; exact this)
      clear hw9 hx89
      have hw0 : (i3 : Int) - 1 + 1 = (i3 : Int) := by omega
      rcases HZK.out with ⟨rfl, hik⟩ | ⟨rfl, hik⟩
      · have hk1 : ((i3 : Int) == (k : Int)) = true := by simp; omega
        have hk1' : (i3 == k) = true := by simpa using hik
        clear hik
        refine wp_region_held_drew (S := (fun w' => w'.cell? ⟨w8.heap.size, 0, none⟩ = some (.slice ao3 B.length c3) ∧ w'.cell? ⟨w8.heap.size, 1, none⟩ = some (.int .u64 (m3 : Int)))) (by kernel_rfl) ⟨q0, q1⟩ (fun hHeld => ?_)
        refine take_d (i := 0) (d := 60) (v := ?_) rfl rfl (by kernel_rfl) (by kernel_rfl) (by kernel_rfl) (fun _ _ _ h => h) (Or.inl ⟨by rfl, ?_⟩) (by assumption) ?_
        rotate_left
        · (intro w hSw; (try dsimp only at hSw); go_simp; (try with_reducible rfl))
        (try simp only [Act.put, List.setIfInBounds_toArray, List.set_cons_zero, List.set_cons_succ])
        refine take_d (i := 2) (d := 62) (v := ?_) rfl rfl (by kernel_rfl) (by kernel_rfl) (by kernel_rfl) (fun _ _ _ h => h) (Or.inl ⟨by rfl, ?_⟩) (by assumption) ?_
        rotate_left
        · (intro w hSw; (try dsimp only at hSw); go_simp; (try with_reducible rfl))
        (try simp only [Act.put, List.setIfInBounds_toArray, List.set_cons_zero, List.set_cons_succ])
        refine wpAnyH_ready (rs := [1]) (by kernel_rfl) (by simp) ?_
        refine AllReadyH.cons (o := _) rfl (fun K hK => ?_) ?_
        · go_simp
          go_at_call 15
          go_fit (llen_s ao3 B.length c3 m3 _)
          rintro e wa ⟨rfl, hba⟩
          refine hK.out _ _ ⟨Wb.Ext.keep (w := w9) (by (repeat' (first | (with_reducible assumption) | (with_reducible exact Wb.Ext.refl _) | (with_reducible refine Wb.Ext.drew ?_) | (with_reducible refine Wb.Ext.drewN ?_ _) | (with_reducible refine Wb.Ext.alloc ?_ _) | (with_reducible refine Wb.Ext.trans ?_ (by assumption))))) q0, Wb.Ext.keep (w := w9) (by (repeat' (first | (with_reducible assumption) | (with_reducible exact Wb.Ext.refl _) | (with_reducible refine Wb.Ext.drew ?_) | (with_reducible refine Wb.Ext.drewN ?_ _) | (with_reducible refine Wb.Ext.alloc ?_ _) | (with_reducible refine Wb.Ext.trans ?_ (by assumption))))) q1⟩ (fun hHeld => ?_)
          clear hK K
          (try simp only [Act.put, List.setIfInBounds_toArray, List.set_cons_zero, List.set_cons_succ])
          refine take_d (i := 3) (d := 63) (v := ?_) rfl rfl (by kernel_rfl) (by kernel_rfl) (by kernel_rfl) (fun _ _ _ h => h) (Or.inl ⟨by rfl, ?_⟩) (by assumption) ?_
          rotate_left
          · (intro w hSw; (try dsimp only at hSw); go_simp; (try with_reducible rfl))
          (try simp only [Act.put, List.setIfInBounds_toArray, List.set_cons_zero, List.set_cons_succ])
          refine take_d (i := 4) (d := 64) (v := ?_) rfl rfl (by kernel_rfl) (by kernel_rfl) (by kernel_rfl) (fun _ _ _ h => h) (Or.inl ⟨by rfl, ?_⟩) (by assumption) ?_
          rotate_left
          · (intro w hSw; (try dsimp only at hSw); go_simp; (try with_reducible rfl))
          (try simp only [Act.put, List.setIfInBounds_toArray, List.set_cons_zero, List.set_cons_succ])
          refine take_d (i := 5) (d := 65) (v := ?_) rfl rfl (by kernel_rfl) (by kernel_rfl) (by kernel_rfl) (fun _ _ _ h => h) (Or.inl ⟨by rfl, ?_⟩) (by assumption) ?_
          rotate_left
          · (intro w hSw; (try dsimp only at hSw); go_simp; (try with_reducible rfl))
          (try simp only [Act.put, List.setIfInBounds_toArray, List.set_cons_zero, List.set_cons_succ])
          refine take_d (i := 7) (d := 67) (v := ?_) rfl rfl (by kernel_rfl) (by kernel_rfl) (by kernel_rfl) (fun _ _ _ h => h) (Or.inl ⟨by rfl, ?_⟩) (by assumption) ?_
          rotate_left
          · (intro w hSw; (try dsimp only at hSw); go_simp; (try with_reducible rfl))
          (try simp only [Act.put, List.setIfInBounds_toArray, List.set_cons_zero, List.set_cons_succ])
          refine take_d (i := 8) (d := 68) (v := ?_) rfl rfl (by kernel_rfl) (by kernel_rfl) (by kernel_rfl) (fun _ _ _ h => h) (Or.inl ⟨by rfl, ?_⟩) (by assumption) ?_
          rotate_left
          · (intro w hSw; (try dsimp only at hSw); go_simp; (try with_reducible rfl))
          (try simp only [Act.put, List.setIfInBounds_toArray, List.set_cons_zero, List.set_cons_succ])
          refine take_d (i := 9) (d := 69) (v := ?_) rfl rfl (by kernel_rfl) (by kernel_rfl) (by kernel_rfl) (fun _ _ _ h => h) (Or.inl ⟨by rfl, ?_⟩) (by assumption) ?_
          rotate_left
          · (intro w hSw; (try dsimp only at hSw); go_simp; (try with_reducible rfl))
          (try simp only [Act.put, List.setIfInBounds_toArray, List.set_cons_zero, List.set_cons_succ])
          refine wpAnyH_ready (rs := [6]) (by kernel_rfl) (by simp) ?_
          refine AllReadyH.cons (o := _) rfl (fun K hK => ?_) ?_
          · go_simp
            go_at_call 17
            go_fit (acts_any (.slice ao3 B.length c3) B m3 _ (HR9.out.ext (by (repeat' (first | (with_reducible assumption) | (with_reducible exact Wb.Ext.refl _) | (with_reducible refine Wb.Ext.drew ?_) | (with_reducible refine Wb.Ext.drewN ?_ _) | (with_reducible refine Wb.Ext.alloc ?_ _) | (with_reducible refine Wb.Ext.trans ?_ (by assumption)))))).strs (by omega))
            rintro e wb ⟨ub, rfl, hub, hbb⟩
            refine hK.out _ _ ⟨Wb.Ext.keep (w := w9) (by (repeat' (first | (with_reducible assumption) | (with_reducible exact Wb.Ext.refl _) | (with_reducible refine Wb.Ext.drew ?_) | (with_reducible refine Wb.Ext.drewN ?_ _) | (with_reducible refine Wb.Ext.alloc ?_ _) | (with_reducible refine Wb.Ext.trans ?_ (by assumption))))) q0, Wb.Ext.keep (w := w9) (by (repeat' (first | (with_reducible assumption) | (with_reducible exact Wb.Ext.refl _) | (with_reducible refine Wb.Ext.drew ?_) | (with_reducible refine Wb.Ext.drewN ?_ _) | (with_reducible refine Wb.Ext.alloc ?_ _) | (with_reducible refine Wb.Ext.trans ?_ (by assumption))))) q1⟩ (fun hHeld => ?_)
            clear hK K
            (try simp only [Act.put, List.setIfInBounds_toArray, List.set_cons_zero, List.set_cons_succ])
            refine wpAnyH_ready (rs := [10]) (by kernel_rfl) (by simp) ?_
            refine AllReadyH.cons (o := _) rfl (fun K hK => ?_) ?_
            · go_simp
              go_at_call 16
              go_fit (same38_any ub _ B _ (hub.ext (by (repeat' (first | (with_reducible assumption) | (with_reducible exact Wb.Ext.refl _) | (with_reducible refine Wb.Ext.drew ?_) | (with_reducible refine Wb.Ext.drewN ?_ _) | (with_reducible refine Wb.Ext.alloc ?_ _) | (with_reducible refine Wb.Ext.trans ?_ (by assumption)))))) (HSL9.out.ext (by (repeat' (first | (with_reducible assumption) | (with_reducible exact Wb.Ext.refl _) | (with_reducible refine Wb.Ext.drew ?_) | (with_reducible refine Wb.Ext.drewN ?_ _) | (with_reducible refine Wb.Ext.alloc ?_ _) | (with_reducible refine Wb.Ext.trans ?_ (by assumption)))))) (by omega))
              rintro e wc ⟨rfl, hbc⟩
              clear hub
              refine hK.out _ _ ⟨Wb.Ext.keep (w := w9) (by (repeat' (first | (with_reducible assumption) | (with_reducible exact Wb.Ext.refl _) | (with_reducible refine Wb.Ext.drew ?_) | (with_reducible refine Wb.Ext.drewN ?_ _) | (with_reducible refine Wb.Ext.alloc ?_ _) | (with_reducible refine Wb.Ext.trans ?_ (by assumption))))) q0, Wb.Ext.keep (w := w9) (by (repeat' (first | (with_reducible assumption) | (with_reducible exact Wb.Ext.refl _) | (with_reducible refine Wb.Ext.drew ?_) | (with_reducible refine Wb.Ext.drewN ?_ _) | (with_reducible refine Wb.Ext.alloc ?_ _) | (with_reducible refine Wb.Ext.trans ?_ (by assumption))))) q1⟩ (fun hHeld => ?_)
              clear hK K
              (try simp only [Act.put, List.setIfInBounds_toArray, List.set_cons_zero, List.set_cons_succ])
              refine take_d (i := 11) (d := 71) (v := ?_) rfl rfl (by kernel_rfl) (by kernel_rfl) (by kernel_rfl) (fun _ _ _ h => h) (Or.inl ⟨by rfl, ?_⟩) (by assumption) ?_
              rotate_left
              · (intro w hSw; (try dsimp only at hSw); go_simp; (try with_reducible rfl))
              (try simp only [Act.put, List.setIfInBounds_toArray, List.set_cons_zero, List.set_cons_succ])
              refine take_d (i := 12) (d := 72) (v := ?_) rfl rfl (by kernel_rfl) (by kernel_rfl) (by kernel_rfl) (fun _ _ _ h => h) (Or.inl ⟨by rfl, ?_⟩) (by assumption) ?_
              rotate_left
              · (intro w hSw; (try dsimp only at hSw); go_simp; (try with_reducible rfl))
              (try simp only [Act.put, List.setIfInBounds_toArray, List.set_cons_zero, List.set_cons_succ])
              refine take_d (i := 13) (d := 73) (v := ?_) rfl rfl (by kernel_rfl) (by kernel_rfl) (by kernel_rfl) (fun _ _ _ h => h) (Or.inl ⟨by rfl, ?_⟩) (by assumption) ?_
              rotate_left
              · (intro w hSw; (try dsimp only at hSw); go_simp; (try with_reducible rfl))
              (try simp only [Act.put, List.setIfInBounds_toArray, List.set_cons_zero, List.set_cons_succ])
              refine take_d (i := 14) (d := 74) (v := ?_) rfl rfl (by kernel_rfl) (by kernel_rfl) (by kernel_rfl) (fun _ _ _ h => h) (Or.inl ⟨by rfl, ?_⟩) (by assumption) ?_
              rotate_left
              · (intro w hSw; (try dsimp only at hSw); go_simp; (try with_reducible rfl))
              (try simp only [Act.put, List.setIfInBounds_toArray, List.set_cons_zero, List.set_cons_succ])
              refine take_d (i := 15) (d := 75) (v := ?_) rfl rfl (by kernel_rfl) (by kernel_rfl) (by kernel_rfl) (fun _ _ _ h => h) (Or.inl ⟨by rfl, ?_⟩) (by assumption) ?_
              rotate_left
              · (intro w hSw; (try dsimp only at hSw); go_simp; (try with_reducible rfl))
              (try simp only [Act.put, List.setIfInBounds_toArray, List.set_cons_zero, List.set_cons_succ])
              refine take_d (i := 16) (d := 76) (v := ?_) rfl rfl (by kernel_rfl) (by kernel_rfl) (by kernel_rfl) (fun _ _ _ h => h) (Or.inl ⟨by rfl, ?_⟩) (by assumption) ?_
              rotate_left
              · (intro w hSw; (try dsimp only at hSw); go_simp; (try with_reducible rfl))
              (try simp only [Act.put, List.setIfInBounds_toArray, List.set_cons_zero, List.set_cons_succ])
              refine take_d (i := 17) (d := 77) (v := ?_) rfl rfl (by kernel_rfl) (by kernel_rfl) (by kernel_rfl) (fun _ _ _ h => h) (Or.inl ⟨by rfl, ?_⟩) (by assumption) ?_
              rotate_left
              · (intro w hSw; (try dsimp only at hSw); go_simp; (try with_reducible rfl))
              (try simp only [Act.put, List.setIfInBounds_toArray, List.set_cons_zero, List.set_cons_succ])
              refine take_d (i := 18) (d := 78) (v := ?_) rfl rfl (by kernel_rfl) (by kernel_rfl) (by kernel_rfl) (fun _ _ _ h => h) (Or.inl ⟨by rfl, ?_⟩) (by assumption) ?_
              rotate_left
              · (intro w hSw; (try dsimp only at hSw); go_simp; (try with_reducible rfl))
              (try simp only [Act.put, List.setIfInBounds_toArray, List.set_cons_zero, List.set_cons_succ])
              refine take_d (i := 19) (d := 79) (v := ?_) rfl rfl (by kernel_rfl) (by kernel_rfl) (by kernel_rfl) (fun _ _ _ h => h) (Or.inl ⟨by rfl, ?_⟩) (by assumption) ?_
              rotate_left
              · (intro w hSw; (try dsimp only at hSw); go_simp; (try with_reducible rfl))
              (try simp only [Act.put, List.setIfInBounds_toArray, List.set_cons_zero, List.set_cons_succ])
              refine take_d (i := 20) (d := 80) (v := ?_) rfl rfl (by kernel_rfl) (by kernel_rfl) (by kernel_rfl) (fun _ _ _ h => h) (Or.inl ⟨by rfl, ?_⟩) (by assumption) ?_
              rotate_left
              · (intro w hSw; (try dsimp only at hSw); go_simp; (try with_reducible rfl))
              (try simp only [Act.put, List.setIfInBounds_toArray, List.set_cons_zero, List.set_cons_succ])
              refine take_d (i := 21) (d := 81) (v := ?_) rfl rfl (by kernel_rfl) (by kernel_rfl) (by kernel_rfl) (fun _ _ _ h => h) (Or.inl ⟨by rfl, ?_⟩) (by assumption) ?_
              rotate_left
              · (intro w hSw; (try dsimp only at hSw); go_simp; (try with_reducible rfl))
              (try simp only [Act.put, List.setIfInBounds_toArray, List.set_cons_zero, List.set_cons_succ])
              refine take_d (i := 22) (d := 82) (v := ?_) rfl rfl (by kernel_rfl) (by kernel_rfl) (by kernel_rfl) (fun _ _ _ h => h) (Or.inl ⟨by rfl, ?_⟩) (by assumption) ?_
              rotate_left
              · (intro w hSw; (try dsimp only at hSw); go_simp; (try with_reducible rfl))
              (try simp only [Act.put, List.setIfInBounds_toArray, List.set_cons_zero, List.set_cons_succ])
              refine take_d (i := 23) (d := 83) (v := ?_) rfl rfl (by kernel_rfl) (by kernel_rfl) (by kernel_rfl) (fun _ _ _ h => h) (Or.inl ⟨by rfl, ?_⟩) (by assumption) ?_
              rotate_left
              · (intro w hSw; (try dsimp only at hSw); go_simp; (try with_reducible rfl))
              (try simp only [Act.put, List.setIfInBounds_toArray, List.set_cons_zero, List.set_cons_succ])
              refine take_d (i := 24) (d := 84) (v := ?_) rfl rfl (by kernel_rfl) (by kernel_rfl) (by kernel_rfl) (fun _ _ _ h => h) (Or.inl ⟨by rfl, ?_⟩) (by assumption) ?_
              rotate_left
              · (intro w hSw; (try dsimp only at hSw); go_simp; (try with_reducible rfl))
              (try simp only [Act.put, List.setIfInBounds_toArray, List.set_cons_zero, List.set_cons_succ])
              refine take_d (i := 25) (d := 85) (v := ?_) rfl rfl (by kernel_rfl) (by kernel_rfl) (by kernel_rfl) (fun _ _ _ h => h) (Or.inl ⟨by rfl, ?_⟩) (by assumption) ?_
              rotate_left
              · (intro w hSw; (try dsimp only at hSw); go_simp; (try with_reducible rfl))
              (try simp only [Act.put, List.setIfInBounds_toArray, List.set_cons_zero, List.set_cons_succ])
              refine wpAnyH_done (by kernel_rfl) ?_ _
              have hx9c : Wb.Ext w9 wc := by (repeat' (first | (with_reducible assumption) | (with_reducible exact Wb.Ext.refl _) | (with_reducible refine Wb.Ext.drew ?_) | (with_reducible refine Wb.Ext.drewN ?_ _) | (with_reducible refine Wb.Ext.alloc ?_ _) | (with_reducible refine Wb.Ext.trans ?_ (by assumption))))
              have q0 := hx9c.keep q0
              have q1 := hx9c.keep q1
              have HX12 := Lib.hid (HX9.out.trans hx9c)
              have HRC := Lib.hid (HR9.out.ext hx9c)
              have HLC : Hid (LogV wc (.agg #[.slice ao3 B.length c3, .int .u64 (m3 : Int)]) B) := ⟨_, _, rfl, HRC.out, HM3.out⟩
              obtain ⟨MB, hMB⟩ : ∃ M, (if B = [] then Wb.mfirst else m3 : Nat) = M := ⟨_, rfl⟩
              have HMB := Lib.hid hMB
              clear hba hbb hbc hMB
              by_cases hok : wrongOf B.length more = 0
              · obtain ⟨KA, hKK⟩ : ∃ KA, B ++ [more] = KA := ⟨_, rfl⟩
                have hKl : KA.length = B.length + 1 := by rw [← hKK]; simp
                have hm4 : more.length ≤ 4096 := (wrong_ok.1 hok).2.1
                have HK5 := Lib.hid (show ∀ x ∈ KA, x.length ≤ 5000 by
                  intro x hx
                  rw [← hKK] at hx
                  rcases List.mem_append.1 hx with q | q
                  · exact HB5.out x q
                  · rw [List.mem_singleton.1 q]; omega)
                have hK50 : KA.length ≤ 50 := by omega
                obtain ⟨TK, hTK⟩ : ∃ TK, Wb.textL KA = TK := ⟨_, rfl⟩
                have hTKl : TK.length ≤ 1000000 := by rw [← hTK]; exact Wb.textL_len HK5.out (by omega)
                have HTK := Lib.hid hTK
                have HKK := Lib.hid hKK
                have HWO := Lib.hid hok
                clear hKK hTK hok hKl
                go_wp2_with fail
                go_fit (append_ok2 _ B more _ HLC.out (by omega) (by omega) (wrong_ok.1 HWO.out)); rintro e wp ⟨sv, m5, rfl, hu, hfr, hbp⟩
                rw [HKK.out] at hu
                obtain ⟨sv', m5', hee, hr5, hm5⟩ := hu
                obtain ⟨rfl, rfl⟩ : sv = sv' ∧ m5 = m5' := by simp at hee; exact ⟨hee.1, by omega⟩
                obtain ⟨ao5, c5, rfl, _, _, _⟩ := hr5.shape
                have HR5 := Lib.hid hr5
                have HM5 := Lib.hid hm5
                clear hee hfr hr5 hm5
                have q0 := hbp.keep q0
                have q1 := hbp.keep q1
                have HXP := Lib.hid (HX12.out.trans hbp)
                have HROWP := Lib.hid ((HROW9.out.ext hx9c).ext hbp)
                go_upto_region 14 with (fail)
                refine Wb.wp_at fun wt hwt => ?_
                have hxt : Wb.Ext wp wt := by rw [hwt]; (repeat' (first | (with_reducible assumption) | (with_reducible exact Wb.Ext.refl _) | (with_reducible refine Wb.Ext.drew ?_) | (with_reducible refine Wb.Ext.drewN ?_ _) | (with_reducible refine Wb.Ext.alloc ?_ _) | (with_reducible refine Wb.ext_set ?_ (by first | assumption | (simp; done) | (simp; omega) | omega) _) | (with_reducible refine Wb.Ext.trans ?_ (by assumption))))
                have r0 : wt.cell? ⟨wp.heap.size, 0, none⟩ = some (.slice ao5 KA.length c5) := by rw [hwt]; simp [go_sem]
                have r1 : wt.cell? ⟨wp.heap.size, 1, none⟩ = some (.int .u64 (m5 : Int)) := by rw [hwt]; simp [go_sem]
                have q0 := hxt.keep q0
                have q1 := hxt.keep q1
                have HXT := Lib.hid (HXP.out.trans hxt)
                have HROWT := Lib.hid (HROWP.out.ext hxt)
                have HXPT := Lib.hid hxt
                clear hwt hxt
                have hown0 : (wt.alloc (.cells #[] 9)).ownsRow wt.heap.size 9 1 (.slice (some ⟨wt.heap.size, 0, none⟩) 0 0) 0 [] :=
                  ⟨rfl, .inr ⟨wt.heap.size, 0, #[], rfl, Nat.le_refl _, by show (wt.heap.push _)[wt.heap.size]? = _; simp, by simp, by simp, by simp, by simp⟩⟩
                obtain ⟨hi, hz0, hz1', hz2⟩ := HIN.out
                go_wp2_with (at_builtin; go_loud (refine Wb.wpList_append_row rfl (.tmp 93) (.tmp 96) 22 rfl wt.heap.size 9 i0 (.string "".toUTF8) 1 16 Tryd.underlying22 hi hz0 hz1' hz2 rfl (by decide) _ _ _ rfl hown0 _ rfl B.length (rowsOf strc B) ?c1 ?c2 ?c3 ?c4 ?c5 ?_))
                case c1 => exact HCUTS.out _ (HROWT.out.ext ((Wb.Ext.refl wt).alloc _))
                case c2 => exact strc_one B
                case c3 => unfold maxLen; omega
                case c4 => omega
                case c5 => simp
                intro u2 wu hown2 hg2 hnil2
                try simp only [Nat.zero_add, List.nil_append] at hown2
                have hxu : Wb.Ext wt wu := ((Wb.Ext.refl wt).alloc _).grown hg2 (by intro k hk; cases hk; exact Nat.le_refl _)
                obtain ⟨a2, c22, rfl⟩ := row_shape hown2
                have HO2 := Lib.hid hown2
                clear hown0 hown2 hg2 hnil2
                go_wp2_with (at_builtin; go_loud (refine Wb.wpList_append_row rfl (.tmp 97) (.tmp 99) 22 rfl wt.heap.size 9 i0 (.string "".toUTF8) 1 16 Tryd.underlying22 hi hz0 hz1' hz2 rfl (by decide) _ _ _ rfl (HO2.out.alloc _) (.slice (some ⟨wu.heap.size, 0, none⟩) 1 1) rfl 1 [.string (Wb.S more)] ?d1 ?d2 ?d3 ?d4 ?d5 ?_))
                case d1 => exact src_lit wu _ rfl [.string (Wb.S more)] _ _
                case d2 => intro u hu; simp at hu; subst hu; rfl
                case d3 => unfold maxLen; omega
                case d4 => omega
                case d5 => have := hxu.size; simp; omega
                intro u4 wv hown4 hg4 hnil4
                have hxv : Wb.Ext wt wv := Wb.Ext.grown (w' := wu.alloc (.cells #[.string (Wb.S more)] 9)) (hxu.alloc _) hg4 (fun k hk => (HO2.out.lt k hk).1)
                obtain ⟨O, hO⟩ : ∃ O, B ++ [more] = O := ⟨_, rfl⟩
                have hOl : O.length = B.length + 1 := by rw [← hO]; simp
                have HOS := Lib.hid (show Strs1 wv u4 O from row_tbl strc_len (by decide) (by rw [← hO, rowsOf_app, rowsOf_one]; exact hown4))
                have HO5 := Lib.hid (show ∀ x ∈ O, x.length ≤ 50000 by
                  intro x hx
                  rw [← hO] at hx
                  rcases List.mem_append.1 hx with q | q
                  · exact Nat.le_trans (HB5.out x q) (by omega)
                  · rw [List.mem_singleton.1 q]; omega)
                have hO50 : O.length ≤ 100 := by omega
                have q0 := hxv.keep q0
                have q1 := hxv.keep q1
                have r0 := hxv.keep r0
                have r1 := hxv.keep r1
                have HXV := Lib.hid (HXT.out.trans hxv)
                have HXPV := Lib.hid (HXPT.out.trans hxv)
                have HMADE := Lib.hid (show madeL O = KA by rw [← hO, madeL_snoc, madeL_back HOKB.out, madeS, if_pos HWO.out, HKK.out])
                clear hi hz0 hz1' hz2 hown4 hg4 hnil4 hxu hxv hO hOl
                go_wp2_with fail
                go_fit (made_any _ O _ HOS.out (by omega) HO5.out); rintro e wq ⟨x5, u5, m7, rfl, hlog5, hrow5, hb18⟩
                rw [HMADE.out] at hlog5 hrow5
                obtain ⟨x6, m6, hee5, hr5, hm5⟩ := hlog5
                obtain ⟨rfl, rfl⟩ : x5 = x6 ∧ m7 = m6 := by simp at hee5; exact ⟨hee5.1, by omega⟩
                obtain ⟨ao7, c7, rfl, _, _, _⟩ := hr5.shape
                obtain ⟨ao6, c6, rfl, _, _, _⟩ := hrow5.shape
                have HR7 := Lib.hid hr5
                have HM7 := Lib.hid hm5
                have q0 := hb18.keep q0
                have q1 := hb18.keep q1
                have r0 := hb18.keep r0
                have r1 := hb18.keep r1
                have HXQ := Lib.hid (HXV.out.trans hb18)
                have HXPQ := Lib.hid (HXPV.out.trans hb18)
                clear hee5 hr5 hm5 hrow5 hb18
                go_upto_region 15 with (fail)
                refine Wb.wp_at fun wr9 hwr9 => ?_
                have hxr : Wb.Ext wq wr9 := by rw [hwr9]; (repeat' (first | (with_reducible assumption) | (with_reducible exact Wb.Ext.refl _) | (with_reducible refine Wb.Ext.drew ?_) | (with_reducible refine Wb.Ext.drewN ?_ _) | (with_reducible refine Wb.Ext.alloc ?_ _) | (with_reducible refine Wb.ext_set ?_ (by first | assumption | (simp; done) | (simp; omega) | omega) _) | (with_reducible refine Wb.Ext.trans ?_ (by assumption))))
                have s0 : wr9.cell? ⟨wq.heap.size, 0, none⟩ = some (.slice ao7 KA.length c7) := by rw [hwr9]; simp [go_sem]
                have s1 : wr9.cell? ⟨wq.heap.size, 1, none⟩ = some (.int .u64 (m7 : Int)) := by rw [hwr9]; simp [go_sem]
                have q0 := hxr.keep q0
                have q1 := hxr.keep q1
                have r0 := hxr.keep r0
                have r1 := hxr.keep r1
                have HXR := Lib.hid (HXQ.out.trans hxr)
                clear hwr9
                have HLP : Hid (LogV wr9 (.agg #[.slice ao5 KA.length c5, .int .u64 (m5 : Int)]) KA) := ⟨_, _, rfl, HR5.out.ext (HXPQ.out.trans hxr), HM5.out⟩
                have HLQ : Hid (LogV wr9 (.agg #[.slice ao7 KA.length c7, .int .u64 (m7 : Int)]) KA) := ⟨_, _, rfl, HR7.out.ext hxr, HM7.out⟩
                refine wp_region_held_drew (S := (fun w' => w'.cell? ⟨w8.heap.size, 0, none⟩ = some (.slice ao3 B.length c3) ∧ w'.cell? ⟨w8.heap.size, 1, none⟩ = some (.int .u64 (m3 : Int)) ∧ w'.cell? ⟨wp.heap.size, 0, none⟩ = some ((.slice ao5 KA.length c5)) ∧ w'.cell? ⟨wp.heap.size, 1, none⟩ = some (.int .u64 (m5 : Int)) ∧ w'.cell? ⟨wq.heap.size, 0, none⟩ = some (.slice ao7 KA.length c7) ∧ w'.cell? ⟨wq.heap.size, 1, none⟩ = some (.int .u64 (m7 : Int)))) (by kernel_rfl) ⟨q0, q1, r0, r1, s0, s1⟩ (fun hHeld => ?_)
                refine take_d (i := 0) (d := 104) (v := ?_) rfl rfl (by kernel_rfl) (by kernel_rfl) (by kernel_rfl) (fun _ _ _ h => h) (Or.inl ⟨by rfl, ?_⟩) (by assumption) ?_
                rotate_left
                · (intro w hSw; (try dsimp only at hSw); go_simp; (try with_reducible rfl))
                (try simp only [Act.put, List.setIfInBounds_toArray, List.set_cons_zero, List.set_cons_succ])
                refine take_d (i := 1) (d := 105) (v := ?_) rfl rfl (by kernel_rfl) (by kernel_rfl) (by kernel_rfl) (fun _ _ _ h => h) (Or.inl ⟨by rfl, ?_⟩) (by assumption) ?_
                rotate_left
                · (intro w hSw; (try dsimp only at hSw); go_simp; (try with_reducible rfl))
                (try simp only [Act.put, List.setIfInBounds_toArray, List.set_cons_zero, List.set_cons_succ])
                refine take_d (i := 2) (d := 106) (v := ?_) rfl rfl (by kernel_rfl) (by kernel_rfl) (by kernel_rfl) (fun _ _ _ h => h) (Or.inl ⟨by rfl, ?_⟩) (by assumption) ?_
                rotate_left
                · (intro w hSw; (try dsimp only at hSw); go_simp; (try with_reducible rfl))
                (try simp only [Act.put, List.setIfInBounds_toArray, List.set_cons_zero, List.set_cons_succ])
                refine take_d (i := 3) (d := 107) (v := undef) rfl rfl (by kernel_rfl) (by kernel_rfl) (by kernel_rfl) (fun _ _ _ h => h) (Or.inr ⟨by rfl, rfl⟩) (by assumption) ?_
                (try simp only [Act.put, List.setIfInBounds_toArray, List.set_cons_zero, List.set_cons_succ])
                refine take_d (i := 4) (d := 108) (v := undef) rfl rfl (by kernel_rfl) (by kernel_rfl) (by kernel_rfl) (fun _ _ _ h => h) (Or.inr ⟨by rfl, rfl⟩) (by assumption) ?_
                (try simp only [Act.put, List.setIfInBounds_toArray, List.set_cons_zero, List.set_cons_succ])
                refine take_d (i := 5) (d := 109) (v := undef) rfl rfl (by kernel_rfl) (by kernel_rfl) (by kernel_rfl) (fun _ _ _ h => h) (Or.inr ⟨by rfl, rfl⟩) (by assumption) ?_
                (try simp only [Act.put, List.setIfInBounds_toArray, List.set_cons_zero, List.set_cons_succ])
                refine take_d (i := 6) (d := 110) (v := undef) rfl rfl (by kernel_rfl) (by kernel_rfl) (by kernel_rfl) (fun _ _ _ h => h) (Or.inr ⟨by rfl, rfl⟩) (by assumption) ?_
                (try simp only [Act.put, List.setIfInBounds_toArray, List.set_cons_zero, List.set_cons_succ])
                refine take_d (i := 7) (d := 111) (v := undef) rfl rfl (by kernel_rfl) (by kernel_rfl) (by kernel_rfl) (fun _ _ _ h => h) (Or.inr ⟨by rfl, rfl⟩) (by assumption) ?_
                (try simp only [Act.put, List.setIfInBounds_toArray, List.set_cons_zero, List.set_cons_succ])
                refine take_d (i := 8) (d := 112) (v := ?_) rfl rfl (by kernel_rfl) (by kernel_rfl) (by kernel_rfl) (fun _ _ _ h => h) (Or.inl ⟨by rfl, ?_⟩) (by assumption) ?_
                rotate_left
                · (intro w hSw; (try dsimp only at hSw); go_simp; (try with_reducible rfl))
                (try simp only [Act.put, List.setIfInBounds_toArray, List.set_cons_zero, List.set_cons_succ])
                refine take_d (i := 9) (d := 113) (v := ?_) rfl rfl (by kernel_rfl) (by kernel_rfl) (by kernel_rfl) (fun _ _ _ h => h) (Or.inl ⟨by rfl, ?_⟩) (by assumption) ?_
                rotate_left
                · (intro w hSw; (try dsimp only at hSw); go_simp; (try with_reducible rfl))
                (try simp only [Act.put, List.setIfInBounds_toArray, List.set_cons_zero, List.set_cons_succ])
                refine take_d (i := 10) (d := 114) (v := ?_) rfl rfl (by kernel_rfl) (by kernel_rfl) (by kernel_rfl) (fun _ _ _ h => h) (Or.inl ⟨by rfl, ?_⟩) (by assumption) ?_
                rotate_left
                · (intro w hSw; (try dsimp only at hSw); go_simp; (try with_reducible rfl))
                (try simp only [Act.put, List.setIfInBounds_toArray, List.set_cons_zero, List.set_cons_succ])
                refine take_d (i := 11) (d := 115) (v := ?_) rfl rfl (by kernel_rfl) (by kernel_rfl) (by kernel_rfl) (fun _ _ _ h => h) (Or.inl ⟨by rfl, ?_⟩) (by assumption) ?_
                rotate_left
                · (intro w hSw; (try dsimp only at hSw); go_simp; (try with_reducible rfl))
                (try simp only [Act.put, List.setIfInBounds_toArray, List.set_cons_zero, List.set_cons_succ])
                refine take_d (i := 12) (d := 116) (v := ?_) rfl rfl (by kernel_rfl) (by kernel_rfl) (by kernel_rfl) (fun _ _ _ h => h) (Or.inl ⟨by rfl, ?_⟩) (by assumption) ?_
                rotate_left
                · (intro w hSw; (try dsimp only at hSw); go_simp; (try with_reducible rfl))
                (try simp only [Act.put, List.setIfInBounds_toArray, List.set_cons_zero, List.set_cons_succ])
                refine take_d (i := 13) (d := 117) (v := ?_) rfl rfl (by kernel_rfl) (by kernel_rfl) (by kernel_rfl) (fun _ _ _ h => h) (Or.inl ⟨by rfl, ?_⟩) (by assumption) ?_
                rotate_left
                · (intro w hSw; (try dsimp only at hSw); go_simp; (try with_reducible rfl))
                (try simp only [Act.put, List.setIfInBounds_toArray, List.set_cons_zero, List.set_cons_succ])
                refine take_d (i := 15) (d := 119) (v := ?_) rfl rfl (by kernel_rfl) (by kernel_rfl) (by kernel_rfl) (fun _ _ _ h => h) (Or.inl ⟨by rfl, ?_⟩) (by assumption) ?_
                rotate_left
                · (intro w hSw; (try dsimp only at hSw); go_simp; (try with_reducible rfl))
                (try simp only [Act.put, List.setIfInBounds_toArray, List.set_cons_zero, List.set_cons_succ])
                refine wpAnyH_ready (rs := [14]) (by kernel_rfl) (by simp) ?_
                refine AllReadyH.cons (o := _) rfl (fun K hK => ?_) ?_
                · go_simp
                  go_at_call 18
                  go_fit (text_any _ KA _ (HLP.out.ext (by (repeat' (first | (with_reducible assumption) | (with_reducible exact Wb.Ext.refl _) | (with_reducible refine Wb.Ext.drew ?_) | (with_reducible refine Wb.Ext.drewN ?_ _) | (with_reducible refine Wb.Ext.alloc ?_ _) | (with_reducible refine Wb.Ext.trans ?_ (by assumption)))))) (by omega) (fun s hs => Nat.le_trans (HK5.out s hs) (by omega)) (by rw [HTK.out]; omega) ((HT.out.ext HXR.out).ext (by (repeat' (first | (with_reducible assumption) | (with_reducible exact Wb.Ext.refl _) | (with_reducible refine Wb.Ext.drew ?_) | (with_reducible refine Wb.Ext.drewN ?_ _) | (with_reducible refine Wb.Ext.alloc ?_ _) | (with_reducible refine Wb.Ext.trans ?_ (by assumption)))))))
                  rintro e wa2 ⟨rfl, hba2⟩
                  rw [HTK.out]
                  refine hK.out _ _ ⟨Wb.Ext.keep (w := wr9) (by (repeat' (first | (with_reducible assumption) | (with_reducible exact Wb.Ext.refl _) | (with_reducible refine Wb.Ext.drew ?_) | (with_reducible refine Wb.Ext.drewN ?_ _) | (with_reducible refine Wb.Ext.alloc ?_ _) | (with_reducible refine Wb.Ext.trans ?_ (by assumption))))) q0, Wb.Ext.keep (w := wr9) (by (repeat' (first | (with_reducible assumption) | (with_reducible exact Wb.Ext.refl _) | (with_reducible refine Wb.Ext.drew ?_) | (with_reducible refine Wb.Ext.drewN ?_ _) | (with_reducible refine Wb.Ext.alloc ?_ _) | (with_reducible refine Wb.Ext.trans ?_ (by assumption))))) q1, Wb.Ext.keep (w := wr9) (by (repeat' (first | (with_reducible assumption) | (with_reducible exact Wb.Ext.refl _) | (with_reducible refine Wb.Ext.drew ?_) | (with_reducible refine Wb.Ext.drewN ?_ _) | (with_reducible refine Wb.Ext.alloc ?_ _) | (with_reducible refine Wb.Ext.trans ?_ (by assumption))))) r0, Wb.Ext.keep (w := wr9) (by (repeat' (first | (with_reducible assumption) | (with_reducible exact Wb.Ext.refl _) | (with_reducible refine Wb.Ext.drew ?_) | (with_reducible refine Wb.Ext.drewN ?_ _) | (with_reducible refine Wb.Ext.alloc ?_ _) | (with_reducible refine Wb.Ext.trans ?_ (by assumption))))) r1, Wb.Ext.keep (w := wr9) (by (repeat' (first | (with_reducible assumption) | (with_reducible exact Wb.Ext.refl _) | (with_reducible refine Wb.Ext.drew ?_) | (with_reducible refine Wb.Ext.drewN ?_ _) | (with_reducible refine Wb.Ext.alloc ?_ _) | (with_reducible refine Wb.Ext.trans ?_ (by assumption))))) s0, Wb.Ext.keep (w := wr9) (by (repeat' (first | (with_reducible assumption) | (with_reducible exact Wb.Ext.refl _) | (with_reducible refine Wb.Ext.drew ?_) | (with_reducible refine Wb.Ext.drewN ?_ _) | (with_reducible refine Wb.Ext.alloc ?_ _) | (with_reducible refine Wb.Ext.trans ?_ (by assumption))))) s1⟩ (fun hHeld => ?_)
                  clear hK K
                  (try simp only [Act.put, List.setIfInBounds_toArray, List.set_cons_zero, List.set_cons_succ])
                  refine wpAnyH_ready (rs := [16]) (by kernel_rfl) (by simp) ?_
                  refine AllReadyH.cons (o := _) rfl (fun K hK => ?_) ?_
                  · go_simp
                    go_at_call 18
                    go_fit (text_any _ KA _ (HLQ.out.ext (by (repeat' (first | (with_reducible assumption) | (with_reducible exact Wb.Ext.refl _) | (with_reducible refine Wb.Ext.drew ?_) | (with_reducible refine Wb.Ext.drewN ?_ _) | (with_reducible refine Wb.Ext.alloc ?_ _) | (with_reducible refine Wb.Ext.trans ?_ (by assumption)))))) (by omega) (fun s hs => Nat.le_trans (HK5.out s hs) (by omega)) (by rw [HTK.out]; omega) ((HT.out.ext HXR.out).ext (by (repeat' (first | (with_reducible assumption) | (with_reducible exact Wb.Ext.refl _) | (with_reducible refine Wb.Ext.drew ?_) | (with_reducible refine Wb.Ext.drewN ?_ _) | (with_reducible refine Wb.Ext.alloc ?_ _) | (with_reducible refine Wb.Ext.trans ?_ (by assumption)))))))
                    rintro e wb2 ⟨rfl, hbb2⟩
                    rw [HTK.out]
                    refine hK.out _ _ ⟨Wb.Ext.keep (w := wr9) (by (repeat' (first | (with_reducible assumption) | (with_reducible exact Wb.Ext.refl _) | (with_reducible refine Wb.Ext.drew ?_) | (with_reducible refine Wb.Ext.drewN ?_ _) | (with_reducible refine Wb.Ext.alloc ?_ _) | (with_reducible refine Wb.Ext.trans ?_ (by assumption))))) q0, Wb.Ext.keep (w := wr9) (by (repeat' (first | (with_reducible assumption) | (with_reducible exact Wb.Ext.refl _) | (with_reducible refine Wb.Ext.drew ?_) | (with_reducible refine Wb.Ext.drewN ?_ _) | (with_reducible refine Wb.Ext.alloc ?_ _) | (with_reducible refine Wb.Ext.trans ?_ (by assumption))))) q1, Wb.Ext.keep (w := wr9) (by (repeat' (first | (with_reducible assumption) | (with_reducible exact Wb.Ext.refl _) | (with_reducible refine Wb.Ext.drew ?_) | (with_reducible refine Wb.Ext.drewN ?_ _) | (with_reducible refine Wb.Ext.alloc ?_ _) | (with_reducible refine Wb.Ext.trans ?_ (by assumption))))) r0, Wb.Ext.keep (w := wr9) (by (repeat' (first | (with_reducible assumption) | (with_reducible exact Wb.Ext.refl _) | (with_reducible refine Wb.Ext.drew ?_) | (with_reducible refine Wb.Ext.drewN ?_ _) | (with_reducible refine Wb.Ext.alloc ?_ _) | (with_reducible refine Wb.Ext.trans ?_ (by assumption))))) r1, Wb.Ext.keep (w := wr9) (by (repeat' (first | (with_reducible assumption) | (with_reducible exact Wb.Ext.refl _) | (with_reducible refine Wb.Ext.drew ?_) | (with_reducible refine Wb.Ext.drewN ?_ _) | (with_reducible refine Wb.Ext.alloc ?_ _) | (with_reducible refine Wb.Ext.trans ?_ (by assumption))))) s0, Wb.Ext.keep (w := wr9) (by (repeat' (first | (with_reducible assumption) | (with_reducible exact Wb.Ext.refl _) | (with_reducible refine Wb.Ext.drew ?_) | (with_reducible refine Wb.Ext.drewN ?_ _) | (with_reducible refine Wb.Ext.alloc ?_ _) | (with_reducible refine Wb.Ext.trans ?_ (by assumption))))) s1⟩ (fun hHeld => ?_)
                    clear hK K
                    (try simp only [Act.put, List.setIfInBounds_toArray, List.set_cons_zero, List.set_cons_succ])
                    refine take_d (i := 17) (d := 121) (v := ?_) rfl rfl (by kernel_rfl) (by kernel_rfl) (by kernel_rfl) (fun _ _ _ h => h) (Or.inl ⟨by rfl, ?_⟩) (by assumption) ?_
                    rotate_left
                    · (intro w hSw; (try dsimp only at hSw); go_simp; (try with_reducible rfl))
                    (try simp only [Act.put, List.setIfInBounds_toArray, List.set_cons_zero, List.set_cons_succ])
                    refine take_d (i := 18) (d := 122) (v := ?_) rfl rfl (by kernel_rfl) (by kernel_rfl) (by kernel_rfl) (fun _ _ _ h => h) (Or.inl ⟨by rfl, ?_⟩) (by assumption) ?_
                    rotate_left
                    · (intro w hSw; (try dsimp only at hSw); go_simp; (try with_reducible rfl))
                    (try simp only [Act.put, List.setIfInBounds_toArray, List.set_cons_zero, List.set_cons_succ])
                    refine take_d (i := 19) (d := 123) (v := ?_) rfl rfl (by kernel_rfl) (by kernel_rfl) (by kernel_rfl) (fun _ _ _ h => h) (Or.inl ⟨by rfl, ?_⟩) (by assumption) ?_
                    rotate_left
                    · (intro w hSw; (try dsimp only at hSw); go_simp; (try with_reducible rfl))
                    (try simp only [Act.put, List.setIfInBounds_toArray, List.set_cons_zero, List.set_cons_succ])
                    refine take_d (i := 20) (d := 6) (v := ?_) rfl rfl (by kernel_rfl) (by kernel_rfl) (by kernel_rfl) (fun _ _ _ h => h) (Or.inl ⟨by rfl, ?_⟩) (by assumption) ?_
                    rotate_left
                    · (intro w hSw; (try dsimp only at hSw); go_simp; (try with_reducible rfl))
                    (try simp only [Act.put, List.setIfInBounds_toArray, List.set_cons_zero, List.set_cons_succ])
                    refine wpAnyH_done (by kernel_rfl) ?_ _
                    go_wp2
                    go_ret
                    exact ⟨rfl, HXR.out.trans (by (repeat' (first | (with_reducible assumption) | (with_reducible exact Wb.Ext.refl _) | (with_reducible refine Wb.Ext.drew ?_) | (with_reducible refine Wb.Ext.drewN ?_ _) | (with_reducible refine Wb.Ext.alloc ?_ _) | (with_reducible refine Wb.Ext.trans ?_ (by assumption)))))⟩
                  exact AllReadyH.nil
                exact AllReadyH.nil
              · obtain ⟨q, hq⟩ : ∃ q, wrongOf B.length more = q := ⟨_, rfl⟩
                have HQ := Lib.hid hq
                have e0 : (q == 0) = false := by rw [← hq]; simpa using hok
                have e1 : (q != 0) = true := by rw [← hq]; simpa using hok
                have HNO := Lib.hid hok
                clear hq hok
                go_wp2_with fail
                go_fit (append_no _ B more _ HLC.out (by omega) HNO.out); rintro e wp ⟨rfl, hbp⟩
                rw [HQ.out]
                have q0 := hbp.keep q0
                have q1 := hbp.keep q1
                have HXP := Lib.hid (HX12.out.trans hbp)
                have HROWP := Lib.hid ((HROW9.out.ext hx9c).ext hbp)
                go_upto_region 14 with (fail)
                refine Wb.wp_at fun wt hwt => ?_
                have hxt : Wb.Ext wp wt := by rw [hwt]; (repeat' (first | (with_reducible assumption) | (with_reducible exact Wb.Ext.refl _) | (with_reducible refine Wb.Ext.drew ?_) | (with_reducible refine Wb.Ext.drewN ?_ _) | (with_reducible refine Wb.Ext.alloc ?_ _) | (with_reducible refine Wb.ext_set ?_ (by first | assumption | (simp; done) | (simp; omega) | omega) _) | (with_reducible refine Wb.Ext.trans ?_ (by assumption))))
                have r0 : wt.cell? ⟨wp.heap.size, 0, none⟩ = some (.slice ao3 B.length c3) := by rw [hwt]; simp [go_sem]
                have r1 : wt.cell? ⟨wp.heap.size, 1, none⟩ = some (.int .u64 (m3 : Int)) := by rw [hwt]; simp [go_sem]
                have q0 := hxt.keep q0
                have q1 := hxt.keep q1
                have HXT := Lib.hid (HXP.out.trans hxt)
                have HROWT := Lib.hid (HROWP.out.ext hxt)
                have HXPT := Lib.hid hxt
                clear hwt hxt
                have hown0 : (wt.alloc (.cells #[] 9)).ownsRow wt.heap.size 9 1 (.slice (some ⟨wt.heap.size, 0, none⟩) 0 0) 0 [] :=
                  ⟨rfl, .inr ⟨wt.heap.size, 0, #[], rfl, Nat.le_refl _, by show (wt.heap.push _)[wt.heap.size]? = _; simp, by simp, by simp, by simp, by simp⟩⟩
                obtain ⟨hi, hz0, hz1', hz2⟩ := HIN.out
                go_wp2_with (at_builtin; go_loud (refine Wb.wpList_append_row rfl (.tmp 93) (.tmp 96) 22 rfl wt.heap.size 9 i0 (.string "".toUTF8) 1 16 Tryd.underlying22 hi hz0 hz1' hz2 rfl (by decide) _ _ _ rfl hown0 _ rfl B.length (rowsOf strc B) ?c1 ?c2 ?c3 ?c4 ?c5 ?_))
                case c1 => exact HCUTS.out _ (HROWT.out.ext ((Wb.Ext.refl wt).alloc _))
                case c2 => exact strc_one B
                case c3 => unfold maxLen; omega
                case c4 => omega
                case c5 => simp
                intro u2 wu hown2 hg2 hnil2
                try simp only [Nat.zero_add, List.nil_append] at hown2
                have hxu : Wb.Ext wt wu := ((Wb.Ext.refl wt).alloc _).grown hg2 (by intro k hk; cases hk; exact Nat.le_refl _)
                obtain ⟨a2, c22, rfl⟩ := row_shape hown2
                have HO2 := Lib.hid hown2
                clear hown0 hown2 hg2 hnil2
                go_wp2_with (at_builtin; go_loud (refine Wb.wpList_append_row rfl (.tmp 97) (.tmp 99) 22 rfl wt.heap.size 9 i0 (.string "".toUTF8) 1 16 Tryd.underlying22 hi hz0 hz1' hz2 rfl (by decide) _ _ _ rfl (HO2.out.alloc _) (.slice (some ⟨wu.heap.size, 0, none⟩) 1 1) rfl 1 [.string (Wb.S more)] ?d1 ?d2 ?d3 ?d4 ?d5 ?_))
                case d1 => exact src_lit wu _ rfl [.string (Wb.S more)] _ _
                case d2 => intro u hu; simp at hu; subst hu; rfl
                case d3 => unfold maxLen; omega
                case d4 => omega
                case d5 => have := hxu.size; simp; omega
                intro u4 wv hown4 hg4 hnil4
                have hxv : Wb.Ext wt wv := Wb.Ext.grown (w' := wu.alloc (.cells #[.string (Wb.S more)] 9)) (hxu.alloc _) hg4 (fun k hk => (HO2.out.lt k hk).1)
                obtain ⟨O, hO⟩ : ∃ O, B ++ [more] = O := ⟨_, rfl⟩
                have hOl : O.length = B.length + 1 := by rw [← hO]; simp
                have HOS := Lib.hid (show Strs1 wv u4 O from row_tbl strc_len (by decide) (by rw [← hO, rowsOf_app, rowsOf_one]; exact hown4))
                have HO5 := Lib.hid (show ∀ x ∈ O, x.length ≤ 50000 by
                  intro x hx
                  rw [← hO] at hx
                  rcases List.mem_append.1 hx with q | q
                  · exact Nat.le_trans (HB5.out x q) (by omega)
                  · rw [List.mem_singleton.1 q]; omega)
                have hO50 : O.length ≤ 100 := by omega
                have q0 := hxv.keep q0
                have q1 := hxv.keep q1
                have r0 := hxv.keep r0
                have r1 := hxv.keep r1
                have HXV := Lib.hid (HXT.out.trans hxv)
                have HXPV := Lib.hid (HXPT.out.trans hxv)
                have HMADE := Lib.hid (show madeL O = B by rw [← hO, madeL_snoc, madeL_back HOKB.out, madeS, if_neg HNO.out])
                clear hi hz0 hz1' hz2 hown4 hg4 hnil4 hxu hxv hO hOl
                go_wp2_with fail
                go_fit (made_any _ O _ HOS.out (by omega) HO5.out); rintro e wq ⟨x5, u5, m7, rfl, hlog5, hrow5, hb18⟩
                rw [HMADE.out] at hlog5 hrow5
                obtain ⟨x6, m6, hee5, hr5, hm5⟩ := hlog5
                obtain ⟨rfl, rfl⟩ : x5 = x6 ∧ m7 = m6 := by simp at hee5; exact ⟨hee5.1, by omega⟩
                obtain ⟨ao7, c7, rfl, _, _, _⟩ := hr5.shape
                obtain ⟨ao6, c6, rfl, _, _, _⟩ := hrow5.shape
                have HR7 := Lib.hid hr5
                have HM7 := Lib.hid hm5
                have q0 := hb18.keep q0
                have q1 := hb18.keep q1
                have r0 := hb18.keep r0
                have r1 := hb18.keep r1
                have HXQ := Lib.hid (HXV.out.trans hb18)
                have HXPQ := Lib.hid (HXPV.out.trans hb18)
                clear hee5 hr5 hm5 hrow5 hb18
                go_upto_region 15 with (fail)
                refine Wb.wp_at fun wr9 hwr9 => ?_
                have hxr : Wb.Ext wq wr9 := by rw [hwr9]; (repeat' (first | (with_reducible assumption) | (with_reducible exact Wb.Ext.refl _) | (with_reducible refine Wb.Ext.drew ?_) | (with_reducible refine Wb.Ext.drewN ?_ _) | (with_reducible refine Wb.Ext.alloc ?_ _) | (with_reducible refine Wb.ext_set ?_ (by first | assumption | (simp; done) | (simp; omega) | omega) _) | (with_reducible refine Wb.Ext.trans ?_ (by assumption))))
                have s0 : wr9.cell? ⟨wq.heap.size, 0, none⟩ = some (.slice ao7 B.length c7) := by rw [hwr9]; simp [go_sem]
                have s1 : wr9.cell? ⟨wq.heap.size, 1, none⟩ = some (.int .u64 (m7 : Int)) := by rw [hwr9]; simp [go_sem]
                have q0 := hxr.keep q0
                have q1 := hxr.keep q1
                have r0 := hxr.keep r0
                have r1 := hxr.keep r1
                have HXR := Lib.hid (HXQ.out.trans hxr)
                clear hwr9
                have HMH : Hid (∀ w', Wb.Ext wr9 w' → Calls Tryd.prog 14 #[.agg #[.slice ao3 B.length c3, .int .u64 (m3 : Int)]] w' fun e w'' => e = .returned (.int .u64 (MB : Int)) ∧ Wb.Ext w' w'') := fun w' k => by
                  have := lmark_any (.slice ao3 B.length c3) B m3 w' ((HRC.out.ext hbp).ext ((HXPQ.out.trans hxr).trans k)).strs.1
                  rw [HMB.out] at this
                  exact this
                refine wp_region_held_drew (S := (fun w' => w'.cell? ⟨w8.heap.size, 0, none⟩ = some (.slice ao3 B.length c3) ∧ w'.cell? ⟨w8.heap.size, 1, none⟩ = some (.int .u64 (m3 : Int)) ∧ w'.cell? ⟨wp.heap.size, 0, none⟩ = some ((.slice ao3 B.length c3)) ∧ w'.cell? ⟨wp.heap.size, 1, none⟩ = some (.int .u64 (m3 : Int)) ∧ w'.cell? ⟨wq.heap.size, 0, none⟩ = some (.slice ao7 B.length c7) ∧ w'.cell? ⟨wq.heap.size, 1, none⟩ = some (.int .u64 (m7 : Int)))) (by kernel_rfl) ⟨q0, q1, r0, r1, s0, s1⟩ (fun hHeld => ?_)
                refine take_d (i := 0) (d := 104) (v := ?_) rfl rfl (by kernel_rfl) (by kernel_rfl) (by kernel_rfl) (fun _ _ _ h => h) (Or.inl ⟨by rfl, ?_⟩) (by assumption) ?_
                rotate_left
                · (intro w hSw; (try dsimp only at hSw); go_simp; (try with_reducible rfl))
                (try simp only [Act.put, List.setIfInBounds_toArray, List.set_cons_zero, List.set_cons_succ])
                refine take_d (i := 1) (d := 105) (v := ?_) rfl rfl (by kernel_rfl) (by kernel_rfl) (by kernel_rfl) (fun _ _ _ h => h) (Or.inl ⟨by rfl, ?_⟩) (by assumption) ?_
                rotate_left
                · (intro w hSw; (try dsimp only at hSw); go_simp; (try with_reducible rfl))
                (try simp only [Act.put, List.setIfInBounds_toArray, List.set_cons_zero, List.set_cons_succ])
                refine take_d (i := 2) (d := 106) (v := ?_) rfl rfl (by kernel_rfl) (by kernel_rfl) (by kernel_rfl) (fun _ _ _ h => h) (Or.inl ⟨by rfl, ?_⟩) (by assumption) ?_
                rotate_left
                · (intro w hSw; (try dsimp only at hSw); go_simp; (try with_reducible rfl))
                (try simp only [Act.put, List.setIfInBounds_toArray, List.set_cons_zero, List.set_cons_succ])
                refine take_d (i := 3) (d := 107) (v := ?_) rfl rfl (by kernel_rfl) (by kernel_rfl) (by kernel_rfl) (fun _ _ _ h => h) (Or.inl ⟨by rfl, ?_⟩) (by assumption) ?_
                rotate_left
                · (intro w hSw; (try dsimp only at hSw); go_simp; (try with_reducible rfl))
                (try simp only [Act.put, List.setIfInBounds_toArray, List.set_cons_zero, List.set_cons_succ])
                refine take_d (i := 5) (d := 109) (v := ?_) rfl rfl (by kernel_rfl) (by kernel_rfl) (by kernel_rfl) (fun _ _ _ h => h) (Or.inl ⟨by rfl, ?_⟩) (by assumption) ?_
                rotate_left
                · (intro w hSw; (try dsimp only at hSw); go_simp; (try with_reducible rfl))
                (try simp only [Act.put, List.setIfInBounds_toArray, List.set_cons_zero, List.set_cons_succ])
                refine wpAnyH_ready (rs := [4]) (by kernel_rfl) (by simp) ?_
                refine AllReadyH.cons (o := _) rfl (fun K hK => ?_) ?_
                · go_simp
                  go_at_call 14
                  go_fit (HMH.out _ (by (repeat' (first | (with_reducible assumption) | (with_reducible exact Wb.Ext.refl _) | (with_reducible refine Wb.Ext.drew ?_) | (with_reducible refine Wb.Ext.drewN ?_ _) | (with_reducible refine Wb.Ext.alloc ?_ _) | (with_reducible refine Wb.Ext.trans ?_ (by assumption))))))
                  rintro e wa2 ⟨rfl, hba2⟩
                  refine hK.out _ _ ⟨Wb.Ext.keep (w := wr9) (by (repeat' (first | (with_reducible assumption) | (with_reducible exact Wb.Ext.refl _) | (with_reducible refine Wb.Ext.drew ?_) | (with_reducible refine Wb.Ext.drewN ?_ _) | (with_reducible refine Wb.Ext.alloc ?_ _) | (with_reducible refine Wb.Ext.trans ?_ (by assumption))))) q0, Wb.Ext.keep (w := wr9) (by (repeat' (first | (with_reducible assumption) | (with_reducible exact Wb.Ext.refl _) | (with_reducible refine Wb.Ext.drew ?_) | (with_reducible refine Wb.Ext.drewN ?_ _) | (with_reducible refine Wb.Ext.alloc ?_ _) | (with_reducible refine Wb.Ext.trans ?_ (by assumption))))) q1, Wb.Ext.keep (w := wr9) (by (repeat' (first | (with_reducible assumption) | (with_reducible exact Wb.Ext.refl _) | (with_reducible refine Wb.Ext.drew ?_) | (with_reducible refine Wb.Ext.drewN ?_ _) | (with_reducible refine Wb.Ext.alloc ?_ _) | (with_reducible refine Wb.Ext.trans ?_ (by assumption))))) r0, Wb.Ext.keep (w := wr9) (by (repeat' (first | (with_reducible assumption) | (with_reducible exact Wb.Ext.refl _) | (with_reducible refine Wb.Ext.drew ?_) | (with_reducible refine Wb.Ext.drewN ?_ _) | (with_reducible refine Wb.Ext.alloc ?_ _) | (with_reducible refine Wb.Ext.trans ?_ (by assumption))))) r1, Wb.Ext.keep (w := wr9) (by (repeat' (first | (with_reducible assumption) | (with_reducible exact Wb.Ext.refl _) | (with_reducible refine Wb.Ext.drew ?_) | (with_reducible refine Wb.Ext.drewN ?_ _) | (with_reducible refine Wb.Ext.alloc ?_ _) | (with_reducible refine Wb.Ext.trans ?_ (by assumption))))) s0, Wb.Ext.keep (w := wr9) (by (repeat' (first | (with_reducible assumption) | (with_reducible exact Wb.Ext.refl _) | (with_reducible refine Wb.Ext.drew ?_) | (with_reducible refine Wb.Ext.drewN ?_ _) | (with_reducible refine Wb.Ext.alloc ?_ _) | (with_reducible refine Wb.Ext.trans ?_ (by assumption))))) s1⟩ (fun hHeld => ?_)
                  clear hK K
                  (try simp only [Act.put, List.setIfInBounds_toArray, List.set_cons_zero, List.set_cons_succ])
                  refine wpAnyH_ready (rs := [6]) (by kernel_rfl) (by simp) ?_
                  refine AllReadyH.cons (o := _) rfl (fun K hK => ?_) ?_
                  · go_simp
                    go_at_call 14
                    go_fit (HMH.out _ (by (repeat' (first | (with_reducible assumption) | (with_reducible exact Wb.Ext.refl _) | (with_reducible refine Wb.Ext.drew ?_) | (with_reducible refine Wb.Ext.drewN ?_ _) | (with_reducible refine Wb.Ext.alloc ?_ _) | (with_reducible refine Wb.Ext.trans ?_ (by assumption))))))
                    rintro e wb2 ⟨rfl, hbb2⟩
                    refine hK.out _ _ ⟨Wb.Ext.keep (w := wr9) (by (repeat' (first | (with_reducible assumption) | (with_reducible exact Wb.Ext.refl _) | (with_reducible refine Wb.Ext.drew ?_) | (with_reducible refine Wb.Ext.drewN ?_ _) | (with_reducible refine Wb.Ext.alloc ?_ _) | (with_reducible refine Wb.Ext.trans ?_ (by assumption))))) q0, Wb.Ext.keep (w := wr9) (by (repeat' (first | (with_reducible assumption) | (with_reducible exact Wb.Ext.refl _) | (with_reducible refine Wb.Ext.drew ?_) | (with_reducible refine Wb.Ext.drewN ?_ _) | (with_reducible refine Wb.Ext.alloc ?_ _) | (with_reducible refine Wb.Ext.trans ?_ (by assumption))))) q1, Wb.Ext.keep (w := wr9) (by (repeat' (first | (with_reducible assumption) | (with_reducible exact Wb.Ext.refl _) | (with_reducible refine Wb.Ext.drew ?_) | (with_reducible refine Wb.Ext.drewN ?_ _) | (with_reducible refine Wb.Ext.alloc ?_ _) | (with_reducible refine Wb.Ext.trans ?_ (by assumption))))) r0, Wb.Ext.keep (w := wr9) (by (repeat' (first | (with_reducible assumption) | (with_reducible exact Wb.Ext.refl _) | (with_reducible refine Wb.Ext.drew ?_) | (with_reducible refine Wb.Ext.drewN ?_ _) | (with_reducible refine Wb.Ext.alloc ?_ _) | (with_reducible refine Wb.Ext.trans ?_ (by assumption))))) r1, Wb.Ext.keep (w := wr9) (by (repeat' (first | (with_reducible assumption) | (with_reducible exact Wb.Ext.refl _) | (with_reducible refine Wb.Ext.drew ?_) | (with_reducible refine Wb.Ext.drewN ?_ _) | (with_reducible refine Wb.Ext.alloc ?_ _) | (with_reducible refine Wb.Ext.trans ?_ (by assumption))))) s0, Wb.Ext.keep (w := wr9) (by (repeat' (first | (with_reducible assumption) | (with_reducible exact Wb.Ext.refl _) | (with_reducible refine Wb.Ext.drew ?_) | (with_reducible refine Wb.Ext.drewN ?_ _) | (with_reducible refine Wb.Ext.alloc ?_ _) | (with_reducible refine Wb.Ext.trans ?_ (by assumption))))) s1⟩ (fun hHeld => ?_)
                    clear hK K
                    (try simp only [Act.put, List.setIfInBounds_toArray, List.set_cons_zero, List.set_cons_succ])
                    refine take_d (i := 7) (d := 111) (v := ?_) rfl rfl (by kernel_rfl) (by kernel_rfl) (by kernel_rfl) (fun _ _ _ h => h) (Or.inl ⟨by rfl, ?_⟩) (by assumption) ?_
                    rotate_left
                    · (intro w hSw; (try dsimp only at hSw); go_simp; (try with_reducible rfl))
                    (try simp only [Act.put, List.setIfInBounds_toArray, List.set_cons_zero, List.set_cons_succ])
                    refine take_d (i := 8) (d := 112) (v := ?_) rfl rfl (by kernel_rfl) (by kernel_rfl) (by kernel_rfl) (fun _ _ _ h => h) (Or.inl ⟨by rfl, ?_⟩) (by assumption) ?_
                    rotate_left
                    · (intro w hSw; (try dsimp only at hSw); go_simp; (try with_reducible rfl))
                    (try simp only [Act.put, List.setIfInBounds_toArray, List.set_cons_zero, List.set_cons_succ])
                    refine take_d (i := 9) (d := 113) (v := ?_) rfl rfl (by kernel_rfl) (by kernel_rfl) (by kernel_rfl) (fun _ _ _ h => h) (Or.inl ⟨by rfl, ?_⟩) (by assumption) ?_
                    rotate_left
                    · (intro w hSw; (try dsimp only at hSw); go_simp; (try with_reducible rfl))
                    (try simp only [Act.put, List.setIfInBounds_toArray, List.set_cons_zero, List.set_cons_succ])
                    refine take_d (i := 10) (d := 114) (v := undef) rfl rfl (by kernel_rfl) (by kernel_rfl) (by kernel_rfl) (fun _ _ _ h => h) (Or.inr ⟨by rfl, rfl⟩) (by assumption) ?_
                    (try simp only [Act.put, List.setIfInBounds_toArray, List.set_cons_zero, List.set_cons_succ])
                    refine take_d (i := 11) (d := 115) (v := undef) rfl rfl (by kernel_rfl) (by kernel_rfl) (by kernel_rfl) (fun _ _ _ h => h) (Or.inr ⟨by rfl, rfl⟩) (by assumption) ?_
                    (try simp only [Act.put, List.setIfInBounds_toArray, List.set_cons_zero, List.set_cons_succ])
                    refine take_d (i := 12) (d := 116) (v := undef) rfl rfl (by kernel_rfl) (by kernel_rfl) (by kernel_rfl) (fun _ _ _ h => h) (Or.inr ⟨by rfl, rfl⟩) (by assumption) ?_
                    (try simp only [Act.put, List.setIfInBounds_toArray, List.set_cons_zero, List.set_cons_succ])
                    refine take_d (i := 13) (d := 117) (v := undef) rfl rfl (by kernel_rfl) (by kernel_rfl) (by kernel_rfl) (fun _ _ _ h => h) (Or.inr ⟨by rfl, rfl⟩) (by assumption) ?_
                    (try simp only [Act.put, List.setIfInBounds_toArray, List.set_cons_zero, List.set_cons_succ])
                    refine take_d (i := 14) (d := 118) (v := undef) rfl rfl (by kernel_rfl) (by kernel_rfl) (by kernel_rfl) (fun _ _ _ h => h) (Or.inr ⟨by rfl, rfl⟩) (by assumption) ?_
                    (try simp only [Act.put, List.setIfInBounds_toArray, List.set_cons_zero, List.set_cons_succ])
                    refine take_d (i := 15) (d := 119) (v := undef) rfl rfl (by kernel_rfl) (by kernel_rfl) (by kernel_rfl) (fun _ _ _ h => h) (Or.inr ⟨by rfl, rfl⟩) (by assumption) ?_
                    (try simp only [Act.put, List.setIfInBounds_toArray, List.set_cons_zero, List.set_cons_succ])
                    refine take_d (i := 16) (d := 120) (v := undef) rfl rfl (by kernel_rfl) (by kernel_rfl) (by kernel_rfl) (fun _ _ _ h => h) (Or.inr ⟨by rfl, rfl⟩) (by assumption) ?_
                    (try simp only [Act.put, List.setIfInBounds_toArray, List.set_cons_zero, List.set_cons_succ])
                    refine take_d (i := 17) (d := 121) (v := undef) rfl rfl (by kernel_rfl) (by kernel_rfl) (by kernel_rfl) (fun _ _ _ h => h) (Or.inr ⟨by rfl, rfl⟩) (by assumption) ?_
                    (try simp only [Act.put, List.setIfInBounds_toArray, List.set_cons_zero, List.set_cons_succ])
                    refine take_d (i := 18) (d := 122) (v := undef) rfl rfl (by kernel_rfl) (by kernel_rfl) (by kernel_rfl) (fun _ _ _ h => h) (Or.inr ⟨by rfl, rfl⟩) (by assumption) ?_
                    (try simp only [Act.put, List.setIfInBounds_toArray, List.set_cons_zero, List.set_cons_succ])
                    refine take_d (i := 19) (d := 123) (v := ?_) rfl rfl (by kernel_rfl) (by kernel_rfl) (by kernel_rfl) (fun _ _ _ h => h) (Or.inl ⟨by rfl, ?_⟩) (by assumption) ?_
                    rotate_left
                    · (intro w hSw; (try dsimp only at hSw); go_simp; (try with_reducible rfl))
                    (try simp only [Act.put, List.setIfInBounds_toArray, List.set_cons_zero, List.set_cons_succ])
                    refine take_d (i := 20) (d := 6) (v := ?_) rfl rfl (by kernel_rfl) (by kernel_rfl) (by kernel_rfl) (fun _ _ _ h => h) (Or.inl ⟨by rfl, ?_⟩) (by assumption) ?_
                    rotate_left
                    · (intro w hSw; (try dsimp only at hSw); go_simp; (try with_reducible rfl))
                    (try simp only [Act.put, List.setIfInBounds_toArray, List.set_cons_zero, List.set_cons_succ])
                    refine wpAnyH_done (by kernel_rfl) ?_ _
                    go_wp2
                    go_ret
                    exact ⟨rfl, HXR.out.trans (by (repeat' (first | (with_reducible assumption) | (with_reducible exact Wb.Ext.refl _) | (with_reducible refine Wb.Ext.drew ?_) | (with_reducible refine Wb.Ext.drewN ?_ _) | (with_reducible refine Wb.Ext.alloc ?_ _) | (with_reducible refine Wb.Ext.trans ?_ (by assumption)))))⟩
                  exact AllReadyH.nil
                exact AllReadyH.nil
            exact AllReadyH.nil
          exact AllReadyH.nil
        exact AllReadyH.nil
      · have hk1 : ((i3 : Int) == (k : Int)) = false := by simp; omega
        have hk1' : (i3 == k) = false := by simpa using hik
        clear hik
        refine wp_region_held_drew (S := (fun w' => w'.cell? ⟨w8.heap.size, 0, none⟩ = some (.slice ao3 B.length c3) ∧ w'.cell? ⟨w8.heap.size, 1, none⟩ = some (.int .u64 (m3 : Int)))) (by kernel_rfl) ⟨q0, q1⟩ (fun hHeld => ?_)
        refine take_d (i := 0) (d := 60) (v := ?_) rfl rfl (by kernel_rfl) (by kernel_rfl) (by kernel_rfl) (fun _ _ _ h => h) (Or.inl ⟨by rfl, ?_⟩) (by assumption) ?_
        rotate_left
        · (intro w hSw; (try dsimp only at hSw); go_simp; (try with_reducible rfl))
        (try simp only [Act.put, List.setIfInBounds_toArray, List.set_cons_zero, List.set_cons_succ])
        refine take_d (i := 2) (d := 62) (v := ?_) rfl rfl (by kernel_rfl) (by kernel_rfl) (by kernel_rfl) (fun _ _ _ h => h) (Or.inl ⟨by rfl, ?_⟩) (by assumption) ?_
        rotate_left
        · (intro w hSw; (try dsimp only at hSw); go_simp; (try with_reducible rfl))
        (try simp only [Act.put, List.setIfInBounds_toArray, List.set_cons_zero, List.set_cons_succ])
        refine wpAnyH_ready (rs := [1]) (by kernel_rfl) (by simp) ?_
        refine AllReadyH.cons (o := _) rfl (fun K hK => ?_) ?_
        · go_simp
          go_at_call 15
          go_fit (llen_s ao3 B.length c3 m3 _)
          rintro e wa ⟨rfl, hba⟩
          refine hK.out _ _ ⟨Wb.Ext.keep (w := w9) (by (repeat' (first | (with_reducible assumption) | (with_reducible exact Wb.Ext.refl _) | (with_reducible refine Wb.Ext.drew ?_) | (with_reducible refine Wb.Ext.drewN ?_ _) | (with_reducible refine Wb.Ext.alloc ?_ _) | (with_reducible refine Wb.Ext.trans ?_ (by assumption))))) q0, Wb.Ext.keep (w := w9) (by (repeat' (first | (with_reducible assumption) | (with_reducible exact Wb.Ext.refl _) | (with_reducible refine Wb.Ext.drew ?_) | (with_reducible refine Wb.Ext.drewN ?_ _) | (with_reducible refine Wb.Ext.alloc ?_ _) | (with_reducible refine Wb.Ext.trans ?_ (by assumption))))) q1⟩ (fun hHeld => ?_)
          clear hK K
          (try simp only [Act.put, List.setIfInBounds_toArray, List.set_cons_zero, List.set_cons_succ])
          refine take_d (i := 3) (d := 63) (v := ?_) rfl rfl (by kernel_rfl) (by kernel_rfl) (by kernel_rfl) (fun _ _ _ h => h) (Or.inl ⟨by rfl, ?_⟩) (by assumption) ?_
          rotate_left
          · (intro w hSw; (try dsimp only at hSw); go_simp; (try with_reducible rfl))
          (try simp only [Act.put, List.setIfInBounds_toArray, List.set_cons_zero, List.set_cons_succ])
          refine take_d (i := 4) (d := 64) (v := ?_) rfl rfl (by kernel_rfl) (by kernel_rfl) (by kernel_rfl) (fun _ _ _ h => h) (Or.inl ⟨by rfl, ?_⟩) (by assumption) ?_
          rotate_left
          · (intro w hSw; (try dsimp only at hSw); go_simp; (try with_reducible rfl))
          (try simp only [Act.put, List.setIfInBounds_toArray, List.set_cons_zero, List.set_cons_succ])
          refine take_d (i := 5) (d := 65) (v := ?_) rfl rfl (by kernel_rfl) (by kernel_rfl) (by kernel_rfl) (fun _ _ _ h => h) (Or.inl ⟨by rfl, ?_⟩) (by assumption) ?_
          rotate_left
          · (intro w hSw; (try dsimp only at hSw); go_simp; (try with_reducible rfl))
          (try simp only [Act.put, List.setIfInBounds_toArray, List.set_cons_zero, List.set_cons_succ])
          refine take_d (i := 7) (d := 67) (v := ?_) rfl rfl (by kernel_rfl) (by kernel_rfl) (by kernel_rfl) (fun _ _ _ h => h) (Or.inl ⟨by rfl, ?_⟩) (by assumption) ?_
          rotate_left
          · (intro w hSw; (try dsimp only at hSw); go_simp; (try with_reducible rfl))
          (try simp only [Act.put, List.setIfInBounds_toArray, List.set_cons_zero, List.set_cons_succ])
          refine take_d (i := 8) (d := 68) (v := ?_) rfl rfl (by kernel_rfl) (by kernel_rfl) (by kernel_rfl) (fun _ _ _ h => h) (Or.inl ⟨by rfl, ?_⟩) (by assumption) ?_
          rotate_left
          · (intro w hSw; (try dsimp only at hSw); go_simp; (try with_reducible rfl))
          (try simp only [Act.put, List.setIfInBounds_toArray, List.set_cons_zero, List.set_cons_succ])
          refine take_d (i := 9) (d := 69) (v := ?_) rfl rfl (by kernel_rfl) (by kernel_rfl) (by kernel_rfl) (fun _ _ _ h => h) (Or.inl ⟨by rfl, ?_⟩) (by assumption) ?_
          rotate_left
          · (intro w hSw; (try dsimp only at hSw); go_simp; (try with_reducible rfl))
          (try simp only [Act.put, List.setIfInBounds_toArray, List.set_cons_zero, List.set_cons_succ])
          refine wpAnyH_ready (rs := [6]) (by kernel_rfl) (by simp) ?_
          refine AllReadyH.cons (o := _) rfl (fun K hK => ?_) ?_
          · go_simp
            go_at_call 17
            go_fit (acts_any (.slice ao3 B.length c3) B m3 _ (HR9.out.ext (by (repeat' (first | (with_reducible assumption) | (with_reducible exact Wb.Ext.refl _) | (with_reducible refine Wb.Ext.drew ?_) | (with_reducible refine Wb.Ext.drewN ?_ _) | (with_reducible refine Wb.Ext.alloc ?_ _) | (with_reducible refine Wb.Ext.trans ?_ (by assumption)))))).strs (by omega))
            rintro e wb ⟨ub, rfl, hub, hbb⟩
            refine hK.out _ _ ⟨Wb.Ext.keep (w := w9) (by (repeat' (first | (with_reducible assumption) | (with_reducible exact Wb.Ext.refl _) | (with_reducible refine Wb.Ext.drew ?_) | (with_reducible refine Wb.Ext.drewN ?_ _) | (with_reducible refine Wb.Ext.alloc ?_ _) | (with_reducible refine Wb.Ext.trans ?_ (by assumption))))) q0, Wb.Ext.keep (w := w9) (by (repeat' (first | (with_reducible assumption) | (with_reducible exact Wb.Ext.refl _) | (with_reducible refine Wb.Ext.drew ?_) | (with_reducible refine Wb.Ext.drewN ?_ _) | (with_reducible refine Wb.Ext.alloc ?_ _) | (with_reducible refine Wb.Ext.trans ?_ (by assumption))))) q1⟩ (fun hHeld => ?_)
            clear hK K
            (try simp only [Act.put, List.setIfInBounds_toArray, List.set_cons_zero, List.set_cons_succ])
            refine wpAnyH_ready (rs := [10]) (by kernel_rfl) (by simp) ?_
            refine AllReadyH.cons (o := _) rfl (fun K hK => ?_) ?_
            · go_simp
              go_at_call 16
              go_fit (same38_any ub _ B _ (hub.ext (by (repeat' (first | (with_reducible assumption) | (with_reducible exact Wb.Ext.refl _) | (with_reducible refine Wb.Ext.drew ?_) | (with_reducible refine Wb.Ext.drewN ?_ _) | (with_reducible refine Wb.Ext.alloc ?_ _) | (with_reducible refine Wb.Ext.trans ?_ (by assumption)))))) (HSL9.out.ext (by (repeat' (first | (with_reducible assumption) | (with_reducible exact Wb.Ext.refl _) | (with_reducible refine Wb.Ext.drew ?_) | (with_reducible refine Wb.Ext.drewN ?_ _) | (with_reducible refine Wb.Ext.alloc ?_ _) | (with_reducible refine Wb.Ext.trans ?_ (by assumption)))))) (by omega))
              rintro e wc ⟨rfl, hbc⟩
              clear hub
              refine hK.out _ _ ⟨Wb.Ext.keep (w := w9) (by (repeat' (first | (with_reducible assumption) | (with_reducible exact Wb.Ext.refl _) | (with_reducible refine Wb.Ext.drew ?_) | (with_reducible refine Wb.Ext.drewN ?_ _) | (with_reducible refine Wb.Ext.alloc ?_ _) | (with_reducible refine Wb.Ext.trans ?_ (by assumption))))) q0, Wb.Ext.keep (w := w9) (by (repeat' (first | (with_reducible assumption) | (with_reducible exact Wb.Ext.refl _) | (with_reducible refine Wb.Ext.drew ?_) | (with_reducible refine Wb.Ext.drewN ?_ _) | (with_reducible refine Wb.Ext.alloc ?_ _) | (with_reducible refine Wb.Ext.trans ?_ (by assumption))))) q1⟩ (fun hHeld => ?_)
              clear hK K
              (try simp only [Act.put, List.setIfInBounds_toArray, List.set_cons_zero, List.set_cons_succ])
              refine take_d (i := 11) (d := 71) (v := ?_) rfl rfl (by kernel_rfl) (by kernel_rfl) (by kernel_rfl) (fun _ _ _ h => h) (Or.inl ⟨by rfl, ?_⟩) (by assumption) ?_
              rotate_left
              · (intro w hSw; (try dsimp only at hSw); go_simp; (try with_reducible rfl))
              (try simp only [Act.put, List.setIfInBounds_toArray, List.set_cons_zero, List.set_cons_succ])
              refine take_d (i := 12) (d := 72) (v := ?_) rfl rfl (by kernel_rfl) (by kernel_rfl) (by kernel_rfl) (fun _ _ _ h => h) (Or.inl ⟨by rfl, ?_⟩) (by assumption) ?_
              rotate_left
              · (intro w hSw; (try dsimp only at hSw); go_simp; (try with_reducible rfl))
              (try simp only [Act.put, List.setIfInBounds_toArray, List.set_cons_zero, List.set_cons_succ])
              refine take_d (i := 13) (d := 73) (v := ?_) rfl rfl (by kernel_rfl) (by kernel_rfl) (by kernel_rfl) (fun _ _ _ h => h) (Or.inl ⟨by rfl, ?_⟩) (by assumption) ?_
              rotate_left
              · (intro w hSw; (try dsimp only at hSw); go_simp; (try with_reducible rfl))
              (try simp only [Act.put, List.setIfInBounds_toArray, List.set_cons_zero, List.set_cons_succ])
              refine take_d (i := 14) (d := 74) (v := ?_) rfl rfl (by kernel_rfl) (by kernel_rfl) (by kernel_rfl) (fun _ _ _ h => h) (Or.inl ⟨by rfl, ?_⟩) (by assumption) ?_
              rotate_left
              · (intro w hSw; (try dsimp only at hSw); go_simp; (try with_reducible rfl))
              (try simp only [Act.put, List.setIfInBounds_toArray, List.set_cons_zero, List.set_cons_succ])
              refine take_d (i := 15) (d := 75) (v := ?_) rfl rfl (by kernel_rfl) (by kernel_rfl) (by kernel_rfl) (fun _ _ _ h => h) (Or.inl ⟨by rfl, ?_⟩) (by assumption) ?_
              rotate_left
              · (intro w hSw; (try dsimp only at hSw); go_simp; (try with_reducible rfl))
              (try simp only [Act.put, List.setIfInBounds_toArray, List.set_cons_zero, List.set_cons_succ])
              refine take_d (i := 16) (d := 76) (v := ?_) rfl rfl (by kernel_rfl) (by kernel_rfl) (by kernel_rfl) (fun _ _ _ h => h) (Or.inl ⟨by rfl, ?_⟩) (by assumption) ?_
              rotate_left
              · (intro w hSw; (try dsimp only at hSw); go_simp; (try with_reducible rfl))
              (try simp only [Act.put, List.setIfInBounds_toArray, List.set_cons_zero, List.set_cons_succ])
              refine take_d (i := 17) (d := 77) (v := ?_) rfl rfl (by kernel_rfl) (by kernel_rfl) (by kernel_rfl) (fun _ _ _ h => h) (Or.inl ⟨by rfl, ?_⟩) (by assumption) ?_
              rotate_left
              · (intro w hSw; (try dsimp only at hSw); go_simp; (try with_reducible rfl))
              (try simp only [Act.put, List.setIfInBounds_toArray, List.set_cons_zero, List.set_cons_succ])
              refine take_d (i := 18) (d := 78) (v := ?_) rfl rfl (by kernel_rfl) (by kernel_rfl) (by kernel_rfl) (fun _ _ _ h => h) (Or.inl ⟨by rfl, ?_⟩) (by assumption) ?_
              rotate_left
              · (intro w hSw; (try dsimp only at hSw); go_simp; (try with_reducible rfl))
              (try simp only [Act.put, List.setIfInBounds_toArray, List.set_cons_zero, List.set_cons_succ])
              refine take_d (i := 19) (d := 79) (v := ?_) rfl rfl (by kernel_rfl) (by kernel_rfl) (by kernel_rfl) (fun _ _ _ h => h) (Or.inl ⟨by rfl, ?_⟩) (by assumption) ?_
              rotate_left
              · (intro w hSw; (try dsimp only at hSw); go_simp; (try with_reducible rfl))
              (try simp only [Act.put, List.setIfInBounds_toArray, List.set_cons_zero, List.set_cons_succ])
              refine take_d (i := 20) (d := 80) (v := ?_) rfl rfl (by kernel_rfl) (by kernel_rfl) (by kernel_rfl) (fun _ _ _ h => h) (Or.inl ⟨by rfl, ?_⟩) (by assumption) ?_
              rotate_left
              · (intro w hSw; (try dsimp only at hSw); go_simp; (try with_reducible rfl))
              (try simp only [Act.put, List.setIfInBounds_toArray, List.set_cons_zero, List.set_cons_succ])
              refine take_d (i := 21) (d := 81) (v := ?_) rfl rfl (by kernel_rfl) (by kernel_rfl) (by kernel_rfl) (fun _ _ _ h => h) (Or.inl ⟨by rfl, ?_⟩) (by assumption) ?_
              rotate_left
              · (intro w hSw; (try dsimp only at hSw); go_simp; (try with_reducible rfl))
              (try simp only [Act.put, List.setIfInBounds_toArray, List.set_cons_zero, List.set_cons_succ])
              refine take_d (i := 22) (d := 82) (v := ?_) rfl rfl (by kernel_rfl) (by kernel_rfl) (by kernel_rfl) (fun _ _ _ h => h) (Or.inl ⟨by rfl, ?_⟩) (by assumption) ?_
              rotate_left
              · (intro w hSw; (try dsimp only at hSw); go_simp; (try with_reducible rfl))
              (try simp only [Act.put, List.setIfInBounds_toArray, List.set_cons_zero, List.set_cons_succ])
              refine take_d (i := 23) (d := 83) (v := ?_) rfl rfl (by kernel_rfl) (by kernel_rfl) (by kernel_rfl) (fun _ _ _ h => h) (Or.inl ⟨by rfl, ?_⟩) (by assumption) ?_
              rotate_left
              · (intro w hSw; (try dsimp only at hSw); go_simp; (try with_reducible rfl))
              (try simp only [Act.put, List.setIfInBounds_toArray, List.set_cons_zero, List.set_cons_succ])
              refine take_d (i := 24) (d := 84) (v := ?_) rfl rfl (by kernel_rfl) (by kernel_rfl) (by kernel_rfl) (fun _ _ _ h => h) (Or.inl ⟨by rfl, ?_⟩) (by assumption) ?_
              rotate_left
              · (intro w hSw; (try dsimp only at hSw); go_simp; (try with_reducible rfl))
              (try simp only [Act.put, List.setIfInBounds_toArray, List.set_cons_zero, List.set_cons_succ])
              refine take_d (i := 25) (d := 85) (v := ?_) rfl rfl (by kernel_rfl) (by kernel_rfl) (by kernel_rfl) (fun _ _ _ h => h) (Or.inl ⟨by rfl, ?_⟩) (by assumption) ?_
              rotate_left
              · (intro w hSw; (try dsimp only at hSw); go_simp; (try with_reducible rfl))
              (try simp only [Act.put, List.setIfInBounds_toArray, List.set_cons_zero, List.set_cons_succ])
              refine wpAnyH_done (by kernel_rfl) ?_ _
              have hx9c : Wb.Ext w9 wc := by (repeat' (first | (with_reducible assumption) | (with_reducible exact Wb.Ext.refl _) | (with_reducible refine Wb.Ext.drew ?_) | (with_reducible refine Wb.Ext.drewN ?_ _) | (with_reducible refine Wb.Ext.alloc ?_ _) | (with_reducible refine Wb.Ext.trans ?_ (by assumption))))
              have q0 := hx9c.keep q0
              have q1 := hx9c.keep q1
              have HX12 := Lib.hid (HX9.out.trans hx9c)
              have HRC := Lib.hid (HR9.out.ext hx9c)
              have HLC : Hid (LogV wc (.agg #[.slice ao3 B.length c3, .int .u64 (m3 : Int)]) B) := ⟨_, _, rfl, HRC.out, HM3.out⟩
              obtain ⟨MB, hMB⟩ : ∃ M, (if B = [] then Wb.mfirst else m3 : Nat) = M := ⟨_, rfl⟩
              have HMB := Lib.hid hMB
              clear hba hbb hbc hMB
              by_cases hok : wrongOf B.length more = 0
              · obtain ⟨KA, hKK⟩ : ∃ KA, B ++ [more] = KA := ⟨_, rfl⟩
                have hKl : KA.length = B.length + 1 := by rw [← hKK]; simp
                have hm4 : more.length ≤ 4096 := (wrong_ok.1 hok).2.1
                have HK5 := Lib.hid (show ∀ x ∈ KA, x.length ≤ 5000 by
                  intro x hx
                  rw [← hKK] at hx
                  rcases List.mem_append.1 hx with q | q
                  · exact HB5.out x q
                  · rw [List.mem_singleton.1 q]; omega)
                have hK50 : KA.length ≤ 50 := by omega
                obtain ⟨TK, hTK⟩ : ∃ TK, Wb.textL KA = TK := ⟨_, rfl⟩
                have hTKl : TK.length ≤ 1000000 := by rw [← hTK]; exact Wb.textL_len HK5.out (by omega)
                have HTK := Lib.hid hTK
                have HKK := Lib.hid hKK
                have HWO := Lib.hid hok
                clear hKK hTK hok hKl
                go_wp2_with fail
                go_fit (append_ok2 _ B more _ HLC.out (by omega) (by omega) (wrong_ok.1 HWO.out)); rintro e wp ⟨sv, m5, rfl, hu, hfr, hbp⟩
                rw [HKK.out] at hu
                obtain ⟨sv', m5', hee, hr5, hm5⟩ := hu
                obtain ⟨rfl, rfl⟩ : sv = sv' ∧ m5 = m5' := by simp at hee; exact ⟨hee.1, by omega⟩
                obtain ⟨ao5, c5, rfl, _, _, _⟩ := hr5.shape
                have HR5 := Lib.hid hr5
                have HM5 := Lib.hid hm5
                clear hee hfr hr5 hm5
                have q0 := hbp.keep q0
                have q1 := hbp.keep q1
                have HXP := Lib.hid (HX12.out.trans hbp)
                have HROWP := Lib.hid ((HROW9.out.ext hx9c).ext hbp)
                go_upto_region 14 with (fail)
                refine Wb.wp_at fun wt hwt => ?_
                have hxt : Wb.Ext wp wt := by rw [hwt]; (repeat' (first | (with_reducible assumption) | (with_reducible exact Wb.Ext.refl _) | (with_reducible refine Wb.Ext.drew ?_) | (with_reducible refine Wb.Ext.drewN ?_ _) | (with_reducible refine Wb.Ext.alloc ?_ _) | (with_reducible refine Wb.ext_set ?_ (by first | assumption | (simp; done) | (simp; omega) | omega) _) | (with_reducible refine Wb.Ext.trans ?_ (by assumption))))
                have r0 : wt.cell? ⟨wp.heap.size, 0, none⟩ = some (.slice ao5 KA.length c5) := by rw [hwt]; simp [go_sem]
                have r1 : wt.cell? ⟨wp.heap.size, 1, none⟩ = some (.int .u64 (m5 : Int)) := by rw [hwt]; simp [go_sem]
                have q0 := hxt.keep q0
                have q1 := hxt.keep q1
                have HXT := Lib.hid (HXP.out.trans hxt)
                have HROWT := Lib.hid (HROWP.out.ext hxt)
                have HXPT := Lib.hid hxt
                clear hwt hxt
                have hown0 : (wt.alloc (.cells #[] 9)).ownsRow wt.heap.size 9 1 (.slice (some ⟨wt.heap.size, 0, none⟩) 0 0) 0 [] :=
                  ⟨rfl, .inr ⟨wt.heap.size, 0, #[], rfl, Nat.le_refl _, by show (wt.heap.push _)[wt.heap.size]? = _; simp, by simp, by simp, by simp, by simp⟩⟩
                obtain ⟨hi, hz0, hz1', hz2⟩ := HIN.out
                go_wp2_with (at_builtin; go_loud (refine Wb.wpList_append_row rfl (.tmp 93) (.tmp 96) 22 rfl wt.heap.size 9 i0 (.string "".toUTF8) 1 16 Tryd.underlying22 hi hz0 hz1' hz2 rfl (by decide) _ _ _ rfl hown0 _ rfl B.length (rowsOf strc B) ?c1 ?c2 ?c3 ?c4 ?c5 ?_))
                case c1 => exact HCUTS.out _ (HROWT.out.ext ((Wb.Ext.refl wt).alloc _))
                case c2 => exact strc_one B
                case c3 => unfold maxLen; omega
                case c4 => omega
                case c5 => simp
                intro u2 wu hown2 hg2 hnil2
                try simp only [Nat.zero_add, List.nil_append] at hown2
                have hxu : Wb.Ext wt wu := ((Wb.Ext.refl wt).alloc _).grown hg2 (by intro k hk; cases hk; exact Nat.le_refl _)
                obtain ⟨a2, c22, rfl⟩ := row_shape hown2
                have HO2 := Lib.hid hown2
                clear hown0 hown2 hg2 hnil2
                go_wp2_with (at_builtin; go_loud (refine Wb.wpList_append_row rfl (.tmp 97) (.tmp 99) 22 rfl wt.heap.size 9 i0 (.string "".toUTF8) 1 16 Tryd.underlying22 hi hz0 hz1' hz2 rfl (by decide) _ _ _ rfl (HO2.out.alloc _) (.slice (some ⟨wu.heap.size, 0, none⟩) 1 1) rfl 1 [.string (Wb.S more)] ?d1 ?d2 ?d3 ?d4 ?d5 ?_))
                case d1 => exact src_lit wu _ rfl [.string (Wb.S more)] _ _
                case d2 => intro u hu; simp at hu; subst hu; rfl
                case d3 => unfold maxLen; omega
                case d4 => omega
                case d5 => have := hxu.size; simp; omega
                intro u4 wv hown4 hg4 hnil4
                have hxv : Wb.Ext wt wv := Wb.Ext.grown (w' := wu.alloc (.cells #[.string (Wb.S more)] 9)) (hxu.alloc _) hg4 (fun k hk => (HO2.out.lt k hk).1)
                obtain ⟨O, hO⟩ : ∃ O, B ++ [more] = O := ⟨_, rfl⟩
                have hOl : O.length = B.length + 1 := by rw [← hO]; simp
                have HOS := Lib.hid (show Strs1 wv u4 O from row_tbl strc_len (by decide) (by rw [← hO, rowsOf_app, rowsOf_one]; exact hown4))
                have HO5 := Lib.hid (show ∀ x ∈ O, x.length ≤ 50000 by
                  intro x hx
                  rw [← hO] at hx
                  rcases List.mem_append.1 hx with q | q
                  · exact Nat.le_trans (HB5.out x q) (by omega)
                  · rw [List.mem_singleton.1 q]; omega)
                have hO50 : O.length ≤ 100 := by omega
                have q0 := hxv.keep q0
                have q1 := hxv.keep q1
                have r0 := hxv.keep r0
                have r1 := hxv.keep r1
                have HXV := Lib.hid (HXT.out.trans hxv)
                have HXPV := Lib.hid (HXPT.out.trans hxv)
                have HMADE := Lib.hid (show madeL O = KA by rw [← hO, madeL_snoc, madeL_back HOKB.out, madeS, if_pos HWO.out, HKK.out])
                clear hi hz0 hz1' hz2 hown4 hg4 hnil4 hxu hxv hO hOl
                go_wp2_with fail
                go_fit (made_any _ O _ HOS.out (by omega) HO5.out); rintro e wq ⟨x5, u5, m7, rfl, hlog5, hrow5, hb18⟩
                rw [HMADE.out] at hlog5 hrow5
                obtain ⟨x6, m6, hee5, hr5, hm5⟩ := hlog5
                obtain ⟨rfl, rfl⟩ : x5 = x6 ∧ m7 = m6 := by simp at hee5; exact ⟨hee5.1, by omega⟩
                obtain ⟨ao7, c7, rfl, _, _, _⟩ := hr5.shape
                obtain ⟨ao6, c6, rfl, _, _, _⟩ := hrow5.shape
                have HR7 := Lib.hid hr5
                have HM7 := Lib.hid hm5
                have q0 := hb18.keep q0
                have q1 := hb18.keep q1
                have r0 := hb18.keep r0
                have r1 := hb18.keep r1
                have HXQ := Lib.hid (HXV.out.trans hb18)
                have HXPQ := Lib.hid (HXPV.out.trans hb18)
                clear hee5 hr5 hm5 hrow5 hb18
                go_upto_region 15 with (fail)
                refine Wb.wp_at fun wr9 hwr9 => ?_
                have hxr : Wb.Ext wq wr9 := by rw [hwr9]; (repeat' (first | (with_reducible assumption) | (with_reducible exact Wb.Ext.refl _) | (with_reducible refine Wb.Ext.drew ?_) | (with_reducible refine Wb.Ext.drewN ?_ _) | (with_reducible refine Wb.Ext.alloc ?_ _) | (with_reducible refine Wb.ext_set ?_ (by first | assumption | (simp; done) | (simp; omega) | omega) _) | (with_reducible refine Wb.Ext.trans ?_ (by assumption))))
                have s0 : wr9.cell? ⟨wq.heap.size, 0, none⟩ = some (.slice ao7 KA.length c7) := by rw [hwr9]; simp [go_sem]
                have s1 : wr9.cell? ⟨wq.heap.size, 1, none⟩ = some (.int .u64 (m7 : Int)) := by rw [hwr9]; simp [go_sem]
                have q0 := hxr.keep q0
                have q1 := hxr.keep q1
                have r0 := hxr.keep r0
                have r1 := hxr.keep r1
                have HXR := Lib.hid (HXQ.out.trans hxr)
                clear hwr9
                have HLP : Hid (LogV wr9 (.agg #[.slice ao5 KA.length c5, .int .u64 (m5 : Int)]) KA) := ⟨_, _, rfl, HR5.out.ext (HXPQ.out.trans hxr), HM5.out⟩
                have HLQ : Hid (LogV wr9 (.agg #[.slice ao7 KA.length c7, .int .u64 (m7 : Int)]) KA) := ⟨_, _, rfl, HR7.out.ext hxr, HM7.out⟩
                refine wp_region_held_drew (S := (fun w' => w'.cell? ⟨w8.heap.size, 0, none⟩ = some (.slice ao3 B.length c3) ∧ w'.cell? ⟨w8.heap.size, 1, none⟩ = some (.int .u64 (m3 : Int)) ∧ w'.cell? ⟨wp.heap.size, 0, none⟩ = some ((.slice ao5 KA.length c5)) ∧ w'.cell? ⟨wp.heap.size, 1, none⟩ = some (.int .u64 (m5 : Int)) ∧ w'.cell? ⟨wq.heap.size, 0, none⟩ = some (.slice ao7 KA.length c7) ∧ w'.cell? ⟨wq.heap.size, 1, none⟩ = some (.int .u64 (m7 : Int)))) (by kernel_rfl) ⟨q0, q1, r0, r1, s0, s1⟩ (fun hHeld => ?_)
                refine take_d (i := 0) (d := 104) (v := ?_) rfl rfl (by kernel_rfl) (by kernel_rfl) (by kernel_rfl) (fun _ _ _ h => h) (Or.inl ⟨by rfl, ?_⟩) (by assumption) ?_
                rotate_left
                · (intro w hSw; (try dsimp only at hSw); go_simp; (try with_reducible rfl))
                (try simp only [Act.put, List.setIfInBounds_toArray, List.set_cons_zero, List.set_cons_succ])
                refine take_d (i := 1) (d := 105) (v := ?_) rfl rfl (by kernel_rfl) (by kernel_rfl) (by kernel_rfl) (fun _ _ _ h => h) (Or.inl ⟨by rfl, ?_⟩) (by assumption) ?_
                rotate_left
                · (intro w hSw; (try dsimp only at hSw); go_simp; (try with_reducible rfl))
                (try simp only [Act.put, List.setIfInBounds_toArray, List.set_cons_zero, List.set_cons_succ])
                refine take_d (i := 2) (d := 106) (v := ?_) rfl rfl (by kernel_rfl) (by kernel_rfl) (by kernel_rfl) (fun _ _ _ h => h) (Or.inl ⟨by rfl, ?_⟩) (by assumption) ?_
                rotate_left
                · (intro w hSw; (try dsimp only at hSw); go_simp; (try with_reducible rfl))
                (try simp only [Act.put, List.setIfInBounds_toArray, List.set_cons_zero, List.set_cons_succ])
                refine take_d (i := 3) (d := 107) (v := undef) rfl rfl (by kernel_rfl) (by kernel_rfl) (by kernel_rfl) (fun _ _ _ h => h) (Or.inr ⟨by rfl, rfl⟩) (by assumption) ?_
                (try simp only [Act.put, List.setIfInBounds_toArray, List.set_cons_zero, List.set_cons_succ])
                refine take_d (i := 4) (d := 108) (v := undef) rfl rfl (by kernel_rfl) (by kernel_rfl) (by kernel_rfl) (fun _ _ _ h => h) (Or.inr ⟨by rfl, rfl⟩) (by assumption) ?_
                (try simp only [Act.put, List.setIfInBounds_toArray, List.set_cons_zero, List.set_cons_succ])
                refine take_d (i := 5) (d := 109) (v := undef) rfl rfl (by kernel_rfl) (by kernel_rfl) (by kernel_rfl) (fun _ _ _ h => h) (Or.inr ⟨by rfl, rfl⟩) (by assumption) ?_
                (try simp only [Act.put, List.setIfInBounds_toArray, List.set_cons_zero, List.set_cons_succ])
                refine take_d (i := 6) (d := 110) (v := undef) rfl rfl (by kernel_rfl) (by kernel_rfl) (by kernel_rfl) (fun _ _ _ h => h) (Or.inr ⟨by rfl, rfl⟩) (by assumption) ?_
                (try simp only [Act.put, List.setIfInBounds_toArray, List.set_cons_zero, List.set_cons_succ])
                refine take_d (i := 7) (d := 111) (v := undef) rfl rfl (by kernel_rfl) (by kernel_rfl) (by kernel_rfl) (fun _ _ _ h => h) (Or.inr ⟨by rfl, rfl⟩) (by assumption) ?_
                (try simp only [Act.put, List.setIfInBounds_toArray, List.set_cons_zero, List.set_cons_succ])
                refine take_d (i := 8) (d := 112) (v := ?_) rfl rfl (by kernel_rfl) (by kernel_rfl) (by kernel_rfl) (fun _ _ _ h => h) (Or.inl ⟨by rfl, ?_⟩) (by assumption) ?_
                rotate_left
                · (intro w hSw; (try dsimp only at hSw); go_simp; (try with_reducible rfl))
                (try simp only [Act.put, List.setIfInBounds_toArray, List.set_cons_zero, List.set_cons_succ])
                refine take_d (i := 9) (d := 113) (v := ?_) rfl rfl (by kernel_rfl) (by kernel_rfl) (by kernel_rfl) (fun _ _ _ h => h) (Or.inl ⟨by rfl, ?_⟩) (by assumption) ?_
                rotate_left
                · (intro w hSw; (try dsimp only at hSw); go_simp; (try with_reducible rfl))
                (try simp only [Act.put, List.setIfInBounds_toArray, List.set_cons_zero, List.set_cons_succ])
                refine take_d (i := 10) (d := 114) (v := ?_) rfl rfl (by kernel_rfl) (by kernel_rfl) (by kernel_rfl) (fun _ _ _ h => h) (Or.inl ⟨by rfl, ?_⟩) (by assumption) ?_
                rotate_left
                · (intro w hSw; (try dsimp only at hSw); go_simp; (try with_reducible rfl))
                (try simp only [Act.put, List.setIfInBounds_toArray, List.set_cons_zero, List.set_cons_succ])
                refine take_d (i := 11) (d := 115) (v := ?_) rfl rfl (by kernel_rfl) (by kernel_rfl) (by kernel_rfl) (fun _ _ _ h => h) (Or.inl ⟨by rfl, ?_⟩) (by assumption) ?_
                rotate_left
                · (intro w hSw; (try dsimp only at hSw); go_simp; (try with_reducible rfl))
                (try simp only [Act.put, List.setIfInBounds_toArray, List.set_cons_zero, List.set_cons_succ])
                refine take_d (i := 12) (d := 116) (v := ?_) rfl rfl (by kernel_rfl) (by kernel_rfl) (by kernel_rfl) (fun _ _ _ h => h) (Or.inl ⟨by rfl, ?_⟩) (by assumption) ?_
                rotate_left
                · (intro w hSw; (try dsimp only at hSw); go_simp; (try with_reducible rfl))
                (try simp only [Act.put, List.setIfInBounds_toArray, List.set_cons_zero, List.set_cons_succ])
                refine take_d (i := 13) (d := 117) (v := ?_) rfl rfl (by kernel_rfl) (by kernel_rfl) (by kernel_rfl) (fun _ _ _ h => h) (Or.inl ⟨by rfl, ?_⟩) (by assumption) ?_
                rotate_left
                · (intro w hSw; (try dsimp only at hSw); go_simp; (try with_reducible rfl))
                (try simp only [Act.put, List.setIfInBounds_toArray, List.set_cons_zero, List.set_cons_succ])
                refine take_d (i := 15) (d := 119) (v := ?_) rfl rfl (by kernel_rfl) (by kernel_rfl) (by kernel_rfl) (fun _ _ _ h => h) (Or.inl ⟨by rfl, ?_⟩) (by assumption) ?_
                rotate_left
                · (intro w hSw; (try dsimp only at hSw); go_simp; (try with_reducible rfl))
                (try simp only [Act.put, List.setIfInBounds_toArray, List.set_cons_zero, List.set_cons_succ])
                refine wpAnyH_ready (rs := [14]) (by kernel_rfl) (by simp) ?_
                refine AllReadyH.cons (o := _) rfl (fun K hK => ?_) ?_
                · go_simp
                  go_at_call 18
                  go_fit (text_any _ KA _ (HLP.out.ext (by (repeat' (first | (with_reducible assumption) | (with_reducible exact Wb.Ext.refl _) | (with_reducible refine Wb.Ext.drew ?_) | (with_reducible refine Wb.Ext.drewN ?_ _) | (with_reducible refine Wb.Ext.alloc ?_ _) | (with_reducible refine Wb.Ext.trans ?_ (by assumption)))))) (by omega) (fun s hs => Nat.le_trans (HK5.out s hs) (by omega)) (by rw [HTK.out]; omega) ((HT.out.ext HXR.out).ext (by (repeat' (first | (with_reducible assumption) | (with_reducible exact Wb.Ext.refl _) | (with_reducible refine Wb.Ext.drew ?_) | (with_reducible refine Wb.Ext.drewN ?_ _) | (with_reducible refine Wb.Ext.alloc ?_ _) | (with_reducible refine Wb.Ext.trans ?_ (by assumption)))))))
                  rintro e wa2 ⟨rfl, hba2⟩
                  rw [HTK.out]
                  refine hK.out _ _ ⟨Wb.Ext.keep (w := wr9) (by (repeat' (first | (with_reducible assumption) | (with_reducible exact Wb.Ext.refl _) | (with_reducible refine Wb.Ext.drew ?_) | (with_reducible refine Wb.Ext.drewN ?_ _) | (with_reducible refine Wb.Ext.alloc ?_ _) | (with_reducible refine Wb.Ext.trans ?_ (by assumption))))) q0, Wb.Ext.keep (w := wr9) (by (repeat' (first | (with_reducible assumption) | (with_reducible exact Wb.Ext.refl _) | (with_reducible refine Wb.Ext.drew ?_) | (with_reducible refine Wb.Ext.drewN ?_ _) | (with_reducible refine Wb.Ext.alloc ?_ _) | (with_reducible refine Wb.Ext.trans ?_ (by assumption))))) q1, Wb.Ext.keep (w := wr9) (by (repeat' (first | (with_reducible assumption) | (with_reducible exact Wb.Ext.refl _) | (with_reducible refine Wb.Ext.drew ?_) | (with_reducible refine Wb.Ext.drewN ?_ _) | (with_reducible refine Wb.Ext.alloc ?_ _) | (with_reducible refine Wb.Ext.trans ?_ (by assumption))))) r0, Wb.Ext.keep (w := wr9) (by (repeat' (first | (with_reducible assumption) | (with_reducible exact Wb.Ext.refl _) | (with_reducible refine Wb.Ext.drew ?_) | (with_reducible refine Wb.Ext.drewN ?_ _) | (with_reducible refine Wb.Ext.alloc ?_ _) | (with_reducible refine Wb.Ext.trans ?_ (by assumption))))) r1, Wb.Ext.keep (w := wr9) (by (repeat' (first | (with_reducible assumption) | (with_reducible exact Wb.Ext.refl _) | (with_reducible refine Wb.Ext.drew ?_) | (with_reducible refine Wb.Ext.drewN ?_ _) | (with_reducible refine Wb.Ext.alloc ?_ _) | (with_reducible refine Wb.Ext.trans ?_ (by assumption))))) s0, Wb.Ext.keep (w := wr9) (by (repeat' (first | (with_reducible assumption) | (with_reducible exact Wb.Ext.refl _) | (with_reducible refine Wb.Ext.drew ?_) | (with_reducible refine Wb.Ext.drewN ?_ _) | (with_reducible refine Wb.Ext.alloc ?_ _) | (with_reducible refine Wb.Ext.trans ?_ (by assumption))))) s1⟩ (fun hHeld => ?_)
                  clear hK K
                  (try simp only [Act.put, List.setIfInBounds_toArray, List.set_cons_zero, List.set_cons_succ])
                  refine wpAnyH_ready (rs := [16]) (by kernel_rfl) (by simp) ?_
                  refine AllReadyH.cons (o := _) rfl (fun K hK => ?_) ?_
                  · go_simp
                    go_at_call 18
                    go_fit (text_any _ KA _ (HLQ.out.ext (by (repeat' (first | (with_reducible assumption) | (with_reducible exact Wb.Ext.refl _) | (with_reducible refine Wb.Ext.drew ?_) | (with_reducible refine Wb.Ext.drewN ?_ _) | (with_reducible refine Wb.Ext.alloc ?_ _) | (with_reducible refine Wb.Ext.trans ?_ (by assumption)))))) (by omega) (fun s hs => Nat.le_trans (HK5.out s hs) (by omega)) (by rw [HTK.out]; omega) ((HT.out.ext HXR.out).ext (by (repeat' (first | (with_reducible assumption) | (with_reducible exact Wb.Ext.refl _) | (with_reducible refine Wb.Ext.drew ?_) | (with_reducible refine Wb.Ext.drewN ?_ _) | (with_reducible refine Wb.Ext.alloc ?_ _) | (with_reducible refine Wb.Ext.trans ?_ (by assumption)))))))
                    rintro e wb2 ⟨rfl, hbb2⟩
                    rw [HTK.out]
                    refine hK.out _ _ ⟨Wb.Ext.keep (w := wr9) (by (repeat' (first | (with_reducible assumption) | (with_reducible exact Wb.Ext.refl _) | (with_reducible refine Wb.Ext.drew ?_) | (with_reducible refine Wb.Ext.drewN ?_ _) | (with_reducible refine Wb.Ext.alloc ?_ _) | (with_reducible refine Wb.Ext.trans ?_ (by assumption))))) q0, Wb.Ext.keep (w := wr9) (by (repeat' (first | (with_reducible assumption) | (with_reducible exact Wb.Ext.refl _) | (with_reducible refine Wb.Ext.drew ?_) | (with_reducible refine Wb.Ext.drewN ?_ _) | (with_reducible refine Wb.Ext.alloc ?_ _) | (with_reducible refine Wb.Ext.trans ?_ (by assumption))))) q1, Wb.Ext.keep (w := wr9) (by (repeat' (first | (with_reducible assumption) | (with_reducible exact Wb.Ext.refl _) | (with_reducible refine Wb.Ext.drew ?_) | (with_reducible refine Wb.Ext.drewN ?_ _) | (with_reducible refine Wb.Ext.alloc ?_ _) | (with_reducible refine Wb.Ext.trans ?_ (by assumption))))) r0, Wb.Ext.keep (w := wr9) (by (repeat' (first | (with_reducible assumption) | (with_reducible exact Wb.Ext.refl _) | (with_reducible refine Wb.Ext.drew ?_) | (with_reducible refine Wb.Ext.drewN ?_ _) | (with_reducible refine Wb.Ext.alloc ?_ _) | (with_reducible refine Wb.Ext.trans ?_ (by assumption))))) r1, Wb.Ext.keep (w := wr9) (by (repeat' (first | (with_reducible assumption) | (with_reducible exact Wb.Ext.refl _) | (with_reducible refine Wb.Ext.drew ?_) | (with_reducible refine Wb.Ext.drewN ?_ _) | (with_reducible refine Wb.Ext.alloc ?_ _) | (with_reducible refine Wb.Ext.trans ?_ (by assumption))))) s0, Wb.Ext.keep (w := wr9) (by (repeat' (first | (with_reducible assumption) | (with_reducible exact Wb.Ext.refl _) | (with_reducible refine Wb.Ext.drew ?_) | (with_reducible refine Wb.Ext.drewN ?_ _) | (with_reducible refine Wb.Ext.alloc ?_ _) | (with_reducible refine Wb.Ext.trans ?_ (by assumption))))) s1⟩ (fun hHeld => ?_)
                    clear hK K
                    (try simp only [Act.put, List.setIfInBounds_toArray, List.set_cons_zero, List.set_cons_succ])
                    refine take_d (i := 17) (d := 121) (v := ?_) rfl rfl (by kernel_rfl) (by kernel_rfl) (by kernel_rfl) (fun _ _ _ h => h) (Or.inl ⟨by rfl, ?_⟩) (by assumption) ?_
                    rotate_left
                    · (intro w hSw; (try dsimp only at hSw); go_simp; (try with_reducible rfl))
                    (try simp only [Act.put, List.setIfInBounds_toArray, List.set_cons_zero, List.set_cons_succ])
                    refine take_d (i := 18) (d := 122) (v := ?_) rfl rfl (by kernel_rfl) (by kernel_rfl) (by kernel_rfl) (fun _ _ _ h => h) (Or.inl ⟨by rfl, ?_⟩) (by assumption) ?_
                    rotate_left
                    · (intro w hSw; (try dsimp only at hSw); go_simp; (try with_reducible rfl))
                    (try simp only [Act.put, List.setIfInBounds_toArray, List.set_cons_zero, List.set_cons_succ])
                    refine take_d (i := 19) (d := 123) (v := ?_) rfl rfl (by kernel_rfl) (by kernel_rfl) (by kernel_rfl) (fun _ _ _ h => h) (Or.inl ⟨by rfl, ?_⟩) (by assumption) ?_
                    rotate_left
                    · (intro w hSw; (try dsimp only at hSw); go_simp; (try with_reducible rfl))
                    (try simp only [Act.put, List.setIfInBounds_toArray, List.set_cons_zero, List.set_cons_succ])
                    refine take_d (i := 20) (d := 6) (v := ?_) rfl rfl (by kernel_rfl) (by kernel_rfl) (by kernel_rfl) (fun _ _ _ h => h) (Or.inl ⟨by rfl, ?_⟩) (by assumption) ?_
                    rotate_left
                    · (intro w hSw; (try dsimp only at hSw); go_simp; (try with_reducible rfl))
                    (try simp only [Act.put, List.setIfInBounds_toArray, List.set_cons_zero, List.set_cons_succ])
                    refine wpAnyH_done (by kernel_rfl) ?_ _
                    go_wp2
                    go_ret
                    exact ⟨rfl, HXR.out.trans (by (repeat' (first | (with_reducible assumption) | (with_reducible exact Wb.Ext.refl _) | (with_reducible refine Wb.Ext.drew ?_) | (with_reducible refine Wb.Ext.drewN ?_ _) | (with_reducible refine Wb.Ext.alloc ?_ _) | (with_reducible refine Wb.Ext.trans ?_ (by assumption)))))⟩
                  exact AllReadyH.nil
                exact AllReadyH.nil
              · obtain ⟨q, hq⟩ : ∃ q, wrongOf B.length more = q := ⟨_, rfl⟩
                have HQ := Lib.hid hq
                have e0 : (q == 0) = false := by rw [← hq]; simpa using hok
                have e1 : (q != 0) = true := by rw [← hq]; simpa using hok
                have HNO := Lib.hid hok
                clear hq hok
                go_wp2_with fail
                go_fit (append_no _ B more _ HLC.out (by omega) HNO.out); rintro e wp ⟨rfl, hbp⟩
                rw [HQ.out]
                have q0 := hbp.keep q0
                have q1 := hbp.keep q1
                have HXP := Lib.hid (HX12.out.trans hbp)
                have HROWP := Lib.hid ((HROW9.out.ext hx9c).ext hbp)
                go_upto_region 14 with (fail)
                refine Wb.wp_at fun wt hwt => ?_
                have hxt : Wb.Ext wp wt := by rw [hwt]; (repeat' (first | (with_reducible assumption) | (with_reducible exact Wb.Ext.refl _) | (with_reducible refine Wb.Ext.drew ?_) | (with_reducible refine Wb.Ext.drewN ?_ _) | (with_reducible refine Wb.Ext.alloc ?_ _) | (with_reducible refine Wb.ext_set ?_ (by first | assumption | (simp; done) | (simp; omega) | omega) _) | (with_reducible refine Wb.Ext.trans ?_ (by assumption))))
                have r0 : wt.cell? ⟨wp.heap.size, 0, none⟩ = some (.slice ao3 B.length c3) := by rw [hwt]; simp [go_sem]
                have r1 : wt.cell? ⟨wp.heap.size, 1, none⟩ = some (.int .u64 (m3 : Int)) := by rw [hwt]; simp [go_sem]
                have q0 := hxt.keep q0
                have q1 := hxt.keep q1
                have HXT := Lib.hid (HXP.out.trans hxt)
                have HROWT := Lib.hid (HROWP.out.ext hxt)
                have HXPT := Lib.hid hxt
                clear hwt hxt
                have hown0 : (wt.alloc (.cells #[] 9)).ownsRow wt.heap.size 9 1 (.slice (some ⟨wt.heap.size, 0, none⟩) 0 0) 0 [] :=
                  ⟨rfl, .inr ⟨wt.heap.size, 0, #[], rfl, Nat.le_refl _, by show (wt.heap.push _)[wt.heap.size]? = _; simp, by simp, by simp, by simp, by simp⟩⟩
                obtain ⟨hi, hz0, hz1', hz2⟩ := HIN.out
                go_wp2_with (at_builtin; go_loud (refine Wb.wpList_append_row rfl (.tmp 93) (.tmp 96) 22 rfl wt.heap.size 9 i0 (.string "".toUTF8) 1 16 Tryd.underlying22 hi hz0 hz1' hz2 rfl (by decide) _ _ _ rfl hown0 _ rfl B.length (rowsOf strc B) ?c1 ?c2 ?c3 ?c4 ?c5 ?_))
                case c1 => exact HCUTS.out _ (HROWT.out.ext ((Wb.Ext.refl wt).alloc _))
                case c2 => exact strc_one B
                case c3 => unfold maxLen; omega
                case c4 => omega
                case c5 => simp
                intro u2 wu hown2 hg2 hnil2
                try simp only [Nat.zero_add, List.nil_append] at hown2
                have hxu : Wb.Ext wt wu := ((Wb.Ext.refl wt).alloc _).grown hg2 (by intro k hk; cases hk; exact Nat.le_refl _)
                obtain ⟨a2, c22, rfl⟩ := row_shape hown2
                have HO2 := Lib.hid hown2
                clear hown0 hown2 hg2 hnil2
                go_wp2_with (at_builtin; go_loud (refine Wb.wpList_append_row rfl (.tmp 97) (.tmp 99) 22 rfl wt.heap.size 9 i0 (.string "".toUTF8) 1 16 Tryd.underlying22 hi hz0 hz1' hz2 rfl (by decide) _ _ _ rfl (HO2.out.alloc _) (.slice (some ⟨wu.heap.size, 0, none⟩) 1 1) rfl 1 [.string (Wb.S more)] ?d1 ?d2 ?d3 ?d4 ?d5 ?_))
                case d1 => exact src_lit wu _ rfl [.string (Wb.S more)] _ _
                case d2 => intro u hu; simp at hu; subst hu; rfl
                case d3 => unfold maxLen; omega
                case d4 => omega
                case d5 => have := hxu.size; simp; omega
                intro u4 wv hown4 hg4 hnil4
                have hxv : Wb.Ext wt wv := Wb.Ext.grown (w' := wu.alloc (.cells #[.string (Wb.S more)] 9)) (hxu.alloc _) hg4 (fun k hk => (HO2.out.lt k hk).1)
                obtain ⟨O, hO⟩ : ∃ O, B ++ [more] = O := ⟨_, rfl⟩
                have hOl : O.length = B.length + 1 := by rw [← hO]; simp
                have HOS := Lib.hid (show Strs1 wv u4 O from row_tbl strc_len (by decide) (by rw [← hO, rowsOf_app, rowsOf_one]; exact hown4))
                have HO5 := Lib.hid (show ∀ x ∈ O, x.length ≤ 50000 by
                  intro x hx
                  rw [← hO] at hx
                  rcases List.mem_append.1 hx with q | q
                  · exact Nat.le_trans (HB5.out x q) (by omega)
                  · rw [List.mem_singleton.1 q]; omega)
                have hO50 : O.length ≤ 100 := by omega
                have q0 := hxv.keep q0
                have q1 := hxv.keep q1
                have r0 := hxv.keep r0
                have r1 := hxv.keep r1
                have HXV := Lib.hid (HXT.out.trans hxv)
                have HXPV := Lib.hid (HXPT.out.trans hxv)
                have HMADE := Lib.hid (show madeL O = B by rw [← hO, madeL_snoc, madeL_back HOKB.out, madeS, if_neg HNO.out])
                clear hi hz0 hz1' hz2 hown4 hg4 hnil4 hxu hxv hO hOl
                go_wp2_with fail
                go_fit (made_any _ O _ HOS.out (by omega) HO5.out); rintro e wq ⟨x5, u5, m7, rfl, hlog5, hrow5, hb18⟩
                rw [HMADE.out] at hlog5 hrow5
                obtain ⟨x6, m6, hee5, hr5, hm5⟩ := hlog5
                obtain ⟨rfl, rfl⟩ : x5 = x6 ∧ m7 = m6 := by simp at hee5; exact ⟨hee5.1, by omega⟩
                obtain ⟨ao7, c7, rfl, _, _, _⟩ := hr5.shape
                obtain ⟨ao6, c6, rfl, _, _, _⟩ := hrow5.shape
                have HR7 := Lib.hid hr5
                have HM7 := Lib.hid hm5
                have q0 := hb18.keep q0
                have q1 := hb18.keep q1
                have r0 := hb18.keep r0
                have r1 := hb18.keep r1
                have HXQ := Lib.hid (HXV.out.trans hb18)
                have HXPQ := Lib.hid (HXPV.out.trans hb18)
                clear hee5 hr5 hm5 hrow5 hb18
                go_upto_region 15 with (fail)
                refine Wb.wp_at fun wr9 hwr9 => ?_
                have hxr : Wb.Ext wq wr9 := by rw [hwr9]; (repeat' (first | (with_reducible assumption) | (with_reducible exact Wb.Ext.refl _) | (with_reducible refine Wb.Ext.drew ?_) | (with_reducible refine Wb.Ext.drewN ?_ _) | (with_reducible refine Wb.Ext.alloc ?_ _) | (with_reducible refine Wb.ext_set ?_ (by first | assumption | (simp; done) | (simp; omega) | omega) _) | (with_reducible refine Wb.Ext.trans ?_ (by assumption))))
                have s0 : wr9.cell? ⟨wq.heap.size, 0, none⟩ = some (.slice ao7 B.length c7) := by rw [hwr9]; simp [go_sem]
                have s1 : wr9.cell? ⟨wq.heap.size, 1, none⟩ = some (.int .u64 (m7 : Int)) := by rw [hwr9]; simp [go_sem]
                have q0 := hxr.keep q0
                have q1 := hxr.keep q1
                have r0 := hxr.keep r0
                have r1 := hxr.keep r1
                have HXR := Lib.hid (HXQ.out.trans hxr)
                clear hwr9
                have HMH : Hid (∀ w', Wb.Ext wr9 w' → Calls Tryd.prog 14 #[.agg #[.slice ao3 B.length c3, .int .u64 (m3 : Int)]] w' fun e w'' => e = .returned (.int .u64 (MB : Int)) ∧ Wb.Ext w' w'') := fun w' k => by
                  have := lmark_any (.slice ao3 B.length c3) B m3 w' ((HRC.out.ext hbp).ext ((HXPQ.out.trans hxr).trans k)).strs.1
                  rw [HMB.out] at this
                  exact this
                refine wp_region_held_drew (S := (fun w' => w'.cell? ⟨w8.heap.size, 0, none⟩ = some (.slice ao3 B.length c3) ∧ w'.cell? ⟨w8.heap.size, 1, none⟩ = some (.int .u64 (m3 : Int)) ∧ w'.cell? ⟨wp.heap.size, 0, none⟩ = some ((.slice ao3 B.length c3)) ∧ w'.cell? ⟨wp.heap.size, 1, none⟩ = some (.int .u64 (m3 : Int)) ∧ w'.cell? ⟨wq.heap.size, 0, none⟩ = some (.slice ao7 B.length c7) ∧ w'.cell? ⟨wq.heap.size, 1, none⟩ = some (.int .u64 (m7 : Int)))) (by kernel_rfl) ⟨q0, q1, r0, r1, s0, s1⟩ (fun hHeld => ?_)
                refine take_d (i := 0) (d := 104) (v := ?_) rfl rfl (by kernel_rfl) (by kernel_rfl) (by kernel_rfl) (fun _ _ _ h => h) (Or.inl ⟨by rfl, ?_⟩) (by assumption) ?_
                rotate_left
                · (intro w hSw; (try dsimp only at hSw); go_simp; (try with_reducible rfl))
                (try simp only [Act.put, List.setIfInBounds_toArray, List.set_cons_zero, List.set_cons_succ])
                refine take_d (i := 1) (d := 105) (v := ?_) rfl rfl (by kernel_rfl) (by kernel_rfl) (by kernel_rfl) (fun _ _ _ h => h) (Or.inl ⟨by rfl, ?_⟩) (by assumption) ?_
                rotate_left
                · (intro w hSw; (try dsimp only at hSw); go_simp; (try with_reducible rfl))
                (try simp only [Act.put, List.setIfInBounds_toArray, List.set_cons_zero, List.set_cons_succ])
                refine take_d (i := 2) (d := 106) (v := ?_) rfl rfl (by kernel_rfl) (by kernel_rfl) (by kernel_rfl) (fun _ _ _ h => h) (Or.inl ⟨by rfl, ?_⟩) (by assumption) ?_
                rotate_left
                · (intro w hSw; (try dsimp only at hSw); go_simp; (try with_reducible rfl))
                (try simp only [Act.put, List.setIfInBounds_toArray, List.set_cons_zero, List.set_cons_succ])
                refine take_d (i := 3) (d := 107) (v := ?_) rfl rfl (by kernel_rfl) (by kernel_rfl) (by kernel_rfl) (fun _ _ _ h => h) (Or.inl ⟨by rfl, ?_⟩) (by assumption) ?_
                rotate_left
                · (intro w hSw; (try dsimp only at hSw); go_simp; (try with_reducible rfl))
                (try simp only [Act.put, List.setIfInBounds_toArray, List.set_cons_zero, List.set_cons_succ])
                refine take_d (i := 5) (d := 109) (v := ?_) rfl rfl (by kernel_rfl) (by kernel_rfl) (by kernel_rfl) (fun _ _ _ h => h) (Or.inl ⟨by rfl, ?_⟩) (by assumption) ?_
                rotate_left
                · (intro w hSw; (try dsimp only at hSw); go_simp; (try with_reducible rfl))
                (try simp only [Act.put, List.setIfInBounds_toArray, List.set_cons_zero, List.set_cons_succ])
                refine wpAnyH_ready (rs := [4]) (by kernel_rfl) (by simp) ?_
                refine AllReadyH.cons (o := _) rfl (fun K hK => ?_) ?_
                · go_simp
                  go_at_call 14
                  go_fit (HMH.out _ (by (repeat' (first | (with_reducible assumption) | (with_reducible exact Wb.Ext.refl _) | (with_reducible refine Wb.Ext.drew ?_) | (with_reducible refine Wb.Ext.drewN ?_ _) | (with_reducible refine Wb.Ext.alloc ?_ _) | (with_reducible refine Wb.Ext.trans ?_ (by assumption))))))
                  rintro e wa2 ⟨rfl, hba2⟩
                  refine hK.out _ _ ⟨Wb.Ext.keep (w := wr9) (by (repeat' (first | (with_reducible assumption) | (with_reducible exact Wb.Ext.refl _) | (with_reducible refine Wb.Ext.drew ?_) | (with_reducible refine Wb.Ext.drewN ?_ _) | (with_reducible refine Wb.Ext.alloc ?_ _) | (with_reducible refine Wb.Ext.trans ?_ (by assumption))))) q0, Wb.Ext.keep (w := wr9) (by (repeat' (first | (with_reducible assumption) | (with_reducible exact Wb.Ext.refl _) | (with_reducible refine Wb.Ext.drew ?_) | (with_reducible refine Wb.Ext.drewN ?_ _) | (with_reducible refine Wb.Ext.alloc ?_ _) | (with_reducible refine Wb.Ext.trans ?_ (by assumption))))) q1, Wb.Ext.keep (w := wr9) (by (repeat' (first | (with_reducible assumption) | (with_reducible exact Wb.Ext.refl _) | (with_reducible refine Wb.Ext.drew ?_) | (with_reducible refine Wb.Ext.drewN ?_ _) | (with_reducible refine Wb.Ext.alloc ?_ _) | (with_reducible refine Wb.Ext.trans ?_ (by assumption))))) r0, Wb.Ext.keep (w := wr9) (by (repeat' (first | (with_reducible assumption) | (with_reducible exact Wb.Ext.refl _) | (with_reducible refine Wb.Ext.drew ?_) | (with_reducible refine Wb.Ext.drewN ?_ _) | (with_reducible refine Wb.Ext.alloc ?_ _) | (with_reducible refine Wb.Ext.trans ?_ (by assumption))))) r1, Wb.Ext.keep (w := wr9) (by (repeat' (first | (with_reducible assumption) | (with_reducible exact Wb.Ext.refl _) | (with_reducible refine Wb.Ext.drew ?_) | (with_reducible refine Wb.Ext.drewN ?_ _) | (with_reducible refine Wb.Ext.alloc ?_ _) | (with_reducible refine Wb.Ext.trans ?_ (by assumption))))) s0, Wb.Ext.keep (w := wr9) (by (repeat' (first | (with_reducible assumption) | (with_reducible exact Wb.Ext.refl _) | (with_reducible refine Wb.Ext.drew ?_) | (with_reducible refine Wb.Ext.drewN ?_ _) | (with_reducible refine Wb.Ext.alloc ?_ _) | (with_reducible refine Wb.Ext.trans ?_ (by assumption))))) s1⟩ (fun hHeld => ?_)
                  clear hK K
                  (try simp only [Act.put, List.setIfInBounds_toArray, List.set_cons_zero, List.set_cons_succ])
                  refine wpAnyH_ready (rs := [6]) (by kernel_rfl) (by simp) ?_
                  refine AllReadyH.cons (o := _) rfl (fun K hK => ?_) ?_
                  · go_simp
                    go_at_call 14
                    go_fit (HMH.out _ (by (repeat' (first | (with_reducible assumption) | (with_reducible exact Wb.Ext.refl _) | (with_reducible refine Wb.Ext.drew ?_) | (with_reducible refine Wb.Ext.drewN ?_ _) | (with_reducible refine Wb.Ext.alloc ?_ _) | (with_reducible refine Wb.Ext.trans ?_ (by assumption))))))
                    rintro e wb2 ⟨rfl, hbb2⟩
                    refine hK.out _ _ ⟨Wb.Ext.keep (w := wr9) (by (repeat' (first | (with_reducible assumption) | (with_reducible exact Wb.Ext.refl _) | (with_reducible refine Wb.Ext.drew ?_) | (with_reducible refine Wb.Ext.drewN ?_ _) | (with_reducible refine Wb.Ext.alloc ?_ _) | (with_reducible refine Wb.Ext.trans ?_ (by assumption))))) q0, Wb.Ext.keep (w := wr9) (by (repeat' (first | (with_reducible assumption) | (with_reducible exact Wb.Ext.refl _) | (with_reducible refine Wb.Ext.drew ?_) | (with_reducible refine Wb.Ext.drewN ?_ _) | (with_reducible refine Wb.Ext.alloc ?_ _) | (with_reducible refine Wb.Ext.trans ?_ (by assumption))))) q1, Wb.Ext.keep (w := wr9) (by (repeat' (first | (with_reducible assumption) | (with_reducible exact Wb.Ext.refl _) | (with_reducible refine Wb.Ext.drew ?_) | (with_reducible refine Wb.Ext.drewN ?_ _) | (with_reducible refine Wb.Ext.alloc ?_ _) | (with_reducible refine Wb.Ext.trans ?_ (by assumption))))) r0, Wb.Ext.keep (w := wr9) (by (repeat' (first | (with_reducible assumption) | (with_reducible exact Wb.Ext.refl _) | (with_reducible refine Wb.Ext.drew ?_) | (with_reducible refine Wb.Ext.drewN ?_ _) | (with_reducible refine Wb.Ext.alloc ?_ _) | (with_reducible refine Wb.Ext.trans ?_ (by assumption))))) r1, Wb.Ext.keep (w := wr9) (by (repeat' (first | (with_reducible assumption) | (with_reducible exact Wb.Ext.refl _) | (with_reducible refine Wb.Ext.drew ?_) | (with_reducible refine Wb.Ext.drewN ?_ _) | (with_reducible refine Wb.Ext.alloc ?_ _) | (with_reducible refine Wb.Ext.trans ?_ (by assumption))))) s0, Wb.Ext.keep (w := wr9) (by (repeat' (first | (with_reducible assumption) | (with_reducible exact Wb.Ext.refl _) | (with_reducible refine Wb.Ext.drew ?_) | (with_reducible refine Wb.Ext.drewN ?_ _) | (with_reducible refine Wb.Ext.alloc ?_ _) | (with_reducible refine Wb.Ext.trans ?_ (by assumption))))) s1⟩ (fun hHeld => ?_)
                    clear hK K
                    (try simp only [Act.put, List.setIfInBounds_toArray, List.set_cons_zero, List.set_cons_succ])
                    refine take_d (i := 7) (d := 111) (v := ?_) rfl rfl (by kernel_rfl) (by kernel_rfl) (by kernel_rfl) (fun _ _ _ h => h) (Or.inl ⟨by rfl, ?_⟩) (by assumption) ?_
                    rotate_left
                    · (intro w hSw; (try dsimp only at hSw); go_simp; (try with_reducible rfl))
                    (try simp only [Act.put, List.setIfInBounds_toArray, List.set_cons_zero, List.set_cons_succ])
                    refine take_d (i := 8) (d := 112) (v := ?_) rfl rfl (by kernel_rfl) (by kernel_rfl) (by kernel_rfl) (fun _ _ _ h => h) (Or.inl ⟨by rfl, ?_⟩) (by assumption) ?_
                    rotate_left
                    · (intro w hSw; (try dsimp only at hSw); go_simp; (try with_reducible rfl))
                    (try simp only [Act.put, List.setIfInBounds_toArray, List.set_cons_zero, List.set_cons_succ])
                    refine take_d (i := 9) (d := 113) (v := ?_) rfl rfl (by kernel_rfl) (by kernel_rfl) (by kernel_rfl) (fun _ _ _ h => h) (Or.inl ⟨by rfl, ?_⟩) (by assumption) ?_
                    rotate_left
                    · (intro w hSw; (try dsimp only at hSw); go_simp; (try with_reducible rfl))
                    (try simp only [Act.put, List.setIfInBounds_toArray, List.set_cons_zero, List.set_cons_succ])
                    refine take_d (i := 10) (d := 114) (v := undef) rfl rfl (by kernel_rfl) (by kernel_rfl) (by kernel_rfl) (fun _ _ _ h => h) (Or.inr ⟨by rfl, rfl⟩) (by assumption) ?_
                    (try simp only [Act.put, List.setIfInBounds_toArray, List.set_cons_zero, List.set_cons_succ])
                    refine take_d (i := 11) (d := 115) (v := undef) rfl rfl (by kernel_rfl) (by kernel_rfl) (by kernel_rfl) (fun _ _ _ h => h) (Or.inr ⟨by rfl, rfl⟩) (by assumption) ?_
                    (try simp only [Act.put, List.setIfInBounds_toArray, List.set_cons_zero, List.set_cons_succ])
                    refine take_d (i := 12) (d := 116) (v := undef) rfl rfl (by kernel_rfl) (by kernel_rfl) (by kernel_rfl) (fun _ _ _ h => h) (Or.inr ⟨by rfl, rfl⟩) (by assumption) ?_
                    (try simp only [Act.put, List.setIfInBounds_toArray, List.set_cons_zero, List.set_cons_succ])
                    refine take_d (i := 13) (d := 117) (v := undef) rfl rfl (by kernel_rfl) (by kernel_rfl) (by kernel_rfl) (fun _ _ _ h => h) (Or.inr ⟨by rfl, rfl⟩) (by assumption) ?_
                    (try simp only [Act.put, List.setIfInBounds_toArray, List.set_cons_zero, List.set_cons_succ])
                    refine take_d (i := 14) (d := 118) (v := undef) rfl rfl (by kernel_rfl) (by kernel_rfl) (by kernel_rfl) (fun _ _ _ h => h) (Or.inr ⟨by rfl, rfl⟩) (by assumption) ?_
                    (try simp only [Act.put, List.setIfInBounds_toArray, List.set_cons_zero, List.set_cons_succ])
                    refine take_d (i := 15) (d := 119) (v := undef) rfl rfl (by kernel_rfl) (by kernel_rfl) (by kernel_rfl) (fun _ _ _ h => h) (Or.inr ⟨by rfl, rfl⟩) (by assumption) ?_
                    (try simp only [Act.put, List.setIfInBounds_toArray, List.set_cons_zero, List.set_cons_succ])
                    refine take_d (i := 16) (d := 120) (v := undef) rfl rfl (by kernel_rfl) (by kernel_rfl) (by kernel_rfl) (fun _ _ _ h => h) (Or.inr ⟨by rfl, rfl⟩) (by assumption) ?_
                    (try simp only [Act.put, List.setIfInBounds_toArray, List.set_cons_zero, List.set_cons_succ])
                    refine take_d (i := 17) (d := 121) (v := undef) rfl rfl (by kernel_rfl) (by kernel_rfl) (by kernel_rfl) (fun _ _ _ h => h) (Or.inr ⟨by rfl, rfl⟩) (by assumption) ?_
                    (try simp only [Act.put, List.setIfInBounds_toArray, List.set_cons_zero, List.set_cons_succ])
                    refine take_d (i := 18) (d := 122) (v := undef) rfl rfl (by kernel_rfl) (by kernel_rfl) (by kernel_rfl) (fun _ _ _ h => h) (Or.inr ⟨by rfl, rfl⟩) (by assumption) ?_
                    (try simp only [Act.put, List.setIfInBounds_toArray, List.set_cons_zero, List.set_cons_succ])
                    refine take_d (i := 19) (d := 123) (v := ?_) rfl rfl (by kernel_rfl) (by kernel_rfl) (by kernel_rfl) (fun _ _ _ h => h) (Or.inl ⟨by rfl, ?_⟩) (by assumption) ?_
                    rotate_left
                    · (intro w hSw; (try dsimp only at hSw); go_simp; (try with_reducible rfl))
                    (try simp only [Act.put, List.setIfInBounds_toArray, List.set_cons_zero, List.set_cons_succ])
                    refine take_d (i := 20) (d := 6) (v := ?_) rfl rfl (by kernel_rfl) (by kernel_rfl) (by kernel_rfl) (fun _ _ _ h => h) (Or.inl ⟨by rfl, ?_⟩) (by assumption) ?_
                    rotate_left
                    · (intro w hSw; (try dsimp only at hSw); go_simp; (try with_reducible rfl))
                    (try simp only [Act.put, List.setIfInBounds_toArray, List.set_cons_zero, List.set_cons_succ])
                    refine wpAnyH_done (by kernel_rfl) ?_ _
                    go_wp2
                    go_ret
                    exact ⟨rfl, HXR.out.trans (by (repeat' (first | (with_reducible assumption) | (with_reducible exact Wb.Ext.refl _) | (with_reducible refine Wb.Ext.drew ?_) | (with_reducible refine Wb.Ext.drewN ?_ _) | (with_reducible refine Wb.Ext.alloc ?_ _) | (with_reducible refine Wb.Ext.trans ?_ (by assumption)))))⟩
                  exact AllReadyH.nil
                exact AllReadyH.nil
            exact AllReadyH.nil
          exact AllReadyH.nil
        exact AllReadyH.nil

end Go.Proofs.YtokdmojbffnfgaaDoor
