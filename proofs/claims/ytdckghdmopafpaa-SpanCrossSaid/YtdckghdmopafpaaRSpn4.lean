/- The reference of package span: Ends. -/
import Derived.Test.YtdckghdmopafpaaRSpn3
namespace Go.Proofs.Ytdckghdmopafpaa
open Go.RowKit Go.Lib
set_option maxRecDepth 8000
attribute [local go_sem ↓] Go.wp_at_zero Go.wp_at_succ

/-- the days at which spans begin or end, as a row in memory -/
structure IsEnds (w w' : World) (l : List Wb.Sp) (v : Value) (E : List Int) : Prop where
  ends : Wb.EndsOf l E
  len : E.length ≤ l.length * 2
  row : DayR w' v E
  ext : Wb.Ext w w'
theorem ends_nil : Wb.EndsOf [] [] := ⟨List.Pairwise.nil, fun x => by simp⟩
theorem ends_take {l : List Wb.Sp} {k : Nat} {y : Wb.Sp} (h : l[k]? = some y) : l.take (k + 1) = l.take k ++ [y] := by
  obtain ⟨h1, rfl⟩ := List.getElem?_eq_some_iff.1 h
  exact List.take_succ_eq_append_getElem h1
theorem ends_same {l : List Wb.Sp} {y : Wb.Sp} {E : List Int} (h : Wb.EndsOf l E) (hy : ¬ y.1 < y.2) : Wb.EndsOf (l ++ [y]) E := by
  refine ⟨h.1, fun x => ?_⟩
  rw [h.2]
  constructor
  · rintro ⟨s, hs, h1, h2⟩
    exact ⟨s, List.mem_append_left _ hs, h1, h2⟩
  · rintro ⟨s, hs, h1, h2⟩
    rcases List.mem_append.1 hs with q | q
    · exact ⟨s, q, h1, h2⟩
    · simp at q; subst q; exact absurd h1 hy
theorem ends_more {l : List Wb.Sp} {y : Wb.Sp} {E F G : List Int} (h : Wb.EndsOf l E) (hy : y.1 < y.2) (hF : ∀ x, x ∈ F ↔ x ∈ E ∨ x = y.1) (hG : ∀ x, x ∈ G ↔ x ∈ F ∨ x = y.2) (hu : Wb.Up G) : Wb.EndsOf (l ++ [y]) G := by
  refine ⟨hu, fun x => ?_⟩
  rw [hG, hF, h.2]
  constructor
  · rintro ((⟨s, hs, h1, h2⟩ | h) | h)
    · exact ⟨s, List.mem_append_left _ hs, h1, h2⟩
    · exact ⟨y, by simp, hy, .inl h⟩
    · exact ⟨y, by simp, hy, .inr h⟩
  · rintro ⟨s, hs, h1, h2⟩
    rcases List.mem_append.1 hs with q | q
    · exact .inl (.inl ⟨s, q, h1, h2⟩)
    · simp at q; subst q
      rcases h2 with h2 | h2
      · exact .inl (.inr h2)
      · exact .inr h2

set_option maxHeartbeats 4000000 in
theorem ends_any (v : Value) (l : List Wb.Sp) (w : World) (hv : Spans w v l) (hl : l.length ≤ 100000) :
    Calls Try.prog 40 #[v] w fun e w' => ∃ v', e = .returned v' ∧ ∃ E, IsEnds w w' l v' E := by
  obtain ⟨va, vc, rfl⟩ := hv.shape
  have HV := Lib.hid hv
  clear hv
  go_enter Try.func40, Try.ntmps40
  go_wp2_with fail
  go_loopw [3, 4] (fun ov iv wr => ∃ k : Nat, k ≤ l.length ∧ iv = .int .i64 k ∧ ∃ E, IsEnds w wr (l.take k) ov E) (fun _ iv _ => l.length - (intOf iv).toNat)
  case atStart => exact ⟨0, Nat.zero_le _, rfl, [], ends_nil, Nat.zero_le _, DayR.nil, .refl _⟩
  case round =>
    obtain ⟨k, hk, rfl, E, hE⟩ := hrel
    obtain ⟨ea, ec, rfl⟩ := hE.row.shape
    have HE := Lib.hid hE
    have HX := Lib.hid hE.ext
    have hel : E.length ≤ k * 2 := by have := hE.len; rw [List.length_take, Nat.min_eq_left hk] at this; exact this
    clear hE
    by_cases hlt : k < l.length
    · obtain ⟨y, hy⟩ := Wb.get_ex hlt
      obtain ⟨b, off, rfl, hcells⟩ := (HV.out.ext HX.out).opened (tne hlt)
      have c0 := hcells _ y hy 0 _ rfl
      have c1 := hcells _ y hy 1 _ rfl
      have hki : (k : Int) < l.length := by omega
      have HY := Lib.hid hy
      clear hcells hy
      simp only [Nat.add_zero] at c0
      by_cases hyy : y.1 < y.2
      · have HLT := Lib.hid hyy
        have d1 : decide (y.1 < y.2) = true := by simpa using hyy
        clear hyy
        go_wp2_with fail
        go_quiet (fail)
        go_upto_region 6 with (fail)
        refine Wb.wp_at fun w0 hw0 => ?_
        have hx0 : Wb.Ext wr w0 := by rw [hw0]; (repeat' (first | (with_reducible assumption) | (with_reducible exact Wb.Ext.refl _) | (with_reducible refine Wb.Ext.drew ?_) | (with_reducible refine Wb.Ext.drewN ?_ _) | (with_reducible refine Wb.Ext.alloc ?_ _) | (with_reducible refine Wb.Ext.trans ?_ (by assumption))))
        clear hw0
        refine wp_region_held_drew (S := (fun w' => w'.cell? ⟨b, off + k * 2, none⟩ = some (.int .i64 y.1) ∧ w'.cell? ⟨b, off + k * 2 + 1, none⟩ = some (.int .i64 y.2))) (by kernel_rfl) ⟨Wb.Ext.keep (w := wr) (by (repeat' (first | (with_reducible assumption) | (with_reducible exact Wb.Ext.refl _) | (with_reducible refine Wb.Ext.drew ?_) | (with_reducible refine Wb.Ext.drewN ?_ _) | (with_reducible refine Wb.Ext.alloc ?_ _) | (with_reducible refine Wb.Ext.trans ?_ (by assumption))))) c0, Wb.Ext.keep (w := wr) (by (repeat' (first | (with_reducible assumption) | (with_reducible exact Wb.Ext.refl _) | (with_reducible refine Wb.Ext.drew ?_) | (with_reducible refine Wb.Ext.drewN ?_ _) | (with_reducible refine Wb.Ext.alloc ?_ _) | (with_reducible refine Wb.Ext.trans ?_ (by assumption))))) c1⟩ (fun hHeld => ?_)
        refine take_d (i := 0) (d := 22) (v := ?_) rfl rfl (by kernel_rfl) (by kernel_rfl) (by kernel_rfl) (fun _ _ _ h => h) (Or.inl ⟨by rfl, ?_⟩) (by assumption) ?_
        rotate_left
        · (intro w hSw; (try dsimp only at hSw); go_simp; (try with_reducible rfl))
        (try simp only [Act.put, List.setIfInBounds_toArray, List.set_cons_zero, List.set_cons_succ])
        refine take_d (i := 1) (d := 23) (v := ?_) rfl rfl (by kernel_rfl) (by kernel_rfl) (by kernel_rfl) (fun _ _ _ h => h) (Or.inl ⟨by rfl, ?_⟩) (by assumption) ?_
        rotate_left
        · (intro w hSw; (try dsimp only at hSw); go_simp; (try with_reducible rfl))
        (try simp only [Act.put, List.setIfInBounds_toArray, List.set_cons_zero, List.set_cons_succ])
        refine take_d (i := 2) (d := 24) (v := ?_) rfl rfl (by kernel_rfl) (by kernel_rfl) (by kernel_rfl) (fun _ _ _ h => h) (Or.inl ⟨by rfl, ?_⟩) (by assumption) ?_
        rotate_left
        · (intro w hSw; (try dsimp only at hSw); go_simp; (try with_reducible rfl))
        (try simp only [Act.put, List.setIfInBounds_toArray, List.set_cons_zero, List.set_cons_succ])
        refine take_d (i := 3) (d := 25) (v := ?_) rfl rfl (by kernel_rfl) (by kernel_rfl) (by kernel_rfl) (fun _ _ _ h => h) (Or.inl ⟨by rfl, ?_⟩) (by assumption) ?_
        rotate_left
        · (intro w hSw; (try dsimp only at hSw); go_simp; (try with_reducible rfl))
        (try simp only [Act.put, List.setIfInBounds_toArray, List.set_cons_zero, List.set_cons_succ])
        refine take_d (i := 4) (d := 26) (v := ?_) rfl rfl (by kernel_rfl) (by kernel_rfl) (by kernel_rfl) (fun _ _ _ h => h) (Or.inl ⟨by rfl, ?_⟩) (by assumption) ?_
        rotate_left
        · (intro w hSw; (try dsimp only at hSw); go_simp; (try with_reducible rfl))
        (try simp only [Act.put, List.setIfInBounds_toArray, List.set_cons_zero, List.set_cons_succ])
        refine take_d (i := 5) (d := 27) (v := ?_) rfl rfl (by kernel_rfl) (by kernel_rfl) (by kernel_rfl) (fun _ _ _ h => h) (Or.inl ⟨by rfl, ?_⟩) (by assumption) ?_
        rotate_left
        · (intro w hSw; (try dsimp only at hSw); go_simp; (try with_reducible rfl))
        (try simp only [Act.put, List.setIfInBounds_toArray, List.set_cons_zero, List.set_cons_succ])
        refine take_d (i := 7) (d := 29) (v := ?_) rfl rfl (by kernel_rfl) (by kernel_rfl) (by kernel_rfl) (fun _ _ _ h => h) (Or.inl ⟨by rfl, ?_⟩) (by assumption) ?_
        rotate_left
        · (intro w hSw; (try dsimp only at hSw); go_simp; (try with_reducible rfl))
        (try simp only [Act.put, List.setIfInBounds_toArray, List.set_cons_zero, List.set_cons_succ])
        refine take_d (i := 8) (d := 30) (v := ?_) rfl rfl (by kernel_rfl) (by kernel_rfl) (by kernel_rfl) (fun _ _ _ h => h) (Or.inl ⟨by rfl, ?_⟩) (by assumption) ?_
        rotate_left
        · (intro w hSw; (try dsimp only at hSw); go_simp; (try with_reducible rfl))
        (try simp only [Act.put, List.setIfInBounds_toArray, List.set_cons_zero, List.set_cons_succ])
        refine take_d (i := 9) (d := 31) (v := ?_) rfl rfl (by kernel_rfl) (by kernel_rfl) (by kernel_rfl) (fun _ _ _ h => h) (Or.inl ⟨by rfl, ?_⟩) (by assumption) ?_
        rotate_left
        · (intro w hSw; (try dsimp only at hSw); go_simp; (try with_reducible rfl))
        (try simp only [Act.put, List.setIfInBounds_toArray, List.set_cons_zero, List.set_cons_succ])
        refine take_d (i := 10) (d := 32) (v := ?_) rfl rfl (by kernel_rfl) (by kernel_rfl) (by kernel_rfl) (fun _ _ _ h => h) (Or.inl ⟨by rfl, ?_⟩) (by assumption) ?_
        rotate_left
        · (intro w hSw; (try dsimp only at hSw); go_simp; (try with_reducible rfl))
        (try simp only [Act.put, List.setIfInBounds_toArray, List.set_cons_zero, List.set_cons_succ])
        refine take_d (i := 11) (d := 33) (v := ?_) rfl rfl (by kernel_rfl) (by kernel_rfl) (by kernel_rfl) (fun _ _ _ h => h) (Or.inl ⟨by rfl, ?_⟩) (by assumption) ?_
        rotate_left
        · (intro w hSw; (try dsimp only at hSw); go_simp; (try with_reducible rfl))
        (try simp only [Act.put, List.setIfInBounds_toArray, List.set_cons_zero, List.set_cons_succ])
        refine wpAnyH_ready (rs := [6]) (by kernel_rfl) (by simp) ?_
        refine AllReadyH.cons (o := _) rfl (fun K hK => ?_) ?_
        · go_simp
          go_at_call 47
          go_fit (put_any _ E y.1 _ (HE.out.row.ext (by (repeat' (first | (with_reducible assumption) | (with_reducible exact Wb.Ext.refl _) | (with_reducible refine Wb.Ext.drew ?_) | (with_reducible refine Wb.Ext.drewN ?_ _) | (with_reducible refine Wb.Ext.alloc ?_ _) | (with_reducible refine Wb.Ext.trans ?_ (by assumption)))))) HE.out.ends.1 (by omega))
          rintro e w1 ⟨v1, rfl, E1, hP1⟩
          have HP1 := Lib.hid hP1
          obtain ⟨ra1, rc1, rfl⟩ := hP1.row.shape
          have hx1 : Wb.Ext wr w1 := Wb.Ext.trans (by (repeat' (first | (with_reducible assumption) | (with_reducible exact Wb.Ext.refl _) | (with_reducible refine Wb.Ext.drew ?_) | (with_reducible refine Wb.Ext.drewN ?_ _) | (with_reducible refine Wb.Ext.alloc ?_ _) | (with_reducible refine Wb.Ext.trans ?_ (by assumption))))) hP1.ext
          clear hP1
          refine hK.out _ _ ⟨Wb.Ext.keep (w := wr) (by (repeat' (first | (with_reducible assumption) | (with_reducible exact Wb.Ext.refl _) | (with_reducible refine Wb.Ext.drew ?_) | (with_reducible refine Wb.Ext.drewN ?_ _) | (with_reducible refine Wb.Ext.alloc ?_ _) | (with_reducible refine Wb.Ext.trans ?_ (by assumption))))) c0, Wb.Ext.keep (w := wr) (by (repeat' (first | (with_reducible assumption) | (with_reducible exact Wb.Ext.refl _) | (with_reducible refine Wb.Ext.drew ?_) | (with_reducible refine Wb.Ext.drewN ?_ _) | (with_reducible refine Wb.Ext.alloc ?_ _) | (with_reducible refine Wb.Ext.trans ?_ (by assumption))))) c1⟩ (fun hHeld => ?_)
          clear hK K
          (try simp only [Act.put, List.setIfInBounds_toArray, List.set_cons_zero, List.set_cons_succ])
          refine wpAnyH_ready (rs := [12]) (by kernel_rfl) (by simp) ?_
          refine AllReadyH.cons (o := _) rfl (fun K hK => ?_) ?_
          · go_simp
            go_at_call 47
            go_fit (put_any _ E1 y.2 _ (HP1.out.row.ext (by (repeat' (first | (with_reducible assumption) | (with_reducible exact Wb.Ext.refl _) | (with_reducible refine Wb.Ext.drew ?_) | (with_reducible refine Wb.Ext.drewN ?_ _) | (with_reducible refine Wb.Ext.alloc ?_ _) | (with_reducible refine Wb.Ext.trans ?_ (by assumption)))))) HP1.out.up (by have := HP1.out.len; omega))
            rintro e w2 ⟨v2, rfl, E2, hP2⟩
            have HP2 := Lib.hid hP2
            obtain ⟨ra2, rc2, rfl⟩ := hP2.row.shape
            have hx2 : Wb.Ext w1 w2 := Wb.Ext.trans (by (repeat' (first | (with_reducible assumption) | (with_reducible exact Wb.Ext.refl _) | (with_reducible refine Wb.Ext.drew ?_) | (with_reducible refine Wb.Ext.drewN ?_ _) | (with_reducible refine Wb.Ext.alloc ?_ _) | (with_reducible refine Wb.Ext.trans ?_ (by assumption))))) hP2.ext
            have hx3 : Wb.Ext wr w2 := hx1.trans hx2
            clear hP2
            refine hK.out _ _ ⟨Wb.Ext.keep (w := wr) (by (repeat' (first | (with_reducible assumption) | (with_reducible exact Wb.Ext.refl _) | (with_reducible refine Wb.Ext.drew ?_) | (with_reducible refine Wb.Ext.drewN ?_ _) | (with_reducible refine Wb.Ext.alloc ?_ _) | (with_reducible refine Wb.Ext.trans ?_ (by assumption))))) c0, Wb.Ext.keep (w := wr) (by (repeat' (first | (with_reducible assumption) | (with_reducible exact Wb.Ext.refl _) | (with_reducible refine Wb.Ext.drew ?_) | (with_reducible refine Wb.Ext.drewN ?_ _) | (with_reducible refine Wb.Ext.alloc ?_ _) | (with_reducible refine Wb.Ext.trans ?_ (by assumption))))) c1⟩ (fun hHeld => ?_)
            clear hK K
            (try simp only [Act.put, List.setIfInBounds_toArray, List.set_cons_zero, List.set_cons_succ])
            refine take_d (i := 13) (d := 3) (v := ?_) rfl rfl (by kernel_rfl) (by kernel_rfl) (by kernel_rfl) (fun _ _ _ h => h) (Or.inl ⟨by rfl, ?_⟩) (by assumption) ?_
            rotate_left
            · (intro w hSw; (try dsimp only at hSw); go_simp; (try with_reducible rfl))
            (try simp only [Act.put, List.setIfInBounds_toArray, List.set_cons_zero, List.set_cons_succ])
            refine wpAnyH_done (by kernel_rfl) ?_ _
            have HN : Hid (IsEnds w w2 (l.take (k + 1)) (.slice ra2 E2.length rc2) E2) := Lib.hid ⟨by rw [ends_take HY.out]; exact ends_more HE.out.ends HLT.out HP1.out.mem HP2.out.mem HP2.out.up, by have := HP1.out.len; have := HP2.out.len; rw [List.length_take, Nat.min_eq_left (by omega)]; omega, HP2.out.row, HE.out.ext.trans hx3⟩
            go_wp2
            go_roundw
            case rel => exact ⟨k + 1, by omega, by go_num, E2, HN.out⟩
            case measure => simp [intOf]; omega
          exact AllReadyH.nil
        exact AllReadyH.nil
      · have d1 : decide (y.1 < y.2) = false := by simpa using hyy
        have HN : Hid (IsEnds w wr (l.take (k + 1)) (.slice ea E.length ec) E) := Lib.hid ⟨by rw [ends_take HY.out]; exact ends_same HE.out.ends hyy, by rw [List.length_take, Nat.min_eq_left (by omega)]; omega, HE.out.row, HE.out.ext⟩
        clear hyy
        go_wp2_with fail
        go_quiet (fail)
        go_wp2
        go_roundw
        case rel => exact ⟨k + 1, by omega, by go_num, E, HN.out.ends, HN.out.len, HN.out.row.ext (by (repeat' (first | (with_reducible assumption) | (with_reducible exact Wb.Ext.refl _) | (with_reducible refine Wb.Ext.drew ?_) | (with_reducible refine Wb.Ext.drewN ?_ _) | (with_reducible refine Wb.Ext.alloc ?_ _) | (with_reducible refine Wb.Ext.trans ?_ (by assumption))))), HN.out.ext.trans (by (repeat' (first | (with_reducible assumption) | (with_reducible exact Wb.Ext.refl _) | (with_reducible refine Wb.Ext.drew ?_) | (with_reducible refine Wb.Ext.drewN ?_ _) | (with_reducible refine Wb.Ext.alloc ?_ _) | (with_reducible refine Wb.Ext.trans ?_ (by assumption)))))⟩
        case measure => simp [intOf]; omega
    · obtain rfl : k = l.length := by omega
      rw [List.take_length] at HE
      go_wp2
      go_ret
      exact ⟨_, rfl, E, HE.out⟩

end Go.Proofs.Ytdckghdmopafpaa
