/- Mod34 -/
import Derived.Test.YtnefdpnolojojaaGreatMRd
import Derived.Test.YtnefdpnolojojaaGreatMod7
import Derived.Test.YtnefdpnolojojaaGreatMRc
namespace Go.Proofs.YtnefdpnolojojaaGreat
open Go.RowKit Go.Sort Go.Lib Go.Maps
set_option maxRecDepth 8000
attribute [local go_sem ↓] Go.wp_at_zero Go.wp_at_succ
theorem step_append_rowX {P : Program} {w : World} {ops : Array Oper} {o : Oper} {a : Act} {K : Act → World → Prop} {Q : Exit → Act → World → Prop} {E : Prop} (hgd : o.guard = none) (s x : Operand) (t : TypeId)
  (ho : o.op = .call { callee := .builtin .append, args := #[s, x], argTypes := #[t, t] })
  (base : Nat) (e : TypeId) (i : TypeInfo) (z : Value) (size bytes : Nat) (ht : P.underlying t = some (.slice e)) (hi : P.info? e = some i) (hz : i.zero = some z)
  (hsize : i.size = size) (hby : i.bytes = bytes) (hzs : z.cells.size = size) (hsz : 0 < size)
  (v : Value) (n : Nat) (xs : List Value) (hs : a.eval s = v) (hown : w.ownsRow base e size v n xs)
  (xv : Value) (hx : a.eval x = xv) (m : Nat) (news : List Value) (hsrc : SrcX w size xv m news) (h1 : ∀ u ∈ news, u.oneCell' = true)
  (h63 : n + m ≤ maxLen) (hbytes : (n + m) * bytes ≤ 140737488355328) (hbase : base ≤ w.heap.size)
  (h : ∀ v' w', w'.ownsRow base e size v' (n + m) (xs ++ news) → w.grownBy w' v.ownBlock → (v'.ownBlock = v.ownBlock ∨ v'.ownBlock = some w.heap.size) → K (a.put o.dst v') w') :
  if Region.wanted o (yielded ops a.tmps) = true then Oper.wp P o a w K Q else E := by
 rcases hsrc with hsrc | ⟨rfl, rfl, c, rfl⟩
 ·exact Wb.step_append_row hgd s x t ho base e i z size bytes ht hi hz hsize hby hzs hsz v n xs hs hown xv hx m news hsrc h1 h63 hbytes hbase h
 ·exact step_append_run hgd s x t ho v _ v w hs hx (run_append_void (P := P) (w := w) base t o.type e i size ht hi v n xs hown c) (h v w (by simpa using hown) (Wb.grownBy_refl _ _) (.inl rfl))
def m34J (j : Nat) : Bool := j != 8
noncomputable def m34R : Code := ((Tryz.f21.body.bind (findReg 34)).getD .skip)
set_option maxHeartbeats 100000000 in
theorem m34 (x0 x1 x3 x4 x5 x6 x7 x8 x9 x10 x12 x13 x15 x16 x17 x18 x19 x20 x21 x22 x23 x24 x25 x26 x27 x28 x29 x30 x31 x32 x33 x34 x35 x36 x37 x38 x39 x40 x41 x42 x43 x44 x45 x46 x47 x48 x49 x50 x51 x52 x53 x54 x55 x56 x57 x58 x59 x60 x61 x62 x63 x64 x65 x66 x67 x68 x69 x70 x71 x72 x73 x74 x75 x76 x77 x78 x79 x80 x81 x82 x83 x84 x85 x86 x87 x88 x89 x90 x91 x92 x93 x94 x95 x96 x97 x98 x99 x100 x101 x102 x103 x104 x105 x106 x107 x108 x109 x110 x111 x112 x113 x114 x115 x116 x117 x118 x119 x120 x121 x122 x123 x124 x125 x126 x127 x128 x129 x130 x131 x132 x133 x134 x135 x136 x137 x138 x139 x140 x141 x142 x143 x144 x145 x146 x147 x148 x149 x150 x151 x152 x153 x154 x155 x156 x157 x158 x159 x160 x161 x162 x163 x164 x165 x166 x167 x168 x169 x170 x171 x172 x173 x174 x175 x176 x177 x178 x179 x180 x181 x182 x183 x184 x185 x186 x187 x188 x189 x190 x191 x192 x193 x194 x195 x196 x197 x198 : Value) (ds) (w0 : World) (A O R RL : Nat) (n y i k : Int) (ra : Option Addr) (rc : Nat) (LR : List RnM) (ga : Option Addr) (gn gc : Nat) (o1 o2 : Value) (hO : O < w0.heap.size)
  (a0 : w0.cell? ⟨A, 0, none⟩ = some (.slice ra RL rc)) (r0 : w0.cell? ⟨R, 0, none⟩ = some (.int .i64 n)) (r1 : w0.cell? ⟨R, 1, none⟩ = some (.int .i64 y)) (r2 : w0.cell? ⟨R, 2, none⟩ = some (.int .i64 i)) (r3 : w0.cell? ⟨R, 3, none⟩ = some (.int .i64 k)) (r4 : w0.cell? ⟨R, 4, none⟩ = some (.slice ga gn gc))
  (c0 : w0.cell? ⟨O, 0, none⟩ = some (.slice none 0 0)) (c1 : w0.cell? ⟨O, 1, none⟩ = some o1) (c2 : w0.cell? ⟨O, 2, none⟩ = some o2) (cf : ∀ j, w0.frozen? ⟨O, j, none⟩ = false)
  (hs : SrcX w0 5 (.slice ra RL rc) RL (rowsOf rnc LR)) (h1 : ∀ u ∈ rowsOf rnc LR, u.oneCell' = true) (hb : RL ≤ 4000) :
  Code.wp Tryz.prog m34R (OnEnd fun a' wx => ∃ (va : Option Addr) (vc : Nat) (u189 u190 u191 u192 u193 u194 u195 u196 : Value), a' = ⟨#[x0, x1, .pointer (some ⟨A, 0, none⟩), x3, x4, x5, x6, x7, x8, x9, x10, .pointer (some ⟨O, 0, none⟩), x12, x13, .pointer (some ⟨R, 0, none⟩), x15, x16, x17, x18, x19, x20, x21, x22, x23, x24, x25, x26, x27, x28, x29, x30, x31, x32, x33, x34, x35, x36, x37, x38, x39, x40, x41, x42, x43, x44, x45, x46, x47, x48, x49, x50, x51, x52, x53, x54, x55, x56, x57, x58, x59, x60, x61, x62, x63, x64, x65, x66, x67, x68, x69, x70, x71, x72, x73, x74, x75, x76, x77, x78, x79, x80, x81, x82, x83, x84, x85, x86, x87, x88, x89, x90, x91, x92, x93, x94, x95, x96, x97, x98, x99, x100, x101, x102, x103, x104, x105, x106, x107, x108, x109, x110, x111, x112, x113, x114, x115, x116, x117, x118, x119, x120, x121, x122, x123, x124, x125, x126, x127, x128, x129, x130, x131, x132, x133, x134, x135, x136, x137, x138, x139, x140, x141, x142, x143, x144, x145, x146, x147, x148, x149, x150, x151, x152, x153, x154, x155, x156, x157, x158, x159, x160, x161, x162, x163, x164, x165, x166, x167, x168, x169, x170, x171, x172, x173, x174, x175, x176, x177, x178, x179, x180, x181, x182, x183, x184, x185, x186, x187, x188, u189, u190, u191, u192, u193, u194, u195, u196, x197, x198], ds⟩ ∧ Hid (Kept (fun q => q < w0.heap.size ∧ q ≠ O) w0 wx) ∧ wx.cell? ⟨O, 0, none⟩ = some (.slice va (RL + 1) vc) ∧ wx.cell? ⟨O, 1, none⟩ = some o1 ∧ wx.cell? ⟨O, 2, none⟩ = some o2 ∧
   Hid (wx.ownsRow w0.heap.size 31 5 (.slice va (RL + 1) vc) (RL + 1) (rowsOf rnc LR ++ [.int .i64 n, .int .i64 y, .int .i64 i, .int .i64 k, .slice ga gn gc]))) ⟨#[x0, x1, .pointer (some ⟨A, 0, none⟩), x3, x4, x5, x6, x7, x8, x9, x10, .pointer (some ⟨O, 0, none⟩), x12, x13, .pointer (some ⟨R, 0, none⟩), x15, x16, x17, x18, x19, x20, x21, x22, x23, x24, x25, x26, x27, x28, x29, x30, x31, x32, x33, x34, x35, x36, x37, x38, x39, x40, x41, x42, x43, x44, x45, x46, x47, x48, x49, x50, x51, x52, x53, x54, x55, x56, x57, x58, x59, x60, x61, x62, x63, x64, x65, x66, x67, x68, x69, x70, x71, x72, x73, x74, x75, x76, x77, x78, x79, x80, x81, x82, x83, x84, x85, x86, x87, x88, x89, x90, x91, x92, x93, x94, x95, x96, x97, x98, x99, x100, x101, x102, x103, x104, x105, x106, x107, x108, x109, x110, x111, x112, x113, x114, x115, x116, x117, x118, x119, x120, x121, x122, x123, x124, x125, x126, x127, x128, x129, x130, x131, x132, x133, x134, x135, x136, x137, x138, x139, x140, x141, x142, x143, x144, x145, x146, x147, x148, x149, x150, x151, x152, x153, x154, x155, x156, x157, x158, x159, x160, x161, x162, x163, x164, x165, x166, x167, x168, x169, x170, x171, x172, x173, x174, x175, x176, x177, x178, x179, x180, x181, x182, x183, x184, x185, x186, x187, x188, x189, x190, x191, x192, x193, x194, x195, x196, x197, x198], ds⟩ w0 := by
 have HIN := Lib.hid (info_parts infoRun)
 have HSRC := Lib.hid hs
 have HONE := Lib.hid h1
 have k0 : ∀ x, Wb.Ext w0 x → x.cell? ⟨A, 0, none⟩ = some (.slice ra RL rc) := fun x h => h.keep a0
 have k1 : ∀ x, Wb.Ext w0 x → x.cell? ⟨R, 0, none⟩ = some (.int .i64 n) := fun x h => h.keep r0
 have k2 : ∀ x, Wb.Ext w0 x → x.cell? ⟨R, 1, none⟩ = some (.int .i64 y) := fun x h => h.keep r1
 have k3 : ∀ x, Wb.Ext w0 x → x.cell? ⟨R, 2, none⟩ = some (.int .i64 i) := fun x h => h.keep r2
 have k4 : ∀ x, Wb.Ext w0 x → x.cell? ⟨R, 3, none⟩ = some (.int .i64 k) := fun x h => h.keep r3
 have k5 : ∀ x, Wb.Ext w0 x → x.cell? ⟨R, 4, none⟩ = some (.slice ga gn gc) := fun x h => h.keep r4
 have k6 : ∀ x, Wb.Ext w0 x → x.cell? ⟨O, 0, none⟩ = some (.slice none 0 0) := fun x h => h.keep c0
 have k7 : ∀ x, Wb.Ext w0 x → x.cell? ⟨O, 1, none⟩ = some o1 := fun x h => h.keep c1
 have k8 : ∀ x, Wb.Ext w0 x → x.cell? ⟨O, 2, none⟩ = some o2 := fun x h => h.keep c2
 have kf : ∀ x, Wb.Ext w0 x → ∀ j, x.frozen? ⟨O, j, none⟩ = false := fun x h j => (h.cells.2 _ _ hO).trans (cf j)
 clear hs h1 a0 r0 r1 r2 r3 r4 c0 c1 c2 cf
 conv => arg 2; whnf
 refine startJ (S := Wb.Ext w0) (J := m34J) (n := 9) (l := #[false, false, false, false, false, false, false, false, false]) (by kernel_rfl) (by kernel_rfl) (by kernel_rfl) ?_
 have hHeld := Wb.Ext.drew (.refl w0)
 refine tJ (inJ [2, 3, 6, 7, 8]) 1 (inJ_lt (n := 9) (by kernel_rfl)) ?_
 refine tJ (inJ [3, 6, 7, 8]) 2 (inJ_lt (n := 9) (by kernel_rfl)) ?_
 refine tJ (inJ [5, 6, 7, 8]) 4 (inJ_lt (n := 9) (by kernel_rfl)) ?_
 refine o2J 0 5 ?_ ?_
 ·intro K hK
  go_simp
  refine atK fun w1 hw1 => ?_
  have hx1 : Wb.Ext w0 w1 := by rw [hw1]; exact Wb.Ext.alloc (Wb.Ext.drew (.refl w0)) _
  obtain ⟨gr, gre⟩ : ∃ g, w0.heap.size = g := ⟨_, rfl⟩
  have grh : gr < w1.heap.size := by rw [hw1, ← gre]; simp
  have HO1 := Lib.hid (show w1.ownsRow w0.heap.size 31 5 (.slice (some ⟨gr, 0, none⟩) 0 0) 0 [] by rw [hw1, ← gre]; exact own_empty (w := w0.drew) ((Wb.Ext.drew (.refl w0))).size)
  (try rw [gre])
  (try clear gre hw1)
  refine passJ hK hx1 (fun hHeld => ?_)
  clear hK K
  (try simp only [sA, sB])
  refine o2J 3 5 ?_ ?_
  ·intro K hK
   obtain ⟨hi, hz0, hz1, hz2⟩ := HIN.out.choose_spec
   refine step_append_rowX (by rfl) _ _ _ (by rfl) w0.heap.size 31 _ rnZ 5 56 Tryz.underlying23 hi hz0 hz1 hz2 (by rfl) (by decide) _ 0 [] (by rfl) HO1.out _ (by rfl) RL (rowsOf rnc LR) (HSRC.out.ext hx1) HONE.out (by unfold maxLen; omega) (by omega) (hx1).size ?_
   intro v2 w2 ho2 hg2 hat2
   have hx2 : Wb.Ext w0 w2 := Wb.Ext.grown hx1 hg2 (fun q hq => (HO1.out.lt q hq).1)
   rw [Nat.zero_add, List.nil_append] at ho2
   obtain ⟨v2a, v2c, rfl⟩ := row_shape ho2
   have HO2 := Lib.hid ho2
   replace grh : gr < w2.heap.size := Nat.lt_of_lt_of_le grh hg2.size
   clear hi hz0 hz1 hz2 ho2 hg2 hat2
   refine passJ hK hx2 (fun hHeld => ?_)
   clear hK K
   (try simp only [Act.put, sA, sB, sC])
   refine o1J 5 ?_
   ·intro K hK
    go_simp
    refine atK fun w3 hw3 => ?_
    have hx3 : Wb.Ext w0 w3 := by rw [hw3]; exact Wb.Ext.alloc hx2 _
    obtain ⟨gx, gxe⟩ : ∃ g, w2.heap.size = g := ⟨_, rfl⟩
    have gxh : gx < w3.heap.size := by rw [hw3, ← gxe]; simp
    have HL3 := Lib.hid (show Wb.SrcRow w3 5 (.slice (some ⟨gx, 0, none⟩) 1 1) 1 [.int .i64 n, .int .i64 y, .int .i64 i, .int .i64 k, .slice ga gn gc] by rw [hw3, ← gxe]; exact src_lit w2 _ rfl [.int .i64 n, .int .i64 y, .int .i64 i, .int .i64 k, .slice ga gn gc] _ _)
    have gxn : gx ≠ gr := by rw [← gxe]; omega
    replace grh : gr < w3.heap.size := Nat.lt_of_lt_of_le grh (by rw [hw3]; simp)
    have HO3 := Lib.hid (show w3.ownsRow _ _ _ _ _ _ by rw [hw3]; exact row_ext3 HO2.out (Wb.Ext.alloc (.refl _) _))
    (try rw [gxe])
    (try clear gxe hw3)
    refine passJ hK hx3 (fun hHeld => ?_)
    clear hK K
    (try simp only [sA, sB, sC])
    refine o1J 6 ?_
    ·intro K hK
     obtain ⟨hi, hz0, hz1, hz2⟩ := HIN.out.choose_spec
     refine Wb.step_append_row (by rfl) _ _ _ (by rfl) w0.heap.size 31 _ rnZ 5 56 Tryz.underlying23 hi hz0 hz1 hz2 (by rfl) (by decide) _ RL (rowsOf rnc LR) (by rfl) HO3.out _ (by rfl) 1 [.int .i64 n, .int .i64 y, .int .i64 i, .int .i64 k, .slice ga gn gc] HL3.out (by intro u hu; simp at hu; rcases hu with rfl | rfl | rfl | rfl | rfl <;> rfl) (by unfold maxLen; omega) (by omega) (hx3).size ?_
     intro v4 w4 ho4 hg4 hat4
     have hx4 : Wb.Ext w0 w4 := Wb.Ext.grown hx3 hg4 (fun q hq => (HO3.out.lt q hq).1)
     obtain ⟨v4a, v4c, rfl⟩ := row_shape ho4
     have HO4 := Lib.hid ho4
     clear hi hz0 hz1 hz2 ho4 hg4 hat4
     refine passJ hK hx4 (fun hHeld => ?_)
     clear hK K
     (try simp only [Act.put, sA, sB, sC])
     refine tJ (inJ [8]) 7 (inJ_lt (n := 9) (by kernel_rfl)) ?_
     refine o1J 8 ?_
     intro K hK
     go_simp
     refine hK.out _ _ (fun h => absurd h (by decide)) ?_
     clear hK K
     (try simp only [sA, sB, sC])
     refine doneJ (by kernel_rfl) ?_ _
     have hk9 : Kept (fun q => q ≠ O) w4 (w4.setCell ⟨O, 0, none⟩ (.slice v4a (RL + 1) v4c)) := .grown (setj_grown _ _ _ _) (fun q e hq hne => by cases e; exact hne rfl)
     have q0 := k6 _ hx4
     have q1 := k7 _ hx4
     have q2 := k8 _ hx4
     exact ⟨v4a, v4c, _, _, _, _, _, _, _, _, rfl, Lib.hid ((Kept.ext hx4).trans (hk9.mono fun q _ hq => hq.2)), by simp [go_sem, q0], by simp [go_sem, q1], by simp [go_sem, q2], Lib.hid (own_keptF HO4.out hk9 (fun q hq e => by have := (HO4.out.lt q hq).1; omega))⟩
  ·intro K hK
   go_simp
   refine atK fun w2 hw2 => ?_
   have hx2 : Wb.Ext w0 w2 := by rw [hw2]; exact Wb.Ext.alloc hx1 _
   obtain ⟨gx, gxe⟩ : ∃ g, w1.heap.size = g := ⟨_, rfl⟩
   have gxh : gx < w2.heap.size := by rw [hw2, ← gxe]; simp
   have HL2 := Lib.hid (show Wb.SrcRow w2 5 (.slice (some ⟨gx, 0, none⟩) 1 1) 1 [.int .i64 n, .int .i64 y, .int .i64 i, .int .i64 k, .slice ga gn gc] by rw [hw2, ← gxe]; exact src_lit w1 _ rfl [.int .i64 n, .int .i64 y, .int .i64 i, .int .i64 k, .slice ga gn gc] _ _)
   have gxn : gx ≠ gr := by rw [← gxe]; omega
   replace grh : gr < w2.heap.size := Nat.lt_of_lt_of_le grh (by rw [hw2]; simp)
   have HO2 := Lib.hid (show w2.ownsRow _ _ _ _ _ _ by rw [hw2]; exact row_ext3 HO1.out (Wb.Ext.alloc (.refl _) _))
   (try rw [gxe])
   (try clear gxe hw2)
   refine passJ hK hx2 (fun hHeld => ?_)
   clear hK K
   (try simp only [sA, sB, sC])
   refine o1J 3 ?_
   ·intro K hK
    obtain ⟨hi, hz0, hz1, hz2⟩ := HIN.out.choose_spec
    refine step_append_rowX (by rfl) _ _ _ (by rfl) w0.heap.size 31 _ rnZ 5 56 Tryz.underlying23 hi hz0 hz1 hz2 (by rfl) (by decide) _ 0 [] (by rfl) HO2.out _ (by rfl) RL (rowsOf rnc LR) (HSRC.out.ext hx2) HONE.out (by unfold maxLen; omega) (by omega) (hx2).size ?_
    intro v3 w3 ho3 hg3 hat3
    have hx3 : Wb.Ext w0 w3 := Wb.Ext.grown hx2 hg3 (fun q hq => (HO2.out.lt q hq).1)
    rw [Nat.zero_add, List.nil_append] at ho3
    obtain ⟨v3a, v3c, rfl⟩ := row_shape ho3
    have HO3 := Lib.hid ho3
    have HL3 := Lib.hid (src_grown HL2.out hg3 (fun a m9 c e => by cases e; intro hq; simp [Value.ownBlock] at hq; omega))
    replace gxh : gx < w3.heap.size := Nat.lt_of_lt_of_le gxh hg3.size
    replace grh : gr < w3.heap.size := Nat.lt_of_lt_of_le grh hg3.size
    clear hi hz0 hz1 hz2 ho3 hg3 hat3
    refine passJ hK hx3 (fun hHeld => ?_)
    clear hK K
    (try simp only [Act.put, sA, sB, sC])
    refine o1J 6 ?_
    ·intro K hK
     obtain ⟨hi, hz0, hz1, hz2⟩ := HIN.out.choose_spec
     refine Wb.step_append_row (by rfl) _ _ _ (by rfl) w0.heap.size 31 _ rnZ 5 56 Tryz.underlying23 hi hz0 hz1 hz2 (by rfl) (by decide) _ RL (rowsOf rnc LR) (by rfl) HO3.out _ (by rfl) 1 [.int .i64 n, .int .i64 y, .int .i64 i, .int .i64 k, .slice ga gn gc] HL3.out (by intro u hu; simp at hu; rcases hu with rfl | rfl | rfl | rfl | rfl <;> rfl) (by unfold maxLen; omega) (by omega) (hx3).size ?_
     intro v4 w4 ho4 hg4 hat4
     have hx4 : Wb.Ext w0 w4 := Wb.Ext.grown hx3 hg4 (fun q hq => (HO3.out.lt q hq).1)
     obtain ⟨v4a, v4c, rfl⟩ := row_shape ho4
     have HO4 := Lib.hid ho4
     clear hi hz0 hz1 hz2 ho4 hg4 hat4
     refine passJ hK hx4 (fun hHeld => ?_)
     clear hK K
     (try simp only [Act.put, sA, sB, sC])
     refine tJ (inJ [8]) 7 (inJ_lt (n := 9) (by kernel_rfl)) ?_
     refine o1J 8 ?_
     intro K hK
     go_simp
     refine hK.out _ _ (fun h => absurd h (by decide)) ?_
     clear hK K
     (try simp only [sA, sB, sC])
     refine doneJ (by kernel_rfl) ?_ _
     have hk9 : Kept (fun q => q ≠ O) w4 (w4.setCell ⟨O, 0, none⟩ (.slice v4a (RL + 1) v4c)) := .grown (setj_grown _ _ _ _) (fun q e hq hne => by cases e; exact hne rfl)
     have q0 := k6 _ hx4
     have q1 := k7 _ hx4
     have q2 := k8 _ hx4
     exact ⟨v4a, v4c, _, _, _, _, _, _, _, _, rfl, Lib.hid ((Kept.ext hx4).trans (hk9.mono fun q _ hq => hq.2)), by simp [go_sem, q0], by simp [go_sem, q1], by simp [go_sem, q2], Lib.hid (own_keptF HO4.out hk9 (fun q hq e => by have := (HO4.out.lt q hq).1; omega))⟩
 ·intro K hK
  go_simp
  refine atK fun w1 hw1 => ?_
  have hx1 : Wb.Ext w0 w1 := by rw [hw1]; exact Wb.Ext.alloc (Wb.Ext.drew (.refl w0)) _
  obtain ⟨gx, gxe⟩ : ∃ g, w0.heap.size = g := ⟨_, rfl⟩
  have gxh : gx < w1.heap.size := by rw [hw1, ← gxe]; simp
  have HL1 := Lib.hid (show Wb.SrcRow w1 5 (.slice (some ⟨gx, 0, none⟩) 1 1) 1 [.int .i64 n, .int .i64 y, .int .i64 i, .int .i64 k, .slice ga gn gc] by rw [hw1, ← gxe]; exact src_lit w0.drew _ rfl [.int .i64 n, .int .i64 y, .int .i64 i, .int .i64 k, .slice ga gn gc] _ _)
  (try rw [gxe])
  (try clear gxe hw1)
  refine passJ hK hx1 (fun hHeld => ?_)
  clear hK K
  (try simp only [sA, sB, sC])
  refine o1J 0 ?_
  ·intro K hK
   go_simp
   refine atK fun w2 hw2 => ?_
   have hx2 : Wb.Ext w0 w2 := by rw [hw2]; exact Wb.Ext.alloc hx1 _
   obtain ⟨gr, gre⟩ : ∃ g, w1.heap.size = g := ⟨_, rfl⟩
   have grh : gr < w2.heap.size := by rw [hw2, ← gre]; simp
   have HO2 := Lib.hid (show w2.ownsRow w0.heap.size 31 5 (.slice (some ⟨gr, 0, none⟩) 0 0) 0 [] by rw [hw2, ← gre]; exact own_empty (w := w1) (hx1).size)
   have gxn : gx ≠ gr := by rw [← gre]; omega
   replace gxh : gx < w2.heap.size := Nat.lt_of_lt_of_le gxh (by rw [hw2]; simp)
   have HL2 := Lib.hid (show Wb.SrcRow w2 5 (.slice (some ⟨gx, 0, none⟩) 1 1) 1 [.int .i64 n, .int .i64 y, .int .i64 i, .int .i64 k, .slice ga gn gc] by rw [hw2]; exact (HL1.out.ext (Wb.Ext.alloc (.refl _) _)))
   (try rw [gre])
   (try clear gre hw2)
   refine passJ hK hx2 (fun hHeld => ?_)
   clear hK K
   (try simp only [sA, sB])
   refine o1J 3 ?_
   ·intro K hK
    obtain ⟨hi, hz0, hz1, hz2⟩ := HIN.out.choose_spec
    refine step_append_rowX (by rfl) _ _ _ (by rfl) w0.heap.size 31 _ rnZ 5 56 Tryz.underlying23 hi hz0 hz1 hz2 (by rfl) (by decide) _ 0 [] (by rfl) HO2.out _ (by rfl) RL (rowsOf rnc LR) (HSRC.out.ext hx2) HONE.out (by unfold maxLen; omega) (by omega) (hx2).size ?_
    intro v3 w3 ho3 hg3 hat3
    have hx3 : Wb.Ext w0 w3 := Wb.Ext.grown hx2 hg3 (fun q hq => (HO2.out.lt q hq).1)
    rw [Nat.zero_add, List.nil_append] at ho3
    obtain ⟨v3a, v3c, rfl⟩ := row_shape ho3
    have HO3 := Lib.hid ho3
    have HL3 := Lib.hid (src_grown HL2.out hg3 (fun a m9 c e => by cases e; intro hq; simp [Value.ownBlock] at hq; omega))
    replace gxh : gx < w3.heap.size := Nat.lt_of_lt_of_le gxh hg3.size
    replace grh : gr < w3.heap.size := Nat.lt_of_lt_of_le grh hg3.size
    clear hi hz0 hz1 hz2 ho3 hg3 hat3
    refine passJ hK hx3 (fun hHeld => ?_)
    clear hK K
    (try simp only [Act.put, sA, sB, sC])
    refine o1J 6 ?_
    ·intro K hK
     obtain ⟨hi, hz0, hz1, hz2⟩ := HIN.out.choose_spec
     refine Wb.step_append_row (by rfl) _ _ _ (by rfl) w0.heap.size 31 _ rnZ 5 56 Tryz.underlying23 hi hz0 hz1 hz2 (by rfl) (by decide) _ RL (rowsOf rnc LR) (by rfl) HO3.out _ (by rfl) 1 [.int .i64 n, .int .i64 y, .int .i64 i, .int .i64 k, .slice ga gn gc] HL3.out (by intro u hu; simp at hu; rcases hu with rfl | rfl | rfl | rfl | rfl <;> rfl) (by unfold maxLen; omega) (by omega) (hx3).size ?_
     intro v4 w4 ho4 hg4 hat4
     have hx4 : Wb.Ext w0 w4 := Wb.Ext.grown hx3 hg4 (fun q hq => (HO3.out.lt q hq).1)
     obtain ⟨v4a, v4c, rfl⟩ := row_shape ho4
     have HO4 := Lib.hid ho4
     clear hi hz0 hz1 hz2 ho4 hg4 hat4
     refine passJ hK hx4 (fun hHeld => ?_)
     clear hK K
     (try simp only [Act.put, sA, sB, sC])
     refine tJ (inJ [8]) 7 (inJ_lt (n := 9) (by kernel_rfl)) ?_
     refine o1J 8 ?_
     intro K hK
     go_simp
     refine hK.out _ _ (fun h => absurd h (by decide)) ?_
     clear hK K
     (try simp only [sA, sB, sC])
     refine doneJ (by kernel_rfl) ?_ _
     have hk9 : Kept (fun q => q ≠ O) w4 (w4.setCell ⟨O, 0, none⟩ (.slice v4a (RL + 1) v4c)) := .grown (setj_grown _ _ _ _) (fun q e hq hne => by cases e; exact hne rfl)
     have q0 := k6 _ hx4
     have q1 := k7 _ hx4
     have q2 := k8 _ hx4
     exact ⟨v4a, v4c, _, _, _, _, _, _, _, _, rfl, Lib.hid ((Kept.ext hx4).trans (hk9.mono fun q _ hq => hq.2)), by simp [go_sem, q0], by simp [go_sem, q1], by simp [go_sem, q2], Lib.hid (own_keptF HO4.out hk9 (fun q hq e => by have := (HO4.out.lt q hq).1; omega))⟩
end Go.Proofs.YtnefdpnolojojaaGreat
