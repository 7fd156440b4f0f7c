/-
  The walks, where the first two numbers are in one order, of recensionlaw03.DeciOrder: it returns true, whatever the three numbers. Helper lemmas; the statement itself is proved in the row's text.
-/
import Derived.Test.YtcdpjgdaofgpcaaDoorLawOrder
namespace Go.Proofs.YtcdpjgdaofgpcaaDoor
open Go.RowKit
set_option maxRecDepth 100000
set_option linter.unusedVariables false
set_option linter.unusedSimpArgs false
set_option maxHeartbeats 8000000 in
theorem order_gt_nan (cn : Bool) (av bv cv : Int) (w : World) (G : Glob w) (ha : oddB false av = false) (hb : oddB false bv = false) (hr : bv < av) (hc : oddB cn cv = true) :
    Calls Tryd.prog 7 #[.agg #[.bool false, .int .i64 av], .agg #[.bool false, .int .i64 bv], .agg #[.bool cn, .int .i64 cv]] w fun e w' => e = .returned (.bool true) ∧ Ext w w' := by
  have E0 : Hid (lessS false false av bv = false) := by refine Lib.hid ?_; rw [lessS, ha, hb]; simp; omega
  have E1 : Hid (lessS false false bv av = true) := by refine Lib.hid ?_; rw [lessS, ha, hb]; simp; omega
  have E2 : Hid (equalS false false av bv = false) := by refine Lib.hid ?_; rw [equalS, ha, hb]; simp; omega
  have E3 : Hid (two false cn av cv (fitS (av + cv)) = ((true, 0), 0)) := by refine Lib.hid ?_; exact both_no _ _ _ _ _ (by rw [ha, hc]; rfl)
  have E4 : Hid (two false cn bv cv (fitS (bv + cv)) = ((true, 0), 0)) := by refine Lib.hid ?_; exact both_no _ _ _ _ _ (by rw [hb, hc]; rfl)
  have hl := floorV_le av
  have hu := ceilV_ge av
  have hfl := floorV_in av ha
  have hcl := ceilV_in av ha
  have E6 : Hid (one false av (fitS (floorV av)) = ((false, floorV av), 0)) := by
    refine Lib.hid ?_
    obtain ⟨_, a1, a2⟩ := oddB_false hfl
    rw [one, if_neg (by rw [ha]; decide), fitS_in a1 a2]
  have E7 : Hid (ceilS false av = ((false, ceilV av), 0)) := by
    refine Lib.hid ?_
    obtain ⟨_, a1, a2⟩ := oddB_false hcl
    rw [ceilS, one, if_neg (by rw [ha]; decide), fitS_in a1 a2]
  have E8 : Hid (lessS false false av (floorV av) = false) := by refine Lib.hid ?_; rw [lessS, ha, hfl]; simp; omega
  have E9 : Hid (lessS false false (ceilV av) av = false) := by refine Lib.hid ?_; rw [lessS, hcl, ha]; simp; omega
  have HA := Lib.hid ha
  have HB := Lib.hid hb
  have HC := Lib.hid hc
  clear ha hb hc hl hu hfl hcl hr
  go_enter Tryd.func7, Tryd.ntmps7
  go_wp2_with fail
  refine (awake3 _ (((G.alloc _).alloc _).alloc _)).mono ?_
  rintro e w1 ⟨rfl, hB1⟩
  have hz1 := hB1.size
  simp at hz1
  have l0_1 : w.heap.size < w1.heap.size := by omega
  have l1_1 : w.heap.size + 1 < w1.heap.size := by omega
  have l2_1 : w.heap.size + 1 + 1 < w1.heap.size := by omega
  have c0_0_1 : w1.cell? ⟨w.heap.size, 0, none⟩ = some (.bool false) := hB1.keep (by first | (simp; done) | (simp; omega)) (by simp [go_sem])
  have c0_1_1 : w1.cell? ⟨w.heap.size, 1, none⟩ = some (.int .i64 av) := hB1.keep (by first | (simp; done) | (simp; omega)) (by simp [go_sem])
  have c1_0_1 : w1.cell? ⟨w.heap.size + 1, 0, none⟩ = some (.bool false) := hB1.keep (by first | (simp; done) | (simp; omega)) (by simp [go_sem])
  have c1_1_1 : w1.cell? ⟨w.heap.size + 1, 1, none⟩ = some (.int .i64 bv) := hB1.keep (by first | (simp; done) | (simp; omega)) (by simp [go_sem])
  have c2_0_1 : w1.cell? ⟨w.heap.size + 1 + 1, 0, none⟩ = some (.bool cn) := hB1.keep (by first | (simp; done) | (simp; omega)) (by simp [go_sem])
  have c2_1_1 : w1.cell? ⟨w.heap.size + 1 + 1, 1, none⟩ = some (.int .i64 cv) := hB1.keep (by first | (simp; done) | (simp; omega)) (by simp [go_sem])
  go_wp2_with fail
  refine (rodd_any false av _).mono ?_
  rw [HA.out]
  rintro e w2 ⟨rfl, hB2⟩
  have hz2 := hB2.size
  have l0_2 : w.heap.size < w2.heap.size := by omega
  have l1_2 : w.heap.size + 1 < w2.heap.size := by omega
  have l2_2 : w.heap.size + 1 + 1 < w2.heap.size := by omega
  have c0_0_2 : w2.cell? ⟨w.heap.size, 0, none⟩ = some (.bool false) := hB2.keep (by omega) c0_0_1
  have c0_1_2 : w2.cell? ⟨w.heap.size, 1, none⟩ = some (.int .i64 av) := hB2.keep (by omega) c0_1_1
  have c1_0_2 : w2.cell? ⟨w.heap.size + 1, 0, none⟩ = some (.bool false) := hB2.keep (by omega) c1_0_1
  have c1_1_2 : w2.cell? ⟨w.heap.size + 1, 1, none⟩ = some (.int .i64 bv) := hB2.keep (by omega) c1_1_1
  have c2_0_2 : w2.cell? ⟨w.heap.size + 1 + 1, 0, none⟩ = some (.bool cn) := hB2.keep (by omega) c2_0_1
  have c2_1_2 : w2.cell? ⟨w.heap.size + 1 + 1, 1, none⟩ = some (.int .i64 cv) := hB2.keep (by omega) c2_1_1
  clear c0_0_1 c0_1_1 c1_0_1 c1_1_1 c2_0_1 c2_1_1 l0_1 l1_1 l2_1
  go_wp2_with fail
  refine (rodd_any false bv _).mono ?_
  rw [HB.out]
  rintro e w3 ⟨rfl, hB3⟩
  have hz3 := hB3.size
  have l0_3 : w.heap.size < w3.heap.size := by omega
  have l1_3 : w.heap.size + 1 < w3.heap.size := by omega
  have l2_3 : w.heap.size + 1 + 1 < w3.heap.size := by omega
  have c0_0_3 : w3.cell? ⟨w.heap.size, 0, none⟩ = some (.bool false) := hB3.keep (by omega) c0_0_2
  have c0_1_3 : w3.cell? ⟨w.heap.size, 1, none⟩ = some (.int .i64 av) := hB3.keep (by omega) c0_1_2
  have c1_0_3 : w3.cell? ⟨w.heap.size + 1, 0, none⟩ = some (.bool false) := hB3.keep (by omega) c1_0_2
  have c1_1_3 : w3.cell? ⟨w.heap.size + 1, 1, none⟩ = some (.int .i64 bv) := hB3.keep (by omega) c1_1_2
  have c2_0_3 : w3.cell? ⟨w.heap.size + 1 + 1, 0, none⟩ = some (.bool cn) := hB3.keep (by omega) c2_0_2
  have c2_1_3 : w3.cell? ⟨w.heap.size + 1 + 1, 1, none⟩ = some (.int .i64 cv) := hB3.keep (by omega) c2_1_2
  clear c0_0_2 c0_1_2 c1_0_2 c1_1_2 c2_0_2 c2_1_2 l0_2 l1_2 l2_2
  go_wp2_with fail
  refine (less_any false false av bv _).mono ?_
  rw [E0.out]
  rintro e w4 ⟨rfl, hB4⟩
  have hz4 := hB4.size
  have l0_4 : w.heap.size < w4.heap.size := by omega
  have l1_4 : w.heap.size + 1 < w4.heap.size := by omega
  have l2_4 : w.heap.size + 1 + 1 < w4.heap.size := by omega
  have c0_0_4 : w4.cell? ⟨w.heap.size, 0, none⟩ = some (.bool false) := hB4.keep (by omega) c0_0_3
  have c0_1_4 : w4.cell? ⟨w.heap.size, 1, none⟩ = some (.int .i64 av) := hB4.keep (by omega) c0_1_3
  have c1_0_4 : w4.cell? ⟨w.heap.size + 1, 0, none⟩ = some (.bool false) := hB4.keep (by omega) c1_0_3
  have c1_1_4 : w4.cell? ⟨w.heap.size + 1, 1, none⟩ = some (.int .i64 bv) := hB4.keep (by omega) c1_1_3
  have c2_0_4 : w4.cell? ⟨w.heap.size + 1 + 1, 0, none⟩ = some (.bool cn) := hB4.keep (by omega) c2_0_3
  have c2_1_4 : w4.cell? ⟨w.heap.size + 1 + 1, 1, none⟩ = some (.int .i64 cv) := hB4.keep (by omega) c2_1_3
  clear c0_0_3 c0_1_3 c1_0_3 c1_1_3 c2_0_3 c2_1_3 l0_3 l1_3 l2_3
  go_wp2_with fail
  refine (less_any false false bv av _).mono ?_
  rw [E1.out]
  rintro e w5 ⟨rfl, hB5⟩
  have hz5 := hB5.size
  have l0_5 : w.heap.size < w5.heap.size := by omega
  have l1_5 : w.heap.size + 1 < w5.heap.size := by omega
  have l2_5 : w.heap.size + 1 + 1 < w5.heap.size := by omega
  have c0_0_5 : w5.cell? ⟨w.heap.size, 0, none⟩ = some (.bool false) := hB5.keep (by omega) c0_0_4
  have c0_1_5 : w5.cell? ⟨w.heap.size, 1, none⟩ = some (.int .i64 av) := hB5.keep (by omega) c0_1_4
  have c1_0_5 : w5.cell? ⟨w.heap.size + 1, 0, none⟩ = some (.bool false) := hB5.keep (by omega) c1_0_4
  have c1_1_5 : w5.cell? ⟨w.heap.size + 1, 1, none⟩ = some (.int .i64 bv) := hB5.keep (by omega) c1_1_4
  have c2_0_5 : w5.cell? ⟨w.heap.size + 1 + 1, 0, none⟩ = some (.bool cn) := hB5.keep (by omega) c2_0_4
  have c2_1_5 : w5.cell? ⟨w.heap.size + 1 + 1, 1, none⟩ = some (.int .i64 cv) := hB5.keep (by omega) c2_1_4
  clear c0_0_4 c0_1_4 c1_0_4 c1_1_4 c2_0_4 c2_1_4 l0_4 l1_4 l2_4
  go_wp2_with fail
  refine (equal_any false false av bv _).mono ?_
  rw [E2.out]
  rintro e w6 ⟨rfl, hB6⟩
  have hz6 := hB6.size
  have l0_6 : w.heap.size < w6.heap.size := by omega
  have l1_6 : w.heap.size + 1 < w6.heap.size := by omega
  have l2_6 : w.heap.size + 1 + 1 < w6.heap.size := by omega
  have c0_0_6 : w6.cell? ⟨w.heap.size, 0, none⟩ = some (.bool false) := hB6.keep (by omega) c0_0_5
  have c0_1_6 : w6.cell? ⟨w.heap.size, 1, none⟩ = some (.int .i64 av) := hB6.keep (by omega) c0_1_5
  have c1_0_6 : w6.cell? ⟨w.heap.size + 1, 0, none⟩ = some (.bool false) := hB6.keep (by omega) c1_0_5
  have c1_1_6 : w6.cell? ⟨w.heap.size + 1, 1, none⟩ = some (.int .i64 bv) := hB6.keep (by omega) c1_1_5
  have c2_0_6 : w6.cell? ⟨w.heap.size + 1 + 1, 0, none⟩ = some (.bool cn) := hB6.keep (by omega) c2_0_5
  have c2_1_6 : w6.cell? ⟨w.heap.size + 1 + 1, 1, none⟩ = some (.int .i64 cv) := hB6.keep (by omega) c2_1_5
  clear c0_0_5 c0_1_5 c1_0_5 c1_1_5 c2_0_5 c2_1_5 l0_5 l1_5 l2_5
  go_wp2_with fail
  refine (add_any false cn av cv _).mono ?_
  rw [E3.out]
  rintro e w7 ⟨rfl, hB7⟩
  have hz7 := hB7.size
  have l0_7 : w.heap.size < w7.heap.size := by omega
  have l1_7 : w.heap.size + 1 < w7.heap.size := by omega
  have l2_7 : w.heap.size + 1 + 1 < w7.heap.size := by omega
  have c0_0_7 : w7.cell? ⟨w.heap.size, 0, none⟩ = some (.bool false) := hB7.keep (by omega) c0_0_6
  have c0_1_7 : w7.cell? ⟨w.heap.size, 1, none⟩ = some (.int .i64 av) := hB7.keep (by omega) c0_1_6
  have c1_0_7 : w7.cell? ⟨w.heap.size + 1, 0, none⟩ = some (.bool false) := hB7.keep (by omega) c1_0_6
  have c1_1_7 : w7.cell? ⟨w.heap.size + 1, 1, none⟩ = some (.int .i64 bv) := hB7.keep (by omega) c1_1_6
  have c2_0_7 : w7.cell? ⟨w.heap.size + 1 + 1, 0, none⟩ = some (.bool cn) := hB7.keep (by omega) c2_0_6
  have c2_1_7 : w7.cell? ⟨w.heap.size + 1 + 1, 1, none⟩ = some (.int .i64 cv) := hB7.keep (by omega) c2_1_6
  clear c0_0_6 c0_1_6 c1_0_6 c1_1_6 c2_0_6 c2_1_6 l0_6 l1_6 l2_6
  go_wp2_with fail
  refine (add_any false cn bv cv _).mono ?_
  rw [E4.out]
  rintro e w8 ⟨rfl, hB8⟩
  have hz8 := hB8.size
  simp at hz8
  have l0_8 : w.heap.size < w8.heap.size := by omega
  have l1_8 : w.heap.size + 1 < w8.heap.size := by omega
  have l2_8 : w.heap.size + 1 + 1 < w8.heap.size := by omega
  have l3_8 : w7.heap.size < w8.heap.size := by omega
  have c0_0_8 : w8.cell? ⟨w.heap.size, 0, none⟩ = some (.bool false) := hB8.keep (by first | (simp; done) | (simp; omega)) (by simp [go_sem, l0_7, l1_7, l2_7, c0_0_7])
  have c0_1_8 : w8.cell? ⟨w.heap.size, 1, none⟩ = some (.int .i64 av) := hB8.keep (by first | (simp; done) | (simp; omega)) (by simp [go_sem, l0_7, l1_7, l2_7, c0_1_7])
  have c1_0_8 : w8.cell? ⟨w.heap.size + 1, 0, none⟩ = some (.bool false) := hB8.keep (by first | (simp; done) | (simp; omega)) (by simp [go_sem, l0_7, l1_7, l2_7, c1_0_7])
  have c1_1_8 : w8.cell? ⟨w.heap.size + 1, 1, none⟩ = some (.int .i64 bv) := hB8.keep (by first | (simp; done) | (simp; omega)) (by simp [go_sem, l0_7, l1_7, l2_7, c1_1_7])
  have c2_0_8 : w8.cell? ⟨w.heap.size + 1 + 1, 0, none⟩ = some (.bool cn) := hB8.keep (by first | (simp; done) | (simp; omega)) (by simp [go_sem, l0_7, l1_7, l2_7, c2_0_7])
  have c2_1_8 : w8.cell? ⟨w.heap.size + 1 + 1, 1, none⟩ = some (.int .i64 cv) := hB8.keep (by first | (simp; done) | (simp; omega)) (by simp [go_sem, l0_7, l1_7, l2_7, c2_1_7])
  have c3_0_8 : w8.cell? ⟨w7.heap.size, 0, none⟩ = some (.bool true) := hB8.keep (by first | (simp; done) | (simp; omega)) (by simp [go_sem, l0_7, l1_7, l2_7])
  have c3_1_8 : w8.cell? ⟨w7.heap.size, 1, none⟩ = some (.int .i64 0) := hB8.keep (by first | (simp; done) | (simp; omega)) (by simp [go_sem, l0_7, l1_7, l2_7])
  clear c0_0_7 c0_1_7 c1_0_7 c1_1_7 c2_0_7 c2_1_7 l0_7 l1_7 l2_7
  go_wp2_with fail
  obtain ⟨w9, hW9⟩ : ∃ wz, (w8.alloc (.cells #[.bool true, .int .i64 0] 38)) = wz := ⟨_, rfl⟩
  rw [hW9]
  have hB9 : Ext (w8.alloc (.cells #[.bool true, .int .i64 0] 38)) w9 := by rw [hW9]; exact Ext.refl _
  clear hW9
  have hz9 := hB9.size
  simp at hz9
  have l0_9 : w.heap.size < w9.heap.size := by omega
  have l1_9 : w.heap.size + 1 < w9.heap.size := by omega
  have l2_9 : w.heap.size + 1 + 1 < w9.heap.size := by omega
  have l3_9 : w7.heap.size < w9.heap.size := by omega
  have l4_9 : w8.heap.size < w9.heap.size := by omega
  have c0_0_9 : w9.cell? ⟨w.heap.size, 0, none⟩ = some (.bool false) := hB9.keep (by first | (simp; done) | (simp; omega)) (by simp [go_sem, l0_8, l1_8, l2_8, l3_8, c0_0_8])
  have c0_1_9 : w9.cell? ⟨w.heap.size, 1, none⟩ = some (.int .i64 av) := hB9.keep (by first | (simp; done) | (simp; omega)) (by simp [go_sem, l0_8, l1_8, l2_8, l3_8, c0_1_8])
  have c1_0_9 : w9.cell? ⟨w.heap.size + 1, 0, none⟩ = some (.bool false) := hB9.keep (by first | (simp; done) | (simp; omega)) (by simp [go_sem, l0_8, l1_8, l2_8, l3_8, c1_0_8])
  have c1_1_9 : w9.cell? ⟨w.heap.size + 1, 1, none⟩ = some (.int .i64 bv) := hB9.keep (by first | (simp; done) | (simp; omega)) (by simp [go_sem, l0_8, l1_8, l2_8, l3_8, c1_1_8])
  have c2_0_9 : w9.cell? ⟨w.heap.size + 1 + 1, 0, none⟩ = some (.bool cn) := hB9.keep (by first | (simp; done) | (simp; omega)) (by simp [go_sem, l0_8, l1_8, l2_8, l3_8, c2_0_8])
  have c2_1_9 : w9.cell? ⟨w.heap.size + 1 + 1, 1, none⟩ = some (.int .i64 cv) := hB9.keep (by first | (simp; done) | (simp; omega)) (by simp [go_sem, l0_8, l1_8, l2_8, l3_8, c2_1_8])
  have c3_0_9 : w9.cell? ⟨w7.heap.size, 0, none⟩ = some (.bool true) := hB9.keep (by first | (simp; done) | (simp; omega)) (by simp [go_sem, l0_8, l1_8, l2_8, l3_8, c3_0_8])
  have c3_1_9 : w9.cell? ⟨w7.heap.size, 1, none⟩ = some (.int .i64 0) := hB9.keep (by first | (simp; done) | (simp; omega)) (by simp [go_sem, l0_8, l1_8, l2_8, l3_8, c3_1_8])
  have c4_0_9 : w9.cell? ⟨w8.heap.size, 0, none⟩ = some (.bool true) := hB9.keep (by first | (simp; done) | (simp; omega)) (by simp [go_sem, l0_8, l1_8, l2_8, l3_8])
  have c4_1_9 : w9.cell? ⟨w8.heap.size, 1, none⟩ = some (.int .i64 0) := hB9.keep (by first | (simp; done) | (simp; omega)) (by simp [go_sem, l0_8, l1_8, l2_8, l3_8])
  clear c0_0_8 c0_1_8 c1_0_8 c1_1_8 c2_0_8 c2_1_8 c3_0_8 c3_1_8 l0_8 l1_8 l2_8 l3_8
  go_wp2_with fail
  refine rg_begin (S := Sx w9) (by kernel_rfl) (Sx.begin _) ?_
  have hS : Sx w9 (World.drew w9) := Sx.begin _
  refine rg_take 0 (some 67) (.int .i64 1) (oi := { dst := some 67, op := Go.Op.move (Go.Operand.tmp 7), type := 3, pos := "outright.go:48", after := #[], guard := none }) rfl rfl (by kernel_rfl) (by kernel_rfl) (by kernel_rfl) (fun _ _ _ h => h) hS (by rfl) (fun w' hs => by rfl) ?_
  simp only [Act.put, List.setIfInBounds_toArray, List.set_cons_zero, List.set_cons_succ]
  refine rg_take 1 (some 68) (.bool false) (oi := { dst := some 68, op := Go.Op.binOp Go.BinOp.neq 3 (Go.Operand.tmp 67) (Go.Operand.const (Go.Value.int Go.IntKind.i64 1)) 3, type := 4, pos := "outright.go:48", after := #[{ on := 0, ground := Go.Ground.data }], guard := none }) rfl rfl (by kernel_rfl) (by kernel_rfl) (by kernel_rfl) (fun _ _ _ h => h) hS (by rfl) (fun w' hs => by first | rfl | go_simp) ?_
  simp only [Act.put, List.setIfInBounds_toArray, List.set_cons_zero, List.set_cons_succ]
  refine rg_take 2 (some 69) (.bool false) (oi := { dst := some 69, op := Go.Op.move (Go.Operand.tmp 68), type := 4, pos := "outright.go:48", after := #[{ on := 1, ground := Go.Ground.data }], guard := none }) rfl rfl (by kernel_rfl) (by kernel_rfl) (by kernel_rfl) (fun _ _ _ h => h) hS (by rfl) (fun w' hs => by rfl) ?_
  simp only [Act.put, List.setIfInBounds_toArray, List.set_cons_zero, List.set_cons_succ]
  refine rg_take 3 (some 70) (.agg #[.bool cn, .int .i64 cv]) (oi := { dst := some 70, op := Go.Op.load 38 (Go.Operand.tmp 5), type := 38, pos := "outright.go:48", after := #[{ on := 2, ground := Go.Ground.guard }], guard := some (2, false) }) rfl rfl (by kernel_rfl) (by kernel_rfl) (by kernel_rfl) (fun _ _ _ h => h) hS (by rfl) (fun w' hs => by (have h0 := hs.cell l2_9 c2_0_9; have h1 := hs.cell l2_9 c2_1_9; go_simp)) ?_
  simp only [Act.put, List.setIfInBounds_toArray, List.set_cons_zero, List.set_cons_succ]
  refine rg_call 4 (some 71) 24 #[.agg #[.bool cn, .int .i64 cv]] (oi := { dst := some 71, op := Go.Op.call { callee := Go.Callee.value (Go.Operand.func 24), args := #[Go.Operand.tmp 70], argTypes := #[38] }, type := 4, pos := "outright.go:48", after := #[{ on := 3, ground := Go.Ground.data }, { on := 2, ground := Go.Ground.chain }, { on := 2, ground := Go.Ground.guard }], guard := some (2, false) }) rfl rfl (by kernel_rfl) (by rfl) (fun w' => by first | rfl | go_simp) (R := fun v w' => v = .bool true ∧ Ext (World.drew w9) w') ?_ ?_
  · refine (rodd_any cn cv _).mono ?_
    rw [HC.out]
    rintro e w' ⟨rfl, h⟩
    exact ⟨_, rfl, rfl, h⟩
  rintro _ wr1 ⟨rfl, hBr1⟩
  have hS1 := hS.ext hBr1
  refine ⟨hS1, ?_⟩
  simp only [Act.put, List.setIfInBounds_toArray, List.set_cons_zero, List.set_cons_succ]
  refine rg_take 5 (some 72) (.bool false) (oi := { dst := some 72, op := Go.Op.unOp Go.UnOp.not 4 (Go.Operand.tmp 71), type := 4, pos := "outright.go:48", after := #[{ on := 4, ground := Go.Ground.data }, { on := 2, ground := Go.Ground.guard }], guard := some (2, false) }) rfl rfl (by kernel_rfl) (by kernel_rfl) (by kernel_rfl) (fun _ _ _ h => h) hS1 (by rfl) (fun w' hs => by first | rfl | go_simp) ?_
  simp only [Act.put, List.setIfInBounds_toArray, List.set_cons_zero, List.set_cons_succ]
  refine rg_take 6 (some 73) (.bool false) (oi := { dst := some 73, op := Go.Op.move (Go.Operand.tmp 72), type := 4, pos := "outright.go:48", after := #[{ on := 5, ground := Go.Ground.data }, { on := 4, ground := Go.Ground.chain }, { on := 2, ground := Go.Ground.guard }], guard := some (2, false) }) rfl rfl (by kernel_rfl) (by kernel_rfl) (by kernel_rfl) (fun _ _ _ h => h) hS1 (by rfl) (fun w' hs => by rfl) ?_
  simp only [Act.put, List.setIfInBounds_toArray, List.set_cons_zero, List.set_cons_succ]
  refine rg_skip 7 (some 74) (oi := { dst := some 74, op := Go.Op.move (Go.Operand.tmp 9), type := 34, pos := "outright.go:48", after := #[{ on := 6, ground := Go.Ground.guard }], guard := some (6, true) }) rfl rfl (by kernel_rfl) (by kernel_rfl) (by kernel_rfl) (fun _ _ _ h => h) hS1 (by rfl) ?_
  simp only [Act.put, List.setIfInBounds_toArray, List.set_cons_zero, List.set_cons_succ]
  refine rg_skip 8 (some 75) (oi := { dst := some 75, op := Go.Op.binOp Go.BinOp.eql 34 (Go.Operand.tmp 74) (Go.Operand.const (Go.Value.int Go.IntKind.i64 0)) 34, type := 4, pos := "outright.go:48", after := #[{ on := 7, ground := Go.Ground.data }, { on := 6, ground := Go.Ground.guard }], guard := some (6, true) }) rfl rfl (by kernel_rfl) (by kernel_rfl) (by kernel_rfl) (fun _ _ _ h => h) hS1 (by rfl) ?_
  simp only [Act.put, List.setIfInBounds_toArray, List.set_cons_zero, List.set_cons_succ]
  refine rg_take 9 (some 76) (.bool false) (oi := { dst := some 76, op := Go.Op.pick (Go.Operand.tmp 73) (Go.Operand.tmp 75) (Go.Operand.const (Go.Value.bool false)), type := 4, pos := "outright.go:48", after := #[{ on := 6, ground := Go.Ground.data }, { on := 8, ground := Go.Ground.data }, { on := 2, ground := Go.Ground.guard }], guard := some (2, false) }) rfl rfl (by kernel_rfl) (by kernel_rfl) (by kernel_rfl) (fun _ _ _ h => h) hS1 (by rfl) (fun w' hs => by rfl) ?_
  simp only [Act.put, List.setIfInBounds_toArray, List.set_cons_zero, List.set_cons_succ]
  refine rg_take 10 (some 77) (.bool false) (oi := { dst := some 77, op := Go.Op.move (Go.Operand.tmp 76), type := 4, pos := "outright.go:48", after := #[{ on := 9, ground := Go.Ground.data }, { on := 6, ground := Go.Ground.chain }, { on := 2, ground := Go.Ground.guard }], guard := some (2, false) }) rfl rfl (by kernel_rfl) (by kernel_rfl) (by kernel_rfl) (fun _ _ _ h => h) hS1 (by rfl) (fun w' hs => by rfl) ?_
  simp only [Act.put, List.setIfInBounds_toArray, List.set_cons_zero, List.set_cons_succ]
  refine rg_skip 11 (some 78) (oi := { dst := some 78, op := Go.Op.move (Go.Operand.tmp 11), type := 34, pos := "outright.go:48", after := #[{ on := 10, ground := Go.Ground.guard }], guard := some (10, true) }) rfl rfl (by kernel_rfl) (by kernel_rfl) (by kernel_rfl) (fun _ _ _ h => h) hS1 (by rfl) ?_
  simp only [Act.put, List.setIfInBounds_toArray, List.set_cons_zero, List.set_cons_succ]
  refine rg_skip 12 (some 79) (oi := { dst := some 79, op := Go.Op.binOp Go.BinOp.eql 34 (Go.Operand.tmp 78) (Go.Operand.const (Go.Value.int Go.IntKind.i64 0)) 34, type := 4, pos := "outright.go:48", after := #[{ on := 11, ground := Go.Ground.data }, { on := 10, ground := Go.Ground.guard }], guard := some (10, true) }) rfl rfl (by kernel_rfl) (by kernel_rfl) (by kernel_rfl) (fun _ _ _ h => h) hS1 (by rfl) ?_
  simp only [Act.put, List.setIfInBounds_toArray, List.set_cons_zero, List.set_cons_succ]
  refine rg_take 13 (some 80) (.bool false) (oi := { dst := some 80, op := Go.Op.pick (Go.Operand.tmp 77) (Go.Operand.tmp 79) (Go.Operand.const (Go.Value.bool false)), type := 4, pos := "outright.go:48", after := #[{ on := 10, ground := Go.Ground.data }, { on := 12, ground := Go.Ground.data }, { on := 2, ground := Go.Ground.guard }], guard := some (2, false) }) rfl rfl (by kernel_rfl) (by kernel_rfl) (by kernel_rfl) (fun _ _ _ h => h) hS1 (by rfl) (fun w' hs => by rfl) ?_
  simp only [Act.put, List.setIfInBounds_toArray, List.set_cons_zero, List.set_cons_succ]
  refine rg_take 14 (some 81) (.bool false) (oi := { dst := some 81, op := Go.Op.move (Go.Operand.tmp 80), type := 4, pos := "outright.go:48", after := #[{ on := 13, ground := Go.Ground.data }, { on := 10, ground := Go.Ground.chain }, { on := 2, ground := Go.Ground.guard }], guard := some (2, false) }) rfl rfl (by kernel_rfl) (by kernel_rfl) (by kernel_rfl) (fun _ _ _ h => h) hS1 (by rfl) (fun w' hs => by rfl) ?_
  simp only [Act.put, List.setIfInBounds_toArray, List.set_cons_zero, List.set_cons_succ]
  refine rg_skip 15 (some 82) (oi := { dst := some 82, op := Go.Op.load 38 (Go.Operand.tmp 3), type := 38, pos := "outright.go:48", after := #[{ on := 14, ground := Go.Ground.guard }], guard := some (14, true) }) rfl rfl (by kernel_rfl) (by kernel_rfl) (by kernel_rfl) (fun _ _ _ h => h) hS1 (by rfl) ?_
  simp only [Act.put, List.setIfInBounds_toArray, List.set_cons_zero, List.set_cons_succ]
  refine rg_skip 16 (some 83) (oi := { dst := some 83, op := Go.Op.load 38 (Go.Operand.tmp 4), type := 38, pos := "outright.go:48", after := #[{ on := 14, ground := Go.Ground.guard }], guard := some (14, true) }) rfl rfl (by kernel_rfl) (by kernel_rfl) (by kernel_rfl) (fun _ _ _ h => h) hS1 (by rfl) ?_
  simp only [Act.put, List.setIfInBounds_toArray, List.set_cons_zero, List.set_cons_succ]
  refine rg_skip 17 (some 84) (oi := { dst := some 84, op := Go.Op.call { callee := Go.Callee.value (Go.Operand.func 30), args := #[Go.Operand.tmp 82, Go.Operand.tmp 83], argTypes := #[38, 38] }, type := 4, pos := "outright.go:48", after := #[{ on := 15, ground := Go.Ground.data }, { on := 16, ground := Go.Ground.data }, { on := 14, ground := Go.Ground.chain }, { on := 14, ground := Go.Ground.guard }], guard := some (14, true) }) rfl rfl (by kernel_rfl) (by kernel_rfl) (by kernel_rfl) (fun _ _ _ h => h) hS1 (by rfl) ?_
  simp only [Act.put, List.setIfInBounds_toArray, List.set_cons_zero, List.set_cons_succ]
  refine rg_skip 18 (some 85) (oi := { dst := some 85, op := Go.Op.load 38 (Go.Operand.tmp 8), type := 38, pos := "outright.go:48", after := #[{ on := 14, ground := Go.Ground.guard }], guard := some (14, true) }) rfl rfl (by kernel_rfl) (by kernel_rfl) (by kernel_rfl) (fun _ _ _ h => h) hS1 (by rfl) ?_
  simp only [Act.put, List.setIfInBounds_toArray, List.set_cons_zero, List.set_cons_succ]
  refine rg_skip 19 (some 86) (oi := { dst := some 86, op := Go.Op.load 38 (Go.Operand.tmp 10), type := 38, pos := "outright.go:48", after := #[{ on := 14, ground := Go.Ground.guard }], guard := some (14, true) }) rfl rfl (by kernel_rfl) (by kernel_rfl) (by kernel_rfl) (fun _ _ _ h => h) hS1 (by rfl) ?_
  simp only [Act.put, List.setIfInBounds_toArray, List.set_cons_zero, List.set_cons_succ]
  refine rg_skip 20 (some 87) (oi := { dst := some 87, op := Go.Op.call { callee := Go.Callee.value (Go.Operand.func 30), args := #[Go.Operand.tmp 85, Go.Operand.tmp 86], argTypes := #[38, 38] }, type := 4, pos := "outright.go:48", after := #[{ on := 18, ground := Go.Ground.data }, { on := 19, ground := Go.Ground.data }, { on := 17, ground := Go.Ground.chain }, { on := 14, ground := Go.Ground.guard }], guard := some (14, true) }) rfl rfl (by kernel_rfl) (by kernel_rfl) (by kernel_rfl) (fun _ _ _ h => h) hS1 (by rfl) ?_
  simp only [Act.put, List.setIfInBounds_toArray, List.set_cons_zero, List.set_cons_succ]
  refine rg_skip 21 (some 88) (oi := { dst := some 88, op := Go.Op.binOp Go.BinOp.neq 4 (Go.Operand.tmp 84) (Go.Operand.tmp 87) 4, type := 4, pos := "outright.go:48", after := #[{ on := 17, ground := Go.Ground.data }, { on := 20, ground := Go.Ground.data }, { on := 14, ground := Go.Ground.guard }], guard := some (14, true) }) rfl rfl (by kernel_rfl) (by kernel_rfl) (by kernel_rfl) (fun _ _ _ h => h) hS1 (by rfl) ?_
  simp only [Act.put, List.setIfInBounds_toArray, List.set_cons_zero, List.set_cons_succ]
  refine rg_take 22 (some 89) (.bool false) (oi := { dst := some 89, op := Go.Op.pick (Go.Operand.tmp 81) (Go.Operand.tmp 88) (Go.Operand.const (Go.Value.bool false)), type := 4, pos := "outright.go:48", after := #[{ on := 14, ground := Go.Ground.data }, { on := 21, ground := Go.Ground.data }, { on := 2, ground := Go.Ground.guard }], guard := some (2, false) }) rfl rfl (by kernel_rfl) (by kernel_rfl) (by kernel_rfl) (fun _ _ _ h => h) hS1 (by rfl) (fun w' hs => by rfl) ?_
  simp only [Act.put, List.setIfInBounds_toArray, List.set_cons_zero, List.set_cons_succ]
  refine rg_take 23 (some 90) (.bool false) (oi := { dst := some 90, op := Go.Op.pick (Go.Operand.tmp 69) (Go.Operand.const (Go.Value.bool true)) (Go.Operand.tmp 89), type := 4, pos := "outright.go:48", after := #[{ on := 2, ground := Go.Ground.data }, { on := 22, ground := Go.Ground.data }], guard := none }) rfl rfl (by kernel_rfl) (by kernel_rfl) (by kernel_rfl) (fun _ _ _ h => h) hS1 (by rfl) (fun w' hs => by rfl) ?_
  simp only [Act.put, List.setIfInBounds_toArray, List.set_cons_zero, List.set_cons_succ]
  refine rg_done (by kernel_rfl) ?_
  obtain ⟨w10, hW10⟩ : ∃ wz, wr1 = wz := ⟨_, rfl⟩
  rw [hW10] at hS1 ⊢
  have hB10 : Ext w9 w10 := hS1
  clear hW10
  have hz10 := hB10.size
  have l0_10 : w.heap.size < w10.heap.size := Nat.lt_of_lt_of_le l0_9 hz10
  have c0_0_10 : w10.cell? ⟨w.heap.size, 0, none⟩ = some (.bool false) := hB10.keep l0_9 c0_0_9
  have c0_1_10 : w10.cell? ⟨w.heap.size, 1, none⟩ = some (.int .i64 av) := hB10.keep l0_9 c0_1_9
  have l1_10 : w.heap.size + 1 < w10.heap.size := Nat.lt_of_lt_of_le l1_9 hz10
  have c1_0_10 : w10.cell? ⟨w.heap.size + 1, 0, none⟩ = some (.bool false) := hB10.keep l1_9 c1_0_9
  have c1_1_10 : w10.cell? ⟨w.heap.size + 1, 1, none⟩ = some (.int .i64 bv) := hB10.keep l1_9 c1_1_9
  have l2_10 : w.heap.size + 1 + 1 < w10.heap.size := Nat.lt_of_lt_of_le l2_9 hz10
  have c2_0_10 : w10.cell? ⟨w.heap.size + 1 + 1, 0, none⟩ = some (.bool cn) := hB10.keep l2_9 c2_0_9
  have c2_1_10 : w10.cell? ⟨w.heap.size + 1 + 1, 1, none⟩ = some (.int .i64 cv) := hB10.keep l2_9 c2_1_9
  have l3_10 : w7.heap.size < w10.heap.size := Nat.lt_of_lt_of_le l3_9 hz10
  have c3_0_10 : w10.cell? ⟨w7.heap.size, 0, none⟩ = some (.bool true) := hB10.keep l3_9 c3_0_9
  have c3_1_10 : w10.cell? ⟨w7.heap.size, 1, none⟩ = some (.int .i64 0) := hB10.keep l3_9 c3_1_9
  have l4_10 : w8.heap.size < w10.heap.size := Nat.lt_of_lt_of_le l4_9 hz10
  have c4_0_10 : w10.cell? ⟨w8.heap.size, 0, none⟩ = some (.bool true) := hB10.keep l4_9 c4_0_9
  have c4_1_10 : w10.cell? ⟨w8.heap.size, 1, none⟩ = some (.int .i64 0) := hB10.keep l4_9 c4_1_9
  clear c0_0_9 c0_1_9 l0_9 c1_0_9 c1_1_9 l1_9 c2_0_9 c2_1_9 l2_9 c3_0_9 c3_1_9 l3_9 c4_0_9 c4_1_9 l4_9
  clear hS hS1 hBr1
  go_wp2_with fail
  refine (floor_any false av _).mono ?_
  rw [E6.out]
  rintro e w11 ⟨rfl, hB11⟩
  have hz11 := hB11.size
  have l0_11 : w.heap.size < w11.heap.size := by omega
  have l1_11 : w.heap.size + 1 < w11.heap.size := by omega
  have l2_11 : w.heap.size + 1 + 1 < w11.heap.size := by omega
  have l3_11 : w7.heap.size < w11.heap.size := by omega
  have l4_11 : w8.heap.size < w11.heap.size := by omega
  have c0_0_11 : w11.cell? ⟨w.heap.size, 0, none⟩ = some (.bool false) := hB11.keep (by omega) c0_0_10
  have c0_1_11 : w11.cell? ⟨w.heap.size, 1, none⟩ = some (.int .i64 av) := hB11.keep (by omega) c0_1_10
  have c1_0_11 : w11.cell? ⟨w.heap.size + 1, 0, none⟩ = some (.bool false) := hB11.keep (by omega) c1_0_10
  have c1_1_11 : w11.cell? ⟨w.heap.size + 1, 1, none⟩ = some (.int .i64 bv) := hB11.keep (by omega) c1_1_10
  have c2_0_11 : w11.cell? ⟨w.heap.size + 1 + 1, 0, none⟩ = some (.bool cn) := hB11.keep (by omega) c2_0_10
  have c2_1_11 : w11.cell? ⟨w.heap.size + 1 + 1, 1, none⟩ = some (.int .i64 cv) := hB11.keep (by omega) c2_1_10
  have c3_0_11 : w11.cell? ⟨w7.heap.size, 0, none⟩ = some (.bool true) := hB11.keep (by omega) c3_0_10
  have c3_1_11 : w11.cell? ⟨w7.heap.size, 1, none⟩ = some (.int .i64 0) := hB11.keep (by omega) c3_1_10
  have c4_0_11 : w11.cell? ⟨w8.heap.size, 0, none⟩ = some (.bool true) := hB11.keep (by omega) c4_0_10
  have c4_1_11 : w11.cell? ⟨w8.heap.size, 1, none⟩ = some (.int .i64 0) := hB11.keep (by omega) c4_1_10
  clear c0_0_10 c0_1_10 c1_0_10 c1_1_10 c2_0_10 c2_1_10 c3_0_10 c3_1_10 c4_0_10 c4_1_10 l0_10 l1_10 l2_10 l3_10 l4_10
  go_wp2_with fail
  refine (ceil_any false av _).mono ?_
  rw [E7.out]
  rintro e w12 ⟨rfl, hB12⟩
  have hz12 := hB12.size
  simp at hz12
  have l0_12 : w.heap.size < w12.heap.size := by omega
  have l1_12 : w.heap.size + 1 < w12.heap.size := by omega
  have l2_12 : w.heap.size + 1 + 1 < w12.heap.size := by omega
  have l3_12 : w7.heap.size < w12.heap.size := by omega
  have l4_12 : w8.heap.size < w12.heap.size := by omega
  have l5_12 : w11.heap.size < w12.heap.size := by omega
  have c0_0_12 : w12.cell? ⟨w.heap.size, 0, none⟩ = some (.bool false) := hB12.keep (by first | (simp; done) | (simp; omega)) (by simp [go_sem, l0_11, l1_11, l2_11, l3_11, l4_11, c0_0_11])
  have c0_1_12 : w12.cell? ⟨w.heap.size, 1, none⟩ = some (.int .i64 av) := hB12.keep (by first | (simp; done) | (simp; omega)) (by simp [go_sem, l0_11, l1_11, l2_11, l3_11, l4_11, c0_1_11])
  have c1_0_12 : w12.cell? ⟨w.heap.size + 1, 0, none⟩ = some (.bool false) := hB12.keep (by first | (simp; done) | (simp; omega)) (by simp [go_sem, l0_11, l1_11, l2_11, l3_11, l4_11, c1_0_11])
  have c1_1_12 : w12.cell? ⟨w.heap.size + 1, 1, none⟩ = some (.int .i64 bv) := hB12.keep (by first | (simp; done) | (simp; omega)) (by simp [go_sem, l0_11, l1_11, l2_11, l3_11, l4_11, c1_1_11])
  have c2_0_12 : w12.cell? ⟨w.heap.size + 1 + 1, 0, none⟩ = some (.bool cn) := hB12.keep (by first | (simp; done) | (simp; omega)) (by simp [go_sem, l0_11, l1_11, l2_11, l3_11, l4_11, c2_0_11])
  have c2_1_12 : w12.cell? ⟨w.heap.size + 1 + 1, 1, none⟩ = some (.int .i64 cv) := hB12.keep (by first | (simp; done) | (simp; omega)) (by simp [go_sem, l0_11, l1_11, l2_11, l3_11, l4_11, c2_1_11])
  have c3_0_12 : w12.cell? ⟨w7.heap.size, 0, none⟩ = some (.bool true) := hB12.keep (by first | (simp; done) | (simp; omega)) (by simp [go_sem, l0_11, l1_11, l2_11, l3_11, l4_11, c3_0_11])
  have c3_1_12 : w12.cell? ⟨w7.heap.size, 1, none⟩ = some (.int .i64 0) := hB12.keep (by first | (simp; done) | (simp; omega)) (by simp [go_sem, l0_11, l1_11, l2_11, l3_11, l4_11, c3_1_11])
  have c4_0_12 : w12.cell? ⟨w8.heap.size, 0, none⟩ = some (.bool true) := hB12.keep (by first | (simp; done) | (simp; omega)) (by simp [go_sem, l0_11, l1_11, l2_11, l3_11, l4_11, c4_0_11])
  have c4_1_12 : w12.cell? ⟨w8.heap.size, 1, none⟩ = some (.int .i64 0) := hB12.keep (by first | (simp; done) | (simp; omega)) (by simp [go_sem, l0_11, l1_11, l2_11, l3_11, l4_11, c4_1_11])
  have c5_0_12 : w12.cell? ⟨w11.heap.size, 0, none⟩ = some (.bool false) := hB12.keep (by first | (simp; done) | (simp; omega)) (by simp [go_sem, l0_11, l1_11, l2_11, l3_11, l4_11])
  have c5_1_12 : w12.cell? ⟨w11.heap.size, 1, none⟩ = some (.int .i64 (floorV av)) := hB12.keep (by first | (simp; done) | (simp; omega)) (by simp [go_sem, l0_11, l1_11, l2_11, l3_11, l4_11])
  clear c0_0_11 c0_1_11 c1_0_11 c1_1_11 c2_0_11 c2_1_11 c3_0_11 c3_1_11 c4_0_11 c4_1_11 l0_11 l1_11 l2_11 l3_11 l4_11
  go_wp2_with fail
  refine (less_any false false av (floorV av) _).mono ?_
  rw [E8.out]
  rintro e w13 ⟨rfl, hB13⟩
  have hz13 := hB13.size
  simp at hz13
  have l0_13 : w.heap.size < w13.heap.size := by omega
  have l1_13 : w.heap.size + 1 < w13.heap.size := by omega
  have l2_13 : w.heap.size + 1 + 1 < w13.heap.size := by omega
  have l3_13 : w7.heap.size < w13.heap.size := by omega
  have l4_13 : w8.heap.size < w13.heap.size := by omega
  have l5_13 : w11.heap.size < w13.heap.size := by omega
  have l6_13 : w12.heap.size < w13.heap.size := by omega
  have c0_0_13 : w13.cell? ⟨w.heap.size, 0, none⟩ = some (.bool false) := hB13.keep (by first | (simp; done) | (simp; omega)) (by simp [go_sem, l0_12, l1_12, l2_12, l3_12, l4_12, l5_12, c0_0_12])
  have c0_1_13 : w13.cell? ⟨w.heap.size, 1, none⟩ = some (.int .i64 av) := hB13.keep (by first | (simp; done) | (simp; omega)) (by simp [go_sem, l0_12, l1_12, l2_12, l3_12, l4_12, l5_12, c0_1_12])
  have c1_0_13 : w13.cell? ⟨w.heap.size + 1, 0, none⟩ = some (.bool false) := hB13.keep (by first | (simp; done) | (simp; omega)) (by simp [go_sem, l0_12, l1_12, l2_12, l3_12, l4_12, l5_12, c1_0_12])
  have c1_1_13 : w13.cell? ⟨w.heap.size + 1, 1, none⟩ = some (.int .i64 bv) := hB13.keep (by first | (simp; done) | (simp; omega)) (by simp [go_sem, l0_12, l1_12, l2_12, l3_12, l4_12, l5_12, c1_1_12])
  have c2_0_13 : w13.cell? ⟨w.heap.size + 1 + 1, 0, none⟩ = some (.bool cn) := hB13.keep (by first | (simp; done) | (simp; omega)) (by simp [go_sem, l0_12, l1_12, l2_12, l3_12, l4_12, l5_12, c2_0_12])
  have c2_1_13 : w13.cell? ⟨w.heap.size + 1 + 1, 1, none⟩ = some (.int .i64 cv) := hB13.keep (by first | (simp; done) | (simp; omega)) (by simp [go_sem, l0_12, l1_12, l2_12, l3_12, l4_12, l5_12, c2_1_12])
  have c3_0_13 : w13.cell? ⟨w7.heap.size, 0, none⟩ = some (.bool true) := hB13.keep (by first | (simp; done) | (simp; omega)) (by simp [go_sem, l0_12, l1_12, l2_12, l3_12, l4_12, l5_12, c3_0_12])
  have c3_1_13 : w13.cell? ⟨w7.heap.size, 1, none⟩ = some (.int .i64 0) := hB13.keep (by first | (simp; done) | (simp; omega)) (by simp [go_sem, l0_12, l1_12, l2_12, l3_12, l4_12, l5_12, c3_1_12])
  have c4_0_13 : w13.cell? ⟨w8.heap.size, 0, none⟩ = some (.bool true) := hB13.keep (by first | (simp; done) | (simp; omega)) (by simp [go_sem, l0_12, l1_12, l2_12, l3_12, l4_12, l5_12, c4_0_12])
  have c4_1_13 : w13.cell? ⟨w8.heap.size, 1, none⟩ = some (.int .i64 0) := hB13.keep (by first | (simp; done) | (simp; omega)) (by simp [go_sem, l0_12, l1_12, l2_12, l3_12, l4_12, l5_12, c4_1_12])
  have c5_0_13 : w13.cell? ⟨w11.heap.size, 0, none⟩ = some (.bool false) := hB13.keep (by first | (simp; done) | (simp; omega)) (by simp [go_sem, l0_12, l1_12, l2_12, l3_12, l4_12, l5_12, c5_0_12])
  have c5_1_13 : w13.cell? ⟨w11.heap.size, 1, none⟩ = some (.int .i64 (floorV av)) := hB13.keep (by first | (simp; done) | (simp; omega)) (by simp [go_sem, l0_12, l1_12, l2_12, l3_12, l4_12, l5_12, c5_1_12])
  have c6_0_13 : w13.cell? ⟨w12.heap.size, 0, none⟩ = some (.bool false) := hB13.keep (by first | (simp; done) | (simp; omega)) (by simp [go_sem, l0_12, l1_12, l2_12, l3_12, l4_12, l5_12])
  have c6_1_13 : w13.cell? ⟨w12.heap.size, 1, none⟩ = some (.int .i64 (ceilV av)) := hB13.keep (by first | (simp; done) | (simp; omega)) (by simp [go_sem, l0_12, l1_12, l2_12, l3_12, l4_12, l5_12])
  clear c0_0_12 c0_1_12 c1_0_12 c1_1_12 c2_0_12 c2_1_12 c3_0_12 c3_1_12 c4_0_12 c4_1_12 c5_0_12 c5_1_12 l0_12 l1_12 l2_12 l3_12 l4_12 l5_12
  go_wp2_with fail
  refine (less_any false false (ceilV av) av _).mono ?_
  rw [E9.out]
  rintro e w14 ⟨rfl, hB14⟩
  have hz14 := hB14.size
  have l0_14 : w.heap.size < w14.heap.size := by omega
  have l1_14 : w.heap.size + 1 < w14.heap.size := by omega
  have l2_14 : w.heap.size + 1 + 1 < w14.heap.size := by omega
  have l3_14 : w7.heap.size < w14.heap.size := by omega
  have l4_14 : w8.heap.size < w14.heap.size := by omega
  have l5_14 : w11.heap.size < w14.heap.size := by omega
  have l6_14 : w12.heap.size < w14.heap.size := by omega
  have c0_0_14 : w14.cell? ⟨w.heap.size, 0, none⟩ = some (.bool false) := hB14.keep (by omega) c0_0_13
  have c0_1_14 : w14.cell? ⟨w.heap.size, 1, none⟩ = some (.int .i64 av) := hB14.keep (by omega) c0_1_13
  have c1_0_14 : w14.cell? ⟨w.heap.size + 1, 0, none⟩ = some (.bool false) := hB14.keep (by omega) c1_0_13
  have c1_1_14 : w14.cell? ⟨w.heap.size + 1, 1, none⟩ = some (.int .i64 bv) := hB14.keep (by omega) c1_1_13
  have c2_0_14 : w14.cell? ⟨w.heap.size + 1 + 1, 0, none⟩ = some (.bool cn) := hB14.keep (by omega) c2_0_13
  have c2_1_14 : w14.cell? ⟨w.heap.size + 1 + 1, 1, none⟩ = some (.int .i64 cv) := hB14.keep (by omega) c2_1_13
  have c3_0_14 : w14.cell? ⟨w7.heap.size, 0, none⟩ = some (.bool true) := hB14.keep (by omega) c3_0_13
  have c3_1_14 : w14.cell? ⟨w7.heap.size, 1, none⟩ = some (.int .i64 0) := hB14.keep (by omega) c3_1_13
  have c4_0_14 : w14.cell? ⟨w8.heap.size, 0, none⟩ = some (.bool true) := hB14.keep (by omega) c4_0_13
  have c4_1_14 : w14.cell? ⟨w8.heap.size, 1, none⟩ = some (.int .i64 0) := hB14.keep (by omega) c4_1_13
  have c5_0_14 : w14.cell? ⟨w11.heap.size, 0, none⟩ = some (.bool false) := hB14.keep (by omega) c5_0_13
  have c5_1_14 : w14.cell? ⟨w11.heap.size, 1, none⟩ = some (.int .i64 (floorV av)) := hB14.keep (by omega) c5_1_13
  have c6_0_14 : w14.cell? ⟨w12.heap.size, 0, none⟩ = some (.bool false) := hB14.keep (by omega) c6_0_13
  have c6_1_14 : w14.cell? ⟨w12.heap.size, 1, none⟩ = some (.int .i64 (ceilV av)) := hB14.keep (by omega) c6_1_13
  clear c0_0_13 c0_1_13 c1_0_13 c1_1_13 c2_0_13 c2_1_13 c3_0_13 c3_1_13 c4_0_13 c4_1_13 c5_0_13 c5_1_13 c6_0_13 c6_1_13 l0_13 l1_13 l2_13 l3_13 l4_13 l5_13 l6_13
  go_wp2_with fail
  go_ret
  refine ⟨rfl, ?_⟩
  repeat (first | exact Ext.refl _ | refine Ext.set ?_ (by dsimp only; omega) _ | refine Ext.alloc ?_ _ | refine Ext.drew ?_ | refine (Ext.trans ?_ (by assumption)))
set_option maxHeartbeats 8000000 in
theorem order_gt_far1 (cn : Bool) (av bv cv : Int) (w : World) (G : Glob w) (ha : oddB false av = false) (hb : oddB false bv = false) (hr : bv < av) (hc : oddB cn cv = false) (hx : oddB false (av + cv) = true) :
    Calls Tryd.prog 7 #[.agg #[.bool false, .int .i64 av], .agg #[.bool false, .int .i64 bv], .agg #[.bool cn, .int .i64 cv]] w fun e w' => e = .returned (.bool true) ∧ Ext w w' := by
  have E0 : Hid (lessS false false av bv = false) := by refine Lib.hid ?_; rw [lessS, ha, hb]; simp; omega
  have E1 : Hid (lessS false false bv av = true) := by refine Lib.hid ?_; rw [lessS, ha, hb]; simp; omega
  have E2 : Hid (equalS false false av bv = false) := by refine Lib.hid ?_; rw [equalS, ha, hb]; simp; omega
  obtain rfl : cn = false := (oddB_false hc).1
  have E3 : Hid (two false false av cv (fitS (av + cv)) = ((false, 0), 66)) := by
    refine Lib.hid ?_
    rw [both_ok _ _ _ ha hc]; exact (by simp [oddB] at hx; rw [fitS, if_pos hx])
  obtain ⟨⟨⟨r, s⟩, t⟩, er⟩ : ∃ r, two false false bv cv (fitS (bv + cv)) = r := ⟨_, rfl⟩
  have E4 := Lib.hid er; clear er
  have hl := floorV_le av
  have hu := ceilV_ge av
  have hfl := floorV_in av ha
  have hcl := ceilV_in av ha
  have E6 : Hid (one false av (fitS (floorV av)) = ((false, floorV av), 0)) := by
    refine Lib.hid ?_
    obtain ⟨_, a1, a2⟩ := oddB_false hfl
    rw [one, if_neg (by rw [ha]; decide), fitS_in a1 a2]
  have E7 : Hid (ceilS false av = ((false, ceilV av), 0)) := by
    refine Lib.hid ?_
    obtain ⟨_, a1, a2⟩ := oddB_false hcl
    rw [ceilS, one, if_neg (by rw [ha]; decide), fitS_in a1 a2]
  have E8 : Hid (lessS false false av (floorV av) = false) := by refine Lib.hid ?_; rw [lessS, ha, hfl]; simp; omega
  have E9 : Hid (lessS false false (ceilV av) av = false) := by refine Lib.hid ?_; rw [lessS, hcl, ha]; simp; omega
  have HA := Lib.hid ha
  have HB := Lib.hid hb
  have HC := Lib.hid hc
  clear ha hb hc hl hu hfl hcl hr hx
  go_enter Tryd.func7, Tryd.ntmps7
  go_wp2_with fail
  refine (awake3 _ (((G.alloc _).alloc _).alloc _)).mono ?_
  rintro e w1 ⟨rfl, hB1⟩
  have hz1 := hB1.size
  simp at hz1
  have l0_1 : w.heap.size < w1.heap.size := by omega
  have l1_1 : w.heap.size + 1 < w1.heap.size := by omega
  have l2_1 : w.heap.size + 1 + 1 < w1.heap.size := by omega
  have c0_0_1 : w1.cell? ⟨w.heap.size, 0, none⟩ = some (.bool false) := hB1.keep (by first | (simp; done) | (simp; omega)) (by simp [go_sem])
  have c0_1_1 : w1.cell? ⟨w.heap.size, 1, none⟩ = some (.int .i64 av) := hB1.keep (by first | (simp; done) | (simp; omega)) (by simp [go_sem])
  have c1_0_1 : w1.cell? ⟨w.heap.size + 1, 0, none⟩ = some (.bool false) := hB1.keep (by first | (simp; done) | (simp; omega)) (by simp [go_sem])
  have c1_1_1 : w1.cell? ⟨w.heap.size + 1, 1, none⟩ = some (.int .i64 bv) := hB1.keep (by first | (simp; done) | (simp; omega)) (by simp [go_sem])
  have c2_0_1 : w1.cell? ⟨w.heap.size + 1 + 1, 0, none⟩ = some (.bool false) := hB1.keep (by first | (simp; done) | (simp; omega)) (by simp [go_sem])
  have c2_1_1 : w1.cell? ⟨w.heap.size + 1 + 1, 1, none⟩ = some (.int .i64 cv) := hB1.keep (by first | (simp; done) | (simp; omega)) (by simp [go_sem])
  go_wp2_with fail
  refine (rodd_any false av _).mono ?_
  rw [HA.out]
  rintro e w2 ⟨rfl, hB2⟩
  have hz2 := hB2.size
  have l0_2 : w.heap.size < w2.heap.size := by omega
  have l1_2 : w.heap.size + 1 < w2.heap.size := by omega
  have l2_2 : w.heap.size + 1 + 1 < w2.heap.size := by omega
  have c0_0_2 : w2.cell? ⟨w.heap.size, 0, none⟩ = some (.bool false) := hB2.keep (by omega) c0_0_1
  have c0_1_2 : w2.cell? ⟨w.heap.size, 1, none⟩ = some (.int .i64 av) := hB2.keep (by omega) c0_1_1
  have c1_0_2 : w2.cell? ⟨w.heap.size + 1, 0, none⟩ = some (.bool false) := hB2.keep (by omega) c1_0_1
  have c1_1_2 : w2.cell? ⟨w.heap.size + 1, 1, none⟩ = some (.int .i64 bv) := hB2.keep (by omega) c1_1_1
  have c2_0_2 : w2.cell? ⟨w.heap.size + 1 + 1, 0, none⟩ = some (.bool false) := hB2.keep (by omega) c2_0_1
  have c2_1_2 : w2.cell? ⟨w.heap.size + 1 + 1, 1, none⟩ = some (.int .i64 cv) := hB2.keep (by omega) c2_1_1
  clear c0_0_1 c0_1_1 c1_0_1 c1_1_1 c2_0_1 c2_1_1 l0_1 l1_1 l2_1
  go_wp2_with fail
  refine (rodd_any false bv _).mono ?_
  rw [HB.out]
  rintro e w3 ⟨rfl, hB3⟩
  have hz3 := hB3.size
  have l0_3 : w.heap.size < w3.heap.size := by omega
  have l1_3 : w.heap.size + 1 < w3.heap.size := by omega
  have l2_3 : w.heap.size + 1 + 1 < w3.heap.size := by omega
  have c0_0_3 : w3.cell? ⟨w.heap.size, 0, none⟩ = some (.bool false) := hB3.keep (by omega) c0_0_2
  have c0_1_3 : w3.cell? ⟨w.heap.size, 1, none⟩ = some (.int .i64 av) := hB3.keep (by omega) c0_1_2
  have c1_0_3 : w3.cell? ⟨w.heap.size + 1, 0, none⟩ = some (.bool false) := hB3.keep (by omega) c1_0_2
  have c1_1_3 : w3.cell? ⟨w.heap.size + 1, 1, none⟩ = some (.int .i64 bv) := hB3.keep (by omega) c1_1_2
  have c2_0_3 : w3.cell? ⟨w.heap.size + 1 + 1, 0, none⟩ = some (.bool false) := hB3.keep (by omega) c2_0_2
  have c2_1_3 : w3.cell? ⟨w.heap.size + 1 + 1, 1, none⟩ = some (.int .i64 cv) := hB3.keep (by omega) c2_1_2
  clear c0_0_2 c0_1_2 c1_0_2 c1_1_2 c2_0_2 c2_1_2 l0_2 l1_2 l2_2
  go_wp2_with fail
  refine (less_any false false av bv _).mono ?_
  rw [E0.out]
  rintro e w4 ⟨rfl, hB4⟩
  have hz4 := hB4.size
  have l0_4 : w.heap.size < w4.heap.size := by omega
  have l1_4 : w.heap.size + 1 < w4.heap.size := by omega
  have l2_4 : w.heap.size + 1 + 1 < w4.heap.size := by omega
  have c0_0_4 : w4.cell? ⟨w.heap.size, 0, none⟩ = some (.bool false) := hB4.keep (by omega) c0_0_3
  have c0_1_4 : w4.cell? ⟨w.heap.size, 1, none⟩ = some (.int .i64 av) := hB4.keep (by omega) c0_1_3
  have c1_0_4 : w4.cell? ⟨w.heap.size + 1, 0, none⟩ = some (.bool false) := hB4.keep (by omega) c1_0_3
  have c1_1_4 : w4.cell? ⟨w.heap.size + 1, 1, none⟩ = some (.int .i64 bv) := hB4.keep (by omega) c1_1_3
  have c2_0_4 : w4.cell? ⟨w.heap.size + 1 + 1, 0, none⟩ = some (.bool false) := hB4.keep (by omega) c2_0_3
  have c2_1_4 : w4.cell? ⟨w.heap.size + 1 + 1, 1, none⟩ = some (.int .i64 cv) := hB4.keep (by omega) c2_1_3
  clear c0_0_3 c0_1_3 c1_0_3 c1_1_3 c2_0_3 c2_1_3 l0_3 l1_3 l2_3
  go_wp2_with fail
  refine (less_any false false bv av _).mono ?_
  rw [E1.out]
  rintro e w5 ⟨rfl, hB5⟩
  have hz5 := hB5.size
  have l0_5 : w.heap.size < w5.heap.size := by omega
  have l1_5 : w.heap.size + 1 < w5.heap.size := by omega
  have l2_5 : w.heap.size + 1 + 1 < w5.heap.size := by omega
  have c0_0_5 : w5.cell? ⟨w.heap.size, 0, none⟩ = some (.bool false) := hB5.keep (by omega) c0_0_4
  have c0_1_5 : w5.cell? ⟨w.heap.size, 1, none⟩ = some (.int .i64 av) := hB5.keep (by omega) c0_1_4
  have c1_0_5 : w5.cell? ⟨w.heap.size + 1, 0, none⟩ = some (.bool false) := hB5.keep (by omega) c1_0_4
  have c1_1_5 : w5.cell? ⟨w.heap.size + 1, 1, none⟩ = some (.int .i64 bv) := hB5.keep (by omega) c1_1_4
  have c2_0_5 : w5.cell? ⟨w.heap.size + 1 + 1, 0, none⟩ = some (.bool false) := hB5.keep (by omega) c2_0_4
  have c2_1_5 : w5.cell? ⟨w.heap.size + 1 + 1, 1, none⟩ = some (.int .i64 cv) := hB5.keep (by omega) c2_1_4
  clear c0_0_4 c0_1_4 c1_0_4 c1_1_4 c2_0_4 c2_1_4 l0_4 l1_4 l2_4
  go_wp2_with fail
  refine (equal_any false false av bv _).mono ?_
  rw [E2.out]
  rintro e w6 ⟨rfl, hB6⟩
  have hz6 := hB6.size
  have l0_6 : w.heap.size < w6.heap.size := by omega
  have l1_6 : w.heap.size + 1 < w6.heap.size := by omega
  have l2_6 : w.heap.size + 1 + 1 < w6.heap.size := by omega
  have c0_0_6 : w6.cell? ⟨w.heap.size, 0, none⟩ = some (.bool false) := hB6.keep (by omega) c0_0_5
  have c0_1_6 : w6.cell? ⟨w.heap.size, 1, none⟩ = some (.int .i64 av) := hB6.keep (by omega) c0_1_5
  have c1_0_6 : w6.cell? ⟨w.heap.size + 1, 0, none⟩ = some (.bool false) := hB6.keep (by omega) c1_0_5
  have c1_1_6 : w6.cell? ⟨w.heap.size + 1, 1, none⟩ = some (.int .i64 bv) := hB6.keep (by omega) c1_1_5
  have c2_0_6 : w6.cell? ⟨w.heap.size + 1 + 1, 0, none⟩ = some (.bool false) := hB6.keep (by omega) c2_0_5
  have c2_1_6 : w6.cell? ⟨w.heap.size + 1 + 1, 1, none⟩ = some (.int .i64 cv) := hB6.keep (by omega) c2_1_5
  clear c0_0_5 c0_1_5 c1_0_5 c1_1_5 c2_0_5 c2_1_5 l0_5 l1_5 l2_5
  go_wp2_with fail
  refine (add_any false false av cv _).mono ?_
  rw [E3.out]
  rintro e w7 ⟨rfl, hB7⟩
  have hz7 := hB7.size
  have l0_7 : w.heap.size < w7.heap.size := by omega
  have l1_7 : w.heap.size + 1 < w7.heap.size := by omega
  have l2_7 : w.heap.size + 1 + 1 < w7.heap.size := by omega
  have c0_0_7 : w7.cell? ⟨w.heap.size, 0, none⟩ = some (.bool false) := hB7.keep (by omega) c0_0_6
  have c0_1_7 : w7.cell? ⟨w.heap.size, 1, none⟩ = some (.int .i64 av) := hB7.keep (by omega) c0_1_6
  have c1_0_7 : w7.cell? ⟨w.heap.size + 1, 0, none⟩ = some (.bool false) := hB7.keep (by omega) c1_0_6
  have c1_1_7 : w7.cell? ⟨w.heap.size + 1, 1, none⟩ = some (.int .i64 bv) := hB7.keep (by omega) c1_1_6
  have c2_0_7 : w7.cell? ⟨w.heap.size + 1 + 1, 0, none⟩ = some (.bool false) := hB7.keep (by omega) c2_0_6
  have c2_1_7 : w7.cell? ⟨w.heap.size + 1 + 1, 1, none⟩ = some (.int .i64 cv) := hB7.keep (by omega) c2_1_6
  clear c0_0_6 c0_1_6 c1_0_6 c1_1_6 c2_0_6 c2_1_6 l0_6 l1_6 l2_6
  go_wp2_with fail
  refine (add_any false false bv cv _).mono ?_
  rw [E4.out]
  rintro e w8 ⟨rfl, hB8⟩
  have hz8 := hB8.size
  simp at hz8
  have l0_8 : w.heap.size < w8.heap.size := by omega
  have l1_8 : w.heap.size + 1 < w8.heap.size := by omega
  have l2_8 : w.heap.size + 1 + 1 < w8.heap.size := by omega
  have l3_8 : w7.heap.size < w8.heap.size := by omega
  have c0_0_8 : w8.cell? ⟨w.heap.size, 0, none⟩ = some (.bool false) := hB8.keep (by first | (simp; done) | (simp; omega)) (by simp [go_sem, l0_7, l1_7, l2_7, c0_0_7])
  have c0_1_8 : w8.cell? ⟨w.heap.size, 1, none⟩ = some (.int .i64 av) := hB8.keep (by first | (simp; done) | (simp; omega)) (by simp [go_sem, l0_7, l1_7, l2_7, c0_1_7])
  have c1_0_8 : w8.cell? ⟨w.heap.size + 1, 0, none⟩ = some (.bool false) := hB8.keep (by first | (simp; done) | (simp; omega)) (by simp [go_sem, l0_7, l1_7, l2_7, c1_0_7])
  have c1_1_8 : w8.cell? ⟨w.heap.size + 1, 1, none⟩ = some (.int .i64 bv) := hB8.keep (by first | (simp; done) | (simp; omega)) (by simp [go_sem, l0_7, l1_7, l2_7, c1_1_7])
  have c2_0_8 : w8.cell? ⟨w.heap.size + 1 + 1, 0, none⟩ = some (.bool false) := hB8.keep (by first | (simp; done) | (simp; omega)) (by simp [go_sem, l0_7, l1_7, l2_7, c2_0_7])
  have c2_1_8 : w8.cell? ⟨w.heap.size + 1 + 1, 1, none⟩ = some (.int .i64 cv) := hB8.keep (by first | (simp; done) | (simp; omega)) (by simp [go_sem, l0_7, l1_7, l2_7, c2_1_7])
  have c3_0_8 : w8.cell? ⟨w7.heap.size, 0, none⟩ = some (.bool false) := hB8.keep (by first | (simp; done) | (simp; omega)) (by simp [go_sem, l0_7, l1_7, l2_7])
  have c3_1_8 : w8.cell? ⟨w7.heap.size, 1, none⟩ = some (.int .i64 0) := hB8.keep (by first | (simp; done) | (simp; omega)) (by simp [go_sem, l0_7, l1_7, l2_7])
  clear c0_0_7 c0_1_7 c1_0_7 c1_1_7 c2_0_7 c2_1_7 l0_7 l1_7 l2_7
  go_wp2_with fail
  obtain ⟨w9, hW9⟩ : ∃ wz, (w8.alloc (.cells #[.bool r, .int .i64 s] 38)) = wz := ⟨_, rfl⟩
  rw [hW9]
  have hB9 : Ext (w8.alloc (.cells #[.bool r, .int .i64 s] 38)) w9 := by rw [hW9]; exact Ext.refl _
  clear hW9
  have hz9 := hB9.size
  simp at hz9
  have l0_9 : w.heap.size < w9.heap.size := by omega
  have l1_9 : w.heap.size + 1 < w9.heap.size := by omega
  have l2_9 : w.heap.size + 1 + 1 < w9.heap.size := by omega
  have l3_9 : w7.heap.size < w9.heap.size := by omega
  have l4_9 : w8.heap.size < w9.heap.size := by omega
  have c0_0_9 : w9.cell? ⟨w.heap.size, 0, none⟩ = some (.bool false) := hB9.keep (by first | (simp; done) | (simp; omega)) (by simp [go_sem, l0_8, l1_8, l2_8, l3_8, c0_0_8])
  have c0_1_9 : w9.cell? ⟨w.heap.size, 1, none⟩ = some (.int .i64 av) := hB9.keep (by first | (simp; done) | (simp; omega)) (by simp [go_sem, l0_8, l1_8, l2_8, l3_8, c0_1_8])
  have c1_0_9 : w9.cell? ⟨w.heap.size + 1, 0, none⟩ = some (.bool false) := hB9.keep (by first | (simp; done) | (simp; omega)) (by simp [go_sem, l0_8, l1_8, l2_8, l3_8, c1_0_8])
  have c1_1_9 : w9.cell? ⟨w.heap.size + 1, 1, none⟩ = some (.int .i64 bv) := hB9.keep (by first | (simp; done) | (simp; omega)) (by simp [go_sem, l0_8, l1_8, l2_8, l3_8, c1_1_8])
  have c2_0_9 : w9.cell? ⟨w.heap.size + 1 + 1, 0, none⟩ = some (.bool false) := hB9.keep (by first | (simp; done) | (simp; omega)) (by simp [go_sem, l0_8, l1_8, l2_8, l3_8, c2_0_8])
  have c2_1_9 : w9.cell? ⟨w.heap.size + 1 + 1, 1, none⟩ = some (.int .i64 cv) := hB9.keep (by first | (simp; done) | (simp; omega)) (by simp [go_sem, l0_8, l1_8, l2_8, l3_8, c2_1_8])
  have c3_0_9 : w9.cell? ⟨w7.heap.size, 0, none⟩ = some (.bool false) := hB9.keep (by first | (simp; done) | (simp; omega)) (by simp [go_sem, l0_8, l1_8, l2_8, l3_8, c3_0_8])
  have c3_1_9 : w9.cell? ⟨w7.heap.size, 1, none⟩ = some (.int .i64 0) := hB9.keep (by first | (simp; done) | (simp; omega)) (by simp [go_sem, l0_8, l1_8, l2_8, l3_8, c3_1_8])
  have c4_0_9 : w9.cell? ⟨w8.heap.size, 0, none⟩ = some (.bool r) := hB9.keep (by first | (simp; done) | (simp; omega)) (by simp [go_sem, l0_8, l1_8, l2_8, l3_8])
  have c4_1_9 : w9.cell? ⟨w8.heap.size, 1, none⟩ = some (.int .i64 s) := hB9.keep (by first | (simp; done) | (simp; omega)) (by simp [go_sem, l0_8, l1_8, l2_8, l3_8])
  clear c0_0_8 c0_1_8 c1_0_8 c1_1_8 c2_0_8 c2_1_8 c3_0_8 c3_1_8 l0_8 l1_8 l2_8 l3_8
  go_wp2_with fail
  refine rg_begin (S := Sx w9) (by kernel_rfl) (Sx.begin _) ?_
  have hS : Sx w9 (World.drew w9) := Sx.begin _
  refine rg_take 0 (some 67) (.int .i64 1) (oi := { dst := some 67, op := Go.Op.move (Go.Operand.tmp 7), type := 3, pos := "outright.go:48", after := #[], guard := none }) rfl rfl (by kernel_rfl) (by kernel_rfl) (by kernel_rfl) (fun _ _ _ h => h) hS (by rfl) (fun w' hs => by rfl) ?_
  simp only [Act.put, List.setIfInBounds_toArray, List.set_cons_zero, List.set_cons_succ]
  refine rg_take 1 (some 68) (.bool false) (oi := { dst := some 68, op := Go.Op.binOp Go.BinOp.neq 3 (Go.Operand.tmp 67) (Go.Operand.const (Go.Value.int Go.IntKind.i64 1)) 3, type := 4, pos := "outright.go:48", after := #[{ on := 0, ground := Go.Ground.data }], guard := none }) rfl rfl (by kernel_rfl) (by kernel_rfl) (by kernel_rfl) (fun _ _ _ h => h) hS (by rfl) (fun w' hs => by first | rfl | go_simp) ?_
  simp only [Act.put, List.setIfInBounds_toArray, List.set_cons_zero, List.set_cons_succ]
  refine rg_take 2 (some 69) (.bool false) (oi := { dst := some 69, op := Go.Op.move (Go.Operand.tmp 68), type := 4, pos := "outright.go:48", after := #[{ on := 1, ground := Go.Ground.data }], guard := none }) rfl rfl (by kernel_rfl) (by kernel_rfl) (by kernel_rfl) (fun _ _ _ h => h) hS (by rfl) (fun w' hs => by rfl) ?_
  simp only [Act.put, List.setIfInBounds_toArray, List.set_cons_zero, List.set_cons_succ]
  refine rg_take 3 (some 70) (.agg #[.bool false, .int .i64 cv]) (oi := { dst := some 70, op := Go.Op.load 38 (Go.Operand.tmp 5), type := 38, pos := "outright.go:48", after := #[{ on := 2, ground := Go.Ground.guard }], guard := some (2, false) }) rfl rfl (by kernel_rfl) (by kernel_rfl) (by kernel_rfl) (fun _ _ _ h => h) hS (by rfl) (fun w' hs => by (have h0 := hs.cell l2_9 c2_0_9; have h1 := hs.cell l2_9 c2_1_9; go_simp)) ?_
  simp only [Act.put, List.setIfInBounds_toArray, List.set_cons_zero, List.set_cons_succ]
  refine rg_call 4 (some 71) 24 #[.agg #[.bool false, .int .i64 cv]] (oi := { dst := some 71, op := Go.Op.call { callee := Go.Callee.value (Go.Operand.func 24), args := #[Go.Operand.tmp 70], argTypes := #[38] }, type := 4, pos := "outright.go:48", after := #[{ on := 3, ground := Go.Ground.data }, { on := 2, ground := Go.Ground.chain }, { on := 2, ground := Go.Ground.guard }], guard := some (2, false) }) rfl rfl (by kernel_rfl) (by rfl) (fun w' => by first | rfl | go_simp) (R := fun v w' => v = .bool false ∧ Ext (World.drew w9) w') ?_ ?_
  · refine (rodd_any false cv _).mono ?_
    rw [HC.out]
    rintro e w' ⟨rfl, h⟩
    exact ⟨_, rfl, rfl, h⟩
  rintro _ wr1 ⟨rfl, hBr1⟩
  have hS1 := hS.ext hBr1
  refine ⟨hS1, ?_⟩
  simp only [Act.put, List.setIfInBounds_toArray, List.set_cons_zero, List.set_cons_succ]
  refine rg_take 5 (some 72) (.bool true) (oi := { dst := some 72, op := Go.Op.unOp Go.UnOp.not 4 (Go.Operand.tmp 71), type := 4, pos := "outright.go:48", after := #[{ on := 4, ground := Go.Ground.data }, { on := 2, ground := Go.Ground.guard }], guard := some (2, false) }) rfl rfl (by kernel_rfl) (by kernel_rfl) (by kernel_rfl) (fun _ _ _ h => h) hS1 (by rfl) (fun w' hs => by first | rfl | go_simp) ?_
  simp only [Act.put, List.setIfInBounds_toArray, List.set_cons_zero, List.set_cons_succ]
  refine rg_take 6 (some 73) (.bool true) (oi := { dst := some 73, op := Go.Op.move (Go.Operand.tmp 72), type := 4, pos := "outright.go:48", after := #[{ on := 5, ground := Go.Ground.data }, { on := 4, ground := Go.Ground.chain }, { on := 2, ground := Go.Ground.guard }], guard := some (2, false) }) rfl rfl (by kernel_rfl) (by kernel_rfl) (by kernel_rfl) (fun _ _ _ h => h) hS1 (by rfl) (fun w' hs => by rfl) ?_
  simp only [Act.put, List.setIfInBounds_toArray, List.set_cons_zero, List.set_cons_succ]
  refine rg_take 7 (some 74) (.int .i64 66) (oi := { dst := some 74, op := Go.Op.move (Go.Operand.tmp 9), type := 34, pos := "outright.go:48", after := #[{ on := 6, ground := Go.Ground.guard }], guard := some (6, true) }) rfl rfl (by kernel_rfl) (by kernel_rfl) (by kernel_rfl) (fun _ _ _ h => h) hS1 (by rfl) (fun w' hs => by rfl) ?_
  simp only [Act.put, List.setIfInBounds_toArray, List.set_cons_zero, List.set_cons_succ]
  refine rg_take 8 (some 75) (.bool false) (oi := { dst := some 75, op := Go.Op.binOp Go.BinOp.eql 34 (Go.Operand.tmp 74) (Go.Operand.const (Go.Value.int Go.IntKind.i64 0)) 34, type := 4, pos := "outright.go:48", after := #[{ on := 7, ground := Go.Ground.data }, { on := 6, ground := Go.Ground.guard }], guard := some (6, true) }) rfl rfl (by kernel_rfl) (by kernel_rfl) (by kernel_rfl) (fun _ _ _ h => h) hS1 (by rfl) (fun w' hs => by first | rfl | go_simp) ?_
  simp only [Act.put, List.setIfInBounds_toArray, List.set_cons_zero, List.set_cons_succ]
  refine rg_take 9 (some 76) (.bool false) (oi := { dst := some 76, op := Go.Op.pick (Go.Operand.tmp 73) (Go.Operand.tmp 75) (Go.Operand.const (Go.Value.bool false)), type := 4, pos := "outright.go:48", after := #[{ on := 6, ground := Go.Ground.data }, { on := 8, ground := Go.Ground.data }, { on := 2, ground := Go.Ground.guard }], guard := some (2, false) }) rfl rfl (by kernel_rfl) (by kernel_rfl) (by kernel_rfl) (fun _ _ _ h => h) hS1 (by rfl) (fun w' hs => by rfl) ?_
  simp only [Act.put, List.setIfInBounds_toArray, List.set_cons_zero, List.set_cons_succ]
  refine rg_take 10 (some 77) (.bool false) (oi := { dst := some 77, op := Go.Op.move (Go.Operand.tmp 76), type := 4, pos := "outright.go:48", after := #[{ on := 9, ground := Go.Ground.data }, { on := 6, ground := Go.Ground.chain }, { on := 2, ground := Go.Ground.guard }], guard := some (2, false) }) rfl rfl (by kernel_rfl) (by kernel_rfl) (by kernel_rfl) (fun _ _ _ h => h) hS1 (by rfl) (fun w' hs => by rfl) ?_
  simp only [Act.put, List.setIfInBounds_toArray, List.set_cons_zero, List.set_cons_succ]
  refine rg_skip 11 (some 78) (oi := { dst := some 78, op := Go.Op.move (Go.Operand.tmp 11), type := 34, pos := "outright.go:48", after := #[{ on := 10, ground := Go.Ground.guard }], guard := some (10, true) }) rfl rfl (by kernel_rfl) (by kernel_rfl) (by kernel_rfl) (fun _ _ _ h => h) hS1 (by rfl) ?_
  simp only [Act.put, List.setIfInBounds_toArray, List.set_cons_zero, List.set_cons_succ]
  refine rg_skip 12 (some 79) (oi := { dst := some 79, op := Go.Op.binOp Go.BinOp.eql 34 (Go.Operand.tmp 78) (Go.Operand.const (Go.Value.int Go.IntKind.i64 0)) 34, type := 4, pos := "outright.go:48", after := #[{ on := 11, ground := Go.Ground.data }, { on := 10, ground := Go.Ground.guard }], guard := some (10, true) }) rfl rfl (by kernel_rfl) (by kernel_rfl) (by kernel_rfl) (fun _ _ _ h => h) hS1 (by rfl) ?_
  simp only [Act.put, List.setIfInBounds_toArray, List.set_cons_zero, List.set_cons_succ]
  refine rg_take 13 (some 80) (.bool false) (oi := { dst := some 80, op := Go.Op.pick (Go.Operand.tmp 77) (Go.Operand.tmp 79) (Go.Operand.const (Go.Value.bool false)), type := 4, pos := "outright.go:48", after := #[{ on := 10, ground := Go.Ground.data }, { on := 12, ground := Go.Ground.data }, { on := 2, ground := Go.Ground.guard }], guard := some (2, false) }) rfl rfl (by kernel_rfl) (by kernel_rfl) (by kernel_rfl) (fun _ _ _ h => h) hS1 (by rfl) (fun w' hs => by rfl) ?_
  simp only [Act.put, List.setIfInBounds_toArray, List.set_cons_zero, List.set_cons_succ]
  refine rg_take 14 (some 81) (.bool false) (oi := { dst := some 81, op := Go.Op.move (Go.Operand.tmp 80), type := 4, pos := "outright.go:48", after := #[{ on := 13, ground := Go.Ground.data }, { on := 10, ground := Go.Ground.chain }, { on := 2, ground := Go.Ground.guard }], guard := some (2, false) }) rfl rfl (by kernel_rfl) (by kernel_rfl) (by kernel_rfl) (fun _ _ _ h => h) hS1 (by rfl) (fun w' hs => by rfl) ?_
  simp only [Act.put, List.setIfInBounds_toArray, List.set_cons_zero, List.set_cons_succ]
  refine rg_skip 15 (some 82) (oi := { dst := some 82, op := Go.Op.load 38 (Go.Operand.tmp 3), type := 38, pos := "outright.go:48", after := #[{ on := 14, ground := Go.Ground.guard }], guard := some (14, true) }) rfl rfl (by kernel_rfl) (by kernel_rfl) (by kernel_rfl) (fun _ _ _ h => h) hS1 (by rfl) ?_
  simp only [Act.put, List.setIfInBounds_toArray, List.set_cons_zero, List.set_cons_succ]
  refine rg_skip 16 (some 83) (oi := { dst := some 83, op := Go.Op.load 38 (Go.Operand.tmp 4), type := 38, pos := "outright.go:48", after := #[{ on := 14, ground := Go.Ground.guard }], guard := some (14, true) }) rfl rfl (by kernel_rfl) (by kernel_rfl) (by kernel_rfl) (fun _ _ _ h => h) hS1 (by rfl) ?_
  simp only [Act.put, List.setIfInBounds_toArray, List.set_cons_zero, List.set_cons_succ]
  refine rg_skip 17 (some 84) (oi := { dst := some 84, op := Go.Op.call { callee := Go.Callee.value (Go.Operand.func 30), args := #[Go.Operand.tmp 82, Go.Operand.tmp 83], argTypes := #[38, 38] }, type := 4, pos := "outright.go:48", after := #[{ on := 15, ground := Go.Ground.data }, { on := 16, ground := Go.Ground.data }, { on := 14, ground := Go.Ground.chain }, { on := 14, ground := Go.Ground.guard }], guard := some (14, true) }) rfl rfl (by kernel_rfl) (by kernel_rfl) (by kernel_rfl) (fun _ _ _ h => h) hS1 (by rfl) ?_
  simp only [Act.put, List.setIfInBounds_toArray, List.set_cons_zero, List.set_cons_succ]
  refine rg_skip 18 (some 85) (oi := { dst := some 85, op := Go.Op.load 38 (Go.Operand.tmp 8), type := 38, pos := "outright.go:48", after := #[{ on := 14, ground := Go.Ground.guard }], guard := some (14, true) }) rfl rfl (by kernel_rfl) (by kernel_rfl) (by kernel_rfl) (fun _ _ _ h => h) hS1 (by rfl) ?_
  simp only [Act.put, List.setIfInBounds_toArray, List.set_cons_zero, List.set_cons_succ]
  refine rg_skip 19 (some 86) (oi := { dst := some 86, op := Go.Op.load 38 (Go.Operand.tmp 10), type := 38, pos := "outright.go:48", after := #[{ on := 14, ground := Go.Ground.guard }], guard := some (14, true) }) rfl rfl (by kernel_rfl) (by kernel_rfl) (by kernel_rfl) (fun _ _ _ h => h) hS1 (by rfl) ?_
  simp only [Act.put, List.setIfInBounds_toArray, List.set_cons_zero, List.set_cons_succ]
  refine rg_skip 20 (some 87) (oi := { dst := some 87, op := Go.Op.call { callee := Go.Callee.value (Go.Operand.func 30), args := #[Go.Operand.tmp 85, Go.Operand.tmp 86], argTypes := #[38, 38] }, type := 4, pos := "outright.go:48", after := #[{ on := 18, ground := Go.Ground.data }, { on := 19, ground := Go.Ground.data }, { on := 17, ground := Go.Ground.chain }, { on := 14, ground := Go.Ground.guard }], guard := some (14, true) }) rfl rfl (by kernel_rfl) (by kernel_rfl) (by kernel_rfl) (fun _ _ _ h => h) hS1 (by rfl) ?_
  simp only [Act.put, List.setIfInBounds_toArray, List.set_cons_zero, List.set_cons_succ]
  refine rg_skip 21 (some 88) (oi := { dst := some 88, op := Go.Op.binOp Go.BinOp.neq 4 (Go.Operand.tmp 84) (Go.Operand.tmp 87) 4, type := 4, pos := "outright.go:48", after := #[{ on := 17, ground := Go.Ground.data }, { on := 20, ground := Go.Ground.data }, { on := 14, ground := Go.Ground.guard }], guard := some (14, true) }) rfl rfl (by kernel_rfl) (by kernel_rfl) (by kernel_rfl) (fun _ _ _ h => h) hS1 (by rfl) ?_
  simp only [Act.put, List.setIfInBounds_toArray, List.set_cons_zero, List.set_cons_succ]
  refine rg_take 22 (some 89) (.bool false) (oi := { dst := some 89, op := Go.Op.pick (Go.Operand.tmp 81) (Go.Operand.tmp 88) (Go.Operand.const (Go.Value.bool false)), type := 4, pos := "outright.go:48", after := #[{ on := 14, ground := Go.Ground.data }, { on := 21, ground := Go.Ground.data }, { on := 2, ground := Go.Ground.guard }], guard := some (2, false) }) rfl rfl (by kernel_rfl) (by kernel_rfl) (by kernel_rfl) (fun _ _ _ h => h) hS1 (by rfl) (fun w' hs => by rfl) ?_
  simp only [Act.put, List.setIfInBounds_toArray, List.set_cons_zero, List.set_cons_succ]
  refine rg_take 23 (some 90) (.bool false) (oi := { dst := some 90, op := Go.Op.pick (Go.Operand.tmp 69) (Go.Operand.const (Go.Value.bool true)) (Go.Operand.tmp 89), type := 4, pos := "outright.go:48", after := #[{ on := 2, ground := Go.Ground.data }, { on := 22, ground := Go.Ground.data }], guard := none }) rfl rfl (by kernel_rfl) (by kernel_rfl) (by kernel_rfl) (fun _ _ _ h => h) hS1 (by rfl) (fun w' hs => by rfl) ?_
  simp only [Act.put, List.setIfInBounds_toArray, List.set_cons_zero, List.set_cons_succ]
  refine rg_done (by kernel_rfl) ?_
  obtain ⟨w10, hW10⟩ : ∃ wz, wr1 = wz := ⟨_, rfl⟩
  rw [hW10] at hS1 ⊢
  have hB10 : Ext w9 w10 := hS1
  clear hW10
  have hz10 := hB10.size
  have l0_10 : w.heap.size < w10.heap.size := Nat.lt_of_lt_of_le l0_9 hz10
  have c0_0_10 : w10.cell? ⟨w.heap.size, 0, none⟩ = some (.bool false) := hB10.keep l0_9 c0_0_9
  have c0_1_10 : w10.cell? ⟨w.heap.size, 1, none⟩ = some (.int .i64 av) := hB10.keep l0_9 c0_1_9
  have l1_10 : w.heap.size + 1 < w10.heap.size := Nat.lt_of_lt_of_le l1_9 hz10
  have c1_0_10 : w10.cell? ⟨w.heap.size + 1, 0, none⟩ = some (.bool false) := hB10.keep l1_9 c1_0_9
  have c1_1_10 : w10.cell? ⟨w.heap.size + 1, 1, none⟩ = some (.int .i64 bv) := hB10.keep l1_9 c1_1_9
  have l2_10 : w.heap.size + 1 + 1 < w10.heap.size := Nat.lt_of_lt_of_le l2_9 hz10
  have c2_0_10 : w10.cell? ⟨w.heap.size + 1 + 1, 0, none⟩ = some (.bool false) := hB10.keep l2_9 c2_0_9
  have c2_1_10 : w10.cell? ⟨w.heap.size + 1 + 1, 1, none⟩ = some (.int .i64 cv) := hB10.keep l2_9 c2_1_9
  have l3_10 : w7.heap.size < w10.heap.size := Nat.lt_of_lt_of_le l3_9 hz10
  have c3_0_10 : w10.cell? ⟨w7.heap.size, 0, none⟩ = some (.bool false) := hB10.keep l3_9 c3_0_9
  have c3_1_10 : w10.cell? ⟨w7.heap.size, 1, none⟩ = some (.int .i64 0) := hB10.keep l3_9 c3_1_9
  have l4_10 : w8.heap.size < w10.heap.size := Nat.lt_of_lt_of_le l4_9 hz10
  have c4_0_10 : w10.cell? ⟨w8.heap.size, 0, none⟩ = some (.bool r) := hB10.keep l4_9 c4_0_9
  have c4_1_10 : w10.cell? ⟨w8.heap.size, 1, none⟩ = some (.int .i64 s) := hB10.keep l4_9 c4_1_9
  clear c0_0_9 c0_1_9 l0_9 c1_0_9 c1_1_9 l1_9 c2_0_9 c2_1_9 l2_9 c3_0_9 c3_1_9 l3_9 c4_0_9 c4_1_9 l4_9
  clear hS hS1 hBr1
  go_wp2_with fail
  refine (floor_any false av _).mono ?_
  rw [E6.out]
  rintro e w11 ⟨rfl, hB11⟩
  have hz11 := hB11.size
  have l0_11 : w.heap.size < w11.heap.size := by omega
  have l1_11 : w.heap.size + 1 < w11.heap.size := by omega
  have l2_11 : w.heap.size + 1 + 1 < w11.heap.size := by omega
  have l3_11 : w7.heap.size < w11.heap.size := by omega
  have l4_11 : w8.heap.size < w11.heap.size := by omega
  have c0_0_11 : w11.cell? ⟨w.heap.size, 0, none⟩ = some (.bool false) := hB11.keep (by omega) c0_0_10
  have c0_1_11 : w11.cell? ⟨w.heap.size, 1, none⟩ = some (.int .i64 av) := hB11.keep (by omega) c0_1_10
  have c1_0_11 : w11.cell? ⟨w.heap.size + 1, 0, none⟩ = some (.bool false) := hB11.keep (by omega) c1_0_10
  have c1_1_11 : w11.cell? ⟨w.heap.size + 1, 1, none⟩ = some (.int .i64 bv) := hB11.keep (by omega) c1_1_10
  have c2_0_11 : w11.cell? ⟨w.heap.size + 1 + 1, 0, none⟩ = some (.bool false) := hB11.keep (by omega) c2_0_10
  have c2_1_11 : w11.cell? ⟨w.heap.size + 1 + 1, 1, none⟩ = some (.int .i64 cv) := hB11.keep (by omega) c2_1_10
  have c3_0_11 : w11.cell? ⟨w7.heap.size, 0, none⟩ = some (.bool false) := hB11.keep (by omega) c3_0_10
  have c3_1_11 : w11.cell? ⟨w7.heap.size, 1, none⟩ = some (.int .i64 0) := hB11.keep (by omega) c3_1_10
  have c4_0_11 : w11.cell? ⟨w8.heap.size, 0, none⟩ = some (.bool r) := hB11.keep (by omega) c4_0_10
  have c4_1_11 : w11.cell? ⟨w8.heap.size, 1, none⟩ = some (.int .i64 s) := hB11.keep (by omega) c4_1_10
  clear c0_0_10 c0_1_10 c1_0_10 c1_1_10 c2_0_10 c2_1_10 c3_0_10 c3_1_10 c4_0_10 c4_1_10 l0_10 l1_10 l2_10 l3_10 l4_10
  go_wp2_with fail
  refine (ceil_any false av _).mono ?_
  rw [E7.out]
  rintro e w12 ⟨rfl, hB12⟩
  have hz12 := hB12.size
  simp at hz12
  have l0_12 : w.heap.size < w12.heap.size := by omega
  have l1_12 : w.heap.size + 1 < w12.heap.size := by omega
  have l2_12 : w.heap.size + 1 + 1 < w12.heap.size := by omega
  have l3_12 : w7.heap.size < w12.heap.size := by omega
  have l4_12 : w8.heap.size < w12.heap.size := by omega
  have l5_12 : w11.heap.size < w12.heap.size := by omega
  have c0_0_12 : w12.cell? ⟨w.heap.size, 0, none⟩ = some (.bool false) := hB12.keep (by first | (simp; done) | (simp; omega)) (by simp [go_sem, l0_11, l1_11, l2_11, l3_11, l4_11, c0_0_11])
  have c0_1_12 : w12.cell? ⟨w.heap.size, 1, none⟩ = some (.int .i64 av) := hB12.keep (by first | (simp; done) | (simp; omega)) (by simp [go_sem, l0_11, l1_11, l2_11, l3_11, l4_11, c0_1_11])
  have c1_0_12 : w12.cell? ⟨w.heap.size + 1, 0, none⟩ = some (.bool false) := hB12.keep (by first | (simp; done) | (simp; omega)) (by simp [go_sem, l0_11, l1_11, l2_11, l3_11, l4_11, c1_0_11])
  have c1_1_12 : w12.cell? ⟨w.heap.size + 1, 1, none⟩ = some (.int .i64 bv) := hB12.keep (by first | (simp; done) | (simp; omega)) (by simp [go_sem, l0_11, l1_11, l2_11, l3_11, l4_11, c1_1_11])
  have c2_0_12 : w12.cell? ⟨w.heap.size + 1 + 1, 0, none⟩ = some (.bool false) := hB12.keep (by first | (simp; done) | (simp; omega)) (by simp [go_sem, l0_11, l1_11, l2_11, l3_11, l4_11, c2_0_11])
  have c2_1_12 : w12.cell? ⟨w.heap.size + 1 + 1, 1, none⟩ = some (.int .i64 cv) := hB12.keep (by first | (simp; done) | (simp; omega)) (by simp [go_sem, l0_11, l1_11, l2_11, l3_11, l4_11, c2_1_11])
  have c3_0_12 : w12.cell? ⟨w7.heap.size, 0, none⟩ = some (.bool false) := hB12.keep (by first | (simp; done) | (simp; omega)) (by simp [go_sem, l0_11, l1_11, l2_11, l3_11, l4_11, c3_0_11])
  have c3_1_12 : w12.cell? ⟨w7.heap.size, 1, none⟩ = some (.int .i64 0) := hB12.keep (by first | (simp; done) | (simp; omega)) (by simp [go_sem, l0_11, l1_11, l2_11, l3_11, l4_11, c3_1_11])
  have c4_0_12 : w12.cell? ⟨w8.heap.size, 0, none⟩ = some (.bool r) := hB12.keep (by first | (simp; done) | (simp; omega)) (by simp [go_sem, l0_11, l1_11, l2_11, l3_11, l4_11, c4_0_11])
  have c4_1_12 : w12.cell? ⟨w8.heap.size, 1, none⟩ = some (.int .i64 s) := hB12.keep (by first | (simp; done) | (simp; omega)) (by simp [go_sem, l0_11, l1_11, l2_11, l3_11, l4_11, c4_1_11])
  have c5_0_12 : w12.cell? ⟨w11.heap.size, 0, none⟩ = some (.bool false) := hB12.keep (by first | (simp; done) | (simp; omega)) (by simp [go_sem, l0_11, l1_11, l2_11, l3_11, l4_11])
  have c5_1_12 : w12.cell? ⟨w11.heap.size, 1, none⟩ = some (.int .i64 (floorV av)) := hB12.keep (by first | (simp; done) | (simp; omega)) (by simp [go_sem, l0_11, l1_11, l2_11, l3_11, l4_11])
  clear c0_0_11 c0_1_11 c1_0_11 c1_1_11 c2_0_11 c2_1_11 c3_0_11 c3_1_11 c4_0_11 c4_1_11 l0_11 l1_11 l2_11 l3_11 l4_11
  go_wp2_with fail
  refine (less_any false false av (floorV av) _).mono ?_
  rw [E8.out]
  rintro e w13 ⟨rfl, hB13⟩
  have hz13 := hB13.size
  simp at hz13
  have l0_13 : w.heap.size < w13.heap.size := by omega
  have l1_13 : w.heap.size + 1 < w13.heap.size := by omega
  have l2_13 : w.heap.size + 1 + 1 < w13.heap.size := by omega
  have l3_13 : w7.heap.size < w13.heap.size := by omega
  have l4_13 : w8.heap.size < w13.heap.size := by omega
  have l5_13 : w11.heap.size < w13.heap.size := by omega
  have l6_13 : w12.heap.size < w13.heap.size := by omega
  have c0_0_13 : w13.cell? ⟨w.heap.size, 0, none⟩ = some (.bool false) := hB13.keep (by first | (simp; done) | (simp; omega)) (by simp [go_sem, l0_12, l1_12, l2_12, l3_12, l4_12, l5_12, c0_0_12])
  have c0_1_13 : w13.cell? ⟨w.heap.size, 1, none⟩ = some (.int .i64 av) := hB13.keep (by first | (simp; done) | (simp; omega)) (by simp [go_sem, l0_12, l1_12, l2_12, l3_12, l4_12, l5_12, c0_1_12])
  have c1_0_13 : w13.cell? ⟨w.heap.size + 1, 0, none⟩ = some (.bool false) := hB13.keep (by first | (simp; done) | (simp; omega)) (by simp [go_sem, l0_12, l1_12, l2_12, l3_12, l4_12, l5_12, c1_0_12])
  have c1_1_13 : w13.cell? ⟨w.heap.size + 1, 1, none⟩ = some (.int .i64 bv) := hB13.keep (by first | (simp; done) | (simp; omega)) (by simp [go_sem, l0_12, l1_12, l2_12, l3_12, l4_12, l5_12, c1_1_12])
  have c2_0_13 : w13.cell? ⟨w.heap.size + 1 + 1, 0, none⟩ = some (.bool false) := hB13.keep (by first | (simp; done) | (simp; omega)) (by simp [go_sem, l0_12, l1_12, l2_12, l3_12, l4_12, l5_12, c2_0_12])
  have c2_1_13 : w13.cell? ⟨w.heap.size + 1 + 1, 1, none⟩ = some (.int .i64 cv) := hB13.keep (by first | (simp; done) | (simp; omega)) (by simp [go_sem, l0_12, l1_12, l2_12, l3_12, l4_12, l5_12, c2_1_12])
  have c3_0_13 : w13.cell? ⟨w7.heap.size, 0, none⟩ = some (.bool false) := hB13.keep (by first | (simp; done) | (simp; omega)) (by simp [go_sem, l0_12, l1_12, l2_12, l3_12, l4_12, l5_12, c3_0_12])
  have c3_1_13 : w13.cell? ⟨w7.heap.size, 1, none⟩ = some (.int .i64 0) := hB13.keep (by first | (simp; done) | (simp; omega)) (by simp [go_sem, l0_12, l1_12, l2_12, l3_12, l4_12, l5_12, c3_1_12])
  have c4_0_13 : w13.cell? ⟨w8.heap.size, 0, none⟩ = some (.bool r) := hB13.keep (by first | (simp; done) | (simp; omega)) (by simp [go_sem, l0_12, l1_12, l2_12, l3_12, l4_12, l5_12, c4_0_12])
  have c4_1_13 : w13.cell? ⟨w8.heap.size, 1, none⟩ = some (.int .i64 s) := hB13.keep (by first | (simp; done) | (simp; omega)) (by simp [go_sem, l0_12, l1_12, l2_12, l3_12, l4_12, l5_12, c4_1_12])
  have c5_0_13 : w13.cell? ⟨w11.heap.size, 0, none⟩ = some (.bool false) := hB13.keep (by first | (simp; done) | (simp; omega)) (by simp [go_sem, l0_12, l1_12, l2_12, l3_12, l4_12, l5_12, c5_0_12])
  have c5_1_13 : w13.cell? ⟨w11.heap.size, 1, none⟩ = some (.int .i64 (floorV av)) := hB13.keep (by first | (simp; done) | (simp; omega)) (by simp [go_sem, l0_12, l1_12, l2_12, l3_12, l4_12, l5_12, c5_1_12])
  have c6_0_13 : w13.cell? ⟨w12.heap.size, 0, none⟩ = some (.bool false) := hB13.keep (by first | (simp; done) | (simp; omega)) (by simp [go_sem, l0_12, l1_12, l2_12, l3_12, l4_12, l5_12])
  have c6_1_13 : w13.cell? ⟨w12.heap.size, 1, none⟩ = some (.int .i64 (ceilV av)) := hB13.keep (by first | (simp; done) | (simp; omega)) (by simp [go_sem, l0_12, l1_12, l2_12, l3_12, l4_12, l5_12])
  clear c0_0_12 c0_1_12 c1_0_12 c1_1_12 c2_0_12 c2_1_12 c3_0_12 c3_1_12 c4_0_12 c4_1_12 c5_0_12 c5_1_12 l0_12 l1_12 l2_12 l3_12 l4_12 l5_12
  go_wp2_with fail
  refine (less_any false false (ceilV av) av _).mono ?_
  rw [E9.out]
  rintro e w14 ⟨rfl, hB14⟩
  have hz14 := hB14.size
  have l0_14 : w.heap.size < w14.heap.size := by omega
  have l1_14 : w.heap.size + 1 < w14.heap.size := by omega
  have l2_14 : w.heap.size + 1 + 1 < w14.heap.size := by omega
  have l3_14 : w7.heap.size < w14.heap.size := by omega
  have l4_14 : w8.heap.size < w14.heap.size := by omega
  have l5_14 : w11.heap.size < w14.heap.size := by omega
  have l6_14 : w12.heap.size < w14.heap.size := by omega
  have c0_0_14 : w14.cell? ⟨w.heap.size, 0, none⟩ = some (.bool false) := hB14.keep (by omega) c0_0_13
  have c0_1_14 : w14.cell? ⟨w.heap.size, 1, none⟩ = some (.int .i64 av) := hB14.keep (by omega) c0_1_13
  have c1_0_14 : w14.cell? ⟨w.heap.size + 1, 0, none⟩ = some (.bool false) := hB14.keep (by omega) c1_0_13
  have c1_1_14 : w14.cell? ⟨w.heap.size + 1, 1, none⟩ = some (.int .i64 bv) := hB14.keep (by omega) c1_1_13
  have c2_0_14 : w14.cell? ⟨w.heap.size + 1 + 1, 0, none⟩ = some (.bool false) := hB14.keep (by omega) c2_0_13
  have c2_1_14 : w14.cell? ⟨w.heap.size + 1 + 1, 1, none⟩ = some (.int .i64 cv) := hB14.keep (by omega) c2_1_13
  have c3_0_14 : w14.cell? ⟨w7.heap.size, 0, none⟩ = some (.bool false) := hB14.keep (by omega) c3_0_13
  have c3_1_14 : w14.cell? ⟨w7.heap.size, 1, none⟩ = some (.int .i64 0) := hB14.keep (by omega) c3_1_13
  have c4_0_14 : w14.cell? ⟨w8.heap.size, 0, none⟩ = some (.bool r) := hB14.keep (by omega) c4_0_13
  have c4_1_14 : w14.cell? ⟨w8.heap.size, 1, none⟩ = some (.int .i64 s) := hB14.keep (by omega) c4_1_13
  have c5_0_14 : w14.cell? ⟨w11.heap.size, 0, none⟩ = some (.bool false) := hB14.keep (by omega) c5_0_13
  have c5_1_14 : w14.cell? ⟨w11.heap.size, 1, none⟩ = some (.int .i64 (floorV av)) := hB14.keep (by omega) c5_1_13
  have c6_0_14 : w14.cell? ⟨w12.heap.size, 0, none⟩ = some (.bool false) := hB14.keep (by omega) c6_0_13
  have c6_1_14 : w14.cell? ⟨w12.heap.size, 1, none⟩ = some (.int .i64 (ceilV av)) := hB14.keep (by omega) c6_1_13
  clear c0_0_13 c0_1_13 c1_0_13 c1_1_13 c2_0_13 c2_1_13 c3_0_13 c3_1_13 c4_0_13 c4_1_13 c5_0_13 c5_1_13 c6_0_13 c6_1_13 l0_13 l1_13 l2_13 l3_13 l4_13 l5_13 l6_13
  go_wp2_with fail
  go_ret
  refine ⟨rfl, ?_⟩
  repeat (first | exact Ext.refl _ | refine Ext.set ?_ (by dsimp only; omega) _ | refine Ext.alloc ?_ _ | refine Ext.drew ?_ | refine (Ext.trans ?_ (by assumption)))
set_option maxHeartbeats 8000000 in
theorem order_gt_far2 (cn : Bool) (av bv cv : Int) (w : World) (G : Glob w) (ha : oddB false av = false) (hb : oddB false bv = false) (hr : bv < av) (hc : oddB cn cv = false) (hx : oddB false (av + cv) = false) (hy : oddB false (bv + cv) = true) :
    Calls Tryd.prog 7 #[.agg #[.bool false, .int .i64 av], .agg #[.bool false, .int .i64 bv], .agg #[.bool cn, .int .i64 cv]] w fun e w' => e = .returned (.bool true) ∧ Ext w w' := by
  have E0 : Hid (lessS false false av bv = false) := by refine Lib.hid ?_; rw [lessS, ha, hb]; simp; omega
  have E1 : Hid (lessS false false bv av = true) := by refine Lib.hid ?_; rw [lessS, ha, hb]; simp; omega
  have E2 : Hid (equalS false false av bv = false) := by refine Lib.hid ?_; rw [equalS, ha, hb]; simp; omega
  obtain rfl : cn = false := (oddB_false hc).1
  have E3 : Hid (two false false av cv (fitS (av + cv)) = ((false, av + cv), 0)) := by
    refine Lib.hid ?_
    rw [both_ok _ _ _ ha hc]; exact (by obtain ⟨_, a1, a2⟩ := oddB_false hx; exact fitS_in a1 a2)
  have E4 : Hid (two false false bv cv (fitS (bv + cv)) = ((false, 0), 66)) := by
    refine Lib.hid ?_
    rw [both_ok _ _ _ hb hc]; exact (by simp [oddB] at hy; rw [fitS, if_pos hy])
  have hl := floorV_le av
  have hu := ceilV_ge av
  have hfl := floorV_in av ha
  have hcl := ceilV_in av ha
  have E6 : Hid (one false av (fitS (floorV av)) = ((false, floorV av), 0)) := by
    refine Lib.hid ?_
    obtain ⟨_, a1, a2⟩ := oddB_false hfl
    rw [one, if_neg (by rw [ha]; decide), fitS_in a1 a2]
  have E7 : Hid (ceilS false av = ((false, ceilV av), 0)) := by
    refine Lib.hid ?_
    obtain ⟨_, a1, a2⟩ := oddB_false hcl
    rw [ceilS, one, if_neg (by rw [ha]; decide), fitS_in a1 a2]
  have E8 : Hid (lessS false false av (floorV av) = false) := by refine Lib.hid ?_; rw [lessS, ha, hfl]; simp; omega
  have E9 : Hid (lessS false false (ceilV av) av = false) := by refine Lib.hid ?_; rw [lessS, hcl, ha]; simp; omega
  have HA := Lib.hid ha
  have HB := Lib.hid hb
  have HC := Lib.hid hc
  clear ha hb hc hl hu hfl hcl hr hx hy
  go_enter Tryd.func7, Tryd.ntmps7
  go_wp2_with fail
  refine (awake3 _ (((G.alloc _).alloc _).alloc _)).mono ?_
  rintro e w1 ⟨rfl, hB1⟩
  have hz1 := hB1.size
  simp at hz1
  have l0_1 : w.heap.size < w1.heap.size := by omega
  have l1_1 : w.heap.size + 1 < w1.heap.size := by omega
  have l2_1 : w.heap.size + 1 + 1 < w1.heap.size := by omega
  have c0_0_1 : w1.cell? ⟨w.heap.size, 0, none⟩ = some (.bool false) := hB1.keep (by first | (simp; done) | (simp; omega)) (by simp [go_sem])
  have c0_1_1 : w1.cell? ⟨w.heap.size, 1, none⟩ = some (.int .i64 av) := hB1.keep (by first | (simp; done) | (simp; omega)) (by simp [go_sem])
  have c1_0_1 : w1.cell? ⟨w.heap.size + 1, 0, none⟩ = some (.bool false) := hB1.keep (by first | (simp; done) | (simp; omega)) (by simp [go_sem])
  have c1_1_1 : w1.cell? ⟨w.heap.size + 1, 1, none⟩ = some (.int .i64 bv) := hB1.keep (by first | (simp; done) | (simp; omega)) (by simp [go_sem])
  have c2_0_1 : w1.cell? ⟨w.heap.size + 1 + 1, 0, none⟩ = some (.bool false) := hB1.keep (by first | (simp; done) | (simp; omega)) (by simp [go_sem])
  have c2_1_1 : w1.cell? ⟨w.heap.size + 1 + 1, 1, none⟩ = some (.int .i64 cv) := hB1.keep (by first | (simp; done) | (simp; omega)) (by simp [go_sem])
  go_wp2_with fail
  refine (rodd_any false av _).mono ?_
  rw [HA.out]
  rintro e w2 ⟨rfl, hB2⟩
  have hz2 := hB2.size
  have l0_2 : w.heap.size < w2.heap.size := by omega
  have l1_2 : w.heap.size + 1 < w2.heap.size := by omega
  have l2_2 : w.heap.size + 1 + 1 < w2.heap.size := by omega
  have c0_0_2 : w2.cell? ⟨w.heap.size, 0, none⟩ = some (.bool false) := hB2.keep (by omega) c0_0_1
  have c0_1_2 : w2.cell? ⟨w.heap.size, 1, none⟩ = some (.int .i64 av) := hB2.keep (by omega) c0_1_1
  have c1_0_2 : w2.cell? ⟨w.heap.size + 1, 0, none⟩ = some (.bool false) := hB2.keep (by omega) c1_0_1
  have c1_1_2 : w2.cell? ⟨w.heap.size + 1, 1, none⟩ = some (.int .i64 bv) := hB2.keep (by omega) c1_1_1
  have c2_0_2 : w2.cell? ⟨w.heap.size + 1 + 1, 0, none⟩ = some (.bool false) := hB2.keep (by omega) c2_0_1
  have c2_1_2 : w2.cell? ⟨w.heap.size + 1 + 1, 1, none⟩ = some (.int .i64 cv) := hB2.keep (by omega) c2_1_1
  clear c0_0_1 c0_1_1 c1_0_1 c1_1_1 c2_0_1 c2_1_1 l0_1 l1_1 l2_1
  go_wp2_with fail
  refine (rodd_any false bv _).mono ?_
  rw [HB.out]
  rintro e w3 ⟨rfl, hB3⟩
  have hz3 := hB3.size
  have l0_3 : w.heap.size < w3.heap.size := by omega
  have l1_3 : w.heap.size + 1 < w3.heap.size := by omega
  have l2_3 : w.heap.size + 1 + 1 < w3.heap.size := by omega
  have c0_0_3 : w3.cell? ⟨w.heap.size, 0, none⟩ = some (.bool false) := hB3.keep (by omega) c0_0_2
  have c0_1_3 : w3.cell? ⟨w.heap.size, 1, none⟩ = some (.int .i64 av) := hB3.keep (by omega) c0_1_2
  have c1_0_3 : w3.cell? ⟨w.heap.size + 1, 0, none⟩ = some (.bool false) := hB3.keep (by omega) c1_0_2
  have c1_1_3 : w3.cell? ⟨w.heap.size + 1, 1, none⟩ = some (.int .i64 bv) := hB3.keep (by omega) c1_1_2
  have c2_0_3 : w3.cell? ⟨w.heap.size + 1 + 1, 0, none⟩ = some (.bool false) := hB3.keep (by omega) c2_0_2
  have c2_1_3 : w3.cell? ⟨w.heap.size + 1 + 1, 1, none⟩ = some (.int .i64 cv) := hB3.keep (by omega) c2_1_2
  clear c0_0_2 c0_1_2 c1_0_2 c1_1_2 c2_0_2 c2_1_2 l0_2 l1_2 l2_2
  go_wp2_with fail
  refine (less_any false false av bv _).mono ?_
  rw [E0.out]
  rintro e w4 ⟨rfl, hB4⟩
  have hz4 := hB4.size
  have l0_4 : w.heap.size < w4.heap.size := by omega
  have l1_4 : w.heap.size + 1 < w4.heap.size := by omega
  have l2_4 : w.heap.size + 1 + 1 < w4.heap.size := by omega
  have c0_0_4 : w4.cell? ⟨w.heap.size, 0, none⟩ = some (.bool false) := hB4.keep (by omega) c0_0_3
  have c0_1_4 : w4.cell? ⟨w.heap.size, 1, none⟩ = some (.int .i64 av) := hB4.keep (by omega) c0_1_3
  have c1_0_4 : w4.cell? ⟨w.heap.size + 1, 0, none⟩ = some (.bool false) := hB4.keep (by omega) c1_0_3
  have c1_1_4 : w4.cell? ⟨w.heap.size + 1, 1, none⟩ = some (.int .i64 bv) := hB4.keep (by omega) c1_1_3
  have c2_0_4 : w4.cell? ⟨w.heap.size + 1 + 1, 0, none⟩ = some (.bool false) := hB4.keep (by omega) c2_0_3
  have c2_1_4 : w4.cell? ⟨w.heap.size + 1 + 1, 1, none⟩ = some (.int .i64 cv) := hB4.keep (by omega) c2_1_3
  clear c0_0_3 c0_1_3 c1_0_3 c1_1_3 c2_0_3 c2_1_3 l0_3 l1_3 l2_3
  go_wp2_with fail
  refine (less_any false false bv av _).mono ?_
  rw [E1.out]
  rintro e w5 ⟨rfl, hB5⟩
  have hz5 := hB5.size
  have l0_5 : w.heap.size < w5.heap.size := by omega
  have l1_5 : w.heap.size + 1 < w5.heap.size := by omega
  have l2_5 : w.heap.size + 1 + 1 < w5.heap.size := by omega
  have c0_0_5 : w5.cell? ⟨w.heap.size, 0, none⟩ = some (.bool false) := hB5.keep (by omega) c0_0_4
  have c0_1_5 : w5.cell? ⟨w.heap.size, 1, none⟩ = some (.int .i64 av) := hB5.keep (by omega) c0_1_4
  have c1_0_5 : w5.cell? ⟨w.heap.size + 1, 0, none⟩ = some (.bool false) := hB5.keep (by omega) c1_0_4
  have c1_1_5 : w5.cell? ⟨w.heap.size + 1, 1, none⟩ = some (.int .i64 bv) := hB5.keep (by omega) c1_1_4
  have c2_0_5 : w5.cell? ⟨w.heap.size + 1 + 1, 0, none⟩ = some (.bool false) := hB5.keep (by omega) c2_0_4
  have c2_1_5 : w5.cell? ⟨w.heap.size + 1 + 1, 1, none⟩ = some (.int .i64 cv) := hB5.keep (by omega) c2_1_4
  clear c0_0_4 c0_1_4 c1_0_4 c1_1_4 c2_0_4 c2_1_4 l0_4 l1_4 l2_4
  go_wp2_with fail
  refine (equal_any false false av bv _).mono ?_
  rw [E2.out]
  rintro e w6 ⟨rfl, hB6⟩
  have hz6 := hB6.size
  have l0_6 : w.heap.size < w6.heap.size := by omega
  have l1_6 : w.heap.size + 1 < w6.heap.size := by omega
  have l2_6 : w.heap.size + 1 + 1 < w6.heap.size := by omega
  have c0_0_6 : w6.cell? ⟨w.heap.size, 0, none⟩ = some (.bool false) := hB6.keep (by omega) c0_0_5
  have c0_1_6 : w6.cell? ⟨w.heap.size, 1, none⟩ = some (.int .i64 av) := hB6.keep (by omega) c0_1_5
  have c1_0_6 : w6.cell? ⟨w.heap.size + 1, 0, none⟩ = some (.bool false) := hB6.keep (by omega) c1_0_5
  have c1_1_6 : w6.cell? ⟨w.heap.size + 1, 1, none⟩ = some (.int .i64 bv) := hB6.keep (by omega) c1_1_5
  have c2_0_6 : w6.cell? ⟨w.heap.size + 1 + 1, 0, none⟩ = some (.bool false) := hB6.keep (by omega) c2_0_5
  have c2_1_6 : w6.cell? ⟨w.heap.size + 1 + 1, 1, none⟩ = some (.int .i64 cv) := hB6.keep (by omega) c2_1_5
  clear c0_0_5 c0_1_5 c1_0_5 c1_1_5 c2_0_5 c2_1_5 l0_5 l1_5 l2_5
  go_wp2_with fail
  refine (add_any false false av cv _).mono ?_
  rw [E3.out]
  rintro e w7 ⟨rfl, hB7⟩
  have hz7 := hB7.size
  have l0_7 : w.heap.size < w7.heap.size := by omega
  have l1_7 : w.heap.size + 1 < w7.heap.size := by omega
  have l2_7 : w.heap.size + 1 + 1 < w7.heap.size := by omega
  have c0_0_7 : w7.cell? ⟨w.heap.size, 0, none⟩ = some (.bool false) := hB7.keep (by omega) c0_0_6
  have c0_1_7 : w7.cell? ⟨w.heap.size, 1, none⟩ = some (.int .i64 av) := hB7.keep (by omega) c0_1_6
  have c1_0_7 : w7.cell? ⟨w.heap.size + 1, 0, none⟩ = some (.bool false) := hB7.keep (by omega) c1_0_6
  have c1_1_7 : w7.cell? ⟨w.heap.size + 1, 1, none⟩ = some (.int .i64 bv) := hB7.keep (by omega) c1_1_6
  have c2_0_7 : w7.cell? ⟨w.heap.size + 1 + 1, 0, none⟩ = some (.bool false) := hB7.keep (by omega) c2_0_6
  have c2_1_7 : w7.cell? ⟨w.heap.size + 1 + 1, 1, none⟩ = some (.int .i64 cv) := hB7.keep (by omega) c2_1_6
  clear c0_0_6 c0_1_6 c1_0_6 c1_1_6 c2_0_6 c2_1_6 l0_6 l1_6 l2_6
  go_wp2_with fail
  refine (add_any false false bv cv _).mono ?_
  rw [E4.out]
  rintro e w8 ⟨rfl, hB8⟩
  have hz8 := hB8.size
  simp at hz8
  have l0_8 : w.heap.size < w8.heap.size := by omega
  have l1_8 : w.heap.size + 1 < w8.heap.size := by omega
  have l2_8 : w.heap.size + 1 + 1 < w8.heap.size := by omega
  have l3_8 : w7.heap.size < w8.heap.size := by omega
  have c0_0_8 : w8.cell? ⟨w.heap.size, 0, none⟩ = some (.bool false) := hB8.keep (by first | (simp; done) | (simp; omega)) (by simp [go_sem, l0_7, l1_7, l2_7, c0_0_7])
  have c0_1_8 : w8.cell? ⟨w.heap.size, 1, none⟩ = some (.int .i64 av) := hB8.keep (by first | (simp; done) | (simp; omega)) (by simp [go_sem, l0_7, l1_7, l2_7, c0_1_7])
  have c1_0_8 : w8.cell? ⟨w.heap.size + 1, 0, none⟩ = some (.bool false) := hB8.keep (by first | (simp; done) | (simp; omega)) (by simp [go_sem, l0_7, l1_7, l2_7, c1_0_7])
  have c1_1_8 : w8.cell? ⟨w.heap.size + 1, 1, none⟩ = some (.int .i64 bv) := hB8.keep (by first | (simp; done) | (simp; omega)) (by simp [go_sem, l0_7, l1_7, l2_7, c1_1_7])
  have c2_0_8 : w8.cell? ⟨w.heap.size + 1 + 1, 0, none⟩ = some (.bool false) := hB8.keep (by first | (simp; done) | (simp; omega)) (by simp [go_sem, l0_7, l1_7, l2_7, c2_0_7])
  have c2_1_8 : w8.cell? ⟨w.heap.size + 1 + 1, 1, none⟩ = some (.int .i64 cv) := hB8.keep (by first | (simp; done) | (simp; omega)) (by simp [go_sem, l0_7, l1_7, l2_7, c2_1_7])
  have c3_0_8 : w8.cell? ⟨w7.heap.size, 0, none⟩ = some (.bool false) := hB8.keep (by first | (simp; done) | (simp; omega)) (by simp [go_sem, l0_7, l1_7, l2_7])
  have c3_1_8 : w8.cell? ⟨w7.heap.size, 1, none⟩ = some (.int .i64 (av + cv)) := hB8.keep (by first | (simp; done) | (simp; omega)) (by simp [go_sem, l0_7, l1_7, l2_7])
  clear c0_0_7 c0_1_7 c1_0_7 c1_1_7 c2_0_7 c2_1_7 l0_7 l1_7 l2_7
  go_wp2_with fail
  obtain ⟨w9, hW9⟩ : ∃ wz, (w8.alloc (.cells #[.bool false, .int .i64 0] 38)) = wz := ⟨_, rfl⟩
  rw [hW9]
  have hB9 : Ext (w8.alloc (.cells #[.bool false, .int .i64 0] 38)) w9 := by rw [hW9]; exact Ext.refl _
  clear hW9
  have hz9 := hB9.size
  simp at hz9
  have l0_9 : w.heap.size < w9.heap.size := by omega
  have l1_9 : w.heap.size + 1 < w9.heap.size := by omega
  have l2_9 : w.heap.size + 1 + 1 < w9.heap.size := by omega
  have l3_9 : w7.heap.size < w9.heap.size := by omega
  have l4_9 : w8.heap.size < w9.heap.size := by omega
  have c0_0_9 : w9.cell? ⟨w.heap.size, 0, none⟩ = some (.bool false) := hB9.keep (by first | (simp; done) | (simp; omega)) (by simp [go_sem, l0_8, l1_8, l2_8, l3_8, c0_0_8])
  have c0_1_9 : w9.cell? ⟨w.heap.size, 1, none⟩ = some (.int .i64 av) := hB9.keep (by first | (simp; done) | (simp; omega)) (by simp [go_sem, l0_8, l1_8, l2_8, l3_8, c0_1_8])
  have c1_0_9 : w9.cell? ⟨w.heap.size + 1, 0, none⟩ = some (.bool false) := hB9.keep (by first | (simp; done) | (simp; omega)) (by simp [go_sem, l0_8, l1_8, l2_8, l3_8, c1_0_8])
  have c1_1_9 : w9.cell? ⟨w.heap.size + 1, 1, none⟩ = some (.int .i64 bv) := hB9.keep (by first | (simp; done) | (simp; omega)) (by simp [go_sem, l0_8, l1_8, l2_8, l3_8, c1_1_8])
  have c2_0_9 : w9.cell? ⟨w.heap.size + 1 + 1, 0, none⟩ = some (.bool false) := hB9.keep (by first | (simp; done) | (simp; omega)) (by simp [go_sem, l0_8, l1_8, l2_8, l3_8, c2_0_8])
  have c2_1_9 : w9.cell? ⟨w.heap.size + 1 + 1, 1, none⟩ = some (.int .i64 cv) := hB9.keep (by first | (simp; done) | (simp; omega)) (by simp [go_sem, l0_8, l1_8, l2_8, l3_8, c2_1_8])
  have c3_0_9 : w9.cell? ⟨w7.heap.size, 0, none⟩ = some (.bool false) := hB9.keep (by first | (simp; done) | (simp; omega)) (by simp [go_sem, l0_8, l1_8, l2_8, l3_8, c3_0_8])
  have c3_1_9 : w9.cell? ⟨w7.heap.size, 1, none⟩ = some (.int .i64 (av + cv)) := hB9.keep (by first | (simp; done) | (simp; omega)) (by simp [go_sem, l0_8, l1_8, l2_8, l3_8, c3_1_8])
  have c4_0_9 : w9.cell? ⟨w8.heap.size, 0, none⟩ = some (.bool false) := hB9.keep (by first | (simp; done) | (simp; omega)) (by simp [go_sem, l0_8, l1_8, l2_8, l3_8])
  have c4_1_9 : w9.cell? ⟨w8.heap.size, 1, none⟩ = some (.int .i64 0) := hB9.keep (by first | (simp; done) | (simp; omega)) (by simp [go_sem, l0_8, l1_8, l2_8, l3_8])
  clear c0_0_8 c0_1_8 c1_0_8 c1_1_8 c2_0_8 c2_1_8 c3_0_8 c3_1_8 l0_8 l1_8 l2_8 l3_8
  go_wp2_with fail
  refine rg_begin (S := Sx w9) (by kernel_rfl) (Sx.begin _) ?_
  have hS : Sx w9 (World.drew w9) := Sx.begin _
  refine rg_take 0 (some 67) (.int .i64 1) (oi := { dst := some 67, op := Go.Op.move (Go.Operand.tmp 7), type := 3, pos := "outright.go:48", after := #[], guard := none }) rfl rfl (by kernel_rfl) (by kernel_rfl) (by kernel_rfl) (fun _ _ _ h => h) hS (by rfl) (fun w' hs => by rfl) ?_
  simp only [Act.put, List.setIfInBounds_toArray, List.set_cons_zero, List.set_cons_succ]
  refine rg_take 1 (some 68) (.bool false) (oi := { dst := some 68, op := Go.Op.binOp Go.BinOp.neq 3 (Go.Operand.tmp 67) (Go.Operand.const (Go.Value.int Go.IntKind.i64 1)) 3, type := 4, pos := "outright.go:48", after := #[{ on := 0, ground := Go.Ground.data }], guard := none }) rfl rfl (by kernel_rfl) (by kernel_rfl) (by kernel_rfl) (fun _ _ _ h => h) hS (by rfl) (fun w' hs => by first | rfl | go_simp) ?_
  simp only [Act.put, List.setIfInBounds_toArray, List.set_cons_zero, List.set_cons_succ]
  refine rg_take 2 (some 69) (.bool false) (oi := { dst := some 69, op := Go.Op.move (Go.Operand.tmp 68), type := 4, pos := "outright.go:48", after := #[{ on := 1, ground := Go.Ground.data }], guard := none }) rfl rfl (by kernel_rfl) (by kernel_rfl) (by kernel_rfl) (fun _ _ _ h => h) hS (by rfl) (fun w' hs => by rfl) ?_
  simp only [Act.put, List.setIfInBounds_toArray, List.set_cons_zero, List.set_cons_succ]
  refine rg_take 3 (some 70) (.agg #[.bool false, .int .i64 cv]) (oi := { dst := some 70, op := Go.Op.load 38 (Go.Operand.tmp 5), type := 38, pos := "outright.go:48", after := #[{ on := 2, ground := Go.Ground.guard }], guard := some (2, false) }) rfl rfl (by kernel_rfl) (by kernel_rfl) (by kernel_rfl) (fun _ _ _ h => h) hS (by rfl) (fun w' hs => by (have h0 := hs.cell l2_9 c2_0_9; have h1 := hs.cell l2_9 c2_1_9; go_simp)) ?_
  simp only [Act.put, List.setIfInBounds_toArray, List.set_cons_zero, List.set_cons_succ]
  refine rg_call 4 (some 71) 24 #[.agg #[.bool false, .int .i64 cv]] (oi := { dst := some 71, op := Go.Op.call { callee := Go.Callee.value (Go.Operand.func 24), args := #[Go.Operand.tmp 70], argTypes := #[38] }, type := 4, pos := "outright.go:48", after := #[{ on := 3, ground := Go.Ground.data }, { on := 2, ground := Go.Ground.chain }, { on := 2, ground := Go.Ground.guard }], guard := some (2, false) }) rfl rfl (by kernel_rfl) (by rfl) (fun w' => by first | rfl | go_simp) (R := fun v w' => v = .bool false ∧ Ext (World.drew w9) w') ?_ ?_
  · refine (rodd_any false cv _).mono ?_
    rw [HC.out]
    rintro e w' ⟨rfl, h⟩
    exact ⟨_, rfl, rfl, h⟩
  rintro _ wr1 ⟨rfl, hBr1⟩
  have hS1 := hS.ext hBr1
  refine ⟨hS1, ?_⟩
  simp only [Act.put, List.setIfInBounds_toArray, List.set_cons_zero, List.set_cons_succ]
  refine rg_take 5 (some 72) (.bool true) (oi := { dst := some 72, op := Go.Op.unOp Go.UnOp.not 4 (Go.Operand.tmp 71), type := 4, pos := "outright.go:48", after := #[{ on := 4, ground := Go.Ground.data }, { on := 2, ground := Go.Ground.guard }], guard := some (2, false) }) rfl rfl (by kernel_rfl) (by kernel_rfl) (by kernel_rfl) (fun _ _ _ h => h) hS1 (by rfl) (fun w' hs => by first | rfl | go_simp) ?_
  simp only [Act.put, List.setIfInBounds_toArray, List.set_cons_zero, List.set_cons_succ]
  refine rg_take 6 (some 73) (.bool true) (oi := { dst := some 73, op := Go.Op.move (Go.Operand.tmp 72), type := 4, pos := "outright.go:48", after := #[{ on := 5, ground := Go.Ground.data }, { on := 4, ground := Go.Ground.chain }, { on := 2, ground := Go.Ground.guard }], guard := some (2, false) }) rfl rfl (by kernel_rfl) (by kernel_rfl) (by kernel_rfl) (fun _ _ _ h => h) hS1 (by rfl) (fun w' hs => by rfl) ?_
  simp only [Act.put, List.setIfInBounds_toArray, List.set_cons_zero, List.set_cons_succ]
  refine rg_take 7 (some 74) (.int .i64 0) (oi := { dst := some 74, op := Go.Op.move (Go.Operand.tmp 9), type := 34, pos := "outright.go:48", after := #[{ on := 6, ground := Go.Ground.guard }], guard := some (6, true) }) rfl rfl (by kernel_rfl) (by kernel_rfl) (by kernel_rfl) (fun _ _ _ h => h) hS1 (by rfl) (fun w' hs => by rfl) ?_
  simp only [Act.put, List.setIfInBounds_toArray, List.set_cons_zero, List.set_cons_succ]
  refine rg_take 8 (some 75) (.bool true) (oi := { dst := some 75, op := Go.Op.binOp Go.BinOp.eql 34 (Go.Operand.tmp 74) (Go.Operand.const (Go.Value.int Go.IntKind.i64 0)) 34, type := 4, pos := "outright.go:48", after := #[{ on := 7, ground := Go.Ground.data }, { on := 6, ground := Go.Ground.guard }], guard := some (6, true) }) rfl rfl (by kernel_rfl) (by kernel_rfl) (by kernel_rfl) (fun _ _ _ h => h) hS1 (by rfl) (fun w' hs => by first | rfl | go_simp) ?_
  simp only [Act.put, List.setIfInBounds_toArray, List.set_cons_zero, List.set_cons_succ]
  refine rg_take 9 (some 76) (.bool true) (oi := { dst := some 76, op := Go.Op.pick (Go.Operand.tmp 73) (Go.Operand.tmp 75) (Go.Operand.const (Go.Value.bool false)), type := 4, pos := "outright.go:48", after := #[{ on := 6, ground := Go.Ground.data }, { on := 8, ground := Go.Ground.data }, { on := 2, ground := Go.Ground.guard }], guard := some (2, false) }) rfl rfl (by kernel_rfl) (by kernel_rfl) (by kernel_rfl) (fun _ _ _ h => h) hS1 (by rfl) (fun w' hs => by rfl) ?_
  simp only [Act.put, List.setIfInBounds_toArray, List.set_cons_zero, List.set_cons_succ]
  refine rg_take 10 (some 77) (.bool true) (oi := { dst := some 77, op := Go.Op.move (Go.Operand.tmp 76), type := 4, pos := "outright.go:48", after := #[{ on := 9, ground := Go.Ground.data }, { on := 6, ground := Go.Ground.chain }, { on := 2, ground := Go.Ground.guard }], guard := some (2, false) }) rfl rfl (by kernel_rfl) (by kernel_rfl) (by kernel_rfl) (fun _ _ _ h => h) hS1 (by rfl) (fun w' hs => by rfl) ?_
  simp only [Act.put, List.setIfInBounds_toArray, List.set_cons_zero, List.set_cons_succ]
  refine rg_take 11 (some 78) (.int .i64 66) (oi := { dst := some 78, op := Go.Op.move (Go.Operand.tmp 11), type := 34, pos := "outright.go:48", after := #[{ on := 10, ground := Go.Ground.guard }], guard := some (10, true) }) rfl rfl (by kernel_rfl) (by kernel_rfl) (by kernel_rfl) (fun _ _ _ h => h) hS1 (by rfl) (fun w' hs => by rfl) ?_
  simp only [Act.put, List.setIfInBounds_toArray, List.set_cons_zero, List.set_cons_succ]
  refine rg_take 12 (some 79) (.bool false) (oi := { dst := some 79, op := Go.Op.binOp Go.BinOp.eql 34 (Go.Operand.tmp 78) (Go.Operand.const (Go.Value.int Go.IntKind.i64 0)) 34, type := 4, pos := "outright.go:48", after := #[{ on := 11, ground := Go.Ground.data }, { on := 10, ground := Go.Ground.guard }], guard := some (10, true) }) rfl rfl (by kernel_rfl) (by kernel_rfl) (by kernel_rfl) (fun _ _ _ h => h) hS1 (by rfl) (fun w' hs => by first | rfl | go_simp) ?_
  simp only [Act.put, List.setIfInBounds_toArray, List.set_cons_zero, List.set_cons_succ]
  refine rg_take 13 (some 80) (.bool false) (oi := { dst := some 80, op := Go.Op.pick (Go.Operand.tmp 77) (Go.Operand.tmp 79) (Go.Operand.const (Go.Value.bool false)), type := 4, pos := "outright.go:48", after := #[{ on := 10, ground := Go.Ground.data }, { on := 12, ground := Go.Ground.data }, { on := 2, ground := Go.Ground.guard }], guard := some (2, false) }) rfl rfl (by kernel_rfl) (by kernel_rfl) (by kernel_rfl) (fun _ _ _ h => h) hS1 (by rfl) (fun w' hs => by rfl) ?_
  simp only [Act.put, List.setIfInBounds_toArray, List.set_cons_zero, List.set_cons_succ]
  refine rg_take 14 (some 81) (.bool false) (oi := { dst := some 81, op := Go.Op.move (Go.Operand.tmp 80), type := 4, pos := "outright.go:48", after := #[{ on := 13, ground := Go.Ground.data }, { on := 10, ground := Go.Ground.chain }, { on := 2, ground := Go.Ground.guard }], guard := some (2, false) }) rfl rfl (by kernel_rfl) (by kernel_rfl) (by kernel_rfl) (fun _ _ _ h => h) hS1 (by rfl) (fun w' hs => by rfl) ?_
  simp only [Act.put, List.setIfInBounds_toArray, List.set_cons_zero, List.set_cons_succ]
  refine rg_skip 15 (some 82) (oi := { dst := some 82, op := Go.Op.load 38 (Go.Operand.tmp 3), type := 38, pos := "outright.go:48", after := #[{ on := 14, ground := Go.Ground.guard }], guard := some (14, true) }) rfl rfl (by kernel_rfl) (by kernel_rfl) (by kernel_rfl) (fun _ _ _ h => h) hS1 (by rfl) ?_
  simp only [Act.put, List.setIfInBounds_toArray, List.set_cons_zero, List.set_cons_succ]
  refine rg_skip 16 (some 83) (oi := { dst := some 83, op := Go.Op.load 38 (Go.Operand.tmp 4), type := 38, pos := "outright.go:48", after := #[{ on := 14, ground := Go.Ground.guard }], guard := some (14, true) }) rfl rfl (by kernel_rfl) (by kernel_rfl) (by kernel_rfl) (fun _ _ _ h => h) hS1 (by rfl) ?_
  simp only [Act.put, List.setIfInBounds_toArray, List.set_cons_zero, List.set_cons_succ]
  refine rg_skip 17 (some 84) (oi := { dst := some 84, op := Go.Op.call { callee := Go.Callee.value (Go.Operand.func 30), args := #[Go.Operand.tmp 82, Go.Operand.tmp 83], argTypes := #[38, 38] }, type := 4, pos := "outright.go:48", after := #[{ on := 15, ground := Go.Ground.data }, { on := 16, ground := Go.Ground.data }, { on := 14, ground := Go.Ground.chain }, { on := 14, ground := Go.Ground.guard }], guard := some (14, true) }) rfl rfl (by kernel_rfl) (by kernel_rfl) (by kernel_rfl) (fun _ _ _ h => h) hS1 (by rfl) ?_
  simp only [Act.put, List.setIfInBounds_toArray, List.set_cons_zero, List.set_cons_succ]
  refine rg_skip 18 (some 85) (oi := { dst := some 85, op := Go.Op.load 38 (Go.Operand.tmp 8), type := 38, pos := "outright.go:48", after := #[{ on := 14, ground := Go.Ground.guard }], guard := some (14, true) }) rfl rfl (by kernel_rfl) (by kernel_rfl) (by kernel_rfl) (fun _ _ _ h => h) hS1 (by rfl) ?_
  simp only [Act.put, List.setIfInBounds_toArray, List.set_cons_zero, List.set_cons_succ]
  refine rg_skip 19 (some 86) (oi := { dst := some 86, op := Go.Op.load 38 (Go.Operand.tmp 10), type := 38, pos := "outright.go:48", after := #[{ on := 14, ground := Go.Ground.guard }], guard := some (14, true) }) rfl rfl (by kernel_rfl) (by kernel_rfl) (by kernel_rfl) (fun _ _ _ h => h) hS1 (by rfl) ?_
  simp only [Act.put, List.setIfInBounds_toArray, List.set_cons_zero, List.set_cons_succ]
  refine rg_skip 20 (some 87) (oi := { dst := some 87, op := Go.Op.call { callee := Go.Callee.value (Go.Operand.func 30), args := #[Go.Operand.tmp 85, Go.Operand.tmp 86], argTypes := #[38, 38] }, type := 4, pos := "outright.go:48", after := #[{ on := 18, ground := Go.Ground.data }, { on := 19, ground := Go.Ground.data }, { on := 17, ground := Go.Ground.chain }, { on := 14, ground := Go.Ground.guard }], guard := some (14, true) }) rfl rfl (by kernel_rfl) (by kernel_rfl) (by kernel_rfl) (fun _ _ _ h => h) hS1 (by rfl) ?_
  simp only [Act.put, List.setIfInBounds_toArray, List.set_cons_zero, List.set_cons_succ]
  refine rg_skip 21 (some 88) (oi := { dst := some 88, op := Go.Op.binOp Go.BinOp.neq 4 (Go.Operand.tmp 84) (Go.Operand.tmp 87) 4, type := 4, pos := "outright.go:48", after := #[{ on := 17, ground := Go.Ground.data }, { on := 20, ground := Go.Ground.data }, { on := 14, ground := Go.Ground.guard }], guard := some (14, true) }) rfl rfl (by kernel_rfl) (by kernel_rfl) (by kernel_rfl) (fun _ _ _ h => h) hS1 (by rfl) ?_
  simp only [Act.put, List.setIfInBounds_toArray, List.set_cons_zero, List.set_cons_succ]
  refine rg_take 22 (some 89) (.bool false) (oi := { dst := some 89, op := Go.Op.pick (Go.Operand.tmp 81) (Go.Operand.tmp 88) (Go.Operand.const (Go.Value.bool false)), type := 4, pos := "outright.go:48", after := #[{ on := 14, ground := Go.Ground.data }, { on := 21, ground := Go.Ground.data }, { on := 2, ground := Go.Ground.guard }], guard := some (2, false) }) rfl rfl (by kernel_rfl) (by kernel_rfl) (by kernel_rfl) (fun _ _ _ h => h) hS1 (by rfl) (fun w' hs => by rfl) ?_
  simp only [Act.put, List.setIfInBounds_toArray, List.set_cons_zero, List.set_cons_succ]
  refine rg_take 23 (some 90) (.bool false) (oi := { dst := some 90, op := Go.Op.pick (Go.Operand.tmp 69) (Go.Operand.const (Go.Value.bool true)) (Go.Operand.tmp 89), type := 4, pos := "outright.go:48", after := #[{ on := 2, ground := Go.Ground.data }, { on := 22, ground := Go.Ground.data }], guard := none }) rfl rfl (by kernel_rfl) (by kernel_rfl) (by kernel_rfl) (fun _ _ _ h => h) hS1 (by rfl) (fun w' hs => by rfl) ?_
  simp only [Act.put, List.setIfInBounds_toArray, List.set_cons_zero, List.set_cons_succ]
  refine rg_done (by kernel_rfl) ?_
  obtain ⟨w10, hW10⟩ : ∃ wz, wr1 = wz := ⟨_, rfl⟩
  rw [hW10] at hS1 ⊢
  have hB10 : Ext w9 w10 := hS1
  clear hW10
  have hz10 := hB10.size
  have l0_10 : w.heap.size < w10.heap.size := Nat.lt_of_lt_of_le l0_9 hz10
  have c0_0_10 : w10.cell? ⟨w.heap.size, 0, none⟩ = some (.bool false) := hB10.keep l0_9 c0_0_9
  have c0_1_10 : w10.cell? ⟨w.heap.size, 1, none⟩ = some (.int .i64 av) := hB10.keep l0_9 c0_1_9
  have l1_10 : w.heap.size + 1 < w10.heap.size := Nat.lt_of_lt_of_le l1_9 hz10
  have c1_0_10 : w10.cell? ⟨w.heap.size + 1, 0, none⟩ = some (.bool false) := hB10.keep l1_9 c1_0_9
  have c1_1_10 : w10.cell? ⟨w.heap.size + 1, 1, none⟩ = some (.int .i64 bv) := hB10.keep l1_9 c1_1_9
  have l2_10 : w.heap.size + 1 + 1 < w10.heap.size := Nat.lt_of_lt_of_le l2_9 hz10
  have c2_0_10 : w10.cell? ⟨w.heap.size + 1 + 1, 0, none⟩ = some (.bool false) := hB10.keep l2_9 c2_0_9
  have c2_1_10 : w10.cell? ⟨w.heap.size + 1 + 1, 1, none⟩ = some (.int .i64 cv) := hB10.keep l2_9 c2_1_9
  have l3_10 : w7.heap.size < w10.heap.size := Nat.lt_of_lt_of_le l3_9 hz10
  have c3_0_10 : w10.cell? ⟨w7.heap.size, 0, none⟩ = some (.bool false) := hB10.keep l3_9 c3_0_9
  have c3_1_10 : w10.cell? ⟨w7.heap.size, 1, none⟩ = some (.int .i64 (av + cv)) := hB10.keep l3_9 c3_1_9
  have l4_10 : w8.heap.size < w10.heap.size := Nat.lt_of_lt_of_le l4_9 hz10
  have c4_0_10 : w10.cell? ⟨w8.heap.size, 0, none⟩ = some (.bool false) := hB10.keep l4_9 c4_0_9
  have c4_1_10 : w10.cell? ⟨w8.heap.size, 1, none⟩ = some (.int .i64 0) := hB10.keep l4_9 c4_1_9
  clear c0_0_9 c0_1_9 l0_9 c1_0_9 c1_1_9 l1_9 c2_0_9 c2_1_9 l2_9 c3_0_9 c3_1_9 l3_9 c4_0_9 c4_1_9 l4_9
  clear hS hS1 hBr1
  go_wp2_with fail
  refine (floor_any false av _).mono ?_
  rw [E6.out]
  rintro e w11 ⟨rfl, hB11⟩
  have hz11 := hB11.size
  have l0_11 : w.heap.size < w11.heap.size := by omega
  have l1_11 : w.heap.size + 1 < w11.heap.size := by omega
  have l2_11 : w.heap.size + 1 + 1 < w11.heap.size := by omega
  have l3_11 : w7.heap.size < w11.heap.size := by omega
  have l4_11 : w8.heap.size < w11.heap.size := by omega
  have c0_0_11 : w11.cell? ⟨w.heap.size, 0, none⟩ = some (.bool false) := hB11.keep (by omega) c0_0_10
  have c0_1_11 : w11.cell? ⟨w.heap.size, 1, none⟩ = some (.int .i64 av) := hB11.keep (by omega) c0_1_10
  have c1_0_11 : w11.cell? ⟨w.heap.size + 1, 0, none⟩ = some (.bool false) := hB11.keep (by omega) c1_0_10
  have c1_1_11 : w11.cell? ⟨w.heap.size + 1, 1, none⟩ = some (.int .i64 bv) := hB11.keep (by omega) c1_1_10
  have c2_0_11 : w11.cell? ⟨w.heap.size + 1 + 1, 0, none⟩ = some (.bool false) := hB11.keep (by omega) c2_0_10
  have c2_1_11 : w11.cell? ⟨w.heap.size + 1 + 1, 1, none⟩ = some (.int .i64 cv) := hB11.keep (by omega) c2_1_10
  have c3_0_11 : w11.cell? ⟨w7.heap.size, 0, none⟩ = some (.bool false) := hB11.keep (by omega) c3_0_10
  have c3_1_11 : w11.cell? ⟨w7.heap.size, 1, none⟩ = some (.int .i64 (av + cv)) := hB11.keep (by omega) c3_1_10
  have c4_0_11 : w11.cell? ⟨w8.heap.size, 0, none⟩ = some (.bool false) := hB11.keep (by omega) c4_0_10
  have c4_1_11 : w11.cell? ⟨w8.heap.size, 1, none⟩ = some (.int .i64 0) := hB11.keep (by omega) c4_1_10
  clear c0_0_10 c0_1_10 c1_0_10 c1_1_10 c2_0_10 c2_1_10 c3_0_10 c3_1_10 c4_0_10 c4_1_10 l0_10 l1_10 l2_10 l3_10 l4_10
  go_wp2_with fail
  refine (ceil_any false av _).mono ?_
  rw [E7.out]
  rintro e w12 ⟨rfl, hB12⟩
  have hz12 := hB12.size
  simp at hz12
  have l0_12 : w.heap.size < w12.heap.size := by omega
  have l1_12 : w.heap.size + 1 < w12.heap.size := by omega
  have l2_12 : w.heap.size + 1 + 1 < w12.heap.size := by omega
  have l3_12 : w7.heap.size < w12.heap.size := by omega
  have l4_12 : w8.heap.size < w12.heap.size := by omega
  have l5_12 : w11.heap.size < w12.heap.size := by omega
  have c0_0_12 : w12.cell? ⟨w.heap.size, 0, none⟩ = some (.bool false) := hB12.keep (by first | (simp; done) | (simp; omega)) (by simp [go_sem, l0_11, l1_11, l2_11, l3_11, l4_11, c0_0_11])
  have c0_1_12 : w12.cell? ⟨w.heap.size, 1, none⟩ = some (.int .i64 av) := hB12.keep (by first | (simp; done) | (simp; omega)) (by simp [go_sem, l0_11, l1_11, l2_11, l3_11, l4_11, c0_1_11])
  have c1_0_12 : w12.cell? ⟨w.heap.size + 1, 0, none⟩ = some (.bool false) := hB12.keep (by first | (simp; done) | (simp; omega)) (by simp [go_sem, l0_11, l1_11, l2_11, l3_11, l4_11, c1_0_11])
  have c1_1_12 : w12.cell? ⟨w.heap.size + 1, 1, none⟩ = some (.int .i64 bv) := hB12.keep (by first | (simp; done) | (simp; omega)) (by simp [go_sem, l0_11, l1_11, l2_11, l3_11, l4_11, c1_1_11])
  have c2_0_12 : w12.cell? ⟨w.heap.size + 1 + 1, 0, none⟩ = some (.bool false) := hB12.keep (by first | (simp; done) | (simp; omega)) (by simp [go_sem, l0_11, l1_11, l2_11, l3_11, l4_11, c2_0_11])
  have c2_1_12 : w12.cell? ⟨w.heap.size + 1 + 1, 1, none⟩ = some (.int .i64 cv) := hB12.keep (by first | (simp; done) | (simp; omega)) (by simp [go_sem, l0_11, l1_11, l2_11, l3_11, l4_11, c2_1_11])
  have c3_0_12 : w12.cell? ⟨w7.heap.size, 0, none⟩ = some (.bool false) := hB12.keep (by first | (simp; done) | (simp; omega)) (by simp [go_sem, l0_11, l1_11, l2_11, l3_11, l4_11, c3_0_11])
  have c3_1_12 : w12.cell? ⟨w7.heap.size, 1, none⟩ = some (.int .i64 (av + cv)) := hB12.keep (by first | (simp; done) | (simp; omega)) (by simp [go_sem, l0_11, l1_11, l2_11, l3_11, l4_11, c3_1_11])
  have c4_0_12 : w12.cell? ⟨w8.heap.size, 0, none⟩ = some (.bool false) := hB12.keep (by first | (simp; done) | (simp; omega)) (by simp [go_sem, l0_11, l1_11, l2_11, l3_11, l4_11, c4_0_11])
  have c4_1_12 : w12.cell? ⟨w8.heap.size, 1, none⟩ = some (.int .i64 0) := hB12.keep (by first | (simp; done) | (simp; omega)) (by simp [go_sem, l0_11, l1_11, l2_11, l3_11, l4_11, c4_1_11])
  have c5_0_12 : w12.cell? ⟨w11.heap.size, 0, none⟩ = some (.bool false) := hB12.keep (by first | (simp; done) | (simp; omega)) (by simp [go_sem, l0_11, l1_11, l2_11, l3_11, l4_11])
  have c5_1_12 : w12.cell? ⟨w11.heap.size, 1, none⟩ = some (.int .i64 (floorV av)) := hB12.keep (by first | (simp; done) | (simp; omega)) (by simp [go_sem, l0_11, l1_11, l2_11, l3_11, l4_11])
  clear c0_0_11 c0_1_11 c1_0_11 c1_1_11 c2_0_11 c2_1_11 c3_0_11 c3_1_11 c4_0_11 c4_1_11 l0_11 l1_11 l2_11 l3_11 l4_11
  go_wp2_with fail
  refine (less_any false false av (floorV av) _).mono ?_
  rw [E8.out]
  rintro e w13 ⟨rfl, hB13⟩
  have hz13 := hB13.size
  simp at hz13
  have l0_13 : w.heap.size < w13.heap.size := by omega
  have l1_13 : w.heap.size + 1 < w13.heap.size := by omega
  have l2_13 : w.heap.size + 1 + 1 < w13.heap.size := by omega
  have l3_13 : w7.heap.size < w13.heap.size := by omega
  have l4_13 : w8.heap.size < w13.heap.size := by omega
  have l5_13 : w11.heap.size < w13.heap.size := by omega
  have l6_13 : w12.heap.size < w13.heap.size := by omega
  have c0_0_13 : w13.cell? ⟨w.heap.size, 0, none⟩ = some (.bool false) := hB13.keep (by first | (simp; done) | (simp; omega)) (by simp [go_sem, l0_12, l1_12, l2_12, l3_12, l4_12, l5_12, c0_0_12])
  have c0_1_13 : w13.cell? ⟨w.heap.size, 1, none⟩ = some (.int .i64 av) := hB13.keep (by first | (simp; done) | (simp; omega)) (by simp [go_sem, l0_12, l1_12, l2_12, l3_12, l4_12, l5_12, c0_1_12])
  have c1_0_13 : w13.cell? ⟨w.heap.size + 1, 0, none⟩ = some (.bool false) := hB13.keep (by first | (simp; done) | (simp; omega)) (by simp [go_sem, l0_12, l1_12, l2_12, l3_12, l4_12, l5_12, c1_0_12])
  have c1_1_13 : w13.cell? ⟨w.heap.size + 1, 1, none⟩ = some (.int .i64 bv) := hB13.keep (by first | (simp; done) | (simp; omega)) (by simp [go_sem, l0_12, l1_12, l2_12, l3_12, l4_12, l5_12, c1_1_12])
  have c2_0_13 : w13.cell? ⟨w.heap.size + 1 + 1, 0, none⟩ = some (.bool false) := hB13.keep (by first | (simp; done) | (simp; omega)) (by simp [go_sem, l0_12, l1_12, l2_12, l3_12, l4_12, l5_12, c2_0_12])
  have c2_1_13 : w13.cell? ⟨w.heap.size + 1 + 1, 1, none⟩ = some (.int .i64 cv) := hB13.keep (by first | (simp; done) | (simp; omega)) (by simp [go_sem, l0_12, l1_12, l2_12, l3_12, l4_12, l5_12, c2_1_12])
  have c3_0_13 : w13.cell? ⟨w7.heap.size, 0, none⟩ = some (.bool false) := hB13.keep (by first | (simp; done) | (simp; omega)) (by simp [go_sem, l0_12, l1_12, l2_12, l3_12, l4_12, l5_12, c3_0_12])
  have c3_1_13 : w13.cell? ⟨w7.heap.size, 1, none⟩ = some (.int .i64 (av + cv)) := hB13.keep (by first | (simp; done) | (simp; omega)) (by simp [go_sem, l0_12, l1_12, l2_12, l3_12, l4_12, l5_12, c3_1_12])
  have c4_0_13 : w13.cell? ⟨w8.heap.size, 0, none⟩ = some (.bool false) := hB13.keep (by first | (simp; done) | (simp; omega)) (by simp [go_sem, l0_12, l1_12, l2_12, l3_12, l4_12, l5_12, c4_0_12])
  have c4_1_13 : w13.cell? ⟨w8.heap.size, 1, none⟩ = some (.int .i64 0) := hB13.keep (by first | (simp; done) | (simp; omega)) (by simp [go_sem, l0_12, l1_12, l2_12, l3_12, l4_12, l5_12, c4_1_12])
  have c5_0_13 : w13.cell? ⟨w11.heap.size, 0, none⟩ = some (.bool false) := hB13.keep (by first | (simp; done) | (simp; omega)) (by simp [go_sem, l0_12, l1_12, l2_12, l3_12, l4_12, l5_12, c5_0_12])
  have c5_1_13 : w13.cell? ⟨w11.heap.size, 1, none⟩ = some (.int .i64 (floorV av)) := hB13.keep (by first | (simp; done) | (simp; omega)) (by simp [go_sem, l0_12, l1_12, l2_12, l3_12, l4_12, l5_12, c5_1_12])
  have c6_0_13 : w13.cell? ⟨w12.heap.size, 0, none⟩ = some (.bool false) := hB13.keep (by first | (simp; done) | (simp; omega)) (by simp [go_sem, l0_12, l1_12, l2_12, l3_12, l4_12, l5_12])
  have c6_1_13 : w13.cell? ⟨w12.heap.size, 1, none⟩ = some (.int .i64 (ceilV av)) := hB13.keep (by first | (simp; done) | (simp; omega)) (by simp [go_sem, l0_12, l1_12, l2_12, l3_12, l4_12, l5_12])
  clear c0_0_12 c0_1_12 c1_0_12 c1_1_12 c2_0_12 c2_1_12 c3_0_12 c3_1_12 c4_0_12 c4_1_12 c5_0_12 c5_1_12 l0_12 l1_12 l2_12 l3_12 l4_12 l5_12
  go_wp2_with fail
  refine (less_any false false (ceilV av) av _).mono ?_
  rw [E9.out]
  rintro e w14 ⟨rfl, hB14⟩
  have hz14 := hB14.size
  have l0_14 : w.heap.size < w14.heap.size := by omega
  have l1_14 : w.heap.size + 1 < w14.heap.size := by omega
  have l2_14 : w.heap.size + 1 + 1 < w14.heap.size := by omega
  have l3_14 : w7.heap.size < w14.heap.size := by omega
  have l4_14 : w8.heap.size < w14.heap.size := by omega
  have l5_14 : w11.heap.size < w14.heap.size := by omega
  have l6_14 : w12.heap.size < w14.heap.size := by omega
  have c0_0_14 : w14.cell? ⟨w.heap.size, 0, none⟩ = some (.bool false) := hB14.keep (by omega) c0_0_13
  have c0_1_14 : w14.cell? ⟨w.heap.size, 1, none⟩ = some (.int .i64 av) := hB14.keep (by omega) c0_1_13
  have c1_0_14 : w14.cell? ⟨w.heap.size + 1, 0, none⟩ = some (.bool false) := hB14.keep (by omega) c1_0_13
  have c1_1_14 : w14.cell? ⟨w.heap.size + 1, 1, none⟩ = some (.int .i64 bv) := hB14.keep (by omega) c1_1_13
  have c2_0_14 : w14.cell? ⟨w.heap.size + 1 + 1, 0, none⟩ = some (.bool false) := hB14.keep (by omega) c2_0_13
  have c2_1_14 : w14.cell? ⟨w.heap.size + 1 + 1, 1, none⟩ = some (.int .i64 cv) := hB14.keep (by omega) c2_1_13
  have c3_0_14 : w14.cell? ⟨w7.heap.size, 0, none⟩ = some (.bool false) := hB14.keep (by omega) c3_0_13
  have c3_1_14 : w14.cell? ⟨w7.heap.size, 1, none⟩ = some (.int .i64 (av + cv)) := hB14.keep (by omega) c3_1_13
  have c4_0_14 : w14.cell? ⟨w8.heap.size, 0, none⟩ = some (.bool false) := hB14.keep (by omega) c4_0_13
  have c4_1_14 : w14.cell? ⟨w8.heap.size, 1, none⟩ = some (.int .i64 0) := hB14.keep (by omega) c4_1_13
  have c5_0_14 : w14.cell? ⟨w11.heap.size, 0, none⟩ = some (.bool false) := hB14.keep (by omega) c5_0_13
  have c5_1_14 : w14.cell? ⟨w11.heap.size, 1, none⟩ = some (.int .i64 (floorV av)) := hB14.keep (by omega) c5_1_13
  have c6_0_14 : w14.cell? ⟨w12.heap.size, 0, none⟩ = some (.bool false) := hB14.keep (by omega) c6_0_13
  have c6_1_14 : w14.cell? ⟨w12.heap.size, 1, none⟩ = some (.int .i64 (ceilV av)) := hB14.keep (by omega) c6_1_13
  clear c0_0_13 c0_1_13 c1_0_13 c1_1_13 c2_0_13 c2_1_13 c3_0_13 c3_1_13 c4_0_13 c4_1_13 c5_0_13 c5_1_13 c6_0_13 c6_1_13 l0_13 l1_13 l2_13 l3_13 l4_13 l5_13 l6_13
  go_wp2_with fail
  go_ret
  refine ⟨rfl, ?_⟩
  repeat (first | exact Ext.refl _ | refine Ext.set ?_ (by dsimp only; omega) _ | refine Ext.alloc ?_ _ | refine Ext.drew ?_ | refine (Ext.trans ?_ (by assumption)))
set_option maxHeartbeats 8000000 in
theorem order_gt_in (cn : Bool) (av bv cv : Int) (w : World) (G : Glob w) (ha : oddB false av = false) (hb : oddB false bv = false) (hr : bv < av) (hc : oddB cn cv = false) (hx : oddB false (av + cv) = false) (hy : oddB false (bv + cv) = false) :
    Calls Tryd.prog 7 #[.agg #[.bool false, .int .i64 av], .agg #[.bool false, .int .i64 bv], .agg #[.bool cn, .int .i64 cv]] w fun e w' => e = .returned (.bool true) ∧ Ext w w' := by
  have E0 : Hid (lessS false false av bv = false) := by refine Lib.hid ?_; rw [lessS, ha, hb]; simp; omega
  have E1 : Hid (lessS false false bv av = true) := by refine Lib.hid ?_; rw [lessS, ha, hb]; simp; omega
  have E2 : Hid (equalS false false av bv = false) := by refine Lib.hid ?_; rw [equalS, ha, hb]; simp; omega
  obtain rfl : cn = false := (oddB_false hc).1
  have E3 : Hid (two false false av cv (fitS (av + cv)) = ((false, av + cv), 0)) := by
    refine Lib.hid ?_
    rw [both_ok _ _ _ ha hc]; exact (by obtain ⟨_, a1, a2⟩ := oddB_false hx; exact fitS_in a1 a2)
  have E4 : Hid (two false false bv cv (fitS (bv + cv)) = ((false, bv + cv), 0)) := by
    refine Lib.hid ?_
    rw [both_ok _ _ _ hb hc]; exact (by obtain ⟨_, a1, a2⟩ := oddB_false hy; exact fitS_in a1 a2)
  have E5 : Hid (lessS false false (av + cv) (bv + cv) = false) := by refine Lib.hid ?_; rw [lessS, hx, hy]; simp; omega
  have hl := floorV_le av
  have hu := ceilV_ge av
  have hfl := floorV_in av ha
  have hcl := ceilV_in av ha
  have E6 : Hid (one false av (fitS (floorV av)) = ((false, floorV av), 0)) := by
    refine Lib.hid ?_
    obtain ⟨_, a1, a2⟩ := oddB_false hfl
    rw [one, if_neg (by rw [ha]; decide), fitS_in a1 a2]
  have E7 : Hid (ceilS false av = ((false, ceilV av), 0)) := by
    refine Lib.hid ?_
    obtain ⟨_, a1, a2⟩ := oddB_false hcl
    rw [ceilS, one, if_neg (by rw [ha]; decide), fitS_in a1 a2]
  have E8 : Hid (lessS false false av (floorV av) = false) := by refine Lib.hid ?_; rw [lessS, ha, hfl]; simp; omega
  have E9 : Hid (lessS false false (ceilV av) av = false) := by refine Lib.hid ?_; rw [lessS, hcl, ha]; simp; omega
  have HA := Lib.hid ha
  have HB := Lib.hid hb
  have HC := Lib.hid hc
  clear ha hb hc hl hu hfl hcl hr hx hy
  go_enter Tryd.func7, Tryd.ntmps7
  go_wp2_with fail
  refine (awake3 _ (((G.alloc _).alloc _).alloc _)).mono ?_
  rintro e w1 ⟨rfl, hB1⟩
  have hz1 := hB1.size
  simp at hz1
  have l0_1 : w.heap.size < w1.heap.size := by omega
  have l1_1 : w.heap.size + 1 < w1.heap.size := by omega
  have l2_1 : w.heap.size + 1 + 1 < w1.heap.size := by omega
  have c0_0_1 : w1.cell? ⟨w.heap.size, 0, none⟩ = some (.bool false) := hB1.keep (by first | (simp; done) | (simp; omega)) (by simp [go_sem])
  have c0_1_1 : w1.cell? ⟨w.heap.size, 1, none⟩ = some (.int .i64 av) := hB1.keep (by first | (simp; done) | (simp; omega)) (by simp [go_sem])
  have c1_0_1 : w1.cell? ⟨w.heap.size + 1, 0, none⟩ = some (.bool false) := hB1.keep (by first | (simp; done) | (simp; omega)) (by simp [go_sem])
  have c1_1_1 : w1.cell? ⟨w.heap.size + 1, 1, none⟩ = some (.int .i64 bv) := hB1.keep (by first | (simp; done) | (simp; omega)) (by simp [go_sem])
  have c2_0_1 : w1.cell? ⟨w.heap.size + 1 + 1, 0, none⟩ = some (.bool false) := hB1.keep (by first | (simp; done) | (simp; omega)) (by simp [go_sem])
  have c2_1_1 : w1.cell? ⟨w.heap.size + 1 + 1, 1, none⟩ = some (.int .i64 cv) := hB1.keep (by first | (simp; done) | (simp; omega)) (by simp [go_sem])
  go_wp2_with fail
  refine (rodd_any false av _).mono ?_
  rw [HA.out]
  rintro e w2 ⟨rfl, hB2⟩
  have hz2 := hB2.size
  have l0_2 : w.heap.size < w2.heap.size := by omega
  have l1_2 : w.heap.size + 1 < w2.heap.size := by omega
  have l2_2 : w.heap.size + 1 + 1 < w2.heap.size := by omega
  have c0_0_2 : w2.cell? ⟨w.heap.size, 0, none⟩ = some (.bool false) := hB2.keep (by omega) c0_0_1
  have c0_1_2 : w2.cell? ⟨w.heap.size, 1, none⟩ = some (.int .i64 av) := hB2.keep (by omega) c0_1_1
  have c1_0_2 : w2.cell? ⟨w.heap.size + 1, 0, none⟩ = some (.bool false) := hB2.keep (by omega) c1_0_1
  have c1_1_2 : w2.cell? ⟨w.heap.size + 1, 1, none⟩ = some (.int .i64 bv) := hB2.keep (by omega) c1_1_1
  have c2_0_2 : w2.cell? ⟨w.heap.size + 1 + 1, 0, none⟩ = some (.bool false) := hB2.keep (by omega) c2_0_1
  have c2_1_2 : w2.cell? ⟨w.heap.size + 1 + 1, 1, none⟩ = some (.int .i64 cv) := hB2.keep (by omega) c2_1_1
  clear c0_0_1 c0_1_1 c1_0_1 c1_1_1 c2_0_1 c2_1_1 l0_1 l1_1 l2_1
  go_wp2_with fail
  refine (rodd_any false bv _).mono ?_
  rw [HB.out]
  rintro e w3 ⟨rfl, hB3⟩
  have hz3 := hB3.size
  have l0_3 : w.heap.size < w3.heap.size := by omega
  have l1_3 : w.heap.size + 1 < w3.heap.size := by omega
  have l2_3 : w.heap.size + 1 + 1 < w3.heap.size := by omega
  have c0_0_3 : w3.cell? ⟨w.heap.size, 0, none⟩ = some (.bool false) := hB3.keep (by omega) c0_0_2
  have c0_1_3 : w3.cell? ⟨w.heap.size, 1, none⟩ = some (.int .i64 av) := hB3.keep (by omega) c0_1_2
  have c1_0_3 : w3.cell? ⟨w.heap.size + 1, 0, none⟩ = some (.bool false) := hB3.keep (by omega) c1_0_2
  have c1_1_3 : w3.cell? ⟨w.heap.size + 1, 1, none⟩ = some (.int .i64 bv) := hB3.keep (by omega) c1_1_2
  have c2_0_3 : w3.cell? ⟨w.heap.size + 1 + 1, 0, none⟩ = some (.bool false) := hB3.keep (by omega) c2_0_2
  have c2_1_3 : w3.cell? ⟨w.heap.size + 1 + 1, 1, none⟩ = some (.int .i64 cv) := hB3.keep (by omega) c2_1_2
  clear c0_0_2 c0_1_2 c1_0_2 c1_1_2 c2_0_2 c2_1_2 l0_2 l1_2 l2_2
  go_wp2_with fail
  refine (less_any false false av bv _).mono ?_
  rw [E0.out]
  rintro e w4 ⟨rfl, hB4⟩
  have hz4 := hB4.size
  have l0_4 : w.heap.size < w4.heap.size := by omega
  have l1_4 : w.heap.size + 1 < w4.heap.size := by omega
  have l2_4 : w.heap.size + 1 + 1 < w4.heap.size := by omega
  have c0_0_4 : w4.cell? ⟨w.heap.size, 0, none⟩ = some (.bool false) := hB4.keep (by omega) c0_0_3
  have c0_1_4 : w4.cell? ⟨w.heap.size, 1, none⟩ = some (.int .i64 av) := hB4.keep (by omega) c0_1_3
  have c1_0_4 : w4.cell? ⟨w.heap.size + 1, 0, none⟩ = some (.bool false) := hB4.keep (by omega) c1_0_3
  have c1_1_4 : w4.cell? ⟨w.heap.size + 1, 1, none⟩ = some (.int .i64 bv) := hB4.keep (by omega) c1_1_3
  have c2_0_4 : w4.cell? ⟨w.heap.size + 1 + 1, 0, none⟩ = some (.bool false) := hB4.keep (by omega) c2_0_3
  have c2_1_4 : w4.cell? ⟨w.heap.size + 1 + 1, 1, none⟩ = some (.int .i64 cv) := hB4.keep (by omega) c2_1_3
  clear c0_0_3 c0_1_3 c1_0_3 c1_1_3 c2_0_3 c2_1_3 l0_3 l1_3 l2_3
  go_wp2_with fail
  refine (less_any false false bv av _).mono ?_
  rw [E1.out]
  rintro e w5 ⟨rfl, hB5⟩
  have hz5 := hB5.size
  have l0_5 : w.heap.size < w5.heap.size := by omega
  have l1_5 : w.heap.size + 1 < w5.heap.size := by omega
  have l2_5 : w.heap.size + 1 + 1 < w5.heap.size := by omega
  have c0_0_5 : w5.cell? ⟨w.heap.size, 0, none⟩ = some (.bool false) := hB5.keep (by omega) c0_0_4
  have c0_1_5 : w5.cell? ⟨w.heap.size, 1, none⟩ = some (.int .i64 av) := hB5.keep (by omega) c0_1_4
  have c1_0_5 : w5.cell? ⟨w.heap.size + 1, 0, none⟩ = some (.bool false) := hB5.keep (by omega) c1_0_4
  have c1_1_5 : w5.cell? ⟨w.heap.size + 1, 1, none⟩ = some (.int .i64 bv) := hB5.keep (by omega) c1_1_4
  have c2_0_5 : w5.cell? ⟨w.heap.size + 1 + 1, 0, none⟩ = some (.bool false) := hB5.keep (by omega) c2_0_4
  have c2_1_5 : w5.cell? ⟨w.heap.size + 1 + 1, 1, none⟩ = some (.int .i64 cv) := hB5.keep (by omega) c2_1_4
  clear c0_0_4 c0_1_4 c1_0_4 c1_1_4 c2_0_4 c2_1_4 l0_4 l1_4 l2_4
  go_wp2_with fail
  refine (equal_any false false av bv _).mono ?_
  rw [E2.out]
  rintro e w6 ⟨rfl, hB6⟩
  have hz6 := hB6.size
  have l0_6 : w.heap.size < w6.heap.size := by omega
  have l1_6 : w.heap.size + 1 < w6.heap.size := by omega
  have l2_6 : w.heap.size + 1 + 1 < w6.heap.size := by omega
  have c0_0_6 : w6.cell? ⟨w.heap.size, 0, none⟩ = some (.bool false) := hB6.keep (by omega) c0_0_5
  have c0_1_6 : w6.cell? ⟨w.heap.size, 1, none⟩ = some (.int .i64 av) := hB6.keep (by omega) c0_1_5
  have c1_0_6 : w6.cell? ⟨w.heap.size + 1, 0, none⟩ = some (.bool false) := hB6.keep (by omega) c1_0_5
  have c1_1_6 : w6.cell? ⟨w.heap.size + 1, 1, none⟩ = some (.int .i64 bv) := hB6.keep (by omega) c1_1_5
  have c2_0_6 : w6.cell? ⟨w.heap.size + 1 + 1, 0, none⟩ = some (.bool false) := hB6.keep (by omega) c2_0_5
  have c2_1_6 : w6.cell? ⟨w.heap.size + 1 + 1, 1, none⟩ = some (.int .i64 cv) := hB6.keep (by omega) c2_1_5
  clear c0_0_5 c0_1_5 c1_0_5 c1_1_5 c2_0_5 c2_1_5 l0_5 l1_5 l2_5
  go_wp2_with fail
  refine (add_any false false av cv _).mono ?_
  rw [E3.out]
  rintro e w7 ⟨rfl, hB7⟩
  have hz7 := hB7.size
  have l0_7 : w.heap.size < w7.heap.size := by omega
  have l1_7 : w.heap.size + 1 < w7.heap.size := by omega
  have l2_7 : w.heap.size + 1 + 1 < w7.heap.size := by omega
  have c0_0_7 : w7.cell? ⟨w.heap.size, 0, none⟩ = some (.bool false) := hB7.keep (by omega) c0_0_6
  have c0_1_7 : w7.cell? ⟨w.heap.size, 1, none⟩ = some (.int .i64 av) := hB7.keep (by omega) c0_1_6
  have c1_0_7 : w7.cell? ⟨w.heap.size + 1, 0, none⟩ = some (.bool false) := hB7.keep (by omega) c1_0_6
  have c1_1_7 : w7.cell? ⟨w.heap.size + 1, 1, none⟩ = some (.int .i64 bv) := hB7.keep (by omega) c1_1_6
  have c2_0_7 : w7.cell? ⟨w.heap.size + 1 + 1, 0, none⟩ = some (.bool false) := hB7.keep (by omega) c2_0_6
  have c2_1_7 : w7.cell? ⟨w.heap.size + 1 + 1, 1, none⟩ = some (.int .i64 cv) := hB7.keep (by omega) c2_1_6
  clear c0_0_6 c0_1_6 c1_0_6 c1_1_6 c2_0_6 c2_1_6 l0_6 l1_6 l2_6
  go_wp2_with fail
  refine (add_any false false bv cv _).mono ?_
  rw [E4.out]
  rintro e w8 ⟨rfl, hB8⟩
  have hz8 := hB8.size
  simp at hz8
  have l0_8 : w.heap.size < w8.heap.size := by omega
  have l1_8 : w.heap.size + 1 < w8.heap.size := by omega
  have l2_8 : w.heap.size + 1 + 1 < w8.heap.size := by omega
  have l3_8 : w7.heap.size < w8.heap.size := by omega
  have c0_0_8 : w8.cell? ⟨w.heap.size, 0, none⟩ = some (.bool false) := hB8.keep (by first | (simp; done) | (simp; omega)) (by simp [go_sem, l0_7, l1_7, l2_7, c0_0_7])
  have c0_1_8 : w8.cell? ⟨w.heap.size, 1, none⟩ = some (.int .i64 av) := hB8.keep (by first | (simp; done) | (simp; omega)) (by simp [go_sem, l0_7, l1_7, l2_7, c0_1_7])
  have c1_0_8 : w8.cell? ⟨w.heap.size + 1, 0, none⟩ = some (.bool false) := hB8.keep (by first | (simp; done) | (simp; omega)) (by simp [go_sem, l0_7, l1_7, l2_7, c1_0_7])
  have c1_1_8 : w8.cell? ⟨w.heap.size + 1, 1, none⟩ = some (.int .i64 bv) := hB8.keep (by first | (simp; done) | (simp; omega)) (by simp [go_sem, l0_7, l1_7, l2_7, c1_1_7])
  have c2_0_8 : w8.cell? ⟨w.heap.size + 1 + 1, 0, none⟩ = some (.bool false) := hB8.keep (by first | (simp; done) | (simp; omega)) (by simp [go_sem, l0_7, l1_7, l2_7, c2_0_7])
  have c2_1_8 : w8.cell? ⟨w.heap.size + 1 + 1, 1, none⟩ = some (.int .i64 cv) := hB8.keep (by first | (simp; done) | (simp; omega)) (by simp [go_sem, l0_7, l1_7, l2_7, c2_1_7])
  have c3_0_8 : w8.cell? ⟨w7.heap.size, 0, none⟩ = some (.bool false) := hB8.keep (by first | (simp; done) | (simp; omega)) (by simp [go_sem, l0_7, l1_7, l2_7])
  have c3_1_8 : w8.cell? ⟨w7.heap.size, 1, none⟩ = some (.int .i64 (av + cv)) := hB8.keep (by first | (simp; done) | (simp; omega)) (by simp [go_sem, l0_7, l1_7, l2_7])
  clear c0_0_7 c0_1_7 c1_0_7 c1_1_7 c2_0_7 c2_1_7 l0_7 l1_7 l2_7
  go_wp2_with fail
  obtain ⟨w9, hW9⟩ : ∃ wz, (w8.alloc (.cells #[.bool false, .int .i64 (bv + cv)] 38)) = wz := ⟨_, rfl⟩
  rw [hW9]
  have hB9 : Ext (w8.alloc (.cells #[.bool false, .int .i64 (bv + cv)] 38)) w9 := by rw [hW9]; exact Ext.refl _
  clear hW9
  have hz9 := hB9.size
  simp at hz9
  have l0_9 : w.heap.size < w9.heap.size := by omega
  have l1_9 : w.heap.size + 1 < w9.heap.size := by omega
  have l2_9 : w.heap.size + 1 + 1 < w9.heap.size := by omega
  have l3_9 : w7.heap.size < w9.heap.size := by omega
  have l4_9 : w8.heap.size < w9.heap.size := by omega
  have c0_0_9 : w9.cell? ⟨w.heap.size, 0, none⟩ = some (.bool false) := hB9.keep (by first | (simp; done) | (simp; omega)) (by simp [go_sem, l0_8, l1_8, l2_8, l3_8, c0_0_8])
  have c0_1_9 : w9.cell? ⟨w.heap.size, 1, none⟩ = some (.int .i64 av) := hB9.keep (by first | (simp; done) | (simp; omega)) (by simp [go_sem, l0_8, l1_8, l2_8, l3_8, c0_1_8])
  have c1_0_9 : w9.cell? ⟨w.heap.size + 1, 0, none⟩ = some (.bool false) := hB9.keep (by first | (simp; done) | (simp; omega)) (by simp [go_sem, l0_8, l1_8, l2_8, l3_8, c1_0_8])
  have c1_1_9 : w9.cell? ⟨w.heap.size + 1, 1, none⟩ = some (.int .i64 bv) := hB9.keep (by first | (simp; done) | (simp; omega)) (by simp [go_sem, l0_8, l1_8, l2_8, l3_8, c1_1_8])
  have c2_0_9 : w9.cell? ⟨w.heap.size + 1 + 1, 0, none⟩ = some (.bool false) := hB9.keep (by first | (simp; done) | (simp; omega)) (by simp [go_sem, l0_8, l1_8, l2_8, l3_8, c2_0_8])
  have c2_1_9 : w9.cell? ⟨w.heap.size + 1 + 1, 1, none⟩ = some (.int .i64 cv) := hB9.keep (by first | (simp; done) | (simp; omega)) (by simp [go_sem, l0_8, l1_8, l2_8, l3_8, c2_1_8])
  have c3_0_9 : w9.cell? ⟨w7.heap.size, 0, none⟩ = some (.bool false) := hB9.keep (by first | (simp; done) | (simp; omega)) (by simp [go_sem, l0_8, l1_8, l2_8, l3_8, c3_0_8])
  have c3_1_9 : w9.cell? ⟨w7.heap.size, 1, none⟩ = some (.int .i64 (av + cv)) := hB9.keep (by first | (simp; done) | (simp; omega)) (by simp [go_sem, l0_8, l1_8, l2_8, l3_8, c3_1_8])
  have c4_0_9 : w9.cell? ⟨w8.heap.size, 0, none⟩ = some (.bool false) := hB9.keep (by first | (simp; done) | (simp; omega)) (by simp [go_sem, l0_8, l1_8, l2_8, l3_8])
  have c4_1_9 : w9.cell? ⟨w8.heap.size, 1, none⟩ = some (.int .i64 (bv + cv)) := hB9.keep (by first | (simp; done) | (simp; omega)) (by simp [go_sem, l0_8, l1_8, l2_8, l3_8])
  clear c0_0_8 c0_1_8 c1_0_8 c1_1_8 c2_0_8 c2_1_8 c3_0_8 c3_1_8 l0_8 l1_8 l2_8 l3_8
  go_wp2_with fail
  refine rg_begin (S := Sx w9) (by kernel_rfl) (Sx.begin _) ?_
  have hS : Sx w9 (World.drew w9) := Sx.begin _
  refine rg_take 0 (some 67) (.int .i64 1) (oi := { dst := some 67, op := Go.Op.move (Go.Operand.tmp 7), type := 3, pos := "outright.go:48", after := #[], guard := none }) rfl rfl (by kernel_rfl) (by kernel_rfl) (by kernel_rfl) (fun _ _ _ h => h) hS (by rfl) (fun w' hs => by rfl) ?_
  simp only [Act.put, List.setIfInBounds_toArray, List.set_cons_zero, List.set_cons_succ]
  refine rg_take 1 (some 68) (.bool false) (oi := { dst := some 68, op := Go.Op.binOp Go.BinOp.neq 3 (Go.Operand.tmp 67) (Go.Operand.const (Go.Value.int Go.IntKind.i64 1)) 3, type := 4, pos := "outright.go:48", after := #[{ on := 0, ground := Go.Ground.data }], guard := none }) rfl rfl (by kernel_rfl) (by kernel_rfl) (by kernel_rfl) (fun _ _ _ h => h) hS (by rfl) (fun w' hs => by first | rfl | go_simp) ?_
  simp only [Act.put, List.setIfInBounds_toArray, List.set_cons_zero, List.set_cons_succ]
  refine rg_take 2 (some 69) (.bool false) (oi := { dst := some 69, op := Go.Op.move (Go.Operand.tmp 68), type := 4, pos := "outright.go:48", after := #[{ on := 1, ground := Go.Ground.data }], guard := none }) rfl rfl (by kernel_rfl) (by kernel_rfl) (by kernel_rfl) (fun _ _ _ h => h) hS (by rfl) (fun w' hs => by rfl) ?_
  simp only [Act.put, List.setIfInBounds_toArray, List.set_cons_zero, List.set_cons_succ]
  refine rg_take 3 (some 70) (.agg #[.bool false, .int .i64 cv]) (oi := { dst := some 70, op := Go.Op.load 38 (Go.Operand.tmp 5), type := 38, pos := "outright.go:48", after := #[{ on := 2, ground := Go.Ground.guard }], guard := some (2, false) }) rfl rfl (by kernel_rfl) (by kernel_rfl) (by kernel_rfl) (fun _ _ _ h => h) hS (by rfl) (fun w' hs => by (have h0 := hs.cell l2_9 c2_0_9; have h1 := hs.cell l2_9 c2_1_9; go_simp)) ?_
  simp only [Act.put, List.setIfInBounds_toArray, List.set_cons_zero, List.set_cons_succ]
  refine rg_call 4 (some 71) 24 #[.agg #[.bool false, .int .i64 cv]] (oi := { dst := some 71, op := Go.Op.call { callee := Go.Callee.value (Go.Operand.func 24), args := #[Go.Operand.tmp 70], argTypes := #[38] }, type := 4, pos := "outright.go:48", after := #[{ on := 3, ground := Go.Ground.data }, { on := 2, ground := Go.Ground.chain }, { on := 2, ground := Go.Ground.guard }], guard := some (2, false) }) rfl rfl (by kernel_rfl) (by rfl) (fun w' => by first | rfl | go_simp) (R := fun v w' => v = .bool false ∧ Ext (World.drew w9) w') ?_ ?_
  · refine (rodd_any false cv _).mono ?_
    rw [HC.out]
    rintro e w' ⟨rfl, h⟩
    exact ⟨_, rfl, rfl, h⟩
  rintro _ wr1 ⟨rfl, hBr1⟩
  have hS1 := hS.ext hBr1
  refine ⟨hS1, ?_⟩
  simp only [Act.put, List.setIfInBounds_toArray, List.set_cons_zero, List.set_cons_succ]
  refine rg_take 5 (some 72) (.bool true) (oi := { dst := some 72, op := Go.Op.unOp Go.UnOp.not 4 (Go.Operand.tmp 71), type := 4, pos := "outright.go:48", after := #[{ on := 4, ground := Go.Ground.data }, { on := 2, ground := Go.Ground.guard }], guard := some (2, false) }) rfl rfl (by kernel_rfl) (by kernel_rfl) (by kernel_rfl) (fun _ _ _ h => h) hS1 (by rfl) (fun w' hs => by first | rfl | go_simp) ?_
  simp only [Act.put, List.setIfInBounds_toArray, List.set_cons_zero, List.set_cons_succ]
  refine rg_take 6 (some 73) (.bool true) (oi := { dst := some 73, op := Go.Op.move (Go.Operand.tmp 72), type := 4, pos := "outright.go:48", after := #[{ on := 5, ground := Go.Ground.data }, { on := 4, ground := Go.Ground.chain }, { on := 2, ground := Go.Ground.guard }], guard := some (2, false) }) rfl rfl (by kernel_rfl) (by kernel_rfl) (by kernel_rfl) (fun _ _ _ h => h) hS1 (by rfl) (fun w' hs => by rfl) ?_
  simp only [Act.put, List.setIfInBounds_toArray, List.set_cons_zero, List.set_cons_succ]
  refine rg_take 7 (some 74) (.int .i64 0) (oi := { dst := some 74, op := Go.Op.move (Go.Operand.tmp 9), type := 34, pos := "outright.go:48", after := #[{ on := 6, ground := Go.Ground.guard }], guard := some (6, true) }) rfl rfl (by kernel_rfl) (by kernel_rfl) (by kernel_rfl) (fun _ _ _ h => h) hS1 (by rfl) (fun w' hs => by rfl) ?_
  simp only [Act.put, List.setIfInBounds_toArray, List.set_cons_zero, List.set_cons_succ]
  refine rg_take 8 (some 75) (.bool true) (oi := { dst := some 75, op := Go.Op.binOp Go.BinOp.eql 34 (Go.Operand.tmp 74) (Go.Operand.const (Go.Value.int Go.IntKind.i64 0)) 34, type := 4, pos := "outright.go:48", after := #[{ on := 7, ground := Go.Ground.data }, { on := 6, ground := Go.Ground.guard }], guard := some (6, true) }) rfl rfl (by kernel_rfl) (by kernel_rfl) (by kernel_rfl) (fun _ _ _ h => h) hS1 (by rfl) (fun w' hs => by first | rfl | go_simp) ?_
  simp only [Act.put, List.setIfInBounds_toArray, List.set_cons_zero, List.set_cons_succ]
  refine rg_take 9 (some 76) (.bool true) (oi := { dst := some 76, op := Go.Op.pick (Go.Operand.tmp 73) (Go.Operand.tmp 75) (Go.Operand.const (Go.Value.bool false)), type := 4, pos := "outright.go:48", after := #[{ on := 6, ground := Go.Ground.data }, { on := 8, ground := Go.Ground.data }, { on := 2, ground := Go.Ground.guard }], guard := some (2, false) }) rfl rfl (by kernel_rfl) (by kernel_rfl) (by kernel_rfl) (fun _ _ _ h => h) hS1 (by rfl) (fun w' hs => by rfl) ?_
  simp only [Act.put, List.setIfInBounds_toArray, List.set_cons_zero, List.set_cons_succ]
  refine rg_take 10 (some 77) (.bool true) (oi := { dst := some 77, op := Go.Op.move (Go.Operand.tmp 76), type := 4, pos := "outright.go:48", after := #[{ on := 9, ground := Go.Ground.data }, { on := 6, ground := Go.Ground.chain }, { on := 2, ground := Go.Ground.guard }], guard := some (2, false) }) rfl rfl (by kernel_rfl) (by kernel_rfl) (by kernel_rfl) (fun _ _ _ h => h) hS1 (by rfl) (fun w' hs => by rfl) ?_
  simp only [Act.put, List.setIfInBounds_toArray, List.set_cons_zero, List.set_cons_succ]
  refine rg_take 11 (some 78) (.int .i64 0) (oi := { dst := some 78, op := Go.Op.move (Go.Operand.tmp 11), type := 34, pos := "outright.go:48", after := #[{ on := 10, ground := Go.Ground.guard }], guard := some (10, true) }) rfl rfl (by kernel_rfl) (by kernel_rfl) (by kernel_rfl) (fun _ _ _ h => h) hS1 (by rfl) (fun w' hs => by rfl) ?_
  simp only [Act.put, List.setIfInBounds_toArray, List.set_cons_zero, List.set_cons_succ]
  refine rg_take 12 (some 79) (.bool true) (oi := { dst := some 79, op := Go.Op.binOp Go.BinOp.eql 34 (Go.Operand.tmp 78) (Go.Operand.const (Go.Value.int Go.IntKind.i64 0)) 34, type := 4, pos := "outright.go:48", after := #[{ on := 11, ground := Go.Ground.data }, { on := 10, ground := Go.Ground.guard }], guard := some (10, true) }) rfl rfl (by kernel_rfl) (by kernel_rfl) (by kernel_rfl) (fun _ _ _ h => h) hS1 (by rfl) (fun w' hs => by first | rfl | go_simp) ?_
  simp only [Act.put, List.setIfInBounds_toArray, List.set_cons_zero, List.set_cons_succ]
  refine rg_take 13 (some 80) (.bool true) (oi := { dst := some 80, op := Go.Op.pick (Go.Operand.tmp 77) (Go.Operand.tmp 79) (Go.Operand.const (Go.Value.bool false)), type := 4, pos := "outright.go:48", after := #[{ on := 10, ground := Go.Ground.data }, { on := 12, ground := Go.Ground.data }, { on := 2, ground := Go.Ground.guard }], guard := some (2, false) }) rfl rfl (by kernel_rfl) (by kernel_rfl) (by kernel_rfl) (fun _ _ _ h => h) hS1 (by rfl) (fun w' hs => by rfl) ?_
  simp only [Act.put, List.setIfInBounds_toArray, List.set_cons_zero, List.set_cons_succ]
  refine rg_take 14 (some 81) (.bool true) (oi := { dst := some 81, op := Go.Op.move (Go.Operand.tmp 80), type := 4, pos := "outright.go:48", after := #[{ on := 13, ground := Go.Ground.data }, { on := 10, ground := Go.Ground.chain }, { on := 2, ground := Go.Ground.guard }], guard := some (2, false) }) rfl rfl (by kernel_rfl) (by kernel_rfl) (by kernel_rfl) (fun _ _ _ h => h) hS1 (by rfl) (fun w' hs => by rfl) ?_
  simp only [Act.put, List.setIfInBounds_toArray, List.set_cons_zero, List.set_cons_succ]
  refine rg_take 15 (some 82) (.agg #[.bool false, .int .i64 av]) (oi := { dst := some 82, op := Go.Op.load 38 (Go.Operand.tmp 3), type := 38, pos := "outright.go:48", after := #[{ on := 14, ground := Go.Ground.guard }], guard := some (14, true) }) rfl rfl (by kernel_rfl) (by kernel_rfl) (by kernel_rfl) (fun _ _ _ h => h) hS1 (by rfl) (fun w' hs => by (have h0 := hs.cell l0_9 c0_0_9; have h1 := hs.cell l0_9 c0_1_9; go_simp)) ?_
  simp only [Act.put, List.setIfInBounds_toArray, List.set_cons_zero, List.set_cons_succ]
  refine rg_take 16 (some 83) (.agg #[.bool false, .int .i64 bv]) (oi := { dst := some 83, op := Go.Op.load 38 (Go.Operand.tmp 4), type := 38, pos := "outright.go:48", after := #[{ on := 14, ground := Go.Ground.guard }], guard := some (14, true) }) rfl rfl (by kernel_rfl) (by kernel_rfl) (by kernel_rfl) (fun _ _ _ h => h) hS1 (by rfl) (fun w' hs => by (have h0 := hs.cell l1_9 c1_0_9; have h1 := hs.cell l1_9 c1_1_9; go_simp)) ?_
  simp only [Act.put, List.setIfInBounds_toArray, List.set_cons_zero, List.set_cons_succ]
  refine rg_take 18 (some 85) (.agg #[.bool false, .int .i64 (av + cv)]) (oi := { dst := some 85, op := Go.Op.load 38 (Go.Operand.tmp 8), type := 38, pos := "outright.go:48", after := #[{ on := 14, ground := Go.Ground.guard }], guard := some (14, true) }) rfl rfl (by kernel_rfl) (by kernel_rfl) (by kernel_rfl) (fun _ _ _ h => h) hS1 (by rfl) (fun w' hs => by (have h0 := hs.cell l3_9 c3_0_9; have h1 := hs.cell l3_9 c3_1_9; go_simp)) ?_
  simp only [Act.put, List.setIfInBounds_toArray, List.set_cons_zero, List.set_cons_succ]
  refine rg_take 19 (some 86) (.agg #[.bool false, .int .i64 (bv + cv)]) (oi := { dst := some 86, op := Go.Op.load 38 (Go.Operand.tmp 10), type := 38, pos := "outright.go:48", after := #[{ on := 14, ground := Go.Ground.guard }], guard := some (14, true) }) rfl rfl (by kernel_rfl) (by kernel_rfl) (by kernel_rfl) (fun _ _ _ h => h) hS1 (by rfl) (fun w' hs => by (have h0 := hs.cell l4_9 c4_0_9; have h1 := hs.cell l4_9 c4_1_9; go_simp)) ?_
  simp only [Act.put, List.setIfInBounds_toArray, List.set_cons_zero, List.set_cons_succ]
  refine rg_call 17 (some 84) 30 #[.agg #[.bool false, .int .i64 av], .agg #[.bool false, .int .i64 bv]] (oi := { dst := some 84, op := Go.Op.call { callee := Go.Callee.value (Go.Operand.func 30), args := #[Go.Operand.tmp 82, Go.Operand.tmp 83], argTypes := #[38, 38] }, type := 4, pos := "outright.go:48", after := #[{ on := 15, ground := Go.Ground.data }, { on := 16, ground := Go.Ground.data }, { on := 14, ground := Go.Ground.chain }, { on := 14, ground := Go.Ground.guard }], guard := some (14, true) }) rfl rfl (by kernel_rfl) (by rfl) (fun w' => by first | rfl | go_simp) (R := fun v w' => v = .bool false ∧ Ext wr1 w') ?_ ?_
  · refine (less_any false false av bv _).mono ?_
    rw [E0.out]
    rintro e w' ⟨rfl, h⟩
    exact ⟨_, rfl, rfl, h⟩
  rintro _ wr2 ⟨rfl, hBr2⟩
  have hS2 := hS1.ext hBr2
  refine ⟨hS2, ?_⟩
  simp only [Act.put, List.setIfInBounds_toArray, List.set_cons_zero, List.set_cons_succ]
  refine rg_call 20 (some 87) 30 #[.agg #[.bool false, .int .i64 (av + cv)], .agg #[.bool false, .int .i64 (bv + cv)]] (oi := { dst := some 87, op := Go.Op.call { callee := Go.Callee.value (Go.Operand.func 30), args := #[Go.Operand.tmp 85, Go.Operand.tmp 86], argTypes := #[38, 38] }, type := 4, pos := "outright.go:48", after := #[{ on := 18, ground := Go.Ground.data }, { on := 19, ground := Go.Ground.data }, { on := 17, ground := Go.Ground.chain }, { on := 14, ground := Go.Ground.guard }], guard := some (14, true) }) rfl rfl (by kernel_rfl) (by rfl) (fun w' => by first | rfl | go_simp) (R := fun v w' => v = .bool false ∧ Ext wr2 w') ?_ ?_
  · refine (less_any false false (av + cv) (bv + cv) _).mono ?_
    rw [E5.out]
    rintro e w' ⟨rfl, h⟩
    exact ⟨_, rfl, rfl, h⟩
  rintro _ wr3 ⟨rfl, hBr3⟩
  have hS3 := hS2.ext hBr3
  refine ⟨hS3, ?_⟩
  simp only [Act.put, List.setIfInBounds_toArray, List.set_cons_zero, List.set_cons_succ]
  refine rg_take 21 (some 88) (.bool false) (oi := { dst := some 88, op := Go.Op.binOp Go.BinOp.neq 4 (Go.Operand.tmp 84) (Go.Operand.tmp 87) 4, type := 4, pos := "outright.go:48", after := #[{ on := 17, ground := Go.Ground.data }, { on := 20, ground := Go.Ground.data }, { on := 14, ground := Go.Ground.guard }], guard := some (14, true) }) rfl rfl (by kernel_rfl) (by kernel_rfl) (by kernel_rfl) (fun _ _ _ h => h) hS3 (by rfl) (fun w' hs => by first | rfl | go_simp) ?_
  simp only [Act.put, List.setIfInBounds_toArray, List.set_cons_zero, List.set_cons_succ]
  refine rg_take 22 (some 89) (.bool false) (oi := { dst := some 89, op := Go.Op.pick (Go.Operand.tmp 81) (Go.Operand.tmp 88) (Go.Operand.const (Go.Value.bool false)), type := 4, pos := "outright.go:48", after := #[{ on := 14, ground := Go.Ground.data }, { on := 21, ground := Go.Ground.data }, { on := 2, ground := Go.Ground.guard }], guard := some (2, false) }) rfl rfl (by kernel_rfl) (by kernel_rfl) (by kernel_rfl) (fun _ _ _ h => h) hS3 (by rfl) (fun w' hs => by rfl) ?_
  simp only [Act.put, List.setIfInBounds_toArray, List.set_cons_zero, List.set_cons_succ]
  refine rg_take 23 (some 90) (.bool false) (oi := { dst := some 90, op := Go.Op.pick (Go.Operand.tmp 69) (Go.Operand.const (Go.Value.bool true)) (Go.Operand.tmp 89), type := 4, pos := "outright.go:48", after := #[{ on := 2, ground := Go.Ground.data }, { on := 22, ground := Go.Ground.data }], guard := none }) rfl rfl (by kernel_rfl) (by kernel_rfl) (by kernel_rfl) (fun _ _ _ h => h) hS3 (by rfl) (fun w' hs => by rfl) ?_
  simp only [Act.put, List.setIfInBounds_toArray, List.set_cons_zero, List.set_cons_succ]
  refine rg_done (by kernel_rfl) ?_
  obtain ⟨w10, hW10⟩ : ∃ wz, wr3 = wz := ⟨_, rfl⟩
  rw [hW10] at hS3 ⊢
  have hB10 : Ext w9 w10 := hS3
  clear hW10
  have hz10 := hB10.size
  have l0_10 : w.heap.size < w10.heap.size := Nat.lt_of_lt_of_le l0_9 hz10
  have c0_0_10 : w10.cell? ⟨w.heap.size, 0, none⟩ = some (.bool false) := hB10.keep l0_9 c0_0_9
  have c0_1_10 : w10.cell? ⟨w.heap.size, 1, none⟩ = some (.int .i64 av) := hB10.keep l0_9 c0_1_9
  have l1_10 : w.heap.size + 1 < w10.heap.size := Nat.lt_of_lt_of_le l1_9 hz10
  have c1_0_10 : w10.cell? ⟨w.heap.size + 1, 0, none⟩ = some (.bool false) := hB10.keep l1_9 c1_0_9
  have c1_1_10 : w10.cell? ⟨w.heap.size + 1, 1, none⟩ = some (.int .i64 bv) := hB10.keep l1_9 c1_1_9
  have l2_10 : w.heap.size + 1 + 1 < w10.heap.size := Nat.lt_of_lt_of_le l2_9 hz10
  have c2_0_10 : w10.cell? ⟨w.heap.size + 1 + 1, 0, none⟩ = some (.bool false) := hB10.keep l2_9 c2_0_9
  have c2_1_10 : w10.cell? ⟨w.heap.size + 1 + 1, 1, none⟩ = some (.int .i64 cv) := hB10.keep l2_9 c2_1_9
  have l3_10 : w7.heap.size < w10.heap.size := Nat.lt_of_lt_of_le l3_9 hz10
  have c3_0_10 : w10.cell? ⟨w7.heap.size, 0, none⟩ = some (.bool false) := hB10.keep l3_9 c3_0_9
  have c3_1_10 : w10.cell? ⟨w7.heap.size, 1, none⟩ = some (.int .i64 (av + cv)) := hB10.keep l3_9 c3_1_9
  have l4_10 : w8.heap.size < w10.heap.size := Nat.lt_of_lt_of_le l4_9 hz10
  have c4_0_10 : w10.cell? ⟨w8.heap.size, 0, none⟩ = some (.bool false) := hB10.keep l4_9 c4_0_9
  have c4_1_10 : w10.cell? ⟨w8.heap.size, 1, none⟩ = some (.int .i64 (bv + cv)) := hB10.keep l4_9 c4_1_9
  clear c0_0_9 c0_1_9 l0_9 c1_0_9 c1_1_9 l1_9 c2_0_9 c2_1_9 l2_9 c3_0_9 c3_1_9 l3_9 c4_0_9 c4_1_9 l4_9
  clear hS hS1 hBr1 hS2 hBr2 hS3 hBr3
  go_wp2_with fail
  refine (floor_any false av _).mono ?_
  rw [E6.out]
  rintro e w11 ⟨rfl, hB11⟩
  have hz11 := hB11.size
  have l0_11 : w.heap.size < w11.heap.size := by omega
  have l1_11 : w.heap.size + 1 < w11.heap.size := by omega
  have l2_11 : w.heap.size + 1 + 1 < w11.heap.size := by omega
  have l3_11 : w7.heap.size < w11.heap.size := by omega
  have l4_11 : w8.heap.size < w11.heap.size := by omega
  have c0_0_11 : w11.cell? ⟨w.heap.size, 0, none⟩ = some (.bool false) := hB11.keep (by omega) c0_0_10
  have c0_1_11 : w11.cell? ⟨w.heap.size, 1, none⟩ = some (.int .i64 av) := hB11.keep (by omega) c0_1_10
  have c1_0_11 : w11.cell? ⟨w.heap.size + 1, 0, none⟩ = some (.bool false) := hB11.keep (by omega) c1_0_10
  have c1_1_11 : w11.cell? ⟨w.heap.size + 1, 1, none⟩ = some (.int .i64 bv) := hB11.keep (by omega) c1_1_10
  have c2_0_11 : w11.cell? ⟨w.heap.size + 1 + 1, 0, none⟩ = some (.bool false) := hB11.keep (by omega) c2_0_10
  have c2_1_11 : w11.cell? ⟨w.heap.size + 1 + 1, 1, none⟩ = some (.int .i64 cv) := hB11.keep (by omega) c2_1_10
  have c3_0_11 : w11.cell? ⟨w7.heap.size, 0, none⟩ = some (.bool false) := hB11.keep (by omega) c3_0_10
  have c3_1_11 : w11.cell? ⟨w7.heap.size, 1, none⟩ = some (.int .i64 (av + cv)) := hB11.keep (by omega) c3_1_10
  have c4_0_11 : w11.cell? ⟨w8.heap.size, 0, none⟩ = some (.bool false) := hB11.keep (by omega) c4_0_10
  have c4_1_11 : w11.cell? ⟨w8.heap.size, 1, none⟩ = some (.int .i64 (bv + cv)) := hB11.keep (by omega) c4_1_10
  clear c0_0_10 c0_1_10 c1_0_10 c1_1_10 c2_0_10 c2_1_10 c3_0_10 c3_1_10 c4_0_10 c4_1_10 l0_10 l1_10 l2_10 l3_10 l4_10
  go_wp2_with fail
  refine (ceil_any false av _).mono ?_
  rw [E7.out]
  rintro e w12 ⟨rfl, hB12⟩
  have hz12 := hB12.size
  simp at hz12
  have l0_12 : w.heap.size < w12.heap.size := by omega
  have l1_12 : w.heap.size + 1 < w12.heap.size := by omega
  have l2_12 : w.heap.size + 1 + 1 < w12.heap.size := by omega
  have l3_12 : w7.heap.size < w12.heap.size := by omega
  have l4_12 : w8.heap.size < w12.heap.size := by omega
  have l5_12 : w11.heap.size < w12.heap.size := by omega
  have c0_0_12 : w12.cell? ⟨w.heap.size, 0, none⟩ = some (.bool false) := hB12.keep (by first | (simp; done) | (simp; omega)) (by simp [go_sem, l0_11, l1_11, l2_11, l3_11, l4_11, c0_0_11])
  have c0_1_12 : w12.cell? ⟨w.heap.size, 1, none⟩ = some (.int .i64 av) := hB12.keep (by first | (simp; done) | (simp; omega)) (by simp [go_sem, l0_11, l1_11, l2_11, l3_11, l4_11, c0_1_11])
  have c1_0_12 : w12.cell? ⟨w.heap.size + 1, 0, none⟩ = some (.bool false) := hB12.keep (by first | (simp; done) | (simp; omega)) (by simp [go_sem, l0_11, l1_11, l2_11, l3_11, l4_11, c1_0_11])
  have c1_1_12 : w12.cell? ⟨w.heap.size + 1, 1, none⟩ = some (.int .i64 bv) := hB12.keep (by first | (simp; done) | (simp; omega)) (by simp [go_sem, l0_11, l1_11, l2_11, l3_11, l4_11, c1_1_11])
  have c2_0_12 : w12.cell? ⟨w.heap.size + 1 + 1, 0, none⟩ = some (.bool false) := hB12.keep (by first | (simp; done) | (simp; omega)) (by simp [go_sem, l0_11, l1_11, l2_11, l3_11, l4_11, c2_0_11])
  have c2_1_12 : w12.cell? ⟨w.heap.size + 1 + 1, 1, none⟩ = some (.int .i64 cv) := hB12.keep (by first | (simp; done) | (simp; omega)) (by simp [go_sem, l0_11, l1_11, l2_11, l3_11, l4_11, c2_1_11])
  have c3_0_12 : w12.cell? ⟨w7.heap.size, 0, none⟩ = some (.bool false) := hB12.keep (by first | (simp; done) | (simp; omega)) (by simp [go_sem, l0_11, l1_11, l2_11, l3_11, l4_11, c3_0_11])
  have c3_1_12 : w12.cell? ⟨w7.heap.size, 1, none⟩ = some (.int .i64 (av + cv)) := hB12.keep (by first | (simp; done) | (simp; omega)) (by simp [go_sem, l0_11, l1_11, l2_11, l3_11, l4_11, c3_1_11])
  have c4_0_12 : w12.cell? ⟨w8.heap.size, 0, none⟩ = some (.bool false) := hB12.keep (by first | (simp; done) | (simp; omega)) (by simp [go_sem, l0_11, l1_11, l2_11, l3_11, l4_11, c4_0_11])
  have c4_1_12 : w12.cell? ⟨w8.heap.size, 1, none⟩ = some (.int .i64 (bv + cv)) := hB12.keep (by first | (simp; done) | (simp; omega)) (by simp [go_sem, l0_11, l1_11, l2_11, l3_11, l4_11, c4_1_11])
  have c5_0_12 : w12.cell? ⟨w11.heap.size, 0, none⟩ = some (.bool false) := hB12.keep (by first | (simp; done) | (simp; omega)) (by simp [go_sem, l0_11, l1_11, l2_11, l3_11, l4_11])
  have c5_1_12 : w12.cell? ⟨w11.heap.size, 1, none⟩ = some (.int .i64 (floorV av)) := hB12.keep (by first | (simp; done) | (simp; omega)) (by simp [go_sem, l0_11, l1_11, l2_11, l3_11, l4_11])
  clear c0_0_11 c0_1_11 c1_0_11 c1_1_11 c2_0_11 c2_1_11 c3_0_11 c3_1_11 c4_0_11 c4_1_11 l0_11 l1_11 l2_11 l3_11 l4_11
  go_wp2_with fail
  refine (less_any false false av (floorV av) _).mono ?_
  rw [E8.out]
  rintro e w13 ⟨rfl, hB13⟩
  have hz13 := hB13.size
  simp at hz13
  have l0_13 : w.heap.size < w13.heap.size := by omega
  have l1_13 : w.heap.size + 1 < w13.heap.size := by omega
  have l2_13 : w.heap.size + 1 + 1 < w13.heap.size := by omega
  have l3_13 : w7.heap.size < w13.heap.size := by omega
  have l4_13 : w8.heap.size < w13.heap.size := by omega
  have l5_13 : w11.heap.size < w13.heap.size := by omega
  have l6_13 : w12.heap.size < w13.heap.size := by omega
  have c0_0_13 : w13.cell? ⟨w.heap.size, 0, none⟩ = some (.bool false) := hB13.keep (by first | (simp; done) | (simp; omega)) (by simp [go_sem, l0_12, l1_12, l2_12, l3_12, l4_12, l5_12, c0_0_12])
  have c0_1_13 : w13.cell? ⟨w.heap.size, 1, none⟩ = some (.int .i64 av) := hB13.keep (by first | (simp; done) | (simp; omega)) (by simp [go_sem, l0_12, l1_12, l2_12, l3_12, l4_12, l5_12, c0_1_12])
  have c1_0_13 : w13.cell? ⟨w.heap.size + 1, 0, none⟩ = some (.bool false) := hB13.keep (by first | (simp; done) | (simp; omega)) (by simp [go_sem, l0_12, l1_12, l2_12, l3_12, l4_12, l5_12, c1_0_12])
  have c1_1_13 : w13.cell? ⟨w.heap.size + 1, 1, none⟩ = some (.int .i64 bv) := hB13.keep (by first | (simp; done) | (simp; omega)) (by simp [go_sem, l0_12, l1_12, l2_12, l3_12, l4_12, l5_12, c1_1_12])
  have c2_0_13 : w13.cell? ⟨w.heap.size + 1 + 1, 0, none⟩ = some (.bool false) := hB13.keep (by first | (simp; done) | (simp; omega)) (by simp [go_sem, l0_12, l1_12, l2_12, l3_12, l4_12, l5_12, c2_0_12])
  have c2_1_13 : w13.cell? ⟨w.heap.size + 1 + 1, 1, none⟩ = some (.int .i64 cv) := hB13.keep (by first | (simp; done) | (simp; omega)) (by simp [go_sem, l0_12, l1_12, l2_12, l3_12, l4_12, l5_12, c2_1_12])
  have c3_0_13 : w13.cell? ⟨w7.heap.size, 0, none⟩ = some (.bool false) := hB13.keep (by first | (simp; done) | (simp; omega)) (by simp [go_sem, l0_12, l1_12, l2_12, l3_12, l4_12, l5_12, c3_0_12])
  have c3_1_13 : w13.cell? ⟨w7.heap.size, 1, none⟩ = some (.int .i64 (av + cv)) := hB13.keep (by first | (simp; done) | (simp; omega)) (by simp [go_sem, l0_12, l1_12, l2_12, l3_12, l4_12, l5_12, c3_1_12])
  have c4_0_13 : w13.cell? ⟨w8.heap.size, 0, none⟩ = some (.bool false) := hB13.keep (by first | (simp; done) | (simp; omega)) (by simp [go_sem, l0_12, l1_12, l2_12, l3_12, l4_12, l5_12, c4_0_12])
  have c4_1_13 : w13.cell? ⟨w8.heap.size, 1, none⟩ = some (.int .i64 (bv + cv)) := hB13.keep (by first | (simp; done) | (simp; omega)) (by simp [go_sem, l0_12, l1_12, l2_12, l3_12, l4_12, l5_12, c4_1_12])
  have c5_0_13 : w13.cell? ⟨w11.heap.size, 0, none⟩ = some (.bool false) := hB13.keep (by first | (simp; done) | (simp; omega)) (by simp [go_sem, l0_12, l1_12, l2_12, l3_12, l4_12, l5_12, c5_0_12])
  have c5_1_13 : w13.cell? ⟨w11.heap.size, 1, none⟩ = some (.int .i64 (floorV av)) := hB13.keep (by first | (simp; done) | (simp; omega)) (by simp [go_sem, l0_12, l1_12, l2_12, l3_12, l4_12, l5_12, c5_1_12])
  have c6_0_13 : w13.cell? ⟨w12.heap.size, 0, none⟩ = some (.bool false) := hB13.keep (by first | (simp; done) | (simp; omega)) (by simp [go_sem, l0_12, l1_12, l2_12, l3_12, l4_12, l5_12])
  have c6_1_13 : w13.cell? ⟨w12.heap.size, 1, none⟩ = some (.int .i64 (ceilV av)) := hB13.keep (by first | (simp; done) | (simp; omega)) (by simp [go_sem, l0_12, l1_12, l2_12, l3_12, l4_12, l5_12])
  clear c0_0_12 c0_1_12 c1_0_12 c1_1_12 c2_0_12 c2_1_12 c3_0_12 c3_1_12 c4_0_12 c4_1_12 c5_0_12 c5_1_12 l0_12 l1_12 l2_12 l3_12 l4_12 l5_12
  go_wp2_with fail
  refine (less_any false false (ceilV av) av _).mono ?_
  rw [E9.out]
  rintro e w14 ⟨rfl, hB14⟩
  have hz14 := hB14.size
  have l0_14 : w.heap.size < w14.heap.size := by omega
  have l1_14 : w.heap.size + 1 < w14.heap.size := by omega
  have l2_14 : w.heap.size + 1 + 1 < w14.heap.size := by omega
  have l3_14 : w7.heap.size < w14.heap.size := by omega
  have l4_14 : w8.heap.size < w14.heap.size := by omega
  have l5_14 : w11.heap.size < w14.heap.size := by omega
  have l6_14 : w12.heap.size < w14.heap.size := by omega
  have c0_0_14 : w14.cell? ⟨w.heap.size, 0, none⟩ = some (.bool false) := hB14.keep (by omega) c0_0_13
  have c0_1_14 : w14.cell? ⟨w.heap.size, 1, none⟩ = some (.int .i64 av) := hB14.keep (by omega) c0_1_13
  have c1_0_14 : w14.cell? ⟨w.heap.size + 1, 0, none⟩ = some (.bool false) := hB14.keep (by omega) c1_0_13
  have c1_1_14 : w14.cell? ⟨w.heap.size + 1, 1, none⟩ = some (.int .i64 bv) := hB14.keep (by omega) c1_1_13
  have c2_0_14 : w14.cell? ⟨w.heap.size + 1 + 1, 0, none⟩ = some (.bool false) := hB14.keep (by omega) c2_0_13
  have c2_1_14 : w14.cell? ⟨w.heap.size + 1 + 1, 1, none⟩ = some (.int .i64 cv) := hB14.keep (by omega) c2_1_13
  have c3_0_14 : w14.cell? ⟨w7.heap.size, 0, none⟩ = some (.bool false) := hB14.keep (by omega) c3_0_13
  have c3_1_14 : w14.cell? ⟨w7.heap.size, 1, none⟩ = some (.int .i64 (av + cv)) := hB14.keep (by omega) c3_1_13
  have c4_0_14 : w14.cell? ⟨w8.heap.size, 0, none⟩ = some (.bool false) := hB14.keep (by omega) c4_0_13
  have c4_1_14 : w14.cell? ⟨w8.heap.size, 1, none⟩ = some (.int .i64 (bv + cv)) := hB14.keep (by omega) c4_1_13
  have c5_0_14 : w14.cell? ⟨w11.heap.size, 0, none⟩ = some (.bool false) := hB14.keep (by omega) c5_0_13
  have c5_1_14 : w14.cell? ⟨w11.heap.size, 1, none⟩ = some (.int .i64 (floorV av)) := hB14.keep (by omega) c5_1_13
  have c6_0_14 : w14.cell? ⟨w12.heap.size, 0, none⟩ = some (.bool false) := hB14.keep (by omega) c6_0_13
  have c6_1_14 : w14.cell? ⟨w12.heap.size, 1, none⟩ = some (.int .i64 (ceilV av)) := hB14.keep (by omega) c6_1_13
  clear c0_0_13 c0_1_13 c1_0_13 c1_1_13 c2_0_13 c2_1_13 c3_0_13 c3_1_13 c4_0_13 c4_1_13 c5_0_13 c5_1_13 c6_0_13 c6_1_13 l0_13 l1_13 l2_13 l3_13 l4_13 l5_13 l6_13
  go_wp2_with fail
  go_ret
  refine ⟨rfl, ?_⟩
  repeat (first | exact Ext.refl _ | refine Ext.set ?_ (by dsimp only; omega) _ | refine Ext.alloc ?_ _ | refine Ext.drew ?_ | refine (Ext.trans ?_ (by assumption)))
end Go.Proofs.YtcdpjgdaofgpcaaDoor
