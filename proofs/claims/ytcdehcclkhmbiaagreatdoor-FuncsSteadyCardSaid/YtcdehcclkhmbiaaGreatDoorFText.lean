/-
  A function's argument as a text and as a number: (*caller).text, (*caller).number. Helper lemmas; no statement of the seat is proved here.
-/
import Derived.Test.YtcdehcclkhmbiaaGreatDoorFArg
import Derived.Test.YtcdehcclkhmbiaaGreatDoorRegion
namespace Go.Proofs.YtcdehcclkhmbiaaGreatDoor
open Go.RowKit
set_option maxRecDepth 100000
set_option linter.unusedVariables false
set_option linter.unusedSimpArgs false

set_option maxHeartbeats 4000000 in
theorem ctext_any (q : Nat) (ta : Option Addr) (tn tc : Nat) (c0 c1 c2 c3 : Int) (ab n cp i : Nat) (k : Int) (b nn : Bool) (nv : Int) (s : ByteArray) (w : World) (hi : i < n) (hn : n ≤ 1000000)
    (hC : CallerAt w q (.slice ta tn tc) c0 c1 c2 c3 (.slice (some ⟨ab, 0, none⟩) n cp)) (hA : ArgAt w ab i k b nn nv s) (R : ByteArray)
    (HV : Hid (∀ W, Ext w W → Calls Tryz.prog 68 #[.slice ta tn tc, valV k b nn nv s] W fun e w' => e = .returned (.string R) ∧ Ext W w')) :
    Calls Tryz.prog 27 #[.pointer (some ⟨q, 0, none⟩), .int .i64 i] w fun e w' => e = .returned (.string R) ∧ Ext w w' := by
  go_enter Tryz.func27, Tryz.ntmps27
  go_wp2_with fail
  refine rg_begin (S := Sx w) (by kernel_rfl) (Sx.begin _) ?_
  have hS : Sx w (World.drew w) := (Sx.begin _)
  refine rg_take 0 (some 5) (.pointer (some ⟨q, 0, none⟩)) (oi := { dst := some 5, op := Go.Op.move (Go.Operand.tmp 0), type := 53, pos := "funcs.go:54", after := #[], guard := none }) rfl rfl (by kernel_rfl) (by kernel_rfl) (by kernel_rfl) (fun _ _ _ h => h) hS (by rfl) (fun w' hs => by rfl) ?_
  simp only [Act.put, List.setIfInBounds_toArray, List.set_cons_zero, List.set_cons_succ]
  refine rg_take 1 (some 6) (.pointer (some ⟨q, 0, none⟩)) (oi := { dst := some 6, op := Go.Op.nilCheck (Go.Operand.tmp 5), type := 0, pos := "funcs.go:54", after := #[{ on := 0, ground := Go.Ground.data }], guard := none }) rfl rfl (by kernel_rfl) (by kernel_rfl) (by kernel_rfl) (fun _ _ _ h => h) hS (by rfl) (fun w' hs => by first | rfl | go_simp) ?_
  simp only [Act.put, List.setIfInBounds_toArray, List.set_cons_zero, List.set_cons_succ]
  refine rg_take 2 (some 7) (.pointer (some ⟨q, 0, none⟩)) (oi := { dst := some 7, op := Go.Op.fieldAddr 55 (Go.Operand.tmp 6) 0, type := 0, pos := "funcs.go:54", after := #[{ on := 1, ground := Go.Ground.data }], guard := none }) rfl rfl (by kernel_rfl) (by kernel_rfl) (by kernel_rfl) (fun _ _ _ h => h) hS (by rfl) (fun w' hs => by first | rfl | go_simp) ?_
  simp only [Act.put, List.setIfInBounds_toArray, List.set_cons_zero, List.set_cons_succ]
  refine rg_take 3 (some 8) (.slice ta tn tc) (oi := { dst := some 8, op := Go.Op.load 45 (Go.Operand.tmp 7), type := 45, pos := "funcs.go:54", after := #[{ on := 2, ground := Go.Ground.data }], guard := none }) rfl rfl (by kernel_rfl) (by kernel_rfl) (by kernel_rfl) (fun _ _ _ h => h) hS (by rfl) (fun w' hs => by (have h0 := hs.cell hC.lt hC.t; go_simp)) ?_
  simp only [Act.put, List.setIfInBounds_toArray, List.set_cons_zero, List.set_cons_succ]
  refine rg_take 4 (some 9) (.pointer (some ⟨q, 0, none⟩)) (oi := { dst := some 9, op := Go.Op.move (Go.Operand.tmp 0), type := 53, pos := "funcs.go:54", after := #[], guard := none }) rfl rfl (by kernel_rfl) (by kernel_rfl) (by kernel_rfl) (fun _ _ _ h => h) hS (by rfl) (fun w' hs => by rfl) ?_
  simp only [Act.put, List.setIfInBounds_toArray, List.set_cons_zero, List.set_cons_succ]
  refine rg_take 5 (some 10) (.int .i64 i) (oi := { dst := some 10, op := Go.Op.move (Go.Operand.tmp 1), type := 3, pos := "funcs.go:54", after := #[], guard := none }) rfl rfl (by kernel_rfl) (by kernel_rfl) (by kernel_rfl) (fun _ _ _ h => h) hS (by rfl) (fun w' hs => by rfl) ?_
  simp only [Act.put, List.setIfInBounds_toArray, List.set_cons_zero, List.set_cons_succ]
  refine rg_call 6 (some 11) 69 #[.pointer (some ⟨q, 0, none⟩), .int .i64 i] (oi := { dst := some 11, op := Go.Op.call { callee := Go.Callee.value (Go.Operand.func 69), args := #[Go.Operand.tmp 9, Go.Operand.tmp 10], argTypes := #[53, 3] }, type := 28, pos := "funcs.go:54", after := #[{ on := 4, ground := Go.Ground.data }, { on := 5, ground := Go.Ground.data }], guard := none }) rfl rfl (by kernel_rfl) (by rfl) (fun w' => by first | rfl | go_simp) (R := fun v w' => v = valV k b nn nv s ∧ Ext (World.drew w) w') ?_ ?_
  · refine (arg_any q _ c0 c1 c2 c3 ab n cp i k b nn nv s (World.drew w) hi hn (CallerAt.ext hC hS) (ArgAt.ext hA hS)).mono ?_
    rintro e w' ⟨rfl, h⟩
    exact ⟨_, rfl, rfl, h⟩
  rintro _ wr1 ⟨rfl, hBr1⟩
  have hS1 := hS.ext hBr1
  refine ⟨hS1, ?_⟩
  simp only [Act.put, List.setIfInBounds_toArray, List.set_cons_zero, List.set_cons_succ]
  refine rg_call 7 (some 12) 68 #[.slice ta tn tc, valV k b nn nv s] (oi := { dst := some 12, op := Go.Op.call { callee := Go.Callee.value (Go.Operand.func 68), args := #[Go.Operand.tmp 8, Go.Operand.tmp 11], argTypes := #[45, 28] }, type := 9, pos := "funcs.go:54", after := #[{ on := 3, ground := Go.Ground.data }, { on := 6, ground := Go.Ground.data }, { on := 6, ground := Go.Ground.chain }], guard := none }) rfl rfl (by kernel_rfl) (by rfl) (fun w' => by first | rfl | go_simp) (R := fun v w' => v = .string R ∧ Ext wr1 w') ?_ ?_
  · refine (HV.out wr1 hS1).mono ?_
    rintro e w' ⟨rfl, h⟩
    exact ⟨_, rfl, rfl, h⟩
  rintro _ wr2 ⟨rfl, hBr2⟩
  have hS2 := hS1.ext hBr2
  refine ⟨hS2, ?_⟩
  simp only [Act.put, List.setIfInBounds_toArray, List.set_cons_zero, List.set_cons_succ]
  refine rg_take 8 (some 4) (.string R) (oi := { dst := some 4, op := Go.Op.assign (Go.Operand.tmp 12), type := 9, pos := "funcs.go:54", after := #[{ on := 7, ground := Go.Ground.data }, { on := 7, ground := Go.Ground.chain }, { on := 0, ground := Go.Ground.phase }, { on := 1, ground := Go.Ground.phase }, { on := 2, ground := Go.Ground.phase }, { on := 3, ground := Go.Ground.phase }, { on := 4, ground := Go.Ground.phase }, { on := 5, ground := Go.Ground.phase }, { on := 6, ground := Go.Ground.phase }, { on := 7, ground := Go.Ground.phase }], guard := none }) rfl rfl (by kernel_rfl) (by kernel_rfl) (by kernel_rfl) (fun _ _ _ h => h) hS2 (by rfl) (fun w' hs => by rfl) ?_
  simp only [Act.put, List.setIfInBounds_toArray, List.set_cons_zero, List.set_cons_succ]
  refine rg_done (by kernel_rfl) ?_
  go_wp2_with fail
  go_ret
  exact ⟨rfl, hS2⟩
set_option maxHeartbeats 4000000 in
theorem cnumber_any (q : Nat) (ta : Option Addr) (tn tc : Nat) (c0 c1 c2 c3 : Int) (ab n cp i : Nat) (k : Int) (b nn : Bool) (nv : Int) (s : ByteArray) (w : World) (hi : i < n) (hn : n ≤ 1000000)
    (hC : CallerAt w q (.slice ta tn tc) c0 c1 c2 c3 (.slice (some ⟨ab, 0, none⟩) n cp)) (hA : ArgAt w ab i k b nn nv s) (r1 : Bool) (r2 r3 : Int)
    (HV : Hid (∀ W, Ext w W → Calls Tryz.prog 99 #[.slice ta tn tc, valV k b nn nv s] W fun e w' => e = .returned (.tuple #[.agg #[.bool r1, .int .i64 r2], .int .i64 r3]) ∧ Ext W w')) :
    Calls Tryz.prog 74 #[.pointer (some ⟨q, 0, none⟩), .int .i64 i] w fun e w' => e = .returned (.tuple #[.agg #[.bool r1, .int .i64 r2], .int .i64 r3]) ∧ Ext w w' := by
  go_enter Tryz.func74, Tryz.ntmps74
  go_wp2_with fail
  obtain ⟨w1, hW⟩ : ∃ wz, w.alloc (.cells #[.bool false, .int .i64 0] 26) = wz := ⟨_, rfl⟩
  have hX : Ext w w1 := by rw [← hW]; exact (Ext.refl _).alloc _
  have l1 : w.heap.size < w1.heap.size := by rw [← hW]; simp
  have e0 : w1.cell? ⟨w.heap.size, 0, none⟩ = some (.bool false) := by rw [← hW]; simp [go_sem]
  have e1 : w1.cell? ⟨w.heap.size, 1, none⟩ = some (.int .i64 0) := by rw [← hW]; simp [go_sem]
  have z0 : w1.frozen? ⟨w.heap.size, 0, none⟩ = false := by rw [← hW]; simp [go_sem]
  have z1 : w1.frozen? ⟨w.heap.size, 1, none⟩ = false := by rw [← hW]; simp [go_sem]
  rw [hW]
  clear hW
  refine rg_begin (S := Sx w) (by kernel_rfl) hX.drew ?_
  have hS : Sx w (World.drew w1) := hX.drew
  refine rg_take 0 (some 6) (.pointer (some ⟨q, 0, none⟩)) (oi := { dst := some 6, op := Go.Op.move (Go.Operand.tmp 0), type := 53, pos := "funcs.go:57", after := #[], guard := none }) rfl rfl (by kernel_rfl) (by kernel_rfl) (by kernel_rfl) (fun _ _ _ h => h) hS (by rfl) (fun w' hs => by rfl) ?_
  simp only [Act.put, List.setIfInBounds_toArray, List.set_cons_zero, List.set_cons_succ]
  refine rg_take 1 (some 7) (.pointer (some ⟨q, 0, none⟩)) (oi := { dst := some 7, op := Go.Op.nilCheck (Go.Operand.tmp 6), type := 0, pos := "funcs.go:57", after := #[{ on := 0, ground := Go.Ground.data }], guard := none }) rfl rfl (by kernel_rfl) (by kernel_rfl) (by kernel_rfl) (fun _ _ _ h => h) hS (by rfl) (fun w' hs => by first | rfl | go_simp) ?_
  simp only [Act.put, List.setIfInBounds_toArray, List.set_cons_zero, List.set_cons_succ]
  refine rg_take 2 (some 8) (.pointer (some ⟨q, 0, none⟩)) (oi := { dst := some 8, op := Go.Op.fieldAddr 55 (Go.Operand.tmp 7) 0, type := 0, pos := "funcs.go:57", after := #[{ on := 1, ground := Go.Ground.data }], guard := none }) rfl rfl (by kernel_rfl) (by kernel_rfl) (by kernel_rfl) (fun _ _ _ h => h) hS (by rfl) (fun w' hs => by first | rfl | go_simp) ?_
  simp only [Act.put, List.setIfInBounds_toArray, List.set_cons_zero, List.set_cons_succ]
  refine rg_take 3 (some 9) (.slice ta tn tc) (oi := { dst := some 9, op := Go.Op.load 45 (Go.Operand.tmp 8), type := 45, pos := "funcs.go:57", after := #[{ on := 2, ground := Go.Ground.data }], guard := none }) rfl rfl (by kernel_rfl) (by kernel_rfl) (by kernel_rfl) (fun _ _ _ h => h) hS (by rfl) (fun w' hs => by (have h0 := hs.cell hC.lt hC.t; go_simp)) ?_
  simp only [Act.put, List.setIfInBounds_toArray, List.set_cons_zero, List.set_cons_succ]
  refine rg_take 4 (some 10) (.pointer (some ⟨q, 0, none⟩)) (oi := { dst := some 10, op := Go.Op.move (Go.Operand.tmp 0), type := 53, pos := "funcs.go:57", after := #[], guard := none }) rfl rfl (by kernel_rfl) (by kernel_rfl) (by kernel_rfl) (fun _ _ _ h => h) hS (by rfl) (fun w' hs => by rfl) ?_
  simp only [Act.put, List.setIfInBounds_toArray, List.set_cons_zero, List.set_cons_succ]
  refine rg_take 5 (some 11) (.int .i64 i) (oi := { dst := some 11, op := Go.Op.move (Go.Operand.tmp 1), type := 3, pos := "funcs.go:57", after := #[], guard := none }) rfl rfl (by kernel_rfl) (by kernel_rfl) (by kernel_rfl) (fun _ _ _ h => h) hS (by rfl) (fun w' hs => by rfl) ?_
  simp only [Act.put, List.setIfInBounds_toArray, List.set_cons_zero, List.set_cons_succ]
  refine rg_call 6 (some 12) 69 #[.pointer (some ⟨q, 0, none⟩), .int .i64 i] (oi := { dst := some 12, op := Go.Op.call { callee := Go.Callee.value (Go.Operand.func 69), args := #[Go.Operand.tmp 10, Go.Operand.tmp 11], argTypes := #[53, 3] }, type := 28, pos := "funcs.go:57", after := #[{ on := 4, ground := Go.Ground.data }, { on := 5, ground := Go.Ground.data }], guard := none }) rfl rfl (by kernel_rfl) (by rfl) (fun w' => by first | rfl | go_simp) (R := fun v w' => v = valV k b nn nv s ∧ Ext (World.drew w1) w') ?_ ?_
  · refine (arg_any q _ c0 c1 c2 c3 ab n cp i k b nn nv s (World.drew w1) hi hn (CallerAt.ext hC hS) (ArgAt.ext hA hS)).mono ?_
    rintro e w' ⟨rfl, h⟩
    exact ⟨_, rfl, rfl, h⟩
  rintro _ wr1 ⟨rfl, hBr1⟩
  have hS1 := hS.ext hBr1
  refine ⟨hS1, ?_⟩
  simp only [Act.put, List.setIfInBounds_toArray, List.set_cons_zero, List.set_cons_succ]
  refine rg_call 7 (some 13) 99 #[.slice ta tn tc, valV k b nn nv s] (oi := { dst := some 13, op := Go.Op.call { callee := Go.Callee.value (Go.Operand.func 99), args := #[Go.Operand.tmp 9, Go.Operand.tmp 12], argTypes := #[45, 28] }, type := 77, pos := "funcs.go:57", after := #[{ on := 3, ground := Go.Ground.data }, { on := 6, ground := Go.Ground.data }, { on := 6, ground := Go.Ground.chain }], guard := none }) rfl rfl (by kernel_rfl) (by rfl) (fun w' => by first | rfl | go_simp) (R := fun v w' => v = .tuple #[.agg #[.bool r1, .int .i64 r2], .int .i64 r3] ∧ Ext wr1 w') ?_ ?_
  · refine (HV.out wr1 hS1).mono ?_
    rintro e w' ⟨rfl, h⟩
    exact ⟨_, rfl, rfl, h⟩
  rintro _ wr2 ⟨rfl, hBr2⟩
  have hS2 := hS1.ext hBr2
  refine ⟨hS2, ?_⟩
  simp only [Act.put, List.setIfInBounds_toArray, List.set_cons_zero, List.set_cons_succ]
  refine rg_take 8 (some 14) (.agg #[.bool r1, .int .i64 r2]) (oi := { dst := some 14, op := Go.Op.extract (Go.Operand.tmp 13) 0, type := 26, pos := "funcs.go:57", after := #[{ on := 7, ground := Go.Ground.data }], guard := none }) rfl rfl (by kernel_rfl) (by kernel_rfl) (by kernel_rfl) (fun _ _ _ h => h) hS2 (by rfl) (fun w' hs => by first | rfl | go_simp) ?_
  simp only [Act.put, List.setIfInBounds_toArray, List.set_cons_zero, List.set_cons_succ]
  refine rg_take 9 (some 15) (.int .i64 r3) (oi := { dst := some 15, op := Go.Op.extract (Go.Operand.tmp 13) 1, type := 29, pos := "funcs.go:57", after := #[{ on := 7, ground := Go.Ground.data }], guard := none }) rfl rfl (by kernel_rfl) (by kernel_rfl) (by kernel_rfl) (fun _ _ _ h => h) hS2 (by rfl) (fun w' hs => by first | rfl | go_simp) ?_
  simp only [Act.put, List.setIfInBounds_toArray, List.set_cons_zero, List.set_cons_succ]
  have hY : Ext w1 wr2 := ((Ext.refl w1).drew.trans hBr1).trans hBr2
  have e0' := hY.keep l1 e0; have e1' := hY.keep l1 e1; have z0' := hY.free l1 z0; have z1' := hY.free l1 z1
  refine rg_write 10 none ((wr2.setCell ⟨w.heap.size, 0, none⟩ (.bool r1)).setCell ⟨w.heap.size, 1, none⟩ (.int .i64 r2)) (oi := { dst := none, op := Go.Op.store 26 (Go.Operand.tmp 4) (Go.Operand.tmp 14), type := 0, pos := "funcs.go:57", after := #[{ on := 8, ground := Go.Ground.data }, { on := 7, ground := Go.Ground.chain }, { on := 0, ground := Go.Ground.phase }, { on := 1, ground := Go.Ground.phase }, { on := 2, ground := Go.Ground.phase }, { on := 3, ground := Go.Ground.phase }, { on := 4, ground := Go.Ground.phase }, { on := 5, ground := Go.Ground.phase }, { on := 6, ground := Go.Ground.phase }, { on := 7, ground := Go.Ground.phase }, { on := 8, ground := Go.Ground.phase }, { on := 9, ground := Go.Ground.phase }], guard := none }) rfl rfl (by kernel_rfl) (by rfl) (by go_simp) ?_ ?_
  · exact Ext.set (Ext.set (hS2) (by dsimp only; omega) _) (by dsimp only; omega) _
  have hSw1 : Sx w ((wr2.setCell ⟨w.heap.size, 0, none⟩ (.bool r1)).setCell ⟨w.heap.size, 1, none⟩ (.int .i64 r2)) := Ext.set (Ext.set (hS2) (by dsimp only; omega) _) (by dsimp only; omega) _
  simp only [Act.put, List.setIfInBounds_toArray, List.set_cons_zero, List.set_cons_succ]
  refine rg_take 11 (some 5) (.int .i64 r3) (oi := { dst := some 5, op := Go.Op.assign (Go.Operand.tmp 15), type := 29, pos := "funcs.go:57", after := #[{ on := 9, ground := Go.Ground.data }, { on := 10, ground := Go.Ground.chain }, { on := 0, ground := Go.Ground.phase }, { on := 1, ground := Go.Ground.phase }, { on := 2, ground := Go.Ground.phase }, { on := 3, ground := Go.Ground.phase }, { on := 4, ground := Go.Ground.phase }, { on := 5, ground := Go.Ground.phase }, { on := 6, ground := Go.Ground.phase }, { on := 7, ground := Go.Ground.phase }, { on := 8, ground := Go.Ground.phase }, { on := 9, ground := Go.Ground.phase }, { on := 10, ground := Go.Ground.phase }], guard := none }) rfl rfl (by kernel_rfl) (by kernel_rfl) (by kernel_rfl) (fun _ _ _ h => h) hSw1 (by rfl) (fun w' hs => by rfl) ?_
  simp only [Act.put, List.setIfInBounds_toArray, List.set_cons_zero, List.set_cons_succ]
  refine rg_done (by kernel_rfl) ?_
  go_wp2_with fail
  refine bodyPost_ret (v := .tuple #[.agg #[.bool r1, .int .i64 r2], .int .i64 r3]) (by simp [results, Tryz.results74, go_sem, e0', e1', z0', z1']) rfl ⟨rfl, ?_⟩
  exact hSw1
end Go.Proofs.YtcdehcclkhmbiaaGreatDoor
