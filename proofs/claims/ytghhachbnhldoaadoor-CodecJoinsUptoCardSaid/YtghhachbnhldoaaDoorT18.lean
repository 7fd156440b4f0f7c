/-
  recensionref16.Path. Helper lemmas; no statement of the seat is proved here.
-/
import Derived.Test.YtghhachbnhldoaaDoorT7
namespace Go.Proofs.YtghhachbnhldoaaDoor
open Go.RowKit
set_option maxRecDepth 100000
set_option linter.unusedVariables false
set_option linter.unusedSimpArgs false

/-- Two paths are the same. -/
def pathB : List Step → List Step → Bool
  | [], [] => true
  | a :: x, b :: y => stepB a b && pathB x y
  | _, _ => false
theorem pathB_ne : ∀ x y : List Step, x.length ≠ y.length → pathB x y = false
  | [], [], h => absurd rfl h
  | [], _ :: _, _ => rfl
  | _ :: _, [], _ => rfl
  | a :: x, b :: y, h => by rw [pathB, pathB_ne x y (by simpa using h), Bool.and_false]
set_option maxHeartbeats 8000000 in
theorem path_any (p q : Nat → Prop) (x y : List Step) (v u : Value) (w : World) (h : Rep w p v (stepsD x)) (k : Rep w q u (stepsD y)) :
    Calls Tryd.prog 37 #[v, u] w fun e w' => e = .returned (.bool (pathB x y)) ∧ Ext w w' := by
  obtain ⟨a, c, rfl, hc1, hc2⟩ := h.count z_step (by omega)
  obtain ⟨b, d, rfl, hd1, hd2⟩ := k.count z_step (by omega)
  obtain ⟨R, hR⟩ : ∃ R, pathB x y = R := ⟨_, rfl⟩
  rw [hR]
  have HR := Lib.hid hR
  by_cases hl : x.length = y.length
  · have hl1 : ((x.length : Int) != (y.length : Int)) = false := by rw [hl]; exact bne_self_eq_false _
    have HL := Lib.hid hl
    clear hR hl
    go_enter Tryd.func37, Tryd.ntmps37
    go_wp2_with fail
    go_loopw [5] (fun t wr => ∃ i : Nat, t = .int .i64 i ∧ i ≤ x.length ∧ Ext w wr ∧ Hid (pathB (x.drop i) (y.drop i) = R)) (fun t _ => downV x.length t)
    case atStart => exact ⟨0, rfl, Nat.zero_le _, Ext.refl _, HR⟩
    case round =>
      obtain ⟨i, rfl, hi, hX, HI⟩ := hrel
      by_cases hlt : i < x.length
      · have hlI : (i : Int) < (x.length : Int) := by omega
        have hi0 : (0 : Int) ≤ (i : Int) := by omega
        have hly : i < y.length := by have := HL.out; omega
        have hyI : (i : Int) < (y.length : Int) := by omega
        obtain ⟨g1, o1, k1, rfl, lb1, _, e10, e11, hr1⟩ := step_at (h.ext hX) i hlt
        obtain ⟨g2, o2, k2, rfl, lb2, _, e20, e21, hr2⟩ := step_at (k.ext hX) i hly
        have HS : Hid (pathB (x.drop i) (y.drop i) = (stepB x[i] y[i] && pathB (x.drop (i + 1)) (y.drop (i + 1)))) := Lib.hid (by rw [drop_one x i hlt, drop_one y i hly, pathB])
        obtain ⟨s, hs⟩ : ∃ s, x[i] = s := ⟨_, rfl⟩
        obtain ⟨t, ht⟩ : ∃ t, y[i] = t := ⟨_, rfl⟩
        rw [hs] at e10 hr1 HS
        rw [ht] at e20 hr2 HS
        have HC := Lib.hid fun W (hE : Ext wr W) => step_any p q s t k1 k2 W (hr1.ext hE) (hr2.ext hE)
        obtain ⟨B, hB⟩ : ∃ B, stepB s t = B := ⟨_, rfl⟩
        rw [hB] at HC HS
        obtain ⟨wz, hwz⟩ : ∃ wz, wz = wr := ⟨_, rfl⟩
        subst hwz
        clear hs ht hB hr1 hr2
        go_wp2_with fail
        refine rg_begin (S := Sx wz) (by kernel_rfl) (Sx.begin _) ?_
        have hS : Sx wz (World.drew wz) := (Sx.begin _)
        refine rg_take 0 (some 17) (.slice (some ⟨g1, o1, none⟩) x.length c) (oi := { dst := some 17, op := Go.Op.move (Go.Operand.tmp 0), type := 48, pos := "ref.go:89", after := #[], guard := none }) rfl rfl (by kernel_rfl) (by kernel_rfl) (by kernel_rfl) (fun _ _ _ h => h) hS (by rfl) (fun w' hs => by rfl) ?_
        simp only [Act.put, List.setIfInBounds_toArray, List.set_cons_zero, List.set_cons_succ]
        refine rg_take 1 (some 18) (.int .i64 i) (oi := { dst := some 18, op := Go.Op.move (Go.Operand.tmp 5), type := 3, pos := "ref.go:89", after := #[], guard := none }) rfl rfl (by kernel_rfl) (by kernel_rfl) (by kernel_rfl) (fun _ _ _ h => h) hS (by rfl) (fun w' hs => by rfl) ?_
        simp only [Act.put, List.setIfInBounds_toArray, List.set_cons_zero, List.set_cons_succ]
        refine rg_take 2 (some 19) (.pointer (some ⟨g1, o1 + i * 2, none⟩)) (oi := { dst := some 19, op := Go.Op.indexAddr 48 (Go.Operand.tmp 17) (Go.Operand.tmp 18), type := 0, pos := "ref.go:89", after := #[{ on := 0, ground := Go.Ground.data }, { on := 1, ground := Go.Ground.data }], guard := none }) rfl rfl (by kernel_rfl) (by kernel_rfl) (by kernel_rfl) (fun _ _ _ h => h) hS (by rfl) (fun w' hs => by first | rfl | go_simp) ?_
        simp only [Act.put, List.setIfInBounds_toArray, List.set_cons_zero, List.set_cons_succ]
        refine rg_take 3 (some 20) (.agg #[.string (bs s.n), k1]) (oi := { dst := some 20, op := Go.Op.load 47 (Go.Operand.tmp 19), type := 47, pos := "ref.go:89", after := #[{ on := 2, ground := Go.Ground.data }], guard := none }) rfl rfl (by kernel_rfl) (by kernel_rfl) (by kernel_rfl) (fun _ _ _ h => h) hS (by rfl) (fun w' hs => by (have h0 := hs.cell lb1 e10; have h1 := hs.cell lb1 e11; go_simp)) ?_
        simp only [Act.put, List.setIfInBounds_toArray, List.set_cons_zero, List.set_cons_succ]
        refine rg_take 4 (some 21) (.slice (some ⟨g2, o2, none⟩) y.length d) (oi := { dst := some 21, op := Go.Op.move (Go.Operand.tmp 1), type := 48, pos := "ref.go:89", after := #[], guard := none }) rfl rfl (by kernel_rfl) (by kernel_rfl) (by kernel_rfl) (fun _ _ _ h => h) hS (by rfl) (fun w' hs => by rfl) ?_
        simp only [Act.put, List.setIfInBounds_toArray, List.set_cons_zero, List.set_cons_succ]
        refine rg_take 5 (some 22) (.int .i64 i) (oi := { dst := some 22, op := Go.Op.move (Go.Operand.tmp 5), type := 3, pos := "ref.go:89", after := #[], guard := none }) rfl rfl (by kernel_rfl) (by kernel_rfl) (by kernel_rfl) (fun _ _ _ h => h) hS (by rfl) (fun w' hs => by rfl) ?_
        simp only [Act.put, List.setIfInBounds_toArray, List.set_cons_zero, List.set_cons_succ]
        refine rg_take 6 (some 23) (.pointer (some ⟨g2, o2 + i * 2, none⟩)) (oi := { dst := some 23, op := Go.Op.indexAddr 48 (Go.Operand.tmp 21) (Go.Operand.tmp 22), type := 0, pos := "ref.go:89", after := #[{ on := 4, ground := Go.Ground.data }, { on := 5, ground := Go.Ground.data }], guard := none }) rfl rfl (by kernel_rfl) (by kernel_rfl) (by kernel_rfl) (fun _ _ _ h => h) hS (by rfl) (fun w' hs => by first | rfl | go_simp) ?_
        simp only [Act.put, List.setIfInBounds_toArray, List.set_cons_zero, List.set_cons_succ]
        refine rg_take 7 (some 24) (.agg #[.string (bs t.n), k2]) (oi := { dst := some 24, op := Go.Op.load 47 (Go.Operand.tmp 23), type := 47, pos := "ref.go:89", after := #[{ on := 6, ground := Go.Ground.data }], guard := none }) rfl rfl (by kernel_rfl) (by kernel_rfl) (by kernel_rfl) (fun _ _ _ h => h) hS (by rfl) (fun w' hs => by (have h0 := hs.cell lb2 e20; have h1 := hs.cell lb2 e21; go_simp)) ?_
        simp only [Act.put, List.setIfInBounds_toArray, List.set_cons_zero, List.set_cons_succ]
        refine rg_call 8 (some 25) 64 #[.agg #[.string (bs s.n), k1], .agg #[.string (bs t.n), k2]] (oi := { dst := some 25, op := Go.Op.call { callee := Go.Callee.value (Go.Operand.func 64), args := #[Go.Operand.tmp 20, Go.Operand.tmp 24], argTypes := #[47, 47] }, type := 4, pos := "ref.go:89", after := #[{ on := 3, ground := Go.Ground.data }, { on := 7, ground := Go.Ground.data }], guard := none }) rfl rfl (by kernel_rfl) (by rfl) (fun w' => by first | rfl | go_simp) (R := fun v w' => v = .bool B ∧ Ext (World.drew wz) w') ?_ ?_
        · refine (HC.out (World.drew wz) hS).mono ?_
          rintro e w' ⟨rfl, h⟩
          exact ⟨_, rfl, rfl, h⟩
        rintro _ wr1 ⟨rfl, hBr1⟩
        have hS1 := hS.ext hBr1
        refine ⟨hS1, ?_⟩
        simp only [Act.put, List.setIfInBounds_toArray, List.set_cons_zero, List.set_cons_succ]
        refine rg_take 9 (some 26) (.bool (!B)) (oi := { dst := some 26, op := Go.Op.unOp Go.UnOp.not 4 (Go.Operand.tmp 25), type := 4, pos := "ref.go:89", after := #[{ on := 8, ground := Go.Ground.data }], guard := none }) rfl rfl (by kernel_rfl) (by kernel_rfl) (by kernel_rfl) (fun _ _ _ h => h) hS1 (by rfl) (fun w' hs => by first | rfl | go_simp) ?_
        simp only [Act.put, List.setIfInBounds_toArray, List.set_cons_zero, List.set_cons_succ]
        refine rg_done (by kernel_rfl) ?_
        cases B with
        | true =>
          have HN : Hid (pathB (x.drop (i + 1)) (y.drop (i + 1)) = R) := Lib.hid (by rw [← HI.out, HS.out]; rfl)
          clear HS HI
          go_wp2_with fail
          go_roundw
          case rel => exact ⟨i + 1, by go_num, by omega, hX.trans hS1, HN⟩
          case measure => simp only [downV]; omega
        | false =>
          have HN : Hid (false = R) := Lib.hid (by rw [← HI.out, HS.out]; rfl)
          clear HS HI
          go_wp2_with fail
          go_ret
          exact ⟨ret_bool HN.out, hX.trans hS1⟩
      · have hlI : ¬ (i : Int) < (x.length : Int) := by omega
        have HN : Hid (true = R) := Lib.hid (by
          have := HI.out
          rw [List.drop_of_length_le (by omega), List.drop_of_length_le (by have := HL.out; omega)] at this
          exact this)
        clear HI
        go_wp2_with fail
        go_ret
        exact ⟨ret_bool HN.out, hX⟩
  · have hl1 : ((x.length : Int) != (y.length : Int)) = true := by rw [bne_iff_ne]; omega
    have HN : Hid (false = R) := Lib.hid (by rw [← hR, pathB_ne x y hl])
    clear hR hl HR
    go_enter Tryd.func37, Tryd.ntmps37
    go_wp2_with fail
    go_ret
    exact ⟨ret_bool HN.out, Ext.refl _⟩

end Go.Proofs.YtghhachbnhldoaaDoor
