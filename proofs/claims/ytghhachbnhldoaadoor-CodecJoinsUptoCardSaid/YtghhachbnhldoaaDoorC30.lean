/-
  ref17.Small. Helper lemmas; no statement of the seat is proved here.
-/
import Derived.Test.YtghhachbnhldoaaDoorC29
namespace Go.Proofs.YtghhachbnhldoaaDoor
open Go.RowKit
set_option maxRecDepth 100000
set_option linter.unusedVariables false
set_option linter.unusedSimpArgs false

set_option maxHeartbeats 16000000 in
theorem esmall_any (l : List Edit) (p : Nat → Prop) (v : Value) (w : World) (hv : Rep w p v (editsD l)) (hR : l.length ≤ 1000000000000) (hcnt : ∀ x ∈ l, cntN x.node ≤ 1048576 ∧ cntN (.mk 0 [] [] x.attrs x.kids) ≤ 1048576) :
    Calls Tryd.prog 5 #[v] w fun e w' => SomeB (fun b => b = true → l.length ≤ 41) e ∧ Ext w w' := by
  obtain ⟨a, c, rfl, _, _⟩ := hv.count z_edit (by omega)
  have hv_at := fun i (hi : i < l.length) => edit_at hv i hi
  go_enter Tryd.func5, Tryd.ntmps5
  go_wp2_with fail
  go_loopw [3] (fun t wr => ∃ i : Nat, t = .int .i64 i ∧ i ≤ l.length ∧ i ≤ 41 ∧ Ext w wr) (fun t _ => downV l.length t)
  case atStart => exact ⟨0, rfl, Nat.zero_le _, by omega, Ext.refl _⟩
  case round =>
    obtain ⟨i, rfl, hi, hi41, hX⟩ := hrel
    have hi0 : (0 : Int) ≤ (i : Int) := by omega
    have hi12 : (i : Int) ≤ 41 := by omega
    by_cases hlt : i < l.length
    · have hlI : (i : Int) < (l.length : Int) := by omega
      obtain ⟨gl, ol, y1, y2, y3, y7, y8, hgl, lgl, _, d0, d1, d2, d3, d4, d5, d6, d7, d8, h1u, h2u, h3u, h7u, h8u⟩ := hv_at i hlt
      subst hgl
      have hcx := hcnt _ (List.getElem_mem hlt)
      obtain ⟨x, hx⟩ : ∃ x, l[i] = x := ⟨_, rfl⟩
      rw [hx] at hcx d0 d4 d5 d6 h1u h2u h3u h7u h8u
      have HP1 := Lib.hid fun W (hE : Ext wr W) => psmall_any p x.path _ W ((h1u.ext hX).ext hE)
      have HP2 := Lib.hid fun W (hE : Ext wr W) => (bigsmall_any 1000 (by decide) x.node p _ _ W hcx.1 ((h7u.ext hX).ext hE) ((h8u.ext hX).ext hE)).mono fun e w' h => (⟨⟨_, h.1, trivial⟩, h.2⟩ : (∃ b : Bool, e = .returned (.bool b) ∧ True) ∧ Ext W w')
      have HP3 := Lib.hid fun W (hE : Ext wr W) => (bigsmall_any 1000 (by decide) (.mk 0 [] [] x.attrs x.kids) p _ _ W hcx.2 ((h2u.ext hX).ext hE) ((h3u.ext hX).ext hE)).mono fun e w' h => (⟨⟨_, h.1, trivial⟩, h.2⟩ : (∃ b : Bool, e = .returned (.bool b) ∧ True) ∧ Ext W w')
      obtain ⟨pa, pc, rfl, _, _⟩ := h1u.count z_step (by omega)
      obtain ⟨ka, kc, rfl, _, _⟩ := h2u.count z_attr (by omega)
      obtain ⟨na, nc, rfl, _, _⟩ := h3u.count z_node (by omega)
      obtain ⟨ma, mc, rfl, _, _⟩ := h7u.count z_attr (by omega)
      obtain ⟨qa, qc, rfl, _, _⟩ := h8u.count z_node (by omega)
      have lgr : gl < wr.heap.size := Nat.lt_of_lt_of_le lgl hX.size
      have n0 := hX.keep lgl d0
      have n1 := hX.keep lgl d1
      have n2 := hX.keep lgl d2
      have n3 := hX.keep lgl d3
      have n4 := hX.keep lgl d4
      have n5 := hX.keep lgl d5
      have n6 := hX.keep lgl d6
      have n7 := hX.keep lgl d7
      have n8 := hX.keep lgl d8
      clear hx h1u h2u h3u h7u h8u d0 d1 d2 d3 d4 d5 d6 d7 d8
      by_cases hg : 40 < i
      · have hg40 : (40 : Int) < (i : Int) := by omega
        go_wp2_with fail
        refine rg_begin (S := Sx wr) (by kernel_rfl) (Sx.begin _) ?_
        have hSq : Sx wr (World.drew wr) := (Sx.begin _)
        refine rg_take 0 (some 10) (.int .i64 i) (oi := { dst := some 10, op := Go.Op.move (Go.Operand.tmp 3), type := 3, pos := "ref.go:214", after := #[], guard := none }) rfl rfl (by kernel_rfl) (by kernel_rfl) (by kernel_rfl) (fun _ _ _ h => h) hSq (by rfl) (fun w' hs => by rfl) ?_
        simp only [Act.put, List.setIfInBounds_toArray, List.set_cons_zero, List.set_cons_succ]
        refine rg_take 1 (some 11) (.bool true) (oi := { dst := some 11, op := Go.Op.binOp Go.BinOp.gtr 3 (Go.Operand.tmp 10) (Go.Operand.const (Go.Value.int Go.IntKind.i64 40)) 3, type := 4, pos := "ref.go:214", after := #[{ on := 0, ground := Go.Ground.data }], guard := none }) rfl rfl (by kernel_rfl) (by kernel_rfl) (by kernel_rfl) (fun _ _ _ h => h) hSq (by rfl) (fun w' hs => by (go_simp; try simp [hg40])) ?_
        simp only [Act.put, List.setIfInBounds_toArray, List.set_cons_zero, List.set_cons_succ]
        refine rg_take 2 (some 12) (.bool true) (oi := { dst := some 12, op := Go.Op.move (Go.Operand.tmp 11), type := 4, pos := "ref.go:214", after := #[{ on := 1, ground := Go.Ground.data }], guard := none }) rfl rfl (by kernel_rfl) (by kernel_rfl) (by kernel_rfl) (fun _ _ _ h => h) hSq (by rfl) (fun w' hs => by rfl) ?_
        simp only [Act.put, List.setIfInBounds_toArray, List.set_cons_zero, List.set_cons_succ]
        refine rg_skip 3 (some 13) (oi := { dst := some 13, op := Go.Op.move (Go.Operand.tmp 0), type := 22, pos := "ref.go:214", after := #[{ on := 2, ground := Go.Ground.guard }], guard := some (2, false) }) rfl rfl (by kernel_rfl) (by kernel_rfl) (by kernel_rfl) (fun _ _ _ h => h) hSq (by rfl) ?_
        simp only [Act.put, List.setIfInBounds_toArray, List.set_cons_zero, List.set_cons_succ]
        refine rg_skip 4 (some 14) (oi := { dst := some 14, op := Go.Op.move (Go.Operand.tmp 3), type := 3, pos := "ref.go:214", after := #[{ on := 2, ground := Go.Ground.guard }], guard := some (2, false) }) rfl rfl (by kernel_rfl) (by kernel_rfl) (by kernel_rfl) (fun _ _ _ h => h) hSq (by rfl) ?_
        simp only [Act.put, List.setIfInBounds_toArray, List.set_cons_zero, List.set_cons_succ]
        refine rg_skip 5 (some 15) (oi := { dst := some 15, op := Go.Op.indexAddr 22 (Go.Operand.tmp 13) (Go.Operand.tmp 14), type := 0, pos := "ref.go:214", after := #[{ on := 3, ground := Go.Ground.data }, { on := 4, ground := Go.Ground.data }, { on := 2, ground := Go.Ground.guard }], guard := some (2, false) }) rfl rfl (by kernel_rfl) (by kernel_rfl) (by kernel_rfl) (fun _ _ _ h => h) hSq (by rfl) ?_
        simp only [Act.put, List.setIfInBounds_toArray, List.set_cons_zero, List.set_cons_succ]
        refine rg_skip 6 (some 16) (oi := { dst := some 16, op := Go.Op.fieldAddr 54 (Go.Operand.tmp 15) 1, type := 0, pos := "ref.go:214", after := #[{ on := 5, ground := Go.Ground.data }, { on := 2, ground := Go.Ground.guard }], guard := some (2, false) }) rfl rfl (by kernel_rfl) (by kernel_rfl) (by kernel_rfl) (fun _ _ _ h => h) hSq (by rfl) ?_
        simp only [Act.put, List.setIfInBounds_toArray, List.set_cons_zero, List.set_cons_succ]
        refine rg_skip 7 (some 17) (oi := { dst := some 17, op := Go.Op.load 48 (Go.Operand.tmp 16), type := 48, pos := "ref.go:214", after := #[{ on := 6, ground := Go.Ground.data }, { on := 2, ground := Go.Ground.guard }], guard := some (2, false) }) rfl rfl (by kernel_rfl) (by kernel_rfl) (by kernel_rfl) (fun _ _ _ h => h) hSq (by rfl) ?_
        simp only [Act.put, List.setIfInBounds_toArray, List.set_cons_zero, List.set_cons_succ]
        refine rg_skip 8 (some 18) (oi := { dst := some 18, op := Go.Op.call { callee := Go.Callee.value (Go.Operand.func 14), args := #[Go.Operand.tmp 17], argTypes := #[48] }, type := 4, pos := "ref.go:214", after := #[{ on := 7, ground := Go.Ground.data }, { on := 2, ground := Go.Ground.chain }, { on := 2, ground := Go.Ground.guard }], guard := some (2, false) }) rfl rfl (by kernel_rfl) (by kernel_rfl) (by kernel_rfl) (fun _ _ _ h => h) hSq (by rfl) ?_
        simp only [Act.put, List.setIfInBounds_toArray, List.set_cons_zero, List.set_cons_succ]
        refine rg_skip 9 (some 19) (oi := { dst := some 19, op := Go.Op.unOp Go.UnOp.not 4 (Go.Operand.tmp 18), type := 4, pos := "ref.go:214", after := #[{ on := 8, ground := Go.Ground.data }, { on := 2, ground := Go.Ground.guard }], guard := some (2, false) }) rfl rfl (by kernel_rfl) (by kernel_rfl) (by kernel_rfl) (fun _ _ _ h => h) hSq (by rfl) ?_
        simp only [Act.put, List.setIfInBounds_toArray, List.set_cons_zero, List.set_cons_succ]
        refine rg_take 10 (some 20) (.bool true) (oi := { dst := some 20, op := Go.Op.pick (Go.Operand.tmp 12) (Go.Operand.const (Go.Value.bool true)) (Go.Operand.tmp 19), type := 4, pos := "ref.go:214", after := #[{ on := 2, ground := Go.Ground.data }, { on := 9, ground := Go.Ground.data }], guard := none }) rfl rfl (by kernel_rfl) (by kernel_rfl) (by kernel_rfl) (fun _ _ _ h => h) hSq (by rfl) (fun w' hs => by rfl) ?_
        simp only [Act.put, List.setIfInBounds_toArray, List.set_cons_zero, List.set_cons_succ]
        refine rg_take 11 (some 21) (.bool true) (oi := { dst := some 21, op := Go.Op.move (Go.Operand.tmp 20), type := 4, pos := "ref.go:214", after := #[{ on := 10, ground := Go.Ground.data }, { on := 8, ground := Go.Ground.chain }], guard := none }) rfl rfl (by kernel_rfl) (by kernel_rfl) (by kernel_rfl) (fun _ _ _ h => h) hSq (by rfl) (fun w' hs => by rfl) ?_
        simp only [Act.put, List.setIfInBounds_toArray, List.set_cons_zero, List.set_cons_succ]
        refine rg_skip 12 (some 22) (oi := { dst := some 22, op := Go.Op.move (Go.Operand.tmp 0), type := 22, pos := "ref.go:214", after := #[{ on := 11, ground := Go.Ground.guard }], guard := some (11, false) }) rfl rfl (by kernel_rfl) (by kernel_rfl) (by kernel_rfl) (fun _ _ _ h => h) hSq (by rfl) ?_
        simp only [Act.put, List.setIfInBounds_toArray, List.set_cons_zero, List.set_cons_succ]
        refine rg_skip 13 (some 23) (oi := { dst := some 23, op := Go.Op.move (Go.Operand.tmp 3), type := 3, pos := "ref.go:214", after := #[{ on := 11, ground := Go.Ground.guard }], guard := some (11, false) }) rfl rfl (by kernel_rfl) (by kernel_rfl) (by kernel_rfl) (fun _ _ _ h => h) hSq (by rfl) ?_
        simp only [Act.put, List.setIfInBounds_toArray, List.set_cons_zero, List.set_cons_succ]
        refine rg_skip 14 (some 24) (oi := { dst := some 24, op := Go.Op.indexAddr 22 (Go.Operand.tmp 22) (Go.Operand.tmp 23), type := 0, pos := "ref.go:214", after := #[{ on := 12, ground := Go.Ground.data }, { on := 13, ground := Go.Ground.data }, { on := 11, ground := Go.Ground.guard }], guard := some (11, false) }) rfl rfl (by kernel_rfl) (by kernel_rfl) (by kernel_rfl) (fun _ _ _ h => h) hSq (by rfl) ?_
        simp only [Act.put, List.setIfInBounds_toArray, List.set_cons_zero, List.set_cons_succ]
        refine rg_skip 15 (some 25) (oi := { dst := some 25, op := Go.Op.fieldAddr 54 (Go.Operand.tmp 24) 4, type := 0, pos := "ref.go:214", after := #[{ on := 14, ground := Go.Ground.data }, { on := 11, ground := Go.Ground.guard }], guard := some (11, false) }) rfl rfl (by kernel_rfl) (by kernel_rfl) (by kernel_rfl) (fun _ _ _ h => h) hSq (by rfl) ?_
        simp only [Act.put, List.setIfInBounds_toArray, List.set_cons_zero, List.set_cons_succ]
        refine rg_skip 16 (some 26) (oi := { dst := some 26, op := Go.Op.load 52 (Go.Operand.tmp 25), type := 52, pos := "ref.go:214", after := #[{ on := 15, ground := Go.Ground.data }, { on := 11, ground := Go.Ground.guard }], guard := some (11, false) }) rfl rfl (by kernel_rfl) (by kernel_rfl) (by kernel_rfl) (fun _ _ _ h => h) hSq (by rfl) ?_
        simp only [Act.put, List.setIfInBounds_toArray, List.set_cons_zero, List.set_cons_succ]
        refine rg_skip 17 (some 27) (oi := { dst := some 27, op := Go.Op.call { callee := Go.Callee.value (Go.Operand.func 15), args := #[Go.Operand.tmp 26, Go.Operand.const (Go.Value.int Go.IntKind.i64 1000)], argTypes := #[52, 3] }, type := 4, pos := "ref.go:214", after := #[{ on := 16, ground := Go.Ground.data }, { on := 11, ground := Go.Ground.chain }, { on := 11, ground := Go.Ground.guard }], guard := some (11, false) }) rfl rfl (by kernel_rfl) (by kernel_rfl) (by kernel_rfl) (fun _ _ _ h => h) hSq (by rfl) ?_
        simp only [Act.put, List.setIfInBounds_toArray, List.set_cons_zero, List.set_cons_succ]
        refine rg_skip 18 (some 28) (oi := { dst := some 28, op := Go.Op.unOp Go.UnOp.not 4 (Go.Operand.tmp 27), type := 4, pos := "ref.go:214", after := #[{ on := 17, ground := Go.Ground.data }, { on := 11, ground := Go.Ground.guard }], guard := some (11, false) }) rfl rfl (by kernel_rfl) (by kernel_rfl) (by kernel_rfl) (fun _ _ _ h => h) hSq (by rfl) ?_
        simp only [Act.put, List.setIfInBounds_toArray, List.set_cons_zero, List.set_cons_succ]
        refine rg_take 19 (some 29) (.bool true) (oi := { dst := some 29, op := Go.Op.pick (Go.Operand.tmp 21) (Go.Operand.const (Go.Value.bool true)) (Go.Operand.tmp 28), type := 4, pos := "ref.go:214", after := #[{ on := 11, ground := Go.Ground.data }, { on := 18, ground := Go.Ground.data }], guard := none }) rfl rfl (by kernel_rfl) (by kernel_rfl) (by kernel_rfl) (fun _ _ _ h => h) hSq (by rfl) (fun w' hs => by rfl) ?_
        simp only [Act.put, List.setIfInBounds_toArray, List.set_cons_zero, List.set_cons_succ]
        refine rg_take 20 (some 30) (.bool true) (oi := { dst := some 30, op := Go.Op.move (Go.Operand.tmp 29), type := 4, pos := "ref.go:214", after := #[{ on := 19, ground := Go.Ground.data }, { on := 17, ground := Go.Ground.chain }], guard := none }) rfl rfl (by kernel_rfl) (by kernel_rfl) (by kernel_rfl) (fun _ _ _ h => h) hSq (by rfl) (fun w' hs => by rfl) ?_
        simp only [Act.put, List.setIfInBounds_toArray, List.set_cons_zero, List.set_cons_succ]
        refine rg_skip 21 (some 31) (oi := { dst := some 31, op := Go.Op.move (Go.Operand.tmp 0), type := 22, pos := "ref.go:214", after := #[{ on := 20, ground := Go.Ground.guard }], guard := some (20, false) }) rfl rfl (by kernel_rfl) (by kernel_rfl) (by kernel_rfl) (fun _ _ _ h => h) hSq (by rfl) ?_
        simp only [Act.put, List.setIfInBounds_toArray, List.set_cons_zero, List.set_cons_succ]
        refine rg_skip 22 (some 32) (oi := { dst := some 32, op := Go.Op.move (Go.Operand.tmp 3), type := 3, pos := "ref.go:214", after := #[{ on := 20, ground := Go.Ground.guard }], guard := some (20, false) }) rfl rfl (by kernel_rfl) (by kernel_rfl) (by kernel_rfl) (fun _ _ _ h => h) hSq (by rfl) ?_
        simp only [Act.put, List.setIfInBounds_toArray, List.set_cons_zero, List.set_cons_succ]
        refine rg_skip 23 (some 33) (oi := { dst := some 33, op := Go.Op.indexAddr 22 (Go.Operand.tmp 31) (Go.Operand.tmp 32), type := 0, pos := "ref.go:214", after := #[{ on := 21, ground := Go.Ground.data }, { on := 22, ground := Go.Ground.data }, { on := 20, ground := Go.Ground.guard }], guard := some (20, false) }) rfl rfl (by kernel_rfl) (by kernel_rfl) (by kernel_rfl) (fun _ _ _ h => h) hSq (by rfl) ?_
        simp only [Act.put, List.setIfInBounds_toArray, List.set_cons_zero, List.set_cons_succ]
        refine rg_skip 24 (some 34) (oi := { dst := some 34, op := Go.Op.fieldAddr 54 (Go.Operand.tmp 33) 2, type := 0, pos := "ref.go:214", after := #[{ on := 23, ground := Go.Ground.data }, { on := 20, ground := Go.Ground.guard }], guard := some (20, false) }) rfl rfl (by kernel_rfl) (by kernel_rfl) (by kernel_rfl) (fun _ _ _ h => h) hSq (by rfl) ?_
        simp only [Act.put, List.setIfInBounds_toArray, List.set_cons_zero, List.set_cons_succ]
        refine rg_skip 25 (some 35) (oi := { dst := some 35, op := Go.Op.load 49 (Go.Operand.tmp 34), type := 49, pos := "ref.go:214", after := #[{ on := 24, ground := Go.Ground.data }, { on := 20, ground := Go.Ground.guard }], guard := some (20, false) }) rfl rfl (by kernel_rfl) (by kernel_rfl) (by kernel_rfl) (fun _ _ _ h => h) hSq (by rfl) ?_
        simp only [Act.put, List.setIfInBounds_toArray, List.set_cons_zero, List.set_cons_succ]
        refine rg_skip 26 (some 36) (oi := { dst := some 36, op := Go.Op.move (Go.Operand.tmp 0), type := 22, pos := "ref.go:214", after := #[{ on := 20, ground := Go.Ground.guard }], guard := some (20, false) }) rfl rfl (by kernel_rfl) (by kernel_rfl) (by kernel_rfl) (fun _ _ _ h => h) hSq (by rfl) ?_
        simp only [Act.put, List.setIfInBounds_toArray, List.set_cons_zero, List.set_cons_succ]
        refine rg_skip 27 (some 37) (oi := { dst := some 37, op := Go.Op.move (Go.Operand.tmp 3), type := 3, pos := "ref.go:214", after := #[{ on := 20, ground := Go.Ground.guard }], guard := some (20, false) }) rfl rfl (by kernel_rfl) (by kernel_rfl) (by kernel_rfl) (fun _ _ _ h => h) hSq (by rfl) ?_
        simp only [Act.put, List.setIfInBounds_toArray, List.set_cons_zero, List.set_cons_succ]
        refine rg_skip 28 (some 38) (oi := { dst := some 38, op := Go.Op.indexAddr 22 (Go.Operand.tmp 36) (Go.Operand.tmp 37), type := 0, pos := "ref.go:214", after := #[{ on := 26, ground := Go.Ground.data }, { on := 27, ground := Go.Ground.data }, { on := 20, ground := Go.Ground.guard }], guard := some (20, false) }) rfl rfl (by kernel_rfl) (by kernel_rfl) (by kernel_rfl) (fun _ _ _ h => h) hSq (by rfl) ?_
        simp only [Act.put, List.setIfInBounds_toArray, List.set_cons_zero, List.set_cons_succ]
        refine rg_skip 29 (some 39) (oi := { dst := some 39, op := Go.Op.fieldAddr 54 (Go.Operand.tmp 38) 3, type := 0, pos := "ref.go:214", after := #[{ on := 28, ground := Go.Ground.data }, { on := 20, ground := Go.Ground.guard }], guard := some (20, false) }) rfl rfl (by kernel_rfl) (by kernel_rfl) (by kernel_rfl) (fun _ _ _ h => h) hSq (by rfl) ?_
        simp only [Act.put, List.setIfInBounds_toArray, List.set_cons_zero, List.set_cons_succ]
        refine rg_skip 30 (some 40) (oi := { dst := some 40, op := Go.Op.load 50 (Go.Operand.tmp 39), type := 50, pos := "ref.go:214", after := #[{ on := 29, ground := Go.Ground.data }, { on := 20, ground := Go.Ground.guard }], guard := some (20, false) }) rfl rfl (by kernel_rfl) (by kernel_rfl) (by kernel_rfl) (fun _ _ _ h => h) hSq (by rfl) ?_
        simp only [Act.put, List.setIfInBounds_toArray, List.set_cons_zero, List.set_cons_succ]
        refine rg_skip 31 (some 41) (oi := { dst := some 41, op := Go.Op.build 52 #[(3, Go.Operand.tmp 35), (4, Go.Operand.tmp 40)], type := 52, pos := "ref.go:214", after := #[{ on := 25, ground := Go.Ground.data }, { on := 30, ground := Go.Ground.data }, { on := 20, ground := Go.Ground.guard }], guard := some (20, false) }) rfl rfl (by kernel_rfl) (by kernel_rfl) (by kernel_rfl) (fun _ _ _ h => h) hSq (by rfl) ?_
        simp only [Act.put, List.setIfInBounds_toArray, List.set_cons_zero, List.set_cons_succ]
        refine rg_skip 32 (some 42) (oi := { dst := some 42, op := Go.Op.call { callee := Go.Callee.value (Go.Operand.func 15), args := #[Go.Operand.tmp 41, Go.Operand.const (Go.Value.int Go.IntKind.i64 1000)], argTypes := #[52, 3] }, type := 4, pos := "ref.go:214", after := #[{ on := 31, ground := Go.Ground.data }, { on := 20, ground := Go.Ground.chain }, { on := 20, ground := Go.Ground.guard }], guard := some (20, false) }) rfl rfl (by kernel_rfl) (by kernel_rfl) (by kernel_rfl) (fun _ _ _ h => h) hSq (by rfl) ?_
        simp only [Act.put, List.setIfInBounds_toArray, List.set_cons_zero, List.set_cons_succ]
        refine rg_skip 33 (some 43) (oi := { dst := some 43, op := Go.Op.unOp Go.UnOp.not 4 (Go.Operand.tmp 42), type := 4, pos := "ref.go:214", after := #[{ on := 32, ground := Go.Ground.data }, { on := 20, ground := Go.Ground.guard }], guard := some (20, false) }) rfl rfl (by kernel_rfl) (by kernel_rfl) (by kernel_rfl) (fun _ _ _ h => h) hSq (by rfl) ?_
        simp only [Act.put, List.setIfInBounds_toArray, List.set_cons_zero, List.set_cons_succ]
        refine rg_take 34 (some 44) (.bool true) (oi := { dst := some 44, op := Go.Op.pick (Go.Operand.tmp 30) (Go.Operand.const (Go.Value.bool true)) (Go.Operand.tmp 43), type := 4, pos := "ref.go:214", after := #[{ on := 20, ground := Go.Ground.data }, { on := 33, ground := Go.Ground.data }], guard := none }) rfl rfl (by kernel_rfl) (by kernel_rfl) (by kernel_rfl) (fun _ _ _ h => h) hSq (by rfl) (fun w' hs => by rfl) ?_
        simp only [Act.put, List.setIfInBounds_toArray, List.set_cons_zero, List.set_cons_succ]
        refine rg_done (by kernel_rfl) ?_
        go_wp2_with fail
        go_ret
        exact ⟨⟨_, rfl, fun h => by cases h⟩, hX.trans (show Ext wr _ from hSq)⟩
      · have hg40 : (i : Int) ≤ 40 := by omega
        go_wp2_with fail
        refine rg_begin (S := Sx wr) (by kernel_rfl) (Sx.begin _) ?_
        have hSq : Sx wr (World.drew wr) := (Sx.begin _)
        refine rg_take 0 (some 10) (.int .i64 i) (oi := { dst := some 10, op := Go.Op.move (Go.Operand.tmp 3), type := 3, pos := "ref.go:214", after := #[], guard := none }) rfl rfl (by kernel_rfl) (by kernel_rfl) (by kernel_rfl) (fun _ _ _ h => h) hSq (by rfl) (fun w' hs => by rfl) ?_
        simp only [Act.put, List.setIfInBounds_toArray, List.set_cons_zero, List.set_cons_succ]
        refine rg_take 1 (some 11) (.bool false) (oi := { dst := some 11, op := Go.Op.binOp Go.BinOp.gtr 3 (Go.Operand.tmp 10) (Go.Operand.const (Go.Value.int Go.IntKind.i64 40)) 3, type := 4, pos := "ref.go:214", after := #[{ on := 0, ground := Go.Ground.data }], guard := none }) rfl rfl (by kernel_rfl) (by kernel_rfl) (by kernel_rfl) (fun _ _ _ h => h) hSq (by rfl) (fun w' hs => by (go_simp; try simp [hg40])) ?_
        simp only [Act.put, List.setIfInBounds_toArray, List.set_cons_zero, List.set_cons_succ]
        refine rg_take 2 (some 12) (.bool false) (oi := { dst := some 12, op := Go.Op.move (Go.Operand.tmp 11), type := 4, pos := "ref.go:214", after := #[{ on := 1, ground := Go.Ground.data }], guard := none }) rfl rfl (by kernel_rfl) (by kernel_rfl) (by kernel_rfl) (fun _ _ _ h => h) hSq (by rfl) (fun w' hs => by rfl) ?_
        simp only [Act.put, List.setIfInBounds_toArray, List.set_cons_zero, List.set_cons_succ]
        refine rg_take 3 (some 13) (.slice (some ⟨gl, ol, none⟩) l.length c) (oi := { dst := some 13, op := Go.Op.move (Go.Operand.tmp 0), type := 22, pos := "ref.go:214", after := #[{ on := 2, ground := Go.Ground.guard }], guard := some (2, false) }) rfl rfl (by kernel_rfl) (by kernel_rfl) (by kernel_rfl) (fun _ _ _ h => h) hSq (by rfl) (fun w' hs => by rfl) ?_
        simp only [Act.put, List.setIfInBounds_toArray, List.set_cons_zero, List.set_cons_succ]
        refine rg_take 4 (some 14) (.int .i64 i) (oi := { dst := some 14, op := Go.Op.move (Go.Operand.tmp 3), type := 3, pos := "ref.go:214", after := #[{ on := 2, ground := Go.Ground.guard }], guard := some (2, false) }) rfl rfl (by kernel_rfl) (by kernel_rfl) (by kernel_rfl) (fun _ _ _ h => h) hSq (by rfl) (fun w' hs => by rfl) ?_
        simp only [Act.put, List.setIfInBounds_toArray, List.set_cons_zero, List.set_cons_succ]
        refine rg_take 5 (some 15) (.pointer (some ⟨gl, ol + i * 9, none⟩)) (oi := { dst := some 15, op := Go.Op.indexAddr 22 (Go.Operand.tmp 13) (Go.Operand.tmp 14), type := 0, pos := "ref.go:214", after := #[{ on := 3, ground := Go.Ground.data }, { on := 4, ground := Go.Ground.data }, { on := 2, ground := Go.Ground.guard }], guard := some (2, false) }) rfl rfl (by kernel_rfl) (by kernel_rfl) (by kernel_rfl) (fun _ _ _ h => h) hSq (by rfl) (fun w' hs => by first | rfl | go_simp) ?_
        simp only [Act.put, List.setIfInBounds_toArray, List.set_cons_zero, List.set_cons_succ]
        refine rg_take 6 (some 16) (.pointer (some ⟨gl, ol + i * 9 + 1, none⟩)) (oi := { dst := some 16, op := Go.Op.fieldAddr 54 (Go.Operand.tmp 15) 1, type := 0, pos := "ref.go:214", after := #[{ on := 5, ground := Go.Ground.data }, { on := 2, ground := Go.Ground.guard }], guard := some (2, false) }) rfl rfl (by kernel_rfl) (by kernel_rfl) (by kernel_rfl) (fun _ _ _ h => h) hSq (by rfl) (fun w' hs => by first | rfl | go_simp) ?_
        simp only [Act.put, List.setIfInBounds_toArray, List.set_cons_zero, List.set_cons_succ]
        refine rg_take 7 (some 17) (.slice pa x.path.length pc) (oi := { dst := some 17, op := Go.Op.load 48 (Go.Operand.tmp 16), type := 48, pos := "ref.go:214", after := #[{ on := 6, ground := Go.Ground.data }, { on := 2, ground := Go.Ground.guard }], guard := some (2, false) }) rfl rfl (by kernel_rfl) (by kernel_rfl) (by kernel_rfl) (fun _ _ _ h => h) hSq (by rfl) (fun w' hs => by (have h0 := hs.cell lgr n1; go_simp)) ?_
        simp only [Act.put, List.setIfInBounds_toArray, List.set_cons_zero, List.set_cons_succ]
        refine rg_call 8 (some 18) 14 #[.slice pa x.path.length pc] (oi := { dst := some 18, op := Go.Op.call { callee := Go.Callee.value (Go.Operand.func 14), args := #[Go.Operand.tmp 17], argTypes := #[48] }, type := 4, pos := "ref.go:214", after := #[{ on := 7, ground := Go.Ground.data }, { on := 2, ground := Go.Ground.chain }, { on := 2, ground := Go.Ground.guard }], guard := some (2, false) }) rfl rfl (by kernel_rfl) (by rfl) (fun w' => by first | rfl | go_simp) (R := fun v w' => ∃ b : Bool, v = .bool b ∧ Ext (World.drew wr) w') ?_ ?_
        · refine (HP1.out (World.drew wr) hSq).mono ?_
          rintro e w' ⟨⟨b, rfl, _⟩, h⟩
          exact ⟨_, rfl, b, rfl, h⟩
        rintro _ wx1 ⟨b1, rfl, hB1⟩
        have hSx1 := hSq.ext hB1
        refine ⟨hSx1, ?_⟩
        simp only [Act.put, List.setIfInBounds_toArray, List.set_cons_zero, List.set_cons_succ]
        cases b1 with
        | true =>
          refine rg_take 9 (some 19) (.bool false) (oi := { dst := some 19, op := Go.Op.unOp Go.UnOp.not 4 (Go.Operand.tmp 18), type := 4, pos := "ref.go:214", after := #[{ on := 8, ground := Go.Ground.data }, { on := 2, ground := Go.Ground.guard }], guard := some (2, false) }) rfl rfl (by kernel_rfl) (by kernel_rfl) (by kernel_rfl) (fun _ _ _ h => h) hSx1 (by rfl) (fun w' hs => by first | rfl | go_simp) ?_
          simp only [Act.put, List.setIfInBounds_toArray, List.set_cons_zero, List.set_cons_succ]
          refine rg_take 10 (some 20) (.bool false) (oi := { dst := some 20, op := Go.Op.pick (Go.Operand.tmp 12) (Go.Operand.const (Go.Value.bool true)) (Go.Operand.tmp 19), type := 4, pos := "ref.go:214", after := #[{ on := 2, ground := Go.Ground.data }, { on := 9, ground := Go.Ground.data }], guard := none }) rfl rfl (by kernel_rfl) (by kernel_rfl) (by kernel_rfl) (fun _ _ _ h => h) hSx1 (by rfl) (fun w' hs => by rfl) ?_
          simp only [Act.put, List.setIfInBounds_toArray, List.set_cons_zero, List.set_cons_succ]
          refine rg_take 11 (some 21) (.bool false) (oi := { dst := some 21, op := Go.Op.move (Go.Operand.tmp 20), type := 4, pos := "ref.go:214", after := #[{ on := 10, ground := Go.Ground.data }, { on := 8, ground := Go.Ground.chain }], guard := none }) rfl rfl (by kernel_rfl) (by kernel_rfl) (by kernel_rfl) (fun _ _ _ h => h) hSx1 (by rfl) (fun w' hs => by rfl) ?_
          simp only [Act.put, List.setIfInBounds_toArray, List.set_cons_zero, List.set_cons_succ]
          refine rg_take 12 (some 22) (.slice (some ⟨gl, ol, none⟩) l.length c) (oi := { dst := some 22, op := Go.Op.move (Go.Operand.tmp 0), type := 22, pos := "ref.go:214", after := #[{ on := 11, ground := Go.Ground.guard }], guard := some (11, false) }) rfl rfl (by kernel_rfl) (by kernel_rfl) (by kernel_rfl) (fun _ _ _ h => h) hSx1 (by rfl) (fun w' hs => by rfl) ?_
          simp only [Act.put, List.setIfInBounds_toArray, List.set_cons_zero, List.set_cons_succ]
          refine rg_take 13 (some 23) (.int .i64 i) (oi := { dst := some 23, op := Go.Op.move (Go.Operand.tmp 3), type := 3, pos := "ref.go:214", after := #[{ on := 11, ground := Go.Ground.guard }], guard := some (11, false) }) rfl rfl (by kernel_rfl) (by kernel_rfl) (by kernel_rfl) (fun _ _ _ h => h) hSx1 (by rfl) (fun w' hs => by rfl) ?_
          simp only [Act.put, List.setIfInBounds_toArray, List.set_cons_zero, List.set_cons_succ]
          refine rg_take 14 (some 24) (.pointer (some ⟨gl, ol + i * 9, none⟩)) (oi := { dst := some 24, op := Go.Op.indexAddr 22 (Go.Operand.tmp 22) (Go.Operand.tmp 23), type := 0, pos := "ref.go:214", after := #[{ on := 12, ground := Go.Ground.data }, { on := 13, ground := Go.Ground.data }, { on := 11, ground := Go.Ground.guard }], guard := some (11, false) }) rfl rfl (by kernel_rfl) (by kernel_rfl) (by kernel_rfl) (fun _ _ _ h => h) hSx1 (by rfl) (fun w' hs => by first | rfl | go_simp) ?_
          simp only [Act.put, List.setIfInBounds_toArray, List.set_cons_zero, List.set_cons_succ]
          refine rg_take 15 (some 25) (.pointer (some ⟨gl, ol + i * 9 + 4, none⟩)) (oi := { dst := some 25, op := Go.Op.fieldAddr 54 (Go.Operand.tmp 24) 4, type := 0, pos := "ref.go:214", after := #[{ on := 14, ground := Go.Ground.data }, { on := 11, ground := Go.Ground.guard }], guard := some (11, false) }) rfl rfl (by kernel_rfl) (by kernel_rfl) (by kernel_rfl) (fun _ _ _ h => h) hSx1 (by rfl) (fun w' hs => by first | rfl | go_simp) ?_
          simp only [Act.put, List.setIfInBounds_toArray, List.set_cons_zero, List.set_cons_succ]
          refine rg_take 16 (some 26) (.agg #[.int .i64 x.node.kind, .string (bs x.node.name), .string (bs x.node.text), .slice ma x.node.attrs.length mc, .slice qa x.node.kids.length qc]) (oi := { dst := some 26, op := Go.Op.load 52 (Go.Operand.tmp 25), type := 52, pos := "ref.go:214", after := #[{ on := 15, ground := Go.Ground.data }, { on := 11, ground := Go.Ground.guard }], guard := some (11, false) }) rfl rfl (by kernel_rfl) (by kernel_rfl) (by kernel_rfl) (fun _ _ _ h => h) hSx1 (by rfl) (fun w' hs => by (have h0 := hs.cell lgr n4; have h1 := hs.cell lgr n5; have h2 := hs.cell lgr n6; have h3 := hs.cell lgr n7; have h4 := hs.cell lgr n8; go_simp)) ?_
          simp only [Act.put, List.setIfInBounds_toArray, List.set_cons_zero, List.set_cons_succ]
          refine rg_call 17 (some 27) 15 #[.agg #[.int .i64 x.node.kind, .string (bs x.node.name), .string (bs x.node.text), .slice ma x.node.attrs.length mc, .slice qa x.node.kids.length qc], .int .i64 1000] (oi := { dst := some 27, op := Go.Op.call { callee := Go.Callee.value (Go.Operand.func 15), args := #[Go.Operand.tmp 26, Go.Operand.const (Go.Value.int Go.IntKind.i64 1000)], argTypes := #[52, 3] }, type := 4, pos := "ref.go:214", after := #[{ on := 16, ground := Go.Ground.data }, { on := 11, ground := Go.Ground.chain }, { on := 11, ground := Go.Ground.guard }], guard := some (11, false) }) rfl rfl (by kernel_rfl) (by rfl) (fun w' => by first | rfl | go_simp) (R := fun v w' => ∃ b : Bool, v = .bool b ∧ Ext wx1 w') ?_ ?_
          · refine (HP2.out wx1 hSx1).mono ?_
            rintro e w' ⟨⟨b, rfl, _⟩, h⟩
            exact ⟨_, rfl, b, rfl, h⟩
          rintro _ wx2 ⟨b2, rfl, hB2⟩
          have hSx2 := hSx1.ext hB2
          refine ⟨hSx2, ?_⟩
          simp only [Act.put, List.setIfInBounds_toArray, List.set_cons_zero, List.set_cons_succ]
          cases b2 with
          | true =>
            refine rg_take 18 (some 28) (.bool false) (oi := { dst := some 28, op := Go.Op.unOp Go.UnOp.not 4 (Go.Operand.tmp 27), type := 4, pos := "ref.go:214", after := #[{ on := 17, ground := Go.Ground.data }, { on := 11, ground := Go.Ground.guard }], guard := some (11, false) }) rfl rfl (by kernel_rfl) (by kernel_rfl) (by kernel_rfl) (fun _ _ _ h => h) hSx2 (by rfl) (fun w' hs => by first | rfl | go_simp) ?_
            simp only [Act.put, List.setIfInBounds_toArray, List.set_cons_zero, List.set_cons_succ]
            refine rg_take 19 (some 29) (.bool false) (oi := { dst := some 29, op := Go.Op.pick (Go.Operand.tmp 21) (Go.Operand.const (Go.Value.bool true)) (Go.Operand.tmp 28), type := 4, pos := "ref.go:214", after := #[{ on := 11, ground := Go.Ground.data }, { on := 18, ground := Go.Ground.data }], guard := none }) rfl rfl (by kernel_rfl) (by kernel_rfl) (by kernel_rfl) (fun _ _ _ h => h) hSx2 (by rfl) (fun w' hs => by rfl) ?_
            simp only [Act.put, List.setIfInBounds_toArray, List.set_cons_zero, List.set_cons_succ]
            refine rg_take 20 (some 30) (.bool false) (oi := { dst := some 30, op := Go.Op.move (Go.Operand.tmp 29), type := 4, pos := "ref.go:214", after := #[{ on := 19, ground := Go.Ground.data }, { on := 17, ground := Go.Ground.chain }], guard := none }) rfl rfl (by kernel_rfl) (by kernel_rfl) (by kernel_rfl) (fun _ _ _ h => h) hSx2 (by rfl) (fun w' hs => by rfl) ?_
            simp only [Act.put, List.setIfInBounds_toArray, List.set_cons_zero, List.set_cons_succ]
            refine rg_take 21 (some 31) (.slice (some ⟨gl, ol, none⟩) l.length c) (oi := { dst := some 31, op := Go.Op.move (Go.Operand.tmp 0), type := 22, pos := "ref.go:214", after := #[{ on := 20, ground := Go.Ground.guard }], guard := some (20, false) }) rfl rfl (by kernel_rfl) (by kernel_rfl) (by kernel_rfl) (fun _ _ _ h => h) hSx2 (by rfl) (fun w' hs => by rfl) ?_
            simp only [Act.put, List.setIfInBounds_toArray, List.set_cons_zero, List.set_cons_succ]
            refine rg_take 22 (some 32) (.int .i64 i) (oi := { dst := some 32, op := Go.Op.move (Go.Operand.tmp 3), type := 3, pos := "ref.go:214", after := #[{ on := 20, ground := Go.Ground.guard }], guard := some (20, false) }) rfl rfl (by kernel_rfl) (by kernel_rfl) (by kernel_rfl) (fun _ _ _ h => h) hSx2 (by rfl) (fun w' hs => by rfl) ?_
            simp only [Act.put, List.setIfInBounds_toArray, List.set_cons_zero, List.set_cons_succ]
            refine rg_take 23 (some 33) (.pointer (some ⟨gl, ol + i * 9, none⟩)) (oi := { dst := some 33, op := Go.Op.indexAddr 22 (Go.Operand.tmp 31) (Go.Operand.tmp 32), type := 0, pos := "ref.go:214", after := #[{ on := 21, ground := Go.Ground.data }, { on := 22, ground := Go.Ground.data }, { on := 20, ground := Go.Ground.guard }], guard := some (20, false) }) rfl rfl (by kernel_rfl) (by kernel_rfl) (by kernel_rfl) (fun _ _ _ h => h) hSx2 (by rfl) (fun w' hs => by first | rfl | go_simp) ?_
            simp only [Act.put, List.setIfInBounds_toArray, List.set_cons_zero, List.set_cons_succ]
            refine rg_take 24 (some 34) (.pointer (some ⟨gl, ol + i * 9 + 2, none⟩)) (oi := { dst := some 34, op := Go.Op.fieldAddr 54 (Go.Operand.tmp 33) 2, type := 0, pos := "ref.go:214", after := #[{ on := 23, ground := Go.Ground.data }, { on := 20, ground := Go.Ground.guard }], guard := some (20, false) }) rfl rfl (by kernel_rfl) (by kernel_rfl) (by kernel_rfl) (fun _ _ _ h => h) hSx2 (by rfl) (fun w' hs => by first | rfl | go_simp) ?_
            simp only [Act.put, List.setIfInBounds_toArray, List.set_cons_zero, List.set_cons_succ]
            refine rg_take 25 (some 35) (.slice ka x.attrs.length kc) (oi := { dst := some 35, op := Go.Op.load 49 (Go.Operand.tmp 34), type := 49, pos := "ref.go:214", after := #[{ on := 24, ground := Go.Ground.data }, { on := 20, ground := Go.Ground.guard }], guard := some (20, false) }) rfl rfl (by kernel_rfl) (by kernel_rfl) (by kernel_rfl) (fun _ _ _ h => h) hSx2 (by rfl) (fun w' hs => by (have h0 := hs.cell lgr n2; go_simp)) ?_
            simp only [Act.put, List.setIfInBounds_toArray, List.set_cons_zero, List.set_cons_succ]
            refine rg_take 26 (some 36) (.slice (some ⟨gl, ol, none⟩) l.length c) (oi := { dst := some 36, op := Go.Op.move (Go.Operand.tmp 0), type := 22, pos := "ref.go:214", after := #[{ on := 20, ground := Go.Ground.guard }], guard := some (20, false) }) rfl rfl (by kernel_rfl) (by kernel_rfl) (by kernel_rfl) (fun _ _ _ h => h) hSx2 (by rfl) (fun w' hs => by rfl) ?_
            simp only [Act.put, List.setIfInBounds_toArray, List.set_cons_zero, List.set_cons_succ]
            refine rg_take 27 (some 37) (.int .i64 i) (oi := { dst := some 37, op := Go.Op.move (Go.Operand.tmp 3), type := 3, pos := "ref.go:214", after := #[{ on := 20, ground := Go.Ground.guard }], guard := some (20, false) }) rfl rfl (by kernel_rfl) (by kernel_rfl) (by kernel_rfl) (fun _ _ _ h => h) hSx2 (by rfl) (fun w' hs => by rfl) ?_
            simp only [Act.put, List.setIfInBounds_toArray, List.set_cons_zero, List.set_cons_succ]
            refine rg_take 28 (some 38) (.pointer (some ⟨gl, ol + i * 9, none⟩)) (oi := { dst := some 38, op := Go.Op.indexAddr 22 (Go.Operand.tmp 36) (Go.Operand.tmp 37), type := 0, pos := "ref.go:214", after := #[{ on := 26, ground := Go.Ground.data }, { on := 27, ground := Go.Ground.data }, { on := 20, ground := Go.Ground.guard }], guard := some (20, false) }) rfl rfl (by kernel_rfl) (by kernel_rfl) (by kernel_rfl) (fun _ _ _ h => h) hSx2 (by rfl) (fun w' hs => by first | rfl | go_simp) ?_
            simp only [Act.put, List.setIfInBounds_toArray, List.set_cons_zero, List.set_cons_succ]
            refine rg_take 29 (some 39) (.pointer (some ⟨gl, ol + i * 9 + 3, none⟩)) (oi := { dst := some 39, op := Go.Op.fieldAddr 54 (Go.Operand.tmp 38) 3, type := 0, pos := "ref.go:214", after := #[{ on := 28, ground := Go.Ground.data }, { on := 20, ground := Go.Ground.guard }], guard := some (20, false) }) rfl rfl (by kernel_rfl) (by kernel_rfl) (by kernel_rfl) (fun _ _ _ h => h) hSx2 (by rfl) (fun w' hs => by first | rfl | go_simp) ?_
            simp only [Act.put, List.setIfInBounds_toArray, List.set_cons_zero, List.set_cons_succ]
            refine rg_take 30 (some 40) (.slice na x.kids.length nc) (oi := { dst := some 40, op := Go.Op.load 50 (Go.Operand.tmp 39), type := 50, pos := "ref.go:214", after := #[{ on := 29, ground := Go.Ground.data }, { on := 20, ground := Go.Ground.guard }], guard := some (20, false) }) rfl rfl (by kernel_rfl) (by kernel_rfl) (by kernel_rfl) (fun _ _ _ h => h) hSx2 (by rfl) (fun w' hs => by (have h0 := hs.cell lgr n3; go_simp)) ?_
            simp only [Act.put, List.setIfInBounds_toArray, List.set_cons_zero, List.set_cons_succ]
            refine rg_take 31 (some 41) (.agg #[.int .i64 0, .string ⟨#[]⟩, .string ⟨#[]⟩, .slice ka x.attrs.length kc, .slice na x.kids.length nc]) (oi := { dst := some 41, op := Go.Op.build 52 #[(3, Go.Operand.tmp 35), (4, Go.Operand.tmp 40)], type := 52, pos := "ref.go:214", after := #[{ on := 25, ground := Go.Ground.data }, { on := 30, ground := Go.Ground.data }, { on := 20, ground := Go.Ground.guard }], guard := some (20, false) }) rfl rfl (by kernel_rfl) (by kernel_rfl) (by kernel_rfl) (fun _ _ _ h => h) hSx2 (by rfl) (fun w' hs => by first | rfl | go_simp) ?_
            simp only [Act.put, List.setIfInBounds_toArray, List.set_cons_zero, List.set_cons_succ]
            refine rg_call 32 (some 42) 15 #[.agg #[.int .i64 0, .string ⟨#[]⟩, .string ⟨#[]⟩, .slice ka x.attrs.length kc, .slice na x.kids.length nc], .int .i64 1000] (oi := { dst := some 42, op := Go.Op.call { callee := Go.Callee.value (Go.Operand.func 15), args := #[Go.Operand.tmp 41, Go.Operand.const (Go.Value.int Go.IntKind.i64 1000)], argTypes := #[52, 3] }, type := 4, pos := "ref.go:214", after := #[{ on := 31, ground := Go.Ground.data }, { on := 20, ground := Go.Ground.chain }, { on := 20, ground := Go.Ground.guard }], guard := some (20, false) }) rfl rfl (by kernel_rfl) (by rfl) (fun w' => by first | rfl | go_simp) (R := fun v w' => ∃ b : Bool, v = .bool b ∧ Ext wx2 w') ?_ ?_
            · refine (HP3.out wx2 hSx2).mono ?_
              rintro e w' ⟨⟨b, rfl, _⟩, h⟩
              exact ⟨_, rfl, b, rfl, h⟩
            rintro _ wx3 ⟨b3, rfl, hB3⟩
            have hSx3 := hSx2.ext hB3
            refine ⟨hSx3, ?_⟩
            simp only [Act.put, List.setIfInBounds_toArray, List.set_cons_zero, List.set_cons_succ]
            cases b3 with
            | true =>
              refine rg_take 33 (some 43) (.bool false) (oi := { dst := some 43, op := Go.Op.unOp Go.UnOp.not 4 (Go.Operand.tmp 42), type := 4, pos := "ref.go:214", after := #[{ on := 32, ground := Go.Ground.data }, { on := 20, ground := Go.Ground.guard }], guard := some (20, false) }) rfl rfl (by kernel_rfl) (by kernel_rfl) (by kernel_rfl) (fun _ _ _ h => h) hSx3 (by rfl) (fun w' hs => by first | rfl | go_simp) ?_
              simp only [Act.put, List.setIfInBounds_toArray, List.set_cons_zero, List.set_cons_succ]
              refine rg_take 34 (some 44) (.bool false) (oi := { dst := some 44, op := Go.Op.pick (Go.Operand.tmp 30) (Go.Operand.const (Go.Value.bool true)) (Go.Operand.tmp 43), type := 4, pos := "ref.go:214", after := #[{ on := 20, ground := Go.Ground.data }, { on := 33, ground := Go.Ground.data }], guard := none }) rfl rfl (by kernel_rfl) (by kernel_rfl) (by kernel_rfl) (fun _ _ _ h => h) hSx3 (by rfl) (fun w' hs => by rfl) ?_
              simp only [Act.put, List.setIfInBounds_toArray, List.set_cons_zero, List.set_cons_succ]
              refine rg_done (by kernel_rfl) ?_
              have HF := Lib.hid (hX.trans (show Ext wr _ from hSx3))
              go_wp2_with fail
              go_roundw
              case rel => exact ⟨i + 1, by go_num, by omega, by omega, HF.out⟩
              case measure => simp only [downV]; omega
            | false =>
              refine rg_take 33 (some 43) (.bool true) (oi := { dst := some 43, op := Go.Op.unOp Go.UnOp.not 4 (Go.Operand.tmp 42), type := 4, pos := "ref.go:214", after := #[{ on := 32, ground := Go.Ground.data }, { on := 20, ground := Go.Ground.guard }], guard := some (20, false) }) rfl rfl (by kernel_rfl) (by kernel_rfl) (by kernel_rfl) (fun _ _ _ h => h) hSx3 (by rfl) (fun w' hs => by first | rfl | go_simp) ?_
              simp only [Act.put, List.setIfInBounds_toArray, List.set_cons_zero, List.set_cons_succ]
              refine rg_take 34 (some 44) (.bool true) (oi := { dst := some 44, op := Go.Op.pick (Go.Operand.tmp 30) (Go.Operand.const (Go.Value.bool true)) (Go.Operand.tmp 43), type := 4, pos := "ref.go:214", after := #[{ on := 20, ground := Go.Ground.data }, { on := 33, ground := Go.Ground.data }], guard := none }) rfl rfl (by kernel_rfl) (by kernel_rfl) (by kernel_rfl) (fun _ _ _ h => h) hSx3 (by rfl) (fun w' hs => by rfl) ?_
              simp only [Act.put, List.setIfInBounds_toArray, List.set_cons_zero, List.set_cons_succ]
              refine rg_done (by kernel_rfl) ?_
              go_wp2_with fail
              go_ret
              exact ⟨⟨_, rfl, fun h => by cases h⟩, hX.trans (show Ext wr _ from hSx3)⟩
          | false =>
            refine rg_take 18 (some 28) (.bool true) (oi := { dst := some 28, op := Go.Op.unOp Go.UnOp.not 4 (Go.Operand.tmp 27), type := 4, pos := "ref.go:214", after := #[{ on := 17, ground := Go.Ground.data }, { on := 11, ground := Go.Ground.guard }], guard := some (11, false) }) rfl rfl (by kernel_rfl) (by kernel_rfl) (by kernel_rfl) (fun _ _ _ h => h) hSx2 (by rfl) (fun w' hs => by first | rfl | go_simp) ?_
            simp only [Act.put, List.setIfInBounds_toArray, List.set_cons_zero, List.set_cons_succ]
            refine rg_take 19 (some 29) (.bool true) (oi := { dst := some 29, op := Go.Op.pick (Go.Operand.tmp 21) (Go.Operand.const (Go.Value.bool true)) (Go.Operand.tmp 28), type := 4, pos := "ref.go:214", after := #[{ on := 11, ground := Go.Ground.data }, { on := 18, ground := Go.Ground.data }], guard := none }) rfl rfl (by kernel_rfl) (by kernel_rfl) (by kernel_rfl) (fun _ _ _ h => h) hSx2 (by rfl) (fun w' hs => by rfl) ?_
            simp only [Act.put, List.setIfInBounds_toArray, List.set_cons_zero, List.set_cons_succ]
            refine rg_take 20 (some 30) (.bool true) (oi := { dst := some 30, op := Go.Op.move (Go.Operand.tmp 29), type := 4, pos := "ref.go:214", after := #[{ on := 19, ground := Go.Ground.data }, { on := 17, ground := Go.Ground.chain }], guard := none }) rfl rfl (by kernel_rfl) (by kernel_rfl) (by kernel_rfl) (fun _ _ _ h => h) hSx2 (by rfl) (fun w' hs => by rfl) ?_
            simp only [Act.put, List.setIfInBounds_toArray, List.set_cons_zero, List.set_cons_succ]
            refine rg_skip 21 (some 31) (oi := { dst := some 31, op := Go.Op.move (Go.Operand.tmp 0), type := 22, pos := "ref.go:214", after := #[{ on := 20, ground := Go.Ground.guard }], guard := some (20, false) }) rfl rfl (by kernel_rfl) (by kernel_rfl) (by kernel_rfl) (fun _ _ _ h => h) hSx2 (by rfl) ?_
            simp only [Act.put, List.setIfInBounds_toArray, List.set_cons_zero, List.set_cons_succ]
            refine rg_skip 22 (some 32) (oi := { dst := some 32, op := Go.Op.move (Go.Operand.tmp 3), type := 3, pos := "ref.go:214", after := #[{ on := 20, ground := Go.Ground.guard }], guard := some (20, false) }) rfl rfl (by kernel_rfl) (by kernel_rfl) (by kernel_rfl) (fun _ _ _ h => h) hSx2 (by rfl) ?_
            simp only [Act.put, List.setIfInBounds_toArray, List.set_cons_zero, List.set_cons_succ]
            refine rg_skip 23 (some 33) (oi := { dst := some 33, op := Go.Op.indexAddr 22 (Go.Operand.tmp 31) (Go.Operand.tmp 32), type := 0, pos := "ref.go:214", after := #[{ on := 21, ground := Go.Ground.data }, { on := 22, ground := Go.Ground.data }, { on := 20, ground := Go.Ground.guard }], guard := some (20, false) }) rfl rfl (by kernel_rfl) (by kernel_rfl) (by kernel_rfl) (fun _ _ _ h => h) hSx2 (by rfl) ?_
            simp only [Act.put, List.setIfInBounds_toArray, List.set_cons_zero, List.set_cons_succ]
            refine rg_skip 24 (some 34) (oi := { dst := some 34, op := Go.Op.fieldAddr 54 (Go.Operand.tmp 33) 2, type := 0, pos := "ref.go:214", after := #[{ on := 23, ground := Go.Ground.data }, { on := 20, ground := Go.Ground.guard }], guard := some (20, false) }) rfl rfl (by kernel_rfl) (by kernel_rfl) (by kernel_rfl) (fun _ _ _ h => h) hSx2 (by rfl) ?_
            simp only [Act.put, List.setIfInBounds_toArray, List.set_cons_zero, List.set_cons_succ]
            refine rg_skip 25 (some 35) (oi := { dst := some 35, op := Go.Op.load 49 (Go.Operand.tmp 34), type := 49, pos := "ref.go:214", after := #[{ on := 24, ground := Go.Ground.data }, { on := 20, ground := Go.Ground.guard }], guard := some (20, false) }) rfl rfl (by kernel_rfl) (by kernel_rfl) (by kernel_rfl) (fun _ _ _ h => h) hSx2 (by rfl) ?_
            simp only [Act.put, List.setIfInBounds_toArray, List.set_cons_zero, List.set_cons_succ]
            refine rg_skip 26 (some 36) (oi := { dst := some 36, op := Go.Op.move (Go.Operand.tmp 0), type := 22, pos := "ref.go:214", after := #[{ on := 20, ground := Go.Ground.guard }], guard := some (20, false) }) rfl rfl (by kernel_rfl) (by kernel_rfl) (by kernel_rfl) (fun _ _ _ h => h) hSx2 (by rfl) ?_
            simp only [Act.put, List.setIfInBounds_toArray, List.set_cons_zero, List.set_cons_succ]
            refine rg_skip 27 (some 37) (oi := { dst := some 37, op := Go.Op.move (Go.Operand.tmp 3), type := 3, pos := "ref.go:214", after := #[{ on := 20, ground := Go.Ground.guard }], guard := some (20, false) }) rfl rfl (by kernel_rfl) (by kernel_rfl) (by kernel_rfl) (fun _ _ _ h => h) hSx2 (by rfl) ?_
            simp only [Act.put, List.setIfInBounds_toArray, List.set_cons_zero, List.set_cons_succ]
            refine rg_skip 28 (some 38) (oi := { dst := some 38, op := Go.Op.indexAddr 22 (Go.Operand.tmp 36) (Go.Operand.tmp 37), type := 0, pos := "ref.go:214", after := #[{ on := 26, ground := Go.Ground.data }, { on := 27, ground := Go.Ground.data }, { on := 20, ground := Go.Ground.guard }], guard := some (20, false) }) rfl rfl (by kernel_rfl) (by kernel_rfl) (by kernel_rfl) (fun _ _ _ h => h) hSx2 (by rfl) ?_
            simp only [Act.put, List.setIfInBounds_toArray, List.set_cons_zero, List.set_cons_succ]
            refine rg_skip 29 (some 39) (oi := { dst := some 39, op := Go.Op.fieldAddr 54 (Go.Operand.tmp 38) 3, type := 0, pos := "ref.go:214", after := #[{ on := 28, ground := Go.Ground.data }, { on := 20, ground := Go.Ground.guard }], guard := some (20, false) }) rfl rfl (by kernel_rfl) (by kernel_rfl) (by kernel_rfl) (fun _ _ _ h => h) hSx2 (by rfl) ?_
            simp only [Act.put, List.setIfInBounds_toArray, List.set_cons_zero, List.set_cons_succ]
            refine rg_skip 30 (some 40) (oi := { dst := some 40, op := Go.Op.load 50 (Go.Operand.tmp 39), type := 50, pos := "ref.go:214", after := #[{ on := 29, ground := Go.Ground.data }, { on := 20, ground := Go.Ground.guard }], guard := some (20, false) }) rfl rfl (by kernel_rfl) (by kernel_rfl) (by kernel_rfl) (fun _ _ _ h => h) hSx2 (by rfl) ?_
            simp only [Act.put, List.setIfInBounds_toArray, List.set_cons_zero, List.set_cons_succ]
            refine rg_skip 31 (some 41) (oi := { dst := some 41, op := Go.Op.build 52 #[(3, Go.Operand.tmp 35), (4, Go.Operand.tmp 40)], type := 52, pos := "ref.go:214", after := #[{ on := 25, ground := Go.Ground.data }, { on := 30, ground := Go.Ground.data }, { on := 20, ground := Go.Ground.guard }], guard := some (20, false) }) rfl rfl (by kernel_rfl) (by kernel_rfl) (by kernel_rfl) (fun _ _ _ h => h) hSx2 (by rfl) ?_
            simp only [Act.put, List.setIfInBounds_toArray, List.set_cons_zero, List.set_cons_succ]
            refine rg_skip 32 (some 42) (oi := { dst := some 42, op := Go.Op.call { callee := Go.Callee.value (Go.Operand.func 15), args := #[Go.Operand.tmp 41, Go.Operand.const (Go.Value.int Go.IntKind.i64 1000)], argTypes := #[52, 3] }, type := 4, pos := "ref.go:214", after := #[{ on := 31, ground := Go.Ground.data }, { on := 20, ground := Go.Ground.chain }, { on := 20, ground := Go.Ground.guard }], guard := some (20, false) }) rfl rfl (by kernel_rfl) (by kernel_rfl) (by kernel_rfl) (fun _ _ _ h => h) hSx2 (by rfl) ?_
            simp only [Act.put, List.setIfInBounds_toArray, List.set_cons_zero, List.set_cons_succ]
            refine rg_skip 33 (some 43) (oi := { dst := some 43, op := Go.Op.unOp Go.UnOp.not 4 (Go.Operand.tmp 42), type := 4, pos := "ref.go:214", after := #[{ on := 32, ground := Go.Ground.data }, { on := 20, ground := Go.Ground.guard }], guard := some (20, false) }) rfl rfl (by kernel_rfl) (by kernel_rfl) (by kernel_rfl) (fun _ _ _ h => h) hSx2 (by rfl) ?_
            simp only [Act.put, List.setIfInBounds_toArray, List.set_cons_zero, List.set_cons_succ]
            refine rg_take 34 (some 44) (.bool true) (oi := { dst := some 44, op := Go.Op.pick (Go.Operand.tmp 30) (Go.Operand.const (Go.Value.bool true)) (Go.Operand.tmp 43), type := 4, pos := "ref.go:214", after := #[{ on := 20, ground := Go.Ground.data }, { on := 33, ground := Go.Ground.data }], guard := none }) rfl rfl (by kernel_rfl) (by kernel_rfl) (by kernel_rfl) (fun _ _ _ h => h) hSx2 (by rfl) (fun w' hs => by rfl) ?_
            simp only [Act.put, List.setIfInBounds_toArray, List.set_cons_zero, List.set_cons_succ]
            refine rg_done (by kernel_rfl) ?_
            go_wp2_with fail
            go_ret
            exact ⟨⟨_, rfl, fun h => by cases h⟩, hX.trans (show Ext wr _ from hSx2)⟩
        | false =>
          refine rg_take 9 (some 19) (.bool true) (oi := { dst := some 19, op := Go.Op.unOp Go.UnOp.not 4 (Go.Operand.tmp 18), type := 4, pos := "ref.go:214", after := #[{ on := 8, ground := Go.Ground.data }, { on := 2, ground := Go.Ground.guard }], guard := some (2, false) }) rfl rfl (by kernel_rfl) (by kernel_rfl) (by kernel_rfl) (fun _ _ _ h => h) hSx1 (by rfl) (fun w' hs => by first | rfl | go_simp) ?_
          simp only [Act.put, List.setIfInBounds_toArray, List.set_cons_zero, List.set_cons_succ]
          refine rg_take 10 (some 20) (.bool true) (oi := { dst := some 20, op := Go.Op.pick (Go.Operand.tmp 12) (Go.Operand.const (Go.Value.bool true)) (Go.Operand.tmp 19), type := 4, pos := "ref.go:214", after := #[{ on := 2, ground := Go.Ground.data }, { on := 9, ground := Go.Ground.data }], guard := none }) rfl rfl (by kernel_rfl) (by kernel_rfl) (by kernel_rfl) (fun _ _ _ h => h) hSx1 (by rfl) (fun w' hs => by rfl) ?_
          simp only [Act.put, List.setIfInBounds_toArray, List.set_cons_zero, List.set_cons_succ]
          refine rg_take 11 (some 21) (.bool true) (oi := { dst := some 21, op := Go.Op.move (Go.Operand.tmp 20), type := 4, pos := "ref.go:214", after := #[{ on := 10, ground := Go.Ground.data }, { on := 8, ground := Go.Ground.chain }], guard := none }) rfl rfl (by kernel_rfl) (by kernel_rfl) (by kernel_rfl) (fun _ _ _ h => h) hSx1 (by rfl) (fun w' hs => by rfl) ?_
          simp only [Act.put, List.setIfInBounds_toArray, List.set_cons_zero, List.set_cons_succ]
          refine rg_skip 12 (some 22) (oi := { dst := some 22, op := Go.Op.move (Go.Operand.tmp 0), type := 22, pos := "ref.go:214", after := #[{ on := 11, ground := Go.Ground.guard }], guard := some (11, false) }) rfl rfl (by kernel_rfl) (by kernel_rfl) (by kernel_rfl) (fun _ _ _ h => h) hSx1 (by rfl) ?_
          simp only [Act.put, List.setIfInBounds_toArray, List.set_cons_zero, List.set_cons_succ]
          refine rg_skip 13 (some 23) (oi := { dst := some 23, op := Go.Op.move (Go.Operand.tmp 3), type := 3, pos := "ref.go:214", after := #[{ on := 11, ground := Go.Ground.guard }], guard := some (11, false) }) rfl rfl (by kernel_rfl) (by kernel_rfl) (by kernel_rfl) (fun _ _ _ h => h) hSx1 (by rfl) ?_
          simp only [Act.put, List.setIfInBounds_toArray, List.set_cons_zero, List.set_cons_succ]
          refine rg_skip 14 (some 24) (oi := { dst := some 24, op := Go.Op.indexAddr 22 (Go.Operand.tmp 22) (Go.Operand.tmp 23), type := 0, pos := "ref.go:214", after := #[{ on := 12, ground := Go.Ground.data }, { on := 13, ground := Go.Ground.data }, { on := 11, ground := Go.Ground.guard }], guard := some (11, false) }) rfl rfl (by kernel_rfl) (by kernel_rfl) (by kernel_rfl) (fun _ _ _ h => h) hSx1 (by rfl) ?_
          simp only [Act.put, List.setIfInBounds_toArray, List.set_cons_zero, List.set_cons_succ]
          refine rg_skip 15 (some 25) (oi := { dst := some 25, op := Go.Op.fieldAddr 54 (Go.Operand.tmp 24) 4, type := 0, pos := "ref.go:214", after := #[{ on := 14, ground := Go.Ground.data }, { on := 11, ground := Go.Ground.guard }], guard := some (11, false) }) rfl rfl (by kernel_rfl) (by kernel_rfl) (by kernel_rfl) (fun _ _ _ h => h) hSx1 (by rfl) ?_
          simp only [Act.put, List.setIfInBounds_toArray, List.set_cons_zero, List.set_cons_succ]
          refine rg_skip 16 (some 26) (oi := { dst := some 26, op := Go.Op.load 52 (Go.Operand.tmp 25), type := 52, pos := "ref.go:214", after := #[{ on := 15, ground := Go.Ground.data }, { on := 11, ground := Go.Ground.guard }], guard := some (11, false) }) rfl rfl (by kernel_rfl) (by kernel_rfl) (by kernel_rfl) (fun _ _ _ h => h) hSx1 (by rfl) ?_
          simp only [Act.put, List.setIfInBounds_toArray, List.set_cons_zero, List.set_cons_succ]
          refine rg_skip 17 (some 27) (oi := { dst := some 27, op := Go.Op.call { callee := Go.Callee.value (Go.Operand.func 15), args := #[Go.Operand.tmp 26, Go.Operand.const (Go.Value.int Go.IntKind.i64 1000)], argTypes := #[52, 3] }, type := 4, pos := "ref.go:214", after := #[{ on := 16, ground := Go.Ground.data }, { on := 11, ground := Go.Ground.chain }, { on := 11, ground := Go.Ground.guard }], guard := some (11, false) }) rfl rfl (by kernel_rfl) (by kernel_rfl) (by kernel_rfl) (fun _ _ _ h => h) hSx1 (by rfl) ?_
          simp only [Act.put, List.setIfInBounds_toArray, List.set_cons_zero, List.set_cons_succ]
          refine rg_skip 18 (some 28) (oi := { dst := some 28, op := Go.Op.unOp Go.UnOp.not 4 (Go.Operand.tmp 27), type := 4, pos := "ref.go:214", after := #[{ on := 17, ground := Go.Ground.data }, { on := 11, ground := Go.Ground.guard }], guard := some (11, false) }) rfl rfl (by kernel_rfl) (by kernel_rfl) (by kernel_rfl) (fun _ _ _ h => h) hSx1 (by rfl) ?_
          simp only [Act.put, List.setIfInBounds_toArray, List.set_cons_zero, List.set_cons_succ]
          refine rg_take 19 (some 29) (.bool true) (oi := { dst := some 29, op := Go.Op.pick (Go.Operand.tmp 21) (Go.Operand.const (Go.Value.bool true)) (Go.Operand.tmp 28), type := 4, pos := "ref.go:214", after := #[{ on := 11, ground := Go.Ground.data }, { on := 18, ground := Go.Ground.data }], guard := none }) rfl rfl (by kernel_rfl) (by kernel_rfl) (by kernel_rfl) (fun _ _ _ h => h) hSx1 (by rfl) (fun w' hs => by rfl) ?_
          simp only [Act.put, List.setIfInBounds_toArray, List.set_cons_zero, List.set_cons_succ]
          refine rg_take 20 (some 30) (.bool true) (oi := { dst := some 30, op := Go.Op.move (Go.Operand.tmp 29), type := 4, pos := "ref.go:214", after := #[{ on := 19, ground := Go.Ground.data }, { on := 17, ground := Go.Ground.chain }], guard := none }) rfl rfl (by kernel_rfl) (by kernel_rfl) (by kernel_rfl) (fun _ _ _ h => h) hSx1 (by rfl) (fun w' hs => by rfl) ?_
          simp only [Act.put, List.setIfInBounds_toArray, List.set_cons_zero, List.set_cons_succ]
          refine rg_skip 21 (some 31) (oi := { dst := some 31, op := Go.Op.move (Go.Operand.tmp 0), type := 22, pos := "ref.go:214", after := #[{ on := 20, ground := Go.Ground.guard }], guard := some (20, false) }) rfl rfl (by kernel_rfl) (by kernel_rfl) (by kernel_rfl) (fun _ _ _ h => h) hSx1 (by rfl) ?_
          simp only [Act.put, List.setIfInBounds_toArray, List.set_cons_zero, List.set_cons_succ]
          refine rg_skip 22 (some 32) (oi := { dst := some 32, op := Go.Op.move (Go.Operand.tmp 3), type := 3, pos := "ref.go:214", after := #[{ on := 20, ground := Go.Ground.guard }], guard := some (20, false) }) rfl rfl (by kernel_rfl) (by kernel_rfl) (by kernel_rfl) (fun _ _ _ h => h) hSx1 (by rfl) ?_
          simp only [Act.put, List.setIfInBounds_toArray, List.set_cons_zero, List.set_cons_succ]
          refine rg_skip 23 (some 33) (oi := { dst := some 33, op := Go.Op.indexAddr 22 (Go.Operand.tmp 31) (Go.Operand.tmp 32), type := 0, pos := "ref.go:214", after := #[{ on := 21, ground := Go.Ground.data }, { on := 22, ground := Go.Ground.data }, { on := 20, ground := Go.Ground.guard }], guard := some (20, false) }) rfl rfl (by kernel_rfl) (by kernel_rfl) (by kernel_rfl) (fun _ _ _ h => h) hSx1 (by rfl) ?_
          simp only [Act.put, List.setIfInBounds_toArray, List.set_cons_zero, List.set_cons_succ]
          refine rg_skip 24 (some 34) (oi := { dst := some 34, op := Go.Op.fieldAddr 54 (Go.Operand.tmp 33) 2, type := 0, pos := "ref.go:214", after := #[{ on := 23, ground := Go.Ground.data }, { on := 20, ground := Go.Ground.guard }], guard := some (20, false) }) rfl rfl (by kernel_rfl) (by kernel_rfl) (by kernel_rfl) (fun _ _ _ h => h) hSx1 (by rfl) ?_
          simp only [Act.put, List.setIfInBounds_toArray, List.set_cons_zero, List.set_cons_succ]
          refine rg_skip 25 (some 35) (oi := { dst := some 35, op := Go.Op.load 49 (Go.Operand.tmp 34), type := 49, pos := "ref.go:214", after := #[{ on := 24, ground := Go.Ground.data }, { on := 20, ground := Go.Ground.guard }], guard := some (20, false) }) rfl rfl (by kernel_rfl) (by kernel_rfl) (by kernel_rfl) (fun _ _ _ h => h) hSx1 (by rfl) ?_
          simp only [Act.put, List.setIfInBounds_toArray, List.set_cons_zero, List.set_cons_succ]
          refine rg_skip 26 (some 36) (oi := { dst := some 36, op := Go.Op.move (Go.Operand.tmp 0), type := 22, pos := "ref.go:214", after := #[{ on := 20, ground := Go.Ground.guard }], guard := some (20, false) }) rfl rfl (by kernel_rfl) (by kernel_rfl) (by kernel_rfl) (fun _ _ _ h => h) hSx1 (by rfl) ?_
          simp only [Act.put, List.setIfInBounds_toArray, List.set_cons_zero, List.set_cons_succ]
          refine rg_skip 27 (some 37) (oi := { dst := some 37, op := Go.Op.move (Go.Operand.tmp 3), type := 3, pos := "ref.go:214", after := #[{ on := 20, ground := Go.Ground.guard }], guard := some (20, false) }) rfl rfl (by kernel_rfl) (by kernel_rfl) (by kernel_rfl) (fun _ _ _ h => h) hSx1 (by rfl) ?_
          simp only [Act.put, List.setIfInBounds_toArray, List.set_cons_zero, List.set_cons_succ]
          refine rg_skip 28 (some 38) (oi := { dst := some 38, op := Go.Op.indexAddr 22 (Go.Operand.tmp 36) (Go.Operand.tmp 37), type := 0, pos := "ref.go:214", after := #[{ on := 26, ground := Go.Ground.data }, { on := 27, ground := Go.Ground.data }, { on := 20, ground := Go.Ground.guard }], guard := some (20, false) }) rfl rfl (by kernel_rfl) (by kernel_rfl) (by kernel_rfl) (fun _ _ _ h => h) hSx1 (by rfl) ?_
          simp only [Act.put, List.setIfInBounds_toArray, List.set_cons_zero, List.set_cons_succ]
          refine rg_skip 29 (some 39) (oi := { dst := some 39, op := Go.Op.fieldAddr 54 (Go.Operand.tmp 38) 3, type := 0, pos := "ref.go:214", after := #[{ on := 28, ground := Go.Ground.data }, { on := 20, ground := Go.Ground.guard }], guard := some (20, false) }) rfl rfl (by kernel_rfl) (by kernel_rfl) (by kernel_rfl) (fun _ _ _ h => h) hSx1 (by rfl) ?_
          simp only [Act.put, List.setIfInBounds_toArray, List.set_cons_zero, List.set_cons_succ]
          refine rg_skip 30 (some 40) (oi := { dst := some 40, op := Go.Op.load 50 (Go.Operand.tmp 39), type := 50, pos := "ref.go:214", after := #[{ on := 29, ground := Go.Ground.data }, { on := 20, ground := Go.Ground.guard }], guard := some (20, false) }) rfl rfl (by kernel_rfl) (by kernel_rfl) (by kernel_rfl) (fun _ _ _ h => h) hSx1 (by rfl) ?_
          simp only [Act.put, List.setIfInBounds_toArray, List.set_cons_zero, List.set_cons_succ]
          refine rg_skip 31 (some 41) (oi := { dst := some 41, op := Go.Op.build 52 #[(3, Go.Operand.tmp 35), (4, Go.Operand.tmp 40)], type := 52, pos := "ref.go:214", after := #[{ on := 25, ground := Go.Ground.data }, { on := 30, ground := Go.Ground.data }, { on := 20, ground := Go.Ground.guard }], guard := some (20, false) }) rfl rfl (by kernel_rfl) (by kernel_rfl) (by kernel_rfl) (fun _ _ _ h => h) hSx1 (by rfl) ?_
          simp only [Act.put, List.setIfInBounds_toArray, List.set_cons_zero, List.set_cons_succ]
          refine rg_skip 32 (some 42) (oi := { dst := some 42, op := Go.Op.call { callee := Go.Callee.value (Go.Operand.func 15), args := #[Go.Operand.tmp 41, Go.Operand.const (Go.Value.int Go.IntKind.i64 1000)], argTypes := #[52, 3] }, type := 4, pos := "ref.go:214", after := #[{ on := 31, ground := Go.Ground.data }, { on := 20, ground := Go.Ground.chain }, { on := 20, ground := Go.Ground.guard }], guard := some (20, false) }) rfl rfl (by kernel_rfl) (by kernel_rfl) (by kernel_rfl) (fun _ _ _ h => h) hSx1 (by rfl) ?_
          simp only [Act.put, List.setIfInBounds_toArray, List.set_cons_zero, List.set_cons_succ]
          refine rg_skip 33 (some 43) (oi := { dst := some 43, op := Go.Op.unOp Go.UnOp.not 4 (Go.Operand.tmp 42), type := 4, pos := "ref.go:214", after := #[{ on := 32, ground := Go.Ground.data }, { on := 20, ground := Go.Ground.guard }], guard := some (20, false) }) rfl rfl (by kernel_rfl) (by kernel_rfl) (by kernel_rfl) (fun _ _ _ h => h) hSx1 (by rfl) ?_
          simp only [Act.put, List.setIfInBounds_toArray, List.set_cons_zero, List.set_cons_succ]
          refine rg_take 34 (some 44) (.bool true) (oi := { dst := some 44, op := Go.Op.pick (Go.Operand.tmp 30) (Go.Operand.const (Go.Value.bool true)) (Go.Operand.tmp 43), type := 4, pos := "ref.go:214", after := #[{ on := 20, ground := Go.Ground.data }, { on := 33, ground := Go.Ground.data }], guard := none }) rfl rfl (by kernel_rfl) (by kernel_rfl) (by kernel_rfl) (fun _ _ _ h => h) hSx1 (by rfl) (fun w' hs => by rfl) ?_
          simp only [Act.put, List.setIfInBounds_toArray, List.set_cons_zero, List.set_cons_succ]
          refine rg_done (by kernel_rfl) ?_
          go_wp2_with fail
          go_ret
          exact ⟨⟨_, rfl, fun h => by cases h⟩, hX.trans (show Ext wr _ from hSx1)⟩
    · have hlI : ¬ (i : Int) < (l.length : Int) := by omega
      go_wp2_with fail
      go_ret
      exact ⟨⟨_, rfl, fun _ => by omega⟩, hX⟩

end Go.Proofs.YtghhachbnhldoaaDoor
