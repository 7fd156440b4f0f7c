/-
  ref17.Same, at edits that are the same. Helper lemmas; no statement of the seat is proved here.
-/
import Derived.Test.YtghhachbnhldoaaDoorC30
namespace Go.Proofs.YtghhachbnhldoaaDoor
open Go.RowKit
set_option maxRecDepth 100000
set_option linter.unusedVariables false
set_option linter.unusedSimpArgs false

theorem pathB_iff : ∀ x y : List Step, pathB x y = true ↔ x = y
  | [], [] => by simp [pathB]
  | [], _ :: _ => by simp [pathB]
  | _ :: _, [] => by simp [pathB]
  | a :: x, b :: y => by rw [pathB, Bool.and_eq_true, stepB_iff, pathB_iff x y, List.cons.injEq]
set_option maxHeartbeats 16000000 in
theorem esame_any (p q : Nat → Prop) (x : List Edit) (v u : Value) (w : World) (h : Rep w p v (editsD x)) (k : Rep w q u (editsD x)) (hl : x.length ≤ 1000000000000) :
    Calls Tryd.prog 12 #[v, u] w fun e w' => e = .returned (.bool true) ∧ Ext w w' := by
  obtain ⟨a, c, rfl, hc1, hc2⟩ := h.count z_edit (by omega)
  obtain ⟨b, d, rfl, hd1, hd2⟩ := k.count z_edit (by omega)
  have q0 : ((x.length : Int) != (x.length : Int)) = false := bne_self_eq_false _
  have ha_at := fun W (hX : Ext w W) i (hi : i < x.length) => edit_at (h.ext hX) i hi
  have hb_at := fun W (hX : Ext w W) i (hi : i < x.length) => edit_at (k.ext hX) i hi
  clear h k
  go_enter Tryd.func12, Tryd.ntmps12
  go_wp2_with fail
  go_loopw [5] (fun t wr => ∃ i : Nat, t = .int .i64 i ∧ i ≤ x.length ∧ Ext w wr) (fun t _ => downV x.length t)
  case atStart => exact ⟨0, rfl, Nat.zero_le _, Ext.refl _⟩
  case round =>
    obtain ⟨i, rfl, hi, hX⟩ := hrel
    have hi0 : (0 : Int) ≤ (i : Int) := by omega
    have hi12 : (i : Int) ≤ 1000000000000 := by omega
    by_cases hlt : i < x.length
    · have hlI : (i : Int) < (x.length : Int) := by omega
      obtain ⟨ga, oa, x1a, x2a, x3a, x7a, x8a, hga, lga, _, a0, a1, a2, a3, a4, a5, a6, a7, a8, r1a, r2a, r3a, r7a, r8a⟩ := ha_at wr hX i hlt
      subst hga
      obtain ⟨gb, ob, x1b, x2b, x3b, x7b, x8b, hgb, lgb, _, b0, b1, b2, b3, b4, b5, b6, b7, b8, r1b, r2b, r3b, r7b, r8b⟩ := hb_at wr hX i hlt
      subst hgb
      obtain ⟨y, hy⟩ : ∃ y, x[i] = y := ⟨_, rfl⟩
      rw [hy] at a0 a4 a5 a6 r1a r2a r3a r7a r8a b0 b4 b5 b6 r1b r2b r3b r7b r8b
      obtain ⟨pa, pca, rfl, _, _⟩ := r1a.count z_step (by omega)
      obtain ⟨ka, kca, rfl, _, _⟩ := r2a.count z_attr (by omega)
      obtain ⟨na, nca, rfl, _, _⟩ := r3a.count z_node (by omega)
      obtain ⟨ma, mca, rfl, _, _⟩ := r7a.count z_attr (by omega)
      obtain ⟨qa, qca, rfl, _, _⟩ := r8a.count z_node (by omega)
      obtain ⟨pb, pcb, rfl, _, _⟩ := r1b.count z_step (by omega)
      obtain ⟨kb, kcb, rfl, _, _⟩ := r2b.count z_attr (by omega)
      obtain ⟨nb, ncb, rfl, _, _⟩ := r3b.count z_node (by omega)
      obtain ⟨mb, mcb, rfl, _, _⟩ := r7b.count z_attr (by omega)
      obtain ⟨qb, qcb, rfl, _, _⟩ := r8b.count z_node (by omega)
      have HP := Lib.hid fun W (hE : Ext wr W) => path_any _ _ y.path y.path _ _ W (r1a.ext hE) (r1b.ext hE)
      rw [(pathB_iff _ _).2 rfl] at HP
      have HA := Lib.hid fun W (hE : Ext wr W) => attrs_any _ _ y.attrs y.attrs _ _ W (r2a.ext hE) (r2b.ext hE)
      rw [(attrsS_iff _ _).2 rfl] at HA
      have HN := Lib.hid fun W (hE : Ext wr W) => nodes_any _ _ y.kids y.kids _ _ W (r3a.ext hE) (r3b.ext hE)
      rw [(sameL_iff _ _).2 rfl] at HN
      have HM := Lib.hid fun W (hE : Ext wr W) => same_any (nsz y.node) y.node y.node _ _ _ _ _ _ W (Nat.le_refl _) (r7a.ext hE) (r8a.ext hE) (r7b.ext hE) (r8b.ext hE)
      rw [(sameN_iff _ _).2 rfl] at HM
      obtain ⟨wo, hwo⟩ : ∃ wo, wo = wr := ⟨_, rfl⟩
      subst hwo
      clear hy r1a r2a r3a r7a r8a r1b r2b r3b r7b r8b
      go_wp2_with fail
      refine rg_begin (S := Sx wo) (by kernel_rfl) (Sx.begin _) ?_
      have hSx : Sx wo (World.drew wo) := (Sx.begin _)
      refine rg_take 0 (some 17) (.slice (some ⟨ga, oa, none⟩) x.length c) (oi := { dst := some 17, op := Go.Op.move (Go.Operand.tmp 0), type := 22, pos := "ref.go:204", after := #[], guard := none }) rfl rfl (by kernel_rfl) (by kernel_rfl) (by kernel_rfl) (fun _ _ _ h => h) hSx (by rfl) (fun w' hs => by rfl) ?_
      simp only [Act.put, List.setIfInBounds_toArray, List.set_cons_zero, List.set_cons_succ]
      refine rg_take 1 (some 18) (.int .i64 i) (oi := { dst := some 18, op := Go.Op.move (Go.Operand.tmp 5), type := 3, pos := "ref.go:204", after := #[], guard := none }) rfl rfl (by kernel_rfl) (by kernel_rfl) (by kernel_rfl) (fun _ _ _ h => h) hSx (by rfl) (fun w' hs => by rfl) ?_
      simp only [Act.put, List.setIfInBounds_toArray, List.set_cons_zero, List.set_cons_succ]
      refine rg_take 2 (some 19) (.pointer (some ⟨ga, oa + i * 9, none⟩)) (oi := { dst := some 19, op := Go.Op.indexAddr 22 (Go.Operand.tmp 17) (Go.Operand.tmp 18), type := 0, pos := "ref.go:204", after := #[{ on := 0, ground := Go.Ground.data }, { on := 1, ground := Go.Ground.data }], guard := none }) rfl rfl (by kernel_rfl) (by kernel_rfl) (by kernel_rfl) (fun _ _ _ h => h) hSx (by rfl) (fun w' hs => by first | rfl | go_simp) ?_
      simp only [Act.put, List.setIfInBounds_toArray, List.set_cons_zero, List.set_cons_succ]
      refine rg_take 3 (some 20) (.pointer (some ⟨ga, oa + i * 9, none⟩)) (oi := { dst := some 20, op := Go.Op.fieldAddr 54 (Go.Operand.tmp 19) 0, type := 0, pos := "ref.go:204", after := #[{ on := 2, ground := Go.Ground.data }], guard := none }) rfl rfl (by kernel_rfl) (by kernel_rfl) (by kernel_rfl) (fun _ _ _ h => h) hSx (by rfl) (fun w' hs => by first | rfl | go_simp) ?_
      simp only [Act.put, List.setIfInBounds_toArray, List.set_cons_zero, List.set_cons_succ]
      refine rg_take 4 (some 21) (.int .i64 y.kind) (oi := { dst := some 21, op := Go.Op.load 3 (Go.Operand.tmp 20), type := 3, pos := "ref.go:204", after := #[{ on := 3, ground := Go.Ground.data }], guard := none }) rfl rfl (by kernel_rfl) (by kernel_rfl) (by kernel_rfl) (fun _ _ _ h => h) hSx (by rfl) (fun w' hs => by (have h0 := hs.cell lga a0; go_simp)) ?_
      simp only [Act.put, List.setIfInBounds_toArray, List.set_cons_zero, List.set_cons_succ]
      refine rg_take 5 (some 22) (.slice (some ⟨gb, ob, none⟩) x.length d) (oi := { dst := some 22, op := Go.Op.move (Go.Operand.tmp 1), type := 22, pos := "ref.go:204", after := #[], guard := none }) rfl rfl (by kernel_rfl) (by kernel_rfl) (by kernel_rfl) (fun _ _ _ h => h) hSx (by rfl) (fun w' hs => by rfl) ?_
      simp only [Act.put, List.setIfInBounds_toArray, List.set_cons_zero, List.set_cons_succ]
      refine rg_take 6 (some 23) (.int .i64 i) (oi := { dst := some 23, op := Go.Op.move (Go.Operand.tmp 5), type := 3, pos := "ref.go:204", after := #[], guard := none }) rfl rfl (by kernel_rfl) (by kernel_rfl) (by kernel_rfl) (fun _ _ _ h => h) hSx (by rfl) (fun w' hs => by rfl) ?_
      simp only [Act.put, List.setIfInBounds_toArray, List.set_cons_zero, List.set_cons_succ]
      refine rg_take 7 (some 24) (.pointer (some ⟨gb, ob + i * 9, none⟩)) (oi := { dst := some 24, op := Go.Op.indexAddr 22 (Go.Operand.tmp 22) (Go.Operand.tmp 23), type := 0, pos := "ref.go:204", after := #[{ on := 5, ground := Go.Ground.data }, { on := 6, ground := Go.Ground.data }], guard := none }) rfl rfl (by kernel_rfl) (by kernel_rfl) (by kernel_rfl) (fun _ _ _ h => h) hSx (by rfl) (fun w' hs => by first | rfl | go_simp) ?_
      simp only [Act.put, List.setIfInBounds_toArray, List.set_cons_zero, List.set_cons_succ]
      refine rg_take 8 (some 25) (.pointer (some ⟨gb, ob + i * 9, none⟩)) (oi := { dst := some 25, op := Go.Op.fieldAddr 54 (Go.Operand.tmp 24) 0, type := 0, pos := "ref.go:204", after := #[{ on := 7, ground := Go.Ground.data }], guard := none }) rfl rfl (by kernel_rfl) (by kernel_rfl) (by kernel_rfl) (fun _ _ _ h => h) hSx (by rfl) (fun w' hs => by first | rfl | go_simp) ?_
      simp only [Act.put, List.setIfInBounds_toArray, List.set_cons_zero, List.set_cons_succ]
      refine rg_take 9 (some 26) (.int .i64 y.kind) (oi := { dst := some 26, op := Go.Op.load 3 (Go.Operand.tmp 25), type := 3, pos := "ref.go:204", after := #[{ on := 8, ground := Go.Ground.data }], guard := none }) rfl rfl (by kernel_rfl) (by kernel_rfl) (by kernel_rfl) (fun _ _ _ h => h) hSx (by rfl) (fun w' hs => by (have h0 := hs.cell lgb b0; go_simp)) ?_
      simp only [Act.put, List.setIfInBounds_toArray, List.set_cons_zero, List.set_cons_succ]
      refine rg_take 10 (some 27) (.bool false) (oi := { dst := some 27, op := Go.Op.binOp Go.BinOp.neq 3 (Go.Operand.tmp 21) (Go.Operand.tmp 26) 3, type := 4, pos := "ref.go:204", after := #[{ on := 4, ground := Go.Ground.data }, { on := 9, ground := Go.Ground.data }], guard := none }) rfl rfl (by kernel_rfl) (by kernel_rfl) (by kernel_rfl) (fun _ _ _ h => h) hSx (by rfl) (fun w' hs => by (go_simp; try simp)) ?_
      simp only [Act.put, List.setIfInBounds_toArray, List.set_cons_zero, List.set_cons_succ]
      refine rg_take 11 (some 28) (.bool false) (oi := { dst := some 28, op := Go.Op.move (Go.Operand.tmp 27), type := 4, pos := "ref.go:204", after := #[{ on := 10, ground := Go.Ground.data }], guard := none }) rfl rfl (by kernel_rfl) (by kernel_rfl) (by kernel_rfl) (fun _ _ _ h => h) hSx (by rfl) (fun w' hs => by rfl) ?_
      simp only [Act.put, List.setIfInBounds_toArray, List.set_cons_zero, List.set_cons_succ]
      refine rg_take 12 (some 29) (.slice (some ⟨ga, oa, none⟩) x.length c) (oi := { dst := some 29, op := Go.Op.move (Go.Operand.tmp 0), type := 22, pos := "ref.go:204", after := #[{ on := 11, ground := Go.Ground.guard }], guard := some (11, false) }) rfl rfl (by kernel_rfl) (by kernel_rfl) (by kernel_rfl) (fun _ _ _ h => h) hSx (by rfl) (fun w' hs => by rfl) ?_
      simp only [Act.put, List.setIfInBounds_toArray, List.set_cons_zero, List.set_cons_succ]
      refine rg_take 13 (some 30) (.int .i64 i) (oi := { dst := some 30, op := Go.Op.move (Go.Operand.tmp 5), type := 3, pos := "ref.go:204", after := #[{ on := 11, ground := Go.Ground.guard }], guard := some (11, false) }) rfl rfl (by kernel_rfl) (by kernel_rfl) (by kernel_rfl) (fun _ _ _ h => h) hSx (by rfl) (fun w' hs => by rfl) ?_
      simp only [Act.put, List.setIfInBounds_toArray, List.set_cons_zero, List.set_cons_succ]
      refine rg_take 14 (some 31) (.pointer (some ⟨ga, oa + i * 9, none⟩)) (oi := { dst := some 31, op := Go.Op.indexAddr 22 (Go.Operand.tmp 29) (Go.Operand.tmp 30), type := 0, pos := "ref.go:204", after := #[{ on := 12, ground := Go.Ground.data }, { on := 13, ground := Go.Ground.data }, { on := 11, ground := Go.Ground.guard }], guard := some (11, false) }) rfl rfl (by kernel_rfl) (by kernel_rfl) (by kernel_rfl) (fun _ _ _ h => h) hSx (by rfl) (fun w' hs => by first | rfl | go_simp) ?_
      simp only [Act.put, List.setIfInBounds_toArray, List.set_cons_zero, List.set_cons_succ]
      refine rg_take 15 (some 32) (.pointer (some ⟨ga, oa + i * 9 + 1, none⟩)) (oi := { dst := some 32, op := Go.Op.fieldAddr 54 (Go.Operand.tmp 31) 1, type := 0, pos := "ref.go:204", after := #[{ on := 14, ground := Go.Ground.data }, { on := 11, ground := Go.Ground.guard }], guard := some (11, false) }) rfl rfl (by kernel_rfl) (by kernel_rfl) (by kernel_rfl) (fun _ _ _ h => h) hSx (by rfl) (fun w' hs => by first | rfl | go_simp) ?_
      simp only [Act.put, List.setIfInBounds_toArray, List.set_cons_zero, List.set_cons_succ]
      refine rg_take 16 (some 33) (.slice pa y.path.length pca) (oi := { dst := some 33, op := Go.Op.load 48 (Go.Operand.tmp 32), type := 48, pos := "ref.go:204", after := #[{ on := 15, ground := Go.Ground.data }, { on := 11, ground := Go.Ground.guard }], guard := some (11, false) }) rfl rfl (by kernel_rfl) (by kernel_rfl) (by kernel_rfl) (fun _ _ _ h => h) hSx (by rfl) (fun w' hs => by (have h0 := hs.cell lga a1; go_simp)) ?_
      simp only [Act.put, List.setIfInBounds_toArray, List.set_cons_zero, List.set_cons_succ]
      refine rg_take 17 (some 34) (.slice (some ⟨gb, ob, none⟩) x.length d) (oi := { dst := some 34, op := Go.Op.move (Go.Operand.tmp 1), type := 22, pos := "ref.go:204", after := #[{ on := 11, ground := Go.Ground.guard }], guard := some (11, false) }) rfl rfl (by kernel_rfl) (by kernel_rfl) (by kernel_rfl) (fun _ _ _ h => h) hSx (by rfl) (fun w' hs => by rfl) ?_
      simp only [Act.put, List.setIfInBounds_toArray, List.set_cons_zero, List.set_cons_succ]
      refine rg_take 18 (some 35) (.int .i64 i) (oi := { dst := some 35, op := Go.Op.move (Go.Operand.tmp 5), type := 3, pos := "ref.go:204", after := #[{ on := 11, ground := Go.Ground.guard }], guard := some (11, false) }) rfl rfl (by kernel_rfl) (by kernel_rfl) (by kernel_rfl) (fun _ _ _ h => h) hSx (by rfl) (fun w' hs => by rfl) ?_
      simp only [Act.put, List.setIfInBounds_toArray, List.set_cons_zero, List.set_cons_succ]
      refine rg_take 19 (some 36) (.pointer (some ⟨gb, ob + i * 9, none⟩)) (oi := { dst := some 36, op := Go.Op.indexAddr 22 (Go.Operand.tmp 34) (Go.Operand.tmp 35), type := 0, pos := "ref.go:204", after := #[{ on := 17, ground := Go.Ground.data }, { on := 18, ground := Go.Ground.data }, { on := 11, ground := Go.Ground.guard }], guard := some (11, false) }) rfl rfl (by kernel_rfl) (by kernel_rfl) (by kernel_rfl) (fun _ _ _ h => h) hSx (by rfl) (fun w' hs => by first | rfl | go_simp) ?_
      simp only [Act.put, List.setIfInBounds_toArray, List.set_cons_zero, List.set_cons_succ]
      refine rg_take 20 (some 37) (.pointer (some ⟨gb, ob + i * 9 + 1, none⟩)) (oi := { dst := some 37, op := Go.Op.fieldAddr 54 (Go.Operand.tmp 36) 1, type := 0, pos := "ref.go:204", after := #[{ on := 19, ground := Go.Ground.data }, { on := 11, ground := Go.Ground.guard }], guard := some (11, false) }) rfl rfl (by kernel_rfl) (by kernel_rfl) (by kernel_rfl) (fun _ _ _ h => h) hSx (by rfl) (fun w' hs => by first | rfl | go_simp) ?_
      simp only [Act.put, List.setIfInBounds_toArray, List.set_cons_zero, List.set_cons_succ]
      refine rg_take 21 (some 38) (.slice pb y.path.length pcb) (oi := { dst := some 38, op := Go.Op.load 48 (Go.Operand.tmp 37), type := 48, pos := "ref.go:204", after := #[{ on := 20, ground := Go.Ground.data }, { on := 11, ground := Go.Ground.guard }], guard := some (11, false) }) rfl rfl (by kernel_rfl) (by kernel_rfl) (by kernel_rfl) (fun _ _ _ h => h) hSx (by rfl) (fun w' hs => by (have h0 := hs.cell lgb b1; go_simp)) ?_
      simp only [Act.put, List.setIfInBounds_toArray, List.set_cons_zero, List.set_cons_succ]
      refine rg_call 22 (some 39) 37 #[.slice pa y.path.length pca, .slice pb y.path.length pcb] (oi := { dst := some 39, op := Go.Op.call { callee := Go.Callee.value (Go.Operand.func 37), args := #[Go.Operand.tmp 33, Go.Operand.tmp 38], argTypes := #[48, 48] }, type := 4, pos := "ref.go:204", after := #[{ on := 16, ground := Go.Ground.data }, { on := 21, ground := Go.Ground.data }, { on := 11, ground := Go.Ground.chain }, { on := 11, ground := Go.Ground.guard }], guard := some (11, false) }) rfl rfl (by kernel_rfl) (by rfl) (fun w' => by first | rfl | go_simp) (R := fun v w' => v = .bool true ∧ Ext (World.drew wo) w') ?_ ?_
      · refine (HP.out (World.drew wo) hSx).mono ?_
        rintro e w' ⟨rfl, h⟩
        exact ⟨_, rfl, rfl, h⟩
      rintro _ wrx1 ⟨rfl, hBrx1⟩
      have hSx1 := hSx.ext hBrx1
      refine ⟨hSx1, ?_⟩
      simp only [Act.put, List.setIfInBounds_toArray, List.set_cons_zero, List.set_cons_succ]
      refine rg_take 23 (some 40) (.bool false) (oi := { dst := some 40, op := Go.Op.unOp Go.UnOp.not 4 (Go.Operand.tmp 39), type := 4, pos := "ref.go:204", after := #[{ on := 22, ground := Go.Ground.data }, { on := 11, ground := Go.Ground.guard }], guard := some (11, false) }) rfl rfl (by kernel_rfl) (by kernel_rfl) (by kernel_rfl) (fun _ _ _ h => h) hSx1 (by rfl) (fun w' hs => by first | rfl | go_simp) ?_
      simp only [Act.put, List.setIfInBounds_toArray, List.set_cons_zero, List.set_cons_succ]
      refine rg_take 24 (some 41) (.bool false) (oi := { dst := some 41, op := Go.Op.pick (Go.Operand.tmp 28) (Go.Operand.const (Go.Value.bool true)) (Go.Operand.tmp 40), type := 4, pos := "ref.go:204", after := #[{ on := 11, ground := Go.Ground.data }, { on := 23, ground := Go.Ground.data }], guard := none }) rfl rfl (by kernel_rfl) (by kernel_rfl) (by kernel_rfl) (fun _ _ _ h => h) hSx1 (by rfl) (fun w' hs => by rfl) ?_
      simp only [Act.put, List.setIfInBounds_toArray, List.set_cons_zero, List.set_cons_succ]
      refine rg_take 25 (some 42) (.bool false) (oi := { dst := some 42, op := Go.Op.move (Go.Operand.tmp 41), type := 4, pos := "ref.go:204", after := #[{ on := 24, ground := Go.Ground.data }, { on := 22, ground := Go.Ground.chain }], guard := none }) rfl rfl (by kernel_rfl) (by kernel_rfl) (by kernel_rfl) (fun _ _ _ h => h) hSx1 (by rfl) (fun w' hs => by rfl) ?_
      simp only [Act.put, List.setIfInBounds_toArray, List.set_cons_zero, List.set_cons_succ]
      refine rg_take 26 (some 43) (.slice (some ⟨ga, oa, none⟩) x.length c) (oi := { dst := some 43, op := Go.Op.move (Go.Operand.tmp 0), type := 22, pos := "ref.go:204", after := #[{ on := 25, ground := Go.Ground.guard }], guard := some (25, false) }) rfl rfl (by kernel_rfl) (by kernel_rfl) (by kernel_rfl) (fun _ _ _ h => h) hSx1 (by rfl) (fun w' hs => by rfl) ?_
      simp only [Act.put, List.setIfInBounds_toArray, List.set_cons_zero, List.set_cons_succ]
      refine rg_take 27 (some 44) (.int .i64 i) (oi := { dst := some 44, op := Go.Op.move (Go.Operand.tmp 5), type := 3, pos := "ref.go:204", after := #[{ on := 25, ground := Go.Ground.guard }], guard := some (25, false) }) rfl rfl (by kernel_rfl) (by kernel_rfl) (by kernel_rfl) (fun _ _ _ h => h) hSx1 (by rfl) (fun w' hs => by rfl) ?_
      simp only [Act.put, List.setIfInBounds_toArray, List.set_cons_zero, List.set_cons_succ]
      refine rg_take 28 (some 45) (.pointer (some ⟨ga, oa + i * 9, none⟩)) (oi := { dst := some 45, op := Go.Op.indexAddr 22 (Go.Operand.tmp 43) (Go.Operand.tmp 44), type := 0, pos := "ref.go:204", after := #[{ on := 26, ground := Go.Ground.data }, { on := 27, ground := Go.Ground.data }, { on := 25, ground := Go.Ground.guard }], guard := some (25, false) }) rfl rfl (by kernel_rfl) (by kernel_rfl) (by kernel_rfl) (fun _ _ _ h => h) hSx1 (by rfl) (fun w' hs => by first | rfl | go_simp) ?_
      simp only [Act.put, List.setIfInBounds_toArray, List.set_cons_zero, List.set_cons_succ]
      refine rg_take 29 (some 46) (.pointer (some ⟨ga, oa + i * 9 + 2, none⟩)) (oi := { dst := some 46, op := Go.Op.fieldAddr 54 (Go.Operand.tmp 45) 2, type := 0, pos := "ref.go:204", after := #[{ on := 28, ground := Go.Ground.data }, { on := 25, ground := Go.Ground.guard }], guard := some (25, false) }) rfl rfl (by kernel_rfl) (by kernel_rfl) (by kernel_rfl) (fun _ _ _ h => h) hSx1 (by rfl) (fun w' hs => by first | rfl | go_simp) ?_
      simp only [Act.put, List.setIfInBounds_toArray, List.set_cons_zero, List.set_cons_succ]
      refine rg_take 30 (some 47) (.slice ka y.attrs.length kca) (oi := { dst := some 47, op := Go.Op.load 49 (Go.Operand.tmp 46), type := 49, pos := "ref.go:204", after := #[{ on := 29, ground := Go.Ground.data }, { on := 25, ground := Go.Ground.guard }], guard := some (25, false) }) rfl rfl (by kernel_rfl) (by kernel_rfl) (by kernel_rfl) (fun _ _ _ h => h) hSx1 (by rfl) (fun w' hs => by (have h0 := hs.cell lga a2; go_simp)) ?_
      simp only [Act.put, List.setIfInBounds_toArray, List.set_cons_zero, List.set_cons_succ]
      refine rg_take 31 (some 48) (.slice (some ⟨gb, ob, none⟩) x.length d) (oi := { dst := some 48, op := Go.Op.move (Go.Operand.tmp 1), type := 22, pos := "ref.go:204", after := #[{ on := 25, ground := Go.Ground.guard }], guard := some (25, false) }) rfl rfl (by kernel_rfl) (by kernel_rfl) (by kernel_rfl) (fun _ _ _ h => h) hSx1 (by rfl) (fun w' hs => by rfl) ?_
      simp only [Act.put, List.setIfInBounds_toArray, List.set_cons_zero, List.set_cons_succ]
      refine rg_take 32 (some 49) (.int .i64 i) (oi := { dst := some 49, op := Go.Op.move (Go.Operand.tmp 5), type := 3, pos := "ref.go:204", after := #[{ on := 25, ground := Go.Ground.guard }], guard := some (25, false) }) rfl rfl (by kernel_rfl) (by kernel_rfl) (by kernel_rfl) (fun _ _ _ h => h) hSx1 (by rfl) (fun w' hs => by rfl) ?_
      simp only [Act.put, List.setIfInBounds_toArray, List.set_cons_zero, List.set_cons_succ]
      refine rg_take 33 (some 50) (.pointer (some ⟨gb, ob + i * 9, none⟩)) (oi := { dst := some 50, op := Go.Op.indexAddr 22 (Go.Operand.tmp 48) (Go.Operand.tmp 49), type := 0, pos := "ref.go:204", after := #[{ on := 31, ground := Go.Ground.data }, { on := 32, ground := Go.Ground.data }, { on := 25, ground := Go.Ground.guard }], guard := some (25, false) }) rfl rfl (by kernel_rfl) (by kernel_rfl) (by kernel_rfl) (fun _ _ _ h => h) hSx1 (by rfl) (fun w' hs => by first | rfl | go_simp) ?_
      simp only [Act.put, List.setIfInBounds_toArray, List.set_cons_zero, List.set_cons_succ]
      refine rg_take 34 (some 51) (.pointer (some ⟨gb, ob + i * 9 + 2, none⟩)) (oi := { dst := some 51, op := Go.Op.fieldAddr 54 (Go.Operand.tmp 50) 2, type := 0, pos := "ref.go:204", after := #[{ on := 33, ground := Go.Ground.data }, { on := 25, ground := Go.Ground.guard }], guard := some (25, false) }) rfl rfl (by kernel_rfl) (by kernel_rfl) (by kernel_rfl) (fun _ _ _ h => h) hSx1 (by rfl) (fun w' hs => by first | rfl | go_simp) ?_
      simp only [Act.put, List.setIfInBounds_toArray, List.set_cons_zero, List.set_cons_succ]
      refine rg_take 35 (some 52) (.slice kb y.attrs.length kcb) (oi := { dst := some 52, op := Go.Op.load 49 (Go.Operand.tmp 51), type := 49, pos := "ref.go:204", after := #[{ on := 34, ground := Go.Ground.data }, { on := 25, ground := Go.Ground.guard }], guard := some (25, false) }) rfl rfl (by kernel_rfl) (by kernel_rfl) (by kernel_rfl) (fun _ _ _ h => h) hSx1 (by rfl) (fun w' hs => by (have h0 := hs.cell lgb b2; go_simp)) ?_
      simp only [Act.put, List.setIfInBounds_toArray, List.set_cons_zero, List.set_cons_succ]
      refine rg_call 36 (some 53) 38 #[.slice ka y.attrs.length kca, .slice kb y.attrs.length kcb] (oi := { dst := some 53, op := Go.Op.call { callee := Go.Callee.value (Go.Operand.func 38), args := #[Go.Operand.tmp 47, Go.Operand.tmp 52], argTypes := #[49, 49] }, type := 4, pos := "ref.go:204", after := #[{ on := 30, ground := Go.Ground.data }, { on := 35, ground := Go.Ground.data }, { on := 25, ground := Go.Ground.chain }, { on := 25, ground := Go.Ground.guard }], guard := some (25, false) }) rfl rfl (by kernel_rfl) (by rfl) (fun w' => by first | rfl | go_simp) (R := fun v w' => v = .bool true ∧ Ext wrx1 w') ?_ ?_
      · refine (HA.out wrx1 hSx1).mono ?_
        rintro e w' ⟨rfl, h⟩
        exact ⟨_, rfl, rfl, h⟩
      rintro _ wrx2 ⟨rfl, hBrx2⟩
      have hSx2 := hSx1.ext hBrx2
      refine ⟨hSx2, ?_⟩
      simp only [Act.put, List.setIfInBounds_toArray, List.set_cons_zero, List.set_cons_succ]
      refine rg_take 37 (some 54) (.bool false) (oi := { dst := some 54, op := Go.Op.unOp Go.UnOp.not 4 (Go.Operand.tmp 53), type := 4, pos := "ref.go:204", after := #[{ on := 36, ground := Go.Ground.data }, { on := 25, ground := Go.Ground.guard }], guard := some (25, false) }) rfl rfl (by kernel_rfl) (by kernel_rfl) (by kernel_rfl) (fun _ _ _ h => h) hSx2 (by rfl) (fun w' hs => by first | rfl | go_simp) ?_
      simp only [Act.put, List.setIfInBounds_toArray, List.set_cons_zero, List.set_cons_succ]
      refine rg_take 38 (some 55) (.bool false) (oi := { dst := some 55, op := Go.Op.pick (Go.Operand.tmp 42) (Go.Operand.const (Go.Value.bool true)) (Go.Operand.tmp 54), type := 4, pos := "ref.go:204", after := #[{ on := 25, ground := Go.Ground.data }, { on := 37, ground := Go.Ground.data }], guard := none }) rfl rfl (by kernel_rfl) (by kernel_rfl) (by kernel_rfl) (fun _ _ _ h => h) hSx2 (by rfl) (fun w' hs => by rfl) ?_
      simp only [Act.put, List.setIfInBounds_toArray, List.set_cons_zero, List.set_cons_succ]
      refine rg_take 39 (some 56) (.bool false) (oi := { dst := some 56, op := Go.Op.move (Go.Operand.tmp 55), type := 4, pos := "ref.go:204", after := #[{ on := 38, ground := Go.Ground.data }, { on := 36, ground := Go.Ground.chain }], guard := none }) rfl rfl (by kernel_rfl) (by kernel_rfl) (by kernel_rfl) (fun _ _ _ h => h) hSx2 (by rfl) (fun w' hs => by rfl) ?_
      simp only [Act.put, List.setIfInBounds_toArray, List.set_cons_zero, List.set_cons_succ]
      refine rg_take 40 (some 57) (.slice (some ⟨ga, oa, none⟩) x.length c) (oi := { dst := some 57, op := Go.Op.move (Go.Operand.tmp 0), type := 22, pos := "ref.go:204", after := #[{ on := 39, ground := Go.Ground.guard }], guard := some (39, false) }) rfl rfl (by kernel_rfl) (by kernel_rfl) (by kernel_rfl) (fun _ _ _ h => h) hSx2 (by rfl) (fun w' hs => by rfl) ?_
      simp only [Act.put, List.setIfInBounds_toArray, List.set_cons_zero, List.set_cons_succ]
      refine rg_take 41 (some 58) (.int .i64 i) (oi := { dst := some 58, op := Go.Op.move (Go.Operand.tmp 5), type := 3, pos := "ref.go:204", after := #[{ on := 39, ground := Go.Ground.guard }], guard := some (39, false) }) rfl rfl (by kernel_rfl) (by kernel_rfl) (by kernel_rfl) (fun _ _ _ h => h) hSx2 (by rfl) (fun w' hs => by rfl) ?_
      simp only [Act.put, List.setIfInBounds_toArray, List.set_cons_zero, List.set_cons_succ]
      refine rg_take 42 (some 59) (.pointer (some ⟨ga, oa + i * 9, none⟩)) (oi := { dst := some 59, op := Go.Op.indexAddr 22 (Go.Operand.tmp 57) (Go.Operand.tmp 58), type := 0, pos := "ref.go:204", after := #[{ on := 40, ground := Go.Ground.data }, { on := 41, ground := Go.Ground.data }, { on := 39, ground := Go.Ground.guard }], guard := some (39, false) }) rfl rfl (by kernel_rfl) (by kernel_rfl) (by kernel_rfl) (fun _ _ _ h => h) hSx2 (by rfl) (fun w' hs => by first | rfl | go_simp) ?_
      simp only [Act.put, List.setIfInBounds_toArray, List.set_cons_zero, List.set_cons_succ]
      refine rg_take 43 (some 60) (.pointer (some ⟨ga, oa + i * 9 + 3, none⟩)) (oi := { dst := some 60, op := Go.Op.fieldAddr 54 (Go.Operand.tmp 59) 3, type := 0, pos := "ref.go:204", after := #[{ on := 42, ground := Go.Ground.data }, { on := 39, ground := Go.Ground.guard }], guard := some (39, false) }) rfl rfl (by kernel_rfl) (by kernel_rfl) (by kernel_rfl) (fun _ _ _ h => h) hSx2 (by rfl) (fun w' hs => by first | rfl | go_simp) ?_
      simp only [Act.put, List.setIfInBounds_toArray, List.set_cons_zero, List.set_cons_succ]
      refine rg_take 44 (some 61) (.slice na y.kids.length nca) (oi := { dst := some 61, op := Go.Op.load 50 (Go.Operand.tmp 60), type := 50, pos := "ref.go:204", after := #[{ on := 43, ground := Go.Ground.data }, { on := 39, ground := Go.Ground.guard }], guard := some (39, false) }) rfl rfl (by kernel_rfl) (by kernel_rfl) (by kernel_rfl) (fun _ _ _ h => h) hSx2 (by rfl) (fun w' hs => by (have h0 := hs.cell lga a3; go_simp)) ?_
      simp only [Act.put, List.setIfInBounds_toArray, List.set_cons_zero, List.set_cons_succ]
      refine rg_take 45 (some 62) (.slice (some ⟨gb, ob, none⟩) x.length d) (oi := { dst := some 62, op := Go.Op.move (Go.Operand.tmp 1), type := 22, pos := "ref.go:204", after := #[{ on := 39, ground := Go.Ground.guard }], guard := some (39, false) }) rfl rfl (by kernel_rfl) (by kernel_rfl) (by kernel_rfl) (fun _ _ _ h => h) hSx2 (by rfl) (fun w' hs => by rfl) ?_
      simp only [Act.put, List.setIfInBounds_toArray, List.set_cons_zero, List.set_cons_succ]
      refine rg_take 46 (some 63) (.int .i64 i) (oi := { dst := some 63, op := Go.Op.move (Go.Operand.tmp 5), type := 3, pos := "ref.go:204", after := #[{ on := 39, ground := Go.Ground.guard }], guard := some (39, false) }) rfl rfl (by kernel_rfl) (by kernel_rfl) (by kernel_rfl) (fun _ _ _ h => h) hSx2 (by rfl) (fun w' hs => by rfl) ?_
      simp only [Act.put, List.setIfInBounds_toArray, List.set_cons_zero, List.set_cons_succ]
      refine rg_take 47 (some 64) (.pointer (some ⟨gb, ob + i * 9, none⟩)) (oi := { dst := some 64, op := Go.Op.indexAddr 22 (Go.Operand.tmp 62) (Go.Operand.tmp 63), type := 0, pos := "ref.go:204", after := #[{ on := 45, ground := Go.Ground.data }, { on := 46, ground := Go.Ground.data }, { on := 39, ground := Go.Ground.guard }], guard := some (39, false) }) rfl rfl (by kernel_rfl) (by kernel_rfl) (by kernel_rfl) (fun _ _ _ h => h) hSx2 (by rfl) (fun w' hs => by first | rfl | go_simp) ?_
      simp only [Act.put, List.setIfInBounds_toArray, List.set_cons_zero, List.set_cons_succ]
      refine rg_take 48 (some 65) (.pointer (some ⟨gb, ob + i * 9 + 3, none⟩)) (oi := { dst := some 65, op := Go.Op.fieldAddr 54 (Go.Operand.tmp 64) 3, type := 0, pos := "ref.go:204", after := #[{ on := 47, ground := Go.Ground.data }, { on := 39, ground := Go.Ground.guard }], guard := some (39, false) }) rfl rfl (by kernel_rfl) (by kernel_rfl) (by kernel_rfl) (fun _ _ _ h => h) hSx2 (by rfl) (fun w' hs => by first | rfl | go_simp) ?_
      simp only [Act.put, List.setIfInBounds_toArray, List.set_cons_zero, List.set_cons_succ]
      refine rg_take 49 (some 66) (.slice nb y.kids.length ncb) (oi := { dst := some 66, op := Go.Op.load 50 (Go.Operand.tmp 65), type := 50, pos := "ref.go:204", after := #[{ on := 48, ground := Go.Ground.data }, { on := 39, ground := Go.Ground.guard }], guard := some (39, false) }) rfl rfl (by kernel_rfl) (by kernel_rfl) (by kernel_rfl) (fun _ _ _ h => h) hSx2 (by rfl) (fun w' hs => by (have h0 := hs.cell lgb b3; go_simp)) ?_
      simp only [Act.put, List.setIfInBounds_toArray, List.set_cons_zero, List.set_cons_succ]
      refine rg_call 50 (some 67) 39 #[.slice na y.kids.length nca, .slice nb y.kids.length ncb] (oi := { dst := some 67, op := Go.Op.call { callee := Go.Callee.value (Go.Operand.func 39), args := #[Go.Operand.tmp 61, Go.Operand.tmp 66], argTypes := #[50, 50] }, type := 4, pos := "ref.go:204", after := #[{ on := 44, ground := Go.Ground.data }, { on := 49, ground := Go.Ground.data }, { on := 39, ground := Go.Ground.chain }, { on := 39, ground := Go.Ground.guard }], guard := some (39, false) }) rfl rfl (by kernel_rfl) (by rfl) (fun w' => by first | rfl | go_simp) (R := fun v w' => v = .bool true ∧ Ext wrx2 w') ?_ ?_
      · refine (HN.out wrx2 hSx2).mono ?_
        rintro e w' ⟨rfl, h⟩
        exact ⟨_, rfl, rfl, h⟩
      rintro _ wrx3 ⟨rfl, hBrx3⟩
      have hSx3 := hSx2.ext hBrx3
      refine ⟨hSx3, ?_⟩
      simp only [Act.put, List.setIfInBounds_toArray, List.set_cons_zero, List.set_cons_succ]
      refine rg_take 51 (some 68) (.bool false) (oi := { dst := some 68, op := Go.Op.unOp Go.UnOp.not 4 (Go.Operand.tmp 67), type := 4, pos := "ref.go:204", after := #[{ on := 50, ground := Go.Ground.data }, { on := 39, ground := Go.Ground.guard }], guard := some (39, false) }) rfl rfl (by kernel_rfl) (by kernel_rfl) (by kernel_rfl) (fun _ _ _ h => h) hSx3 (by rfl) (fun w' hs => by first | rfl | go_simp) ?_
      simp only [Act.put, List.setIfInBounds_toArray, List.set_cons_zero, List.set_cons_succ]
      refine rg_take 52 (some 69) (.bool false) (oi := { dst := some 69, op := Go.Op.pick (Go.Operand.tmp 56) (Go.Operand.const (Go.Value.bool true)) (Go.Operand.tmp 68), type := 4, pos := "ref.go:204", after := #[{ on := 39, ground := Go.Ground.data }, { on := 51, ground := Go.Ground.data }], guard := none }) rfl rfl (by kernel_rfl) (by kernel_rfl) (by kernel_rfl) (fun _ _ _ h => h) hSx3 (by rfl) (fun w' hs => by rfl) ?_
      simp only [Act.put, List.setIfInBounds_toArray, List.set_cons_zero, List.set_cons_succ]
      refine rg_take 53 (some 70) (.bool false) (oi := { dst := some 70, op := Go.Op.move (Go.Operand.tmp 69), type := 4, pos := "ref.go:204", after := #[{ on := 52, ground := Go.Ground.data }, { on := 50, ground := Go.Ground.chain }], guard := none }) rfl rfl (by kernel_rfl) (by kernel_rfl) (by kernel_rfl) (fun _ _ _ h => h) hSx3 (by rfl) (fun w' hs => by rfl) ?_
      simp only [Act.put, List.setIfInBounds_toArray, List.set_cons_zero, List.set_cons_succ]
      refine rg_take 54 (some 71) (.slice (some ⟨ga, oa, none⟩) x.length c) (oi := { dst := some 71, op := Go.Op.move (Go.Operand.tmp 0), type := 22, pos := "ref.go:204", after := #[{ on := 53, ground := Go.Ground.guard }], guard := some (53, false) }) rfl rfl (by kernel_rfl) (by kernel_rfl) (by kernel_rfl) (fun _ _ _ h => h) hSx3 (by rfl) (fun w' hs => by rfl) ?_
      simp only [Act.put, List.setIfInBounds_toArray, List.set_cons_zero, List.set_cons_succ]
      refine rg_take 55 (some 72) (.int .i64 i) (oi := { dst := some 72, op := Go.Op.move (Go.Operand.tmp 5), type := 3, pos := "ref.go:204", after := #[{ on := 53, ground := Go.Ground.guard }], guard := some (53, false) }) rfl rfl (by kernel_rfl) (by kernel_rfl) (by kernel_rfl) (fun _ _ _ h => h) hSx3 (by rfl) (fun w' hs => by rfl) ?_
      simp only [Act.put, List.setIfInBounds_toArray, List.set_cons_zero, List.set_cons_succ]
      refine rg_take 56 (some 73) (.pointer (some ⟨ga, oa + i * 9, none⟩)) (oi := { dst := some 73, op := Go.Op.indexAddr 22 (Go.Operand.tmp 71) (Go.Operand.tmp 72), type := 0, pos := "ref.go:204", after := #[{ on := 54, ground := Go.Ground.data }, { on := 55, ground := Go.Ground.data }, { on := 53, ground := Go.Ground.guard }], guard := some (53, false) }) rfl rfl (by kernel_rfl) (by kernel_rfl) (by kernel_rfl) (fun _ _ _ h => h) hSx3 (by rfl) (fun w' hs => by first | rfl | go_simp) ?_
      simp only [Act.put, List.setIfInBounds_toArray, List.set_cons_zero, List.set_cons_succ]
      refine rg_take 57 (some 74) (.pointer (some ⟨ga, oa + i * 9 + 4, none⟩)) (oi := { dst := some 74, op := Go.Op.fieldAddr 54 (Go.Operand.tmp 73) 4, type := 0, pos := "ref.go:204", after := #[{ on := 56, ground := Go.Ground.data }, { on := 53, ground := Go.Ground.guard }], guard := some (53, false) }) rfl rfl (by kernel_rfl) (by kernel_rfl) (by kernel_rfl) (fun _ _ _ h => h) hSx3 (by rfl) (fun w' hs => by first | rfl | go_simp) ?_
      simp only [Act.put, List.setIfInBounds_toArray, List.set_cons_zero, List.set_cons_succ]
      refine rg_take 58 (some 75) (.agg #[.int .i64 y.node.kind, .string (bs y.node.name), .string (bs y.node.text), .slice ma y.node.attrs.length mca, .slice qa y.node.kids.length qca]) (oi := { dst := some 75, op := Go.Op.load 52 (Go.Operand.tmp 74), type := 52, pos := "ref.go:204", after := #[{ on := 57, ground := Go.Ground.data }, { on := 53, ground := Go.Ground.guard }], guard := some (53, false) }) rfl rfl (by kernel_rfl) (by kernel_rfl) (by kernel_rfl) (fun _ _ _ h => h) hSx3 (by rfl) (fun w' hs => by (have h0 := hs.cell lga a4; have h1 := hs.cell lga a5; have h2 := hs.cell lga a6; have h3 := hs.cell lga a7; have h4 := hs.cell lga a8; go_simp)) ?_
      simp only [Act.put, List.setIfInBounds_toArray, List.set_cons_zero, List.set_cons_succ]
      refine rg_take 59 (some 76) (.slice (some ⟨gb, ob, none⟩) x.length d) (oi := { dst := some 76, op := Go.Op.move (Go.Operand.tmp 1), type := 22, pos := "ref.go:204", after := #[{ on := 53, ground := Go.Ground.guard }], guard := some (53, false) }) rfl rfl (by kernel_rfl) (by kernel_rfl) (by kernel_rfl) (fun _ _ _ h => h) hSx3 (by rfl) (fun w' hs => by rfl) ?_
      simp only [Act.put, List.setIfInBounds_toArray, List.set_cons_zero, List.set_cons_succ]
      refine rg_take 60 (some 77) (.int .i64 i) (oi := { dst := some 77, op := Go.Op.move (Go.Operand.tmp 5), type := 3, pos := "ref.go:204", after := #[{ on := 53, ground := Go.Ground.guard }], guard := some (53, false) }) rfl rfl (by kernel_rfl) (by kernel_rfl) (by kernel_rfl) (fun _ _ _ h => h) hSx3 (by rfl) (fun w' hs => by rfl) ?_
      simp only [Act.put, List.setIfInBounds_toArray, List.set_cons_zero, List.set_cons_succ]
      refine rg_take 61 (some 78) (.pointer (some ⟨gb, ob + i * 9, none⟩)) (oi := { dst := some 78, op := Go.Op.indexAddr 22 (Go.Operand.tmp 76) (Go.Operand.tmp 77), type := 0, pos := "ref.go:204", after := #[{ on := 59, ground := Go.Ground.data }, { on := 60, ground := Go.Ground.data }, { on := 53, ground := Go.Ground.guard }], guard := some (53, false) }) rfl rfl (by kernel_rfl) (by kernel_rfl) (by kernel_rfl) (fun _ _ _ h => h) hSx3 (by rfl) (fun w' hs => by first | rfl | go_simp) ?_
      simp only [Act.put, List.setIfInBounds_toArray, List.set_cons_zero, List.set_cons_succ]
      refine rg_take 62 (some 79) (.pointer (some ⟨gb, ob + i * 9 + 4, none⟩)) (oi := { dst := some 79, op := Go.Op.fieldAddr 54 (Go.Operand.tmp 78) 4, type := 0, pos := "ref.go:204", after := #[{ on := 61, ground := Go.Ground.data }, { on := 53, ground := Go.Ground.guard }], guard := some (53, false) }) rfl rfl (by kernel_rfl) (by kernel_rfl) (by kernel_rfl) (fun _ _ _ h => h) hSx3 (by rfl) (fun w' hs => by first | rfl | go_simp) ?_
      simp only [Act.put, List.setIfInBounds_toArray, List.set_cons_zero, List.set_cons_succ]
      refine rg_take 63 (some 80) (.agg #[.int .i64 y.node.kind, .string (bs y.node.name), .string (bs y.node.text), .slice mb y.node.attrs.length mcb, .slice qb y.node.kids.length qcb]) (oi := { dst := some 80, op := Go.Op.load 52 (Go.Operand.tmp 79), type := 52, pos := "ref.go:204", after := #[{ on := 62, ground := Go.Ground.data }, { on := 53, ground := Go.Ground.guard }], guard := some (53, false) }) rfl rfl (by kernel_rfl) (by kernel_rfl) (by kernel_rfl) (fun _ _ _ h => h) hSx3 (by rfl) (fun w' hs => by (have h0 := hs.cell lgb b4; have h1 := hs.cell lgb b5; have h2 := hs.cell lgb b6; have h3 := hs.cell lgb b7; have h4 := hs.cell lgb b8; go_simp)) ?_
      simp only [Act.put, List.setIfInBounds_toArray, List.set_cons_zero, List.set_cons_succ]
      refine rg_call 64 (some 81) 40 #[.agg #[.int .i64 y.node.kind, .string (bs y.node.name), .string (bs y.node.text), .slice ma y.node.attrs.length mca, .slice qa y.node.kids.length qca], .agg #[.int .i64 y.node.kind, .string (bs y.node.name), .string (bs y.node.text), .slice mb y.node.attrs.length mcb, .slice qb y.node.kids.length qcb]] (oi := { dst := some 81, op := Go.Op.call { callee := Go.Callee.value (Go.Operand.func 40), args := #[Go.Operand.tmp 75, Go.Operand.tmp 80], argTypes := #[52, 52] }, type := 4, pos := "ref.go:204", after := #[{ on := 58, ground := Go.Ground.data }, { on := 63, ground := Go.Ground.data }, { on := 53, ground := Go.Ground.chain }, { on := 53, ground := Go.Ground.guard }], guard := some (53, false) }) rfl rfl (by kernel_rfl) (by rfl) (fun w' => by first | rfl | go_simp) (R := fun v w' => v = .bool true ∧ Ext wrx3 w') ?_ ?_
      · refine (HM.out wrx3 hSx3).mono ?_
        rintro e w' ⟨rfl, h⟩
        exact ⟨_, rfl, rfl, h⟩
      rintro _ wrx4 ⟨rfl, hBrx4⟩
      have hSx4 := hSx3.ext hBrx4
      refine ⟨hSx4, ?_⟩
      simp only [Act.put, List.setIfInBounds_toArray, List.set_cons_zero, List.set_cons_succ]
      refine rg_take 65 (some 82) (.bool false) (oi := { dst := some 82, op := Go.Op.unOp Go.UnOp.not 4 (Go.Operand.tmp 81), type := 4, pos := "ref.go:204", after := #[{ on := 64, ground := Go.Ground.data }, { on := 53, ground := Go.Ground.guard }], guard := some (53, false) }) rfl rfl (by kernel_rfl) (by kernel_rfl) (by kernel_rfl) (fun _ _ _ h => h) hSx4 (by rfl) (fun w' hs => by first | rfl | go_simp) ?_
      simp only [Act.put, List.setIfInBounds_toArray, List.set_cons_zero, List.set_cons_succ]
      refine rg_take 66 (some 83) (.bool false) (oi := { dst := some 83, op := Go.Op.pick (Go.Operand.tmp 70) (Go.Operand.const (Go.Value.bool true)) (Go.Operand.tmp 82), type := 4, pos := "ref.go:204", after := #[{ on := 53, ground := Go.Ground.data }, { on := 65, ground := Go.Ground.data }], guard := none }) rfl rfl (by kernel_rfl) (by kernel_rfl) (by kernel_rfl) (fun _ _ _ h => h) hSx4 (by rfl) (fun w' hs => by rfl) ?_
      simp only [Act.put, List.setIfInBounds_toArray, List.set_cons_zero, List.set_cons_succ]
      refine rg_done (by kernel_rfl) ?_
      have hXn := hX.trans (show Ext wo wrx4 from hSx4)
      clear HP HA HN HM a0 b0 a1 b1 a2 b2 a3 b3 a4 b4 a5 b5 a6 b6 a7 b7 a8 b8
      go_wp2_with fail
      go_roundw
      case rel => exact ⟨i + 1, by go_num, by omega, hXn⟩
      case measure => simp only [downV]; omega
    · have hlI : ¬ (i : Int) < (x.length : Int) := by omega
      go_wp2_with fail
      go_ret
      exact ⟨rfl, hX⟩

end Go.Proofs.YtghhachbnhldoaaDoor
