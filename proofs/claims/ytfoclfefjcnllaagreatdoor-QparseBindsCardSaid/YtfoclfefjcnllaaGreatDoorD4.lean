/-
  The scanner's has, skip. Helper lemmas; no statement of the seat is proved here.
-/
import Derived.Test.YtfoclfefjcnllaaGreatDoorD3
namespace Go.Proofs.YtfoclfefjcnllaaGreatDoor
open Go.RowKit
set_option maxRecDepth 100000
set_option linter.unusedVariables false
set_option linter.unusedSimpArgs false

theorem blank_any (c : UInt8) (w : World) : Calls Tryz.prog 62 #[.int .i32 (c.toNat : Nat)] w fun e w' => e = .returned (.bool (blankB c)) ∧ Ext w w' := by
  have hq : ∀ k : UInt8, (c == k) = (c.toNat == k.toNat) := fun k => by rw [Bool.eq_iff_iff, beq_iff_eq, beq_iff_eq, UInt8.toNat_inj]
  obtain ⟨R, hR⟩ : ∃ R, blankB c = R := ⟨_, rfl⟩
  rw [hR]
  unfold blankB at hR
  rw [hq 9, hq 10, hq 13, hq 32] at hR
  obtain ⟨n, hn⟩ : ∃ n, c.toNat = n := ⟨_, rfl⟩
  rw [hn] at hR ⊢
  have e9 : ((n : Int) == 9) = (n == (9 : UInt8).toNat) := by rw [Bool.eq_iff_iff, beq_iff_eq, beq_iff_eq]; exact Int.ofNat_inj
  have e10 : ((n : Int) == 10) = (n == (10 : UInt8).toNat) := by rw [Bool.eq_iff_iff, beq_iff_eq, beq_iff_eq]; exact Int.ofNat_inj
  have e13 : ((n : Int) == 13) = (n == (13 : UInt8).toNat) := by rw [Bool.eq_iff_iff, beq_iff_eq, beq_iff_eq]; exact Int.ofNat_inj
  have e32 : ((n : Int) == 32) = (n == (32 : UInt8).toNat) := by rw [Bool.eq_iff_iff, beq_iff_eq, beq_iff_eq]; exact Int.ofNat_inj
  rw [← e9, ← e10, ← e13, ← e32] at hR
  clear e9 e10 e13 e32 hq hn
  obtain ⟨b1, h1⟩ : ∃ b, ((n : Int) == 9) = b := ⟨_, rfl⟩
  obtain ⟨b2, h2⟩ : ∃ b, ((n : Int) == 10) = b := ⟨_, rfl⟩
  obtain ⟨b3, h3⟩ : ∃ b, ((n : Int) == 13) = b := ⟨_, rfl⟩
  obtain ⟨b4, h4⟩ : ∃ b, ((n : Int) == 32) = b := ⟨_, rfl⟩
  rw [h1, h2, h3, h4] at hR
  have HR := Lib.hid hR
  clear hR
  go_enter Tryz.func62, Tryz.ntmps62
  cases b1 <;> cases b2 <;> cases b3 <;> cases b4 <;> (go_wp2_with fail; go_ret; exact ⟨ret_bool HR.out, Ext.refl _⟩)
theorem hasp_any (l t : List UInt8) (w : World) : Calls Tryz.prog 90 #[.string (bs l), .string (bs t)] w fun e w' => e = .returned (.bool (hasS l t)) ∧ Ext w w' :=
  (Tryz.strings_HasPrefix (bs l) (bs t) w).mono fun e w' ⟨h1, h2⟩ => ⟨by rw [h1]; rfl, by rw [h2]; exact Ext.refl _⟩
set_option maxHeartbeats 4000000 in
theorem has_any (w0 W : World) (s : List UInt8) (i : Nat) (out : List QT) (t : List UInt8) (h : SC w0 W s i out) (hi : i ≤ s.length) (hl : s.length ≤ 1000) :
    Calls Tryz.prog 91 #[.pointer (some ⟨w0.heap.size, 0, none⟩), .string (bs t)] W fun e w' => e = .returned (.bool (hasS (s.drop i) t)) ∧ Ext W w' := by
  have hlt := h.lt
  obtain ⟨wz, hwz⟩ : ∃ wz, wz = W := ⟨_, rfl⟩
  subst hwz
  have c0 := h.c0; have c1 := h.c1
  obtain ⟨B, hB⟩ : ∃ B, hasS (s.drop i) t = B := ⟨_, rfl⟩
  have hasp_any := hasp_any
  have HP := Lib.hid fun W => hasp_any (s.drop i) t W
  rw [hB] at HP ⊢
  clear hB h hasp_any
  go_enter Tryz.func91, Tryz.ntmps91
  go_wp2_with fail
  refine rg_begin (S := Sx wz) (by kernel_rfl) (Sx.begin _) ?_
  have hS : Sx wz (World.drew wz) := (Sx.begin _)
  refine rg_take 0 (some 5) (.pointer (some ⟨w0.heap.size, 0, none⟩)) (oi := { dst := some 5, op := Go.Op.move (Go.Operand.tmp 0), type := 66, pos := "qlex.go:21", after := #[], guard := none }) rfl rfl (by kernel_rfl) (by kernel_rfl) (by kernel_rfl) (fun _ _ _ h => h) hS (by rfl) (fun w' hs => by rfl) ?_
  simp only [Act.put, List.setIfInBounds_toArray, List.set_cons_zero, List.set_cons_succ]
  refine rg_take 1 (some 6) (.pointer (some ⟨w0.heap.size, 0, none⟩)) (oi := { dst := some 6, op := Go.Op.nilCheck (Go.Operand.tmp 5), type := 0, pos := "qlex.go:21", after := #[{ on := 0, ground := Go.Ground.data }], guard := none }) rfl rfl (by kernel_rfl) (by kernel_rfl) (by kernel_rfl) (fun _ _ _ h => h) hS (by rfl) (fun w' hs => by first | rfl | go_simp) ?_
  simp only [Act.put, List.setIfInBounds_toArray, List.set_cons_zero, List.set_cons_succ]
  refine rg_take 2 (some 7) (.pointer (some ⟨w0.heap.size, 0, none⟩)) (oi := { dst := some 7, op := Go.Op.fieldAddr 68 (Go.Operand.tmp 6) 0, type := 0, pos := "qlex.go:21", after := #[{ on := 1, ground := Go.Ground.data }], guard := none }) rfl rfl (by kernel_rfl) (by kernel_rfl) (by kernel_rfl) (fun _ _ _ h => h) hS (by rfl) (fun w' hs => by first | rfl | go_simp) ?_
  simp only [Act.put, List.setIfInBounds_toArray, List.set_cons_zero, List.set_cons_succ]
  refine rg_take 3 (some 8) (.string (bs s)) (oi := { dst := some 8, op := Go.Op.load 9 (Go.Operand.tmp 7), type := 9, pos := "qlex.go:21", after := #[{ on := 2, ground := Go.Ground.data }], guard := none }) rfl rfl (by kernel_rfl) (by kernel_rfl) (by kernel_rfl) (fun _ _ _ h => h) hS (by rfl) (fun w' hs => by (have h0 := hs.cell hlt c0; go_simp)) ?_
  simp only [Act.put, List.setIfInBounds_toArray, List.set_cons_zero, List.set_cons_succ]
  refine rg_take 4 (some 9) (.pointer (some ⟨w0.heap.size, 0, none⟩)) (oi := { dst := some 9, op := Go.Op.move (Go.Operand.tmp 0), type := 66, pos := "qlex.go:21", after := #[], guard := none }) rfl rfl (by kernel_rfl) (by kernel_rfl) (by kernel_rfl) (fun _ _ _ h => h) hS (by rfl) (fun w' hs => by rfl) ?_
  simp only [Act.put, List.setIfInBounds_toArray, List.set_cons_zero, List.set_cons_succ]
  refine rg_take 5 (some 10) (.pointer (some ⟨w0.heap.size, 0, none⟩)) (oi := { dst := some 10, op := Go.Op.nilCheck (Go.Operand.tmp 9), type := 0, pos := "qlex.go:21", after := #[{ on := 4, ground := Go.Ground.data }], guard := none }) rfl rfl (by kernel_rfl) (by kernel_rfl) (by kernel_rfl) (fun _ _ _ h => h) hS (by rfl) (fun w' hs => by first | rfl | go_simp) ?_
  simp only [Act.put, List.setIfInBounds_toArray, List.set_cons_zero, List.set_cons_succ]
  refine rg_take 6 (some 11) (.pointer (some ⟨w0.heap.size, 1, none⟩)) (oi := { dst := some 11, op := Go.Op.fieldAddr 68 (Go.Operand.tmp 10) 1, type := 0, pos := "qlex.go:21", after := #[{ on := 5, ground := Go.Ground.data }], guard := none }) rfl rfl (by kernel_rfl) (by kernel_rfl) (by kernel_rfl) (fun _ _ _ h => h) hS (by rfl) (fun w' hs => by first | rfl | go_simp) ?_
  simp only [Act.put, List.setIfInBounds_toArray, List.set_cons_zero, List.set_cons_succ]
  refine rg_take 7 (some 12) (.int .i64 i) (oi := { dst := some 12, op := Go.Op.load 3 (Go.Operand.tmp 11), type := 3, pos := "qlex.go:21", after := #[{ on := 6, ground := Go.Ground.data }], guard := none }) rfl rfl (by kernel_rfl) (by kernel_rfl) (by kernel_rfl) (fun _ _ _ h => h) hS (by rfl) (fun w' hs => by (have h0 := hs.cell hlt c1; go_simp)) ?_
  simp only [Act.put, List.setIfInBounds_toArray, List.set_cons_zero, List.set_cons_succ]
  refine rg_take 8 (some 13) (.string (bs (s.drop i))) (oi := { dst := some 13, op := Go.Op.slice 9 (Go.Operand.tmp 8) (some (Go.Operand.tmp 12)) none none, type := 9, pos := "qlex.go:21", after := #[{ on := 3, ground := Go.Ground.data }, { on := 7, ground := Go.Ground.data }], guard := none }) rfl rfl (by kernel_rfl) (by kernel_rfl) (by kernel_rfl) (fun _ _ _ h => h) hS (by rfl) (fun w' hs => by exact exec_sfrom (i := i) rfl rfl rfl (by omega) _) ?_
  simp only [Act.put, List.setIfInBounds_toArray, List.set_cons_zero, List.set_cons_succ]
  refine rg_take 9 (some 14) (.string (bs t)) (oi := { dst := some 14, op := Go.Op.move (Go.Operand.tmp 1), type := 9, pos := "qlex.go:21", after := #[], guard := none }) rfl rfl (by kernel_rfl) (by kernel_rfl) (by kernel_rfl) (fun _ _ _ h => h) hS (by rfl) (fun w' hs => by rfl) ?_
  simp only [Act.put, List.setIfInBounds_toArray, List.set_cons_zero, List.set_cons_succ]
  refine rg_call 10 (some 15) 90 #[.string (bs (s.drop i)), .string (bs t)] (oi := { dst := some 15, op := Go.Op.call { callee := Go.Callee.value (Go.Operand.func 90), args := #[Go.Operand.tmp 13, Go.Operand.tmp 14], argTypes := #[9, 9] }, type := 4, pos := "qlex.go:21", after := #[{ on := 8, ground := Go.Ground.data }, { on := 9, ground := Go.Ground.data }], guard := none }) rfl rfl (by kernel_rfl) (by rfl) (fun w' => by first | rfl | go_simp) (R := fun v w' => v = .bool B ∧ Ext (World.drew wz) w') ?_ ?_
  · refine (HP.out (World.drew wz)).mono ?_
    rintro e w' ⟨rfl, h⟩
    exact ⟨_, rfl, rfl, h⟩
  rintro _ wr1 ⟨rfl, hBr1⟩
  have hS1 := hS.ext hBr1
  refine ⟨hS1, ?_⟩
  simp only [Act.put, List.setIfInBounds_toArray, List.set_cons_zero, List.set_cons_succ]
  refine rg_take 11 (some 4) (.bool B) (oi := { dst := some 4, op := Go.Op.assign (Go.Operand.tmp 15), type := 4, pos := "qlex.go:21", after := #[{ on := 10, ground := Go.Ground.data }, { on := 10, ground := Go.Ground.chain }, { on := 0, ground := Go.Ground.phase }, { on := 1, ground := Go.Ground.phase }, { on := 2, ground := Go.Ground.phase }, { on := 3, ground := Go.Ground.phase }, { on := 4, ground := Go.Ground.phase }, { on := 5, ground := Go.Ground.phase }, { on := 6, ground := Go.Ground.phase }, { on := 7, ground := Go.Ground.phase }, { on := 8, ground := Go.Ground.phase }, { on := 9, ground := Go.Ground.phase }, { on := 10, ground := Go.Ground.phase }], guard := none }) rfl rfl (by kernel_rfl) (by kernel_rfl) (by kernel_rfl) (fun _ _ _ h => h) hS1 (by rfl) (fun w' hs => by rfl) ?_
  simp only [Act.put, List.setIfInBounds_toArray, List.set_cons_zero, List.set_cons_succ]
  refine rg_done (by kernel_rfl) ?_
  go_wp2_with fail
  go_ret
  exact ⟨rfl, hS1⟩
def atQ (N : Nat) (w : World) (g : Nat) : Nat := match w.cell? ⟨g, 1, none⟩ with
  | some (.int _ i) => N - i.toNat
  | _ => 0
theorem skip_go (s : List UInt8) (i : Nat) (h : i < s.length) : skipS (s.drop i) = if blankB s[i] = true then skipS (s.drop (i + 1)) + 1 else 0 := by
  unfold skipS
  rw [List.drop_eq_getElem_cons h, List.takeWhile_cons]
  split <;> simp
set_option maxHeartbeats 8000000 in
theorem skip_any (w0 W : World) (s : List UInt8) (i : Nat) (out : List QT) (h : SC w0 W s i out) (hi : i ≤ s.length) (hl : s.length ≤ 1000) :
    Calls Tryz.prog 45 #[.pointer (some ⟨w0.heap.size, 0, none⟩)] W fun e w' => e = .returned (.tuple #[]) ∧ SC w0 w' s (i + skipS (s.drop i)) out := by
  obtain ⟨R, hR⟩ : ∃ R, i + skipS (s.drop i) = R := ⟨_, rfl⟩
  rw [hR]
  have HR := Lib.hid hR
  have HS := Lib.hid h
  clear hR h
  go_enter Tryz.func45, Tryz.ntmps45
  go_wp2_with fail
  go_loopw [] (fun wr => ∃ i, Hid (SC w0 wr s i out) ∧ i ≤ s.length ∧ Hid (i + skipS (s.drop i) = R)) (fun wr => atQ s.length wr w0.heap.size)
  case atStart => exact ⟨i, HS, hi, HR⟩
  case round =>
    clear HS HR hi
    obtain ⟨i, HS, hi, HI⟩ := hrel
    have hlt := HS.out.lt
    obtain ⟨wz, hwz⟩ : ∃ wz, wz = wr := ⟨_, rfl⟩
    subst hwz
    have c0 := HS.out.c0; have c1 := HS.out.c1
    by_cases hlI : i < s.length
    · have HB := Lib.hid fun W => blank_any s[i] W
      obtain ⟨b, hb⟩ : ∃ b, blankB s[i] = b := ⟨_, rfl⟩
      rw [hb] at HB
      have HN : Hid ((if b = true then i + 1 + skipS (s.drop (i + 1)) else i) = R) := Lib.hid (by rw [← HI.out, skip_go s i hlI, hb]; cases b <;> simp <;> omega)
      clear hb
      cases b with
      | true =>
        go_wp2_with fail
        refine rg_begin (S := Sx wz) (by kernel_rfl) (Sx.begin _) ?_
        have hS : Sx wz (World.drew wz) := (Sx.begin _)
        refine rg_take 0 (some 2) (.pointer (some ⟨w0.heap.size, 0, none⟩)) (oi := { dst := some 2, op := Go.Op.move (Go.Operand.tmp 0), type := 66, pos := "qlex.go:25", after := #[], guard := none }) rfl rfl (by kernel_rfl) (by kernel_rfl) (by kernel_rfl) (fun _ _ _ h => h) hS (by rfl) (fun w' hs => by rfl) ?_
        simp only [Act.put, List.setIfInBounds_toArray, List.set_cons_zero, List.set_cons_succ]
        refine rg_take 1 (some 3) (.pointer (some ⟨w0.heap.size, 0, none⟩)) (oi := { dst := some 3, op := Go.Op.nilCheck (Go.Operand.tmp 2), type := 0, pos := "qlex.go:25", after := #[{ on := 0, ground := Go.Ground.data }], guard := none }) rfl rfl (by kernel_rfl) (by kernel_rfl) (by kernel_rfl) (fun _ _ _ h => h) hS (by rfl) (fun w' hs => by first | rfl | go_simp) ?_
        simp only [Act.put, List.setIfInBounds_toArray, List.set_cons_zero, List.set_cons_succ]
        refine rg_take 2 (some 4) (.pointer (some ⟨w0.heap.size, 1, none⟩)) (oi := { dst := some 4, op := Go.Op.fieldAddr 68 (Go.Operand.tmp 3) 1, type := 0, pos := "qlex.go:25", after := #[{ on := 1, ground := Go.Ground.data }], guard := none }) rfl rfl (by kernel_rfl) (by kernel_rfl) (by kernel_rfl) (fun _ _ _ h => h) hS (by rfl) (fun w' hs => by first | rfl | go_simp) ?_
        simp only [Act.put, List.setIfInBounds_toArray, List.set_cons_zero, List.set_cons_succ]
        refine rg_take 3 (some 5) (.int .i64 i) (oi := { dst := some 5, op := Go.Op.load 3 (Go.Operand.tmp 4), type := 3, pos := "qlex.go:25", after := #[{ on := 2, ground := Go.Ground.data }], guard := none }) rfl rfl (by kernel_rfl) (by kernel_rfl) (by kernel_rfl) (fun _ _ _ h => h) hS (by rfl) (fun w' hs => by (have h0 := hs.cell hlt c1; go_simp)) ?_
        simp only [Act.put, List.setIfInBounds_toArray, List.set_cons_zero, List.set_cons_succ]
        refine rg_take 4 (some 6) (.pointer (some ⟨w0.heap.size, 0, none⟩)) (oi := { dst := some 6, op := Go.Op.move (Go.Operand.tmp 0), type := 66, pos := "qlex.go:25", after := #[], guard := none }) rfl rfl (by kernel_rfl) (by kernel_rfl) (by kernel_rfl) (fun _ _ _ h => h) hS (by rfl) (fun w' hs => by rfl) ?_
        simp only [Act.put, List.setIfInBounds_toArray, List.set_cons_zero, List.set_cons_succ]
        refine rg_take 5 (some 7) (.pointer (some ⟨w0.heap.size, 0, none⟩)) (oi := { dst := some 7, op := Go.Op.nilCheck (Go.Operand.tmp 6), type := 0, pos := "qlex.go:25", after := #[{ on := 4, ground := Go.Ground.data }], guard := none }) rfl rfl (by kernel_rfl) (by kernel_rfl) (by kernel_rfl) (fun _ _ _ h => h) hS (by rfl) (fun w' hs => by first | rfl | go_simp) ?_
        simp only [Act.put, List.setIfInBounds_toArray, List.set_cons_zero, List.set_cons_succ]
        refine rg_take 6 (some 8) (.pointer (some ⟨w0.heap.size, 0, none⟩)) (oi := { dst := some 8, op := Go.Op.fieldAddr 68 (Go.Operand.tmp 7) 0, type := 0, pos := "qlex.go:25", after := #[{ on := 5, ground := Go.Ground.data }], guard := none }) rfl rfl (by kernel_rfl) (by kernel_rfl) (by kernel_rfl) (fun _ _ _ h => h) hS (by rfl) (fun w' hs => by first | rfl | go_simp) ?_
        simp only [Act.put, List.setIfInBounds_toArray, List.set_cons_zero, List.set_cons_succ]
        refine rg_take 7 (some 9) (.string (bs s)) (oi := { dst := some 9, op := Go.Op.load 9 (Go.Operand.tmp 8), type := 9, pos := "qlex.go:25", after := #[{ on := 6, ground := Go.Ground.data }], guard := none }) rfl rfl (by kernel_rfl) (by kernel_rfl) (by kernel_rfl) (fun _ _ _ h => h) hS (by rfl) (fun w' hs => by (have h0 := hs.cell hlt c0; go_simp)) ?_
        simp only [Act.put, List.setIfInBounds_toArray, List.set_cons_zero, List.set_cons_succ]
        refine rg_take 8 (some 10) (.int .i64 s.length) (oi := { dst := some 10, op := Go.Op.call { callee := Go.Callee.builtin Go.Builtin.len, args := #[Go.Operand.tmp 9], argTypes := #[9] }, type := 3, pos := "qlex.go:25", after := #[{ on := 7, ground := Go.Ground.data }], guard := none }) rfl rfl (by kernel_rfl) (by kernel_rfl) (by kernel_rfl) (fun _ _ _ h => h) hS (by rfl) (fun w' hs => by exact exec_slen rfl rfl _) ?_
        simp only [Act.put, List.setIfInBounds_toArray, List.set_cons_zero, List.set_cons_succ]
        refine rg_take 9 (some 11) (.bool true) (oi := { dst := some 11, op := Go.Op.binOp Go.BinOp.lss 3 (Go.Operand.tmp 5) (Go.Operand.tmp 10) 3, type := 4, pos := "qlex.go:25", after := #[{ on := 3, ground := Go.Ground.data }, { on := 8, ground := Go.Ground.data }], guard := none }) rfl rfl (by kernel_rfl) (by kernel_rfl) (by kernel_rfl) (fun _ _ _ h => h) hS (by rfl) (fun w' hs => by exact exec_lss (i := i) (j := s.length) rfl rfl rfl (decide_eq_true (by omega)) _) ?_
        simp only [Act.put, List.setIfInBounds_toArray, List.set_cons_zero, List.set_cons_succ]
        refine rg_take 10 (some 12) (.bool true) (oi := { dst := some 12, op := Go.Op.move (Go.Operand.tmp 11), type := 4, pos := "qlex.go:25", after := #[{ on := 9, ground := Go.Ground.data }], guard := none }) rfl rfl (by kernel_rfl) (by kernel_rfl) (by kernel_rfl) (fun _ _ _ h => h) hS (by rfl) (fun w' hs => by rfl) ?_
        simp only [Act.put, List.setIfInBounds_toArray, List.set_cons_zero, List.set_cons_succ]
        refine rg_take 11 (some 13) (.pointer (some ⟨w0.heap.size, 0, none⟩)) (oi := { dst := some 13, op := Go.Op.move (Go.Operand.tmp 0), type := 66, pos := "qlex.go:25", after := #[{ on := 10, ground := Go.Ground.guard }], guard := some (10, true) }) rfl rfl (by kernel_rfl) (by kernel_rfl) (by kernel_rfl) (fun _ _ _ h => h) hS (by rfl) (fun w' hs => by rfl) ?_
        simp only [Act.put, List.setIfInBounds_toArray, List.set_cons_zero, List.set_cons_succ]
        refine rg_take 12 (some 14) (.pointer (some ⟨w0.heap.size, 0, none⟩)) (oi := { dst := some 14, op := Go.Op.nilCheck (Go.Operand.tmp 13), type := 0, pos := "qlex.go:25", after := #[{ on := 11, ground := Go.Ground.data }, { on := 10, ground := Go.Ground.guard }], guard := some (10, true) }) rfl rfl (by kernel_rfl) (by kernel_rfl) (by kernel_rfl) (fun _ _ _ h => h) hS (by rfl) (fun w' hs => by first | rfl | go_simp) ?_
        simp only [Act.put, List.setIfInBounds_toArray, List.set_cons_zero, List.set_cons_succ]
        refine rg_take 13 (some 15) (.pointer (some ⟨w0.heap.size, 0, none⟩)) (oi := { dst := some 15, op := Go.Op.fieldAddr 68 (Go.Operand.tmp 14) 0, type := 0, pos := "qlex.go:25", after := #[{ on := 12, ground := Go.Ground.data }, { on := 10, ground := Go.Ground.guard }], guard := some (10, true) }) rfl rfl (by kernel_rfl) (by kernel_rfl) (by kernel_rfl) (fun _ _ _ h => h) hS (by rfl) (fun w' hs => by first | rfl | go_simp) ?_
        simp only [Act.put, List.setIfInBounds_toArray, List.set_cons_zero, List.set_cons_succ]
        refine rg_take 14 (some 16) (.string (bs s)) (oi := { dst := some 16, op := Go.Op.load 9 (Go.Operand.tmp 15), type := 9, pos := "qlex.go:25", after := #[{ on := 13, ground := Go.Ground.data }, { on := 10, ground := Go.Ground.guard }], guard := some (10, true) }) rfl rfl (by kernel_rfl) (by kernel_rfl) (by kernel_rfl) (fun _ _ _ h => h) hS (by rfl) (fun w' hs => by (have h0 := hs.cell hlt c0; go_simp)) ?_
        simp only [Act.put, List.setIfInBounds_toArray, List.set_cons_zero, List.set_cons_succ]
        refine rg_take 15 (some 17) (.pointer (some ⟨w0.heap.size, 0, none⟩)) (oi := { dst := some 17, op := Go.Op.move (Go.Operand.tmp 0), type := 66, pos := "qlex.go:25", after := #[{ on := 10, ground := Go.Ground.guard }], guard := some (10, true) }) rfl rfl (by kernel_rfl) (by kernel_rfl) (by kernel_rfl) (fun _ _ _ h => h) hS (by rfl) (fun w' hs => by rfl) ?_
        simp only [Act.put, List.setIfInBounds_toArray, List.set_cons_zero, List.set_cons_succ]
        refine rg_take 16 (some 18) (.pointer (some ⟨w0.heap.size, 0, none⟩)) (oi := { dst := some 18, op := Go.Op.nilCheck (Go.Operand.tmp 17), type := 0, pos := "qlex.go:25", after := #[{ on := 15, ground := Go.Ground.data }, { on := 10, ground := Go.Ground.guard }], guard := some (10, true) }) rfl rfl (by kernel_rfl) (by kernel_rfl) (by kernel_rfl) (fun _ _ _ h => h) hS (by rfl) (fun w' hs => by first | rfl | go_simp) ?_
        simp only [Act.put, List.setIfInBounds_toArray, List.set_cons_zero, List.set_cons_succ]
        refine rg_take 17 (some 19) (.pointer (some ⟨w0.heap.size, 1, none⟩)) (oi := { dst := some 19, op := Go.Op.fieldAddr 68 (Go.Operand.tmp 18) 1, type := 0, pos := "qlex.go:25", after := #[{ on := 16, ground := Go.Ground.data }, { on := 10, ground := Go.Ground.guard }], guard := some (10, true) }) rfl rfl (by kernel_rfl) (by kernel_rfl) (by kernel_rfl) (fun _ _ _ h => h) hS (by rfl) (fun w' hs => by first | rfl | go_simp) ?_
        simp only [Act.put, List.setIfInBounds_toArray, List.set_cons_zero, List.set_cons_succ]
        refine rg_take 18 (some 20) (.int .i64 i) (oi := { dst := some 20, op := Go.Op.load 3 (Go.Operand.tmp 19), type := 3, pos := "qlex.go:25", after := #[{ on := 17, ground := Go.Ground.data }, { on := 10, ground := Go.Ground.guard }], guard := some (10, true) }) rfl rfl (by kernel_rfl) (by kernel_rfl) (by kernel_rfl) (fun _ _ _ h => h) hS (by rfl) (fun w' hs => by (have h0 := hs.cell hlt c1; go_simp)) ?_
        simp only [Act.put, List.setIfInBounds_toArray, List.set_cons_zero, List.set_cons_succ]
        refine rg_take 19 (some 21) (.int .u8 (s[i].toNat : Nat)) (oi := { dst := some 21, op := Go.Op.index 9 (Go.Operand.tmp 16) (Go.Operand.tmp 20), type := 5, pos := "qlex.go:25", after := #[{ on := 14, ground := Go.Ground.data }, { on := 18, ground := Go.Ground.data }, { on := 10, ground := Go.Ground.guard }], guard := some (10, true) }) rfl rfl (by kernel_rfl) (by kernel_rfl) (by kernel_rfl) (fun _ _ _ h => h) hS (by rfl) (fun w' hs => by exact exec_sidx (i := i) rfl rfl rfl (by omega) _) ?_
        simp only [Act.put, List.setIfInBounds_toArray, List.set_cons_zero, List.set_cons_succ]
        refine rg_take 20 (some 22) (.int .i32 (s[i].toNat : Nat)) (oi := { dst := some 22, op := Go.Op.convert 5 21 (Go.Operand.tmp 21), type := 21, pos := "qlex.go:25", after := #[{ on := 19, ground := Go.Ground.data }, { on := 10, ground := Go.Ground.guard }], guard := some (10, true) }) rfl rfl (by kernel_rfl) (by kernel_rfl) (by kernel_rfl) (fun _ _ _ h => h) hS (by rfl) (fun w' hs => by exact exec_u8i32 rfl rfl (UInt8.toNat_lt _) _) ?_
        simp only [Act.put, List.setIfInBounds_toArray, List.set_cons_zero, List.set_cons_succ]
        refine rg_call 21 (some 23) 62 #[.int .i32 (s[i].toNat : Nat)] (oi := { dst := some 23, op := Go.Op.call { callee := Go.Callee.value (Go.Operand.func 62), args := #[Go.Operand.tmp 22], argTypes := #[21] }, type := 4, pos := "qlex.go:25", after := #[{ on := 20, ground := Go.Ground.data }, { on := 10, ground := Go.Ground.chain }, { on := 10, ground := Go.Ground.guard }], guard := some (10, true) }) rfl rfl (by kernel_rfl) (by rfl) (fun w' => by first | rfl | go_simp) (R := fun v w' => v = .bool true ∧ Ext (World.drew wz) w') ?_ ?_
        · refine (HB.out (World.drew wz)).mono ?_
          rintro e w' ⟨rfl, h⟩
          exact ⟨_, rfl, rfl, h⟩
        rintro _ wr1 ⟨rfl, hBr1⟩
        have hS1 := hS.ext hBr1
        refine ⟨hS1, ?_⟩
        simp only [Act.put, List.setIfInBounds_toArray, List.set_cons_zero, List.set_cons_succ]
        refine rg_take 22 (some 24) (.bool true) (oi := { dst := some 24, op := Go.Op.pick (Go.Operand.tmp 12) (Go.Operand.tmp 23) (Go.Operand.const (Go.Value.bool false)), type := 4, pos := "qlex.go:25", after := #[{ on := 10, ground := Go.Ground.data }, { on := 21, ground := Go.Ground.data }], guard := none }) rfl rfl (by kernel_rfl) (by kernel_rfl) (by kernel_rfl) (fun _ _ _ h => h) hS1 (by rfl) (fun w' hs => by rfl) ?_
        simp only [Act.put, List.setIfInBounds_toArray, List.set_cons_zero, List.set_cons_succ]
        refine rg_done (by kernel_rfl) ?_
        have HM := Lib.hid (show atQ s.length wz w0.heap.size = s.length - i by simp [atQ, c1])
        have HS2 := Lib.hid (HS.out.step hS1)
        have k1 := HS2.out.c1
        have g1 := HS2.out.f1
        clear HS HB c0 c1 hBr1
        obtain ⟨wy, hwy⟩ : ∃ wy, wy = wr1 := ⟨_, rfl⟩
        subst hwy
        go_wp2_with fail
        go_roundw
        case rel => exact ⟨i + 1, Lib.hid (HS2.out.setAt (i + 1)), by omega, HN⟩
        case measure => rw [HM.out]; simp [atQ, go_sem, k1]; omega
      | false =>
        go_wp2_with fail
        refine rg_begin (S := Sx wz) (by kernel_rfl) (Sx.begin _) ?_
        have hS : Sx wz (World.drew wz) := (Sx.begin _)
        refine rg_take 0 (some 2) (.pointer (some ⟨w0.heap.size, 0, none⟩)) (oi := { dst := some 2, op := Go.Op.move (Go.Operand.tmp 0), type := 66, pos := "qlex.go:25", after := #[], guard := none }) rfl rfl (by kernel_rfl) (by kernel_rfl) (by kernel_rfl) (fun _ _ _ h => h) hS (by rfl) (fun w' hs => by rfl) ?_
        simp only [Act.put, List.setIfInBounds_toArray, List.set_cons_zero, List.set_cons_succ]
        refine rg_take 1 (some 3) (.pointer (some ⟨w0.heap.size, 0, none⟩)) (oi := { dst := some 3, op := Go.Op.nilCheck (Go.Operand.tmp 2), type := 0, pos := "qlex.go:25", after := #[{ on := 0, ground := Go.Ground.data }], guard := none }) rfl rfl (by kernel_rfl) (by kernel_rfl) (by kernel_rfl) (fun _ _ _ h => h) hS (by rfl) (fun w' hs => by first | rfl | go_simp) ?_
        simp only [Act.put, List.setIfInBounds_toArray, List.set_cons_zero, List.set_cons_succ]
        refine rg_take 2 (some 4) (.pointer (some ⟨w0.heap.size, 1, none⟩)) (oi := { dst := some 4, op := Go.Op.fieldAddr 68 (Go.Operand.tmp 3) 1, type := 0, pos := "qlex.go:25", after := #[{ on := 1, ground := Go.Ground.data }], guard := none }) rfl rfl (by kernel_rfl) (by kernel_rfl) (by kernel_rfl) (fun _ _ _ h => h) hS (by rfl) (fun w' hs => by first | rfl | go_simp) ?_
        simp only [Act.put, List.setIfInBounds_toArray, List.set_cons_zero, List.set_cons_succ]
        refine rg_take 3 (some 5) (.int .i64 i) (oi := { dst := some 5, op := Go.Op.load 3 (Go.Operand.tmp 4), type := 3, pos := "qlex.go:25", after := #[{ on := 2, ground := Go.Ground.data }], guard := none }) rfl rfl (by kernel_rfl) (by kernel_rfl) (by kernel_rfl) (fun _ _ _ h => h) hS (by rfl) (fun w' hs => by (have h0 := hs.cell hlt c1; go_simp)) ?_
        simp only [Act.put, List.setIfInBounds_toArray, List.set_cons_zero, List.set_cons_succ]
        refine rg_take 4 (some 6) (.pointer (some ⟨w0.heap.size, 0, none⟩)) (oi := { dst := some 6, op := Go.Op.move (Go.Operand.tmp 0), type := 66, pos := "qlex.go:25", after := #[], guard := none }) rfl rfl (by kernel_rfl) (by kernel_rfl) (by kernel_rfl) (fun _ _ _ h => h) hS (by rfl) (fun w' hs => by rfl) ?_
        simp only [Act.put, List.setIfInBounds_toArray, List.set_cons_zero, List.set_cons_succ]
        refine rg_take 5 (some 7) (.pointer (some ⟨w0.heap.size, 0, none⟩)) (oi := { dst := some 7, op := Go.Op.nilCheck (Go.Operand.tmp 6), type := 0, pos := "qlex.go:25", after := #[{ on := 4, ground := Go.Ground.data }], guard := none }) rfl rfl (by kernel_rfl) (by kernel_rfl) (by kernel_rfl) (fun _ _ _ h => h) hS (by rfl) (fun w' hs => by first | rfl | go_simp) ?_
        simp only [Act.put, List.setIfInBounds_toArray, List.set_cons_zero, List.set_cons_succ]
        refine rg_take 6 (some 8) (.pointer (some ⟨w0.heap.size, 0, none⟩)) (oi := { dst := some 8, op := Go.Op.fieldAddr 68 (Go.Operand.tmp 7) 0, type := 0, pos := "qlex.go:25", after := #[{ on := 5, ground := Go.Ground.data }], guard := none }) rfl rfl (by kernel_rfl) (by kernel_rfl) (by kernel_rfl) (fun _ _ _ h => h) hS (by rfl) (fun w' hs => by first | rfl | go_simp) ?_
        simp only [Act.put, List.setIfInBounds_toArray, List.set_cons_zero, List.set_cons_succ]
        refine rg_take 7 (some 9) (.string (bs s)) (oi := { dst := some 9, op := Go.Op.load 9 (Go.Operand.tmp 8), type := 9, pos := "qlex.go:25", after := #[{ on := 6, ground := Go.Ground.data }], guard := none }) rfl rfl (by kernel_rfl) (by kernel_rfl) (by kernel_rfl) (fun _ _ _ h => h) hS (by rfl) (fun w' hs => by (have h0 := hs.cell hlt c0; go_simp)) ?_
        simp only [Act.put, List.setIfInBounds_toArray, List.set_cons_zero, List.set_cons_succ]
        refine rg_take 8 (some 10) (.int .i64 s.length) (oi := { dst := some 10, op := Go.Op.call { callee := Go.Callee.builtin Go.Builtin.len, args := #[Go.Operand.tmp 9], argTypes := #[9] }, type := 3, pos := "qlex.go:25", after := #[{ on := 7, ground := Go.Ground.data }], guard := none }) rfl rfl (by kernel_rfl) (by kernel_rfl) (by kernel_rfl) (fun _ _ _ h => h) hS (by rfl) (fun w' hs => by exact exec_slen rfl rfl _) ?_
        simp only [Act.put, List.setIfInBounds_toArray, List.set_cons_zero, List.set_cons_succ]
        refine rg_take 9 (some 11) (.bool true) (oi := { dst := some 11, op := Go.Op.binOp Go.BinOp.lss 3 (Go.Operand.tmp 5) (Go.Operand.tmp 10) 3, type := 4, pos := "qlex.go:25", after := #[{ on := 3, ground := Go.Ground.data }, { on := 8, ground := Go.Ground.data }], guard := none }) rfl rfl (by kernel_rfl) (by kernel_rfl) (by kernel_rfl) (fun _ _ _ h => h) hS (by rfl) (fun w' hs => by exact exec_lss (i := i) (j := s.length) rfl rfl rfl (decide_eq_true (by omega)) _) ?_
        simp only [Act.put, List.setIfInBounds_toArray, List.set_cons_zero, List.set_cons_succ]
        refine rg_take 10 (some 12) (.bool true) (oi := { dst := some 12, op := Go.Op.move (Go.Operand.tmp 11), type := 4, pos := "qlex.go:25", after := #[{ on := 9, ground := Go.Ground.data }], guard := none }) rfl rfl (by kernel_rfl) (by kernel_rfl) (by kernel_rfl) (fun _ _ _ h => h) hS (by rfl) (fun w' hs => by rfl) ?_
        simp only [Act.put, List.setIfInBounds_toArray, List.set_cons_zero, List.set_cons_succ]
        refine rg_take 11 (some 13) (.pointer (some ⟨w0.heap.size, 0, none⟩)) (oi := { dst := some 13, op := Go.Op.move (Go.Operand.tmp 0), type := 66, pos := "qlex.go:25", after := #[{ on := 10, ground := Go.Ground.guard }], guard := some (10, true) }) rfl rfl (by kernel_rfl) (by kernel_rfl) (by kernel_rfl) (fun _ _ _ h => h) hS (by rfl) (fun w' hs => by rfl) ?_
        simp only [Act.put, List.setIfInBounds_toArray, List.set_cons_zero, List.set_cons_succ]
        refine rg_take 12 (some 14) (.pointer (some ⟨w0.heap.size, 0, none⟩)) (oi := { dst := some 14, op := Go.Op.nilCheck (Go.Operand.tmp 13), type := 0, pos := "qlex.go:25", after := #[{ on := 11, ground := Go.Ground.data }, { on := 10, ground := Go.Ground.guard }], guard := some (10, true) }) rfl rfl (by kernel_rfl) (by kernel_rfl) (by kernel_rfl) (fun _ _ _ h => h) hS (by rfl) (fun w' hs => by first | rfl | go_simp) ?_
        simp only [Act.put, List.setIfInBounds_toArray, List.set_cons_zero, List.set_cons_succ]
        refine rg_take 13 (some 15) (.pointer (some ⟨w0.heap.size, 0, none⟩)) (oi := { dst := some 15, op := Go.Op.fieldAddr 68 (Go.Operand.tmp 14) 0, type := 0, pos := "qlex.go:25", after := #[{ on := 12, ground := Go.Ground.data }, { on := 10, ground := Go.Ground.guard }], guard := some (10, true) }) rfl rfl (by kernel_rfl) (by kernel_rfl) (by kernel_rfl) (fun _ _ _ h => h) hS (by rfl) (fun w' hs => by first | rfl | go_simp) ?_
        simp only [Act.put, List.setIfInBounds_toArray, List.set_cons_zero, List.set_cons_succ]
        refine rg_take 14 (some 16) (.string (bs s)) (oi := { dst := some 16, op := Go.Op.load 9 (Go.Operand.tmp 15), type := 9, pos := "qlex.go:25", after := #[{ on := 13, ground := Go.Ground.data }, { on := 10, ground := Go.Ground.guard }], guard := some (10, true) }) rfl rfl (by kernel_rfl) (by kernel_rfl) (by kernel_rfl) (fun _ _ _ h => h) hS (by rfl) (fun w' hs => by (have h0 := hs.cell hlt c0; go_simp)) ?_
        simp only [Act.put, List.setIfInBounds_toArray, List.set_cons_zero, List.set_cons_succ]
        refine rg_take 15 (some 17) (.pointer (some ⟨w0.heap.size, 0, none⟩)) (oi := { dst := some 17, op := Go.Op.move (Go.Operand.tmp 0), type := 66, pos := "qlex.go:25", after := #[{ on := 10, ground := Go.Ground.guard }], guard := some (10, true) }) rfl rfl (by kernel_rfl) (by kernel_rfl) (by kernel_rfl) (fun _ _ _ h => h) hS (by rfl) (fun w' hs => by rfl) ?_
        simp only [Act.put, List.setIfInBounds_toArray, List.set_cons_zero, List.set_cons_succ]
        refine rg_take 16 (some 18) (.pointer (some ⟨w0.heap.size, 0, none⟩)) (oi := { dst := some 18, op := Go.Op.nilCheck (Go.Operand.tmp 17), type := 0, pos := "qlex.go:25", after := #[{ on := 15, ground := Go.Ground.data }, { on := 10, ground := Go.Ground.guard }], guard := some (10, true) }) rfl rfl (by kernel_rfl) (by kernel_rfl) (by kernel_rfl) (fun _ _ _ h => h) hS (by rfl) (fun w' hs => by first | rfl | go_simp) ?_
        simp only [Act.put, List.setIfInBounds_toArray, List.set_cons_zero, List.set_cons_succ]
        refine rg_take 17 (some 19) (.pointer (some ⟨w0.heap.size, 1, none⟩)) (oi := { dst := some 19, op := Go.Op.fieldAddr 68 (Go.Operand.tmp 18) 1, type := 0, pos := "qlex.go:25", after := #[{ on := 16, ground := Go.Ground.data }, { on := 10, ground := Go.Ground.guard }], guard := some (10, true) }) rfl rfl (by kernel_rfl) (by kernel_rfl) (by kernel_rfl) (fun _ _ _ h => h) hS (by rfl) (fun w' hs => by first | rfl | go_simp) ?_
        simp only [Act.put, List.setIfInBounds_toArray, List.set_cons_zero, List.set_cons_succ]
        refine rg_take 18 (some 20) (.int .i64 i) (oi := { dst := some 20, op := Go.Op.load 3 (Go.Operand.tmp 19), type := 3, pos := "qlex.go:25", after := #[{ on := 17, ground := Go.Ground.data }, { on := 10, ground := Go.Ground.guard }], guard := some (10, true) }) rfl rfl (by kernel_rfl) (by kernel_rfl) (by kernel_rfl) (fun _ _ _ h => h) hS (by rfl) (fun w' hs => by (have h0 := hs.cell hlt c1; go_simp)) ?_
        simp only [Act.put, List.setIfInBounds_toArray, List.set_cons_zero, List.set_cons_succ]
        refine rg_take 19 (some 21) (.int .u8 (s[i].toNat : Nat)) (oi := { dst := some 21, op := Go.Op.index 9 (Go.Operand.tmp 16) (Go.Operand.tmp 20), type := 5, pos := "qlex.go:25", after := #[{ on := 14, ground := Go.Ground.data }, { on := 18, ground := Go.Ground.data }, { on := 10, ground := Go.Ground.guard }], guard := some (10, true) }) rfl rfl (by kernel_rfl) (by kernel_rfl) (by kernel_rfl) (fun _ _ _ h => h) hS (by rfl) (fun w' hs => by exact exec_sidx (i := i) rfl rfl rfl (by omega) _) ?_
        simp only [Act.put, List.setIfInBounds_toArray, List.set_cons_zero, List.set_cons_succ]
        refine rg_take 20 (some 22) (.int .i32 (s[i].toNat : Nat)) (oi := { dst := some 22, op := Go.Op.convert 5 21 (Go.Operand.tmp 21), type := 21, pos := "qlex.go:25", after := #[{ on := 19, ground := Go.Ground.data }, { on := 10, ground := Go.Ground.guard }], guard := some (10, true) }) rfl rfl (by kernel_rfl) (by kernel_rfl) (by kernel_rfl) (fun _ _ _ h => h) hS (by rfl) (fun w' hs => by exact exec_u8i32 rfl rfl (UInt8.toNat_lt _) _) ?_
        simp only [Act.put, List.setIfInBounds_toArray, List.set_cons_zero, List.set_cons_succ]
        refine rg_call 21 (some 23) 62 #[.int .i32 (s[i].toNat : Nat)] (oi := { dst := some 23, op := Go.Op.call { callee := Go.Callee.value (Go.Operand.func 62), args := #[Go.Operand.tmp 22], argTypes := #[21] }, type := 4, pos := "qlex.go:25", after := #[{ on := 20, ground := Go.Ground.data }, { on := 10, ground := Go.Ground.chain }, { on := 10, ground := Go.Ground.guard }], guard := some (10, true) }) rfl rfl (by kernel_rfl) (by rfl) (fun w' => by first | rfl | go_simp) (R := fun v w' => v = .bool false ∧ Ext (World.drew wz) w') ?_ ?_
        · refine (HB.out (World.drew wz)).mono ?_
          rintro e w' ⟨rfl, h⟩
          exact ⟨_, rfl, rfl, h⟩
        rintro _ wr1 ⟨rfl, hBr1⟩
        have hS1 := hS.ext hBr1
        refine ⟨hS1, ?_⟩
        simp only [Act.put, List.setIfInBounds_toArray, List.set_cons_zero, List.set_cons_succ]
        refine rg_take 22 (some 24) (.bool false) (oi := { dst := some 24, op := Go.Op.pick (Go.Operand.tmp 12) (Go.Operand.tmp 23) (Go.Operand.const (Go.Value.bool false)), type := 4, pos := "qlex.go:25", after := #[{ on := 10, ground := Go.Ground.data }, { on := 21, ground := Go.Ground.data }], guard := none }) rfl rfl (by kernel_rfl) (by kernel_rfl) (by kernel_rfl) (fun _ _ _ h => h) hS1 (by rfl) (fun w' hs => by rfl) ?_
        simp only [Act.put, List.setIfInBounds_toArray, List.set_cons_zero, List.set_cons_succ]
        refine rg_done (by kernel_rfl) ?_
        go_wp2_with fail
        refine bodyPost_end (results_none rfl _ _ _) rfl ⟨rfl, ?_⟩
        rw [← HN.out]; exact HS.out.step hS1
    · go_wp2_with fail
      refine rg_begin (S := Sx wz) (by kernel_rfl) (Sx.begin _) ?_
      have hS : Sx wz (World.drew wz) := (Sx.begin _)
      refine rg_take 0 (some 2) (.pointer (some ⟨w0.heap.size, 0, none⟩)) (oi := { dst := some 2, op := Go.Op.move (Go.Operand.tmp 0), type := 66, pos := "qlex.go:25", after := #[], guard := none }) rfl rfl (by kernel_rfl) (by kernel_rfl) (by kernel_rfl) (fun _ _ _ h => h) hS (by rfl) (fun w' hs => by rfl) ?_
      simp only [Act.put, List.setIfInBounds_toArray, List.set_cons_zero, List.set_cons_succ]
      refine rg_take 1 (some 3) (.pointer (some ⟨w0.heap.size, 0, none⟩)) (oi := { dst := some 3, op := Go.Op.nilCheck (Go.Operand.tmp 2), type := 0, pos := "qlex.go:25", after := #[{ on := 0, ground := Go.Ground.data }], guard := none }) rfl rfl (by kernel_rfl) (by kernel_rfl) (by kernel_rfl) (fun _ _ _ h => h) hS (by rfl) (fun w' hs => by first | rfl | go_simp) ?_
      simp only [Act.put, List.setIfInBounds_toArray, List.set_cons_zero, List.set_cons_succ]
      refine rg_take 2 (some 4) (.pointer (some ⟨w0.heap.size, 1, none⟩)) (oi := { dst := some 4, op := Go.Op.fieldAddr 68 (Go.Operand.tmp 3) 1, type := 0, pos := "qlex.go:25", after := #[{ on := 1, ground := Go.Ground.data }], guard := none }) rfl rfl (by kernel_rfl) (by kernel_rfl) (by kernel_rfl) (fun _ _ _ h => h) hS (by rfl) (fun w' hs => by first | rfl | go_simp) ?_
      simp only [Act.put, List.setIfInBounds_toArray, List.set_cons_zero, List.set_cons_succ]
      refine rg_take 3 (some 5) (.int .i64 i) (oi := { dst := some 5, op := Go.Op.load 3 (Go.Operand.tmp 4), type := 3, pos := "qlex.go:25", after := #[{ on := 2, ground := Go.Ground.data }], guard := none }) rfl rfl (by kernel_rfl) (by kernel_rfl) (by kernel_rfl) (fun _ _ _ h => h) hS (by rfl) (fun w' hs => by (have h0 := hs.cell hlt c1; go_simp)) ?_
      simp only [Act.put, List.setIfInBounds_toArray, List.set_cons_zero, List.set_cons_succ]
      refine rg_take 4 (some 6) (.pointer (some ⟨w0.heap.size, 0, none⟩)) (oi := { dst := some 6, op := Go.Op.move (Go.Operand.tmp 0), type := 66, pos := "qlex.go:25", after := #[], guard := none }) rfl rfl (by kernel_rfl) (by kernel_rfl) (by kernel_rfl) (fun _ _ _ h => h) hS (by rfl) (fun w' hs => by rfl) ?_
      simp only [Act.put, List.setIfInBounds_toArray, List.set_cons_zero, List.set_cons_succ]
      refine rg_take 5 (some 7) (.pointer (some ⟨w0.heap.size, 0, none⟩)) (oi := { dst := some 7, op := Go.Op.nilCheck (Go.Operand.tmp 6), type := 0, pos := "qlex.go:25", after := #[{ on := 4, ground := Go.Ground.data }], guard := none }) rfl rfl (by kernel_rfl) (by kernel_rfl) (by kernel_rfl) (fun _ _ _ h => h) hS (by rfl) (fun w' hs => by first | rfl | go_simp) ?_
      simp only [Act.put, List.setIfInBounds_toArray, List.set_cons_zero, List.set_cons_succ]
      refine rg_take 6 (some 8) (.pointer (some ⟨w0.heap.size, 0, none⟩)) (oi := { dst := some 8, op := Go.Op.fieldAddr 68 (Go.Operand.tmp 7) 0, type := 0, pos := "qlex.go:25", after := #[{ on := 5, ground := Go.Ground.data }], guard := none }) rfl rfl (by kernel_rfl) (by kernel_rfl) (by kernel_rfl) (fun _ _ _ h => h) hS (by rfl) (fun w' hs => by first | rfl | go_simp) ?_
      simp only [Act.put, List.setIfInBounds_toArray, List.set_cons_zero, List.set_cons_succ]
      refine rg_take 7 (some 9) (.string (bs s)) (oi := { dst := some 9, op := Go.Op.load 9 (Go.Operand.tmp 8), type := 9, pos := "qlex.go:25", after := #[{ on := 6, ground := Go.Ground.data }], guard := none }) rfl rfl (by kernel_rfl) (by kernel_rfl) (by kernel_rfl) (fun _ _ _ h => h) hS (by rfl) (fun w' hs => by (have h0 := hs.cell hlt c0; go_simp)) ?_
      simp only [Act.put, List.setIfInBounds_toArray, List.set_cons_zero, List.set_cons_succ]
      refine rg_take 8 (some 10) (.int .i64 s.length) (oi := { dst := some 10, op := Go.Op.call { callee := Go.Callee.builtin Go.Builtin.len, args := #[Go.Operand.tmp 9], argTypes := #[9] }, type := 3, pos := "qlex.go:25", after := #[{ on := 7, ground := Go.Ground.data }], guard := none }) rfl rfl (by kernel_rfl) (by kernel_rfl) (by kernel_rfl) (fun _ _ _ h => h) hS (by rfl) (fun w' hs => by exact exec_slen rfl rfl _) ?_
      simp only [Act.put, List.setIfInBounds_toArray, List.set_cons_zero, List.set_cons_succ]
      refine rg_take 9 (some 11) (.bool false) (oi := { dst := some 11, op := Go.Op.binOp Go.BinOp.lss 3 (Go.Operand.tmp 5) (Go.Operand.tmp 10) 3, type := 4, pos := "qlex.go:25", after := #[{ on := 3, ground := Go.Ground.data }, { on := 8, ground := Go.Ground.data }], guard := none }) rfl rfl (by kernel_rfl) (by kernel_rfl) (by kernel_rfl) (fun _ _ _ h => h) hS (by rfl) (fun w' hs => by exact exec_lss (i := i) (j := s.length) rfl rfl rfl (decide_eq_false (by omega)) _) ?_
      simp only [Act.put, List.setIfInBounds_toArray, List.set_cons_zero, List.set_cons_succ]
      refine rg_take 10 (some 12) (.bool false) (oi := { dst := some 12, op := Go.Op.move (Go.Operand.tmp 11), type := 4, pos := "qlex.go:25", after := #[{ on := 9, ground := Go.Ground.data }], guard := none }) rfl rfl (by kernel_rfl) (by kernel_rfl) (by kernel_rfl) (fun _ _ _ h => h) hS (by rfl) (fun w' hs => by rfl) ?_
      simp only [Act.put, List.setIfInBounds_toArray, List.set_cons_zero, List.set_cons_succ]
      refine rg_skip 11 (some 13) (oi := { dst := some 13, op := Go.Op.move (Go.Operand.tmp 0), type := 66, pos := "qlex.go:25", after := #[{ on := 10, ground := Go.Ground.guard }], guard := some (10, true) }) rfl rfl (by kernel_rfl) (by kernel_rfl) (by kernel_rfl) (fun _ _ _ h => h) hS (by rfl) ?_
      simp only [Act.put, List.setIfInBounds_toArray, List.set_cons_zero, List.set_cons_succ]
      refine rg_skip 12 (some 14) (oi := { dst := some 14, op := Go.Op.nilCheck (Go.Operand.tmp 13), type := 0, pos := "qlex.go:25", after := #[{ on := 11, ground := Go.Ground.data }, { on := 10, ground := Go.Ground.guard }], guard := some (10, true) }) rfl rfl (by kernel_rfl) (by kernel_rfl) (by kernel_rfl) (fun _ _ _ h => h) hS (by rfl) ?_
      simp only [Act.put, List.setIfInBounds_toArray, List.set_cons_zero, List.set_cons_succ]
      refine rg_skip 13 (some 15) (oi := { dst := some 15, op := Go.Op.fieldAddr 68 (Go.Operand.tmp 14) 0, type := 0, pos := "qlex.go:25", after := #[{ on := 12, ground := Go.Ground.data }, { on := 10, ground := Go.Ground.guard }], guard := some (10, true) }) rfl rfl (by kernel_rfl) (by kernel_rfl) (by kernel_rfl) (fun _ _ _ h => h) hS (by rfl) ?_
      simp only [Act.put, List.setIfInBounds_toArray, List.set_cons_zero, List.set_cons_succ]
      refine rg_skip 14 (some 16) (oi := { dst := some 16, op := Go.Op.load 9 (Go.Operand.tmp 15), type := 9, pos := "qlex.go:25", after := #[{ on := 13, ground := Go.Ground.data }, { on := 10, ground := Go.Ground.guard }], guard := some (10, true) }) rfl rfl (by kernel_rfl) (by kernel_rfl) (by kernel_rfl) (fun _ _ _ h => h) hS (by rfl) ?_
      simp only [Act.put, List.setIfInBounds_toArray, List.set_cons_zero, List.set_cons_succ]
      refine rg_skip 15 (some 17) (oi := { dst := some 17, op := Go.Op.move (Go.Operand.tmp 0), type := 66, pos := "qlex.go:25", after := #[{ on := 10, ground := Go.Ground.guard }], guard := some (10, true) }) rfl rfl (by kernel_rfl) (by kernel_rfl) (by kernel_rfl) (fun _ _ _ h => h) hS (by rfl) ?_
      simp only [Act.put, List.setIfInBounds_toArray, List.set_cons_zero, List.set_cons_succ]
      refine rg_skip 16 (some 18) (oi := { dst := some 18, op := Go.Op.nilCheck (Go.Operand.tmp 17), type := 0, pos := "qlex.go:25", after := #[{ on := 15, ground := Go.Ground.data }, { on := 10, ground := Go.Ground.guard }], guard := some (10, true) }) rfl rfl (by kernel_rfl) (by kernel_rfl) (by kernel_rfl) (fun _ _ _ h => h) hS (by rfl) ?_
      simp only [Act.put, List.setIfInBounds_toArray, List.set_cons_zero, List.set_cons_succ]
      refine rg_skip 17 (some 19) (oi := { dst := some 19, op := Go.Op.fieldAddr 68 (Go.Operand.tmp 18) 1, type := 0, pos := "qlex.go:25", after := #[{ on := 16, ground := Go.Ground.data }, { on := 10, ground := Go.Ground.guard }], guard := some (10, true) }) rfl rfl (by kernel_rfl) (by kernel_rfl) (by kernel_rfl) (fun _ _ _ h => h) hS (by rfl) ?_
      simp only [Act.put, List.setIfInBounds_toArray, List.set_cons_zero, List.set_cons_succ]
      refine rg_skip 18 (some 20) (oi := { dst := some 20, op := Go.Op.load 3 (Go.Operand.tmp 19), type := 3, pos := "qlex.go:25", after := #[{ on := 17, ground := Go.Ground.data }, { on := 10, ground := Go.Ground.guard }], guard := some (10, true) }) rfl rfl (by kernel_rfl) (by kernel_rfl) (by kernel_rfl) (fun _ _ _ h => h) hS (by rfl) ?_
      simp only [Act.put, List.setIfInBounds_toArray, List.set_cons_zero, List.set_cons_succ]
      refine rg_skip 19 (some 21) (oi := { dst := some 21, op := Go.Op.index 9 (Go.Operand.tmp 16) (Go.Operand.tmp 20), type := 5, pos := "qlex.go:25", after := #[{ on := 14, ground := Go.Ground.data }, { on := 18, ground := Go.Ground.data }, { on := 10, ground := Go.Ground.guard }], guard := some (10, true) }) rfl rfl (by kernel_rfl) (by kernel_rfl) (by kernel_rfl) (fun _ _ _ h => h) hS (by rfl) ?_
      simp only [Act.put, List.setIfInBounds_toArray, List.set_cons_zero, List.set_cons_succ]
      refine rg_skip 20 (some 22) (oi := { dst := some 22, op := Go.Op.convert 5 21 (Go.Operand.tmp 21), type := 21, pos := "qlex.go:25", after := #[{ on := 19, ground := Go.Ground.data }, { on := 10, ground := Go.Ground.guard }], guard := some (10, true) }) rfl rfl (by kernel_rfl) (by kernel_rfl) (by kernel_rfl) (fun _ _ _ h => h) hS (by rfl) ?_
      simp only [Act.put, List.setIfInBounds_toArray, List.set_cons_zero, List.set_cons_succ]
      refine rg_skip 21 (some 23) (oi := { dst := some 23, op := Go.Op.call { callee := Go.Callee.value (Go.Operand.func 62), args := #[Go.Operand.tmp 22], argTypes := #[21] }, type := 4, pos := "qlex.go:25", after := #[{ on := 20, ground := Go.Ground.data }, { on := 10, ground := Go.Ground.chain }, { on := 10, ground := Go.Ground.guard }], guard := some (10, true) }) rfl rfl (by kernel_rfl) (by kernel_rfl) (by kernel_rfl) (fun _ _ _ h => h) hS (by rfl) ?_
      simp only [Act.put, List.setIfInBounds_toArray, List.set_cons_zero, List.set_cons_succ]
      refine rg_take 22 (some 24) (.bool false) (oi := { dst := some 24, op := Go.Op.pick (Go.Operand.tmp 12) (Go.Operand.tmp 23) (Go.Operand.const (Go.Value.bool false)), type := 4, pos := "qlex.go:25", after := #[{ on := 10, ground := Go.Ground.data }, { on := 21, ground := Go.Ground.data }], guard := none }) rfl rfl (by kernel_rfl) (by kernel_rfl) (by kernel_rfl) (fun _ _ _ h => h) hS (by rfl) (fun w' hs => by rfl) ?_
      simp only [Act.put, List.setIfInBounds_toArray, List.set_cons_zero, List.set_cons_succ]
      refine rg_done (by kernel_rfl) ?_
      go_wp2_with fail
      refine bodyPost_end (results_none rfl _ _ _) rfl ⟨rfl, ?_⟩
      have HN := HI.out
      rw [List.drop_of_length_le (by omega)] at HN
      rw [← HN]; exact HS.out.step hS

end Go.Proofs.YtfoclfefjcnllaaGreatDoor

/-
  The scanner's put, digits. Helper lemmas; no statement of the seat is proved here.
-/
namespace Go.Proofs.YtfoclfefjcnllaaGreatDoor
open Go.RowKit
set_option maxRecDepth 100000
set_option linter.unusedVariables false
set_option linter.unusedSimpArgs false

theorem infoTok : (Tryz.prog.info? 111).map (fun i => (i.zero, i.size, i.bytes)) = some (some (.agg #[.int .i64 0, .int .i64 0, .string ⟨#[]⟩]), 3, 32) := by kernel_rfl
theorem s1Toks : ∀ W, (sizeOf 42).run Tryz.prog W = .ok 1 W := fun W => by go_simp
theorem Sb.free {w0 wz X : World} {bx : Nat} (h : Sb w0 bx wz X) {b o : Nat} {v : Bool} (hb : b = bx) (hc : wz.frozen? ⟨b, o, none⟩ = v) : X.frozen? ⟨b, o, none⟩ = v := by
  subst hb; exact (World.frozen?_of_block h.2.2.1).trans hc
theorem Sb.grow {w0 wz X X' : World} {bx z n : Nat} {e : TypeId} {v : Value} {us : List Value} (h : Sb w0 bx wz X) (hown : X.ownsRow (bx + 1) e z v n us) (hx : w0.heap.size ≤ bx) (hg : X.grownBy X' v.ownBlock) : Sb w0 bx wz X' :=
  ⟨h.1, Below.grown h.2.1 hg (Below.size h.2.1) fun k hk => by have := (hown.lt k hk).1; omega, (hg.block _ h.2.2.2 fun e => by have := (hown.lt bx e.symm).1; omega).trans h.2.2.1, Nat.lt_of_lt_of_le h.2.2.2 hg.size⟩
theorem SC.push {w0 W : World} {s : List UInt8} {i : Nat} {out : List QT} (h : SC w0 W s i out) {v : Value} {us : List Value} (k : Nat) (t : List UInt8) (hk : t.length ≤ 1000)
    (ho : W.ownsRow (w0.heap.size + 1) 111 3 v out.length us) (hr : Reps W (fun b => False ∧ some b ≠ v.ownBlock ∧ b < W.heap.size) us (out.flatMap tokC)) (X X' : World) (v' : Value) (hX : Ext W X)
    (hown : X'.ownsRow (w0.heap.size + 1) 111 3 v' (out.length + 1) (us ++ [.int .i64 k, .int .i64 i, .string (bs t)])) (hg : X.grownBy X' v.ownBlock) (hat : v'.ownBlock = v.ownBlock ∨ v'.ownBlock = some X.heap.size) :
    SC w0 (X'.setCell ⟨w0.heap.size, 2, none⟩ v') s i (out ++ [⟨k, i, t⟩]) := by
  have hlt := h.lt
  have hltX : w0.heap.size < X.heap.size := Nat.lt_of_lt_of_le hlt hX.size
  have hne : some w0.heap.size ≠ v.ownBlock := fun e => by have := (ho.lt _ e.symm).1; omega
  have hb : X'.heap[w0.heap.size]? = W.heap[w0.heap.size]? := (hg.block _ hltX hne).trans (Below.block hX _ hlt)
  have hE : Ext w0 X' := Below.grown (h.ext.trans hX) hg (Below.size (h.ext.trans hX)) fun k hk => by have := (ho.lt k hk).1; omega
  have hP : Own X' (fun _ => False) (w0.heap.size + 1) 111 3 v' (out.length + 1) (out.flatMap tokC ++ tokC ⟨k, i, t⟩) :=
    Own.push ((hr.ext hX).ok fun b hb => ⟨hb.1, hb.2.1, Nat.lt_of_lt_of_le hb.2.2 hX.size⟩) (Reps.cons (Rep.int _ _ _ _) (Reps.cons (Rep.int _ _ _ _) (Reps.cons (Rep.string _ _ (bs t) (by rw [bs_size]; omega)) (Reps.nil _ _)))) hown hg hat
  have c0 := (World.cell?_of_block (a := ⟨w0.heap.size, 0, none⟩) hb).trans h.c0
  have c1 := (World.cell?_of_block (a := ⟨w0.heap.size, 1, none⟩) hb).trans h.c1
  obtain ⟨v0, h2, _⟩ := h.row
  have c2 := (World.cell?_of_block (a := ⟨w0.heap.size, 2, none⟩) hb).trans h2
  have f1 := (World.frozen?_of_block (a := ⟨w0.heap.size, 1, none⟩) hb).trans h.f1
  have f2 := (World.frozen?_of_block (a := ⟨w0.heap.size, 2, none⟩) hb).trans h.f2
  have hltX' : w0.heap.size < X'.heap.size := Nat.lt_of_lt_of_le hltX hg.size
  exact ⟨hE.set (p := ⟨w0.heap.size, 2, none⟩) (Nat.le_refl _) _, by simp [go_sem, c0], by simp [go_sem, c1], ⟨v', by simp [go_sem, c2], by
    rw [List.length_append, List.flatMap_append]
    exact own_set (by simpa using hP) (a := ⟨w0.heap.size, 2, none⟩) (Nat.lt_succ_self _) hltX' (fun _ h => h.elim) _⟩, by simp [go_sem, f1], by simp [go_sem, f2], fun x hx => by
    rcases List.mem_append.1 hx with hx | hx
    · exact h.tx x hx
    · rw [List.mem_singleton.1 hx]; exact hk⟩
theorem own_form {w : World} {base z n : Nat} {e : TypeId} {v : Value} {us : List Value} (h : w.ownsRow base e z v n us) : ∃ a c, v = .slice a n c := by
  rcases h.2 with ⟨rfl, rfl⟩ | ⟨g, cap, cur, rfl, _⟩
  · exact ⟨none, 0, rfl⟩
  · exact ⟨_, cap, rfl⟩
set_option maxHeartbeats 8000000 in
theorem put_any (w0 W : World) (s : List UInt8) (i : Nat) (out : List QT) (k n : Nat) (t : List UInt8) (h : SC w0 W s i out) (hi : i + n ≤ 1000) (ho : out.length ≤ 1000) (ht : t.length ≤ 1000) :
    Calls Tryz.prog 66 #[.pointer (some ⟨w0.heap.size, 0, none⟩), .int .i64 k, .int .i64 n, .string (bs t)] W fun e w' => e = .returned (.tuple #[]) ∧ SC w0 w' s (i + n) (out ++ [⟨k, i, t⟩]) := by
  obtain ⟨wz, hwz⟩ : ∃ wz, wz = W := ⟨_, rfl⟩
  subst hwz
  have hlt := h.lt
  have hXw := h.ext
  obtain ⟨ov, c2, us, hus, hrus⟩ := h.row
  have c1 := h.c1; have f2 := h.f2
  obtain ⟨i0, ii, iz0, iz1, iz2⟩ := info_parts infoTok
  have HPU := Lib.hid (h.push k t ht hus hrus)
  have hnI : (i : Int) + (n : Int) ≤ 1000 := by omega
  have HR := Lib.hid hrus
  clear h hrus
  go_enter Tryz.func66, Tryz.ntmps66
  go_wp2_with fail
  refine rg_cut (S := Sb w0 w0.heap.size wz) 14 (by kernel_rfl) (by kernel_rfl) (by kernel_rfl) (by kernel_rfl) (Sb.begin hXw hlt) ?_
  have hSp : Sb w0 w0.heap.size wz (World.drew wz) := (Sb.begin hXw hlt)
  refine rg_take 0 (some 8) (.pointer (some ⟨w0.heap.size, 0, none⟩)) (oi := { dst := some 8, op := Go.Op.move (Go.Operand.tmp 0), type := 66, pos := "qlex.go:32", after := #[], guard := none }) rfl rfl (by kernel_rfl) (by kernel_rfl) (by kernel_rfl) (fun _ _ _ h => h) hSp (by rfl) (fun w' hs => by rfl) ?_
  simp only [Act.put, List.setIfInBounds_toArray, List.set_cons_zero, List.set_cons_succ]
  refine rg_take 1 (some 9) (.pointer (some ⟨w0.heap.size, 0, none⟩)) (oi := { dst := some 9, op := Go.Op.move (Go.Operand.tmp 0), type := 66, pos := "qlex.go:32", after := #[], guard := none }) rfl rfl (by kernel_rfl) (by kernel_rfl) (by kernel_rfl) (fun _ _ _ h => h) hSp (by rfl) (fun w' hs => by rfl) ?_
  simp only [Act.put, List.setIfInBounds_toArray, List.set_cons_zero, List.set_cons_succ]
  refine rg_take 2 (some 10) (.pointer (some ⟨w0.heap.size, 0, none⟩)) (oi := { dst := some 10, op := Go.Op.nilCheck (Go.Operand.tmp 9), type := 0, pos := "qlex.go:32", after := #[{ on := 1, ground := Go.Ground.data }], guard := none }) rfl rfl (by kernel_rfl) (by kernel_rfl) (by kernel_rfl) (fun _ _ _ h => h) hSp (by rfl) (fun w' hs => by first | rfl | go_simp) ?_
  simp only [Act.put, List.setIfInBounds_toArray, List.set_cons_zero, List.set_cons_succ]
  refine rg_take 3 (some 11) (.pointer (some ⟨w0.heap.size, 2, none⟩)) (oi := { dst := some 11, op := Go.Op.fieldAddr 68 (Go.Operand.tmp 10) 2, type := 0, pos := "qlex.go:32", after := #[{ on := 2, ground := Go.Ground.data }], guard := none }) rfl rfl (by kernel_rfl) (by kernel_rfl) (by kernel_rfl) (fun _ _ _ h => h) hSp (by rfl) (fun w' hs => by first | rfl | go_simp) ?_
  simp only [Act.put, List.setIfInBounds_toArray, List.set_cons_zero, List.set_cons_succ]
  refine rg_take 4 (some 12) (ov) (oi := { dst := some 12, op := Go.Op.load 42 (Go.Operand.tmp 11), type := 42, pos := "qlex.go:32", after := #[{ on := 3, ground := Go.Ground.data }], guard := none }) rfl rfl (by kernel_rfl) (by kernel_rfl) (by kernel_rfl) (fun _ _ _ h => h) hSp (by rfl) (fun w' hs => by (have h0 := hs.cell (.inr rfl) c2; go_simp)) ?_
  simp only [Act.put, List.setIfInBounds_toArray, List.set_cons_zero, List.set_cons_succ]
  refine rg_take 5 (some 13) (.int .i64 k) (oi := { dst := some 13, op := Go.Op.move (Go.Operand.tmp 1), type := 3, pos := "qlex.go:32", after := #[], guard := none }) rfl rfl (by kernel_rfl) (by kernel_rfl) (by kernel_rfl) (fun _ _ _ h => h) hSp (by rfl) (fun w' hs => by rfl) ?_
  simp only [Act.put, List.setIfInBounds_toArray, List.set_cons_zero, List.set_cons_succ]
  refine rg_take 6 (some 14) (.pointer (some ⟨w0.heap.size, 0, none⟩)) (oi := { dst := some 14, op := Go.Op.move (Go.Operand.tmp 0), type := 66, pos := "qlex.go:32", after := #[], guard := none }) rfl rfl (by kernel_rfl) (by kernel_rfl) (by kernel_rfl) (fun _ _ _ h => h) hSp (by rfl) (fun w' hs => by rfl) ?_
  simp only [Act.put, List.setIfInBounds_toArray, List.set_cons_zero, List.set_cons_succ]
  refine rg_take 7 (some 15) (.pointer (some ⟨w0.heap.size, 0, none⟩)) (oi := { dst := some 15, op := Go.Op.nilCheck (Go.Operand.tmp 14), type := 0, pos := "qlex.go:32", after := #[{ on := 6, ground := Go.Ground.data }], guard := none }) rfl rfl (by kernel_rfl) (by kernel_rfl) (by kernel_rfl) (fun _ _ _ h => h) hSp (by rfl) (fun w' hs => by first | rfl | go_simp) ?_
  simp only [Act.put, List.setIfInBounds_toArray, List.set_cons_zero, List.set_cons_succ]
  refine rg_take 8 (some 16) (.pointer (some ⟨w0.heap.size, 1, none⟩)) (oi := { dst := some 16, op := Go.Op.fieldAddr 68 (Go.Operand.tmp 15) 1, type := 0, pos := "qlex.go:32", after := #[{ on := 7, ground := Go.Ground.data }], guard := none }) rfl rfl (by kernel_rfl) (by kernel_rfl) (by kernel_rfl) (fun _ _ _ h => h) hSp (by rfl) (fun w' hs => by first | rfl | go_simp) ?_
  simp only [Act.put, List.setIfInBounds_toArray, List.set_cons_zero, List.set_cons_succ]
  refine rg_take 9 (some 17) (.int .i64 i) (oi := { dst := some 17, op := Go.Op.load 3 (Go.Operand.tmp 16), type := 3, pos := "qlex.go:32", after := #[{ on := 8, ground := Go.Ground.data }], guard := none }) rfl rfl (by kernel_rfl) (by kernel_rfl) (by kernel_rfl) (fun _ _ _ h => h) hSp (by rfl) (fun w' hs => by (have h0 := hs.cell (.inr rfl) c1; go_simp)) ?_
  simp only [Act.put, List.setIfInBounds_toArray, List.set_cons_zero, List.set_cons_succ]
  refine rg_take 10 (some 18) (.string (bs t)) (oi := { dst := some 18, op := Go.Op.move (Go.Operand.tmp 3), type := 9, pos := "qlex.go:32", after := #[], guard := none }) rfl rfl (by kernel_rfl) (by kernel_rfl) (by kernel_rfl) (fun _ _ _ h => h) hSp (by rfl) (fun w' hs => by rfl) ?_
  simp only [Act.put, List.setIfInBounds_toArray, List.set_cons_zero, List.set_cons_succ]
  refine rg_take 11 (some 19) (.agg #[.int .i64 k, .int .i64 i, .string (bs t)]) (oi := { dst := some 19, op := Go.Op.build 111 #[(0, Go.Operand.tmp 13), (1, Go.Operand.tmp 17), (2, Go.Operand.tmp 18)], type := 111, pos := "qlex.go:32", after := #[{ on := 5, ground := Go.Ground.data }, { on := 9, ground := Go.Ground.data }, { on := 10, ground := Go.Ground.data }], guard := none }) rfl rfl (by kernel_rfl) (by kernel_rfl) (by kernel_rfl) (fun _ _ _ h => h) hSp (by rfl) (fun w' hs => by first | rfl | go_simp) ?_
  simp only [Act.put, List.setIfInBounds_toArray, List.set_cons_zero, List.set_cons_succ]
  refine rg_one 12 (by kernel_rfl) ?_
  refine tk_new 12 (some 20) (.cells #[.int .i64 k, .int .i64 i, .string (bs t)] 111) (fun n => .slice (some ⟨n, 0, none⟩) 1 1) (oi := { dst := some 20, op := Go.Op.buildSlice 42 1 #[(0, Go.Operand.tmp 19)], type := 42, pos := "qlex.go:32", after := #[{ on := 11, ground := Go.Ground.data }], guard := none }) rfl rfl (by rfl) (by first | rfl | go_simp) ?_
  intro gb xb egb hxb hzxb hC
  have hSb : Sb w0 w0.heap.size wz xb := hSp.ext hxb
  refine ⟨hSb, ?_⟩
  simp only [Act.put, List.setIfInBounds_toArray, List.set_cons_zero, List.set_cons_succ]
  have hEb : Ext wz xb := ((Ext.refl wz).drew).trans hxb
  refine rg_one 13 (by kernel_rfl) ?_
  refine tk_src 13 (some 21) (oi := { dst := some 21, op := Go.Op.call { callee := Go.Callee.builtin Go.Builtin.append, args := #[Go.Operand.tmp 12, Go.Operand.tmp 20], argTypes := #[42, 42] }, type := 42, pos := "qlex.go:32", after := #[{ on := 4, ground := Go.Ground.data }, { on := 12, ground := Go.Ground.data }], guard := none }) rfl rfl (by rfl) (.tmp 12) (.tmp 20) 42 rfl (w0.heap.size + 1) 111 i0 (.agg #[.int .i64 0, .int .i64 0, .string ⟨#[]⟩]) 3 32 Tryz.underlying42 ii iz0 iz1 iz2 rfl (by decide) ov out.length us rfl (rows_ext hus hEb) (.slice (some ⟨gb, 0, none⟩) 1 1) 1 [.int .i64 k, .int .i64 i, .string (bs t)] rfl (Src.block hC rfl) (by intro u hu; simp at hu; rcases hu with rfl | rfl | rfl <;> rfl) (by unfold maxLen; omega) (by omega) (Nat.le_trans hlt hEb.size) ?_
  intro v3 xc hr3 hg3 ha3
  have hSc : Sb w0 w0.heap.size wz xc := hSb.grow (rows_ext hus hEb) (Nat.le_refl _) hg3
  refine ⟨hSc, ?_⟩
  simp only [Act.put, List.setIfInBounds_toArray, List.set_cons_zero, List.set_cons_succ]
  obtain ⟨v3a, v3c, rfl⟩ := own_form hr3
  have a4c := hSc.cell (.inr rfl) c2
  have a4f := hSc.free rfl f2
  refine rg_done (by kernel_rfl) ?_
  refine rg_go 3 #[true, true, true, true, true, true, true, true, true, true, true, true, true, true, false, false, false] (by kernel_rfl) (by kernel_rfl) fun m => ?_
  refine rg_take 14 (some 22) (.pointer (some ⟨w0.heap.size, 0, none⟩)) (oi := { dst := some 22, op := Go.Op.nilCheck (Go.Operand.tmp 8), type := 0, pos := "qlex.go:32", after := #[{ on := 0, ground := Go.Ground.data }, { on := 0, ground := Go.Ground.phase }, { on := 1, ground := Go.Ground.phase }, { on := 2, ground := Go.Ground.phase }, { on := 3, ground := Go.Ground.phase }, { on := 4, ground := Go.Ground.phase }, { on := 5, ground := Go.Ground.phase }, { on := 6, ground := Go.Ground.phase }, { on := 7, ground := Go.Ground.phase }, { on := 8, ground := Go.Ground.phase }, { on := 9, ground := Go.Ground.phase }, { on := 10, ground := Go.Ground.phase }, { on := 11, ground := Go.Ground.phase }, { on := 12, ground := Go.Ground.phase }, { on := 13, ground := Go.Ground.phase }], guard := none }) rfl rfl (by kernel_rfl) (by kernel_rfl) (by kernel_rfl) (fun _ _ _ h => h) trivial (by rfl) (fun w' hs => by first | rfl | go_simp) ?_
  simp only [Act.put, List.setIfInBounds_toArray, List.set_cons_zero, List.set_cons_succ]
  refine rg_take 15 (some 23) (.pointer (some ⟨w0.heap.size, 2, none⟩)) (oi := { dst := some 23, op := Go.Op.fieldAddr 68 (Go.Operand.tmp 22) 2, type := 0, pos := "qlex.go:32", after := #[{ on := 14, ground := Go.Ground.data }, { on := 0, ground := Go.Ground.phase }, { on := 1, ground := Go.Ground.phase }, { on := 2, ground := Go.Ground.phase }, { on := 3, ground := Go.Ground.phase }, { on := 4, ground := Go.Ground.phase }, { on := 5, ground := Go.Ground.phase }, { on := 6, ground := Go.Ground.phase }, { on := 7, ground := Go.Ground.phase }, { on := 8, ground := Go.Ground.phase }, { on := 9, ground := Go.Ground.phase }, { on := 10, ground := Go.Ground.phase }, { on := 11, ground := Go.Ground.phase }, { on := 12, ground := Go.Ground.phase }, { on := 13, ground := Go.Ground.phase }], guard := none }) rfl rfl (by kernel_rfl) (by kernel_rfl) (by kernel_rfl) (fun _ _ _ h => h) trivial (by rfl) (fun w' hs => by first | rfl | go_simp) ?_
  simp only [Act.put, List.setIfInBounds_toArray, List.set_cons_zero, List.set_cons_succ]
  refine rg_write 16 none (xc.setCell ⟨w0.heap.size, 2, none⟩ (.slice v3a (out.length + 1) v3c)) (oi := { dst := none, op := Go.Op.store 42 (Go.Operand.tmp 23) (Go.Operand.tmp 21), type := 0, pos := "qlex.go:32", after := #[{ on := 15, ground := Go.Ground.data }, { on := 13, ground := Go.Ground.data }, { on := 13, ground := Go.Ground.chain }, { on := 0, ground := Go.Ground.phase }, { on := 1, ground := Go.Ground.phase }, { on := 2, ground := Go.Ground.phase }, { on := 3, ground := Go.Ground.phase }, { on := 4, ground := Go.Ground.phase }, { on := 5, ground := Go.Ground.phase }, { on := 6, ground := Go.Ground.phase }, { on := 7, ground := Go.Ground.phase }, { on := 8, ground := Go.Ground.phase }, { on := 9, ground := Go.Ground.phase }, { on := 10, ground := Go.Ground.phase }, { on := 11, ground := Go.Ground.phase }, { on := 12, ground := Go.Ground.phase }, { on := 13, ground := Go.Ground.phase }], guard := none }) rfl rfl (by kernel_rfl) (by rfl) (exec_store rfl (store_slice _ s1Toks a4c a4f _ _ _)) trivial ?_
  simp only [Act.put, List.setIfInBounds_toArray, List.set_cons_zero, List.set_cons_succ]
  refine rg_done (by kernel_rfl) ?_
  have hS9 := HPU.out _ _ _ hEb hr3 hg3 ha3
  obtain ⟨w9, hw9⟩ : ∃ W, W = xc.setCell ⟨w0.heap.size, 2, none⟩ (.slice v3a (out.length + 1) v3c) := ⟨_, rfl⟩
  rw [← hw9] at hS9 ⊢
  clear hXw hw9 hC hxb hzxb egb hSb hEb hr3 hg3 ha3 hSc a4c a4f hSp hus c1 c2 f2 HR HPU ii iz0 iz1 iz2
  have k1 := hS9.c1; have g1 := hS9.f1
  have HS := Lib.hid hS9
  clear hS9 hlt
  go_wp2_with fail
  refine bodyPost_end (results_none rfl _ _ _) rfl ⟨rfl, ?_⟩
  have := HS.out.setAt (i + n)
  simpa using this
theorem dig_go (s : List UInt8) (i : Nat) (h : i < s.length) : digitsS (s.drop i) = if digB s[i] = true then digitsS (s.drop (i + 1)) + 1 else 0 := by
  unfold digitsS
  rw [List.drop_eq_getElem_cons h, List.takeWhile_cons]
  split <;> simp
theorem digB_nat (c : UInt8) : digB c = (decide (48 ≤ c.toNat) && decide (c.toNat ≤ 57)) := by
  unfold digB; congr 1
set_option maxHeartbeats 8000000 in
theorem sdig_any (w0 W : World) (s : List UInt8) (i j : Nat) (out : List QT) (h : SC w0 W s i out) (hj : j ≤ s.length) (hl : s.length ≤ 1000) :
    Calls Tryz.prog 86 #[.pointer (some ⟨w0.heap.size, 0, none⟩), .int .i64 j] W fun e w' => e = .returned (.int .i64 (digitsS (s.drop j) : Nat)) ∧ Ext W w' := by
  obtain ⟨R, hR⟩ : ∃ R, digitsS (s.drop j) = R := ⟨_, rfl⟩
  rw [hR]
  have HR := Lib.hid (show 0 + digitsS (s.drop (j + 0)) = R by rw [Nat.zero_add]; exact hR)
  have hlt := h.lt
  have c0 := h.c0
  clear hR h
  go_enter Tryz.func86, Tryz.ntmps86
  go_wp2_with fail
  go_loopw [5] (fun t wr => ∃ n : Nat, t = .int .i64 n ∧ Hid (Ext W wr) ∧ j + n ≤ s.length ∧ Hid (n + digitsS (s.drop (j + n)) = R)) (fun t _ => downQ s.length t)
  case atStart => exact ⟨0, rfl, Lib.hid (Ext.refl _), by omega, HR⟩
  case round =>
    clear HR hj
    obtain ⟨n, rfl, HX, hj, HI⟩ := hrel
    replace c0 := HX.out.keep hlt c0
    replace hlt := Nat.lt_of_lt_of_le hlt HX.out.size
    obtain ⟨wz, hwz⟩ : ∃ wz, wz = wr := ⟨_, rfl⟩
    subst hwz
    obtain ⟨m, hm⟩ : ∃ m, j + n = m := ⟨_, rfl⟩
    have hmI : (j : Int) + (n : Int) = (m : Int) := by omega
    rw [hm] at HI hj
    by_cases hlI : m < s.length
    · have hlS : m < (bs s).size := by rw [bs_size]; exact hlI
      have hlZ : (m : Int) < (s.length : Int) := by omega
      have HN : Hid ((if digB s[m] = true then n + 1 + digitsS (s.drop (j + (n + 1))) else n) = R) := Lib.hid (by rw [← HI.out, dig_go s m hlI, ← Nat.add_assoc j n 1, hm]; cases digB s[m] <;> simp <;> omega)
      rw [digB_nat] at HN
      obtain ⟨x, hx⟩ : ∃ x, s[m].toNat = x := ⟨_, rfl⟩
      have hb : ((bs s)[m]'hlS).toNat = x := hx
      rw [hx] at HN
      have HD := Lib.hid (And.intro hj hm)
      clear hx hm HI
      by_cases hlo : 48 ≤ x
      · have hloI : (48 : Int) ≤ (x : Int) := by omega
        by_cases hhi : x ≤ 57
        · have hhiI : (x : Int) ≤ 57 := by omega
          replace HN := Lib.hid ((if_pos (by simp [hlo, hhi])).symm.trans HN.out)
          go_wp2_with fail
          go_roundw
          case rel => exact ⟨n + 1, by go_num, Lib.hid HX.out, by have := HD.out.2; omega, HN⟩
          case measure => have := HD.out; simp only [downQ]; omega
        · have hhiI : ¬ (x : Int) ≤ 57 := by omega
          replace HN := Lib.hid ((if_neg (by simp [hlo, hhi])).symm.trans HN.out)
          go_wp2_with fail
          go_ret
          obtain rfl := HN.out
          exact ⟨rfl, HX.out⟩
      · have hloI : ¬ (48 : Int) ≤ (x : Int) := by omega
        replace HN := Lib.hid ((if_neg (by simp [hlo])).symm.trans HN.out)
        go_wp2_with fail
        go_ret
        obtain rfl := HN.out
        exact ⟨rfl, HX.out⟩
    · have hlZ : ¬ (m : Int) < (s.length : Int) := by omega
      have HN := HI.out
      rw [List.drop_of_length_le (by omega)] at HN
      have HN := Lib.hid HN
      clear HI hm
      go_wp2_with fail
      go_ret
      obtain rfl : n = R := HN.out
      exact ⟨rfl, HX.out⟩

end Go.Proofs.YtfoclfefjcnllaaGreatDoor

/-
  slices.Contains at texts; the scanner's operand. Helper lemmas; no statement of the seat is proved here.
-/
namespace Go.Proofs.YtfoclfefjcnllaaGreatDoor
open Go.RowKit
set_option maxRecDepth 100000
set_option linter.unusedVariables false
set_option linter.unusedSimpArgs false

theorem conts_any (l : List Bytes) (hne : 0 < l.length) (x : Bytes) (p : Nat → Prop) (v : Value) (w : World) (hl : l.length ≤ 1000) (h : Rep w p v (strsD l)) :
    Calls Tryz.prog 73 #[v, .string (bs x)] w fun e w' => e = .returned (.bool (l.contains x)) ∧ Ext w w' := by
  obtain ⟨a, c, rfl, _, _⟩ := h.count z_str (by omega)
  obtain ⟨b, off, rfl, _⟩ := str_at h 0 hne
  have hz : ∀ l : List Bytes, Lib.containsS (l.map bs) (bs x) = l.contains x := fun l => by
    rw [Bool.eq_iff_iff, Lib.containsS_iff, List.contains_iff_mem]
    simp only [List.mem_map]
    constructor
    · rintro ⟨y, hy, e⟩; rw [← bs_inj' e]; exact hy
    · intro hx; exact ⟨x, hx, rfl⟩
  have hc : ∀ j, j < (l.map bs).length → w.cell? ⟨b, off + j, none⟩ = some (.string ((l.map bs).getD j ByteArray.empty)) := fun j hj => by
    rw [List.length_map] at hj
    obtain ⟨b', off', e, _, _, hd⟩ := str_at h j hj
    cases e
    rw [hd, List.getD_eq_getElem?_getD, List.getElem?_map, List.getElem?_eq_getElem hj]
    rfl
  refine (Tryz.slices_Contains_string b off l.length c (l.map bs) (bs x) w (by rw [List.length_map]; exact Nat.le_refl _) (by omega) hc).mono ?_
  rintro e w' ⟨rfl, rfl⟩
  refine ⟨?_, Ext.refl _⟩
  rw [show (l.map bs).take l.length = l.map bs from List.take_of_length_le (by rw [List.length_map]; exact Nat.le_refl _), hz]
/-- A row of texts that the code writes out. -/
theorem rep_strs (w : World) (l : List Bytes) (cs : Array Value) (e : TypeId) (hcs : cs = (l.map fun t => Value.string (bs t)).toArray) (n : Nat) (hn : n = l.length) (hb : ∀ t ∈ l, t.length ≤ 1000) (hl : l.length ≤ 1000) : Rep (w.alloc (.cells cs e)) (fun _ => True) (.slice (some ⟨w.heap.size, 0, none⟩) n n) (strsD l) := by
  subst hcs hn
  refine rep_lit (by simp) (by rw [flat_len (fun x => [strD x]) 1 (fun _ => rfl)]) (by omega) ?_
  clear hl
  induction l with
  | nil => exact Reps.nil _ _
  | cons t l ih => exact Reps.cons (Rep.string _ _ (bs t) (by rw [bs_size]; have := hb t (List.mem_cons_self ..); omega)) (ih fun u hu => hb u (List.mem_cons_of_mem _ hu))
section
variable {ev : Operand → Value} {oi : Oper} {x y : Operand} {i : Nat}
theorem exec_len3 (ho : oi.op = .call { callee := .builtin .len, args := #[x], argTypes := #[42] }) {a : Option Addr} {n c : Nat} (hx : ev x = .slice a n c) (W : World) : (execOp ev oi).run Tryz.prog W = .ok (.value (.int .i64 n)) W := by
  simp only [execOp, ho]
  simp [go_sem, hx]
theorem exec_dec (ho : oi.op = .binOp .sub 3 x y 3) (hx : ev x = .int .i64 (i + 1 : Nat)) (hy : ev y = .int .i64 1) (h : i + 1 ≤ 9223372036854775807) (W : World) : (execOp ev oi).run Tryz.prog W = .ok (.value (.int .i64 i)) W := by
  have e := exec_sub (oi := oi) (ev := ev) (x := x) (y := y) (i := i + 1) (j := 1) ho hx hy (by omega) (by omega) W
  rw [e]; rfl
end
def st3 (W : World) (b : Nat) (t : QT) : World := ((W.setCell ⟨b, 0, none⟩ (.int .i64 t.kind)).setCell ⟨b, 1, none⟩ (.int .i64 t.at')).setCell ⟨b, 2, none⟩ (.string (bs t.text))
theorem store_tok {W : World} {b : Nat} {k a : Int} {s : ByteArray} (h : W.heap[b]? = some (.cells #[.int .i64 k, .int .i64 a, .string s] 111)) (t : QT) :
    (Instr.storeAt 111 (.pointer (some ⟨b, 0, none⟩)) (.agg #[.int .i64 t.kind, .int .i64 t.at', .string (bs t.text)])).run Tryz.prog W = .ok () (st3 W b t) := by
  have c0 := blk_cell h (k := 0) rfl; have c1 := blk_cell h (k := 1) rfl; have c2 := blk_cell h (k := 2) rfl
  have f0 := blk_free h (k := 0); have f1 := blk_free h (k := 1); have f2 := blk_free h (k := 2)
  unfold st3
  go_simp
theorem st3_cells {W : World} {b : Nat} {k a : Int} {s : ByteArray} (h : W.heap[b]? = some (.cells #[.int .i64 k, .int .i64 a, .string s] 111)) (t : QT) :
    (st3 W b t).cell? ⟨b, 0, none⟩ = some (.int .i64 t.kind) ∧ (st3 W b t).cell? ⟨b, 1, none⟩ = some (.int .i64 t.at') ∧ (st3 W b t).cell? ⟨b, 2, none⟩ = some (.string (bs t.text)) ∧ ∀ w : World, Ext w W → w.heap.size ≤ b → Ext w (st3 W b t) := by
  have c0 := blk_cell h (k := 0) rfl; have c1 := blk_cell h (k := 1) rfl; have c2 := blk_cell h (k := 2) rfl
  unfold st3
  refine ⟨by simp [go_sem, c0], by simp [go_sem, c1], by simp [go_sem, c2], fun w hw hb => ?_⟩
  exact ((hw.set (p := ⟨b, 0, none⟩) hb _).set (p := ⟨b, 1, none⟩) hb _).set (p := ⟨b, 2, none⟩) hb _
set_option maxHeartbeats 8000000 in
theorem operand_any (w0 W : World) (s : List UInt8) (i : Nat) (out : List QT) (h : SC w0 W s i out) (ho : out.length ≤ 1000) :
    Calls Tryz.prog 65 #[.pointer (some ⟨w0.heap.size, 0, none⟩)] W fun e w' => e = .returned (.bool (operandS out)) ∧ Ext W w' := by
  obtain ⟨wz, hwz⟩ : ∃ wz, wz = W := ⟨_, rfl⟩
  subst hwz
  have hlt := h.lt
  obtain ⟨ov, c2, hown⟩ := h.row
  have hrep : Rep wz _ ov (toksD out) := hown.rep
  obtain ⟨oa, oc, rfl, _, _⟩ := hown.form
  rcases List.eq_nil_or_concat out with rfl | ⟨pre, t, rfl⟩
  · clear h hown hrep
    go_enter Tryz.func65, Tryz.ntmps65
    go_wp2_with fail
    go_ret
    exact ⟨rfl, Ext.refl _⟩
  · obtain ⟨J, hJ⟩ : ∃ J, pre.length = J := ⟨_, rfl⟩
    have hJ1 : (pre.concat t).length = J + 1 := by simp [hJ]
    obtain ⟨rb, ro, rfl, lrb, d0, d1, d2⟩ := tok_at hrep J (by omega)
    have hg : (pre.concat t)[J]'(by omega) = t := by subst hJ; simp
    rw [hg] at d0 d1 d2
    have hop : operandS (pre.concat t) = if t.kind = 5 then false else if t.kind = 6 then !([[64], [58, 58], [40], [91], [44]] : List (List UInt8)).contains t.text else true := by
      unfold operandS; rw [List.concat_eq_append, List.getLast?_append]; rfl
    rw [hop]
    rw [hJ1] at c2
    obtain ⟨R, hR⟩ : ∃ R, (if t.kind = 5 then false else if t.kind = 6 then !([[64], [58, 58], [40], [91], [44]] : List (List UInt8)).contains t.text else true) = R := ⟨_, rfl⟩
    rw [hR]
    have HR := Lib.hid hR
    clear hR
    have HCT := Lib.hid fun W hW => conts_any [[64], [58, 58], [40], [91], [44]] (by decide) t.text (fun _ => True) (.slice (some ⟨W, 0, none⟩) 5 5) hW (by decide)
    clear hop hg h hown hrep hJ
    have hJg : ¬ ((J : Int) + 1 ≤ (J : Int)) := by omega
    have hJn : (J : Int) + 1 ≤ 1000 := by omega
    have hJq : (((J + 1 : Nat) : Int) == 0) = false := by rw [beq_eq_false_iff_ne]; omega
    have hJz : ((J : Int) + 1 == 0) = false := by rw [beq_eq_false_iff_ne]; omega
    go_enter Tryz.func65, Tryz.ntmps65
    go_wp2_with fail
    refine rg_cut (S := Sx wz) 13 (by kernel_rfl) (by kernel_rfl) (by kernel_rfl) (by kernel_rfl) (Sx.begin _) ?_
    have hSp : Sx wz (World.drew wz) := (Sx.begin _)
    refine rg_take 0 (some 10) (.pointer (some ⟨w0.heap.size, 0, none⟩)) (oi := { dst := some 10, op := Go.Op.move (Go.Operand.tmp 0), type := 66, pos := "qlex.go:41", after := #[], guard := none }) rfl rfl (by kernel_rfl) (by kernel_rfl) (by kernel_rfl) (fun _ _ _ h => h) hSp (by rfl) (fun w' hs => by rfl) ?_
    simp only [Act.put, List.setIfInBounds_toArray, List.set_cons_zero, List.set_cons_succ]
    refine rg_take 1 (some 11) (.pointer (some ⟨w0.heap.size, 0, none⟩)) (oi := { dst := some 11, op := Go.Op.nilCheck (Go.Operand.tmp 10), type := 0, pos := "qlex.go:41", after := #[{ on := 0, ground := Go.Ground.data }], guard := none }) rfl rfl (by kernel_rfl) (by kernel_rfl) (by kernel_rfl) (fun _ _ _ h => h) hSp (by rfl) (fun w' hs => by first | rfl | go_simp) ?_
    simp only [Act.put, List.setIfInBounds_toArray, List.set_cons_zero, List.set_cons_succ]
    refine rg_take 2 (some 12) (.pointer (some ⟨w0.heap.size, 2, none⟩)) (oi := { dst := some 12, op := Go.Op.fieldAddr 68 (Go.Operand.tmp 11) 2, type := 0, pos := "qlex.go:41", after := #[{ on := 1, ground := Go.Ground.data }], guard := none }) rfl rfl (by kernel_rfl) (by kernel_rfl) (by kernel_rfl) (fun _ _ _ h => h) hSp (by rfl) (fun w' hs => by first | rfl | go_simp) ?_
    simp only [Act.put, List.setIfInBounds_toArray, List.set_cons_zero, List.set_cons_succ]
    refine rg_take 3 (some 13) (.slice (some ⟨rb, ro, none⟩) (J + 1) oc) (oi := { dst := some 13, op := Go.Op.load 42 (Go.Operand.tmp 12), type := 42, pos := "qlex.go:41", after := #[{ on := 2, ground := Go.Ground.data }], guard := none }) rfl rfl (by kernel_rfl) (by kernel_rfl) (by kernel_rfl) (fun _ _ _ h => h) hSp (by rfl) (fun w' hs => by (have h0 := hs.cell hlt c2; go_simp)) ?_
    simp only [Act.put, List.setIfInBounds_toArray, List.set_cons_zero, List.set_cons_succ]
    refine rg_take 4 (some 14) (.pointer (some ⟨w0.heap.size, 0, none⟩)) (oi := { dst := some 14, op := Go.Op.move (Go.Operand.tmp 0), type := 66, pos := "qlex.go:41", after := #[], guard := none }) rfl rfl (by kernel_rfl) (by kernel_rfl) (by kernel_rfl) (fun _ _ _ h => h) hSp (by rfl) (fun w' hs => by rfl) ?_
    simp only [Act.put, List.setIfInBounds_toArray, List.set_cons_zero, List.set_cons_succ]
    refine rg_take 5 (some 15) (.pointer (some ⟨w0.heap.size, 0, none⟩)) (oi := { dst := some 15, op := Go.Op.nilCheck (Go.Operand.tmp 14), type := 0, pos := "qlex.go:41", after := #[{ on := 4, ground := Go.Ground.data }], guard := none }) rfl rfl (by kernel_rfl) (by kernel_rfl) (by kernel_rfl) (fun _ _ _ h => h) hSp (by rfl) (fun w' hs => by first | rfl | go_simp) ?_
    simp only [Act.put, List.setIfInBounds_toArray, List.set_cons_zero, List.set_cons_succ]
    refine rg_take 6 (some 16) (.pointer (some ⟨w0.heap.size, 2, none⟩)) (oi := { dst := some 16, op := Go.Op.fieldAddr 68 (Go.Operand.tmp 15) 2, type := 0, pos := "qlex.go:41", after := #[{ on := 5, ground := Go.Ground.data }], guard := none }) rfl rfl (by kernel_rfl) (by kernel_rfl) (by kernel_rfl) (fun _ _ _ h => h) hSp (by rfl) (fun w' hs => by first | rfl | go_simp) ?_
    simp only [Act.put, List.setIfInBounds_toArray, List.set_cons_zero, List.set_cons_succ]
    refine rg_take 7 (some 17) (.slice (some ⟨rb, ro, none⟩) (J + 1) oc) (oi := { dst := some 17, op := Go.Op.load 42 (Go.Operand.tmp 16), type := 42, pos := "qlex.go:41", after := #[{ on := 6, ground := Go.Ground.data }], guard := none }) rfl rfl (by kernel_rfl) (by kernel_rfl) (by kernel_rfl) (fun _ _ _ h => h) hSp (by rfl) (fun w' hs => by (have h0 := hs.cell hlt c2; go_simp)) ?_
    simp only [Act.put, List.setIfInBounds_toArray, List.set_cons_zero, List.set_cons_succ]
    refine rg_take 8 (some 18) (.int .i64 (J + 1 : Nat)) (oi := { dst := some 18, op := Go.Op.call { callee := Go.Callee.builtin Go.Builtin.len, args := #[Go.Operand.tmp 17], argTypes := #[42] }, type := 3, pos := "qlex.go:41", after := #[{ on := 7, ground := Go.Ground.data }], guard := none }) rfl rfl (by kernel_rfl) (by kernel_rfl) (by kernel_rfl) (fun _ _ _ h => h) hSp (by rfl) (fun w' hs => by exact exec_len3 rfl rfl _) ?_
    simp only [Act.put, List.setIfInBounds_toArray, List.set_cons_zero, List.set_cons_succ]
    refine rg_take 9 (some 19) (.int .i64 J) (oi := { dst := some 19, op := Go.Op.binOp Go.BinOp.sub 3 (Go.Operand.tmp 18) (Go.Operand.const (Go.Value.int Go.IntKind.i64 1)) 3, type := 3, pos := "qlex.go:41", after := #[{ on := 8, ground := Go.Ground.data }], guard := none }) rfl rfl (by kernel_rfl) (by kernel_rfl) (by kernel_rfl) (fun _ _ _ h => h) hSp (by rfl) (fun w' hs => by exact exec_dec rfl rfl rfl (by omega) _) ?_
    simp only [Act.put, List.setIfInBounds_toArray, List.set_cons_zero, List.set_cons_succ]
    refine rg_take 10 (some 20) (.pointer (some ⟨rb, ro + J * 3, none⟩)) (oi := { dst := some 20, op := Go.Op.indexAddr 42 (Go.Operand.tmp 13) (Go.Operand.tmp 19), type := 0, pos := "qlex.go:41", after := #[{ on := 3, ground := Go.Ground.data }, { on := 9, ground := Go.Ground.data }], guard := none }) rfl rfl (by kernel_rfl) (by kernel_rfl) (by kernel_rfl) (fun _ _ _ h => h) hSp (by rfl) (fun w' hs => by first | rfl | go_simp) ?_
    simp only [Act.put, List.setIfInBounds_toArray, List.set_cons_zero, List.set_cons_succ]
    refine rg_take 11 (some 21) (.agg #[.int .i64 t.kind, .int .i64 t.at', .string (bs t.text)]) (oi := { dst := some 21, op := Go.Op.load 111 (Go.Operand.tmp 20), type := 111, pos := "qlex.go:41", after := #[{ on := 10, ground := Go.Ground.data }], guard := none }) rfl rfl (by kernel_rfl) (by kernel_rfl) (by kernel_rfl) (fun _ _ _ h => h) hSp (by rfl) (fun w' hs => by (have h0 := hs.cell lrb d0; have h1 := hs.cell lrb d1; have h2 := hs.cell lrb d2; go_simp)) ?_
    simp only [Act.put, List.setIfInBounds_toArray, List.set_cons_zero, List.set_cons_succ]
    refine rg_one 12 (by kernel_rfl) ?_
    refine tk_new 12 (some 3) (.cells #[.int .i64 0, .int .i64 0, .string ⟨#[]⟩] 111) (fun n => .pointer (some ⟨n, 0, none⟩)) (oi := { dst := some 3, op := Go.Op.alloc 111, type := 0, pos := "qlex.go:41", after := #[], guard := none }) rfl rfl (by rfl) (by first | rfl | go_simp) ?_
    intro gb xb egb hxb hzxb hC
    have hSb : Sx wz xb := hSp.ext hxb
    refine ⟨hSb, ?_⟩
    simp only [Act.put, List.setIfInBounds_toArray, List.set_cons_zero, List.set_cons_succ]
    refine rg_done (by kernel_rfl) ?_
    refine rg_go 1 #[true, true, true, true, true, true, true, true, true, true, true, true, true, false] (by kernel_rfl) (by kernel_rfl) fun m => ?_
    refine rg_write 13 none (st3 xb gb t) (oi := { dst := none, op := Go.Op.store 111 (Go.Operand.tmp 3) (Go.Operand.tmp 21), type := 0, pos := "qlex.go:41", after := #[{ on := 12, ground := Go.Ground.data }, { on := 11, ground := Go.Ground.data }, { on := 0, ground := Go.Ground.phase }, { on := 1, ground := Go.Ground.phase }, { on := 2, ground := Go.Ground.phase }, { on := 3, ground := Go.Ground.phase }, { on := 4, ground := Go.Ground.phase }, { on := 5, ground := Go.Ground.phase }, { on := 6, ground := Go.Ground.phase }, { on := 7, ground := Go.Ground.phase }, { on := 8, ground := Go.Ground.phase }, { on := 9, ground := Go.Ground.phase }, { on := 10, ground := Go.Ground.phase }, { on := 11, ground := Go.Ground.phase }, { on := 12, ground := Go.Ground.phase }], guard := none }) rfl rfl (by kernel_rfl) (by rfl) (exec_store rfl (store_tok hC t)) trivial ?_
    simp only [Act.put, List.setIfInBounds_toArray, List.set_cons_zero, List.set_cons_succ]
    refine rg_done (by kernel_rfl) ?_
    obtain ⟨k0, k1, k2, hE9⟩ := st3_cells hC t
    replace hE9 := hE9 wz hSb (by have := (Ext.refl wz).drew.size; omega)
    obtain ⟨w9, hw9⟩ : ∃ W, W = st3 xb gb t := ⟨_, rfl⟩
    rw [← hw9] at k0 k1 k2 hE9 ⊢
    have HX9 := Lib.hid hE9
    clear hw9 hC hxb hzxb egb hSb hSp hE9 c2 d0 d1 d2 lrb hlt
    by_cases h5 : t.kind = 5
    · obtain rfl : R = false := by rw [← HR.out, if_pos h5]
      have q5 : ((t.kind : Int) == 5) = true := by rw [beq_iff_eq]; omega
      clear h5
      go_wp2_with fail
      go_ret
      exact ⟨rfl, HX9.out⟩
    · replace HR := Lib.hid ((if_neg h5).symm.trans HR.out)
      have q5 : ((t.kind : Int) == 5) = false := by rw [beq_eq_false_iff_ne]; omega
      clear h5
      by_cases h6 : t.kind = 6
      · replace HR := Lib.hid ((if_pos h6).symm.trans HR.out)
        have q6 : ((t.kind : Int) == 6) = true := by rw [beq_iff_eq]; omega
        clear h6
        obtain ⟨B, hB⟩ : ∃ B, ([[64], [58, 58], [40], [91], [44]] : List (List UInt8)).contains t.text = B := ⟨_, rfl⟩
        rw [hB] at HCT HR
        obtain rfl := HR.out
        clear hB HR
        have hk2 : gb < w9.heap.size := World.block_lt_of_cell? w9 _ k2
        have k2' := ((Ext.refl w9).alloc (.cells #[.string ⟨#[64]⟩, .string ⟨#[58, 58]⟩, .string ⟨#[40]⟩, .string ⟨#[91]⟩, .string ⟨#[44]⟩] 9)).keep hk2 k2
        have HRL := Lib.hid (rep_strs w9 [[64], [58, 58], [40], [91], [44]] #[.string ⟨#[64]⟩, .string ⟨#[58, 58]⟩, .string ⟨#[40]⟩, .string ⟨#[91]⟩, .string ⟨#[44]⟩] 9 rfl 5 rfl (by decide) (by decide))
        go_wp2_with fail
        refine (HCT.out _ _ HRL.out).mono ?_
        rintro e w' ⟨rfl, hB⟩
        go_wp2_with fail
        go_ret
        exact ⟨rfl, (HX9.out.alloc _).trans hB⟩
      · obtain rfl : R = true := by rw [← HR.out, if_neg h6]
        have q6 : ((t.kind : Int) == 6) = false := by rw [beq_eq_false_iff_ne]; omega
        clear h6
        go_wp2_with fail
        go_ret
        exact ⟨rfl, HX9.out⟩

end Go.Proofs.YtfoclfefjcnllaaGreatDoor
