/-
  The scanner's numbers and quoted texts. Helper lemmas; no statement of the seat is proved here.
-/
import Derived.Test.YtfoclfefjcnllaaGreatDoorD4
namespace Go.Proofs.YtfoclfefjcnllaaGreatDoor
open Go.RowKit
set_option maxRecDepth 100000
set_option linter.unusedVariables false
set_option linter.unusedSimpArgs false

theorem take_eq {α : Type} (p : α → Bool) : ∀ l : List α, (l.takeWhile p).length ≤ l.length
  | [] => Nat.le_refl _
  | a :: l => by rw [List.takeWhile_cons]; split <;> simp [take_eq p l]
theorem dig_le (s : List UInt8) (i : Nat) : digitsS (s.drop i) ≤ s.length - i := by
  have := take_eq digB (s.drop i); rw [List.length_drop] at this; exact this
theorem drop_head {α : Type} (l : List α) (i : Nat) : (l.drop i).head? = l[i]? := by
  rw [List.head?_drop]
/-- What a function leaves that may put a token. -/
def TokB (w0 : World) (s : List UInt8) (i : Nat) (out : List QT) (r : Option (Nat × Nat × List UInt8)) (e : Ending) (w' : World) : Prop := match r with
  | none => e = .returned (.bool false) ∧ SC w0 w' s i out
  | some (k, n, t) => e = .returned (.bool true) ∧ SC w0 w' s (i + n) (out ++ [⟨k, i, t⟩]) ∧ i + n ≤ s.length
def TokR (w0 : World) (s : List UInt8) (i : Nat) (out : List QT) (r : Tok) (e : Ending) (w' : World) : Prop := match r with
  | .error c => e = .returned (.int .i64 c) ∧ SC w0 w' s i out ∧ c ≠ 0
  | .ok (k, n, t) => e = .returned (.int .i64 0) ∧ SC w0 w' s (i + n) (out ++ [⟨k, i, t⟩]) ∧ i + n ≤ s.length ∧ 0 < n
set_option maxHeartbeats 16000000 in
theorem number_any (w0 W : World) (s : List UInt8) (i : Nat) (out : List QT) (h : SC w0 W s i out) (hi : i ≤ s.length) (hl : s.length ≤ 1000) (ho : out.length ≤ 1000) :
    Calls Tryz.prog 67 #[.pointer (some ⟨w0.heap.size, 0, none⟩)] W (TokB w0 s i out (numberS (s.drop i))) := by
  have hd1 := dig_le s i
  obtain ⟨R, hR⟩ : ∃ R, numberS (s.drop i) = R := ⟨_, rfl⟩
  rw [hR]
  unfold numberS at hR
  simp only [List.drop_drop, drop_head] at hR
  have HC := Lib.hid (sdig_any w0 W s i i out h hi hl)
  obtain ⟨wh, hwh⟩ : ∃ n, digitsS (s.drop i) = n := ⟨_, rfl⟩
  rw [hwh] at HC hR hd1
  have HR := Lib.hid hR
  have HS := Lib.hid h
  have hlt := h.lt
  have c1 := h.c1
  clear h hR hwh
  go_enter Tryz.func67, Tryz.ntmps67
  go_wp2_with fail
  refine HC.out.mono ?_
  rintro e w1 ⟨rfl, hX⟩
  replace HS := Lib.hid (HS.out.step hX)
  clear HC c1
  replace hlt := HS.out.lt
  have c0 := HS.out.c0; have c1 := HS.out.c1
  obtain ⟨wz, hwz⟩ : ∃ wz, wz = w1 := ⟨_, rfl⟩
  subst hwz
  clear hX
  have hTail : ∀ N : Nat, 0 < N → i + N ≤ s.length → True := fun _ _ _ => trivial
  by_cases hlI : i + wh < s.length
  · by_cases hdot : s[i + wh] = 46
    · have hq : s[i + wh].toNat = 46 := by rw [hdot]; rfl
      have hd2 := dig_le s (i + wh + 1)
      replace HR := HR.out
      rw [if_pos (by rw [List.getElem?_eq_getElem hlI, hdot])] at HR
      simp only [show i + (wh + 1) = i + wh + 1 by omega] at HR
      have HC := Lib.hid fun W h => sdig_any w0 W s i (i + wh + 1) out h (by omega) hl
      obtain ⟨pl, hpl⟩ : ∃ n, digitsS (s.drop (i + wh + 1)) = n := ⟨_, rfl⟩
      rw [hpl] at HC HR hd2
      obtain ⟨j1, hj1⟩ : ∃ j, i + wh + 1 = j := ⟨_, rfl⟩
      have hj1I : (i : Int) + (wh : Int) + 1 = (j1 : Int) := by omega
      rw [hj1] at HC
      have HJ := Lib.hid hj1
      replace HR := Lib.hid HR
      clear hpl hdot hj1
      go_wp2_with fail
      refine rg_begin (S := Sx wz) (by kernel_rfl) (Sx.begin _) ?_
      have hS : Sx wz (World.drew wz) := (Sx.begin _)
      refine rg_take 0 (some 13) (.pointer (some ⟨w0.heap.size, 0, none⟩)) (oi := { dst := some 13, op := Go.Op.move (Go.Operand.tmp 0), type := 66, pos := "qlex.go:78", after := #[], guard := none }) rfl rfl (by kernel_rfl) (by kernel_rfl) (by kernel_rfl) (fun _ _ _ h => h) hS (by rfl) (fun w' hs => by rfl) ?_
      simp only [Act.put, List.setIfInBounds_toArray, List.set_cons_zero, List.set_cons_succ]
      refine rg_take 1 (some 14) (.pointer (some ⟨w0.heap.size, 0, none⟩)) (oi := { dst := some 14, op := Go.Op.nilCheck (Go.Operand.tmp 13), type := 0, pos := "qlex.go:78", after := #[{ on := 0, ground := Go.Ground.data }], guard := none }) rfl rfl (by kernel_rfl) (by kernel_rfl) (by kernel_rfl) (fun _ _ _ h => h) hS (by rfl) (fun w' hs => by first | rfl | go_simp) ?_
      simp only [Act.put, List.setIfInBounds_toArray, List.set_cons_zero, List.set_cons_succ]
      refine rg_take 2 (some 15) (.pointer (some ⟨w0.heap.size, 1, none⟩)) (oi := { dst := some 15, op := Go.Op.fieldAddr 68 (Go.Operand.tmp 14) 1, type := 0, pos := "qlex.go:78", after := #[{ on := 1, ground := Go.Ground.data }], guard := none }) rfl rfl (by kernel_rfl) (by kernel_rfl) (by kernel_rfl) (fun _ _ _ h => h) hS (by rfl) (fun w' hs => by first | rfl | go_simp) ?_
      simp only [Act.put, List.setIfInBounds_toArray, List.set_cons_zero, List.set_cons_succ]
      refine rg_take 3 (some 16) (.int .i64 i) (oi := { dst := some 16, op := Go.Op.load 3 (Go.Operand.tmp 15), type := 3, pos := "qlex.go:78", after := #[{ on := 2, ground := Go.Ground.data }], guard := none }) rfl rfl (by kernel_rfl) (by kernel_rfl) (by kernel_rfl) (fun _ _ _ h => h) hS (by rfl) (fun w' hs => by (have h0 := hs.cell hlt c1; go_simp)) ?_
      simp only [Act.put, List.setIfInBounds_toArray, List.set_cons_zero, List.set_cons_succ]
      refine rg_take 4 (some 17) (.int .i64 wh) (oi := { dst := some 17, op := Go.Op.move (Go.Operand.tmp 4), type := 3, pos := "qlex.go:78", after := #[], guard := none }) rfl rfl (by kernel_rfl) (by kernel_rfl) (by kernel_rfl) (fun _ _ _ h => h) hS (by rfl) (fun w' hs => by rfl) ?_
      simp only [Act.put, List.setIfInBounds_toArray, List.set_cons_zero, List.set_cons_succ]
      refine rg_take 5 (some 18) (.int .i64 (i + wh : Nat)) (oi := { dst := some 18, op := Go.Op.binOp Go.BinOp.add 3 (Go.Operand.tmp 16) (Go.Operand.tmp 17) 3, type := 3, pos := "qlex.go:78", after := #[{ on := 3, ground := Go.Ground.data }, { on := 4, ground := Go.Ground.data }], guard := none }) rfl rfl (by kernel_rfl) (by kernel_rfl) (by kernel_rfl) (fun _ _ _ h => h) hS (by rfl) (fun w' hs => by exact exec_add (i := i) (j := wh) rfl rfl rfl (by omega) _) ?_
      simp only [Act.put, List.setIfInBounds_toArray, List.set_cons_zero, List.set_cons_succ]
      refine rg_take 6 (some 19) (.pointer (some ⟨w0.heap.size, 0, none⟩)) (oi := { dst := some 19, op := Go.Op.move (Go.Operand.tmp 0), type := 66, pos := "qlex.go:78", after := #[], guard := none }) rfl rfl (by kernel_rfl) (by kernel_rfl) (by kernel_rfl) (fun _ _ _ h => h) hS (by rfl) (fun w' hs => by rfl) ?_
      simp only [Act.put, List.setIfInBounds_toArray, List.set_cons_zero, List.set_cons_succ]
      refine rg_take 7 (some 20) (.pointer (some ⟨w0.heap.size, 0, none⟩)) (oi := { dst := some 20, op := Go.Op.nilCheck (Go.Operand.tmp 19), type := 0, pos := "qlex.go:78", after := #[{ on := 6, ground := Go.Ground.data }], guard := none }) rfl rfl (by kernel_rfl) (by kernel_rfl) (by kernel_rfl) (fun _ _ _ h => h) hS (by rfl) (fun w' hs => by first | rfl | go_simp) ?_
      simp only [Act.put, List.setIfInBounds_toArray, List.set_cons_zero, List.set_cons_succ]
      refine rg_take 8 (some 21) (.pointer (some ⟨w0.heap.size, 0, none⟩)) (oi := { dst := some 21, op := Go.Op.fieldAddr 68 (Go.Operand.tmp 20) 0, type := 0, pos := "qlex.go:78", after := #[{ on := 7, ground := Go.Ground.data }], guard := none }) rfl rfl (by kernel_rfl) (by kernel_rfl) (by kernel_rfl) (fun _ _ _ h => h) hS (by rfl) (fun w' hs => by first | rfl | go_simp) ?_
      simp only [Act.put, List.setIfInBounds_toArray, List.set_cons_zero, List.set_cons_succ]
      refine rg_take 9 (some 22) (.string (bs s)) (oi := { dst := some 22, op := Go.Op.load 9 (Go.Operand.tmp 21), type := 9, pos := "qlex.go:78", after := #[{ on := 8, ground := Go.Ground.data }], guard := none }) rfl rfl (by kernel_rfl) (by kernel_rfl) (by kernel_rfl) (fun _ _ _ h => h) hS (by rfl) (fun w' hs => by (have h0 := hs.cell hlt c0; go_simp)) ?_
      simp only [Act.put, List.setIfInBounds_toArray, List.set_cons_zero, List.set_cons_succ]
      refine rg_take 10 (some 23) (.int .i64 s.length) (oi := { dst := some 23, op := Go.Op.call { callee := Go.Callee.builtin Go.Builtin.len, args := #[Go.Operand.tmp 22], argTypes := #[9] }, type := 3, pos := "qlex.go:78", after := #[{ on := 9, ground := Go.Ground.data }], guard := none }) rfl rfl (by kernel_rfl) (by kernel_rfl) (by kernel_rfl) (fun _ _ _ h => h) hS (by rfl) (fun w' hs => by exact exec_slen rfl rfl _) ?_
      simp only [Act.put, List.setIfInBounds_toArray, List.set_cons_zero, List.set_cons_succ]
      refine rg_take 11 (some 24) (.bool true) (oi := { dst := some 24, op := Go.Op.binOp Go.BinOp.lss 3 (Go.Operand.tmp 18) (Go.Operand.tmp 23) 3, type := 4, pos := "qlex.go:78", after := #[{ on := 5, ground := Go.Ground.data }, { on := 10, ground := Go.Ground.data }], guard := none }) rfl rfl (by kernel_rfl) (by kernel_rfl) (by kernel_rfl) (fun _ _ _ h => h) hS (by rfl) (fun w' hs => by exact exec_lss (i := i + wh) (j := s.length) rfl rfl rfl (decide_eq_true (by omega)) _) ?_
      simp only [Act.put, List.setIfInBounds_toArray, List.set_cons_zero, List.set_cons_succ]
      refine rg_take 12 (some 25) (.bool true) (oi := { dst := some 25, op := Go.Op.move (Go.Operand.tmp 24), type := 4, pos := "qlex.go:78", after := #[{ on := 11, ground := Go.Ground.data }], guard := none }) rfl rfl (by kernel_rfl) (by kernel_rfl) (by kernel_rfl) (fun _ _ _ h => h) hS (by rfl) (fun w' hs => by rfl) ?_
      simp only [Act.put, List.setIfInBounds_toArray, List.set_cons_zero, List.set_cons_succ]
      refine rg_take 13 (some 26) (.pointer (some ⟨w0.heap.size, 0, none⟩)) (oi := { dst := some 26, op := Go.Op.move (Go.Operand.tmp 0), type := 66, pos := "qlex.go:78", after := #[{ on := 12, ground := Go.Ground.guard }], guard := some (12, true) }) rfl rfl (by kernel_rfl) (by kernel_rfl) (by kernel_rfl) (fun _ _ _ h => h) hS (by rfl) (fun w' hs => by rfl) ?_
      simp only [Act.put, List.setIfInBounds_toArray, List.set_cons_zero, List.set_cons_succ]
      refine rg_take 14 (some 27) (.pointer (some ⟨w0.heap.size, 0, none⟩)) (oi := { dst := some 27, op := Go.Op.nilCheck (Go.Operand.tmp 26), type := 0, pos := "qlex.go:78", after := #[{ on := 13, ground := Go.Ground.data }, { on := 12, ground := Go.Ground.guard }], guard := some (12, true) }) rfl rfl (by kernel_rfl) (by kernel_rfl) (by kernel_rfl) (fun _ _ _ h => h) hS (by rfl) (fun w' hs => by first | rfl | go_simp) ?_
      simp only [Act.put, List.setIfInBounds_toArray, List.set_cons_zero, List.set_cons_succ]
      refine rg_take 15 (some 28) (.pointer (some ⟨w0.heap.size, 0, none⟩)) (oi := { dst := some 28, op := Go.Op.fieldAddr 68 (Go.Operand.tmp 27) 0, type := 0, pos := "qlex.go:78", after := #[{ on := 14, ground := Go.Ground.data }, { on := 12, ground := Go.Ground.guard }], guard := some (12, true) }) rfl rfl (by kernel_rfl) (by kernel_rfl) (by kernel_rfl) (fun _ _ _ h => h) hS (by rfl) (fun w' hs => by first | rfl | go_simp) ?_
      simp only [Act.put, List.setIfInBounds_toArray, List.set_cons_zero, List.set_cons_succ]
      refine rg_take 16 (some 29) (.string (bs s)) (oi := { dst := some 29, op := Go.Op.load 9 (Go.Operand.tmp 28), type := 9, pos := "qlex.go:78", after := #[{ on := 15, ground := Go.Ground.data }, { on := 12, ground := Go.Ground.guard }], guard := some (12, true) }) rfl rfl (by kernel_rfl) (by kernel_rfl) (by kernel_rfl) (fun _ _ _ h => h) hS (by rfl) (fun w' hs => by (have h0 := hs.cell hlt c0; go_simp)) ?_
      simp only [Act.put, List.setIfInBounds_toArray, List.set_cons_zero, List.set_cons_succ]
      refine rg_take 17 (some 30) (.pointer (some ⟨w0.heap.size, 0, none⟩)) (oi := { dst := some 30, op := Go.Op.move (Go.Operand.tmp 0), type := 66, pos := "qlex.go:78", after := #[{ on := 12, ground := Go.Ground.guard }], guard := some (12, true) }) rfl rfl (by kernel_rfl) (by kernel_rfl) (by kernel_rfl) (fun _ _ _ h => h) hS (by rfl) (fun w' hs => by rfl) ?_
      simp only [Act.put, List.setIfInBounds_toArray, List.set_cons_zero, List.set_cons_succ]
      refine rg_take 18 (some 31) (.pointer (some ⟨w0.heap.size, 0, none⟩)) (oi := { dst := some 31, op := Go.Op.nilCheck (Go.Operand.tmp 30), type := 0, pos := "qlex.go:78", after := #[{ on := 17, ground := Go.Ground.data }, { on := 12, ground := Go.Ground.guard }], guard := some (12, true) }) rfl rfl (by kernel_rfl) (by kernel_rfl) (by kernel_rfl) (fun _ _ _ h => h) hS (by rfl) (fun w' hs => by first | rfl | go_simp) ?_
      simp only [Act.put, List.setIfInBounds_toArray, List.set_cons_zero, List.set_cons_succ]
      refine rg_take 19 (some 32) (.pointer (some ⟨w0.heap.size, 1, none⟩)) (oi := { dst := some 32, op := Go.Op.fieldAddr 68 (Go.Operand.tmp 31) 1, type := 0, pos := "qlex.go:78", after := #[{ on := 18, ground := Go.Ground.data }, { on := 12, ground := Go.Ground.guard }], guard := some (12, true) }) rfl rfl (by kernel_rfl) (by kernel_rfl) (by kernel_rfl) (fun _ _ _ h => h) hS (by rfl) (fun w' hs => by first | rfl | go_simp) ?_
      simp only [Act.put, List.setIfInBounds_toArray, List.set_cons_zero, List.set_cons_succ]
      refine rg_take 20 (some 33) (.int .i64 i) (oi := { dst := some 33, op := Go.Op.load 3 (Go.Operand.tmp 32), type := 3, pos := "qlex.go:78", after := #[{ on := 19, ground := Go.Ground.data }, { on := 12, ground := Go.Ground.guard }], guard := some (12, true) }) rfl rfl (by kernel_rfl) (by kernel_rfl) (by kernel_rfl) (fun _ _ _ h => h) hS (by rfl) (fun w' hs => by (have h0 := hs.cell hlt c1; go_simp)) ?_
      simp only [Act.put, List.setIfInBounds_toArray, List.set_cons_zero, List.set_cons_succ]
      refine rg_take 21 (some 34) (.int .i64 wh) (oi := { dst := some 34, op := Go.Op.move (Go.Operand.tmp 4), type := 3, pos := "qlex.go:78", after := #[{ on := 12, ground := Go.Ground.guard }], guard := some (12, true) }) rfl rfl (by kernel_rfl) (by kernel_rfl) (by kernel_rfl) (fun _ _ _ h => h) hS (by rfl) (fun w' hs => by rfl) ?_
      simp only [Act.put, List.setIfInBounds_toArray, List.set_cons_zero, List.set_cons_succ]
      refine rg_take 22 (some 35) (.int .i64 (i + wh : Nat)) (oi := { dst := some 35, op := Go.Op.binOp Go.BinOp.add 3 (Go.Operand.tmp 33) (Go.Operand.tmp 34) 3, type := 3, pos := "qlex.go:78", after := #[{ on := 20, ground := Go.Ground.data }, { on := 21, ground := Go.Ground.data }, { on := 12, ground := Go.Ground.guard }], guard := some (12, true) }) rfl rfl (by kernel_rfl) (by kernel_rfl) (by kernel_rfl) (fun _ _ _ h => h) hS (by rfl) (fun w' hs => by exact exec_add (i := i) (j := wh) rfl rfl rfl (by omega) _) ?_
      simp only [Act.put, List.setIfInBounds_toArray, List.set_cons_zero, List.set_cons_succ]
      refine rg_take 23 (some 36) (.int .u8 (s[i + wh].toNat : Nat)) (oi := { dst := some 36, op := Go.Op.index 9 (Go.Operand.tmp 29) (Go.Operand.tmp 35), type := 5, pos := "qlex.go:78", after := #[{ on := 16, ground := Go.Ground.data }, { on := 22, ground := Go.Ground.data }, { on := 12, ground := Go.Ground.guard }], guard := some (12, true) }) rfl rfl (by kernel_rfl) (by kernel_rfl) (by kernel_rfl) (fun _ _ _ h => h) hS (by rfl) (fun w' hs => by exact exec_sidx (i := i + wh) rfl rfl rfl (by omega) _) ?_
      simp only [Act.put, List.setIfInBounds_toArray, List.set_cons_zero, List.set_cons_succ]
      refine rg_take 24 (some 37) (.bool true) (oi := { dst := some 37, op := Go.Op.binOp Go.BinOp.eql 5 (Go.Operand.tmp 36) (Go.Operand.const (Go.Value.int Go.IntKind.u8 46)) 5, type := 4, pos := "qlex.go:78", after := #[{ on := 23, ground := Go.Ground.data }, { on := 12, ground := Go.Ground.guard }], guard := some (12, true) }) rfl rfl (by kernel_rfl) (by kernel_rfl) (by kernel_rfl) (fun _ _ _ h => h) hS (by rfl) (fun w' hs => by exact exec_eql (i := s[i + wh].toNat) (j := 46) rfl rfl rfl (decide_eq_true (by omega)) _) ?_
      simp only [Act.put, List.setIfInBounds_toArray, List.set_cons_zero, List.set_cons_succ]
      refine rg_take 25 (some 38) (.bool true) (oi := { dst := some 38, op := Go.Op.pick (Go.Operand.tmp 25) (Go.Operand.tmp 37) (Go.Operand.const (Go.Value.bool false)), type := 4, pos := "qlex.go:78", after := #[{ on := 12, ground := Go.Ground.data }, { on := 24, ground := Go.Ground.data }], guard := none }) rfl rfl (by kernel_rfl) (by kernel_rfl) (by kernel_rfl) (fun _ _ _ h => h) hS (by rfl) (fun w' hs => by rfl) ?_
      simp only [Act.put, List.setIfInBounds_toArray, List.set_cons_zero, List.set_cons_succ]
      refine rg_done (by kernel_rfl) ?_
      replace HS := Lib.hid (HS.out.step hS)
      obtain ⟨wy, hwy⟩ : ∃ wy, wy = World.drew wz := ⟨_, rfl⟩
      rw [← hwy] at HS ⊢
      clear c0 c1 hS hlt hwy
      replace hlt := HS.out.lt
      have c0 := HS.out.c0; have c1 := HS.out.c1
      clear hq
      go_wp2_with fail
      refine (HC.out _ HS.out).mono ?_
      rintro e w2 ⟨rfl, hX⟩
      replace HS := Lib.hid (HS.out.step hX)
      clear HC c0 c1 hX hlt
      replace hlt := HS.out.lt
      have c0 := HS.out.c0; have c1 := HS.out.c1
      obtain ⟨wz, hwz⟩ : ∃ wz, wz = w2 := ⟨_, rfl⟩
      subst hwz
      by_cases hz : wh + pl = 0
      · obtain rfl : none = R := by rw [← HR.out, if_pos hz]
        have hzI : ((wh : Int) + (pl : Int) == 0) = true := by rw [beq_iff_eq]; omega
        clear hz HR
        go_wp2_with fail
        go_ret
        exact ⟨rfl, HS.out⟩
      · obtain rfl : some _ = R := by rw [← HR.out, if_neg hz]
        have hzI : ((wh : Int) + (pl : Int) == 0) = false := by rw [beq_eq_false_iff_ne]; omega
        obtain ⟨N, hN⟩ : ∃ N, wh + (1 + pl) = N := ⟨_, rfl⟩
        have hNI : (wh : Int) + (1 + (pl : Int)) = (N : Int) := by omega
        have hNz : ((N : Int) == 0) = false := by rw [beq_eq_false_iff_ne]; omega
        have hNb : i + N ≤ s.length := by omega
        have HN := Lib.hid hN
        clear hz HR hN hj1I HJ hd1 hd2
        go_wp2_with fail
        refine rg_cut (S := Sx wz) 17 (by kernel_rfl) (by kernel_rfl) (by kernel_rfl) (by kernel_rfl) (Sx.begin _) ?_
        have hSp : Sx wz (World.drew wz) := (Sx.begin _)
        refine rg_take 0 (some 58) (.pointer (some ⟨w0.heap.size, 0, none⟩)) (oi := { dst := some 58, op := Go.Op.move (Go.Operand.tmp 0), type := 66, pos := "qlex.go:88", after := #[], guard := none }) rfl rfl (by kernel_rfl) (by kernel_rfl) (by kernel_rfl) (fun _ _ _ h => h) hSp (by rfl) (fun w' hs => by rfl) ?_
        simp only [Act.put, List.setIfInBounds_toArray, List.set_cons_zero, List.set_cons_succ]
        refine rg_take 1 (some 59) (.int .i64 N) (oi := { dst := some 59, op := Go.Op.move (Go.Operand.tmp 4), type := 3, pos := "qlex.go:88", after := #[], guard := none }) rfl rfl (by kernel_rfl) (by kernel_rfl) (by kernel_rfl) (fun _ _ _ h => h) hSp (by rfl) (fun w' hs => by rfl) ?_
        simp only [Act.put, List.setIfInBounds_toArray, List.set_cons_zero, List.set_cons_succ]
        refine rg_take 2 (some 60) (.pointer (some ⟨w0.heap.size, 0, none⟩)) (oi := { dst := some 60, op := Go.Op.move (Go.Operand.tmp 0), type := 66, pos := "qlex.go:88", after := #[], guard := none }) rfl rfl (by kernel_rfl) (by kernel_rfl) (by kernel_rfl) (fun _ _ _ h => h) hSp (by rfl) (fun w' hs => by rfl) ?_
        simp only [Act.put, List.setIfInBounds_toArray, List.set_cons_zero, List.set_cons_succ]
        refine rg_take 3 (some 61) (.pointer (some ⟨w0.heap.size, 0, none⟩)) (oi := { dst := some 61, op := Go.Op.nilCheck (Go.Operand.tmp 60), type := 0, pos := "qlex.go:88", after := #[{ on := 2, ground := Go.Ground.data }], guard := none }) rfl rfl (by kernel_rfl) (by kernel_rfl) (by kernel_rfl) (fun _ _ _ h => h) hSp (by rfl) (fun w' hs => by first | rfl | go_simp) ?_
        simp only [Act.put, List.setIfInBounds_toArray, List.set_cons_zero, List.set_cons_succ]
        refine rg_take 4 (some 62) (.pointer (some ⟨w0.heap.size, 0, none⟩)) (oi := { dst := some 62, op := Go.Op.fieldAddr 68 (Go.Operand.tmp 61) 0, type := 0, pos := "qlex.go:88", after := #[{ on := 3, ground := Go.Ground.data }], guard := none }) rfl rfl (by kernel_rfl) (by kernel_rfl) (by kernel_rfl) (fun _ _ _ h => h) hSp (by rfl) (fun w' hs => by first | rfl | go_simp) ?_
        simp only [Act.put, List.setIfInBounds_toArray, List.set_cons_zero, List.set_cons_succ]
        refine rg_take 5 (some 63) (.string (bs s)) (oi := { dst := some 63, op := Go.Op.load 9 (Go.Operand.tmp 62), type := 9, pos := "qlex.go:88", after := #[{ on := 4, ground := Go.Ground.data }], guard := none }) rfl rfl (by kernel_rfl) (by kernel_rfl) (by kernel_rfl) (fun _ _ _ h => h) hSp (by rfl) (fun w' hs => by (have h0 := hs.cell hlt c0; go_simp)) ?_
        simp only [Act.put, List.setIfInBounds_toArray, List.set_cons_zero, List.set_cons_succ]
        refine rg_take 6 (some 64) (.pointer (some ⟨w0.heap.size, 0, none⟩)) (oi := { dst := some 64, op := Go.Op.move (Go.Operand.tmp 0), type := 66, pos := "qlex.go:88", after := #[], guard := none }) rfl rfl (by kernel_rfl) (by kernel_rfl) (by kernel_rfl) (fun _ _ _ h => h) hSp (by rfl) (fun w' hs => by rfl) ?_
        simp only [Act.put, List.setIfInBounds_toArray, List.set_cons_zero, List.set_cons_succ]
        refine rg_take 7 (some 65) (.pointer (some ⟨w0.heap.size, 0, none⟩)) (oi := { dst := some 65, op := Go.Op.nilCheck (Go.Operand.tmp 64), type := 0, pos := "qlex.go:88", after := #[{ on := 6, ground := Go.Ground.data }], guard := none }) rfl rfl (by kernel_rfl) (by kernel_rfl) (by kernel_rfl) (fun _ _ _ h => h) hSp (by rfl) (fun w' hs => by first | rfl | go_simp) ?_
        simp only [Act.put, List.setIfInBounds_toArray, List.set_cons_zero, List.set_cons_succ]
        refine rg_take 8 (some 66) (.pointer (some ⟨w0.heap.size, 1, none⟩)) (oi := { dst := some 66, op := Go.Op.fieldAddr 68 (Go.Operand.tmp 65) 1, type := 0, pos := "qlex.go:88", after := #[{ on := 7, ground := Go.Ground.data }], guard := none }) rfl rfl (by kernel_rfl) (by kernel_rfl) (by kernel_rfl) (fun _ _ _ h => h) hSp (by rfl) (fun w' hs => by first | rfl | go_simp) ?_
        simp only [Act.put, List.setIfInBounds_toArray, List.set_cons_zero, List.set_cons_succ]
        refine rg_take 9 (some 67) (.int .i64 i) (oi := { dst := some 67, op := Go.Op.load 3 (Go.Operand.tmp 66), type := 3, pos := "qlex.go:88", after := #[{ on := 8, ground := Go.Ground.data }], guard := none }) rfl rfl (by kernel_rfl) (by kernel_rfl) (by kernel_rfl) (fun _ _ _ h => h) hSp (by rfl) (fun w' hs => by (have h0 := hs.cell hlt c1; go_simp)) ?_
        simp only [Act.put, List.setIfInBounds_toArray, List.set_cons_zero, List.set_cons_succ]
        refine rg_take 10 (some 68) (.pointer (some ⟨w0.heap.size, 0, none⟩)) (oi := { dst := some 68, op := Go.Op.move (Go.Operand.tmp 0), type := 66, pos := "qlex.go:88", after := #[], guard := none }) rfl rfl (by kernel_rfl) (by kernel_rfl) (by kernel_rfl) (fun _ _ _ h => h) hSp (by rfl) (fun w' hs => by rfl) ?_
        simp only [Act.put, List.setIfInBounds_toArray, List.set_cons_zero, List.set_cons_succ]
        refine rg_take 11 (some 69) (.pointer (some ⟨w0.heap.size, 0, none⟩)) (oi := { dst := some 69, op := Go.Op.nilCheck (Go.Operand.tmp 68), type := 0, pos := "qlex.go:88", after := #[{ on := 10, ground := Go.Ground.data }], guard := none }) rfl rfl (by kernel_rfl) (by kernel_rfl) (by kernel_rfl) (fun _ _ _ h => h) hSp (by rfl) (fun w' hs => by first | rfl | go_simp) ?_
        simp only [Act.put, List.setIfInBounds_toArray, List.set_cons_zero, List.set_cons_succ]
        refine rg_take 12 (some 70) (.pointer (some ⟨w0.heap.size, 1, none⟩)) (oi := { dst := some 70, op := Go.Op.fieldAddr 68 (Go.Operand.tmp 69) 1, type := 0, pos := "qlex.go:88", after := #[{ on := 11, ground := Go.Ground.data }], guard := none }) rfl rfl (by kernel_rfl) (by kernel_rfl) (by kernel_rfl) (fun _ _ _ h => h) hSp (by rfl) (fun w' hs => by first | rfl | go_simp) ?_
        simp only [Act.put, List.setIfInBounds_toArray, List.set_cons_zero, List.set_cons_succ]
        refine rg_take 13 (some 71) (.int .i64 i) (oi := { dst := some 71, op := Go.Op.load 3 (Go.Operand.tmp 70), type := 3, pos := "qlex.go:88", after := #[{ on := 12, ground := Go.Ground.data }], guard := none }) rfl rfl (by kernel_rfl) (by kernel_rfl) (by kernel_rfl) (fun _ _ _ h => h) hSp (by rfl) (fun w' hs => by (have h0 := hs.cell hlt c1; go_simp)) ?_
        simp only [Act.put, List.setIfInBounds_toArray, List.set_cons_zero, List.set_cons_succ]
        refine rg_take 14 (some 72) (.int .i64 N) (oi := { dst := some 72, op := Go.Op.move (Go.Operand.tmp 4), type := 3, pos := "qlex.go:88", after := #[], guard := none }) rfl rfl (by kernel_rfl) (by kernel_rfl) (by kernel_rfl) (fun _ _ _ h => h) hSp (by rfl) (fun w' hs => by rfl) ?_
        simp only [Act.put, List.setIfInBounds_toArray, List.set_cons_zero, List.set_cons_succ]
        refine rg_take 15 (some 73) (.int .i64 (i + N : Nat)) (oi := { dst := some 73, op := Go.Op.binOp Go.BinOp.add 3 (Go.Operand.tmp 71) (Go.Operand.tmp 72) 3, type := 3, pos := "qlex.go:88", after := #[{ on := 13, ground := Go.Ground.data }, { on := 14, ground := Go.Ground.data }], guard := none }) rfl rfl (by kernel_rfl) (by kernel_rfl) (by kernel_rfl) (fun _ _ _ h => h) hSp (by rfl) (fun w' hs => by exact exec_add (i := i) (j := N) rfl rfl rfl (by omega) _) ?_
        simp only [Act.put, List.setIfInBounds_toArray, List.set_cons_zero, List.set_cons_succ]
        refine rg_take 16 (some 74) (.string (bs ((s.drop i).take N))) (oi := { dst := some 74, op := Go.Op.slice 9 (Go.Operand.tmp 63) (some (Go.Operand.tmp 67)) (some (Go.Operand.tmp 73)) none, type := 9, pos := "qlex.go:88", after := #[{ on := 5, ground := Go.Ground.data }, { on := 9, ground := Go.Ground.data }, { on := 15, ground := Go.Ground.data }], guard := none }) rfl rfl (by kernel_rfl) (by kernel_rfl) (by kernel_rfl) (fun _ _ _ h => h) hSp (by rfl) (fun w' hs => by exact exec_stake (i := i) (n := N) rfl rfl rfl rfl (by omega) _) ?_
        simp only [Act.put, List.setIfInBounds_toArray, List.set_cons_zero, List.set_cons_succ]
        refine rg_done (by kernel_rfl) ?_
        refine rg_go 1 #[true, true, true, true, true, true, true, true, true, true, true, true, true, true, true, true, true, false] (by kernel_rfl) (by kernel_rfl) fun m => ?_
        refine rg_call 17 (some 75) 66 #[.pointer (some ⟨w0.heap.size, 0, none⟩), .int .i64 8, .int .i64 N, .string (bs ((s.drop i).take N))] (oi := { dst := some 75, op := Go.Op.call { callee := Go.Callee.value (Go.Operand.func 66), args := #[Go.Operand.tmp 58, Go.Operand.const (Go.Value.int Go.IntKind.i64 8), Go.Operand.tmp 59, Go.Operand.tmp 74], argTypes := #[66, 3, 3, 9] }, type := 0, pos := "qlex.go:88", after := #[{ on := 0, ground := Go.Ground.data }, { on := 1, ground := Go.Ground.data }, { on := 16, ground := Go.Ground.data }], guard := none }) rfl rfl (by kernel_rfl) (by rfl) (fun w' => by first | rfl | go_simp) (R := fun v w' => SC w0 w' s (i + N) (out ++ [⟨8, i, ((s.drop i).take N)⟩])) ((put_any w0 (World.drew wz) s i out 8 N ((s.drop i).take N) (HS.out.step hSp) (by omega) ho (by rw [List.length_take, List.length_drop]; omega)).mono fun e w' ⟨he, hs⟩ => ⟨_, he, hs⟩) ?_
        rintro _ w9 HS9
        refine ⟨trivial, ?_⟩
        simp only [Act.put, List.setIfInBounds_toArray, List.set_cons_zero, List.set_cons_succ]
        refine rg_done (by kernel_rfl) ?_
        go_wp2_with fail
        go_ret
        obtain rfl := HN.out
        exact ⟨rfl, HS9, hNb⟩
    · have hq : ¬ s[i + wh].toNat = 46 := fun e => hdot (UInt8.toNat_inj.1 e)
      replace HR := HR.out
      rw [if_neg (by rw [List.getElem?_eq_getElem hlI]; intro e; exact hdot (Option.some.inj e))] at HR
      replace HR := Lib.hid HR
      clear hdot
      go_wp2_with fail
      refine rg_begin (S := Sx wz) (by kernel_rfl) (Sx.begin _) ?_
      have hS : Sx wz (World.drew wz) := (Sx.begin _)
      refine rg_take 0 (some 13) (.pointer (some ⟨w0.heap.size, 0, none⟩)) (oi := { dst := some 13, op := Go.Op.move (Go.Operand.tmp 0), type := 66, pos := "qlex.go:78", after := #[], guard := none }) rfl rfl (by kernel_rfl) (by kernel_rfl) (by kernel_rfl) (fun _ _ _ h => h) hS (by rfl) (fun w' hs => by rfl) ?_
      simp only [Act.put, List.setIfInBounds_toArray, List.set_cons_zero, List.set_cons_succ]
      refine rg_take 1 (some 14) (.pointer (some ⟨w0.heap.size, 0, none⟩)) (oi := { dst := some 14, op := Go.Op.nilCheck (Go.Operand.tmp 13), type := 0, pos := "qlex.go:78", after := #[{ on := 0, ground := Go.Ground.data }], guard := none }) rfl rfl (by kernel_rfl) (by kernel_rfl) (by kernel_rfl) (fun _ _ _ h => h) hS (by rfl) (fun w' hs => by first | rfl | go_simp) ?_
      simp only [Act.put, List.setIfInBounds_toArray, List.set_cons_zero, List.set_cons_succ]
      refine rg_take 2 (some 15) (.pointer (some ⟨w0.heap.size, 1, none⟩)) (oi := { dst := some 15, op := Go.Op.fieldAddr 68 (Go.Operand.tmp 14) 1, type := 0, pos := "qlex.go:78", after := #[{ on := 1, ground := Go.Ground.data }], guard := none }) rfl rfl (by kernel_rfl) (by kernel_rfl) (by kernel_rfl) (fun _ _ _ h => h) hS (by rfl) (fun w' hs => by first | rfl | go_simp) ?_
      simp only [Act.put, List.setIfInBounds_toArray, List.set_cons_zero, List.set_cons_succ]
      refine rg_take 3 (some 16) (.int .i64 i) (oi := { dst := some 16, op := Go.Op.load 3 (Go.Operand.tmp 15), type := 3, pos := "qlex.go:78", after := #[{ on := 2, ground := Go.Ground.data }], guard := none }) rfl rfl (by kernel_rfl) (by kernel_rfl) (by kernel_rfl) (fun _ _ _ h => h) hS (by rfl) (fun w' hs => by (have h0 := hs.cell hlt c1; go_simp)) ?_
      simp only [Act.put, List.setIfInBounds_toArray, List.set_cons_zero, List.set_cons_succ]
      refine rg_take 4 (some 17) (.int .i64 wh) (oi := { dst := some 17, op := Go.Op.move (Go.Operand.tmp 4), type := 3, pos := "qlex.go:78", after := #[], guard := none }) rfl rfl (by kernel_rfl) (by kernel_rfl) (by kernel_rfl) (fun _ _ _ h => h) hS (by rfl) (fun w' hs => by rfl) ?_
      simp only [Act.put, List.setIfInBounds_toArray, List.set_cons_zero, List.set_cons_succ]
      refine rg_take 5 (some 18) (.int .i64 (i + wh : Nat)) (oi := { dst := some 18, op := Go.Op.binOp Go.BinOp.add 3 (Go.Operand.tmp 16) (Go.Operand.tmp 17) 3, type := 3, pos := "qlex.go:78", after := #[{ on := 3, ground := Go.Ground.data }, { on := 4, ground := Go.Ground.data }], guard := none }) rfl rfl (by kernel_rfl) (by kernel_rfl) (by kernel_rfl) (fun _ _ _ h => h) hS (by rfl) (fun w' hs => by exact exec_add (i := i) (j := wh) rfl rfl rfl (by omega) _) ?_
      simp only [Act.put, List.setIfInBounds_toArray, List.set_cons_zero, List.set_cons_succ]
      refine rg_take 6 (some 19) (.pointer (some ⟨w0.heap.size, 0, none⟩)) (oi := { dst := some 19, op := Go.Op.move (Go.Operand.tmp 0), type := 66, pos := "qlex.go:78", after := #[], guard := none }) rfl rfl (by kernel_rfl) (by kernel_rfl) (by kernel_rfl) (fun _ _ _ h => h) hS (by rfl) (fun w' hs => by rfl) ?_
      simp only [Act.put, List.setIfInBounds_toArray, List.set_cons_zero, List.set_cons_succ]
      refine rg_take 7 (some 20) (.pointer (some ⟨w0.heap.size, 0, none⟩)) (oi := { dst := some 20, op := Go.Op.nilCheck (Go.Operand.tmp 19), type := 0, pos := "qlex.go:78", after := #[{ on := 6, ground := Go.Ground.data }], guard := none }) rfl rfl (by kernel_rfl) (by kernel_rfl) (by kernel_rfl) (fun _ _ _ h => h) hS (by rfl) (fun w' hs => by first | rfl | go_simp) ?_
      simp only [Act.put, List.setIfInBounds_toArray, List.set_cons_zero, List.set_cons_succ]
      refine rg_take 8 (some 21) (.pointer (some ⟨w0.heap.size, 0, none⟩)) (oi := { dst := some 21, op := Go.Op.fieldAddr 68 (Go.Operand.tmp 20) 0, type := 0, pos := "qlex.go:78", after := #[{ on := 7, ground := Go.Ground.data }], guard := none }) rfl rfl (by kernel_rfl) (by kernel_rfl) (by kernel_rfl) (fun _ _ _ h => h) hS (by rfl) (fun w' hs => by first | rfl | go_simp) ?_
      simp only [Act.put, List.setIfInBounds_toArray, List.set_cons_zero, List.set_cons_succ]
      refine rg_take 9 (some 22) (.string (bs s)) (oi := { dst := some 22, op := Go.Op.load 9 (Go.Operand.tmp 21), type := 9, pos := "qlex.go:78", after := #[{ on := 8, ground := Go.Ground.data }], guard := none }) rfl rfl (by kernel_rfl) (by kernel_rfl) (by kernel_rfl) (fun _ _ _ h => h) hS (by rfl) (fun w' hs => by (have h0 := hs.cell hlt c0; go_simp)) ?_
      simp only [Act.put, List.setIfInBounds_toArray, List.set_cons_zero, List.set_cons_succ]
      refine rg_take 10 (some 23) (.int .i64 s.length) (oi := { dst := some 23, op := Go.Op.call { callee := Go.Callee.builtin Go.Builtin.len, args := #[Go.Operand.tmp 22], argTypes := #[9] }, type := 3, pos := "qlex.go:78", after := #[{ on := 9, ground := Go.Ground.data }], guard := none }) rfl rfl (by kernel_rfl) (by kernel_rfl) (by kernel_rfl) (fun _ _ _ h => h) hS (by rfl) (fun w' hs => by exact exec_slen rfl rfl _) ?_
      simp only [Act.put, List.setIfInBounds_toArray, List.set_cons_zero, List.set_cons_succ]
      refine rg_take 11 (some 24) (.bool true) (oi := { dst := some 24, op := Go.Op.binOp Go.BinOp.lss 3 (Go.Operand.tmp 18) (Go.Operand.tmp 23) 3, type := 4, pos := "qlex.go:78", after := #[{ on := 5, ground := Go.Ground.data }, { on := 10, ground := Go.Ground.data }], guard := none }) rfl rfl (by kernel_rfl) (by kernel_rfl) (by kernel_rfl) (fun _ _ _ h => h) hS (by rfl) (fun w' hs => by exact exec_lss (i := i + wh) (j := s.length) rfl rfl rfl (decide_eq_true (by omega)) _) ?_
      simp only [Act.put, List.setIfInBounds_toArray, List.set_cons_zero, List.set_cons_succ]
      refine rg_take 12 (some 25) (.bool true) (oi := { dst := some 25, op := Go.Op.move (Go.Operand.tmp 24), type := 4, pos := "qlex.go:78", after := #[{ on := 11, ground := Go.Ground.data }], guard := none }) rfl rfl (by kernel_rfl) (by kernel_rfl) (by kernel_rfl) (fun _ _ _ h => h) hS (by rfl) (fun w' hs => by rfl) ?_
      simp only [Act.put, List.setIfInBounds_toArray, List.set_cons_zero, List.set_cons_succ]
      refine rg_take 13 (some 26) (.pointer (some ⟨w0.heap.size, 0, none⟩)) (oi := { dst := some 26, op := Go.Op.move (Go.Operand.tmp 0), type := 66, pos := "qlex.go:78", after := #[{ on := 12, ground := Go.Ground.guard }], guard := some (12, true) }) rfl rfl (by kernel_rfl) (by kernel_rfl) (by kernel_rfl) (fun _ _ _ h => h) hS (by rfl) (fun w' hs => by rfl) ?_
      simp only [Act.put, List.setIfInBounds_toArray, List.set_cons_zero, List.set_cons_succ]
      refine rg_take 14 (some 27) (.pointer (some ⟨w0.heap.size, 0, none⟩)) (oi := { dst := some 27, op := Go.Op.nilCheck (Go.Operand.tmp 26), type := 0, pos := "qlex.go:78", after := #[{ on := 13, ground := Go.Ground.data }, { on := 12, ground := Go.Ground.guard }], guard := some (12, true) }) rfl rfl (by kernel_rfl) (by kernel_rfl) (by kernel_rfl) (fun _ _ _ h => h) hS (by rfl) (fun w' hs => by first | rfl | go_simp) ?_
      simp only [Act.put, List.setIfInBounds_toArray, List.set_cons_zero, List.set_cons_succ]
      refine rg_take 15 (some 28) (.pointer (some ⟨w0.heap.size, 0, none⟩)) (oi := { dst := some 28, op := Go.Op.fieldAddr 68 (Go.Operand.tmp 27) 0, type := 0, pos := "qlex.go:78", after := #[{ on := 14, ground := Go.Ground.data }, { on := 12, ground := Go.Ground.guard }], guard := some (12, true) }) rfl rfl (by kernel_rfl) (by kernel_rfl) (by kernel_rfl) (fun _ _ _ h => h) hS (by rfl) (fun w' hs => by first | rfl | go_simp) ?_
      simp only [Act.put, List.setIfInBounds_toArray, List.set_cons_zero, List.set_cons_succ]
      refine rg_take 16 (some 29) (.string (bs s)) (oi := { dst := some 29, op := Go.Op.load 9 (Go.Operand.tmp 28), type := 9, pos := "qlex.go:78", after := #[{ on := 15, ground := Go.Ground.data }, { on := 12, ground := Go.Ground.guard }], guard := some (12, true) }) rfl rfl (by kernel_rfl) (by kernel_rfl) (by kernel_rfl) (fun _ _ _ h => h) hS (by rfl) (fun w' hs => by (have h0 := hs.cell hlt c0; go_simp)) ?_
      simp only [Act.put, List.setIfInBounds_toArray, List.set_cons_zero, List.set_cons_succ]
      refine rg_take 17 (some 30) (.pointer (some ⟨w0.heap.size, 0, none⟩)) (oi := { dst := some 30, op := Go.Op.move (Go.Operand.tmp 0), type := 66, pos := "qlex.go:78", after := #[{ on := 12, ground := Go.Ground.guard }], guard := some (12, true) }) rfl rfl (by kernel_rfl) (by kernel_rfl) (by kernel_rfl) (fun _ _ _ h => h) hS (by rfl) (fun w' hs => by rfl) ?_
      simp only [Act.put, List.setIfInBounds_toArray, List.set_cons_zero, List.set_cons_succ]
      refine rg_take 18 (some 31) (.pointer (some ⟨w0.heap.size, 0, none⟩)) (oi := { dst := some 31, op := Go.Op.nilCheck (Go.Operand.tmp 30), type := 0, pos := "qlex.go:78", after := #[{ on := 17, ground := Go.Ground.data }, { on := 12, ground := Go.Ground.guard }], guard := some (12, true) }) rfl rfl (by kernel_rfl) (by kernel_rfl) (by kernel_rfl) (fun _ _ _ h => h) hS (by rfl) (fun w' hs => by first | rfl | go_simp) ?_
      simp only [Act.put, List.setIfInBounds_toArray, List.set_cons_zero, List.set_cons_succ]
      refine rg_take 19 (some 32) (.pointer (some ⟨w0.heap.size, 1, none⟩)) (oi := { dst := some 32, op := Go.Op.fieldAddr 68 (Go.Operand.tmp 31) 1, type := 0, pos := "qlex.go:78", after := #[{ on := 18, ground := Go.Ground.data }, { on := 12, ground := Go.Ground.guard }], guard := some (12, true) }) rfl rfl (by kernel_rfl) (by kernel_rfl) (by kernel_rfl) (fun _ _ _ h => h) hS (by rfl) (fun w' hs => by first | rfl | go_simp) ?_
      simp only [Act.put, List.setIfInBounds_toArray, List.set_cons_zero, List.set_cons_succ]
      refine rg_take 20 (some 33) (.int .i64 i) (oi := { dst := some 33, op := Go.Op.load 3 (Go.Operand.tmp 32), type := 3, pos := "qlex.go:78", after := #[{ on := 19, ground := Go.Ground.data }, { on := 12, ground := Go.Ground.guard }], guard := some (12, true) }) rfl rfl (by kernel_rfl) (by kernel_rfl) (by kernel_rfl) (fun _ _ _ h => h) hS (by rfl) (fun w' hs => by (have h0 := hs.cell hlt c1; go_simp)) ?_
      simp only [Act.put, List.setIfInBounds_toArray, List.set_cons_zero, List.set_cons_succ]
      refine rg_take 21 (some 34) (.int .i64 wh) (oi := { dst := some 34, op := Go.Op.move (Go.Operand.tmp 4), type := 3, pos := "qlex.go:78", after := #[{ on := 12, ground := Go.Ground.guard }], guard := some (12, true) }) rfl rfl (by kernel_rfl) (by kernel_rfl) (by kernel_rfl) (fun _ _ _ h => h) hS (by rfl) (fun w' hs => by rfl) ?_
      simp only [Act.put, List.setIfInBounds_toArray, List.set_cons_zero, List.set_cons_succ]
      refine rg_take 22 (some 35) (.int .i64 (i + wh : Nat)) (oi := { dst := some 35, op := Go.Op.binOp Go.BinOp.add 3 (Go.Operand.tmp 33) (Go.Operand.tmp 34) 3, type := 3, pos := "qlex.go:78", after := #[{ on := 20, ground := Go.Ground.data }, { on := 21, ground := Go.Ground.data }, { on := 12, ground := Go.Ground.guard }], guard := some (12, true) }) rfl rfl (by kernel_rfl) (by kernel_rfl) (by kernel_rfl) (fun _ _ _ h => h) hS (by rfl) (fun w' hs => by exact exec_add (i := i) (j := wh) rfl rfl rfl (by omega) _) ?_
      simp only [Act.put, List.setIfInBounds_toArray, List.set_cons_zero, List.set_cons_succ]
      refine rg_take 23 (some 36) (.int .u8 (s[i + wh].toNat : Nat)) (oi := { dst := some 36, op := Go.Op.index 9 (Go.Operand.tmp 29) (Go.Operand.tmp 35), type := 5, pos := "qlex.go:78", after := #[{ on := 16, ground := Go.Ground.data }, { on := 22, ground := Go.Ground.data }, { on := 12, ground := Go.Ground.guard }], guard := some (12, true) }) rfl rfl (by kernel_rfl) (by kernel_rfl) (by kernel_rfl) (fun _ _ _ h => h) hS (by rfl) (fun w' hs => by exact exec_sidx (i := i + wh) rfl rfl rfl (by omega) _) ?_
      simp only [Act.put, List.setIfInBounds_toArray, List.set_cons_zero, List.set_cons_succ]
      refine rg_take 24 (some 37) (.bool false) (oi := { dst := some 37, op := Go.Op.binOp Go.BinOp.eql 5 (Go.Operand.tmp 36) (Go.Operand.const (Go.Value.int Go.IntKind.u8 46)) 5, type := 4, pos := "qlex.go:78", after := #[{ on := 23, ground := Go.Ground.data }, { on := 12, ground := Go.Ground.guard }], guard := some (12, true) }) rfl rfl (by kernel_rfl) (by kernel_rfl) (by kernel_rfl) (fun _ _ _ h => h) hS (by rfl) (fun w' hs => by exact exec_eql (i := s[i + wh].toNat) (j := 46) rfl rfl rfl (decide_eq_false (by omega)) _) ?_
      simp only [Act.put, List.setIfInBounds_toArray, List.set_cons_zero, List.set_cons_succ]
      refine rg_take 25 (some 38) (.bool false) (oi := { dst := some 38, op := Go.Op.pick (Go.Operand.tmp 25) (Go.Operand.tmp 37) (Go.Operand.const (Go.Value.bool false)), type := 4, pos := "qlex.go:78", after := #[{ on := 12, ground := Go.Ground.data }, { on := 24, ground := Go.Ground.data }], guard := none }) rfl rfl (by kernel_rfl) (by kernel_rfl) (by kernel_rfl) (fun _ _ _ h => h) hS (by rfl) (fun w' hs => by rfl) ?_
      simp only [Act.put, List.setIfInBounds_toArray, List.set_cons_zero, List.set_cons_succ]
      refine rg_done (by kernel_rfl) ?_
      replace HS := Lib.hid (HS.out.step hS)
      obtain ⟨wy, hwy⟩ : ∃ wy, wy = World.drew wz := ⟨_, rfl⟩
      rw [← hwy] at HS ⊢
      clear c0 c1 hS hlt hwy hq
      clear wz
      obtain ⟨wz, hwz⟩ : ∃ wz, wz = wy := ⟨_, rfl⟩
      subst hwz
      have hlt := HS.out.lt
      have c0 := HS.out.c0; have c1 := HS.out.c1
      by_cases hz : wh = 0
      · obtain rfl : none = R := by rw [← HR.out, if_pos hz]
        subst hz
        clear HR
        go_wp2_with fail
        go_ret
        exact ⟨rfl, HS.out⟩
      · obtain rfl : some _ = R := by rw [← HR.out, if_neg hz]
        obtain ⟨N, hN⟩ : ∃ N, wh = N := ⟨_, rfl⟩
        have hNz : ((N : Int) == 0) = false := by rw [beq_eq_false_iff_ne]; omega
        have hNb : i + N ≤ s.length := by omega
        clear hz HR
        subst hN
        go_wp2_with fail
        refine rg_cut (S := Sx wz) 17 (by kernel_rfl) (by kernel_rfl) (by kernel_rfl) (by kernel_rfl) (Sx.begin _) ?_
        have hSp : Sx wz (World.drew wz) := (Sx.begin _)
        refine rg_take 0 (some 58) (.pointer (some ⟨w0.heap.size, 0, none⟩)) (oi := { dst := some 58, op := Go.Op.move (Go.Operand.tmp 0), type := 66, pos := "qlex.go:88", after := #[], guard := none }) rfl rfl (by kernel_rfl) (by kernel_rfl) (by kernel_rfl) (fun _ _ _ h => h) hSp (by rfl) (fun w' hs => by rfl) ?_
        simp only [Act.put, List.setIfInBounds_toArray, List.set_cons_zero, List.set_cons_succ]
        refine rg_take 1 (some 59) (.int .i64 wh) (oi := { dst := some 59, op := Go.Op.move (Go.Operand.tmp 4), type := 3, pos := "qlex.go:88", after := #[], guard := none }) rfl rfl (by kernel_rfl) (by kernel_rfl) (by kernel_rfl) (fun _ _ _ h => h) hSp (by rfl) (fun w' hs => by rfl) ?_
        simp only [Act.put, List.setIfInBounds_toArray, List.set_cons_zero, List.set_cons_succ]
        refine rg_take 2 (some 60) (.pointer (some ⟨w0.heap.size, 0, none⟩)) (oi := { dst := some 60, op := Go.Op.move (Go.Operand.tmp 0), type := 66, pos := "qlex.go:88", after := #[], guard := none }) rfl rfl (by kernel_rfl) (by kernel_rfl) (by kernel_rfl) (fun _ _ _ h => h) hSp (by rfl) (fun w' hs => by rfl) ?_
        simp only [Act.put, List.setIfInBounds_toArray, List.set_cons_zero, List.set_cons_succ]
        refine rg_take 3 (some 61) (.pointer (some ⟨w0.heap.size, 0, none⟩)) (oi := { dst := some 61, op := Go.Op.nilCheck (Go.Operand.tmp 60), type := 0, pos := "qlex.go:88", after := #[{ on := 2, ground := Go.Ground.data }], guard := none }) rfl rfl (by kernel_rfl) (by kernel_rfl) (by kernel_rfl) (fun _ _ _ h => h) hSp (by rfl) (fun w' hs => by first | rfl | go_simp) ?_
        simp only [Act.put, List.setIfInBounds_toArray, List.set_cons_zero, List.set_cons_succ]
        refine rg_take 4 (some 62) (.pointer (some ⟨w0.heap.size, 0, none⟩)) (oi := { dst := some 62, op := Go.Op.fieldAddr 68 (Go.Operand.tmp 61) 0, type := 0, pos := "qlex.go:88", after := #[{ on := 3, ground := Go.Ground.data }], guard := none }) rfl rfl (by kernel_rfl) (by kernel_rfl) (by kernel_rfl) (fun _ _ _ h => h) hSp (by rfl) (fun w' hs => by first | rfl | go_simp) ?_
        simp only [Act.put, List.setIfInBounds_toArray, List.set_cons_zero, List.set_cons_succ]
        refine rg_take 5 (some 63) (.string (bs s)) (oi := { dst := some 63, op := Go.Op.load 9 (Go.Operand.tmp 62), type := 9, pos := "qlex.go:88", after := #[{ on := 4, ground := Go.Ground.data }], guard := none }) rfl rfl (by kernel_rfl) (by kernel_rfl) (by kernel_rfl) (fun _ _ _ h => h) hSp (by rfl) (fun w' hs => by (have h0 := hs.cell hlt c0; go_simp)) ?_
        simp only [Act.put, List.setIfInBounds_toArray, List.set_cons_zero, List.set_cons_succ]
        refine rg_take 6 (some 64) (.pointer (some ⟨w0.heap.size, 0, none⟩)) (oi := { dst := some 64, op := Go.Op.move (Go.Operand.tmp 0), type := 66, pos := "qlex.go:88", after := #[], guard := none }) rfl rfl (by kernel_rfl) (by kernel_rfl) (by kernel_rfl) (fun _ _ _ h => h) hSp (by rfl) (fun w' hs => by rfl) ?_
        simp only [Act.put, List.setIfInBounds_toArray, List.set_cons_zero, List.set_cons_succ]
        refine rg_take 7 (some 65) (.pointer (some ⟨w0.heap.size, 0, none⟩)) (oi := { dst := some 65, op := Go.Op.nilCheck (Go.Operand.tmp 64), type := 0, pos := "qlex.go:88", after := #[{ on := 6, ground := Go.Ground.data }], guard := none }) rfl rfl (by kernel_rfl) (by kernel_rfl) (by kernel_rfl) (fun _ _ _ h => h) hSp (by rfl) (fun w' hs => by first | rfl | go_simp) ?_
        simp only [Act.put, List.setIfInBounds_toArray, List.set_cons_zero, List.set_cons_succ]
        refine rg_take 8 (some 66) (.pointer (some ⟨w0.heap.size, 1, none⟩)) (oi := { dst := some 66, op := Go.Op.fieldAddr 68 (Go.Operand.tmp 65) 1, type := 0, pos := "qlex.go:88", after := #[{ on := 7, ground := Go.Ground.data }], guard := none }) rfl rfl (by kernel_rfl) (by kernel_rfl) (by kernel_rfl) (fun _ _ _ h => h) hSp (by rfl) (fun w' hs => by first | rfl | go_simp) ?_
        simp only [Act.put, List.setIfInBounds_toArray, List.set_cons_zero, List.set_cons_succ]
        refine rg_take 9 (some 67) (.int .i64 i) (oi := { dst := some 67, op := Go.Op.load 3 (Go.Operand.tmp 66), type := 3, pos := "qlex.go:88", after := #[{ on := 8, ground := Go.Ground.data }], guard := none }) rfl rfl (by kernel_rfl) (by kernel_rfl) (by kernel_rfl) (fun _ _ _ h => h) hSp (by rfl) (fun w' hs => by (have h0 := hs.cell hlt c1; go_simp)) ?_
        simp only [Act.put, List.setIfInBounds_toArray, List.set_cons_zero, List.set_cons_succ]
        refine rg_take 10 (some 68) (.pointer (some ⟨w0.heap.size, 0, none⟩)) (oi := { dst := some 68, op := Go.Op.move (Go.Operand.tmp 0), type := 66, pos := "qlex.go:88", after := #[], guard := none }) rfl rfl (by kernel_rfl) (by kernel_rfl) (by kernel_rfl) (fun _ _ _ h => h) hSp (by rfl) (fun w' hs => by rfl) ?_
        simp only [Act.put, List.setIfInBounds_toArray, List.set_cons_zero, List.set_cons_succ]
        refine rg_take 11 (some 69) (.pointer (some ⟨w0.heap.size, 0, none⟩)) (oi := { dst := some 69, op := Go.Op.nilCheck (Go.Operand.tmp 68), type := 0, pos := "qlex.go:88", after := #[{ on := 10, ground := Go.Ground.data }], guard := none }) rfl rfl (by kernel_rfl) (by kernel_rfl) (by kernel_rfl) (fun _ _ _ h => h) hSp (by rfl) (fun w' hs => by first | rfl | go_simp) ?_
        simp only [Act.put, List.setIfInBounds_toArray, List.set_cons_zero, List.set_cons_succ]
        refine rg_take 12 (some 70) (.pointer (some ⟨w0.heap.size, 1, none⟩)) (oi := { dst := some 70, op := Go.Op.fieldAddr 68 (Go.Operand.tmp 69) 1, type := 0, pos := "qlex.go:88", after := #[{ on := 11, ground := Go.Ground.data }], guard := none }) rfl rfl (by kernel_rfl) (by kernel_rfl) (by kernel_rfl) (fun _ _ _ h => h) hSp (by rfl) (fun w' hs => by first | rfl | go_simp) ?_
        simp only [Act.put, List.setIfInBounds_toArray, List.set_cons_zero, List.set_cons_succ]
        refine rg_take 13 (some 71) (.int .i64 i) (oi := { dst := some 71, op := Go.Op.load 3 (Go.Operand.tmp 70), type := 3, pos := "qlex.go:88", after := #[{ on := 12, ground := Go.Ground.data }], guard := none }) rfl rfl (by kernel_rfl) (by kernel_rfl) (by kernel_rfl) (fun _ _ _ h => h) hSp (by rfl) (fun w' hs => by (have h0 := hs.cell hlt c1; go_simp)) ?_
        simp only [Act.put, List.setIfInBounds_toArray, List.set_cons_zero, List.set_cons_succ]
        refine rg_take 14 (some 72) (.int .i64 wh) (oi := { dst := some 72, op := Go.Op.move (Go.Operand.tmp 4), type := 3, pos := "qlex.go:88", after := #[], guard := none }) rfl rfl (by kernel_rfl) (by kernel_rfl) (by kernel_rfl) (fun _ _ _ h => h) hSp (by rfl) (fun w' hs => by rfl) ?_
        simp only [Act.put, List.setIfInBounds_toArray, List.set_cons_zero, List.set_cons_succ]
        refine rg_take 15 (some 73) (.int .i64 (i + wh : Nat)) (oi := { dst := some 73, op := Go.Op.binOp Go.BinOp.add 3 (Go.Operand.tmp 71) (Go.Operand.tmp 72) 3, type := 3, pos := "qlex.go:88", after := #[{ on := 13, ground := Go.Ground.data }, { on := 14, ground := Go.Ground.data }], guard := none }) rfl rfl (by kernel_rfl) (by kernel_rfl) (by kernel_rfl) (fun _ _ _ h => h) hSp (by rfl) (fun w' hs => by exact exec_add (i := i) (j := wh) rfl rfl rfl (by omega) _) ?_
        simp only [Act.put, List.setIfInBounds_toArray, List.set_cons_zero, List.set_cons_succ]
        refine rg_take 16 (some 74) (.string (bs ((s.drop i).take wh))) (oi := { dst := some 74, op := Go.Op.slice 9 (Go.Operand.tmp 63) (some (Go.Operand.tmp 67)) (some (Go.Operand.tmp 73)) none, type := 9, pos := "qlex.go:88", after := #[{ on := 5, ground := Go.Ground.data }, { on := 9, ground := Go.Ground.data }, { on := 15, ground := Go.Ground.data }], guard := none }) rfl rfl (by kernel_rfl) (by kernel_rfl) (by kernel_rfl) (fun _ _ _ h => h) hSp (by rfl) (fun w' hs => by exact exec_stake (i := i) (n := wh) rfl rfl rfl rfl (by omega) _) ?_
        simp only [Act.put, List.setIfInBounds_toArray, List.set_cons_zero, List.set_cons_succ]
        refine rg_done (by kernel_rfl) ?_
        refine rg_go 1 #[true, true, true, true, true, true, true, true, true, true, true, true, true, true, true, true, true, false] (by kernel_rfl) (by kernel_rfl) fun m => ?_
        refine rg_call 17 (some 75) 66 #[.pointer (some ⟨w0.heap.size, 0, none⟩), .int .i64 8, .int .i64 wh, .string (bs ((s.drop i).take wh))] (oi := { dst := some 75, op := Go.Op.call { callee := Go.Callee.value (Go.Operand.func 66), args := #[Go.Operand.tmp 58, Go.Operand.const (Go.Value.int Go.IntKind.i64 8), Go.Operand.tmp 59, Go.Operand.tmp 74], argTypes := #[66, 3, 3, 9] }, type := 0, pos := "qlex.go:88", after := #[{ on := 0, ground := Go.Ground.data }, { on := 1, ground := Go.Ground.data }, { on := 16, ground := Go.Ground.data }], guard := none }) rfl rfl (by kernel_rfl) (by rfl) (fun w' => by first | rfl | go_simp) (R := fun v w' => SC w0 w' s (i + wh) (out ++ [⟨8, i, ((s.drop i).take wh)⟩])) ((put_any w0 (World.drew wz) s i out 8 wh ((s.drop i).take wh) (HS.out.step hSp) (by omega) ho (by rw [List.length_take, List.length_drop]; omega)).mono fun e w' ⟨he, hs⟩ => ⟨_, he, hs⟩) ?_
        rintro _ w9 HS9
        refine ⟨trivial, ?_⟩
        simp only [Act.put, List.setIfInBounds_toArray, List.set_cons_zero, List.set_cons_succ]
        refine rg_done (by kernel_rfl) ?_
        go_wp2_with fail
        go_ret
        exact ⟨rfl, HS9, hNb⟩
  · replace HR := HR.out
    rw [if_neg (by rw [List.getElem?_eq_none (by omega)]; intro e; cases e)] at HR
    replace HR := Lib.hid HR
    go_wp2_with fail
    refine rg_begin (S := Sx wz) (by kernel_rfl) (Sx.begin _) ?_
    have hS : Sx wz (World.drew wz) := (Sx.begin _)
    refine rg_take 0 (some 13) (.pointer (some ⟨w0.heap.size, 0, none⟩)) (oi := { dst := some 13, op := Go.Op.move (Go.Operand.tmp 0), type := 66, pos := "qlex.go:78", after := #[], guard := none }) rfl rfl (by kernel_rfl) (by kernel_rfl) (by kernel_rfl) (fun _ _ _ h => h) hS (by rfl) (fun w' hs => by rfl) ?_
    simp only [Act.put, List.setIfInBounds_toArray, List.set_cons_zero, List.set_cons_succ]
    refine rg_take 1 (some 14) (.pointer (some ⟨w0.heap.size, 0, none⟩)) (oi := { dst := some 14, op := Go.Op.nilCheck (Go.Operand.tmp 13), type := 0, pos := "qlex.go:78", after := #[{ on := 0, ground := Go.Ground.data }], guard := none }) rfl rfl (by kernel_rfl) (by kernel_rfl) (by kernel_rfl) (fun _ _ _ h => h) hS (by rfl) (fun w' hs => by first | rfl | go_simp) ?_
    simp only [Act.put, List.setIfInBounds_toArray, List.set_cons_zero, List.set_cons_succ]
    refine rg_take 2 (some 15) (.pointer (some ⟨w0.heap.size, 1, none⟩)) (oi := { dst := some 15, op := Go.Op.fieldAddr 68 (Go.Operand.tmp 14) 1, type := 0, pos := "qlex.go:78", after := #[{ on := 1, ground := Go.Ground.data }], guard := none }) rfl rfl (by kernel_rfl) (by kernel_rfl) (by kernel_rfl) (fun _ _ _ h => h) hS (by rfl) (fun w' hs => by first | rfl | go_simp) ?_
    simp only [Act.put, List.setIfInBounds_toArray, List.set_cons_zero, List.set_cons_succ]
    refine rg_take 3 (some 16) (.int .i64 i) (oi := { dst := some 16, op := Go.Op.load 3 (Go.Operand.tmp 15), type := 3, pos := "qlex.go:78", after := #[{ on := 2, ground := Go.Ground.data }], guard := none }) rfl rfl (by kernel_rfl) (by kernel_rfl) (by kernel_rfl) (fun _ _ _ h => h) hS (by rfl) (fun w' hs => by (have h0 := hs.cell hlt c1; go_simp)) ?_
    simp only [Act.put, List.setIfInBounds_toArray, List.set_cons_zero, List.set_cons_succ]
    refine rg_take 4 (some 17) (.int .i64 wh) (oi := { dst := some 17, op := Go.Op.move (Go.Operand.tmp 4), type := 3, pos := "qlex.go:78", after := #[], guard := none }) rfl rfl (by kernel_rfl) (by kernel_rfl) (by kernel_rfl) (fun _ _ _ h => h) hS (by rfl) (fun w' hs => by rfl) ?_
    simp only [Act.put, List.setIfInBounds_toArray, List.set_cons_zero, List.set_cons_succ]
    refine rg_take 5 (some 18) (.int .i64 (i + wh : Nat)) (oi := { dst := some 18, op := Go.Op.binOp Go.BinOp.add 3 (Go.Operand.tmp 16) (Go.Operand.tmp 17) 3, type := 3, pos := "qlex.go:78", after := #[{ on := 3, ground := Go.Ground.data }, { on := 4, ground := Go.Ground.data }], guard := none }) rfl rfl (by kernel_rfl) (by kernel_rfl) (by kernel_rfl) (fun _ _ _ h => h) hS (by rfl) (fun w' hs => by exact exec_add (i := i) (j := wh) rfl rfl rfl (by omega) _) ?_
    simp only [Act.put, List.setIfInBounds_toArray, List.set_cons_zero, List.set_cons_succ]
    refine rg_take 6 (some 19) (.pointer (some ⟨w0.heap.size, 0, none⟩)) (oi := { dst := some 19, op := Go.Op.move (Go.Operand.tmp 0), type := 66, pos := "qlex.go:78", after := #[], guard := none }) rfl rfl (by kernel_rfl) (by kernel_rfl) (by kernel_rfl) (fun _ _ _ h => h) hS (by rfl) (fun w' hs => by rfl) ?_
    simp only [Act.put, List.setIfInBounds_toArray, List.set_cons_zero, List.set_cons_succ]
    refine rg_take 7 (some 20) (.pointer (some ⟨w0.heap.size, 0, none⟩)) (oi := { dst := some 20, op := Go.Op.nilCheck (Go.Operand.tmp 19), type := 0, pos := "qlex.go:78", after := #[{ on := 6, ground := Go.Ground.data }], guard := none }) rfl rfl (by kernel_rfl) (by kernel_rfl) (by kernel_rfl) (fun _ _ _ h => h) hS (by rfl) (fun w' hs => by first | rfl | go_simp) ?_
    simp only [Act.put, List.setIfInBounds_toArray, List.set_cons_zero, List.set_cons_succ]
    refine rg_take 8 (some 21) (.pointer (some ⟨w0.heap.size, 0, none⟩)) (oi := { dst := some 21, op := Go.Op.fieldAddr 68 (Go.Operand.tmp 20) 0, type := 0, pos := "qlex.go:78", after := #[{ on := 7, ground := Go.Ground.data }], guard := none }) rfl rfl (by kernel_rfl) (by kernel_rfl) (by kernel_rfl) (fun _ _ _ h => h) hS (by rfl) (fun w' hs => by first | rfl | go_simp) ?_
    simp only [Act.put, List.setIfInBounds_toArray, List.set_cons_zero, List.set_cons_succ]
    refine rg_take 9 (some 22) (.string (bs s)) (oi := { dst := some 22, op := Go.Op.load 9 (Go.Operand.tmp 21), type := 9, pos := "qlex.go:78", after := #[{ on := 8, ground := Go.Ground.data }], guard := none }) rfl rfl (by kernel_rfl) (by kernel_rfl) (by kernel_rfl) (fun _ _ _ h => h) hS (by rfl) (fun w' hs => by (have h0 := hs.cell hlt c0; go_simp)) ?_
    simp only [Act.put, List.setIfInBounds_toArray, List.set_cons_zero, List.set_cons_succ]
    refine rg_take 10 (some 23) (.int .i64 s.length) (oi := { dst := some 23, op := Go.Op.call { callee := Go.Callee.builtin Go.Builtin.len, args := #[Go.Operand.tmp 22], argTypes := #[9] }, type := 3, pos := "qlex.go:78", after := #[{ on := 9, ground := Go.Ground.data }], guard := none }) rfl rfl (by kernel_rfl) (by kernel_rfl) (by kernel_rfl) (fun _ _ _ h => h) hS (by rfl) (fun w' hs => by exact exec_slen rfl rfl _) ?_
    simp only [Act.put, List.setIfInBounds_toArray, List.set_cons_zero, List.set_cons_succ]
    refine rg_take 11 (some 24) (.bool false) (oi := { dst := some 24, op := Go.Op.binOp Go.BinOp.lss 3 (Go.Operand.tmp 18) (Go.Operand.tmp 23) 3, type := 4, pos := "qlex.go:78", after := #[{ on := 5, ground := Go.Ground.data }, { on := 10, ground := Go.Ground.data }], guard := none }) rfl rfl (by kernel_rfl) (by kernel_rfl) (by kernel_rfl) (fun _ _ _ h => h) hS (by rfl) (fun w' hs => by exact exec_lss (i := i + wh) (j := s.length) rfl rfl rfl (decide_eq_false (by omega)) _) ?_
    simp only [Act.put, List.setIfInBounds_toArray, List.set_cons_zero, List.set_cons_succ]
    refine rg_take 12 (some 25) (.bool false) (oi := { dst := some 25, op := Go.Op.move (Go.Operand.tmp 24), type := 4, pos := "qlex.go:78", after := #[{ on := 11, ground := Go.Ground.data }], guard := none }) rfl rfl (by kernel_rfl) (by kernel_rfl) (by kernel_rfl) (fun _ _ _ h => h) hS (by rfl) (fun w' hs => by rfl) ?_
    simp only [Act.put, List.setIfInBounds_toArray, List.set_cons_zero, List.set_cons_succ]
    refine rg_skip 13 (some 26) (oi := { dst := some 26, op := Go.Op.move (Go.Operand.tmp 0), type := 66, pos := "qlex.go:78", after := #[{ on := 12, ground := Go.Ground.guard }], guard := some (12, true) }) rfl rfl (by kernel_rfl) (by kernel_rfl) (by kernel_rfl) (fun _ _ _ h => h) hS (by rfl) ?_
    simp only [Act.put, List.setIfInBounds_toArray, List.set_cons_zero, List.set_cons_succ]
    refine rg_skip 14 (some 27) (oi := { dst := some 27, op := Go.Op.nilCheck (Go.Operand.tmp 26), type := 0, pos := "qlex.go:78", after := #[{ on := 13, ground := Go.Ground.data }, { on := 12, ground := Go.Ground.guard }], guard := some (12, true) }) rfl rfl (by kernel_rfl) (by kernel_rfl) (by kernel_rfl) (fun _ _ _ h => h) hS (by rfl) ?_
    simp only [Act.put, List.setIfInBounds_toArray, List.set_cons_zero, List.set_cons_succ]
    refine rg_skip 15 (some 28) (oi := { dst := some 28, op := Go.Op.fieldAddr 68 (Go.Operand.tmp 27) 0, type := 0, pos := "qlex.go:78", after := #[{ on := 14, ground := Go.Ground.data }, { on := 12, ground := Go.Ground.guard }], guard := some (12, true) }) rfl rfl (by kernel_rfl) (by kernel_rfl) (by kernel_rfl) (fun _ _ _ h => h) hS (by rfl) ?_
    simp only [Act.put, List.setIfInBounds_toArray, List.set_cons_zero, List.set_cons_succ]
    refine rg_skip 16 (some 29) (oi := { dst := some 29, op := Go.Op.load 9 (Go.Operand.tmp 28), type := 9, pos := "qlex.go:78", after := #[{ on := 15, ground := Go.Ground.data }, { on := 12, ground := Go.Ground.guard }], guard := some (12, true) }) rfl rfl (by kernel_rfl) (by kernel_rfl) (by kernel_rfl) (fun _ _ _ h => h) hS (by rfl) ?_
    simp only [Act.put, List.setIfInBounds_toArray, List.set_cons_zero, List.set_cons_succ]
    refine rg_skip 17 (some 30) (oi := { dst := some 30, op := Go.Op.move (Go.Operand.tmp 0), type := 66, pos := "qlex.go:78", after := #[{ on := 12, ground := Go.Ground.guard }], guard := some (12, true) }) rfl rfl (by kernel_rfl) (by kernel_rfl) (by kernel_rfl) (fun _ _ _ h => h) hS (by rfl) ?_
    simp only [Act.put, List.setIfInBounds_toArray, List.set_cons_zero, List.set_cons_succ]
    refine rg_skip 18 (some 31) (oi := { dst := some 31, op := Go.Op.nilCheck (Go.Operand.tmp 30), type := 0, pos := "qlex.go:78", after := #[{ on := 17, ground := Go.Ground.data }, { on := 12, ground := Go.Ground.guard }], guard := some (12, true) }) rfl rfl (by kernel_rfl) (by kernel_rfl) (by kernel_rfl) (fun _ _ _ h => h) hS (by rfl) ?_
    simp only [Act.put, List.setIfInBounds_toArray, List.set_cons_zero, List.set_cons_succ]
    refine rg_skip 19 (some 32) (oi := { dst := some 32, op := Go.Op.fieldAddr 68 (Go.Operand.tmp 31) 1, type := 0, pos := "qlex.go:78", after := #[{ on := 18, ground := Go.Ground.data }, { on := 12, ground := Go.Ground.guard }], guard := some (12, true) }) rfl rfl (by kernel_rfl) (by kernel_rfl) (by kernel_rfl) (fun _ _ _ h => h) hS (by rfl) ?_
    simp only [Act.put, List.setIfInBounds_toArray, List.set_cons_zero, List.set_cons_succ]
    refine rg_skip 20 (some 33) (oi := { dst := some 33, op := Go.Op.load 3 (Go.Operand.tmp 32), type := 3, pos := "qlex.go:78", after := #[{ on := 19, ground := Go.Ground.data }, { on := 12, ground := Go.Ground.guard }], guard := some (12, true) }) rfl rfl (by kernel_rfl) (by kernel_rfl) (by kernel_rfl) (fun _ _ _ h => h) hS (by rfl) ?_
    simp only [Act.put, List.setIfInBounds_toArray, List.set_cons_zero, List.set_cons_succ]
    refine rg_skip 21 (some 34) (oi := { dst := some 34, op := Go.Op.move (Go.Operand.tmp 4), type := 3, pos := "qlex.go:78", after := #[{ on := 12, ground := Go.Ground.guard }], guard := some (12, true) }) rfl rfl (by kernel_rfl) (by kernel_rfl) (by kernel_rfl) (fun _ _ _ h => h) hS (by rfl) ?_
    simp only [Act.put, List.setIfInBounds_toArray, List.set_cons_zero, List.set_cons_succ]
    refine rg_skip 22 (some 35) (oi := { dst := some 35, op := Go.Op.binOp Go.BinOp.add 3 (Go.Operand.tmp 33) (Go.Operand.tmp 34) 3, type := 3, pos := "qlex.go:78", after := #[{ on := 20, ground := Go.Ground.data }, { on := 21, ground := Go.Ground.data }, { on := 12, ground := Go.Ground.guard }], guard := some (12, true) }) rfl rfl (by kernel_rfl) (by kernel_rfl) (by kernel_rfl) (fun _ _ _ h => h) hS (by rfl) ?_
    simp only [Act.put, List.setIfInBounds_toArray, List.set_cons_zero, List.set_cons_succ]
    refine rg_skip 23 (some 36) (oi := { dst := some 36, op := Go.Op.index 9 (Go.Operand.tmp 29) (Go.Operand.tmp 35), type := 5, pos := "qlex.go:78", after := #[{ on := 16, ground := Go.Ground.data }, { on := 22, ground := Go.Ground.data }, { on := 12, ground := Go.Ground.guard }], guard := some (12, true) }) rfl rfl (by kernel_rfl) (by kernel_rfl) (by kernel_rfl) (fun _ _ _ h => h) hS (by rfl) ?_
    simp only [Act.put, List.setIfInBounds_toArray, List.set_cons_zero, List.set_cons_succ]
    refine rg_skip 24 (some 37) (oi := { dst := some 37, op := Go.Op.binOp Go.BinOp.eql 5 (Go.Operand.tmp 36) (Go.Operand.const (Go.Value.int Go.IntKind.u8 46)) 5, type := 4, pos := "qlex.go:78", after := #[{ on := 23, ground := Go.Ground.data }, { on := 12, ground := Go.Ground.guard }], guard := some (12, true) }) rfl rfl (by kernel_rfl) (by kernel_rfl) (by kernel_rfl) (fun _ _ _ h => h) hS (by rfl) ?_
    simp only [Act.put, List.setIfInBounds_toArray, List.set_cons_zero, List.set_cons_succ]
    refine rg_take 25 (some 38) (.bool false) (oi := { dst := some 38, op := Go.Op.pick (Go.Operand.tmp 25) (Go.Operand.tmp 37) (Go.Operand.const (Go.Value.bool false)), type := 4, pos := "qlex.go:78", after := #[{ on := 12, ground := Go.Ground.data }, { on := 24, ground := Go.Ground.data }], guard := none }) rfl rfl (by kernel_rfl) (by kernel_rfl) (by kernel_rfl) (fun _ _ _ h => h) hS (by rfl) (fun w' hs => by rfl) ?_
    simp only [Act.put, List.setIfInBounds_toArray, List.set_cons_zero, List.set_cons_succ]
    refine rg_done (by kernel_rfl) ?_
    replace HS := Lib.hid (HS.out.step hS)
    obtain ⟨wy, hwy⟩ : ∃ wy, wy = World.drew wz := ⟨_, rfl⟩
    rw [← hwy] at HS ⊢
    clear c0 c1 hS hlt hwy
    clear wz
    obtain ⟨wz, hwz⟩ : ∃ wz, wz = wy := ⟨_, rfl⟩
    subst hwz
    have hlt := HS.out.lt
    have c0 := HS.out.c0; have c1 := HS.out.c1
    by_cases hz : wh = 0
    · obtain rfl : none = R := by rw [← HR.out, if_pos hz]
      subst hz
      clear HR
      go_wp2_with fail
      go_ret
      exact ⟨rfl, HS.out⟩
    · obtain rfl : some _ = R := by rw [← HR.out, if_neg hz]
      obtain ⟨N, hN⟩ : ∃ N, wh = N := ⟨_, rfl⟩
      have hNz : ((N : Int) == 0) = false := by rw [beq_eq_false_iff_ne]; omega
      have hNb : i + N ≤ s.length := by omega
      clear hz HR
      subst hN
      go_wp2_with fail
      refine rg_cut (S := Sx wz) 17 (by kernel_rfl) (by kernel_rfl) (by kernel_rfl) (by kernel_rfl) (Sx.begin _) ?_
      have hSp : Sx wz (World.drew wz) := (Sx.begin _)
      refine rg_take 0 (some 58) (.pointer (some ⟨w0.heap.size, 0, none⟩)) (oi := { dst := some 58, op := Go.Op.move (Go.Operand.tmp 0), type := 66, pos := "qlex.go:88", after := #[], guard := none }) rfl rfl (by kernel_rfl) (by kernel_rfl) (by kernel_rfl) (fun _ _ _ h => h) hSp (by rfl) (fun w' hs => by rfl) ?_
      simp only [Act.put, List.setIfInBounds_toArray, List.set_cons_zero, List.set_cons_succ]
      refine rg_take 1 (some 59) (.int .i64 wh) (oi := { dst := some 59, op := Go.Op.move (Go.Operand.tmp 4), type := 3, pos := "qlex.go:88", after := #[], guard := none }) rfl rfl (by kernel_rfl) (by kernel_rfl) (by kernel_rfl) (fun _ _ _ h => h) hSp (by rfl) (fun w' hs => by rfl) ?_
      simp only [Act.put, List.setIfInBounds_toArray, List.set_cons_zero, List.set_cons_succ]
      refine rg_take 2 (some 60) (.pointer (some ⟨w0.heap.size, 0, none⟩)) (oi := { dst := some 60, op := Go.Op.move (Go.Operand.tmp 0), type := 66, pos := "qlex.go:88", after := #[], guard := none }) rfl rfl (by kernel_rfl) (by kernel_rfl) (by kernel_rfl) (fun _ _ _ h => h) hSp (by rfl) (fun w' hs => by rfl) ?_
      simp only [Act.put, List.setIfInBounds_toArray, List.set_cons_zero, List.set_cons_succ]
      refine rg_take 3 (some 61) (.pointer (some ⟨w0.heap.size, 0, none⟩)) (oi := { dst := some 61, op := Go.Op.nilCheck (Go.Operand.tmp 60), type := 0, pos := "qlex.go:88", after := #[{ on := 2, ground := Go.Ground.data }], guard := none }) rfl rfl (by kernel_rfl) (by kernel_rfl) (by kernel_rfl) (fun _ _ _ h => h) hSp (by rfl) (fun w' hs => by first | rfl | go_simp) ?_
      simp only [Act.put, List.setIfInBounds_toArray, List.set_cons_zero, List.set_cons_succ]
      refine rg_take 4 (some 62) (.pointer (some ⟨w0.heap.size, 0, none⟩)) (oi := { dst := some 62, op := Go.Op.fieldAddr 68 (Go.Operand.tmp 61) 0, type := 0, pos := "qlex.go:88", after := #[{ on := 3, ground := Go.Ground.data }], guard := none }) rfl rfl (by kernel_rfl) (by kernel_rfl) (by kernel_rfl) (fun _ _ _ h => h) hSp (by rfl) (fun w' hs => by first | rfl | go_simp) ?_
      simp only [Act.put, List.setIfInBounds_toArray, List.set_cons_zero, List.set_cons_succ]
      refine rg_take 5 (some 63) (.string (bs s)) (oi := { dst := some 63, op := Go.Op.load 9 (Go.Operand.tmp 62), type := 9, pos := "qlex.go:88", after := #[{ on := 4, ground := Go.Ground.data }], guard := none }) rfl rfl (by kernel_rfl) (by kernel_rfl) (by kernel_rfl) (fun _ _ _ h => h) hSp (by rfl) (fun w' hs => by (have h0 := hs.cell hlt c0; go_simp)) ?_
      simp only [Act.put, List.setIfInBounds_toArray, List.set_cons_zero, List.set_cons_succ]
      refine rg_take 6 (some 64) (.pointer (some ⟨w0.heap.size, 0, none⟩)) (oi := { dst := some 64, op := Go.Op.move (Go.Operand.tmp 0), type := 66, pos := "qlex.go:88", after := #[], guard := none }) rfl rfl (by kernel_rfl) (by kernel_rfl) (by kernel_rfl) (fun _ _ _ h => h) hSp (by rfl) (fun w' hs => by rfl) ?_
      simp only [Act.put, List.setIfInBounds_toArray, List.set_cons_zero, List.set_cons_succ]
      refine rg_take 7 (some 65) (.pointer (some ⟨w0.heap.size, 0, none⟩)) (oi := { dst := some 65, op := Go.Op.nilCheck (Go.Operand.tmp 64), type := 0, pos := "qlex.go:88", after := #[{ on := 6, ground := Go.Ground.data }], guard := none }) rfl rfl (by kernel_rfl) (by kernel_rfl) (by kernel_rfl) (fun _ _ _ h => h) hSp (by rfl) (fun w' hs => by first | rfl | go_simp) ?_
      simp only [Act.put, List.setIfInBounds_toArray, List.set_cons_zero, List.set_cons_succ]
      refine rg_take 8 (some 66) (.pointer (some ⟨w0.heap.size, 1, none⟩)) (oi := { dst := some 66, op := Go.Op.fieldAddr 68 (Go.Operand.tmp 65) 1, type := 0, pos := "qlex.go:88", after := #[{ on := 7, ground := Go.Ground.data }], guard := none }) rfl rfl (by kernel_rfl) (by kernel_rfl) (by kernel_rfl) (fun _ _ _ h => h) hSp (by rfl) (fun w' hs => by first | rfl | go_simp) ?_
      simp only [Act.put, List.setIfInBounds_toArray, List.set_cons_zero, List.set_cons_succ]
      refine rg_take 9 (some 67) (.int .i64 i) (oi := { dst := some 67, op := Go.Op.load 3 (Go.Operand.tmp 66), type := 3, pos := "qlex.go:88", after := #[{ on := 8, ground := Go.Ground.data }], guard := none }) rfl rfl (by kernel_rfl) (by kernel_rfl) (by kernel_rfl) (fun _ _ _ h => h) hSp (by rfl) (fun w' hs => by (have h0 := hs.cell hlt c1; go_simp)) ?_
      simp only [Act.put, List.setIfInBounds_toArray, List.set_cons_zero, List.set_cons_succ]
      refine rg_take 10 (some 68) (.pointer (some ⟨w0.heap.size, 0, none⟩)) (oi := { dst := some 68, op := Go.Op.move (Go.Operand.tmp 0), type := 66, pos := "qlex.go:88", after := #[], guard := none }) rfl rfl (by kernel_rfl) (by kernel_rfl) (by kernel_rfl) (fun _ _ _ h => h) hSp (by rfl) (fun w' hs => by rfl) ?_
      simp only [Act.put, List.setIfInBounds_toArray, List.set_cons_zero, List.set_cons_succ]
      refine rg_take 11 (some 69) (.pointer (some ⟨w0.heap.size, 0, none⟩)) (oi := { dst := some 69, op := Go.Op.nilCheck (Go.Operand.tmp 68), type := 0, pos := "qlex.go:88", after := #[{ on := 10, ground := Go.Ground.data }], guard := none }) rfl rfl (by kernel_rfl) (by kernel_rfl) (by kernel_rfl) (fun _ _ _ h => h) hSp (by rfl) (fun w' hs => by first | rfl | go_simp) ?_
      simp only [Act.put, List.setIfInBounds_toArray, List.set_cons_zero, List.set_cons_succ]
      refine rg_take 12 (some 70) (.pointer (some ⟨w0.heap.size, 1, none⟩)) (oi := { dst := some 70, op := Go.Op.fieldAddr 68 (Go.Operand.tmp 69) 1, type := 0, pos := "qlex.go:88", after := #[{ on := 11, ground := Go.Ground.data }], guard := none }) rfl rfl (by kernel_rfl) (by kernel_rfl) (by kernel_rfl) (fun _ _ _ h => h) hSp (by rfl) (fun w' hs => by first | rfl | go_simp) ?_
      simp only [Act.put, List.setIfInBounds_toArray, List.set_cons_zero, List.set_cons_succ]
      refine rg_take 13 (some 71) (.int .i64 i) (oi := { dst := some 71, op := Go.Op.load 3 (Go.Operand.tmp 70), type := 3, pos := "qlex.go:88", after := #[{ on := 12, ground := Go.Ground.data }], guard := none }) rfl rfl (by kernel_rfl) (by kernel_rfl) (by kernel_rfl) (fun _ _ _ h => h) hSp (by rfl) (fun w' hs => by (have h0 := hs.cell hlt c1; go_simp)) ?_
      simp only [Act.put, List.setIfInBounds_toArray, List.set_cons_zero, List.set_cons_succ]
      refine rg_take 14 (some 72) (.int .i64 wh) (oi := { dst := some 72, op := Go.Op.move (Go.Operand.tmp 4), type := 3, pos := "qlex.go:88", after := #[], guard := none }) rfl rfl (by kernel_rfl) (by kernel_rfl) (by kernel_rfl) (fun _ _ _ h => h) hSp (by rfl) (fun w' hs => by rfl) ?_
      simp only [Act.put, List.setIfInBounds_toArray, List.set_cons_zero, List.set_cons_succ]
      refine rg_take 15 (some 73) (.int .i64 (i + wh : Nat)) (oi := { dst := some 73, op := Go.Op.binOp Go.BinOp.add 3 (Go.Operand.tmp 71) (Go.Operand.tmp 72) 3, type := 3, pos := "qlex.go:88", after := #[{ on := 13, ground := Go.Ground.data }, { on := 14, ground := Go.Ground.data }], guard := none }) rfl rfl (by kernel_rfl) (by kernel_rfl) (by kernel_rfl) (fun _ _ _ h => h) hSp (by rfl) (fun w' hs => by exact exec_add (i := i) (j := wh) rfl rfl rfl (by omega) _) ?_
      simp only [Act.put, List.setIfInBounds_toArray, List.set_cons_zero, List.set_cons_succ]
      refine rg_take 16 (some 74) (.string (bs ((s.drop i).take wh))) (oi := { dst := some 74, op := Go.Op.slice 9 (Go.Operand.tmp 63) (some (Go.Operand.tmp 67)) (some (Go.Operand.tmp 73)) none, type := 9, pos := "qlex.go:88", after := #[{ on := 5, ground := Go.Ground.data }, { on := 9, ground := Go.Ground.data }, { on := 15, ground := Go.Ground.data }], guard := none }) rfl rfl (by kernel_rfl) (by kernel_rfl) (by kernel_rfl) (fun _ _ _ h => h) hSp (by rfl) (fun w' hs => by exact exec_stake (i := i) (n := wh) rfl rfl rfl rfl (by omega) _) ?_
      simp only [Act.put, List.setIfInBounds_toArray, List.set_cons_zero, List.set_cons_succ]
      refine rg_done (by kernel_rfl) ?_
      refine rg_go 1 #[true, true, true, true, true, true, true, true, true, true, true, true, true, true, true, true, true, false] (by kernel_rfl) (by kernel_rfl) fun m => ?_
      refine rg_call 17 (some 75) 66 #[.pointer (some ⟨w0.heap.size, 0, none⟩), .int .i64 8, .int .i64 wh, .string (bs ((s.drop i).take wh))] (oi := { dst := some 75, op := Go.Op.call { callee := Go.Callee.value (Go.Operand.func 66), args := #[Go.Operand.tmp 58, Go.Operand.const (Go.Value.int Go.IntKind.i64 8), Go.Operand.tmp 59, Go.Operand.tmp 74], argTypes := #[66, 3, 3, 9] }, type := 0, pos := "qlex.go:88", after := #[{ on := 0, ground := Go.Ground.data }, { on := 1, ground := Go.Ground.data }, { on := 16, ground := Go.Ground.data }], guard := none }) rfl rfl (by kernel_rfl) (by rfl) (fun w' => by first | rfl | go_simp) (R := fun v w' => SC w0 w' s (i + wh) (out ++ [⟨8, i, ((s.drop i).take wh)⟩])) ((put_any w0 (World.drew wz) s i out 8 wh ((s.drop i).take wh) (HS.out.step hSp) (by omega) ho (by rw [List.length_take, List.length_drop]; omega)).mono fun e w' ⟨he, hs⟩ => ⟨_, he, hs⟩) ?_
      rintro _ w9 HS9
      refine ⟨trivial, ?_⟩
      simp only [Act.put, List.setIfInBounds_toArray, List.set_cons_zero, List.set_cons_succ]
      refine rg_done (by kernel_rfl) ?_
      go_wp2_with fail
      go_ret
      exact ⟨rfl, HS9, hNb⟩
theorem ib_eq (c : UInt8) : ∀ l : List UInt8, Lib.indexByte l c = if l.contains c then ((l.takeWhile (· != c)).length : Int) else -1
  | [] => by simp [Lib.indexByte]
  | b :: l => by
    have ih := ib_eq c l
    rw [Lib.indexByte, List.takeWhile_cons, List.contains_cons]
    by_cases hb : b = c
    · subst hb; simp
    · have h1 : (b == c) = false := by rw [beq_eq_false_iff_ne]; exact hb
      have h2 : (c == b) = false := by rw [beq_eq_false_iff_ne]; exact fun e => hb e.symm
      have h3 : (b != c) = true := by rw [bne_iff_ne]; exact hb
      rw [h1, h2, h3, ih]
      cases hc : l.contains c with
      | true =>
        have h4 : (((l.takeWhile (· != c)).length : Int) == -1) = false := by rw [beq_eq_false_iff_ne]; omega
        simp [h4]
      | false => simp
theorem ib_lt (c : UInt8) : ∀ l : List UInt8, l.contains c = true → (l.takeWhile (· != c)).length < l.length
  | [], h => by simp at h
  | b :: l, h => by
    rw [List.takeWhile_cons]
    by_cases hb : b = c
    · subst hb; simp
    · have h3 : (b != c) = true := by rw [bne_iff_ne]; exact hb
      have h2 : (c == b) = false := by rw [beq_eq_false_iff_ne]; exact fun e => hb e.symm
      rw [List.contains_cons, h2, Bool.false_or] at h
      have := ib_lt c l h
      rw [if_pos h3, List.length_cons, List.length_cons]; omega
theorem ib_take (c : UInt8) : ∀ l : List UInt8, l.take (l.takeWhile (· != c)).length = l.takeWhile (· != c)
  | [] => rfl
  | b :: l => by
    rw [List.takeWhile_cons]
    split
    · rw [List.length_cons, List.take_succ_cons, ib_take c l]
    · rfl
theorem ibyte_any (l : List UInt8) (c : UInt8) (w : World) : Calls Tryz.prog 85 #[.string (bs l), .int .u8 (c.toNat : Nat)] w fun e w' => e = .returned (.int .i64 (if l.contains c then ((l.takeWhile (· != c)).length : Int) else -1)) ∧ Ext w w' :=
  (Tryz.strings_IndexByte (bs l) c.toNat w).mono fun e w' ⟨h1, h2⟩ => ⟨by rw [h1, ← ib_eq c l]; simp [bs_list], by rw [h2]; exact Ext.refl _⟩
set_option maxHeartbeats 16000000 in
theorem quoted_any (w0 W : World) (s : List UInt8) (i : Nat) (out : List QT) (h : SC w0 W s i out) (hi : i < s.length) (hl : s.length ≤ 1000) (ho : out.length ≤ 1000) :
    Calls Tryz.prog 63 #[.pointer (some ⟨w0.heap.size, 0, none⟩)] W (TokR w0 s i out (quotedS s[i] (s.drop (i + 1)))) := by
  obtain ⟨R, hR⟩ : ∃ R, quotedS s[i] (s.drop (i + 1)) = R := ⟨_, rfl⟩
  rw [hR]
  unfold quotedS at hR
  have HB := Lib.hid fun W => ibyte_any (s.drop (i + 1)) s[i] W
  have hlt := h.lt
  obtain ⟨wz, hwz⟩ : ∃ wz, wz = W := ⟨_, rfl⟩
  subst hwz
  have c0 := h.c0; have c1 := h.c1
  have HS := Lib.hid h
  clear h
  by_cases hc : (s.drop (i + 1)).contains s[i] = true
  · rw [if_pos hc] at hR HB
    have hlt2 := ib_lt s[i] _ hc
    rw [← ib_take] at hR
    obtain ⟨n, hn⟩ : ∃ n, ((s.drop (i + 1)).takeWhile (· != s[i])).length = n := ⟨_, rfl⟩
    rw [ib_take] at hR
    have htk := ib_take s[i] (s.drop (i + 1))
    rw [hn] at HB hR hlt2 htk
    rw [← htk] at hR
    rw [List.length_drop] at hlt2
    subst hR
    clear htk hn hc
    have hnI : ¬ (n : Int) < 0 := by omega
    go_enter Tryz.func63, Tryz.ntmps63
    go_wp2_with fail
    refine rg_begin (S := Sx wz) (by kernel_rfl) (Sx.begin _) ?_
    have hS : Sx wz (World.drew wz) := (Sx.begin _)
    refine rg_take 0 (some 4) (.pointer (some ⟨w0.heap.size, 0, none⟩)) (oi := { dst := some 4, op := Go.Op.move (Go.Operand.tmp 0), type := 66, pos := "qlex.go:94", after := #[], guard := none }) rfl rfl (by kernel_rfl) (by kernel_rfl) (by kernel_rfl) (fun _ _ _ h => h) hS (by rfl) (fun w' hs => by rfl) ?_
    simp only [Act.put, List.setIfInBounds_toArray, List.set_cons_zero, List.set_cons_succ]
    refine rg_take 1 (some 5) (.pointer (some ⟨w0.heap.size, 0, none⟩)) (oi := { dst := some 5, op := Go.Op.nilCheck (Go.Operand.tmp 4), type := 0, pos := "qlex.go:94", after := #[{ on := 0, ground := Go.Ground.data }], guard := none }) rfl rfl (by kernel_rfl) (by kernel_rfl) (by kernel_rfl) (fun _ _ _ h => h) hS (by rfl) (fun w' hs => by first | rfl | go_simp) ?_
    simp only [Act.put, List.setIfInBounds_toArray, List.set_cons_zero, List.set_cons_succ]
    refine rg_take 2 (some 6) (.pointer (some ⟨w0.heap.size, 0, none⟩)) (oi := { dst := some 6, op := Go.Op.fieldAddr 68 (Go.Operand.tmp 5) 0, type := 0, pos := "qlex.go:94", after := #[{ on := 1, ground := Go.Ground.data }], guard := none }) rfl rfl (by kernel_rfl) (by kernel_rfl) (by kernel_rfl) (fun _ _ _ h => h) hS (by rfl) (fun w' hs => by first | rfl | go_simp) ?_
    simp only [Act.put, List.setIfInBounds_toArray, List.set_cons_zero, List.set_cons_succ]
    refine rg_take 3 (some 7) (.string (bs s)) (oi := { dst := some 7, op := Go.Op.load 9 (Go.Operand.tmp 6), type := 9, pos := "qlex.go:94", after := #[{ on := 2, ground := Go.Ground.data }], guard := none }) rfl rfl (by kernel_rfl) (by kernel_rfl) (by kernel_rfl) (fun _ _ _ h => h) hS (by rfl) (fun w' hs => by (have h0 := hs.cell hlt c0; go_simp)) ?_
    simp only [Act.put, List.setIfInBounds_toArray, List.set_cons_zero, List.set_cons_succ]
    refine rg_take 4 (some 8) (.pointer (some ⟨w0.heap.size, 0, none⟩)) (oi := { dst := some 8, op := Go.Op.move (Go.Operand.tmp 0), type := 66, pos := "qlex.go:94", after := #[], guard := none }) rfl rfl (by kernel_rfl) (by kernel_rfl) (by kernel_rfl) (fun _ _ _ h => h) hS (by rfl) (fun w' hs => by rfl) ?_
    simp only [Act.put, List.setIfInBounds_toArray, List.set_cons_zero, List.set_cons_succ]
    refine rg_take 5 (some 9) (.pointer (some ⟨w0.heap.size, 0, none⟩)) (oi := { dst := some 9, op := Go.Op.nilCheck (Go.Operand.tmp 8), type := 0, pos := "qlex.go:94", after := #[{ on := 4, ground := Go.Ground.data }], guard := none }) rfl rfl (by kernel_rfl) (by kernel_rfl) (by kernel_rfl) (fun _ _ _ h => h) hS (by rfl) (fun w' hs => by first | rfl | go_simp) ?_
    simp only [Act.put, List.setIfInBounds_toArray, List.set_cons_zero, List.set_cons_succ]
    refine rg_take 6 (some 10) (.pointer (some ⟨w0.heap.size, 1, none⟩)) (oi := { dst := some 10, op := Go.Op.fieldAddr 68 (Go.Operand.tmp 9) 1, type := 0, pos := "qlex.go:94", after := #[{ on := 5, ground := Go.Ground.data }], guard := none }) rfl rfl (by kernel_rfl) (by kernel_rfl) (by kernel_rfl) (fun _ _ _ h => h) hS (by rfl) (fun w' hs => by first | rfl | go_simp) ?_
    simp only [Act.put, List.setIfInBounds_toArray, List.set_cons_zero, List.set_cons_succ]
    refine rg_take 7 (some 11) (.int .i64 i) (oi := { dst := some 11, op := Go.Op.load 3 (Go.Operand.tmp 10), type := 3, pos := "qlex.go:94", after := #[{ on := 6, ground := Go.Ground.data }], guard := none }) rfl rfl (by kernel_rfl) (by kernel_rfl) (by kernel_rfl) (fun _ _ _ h => h) hS (by rfl) (fun w' hs => by (have h0 := hs.cell hlt c1; go_simp)) ?_
    simp only [Act.put, List.setIfInBounds_toArray, List.set_cons_zero, List.set_cons_succ]
    refine rg_take 8 (some 12) (.int .i64 (i + 1 : Nat)) (oi := { dst := some 12, op := Go.Op.binOp Go.BinOp.add 3 (Go.Operand.tmp 11) (Go.Operand.const (Go.Value.int Go.IntKind.i64 1)) 3, type := 3, pos := "qlex.go:94", after := #[{ on := 7, ground := Go.Ground.data }], guard := none }) rfl rfl (by kernel_rfl) (by kernel_rfl) (by kernel_rfl) (fun _ _ _ h => h) hS (by rfl) (fun w' hs => by exact exec_add (i := i) (j := 1) rfl rfl rfl (by omega) _) ?_
    simp only [Act.put, List.setIfInBounds_toArray, List.set_cons_zero, List.set_cons_succ]
    refine rg_take 9 (some 13) (.string (bs (s.drop (i + 1)))) (oi := { dst := some 13, op := Go.Op.slice 9 (Go.Operand.tmp 7) (some (Go.Operand.tmp 12)) none none, type := 9, pos := "qlex.go:94", after := #[{ on := 3, ground := Go.Ground.data }, { on := 8, ground := Go.Ground.data }], guard := none }) rfl rfl (by kernel_rfl) (by kernel_rfl) (by kernel_rfl) (fun _ _ _ h => h) hS (by rfl) (fun w' hs => by exact exec_sfrom (i := i + 1) rfl rfl rfl (by omega) _) ?_
    simp only [Act.put, List.setIfInBounds_toArray, List.set_cons_zero, List.set_cons_succ]
    refine rg_take 10 (some 14) (.pointer (some ⟨w0.heap.size, 0, none⟩)) (oi := { dst := some 14, op := Go.Op.move (Go.Operand.tmp 0), type := 66, pos := "qlex.go:94", after := #[], guard := none }) rfl rfl (by kernel_rfl) (by kernel_rfl) (by kernel_rfl) (fun _ _ _ h => h) hS (by rfl) (fun w' hs => by rfl) ?_
    simp only [Act.put, List.setIfInBounds_toArray, List.set_cons_zero, List.set_cons_succ]
    refine rg_take 11 (some 15) (.pointer (some ⟨w0.heap.size, 0, none⟩)) (oi := { dst := some 15, op := Go.Op.nilCheck (Go.Operand.tmp 14), type := 0, pos := "qlex.go:94", after := #[{ on := 10, ground := Go.Ground.data }], guard := none }) rfl rfl (by kernel_rfl) (by kernel_rfl) (by kernel_rfl) (fun _ _ _ h => h) hS (by rfl) (fun w' hs => by first | rfl | go_simp) ?_
    simp only [Act.put, List.setIfInBounds_toArray, List.set_cons_zero, List.set_cons_succ]
    refine rg_take 12 (some 16) (.pointer (some ⟨w0.heap.size, 0, none⟩)) (oi := { dst := some 16, op := Go.Op.fieldAddr 68 (Go.Operand.tmp 15) 0, type := 0, pos := "qlex.go:94", after := #[{ on := 11, ground := Go.Ground.data }], guard := none }) rfl rfl (by kernel_rfl) (by kernel_rfl) (by kernel_rfl) (fun _ _ _ h => h) hS (by rfl) (fun w' hs => by first | rfl | go_simp) ?_
    simp only [Act.put, List.setIfInBounds_toArray, List.set_cons_zero, List.set_cons_succ]
    refine rg_take 13 (some 17) (.string (bs s)) (oi := { dst := some 17, op := Go.Op.load 9 (Go.Operand.tmp 16), type := 9, pos := "qlex.go:94", after := #[{ on := 12, ground := Go.Ground.data }], guard := none }) rfl rfl (by kernel_rfl) (by kernel_rfl) (by kernel_rfl) (fun _ _ _ h => h) hS (by rfl) (fun w' hs => by (have h0 := hs.cell hlt c0; go_simp)) ?_
    simp only [Act.put, List.setIfInBounds_toArray, List.set_cons_zero, List.set_cons_succ]
    refine rg_take 14 (some 18) (.pointer (some ⟨w0.heap.size, 0, none⟩)) (oi := { dst := some 18, op := Go.Op.move (Go.Operand.tmp 0), type := 66, pos := "qlex.go:94", after := #[], guard := none }) rfl rfl (by kernel_rfl) (by kernel_rfl) (by kernel_rfl) (fun _ _ _ h => h) hS (by rfl) (fun w' hs => by rfl) ?_
    simp only [Act.put, List.setIfInBounds_toArray, List.set_cons_zero, List.set_cons_succ]
    refine rg_take 15 (some 19) (.pointer (some ⟨w0.heap.size, 0, none⟩)) (oi := { dst := some 19, op := Go.Op.nilCheck (Go.Operand.tmp 18), type := 0, pos := "qlex.go:94", after := #[{ on := 14, ground := Go.Ground.data }], guard := none }) rfl rfl (by kernel_rfl) (by kernel_rfl) (by kernel_rfl) (fun _ _ _ h => h) hS (by rfl) (fun w' hs => by first | rfl | go_simp) ?_
    simp only [Act.put, List.setIfInBounds_toArray, List.set_cons_zero, List.set_cons_succ]
    refine rg_take 16 (some 20) (.pointer (some ⟨w0.heap.size, 1, none⟩)) (oi := { dst := some 20, op := Go.Op.fieldAddr 68 (Go.Operand.tmp 19) 1, type := 0, pos := "qlex.go:94", after := #[{ on := 15, ground := Go.Ground.data }], guard := none }) rfl rfl (by kernel_rfl) (by kernel_rfl) (by kernel_rfl) (fun _ _ _ h => h) hS (by rfl) (fun w' hs => by first | rfl | go_simp) ?_
    simp only [Act.put, List.setIfInBounds_toArray, List.set_cons_zero, List.set_cons_succ]
    refine rg_take 17 (some 21) (.int .i64 i) (oi := { dst := some 21, op := Go.Op.load 3 (Go.Operand.tmp 20), type := 3, pos := "qlex.go:94", after := #[{ on := 16, ground := Go.Ground.data }], guard := none }) rfl rfl (by kernel_rfl) (by kernel_rfl) (by kernel_rfl) (fun _ _ _ h => h) hS (by rfl) (fun w' hs => by (have h0 := hs.cell hlt c1; go_simp)) ?_
    simp only [Act.put, List.setIfInBounds_toArray, List.set_cons_zero, List.set_cons_succ]
    refine rg_take 18 (some 22) (.int .u8 (s[i].toNat : Nat)) (oi := { dst := some 22, op := Go.Op.index 9 (Go.Operand.tmp 17) (Go.Operand.tmp 21), type := 5, pos := "qlex.go:94", after := #[{ on := 13, ground := Go.Ground.data }, { on := 17, ground := Go.Ground.data }], guard := none }) rfl rfl (by kernel_rfl) (by kernel_rfl) (by kernel_rfl) (fun _ _ _ h => h) hS (by rfl) (fun w' hs => by exact exec_sidx (i := i) rfl rfl rfl (by omega) _) ?_
    simp only [Act.put, List.setIfInBounds_toArray, List.set_cons_zero, List.set_cons_succ]
    refine rg_call 19 (some 23) 85 #[.string (bs (s.drop (i + 1))), .int .u8 (s[i].toNat : Nat)] (oi := { dst := some 23, op := Go.Op.call { callee := Go.Callee.value (Go.Operand.func 85), args := #[Go.Operand.tmp 13, Go.Operand.tmp 22], argTypes := #[9, 5] }, type := 3, pos := "qlex.go:94", after := #[{ on := 9, ground := Go.Ground.data }, { on := 18, ground := Go.Ground.data }], guard := none }) rfl rfl (by kernel_rfl) (by rfl) (fun w' => by first | rfl | go_simp) (R := fun v w' => v = .int .i64 n ∧ Ext (World.drew wz) w') ?_ ?_
    · refine (HB.out (World.drew wz)).mono ?_
      rintro e w' ⟨rfl, h⟩
      exact ⟨_, rfl, rfl, h⟩
    rintro _ wr1 ⟨rfl, hBr1⟩
    have hS1 := hS.ext hBr1
    refine ⟨hS1, ?_⟩
    simp only [Act.put, List.setIfInBounds_toArray, List.set_cons_zero, List.set_cons_succ]
    refine rg_take 20 (some 3) (.int .i64 n) (oi := { dst := some 3, op := Go.Op.assign (Go.Operand.tmp 23), type := 3, pos := "qlex.go:94", after := #[{ on := 19, ground := Go.Ground.data }, { on := 19, ground := Go.Ground.chain }, { on := 0, ground := Go.Ground.phase }, { on := 1, ground := Go.Ground.phase }, { on := 2, ground := Go.Ground.phase }, { on := 3, ground := Go.Ground.phase }, { on := 4, ground := Go.Ground.phase }, { on := 5, ground := Go.Ground.phase }, { on := 6, ground := Go.Ground.phase }, { on := 7, ground := Go.Ground.phase }, { on := 8, ground := Go.Ground.phase }, { on := 9, ground := Go.Ground.phase }, { on := 10, ground := Go.Ground.phase }, { on := 11, ground := Go.Ground.phase }, { on := 12, ground := Go.Ground.phase }, { on := 13, ground := Go.Ground.phase }, { on := 14, ground := Go.Ground.phase }, { on := 15, ground := Go.Ground.phase }, { on := 16, ground := Go.Ground.phase }, { on := 17, ground := Go.Ground.phase }, { on := 18, ground := Go.Ground.phase }, { on := 19, ground := Go.Ground.phase }], guard := none }) rfl rfl (by kernel_rfl) (by kernel_rfl) (by kernel_rfl) (fun _ _ _ h => h) hS1 (by rfl) (fun w' hs => by rfl) ?_
    simp only [Act.put, List.setIfInBounds_toArray, List.set_cons_zero, List.set_cons_succ]
    refine rg_done (by kernel_rfl) ?_
    replace HS := Lib.hid (HS.out.step hS1)
    clear HB c0 c1 hS1 hS hBr1 hlt
    clear wz
    obtain ⟨wz, hwz⟩ : ∃ wz, wz = wr1 := ⟨_, rfl⟩
    subst hwz
    have hlt := HS.out.lt
    have c0 := HS.out.c0; have c1 := HS.out.c1
    go_wp2_with fail
    refine rg_cut (S := Sx wz) 20 (by kernel_rfl) (by kernel_rfl) (by kernel_rfl) (by kernel_rfl) (Sx.begin _) ?_
    have hSp : Sx wz (World.drew wz) := (Sx.begin _)
    refine rg_take 0 (some 26) (.pointer (some ⟨w0.heap.size, 0, none⟩)) (oi := { dst := some 26, op := Go.Op.move (Go.Operand.tmp 0), type := 66, pos := "qlex.go:98", after := #[], guard := none }) rfl rfl (by kernel_rfl) (by kernel_rfl) (by kernel_rfl) (fun _ _ _ h => h) hSp (by rfl) (fun w' hs => by rfl) ?_
    simp only [Act.put, List.setIfInBounds_toArray, List.set_cons_zero, List.set_cons_succ]
    refine rg_take 1 (some 27) (.int .i64 n) (oi := { dst := some 27, op := Go.Op.move (Go.Operand.tmp 3), type := 3, pos := "qlex.go:98", after := #[], guard := none }) rfl rfl (by kernel_rfl) (by kernel_rfl) (by kernel_rfl) (fun _ _ _ h => h) hSp (by rfl) (fun w' hs => by rfl) ?_
    simp only [Act.put, List.setIfInBounds_toArray, List.set_cons_zero, List.set_cons_succ]
    refine rg_take 2 (some 28) (.int .i64 (n + 2 : Nat)) (oi := { dst := some 28, op := Go.Op.binOp Go.BinOp.add 3 (Go.Operand.tmp 27) (Go.Operand.const (Go.Value.int Go.IntKind.i64 2)) 3, type := 3, pos := "qlex.go:98", after := #[{ on := 1, ground := Go.Ground.data }], guard := none }) rfl rfl (by kernel_rfl) (by kernel_rfl) (by kernel_rfl) (fun _ _ _ h => h) hSp (by rfl) (fun w' hs => by exact exec_add (i := n) (j := 2) rfl rfl rfl (by omega) _) ?_
    simp only [Act.put, List.setIfInBounds_toArray, List.set_cons_zero, List.set_cons_succ]
    refine rg_take 3 (some 29) (.pointer (some ⟨w0.heap.size, 0, none⟩)) (oi := { dst := some 29, op := Go.Op.move (Go.Operand.tmp 0), type := 66, pos := "qlex.go:98", after := #[], guard := none }) rfl rfl (by kernel_rfl) (by kernel_rfl) (by kernel_rfl) (fun _ _ _ h => h) hSp (by rfl) (fun w' hs => by rfl) ?_
    simp only [Act.put, List.setIfInBounds_toArray, List.set_cons_zero, List.set_cons_succ]
    refine rg_take 4 (some 30) (.pointer (some ⟨w0.heap.size, 0, none⟩)) (oi := { dst := some 30, op := Go.Op.nilCheck (Go.Operand.tmp 29), type := 0, pos := "qlex.go:98", after := #[{ on := 3, ground := Go.Ground.data }], guard := none }) rfl rfl (by kernel_rfl) (by kernel_rfl) (by kernel_rfl) (fun _ _ _ h => h) hSp (by rfl) (fun w' hs => by first | rfl | go_simp) ?_
    simp only [Act.put, List.setIfInBounds_toArray, List.set_cons_zero, List.set_cons_succ]
    refine rg_take 5 (some 31) (.pointer (some ⟨w0.heap.size, 0, none⟩)) (oi := { dst := some 31, op := Go.Op.fieldAddr 68 (Go.Operand.tmp 30) 0, type := 0, pos := "qlex.go:98", after := #[{ on := 4, ground := Go.Ground.data }], guard := none }) rfl rfl (by kernel_rfl) (by kernel_rfl) (by kernel_rfl) (fun _ _ _ h => h) hSp (by rfl) (fun w' hs => by first | rfl | go_simp) ?_
    simp only [Act.put, List.setIfInBounds_toArray, List.set_cons_zero, List.set_cons_succ]
    refine rg_take 6 (some 32) (.string (bs s)) (oi := { dst := some 32, op := Go.Op.load 9 (Go.Operand.tmp 31), type := 9, pos := "qlex.go:98", after := #[{ on := 5, ground := Go.Ground.data }], guard := none }) rfl rfl (by kernel_rfl) (by kernel_rfl) (by kernel_rfl) (fun _ _ _ h => h) hSp (by rfl) (fun w' hs => by (have h0 := hs.cell hlt c0; go_simp)) ?_
    simp only [Act.put, List.setIfInBounds_toArray, List.set_cons_zero, List.set_cons_succ]
    refine rg_take 7 (some 33) (.pointer (some ⟨w0.heap.size, 0, none⟩)) (oi := { dst := some 33, op := Go.Op.move (Go.Operand.tmp 0), type := 66, pos := "qlex.go:98", after := #[], guard := none }) rfl rfl (by kernel_rfl) (by kernel_rfl) (by kernel_rfl) (fun _ _ _ h => h) hSp (by rfl) (fun w' hs => by rfl) ?_
    simp only [Act.put, List.setIfInBounds_toArray, List.set_cons_zero, List.set_cons_succ]
    refine rg_take 8 (some 34) (.pointer (some ⟨w0.heap.size, 0, none⟩)) (oi := { dst := some 34, op := Go.Op.nilCheck (Go.Operand.tmp 33), type := 0, pos := "qlex.go:98", after := #[{ on := 7, ground := Go.Ground.data }], guard := none }) rfl rfl (by kernel_rfl) (by kernel_rfl) (by kernel_rfl) (fun _ _ _ h => h) hSp (by rfl) (fun w' hs => by first | rfl | go_simp) ?_
    simp only [Act.put, List.setIfInBounds_toArray, List.set_cons_zero, List.set_cons_succ]
    refine rg_take 9 (some 35) (.pointer (some ⟨w0.heap.size, 1, none⟩)) (oi := { dst := some 35, op := Go.Op.fieldAddr 68 (Go.Operand.tmp 34) 1, type := 0, pos := "qlex.go:98", after := #[{ on := 8, ground := Go.Ground.data }], guard := none }) rfl rfl (by kernel_rfl) (by kernel_rfl) (by kernel_rfl) (fun _ _ _ h => h) hSp (by rfl) (fun w' hs => by first | rfl | go_simp) ?_
    simp only [Act.put, List.setIfInBounds_toArray, List.set_cons_zero, List.set_cons_succ]
    refine rg_take 10 (some 36) (.int .i64 i) (oi := { dst := some 36, op := Go.Op.load 3 (Go.Operand.tmp 35), type := 3, pos := "qlex.go:98", after := #[{ on := 9, ground := Go.Ground.data }], guard := none }) rfl rfl (by kernel_rfl) (by kernel_rfl) (by kernel_rfl) (fun _ _ _ h => h) hSp (by rfl) (fun w' hs => by (have h0 := hs.cell hlt c1; go_simp)) ?_
    simp only [Act.put, List.setIfInBounds_toArray, List.set_cons_zero, List.set_cons_succ]
    refine rg_take 11 (some 37) (.int .i64 (i + 1 : Nat)) (oi := { dst := some 37, op := Go.Op.binOp Go.BinOp.add 3 (Go.Operand.tmp 36) (Go.Operand.const (Go.Value.int Go.IntKind.i64 1)) 3, type := 3, pos := "qlex.go:98", after := #[{ on := 10, ground := Go.Ground.data }], guard := none }) rfl rfl (by kernel_rfl) (by kernel_rfl) (by kernel_rfl) (fun _ _ _ h => h) hSp (by rfl) (fun w' hs => by exact exec_add (i := i) (j := 1) rfl rfl rfl (by omega) _) ?_
    simp only [Act.put, List.setIfInBounds_toArray, List.set_cons_zero, List.set_cons_succ]
    refine rg_take 12 (some 38) (.pointer (some ⟨w0.heap.size, 0, none⟩)) (oi := { dst := some 38, op := Go.Op.move (Go.Operand.tmp 0), type := 66, pos := "qlex.go:98", after := #[], guard := none }) rfl rfl (by kernel_rfl) (by kernel_rfl) (by kernel_rfl) (fun _ _ _ h => h) hSp (by rfl) (fun w' hs => by rfl) ?_
    simp only [Act.put, List.setIfInBounds_toArray, List.set_cons_zero, List.set_cons_succ]
    refine rg_take 13 (some 39) (.pointer (some ⟨w0.heap.size, 0, none⟩)) (oi := { dst := some 39, op := Go.Op.nilCheck (Go.Operand.tmp 38), type := 0, pos := "qlex.go:98", after := #[{ on := 12, ground := Go.Ground.data }], guard := none }) rfl rfl (by kernel_rfl) (by kernel_rfl) (by kernel_rfl) (fun _ _ _ h => h) hSp (by rfl) (fun w' hs => by first | rfl | go_simp) ?_
    simp only [Act.put, List.setIfInBounds_toArray, List.set_cons_zero, List.set_cons_succ]
    refine rg_take 14 (some 40) (.pointer (some ⟨w0.heap.size, 1, none⟩)) (oi := { dst := some 40, op := Go.Op.fieldAddr 68 (Go.Operand.tmp 39) 1, type := 0, pos := "qlex.go:98", after := #[{ on := 13, ground := Go.Ground.data }], guard := none }) rfl rfl (by kernel_rfl) (by kernel_rfl) (by kernel_rfl) (fun _ _ _ h => h) hSp (by rfl) (fun w' hs => by first | rfl | go_simp) ?_
    simp only [Act.put, List.setIfInBounds_toArray, List.set_cons_zero, List.set_cons_succ]
    refine rg_take 15 (some 41) (.int .i64 i) (oi := { dst := some 41, op := Go.Op.load 3 (Go.Operand.tmp 40), type := 3, pos := "qlex.go:98", after := #[{ on := 14, ground := Go.Ground.data }], guard := none }) rfl rfl (by kernel_rfl) (by kernel_rfl) (by kernel_rfl) (fun _ _ _ h => h) hSp (by rfl) (fun w' hs => by (have h0 := hs.cell hlt c1; go_simp)) ?_
    simp only [Act.put, List.setIfInBounds_toArray, List.set_cons_zero, List.set_cons_succ]
    refine rg_take 16 (some 42) (.int .i64 (i + 1 : Nat)) (oi := { dst := some 42, op := Go.Op.binOp Go.BinOp.add 3 (Go.Operand.tmp 41) (Go.Operand.const (Go.Value.int Go.IntKind.i64 1)) 3, type := 3, pos := "qlex.go:98", after := #[{ on := 15, ground := Go.Ground.data }], guard := none }) rfl rfl (by kernel_rfl) (by kernel_rfl) (by kernel_rfl) (fun _ _ _ h => h) hSp (by rfl) (fun w' hs => by exact exec_add (i := i) (j := 1) rfl rfl rfl (by omega) _) ?_
    simp only [Act.put, List.setIfInBounds_toArray, List.set_cons_zero, List.set_cons_succ]
    refine rg_take 17 (some 43) (.int .i64 n) (oi := { dst := some 43, op := Go.Op.move (Go.Operand.tmp 3), type := 3, pos := "qlex.go:98", after := #[], guard := none }) rfl rfl (by kernel_rfl) (by kernel_rfl) (by kernel_rfl) (fun _ _ _ h => h) hSp (by rfl) (fun w' hs => by rfl) ?_
    simp only [Act.put, List.setIfInBounds_toArray, List.set_cons_zero, List.set_cons_succ]
    refine rg_take 18 (some 44) (.int .i64 (i + 1 + n : Nat)) (oi := { dst := some 44, op := Go.Op.binOp Go.BinOp.add 3 (Go.Operand.tmp 42) (Go.Operand.tmp 43) 3, type := 3, pos := "qlex.go:98", after := #[{ on := 16, ground := Go.Ground.data }, { on := 17, ground := Go.Ground.data }], guard := none }) rfl rfl (by kernel_rfl) (by kernel_rfl) (by kernel_rfl) (fun _ _ _ h => h) hSp (by rfl) (fun w' hs => by exact exec_add (i := i + 1) (j := n) rfl rfl rfl (by omega) _) ?_
    simp only [Act.put, List.setIfInBounds_toArray, List.set_cons_zero, List.set_cons_succ]
    refine rg_take 19 (some 45) (.string (bs ((s.drop (i + 1)).take n))) (oi := { dst := some 45, op := Go.Op.slice 9 (Go.Operand.tmp 32) (some (Go.Operand.tmp 37)) (some (Go.Operand.tmp 44)) none, type := 9, pos := "qlex.go:98", after := #[{ on := 6, ground := Go.Ground.data }, { on := 11, ground := Go.Ground.data }, { on := 18, ground := Go.Ground.data }], guard := none }) rfl rfl (by kernel_rfl) (by kernel_rfl) (by kernel_rfl) (fun _ _ _ h => h) hSp (by rfl) (fun w' hs => by exact exec_stake (i := i + 1) (n := n) rfl rfl rfl rfl (by omega) _) ?_
    simp only [Act.put, List.setIfInBounds_toArray, List.set_cons_zero, List.set_cons_succ]
    refine rg_done (by kernel_rfl) ?_
    refine rg_go 1 #[true, true, true, true, true, true, true, true, true, true, true, true, true, true, true, true, true, true, true, true, false] (by kernel_rfl) (by kernel_rfl) fun m => ?_
    refine rg_call 20 (some 46) 66 #[.pointer (some ⟨w0.heap.size, 0, none⟩), .int .i64 7, .int .i64 (n + 2 : Nat), .string (bs ((s.drop (i + 1)).take n))] (oi := { dst := some 46, op := Go.Op.call { callee := Go.Callee.value (Go.Operand.func 66), args := #[Go.Operand.tmp 26, Go.Operand.const (Go.Value.int Go.IntKind.i64 7), Go.Operand.tmp 28, Go.Operand.tmp 45], argTypes := #[66, 3, 3, 9] }, type := 0, pos := "qlex.go:98", after := #[{ on := 0, ground := Go.Ground.data }, { on := 2, ground := Go.Ground.data }, { on := 19, ground := Go.Ground.data }], guard := none }) rfl rfl (by kernel_rfl) (by rfl) (fun w' => by first | rfl | go_simp) (R := fun v w' => SC w0 w' s (i + (n + 2)) (out ++ [⟨7, i, ((s.drop (i + 1)).take n)⟩])) ((put_any w0 (World.drew wz) s i out 7 (n + 2) ((s.drop (i + 1)).take n) (HS.out.step hSp) (by omega) ho (by rw [List.length_take, List.length_drop]; omega)).mono fun e w' ⟨he, hs⟩ => ⟨_, he, hs⟩) ?_
    rintro _ w9 HS9
    refine ⟨trivial, ?_⟩
    simp only [Act.put, List.setIfInBounds_toArray, List.set_cons_zero, List.set_cons_succ]
    refine rg_done (by kernel_rfl) ?_
    go_wp2_with fail
    go_ret
    exact ⟨rfl, HS9, by omega, by omega⟩
  · rw [if_neg hc] at hR HB
    subst hR
    clear hc
    go_enter Tryz.func63, Tryz.ntmps63
    go_wp2_with fail
    refine rg_begin (S := Sx wz) (by kernel_rfl) (Sx.begin _) ?_
    have hS : Sx wz (World.drew wz) := (Sx.begin _)
    refine rg_take 0 (some 4) (.pointer (some ⟨w0.heap.size, 0, none⟩)) (oi := { dst := some 4, op := Go.Op.move (Go.Operand.tmp 0), type := 66, pos := "qlex.go:94", after := #[], guard := none }) rfl rfl (by kernel_rfl) (by kernel_rfl) (by kernel_rfl) (fun _ _ _ h => h) hS (by rfl) (fun w' hs => by rfl) ?_
    simp only [Act.put, List.setIfInBounds_toArray, List.set_cons_zero, List.set_cons_succ]
    refine rg_take 1 (some 5) (.pointer (some ⟨w0.heap.size, 0, none⟩)) (oi := { dst := some 5, op := Go.Op.nilCheck (Go.Operand.tmp 4), type := 0, pos := "qlex.go:94", after := #[{ on := 0, ground := Go.Ground.data }], guard := none }) rfl rfl (by kernel_rfl) (by kernel_rfl) (by kernel_rfl) (fun _ _ _ h => h) hS (by rfl) (fun w' hs => by first | rfl | go_simp) ?_
    simp only [Act.put, List.setIfInBounds_toArray, List.set_cons_zero, List.set_cons_succ]
    refine rg_take 2 (some 6) (.pointer (some ⟨w0.heap.size, 0, none⟩)) (oi := { dst := some 6, op := Go.Op.fieldAddr 68 (Go.Operand.tmp 5) 0, type := 0, pos := "qlex.go:94", after := #[{ on := 1, ground := Go.Ground.data }], guard := none }) rfl rfl (by kernel_rfl) (by kernel_rfl) (by kernel_rfl) (fun _ _ _ h => h) hS (by rfl) (fun w' hs => by first | rfl | go_simp) ?_
    simp only [Act.put, List.setIfInBounds_toArray, List.set_cons_zero, List.set_cons_succ]
    refine rg_take 3 (some 7) (.string (bs s)) (oi := { dst := some 7, op := Go.Op.load 9 (Go.Operand.tmp 6), type := 9, pos := "qlex.go:94", after := #[{ on := 2, ground := Go.Ground.data }], guard := none }) rfl rfl (by kernel_rfl) (by kernel_rfl) (by kernel_rfl) (fun _ _ _ h => h) hS (by rfl) (fun w' hs => by (have h0 := hs.cell hlt c0; go_simp)) ?_
    simp only [Act.put, List.setIfInBounds_toArray, List.set_cons_zero, List.set_cons_succ]
    refine rg_take 4 (some 8) (.pointer (some ⟨w0.heap.size, 0, none⟩)) (oi := { dst := some 8, op := Go.Op.move (Go.Operand.tmp 0), type := 66, pos := "qlex.go:94", after := #[], guard := none }) rfl rfl (by kernel_rfl) (by kernel_rfl) (by kernel_rfl) (fun _ _ _ h => h) hS (by rfl) (fun w' hs => by rfl) ?_
    simp only [Act.put, List.setIfInBounds_toArray, List.set_cons_zero, List.set_cons_succ]
    refine rg_take 5 (some 9) (.pointer (some ⟨w0.heap.size, 0, none⟩)) (oi := { dst := some 9, op := Go.Op.nilCheck (Go.Operand.tmp 8), type := 0, pos := "qlex.go:94", after := #[{ on := 4, ground := Go.Ground.data }], guard := none }) rfl rfl (by kernel_rfl) (by kernel_rfl) (by kernel_rfl) (fun _ _ _ h => h) hS (by rfl) (fun w' hs => by first | rfl | go_simp) ?_
    simp only [Act.put, List.setIfInBounds_toArray, List.set_cons_zero, List.set_cons_succ]
    refine rg_take 6 (some 10) (.pointer (some ⟨w0.heap.size, 1, none⟩)) (oi := { dst := some 10, op := Go.Op.fieldAddr 68 (Go.Operand.tmp 9) 1, type := 0, pos := "qlex.go:94", after := #[{ on := 5, ground := Go.Ground.data }], guard := none }) rfl rfl (by kernel_rfl) (by kernel_rfl) (by kernel_rfl) (fun _ _ _ h => h) hS (by rfl) (fun w' hs => by first | rfl | go_simp) ?_
    simp only [Act.put, List.setIfInBounds_toArray, List.set_cons_zero, List.set_cons_succ]
    refine rg_take 7 (some 11) (.int .i64 i) (oi := { dst := some 11, op := Go.Op.load 3 (Go.Operand.tmp 10), type := 3, pos := "qlex.go:94", after := #[{ on := 6, ground := Go.Ground.data }], guard := none }) rfl rfl (by kernel_rfl) (by kernel_rfl) (by kernel_rfl) (fun _ _ _ h => h) hS (by rfl) (fun w' hs => by (have h0 := hs.cell hlt c1; go_simp)) ?_
    simp only [Act.put, List.setIfInBounds_toArray, List.set_cons_zero, List.set_cons_succ]
    refine rg_take 8 (some 12) (.int .i64 (i + 1 : Nat)) (oi := { dst := some 12, op := Go.Op.binOp Go.BinOp.add 3 (Go.Operand.tmp 11) (Go.Operand.const (Go.Value.int Go.IntKind.i64 1)) 3, type := 3, pos := "qlex.go:94", after := #[{ on := 7, ground := Go.Ground.data }], guard := none }) rfl rfl (by kernel_rfl) (by kernel_rfl) (by kernel_rfl) (fun _ _ _ h => h) hS (by rfl) (fun w' hs => by exact exec_add (i := i) (j := 1) rfl rfl rfl (by omega) _) ?_
    simp only [Act.put, List.setIfInBounds_toArray, List.set_cons_zero, List.set_cons_succ]
    refine rg_take 9 (some 13) (.string (bs (s.drop (i + 1)))) (oi := { dst := some 13, op := Go.Op.slice 9 (Go.Operand.tmp 7) (some (Go.Operand.tmp 12)) none none, type := 9, pos := "qlex.go:94", after := #[{ on := 3, ground := Go.Ground.data }, { on := 8, ground := Go.Ground.data }], guard := none }) rfl rfl (by kernel_rfl) (by kernel_rfl) (by kernel_rfl) (fun _ _ _ h => h) hS (by rfl) (fun w' hs => by exact exec_sfrom (i := i + 1) rfl rfl rfl (by omega) _) ?_
    simp only [Act.put, List.setIfInBounds_toArray, List.set_cons_zero, List.set_cons_succ]
    refine rg_take 10 (some 14) (.pointer (some ⟨w0.heap.size, 0, none⟩)) (oi := { dst := some 14, op := Go.Op.move (Go.Operand.tmp 0), type := 66, pos := "qlex.go:94", after := #[], guard := none }) rfl rfl (by kernel_rfl) (by kernel_rfl) (by kernel_rfl) (fun _ _ _ h => h) hS (by rfl) (fun w' hs => by rfl) ?_
    simp only [Act.put, List.setIfInBounds_toArray, List.set_cons_zero, List.set_cons_succ]
    refine rg_take 11 (some 15) (.pointer (some ⟨w0.heap.size, 0, none⟩)) (oi := { dst := some 15, op := Go.Op.nilCheck (Go.Operand.tmp 14), type := 0, pos := "qlex.go:94", after := #[{ on := 10, ground := Go.Ground.data }], guard := none }) rfl rfl (by kernel_rfl) (by kernel_rfl) (by kernel_rfl) (fun _ _ _ h => h) hS (by rfl) (fun w' hs => by first | rfl | go_simp) ?_
    simp only [Act.put, List.setIfInBounds_toArray, List.set_cons_zero, List.set_cons_succ]
    refine rg_take 12 (some 16) (.pointer (some ⟨w0.heap.size, 0, none⟩)) (oi := { dst := some 16, op := Go.Op.fieldAddr 68 (Go.Operand.tmp 15) 0, type := 0, pos := "qlex.go:94", after := #[{ on := 11, ground := Go.Ground.data }], guard := none }) rfl rfl (by kernel_rfl) (by kernel_rfl) (by kernel_rfl) (fun _ _ _ h => h) hS (by rfl) (fun w' hs => by first | rfl | go_simp) ?_
    simp only [Act.put, List.setIfInBounds_toArray, List.set_cons_zero, List.set_cons_succ]
    refine rg_take 13 (some 17) (.string (bs s)) (oi := { dst := some 17, op := Go.Op.load 9 (Go.Operand.tmp 16), type := 9, pos := "qlex.go:94", after := #[{ on := 12, ground := Go.Ground.data }], guard := none }) rfl rfl (by kernel_rfl) (by kernel_rfl) (by kernel_rfl) (fun _ _ _ h => h) hS (by rfl) (fun w' hs => by (have h0 := hs.cell hlt c0; go_simp)) ?_
    simp only [Act.put, List.setIfInBounds_toArray, List.set_cons_zero, List.set_cons_succ]
    refine rg_take 14 (some 18) (.pointer (some ⟨w0.heap.size, 0, none⟩)) (oi := { dst := some 18, op := Go.Op.move (Go.Operand.tmp 0), type := 66, pos := "qlex.go:94", after := #[], guard := none }) rfl rfl (by kernel_rfl) (by kernel_rfl) (by kernel_rfl) (fun _ _ _ h => h) hS (by rfl) (fun w' hs => by rfl) ?_
    simp only [Act.put, List.setIfInBounds_toArray, List.set_cons_zero, List.set_cons_succ]
    refine rg_take 15 (some 19) (.pointer (some ⟨w0.heap.size, 0, none⟩)) (oi := { dst := some 19, op := Go.Op.nilCheck (Go.Operand.tmp 18), type := 0, pos := "qlex.go:94", after := #[{ on := 14, ground := Go.Ground.data }], guard := none }) rfl rfl (by kernel_rfl) (by kernel_rfl) (by kernel_rfl) (fun _ _ _ h => h) hS (by rfl) (fun w' hs => by first | rfl | go_simp) ?_
    simp only [Act.put, List.setIfInBounds_toArray, List.set_cons_zero, List.set_cons_succ]
    refine rg_take 16 (some 20) (.pointer (some ⟨w0.heap.size, 1, none⟩)) (oi := { dst := some 20, op := Go.Op.fieldAddr 68 (Go.Operand.tmp 19) 1, type := 0, pos := "qlex.go:94", after := #[{ on := 15, ground := Go.Ground.data }], guard := none }) rfl rfl (by kernel_rfl) (by kernel_rfl) (by kernel_rfl) (fun _ _ _ h => h) hS (by rfl) (fun w' hs => by first | rfl | go_simp) ?_
    simp only [Act.put, List.setIfInBounds_toArray, List.set_cons_zero, List.set_cons_succ]
    refine rg_take 17 (some 21) (.int .i64 i) (oi := { dst := some 21, op := Go.Op.load 3 (Go.Operand.tmp 20), type := 3, pos := "qlex.go:94", after := #[{ on := 16, ground := Go.Ground.data }], guard := none }) rfl rfl (by kernel_rfl) (by kernel_rfl) (by kernel_rfl) (fun _ _ _ h => h) hS (by rfl) (fun w' hs => by (have h0 := hs.cell hlt c1; go_simp)) ?_
    simp only [Act.put, List.setIfInBounds_toArray, List.set_cons_zero, List.set_cons_succ]
    refine rg_take 18 (some 22) (.int .u8 (s[i].toNat : Nat)) (oi := { dst := some 22, op := Go.Op.index 9 (Go.Operand.tmp 17) (Go.Operand.tmp 21), type := 5, pos := "qlex.go:94", after := #[{ on := 13, ground := Go.Ground.data }, { on := 17, ground := Go.Ground.data }], guard := none }) rfl rfl (by kernel_rfl) (by kernel_rfl) (by kernel_rfl) (fun _ _ _ h => h) hS (by rfl) (fun w' hs => by exact exec_sidx (i := i) rfl rfl rfl (by omega) _) ?_
    simp only [Act.put, List.setIfInBounds_toArray, List.set_cons_zero, List.set_cons_succ]
    refine rg_call 19 (some 23) 85 #[.string (bs (s.drop (i + 1))), .int .u8 (s[i].toNat : Nat)] (oi := { dst := some 23, op := Go.Op.call { callee := Go.Callee.value (Go.Operand.func 85), args := #[Go.Operand.tmp 13, Go.Operand.tmp 22], argTypes := #[9, 5] }, type := 3, pos := "qlex.go:94", after := #[{ on := 9, ground := Go.Ground.data }, { on := 18, ground := Go.Ground.data }], guard := none }) rfl rfl (by kernel_rfl) (by rfl) (fun w' => by first | rfl | go_simp) (R := fun v w' => v = .int .i64 (-1) ∧ Ext (World.drew wz) w') ?_ ?_
    · refine (HB.out (World.drew wz)).mono ?_
      rintro e w' ⟨rfl, h⟩
      exact ⟨_, rfl, rfl, h⟩
    rintro _ wr1 ⟨rfl, hBr1⟩
    have hS1 := hS.ext hBr1
    refine ⟨hS1, ?_⟩
    simp only [Act.put, List.setIfInBounds_toArray, List.set_cons_zero, List.set_cons_succ]
    refine rg_take 20 (some 3) (.int .i64 (-1)) (oi := { dst := some 3, op := Go.Op.assign (Go.Operand.tmp 23), type := 3, pos := "qlex.go:94", after := #[{ on := 19, ground := Go.Ground.data }, { on := 19, ground := Go.Ground.chain }, { on := 0, ground := Go.Ground.phase }, { on := 1, ground := Go.Ground.phase }, { on := 2, ground := Go.Ground.phase }, { on := 3, ground := Go.Ground.phase }, { on := 4, ground := Go.Ground.phase }, { on := 5, ground := Go.Ground.phase }, { on := 6, ground := Go.Ground.phase }, { on := 7, ground := Go.Ground.phase }, { on := 8, ground := Go.Ground.phase }, { on := 9, ground := Go.Ground.phase }, { on := 10, ground := Go.Ground.phase }, { on := 11, ground := Go.Ground.phase }, { on := 12, ground := Go.Ground.phase }, { on := 13, ground := Go.Ground.phase }, { on := 14, ground := Go.Ground.phase }, { on := 15, ground := Go.Ground.phase }, { on := 16, ground := Go.Ground.phase }, { on := 17, ground := Go.Ground.phase }, { on := 18, ground := Go.Ground.phase }, { on := 19, ground := Go.Ground.phase }], guard := none }) rfl rfl (by kernel_rfl) (by kernel_rfl) (by kernel_rfl) (fun _ _ _ h => h) hS1 (by rfl) (fun w' hs => by rfl) ?_
    simp only [Act.put, List.setIfInBounds_toArray, List.set_cons_zero, List.set_cons_succ]
    refine rg_done (by kernel_rfl) ?_
    replace HS := Lib.hid (HS.out.step hS1)
    clear HB c0 c1 hS1 hS hBr1 hlt
    go_wp2_with fail
    go_ret
    exact ⟨rfl, HS.out, by decide⟩

end Go.Proofs.YtfoclfefjcnllaaGreatDoor
