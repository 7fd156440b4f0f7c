/-
  The reference's reader: counts, texts. Helper lemmas; no statement of the seat is proved here.
-/
import Derived.Test.YtghhachbnhldoaaDoorC20
namespace Go.Proofs.YtghhachbnhldoaaDoor
open Go.RowKit
set_option maxRecDepth 100000
set_option linter.unusedVariables false
set_option linter.unusedSimpArgs false

theorem i64_nat (n : Nat) (h : n < 9223372036854775808) : IntKind.i64.wrap (n : Int) = (n : Int) := by rw [IntKind.wrap_i64]; first | omega | (unfold wrap64; omega)
set_option maxHeartbeats 16000000 in
theorem qmany_any (w0 W : World) (inp : Bytes) (b : Bool) (n : Nat) (rest : Bytes) (hn : n ≤ 1000000000000) (hle : n ≤ rest.length) (hi : b = false → inp = numB n ++ rest) (h : QS w0 W inp b) :
    Calls Tryd.prog 29 #[.pointer (some ⟨w0.heap.size, 0, none⟩)] W (QPost w0 W b rest fun v _ => v = .int .i64 (if b = true then 0 else (n : Int))) := by
  have hc := qnum_any w0 W inp b n rest (by omega) hi h
  rw [decide_eq_false (by omega), Bool.or_false] at hc
  have HC := Lib.hid hc
  clear h hc hi
  go_enter Tryd.func29, Tryd.ntmps29
  go_wp2_with fail
  refine HC.out.mono ?_
  rintro e w1 ⟨v, rfl, ⟨k, rfl, hk1, hk2, hk⟩, ⟨inp1, hS, hin⟩, hX⟩
  clear HC
  obtain ⟨all, at', bb, off, c, k0, hrep, k1, hat, hd, hc1, hc2⟩ := hS.row
  have c2 := hS.c2; have f2 := hS.f2
  have hal : (at' : Int) ≤ (all.length : Int) := by omega
  have ha0 : (0 : Int) ≤ (at' : Int) := by omega
  have hal2 : (all.length : Int) ≤ 9223372036854775807 := by omega
  have HS := Lib.hid (And.intro hS (And.intro hX hin))
  cases b with
  | true =>
    clear hS hX hin hk hrep hd
    by_cases hge : (all.length : Int) - (at' : Int) < k
    · have hq : decide ((all.length : Int) - (at' : Int) < k) = true := decide_eq_true hge
      go_wp2_with fail
      go_quiet (fail)
      go_wp2_with fail
      go_ret
      exact ⟨_, rfl, rfl, ⟨_, (HS.out.1.step ((Dr.refl _).drewN _).ext).setBad true, fun h => by cases h⟩, (HS.out.2.1.ext ((Dr.refl _).drewN _).ext).set (p := ⟨w0.heap.size, 2, none⟩) rfl _⟩
    · have hq : decide ((all.length : Int) - (at' : Int) < k) = false := decide_eq_false hge
      go_wp2_with fail
      go_quiet (fail)
      go_wp2_with fail
      go_ret
      exact ⟨_, rfl, rfl, ⟨_, HS.out.1.step ((Dr.refl _).drewN _).ext, fun h => by cases h⟩, HS.out.2.1.ext ((Dr.refl _).drewN _).ext⟩
  | false =>
    obtain rfl := hk rfl
    obtain rfl := hin rfl
    have hlen : all.length - at' = inp1.length := by rw [← hd, List.length_drop]
    have hge : ¬ (all.length : Int) - (at' : Int) < (n : Int) := by omega
    have hq : decide ((all.length : Int) - (at' : Int) < (n : Int)) = false := decide_eq_false hge
    clear hS hX hin hk hrep hd hlen
    go_wp2_with fail
    go_quiet (fail)
    go_wp2_with fail
    go_ret
    exact ⟨_, rfl, rfl, ⟨_, HS.out.1.step ((Dr.refl _).drewN _).ext, fun _ => rfl⟩, HS.out.2.1.ext ((Dr.refl _).drewN _).ext⟩
set_option maxHeartbeats 16000000 in
theorem qtext_any (w0 W : World) (inp : Bytes) (b : Bool) (s : Bytes) (rest : Bytes) (hs : s.length ≤ 1000000000000) (hi : b = false → inp = txtB s ++ rest) (h : QS w0 W inp b) :
    Calls Tryd.prog 31 #[.pointer (some ⟨w0.heap.size, 0, none⟩)] W (QPost w0 W b rest fun v _ => TxtV b s v) := by
  have HC := Lib.hid (qmany_any w0 W inp b s.length (s ++ rest) hs (by rw [List.length_append]; omega) (fun hb => by rw [hi hb]; unfold txtB; rw [List.append_assoc]) h)
  clear h hi
  go_enter Tryd.func31, Tryd.ntmps31
  go_wp2_with fail
  refine HC.out.mono ?_
  rintro e w1 ⟨v, rfl, rfl, ⟨inp1, hS, hin⟩, hX⟩
  clear HC
  obtain ⟨all, at', bb, off, c, k0, hrep, k1, hat, hd, hc1, hc2⟩ := hS.row
  have c2 := hS.c2; have f1 := hS.f1
  have hal : (at' : Int) ≤ (all.length : Int) := by omega
  have ha0 : (0 : Int) ≤ (at' : Int) := by omega
  have hal2 : (all.length : Int) ≤ 9223372036854775807 := by omega
  obtain ⟨m, hm⟩ : ∃ m : Nat, (if b = true then 0 else s.length) = m := ⟨_, rfl⟩
  have hmI : (if b = true then (0 : Int) else (s.length : Int)) = (m : Int) := by rw [← hm]; split <;> rfl
  have hml : m ≤ inp1.length := by
    rw [← hm]
    split
    · exact Nat.zero_le _
    · rename_i hb
      have := hin (by simpa using hb)
      rw [this, List.length_append]; omega
  have hlen : all.length - at' = inp1.length := by rw [← hd, List.length_drop]
  have hTX : TxtV b s (.string (bs (inp1.take m))) := by
    refine ⟨_, rfl, by rw [List.length_take]; omega, fun hb => ?_⟩
    rw [← hm, if_neg (by rw [hb]; decide), hin hb, List.take_left]
  have hRS : b = false → inp1.drop m = rest := fun hb => by rw [← hm, if_neg (by rw [hb]; decide), hin hb, List.drop_left]
  have HF := Lib.hid (And.intro hTX hRS)
  rw [hmI]
  obtain ⟨SV, hSV⟩ : ∃ S, inp1.take m = S := ⟨_, rfl⟩
  have hm0 : (0 : Int) ≤ (m : Int) := by omega
  have hmb : (at' : Int) + (m : Int) ≤ (all.length : Int) := by omega
  obtain ⟨A2, hA2⟩ : ∃ A, (at' : Int) + (m : Int) = A := ⟨_, rfl⟩
  have hA3 : A2 - (m : Int) = (at' : Int) := by omega
  have hA4 : (0 : Int) ≤ A2 := by omega
  have hA5 : A2 ≤ (all.length : Int) := by omega
  have WR : IntKind.i64.wrap (at' : Int) = (at' : Int) := i64_nat at' (by omega)
  have QX1 : A2 ≤ (c : Int) := by omega
  have QX2 : (at' : Int) ≤ A2 := by omega
  have QX3 : A2.toNat - at' = m := by omega
  have hlt := hS.lt
  obtain ⟨wz, hwz⟩ : ∃ W', w1.setCell ⟨w0.heap.size, 1, none⟩ (.int .i64 A2) = W' := ⟨_, rfl⟩
  have hSz : QS w0 wz (inp1.drop m) b := by rw [← hwz]; exact hS.pass k0 hrep k1 hc1 hc2 m (by omega) hd A2 (by omega)
  have hXz : Exc w0.heap.size W wz := by rw [← hwz]; exact hX.set (p := ⟨w0.heap.size, 1, none⟩) rfl _
  have z0 : wz.cell? ⟨w0.heap.size, 0, none⟩ = some (.slice (some ⟨bb, off, none⟩) all.length c) := by rw [← hwz]; simp [go_sem, k0]
  have z1 : wz.cell? ⟨w0.heap.size, 1, none⟩ = some (.int .i64 A2) := by rw [← hwz]; simp [go_sem, k1]
  have zl := hSz.lt
  have HZ := Lib.hid (And.intro hSz (And.intro hXz (And.intro hrep hd)))
  clear hS hX hin hm hmI hTX hRS hSz hXz hrep
  by_cases hfull : c = at'
  · subst hfull
    have hmz : m = 0 := by omega
    subst hmz
    have hA6 : A2 = (c : Int) := by omega
    have HCV : Hid (∀ w', Sx wz w' → (convert 25 9 (.slice (some ⟨bb, off, none⟩) 0 0)).run Tryd.prog w' = .ok (.string (bs SV)) w') := Lib.hid fun w' hs => by
      have h2 := by_conv HZ.out.2.2.1 0 (Nat.zero_le _) (HZ.out.1.ext.trans hs) 0
      rw [List.take_zero] at h2
      rw [← hSV, List.take_zero]
      exact h2
    subst hA6
    rw [hSV] at HF
    clear hSV hd
    go_wp2_with fail
    refine rg_begin (S := Sx wz) (by kernel_rfl) (Sx.begin _) ?_
    have hSt : Sx wz (World.drew wz) := (Sx.begin _)
    refine rg_take 0 (some 15) (.pointer (some ⟨w0.heap.size, 0, none⟩)) (oi := { dst := some 15, op := Go.Op.move (Go.Operand.tmp 0), type := 76, pos := "ref.go:186", after := #[], guard := none }) rfl rfl (by kernel_rfl) (by kernel_rfl) (by kernel_rfl) (fun _ _ _ h => h) hSt (by rfl) (fun w' hs => by rfl) ?_
    simp only [Act.put, List.setIfInBounds_toArray, List.set_cons_zero, List.set_cons_succ]
    refine rg_take 1 (some 16) (.pointer (some ⟨w0.heap.size, 0, none⟩)) (oi := { dst := some 16, op := Go.Op.nilCheck (Go.Operand.tmp 15), type := 0, pos := "ref.go:186", after := #[{ on := 0, ground := Go.Ground.data }], guard := none }) rfl rfl (by kernel_rfl) (by kernel_rfl) (by kernel_rfl) (fun _ _ _ h => h) hSt (by rfl) (fun w' hs => by first | rfl | go_simp) ?_
    simp only [Act.put, List.setIfInBounds_toArray, List.set_cons_zero, List.set_cons_succ]
    refine rg_take 2 (some 17) (.pointer (some ⟨w0.heap.size, 0, none⟩)) (oi := { dst := some 17, op := Go.Op.fieldAddr 78 (Go.Operand.tmp 16) 0, type := 0, pos := "ref.go:186", after := #[{ on := 1, ground := Go.Ground.data }], guard := none }) rfl rfl (by kernel_rfl) (by kernel_rfl) (by kernel_rfl) (fun _ _ _ h => h) hSt (by rfl) (fun w' hs => by first | rfl | go_simp) ?_
    simp only [Act.put, List.setIfInBounds_toArray, List.set_cons_zero, List.set_cons_succ]
    refine rg_take 3 (some 18) (.slice (some ⟨bb, off, none⟩) all.length c) (oi := { dst := some 18, op := Go.Op.load 25 (Go.Operand.tmp 17), type := 25, pos := "ref.go:186", after := #[{ on := 2, ground := Go.Ground.data }], guard := none }) rfl rfl (by kernel_rfl) (by kernel_rfl) (by kernel_rfl) (fun _ _ _ h => h) hSt (by rfl) (fun w' hs => by (have h0 := hs.cell zl z0; go_simp)) ?_
    simp only [Act.put, List.setIfInBounds_toArray, List.set_cons_zero, List.set_cons_succ]
    refine rg_take 4 (some 19) (.pointer (some ⟨w0.heap.size, 0, none⟩)) (oi := { dst := some 19, op := Go.Op.move (Go.Operand.tmp 0), type := 76, pos := "ref.go:186", after := #[], guard := none }) rfl rfl (by kernel_rfl) (by kernel_rfl) (by kernel_rfl) (fun _ _ _ h => h) hSt (by rfl) (fun w' hs => by rfl) ?_
    simp only [Act.put, List.setIfInBounds_toArray, List.set_cons_zero, List.set_cons_succ]
    refine rg_take 5 (some 20) (.pointer (some ⟨w0.heap.size, 0, none⟩)) (oi := { dst := some 20, op := Go.Op.nilCheck (Go.Operand.tmp 19), type := 0, pos := "ref.go:186", after := #[{ on := 4, ground := Go.Ground.data }], guard := none }) rfl rfl (by kernel_rfl) (by kernel_rfl) (by kernel_rfl) (fun _ _ _ h => h) hSt (by rfl) (fun w' hs => by first | rfl | go_simp) ?_
    simp only [Act.put, List.setIfInBounds_toArray, List.set_cons_zero, List.set_cons_succ]
    refine rg_take 6 (some 21) (.pointer (some ⟨w0.heap.size, 1, none⟩)) (oi := { dst := some 21, op := Go.Op.fieldAddr 78 (Go.Operand.tmp 20) 1, type := 0, pos := "ref.go:186", after := #[{ on := 5, ground := Go.Ground.data }], guard := none }) rfl rfl (by kernel_rfl) (by kernel_rfl) (by kernel_rfl) (fun _ _ _ h => h) hSt (by rfl) (fun w' hs => by first | rfl | go_simp) ?_
    simp only [Act.put, List.setIfInBounds_toArray, List.set_cons_zero, List.set_cons_succ]
    refine rg_take 7 (some 22) (.int .i64 (c : Int)) (oi := { dst := some 22, op := Go.Op.load 3 (Go.Operand.tmp 21), type := 3, pos := "ref.go:186", after := #[{ on := 6, ground := Go.Ground.data }], guard := none }) rfl rfl (by kernel_rfl) (by kernel_rfl) (by kernel_rfl) (fun _ _ _ h => h) hSt (by rfl) (fun w' hs => by (have h0 := hs.cell zl z1; go_simp)) ?_
    simp only [Act.put, List.setIfInBounds_toArray, List.set_cons_zero, List.set_cons_succ]
    refine rg_take 8 (some 23) (.int .i64 0) (oi := { dst := some 23, op := Go.Op.move (Go.Operand.tmp 3), type := 3, pos := "ref.go:186", after := #[], guard := none }) rfl rfl (by kernel_rfl) (by kernel_rfl) (by kernel_rfl) (fun _ _ _ h => h) hSt (by rfl) (fun w' hs => by rfl) ?_
    simp only [Act.put, List.setIfInBounds_toArray, List.set_cons_zero, List.set_cons_succ]
    refine rg_take 9 (some 24) (.int .i64 c) (oi := { dst := some 24, op := Go.Op.binOp Go.BinOp.sub 3 (Go.Operand.tmp 22) (Go.Operand.tmp 23) 3, type := 3, pos := "ref.go:186", after := #[{ on := 7, ground := Go.Ground.data }, { on := 8, ground := Go.Ground.data }], guard := none }) rfl rfl (by kernel_rfl) (by kernel_rfl) (by kernel_rfl) (fun _ _ _ h => h) hSt (by rfl) (fun w' hs => by (go_simp; try exact WR)) ?_
    simp only [Act.put, List.setIfInBounds_toArray, List.set_cons_zero, List.set_cons_succ]
    refine rg_take 10 (some 25) (.pointer (some ⟨w0.heap.size, 0, none⟩)) (oi := { dst := some 25, op := Go.Op.move (Go.Operand.tmp 0), type := 76, pos := "ref.go:186", after := #[], guard := none }) rfl rfl (by kernel_rfl) (by kernel_rfl) (by kernel_rfl) (fun _ _ _ h => h) hSt (by rfl) (fun w' hs => by rfl) ?_
    simp only [Act.put, List.setIfInBounds_toArray, List.set_cons_zero, List.set_cons_succ]
    refine rg_take 11 (some 26) (.pointer (some ⟨w0.heap.size, 0, none⟩)) (oi := { dst := some 26, op := Go.Op.nilCheck (Go.Operand.tmp 25), type := 0, pos := "ref.go:186", after := #[{ on := 10, ground := Go.Ground.data }], guard := none }) rfl rfl (by kernel_rfl) (by kernel_rfl) (by kernel_rfl) (fun _ _ _ h => h) hSt (by rfl) (fun w' hs => by first | rfl | go_simp) ?_
    simp only [Act.put, List.setIfInBounds_toArray, List.set_cons_zero, List.set_cons_succ]
    refine rg_take 12 (some 27) (.pointer (some ⟨w0.heap.size, 1, none⟩)) (oi := { dst := some 27, op := Go.Op.fieldAddr 78 (Go.Operand.tmp 26) 1, type := 0, pos := "ref.go:186", after := #[{ on := 11, ground := Go.Ground.data }], guard := none }) rfl rfl (by kernel_rfl) (by kernel_rfl) (by kernel_rfl) (fun _ _ _ h => h) hSt (by rfl) (fun w' hs => by first | rfl | go_simp) ?_
    simp only [Act.put, List.setIfInBounds_toArray, List.set_cons_zero, List.set_cons_succ]
    refine rg_take 13 (some 28) (.int .i64 (c : Int)) (oi := { dst := some 28, op := Go.Op.load 3 (Go.Operand.tmp 27), type := 3, pos := "ref.go:186", after := #[{ on := 12, ground := Go.Ground.data }], guard := none }) rfl rfl (by kernel_rfl) (by kernel_rfl) (by kernel_rfl) (fun _ _ _ h => h) hSt (by rfl) (fun w' hs => by (have h0 := hs.cell zl z1; go_simp)) ?_
    simp only [Act.put, List.setIfInBounds_toArray, List.set_cons_zero, List.set_cons_succ]
    refine rg_take 14 (some 29) (.slice (some ⟨bb, off, none⟩) 0 0) (oi := { dst := some 29, op := Go.Op.slice 25 (Go.Operand.tmp 18) (some (Go.Operand.tmp 24)) (some (Go.Operand.tmp 28)) none, type := 25, pos := "ref.go:186", after := #[{ on := 3, ground := Go.Ground.data }, { on := 9, ground := Go.Ground.data }, { on := 13, ground := Go.Ground.data }], guard := none }) rfl rfl (by kernel_rfl) (by kernel_rfl) (by kernel_rfl) (fun _ _ _ h => h) hSt (by rfl) (fun w' hs => by (go_simp; try simp [QX1, QX2, QX3])) ?_
    simp only [Act.put, List.setIfInBounds_toArray, List.set_cons_zero, List.set_cons_succ]
    refine rg_take 15 (some 30) (.string (bs SV)) (oi := { dst := some 30, op := Go.Op.convert 25 9 (Go.Operand.tmp 29), type := 9, pos := "ref.go:186", after := #[{ on := 14, ground := Go.Ground.data }], guard := none }) rfl rfl (by kernel_rfl) (by kernel_rfl) (by kernel_rfl) (fun _ _ _ h => h) hSt (by rfl) (fun w' hs => by (have hq := HCV.out w' hs; first | exact congrArg _ hq | go_simp)) ?_
    simp only [Act.put, List.setIfInBounds_toArray, List.set_cons_zero, List.set_cons_succ]
    refine rg_take 16 (some 2) (.string (bs SV)) (oi := { dst := some 2, op := Go.Op.assign (Go.Operand.tmp 30), type := 9, pos := "ref.go:186", after := #[{ on := 15, ground := Go.Ground.data }, { on := 0, ground := Go.Ground.phase }, { on := 1, ground := Go.Ground.phase }, { on := 2, ground := Go.Ground.phase }, { on := 3, ground := Go.Ground.phase }, { on := 4, ground := Go.Ground.phase }, { on := 5, ground := Go.Ground.phase }, { on := 6, ground := Go.Ground.phase }, { on := 7, ground := Go.Ground.phase }, { on := 8, ground := Go.Ground.phase }, { on := 9, ground := Go.Ground.phase }, { on := 10, ground := Go.Ground.phase }, { on := 11, ground := Go.Ground.phase }, { on := 12, ground := Go.Ground.phase }, { on := 13, ground := Go.Ground.phase }, { on := 14, ground := Go.Ground.phase }, { on := 15, ground := Go.Ground.phase }], guard := none }) rfl rfl (by kernel_rfl) (by kernel_rfl) (by kernel_rfl) (fun _ _ _ h => h) hSt (by rfl) (fun w' hs => by rfl) ?_
    simp only [Act.put, List.setIfInBounds_toArray, List.set_cons_zero, List.set_cons_succ]
    refine rg_done (by kernel_rfl) ?_
    go_wp2_with fail
    go_ret
    exact ⟨_, rfl, HF.out.1, ⟨_, HZ.out.1.step ((Dr.refl _).drewN 1).ext, HF.out.2⟩, HZ.out.2.1.ext ((Dr.refl _).drewN 1).ext⟩
  · have HCV : Hid (∀ w', Sx wz w' → (convert 25 9 (.slice (some ⟨bb, off + at', none⟩) m (c - at'))).run Tryd.prog w' = .ok (.string (bs SV)) w') := Lib.hid fun w' hs => by
      have h1 := by_drop HZ.out.2.2.1 at' (by omega) rfl hc2 hc1
      rw [show all.length - at' = (all.drop at').length by rw [List.length_drop]] at h1
      have h2 := by_conv h1 m (by rw [List.length_drop]; omega) (HZ.out.1.ext.trans hs) (c - at')
      rw [HZ.out.2.2.2, hSV] at h2
      exact h2
    rw [hSV] at HF
    clear hSV hd
    go_wp2_with fail
    refine rg_begin (S := Sx wz) (by kernel_rfl) (Sx.begin _) ?_
    have hSt : Sx wz (World.drew wz) := (Sx.begin _)
    refine rg_take 0 (some 15) (.pointer (some ⟨w0.heap.size, 0, none⟩)) (oi := { dst := some 15, op := Go.Op.move (Go.Operand.tmp 0), type := 76, pos := "ref.go:186", after := #[], guard := none }) rfl rfl (by kernel_rfl) (by kernel_rfl) (by kernel_rfl) (fun _ _ _ h => h) hSt (by rfl) (fun w' hs => by rfl) ?_
    simp only [Act.put, List.setIfInBounds_toArray, List.set_cons_zero, List.set_cons_succ]
    refine rg_take 1 (some 16) (.pointer (some ⟨w0.heap.size, 0, none⟩)) (oi := { dst := some 16, op := Go.Op.nilCheck (Go.Operand.tmp 15), type := 0, pos := "ref.go:186", after := #[{ on := 0, ground := Go.Ground.data }], guard := none }) rfl rfl (by kernel_rfl) (by kernel_rfl) (by kernel_rfl) (fun _ _ _ h => h) hSt (by rfl) (fun w' hs => by first | rfl | go_simp) ?_
    simp only [Act.put, List.setIfInBounds_toArray, List.set_cons_zero, List.set_cons_succ]
    refine rg_take 2 (some 17) (.pointer (some ⟨w0.heap.size, 0, none⟩)) (oi := { dst := some 17, op := Go.Op.fieldAddr 78 (Go.Operand.tmp 16) 0, type := 0, pos := "ref.go:186", after := #[{ on := 1, ground := Go.Ground.data }], guard := none }) rfl rfl (by kernel_rfl) (by kernel_rfl) (by kernel_rfl) (fun _ _ _ h => h) hSt (by rfl) (fun w' hs => by first | rfl | go_simp) ?_
    simp only [Act.put, List.setIfInBounds_toArray, List.set_cons_zero, List.set_cons_succ]
    refine rg_take 3 (some 18) (.slice (some ⟨bb, off, none⟩) all.length c) (oi := { dst := some 18, op := Go.Op.load 25 (Go.Operand.tmp 17), type := 25, pos := "ref.go:186", after := #[{ on := 2, ground := Go.Ground.data }], guard := none }) rfl rfl (by kernel_rfl) (by kernel_rfl) (by kernel_rfl) (fun _ _ _ h => h) hSt (by rfl) (fun w' hs => by (have h0 := hs.cell zl z0; go_simp)) ?_
    simp only [Act.put, List.setIfInBounds_toArray, List.set_cons_zero, List.set_cons_succ]
    refine rg_take 4 (some 19) (.pointer (some ⟨w0.heap.size, 0, none⟩)) (oi := { dst := some 19, op := Go.Op.move (Go.Operand.tmp 0), type := 76, pos := "ref.go:186", after := #[], guard := none }) rfl rfl (by kernel_rfl) (by kernel_rfl) (by kernel_rfl) (fun _ _ _ h => h) hSt (by rfl) (fun w' hs => by rfl) ?_
    simp only [Act.put, List.setIfInBounds_toArray, List.set_cons_zero, List.set_cons_succ]
    refine rg_take 5 (some 20) (.pointer (some ⟨w0.heap.size, 0, none⟩)) (oi := { dst := some 20, op := Go.Op.nilCheck (Go.Operand.tmp 19), type := 0, pos := "ref.go:186", after := #[{ on := 4, ground := Go.Ground.data }], guard := none }) rfl rfl (by kernel_rfl) (by kernel_rfl) (by kernel_rfl) (fun _ _ _ h => h) hSt (by rfl) (fun w' hs => by first | rfl | go_simp) ?_
    simp only [Act.put, List.setIfInBounds_toArray, List.set_cons_zero, List.set_cons_succ]
    refine rg_take 6 (some 21) (.pointer (some ⟨w0.heap.size, 1, none⟩)) (oi := { dst := some 21, op := Go.Op.fieldAddr 78 (Go.Operand.tmp 20) 1, type := 0, pos := "ref.go:186", after := #[{ on := 5, ground := Go.Ground.data }], guard := none }) rfl rfl (by kernel_rfl) (by kernel_rfl) (by kernel_rfl) (fun _ _ _ h => h) hSt (by rfl) (fun w' hs => by first | rfl | go_simp) ?_
    simp only [Act.put, List.setIfInBounds_toArray, List.set_cons_zero, List.set_cons_succ]
    refine rg_take 7 (some 22) (.int .i64 A2) (oi := { dst := some 22, op := Go.Op.load 3 (Go.Operand.tmp 21), type := 3, pos := "ref.go:186", after := #[{ on := 6, ground := Go.Ground.data }], guard := none }) rfl rfl (by kernel_rfl) (by kernel_rfl) (by kernel_rfl) (fun _ _ _ h => h) hSt (by rfl) (fun w' hs => by (have h0 := hs.cell zl z1; go_simp)) ?_
    simp only [Act.put, List.setIfInBounds_toArray, List.set_cons_zero, List.set_cons_succ]
    refine rg_take 8 (some 23) (.int .i64 (m : Int)) (oi := { dst := some 23, op := Go.Op.move (Go.Operand.tmp 3), type := 3, pos := "ref.go:186", after := #[], guard := none }) rfl rfl (by kernel_rfl) (by kernel_rfl) (by kernel_rfl) (fun _ _ _ h => h) hSt (by rfl) (fun w' hs => by rfl) ?_
    simp only [Act.put, List.setIfInBounds_toArray, List.set_cons_zero, List.set_cons_succ]
    refine rg_take 9 (some 24) (.int .i64 at') (oi := { dst := some 24, op := Go.Op.binOp Go.BinOp.sub 3 (Go.Operand.tmp 22) (Go.Operand.tmp 23) 3, type := 3, pos := "ref.go:186", after := #[{ on := 7, ground := Go.Ground.data }, { on := 8, ground := Go.Ground.data }], guard := none }) rfl rfl (by kernel_rfl) (by kernel_rfl) (by kernel_rfl) (fun _ _ _ h => h) hSt (by rfl) (fun w' hs => by (go_simp; try exact WR)) ?_
    simp only [Act.put, List.setIfInBounds_toArray, List.set_cons_zero, List.set_cons_succ]
    refine rg_take 10 (some 25) (.pointer (some ⟨w0.heap.size, 0, none⟩)) (oi := { dst := some 25, op := Go.Op.move (Go.Operand.tmp 0), type := 76, pos := "ref.go:186", after := #[], guard := none }) rfl rfl (by kernel_rfl) (by kernel_rfl) (by kernel_rfl) (fun _ _ _ h => h) hSt (by rfl) (fun w' hs => by rfl) ?_
    simp only [Act.put, List.setIfInBounds_toArray, List.set_cons_zero, List.set_cons_succ]
    refine rg_take 11 (some 26) (.pointer (some ⟨w0.heap.size, 0, none⟩)) (oi := { dst := some 26, op := Go.Op.nilCheck (Go.Operand.tmp 25), type := 0, pos := "ref.go:186", after := #[{ on := 10, ground := Go.Ground.data }], guard := none }) rfl rfl (by kernel_rfl) (by kernel_rfl) (by kernel_rfl) (fun _ _ _ h => h) hSt (by rfl) (fun w' hs => by first | rfl | go_simp) ?_
    simp only [Act.put, List.setIfInBounds_toArray, List.set_cons_zero, List.set_cons_succ]
    refine rg_take 12 (some 27) (.pointer (some ⟨w0.heap.size, 1, none⟩)) (oi := { dst := some 27, op := Go.Op.fieldAddr 78 (Go.Operand.tmp 26) 1, type := 0, pos := "ref.go:186", after := #[{ on := 11, ground := Go.Ground.data }], guard := none }) rfl rfl (by kernel_rfl) (by kernel_rfl) (by kernel_rfl) (fun _ _ _ h => h) hSt (by rfl) (fun w' hs => by first | rfl | go_simp) ?_
    simp only [Act.put, List.setIfInBounds_toArray, List.set_cons_zero, List.set_cons_succ]
    refine rg_take 13 (some 28) (.int .i64 A2) (oi := { dst := some 28, op := Go.Op.load 3 (Go.Operand.tmp 27), type := 3, pos := "ref.go:186", after := #[{ on := 12, ground := Go.Ground.data }], guard := none }) rfl rfl (by kernel_rfl) (by kernel_rfl) (by kernel_rfl) (fun _ _ _ h => h) hSt (by rfl) (fun w' hs => by (have h0 := hs.cell zl z1; go_simp)) ?_
    simp only [Act.put, List.setIfInBounds_toArray, List.set_cons_zero, List.set_cons_succ]
    refine rg_take 14 (some 29) (.slice (some ⟨bb, off + at', none⟩) m (c - at')) (oi := { dst := some 29, op := Go.Op.slice 25 (Go.Operand.tmp 18) (some (Go.Operand.tmp 24)) (some (Go.Operand.tmp 28)) none, type := 25, pos := "ref.go:186", after := #[{ on := 3, ground := Go.Ground.data }, { on := 9, ground := Go.Ground.data }, { on := 13, ground := Go.Ground.data }], guard := none }) rfl rfl (by kernel_rfl) (by kernel_rfl) (by kernel_rfl) (fun _ _ _ h => h) hSt (by rfl) (fun w' hs => by (go_simp; try simp [QX1, QX2, QX3])) ?_
    simp only [Act.put, List.setIfInBounds_toArray, List.set_cons_zero, List.set_cons_succ]
    refine rg_take 15 (some 30) (.string (bs SV)) (oi := { dst := some 30, op := Go.Op.convert 25 9 (Go.Operand.tmp 29), type := 9, pos := "ref.go:186", after := #[{ on := 14, ground := Go.Ground.data }], guard := none }) rfl rfl (by kernel_rfl) (by kernel_rfl) (by kernel_rfl) (fun _ _ _ h => h) hSt (by rfl) (fun w' hs => by (have hq := HCV.out w' hs; first | exact congrArg _ hq | go_simp)) ?_
    simp only [Act.put, List.setIfInBounds_toArray, List.set_cons_zero, List.set_cons_succ]
    refine rg_take 16 (some 2) (.string (bs SV)) (oi := { dst := some 2, op := Go.Op.assign (Go.Operand.tmp 30), type := 9, pos := "ref.go:186", after := #[{ on := 15, ground := Go.Ground.data }, { on := 0, ground := Go.Ground.phase }, { on := 1, ground := Go.Ground.phase }, { on := 2, ground := Go.Ground.phase }, { on := 3, ground := Go.Ground.phase }, { on := 4, ground := Go.Ground.phase }, { on := 5, ground := Go.Ground.phase }, { on := 6, ground := Go.Ground.phase }, { on := 7, ground := Go.Ground.phase }, { on := 8, ground := Go.Ground.phase }, { on := 9, ground := Go.Ground.phase }, { on := 10, ground := Go.Ground.phase }, { on := 11, ground := Go.Ground.phase }, { on := 12, ground := Go.Ground.phase }, { on := 13, ground := Go.Ground.phase }, { on := 14, ground := Go.Ground.phase }, { on := 15, ground := Go.Ground.phase }], guard := none }) rfl rfl (by kernel_rfl) (by kernel_rfl) (by kernel_rfl) (fun _ _ _ h => h) hSt (by rfl) (fun w' hs => by rfl) ?_
    simp only [Act.put, List.setIfInBounds_toArray, List.set_cons_zero, List.set_cons_succ]
    refine rg_done (by kernel_rfl) ?_
    go_wp2_with fail
    go_ret
    exact ⟨_, rfl, HF.out.1, ⟨_, HZ.out.1.step ((Dr.refl _).drewN 1).ext, HF.out.2⟩, HZ.out.2.1.ext ((Dr.refl _).drewN 1).ext⟩

end Go.Proofs.YtghhachbnhldoaaDoor
