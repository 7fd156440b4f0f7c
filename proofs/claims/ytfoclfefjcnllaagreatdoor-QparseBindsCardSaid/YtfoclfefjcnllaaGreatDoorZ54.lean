/-
  QparseBinds' walk. Helper lemmas; no statement of the seat is proved here.
-/
import Derived.Test.YtfoclfefjcnllaaGreatDoorZ52
import Derived.Test.YtfoclfefjcnllaaGreatDoorZ53
namespace Go.Proofs.YtfoclfefjcnllaaGreatDoor
open Go.RowKit
set_option maxRecDepth 100000
set_option linter.unusedVariables false
set_option linter.unusedSimpArgs false

theorem opQ_get (i : Nat) (h : i < 13) : OPS13[i]? = some (opQ i) := by
  unfold opQ
  rw [List.getD_eq_getElem?_getD, List.getElem?_eq_getElem (show i < OPS13.length from h), Option.getD_some]
theorem tiQ_get (i : Nat) (h : i < 13) : tightQ[i]? = some (tightQ.getD i 0) := by
  rw [List.getD_eq_getElem?_getD, List.getElem?_eq_getElem (show i < tightQ.length from h), Option.getD_some]
theorem opQ_len (i : Nat) : (opQ i).length ≤ 3 := by
  have h : ∀ t ∈ OPS13, t.length ≤ 3 := by decide
  unfold opQ
  rw [List.getD_eq_getElem?_getD]
  rcases Nat.lt_or_ge i OPS13.length with h' | h'
  · rw [List.getElem?_eq_getElem h', Option.getD_some]; exact h _ (List.getElem_mem h')
  · rw [List.getElem?_eq_none h']; decide
theorem binds_cases {i k : Nat} (h : bindsOk i k = true) : ∃ x y, parseP (bindsT i k) = .ok x ∧ x.args.length = 2 ∧ txE x = wantT i k ∧ parseP (wantT i k) = .ok y ∧ sameE x y = true := by
  unfold bindsOk at h
  revert h
  cases parseP (bindsT i k) with
  | error e => intro h; cases h
  | ok x =>
    dsimp only
    cases parseP (wantT i k) with
    | error e => intro h; rw [Bool.and_false] at h; cases h
    | ok y =>
      intro h
      simp only [Bool.and_eq_true, beq_iff_eq] at h
      refine ⟨x, y, rfl, ?_, h.1.2, rfl, h.2⟩
      cases x; exact h.1.1
set_option maxHeartbeats 16000000 in
theorem binds_walk (N M : Nat) (hN : N < 256) (hM : M < 256) (W : World) (HV : QEnv W) (HG : GlobE W) :
    Calls Tryz.prog 4 #[.int .u8 (N : Int), .int .u8 (M : Int)] W fun e w' => e = .returned (.bool true) ∧ Ext W w' := by
  have HA := Lib.hid (awake_any W HV HG)
  obtain ⟨i, hi⟩ : ∃ i, N % 13 = i := ⟨_, rfl⟩
  obtain ⟨k, hk⟩ : ∃ k, M % 13 = k := ⟨_, rfl⟩
  have hi13 : i < 13 := by omega
  have hk13 : k < 13 := by omega
  have c1 : Int.tmod (N : Int) 13 = (i : Int) := by rw [← hi]; exact Int.ofNat_tmod N 13
  have c2 : Int.tmod (M : Int) 13 = (k : Int) := by rw [← hk]; exact Int.ofNat_tmod M 13
  obtain ⟨x, y, hp1, hxn, htx, hp2, hsm⟩ := binds_cases (binds_ok i k hi13 hk13)
  have hl1 : (bindsT i k).length ≤ 1000 := by
    have h1 := opQ_len i; have h2 := opQ_len k
    unfold bindsT; simp only [List.length_append, List.length_cons, List.length_nil]; omega
  have hl2 : (wantT i k).length ≤ 1000 := by
    have h1 := opQ_len i; have h2 := opQ_len k
    unfold wantT; split <;> (simp only [List.length_append, List.length_cons, List.length_nil]; omega)
  have P1 := fun w (h : Ext W w) => parse_qany (bindsT i k) w hl1 (HV.ext h)
  have P2 := fun w (h : Ext W w) => parse_qany (wantT i k) w hl2 (HV.ext h)
  have HTX := Lib.hid (parse_tx _ hl1 W HV hp1)
  simp only [hp1, hp2] at P1 P2
  have hO1 := opQ_len i
  have hO2 := opQ_len k
  have g1 := opQ_get i hi13
  have g2 := opQ_get k hk13
  have g3 := tiQ_get i hi13
  have g4 := tiQ_get k hk13
  unfold bindsT at P1
  unfold wantT at P2 htx
  obtain ⟨O1, hq1⟩ : ∃ O, opQ i = O := ⟨_, rfl⟩
  obtain ⟨O2, hq2⟩ : ∃ O, opQ k = O := ⟨_, rfl⟩
  obtain ⟨T1, hq3⟩ : ∃ O, tightQ.getD i 0 = O := ⟨_, rfl⟩
  obtain ⟨T2, hq4⟩ : ∃ O, tightQ.getD k 0 = O := ⟨_, rfl⟩
  rw [hq1, hq2] at P1
  rw [hq1, hq2, hq3, hq4] at P2 htx
  rw [hq1] at hO1 g1
  rw [hq2] at hO2 g2
  rw [hq3] at g3
  rw [hq4] at g4
  have H1 := Lib.hid P1
  have H2 := Lib.hid P2
  have HX := Lib.hid (And.intro htx hsm)
  have HVG := Lib.hid (And.intro HV HG)
  have HGE := Lib.hid (And.intro g1 (And.intro g2 (And.intro g3 g4)))
  have hN' : (0 : Int) ≤ (N : Int) ∧ (N : Int) < 256 := by omega
  have hM' : (0 : Int) ≤ (M : Int) ∧ (M : Int) < 256 := by omega
  have hiI : (i : Int) < 13 := by omega
  have hkI : (k : Int) < 13 := by omega
  have hi0 : (0 : Int) ≤ (i : Int) := by omega
  have hk0 : (0 : Int) ≤ (k : Int) := by omega
  clear P1 P2 hp1 hp2 hl1 hl2 hq1 hq2 hq3 hq4 g1 g2 g3 g4 HV HG hi hk htx hsm
  go_enter Tryz.func4, Tryz.ntmps4
  go_wp2_with fail
  refine HA.out.mono ?_
  rintro e w1 ⟨rfl, hX1⟩
  clear HA
  have hEz : Ext w1 ((w1.alloc (.cells #[.string ⟨#[111, 114]⟩, .string ⟨#[97, 110, 100]⟩, .string ⟨#[61]⟩, .string ⟨#[33, 61]⟩, .string ⟨#[60]⟩, .string ⟨#[60, 61]⟩, .string ⟨#[62]⟩, .string ⟨#[62, 61]⟩, .string ⟨#[43]⟩, .string ⟨#[45]⟩, .string ⟨#[42]⟩, .string ⟨#[100, 105, 118]⟩, .string ⟨#[109, 111, 100]⟩] 9)).alloc (.cells #[.int .i64 1, .int .i64 2, .int .i64 3, .int .i64 3, .int .i64 4, .int .i64 4, .int .i64 4, .int .i64 4, .int .i64 5, .int .i64 5, .int .i64 6, .int .i64 6, .int .i64 6] 3)) := ((Ext.refl w1).alloc _).alloc _
  have hA : ((w1.alloc (.cells #[.string ⟨#[111, 114]⟩, .string ⟨#[97, 110, 100]⟩, .string ⟨#[61]⟩, .string ⟨#[33, 61]⟩, .string ⟨#[60]⟩, .string ⟨#[60, 61]⟩, .string ⟨#[62]⟩, .string ⟨#[62, 61]⟩, .string ⟨#[43]⟩, .string ⟨#[45]⟩, .string ⟨#[42]⟩, .string ⟨#[100, 105, 118]⟩, .string ⟨#[109, 111, 100]⟩] 9)).alloc (.cells #[.int .i64 1, .int .i64 2, .int .i64 3, .int .i64 3, .int .i64 4, .int .i64 4, .int .i64 4, .int .i64 4, .int .i64 5, .int .i64 5, .int .i64 6, .int .i64 6, .int .i64 6] 3)).heap[w1.heap.size]? = some (.cells (OPS13.map fun t => Value.string (bs t)).toArray 9 (0, 0)) :=
    (Below.block ((Ext.refl _).alloc _) _ (by simp)).trans Array.getElem?_push_size
  have hB : ((w1.alloc (.cells #[.string ⟨#[111, 114]⟩, .string ⟨#[97, 110, 100]⟩, .string ⟨#[61]⟩, .string ⟨#[33, 61]⟩, .string ⟨#[60]⟩, .string ⟨#[60, 61]⟩, .string ⟨#[62]⟩, .string ⟨#[62, 61]⟩, .string ⟨#[43]⟩, .string ⟨#[45]⟩, .string ⟨#[42]⟩, .string ⟨#[100, 105, 118]⟩, .string ⟨#[109, 111, 100]⟩] 9)).alloc (.cells #[.int .i64 1, .int .i64 2, .int .i64 3, .int .i64 3, .int .i64 4, .int .i64 4, .int .i64 4, .int .i64 4, .int .i64 5, .int .i64 5, .int .i64 6, .int .i64 6, .int .i64 6] 3)).heap[w1.heap.size + 1]? = some (.cells (tightQ.map fun t => Value.int .i64 (t : Nat)).toArray 3 (0, 0)) := by
    obtain ⟨wA, hwA⟩ : ∃ W, w1.alloc (.cells #[.string ⟨#[111, 114]⟩, .string ⟨#[97, 110, 100]⟩, .string ⟨#[61]⟩, .string ⟨#[33, 61]⟩, .string ⟨#[60]⟩, .string ⟨#[60, 61]⟩, .string ⟨#[62]⟩, .string ⟨#[62, 61]⟩, .string ⟨#[43]⟩, .string ⟨#[45]⟩, .string ⟨#[42]⟩, .string ⟨#[100, 105, 118]⟩, .string ⟨#[109, 111, 100]⟩] 9) = W := ⟨_, rfl⟩
    have hz : w1.heap.size + 1 = wA.heap.size := by rw [← hwA]; simp
    rw [hwA, hz]
    exact Array.getElem?_push_size
  obtain ⟨wz, hwz⟩ : ∃ W, (w1.alloc (.cells #[.string ⟨#[111, 114]⟩, .string ⟨#[97, 110, 100]⟩, .string ⟨#[61]⟩, .string ⟨#[33, 61]⟩, .string ⟨#[60]⟩, .string ⟨#[60, 61]⟩, .string ⟨#[62]⟩, .string ⟨#[62, 61]⟩, .string ⟨#[43]⟩, .string ⟨#[45]⟩, .string ⟨#[42]⟩, .string ⟨#[100, 105, 118]⟩, .string ⟨#[109, 111, 100]⟩] 9)).alloc (.cells #[.int .i64 1, .int .i64 2, .int .i64 3, .int .i64 3, .int .i64 4, .int .i64 4, .int .i64 4, .int .i64 4, .int .i64 5, .int .i64 5, .int .i64 6, .int .i64 6, .int .i64 6] 3) = W := ⟨_, rfl⟩
  obtain ⟨ab, hab⟩ : ∃ n, w1.heap.size = n := ⟨_, rfl⟩
  obtain ⟨bb, hbb⟩ : ∃ n, ab + 1 = n := ⟨_, rfl⟩
  rw [hwz] at hEz hA hB
  rw [hab] at hA hB
  rw [hbb] at hB
  have a1 := blk_cells (xs := OPS13.map fun t => Value.string (bs t)) hA i (by rw [List.getElem?_map, HGE.out.1]; rfl)
  have a2 := blk_cells (xs := OPS13.map fun t => Value.string (bs t)) hA k (by rw [List.getElem?_map, HGE.out.2.1]; rfl)
  have a3 := blk_cells (xs := tightQ.map fun t => Value.int .i64 (t : Nat)) hB i (by rw [List.getElem?_map, HGE.out.2.2.1]; rfl)
  have a4 := blk_cells (xs := tightQ.map fun t => Value.int .i64 (t : Nat)) hB k (by rw [List.getElem?_map, HGE.out.2.2.2]; rfl)
  have hla := blk_lt hA
  have hlb := blk_lt hB
  have HE1 := Lib.hid (hX1.trans hEz)
  clear hX1 hEz hA hB HGE
  go_wp2_with fail
  clear hwz
  refine rg_begin (S := Sx wz) (by kernel_rfl) (Sx.begin _) ?_
  have hSp : Sx wz (World.drew wz) := (Sx.begin _)
  refine rg_take 0 (some 29) (.slice (some ⟨ab, 0, none⟩) 13 13) (oi := { dst := some 29, op := Go.Op.move (Go.Operand.tmp 5), type := 23, pos := "outright.go:19", after := #[], guard := none }) rfl rfl (by kernel_rfl) (by kernel_rfl) (by kernel_rfl) (fun _ _ _ h => h) hSp (by rfl) (fun w' hs => by rfl) ?_
  simp only [Act.put, List.setIfInBounds_toArray, List.set_cons_zero, List.set_cons_succ]
  refine rg_take 1 (some 30) (.int .i64 (i : Nat)) (oi := { dst := some 30, op := Go.Op.move (Go.Operand.tmp 7), type := 3, pos := "outright.go:19", after := #[], guard := none }) rfl rfl (by kernel_rfl) (by kernel_rfl) (by kernel_rfl) (fun _ _ _ h => h) hSp (by rfl) (fun w' hs => by rfl) ?_
  simp only [Act.put, List.setIfInBounds_toArray, List.set_cons_zero, List.set_cons_succ]
  refine rg_take 2 (some 31) (.pointer (some ⟨ab, i, none⟩)) (oi := { dst := some 31, op := Go.Op.indexAddr 23 (Go.Operand.tmp 29) (Go.Operand.tmp 30), type := 0, pos := "outright.go:19", after := #[{ on := 0, ground := Go.Ground.data }, { on := 1, ground := Go.Ground.data }], guard := none }) rfl rfl (by kernel_rfl) (by kernel_rfl) (by kernel_rfl) (fun _ _ _ h => h) hSp (by rfl) (fun w' hs => by first | rfl | go_simp) ?_
  simp only [Act.put, List.setIfInBounds_toArray, List.set_cons_zero, List.set_cons_succ]
  refine rg_take 3 (some 32) (.string (bs O1)) (oi := { dst := some 32, op := Go.Op.load 9 (Go.Operand.tmp 31), type := 9, pos := "outright.go:19", after := #[{ on := 2, ground := Go.Ground.data }], guard := none }) rfl rfl (by kernel_rfl) (by kernel_rfl) (by kernel_rfl) (fun _ _ _ h => h) hSp (by rfl) (fun w' hs => by (have h0 := hs.cell hla a1; go_simp)) ?_
  simp only [Act.put, List.setIfInBounds_toArray, List.set_cons_zero, List.set_cons_succ]
  refine rg_take 4 (some 33) (.string (bs (([49, 32] : List UInt8) ++ O1))) (oi := { dst := some 33, op := Go.Op.binOp Go.BinOp.add 9 (Go.Operand.const (Go.Value.string { data := #[49, 32] })) (Go.Operand.tmp 32) 9, type := 9, pos := "outright.go:19", after := #[{ on := 3, ground := Go.Ground.data }], guard := none }) rfl rfl (by kernel_rfl) (by kernel_rfl) (by kernel_rfl) (fun _ _ _ h => h) hSp (by rfl) (fun w' hs => by exact exec_sadd (s := ([49, 32] : List UInt8)) (t := O1) rfl rfl rfl (by (try simp only [List.length_append, List.length_cons, List.length_nil]); omega) _) ?_
  simp only [Act.put, List.setIfInBounds_toArray, List.set_cons_zero, List.set_cons_succ]
  refine rg_take 5 (some 34) (.string (bs (((([49, 32] : List UInt8) ++ O1)) ++ ([32, 50, 32] : List UInt8)))) (oi := { dst := some 34, op := Go.Op.binOp Go.BinOp.add 9 (Go.Operand.tmp 33) (Go.Operand.const (Go.Value.string { data := #[32, 50, 32] })) 9, type := 9, pos := "outright.go:19", after := #[{ on := 4, ground := Go.Ground.data }], guard := none }) rfl rfl (by kernel_rfl) (by kernel_rfl) (by kernel_rfl) (fun _ _ _ h => h) hSp (by rfl) (fun w' hs => by exact exec_sadd (s := (([49, 32] : List UInt8) ++ O1)) (t := ([32, 50, 32] : List UInt8)) rfl rfl rfl (by (try simp only [List.length_append, List.length_cons, List.length_nil]); omega) _) ?_
  simp only [Act.put, List.setIfInBounds_toArray, List.set_cons_zero, List.set_cons_succ]
  refine rg_take 6 (some 35) (.slice (some ⟨ab, 0, none⟩) 13 13) (oi := { dst := some 35, op := Go.Op.move (Go.Operand.tmp 5), type := 23, pos := "outright.go:19", after := #[], guard := none }) rfl rfl (by kernel_rfl) (by kernel_rfl) (by kernel_rfl) (fun _ _ _ h => h) hSp (by rfl) (fun w' hs => by rfl) ?_
  simp only [Act.put, List.setIfInBounds_toArray, List.set_cons_zero, List.set_cons_succ]
  refine rg_take 7 (some 36) (.int .i64 (k : Nat)) (oi := { dst := some 36, op := Go.Op.move (Go.Operand.tmp 8), type := 3, pos := "outright.go:19", after := #[], guard := none }) rfl rfl (by kernel_rfl) (by kernel_rfl) (by kernel_rfl) (fun _ _ _ h => h) hSp (by rfl) (fun w' hs => by rfl) ?_
  simp only [Act.put, List.setIfInBounds_toArray, List.set_cons_zero, List.set_cons_succ]
  refine rg_take 8 (some 37) (.pointer (some ⟨ab, k, none⟩)) (oi := { dst := some 37, op := Go.Op.indexAddr 23 (Go.Operand.tmp 35) (Go.Operand.tmp 36), type := 0, pos := "outright.go:19", after := #[{ on := 6, ground := Go.Ground.data }, { on := 7, ground := Go.Ground.data }], guard := none }) rfl rfl (by kernel_rfl) (by kernel_rfl) (by kernel_rfl) (fun _ _ _ h => h) hSp (by rfl) (fun w' hs => by first | rfl | go_simp) ?_
  simp only [Act.put, List.setIfInBounds_toArray, List.set_cons_zero, List.set_cons_succ]
  refine rg_take 9 (some 38) (.string (bs O2)) (oi := { dst := some 38, op := Go.Op.load 9 (Go.Operand.tmp 37), type := 9, pos := "outright.go:19", after := #[{ on := 8, ground := Go.Ground.data }], guard := none }) rfl rfl (by kernel_rfl) (by kernel_rfl) (by kernel_rfl) (fun _ _ _ h => h) hSp (by rfl) (fun w' hs => by (have h0 := hs.cell hla a2; go_simp)) ?_
  simp only [Act.put, List.setIfInBounds_toArray, List.set_cons_zero, List.set_cons_succ]
  refine rg_take 10 (some 39) (.string (bs (((((([49, 32] : List UInt8) ++ O1)) ++ ([32, 50, 32] : List UInt8))) ++ O2))) (oi := { dst := some 39, op := Go.Op.binOp Go.BinOp.add 9 (Go.Operand.tmp 34) (Go.Operand.tmp 38) 9, type := 9, pos := "outright.go:19", after := #[{ on := 5, ground := Go.Ground.data }, { on := 9, ground := Go.Ground.data }], guard := none }) rfl rfl (by kernel_rfl) (by kernel_rfl) (by kernel_rfl) (fun _ _ _ h => h) hSp (by rfl) (fun w' hs => by exact exec_sadd (s := (((([49, 32] : List UInt8) ++ O1)) ++ ([32, 50, 32] : List UInt8))) (t := O2) rfl rfl rfl (by (try simp only [List.length_append, List.length_cons, List.length_nil]); omega) _) ?_
  simp only [Act.put, List.setIfInBounds_toArray, List.set_cons_zero, List.set_cons_succ]
  refine rg_take 11 (some 40) (.string (bs (((((((([49, 32] : List UInt8) ++ O1)) ++ ([32, 50, 32] : List UInt8))) ++ O2)) ++ ([32, 51] : List UInt8)))) (oi := { dst := some 40, op := Go.Op.binOp Go.BinOp.add 9 (Go.Operand.tmp 39) (Go.Operand.const (Go.Value.string { data := #[32, 51] })) 9, type := 9, pos := "outright.go:19", after := #[{ on := 10, ground := Go.Ground.data }], guard := none }) rfl rfl (by kernel_rfl) (by kernel_rfl) (by kernel_rfl) (fun _ _ _ h => h) hSp (by rfl) (fun w' hs => by exact exec_sadd (s := (((((([49, 32] : List UInt8) ++ O1)) ++ ([32, 50, 32] : List UInt8))) ++ O2)) (t := ([32, 51] : List UInt8)) rfl rfl rfl (by (try simp only [List.length_append, List.length_cons, List.length_nil]); omega) _) ?_
  simp only [Act.put, List.setIfInBounds_toArray, List.set_cons_zero, List.set_cons_succ]
  refine rg_two 12 16 (by kernel_rfl) ?_ ?_
  refine tk_callp 12 (some 41) 7 #[.string (bs (((((((([49, 32] : List UInt8) ++ O1)) ++ ([32, 50, 32] : List UInt8))) ++ O2)) ++ ([32, 51] : List UInt8)))] (oi := { dst := some 41, op := Go.Op.call { callee := Go.Callee.value (Go.Operand.func 7), args := #[Go.Operand.tmp 40], argTypes := #[9] }, type := 32, pos := "outright.go:19", after := #[{ on := 11, ground := Go.Ground.data }], guard := none }) rfl rfl (by rfl) (fun w' => by first | rfl | go_simp) ?_
  refine (H1.out (World.drew wz) (HE1.out.trans hSp)).mono ?_
  rintro e w7 ⟨hX, v, rfl, aa, ac, ad, ae, rfl, hra, hrs, ho, ht⟩
  have hS7 : Sx wz w7 := Ext.trans hSp hX
  refine .inl ⟨_, rfl, hS7, ?_⟩
  simp only [Act.put, List.setIfInBounds_toArray, List.set_cons_zero, List.set_cons_succ]
  refine rg_take 13 (some 28) (.tuple #[.agg #[.string (bs x.op), .string (bs x.text), .bool x.nan, .int .i64 x.val, .slice aa x.args.length ac, .bool x.abs, .slice ad x.steps.length ae], .nilIface]) (oi := { dst := some 28, op := Go.Op.move (Go.Operand.tmp 41), type := 32, pos := "outright.go:19", after := #[{ on := 12, ground := Go.Ground.data }], guard := none }) rfl rfl (by kernel_rfl) (by kernel_rfl) (by kernel_rfl) (fun _ _ _ h => h) hS7 (by rfl) (fun w' hs => by rfl) ?_
  simp only [Act.put, List.setIfInBounds_toArray, List.set_cons_zero, List.set_cons_succ]
  refine rg_take 14 (some 42) (.agg #[.string (bs x.op), .string (bs x.text), .bool x.nan, .int .i64 x.val, .slice aa x.args.length ac, .bool x.abs, .slice ad x.steps.length ae]) (oi := { dst := some 42, op := Go.Op.extract (Go.Operand.tmp 28) 0, type := 29, pos := "outright.go:19", after := #[{ on := 13, ground := Go.Ground.data }], guard := none }) rfl rfl (by kernel_rfl) (by kernel_rfl) (by kernel_rfl) (fun _ _ _ h => h) hS7 (by rfl) (fun w' hs => by first | rfl | go_simp) ?_
  simp only [Act.put, List.setIfInBounds_toArray, List.set_cons_zero, List.set_cons_succ]
  refine rg_take 15 (some 43) (.nilIface) (oi := { dst := some 43, op := Go.Op.extract (Go.Operand.tmp 28) 1, type := 31, pos := "outright.go:19", after := #[{ on := 13, ground := Go.Ground.data }, { on := 17, ground := Go.Ground.gcOnly Go.Departure.lateStores }], guard := none }) rfl rfl (by kernel_rfl) (by kernel_rfl) (by kernel_rfl) (fun _ _ _ h => h) hS7 (by rfl) (fun w' hs => by first | rfl | go_simp) ?_
  simp only [Act.put, List.setIfInBounds_toArray, List.set_cons_zero, List.set_cons_succ]
  refine rg_one 16 (by kernel_rfl) ?_
  refine tk_new 16 (some 9) (.cells #[.string ⟨#[]⟩, .string ⟨#[]⟩, .bool false, .int .i64 0, .slice none 0 0, .bool false, .slice none 0 0] 29) (fun n => .pointer (some ⟨n, 0, none⟩)) (oi := { dst := some 9, op := Go.Op.alloc 29, type := 0, pos := "outright.go:19", after := #[], guard := none }) rfl rfl (by rfl) (by first | rfl | go_simp) ?_
  intro gb xb egb hEx hzxb hC
  have hSb : Sx wz xb := Ext.trans hS7 hEx
  refine ⟨hSb, ?_⟩
  simp only [Act.put, List.setIfInBounds_toArray, List.set_cons_zero, List.set_cons_succ]
  obtain ⟨hb8, hG8, hs8⟩ := stc7_blk (v0 := .string (bs x.op)) (v1 := .string (bs x.text)) (v2 := .bool x.nan) (v3 := .int .i64 x.val) (v4 := .slice aa x.args.length ac) (v5 := .bool x.abs) (v6 := .slice ad x.steps.length ae) hC
  have hgz : wz.heap.size ≤ gb := by rw [egb]; exact hS7.size
  have hS8 : Sx wz (stc7 xb gb (.string (bs x.op)) (.string (bs x.text)) (.bool x.nan) (.int .i64 x.val) (.slice aa x.args.length ac) (.bool x.abs) (.slice ad x.steps.length ae)) := Ext.gr hSb hG8 hgz
  refine rg_write 17 none (stc7 xb gb (.string (bs x.op)) (.string (bs x.text)) (.bool x.nan) (.int .i64 x.val) (.slice aa x.args.length ac) (.bool x.abs) (.slice ad x.steps.length ae)) (oi := { dst := none, op := Go.Op.store 29 (Go.Operand.tmp 9) (Go.Operand.tmp 42), type := 0, pos := "outright.go:19", after := #[{ on := 16, ground := Go.Ground.data }, { on := 14, ground := Go.Ground.data }, { on := 12, ground := Go.Ground.chain }, { on := 0, ground := Go.Ground.phase }, { on := 1, ground := Go.Ground.phase }, { on := 2, ground := Go.Ground.phase }, { on := 3, ground := Go.Ground.phase }, { on := 4, ground := Go.Ground.phase }, { on := 5, ground := Go.Ground.phase }, { on := 6, ground := Go.Ground.phase }, { on := 7, ground := Go.Ground.phase }, { on := 8, ground := Go.Ground.phase }, { on := 9, ground := Go.Ground.phase }, { on := 10, ground := Go.Ground.phase }, { on := 11, ground := Go.Ground.phase }, { on := 12, ground := Go.Ground.phase }, { on := 13, ground := Go.Ground.phase }, { on := 14, ground := Go.Ground.phase }, { on := 15, ground := Go.Ground.textOnly Go.Departure.lateStores }, { on := 16, ground := Go.Ground.phase }], guard := none }) rfl rfl (by kernel_rfl) (by rfl) (exec_store rfl (store_ex hC (bs x.op) (bs x.text) x.nan x.val aa x.args.length ac x.abs ad x.steps.length ae)) hS8 ?_
  simp only [Act.put, List.setIfInBounds_toArray, List.set_cons_zero, List.set_cons_succ]
  refine rg_take 18 (some 10) (.nilIface) (oi := { dst := some 10, op := Go.Op.assign (Go.Operand.tmp 43), type := 31, pos := "outright.go:19", after := #[{ on := 15, ground := Go.Ground.data }, { on := 17, ground := Go.Ground.chain }, { on := 0, ground := Go.Ground.phase }, { on := 1, ground := Go.Ground.phase }, { on := 2, ground := Go.Ground.phase }, { on := 3, ground := Go.Ground.phase }, { on := 4, ground := Go.Ground.phase }, { on := 5, ground := Go.Ground.phase }, { on := 6, ground := Go.Ground.phase }, { on := 7, ground := Go.Ground.phase }, { on := 8, ground := Go.Ground.phase }, { on := 9, ground := Go.Ground.phase }, { on := 10, ground := Go.Ground.phase }, { on := 11, ground := Go.Ground.phase }, { on := 12, ground := Go.Ground.phase }, { on := 13, ground := Go.Ground.phase }, { on := 14, ground := Go.Ground.phase }, { on := 15, ground := Go.Ground.phase }, { on := 16, ground := Go.Ground.phase }, { on := 17, ground := Go.Ground.phase }], guard := none }) rfl rfl (by kernel_rfl) (by kernel_rfl) (by kernel_rfl) (fun _ _ _ h => h) hS8 (by rfl) (fun w' hs => by rfl) ?_
  simp only [Act.put, List.setIfInBounds_toArray, List.set_cons_zero, List.set_cons_succ]
  refine rg_done (by kernel_rfl) ?_
  obtain ⟨w8, hw8⟩ : ∃ w, stc7 xb gb (.string (bs x.op)) (.string (bs x.text)) (.bool x.nan) (.int .i64 x.val) (.slice aa x.args.length ac) (.bool x.abs) (.slice ad x.steps.length ae) = w := ⟨_, rfl⟩
  rw [hw8] at hb8 hG8 hs8 hS8 ⊢
  have HR := Lib.hid (And.intro (((hra.lt.ext hEx).gr (fun b hb => by omega) hG8)) (And.intro ((hrs.lt.ext hEx).gr (fun b hb => by omega) hG8) (And.intro hb8 hS8)))
  clear hra hrs hEx hG8 hs8 hw8 hSb hC hzxb egb hS7 hX hgz hb8 hS8 hSp ho ht
  clear xb
  obtain ⟨wq, hwq⟩ : ∃ w, w = w8 := ⟨_, rfl⟩
  subst hwq
  rotate_left
  refine tk_new 16 (some 9) (.cells #[.string ⟨#[]⟩, .string ⟨#[]⟩, .bool false, .int .i64 0, .slice none 0 0, .bool false, .slice none 0 0] 29) (fun n => .pointer (some ⟨n, 0, none⟩)) (oi := { dst := some 9, op := Go.Op.alloc 29, type := 0, pos := "outright.go:19", after := #[], guard := none }) rfl rfl (by rfl) (by first | rfl | go_simp) ?_
  intro gb xb egb hEx hzxb hC
  have hSb : Sx wz xb := Ext.trans hSp hEx
  refine ⟨hSb, ?_⟩
  simp only [Act.put, List.setIfInBounds_toArray, List.set_cons_zero, List.set_cons_succ]
  refine rg_one 12 (by kernel_rfl) ?_
  refine tk_callp 12 (some 41) 7 #[.string (bs (((((((([49, 32] : List UInt8) ++ O1)) ++ ([32, 50, 32] : List UInt8))) ++ O2)) ++ ([32, 51] : List UInt8)))] (oi := { dst := some 41, op := Go.Op.call { callee := Go.Callee.value (Go.Operand.func 7), args := #[Go.Operand.tmp 40], argTypes := #[9] }, type := 32, pos := "outright.go:19", after := #[{ on := 11, ground := Go.Ground.data }], guard := none }) rfl rfl (by rfl) (fun w' => by first | rfl | go_simp) ?_
  refine (H1.out xb (HE1.out.trans hSb)).mono ?_
  rintro e w7 ⟨hX, v, rfl, aa, ac, ad, ae, rfl, hra, hrs, ho, ht⟩
  have hS7 : Sx wz w7 := Ext.trans hSb hX
  refine .inl ⟨_, rfl, hS7, ?_⟩
  simp only [Act.put, List.setIfInBounds_toArray, List.set_cons_zero, List.set_cons_succ]
  have hC7 := (Below.block hX _ (blk_lt hC)).trans hC
  refine rg_take 13 (some 28) (.tuple #[.agg #[.string (bs x.op), .string (bs x.text), .bool x.nan, .int .i64 x.val, .slice aa x.args.length ac, .bool x.abs, .slice ad x.steps.length ae], .nilIface]) (oi := { dst := some 28, op := Go.Op.move (Go.Operand.tmp 41), type := 32, pos := "outright.go:19", after := #[{ on := 12, ground := Go.Ground.data }], guard := none }) rfl rfl (by kernel_rfl) (by kernel_rfl) (by kernel_rfl) (fun _ _ _ h => h) hS7 (by rfl) (fun w' hs => by rfl) ?_
  simp only [Act.put, List.setIfInBounds_toArray, List.set_cons_zero, List.set_cons_succ]
  refine rg_take 14 (some 42) (.agg #[.string (bs x.op), .string (bs x.text), .bool x.nan, .int .i64 x.val, .slice aa x.args.length ac, .bool x.abs, .slice ad x.steps.length ae]) (oi := { dst := some 42, op := Go.Op.extract (Go.Operand.tmp 28) 0, type := 29, pos := "outright.go:19", after := #[{ on := 13, ground := Go.Ground.data }], guard := none }) rfl rfl (by kernel_rfl) (by kernel_rfl) (by kernel_rfl) (fun _ _ _ h => h) hS7 (by rfl) (fun w' hs => by first | rfl | go_simp) ?_
  simp only [Act.put, List.setIfInBounds_toArray, List.set_cons_zero, List.set_cons_succ]
  refine rg_take 15 (some 43) (.nilIface) (oi := { dst := some 43, op := Go.Op.extract (Go.Operand.tmp 28) 1, type := 31, pos := "outright.go:19", after := #[{ on := 13, ground := Go.Ground.data }, { on := 17, ground := Go.Ground.gcOnly Go.Departure.lateStores }], guard := none }) rfl rfl (by kernel_rfl) (by kernel_rfl) (by kernel_rfl) (fun _ _ _ h => h) hS7 (by rfl) (fun w' hs => by first | rfl | go_simp) ?_
  simp only [Act.put, List.setIfInBounds_toArray, List.set_cons_zero, List.set_cons_succ]
  obtain ⟨hb8, hG8, hs8⟩ := stc7_blk (v0 := .string (bs x.op)) (v1 := .string (bs x.text)) (v2 := .bool x.nan) (v3 := .int .i64 x.val) (v4 := .slice aa x.args.length ac) (v5 := .bool x.abs) (v6 := .slice ad x.steps.length ae) hC7
  have hgz : wz.heap.size ≤ gb := by rw [egb]; exact hSp.size
  have hS8 : Sx wz (stc7 w7 gb (.string (bs x.op)) (.string (bs x.text)) (.bool x.nan) (.int .i64 x.val) (.slice aa x.args.length ac) (.bool x.abs) (.slice ad x.steps.length ae)) := Ext.gr hS7 hG8 hgz
  refine rg_write 17 none (stc7 w7 gb (.string (bs x.op)) (.string (bs x.text)) (.bool x.nan) (.int .i64 x.val) (.slice aa x.args.length ac) (.bool x.abs) (.slice ad x.steps.length ae)) (oi := { dst := none, op := Go.Op.store 29 (Go.Operand.tmp 9) (Go.Operand.tmp 42), type := 0, pos := "outright.go:19", after := #[{ on := 16, ground := Go.Ground.data }, { on := 14, ground := Go.Ground.data }, { on := 12, ground := Go.Ground.chain }, { on := 0, ground := Go.Ground.phase }, { on := 1, ground := Go.Ground.phase }, { on := 2, ground := Go.Ground.phase }, { on := 3, ground := Go.Ground.phase }, { on := 4, ground := Go.Ground.phase }, { on := 5, ground := Go.Ground.phase }, { on := 6, ground := Go.Ground.phase }, { on := 7, ground := Go.Ground.phase }, { on := 8, ground := Go.Ground.phase }, { on := 9, ground := Go.Ground.phase }, { on := 10, ground := Go.Ground.phase }, { on := 11, ground := Go.Ground.phase }, { on := 12, ground := Go.Ground.phase }, { on := 13, ground := Go.Ground.phase }, { on := 14, ground := Go.Ground.phase }, { on := 15, ground := Go.Ground.textOnly Go.Departure.lateStores }, { on := 16, ground := Go.Ground.phase }], guard := none }) rfl rfl (by kernel_rfl) (by rfl) (exec_store rfl (store_ex hC7 (bs x.op) (bs x.text) x.nan x.val aa x.args.length ac x.abs ad x.steps.length ae)) hS8 ?_
  simp only [Act.put, List.setIfInBounds_toArray, List.set_cons_zero, List.set_cons_succ]
  refine rg_take 18 (some 10) (.nilIface) (oi := { dst := some 10, op := Go.Op.assign (Go.Operand.tmp 43), type := 31, pos := "outright.go:19", after := #[{ on := 15, ground := Go.Ground.data }, { on := 17, ground := Go.Ground.chain }, { on := 0, ground := Go.Ground.phase }, { on := 1, ground := Go.Ground.phase }, { on := 2, ground := Go.Ground.phase }, { on := 3, ground := Go.Ground.phase }, { on := 4, ground := Go.Ground.phase }, { on := 5, ground := Go.Ground.phase }, { on := 6, ground := Go.Ground.phase }, { on := 7, ground := Go.Ground.phase }, { on := 8, ground := Go.Ground.phase }, { on := 9, ground := Go.Ground.phase }, { on := 10, ground := Go.Ground.phase }, { on := 11, ground := Go.Ground.phase }, { on := 12, ground := Go.Ground.phase }, { on := 13, ground := Go.Ground.phase }, { on := 14, ground := Go.Ground.phase }, { on := 15, ground := Go.Ground.phase }, { on := 16, ground := Go.Ground.phase }, { on := 17, ground := Go.Ground.phase }], guard := none }) rfl rfl (by kernel_rfl) (by kernel_rfl) (by kernel_rfl) (fun _ _ _ h => h) hS8 (by rfl) (fun w' hs => by rfl) ?_
  simp only [Act.put, List.setIfInBounds_toArray, List.set_cons_zero, List.set_cons_succ]
  refine rg_done (by kernel_rfl) ?_
  obtain ⟨w8, hw8⟩ : ∃ w, stc7 w7 gb (.string (bs x.op)) (.string (bs x.text)) (.bool x.nan) (.int .i64 x.val) (.slice aa x.args.length ac) (.bool x.abs) (.slice ad x.steps.length ae) = w := ⟨_, rfl⟩
  rw [hw8] at hb8 hG8 hs8 hS8 ⊢
  have hgx := blk_lt hC
  have HR := Lib.hid (And.intro (hra.gr (fun b hb => by omega) hG8) (And.intro (hrs.gr (fun b hb => by omega) hG8) (And.intro hb8 hS8)))
  clear hra hrs hEx hG8 hs8 hw8 hSb hC hzxb egb hS7 hX hgz hb8 hS8 hgx hC7 hSp ho ht
  obtain ⟨wq, hwq⟩ : ∃ w, w = w8 := ⟨_, rfl⟩
  subst hwq
  rotate_left
  all_goals
    have HEq := Lib.hid (HE1.out.trans HR.out.2.2.2)
    have hal : ((x.args.length : Int) != 2) = false := by rw [hxn]; rfl
    obtain ⟨k0, k1, k2, k3, k4, k5, k6⟩ := cells7 HR.out.2.2.1
    have hlg := blk_lt HR.out.2.2.1
    have b1 := HR.out.2.2.2.keep hla a1
    have b2 := HR.out.2.2.2.keep hla a2
    have b3 := HR.out.2.2.2.keep hlb a3
    have b4 := HR.out.2.2.2.keep hlb a4
    replace hla := Nat.lt_of_lt_of_le hla HR.out.2.2.2.size
    replace hlb := Nat.lt_of_lt_of_le hlb HR.out.2.2.2.size
    have HC := Lib.hid (code_nil wq)
    clear a1 a2 a3 a4 hxn
    go_wp2_with fail
    refine HC.out.mono ?_
    rintro e wv ⟨rfl, hX9⟩
    have m4 := hX9.keep hlg k4
    replace b1 := hX9.keep hla b1; replace b2 := hX9.keep hla b2; replace b3 := hX9.keep hlb b3; replace b4 := hX9.keep hlb b4
    replace hla := Nat.lt_of_lt_of_le hla hX9.size
    replace hlb := Nat.lt_of_lt_of_le hlb hX9.size
    have HV9 := Lib.hid hX9
    clear HC k0 k1 k2 k3 k4 k5 k6
    go_wp2_with fail
    refine rg_begin (S := Sx wv) (by kernel_rfl) (Sx.begin _) ?_
    have hSq10 : Sx wv (World.drew wv) := (Sx.begin _)
    refine rg_take 0 (some 53) (.slice (some ⟨ab, 0, none⟩) 13 13) (oi := { dst := some 53, op := Go.Op.move (Go.Operand.tmp 5), type := 23, pos := "outright.go:23", after := #[], guard := none }) rfl rfl (by kernel_rfl) (by kernel_rfl) (by kernel_rfl) (fun _ _ _ h => h) hSq10 (by rfl) (fun w' hs => by rfl) ?_
    simp only [Act.put, List.setIfInBounds_toArray, List.set_cons_zero, List.set_cons_succ]
    refine rg_take 1 (some 54) (.int .i64 (i : Nat)) (oi := { dst := some 54, op := Go.Op.move (Go.Operand.tmp 7), type := 3, pos := "outright.go:23", after := #[], guard := none }) rfl rfl (by kernel_rfl) (by kernel_rfl) (by kernel_rfl) (fun _ _ _ h => h) hSq10 (by rfl) (fun w' hs => by rfl) ?_
    simp only [Act.put, List.setIfInBounds_toArray, List.set_cons_zero, List.set_cons_succ]
    refine rg_take 2 (some 55) (.pointer (some ⟨ab, i, none⟩)) (oi := { dst := some 55, op := Go.Op.indexAddr 23 (Go.Operand.tmp 53) (Go.Operand.tmp 54), type := 0, pos := "outright.go:23", after := #[{ on := 0, ground := Go.Ground.data }, { on := 1, ground := Go.Ground.data }], guard := none }) rfl rfl (by kernel_rfl) (by kernel_rfl) (by kernel_rfl) (fun _ _ _ h => h) hSq10 (by rfl) (fun w' hs => by first | rfl | go_simp) ?_
    simp only [Act.put, List.setIfInBounds_toArray, List.set_cons_zero, List.set_cons_succ]
    refine rg_take 3 (some 56) (.string (bs O1)) (oi := { dst := some 56, op := Go.Op.load 9 (Go.Operand.tmp 55), type := 9, pos := "outright.go:23", after := #[{ on := 2, ground := Go.Ground.data }], guard := none }) rfl rfl (by kernel_rfl) (by kernel_rfl) (by kernel_rfl) (fun _ _ _ h => h) hSq10 (by rfl) (fun w' hs => by (have h0 := hs.cell hla b1; go_simp)) ?_
    simp only [Act.put, List.setIfInBounds_toArray, List.set_cons_zero, List.set_cons_succ]
    refine rg_take 4 (some 57) (.string (bs (([40, 40, 49, 32] : List UInt8) ++ O1))) (oi := { dst := some 57, op := Go.Op.binOp Go.BinOp.add 9 (Go.Operand.const (Go.Value.string { data := #[40, 40, 49, 32] })) (Go.Operand.tmp 56) 9, type := 9, pos := "outright.go:23", after := #[{ on := 3, ground := Go.Ground.data }], guard := none }) rfl rfl (by kernel_rfl) (by kernel_rfl) (by kernel_rfl) (fun _ _ _ h => h) hSq10 (by rfl) (fun w' hs => by exact exec_sadd (s := ([40, 40, 49, 32] : List UInt8)) (t := O1) rfl rfl rfl (by (try simp only [List.length_append, List.length_cons, List.length_nil]); omega) _) ?_
    simp only [Act.put, List.setIfInBounds_toArray, List.set_cons_zero, List.set_cons_succ]
    refine rg_take 5 (some 58) (.string (bs (((([40, 40, 49, 32] : List UInt8) ++ O1)) ++ ([32, 50, 41, 32] : List UInt8)))) (oi := { dst := some 58, op := Go.Op.binOp Go.BinOp.add 9 (Go.Operand.tmp 57) (Go.Operand.const (Go.Value.string { data := #[32, 50, 41, 32] })) 9, type := 9, pos := "outright.go:23", after := #[{ on := 4, ground := Go.Ground.data }], guard := none }) rfl rfl (by kernel_rfl) (by kernel_rfl) (by kernel_rfl) (fun _ _ _ h => h) hSq10 (by rfl) (fun w' hs => by exact exec_sadd (s := (([40, 40, 49, 32] : List UInt8) ++ O1)) (t := ([32, 50, 41, 32] : List UInt8)) rfl rfl rfl (by (try simp only [List.length_append, List.length_cons, List.length_nil]); omega) _) ?_
    simp only [Act.put, List.setIfInBounds_toArray, List.set_cons_zero, List.set_cons_succ]
    refine rg_take 6 (some 59) (.slice (some ⟨ab, 0, none⟩) 13 13) (oi := { dst := some 59, op := Go.Op.move (Go.Operand.tmp 5), type := 23, pos := "outright.go:23", after := #[], guard := none }) rfl rfl (by kernel_rfl) (by kernel_rfl) (by kernel_rfl) (fun _ _ _ h => h) hSq10 (by rfl) (fun w' hs => by rfl) ?_
    simp only [Act.put, List.setIfInBounds_toArray, List.set_cons_zero, List.set_cons_succ]
    refine rg_take 7 (some 60) (.int .i64 (k : Nat)) (oi := { dst := some 60, op := Go.Op.move (Go.Operand.tmp 8), type := 3, pos := "outright.go:23", after := #[], guard := none }) rfl rfl (by kernel_rfl) (by kernel_rfl) (by kernel_rfl) (fun _ _ _ h => h) hSq10 (by rfl) (fun w' hs => by rfl) ?_
    simp only [Act.put, List.setIfInBounds_toArray, List.set_cons_zero, List.set_cons_succ]
    refine rg_take 8 (some 61) (.pointer (some ⟨ab, k, none⟩)) (oi := { dst := some 61, op := Go.Op.indexAddr 23 (Go.Operand.tmp 59) (Go.Operand.tmp 60), type := 0, pos := "outright.go:23", after := #[{ on := 6, ground := Go.Ground.data }, { on := 7, ground := Go.Ground.data }], guard := none }) rfl rfl (by kernel_rfl) (by kernel_rfl) (by kernel_rfl) (fun _ _ _ h => h) hSq10 (by rfl) (fun w' hs => by first | rfl | go_simp) ?_
    simp only [Act.put, List.setIfInBounds_toArray, List.set_cons_zero, List.set_cons_succ]
    refine rg_take 9 (some 62) (.string (bs O2)) (oi := { dst := some 62, op := Go.Op.load 9 (Go.Operand.tmp 61), type := 9, pos := "outright.go:23", after := #[{ on := 8, ground := Go.Ground.data }], guard := none }) rfl rfl (by kernel_rfl) (by kernel_rfl) (by kernel_rfl) (fun _ _ _ h => h) hSq10 (by rfl) (fun w' hs => by (have h0 := hs.cell hla b2; go_simp)) ?_
    simp only [Act.put, List.setIfInBounds_toArray, List.set_cons_zero, List.set_cons_succ]
    refine rg_take 10 (some 63) (.string (bs (((((([40, 40, 49, 32] : List UInt8) ++ O1)) ++ ([32, 50, 41, 32] : List UInt8))) ++ O2))) (oi := { dst := some 63, op := Go.Op.binOp Go.BinOp.add 9 (Go.Operand.tmp 58) (Go.Operand.tmp 62) 9, type := 9, pos := "outright.go:23", after := #[{ on := 5, ground := Go.Ground.data }, { on := 9, ground := Go.Ground.data }], guard := none }) rfl rfl (by kernel_rfl) (by kernel_rfl) (by kernel_rfl) (fun _ _ _ h => h) hSq10 (by rfl) (fun w' hs => by exact exec_sadd (s := (((([40, 40, 49, 32] : List UInt8) ++ O1)) ++ ([32, 50, 41, 32] : List UInt8))) (t := O2) rfl rfl rfl (by (try simp only [List.length_append, List.length_cons, List.length_nil]); omega) _) ?_
    simp only [Act.put, List.setIfInBounds_toArray, List.set_cons_zero, List.set_cons_succ]
    refine rg_take 11 (some 64) (.string (bs (((((((([40, 40, 49, 32] : List UInt8) ++ O1)) ++ ([32, 50, 41, 32] : List UInt8))) ++ O2)) ++ ([32, 51, 41] : List UInt8)))) (oi := { dst := some 64, op := Go.Op.binOp Go.BinOp.add 9 (Go.Operand.tmp 63) (Go.Operand.const (Go.Value.string { data := #[32, 51, 41] })) 9, type := 9, pos := "outright.go:23", after := #[{ on := 10, ground := Go.Ground.data }], guard := none }) rfl rfl (by kernel_rfl) (by kernel_rfl) (by kernel_rfl) (fun _ _ _ h => h) hSq10 (by rfl) (fun w' hs => by exact exec_sadd (s := (((((([40, 40, 49, 32] : List UInt8) ++ O1)) ++ ([32, 50, 41, 32] : List UInt8))) ++ O2)) (t := ([32, 51, 41] : List UInt8)) rfl rfl rfl (by (try simp only [List.length_append, List.length_cons, List.length_nil]); omega) _) ?_
    simp only [Act.put, List.setIfInBounds_toArray, List.set_cons_zero, List.set_cons_succ]
    refine rg_take 12 (some 11) (.string (bs (((((((([40, 40, 49, 32] : List UInt8) ++ O1)) ++ ([32, 50, 41, 32] : List UInt8))) ++ O2)) ++ ([32, 51, 41] : List UInt8)))) (oi := { dst := some 11, op := Go.Op.assign (Go.Operand.tmp 64), type := 9, pos := "outright.go:23", after := #[{ on := 11, ground := Go.Ground.data }, { on := 0, ground := Go.Ground.phase }, { on := 1, ground := Go.Ground.phase }, { on := 2, ground := Go.Ground.phase }, { on := 3, ground := Go.Ground.phase }, { on := 4, ground := Go.Ground.phase }, { on := 5, ground := Go.Ground.phase }, { on := 6, ground := Go.Ground.phase }, { on := 7, ground := Go.Ground.phase }, { on := 8, ground := Go.Ground.phase }, { on := 9, ground := Go.Ground.phase }, { on := 10, ground := Go.Ground.phase }, { on := 11, ground := Go.Ground.phase }], guard := none }) rfl rfl (by kernel_rfl) (by kernel_rfl) (by kernel_rfl) (fun _ _ _ h => h) hSq10 (by rfl) (fun w' hs => by rfl) ?_
    simp only [Act.put, List.setIfInBounds_toArray, List.set_cons_zero, List.set_cons_succ]
    refine rg_done (by kernel_rfl) ?_
    obtain ⟨wv2, hwv2⟩ : ∃ w, World.drew wv = w := ⟨_, rfl⟩
    have hEwv2 : Ext wv wv2 := by rw [← hwv2]; exact (Ext.refl wv).drew
    rw [hwv2]
    replace b1 := hEwv2.keep hla b1; replace b2 := hEwv2.keep hla b2; replace b3 := hEwv2.keep hlb b3; replace b4 := hEwv2.keep hlb b4
    replace hla := Nat.lt_of_lt_of_le hla hEwv2.size
    replace hlb := Nat.lt_of_lt_of_le hlb hEwv2.size
    clear hwv2
    go_wp2_with fail
    by_cases hT : T1 < T2
    · refine rg_begin (S := Sx wv2) (by kernel_rfl) (Sx.begin _) ?_
      have hSq11 : Sx wv2 (World.drew wv2) := (Sx.begin _)
      refine rg_take 0 (some 65) (.slice (some ⟨bb, 0, none⟩) 13 13) (oi := { dst := some 65, op := Go.Op.move (Go.Operand.tmp 6), type := 38, pos := "outright.go:24", after := #[], guard := none }) rfl rfl (by kernel_rfl) (by kernel_rfl) (by kernel_rfl) (fun _ _ _ h => h) hSq11 (by rfl) (fun w' hs => by rfl) ?_
      simp only [Act.put, List.setIfInBounds_toArray, List.set_cons_zero, List.set_cons_succ]
      refine rg_take 1 (some 66) (.int .i64 (k : Nat)) (oi := { dst := some 66, op := Go.Op.move (Go.Operand.tmp 8), type := 3, pos := "outright.go:24", after := #[], guard := none }) rfl rfl (by kernel_rfl) (by kernel_rfl) (by kernel_rfl) (fun _ _ _ h => h) hSq11 (by rfl) (fun w' hs => by rfl) ?_
      simp only [Act.put, List.setIfInBounds_toArray, List.set_cons_zero, List.set_cons_succ]
      refine rg_take 2 (some 67) (.pointer (some ⟨bb, k, none⟩)) (oi := { dst := some 67, op := Go.Op.indexAddr 38 (Go.Operand.tmp 65) (Go.Operand.tmp 66), type := 0, pos := "outright.go:24", after := #[{ on := 0, ground := Go.Ground.data }, { on := 1, ground := Go.Ground.data }], guard := none }) rfl rfl (by kernel_rfl) (by kernel_rfl) (by kernel_rfl) (fun _ _ _ h => h) hSq11 (by rfl) (fun w' hs => by first | rfl | go_simp) ?_
      simp only [Act.put, List.setIfInBounds_toArray, List.set_cons_zero, List.set_cons_succ]
      refine rg_take 3 (some 68) (.int .i64 (T2 : Nat)) (oi := { dst := some 68, op := Go.Op.load 3 (Go.Operand.tmp 67), type := 3, pos := "outright.go:24", after := #[{ on := 2, ground := Go.Ground.data }], guard := none }) rfl rfl (by kernel_rfl) (by kernel_rfl) (by kernel_rfl) (fun _ _ _ h => h) hSq11 (by rfl) (fun w' hs => by (have h0 := hs.cell hlb b4; go_simp)) ?_
      simp only [Act.put, List.setIfInBounds_toArray, List.set_cons_zero, List.set_cons_succ]
      refine rg_take 4 (some 69) (.slice (some ⟨bb, 0, none⟩) 13 13) (oi := { dst := some 69, op := Go.Op.move (Go.Operand.tmp 6), type := 38, pos := "outright.go:24", after := #[], guard := none }) rfl rfl (by kernel_rfl) (by kernel_rfl) (by kernel_rfl) (fun _ _ _ h => h) hSq11 (by rfl) (fun w' hs => by rfl) ?_
      simp only [Act.put, List.setIfInBounds_toArray, List.set_cons_zero, List.set_cons_succ]
      refine rg_take 5 (some 70) (.int .i64 (i : Nat)) (oi := { dst := some 70, op := Go.Op.move (Go.Operand.tmp 7), type := 3, pos := "outright.go:24", after := #[], guard := none }) rfl rfl (by kernel_rfl) (by kernel_rfl) (by kernel_rfl) (fun _ _ _ h => h) hSq11 (by rfl) (fun w' hs => by rfl) ?_
      simp only [Act.put, List.setIfInBounds_toArray, List.set_cons_zero, List.set_cons_succ]
      refine rg_take 6 (some 71) (.pointer (some ⟨bb, i, none⟩)) (oi := { dst := some 71, op := Go.Op.indexAddr 38 (Go.Operand.tmp 69) (Go.Operand.tmp 70), type := 0, pos := "outright.go:24", after := #[{ on := 4, ground := Go.Ground.data }, { on := 5, ground := Go.Ground.data }], guard := none }) rfl rfl (by kernel_rfl) (by kernel_rfl) (by kernel_rfl) (fun _ _ _ h => h) hSq11 (by rfl) (fun w' hs => by first | rfl | go_simp) ?_
      simp only [Act.put, List.setIfInBounds_toArray, List.set_cons_zero, List.set_cons_succ]
      refine rg_take 7 (some 72) (.int .i64 (T1 : Nat)) (oi := { dst := some 72, op := Go.Op.load 3 (Go.Operand.tmp 71), type := 3, pos := "outright.go:24", after := #[{ on := 6, ground := Go.Ground.data }], guard := none }) rfl rfl (by kernel_rfl) (by kernel_rfl) (by kernel_rfl) (fun _ _ _ h => h) hSq11 (by rfl) (fun w' hs => by (have h0 := hs.cell hlb b3; go_simp)) ?_
      simp only [Act.put, List.setIfInBounds_toArray, List.set_cons_zero, List.set_cons_succ]
      refine rg_take 8 (some 73) (.bool true) (oi := { dst := some 73, op := Go.Op.binOp Go.BinOp.gtr 3 (Go.Operand.tmp 68) (Go.Operand.tmp 72) 3, type := 4, pos := "outright.go:24", after := #[{ on := 3, ground := Go.Ground.data }, { on := 7, ground := Go.Ground.data }], guard := none }) rfl rfl (by kernel_rfl) (by kernel_rfl) (by kernel_rfl) (fun _ _ _ h => h) hSq11 (by rfl) (fun w' hs => by exact exec_gtr (i := T2) (j := T1) rfl rfl rfl (decide_eq_true (by omega)) _) ?_
      simp only [Act.put, List.setIfInBounds_toArray, List.set_cons_zero, List.set_cons_succ]
      refine rg_done (by kernel_rfl) ?_
      obtain ⟨wv3, hwv3⟩ : ∃ w, World.drew wv2 = w := ⟨_, rfl⟩
      have hEwv3 : Ext wv2 wv3 := by rw [← hwv3]; exact (Ext.refl wv2).drew
      rw [hwv3]
      replace b1 := hEwv3.keep hla b1; replace b2 := hEwv3.keep hla b2; replace b3 := hEwv3.keep hlb b3; replace b4 := hEwv3.keep hlb b4
      replace hla := Nat.lt_of_lt_of_le hla hEwv3.size
      replace hlb := Nat.lt_of_lt_of_le hlb hEwv3.size
      clear hwv3
      have H3 := H2.out
      have HX3 := HX.out
      simp only [if_pos hT] at H3 HX3
      go_wp2_with fail
      refine rg_begin (S := Sx wv3) (by kernel_rfl) (Sx.begin _) ?_
      have hSq12 : Sx wv3 (World.drew wv3) := (Sx.begin _)
      refine rg_take 0 (some 74) (.slice (some ⟨ab, 0, none⟩) 13 13) (oi := { dst := some 74, op := Go.Op.move (Go.Operand.tmp 5), type := 23, pos := "outright.go:25", after := #[], guard := none }) rfl rfl (by kernel_rfl) (by kernel_rfl) (by kernel_rfl) (fun _ _ _ h => h) hSq12 (by rfl) (fun w' hs => by rfl) ?_
      simp only [Act.put, List.setIfInBounds_toArray, List.set_cons_zero, List.set_cons_succ]
      refine rg_take 1 (some 75) (.int .i64 (i : Nat)) (oi := { dst := some 75, op := Go.Op.move (Go.Operand.tmp 7), type := 3, pos := "outright.go:25", after := #[], guard := none }) rfl rfl (by kernel_rfl) (by kernel_rfl) (by kernel_rfl) (fun _ _ _ h => h) hSq12 (by rfl) (fun w' hs => by rfl) ?_
      simp only [Act.put, List.setIfInBounds_toArray, List.set_cons_zero, List.set_cons_succ]
      refine rg_take 2 (some 76) (.pointer (some ⟨ab, i, none⟩)) (oi := { dst := some 76, op := Go.Op.indexAddr 23 (Go.Operand.tmp 74) (Go.Operand.tmp 75), type := 0, pos := "outright.go:25", after := #[{ on := 0, ground := Go.Ground.data }, { on := 1, ground := Go.Ground.data }], guard := none }) rfl rfl (by kernel_rfl) (by kernel_rfl) (by kernel_rfl) (fun _ _ _ h => h) hSq12 (by rfl) (fun w' hs => by first | rfl | go_simp) ?_
      simp only [Act.put, List.setIfInBounds_toArray, List.set_cons_zero, List.set_cons_succ]
      refine rg_take 3 (some 77) (.string (bs O1)) (oi := { dst := some 77, op := Go.Op.load 9 (Go.Operand.tmp 76), type := 9, pos := "outright.go:25", after := #[{ on := 2, ground := Go.Ground.data }], guard := none }) rfl rfl (by kernel_rfl) (by kernel_rfl) (by kernel_rfl) (fun _ _ _ h => h) hSq12 (by rfl) (fun w' hs => by (have h0 := hs.cell hla b1; go_simp)) ?_
      simp only [Act.put, List.setIfInBounds_toArray, List.set_cons_zero, List.set_cons_succ]
      refine rg_take 4 (some 78) (.string (bs (([40, 49, 32] : List UInt8) ++ O1))) (oi := { dst := some 78, op := Go.Op.binOp Go.BinOp.add 9 (Go.Operand.const (Go.Value.string { data := #[40, 49, 32] })) (Go.Operand.tmp 77) 9, type := 9, pos := "outright.go:25", after := #[{ on := 3, ground := Go.Ground.data }], guard := none }) rfl rfl (by kernel_rfl) (by kernel_rfl) (by kernel_rfl) (fun _ _ _ h => h) hSq12 (by rfl) (fun w' hs => by exact exec_sadd (s := ([40, 49, 32] : List UInt8)) (t := O1) rfl rfl rfl (by (try simp only [List.length_append, List.length_cons, List.length_nil]); omega) _) ?_
      simp only [Act.put, List.setIfInBounds_toArray, List.set_cons_zero, List.set_cons_succ]
      refine rg_take 5 (some 79) (.string (bs (((([40, 49, 32] : List UInt8) ++ O1)) ++ ([32, 40, 50, 32] : List UInt8)))) (oi := { dst := some 79, op := Go.Op.binOp Go.BinOp.add 9 (Go.Operand.tmp 78) (Go.Operand.const (Go.Value.string { data := #[32, 40, 50, 32] })) 9, type := 9, pos := "outright.go:25", after := #[{ on := 4, ground := Go.Ground.data }], guard := none }) rfl rfl (by kernel_rfl) (by kernel_rfl) (by kernel_rfl) (fun _ _ _ h => h) hSq12 (by rfl) (fun w' hs => by exact exec_sadd (s := (([40, 49, 32] : List UInt8) ++ O1)) (t := ([32, 40, 50, 32] : List UInt8)) rfl rfl rfl (by (try simp only [List.length_append, List.length_cons, List.length_nil]); omega) _) ?_
      simp only [Act.put, List.setIfInBounds_toArray, List.set_cons_zero, List.set_cons_succ]
      refine rg_take 6 (some 80) (.slice (some ⟨ab, 0, none⟩) 13 13) (oi := { dst := some 80, op := Go.Op.move (Go.Operand.tmp 5), type := 23, pos := "outright.go:25", after := #[], guard := none }) rfl rfl (by kernel_rfl) (by kernel_rfl) (by kernel_rfl) (fun _ _ _ h => h) hSq12 (by rfl) (fun w' hs => by rfl) ?_
      simp only [Act.put, List.setIfInBounds_toArray, List.set_cons_zero, List.set_cons_succ]
      refine rg_take 7 (some 81) (.int .i64 (k : Nat)) (oi := { dst := some 81, op := Go.Op.move (Go.Operand.tmp 8), type := 3, pos := "outright.go:25", after := #[], guard := none }) rfl rfl (by kernel_rfl) (by kernel_rfl) (by kernel_rfl) (fun _ _ _ h => h) hSq12 (by rfl) (fun w' hs => by rfl) ?_
      simp only [Act.put, List.setIfInBounds_toArray, List.set_cons_zero, List.set_cons_succ]
      refine rg_take 8 (some 82) (.pointer (some ⟨ab, k, none⟩)) (oi := { dst := some 82, op := Go.Op.indexAddr 23 (Go.Operand.tmp 80) (Go.Operand.tmp 81), type := 0, pos := "outright.go:25", after := #[{ on := 6, ground := Go.Ground.data }, { on := 7, ground := Go.Ground.data }], guard := none }) rfl rfl (by kernel_rfl) (by kernel_rfl) (by kernel_rfl) (fun _ _ _ h => h) hSq12 (by rfl) (fun w' hs => by first | rfl | go_simp) ?_
      simp only [Act.put, List.setIfInBounds_toArray, List.set_cons_zero, List.set_cons_succ]
      refine rg_take 9 (some 83) (.string (bs O2)) (oi := { dst := some 83, op := Go.Op.load 9 (Go.Operand.tmp 82), type := 9, pos := "outright.go:25", after := #[{ on := 8, ground := Go.Ground.data }], guard := none }) rfl rfl (by kernel_rfl) (by kernel_rfl) (by kernel_rfl) (fun _ _ _ h => h) hSq12 (by rfl) (fun w' hs => by (have h0 := hs.cell hla b2; go_simp)) ?_
      simp only [Act.put, List.setIfInBounds_toArray, List.set_cons_zero, List.set_cons_succ]
      refine rg_take 10 (some 84) (.string (bs (((((([40, 49, 32] : List UInt8) ++ O1)) ++ ([32, 40, 50, 32] : List UInt8))) ++ O2))) (oi := { dst := some 84, op := Go.Op.binOp Go.BinOp.add 9 (Go.Operand.tmp 79) (Go.Operand.tmp 83) 9, type := 9, pos := "outright.go:25", after := #[{ on := 5, ground := Go.Ground.data }, { on := 9, ground := Go.Ground.data }], guard := none }) rfl rfl (by kernel_rfl) (by kernel_rfl) (by kernel_rfl) (fun _ _ _ h => h) hSq12 (by rfl) (fun w' hs => by exact exec_sadd (s := (((([40, 49, 32] : List UInt8) ++ O1)) ++ ([32, 40, 50, 32] : List UInt8))) (t := O2) rfl rfl rfl (by (try simp only [List.length_append, List.length_cons, List.length_nil]); omega) _) ?_
      simp only [Act.put, List.setIfInBounds_toArray, List.set_cons_zero, List.set_cons_succ]
      refine rg_take 11 (some 85) (.string (bs (((((((([40, 49, 32] : List UInt8) ++ O1)) ++ ([32, 40, 50, 32] : List UInt8))) ++ O2)) ++ ([32, 51, 41, 41] : List UInt8)))) (oi := { dst := some 85, op := Go.Op.binOp Go.BinOp.add 9 (Go.Operand.tmp 84) (Go.Operand.const (Go.Value.string { data := #[32, 51, 41, 41] })) 9, type := 9, pos := "outright.go:25", after := #[{ on := 10, ground := Go.Ground.data }], guard := none }) rfl rfl (by kernel_rfl) (by kernel_rfl) (by kernel_rfl) (fun _ _ _ h => h) hSq12 (by rfl) (fun w' hs => by exact exec_sadd (s := (((((([40, 49, 32] : List UInt8) ++ O1)) ++ ([32, 40, 50, 32] : List UInt8))) ++ O2)) (t := ([32, 51, 41, 41] : List UInt8)) rfl rfl rfl (by (try simp only [List.length_append, List.length_cons, List.length_nil]); omega) _) ?_
      simp only [Act.put, List.setIfInBounds_toArray, List.set_cons_zero, List.set_cons_succ]
      refine rg_take 12 (some 11) (.string (bs (((((((([40, 49, 32] : List UInt8) ++ O1)) ++ ([32, 40, 50, 32] : List UInt8))) ++ O2)) ++ ([32, 51, 41, 41] : List UInt8)))) (oi := { dst := some 11, op := Go.Op.assign (Go.Operand.tmp 85), type := 9, pos := "outright.go:25", after := #[{ on := 11, ground := Go.Ground.data }, { on := 0, ground := Go.Ground.phase }, { on := 1, ground := Go.Ground.phase }, { on := 2, ground := Go.Ground.phase }, { on := 3, ground := Go.Ground.phase }, { on := 4, ground := Go.Ground.phase }, { on := 5, ground := Go.Ground.phase }, { on := 6, ground := Go.Ground.phase }, { on := 7, ground := Go.Ground.phase }, { on := 8, ground := Go.Ground.phase }, { on := 9, ground := Go.Ground.phase }, { on := 10, ground := Go.Ground.phase }, { on := 11, ground := Go.Ground.phase }], guard := none }) rfl rfl (by kernel_rfl) (by kernel_rfl) (by kernel_rfl) (fun _ _ _ h => h) hSq12 (by rfl) (fun w' hs => by rfl) ?_
      simp only [Act.put, List.setIfInBounds_toArray, List.set_cons_zero, List.set_cons_succ]
      refine rg_done (by kernel_rfl) ?_
      obtain ⟨wv4, hwv4⟩ : ∃ w, World.drew wv3 = w := ⟨_, rfl⟩
      have hEwv4 : Ext wv3 wv4 := by rw [← hwv4]; exact (Ext.refl wv3).drew
      rw [hwv4]
      replace b1 := hEwv4.keep hla b1; replace b2 := hEwv4.keep hla b2; replace b3 := hEwv4.keep hlb b3; replace b4 := hEwv4.keep hlb b4
      replace hla := Nat.lt_of_lt_of_le hla hEwv4.size
      replace hlb := Nat.lt_of_lt_of_le hlb hEwv4.size
      clear hwv4

      obtain ⟨Z, hZ⟩ : ∃ Z : List UInt8, (((((((([40, 49, 32] : List UInt8) ++ O1)) ++ ([32, 40, 50, 32] : List UInt8))) ++ O2)) ++ ([32, 51, 41, 41] : List UInt8)) = Z := ⟨_, rfl⟩
      rw [hZ] at H3 HX3 ⊢
      have HP := Lib.hid H3
      have hEv : Ext wv wv4 := hEwv2.trans (hEwv3.trans hEwv4)
      have HEv := Lib.hid (HEq.out.trans (hX9.trans hEv))
      have HGV := Lib.hid (HV9.out.trans hEv)
      have HXX := Lib.hid HX3
      clear hZ H3 HX3 H2 HX b1 b2 b3 b4 hla hlb hEv hEwv2 hEwv3 hEwv4
      go_wp2_with fail
      refine (HP.out wv4 HEv.out).mono ?_
      rintro e w10 ⟨hX, v, rfl, ga, gc, gd, ge, rfl, hra, hrs, ho, ht⟩
      obtain ⟨w11, hw11⟩ : ∃ w, w10.alloc (.cells #[.string (bs y.op), .string (bs y.text), .bool y.nan, .int .i64 y.val, .slice ga y.args.length gc, .bool y.abs, .slice gd y.steps.length ge] 29) = w := ⟨_, rfl⟩
      have Ew11 : Ext w10 w11 := by rw [← hw11]; exact (Ext.refl w10).alloc _
      have hbw11 : w11.heap[w10.heap.size]? = some (.cells #[.string (bs y.op), .string (bs y.text), .bool y.nan, .int .i64 y.val, .slice ga y.args.length gc, .bool y.abs, .slice gd y.steps.length ge] 29) := by rw [← hw11]; exact Array.getElem?_push_size
      obtain ⟨yb, hyb⟩ : ∃ r, w10.heap.size = r := ⟨_, rfl⟩
      rw [hyb] at hbw11
      have hlyb := blk_lt hbw11
      have HY := Lib.hid (And.intro (hra.ext Ew11) (And.intro (hrs.ext Ew11) (And.intro hbw11 (And.intro (HEv.out.trans (hX.trans Ew11)) (hX.trans Ew11)))))
      clear hra hrs Ew11 hbw11 hX ho ht

      have hE11 : Ext wq w11 := HGV.out.trans HY.out.2.2.2.2
      have hbx := (Below.block hE11 _ hlg).trans HR.out.2.2.1
      have hby := HY.out.2.2.1
      obtain ⟨k0, k1, k2, k3, k4, k5, k6⟩ := cells7 hbx
      have HC := Lib.hid (HTX.out w11 _ _ (HVG.out.1.ext HY.out.2.2.2.1).gl ⟨aa, ac, ad, ae, rfl, HR.out.1.ext hE11, HR.out.2.1.ext hE11⟩)
      obtain ⟨T, hT9⟩ : ∃ T, txE x = T := ⟨_, rfl⟩
      rw [hT9] at HC HXX
      have hq : ((bs T).toList == (bs Z).toList) = true := by rw [HXX.out.1]; exact beq_self_eq_true _
      have HBB := Lib.hid (And.intro hbx hby)
      have HR2 := Lib.hid (And.intro (And.intro (HR.out.1.ext hE11) (HR.out.2.1.ext hE11)) (And.intro (And.intro HY.out.1 HY.out.2.1) HY.out.2.2.2.1))
      clear hT9 hbx hby hE11 HP HTX
      go_wp2_with fail
      refine HC.out.mono ?_
      rintro e w12 ⟨rfl, hX12⟩
      clear HC hw11 k0 k1 k2 k3 k4 k5 k6
      have HC2 := Lib.hid (code_nil w12)
      go_wp2_with fail
      refine HC2.out.mono ?_
      rintro e w13 ⟨rfl, hX13⟩
      clear HC2
      have hE13 := hX12.trans hX13
      have hbx := (Below.block hE13 _ (blk_lt HBB.out.1)).trans HBB.out.1
      have hby := (Below.block hE13 _ (blk_lt HBB.out.2)).trans HBB.out.2
      obtain ⟨k0, k1, k2, k3, k4, k5, k6⟩ := cells7 hbx
      obtain ⟨j0, j1, j2, j3, j4, j5, j6⟩ := cells7 hby
      have HS := Lib.hid (rsame_any x y _ _ _ _ w13 ⟨aa, ac, ad, ae, rfl, HR2.out.1.1.ext hE13, HR2.out.1.2.ext hE13⟩ ⟨ga, gc, gd, ge, rfl, HR2.out.2.1.1.ext hE13, HR2.out.2.1.2.ext hE13⟩)
      rw [HXX.out.2] at HS
      have HF := Lib.hid (HR2.out.2.2.trans hE13)
      clear hbx hby hX12 hX13 hE13 HXX HBB HR2
      go_wp2_with fail
      refine HS.out.mono ?_
      rintro e w14 ⟨rfl, hX14⟩
      clear HS k0 k1 k2 k3 k4 k5 k6 j0 j1 j2 j3 j4 j5 j6
      go_wp2_with fail
      go_ret
      exact ⟨rfl, HF.out.trans hX14⟩
    · refine rg_begin (S := Sx wv2) (by kernel_rfl) (Sx.begin _) ?_
      have hSq11 : Sx wv2 (World.drew wv2) := (Sx.begin _)
      refine rg_take 0 (some 65) (.slice (some ⟨bb, 0, none⟩) 13 13) (oi := { dst := some 65, op := Go.Op.move (Go.Operand.tmp 6), type := 38, pos := "outright.go:24", after := #[], guard := none }) rfl rfl (by kernel_rfl) (by kernel_rfl) (by kernel_rfl) (fun _ _ _ h => h) hSq11 (by rfl) (fun w' hs => by rfl) ?_
      simp only [Act.put, List.setIfInBounds_toArray, List.set_cons_zero, List.set_cons_succ]
      refine rg_take 1 (some 66) (.int .i64 (k : Nat)) (oi := { dst := some 66, op := Go.Op.move (Go.Operand.tmp 8), type := 3, pos := "outright.go:24", after := #[], guard := none }) rfl rfl (by kernel_rfl) (by kernel_rfl) (by kernel_rfl) (fun _ _ _ h => h) hSq11 (by rfl) (fun w' hs => by rfl) ?_
      simp only [Act.put, List.setIfInBounds_toArray, List.set_cons_zero, List.set_cons_succ]
      refine rg_take 2 (some 67) (.pointer (some ⟨bb, k, none⟩)) (oi := { dst := some 67, op := Go.Op.indexAddr 38 (Go.Operand.tmp 65) (Go.Operand.tmp 66), type := 0, pos := "outright.go:24", after := #[{ on := 0, ground := Go.Ground.data }, { on := 1, ground := Go.Ground.data }], guard := none }) rfl rfl (by kernel_rfl) (by kernel_rfl) (by kernel_rfl) (fun _ _ _ h => h) hSq11 (by rfl) (fun w' hs => by first | rfl | go_simp) ?_
      simp only [Act.put, List.setIfInBounds_toArray, List.set_cons_zero, List.set_cons_succ]
      refine rg_take 3 (some 68) (.int .i64 (T2 : Nat)) (oi := { dst := some 68, op := Go.Op.load 3 (Go.Operand.tmp 67), type := 3, pos := "outright.go:24", after := #[{ on := 2, ground := Go.Ground.data }], guard := none }) rfl rfl (by kernel_rfl) (by kernel_rfl) (by kernel_rfl) (fun _ _ _ h => h) hSq11 (by rfl) (fun w' hs => by (have h0 := hs.cell hlb b4; go_simp)) ?_
      simp only [Act.put, List.setIfInBounds_toArray, List.set_cons_zero, List.set_cons_succ]
      refine rg_take 4 (some 69) (.slice (some ⟨bb, 0, none⟩) 13 13) (oi := { dst := some 69, op := Go.Op.move (Go.Operand.tmp 6), type := 38, pos := "outright.go:24", after := #[], guard := none }) rfl rfl (by kernel_rfl) (by kernel_rfl) (by kernel_rfl) (fun _ _ _ h => h) hSq11 (by rfl) (fun w' hs => by rfl) ?_
      simp only [Act.put, List.setIfInBounds_toArray, List.set_cons_zero, List.set_cons_succ]
      refine rg_take 5 (some 70) (.int .i64 (i : Nat)) (oi := { dst := some 70, op := Go.Op.move (Go.Operand.tmp 7), type := 3, pos := "outright.go:24", after := #[], guard := none }) rfl rfl (by kernel_rfl) (by kernel_rfl) (by kernel_rfl) (fun _ _ _ h => h) hSq11 (by rfl) (fun w' hs => by rfl) ?_
      simp only [Act.put, List.setIfInBounds_toArray, List.set_cons_zero, List.set_cons_succ]
      refine rg_take 6 (some 71) (.pointer (some ⟨bb, i, none⟩)) (oi := { dst := some 71, op := Go.Op.indexAddr 38 (Go.Operand.tmp 69) (Go.Operand.tmp 70), type := 0, pos := "outright.go:24", after := #[{ on := 4, ground := Go.Ground.data }, { on := 5, ground := Go.Ground.data }], guard := none }) rfl rfl (by kernel_rfl) (by kernel_rfl) (by kernel_rfl) (fun _ _ _ h => h) hSq11 (by rfl) (fun w' hs => by first | rfl | go_simp) ?_
      simp only [Act.put, List.setIfInBounds_toArray, List.set_cons_zero, List.set_cons_succ]
      refine rg_take 7 (some 72) (.int .i64 (T1 : Nat)) (oi := { dst := some 72, op := Go.Op.load 3 (Go.Operand.tmp 71), type := 3, pos := "outright.go:24", after := #[{ on := 6, ground := Go.Ground.data }], guard := none }) rfl rfl (by kernel_rfl) (by kernel_rfl) (by kernel_rfl) (fun _ _ _ h => h) hSq11 (by rfl) (fun w' hs => by (have h0 := hs.cell hlb b3; go_simp)) ?_
      simp only [Act.put, List.setIfInBounds_toArray, List.set_cons_zero, List.set_cons_succ]
      refine rg_take 8 (some 73) (.bool false) (oi := { dst := some 73, op := Go.Op.binOp Go.BinOp.gtr 3 (Go.Operand.tmp 68) (Go.Operand.tmp 72) 3, type := 4, pos := "outright.go:24", after := #[{ on := 3, ground := Go.Ground.data }, { on := 7, ground := Go.Ground.data }], guard := none }) rfl rfl (by kernel_rfl) (by kernel_rfl) (by kernel_rfl) (fun _ _ _ h => h) hSq11 (by rfl) (fun w' hs => by exact exec_gtr (i := T2) (j := T1) rfl rfl rfl (decide_eq_false (by omega)) _) ?_
      simp only [Act.put, List.setIfInBounds_toArray, List.set_cons_zero, List.set_cons_succ]
      refine rg_done (by kernel_rfl) ?_
      obtain ⟨wv3, hwv3⟩ : ∃ w, World.drew wv2 = w := ⟨_, rfl⟩
      have hEwv3 : Ext wv2 wv3 := by rw [← hwv3]; exact (Ext.refl wv2).drew
      rw [hwv3]
      replace b1 := hEwv3.keep hla b1; replace b2 := hEwv3.keep hla b2; replace b3 := hEwv3.keep hlb b3; replace b4 := hEwv3.keep hlb b4
      replace hla := Nat.lt_of_lt_of_le hla hEwv3.size
      replace hlb := Nat.lt_of_lt_of_le hlb hEwv3.size
      clear hwv3
      have H3 := H2.out
      have HX3 := HX.out
      simp only [if_neg hT] at H3 HX3
      obtain ⟨Z, hZ⟩ : ∃ Z : List UInt8, (((((((([40, 40, 49, 32] : List UInt8) ++ O1)) ++ ([32, 50, 41, 32] : List UInt8))) ++ O2)) ++ ([32, 51, 41] : List UInt8)) = Z := ⟨_, rfl⟩
      rw [hZ] at H3 HX3 ⊢
      have HP := Lib.hid H3
      have hEv : Ext wv wv3 := hEwv2.trans hEwv3
      have HEv := Lib.hid (HEq.out.trans (hX9.trans hEv))
      have HGV := Lib.hid (HV9.out.trans hEv)
      have HXX := Lib.hid HX3
      clear hZ H3 HX3 H2 HX b1 b2 b3 b4 hla hlb hEv hEwv2 hEwv3
      go_wp2_with fail
      refine (HP.out wv3 HEv.out).mono ?_
      rintro e w10 ⟨hX, v, rfl, ga, gc, gd, ge, rfl, hra, hrs, ho, ht⟩
      obtain ⟨w11, hw11⟩ : ∃ w, w10.alloc (.cells #[.string (bs y.op), .string (bs y.text), .bool y.nan, .int .i64 y.val, .slice ga y.args.length gc, .bool y.abs, .slice gd y.steps.length ge] 29) = w := ⟨_, rfl⟩
      have Ew11 : Ext w10 w11 := by rw [← hw11]; exact (Ext.refl w10).alloc _
      have hbw11 : w11.heap[w10.heap.size]? = some (.cells #[.string (bs y.op), .string (bs y.text), .bool y.nan, .int .i64 y.val, .slice ga y.args.length gc, .bool y.abs, .slice gd y.steps.length ge] 29) := by rw [← hw11]; exact Array.getElem?_push_size
      obtain ⟨yb, hyb⟩ : ∃ r, w10.heap.size = r := ⟨_, rfl⟩
      rw [hyb] at hbw11
      have hlyb := blk_lt hbw11
      have HY := Lib.hid (And.intro (hra.ext Ew11) (And.intro (hrs.ext Ew11) (And.intro hbw11 (And.intro (HEv.out.trans (hX.trans Ew11)) (hX.trans Ew11)))))
      clear hra hrs Ew11 hbw11 hX ho ht

      have hE11 : Ext wq w11 := HGV.out.trans HY.out.2.2.2.2
      have hbx := (Below.block hE11 _ hlg).trans HR.out.2.2.1
      have hby := HY.out.2.2.1
      obtain ⟨k0, k1, k2, k3, k4, k5, k6⟩ := cells7 hbx
      have HC := Lib.hid (HTX.out w11 _ _ (HVG.out.1.ext HY.out.2.2.2.1).gl ⟨aa, ac, ad, ae, rfl, HR.out.1.ext hE11, HR.out.2.1.ext hE11⟩)
      obtain ⟨T, hT9⟩ : ∃ T, txE x = T := ⟨_, rfl⟩
      rw [hT9] at HC HXX
      have hq : ((bs T).toList == (bs Z).toList) = true := by rw [HXX.out.1]; exact beq_self_eq_true _
      have HBB := Lib.hid (And.intro hbx hby)
      have HR2 := Lib.hid (And.intro (And.intro (HR.out.1.ext hE11) (HR.out.2.1.ext hE11)) (And.intro (And.intro HY.out.1 HY.out.2.1) HY.out.2.2.2.1))
      clear hT9 hbx hby hE11 HP HTX
      go_wp2_with fail
      refine HC.out.mono ?_
      rintro e w12 ⟨rfl, hX12⟩
      clear HC hw11 k0 k1 k2 k3 k4 k5 k6
      have HC2 := Lib.hid (code_nil w12)
      go_wp2_with fail
      refine HC2.out.mono ?_
      rintro e w13 ⟨rfl, hX13⟩
      clear HC2
      have hE13 := hX12.trans hX13
      have hbx := (Below.block hE13 _ (blk_lt HBB.out.1)).trans HBB.out.1
      have hby := (Below.block hE13 _ (blk_lt HBB.out.2)).trans HBB.out.2
      obtain ⟨k0, k1, k2, k3, k4, k5, k6⟩ := cells7 hbx
      obtain ⟨j0, j1, j2, j3, j4, j5, j6⟩ := cells7 hby
      have HS := Lib.hid (rsame_any x y _ _ _ _ w13 ⟨aa, ac, ad, ae, rfl, HR2.out.1.1.ext hE13, HR2.out.1.2.ext hE13⟩ ⟨ga, gc, gd, ge, rfl, HR2.out.2.1.1.ext hE13, HR2.out.2.1.2.ext hE13⟩)
      rw [HXX.out.2] at HS
      have HF := Lib.hid (HR2.out.2.2.trans hE13)
      clear hbx hby hX12 hX13 hE13 HXX HBB HR2
      go_wp2_with fail
      refine HS.out.mono ?_
      rintro e w14 ⟨rfl, hX14⟩
      clear HS k0 k1 k2 k3 k4 k5 k6 j0 j1 j2 j3 j4 j5 j6
      go_wp2_with fail
      go_ret
      exact ⟨rfl, HF.out.trans hX14⟩

end Go.Proofs.YtfoclfefjcnllaaGreatDoor
