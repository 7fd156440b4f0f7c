/-
  A path written out. Helper lemmas; no statement of the seat is proved here.
-/
import Derived.Test.YtfoclfefjcnllaaGreatDoorD14
namespace Go.Proofs.YtfoclfefjcnllaaGreatDoor
open Go.RowKit
set_option maxRecDepth 100000
set_option linter.unusedVariables false
set_option linter.unusedSimpArgs false

/-- A path written out. -/
def pathT (x : Ex) : List UInt8 :=
  if x.args.isEmpty = false then [40] ++ (txL x.args).headD [] ++ [41, 47] ++ joinT [47] (txS x.steps)
  else if x.abs = true ∧ x.steps.isEmpty = true then [40, 47, 41]
  else if x.abs = true then [47] ++ joinT [47] (txS x.steps) else joinT [47] (txS x.steps)
theorem head_tx (l : List Ex) (h : 0 < l.length) : (txL l).headD [] = txE l[0] := by
  cases l with
  | nil => exact absurd h (by decide)
  | cons a b => rw [txL]; rfl
theorem one_str (Z : List UInt8) : ∀ e ∈ [strD Z], e.one = true := by intro e he; simp at he; subst he; rfl
theorem rep1 {W : World} {p : Nat → Prop} (Z : List UInt8) (h : Z.length ≤ 1000000000000) : Reps W p [.string (bs Z)] [strD Z] := .cons (Rep.string W p (bs Z) (by rw [bs_size]; omega)) (Reps.nil _ _)
theorem join_get (sep : List UInt8) : ∀ (L : List (List UInt8)) (t : List UInt8), t ∈ L → t.length ≤ (joinT sep L).length
  | [], t, h => by cases h
  | [a], t, h => by simp at h; subst h; rw [joinT]; exact Nat.le_refl _
  | a :: b :: r, t, h => by
    rw [joinT]
    simp only [List.length_append]
    rcases List.mem_cons.1 h with rfl | h
    · omega
    · have := join_get sep (b :: r) t h; omega
theorem join_n (sep : List UInt8) (hs : 0 < sep.length) : ∀ L : List (List UInt8), L.length ≤ (joinT sep L).length + 1
  | [] => by simp
  | [a] => by simp
  | a :: b :: r => by
    rw [joinT]
    have := join_n sep hs (b :: r)
    simp only [List.length_append, List.length_cons] at this ⊢
    omega
set_option maxHeartbeats 16000000 in
theorem path_tx (x0 : Ex) (HA : ∀ y ∈ x0.args, TxC y) (HS : ∀ s ∈ x0.steps, ∀ y ∈ s.preds, TxC y) (HB : ∀ s ∈ x0.steps, s.test.length ≤ 1000000000 ∧ s.name.length ≤ 1000000000) (hl : (pathT x0).length ≤ 999999999) (W : World) (p0 : Nat → Prop) (v : Value) (hG : QGl W) (hr : XR W p0 x0 v) :
    Calls Tryz.prog 22 #[v] W fun e w' => e = .returned (.string (bs (pathT x0))) ∧ Ext W w' := by
  obtain ⟨R, hR⟩ : ∃ R, pathT x0 = R := ⟨_, rfl⟩
  rw [hR] at hl ⊢
  unfold pathT at hR
  obtain ⟨aa, ac, ad, ae, rfl, hra, hrs⟩ := hr
  obtain ⟨w1, hw1⟩ : ∃ w, W.alloc (.cells #[.string (bs x0.op), .string (bs x0.text), .bool x0.nan, .int .i64 x0.val, .slice aa x0.args.length ac, .bool x0.abs, .slice ad x0.steps.length ae] 29) = w := ⟨_, rfl⟩
  have Ew1 : Ext W w1 := by rw [← hw1]; exact (Ext.refl W).alloc _
  have hbw1 : w1.heap[W.heap.size]? = some (.cells #[.string (bs x0.op), .string (bs x0.text), .bool x0.nan, .int .i64 x0.val, .slice aa x0.args.length ac, .bool x0.abs, .slice ad x0.steps.length ae] 29) := by rw [← hw1]; exact Array.getElem?_push_size

  obtain ⟨eb, heb⟩ : ∃ r, W.heap.size = r := ⟨_, rfl⟩
  rw [heb] at hbw1
  obtain ⟨e0, e1, e2, e3, e4, e5, e6⟩ := cells7 hbw1
  have HG0 := Lib.hid hG
  have HQ := Lib.hid (And.intro (hra.ext Ew1) (hrs.ext Ew1))
  have HEW := Lib.hid Ew1
  clear hra hrs hG Ew1 hbw1
  by_cases ha : 0 < x0.args.length
  · have haI : (0 : Int) < (x0.args.length : Int) := by omega
    have hae : x0.args.isEmpty = false := by
      cases h : x0.args with
      | nil => rw [h] at ha; exact absurd ha (by decide)
      | cons a b => rfl
    replace hR := (if_pos hae).symm.trans hR
    obtain ⟨b, off, had, hb, ba, bc, bd, be, ⟨s0, s1, s2, s3, s4, s5, s6⟩, hya, hys⟩ := ex_at HQ.out.1 0 ha
    subst had
    simp only [Nat.zero_mul, Nat.add_zero] at s0 s1 s2 s3 s4 s5 s6
    have hym := List.getElem_mem ha
    have hhd : (txL x0.args).headD [] = txE x0.args[0] := head_tx x0.args ha
    obtain ⟨y, hy⟩ : ∃ y, x0.args[0] = y := ⟨_, rfl⟩
    rw [hy] at s0 s1 s2 s3 s4 s5 s6 hya hys hym hhd
    rw [hhd] at hR
    have HC := Lib.hid (HA y hym w1 _ _ (HG0.out.ext HEW.out) ⟨ba, bc, bd, be, rfl, hya, hys⟩)
    obtain ⟨T, hT⟩ : ∃ T, txE y = T := ⟨_, rfl⟩
    rw [hT] at hR HC
    have hTl : T.length + 3 ≤ 999999999 := by
      have h := congrArg List.length hR
      simp only [List.length_append, List.length_cons, List.length_nil] at h
      omega
    have hz1 : ¬ 9223372036854775807 < 1 + (bs T).size := by rw [bs_size]; omega
    have hz2 : ¬ 9223372036854775807 < 1 + (bs T).size + 2 := by rw [bs_size]; omega
    clear hT hhd hy hya hys hym hae ha
    go_enter Tryz.func22, Tryz.ntmps22
    go_wp2_with fail
    refine HC.out.mono ?_
    rintro e w2 ⟨rfl, hX2⟩
    clear HC hw1
    have HJL := Lib.hid (show (joinT [47] (txS x0.steps)).length ≤ 1000000000 ∧ x0.steps.length ≤ 1000000000 from by
      have h := congrArg List.length hR
      try simp only [List.length_append, List.length_cons, List.length_nil] at h
      have h2 := join_n [47] (by decide) (txS x0.steps)
      rw [txS_eq, List.length_map, ← txS_eq] at h2
      have h3 : (joinT [47] (txS x0.steps)).length + 1 ≤ 1000000000 ∨ (joinT [47] (txS x0.steps)).length ≤ 1000000000 := .inr (by omega)
      exact ⟨by omega, by omega⟩)
    have HS0 := Lib.hid (And.intro (HQ.out.2.ext hX2) (And.intro HS (fun s (hs : s ∈ x0.steps) => And.intro (HB s hs).1 (And.intro (HB s hs).2 (Nat.le_trans (join_get [47] _ _ (show txT s ∈ txS x0.steps by rw [txS_eq]; exact List.mem_map_of_mem hs)) HJL.out.1)))))
    have HR := Lib.hid hR
    have HLR := Lib.hid hl
    have hslI : (x0.steps.length : Int) ≤ 1000000000 := by have := HJL.out.2; omega

    have d6 := (Ext.refl w1).trans hX2 |> fun h => Gr.cell (Gr.of (eb + 1) h) (b := eb) ⟨by omega, World.block_lt_of_cell? w1 _ e6⟩ e6
    replace HEW := Lib.hid (HEW.out.trans hX2)
    clear hX2 HQ s0 s1 s2 s3 s4 s5 s6 e0 e1 e2 e3 e4 e5 e6 hR hl
    go_wp2_with fail
    go_loopw [4, 6, 31] (fun dv _ t wr => ∃ (i : Nat) (d : Value), d = dv ∧ t = .int .i64 i ∧ i ≤ x0.steps.length ∧ Hid (Ext w2 wr) ∧ Hid (Own wr (fun _ => False) w2.heap.size 9 1 d i ((txS (x0.steps.take i)).flatMap fun t => [strD t]))) (fun _ _ t _ => downQ x0.steps.length t)
    case atStart => exact ⟨0, _, rfl, rfl, Nat.zero_le _, Lib.hid (Ext.refl w2), Lib.hid (Own.nil _ _ _ _ _)⟩
    case round =>
      obtain ⟨i, d, rfl, rfl, hi, HE, HO⟩ := hrel
      by_cases hil : i < x0.steps.length
      · have hiI : (i : Int) < (x0.steps.length : Int) := by omega
        obtain ⟨b, off, had, hb, pa, pc, ⟨s0, s1, s2, s3⟩, hrp⟩ := st_at (HS0.out.1.ext HE.out) i hil
        have hmem := List.getElem_mem hil
        have HP := HS0.out.2.1 _ hmem
        obtain ⟨hbt, hbn, hbl⟩ := HS0.out.2.2 _ hmem
        obtain ⟨x, hx⟩ : ∃ x, x0.steps[i] = x := ⟨_, rfl⟩
        rw [hx] at HP hbt hbn hbl s0 s1 s2 s3 hrp
        subst had
        obtain ⟨wz, hwz⟩ : ∃ w, wr.alloc (.cells #[.string (bs x.axis), .string (bs x.test), .string (bs x.name), .slice pa x.preds.length pc] 62) = w := ⟨_, rfl⟩
        have Ewz : Ext wr wz := by rw [← hwz]; exact (Ext.refl wr).alloc _
        have hbwz : wz.heap[wr.heap.size]? = some (.cells #[.string (bs x.axis), .string (bs x.test), .string (bs x.name), .slice pa x.preds.length pc] 62) := by rw [← hwz]; exact Array.getElem?_push_size

        obtain ⟨tb, htb⟩ : ∃ r, wr.heap.size = r := ⟨_, rfl⟩
        rw [htb] at hbwz
        obtain ⟨k0, k1, k2, k3⟩ := cells4 hbwz
        have htl := blk_lt hbwz
        obtain ⟨T1, hT1⟩ : ∃ T, testT x.test x.name = T := ⟨_, rfl⟩
        obtain ⟨T2, hT2⟩ : ∃ T, bracketsT (txL x.preds) = T := ⟨_, rfl⟩
        have hxT : txT x = x.axis ++ [58, 58] ++ T1 ++ T2 := by rw [← hT1, ← hT2]; cases x; rw [txT]; rfl
        have hlen : x.axis.length + 2 + T1.length + T2.length ≤ 1000000000 := by
          rw [hxT] at hbl
          simp only [List.length_append, List.length_cons, List.length_nil] at hbl
          omega
        have HT1 := Lib.hid fun W (_ : Sx wz W) => ttest_any x.axis x.test x.name pa x.preds.length pc W hbt hbn
        have HT2 := Lib.hid fun W (h : Sx wz W) => preds_tx x.preds HP W (fun b => p0 b) pa pc ((hrp.ext Ewz).ext h) (HG0.out.ext (HEW.out.trans ((HE.out.trans Ewz).trans h))) (by rw [hT2]; omega)
        rw [hT1] at HT1
        rw [hT2] at HT2
        replace HO := Lib.hid (HO.out.ext Ewz)
        have HB := Lib.hid (show w2.heap.size ≤ wz.heap.size from (HE.out.trans Ewz).size)
        have HEz := Lib.hid (HE.out.trans Ewz)
        have HX := Lib.hid (And.intro hx hxT)
        clear HP hbt hbn hbl hrp hbwz Ewz hT1 hT2 hxT hx HE
        go_wp2_with fail
        refine rg_cut (S := Sx wz) 12 (by kernel_rfl) (by kernel_rfl) (by kernel_rfl) (by kernel_rfl) (Sx.begin _) ?_
        have hSp : Sx wz (World.drew wz) := (Sx.begin _)
        refine rg_take 0 (some 35) (d) (oi := { dst := some 35, op := Go.Op.move (Go.Operand.tmp 4), type := 23, pos := "qparse.go:390", after := #[], guard := none }) rfl rfl (by kernel_rfl) (by kernel_rfl) (by kernel_rfl) (fun _ _ _ h => h) hSp (by rfl) (fun w' hs => by rfl) ?_
        simp only [Act.put, List.setIfInBounds_toArray, List.set_cons_zero, List.set_cons_succ]
        refine rg_take 1 (some 36) (.pointer (some ⟨tb, 0, none⟩)) (oi := { dst := some 36, op := Go.Op.fieldAddr 62 (Go.Operand.tmp 6) 0, type := 0, pos := "qparse.go:390", after := #[], guard := none }) rfl rfl (by kernel_rfl) (by kernel_rfl) (by kernel_rfl) (fun _ _ _ h => h) hSp (by rfl) (fun w' hs => by first | rfl | go_simp) ?_
        simp only [Act.put, List.setIfInBounds_toArray, List.set_cons_zero, List.set_cons_succ]
        refine rg_take 2 (some 37) (.string (bs x.axis)) (oi := { dst := some 37, op := Go.Op.load 9 (Go.Operand.tmp 36), type := 9, pos := "qparse.go:390", after := #[{ on := 1, ground := Go.Ground.data }], guard := none }) rfl rfl (by kernel_rfl) (by kernel_rfl) (by kernel_rfl) (fun _ _ _ h => h) hSp (by rfl) (fun w' hs => by (have h0 := hs.cell htl k0; go_simp)) ?_
        simp only [Act.put, List.setIfInBounds_toArray, List.set_cons_zero, List.set_cons_succ]
        refine rg_take 3 (some 38) (.string (bs (x.axis ++ ([58, 58] : List UInt8)))) (oi := { dst := some 38, op := Go.Op.binOp Go.BinOp.add 9 (Go.Operand.tmp 37) (Go.Operand.const (Go.Value.string { data := #[58, 58] })) 9, type := 9, pos := "qparse.go:390", after := #[{ on := 2, ground := Go.Ground.data }], guard := none }) rfl rfl (by kernel_rfl) (by kernel_rfl) (by kernel_rfl) (fun _ _ _ h => h) hSp (by rfl) (fun w' hs => by exact exec_sadd (s := x.axis) (t := ([58, 58] : List UInt8)) rfl rfl rfl (by (try simp only [List.length_append, List.length_cons, List.length_nil]); omega) _) ?_
        simp only [Act.put, List.setIfInBounds_toArray, List.set_cons_zero, List.set_cons_succ]
        refine rg_take 4 (some 39) (.agg #[.string (bs x.axis), .string (bs x.test), .string (bs x.name), .slice pa x.preds.length pc]) (oi := { dst := some 39, op := Go.Op.load 62 (Go.Operand.tmp 6), type := 62, pos := "qparse.go:390", after := #[], guard := none }) rfl rfl (by kernel_rfl) (by kernel_rfl) (by kernel_rfl) (fun _ _ _ h => h) hSp (by rfl) (fun w' hs => by (have h0 := hs.cell htl k0; have h1 := hs.cell htl k1; have h2 := hs.cell htl k2; have h3 := hs.cell htl k3; go_simp)) ?_
        simp only [Act.put, List.setIfInBounds_toArray, List.set_cons_zero, List.set_cons_succ]
        refine rg_take 7 (some 42) (.pointer (some ⟨tb, 3, none⟩)) (oi := { dst := some 42, op := Go.Op.fieldAddr 62 (Go.Operand.tmp 6) 3, type := 0, pos := "qparse.go:390", after := #[], guard := none }) rfl rfl (by kernel_rfl) (by kernel_rfl) (by kernel_rfl) (fun _ _ _ h => h) hSp (by rfl) (fun w' hs => by first | rfl | go_simp) ?_
        simp only [Act.put, List.setIfInBounds_toArray, List.set_cons_zero, List.set_cons_succ]
        refine rg_take 8 (some 43) (.slice pa x.preds.length pc) (oi := { dst := some 43, op := Go.Op.load 26 (Go.Operand.tmp 42), type := 26, pos := "qparse.go:390", after := #[{ on := 7, ground := Go.Ground.data }], guard := none }) rfl rfl (by kernel_rfl) (by kernel_rfl) (by kernel_rfl) (fun _ _ _ h => h) hSp (by rfl) (fun w' hs => by (have h0 := hs.cell htl k3; go_simp)) ?_
        simp only [Act.put, List.setIfInBounds_toArray, List.set_cons_zero, List.set_cons_succ]
        refine rg_call 5 (some 40) 43 #[.agg #[.string (bs x.axis), .string (bs x.test), .string (bs x.name), .slice pa x.preds.length pc]] (oi := { dst := some 40, op := Go.Op.call { callee := Go.Callee.value (Go.Operand.func 43), args := #[Go.Operand.tmp 39], argTypes := #[62] }, type := 9, pos := "qparse.go:390", after := #[{ on := 4, ground := Go.Ground.data }], guard := none }) rfl rfl (by kernel_rfl) (by rfl) (fun w' => by first | rfl | go_simp) (R := fun v w' => v = .string (bs T1) ∧ Ext (World.drew wz) w') ?_ ?_
        · refine (HT1.out (World.drew wz) hSp).mono ?_
          rintro e w' ⟨rfl, h⟩
          exact ⟨_, rfl, rfl, h⟩
        rintro _ wrp1 ⟨rfl, hBrp1⟩
        have hSp1 := hSp.ext hBrp1
        refine ⟨hSp1, ?_⟩
        simp only [Act.put, List.setIfInBounds_toArray, List.set_cons_zero, List.set_cons_succ]
        refine rg_take 6 (some 41) (.string (bs (((x.axis ++ ([58, 58] : List UInt8))) ++ T1))) (oi := { dst := some 41, op := Go.Op.binOp Go.BinOp.add 9 (Go.Operand.tmp 38) (Go.Operand.tmp 40) 9, type := 9, pos := "qparse.go:390", after := #[{ on := 3, ground := Go.Ground.data }, { on := 5, ground := Go.Ground.data }], guard := none }) rfl rfl (by kernel_rfl) (by kernel_rfl) (by kernel_rfl) (fun _ _ _ h => h) hSp1 (by rfl) (fun w' hs => by exact exec_sadd (s := (x.axis ++ ([58, 58] : List UInt8))) (t := T1) rfl rfl rfl (by (try simp only [List.length_append, List.length_cons, List.length_nil]); omega) _) ?_
        simp only [Act.put, List.setIfInBounds_toArray, List.set_cons_zero, List.set_cons_succ]
        refine rg_call 9 (some 44) 21 #[.slice pa x.preds.length pc] (oi := { dst := some 44, op := Go.Op.call { callee := Go.Callee.value (Go.Operand.func 21), args := #[Go.Operand.tmp 43], argTypes := #[26] }, type := 9, pos := "qparse.go:390", after := #[{ on := 8, ground := Go.Ground.data }, { on := 5, ground := Go.Ground.chain }], guard := none }) rfl rfl (by kernel_rfl) (by rfl) (fun w' => by first | rfl | go_simp) (R := fun v w' => v = .string (bs T2) ∧ Ext wrp1 w') ?_ ?_
        · refine (HT2.out wrp1 hSp1).mono ?_
          rintro e w' ⟨rfl, h⟩
          exact ⟨_, rfl, rfl, h⟩
        rintro _ wrp2 ⟨rfl, hBrp2⟩
        have hSp2 := hSp1.ext hBrp2
        refine ⟨hSp2, ?_⟩
        simp only [Act.put, List.setIfInBounds_toArray, List.set_cons_zero, List.set_cons_succ]
        refine rg_take 10 (some 45) (.string (bs (((((x.axis ++ ([58, 58] : List UInt8))) ++ T1)) ++ T2))) (oi := { dst := some 45, op := Go.Op.binOp Go.BinOp.add 9 (Go.Operand.tmp 41) (Go.Operand.tmp 44) 9, type := 9, pos := "qparse.go:390", after := #[{ on := 6, ground := Go.Ground.data }, { on := 9, ground := Go.Ground.data }], guard := none }) rfl rfl (by kernel_rfl) (by kernel_rfl) (by kernel_rfl) (fun _ _ _ h => h) hSp2 (by rfl) (fun w' hs => by exact exec_sadd (s := (((x.axis ++ ([58, 58] : List UInt8))) ++ T1)) (t := T2) rfl rfl rfl (by (try simp only [List.length_append, List.length_cons, List.length_nil]); omega) _) ?_
        simp only [Act.put, List.setIfInBounds_toArray, List.set_cons_zero, List.set_cons_succ]
        refine rg_one 11 (by kernel_rfl) ?_
        refine tk_new 11 (some 46) (.cells #[.string (bs ((((((x.axis ++ ([58, 58] : List UInt8))) ++ T1)) ++ T2)))] 9) (fun n => .slice (some ⟨n, 0, none⟩) 1 1) (oi := { dst := some 46, op := Go.Op.buildSlice 23 1 #[(0, Go.Operand.tmp 45)], type := 23, pos := "qparse.go:390", after := #[{ on := 10, ground := Go.Ground.data }], guard := none }) rfl rfl (by rfl) (by first | rfl | go_simp) ?_
        intro gb xb egb hEx hzxb hC
        subst egb
        have hSb : Sx wz xb := Ext.trans hSp2 hEx
        refine ⟨hSb, ?_⟩
        simp only [Act.put, List.setIfInBounds_toArray, List.set_cons_zero, List.set_cons_succ]
        refine rg_done (by kernel_rfl) ?_
        refine rg_go 2 #[true, true, true, true, true, true, true, true, true, true, true, true, false, false] (by kernel_rfl) (by kernel_rfl) fun m => ?_
        obtain ⟨Z, hZ⟩ : ∃ Z, (((((x.axis ++ ([58, 58] : List UInt8))) ++ T1)) ++ T2) = Z := ⟨_, rfl⟩
        rw [hZ] at hC
        have hOx := HO.out.ext hSb
        refine rg_one 12 (by kernel_rfl) ?_
        refine tk_app1 12 (some 47) (oi := { dst := some 47, op := Go.Op.call { callee := Go.Callee.builtin Go.Builtin.append, args := #[Go.Operand.tmp 35, Go.Operand.tmp 46], argTypes := #[23, 23] }, type := 23, pos := "qparse.go:390", after := #[{ on := 0, ground := Go.Ground.data }, { on := 11, ground := Go.Ground.data }, { on := 9, ground := Go.Ground.chain }], guard := none }) rfl rfl (by rfl) (.tmp 35) (.tmp 46) rfl (hs := rfl) (hown := hOx) (hx := rfl) (hc := fun j u hj => blk_cells (xs := [.string (bs Z)]) hC j hj) (hr := rep1 Z (by rw [← hZ]; simp only [List.length_append, List.length_cons, List.length_nil]; omega)) (h1 := one_str Z) (hl := rfl) (hm := by omega) (hb := by have := Below.size hSb; have := HB.out; omega) ?_
        intro d2 w7 hO7 hg7
        refine ⟨trivial, ?_⟩
        simp only [Act.put, List.setIfInBounds_toArray, List.set_cons_zero, List.set_cons_succ]
        refine rg_take 13 (some 4) (d2) (oi := { dst := some 4, op := Go.Op.assign (Go.Operand.tmp 47), type := 23, pos := "qparse.go:390", after := #[{ on := 12, ground := Go.Ground.data }, { on := 12, ground := Go.Ground.chain }, { on := 0, ground := Go.Ground.phase }, { on := 1, ground := Go.Ground.phase }, { on := 2, ground := Go.Ground.phase }, { on := 3, ground := Go.Ground.phase }, { on := 4, ground := Go.Ground.phase }, { on := 5, ground := Go.Ground.phase }, { on := 6, ground := Go.Ground.phase }, { on := 7, ground := Go.Ground.phase }, { on := 8, ground := Go.Ground.phase }, { on := 9, ground := Go.Ground.phase }, { on := 10, ground := Go.Ground.phase }, { on := 11, ground := Go.Ground.phase }, { on := 12, ground := Go.Ground.phase }], guard := none }) rfl rfl (by kernel_rfl) (by kernel_rfl) (by kernel_rfl) (fun _ _ _ h => h) trivial (by rfl) (fun w' hs => by rfl) ?_
        simp only [Act.put, List.setIfInBounds_toArray, List.set_cons_zero, List.set_cons_succ]
        refine rg_done (by kernel_rfl) ?_
        have HE2 := Lib.hid (Below.grown ((HEz.out).trans hSb) hg7 (Below.size (HEz.out.trans hSb)) fun k hk => (hOx.blk k hk).1)
        have HO2 : Hid (Own w7 (fun _ => False) w2.heap.size 9 1 d2 (i + 1) ((txS (x0.steps.take (i + 1))).flatMap fun t => [strD t])) := by
          rw [txS_eq] at hO7 ⊢
          rw [List.take_add_one, List.getElem?_eq_getElem hil, HX.out.1]
          simp only [Option.toList_some, List.map_append, List.map_cons, List.map_nil, List.flatMap_append, List.flatMap_cons, List.flatMap_nil, List.append_nil]
          rw [HX.out.2, hZ]
          exact Lib.hid hO7
        clear hO7 hg7 hC hOx hEx hSb
        go_wp2_with fail
        go_roundw
        case rel => exact ⟨i + 1, _, rfl, by simp, hil, HE2, HO2⟩
        case measure => simp only [downQ]; omega
      · have hiI : ¬ (i : Int) < (x0.steps.length : Int) := by omega
        obtain rfl : i = x0.steps.length := by omega
        rw [List.take_length] at HO
        have hlL : (txS x0.steps).length = x0.steps.length := by rw [txS_eq, List.length_map]
        rw [← hlL] at HO
        obtain ⟨da, dc, rfl, _, _⟩ := HO.out.form
        have HJ := Lib.hid (join_any [47] (txS x0.steps) _ da dc wr HO.out.rep HJL.out.1 (by rw [hlL]; exact HJL.out.2))
        rw [hlL] at HJ
        go_wp2_with fail
        refine HJ.out.mono ?_
        rintro e w5 ⟨rfl, hX5⟩
        clear HJ
        obtain ⟨J, hJ⟩ : ∃ J, joinT [47] (txS x0.steps) = J := ⟨_, rfl⟩
        have hRR := HR.out
        have hlR := HLR.out
        rw [hJ] at hRR
        rw [← hRR] at hlR
        try simp only [List.length_append, List.length_cons, List.length_nil] at hlR
        have hsz : ¬ 9223372036854775807 < 1 + (bs T).size + 2 + (bs J).size := by simp only [bs_size]; omega
        rw [hJ]
        have HF := Lib.hid (HEW.out.trans (HE.out.trans hX5))
        have HRR := Lib.hid hRR
        clear hX5 HE HO hJ hlR hRR
        go_wp2_with fail
        go_ret
        exact ⟨by rw [← HRR.out]; (rw [show (⟨#[40]⟩ : ByteArray) = bs [40] from rfl, show (⟨#[41, 47]⟩ : ByteArray) = bs [41, 47] from rfl, bs_append, bs_append, bs_append]; rfl), HF.out⟩

  · have haI : ¬ (0 : Int) < (x0.args.length : Int) := by omega
    have hae : ¬ x0.args.isEmpty = false := by
      intro h
      cases h2 : x0.args with
      | nil => rw [h2] at h; cases h
      | cons a b => rw [h2] at ha; exact ha (by simp)
    replace hR := (if_neg hae).symm.trans hR
    obtain ⟨B, hB⟩ : ∃ B, x0.abs = B := ⟨_, rfl⟩
    rw [hB] at hR e5
    have hse : x0.steps.isEmpty = true ↔ x0.steps.length = 0 := by rw [List.isEmpty_iff_length_eq_zero]
    clear hB hae ha
    go_enter Tryz.func22, Tryz.ntmps22
    cases B with
    | true =>
      by_cases hs : x0.steps.length = 0
      · have qs : ((x0.steps.length : Int) == 0) = true := by rw [beq_iff_eq]; omega
        obtain rfl : [40, 47, 41] = R := (if_pos ⟨rfl, hse.2 hs⟩).symm.trans hR
        clear hs hse
        go_wp2_with fail
        go_ret
        exact ⟨rfl, HEW.out⟩
      · have qs : ((x0.steps.length : Int) == 0) = false := by rw [beq_eq_false_iff_ne]; omega
        replace hR := (if_neg (fun h => hs (hse.1 h.2))).symm.trans hR
        replace hR := (if_pos rfl).symm.trans hR
        have HJL := Lib.hid (show (joinT [47] (txS x0.steps)).length ≤ 1000000000 ∧ x0.steps.length ≤ 1000000000 from by
          have h := congrArg List.length hR
          try simp only [List.length_append, List.length_cons, List.length_nil] at h
          have h2 := join_n [47] (by decide) (txS x0.steps)
          rw [txS_eq, List.length_map, ← txS_eq] at h2
          have h3 : (joinT [47] (txS x0.steps)).length + 1 ≤ 1000000000 ∨ (joinT [47] (txS x0.steps)).length ≤ 1000000000 := .inr (by omega)
          exact ⟨by omega, by omega⟩)
        have HS0 := Lib.hid (And.intro (HQ.out.2.ext (Ext.refl w1)) (And.intro HS (fun s (hs : s ∈ x0.steps) => And.intro (HB s hs).1 (And.intro (HB s hs).2 (Nat.le_trans (join_get [47] _ _ (show txT s ∈ txS x0.steps by rw [txS_eq]; exact List.mem_map_of_mem hs)) HJL.out.1)))))
        have HR := Lib.hid hR
        have HLR := Lib.hid hl
        have hslI : (x0.steps.length : Int) ≤ 1000000000 := by have := HJL.out.2; omega

        have d6 := e6
        clear hs hse hR hl HQ
        go_wp2_with fail
        go_loopw [4, 6, 31] (fun dv _ t wr => ∃ (i : Nat) (d : Value), d = dv ∧ t = .int .i64 i ∧ i ≤ x0.steps.length ∧ Hid (Ext w1 wr) ∧ Hid (Own wr (fun _ => False) w1.heap.size 9 1 d i ((txS (x0.steps.take i)).flatMap fun t => [strD t]))) (fun _ _ t _ => downQ x0.steps.length t)
        case atStart => exact ⟨0, _, rfl, rfl, Nat.zero_le _, Lib.hid (Ext.refl w1), Lib.hid (Own.nil _ _ _ _ _)⟩
        case round =>
          obtain ⟨i, d, rfl, rfl, hi, HE, HO⟩ := hrel
          by_cases hil : i < x0.steps.length
          · have hiI : (i : Int) < (x0.steps.length : Int) := by omega
            obtain ⟨b, off, had, hb, pa, pc, ⟨s0, s1, s2, s3⟩, hrp⟩ := st_at (HS0.out.1.ext HE.out) i hil
            have hmem := List.getElem_mem hil
            have HP := HS0.out.2.1 _ hmem
            obtain ⟨hbt, hbn, hbl⟩ := HS0.out.2.2 _ hmem
            obtain ⟨x, hx⟩ : ∃ x, x0.steps[i] = x := ⟨_, rfl⟩
            rw [hx] at HP hbt hbn hbl s0 s1 s2 s3 hrp
            subst had
            obtain ⟨wz, hwz⟩ : ∃ w, wr.alloc (.cells #[.string (bs x.axis), .string (bs x.test), .string (bs x.name), .slice pa x.preds.length pc] 62) = w := ⟨_, rfl⟩
            have Ewz : Ext wr wz := by rw [← hwz]; exact (Ext.refl wr).alloc _
            have hbwz : wz.heap[wr.heap.size]? = some (.cells #[.string (bs x.axis), .string (bs x.test), .string (bs x.name), .slice pa x.preds.length pc] 62) := by rw [← hwz]; exact Array.getElem?_push_size

            obtain ⟨tb, htb⟩ : ∃ r, wr.heap.size = r := ⟨_, rfl⟩
            rw [htb] at hbwz
            obtain ⟨k0, k1, k2, k3⟩ := cells4 hbwz
            have htl := blk_lt hbwz
            obtain ⟨T1, hT1⟩ : ∃ T, testT x.test x.name = T := ⟨_, rfl⟩
            obtain ⟨T2, hT2⟩ : ∃ T, bracketsT (txL x.preds) = T := ⟨_, rfl⟩
            have hxT : txT x = x.axis ++ [58, 58] ++ T1 ++ T2 := by rw [← hT1, ← hT2]; cases x; rw [txT]; rfl
            have hlen : x.axis.length + 2 + T1.length + T2.length ≤ 1000000000 := by
              rw [hxT] at hbl
              simp only [List.length_append, List.length_cons, List.length_nil] at hbl
              omega
            have HT1 := Lib.hid fun W (_ : Sx wz W) => ttest_any x.axis x.test x.name pa x.preds.length pc W hbt hbn
            have HT2 := Lib.hid fun W (h : Sx wz W) => preds_tx x.preds HP W (fun b => p0 b) pa pc ((hrp.ext Ewz).ext h) (HG0.out.ext (HEW.out.trans ((HE.out.trans Ewz).trans h))) (by rw [hT2]; omega)
            rw [hT1] at HT1
            rw [hT2] at HT2
            replace HO := Lib.hid (HO.out.ext Ewz)
            have HB := Lib.hid (show w1.heap.size ≤ wz.heap.size from (HE.out.trans Ewz).size)
            have HEz := Lib.hid (HE.out.trans Ewz)
            have HX := Lib.hid (And.intro hx hxT)
            clear HP hbt hbn hbl hrp hbwz Ewz hT1 hT2 hxT hx HE
            go_wp2_with fail
            refine rg_cut (S := Sx wz) 12 (by kernel_rfl) (by kernel_rfl) (by kernel_rfl) (by kernel_rfl) (Sx.begin _) ?_
            have hSp : Sx wz (World.drew wz) := (Sx.begin _)
            refine rg_take 0 (some 35) (d) (oi := { dst := some 35, op := Go.Op.move (Go.Operand.tmp 4), type := 23, pos := "qparse.go:390", after := #[], guard := none }) rfl rfl (by kernel_rfl) (by kernel_rfl) (by kernel_rfl) (fun _ _ _ h => h) hSp (by rfl) (fun w' hs => by rfl) ?_
            simp only [Act.put, List.setIfInBounds_toArray, List.set_cons_zero, List.set_cons_succ]
            refine rg_take 1 (some 36) (.pointer (some ⟨tb, 0, none⟩)) (oi := { dst := some 36, op := Go.Op.fieldAddr 62 (Go.Operand.tmp 6) 0, type := 0, pos := "qparse.go:390", after := #[], guard := none }) rfl rfl (by kernel_rfl) (by kernel_rfl) (by kernel_rfl) (fun _ _ _ h => h) hSp (by rfl) (fun w' hs => by first | rfl | go_simp) ?_
            simp only [Act.put, List.setIfInBounds_toArray, List.set_cons_zero, List.set_cons_succ]
            refine rg_take 2 (some 37) (.string (bs x.axis)) (oi := { dst := some 37, op := Go.Op.load 9 (Go.Operand.tmp 36), type := 9, pos := "qparse.go:390", after := #[{ on := 1, ground := Go.Ground.data }], guard := none }) rfl rfl (by kernel_rfl) (by kernel_rfl) (by kernel_rfl) (fun _ _ _ h => h) hSp (by rfl) (fun w' hs => by (have h0 := hs.cell htl k0; go_simp)) ?_
            simp only [Act.put, List.setIfInBounds_toArray, List.set_cons_zero, List.set_cons_succ]
            refine rg_take 3 (some 38) (.string (bs (x.axis ++ ([58, 58] : List UInt8)))) (oi := { dst := some 38, op := Go.Op.binOp Go.BinOp.add 9 (Go.Operand.tmp 37) (Go.Operand.const (Go.Value.string { data := #[58, 58] })) 9, type := 9, pos := "qparse.go:390", after := #[{ on := 2, ground := Go.Ground.data }], guard := none }) rfl rfl (by kernel_rfl) (by kernel_rfl) (by kernel_rfl) (fun _ _ _ h => h) hSp (by rfl) (fun w' hs => by exact exec_sadd (s := x.axis) (t := ([58, 58] : List UInt8)) rfl rfl rfl (by (try simp only [List.length_append, List.length_cons, List.length_nil]); omega) _) ?_
            simp only [Act.put, List.setIfInBounds_toArray, List.set_cons_zero, List.set_cons_succ]
            refine rg_take 4 (some 39) (.agg #[.string (bs x.axis), .string (bs x.test), .string (bs x.name), .slice pa x.preds.length pc]) (oi := { dst := some 39, op := Go.Op.load 62 (Go.Operand.tmp 6), type := 62, pos := "qparse.go:390", after := #[], guard := none }) rfl rfl (by kernel_rfl) (by kernel_rfl) (by kernel_rfl) (fun _ _ _ h => h) hSp (by rfl) (fun w' hs => by (have h0 := hs.cell htl k0; have h1 := hs.cell htl k1; have h2 := hs.cell htl k2; have h3 := hs.cell htl k3; go_simp)) ?_
            simp only [Act.put, List.setIfInBounds_toArray, List.set_cons_zero, List.set_cons_succ]
            refine rg_take 7 (some 42) (.pointer (some ⟨tb, 3, none⟩)) (oi := { dst := some 42, op := Go.Op.fieldAddr 62 (Go.Operand.tmp 6) 3, type := 0, pos := "qparse.go:390", after := #[], guard := none }) rfl rfl (by kernel_rfl) (by kernel_rfl) (by kernel_rfl) (fun _ _ _ h => h) hSp (by rfl) (fun w' hs => by first | rfl | go_simp) ?_
            simp only [Act.put, List.setIfInBounds_toArray, List.set_cons_zero, List.set_cons_succ]
            refine rg_take 8 (some 43) (.slice pa x.preds.length pc) (oi := { dst := some 43, op := Go.Op.load 26 (Go.Operand.tmp 42), type := 26, pos := "qparse.go:390", after := #[{ on := 7, ground := Go.Ground.data }], guard := none }) rfl rfl (by kernel_rfl) (by kernel_rfl) (by kernel_rfl) (fun _ _ _ h => h) hSp (by rfl) (fun w' hs => by (have h0 := hs.cell htl k3; go_simp)) ?_
            simp only [Act.put, List.setIfInBounds_toArray, List.set_cons_zero, List.set_cons_succ]
            refine rg_call 5 (some 40) 43 #[.agg #[.string (bs x.axis), .string (bs x.test), .string (bs x.name), .slice pa x.preds.length pc]] (oi := { dst := some 40, op := Go.Op.call { callee := Go.Callee.value (Go.Operand.func 43), args := #[Go.Operand.tmp 39], argTypes := #[62] }, type := 9, pos := "qparse.go:390", after := #[{ on := 4, ground := Go.Ground.data }], guard := none }) rfl rfl (by kernel_rfl) (by rfl) (fun w' => by first | rfl | go_simp) (R := fun v w' => v = .string (bs T1) ∧ Ext (World.drew wz) w') ?_ ?_
            · refine (HT1.out (World.drew wz) hSp).mono ?_
              rintro e w' ⟨rfl, h⟩
              exact ⟨_, rfl, rfl, h⟩
            rintro _ wrp1 ⟨rfl, hBrp1⟩
            have hSp1 := hSp.ext hBrp1
            refine ⟨hSp1, ?_⟩
            simp only [Act.put, List.setIfInBounds_toArray, List.set_cons_zero, List.set_cons_succ]
            refine rg_take 6 (some 41) (.string (bs (((x.axis ++ ([58, 58] : List UInt8))) ++ T1))) (oi := { dst := some 41, op := Go.Op.binOp Go.BinOp.add 9 (Go.Operand.tmp 38) (Go.Operand.tmp 40) 9, type := 9, pos := "qparse.go:390", after := #[{ on := 3, ground := Go.Ground.data }, { on := 5, ground := Go.Ground.data }], guard := none }) rfl rfl (by kernel_rfl) (by kernel_rfl) (by kernel_rfl) (fun _ _ _ h => h) hSp1 (by rfl) (fun w' hs => by exact exec_sadd (s := (x.axis ++ ([58, 58] : List UInt8))) (t := T1) rfl rfl rfl (by (try simp only [List.length_append, List.length_cons, List.length_nil]); omega) _) ?_
            simp only [Act.put, List.setIfInBounds_toArray, List.set_cons_zero, List.set_cons_succ]
            refine rg_call 9 (some 44) 21 #[.slice pa x.preds.length pc] (oi := { dst := some 44, op := Go.Op.call { callee := Go.Callee.value (Go.Operand.func 21), args := #[Go.Operand.tmp 43], argTypes := #[26] }, type := 9, pos := "qparse.go:390", after := #[{ on := 8, ground := Go.Ground.data }, { on := 5, ground := Go.Ground.chain }], guard := none }) rfl rfl (by kernel_rfl) (by rfl) (fun w' => by first | rfl | go_simp) (R := fun v w' => v = .string (bs T2) ∧ Ext wrp1 w') ?_ ?_
            · refine (HT2.out wrp1 hSp1).mono ?_
              rintro e w' ⟨rfl, h⟩
              exact ⟨_, rfl, rfl, h⟩
            rintro _ wrp2 ⟨rfl, hBrp2⟩
            have hSp2 := hSp1.ext hBrp2
            refine ⟨hSp2, ?_⟩
            simp only [Act.put, List.setIfInBounds_toArray, List.set_cons_zero, List.set_cons_succ]
            refine rg_take 10 (some 45) (.string (bs (((((x.axis ++ ([58, 58] : List UInt8))) ++ T1)) ++ T2))) (oi := { dst := some 45, op := Go.Op.binOp Go.BinOp.add 9 (Go.Operand.tmp 41) (Go.Operand.tmp 44) 9, type := 9, pos := "qparse.go:390", after := #[{ on := 6, ground := Go.Ground.data }, { on := 9, ground := Go.Ground.data }], guard := none }) rfl rfl (by kernel_rfl) (by kernel_rfl) (by kernel_rfl) (fun _ _ _ h => h) hSp2 (by rfl) (fun w' hs => by exact exec_sadd (s := (((x.axis ++ ([58, 58] : List UInt8))) ++ T1)) (t := T2) rfl rfl rfl (by (try simp only [List.length_append, List.length_cons, List.length_nil]); omega) _) ?_
            simp only [Act.put, List.setIfInBounds_toArray, List.set_cons_zero, List.set_cons_succ]
            refine rg_one 11 (by kernel_rfl) ?_
            refine tk_new 11 (some 46) (.cells #[.string (bs ((((((x.axis ++ ([58, 58] : List UInt8))) ++ T1)) ++ T2)))] 9) (fun n => .slice (some ⟨n, 0, none⟩) 1 1) (oi := { dst := some 46, op := Go.Op.buildSlice 23 1 #[(0, Go.Operand.tmp 45)], type := 23, pos := "qparse.go:390", after := #[{ on := 10, ground := Go.Ground.data }], guard := none }) rfl rfl (by rfl) (by first | rfl | go_simp) ?_
            intro gb xb egb hEx hzxb hC
            subst egb
            have hSb : Sx wz xb := Ext.trans hSp2 hEx
            refine ⟨hSb, ?_⟩
            simp only [Act.put, List.setIfInBounds_toArray, List.set_cons_zero, List.set_cons_succ]
            refine rg_done (by kernel_rfl) ?_
            refine rg_go 2 #[true, true, true, true, true, true, true, true, true, true, true, true, false, false] (by kernel_rfl) (by kernel_rfl) fun m => ?_
            obtain ⟨Z, hZ⟩ : ∃ Z, (((((x.axis ++ ([58, 58] : List UInt8))) ++ T1)) ++ T2) = Z := ⟨_, rfl⟩
            rw [hZ] at hC
            have hOx := HO.out.ext hSb
            refine rg_one 12 (by kernel_rfl) ?_
            refine tk_app1 12 (some 47) (oi := { dst := some 47, op := Go.Op.call { callee := Go.Callee.builtin Go.Builtin.append, args := #[Go.Operand.tmp 35, Go.Operand.tmp 46], argTypes := #[23, 23] }, type := 23, pos := "qparse.go:390", after := #[{ on := 0, ground := Go.Ground.data }, { on := 11, ground := Go.Ground.data }, { on := 9, ground := Go.Ground.chain }], guard := none }) rfl rfl (by rfl) (.tmp 35) (.tmp 46) rfl (hs := rfl) (hown := hOx) (hx := rfl) (hc := fun j u hj => blk_cells (xs := [.string (bs Z)]) hC j hj) (hr := rep1 Z (by rw [← hZ]; simp only [List.length_append, List.length_cons, List.length_nil]; omega)) (h1 := one_str Z) (hl := rfl) (hm := by omega) (hb := by have := Below.size hSb; have := HB.out; omega) ?_
            intro d2 w7 hO7 hg7
            refine ⟨trivial, ?_⟩
            simp only [Act.put, List.setIfInBounds_toArray, List.set_cons_zero, List.set_cons_succ]
            refine rg_take 13 (some 4) (d2) (oi := { dst := some 4, op := Go.Op.assign (Go.Operand.tmp 47), type := 23, pos := "qparse.go:390", after := #[{ on := 12, ground := Go.Ground.data }, { on := 12, ground := Go.Ground.chain }, { on := 0, ground := Go.Ground.phase }, { on := 1, ground := Go.Ground.phase }, { on := 2, ground := Go.Ground.phase }, { on := 3, ground := Go.Ground.phase }, { on := 4, ground := Go.Ground.phase }, { on := 5, ground := Go.Ground.phase }, { on := 6, ground := Go.Ground.phase }, { on := 7, ground := Go.Ground.phase }, { on := 8, ground := Go.Ground.phase }, { on := 9, ground := Go.Ground.phase }, { on := 10, ground := Go.Ground.phase }, { on := 11, ground := Go.Ground.phase }, { on := 12, ground := Go.Ground.phase }], guard := none }) rfl rfl (by kernel_rfl) (by kernel_rfl) (by kernel_rfl) (fun _ _ _ h => h) trivial (by rfl) (fun w' hs => by rfl) ?_
            simp only [Act.put, List.setIfInBounds_toArray, List.set_cons_zero, List.set_cons_succ]
            refine rg_done (by kernel_rfl) ?_
            have HE2 := Lib.hid (Below.grown ((HEz.out).trans hSb) hg7 (Below.size (HEz.out.trans hSb)) fun k hk => (hOx.blk k hk).1)
            have HO2 : Hid (Own w7 (fun _ => False) w1.heap.size 9 1 d2 (i + 1) ((txS (x0.steps.take (i + 1))).flatMap fun t => [strD t])) := by
              rw [txS_eq] at hO7 ⊢
              rw [List.take_add_one, List.getElem?_eq_getElem hil, HX.out.1]
              simp only [Option.toList_some, List.map_append, List.map_cons, List.map_nil, List.flatMap_append, List.flatMap_cons, List.flatMap_nil, List.append_nil]
              rw [HX.out.2, hZ]
              exact Lib.hid hO7
            clear hO7 hg7 hC hOx hEx hSb
            go_wp2_with fail
            go_roundw
            case rel => exact ⟨i + 1, _, rfl, by simp, hil, HE2, HO2⟩
            case measure => simp only [downQ]; omega
          · have hiI : ¬ (i : Int) < (x0.steps.length : Int) := by omega
            obtain rfl : i = x0.steps.length := by omega
            rw [List.take_length] at HO
            have hlL : (txS x0.steps).length = x0.steps.length := by rw [txS_eq, List.length_map]
            rw [← hlL] at HO
            obtain ⟨da, dc, rfl, _, _⟩ := HO.out.form
            have HJ := Lib.hid (join_any [47] (txS x0.steps) _ da dc wr HO.out.rep HJL.out.1 (by rw [hlL]; exact HJL.out.2))
            rw [hlL] at HJ
            go_wp2_with fail
            refine HJ.out.mono ?_
            rintro e w5 ⟨rfl, hX5⟩
            clear HJ
            obtain ⟨J, hJ⟩ : ∃ J, joinT [47] (txS x0.steps) = J := ⟨_, rfl⟩
            have hRR := HR.out
            have hlR := HLR.out
            rw [hJ] at hRR
            rw [← hRR] at hlR
            try simp only [List.length_append, List.length_cons, List.length_nil] at hlR
            have hsz : ¬ 9223372036854775807 < 1 + (bs J).size := by simp only [bs_size]; omega
            rw [hJ]
            have HF := Lib.hid (HEW.out.trans (HE.out.trans hX5))
            have HRR := Lib.hid hRR
            clear hX5 HE HO hJ hlR hRR
            go_wp2_with fail
            go_ret
            exact ⟨by rw [← HRR.out]; (rw [show (⟨#[47]⟩ : ByteArray) = bs [47] from rfl, bs_append]; rfl), HF.out⟩

    | false =>
      replace hR := (if_neg (fun h => Bool.noConfusion h.1)).symm.trans hR
      replace hR := (if_neg (by decide)).symm.trans hR
      have HJL := Lib.hid (show (joinT [47] (txS x0.steps)).length ≤ 1000000000 ∧ x0.steps.length ≤ 1000000000 from by
        have h := congrArg List.length hR
        try simp only [List.length_append, List.length_cons, List.length_nil] at h
        have h2 := join_n [47] (by decide) (txS x0.steps)
        rw [txS_eq, List.length_map, ← txS_eq] at h2
        have h3 : (joinT [47] (txS x0.steps)).length + 1 ≤ 1000000000 ∨ (joinT [47] (txS x0.steps)).length ≤ 1000000000 := .inr (by omega)
        exact ⟨by omega, by omega⟩)
      have HS0 := Lib.hid (And.intro (HQ.out.2.ext (Ext.refl w1)) (And.intro HS (fun s (hs : s ∈ x0.steps) => And.intro (HB s hs).1 (And.intro (HB s hs).2 (Nat.le_trans (join_get [47] _ _ (show txT s ∈ txS x0.steps by rw [txS_eq]; exact List.mem_map_of_mem hs)) HJL.out.1)))))
      have HR := Lib.hid hR
      have HLR := Lib.hid hl
      have hslI : (x0.steps.length : Int) ≤ 1000000000 := by have := HJL.out.2; omega

      have d6 := e6
      clear hse hR hl HQ
      go_wp2_with fail
      go_loopw [4, 6, 31] (fun dv _ t wr => ∃ (i : Nat) (d : Value), d = dv ∧ t = .int .i64 i ∧ i ≤ x0.steps.length ∧ Hid (Ext w1 wr) ∧ Hid (Own wr (fun _ => False) w1.heap.size 9 1 d i ((txS (x0.steps.take i)).flatMap fun t => [strD t]))) (fun _ _ t _ => downQ x0.steps.length t)
      case atStart => exact ⟨0, _, rfl, rfl, Nat.zero_le _, Lib.hid (Ext.refl w1), Lib.hid (Own.nil _ _ _ _ _)⟩
      case round =>
        obtain ⟨i, d, rfl, rfl, hi, HE, HO⟩ := hrel
        by_cases hil : i < x0.steps.length
        · have hiI : (i : Int) < (x0.steps.length : Int) := by omega
          obtain ⟨b, off, had, hb, pa, pc, ⟨s0, s1, s2, s3⟩, hrp⟩ := st_at (HS0.out.1.ext HE.out) i hil
          have hmem := List.getElem_mem hil
          have HP := HS0.out.2.1 _ hmem
          obtain ⟨hbt, hbn, hbl⟩ := HS0.out.2.2 _ hmem
          obtain ⟨x, hx⟩ : ∃ x, x0.steps[i] = x := ⟨_, rfl⟩
          rw [hx] at HP hbt hbn hbl s0 s1 s2 s3 hrp
          subst had
          obtain ⟨wz, hwz⟩ : ∃ w, wr.alloc (.cells #[.string (bs x.axis), .string (bs x.test), .string (bs x.name), .slice pa x.preds.length pc] 62) = w := ⟨_, rfl⟩
          have Ewz : Ext wr wz := by rw [← hwz]; exact (Ext.refl wr).alloc _
          have hbwz : wz.heap[wr.heap.size]? = some (.cells #[.string (bs x.axis), .string (bs x.test), .string (bs x.name), .slice pa x.preds.length pc] 62) := by rw [← hwz]; exact Array.getElem?_push_size

          obtain ⟨tb, htb⟩ : ∃ r, wr.heap.size = r := ⟨_, rfl⟩
          rw [htb] at hbwz
          obtain ⟨k0, k1, k2, k3⟩ := cells4 hbwz
          have htl := blk_lt hbwz
          obtain ⟨T1, hT1⟩ : ∃ T, testT x.test x.name = T := ⟨_, rfl⟩
          obtain ⟨T2, hT2⟩ : ∃ T, bracketsT (txL x.preds) = T := ⟨_, rfl⟩
          have hxT : txT x = x.axis ++ [58, 58] ++ T1 ++ T2 := by rw [← hT1, ← hT2]; cases x; rw [txT]; rfl
          have hlen : x.axis.length + 2 + T1.length + T2.length ≤ 1000000000 := by
            rw [hxT] at hbl
            simp only [List.length_append, List.length_cons, List.length_nil] at hbl
            omega
          have HT1 := Lib.hid fun W (_ : Sx wz W) => ttest_any x.axis x.test x.name pa x.preds.length pc W hbt hbn
          have HT2 := Lib.hid fun W (h : Sx wz W) => preds_tx x.preds HP W (fun b => p0 b) pa pc ((hrp.ext Ewz).ext h) (HG0.out.ext (HEW.out.trans ((HE.out.trans Ewz).trans h))) (by rw [hT2]; omega)
          rw [hT1] at HT1
          rw [hT2] at HT2
          replace HO := Lib.hid (HO.out.ext Ewz)
          have HB := Lib.hid (show w1.heap.size ≤ wz.heap.size from (HE.out.trans Ewz).size)
          have HEz := Lib.hid (HE.out.trans Ewz)
          have HX := Lib.hid (And.intro hx hxT)
          clear HP hbt hbn hbl hrp hbwz Ewz hT1 hT2 hxT hx HE
          go_wp2_with fail
          refine rg_cut (S := Sx wz) 12 (by kernel_rfl) (by kernel_rfl) (by kernel_rfl) (by kernel_rfl) (Sx.begin _) ?_
          have hSp : Sx wz (World.drew wz) := (Sx.begin _)
          refine rg_take 0 (some 35) (d) (oi := { dst := some 35, op := Go.Op.move (Go.Operand.tmp 4), type := 23, pos := "qparse.go:390", after := #[], guard := none }) rfl rfl (by kernel_rfl) (by kernel_rfl) (by kernel_rfl) (fun _ _ _ h => h) hSp (by rfl) (fun w' hs => by rfl) ?_
          simp only [Act.put, List.setIfInBounds_toArray, List.set_cons_zero, List.set_cons_succ]
          refine rg_take 1 (some 36) (.pointer (some ⟨tb, 0, none⟩)) (oi := { dst := some 36, op := Go.Op.fieldAddr 62 (Go.Operand.tmp 6) 0, type := 0, pos := "qparse.go:390", after := #[], guard := none }) rfl rfl (by kernel_rfl) (by kernel_rfl) (by kernel_rfl) (fun _ _ _ h => h) hSp (by rfl) (fun w' hs => by first | rfl | go_simp) ?_
          simp only [Act.put, List.setIfInBounds_toArray, List.set_cons_zero, List.set_cons_succ]
          refine rg_take 2 (some 37) (.string (bs x.axis)) (oi := { dst := some 37, op := Go.Op.load 9 (Go.Operand.tmp 36), type := 9, pos := "qparse.go:390", after := #[{ on := 1, ground := Go.Ground.data }], guard := none }) rfl rfl (by kernel_rfl) (by kernel_rfl) (by kernel_rfl) (fun _ _ _ h => h) hSp (by rfl) (fun w' hs => by (have h0 := hs.cell htl k0; go_simp)) ?_
          simp only [Act.put, List.setIfInBounds_toArray, List.set_cons_zero, List.set_cons_succ]
          refine rg_take 3 (some 38) (.string (bs (x.axis ++ ([58, 58] : List UInt8)))) (oi := { dst := some 38, op := Go.Op.binOp Go.BinOp.add 9 (Go.Operand.tmp 37) (Go.Operand.const (Go.Value.string { data := #[58, 58] })) 9, type := 9, pos := "qparse.go:390", after := #[{ on := 2, ground := Go.Ground.data }], guard := none }) rfl rfl (by kernel_rfl) (by kernel_rfl) (by kernel_rfl) (fun _ _ _ h => h) hSp (by rfl) (fun w' hs => by exact exec_sadd (s := x.axis) (t := ([58, 58] : List UInt8)) rfl rfl rfl (by (try simp only [List.length_append, List.length_cons, List.length_nil]); omega) _) ?_
          simp only [Act.put, List.setIfInBounds_toArray, List.set_cons_zero, List.set_cons_succ]
          refine rg_take 4 (some 39) (.agg #[.string (bs x.axis), .string (bs x.test), .string (bs x.name), .slice pa x.preds.length pc]) (oi := { dst := some 39, op := Go.Op.load 62 (Go.Operand.tmp 6), type := 62, pos := "qparse.go:390", after := #[], guard := none }) rfl rfl (by kernel_rfl) (by kernel_rfl) (by kernel_rfl) (fun _ _ _ h => h) hSp (by rfl) (fun w' hs => by (have h0 := hs.cell htl k0; have h1 := hs.cell htl k1; have h2 := hs.cell htl k2; have h3 := hs.cell htl k3; go_simp)) ?_
          simp only [Act.put, List.setIfInBounds_toArray, List.set_cons_zero, List.set_cons_succ]
          refine rg_take 7 (some 42) (.pointer (some ⟨tb, 3, none⟩)) (oi := { dst := some 42, op := Go.Op.fieldAddr 62 (Go.Operand.tmp 6) 3, type := 0, pos := "qparse.go:390", after := #[], guard := none }) rfl rfl (by kernel_rfl) (by kernel_rfl) (by kernel_rfl) (fun _ _ _ h => h) hSp (by rfl) (fun w' hs => by first | rfl | go_simp) ?_
          simp only [Act.put, List.setIfInBounds_toArray, List.set_cons_zero, List.set_cons_succ]
          refine rg_take 8 (some 43) (.slice pa x.preds.length pc) (oi := { dst := some 43, op := Go.Op.load 26 (Go.Operand.tmp 42), type := 26, pos := "qparse.go:390", after := #[{ on := 7, ground := Go.Ground.data }], guard := none }) rfl rfl (by kernel_rfl) (by kernel_rfl) (by kernel_rfl) (fun _ _ _ h => h) hSp (by rfl) (fun w' hs => by (have h0 := hs.cell htl k3; go_simp)) ?_
          simp only [Act.put, List.setIfInBounds_toArray, List.set_cons_zero, List.set_cons_succ]
          refine rg_call 5 (some 40) 43 #[.agg #[.string (bs x.axis), .string (bs x.test), .string (bs x.name), .slice pa x.preds.length pc]] (oi := { dst := some 40, op := Go.Op.call { callee := Go.Callee.value (Go.Operand.func 43), args := #[Go.Operand.tmp 39], argTypes := #[62] }, type := 9, pos := "qparse.go:390", after := #[{ on := 4, ground := Go.Ground.data }], guard := none }) rfl rfl (by kernel_rfl) (by rfl) (fun w' => by first | rfl | go_simp) (R := fun v w' => v = .string (bs T1) ∧ Ext (World.drew wz) w') ?_ ?_
          · refine (HT1.out (World.drew wz) hSp).mono ?_
            rintro e w' ⟨rfl, h⟩
            exact ⟨_, rfl, rfl, h⟩
          rintro _ wrp1 ⟨rfl, hBrp1⟩
          have hSp1 := hSp.ext hBrp1
          refine ⟨hSp1, ?_⟩
          simp only [Act.put, List.setIfInBounds_toArray, List.set_cons_zero, List.set_cons_succ]
          refine rg_take 6 (some 41) (.string (bs (((x.axis ++ ([58, 58] : List UInt8))) ++ T1))) (oi := { dst := some 41, op := Go.Op.binOp Go.BinOp.add 9 (Go.Operand.tmp 38) (Go.Operand.tmp 40) 9, type := 9, pos := "qparse.go:390", after := #[{ on := 3, ground := Go.Ground.data }, { on := 5, ground := Go.Ground.data }], guard := none }) rfl rfl (by kernel_rfl) (by kernel_rfl) (by kernel_rfl) (fun _ _ _ h => h) hSp1 (by rfl) (fun w' hs => by exact exec_sadd (s := (x.axis ++ ([58, 58] : List UInt8))) (t := T1) rfl rfl rfl (by (try simp only [List.length_append, List.length_cons, List.length_nil]); omega) _) ?_
          simp only [Act.put, List.setIfInBounds_toArray, List.set_cons_zero, List.set_cons_succ]
          refine rg_call 9 (some 44) 21 #[.slice pa x.preds.length pc] (oi := { dst := some 44, op := Go.Op.call { callee := Go.Callee.value (Go.Operand.func 21), args := #[Go.Operand.tmp 43], argTypes := #[26] }, type := 9, pos := "qparse.go:390", after := #[{ on := 8, ground := Go.Ground.data }, { on := 5, ground := Go.Ground.chain }], guard := none }) rfl rfl (by kernel_rfl) (by rfl) (fun w' => by first | rfl | go_simp) (R := fun v w' => v = .string (bs T2) ∧ Ext wrp1 w') ?_ ?_
          · refine (HT2.out wrp1 hSp1).mono ?_
            rintro e w' ⟨rfl, h⟩
            exact ⟨_, rfl, rfl, h⟩
          rintro _ wrp2 ⟨rfl, hBrp2⟩
          have hSp2 := hSp1.ext hBrp2
          refine ⟨hSp2, ?_⟩
          simp only [Act.put, List.setIfInBounds_toArray, List.set_cons_zero, List.set_cons_succ]
          refine rg_take 10 (some 45) (.string (bs (((((x.axis ++ ([58, 58] : List UInt8))) ++ T1)) ++ T2))) (oi := { dst := some 45, op := Go.Op.binOp Go.BinOp.add 9 (Go.Operand.tmp 41) (Go.Operand.tmp 44) 9, type := 9, pos := "qparse.go:390", after := #[{ on := 6, ground := Go.Ground.data }, { on := 9, ground := Go.Ground.data }], guard := none }) rfl rfl (by kernel_rfl) (by kernel_rfl) (by kernel_rfl) (fun _ _ _ h => h) hSp2 (by rfl) (fun w' hs => by exact exec_sadd (s := (((x.axis ++ ([58, 58] : List UInt8))) ++ T1)) (t := T2) rfl rfl rfl (by (try simp only [List.length_append, List.length_cons, List.length_nil]); omega) _) ?_
          simp only [Act.put, List.setIfInBounds_toArray, List.set_cons_zero, List.set_cons_succ]
          refine rg_one 11 (by kernel_rfl) ?_
          refine tk_new 11 (some 46) (.cells #[.string (bs ((((((x.axis ++ ([58, 58] : List UInt8))) ++ T1)) ++ T2)))] 9) (fun n => .slice (some ⟨n, 0, none⟩) 1 1) (oi := { dst := some 46, op := Go.Op.buildSlice 23 1 #[(0, Go.Operand.tmp 45)], type := 23, pos := "qparse.go:390", after := #[{ on := 10, ground := Go.Ground.data }], guard := none }) rfl rfl (by rfl) (by first | rfl | go_simp) ?_
          intro gb xb egb hEx hzxb hC
          subst egb
          have hSb : Sx wz xb := Ext.trans hSp2 hEx
          refine ⟨hSb, ?_⟩
          simp only [Act.put, List.setIfInBounds_toArray, List.set_cons_zero, List.set_cons_succ]
          refine rg_done (by kernel_rfl) ?_
          refine rg_go 2 #[true, true, true, true, true, true, true, true, true, true, true, true, false, false] (by kernel_rfl) (by kernel_rfl) fun m => ?_
          obtain ⟨Z, hZ⟩ : ∃ Z, (((((x.axis ++ ([58, 58] : List UInt8))) ++ T1)) ++ T2) = Z := ⟨_, rfl⟩
          rw [hZ] at hC
          have hOx := HO.out.ext hSb
          refine rg_one 12 (by kernel_rfl) ?_
          refine tk_app1 12 (some 47) (oi := { dst := some 47, op := Go.Op.call { callee := Go.Callee.builtin Go.Builtin.append, args := #[Go.Operand.tmp 35, Go.Operand.tmp 46], argTypes := #[23, 23] }, type := 23, pos := "qparse.go:390", after := #[{ on := 0, ground := Go.Ground.data }, { on := 11, ground := Go.Ground.data }, { on := 9, ground := Go.Ground.chain }], guard := none }) rfl rfl (by rfl) (.tmp 35) (.tmp 46) rfl (hs := rfl) (hown := hOx) (hx := rfl) (hc := fun j u hj => blk_cells (xs := [.string (bs Z)]) hC j hj) (hr := rep1 Z (by rw [← hZ]; simp only [List.length_append, List.length_cons, List.length_nil]; omega)) (h1 := one_str Z) (hl := rfl) (hm := by omega) (hb := by have := Below.size hSb; have := HB.out; omega) ?_
          intro d2 w7 hO7 hg7
          refine ⟨trivial, ?_⟩
          simp only [Act.put, List.setIfInBounds_toArray, List.set_cons_zero, List.set_cons_succ]
          refine rg_take 13 (some 4) (d2) (oi := { dst := some 4, op := Go.Op.assign (Go.Operand.tmp 47), type := 23, pos := "qparse.go:390", after := #[{ on := 12, ground := Go.Ground.data }, { on := 12, ground := Go.Ground.chain }, { on := 0, ground := Go.Ground.phase }, { on := 1, ground := Go.Ground.phase }, { on := 2, ground := Go.Ground.phase }, { on := 3, ground := Go.Ground.phase }, { on := 4, ground := Go.Ground.phase }, { on := 5, ground := Go.Ground.phase }, { on := 6, ground := Go.Ground.phase }, { on := 7, ground := Go.Ground.phase }, { on := 8, ground := Go.Ground.phase }, { on := 9, ground := Go.Ground.phase }, { on := 10, ground := Go.Ground.phase }, { on := 11, ground := Go.Ground.phase }, { on := 12, ground := Go.Ground.phase }], guard := none }) rfl rfl (by kernel_rfl) (by kernel_rfl) (by kernel_rfl) (fun _ _ _ h => h) trivial (by rfl) (fun w' hs => by rfl) ?_
          simp only [Act.put, List.setIfInBounds_toArray, List.set_cons_zero, List.set_cons_succ]
          refine rg_done (by kernel_rfl) ?_
          have HE2 := Lib.hid (Below.grown ((HEz.out).trans hSb) hg7 (Below.size (HEz.out.trans hSb)) fun k hk => (hOx.blk k hk).1)
          have HO2 : Hid (Own w7 (fun _ => False) w1.heap.size 9 1 d2 (i + 1) ((txS (x0.steps.take (i + 1))).flatMap fun t => [strD t])) := by
            rw [txS_eq] at hO7 ⊢
            rw [List.take_add_one, List.getElem?_eq_getElem hil, HX.out.1]
            simp only [Option.toList_some, List.map_append, List.map_cons, List.map_nil, List.flatMap_append, List.flatMap_cons, List.flatMap_nil, List.append_nil]
            rw [HX.out.2, hZ]
            exact Lib.hid hO7
          clear hO7 hg7 hC hOx hEx hSb
          go_wp2_with fail
          go_roundw
          case rel => exact ⟨i + 1, _, rfl, by simp, hil, HE2, HO2⟩
          case measure => simp only [downQ]; omega
        · have hiI : ¬ (i : Int) < (x0.steps.length : Int) := by omega
          obtain rfl : i = x0.steps.length := by omega
          rw [List.take_length] at HO
          have hlL : (txS x0.steps).length = x0.steps.length := by rw [txS_eq, List.length_map]
          rw [← hlL] at HO
          obtain ⟨da, dc, rfl, _, _⟩ := HO.out.form
          have HJ := Lib.hid (join_any [47] (txS x0.steps) _ da dc wr HO.out.rep HJL.out.1 (by rw [hlL]; exact HJL.out.2))
          rw [hlL] at HJ
          go_wp2_with fail
          refine HJ.out.mono ?_
          rintro e w5 ⟨rfl, hX5⟩
          clear HJ
          obtain ⟨J, hJ⟩ : ∃ J, joinT [47] (txS x0.steps) = J := ⟨_, rfl⟩
          have hRR := HR.out
          have hlR := HLR.out
          rw [hJ] at hRR
          rw [← hRR] at hlR
          try simp only [List.length_append, List.length_cons, List.length_nil] at hlR
          have hsz : ¬ 9223372036854775807 < (bs J).size := by simp only [bs_size]; omega
          rw [hJ]
          have HF := Lib.hid (HEW.out.trans (HE.out.trans hX5))
          have HRR := Lib.hid hRR
          clear hX5 HE HO hJ hlR hRR
          go_wp2_with fail
          go_ret
          exact ⟨by rw [← HRR.out]; (rw [show (⟨#[]⟩ : ByteArray) = bs [] from rfl, bs_append]; rfl), HF.out⟩


end Go.Proofs.YtfoclfefjcnllaaGreatDoor

/-
  How great a parsed tree is, and its text. Helper lemmas; no statement of the seat is proved here.
-/
namespace Go.Proofs.YtfoclfefjcnllaaGreatDoor
set_option maxRecDepth 100000
set_option linter.unusedVariables false
set_option linter.unusedSimpArgs false

mutual
def wE : Ex → Nat
  | .mk op text _ _ args _ steps => 64 + op.length + text.length + wL args + wS steps
def wL : List Ex → Nat
  | [] => 0
  | e :: r => wE e + wL r
def wT : St → Nat
  | .mk a t n preds => 64 + a.length + t.length + n.length + wL preds
def wS : List St → Nat
  | [] => 0
  | s :: r => wT s + wS r
end
mutual
def arE : Ex → Bool
  | .mk op text _ _ args _ steps => (op == [110, 117, 109] || op == [108, 105, 116] || op == [99, 97, 108, 108] || op == [112, 97, 116, 104] || decide (2 ≤ args.length) || (decide (1 ≤ args.length) && (op == [110, 101, 103] || op == [102, 105, 108, 116, 101, 114]))) && arL args && arS steps
def arL : List Ex → Bool
  | [] => true
  | e :: r => arE e && arL r
def arT : St → Bool
  | .mk _ _ _ preds => arL preds
def arS : List St → Bool
  | [] => true
  | s :: r => arT s && arS r
end
theorem wE_eq (x : Ex) : wE x = 64 + x.op.length + x.text.length + wL x.args + wS x.steps := by cases x; rw [wE]; rfl
theorem wT_eq (x : St) : wT x = 64 + x.axis.length + x.test.length + x.name.length + wL x.preds := by cases x; rw [wT]; rfl
theorem wL_app : ∀ l m : List Ex, wL (l ++ m) = wL l + wL m
  | [], m => by simp [wL]
  | a :: l, m => by rw [List.cons_append, wL, wL, wL_app l m]; omega
theorem wS_app : ∀ l m : List St, wS (l ++ m) = wS l + wS m
  | [], m => by simp [wS]
  | a :: l, m => by rw [List.cons_append, wS, wS, wS_app l m]; omega
theorem arL_app : ∀ l m : List Ex, arL (l ++ m) = (arL l && arL m)
  | [], m => by simp [arL]
  | a :: l, m => by rw [List.cons_append, arL, arL, arL_app l m, Bool.and_assoc]
theorem arS_app : ∀ l m : List St, arS (l ++ m) = (arS l && arS m)
  | [], m => by simp [arS]
  | a :: l, m => by rw [List.cons_append, arS, arS, arS_app l m, Bool.and_assoc]
theorem wL_mem : ∀ (l : List Ex) (y : Ex), y ∈ l → wE y ≤ wL l
  | [], y, h => by cases h
  | a :: l, y, h => by
    rw [wL]
    rcases List.mem_cons.1 h with rfl | h
    · omega
    · have := wL_mem l y h; omega
theorem wS_mem : ∀ (l : List St) (y : St), y ∈ l → wT y ≤ wS l
  | [], y, h => by cases h
  | a :: l, y, h => by
    rw [wS]
    rcases List.mem_cons.1 h with rfl | h
    · omega
    · have := wS_mem l y h; omega
theorem arL_mem : ∀ (l : List Ex) (y : Ex), arL l = true → y ∈ l → arE y = true
  | [], y, _, h => by cases h
  | a :: l, y, h0, h => by
    rw [arL, Bool.and_eq_true] at h0
    rcases List.mem_cons.1 h with rfl | h
    · exact h0.1
    · exact arL_mem l y h0.2 h
theorem arS_mem : ∀ (l : List St) (y : St), arS l = true → y ∈ l → arT y = true
  | [], y, _, h => by cases h
  | a :: l, y, h0, h => by
    rw [arS, Bool.and_eq_true] at h0
    rcases List.mem_cons.1 h with rfl | h
    · exact h0.1
    · exact arS_mem l y h0.2 h
-- the text's length
theorem textS_len (n : Bool) (v : Int) : (textS n v).length ≤ 40 := by
  unfold textS
  split
  · decide
  · rename_i ho
    obtain ⟨rfl, a1, a2⟩ := oddB_false (show oddB n v = false by simpa using ho)
    have hp6 : (placesS v.natAbs).length ≤ 6 := by
      unfold placesS Lib.trimRightS
      rw [List.length_reverse]
      refine Nat.le_trans (List.dropWhile_sublist _).length_le ?_
      rw [List.length_reverse, List.length_reverse, KText.low_length]; exact Nat.le_refl _
    have hd := dec_len (v.natAbs / 1000000) (by omega)
    have hb : (bodyS v.natAbs).length ≤ 27 := by
      unfold bodyS
      split
      · omega
      · simp only [List.length_append, List.length_cons, List.length_nil]; omega
    split
    · simp only [List.length_append, List.length_cons, List.length_nil]; omega
    · omega
def sumL (L : List (List UInt8)) : Nat := (L.map fun t => t.length + 8).sum
theorem sumL_cons (a : List UInt8) (L : List (List UInt8)) : sumL (a :: L) = a.length + 8 + sumL L := by unfold sumL; rw [List.map_cons, List.sum_cons]
theorem join_sum (sep : List UInt8) (hs : sep.length ≤ 8) : ∀ L : List (List UInt8), (joinT sep L).length ≤ sumL L
  | [] => by simp [joinT]
  | [a] => by rw [joinT, sumL_cons]; omega
  | a :: b :: r => by
    rw [joinT, sumL_cons]
    have := join_sum sep hs (b :: r)
    simp only [List.length_append]; omega
theorem brackets_sum : ∀ L : List (List UInt8), (bracketsT L).length ≤ sumL L
  | [] => by simp [bracketsT]
  | a :: r => by
    rw [sumL_cons]
    have := brackets_sum r
    unfold bracketsT at this ⊢
    simp only [List.flatMap_cons, List.length_append, List.length_cons, List.length_nil]; omega
theorem head_tail_sum (L : List (List UInt8)) : (L.headD []).length + sumL L.tail ≤ sumL L := by
  cases L with
  | nil => simp [sumL]
  | cons a r => rw [sumL_cons]; simp only [List.headD_cons, List.tail_cons]; omega
theorem head_sum (L : List (List UInt8)) : (L.headD []).length ≤ sumL L := by have := head_tail_sum L; omega
theorem quoteT_len (t : List UInt8) : (quoteT t).length = t.length + 2 := by unfold quoteT; split <;> simp
theorem testT_len (t n : List UInt8) : (testT t n).length ≤ t.length + n.length + 30 := by
  unfold testT
  split
  · omega
  · split
    · split
      · simp
      · simp only [List.length_append, List.length_cons, List.length_nil, quoteT_len]; omega
    · simp only [List.length_append, List.length_cons, List.length_nil]; omega
mutual
theorem tx_w : ∀ x : Ex, (txE x).length + 8 ≤ wE x
  | .mk op text nan v args abs steps => by
    have h1 := txL_w args
    have h2 := txS_w steps
    have j1 := join_sum [44, 32] (by decide) (txL args)
    have j2 := join_sum [47] (by decide) (txS steps)
    have q := quoteT_len text
    have n := textS_len nan v
    have t1 := head_tail_sum (txL args)
    have t2 := head_sum (txL args).tail
    have b := brackets_sum (txL args).tail
    rw [txE, wE]
    repeat' split
    all_goals ((try simp only [List.length_append, List.length_cons, List.length_nil]); omega)
theorem txL_w : ∀ l : List Ex, sumL (txL l) ≤ wL l
  | [] => by rw [txL, wL]; exact Nat.le_refl _
  | e :: r => by
    have h1 := tx_w e
    have h2 := txL_w r
    rw [txL, wL, sumL_cons]; omega
theorem txT_w : ∀ s : St, (txT s).length + 8 ≤ wT s
  | .mk a t n preds => by
    have h1 := txL_w preds
    have b := brackets_sum (txL preds)
    have t1 := testT_len t n
    rw [txT, wT]
    simp only [List.length_append, List.length_cons, List.length_nil]; omega
theorem txS_w : ∀ l : List St, sumL (txS l) ≤ wS l
  | [] => by rw [txS, wS]; exact Nat.le_refl _
  | e :: r => by
    have h1 := txT_w e
    have h2 := txS_w r
    rw [txS, wS, sumL_cons]; omega
end
-- what the parser makes
theorem wE_neg (e : Ex) : wE (exP [110, 101, 103] [e]) = 67 + wE e := by unfold exP; simp only [wE, wL, wS, List.length_cons, List.length_nil]; omega
theorem arE_neg (e : Ex) (h : arE e = true) : arE (exP [110, 101, 103] [e]) = true := by unfold exP; simp [arE, arL, arS, h]
theorem wrap_w : ∀ (n : Nat) (e : Ex), arE e = true → arE (wrapNeg n e) = true ∧ wE (wrapNeg n e) = 67 * n + wE e
  | 0, e, h => ⟨h, by rw [wrapNeg]; omega⟩
  | n + 1, e, h => by
    rw [wrapNeg]
    obtain ⟨h1, h2⟩ := wrap_w n _ (arE_neg e h)
    rw [wE_neg] at h2
    exact ⟨h1, by omega⟩
theorem wE_two (op : List UInt8) (e r : Ex) : wE (exP op [e, r]) = 64 + op.length + (wE e + wE r) := by unfold exP; simp only [wE, wL, wS, List.length_nil]; omega
theorem arE_two (op : List UInt8) (e r : Ex) (h : arE e = true) (h' : arE r = true) : arE (exP op [e, r]) = true := by unfold exP; simp [arE, arL, arS, h, h']
section
variable (ts : List QT) (en : Nat)
def Txt : Prop := ∀ t ∈ ts, t.text.length ≤ 1000
theorem tok_len (h : Txt ts) (i : Nat) : (tokP ts en i).text.length ≤ 1000 := by
  unfold tokP
  rw [List.getD_eq_getElem?_getD]
  rcases Nat.lt_or_ge i ts.length with h' | h'
  · rw [List.getElem?_eq_getElem h', Option.getD_some]; exact h _ (List.getElem_mem h')
  · rw [List.getElem?_eq_none h']; exact Nat.zero_le _
theorem testP_w (h : Txt ts) {i k : Nat} {t n : List UInt8} (q : testP ts en i = .ok ((t, n), k)) : i + 1 ≤ k ∧ k ≤ i + (ts.length - i) ∧ t.length ≤ 1000 ∧ n.length ≤ 1000 := by
  have h0 := tok_len ts en h i
  unfold testP at q
  split at q
  · rename_i hk1
    have hl1 := kind_lt ts en i (by rw [hk1]; decide)
    cases q; exact ⟨by omega, by omega, by decide, h0⟩
  · split at q
    · rename_i hk3
      have hl3 := kind_lt ts en i (by rw [hk3]; decide)
      split at q
      · cases q
      · rename_i u j q2
        obtain ⟨hj, hjl⟩ := must_ok ts en q2
        have h1 := tok_len ts en h j
        dsimp only at hj
        split at q
        · split at q
          · split at q
            · cases q
            · rename_i u2 k2 q3
              obtain ⟨hk, hkl⟩ := must_ok ts en q3
              dsimp only at hk
              cases q; exact ⟨by omega, by omega, by decide, h1⟩
          · split at q
            · cases q
            · rename_i u2 k2 q3
              obtain ⟨hk, hkl⟩ := must_ok ts en q3
              dsimp only at hk
              cases q; exact ⟨by omega, by omega, by decide, by decide⟩
        · split at q
          · cases q
          · rename_i u2 k2 q3
            obtain ⟨hk, hkl⟩ := must_ok ts en q3
            dsimp only at hk
            cases q; exact ⟨by omega, by omega, h0, by decide⟩
    · cases q
theorem axisP_inl {i k : Nat} {s : St} (q : axisP ts en i = .ok (.inl s, k)) : i + 1 ≤ k ∧ k ≤ i + (ts.length - i) ∧ wT s ≤ 90 ∧ arT s = true := by
  unfold axisP at q
  split at q
  · rename_i hc
    have hl := isP_lt ts en i 6 _ (by decide) hc
    cases q; exact ⟨by omega, by omega, by decide, rfl⟩
  · split at q
    · rename_i hc
      have hl := isP_lt ts en i 6 _ (by decide) hc
      cases q; exact ⟨by omega, by omega, by decide, rfl⟩
    · split at q
      · cases q
      · split at q
        · split at q
          · split at q
            · cases q
            · cases q
          · cases q
        · cases q
theorem axisP_inr (h : Txt ts) {i k : Nat} {a : List UInt8} (q : axisP ts en i = .ok (.inr a, k)) : i ≤ k ∧ k ≤ i + (ts.length - i) ∧ a.length ≤ 1000 := by
  have h0 := tok_len ts en h i
  unfold axisP at q
  split at q
  · cases q
  · split at q
    · cases q
    · split at q
      · rename_i hc
        have hl := isP_lt ts en i 6 _ (by decide) hc
        cases q; exact ⟨by omega, by omega, by decide⟩
      · split at q
        · split at q
          · split at q
            · cases q
            · rename_i u2 k2 q3
              obtain ⟨hk, hkl⟩ := must_ok ts en q3
              dsimp only at hk
              cases q; exact ⟨by omega, by omega, h0⟩
          · cases q
        · cases q; exact ⟨by omega, by omega, by decide⟩
theorem slash_w {i k : Nat} {o : List St} (q : slashP ts en i = (some o, k)) : k = i + 1 ∧ i < ts.length ∧ wS o ≤ 90 ∧ arS o = true := by
  have h0 := slash_some ts en q
  refine ⟨h0.1, h0.2, ?_⟩
  unfold slashP at q
  split at q
  · cases q; exact ⟨by decide, rfl⟩
  · split at q
    · cases q; exact ⟨by decide, rfl⟩
    · cases q
theorem slash_any_w (i : Nat) : i ≤ (slashP ts en i).2 ∧ (slashP ts en i).2 ≤ i + (ts.length - i) ∧ wS ((slashP ts en i).1.getD []) + 4000 * i ≤ 4000 * (slashP ts en i).2 ∧ arS ((slashP ts en i).1.getD []) = true := by
  cases h : slashP ts en i with
  | mk o k =>
    cases o with
    | none =>
      have : k = i := by
        unfold slashP at h
        split at h
        · cases h
        · split at h
          · cases h
          · cases h; rfl
      subst this
      exact ⟨Nat.le_refl _, by dsimp only; omega, by show wS [] + 4000 * k ≤ 4000 * k; rw [wS]; omega, rfl⟩
    | some o =>
      obtain ⟨h1, h2, h3, h4⟩ := slash_w ts en h
      exact ⟨by dsimp only; omega, by dsimp only; omega, by show wS o + 4000 * i ≤ 4000 * k; omega, h4⟩
theorem minus_le : ∀ (f i : Nat), i + minusP ts en f i ≤ i + (ts.length - i)
  | 0, i => by rw [minusP]; omega
  | f + 1, i => by
    rw [minusP]
    split
    · rename_i hc
      have hl := isP_lt ts en i 5 _ (by decide) hc
      have := minus_le f (i + 1)
      omega
    · omega
/-- A parsed tree is no greater than 4000 for each token. -/
def OkE (i : Nat) (w0 : Nat) (r : PR Ex) : Prop := ∀ e j, r = .ok (e, j) → arE e = true ∧ wE e + 4000 * i ≤ 4000 * j + w0 ∧ j ≤ i + (ts.length - i)
def OkL (i : Nat) (w0 : Nat) (r : PR (List Ex)) : Prop := ∀ e j, r = .ok (e, j) → arL e = true ∧ wL e + 4000 * i ≤ 4000 * j + w0 ∧ j ≤ i + (ts.length - i)
theorem ok_fail {α : Type} (c : Int) (i j : Nat) (e : α) (q : (failP ts en c i : PR α) = .ok (e, j)) : False := by unfold failP at q; cases q
set_option maxHeartbeats 4000000 in
theorem ok_all (h : Txt ts) : ∀ f : Nat,
    (∀ nest i, OkE ts i 0 (exprP ts en f nest i)) ∧
    (∀ nest lev i, OkE ts i 0 (binP ts en f nest lev i)) ∧
    (∀ nest lev e i, arE e = true → OkE ts i (wE e) (binLoop ts en f nest lev e i)) ∧
    (∀ nest i, OkE ts i 0 (negP ts en f nest i)) ∧
    (∀ nest e i, arE e = true → OkE ts i (wE e) (unionP ts en f nest e i)) ∧
    (∀ nest i, OkE ts i 0 (pathP ts en f nest i)) ∧
    (∀ nest o i, arS o = true → ∀ e j, stepsP ts en f nest o i = .ok (e, j) → arS e = true ∧ wS e + 4000 * i + 800 ≤ 4000 * j + wS o ∧ j ≤ i + (ts.length - i)) ∧
    (∀ nest i, ∀ e j, stepP ts en f nest i = .ok (e, j) → arT e = true ∧ wT e + 4000 * i + 900 ≤ 4000 * j ∧ j ≤ i + (ts.length - i)) ∧
    (∀ nest o i, arL o = true → OkL ts i (wL o) (predsP ts en f nest o i)) ∧
    (∀ nest i, ∀ e j, filterP ts en f nest i = .ok (e, j) → arE e = true ∧ wE e + 4000 * i + 800 ≤ 4000 * j ∧ j ≤ i + (ts.length - i)) ∧
    (∀ nest i, ∀ e j, oneP ts en f nest i = .ok (e, j) → arE e = true ∧ wE e + 4000 * i + 1000 ≤ 4000 * j ∧ j ≤ i + (ts.length - i)) ∧
    (∀ nest b o i, arL o = true → OkL ts i (wL o) (callP ts en f nest b o i)) := by
  intro f
  induction f with
  | zero => exact ⟨fun _ i e j q => (by rw [exprP] at q; exact (ok_fail ts en _ _ _ _ q).elim), fun _ _ i e j q => (by rw [binP] at q; exact (ok_fail ts en _ _ _ _ q).elim), fun _ _ _ i _ e j q => (by rw [binLoop] at q; exact (ok_fail ts en _ _ _ _ q).elim), fun _ i e j q => (by rw [negP] at q; exact (ok_fail ts en _ _ _ _ q).elim), fun _ _ i _ e j q => (by rw [unionP] at q; exact (ok_fail ts en _ _ _ _ q).elim), fun _ i e j q => (by rw [pathP] at q; exact (ok_fail ts en _ _ _ _ q).elim), fun _ _ i _ e j q => (by rw [stepsP] at q; exact (ok_fail ts en _ _ _ _ q).elim), fun _ i e j q => (by rw [stepP] at q; exact (ok_fail ts en _ _ _ _ q).elim), fun _ _ i _ e j q => (by rw [predsP] at q; exact (ok_fail ts en _ _ _ _ q).elim), fun _ i e j q => (by rw [filterP] at q; exact (ok_fail ts en _ _ _ _ q).elim), fun _ i e j q => (by rw [oneP] at q; exact (ok_fail ts en _ _ _ _ q).elim), fun _ _ _ i _ e j q => (by rw [callP] at q; exact (ok_fail ts en _ _ _ _ q).elim)⟩
  | succ f ih =>
    obtain ⟨h1, h2, h3, h4, h5, h6, h7, h8, h9, h10, h11, h12⟩ := ih
    refine ⟨?_, ?_, ?_, ?_, ?_, ?_, ?_, ?_, ?_, ?_, ?_, ?_⟩
    · intro nest i e j q
      rw [exprP] at q; split at q
      · exact (ok_fail ts en _ _ _ _ q).elim
      · exact h2 _ _ _ _ _ q
    · intro nest lev i e j q
      rw [binP] at q; split at q
      · exact h4 _ _ _ _ q
      · split at q
        · cases q
        · rename_i e1 j1 q1
          obtain ⟨a1, a2, a3⟩ := h2 _ _ _ _ _ q1
          obtain ⟨b1, b2, b3⟩ := h3 _ _ _ _ a1 _ _ q
          exact ⟨b1, by omega, by omega⟩
    · intro nest lev e0 i he e j q
      rw [binLoop] at q; split at q
      · rename_i hc
        have hl := kind_lt ts en i (by rw [hc.1]; decide)
        split at q
        · cases q
        · rename_i e1 j1 q1
          obtain ⟨a1, a2, a3⟩ := h2 _ _ _ _ _ q1
          obtain ⟨b1, b2, b3⟩ := h3 _ _ _ _ (arE_two _ _ _ he a1) _ _ q
          rw [wE_two] at b2
          have := tok_len ts en h i
          exact ⟨b1, by omega, by omega⟩
      · cases q; exact ⟨he, by omega, by omega⟩
    · intro nest i e j q
      rw [negP] at q
      split at q
      · cases q
      · rename_i e1 j1 q1
        split at q
        · cases q
        · rename_i e2 j2 q2
          obtain ⟨a1, a2, a3⟩ := h6 _ _ _ _ q1
          obtain ⟨b1, b2, b3⟩ := h5 _ _ _ a1 _ _ q2
          have hmm := minus_le ts en ts.length i
          obtain ⟨c1, c2⟩ := wrap_w (minusP ts en ts.length i) _ b1
          cases q
          exact ⟨c1, by omega, by omega⟩
    · intro nest e0 i he e j q
      rw [unionP] at q; split at q
      · rename_i hc
        have hl := isP_lt ts en i 5 _ (by decide) hc
        split at q
        · cases q
        · rename_i e1 j1 q1
          obtain ⟨a1, a2, a3⟩ := h6 _ _ _ _ q1
          obtain ⟨b1, b2, b3⟩ := h5 _ _ _ (arE_two _ _ _ he a1) _ _ q
          rw [wE_two] at b2
          simp only [List.length_cons, List.length_nil] at b2
          exact ⟨b1, by omega, by omega⟩
      · cases q; exact ⟨he, by omega, by omega⟩
    · intro nest i e j q
      rw [pathP] at q; split at q
      · split at q
        · cases q
        · rename_i b j1 q1
          obtain ⟨a1, a2, a3⟩ := h10 _ _ _ _ q1
          split at q
          · cases q; exact ⟨a1, by omega, by omega⟩
          · rename_i o k q2
            obtain ⟨hk, hkl, ho, har⟩ := slash_w ts en q2
            split at q
            · cases q
            · rename_i l m q3
              obtain ⟨b1, b2, b3⟩ := h7 _ _ _ har _ _ q3
              cases q
              refine ⟨by simp [arE, arL, a1, b1], ?_, by omega⟩
              simp only [wE, wL, List.length_cons, List.length_nil]; omega
      · obtain ⟨s1, s4, s2, s3⟩ := slash_any_w ts en i
        split at q
        · rename_i hc
          have hs : isP ts en i 5 [47] = true := by
            rw [Bool.and_eq_true] at hc; exact hc.1
          have hk : (slashP ts en i).2 = i + 1 := by unfold slashP; rw [if_pos hs]
          have hl := isP_lt ts en i 5 _ (by decide) hs
          cases q
          refine ⟨rfl, ?_, by omega⟩
          simp only [wE, wL, wS, List.length_cons, List.length_nil]; omega
        · split at q
          · cases q
          · rename_i l m q3
            obtain ⟨b1, b2, b3⟩ := h7 _ _ _ s3 _ _ q3
            cases q
            refine ⟨by simp [arE, arL, b1], ?_, by omega⟩
            simp only [wE, wL, List.length_cons, List.length_nil]; omega
    · intro nest o i ho e j q
      rw [stepsP] at q
      split at q
      · cases q
      · rename_i s j1 q1
        obtain ⟨a1, a2, a3⟩ := h8 _ _ _ _ q1
        split at q
        · cases q
          refine ⟨by simp [arS_app, arS, ho, a1], ?_, by omega⟩
          rw [wS_app]; simp only [wS]; omega
        · rename_i m k q2
          obtain ⟨hk, hkl, hm, har⟩ := slash_w ts en q2
          obtain ⟨b1, b2, b3⟩ := h7 _ _ _ (by simp [arS_app, arS, ho, a1, har]) _ _ q
          rw [wS_app, wS_app] at b2
          simp only [wS] at b2
          exact ⟨b1, by omega, by omega⟩
    · intro nest i e j q
      rw [stepP] at q
      split at q
      · cases q
      · rename_i s j1 q1
        obtain ⟨a1, a4, a2, a3⟩ := axisP_inl ts en q1
        cases q
        exact ⟨a3, by omega, by omega⟩
      · rename_i a j1 q1
        obtain ⟨a1, a3, a2⟩ := axisP_inr ts en h q1
        split at q
        · cases q
        · rename_i t n k q2
          obtain ⟨b1, b4, b2, b3⟩ := testP_w ts en h q2
          split at q
          · cases q
          · rename_i l m q3
            obtain ⟨c1, c2, c3⟩ := h9 _ _ _ rfl _ _ q3
            cases q
            refine ⟨by rw [arT]; exact c1, ?_, by omega⟩
            rw [wT]
            rw [wL] at c2
            omega
    · intro nest o i ho e j q
      rw [predsP] at q; split at q
      · rename_i hc
        have hl := isP_lt ts en i 6 _ (by decide) hc
        split at q
        · cases q
        · rename_i e1 j1 q1
          obtain ⟨a1, a2, a3⟩ := h1 _ _ _ _ q1
          split at q
          · cases q
          · rename_i u k q2
            obtain ⟨hk, hkl⟩ := must_ok ts en q2
            dsimp only at hk
            obtain ⟨b1, b2, b3⟩ := h9 _ _ _ (by simp [arL_app, arL, ho, a1]) _ _ q
            rw [wL_app] at b2
            simp only [wL] at b2
            exact ⟨b1, by omega, by omega⟩
      · cases q; exact ⟨ho, by omega, by omega⟩
    · intro nest i e j q
      rw [filterP] at q
      split at q
      · cases q
      · rename_i e1 j1 q1
        obtain ⟨a1, a2, a3⟩ := h11 _ _ _ _ q1
        split at q
        · cases q
        · rename_i l m q3
          obtain ⟨c1, c2, c3⟩ := h9 _ _ _ rfl _ _ q3
          rw [wL] at c2
          cases q
          cases l with
          | nil => rw [wL] at c2; exact ⟨a1, by show wE e1 + 4000 * i + 800 ≤ 4000 * j; omega, by show j ≤ _; omega⟩
          | cons x l =>
            refine ⟨?_, ?_, by show j ≤ _; omega⟩
            · show arE (exP _ (e1 :: x :: l)) = true
              unfold exP
              simp only [arE, arL, arS, a1, Bool.and_eq_true] at c1 ⊢
              simp [c1.1, c1.2]
            · show wE (exP _ (e1 :: x :: l)) + 4000 * i + 800 ≤ 4000 * j
              unfold exP
              simp only [wE, wL, wS, List.length_cons, List.length_nil] at c2 ⊢
              omega
    · intro nest i e j q
      have ht := tok_len ts en h i
      rw [oneP] at q; split at q
      · rename_i hk7
        have hl := kind_lt ts en i (by rw [hk7]; decide)
        cases q
        refine ⟨rfl, ?_, by omega⟩
        simp only [wE, wL, wS, List.length_cons, List.length_nil]; omega
      · split at q
        · rename_i hk8
          have hl := kind_lt ts en i (by rw [hk8]; decide)
          split at q
          · cases q
            refine ⟨rfl, ?_, by omega⟩
            simp only [wE, wL, wS, List.length_cons, List.length_nil]; omega
          · exact (ok_fail ts en _ _ _ _ q).elim
        · split at q
          · exact (ok_fail ts en _ _ _ _ q).elim
          · split at q
            · rename_i hk2
              have hl := kind_lt ts en i (by rw [hk2]; decide)
              split at q
              · exact (ok_fail ts en _ _ _ _ q).elim
              · rename_i lo hi q0
                split at q
                · cases q
                · rename_i u j1 q2
                  obtain ⟨hk, hkl⟩ := must_ok ts en q2
                  dsimp only at hk
                  split at q
                  · cases q
                  · rename_i l k q3
                    obtain ⟨c1, c2, c3⟩ := h12 _ _ _ _ rfl _ _ q3
                    rw [wL] at c2
                    split at q
                    · cases q
                    · rename_i u m q4
                      obtain ⟨hm, hml⟩ := must_ok ts en q4
                      dsimp only at hm
                      split at q
                      · cases q
                      · cases q
                        refine ⟨by simp [arE, arS, c1], ?_, by omega⟩
                        simp only [wE, wS, List.length_cons, List.length_nil]; omega
            · split at q
              · cases q
              · rename_i u j1 q2
                obtain ⟨hk, hkl⟩ := must_ok ts en q2
                dsimp only at hk
                split at q
                · cases q
                · rename_i e1 k q3
                  obtain ⟨c1, c2, c3⟩ := h1 _ _ _ _ q3
                  split at q
                  · cases q
                  · rename_i u m q4
                    obtain ⟨hm, hml⟩ := must_ok ts en q4
                    dsimp only at hm
                    cases q
                    exact ⟨c1, by omega, by omega⟩
    · intro nest b o i ho e j q
      rw [callP] at q; split at q
      · cases q; exact ⟨ho, by omega, by omega⟩
      · split at q
        · cases q
        · rename_i e1 j1 q1
          obtain ⟨a1, a2, a3⟩ := h1 _ _ _ _ q1
          split at q
          · rename_i hc
            have hl := isP_lt ts en j1 6 _ (by decide) hc
            obtain ⟨b1, b2, b3⟩ := h12 _ _ _ _ (by simp [arL_app, arL, ho, a1]) _ _ q
            rw [wL_app] at b2
            simp only [wL] at b2
            exact ⟨b1, by omega, by omega⟩
          · cases q
            refine ⟨by simp [arL_app, arL, ho, a1], ?_, by omega⟩
            rw [wL_app]; simp only [wL]; omega
end
end Go.Proofs.YtfoclfefjcnllaaGreatDoor
