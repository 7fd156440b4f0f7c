/-
  Whether two trees are alike, as the document says. Helper lemmas; no statement of the seat is proved here.
-/
import Derived.Test.YtfoclfefjcnllaaGreatDoorZ51
namespace Go.Proofs.YtfoclfefjcnllaaGreatDoor
open Go.RowKit
set_option maxRecDepth 100000
set_option linter.unusedVariables false
set_option linter.unusedSimpArgs false

def RmX (N : Nat) : Prop := ∀ (a b : Ex) (p q : Nat → Prop) (v u : Value) (w : World), wE a ≤ N → XR w p a v → XR w q b u → Calls Tryz.prog 11 #[v, u] w fun e w' => e = .returned (.bool (sameE a b)) ∧ Ext w w'
set_option maxHeartbeats 16000000 in
theorem rsame_of (N : Nat) (HN0 : Hid (RmX N)) : RmX (N + 1) := by
  intro a b p q v u w hm hv hu
  obtain ⟨aa, ac, ad, ae, rfl, hra, hrs⟩ := hv
  obtain ⟨ba, bc, bd, be, rfl, hrb, hrt⟩ := hu
  have hwa := wE_eq a
  obtain ⟨hcA, hcA2⟩ : a.args.length ≤ ac ∧ ac ≤ 9223372036854775807 := by
    obtain ⟨_, _, e, h1, h2⟩ := hra.count (f := exC) z_ex (by omega)
    cases e; exact ⟨h1, h2⟩
  obtain ⟨hcS, hcS2⟩ : a.steps.length ≤ ae ∧ ae ≤ 9223372036854775807 := by
    obtain ⟨_, _, e, h1, h2⟩ := hrs.count (f := stC) z_st (by omega)
    cases e; exact ⟨h1, h2⟩
  have HM := Lib.hid (And.intro (fun (i : Nat) (h : i < a.args.length) => show wE a.args[i] ≤ N from by have := wL_mem _ _ (List.getElem_mem h); omega) (fun (i : Nat) (h : i < a.steps.length) => show wT a.steps[i] ≤ N + 1 from by have := wS_mem _ _ (List.getElem_mem h); omega))
  obtain ⟨R, hR⟩ : ∃ R, sameE a b = R := ⟨_, rfl⟩
  rw [hR]
  rw [sameE_eq] at hR
  have hE2 : Ext w ((w.alloc (.cells #[.string (bs a.op), .string (bs a.text), .bool a.nan, .int .i64 a.val, .slice aa a.args.length ac, .bool a.abs, .slice ad a.steps.length ae] 29)).alloc (.cells #[.string (bs b.op), .string (bs b.text), .bool b.nan, .int .i64 b.val, .slice ba b.args.length bc, .bool b.abs, .slice bd b.steps.length be] 29)) := ((Ext.refl w).alloc _).alloc _
  have b0 : ((w.alloc (.cells #[.string (bs a.op), .string (bs a.text), .bool a.nan, .int .i64 a.val, .slice aa a.args.length ac, .bool a.abs, .slice ad a.steps.length ae] 29)).alloc (.cells #[.string (bs b.op), .string (bs b.text), .bool b.nan, .int .i64 b.val, .slice ba b.args.length bc, .bool b.abs, .slice bd b.steps.length be] 29)).heap[w.heap.size]? = some (.cells [.string (bs a.op), .string (bs a.text), .bool a.nan, .int .i64 a.val, .slice aa a.args.length ac, .bool a.abs, .slice ad a.steps.length ae].toArray 29 (0, 0)) :=
    (Below.block ((Ext.refl _).alloc _) _ (by simp)).trans Array.getElem?_push_size
  have b1 : ((w.alloc (.cells #[.string (bs a.op), .string (bs a.text), .bool a.nan, .int .i64 a.val, .slice aa a.args.length ac, .bool a.abs, .slice ad a.steps.length ae] 29)).alloc (.cells #[.string (bs b.op), .string (bs b.text), .bool b.nan, .int .i64 b.val, .slice ba b.args.length bc, .bool b.abs, .slice bd b.steps.length be] 29)).heap[w.heap.size + 1]? = some (.cells [.string (bs b.op), .string (bs b.text), .bool b.nan, .int .i64 b.val, .slice ba b.args.length bc, .bool b.abs, .slice bd b.steps.length be].toArray 29 (0, 0)) := by
    obtain ⟨wA, hwA⟩ : ∃ W, w.alloc (.cells #[.string (bs a.op), .string (bs a.text), .bool a.nan, .int .i64 a.val, .slice aa a.args.length ac, .bool a.abs, .slice ad a.steps.length ae] 29) = W := ⟨_, rfl⟩
    have hz : w.heap.size + 1 = wA.heap.size := by rw [← hwA]; simp
    rw [hwA, hz]
    exact Array.getElem?_push_size
  obtain ⟨wb, hwb⟩ : ∃ W, (w.alloc (.cells #[.string (bs a.op), .string (bs a.text), .bool a.nan, .int .i64 a.val, .slice aa a.args.length ac, .bool a.abs, .slice ad a.steps.length ae] 29)).alloc (.cells #[.string (bs b.op), .string (bs b.text), .bool b.nan, .int .i64 b.val, .slice ba b.args.length bc, .bool b.abs, .slice bd b.steps.length be] 29) = W := ⟨_, rfl⟩
  rw [hwb] at hE2 b0 b1
  have k0 := blk_cells b0 0 rfl; have k1 := blk_cells b0 1 rfl; have k2 := blk_cells b0 2 rfl; have k3 := blk_cells b0 3 rfl; have k4 := blk_cells b0 4 rfl; have k5 := blk_cells b0 5 rfl; have k6 := blk_cells b0 6 rfl
  have j0 := blk_cells b1 0 rfl; have j1 := blk_cells b1 1 rfl; have j2 := blk_cells b1 2 rfl; have j3 := blk_cells b1 3 rfl; have j4 := blk_cells b1 4 rfl; have j5 := blk_cells b1 5 rfl; have j6 := blk_cells b1 6 rfl
  have l0 := blk_lt b0; have l1 := blk_lt b1
  have HE2 := Lib.hid hE2

  obtain ⟨g1, hg1⟩ : ∃ g, w.heap.size = g := ⟨_, rfl⟩
  rw [hg1] at b0 b1 k0 k1 k2 k3 k4 k5 k6 j0 j1 j2 j3 j4 j5 j6 l0 l1
  have HQ := Lib.hid (And.intro (hra.ext hE2) (And.intro (hrb.ext hE2) (And.intro (hrs.ext hE2) (hrt.ext hE2))))
  have HL := Lib.hid (And.intro l0 l1)
  have f1 := bs_eq a.op b.op
  have f2 := bs_eq a.text b.text
  have f3 := fun B h w => num_neq (a := a.nan) (c := b.nan) (b := a.val) (d := b.val) (B := B) h w
  have f4 := fun x y => grd_num .neq x y (.bool a.nan) (.int .i64 a.val) (.bool b.nan) (.int .i64 b.val)
  obtain ⟨B1, hB1⟩ : ∃ B, (a.op == b.op) = B := ⟨_, rfl⟩
  obtain ⟨B2, hB2⟩ : ∃ B, (a.text == b.text) = B := ⟨_, rfl⟩
  obtain ⟨B3, hB3⟩ : ∃ B, ((a.nan == b.nan) && (a.val == b.val)) = B := ⟨_, rfl⟩
  obtain ⟨B4, f5⟩ : ∃ B, (a.abs == b.abs) = B := ⟨_, rfl⟩
  have f6 : (a.abs != b.abs) = !B4 := by rw [← f5]; rfl
  rw [hB1] at f1 hR
  rw [hB2] at f2 hR
  rw [Bool.and_assoc (B1 && B2), hB3, f5] at hR
  replace f3 := f3 (!B3) (by rw [hB3])
  have HR := Lib.hid hR
  have HNA : Hid (¬ a.args.length = b.args.length → sameEs a.args b.args = false) := Lib.hid (sameEs_ne _ _)
  have HNS : Hid (¬ a.steps.length = b.steps.length → sameSs a.steps b.steps = false) := Lib.hid (sameSs_ne _ _)
  clear hR hB1 hB2 hB3 hra hrb hrs hrt b0 b1 hE2 hm hwa l0 l1
  cases B1 with
  | false =>
    go_enter Tryz.func11, Tryz.ntmps11
    go_wp2_with fail
    go_ret
    exact ⟨rbool HR.out.symm, HE2.out⟩
  | true =>
    cases B2 with
    | false =>
      go_enter Tryz.func11, Tryz.ntmps11
      go_wp2_with fail
      go_ret
      exact ⟨rbool HR.out.symm, HE2.out⟩
    | true =>
      cases B3 with
      | false =>
        go_enter Tryz.func11, Tryz.ntmps11
        go_wp2_with fail
        go_ret
        exact ⟨rbool HR.out.symm, HE2.out⟩
      | true =>
        cases B4 with
        | false =>
          go_enter Tryz.func11, Tryz.ntmps11
          go_wp2_with fail
          go_ret
          exact ⟨rbool HR.out.symm, HE2.out⟩
        | true =>
          by_cases ha : a.args.length = b.args.length
          · have ha1 : ((a.args.length : Int) != (b.args.length : Int)) = false := by rw [ha]; exact bne_self_eq_false _
            have HLA := Lib.hid ha
            by_cases hs : a.steps.length = b.steps.length
            · have hs1 : ((a.steps.length : Int) != (b.steps.length : Int)) = false := by rw [hs]; exact bne_self_eq_false _
              have HLS := Lib.hid hs
              replace HR : Hid ((sameEs (a.args.drop 0) (b.args.drop 0) && sameSs a.steps b.steps) = R) := HR
              obtain ⟨L, hL⟩ : ∃ L, sameSs (a.steps.drop 0) (b.steps.drop 0) = L := ⟨_, rfl⟩
              rw [show sameSs a.steps b.steps = L from hL] at HR
              have HLL := Lib.hid hL
              clear hL ha hs HNA HNS
              go_enter Tryz.func11, Tryz.ntmps11
              go_wp2_with fail
              clear f1 f2 f3 f4 f5 f6 k0 k1 k2 k3 k5 j0 j1 j2 j3 j5 hwb
              go_loopw [5] (fun t wr => ∃ i : Nat, t = .int .i64 i ∧ i ≤ a.args.length ∧ Hid (Ext wb wr) ∧ Hid ((sameEs (a.args.drop i) (b.args.drop i) && L) = R)) (fun t _ => downQ a.args.length t)
              case atStart => exact ⟨0, rfl, Nat.zero_le _, Lib.hid (Ext.refl _), HR⟩
              case round =>
                obtain ⟨i, rfl, hi, HE, HI⟩ := hrel
                obtain ⟨wo, hwo⟩ : ∃ wo, wo = wr := ⟨_, rfl⟩
                subst hwo
                have hi0 : (0 : Int) ≤ (i : Int) := by omega
                have K4 := HE.out.keep HL.out.1 k4
                have J4 := HE.out.keep HL.out.2 j4
                by_cases hlt : i < a.args.length
                · have hlI : (i : Int) < (a.args.length : Int) := by omega
                  have hly : i < b.args.length := by have := HLA.out; omega
                  have hyI : (i : Int) < (b.args.length : Int) := by omega
                  obtain ⟨p1, o1, had, lg1, ca, cc, cd, ce, ⟨d0, d1, d2, d3, d4, d5, d6⟩, hxa, hxk⟩ := ex_at (HQ.out.1.ext HE.out) i hlt
                  obtain ⟨p2, o2, hbd, lg2, ga, gc, gd, ge, ⟨e0, e1, e2, e3, e4, e5, e6⟩, hya, hyk⟩ := ex_at (HQ.out.2.1.ext HE.out) i hly
                  have hm := HM.out.1 i hlt
                  have HS : Hid (sameEs (a.args.drop i) (b.args.drop i) = (sameE a.args[i] b.args[i] && sameEs (a.args.drop (i + 1)) (b.args.drop (i + 1)))) := Lib.hid (by rw [drop_c a.args i hlt, drop_c b.args i hly, sameEs])
                  obtain ⟨x, hx⟩ : ∃ x, a.args[i] = x := ⟨_, rfl⟩
                  obtain ⟨y, hy⟩ : ∃ y, b.args[i] = y := ⟨_, rfl⟩
                  rw [hx] at d0 d1 d2 d3 d4 d5 d6 hxa hxk hm HS
                  rw [hy] at e0 e1 e2 e3 e4 e5 e6 hya hyk HS
                  have HC := Lib.hid fun W (hE : Sx wo W) => HN0.out x y p q _ _ W hm ⟨ca, cc, cd, ce, rfl, hxa.ext hE, hxk.ext hE⟩ ⟨ga, gc, gd, ge, rfl, hya.ext hE, hyk.ext hE⟩
                  obtain ⟨B, hB⟩ : ∃ B, sameE x y = B := ⟨_, rfl⟩
                  rw [hB] at HC HS
                  have hQA := HQ
                  subst had hbd
                  have L0 := Nat.lt_of_lt_of_le HL.out.1 HE.out.size
                  have L1 := Nat.lt_of_lt_of_le HL.out.2 HE.out.size
                  clear hx hy hB hxa hxk hya hyk hm hQA
                  go_wp2_with fail
                  refine rg_begin (S := Sx wo) (by kernel_rfl) (Sx.begin _) ?_
                  have hSp : Sx wo (World.drew wo) := (Sx.begin _)
                  refine rg_take 0 (some 61) (.pointer (some ⟨g1, 4, none⟩)) (oi := { dst := some 61, op := Go.Op.fieldAddr 29 (Go.Operand.tmp 2) 3, type := 0, pos := "ref.go:393", after := #[], guard := none }) rfl rfl (by kernel_rfl) (by kernel_rfl) (by kernel_rfl) (fun _ _ _ h => h) hSp (by rfl) (fun w' hs => by first | rfl | go_simp) ?_
                  simp only [Act.put, List.setIfInBounds_toArray, List.set_cons_zero, List.set_cons_succ]
                  refine rg_take 1 (some 62) (.slice (some ⟨p1, o1, none⟩) a.args.length ac) (oi := { dst := some 62, op := Go.Op.load 26 (Go.Operand.tmp 61), type := 26, pos := "ref.go:393", after := #[{ on := 0, ground := Go.Ground.data }], guard := none }) rfl rfl (by kernel_rfl) (by kernel_rfl) (by kernel_rfl) (fun _ _ _ h => h) hSp (by rfl) (fun w' hs => by (have h0 := hs.cell L0 K4; go_simp)) ?_
                  simp only [Act.put, List.setIfInBounds_toArray, List.set_cons_zero, List.set_cons_succ]
                  refine rg_take 2 (some 63) (.int .i64 i) (oi := { dst := some 63, op := Go.Op.move (Go.Operand.tmp 5), type := 3, pos := "ref.go:393", after := #[], guard := none }) rfl rfl (by kernel_rfl) (by kernel_rfl) (by kernel_rfl) (fun _ _ _ h => h) hSp (by rfl) (fun w' hs => by rfl) ?_
                  simp only [Act.put, List.setIfInBounds_toArray, List.set_cons_zero, List.set_cons_succ]
                  refine rg_take 3 (some 64) (.pointer (some ⟨p1, o1 + i * 7, none⟩)) (oi := { dst := some 64, op := Go.Op.indexAddr 26 (Go.Operand.tmp 62) (Go.Operand.tmp 63), type := 0, pos := "ref.go:393", after := #[{ on := 1, ground := Go.Ground.data }, { on := 2, ground := Go.Ground.data }], guard := none }) rfl rfl (by kernel_rfl) (by kernel_rfl) (by kernel_rfl) (fun _ _ _ h => h) hSp (by rfl) (fun w' hs => by first | rfl | go_simp) ?_
                  simp only [Act.put, List.setIfInBounds_toArray, List.set_cons_zero, List.set_cons_succ]
                  refine rg_take 4 (some 65) (.agg #[.string (bs x.op), .string (bs x.text), .bool x.nan, .int .i64 x.val, .slice ca x.args.length cc, .bool x.abs, .slice cd x.steps.length ce]) (oi := { dst := some 65, op := Go.Op.load 29 (Go.Operand.tmp 64), type := 29, pos := "ref.go:393", after := #[{ on := 3, ground := Go.Ground.data }], guard := none }) rfl rfl (by kernel_rfl) (by kernel_rfl) (by kernel_rfl) (fun _ _ _ h => h) hSp (by rfl) (fun w' hs => by (have h0 := hs.cell lg1 d0; have h1 := hs.cell lg1 d1; have h2 := hs.cell lg1 d2; have h3 := hs.cell lg1 d3; have h4 := hs.cell lg1 d4; have h5 := hs.cell lg1 d5; have h6 := hs.cell lg1 d6; go_simp)) ?_
                  simp only [Act.put, List.setIfInBounds_toArray, List.set_cons_zero, List.set_cons_succ]
                  refine rg_take 5 (some 66) (.pointer (some ⟨g1 + 1, 4, none⟩)) (oi := { dst := some 66, op := Go.Op.fieldAddr 29 (Go.Operand.tmp 3) 3, type := 0, pos := "ref.go:393", after := #[], guard := none }) rfl rfl (by kernel_rfl) (by kernel_rfl) (by kernel_rfl) (fun _ _ _ h => h) hSp (by rfl) (fun w' hs => by first | rfl | go_simp) ?_
                  simp only [Act.put, List.setIfInBounds_toArray, List.set_cons_zero, List.set_cons_succ]
                  refine rg_take 6 (some 67) (.slice (some ⟨p2, o2, none⟩) b.args.length bc) (oi := { dst := some 67, op := Go.Op.load 26 (Go.Operand.tmp 66), type := 26, pos := "ref.go:393", after := #[{ on := 5, ground := Go.Ground.data }], guard := none }) rfl rfl (by kernel_rfl) (by kernel_rfl) (by kernel_rfl) (fun _ _ _ h => h) hSp (by rfl) (fun w' hs => by (have h0 := hs.cell L1 J4; go_simp)) ?_
                  simp only [Act.put, List.setIfInBounds_toArray, List.set_cons_zero, List.set_cons_succ]
                  refine rg_take 7 (some 68) (.int .i64 i) (oi := { dst := some 68, op := Go.Op.move (Go.Operand.tmp 5), type := 3, pos := "ref.go:393", after := #[], guard := none }) rfl rfl (by kernel_rfl) (by kernel_rfl) (by kernel_rfl) (fun _ _ _ h => h) hSp (by rfl) (fun w' hs => by rfl) ?_
                  simp only [Act.put, List.setIfInBounds_toArray, List.set_cons_zero, List.set_cons_succ]
                  refine rg_take 8 (some 69) (.pointer (some ⟨p2, o2 + i * 7, none⟩)) (oi := { dst := some 69, op := Go.Op.indexAddr 26 (Go.Operand.tmp 67) (Go.Operand.tmp 68), type := 0, pos := "ref.go:393", after := #[{ on := 6, ground := Go.Ground.data }, { on := 7, ground := Go.Ground.data }], guard := none }) rfl rfl (by kernel_rfl) (by kernel_rfl) (by kernel_rfl) (fun _ _ _ h => h) hSp (by rfl) (fun w' hs => by first | rfl | go_simp) ?_
                  simp only [Act.put, List.setIfInBounds_toArray, List.set_cons_zero, List.set_cons_succ]
                  refine rg_take 9 (some 70) (.agg #[.string (bs y.op), .string (bs y.text), .bool y.nan, .int .i64 y.val, .slice ga y.args.length gc, .bool y.abs, .slice gd y.steps.length ge]) (oi := { dst := some 70, op := Go.Op.load 29 (Go.Operand.tmp 69), type := 29, pos := "ref.go:393", after := #[{ on := 8, ground := Go.Ground.data }], guard := none }) rfl rfl (by kernel_rfl) (by kernel_rfl) (by kernel_rfl) (fun _ _ _ h => h) hSp (by rfl) (fun w' hs => by (have h0 := hs.cell lg2 e0; have h1 := hs.cell lg2 e1; have h2 := hs.cell lg2 e2; have h3 := hs.cell lg2 e3; have h4 := hs.cell lg2 e4; have h5 := hs.cell lg2 e5; have h6 := hs.cell lg2 e6; go_simp)) ?_
                  simp only [Act.put, List.setIfInBounds_toArray, List.set_cons_zero, List.set_cons_succ]
                  refine rg_call 10 (some 71) 11 #[.agg #[.string (bs x.op), .string (bs x.text), .bool x.nan, .int .i64 x.val, .slice ca x.args.length cc, .bool x.abs, .slice cd x.steps.length ce], .agg #[.string (bs y.op), .string (bs y.text), .bool y.nan, .int .i64 y.val, .slice ga y.args.length gc, .bool y.abs, .slice gd y.steps.length ge]] (oi := { dst := some 71, op := Go.Op.call { callee := Go.Callee.value (Go.Operand.func 11), args := #[Go.Operand.tmp 65, Go.Operand.tmp 70], argTypes := #[29, 29] }, type := 4, pos := "ref.go:393", after := #[{ on := 4, ground := Go.Ground.data }, { on := 9, ground := Go.Ground.data }], guard := none }) rfl rfl (by kernel_rfl) (by rfl) (fun w' => by first | rfl | go_simp) (R := fun v w' => v = .bool B ∧ Ext (World.drew wo) w') ?_ ?_
                  · refine (HC.out (World.drew wo) hSp).mono ?_
                    rintro e w' ⟨rfl, h⟩
                    exact ⟨_, rfl, rfl, h⟩
                  rintro _ wrp1 ⟨rfl, hBrp1⟩
                  have hSp1 := hSp.ext hBrp1
                  refine ⟨hSp1, ?_⟩
                  simp only [Act.put, List.setIfInBounds_toArray, List.set_cons_zero, List.set_cons_succ]
                  refine rg_take 11 (some 72) (.bool (!B)) (oi := { dst := some 72, op := Go.Op.unOp Go.UnOp.not 4 (Go.Operand.tmp 71), type := 4, pos := "ref.go:393", after := #[{ on := 10, ground := Go.Ground.data }], guard := none }) rfl rfl (by kernel_rfl) (by kernel_rfl) (by kernel_rfl) (fun _ _ _ h => h) hSp1 (by rfl) (fun w' hs => by first | rfl | go_simp) ?_
                  simp only [Act.put, List.setIfInBounds_toArray, List.set_cons_zero, List.set_cons_succ]
                  refine rg_done (by kernel_rfl) ?_
                  have HX1 := Lib.hid (Ext.trans HE.out hSp1)
                  clear hSp hSp1 hBrp1 HC K4 J4 L0 L1 d0 d1 d2 d3 d4 d5 d6 e0 e1 e2 e3 e4 e5 e6 HE
                  cases B with
                  | true =>
                    have HN : Hid ((sameEs (a.args.drop (i + 1)) (b.args.drop (i + 1)) && L) = R) := Lib.hid (by have := HS.out; rw [Bool.true_and] at this; rw [← this]; exact HI.out)
                    clear HS HI
                    go_wp2_with fail
                    go_roundw
                    case rel => exact ⟨i + 1, by go_num, by omega, HX1, HN⟩
                    case measure => simp only [downQ]; omega
                  | false =>
                    have HN : Hid (false = R) := Lib.hid (by have := HS.out; rw [Bool.false_and] at this; rw [← HI.out, this]; rfl)
                    clear HS HI
                    go_wp2_with fail
                    go_ret
                    exact ⟨rbool HN.out.symm, HE2.out.trans HX1.out⟩
                · have hlI : ¬ (i : Int) < (a.args.length : Int) := by omega
                  have HN : Hid (L = R) := Lib.hid (by
                    have := HI.out
                    rw [List.drop_of_length_le (by omega), List.drop_of_length_le (by have := HLA.out; omega), sameEs_nil, Bool.true_and] at this
                    exact this)
                  rw [← HLL.out] at HN
                  clear HI
                  go_wp2_with fail
                  obtain ⟨wb2, hwb2⟩ : ∃ W, wo = W := ⟨_, rfl⟩
                  subst hwb2
                  go_loopw [6, 7, 8, 9] (fun t _ _ _ wr => ∃ i : Nat, t = .int .i64 i ∧ i ≤ a.steps.length ∧ Hid (Ext wb wr) ∧ Hid (sameSs (a.steps.drop i) (b.steps.drop i) = R)) (fun t _ _ _ _ => downQ a.steps.length t)
                  case atStart => exact ⟨0, rfl, Nat.zero_le _, HE, HN⟩
                  case round =>
                    clear HE HN K4 J4 hi hi0 hlt hlI
                    obtain ⟨i, rfl, hi, HE, HI⟩ := hrel
                    obtain ⟨wo, hwo⟩ : ∃ wo, wo = wr := ⟨_, rfl⟩
                    subst hwo
                    have hi0 : (0 : Int) ≤ (i : Int) := by omega
                    have K6 := HE.out.keep HL.out.1 k6
                    have J6 := HE.out.keep HL.out.2 j6
                    by_cases hlt : i < a.steps.length
                    · have hlI : (i : Int) < (a.steps.length : Int) := by omega
                      have hly : i < b.steps.length := by have := HLS.out; omega
                      have hyI : (i : Int) < (b.steps.length : Int) := by omega
                      obtain ⟨p1, o1, had, lg1, ca, cc, ⟨d0, d1, d2, d3⟩, hxa⟩ := st_at (HQ.out.2.2.1.ext HE.out) i hlt
                      obtain ⟨p2, o2, hbd, lg2, ga, gc, ⟨e0, e1, e2, e3⟩, hya⟩ := st_at (HQ.out.2.2.2.ext HE.out) i hly
                      have hm := HM.out.2 i hlt
                      have HS : Hid (sameSs (a.steps.drop i) (b.steps.drop i) = (sameT a.steps[i] b.steps[i] && sameSs (a.steps.drop (i + 1)) (b.steps.drop (i + 1)))) := Lib.hid (by rw [drop_c a.steps i hlt, drop_c b.steps i hly, sameSs])
                      obtain ⟨x, hx⟩ : ∃ x, a.steps[i] = x := ⟨_, rfl⟩
                      obtain ⟨y, hy⟩ : ∃ y, b.steps[i] = y := ⟨_, rfl⟩
                      rw [hx] at d0 d1 d2 d3 hxa hm HS
                      rw [hy] at e0 e1 e2 e3 hya HS
                      rw [sameT_eq] at HS
                      subst had hbd
                      have hEa : Ext wo (wo.alloc (.cells #[.string (bs x.axis), .string (bs x.test), .string (bs x.name), .slice ca x.preds.length cc] 62)) := (Ext.refl wo).alloc _
                      have L1 := Nat.lt_of_lt_of_le HL.out.2 HE.out.size
                      have J6' := hEa.keep L1 J6
                      have e0' := hEa.keep lg2 e0; have e1' := hEa.keep lg2 e1; have e2' := hEa.keep lg2 e2; have e3' := hEa.keep lg2 e3
                      have hE2 : Ext wo ((wo.alloc (.cells #[.string (bs x.axis), .string (bs x.test), .string (bs x.name), .slice ca x.preds.length cc] 62)).alloc (.cells #[.string (bs y.axis), .string (bs y.test), .string (bs y.name), .slice ga y.preds.length gc] 62)) := ((Ext.refl wo).alloc _).alloc _
                      have b0 : ((wo.alloc (.cells #[.string (bs x.axis), .string (bs x.test), .string (bs x.name), .slice ca x.preds.length cc] 62)).alloc (.cells #[.string (bs y.axis), .string (bs y.test), .string (bs y.name), .slice ga y.preds.length gc] 62)).heap[wo.heap.size]? = some (.cells [.string (bs x.axis), .string (bs x.test), .string (bs x.name), .slice ca x.preds.length cc].toArray 62 (0, 0)) :=
                        (Below.block ((Ext.refl _).alloc _) _ (by simp)).trans Array.getElem?_push_size
                      have b1 : ((wo.alloc (.cells #[.string (bs x.axis), .string (bs x.test), .string (bs x.name), .slice ca x.preds.length cc] 62)).alloc (.cells #[.string (bs y.axis), .string (bs y.test), .string (bs y.name), .slice ga y.preds.length gc] 62)).heap[wo.heap.size + 1]? = some (.cells [.string (bs y.axis), .string (bs y.test), .string (bs y.name), .slice ga y.preds.length gc].toArray 62 (0, 0)) := by
                        obtain ⟨wA, hwA⟩ : ∃ W, wo.alloc (.cells #[.string (bs x.axis), .string (bs x.test), .string (bs x.name), .slice ca x.preds.length cc] 62) = W := ⟨_, rfl⟩
                        have hz : wo.heap.size + 1 = wA.heap.size := by rw [← hwA]; simp
                        rw [hwA, hz]
                        exact Array.getElem?_push_size
                      have m0 := blk_cells b0 0 rfl; have m1 := blk_cells b0 1 rfl; have m2 := blk_cells b0 2 rfl; have m3 := blk_cells b0 3 rfl
                      have n0 := blk_cells b1 0 rfl; have n1 := blk_cells b1 1 rfl; have n2 := blk_cells b1 2 rfl; have n3 := blk_cells b1 3 rfl
                      have q0 := blk_lt b0; have q1 := blk_lt b1
                      have f1 := bs_eq x.axis y.axis
                      have f2 := bs_eq x.test y.test
                      have f3 := bs_eq x.name y.name
                      obtain ⟨B1, hB1⟩ : ∃ B, (x.axis == y.axis) = B := ⟨_, rfl⟩
                      obtain ⟨B2, hB2⟩ : ∃ B, (x.test == y.test) = B := ⟨_, rfl⟩
                      obtain ⟨B3, hB3⟩ : ∃ B, (x.name == y.name) = B := ⟨_, rfl⟩
                      rw [hB1] at f1 HS
                      rw [hB2] at f2 HS
                      rw [hB3] at f3 HS
                      have hwx := wT_eq x
                      obtain ⟨hcP, hcP2⟩ : x.preds.length ≤ cc ∧ cc ≤ 9223372036854775807 := by
                        obtain ⟨_, _, e, h1, h2⟩ := hxa.count (f := exC) z_ex (by omega)
                        cases e; exact ⟨h1, h2⟩
                      have HP := Lib.hid (And.intro (And.intro (hxa.ext hE2) (hya.ext hE2)) (And.intro (And.intro q0 q1) (And.intro (HE.out.trans hE2) (fun (j : Nat) (h : j < x.preds.length) => show wE x.preds[j] ≤ N from by have := wL_mem _ _ (List.getElem_mem h); omega))))
                      have HL4 : Hid (¬ x.preds.length = y.preds.length → sameEs x.preds y.preds = false) := Lib.hid (sameEs_ne _ _)
                      clear hx hy hB1 hB2 hB3 hxa hya hm hEa b0 b1 q0 q1 hE2 hwx HE
                      have FAIL : Hid ((B1 && B2 && B3 && sameEs x.preds y.preds) = false → false = R) := Lib.hid fun h => by have := HS.out; rw [h, Bool.false_and] at this; exact this.symm.trans HI.out
                      cases B1 with
                      | false =>
                        have HN := Lib.hid (FAIL.out rfl)
                        clear HS HI FAIL
                        go_wp2_with fail
                        go_ret
                        exact ⟨rbool HN.out.symm, HE2.out.trans HP.out.2.2.1⟩
                      | true =>
                        cases B2 with
                        | false =>
                          have HN := Lib.hid (FAIL.out rfl)
                          clear HS HI FAIL
                          go_wp2_with fail
                          go_ret
                          exact ⟨rbool HN.out.symm, HE2.out.trans HP.out.2.2.1⟩
                        | true =>
                          cases B3 with
                          | false =>
                            have HN := Lib.hid (FAIL.out rfl)
                            clear HS HI FAIL
                            go_wp2_with fail
                            go_ret
                            exact ⟨rbool HN.out.symm, HE2.out.trans HP.out.2.2.1⟩
                          | true =>
                            by_cases hpl : x.preds.length = y.preds.length
                            · have hpl1 : ((x.preds.length : Int) != (y.preds.length : Int)) = false := by rw [hpl]; exact bne_self_eq_false _
                              have HPL := Lib.hid hpl
                              have HIN : Hid ((sameEs (x.preds.drop 0) (y.preds.drop 0) && sameSs (a.steps.drop (i + 1)) (b.steps.drop (i + 1))) = R) := Lib.hid (by have := HS.out; rw [Bool.true_and, Bool.true_and, Bool.true_and] at this; rw [← HI.out, this]; rfl)
                              clear HS HI FAIL hpl HL4
                              obtain ⟨wc, hwc⟩ : ∃ W, (wo.alloc (.cells #[.string (bs x.axis), .string (bs x.test), .string (bs x.name), .slice ca x.preds.length cc] 62)).alloc (.cells #[.string (bs y.axis), .string (bs y.test), .string (bs y.name), .slice ga y.preds.length gc] 62) = W := ⟨_, rfl⟩
                              obtain ⟨h1, hh1⟩ : ∃ h, wo.heap.size = h := ⟨_, rfl⟩
                              rw [hwc, hh1] at HP
                              rw [hwc, hh1] at m0 m1 m2 m3 n0 n1 n2 n3
                              go_wp2_with fail
                              clear hwc d0 d1 d2 d3 e0 e1 e2 e3 e0' e1' e2' e3' f1 f2 f3 K6 J6 J6' L1 m0 m1 m2 n0 n1 n2 hh1
                              go_loopw [9] (fun t wr => ∃ j : Nat, t = .int .i64 j ∧ j ≤ x.preds.length ∧ Hid (Ext wc wr) ∧ Hid ((sameEs (x.preds.drop j) (y.preds.drop j) && sameSs (a.steps.drop (i + 1)) (b.steps.drop (i + 1))) = R)) (fun t _ => downQ x.preds.length t)
                              case atStart => exact ⟨0, rfl, Nat.zero_le _, Lib.hid (Ext.refl _), HIN⟩
                              case round =>
                                clear HIN
                                obtain ⟨j, rfl, hj, HEj, HI⟩ := hrel
                                obtain ⟨wo2, hwo2⟩ : ∃ wo, wo = wr := ⟨_, rfl⟩
                                subst hwo2
                                have hj0 : (0 : Int) ≤ (j : Int) := by omega
                                have M3 := HEj.out.keep HP.out.2.1.1 m3
                                have N3 := HEj.out.keep HP.out.2.1.2 n3
                                by_cases hlt2 : j < x.preds.length
                                · have hlI2 : (j : Int) < (x.preds.length : Int) := by omega
                                  have hly2 : j < y.preds.length := by have := HPL.out; omega
                                  have hyI2 : (j : Int) < (y.preds.length : Int) := by omega
                                  obtain ⟨p3, o3, had, lg3, ma, mc, md, me, ⟨d0, d1, d2, d3, d4, d5, d6⟩, hxa, hxk⟩ := ex_at (HP.out.1.1.ext HEj.out) j hlt2
                                  obtain ⟨p4, o4, hbd, lg4, na, nc, nd, ne, ⟨e0, e1, e2, e3, e4, e5, e6⟩, hya, hyk⟩ := ex_at (HP.out.1.2.ext HEj.out) j hly2
                                  have hm := HP.out.2.2.2 j hlt2
                                  have HS : Hid (sameEs (x.preds.drop j) (y.preds.drop j) = (sameE x.preds[j] y.preds[j] && sameEs (x.preds.drop (j + 1)) (y.preds.drop (j + 1)))) := Lib.hid (by rw [drop_c x.preds j hlt2, drop_c y.preds j hly2, sameEs])
                                  obtain ⟨x2, hx⟩ : ∃ z, x.preds[j] = z := ⟨_, rfl⟩
                                  obtain ⟨y2, hy⟩ : ∃ z, y.preds[j] = z := ⟨_, rfl⟩
                                  rw [hx] at d0 d1 d2 d3 d4 d5 d6 hxa hxk hm HS
                                  rw [hy] at e0 e1 e2 e3 e4 e5 e6 hya hyk HS
                                  have HC := Lib.hid fun W (hE : Sx wo2 W) => HN0.out x2 y2 p q _ _ W hm ⟨ma, mc, md, me, rfl, hxa.ext hE, hxk.ext hE⟩ ⟨na, nc, nd, ne, rfl, hya.ext hE, hyk.ext hE⟩
                                  obtain ⟨B, hB⟩ : ∃ B, sameE x2 y2 = B := ⟨_, rfl⟩
                                  rw [hB] at HC HS
                                  subst had hbd
                                  have L2 := Nat.lt_of_lt_of_le HP.out.2.1.1 HEj.out.size
                                  have L3 := Nat.lt_of_lt_of_le HP.out.2.1.2 HEj.out.size
                                  clear hx hy hB hxa hxk hya hyk hm
                                  go_wp2_with fail
                                  refine rg_begin (S := Sx wo2) (by kernel_rfl) (Sx.begin _) ?_
                                  have hSp : Sx wo2 (World.drew wo2) := (Sx.begin _)
                                  refine rg_take 0 (some 125) (.pointer (some ⟨h1, 3, none⟩)) (oi := { dst := some 125, op := Go.Op.fieldAddr 62 (Go.Operand.tmp 7) 3, type := 0, pos := "ref.go:404", after := #[], guard := none }) rfl rfl (by kernel_rfl) (by kernel_rfl) (by kernel_rfl) (fun _ _ _ h => h) hSp (by rfl) (fun w' hs => by first | rfl | go_simp) ?_
                                  simp only [Act.put, List.setIfInBounds_toArray, List.set_cons_zero, List.set_cons_succ]
                                  refine rg_take 1 (some 126) (.slice (some ⟨p3, o3, none⟩) x.preds.length cc) (oi := { dst := some 126, op := Go.Op.load 26 (Go.Operand.tmp 125), type := 26, pos := "ref.go:404", after := #[{ on := 0, ground := Go.Ground.data }], guard := none }) rfl rfl (by kernel_rfl) (by kernel_rfl) (by kernel_rfl) (fun _ _ _ h => h) hSp (by rfl) (fun w' hs => by (have h0 := hs.cell L2 M3; go_simp)) ?_
                                  simp only [Act.put, List.setIfInBounds_toArray, List.set_cons_zero, List.set_cons_succ]
                                  refine rg_take 2 (some 127) (.int .i64 j) (oi := { dst := some 127, op := Go.Op.move (Go.Operand.tmp 9), type := 3, pos := "ref.go:404", after := #[], guard := none }) rfl rfl (by kernel_rfl) (by kernel_rfl) (by kernel_rfl) (fun _ _ _ h => h) hSp (by rfl) (fun w' hs => by rfl) ?_
                                  simp only [Act.put, List.setIfInBounds_toArray, List.set_cons_zero, List.set_cons_succ]
                                  refine rg_take 3 (some 128) (.pointer (some ⟨p3, o3 + j * 7, none⟩)) (oi := { dst := some 128, op := Go.Op.indexAddr 26 (Go.Operand.tmp 126) (Go.Operand.tmp 127), type := 0, pos := "ref.go:404", after := #[{ on := 1, ground := Go.Ground.data }, { on := 2, ground := Go.Ground.data }], guard := none }) rfl rfl (by kernel_rfl) (by kernel_rfl) (by kernel_rfl) (fun _ _ _ h => h) hSp (by rfl) (fun w' hs => by first | rfl | go_simp) ?_
                                  simp only [Act.put, List.setIfInBounds_toArray, List.set_cons_zero, List.set_cons_succ]
                                  refine rg_take 4 (some 129) (.agg #[.string (bs x2.op), .string (bs x2.text), .bool x2.nan, .int .i64 x2.val, .slice ma x2.args.length mc, .bool x2.abs, .slice md x2.steps.length me]) (oi := { dst := some 129, op := Go.Op.load 29 (Go.Operand.tmp 128), type := 29, pos := "ref.go:404", after := #[{ on := 3, ground := Go.Ground.data }], guard := none }) rfl rfl (by kernel_rfl) (by kernel_rfl) (by kernel_rfl) (fun _ _ _ h => h) hSp (by rfl) (fun w' hs => by (have h0 := hs.cell lg3 d0; have h1 := hs.cell lg3 d1; have h2 := hs.cell lg3 d2; have h3 := hs.cell lg3 d3; have h4 := hs.cell lg3 d4; have h5 := hs.cell lg3 d5; have h6 := hs.cell lg3 d6; go_simp)) ?_
                                  simp only [Act.put, List.setIfInBounds_toArray, List.set_cons_zero, List.set_cons_succ]
                                  refine rg_take 5 (some 130) (.pointer (some ⟨h1 + 1, 3, none⟩)) (oi := { dst := some 130, op := Go.Op.fieldAddr 62 (Go.Operand.tmp 8) 3, type := 0, pos := "ref.go:404", after := #[], guard := none }) rfl rfl (by kernel_rfl) (by kernel_rfl) (by kernel_rfl) (fun _ _ _ h => h) hSp (by rfl) (fun w' hs => by first | rfl | go_simp) ?_
                                  simp only [Act.put, List.setIfInBounds_toArray, List.set_cons_zero, List.set_cons_succ]
                                  refine rg_take 6 (some 131) (.slice (some ⟨p4, o4, none⟩) y.preds.length gc) (oi := { dst := some 131, op := Go.Op.load 26 (Go.Operand.tmp 130), type := 26, pos := "ref.go:404", after := #[{ on := 5, ground := Go.Ground.data }], guard := none }) rfl rfl (by kernel_rfl) (by kernel_rfl) (by kernel_rfl) (fun _ _ _ h => h) hSp (by rfl) (fun w' hs => by (have h0 := hs.cell L3 N3; go_simp)) ?_
                                  simp only [Act.put, List.setIfInBounds_toArray, List.set_cons_zero, List.set_cons_succ]
                                  refine rg_take 7 (some 132) (.int .i64 j) (oi := { dst := some 132, op := Go.Op.move (Go.Operand.tmp 9), type := 3, pos := "ref.go:404", after := #[], guard := none }) rfl rfl (by kernel_rfl) (by kernel_rfl) (by kernel_rfl) (fun _ _ _ h => h) hSp (by rfl) (fun w' hs => by rfl) ?_
                                  simp only [Act.put, List.setIfInBounds_toArray, List.set_cons_zero, List.set_cons_succ]
                                  refine rg_take 8 (some 133) (.pointer (some ⟨p4, o4 + j * 7, none⟩)) (oi := { dst := some 133, op := Go.Op.indexAddr 26 (Go.Operand.tmp 131) (Go.Operand.tmp 132), type := 0, pos := "ref.go:404", after := #[{ on := 6, ground := Go.Ground.data }, { on := 7, ground := Go.Ground.data }], guard := none }) rfl rfl (by kernel_rfl) (by kernel_rfl) (by kernel_rfl) (fun _ _ _ h => h) hSp (by rfl) (fun w' hs => by first | rfl | go_simp) ?_
                                  simp only [Act.put, List.setIfInBounds_toArray, List.set_cons_zero, List.set_cons_succ]
                                  refine rg_take 9 (some 134) (.agg #[.string (bs y2.op), .string (bs y2.text), .bool y2.nan, .int .i64 y2.val, .slice na y2.args.length nc, .bool y2.abs, .slice nd y2.steps.length ne]) (oi := { dst := some 134, op := Go.Op.load 29 (Go.Operand.tmp 133), type := 29, pos := "ref.go:404", after := #[{ on := 8, ground := Go.Ground.data }], guard := none }) rfl rfl (by kernel_rfl) (by kernel_rfl) (by kernel_rfl) (fun _ _ _ h => h) hSp (by rfl) (fun w' hs => by (have h0 := hs.cell lg4 e0; have h1 := hs.cell lg4 e1; have h2 := hs.cell lg4 e2; have h3 := hs.cell lg4 e3; have h4 := hs.cell lg4 e4; have h5 := hs.cell lg4 e5; have h6 := hs.cell lg4 e6; go_simp)) ?_
                                  simp only [Act.put, List.setIfInBounds_toArray, List.set_cons_zero, List.set_cons_succ]
                                  refine rg_call 10 (some 135) 11 #[.agg #[.string (bs x2.op), .string (bs x2.text), .bool x2.nan, .int .i64 x2.val, .slice ma x2.args.length mc, .bool x2.abs, .slice md x2.steps.length me], .agg #[.string (bs y2.op), .string (bs y2.text), .bool y2.nan, .int .i64 y2.val, .slice na y2.args.length nc, .bool y2.abs, .slice nd y2.steps.length ne]] (oi := { dst := some 135, op := Go.Op.call { callee := Go.Callee.value (Go.Operand.func 11), args := #[Go.Operand.tmp 129, Go.Operand.tmp 134], argTypes := #[29, 29] }, type := 4, pos := "ref.go:404", after := #[{ on := 4, ground := Go.Ground.data }, { on := 9, ground := Go.Ground.data }], guard := none }) rfl rfl (by kernel_rfl) (by rfl) (fun w' => by first | rfl | go_simp) (R := fun v w' => v = .bool B ∧ Ext (World.drew wo2) w') ?_ ?_
                                  · refine (HC.out (World.drew wo2) hSp).mono ?_
                                    rintro e w' ⟨rfl, h⟩
                                    exact ⟨_, rfl, rfl, h⟩
                                  rintro _ wrp1 ⟨rfl, hBrp1⟩
                                  have hSp1 := hSp.ext hBrp1
                                  refine ⟨hSp1, ?_⟩
                                  simp only [Act.put, List.setIfInBounds_toArray, List.set_cons_zero, List.set_cons_succ]
                                  refine rg_take 11 (some 136) (.bool (!B)) (oi := { dst := some 136, op := Go.Op.unOp Go.UnOp.not 4 (Go.Operand.tmp 135), type := 4, pos := "ref.go:404", after := #[{ on := 10, ground := Go.Ground.data }], guard := none }) rfl rfl (by kernel_rfl) (by kernel_rfl) (by kernel_rfl) (fun _ _ _ h => h) hSp1 (by rfl) (fun w' hs => by first | rfl | go_simp) ?_
                                  simp only [Act.put, List.setIfInBounds_toArray, List.set_cons_zero, List.set_cons_succ]
                                  refine rg_done (by kernel_rfl) ?_
                                  have HX1 := Lib.hid (Ext.trans HEj.out hSp1)
                                  clear hSp hSp1 hBrp1 HC M3 N3 L2 L3 d0 d1 d2 d3 d4 d5 d6 e0 e1 e2 e3 e4 e5 e6 HEj
                                  cases B with
                                  | true =>
                                    have HN : Hid ((sameEs (x.preds.drop (j + 1)) (y.preds.drop (j + 1)) && sameSs (a.steps.drop (i + 1)) (b.steps.drop (i + 1))) = R) := Lib.hid (by have := HS.out; rw [Bool.true_and] at this; rw [← this]; exact HI.out)
                                    clear HS HI
                                    go_wp2_with fail
                                    go_roundw
                                    case rel => exact ⟨j + 1, by go_num, by omega, HX1, HN⟩
                                    case measure => simp only [downQ]; omega
                                  | false =>
                                    have HN : Hid (false = R) := Lib.hid (by have := HS.out; rw [Bool.false_and] at this; rw [← HI.out, this]; rfl)
                                    clear HS HI
                                    go_wp2_with fail
                                    go_ret
                                    exact ⟨rbool HN.out.symm, HE2.out.trans (HP.out.2.2.1.trans HX1.out)⟩
                                · have hlI2 : ¬ (j : Int) < (x.preds.length : Int) := by omega
                                  have HN : Hid (sameSs (a.steps.drop (i + 1)) (b.steps.drop (i + 1)) = R) := Lib.hid (by
                                    have := HI.out
                                    rw [List.drop_of_length_le (by omega), List.drop_of_length_le (by have := HPL.out; omega), sameEs_nil, Bool.true_and] at this
                                    exact this)
                                  have HX1 := Lib.hid (HP.out.2.2.1.trans HEj.out)
                                  clear HI
                                  go_wp2_with fail
                                  go_roundw
                                  case rel => exact ⟨i + 1, by go_num, by omega, HX1, HN⟩
                                  case measure => simp only [downQ]; omega
                            · have hpl1 : ((x.preds.length : Int) != (y.preds.length : Int)) = true := by rw [bne_iff_ne]; omega
                              have HN := Lib.hid (FAIL.out (HL4.out hpl))
                              clear HS HI FAIL hpl
                              go_wp2_with fail
                              go_ret
                              exact ⟨rbool HN.out.symm, HE2.out.trans HP.out.2.2.1⟩
                    · have hlI : ¬ (i : Int) < (a.steps.length : Int) := by omega
                      have HN : Hid (true = R) := Lib.hid (by
                        have := HI.out
                        rw [List.drop_of_length_le (by omega), List.drop_of_length_le (by have := HLS.out; omega), sameSs_nil] at this
                        exact this)
                      clear HI
                      go_wp2_with fail
                      go_ret
                      exact ⟨rbool HN.out.symm, HE2.out.trans HE.out⟩
            · have hs1 : ((a.steps.length : Int) != (b.steps.length : Int)) = true := by rw [bne_iff_ne]; omega
              have HN : Hid (false = R) := Lib.hid (by have := HR.out; rw [HNS.out hs, Bool.and_false] at this; exact this)
              clear ha hs HNA HNS HR
              go_enter Tryz.func11, Tryz.ntmps11
              go_wp2_with fail
              go_ret
              exact ⟨rbool HN.out.symm, HE2.out⟩
          · have ha1 : ((a.args.length : Int) != (b.args.length : Int)) = true := by rw [bne_iff_ne]; omega
            have HN : Hid (false = R) := Lib.hid (by have := HR.out; rw [HNA.out ha, Bool.and_false, Bool.false_and] at this; exact this)
            clear ha HNA HNS HR
            go_enter Tryz.func11, Tryz.ntmps11
            go_wp2_with fail
            go_ret
            exact ⟨rbool HN.out.symm, HE2.out⟩
theorem rsame_all : ∀ N, RmX N := by
  intro N
  induction N with
  | zero => intro a b p q v u w hm; have := wE_eq a; omega
  | succ N ih => exact rsame_of N (Lib.hid ih)
theorem rsame_any (a b : Ex) (p q : Nat → Prop) (v u : Value) (w : World) (hv : XR w p a v) (hu : XR w q b u) : Calls Tryz.prog 11 #[v, u] w fun e w' => e = .returned (.bool (sameE a b)) ∧ Ext w w' := rsame_all _ a b p q v u w (Nat.le_refl _) hv hu

end Go.Proofs.YtfoclfefjcnllaaGreatDoor
