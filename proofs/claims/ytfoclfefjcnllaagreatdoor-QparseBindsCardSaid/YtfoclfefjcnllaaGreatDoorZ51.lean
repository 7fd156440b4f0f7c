/-
  Whether two trees are alike. Helper lemmas; no statement of the seat is proved here.
-/
import Derived.Test.YtfoclfefjcnllaaGreatDoorD15
namespace Go.Proofs.YtfoclfefjcnllaaGreatDoor
open Go.RowKit
set_option maxRecDepth 100000
set_option linter.unusedVariables false
set_option linter.unusedSimpArgs false

/-- Two structs of two fields of a cell each. -/
theorem eq_two {P : Program} {t t1 t2 : TypeId} {x1 x2 y1 y2 : Value} {b1 b2 : Bool} (s : P.stoodInHeld t = false) (u : P.underlying t = some (.struct (P.fieldsOf t)))
    (f1 f2 : Field) (hf : (P.fieldsOf t).toList = [f1, f2]) (n1 : (f1.name == "_") = false) (n2 : (f2.name == "_") = false) (e1 : f1.type = t1) (e2 : f2.type = t2) (o1 : f1.offset = 0) (o2 : f2.offset = 1)
    (p1 : ∀ a b w, (part t1 #[a, b] 0).run P w = .ok a w) (p2 : ∀ a b w, (part t2 #[a, b] 1).run P w = .ok b w)
    (q1 : ∀ w, (Op.equalIn 9999 t1 x1 y1).run P w = .ok b1 w) (q2 : ∀ w, (Op.equalIn 9999 t2 x2 y2).run P w = .ok b2 w) (w : World) :
    (Op.equalIn 10000 t (.agg #[x1, x2]) (.agg #[y1, y2])).run P w = .ok (b1 && b2) w := by
  have m1 : f1.name ≠ "_" := by simpa using n1
  have m2 : f2.name ≠ "_" := by simpa using n2
  rw [run_equalIn_agg w 9999 t _ _ u s, hf]
  simp only [Op.eqFields, if_pos m1, if_pos m2, e1, e2, o1, o2, Sem.run_bind, p1, p2, Result.andThen_ok, q1, q2]
  cases b1 <;> cases b2 <;> simp [q2, p2]
theorem num_two (a c : Bool) (b d : Int) (w : World) : (Op.equalIn 10000 25 (.agg #[.bool a, .int .i64 b]) (.agg #[.bool c, .int .i64 d])).run Tryz.prog w = .ok ((a == c) && (b == d)) w :=
  eq_two (b1 := (a == c)) (b2 := (b == d)) (by kernel_rfl) (by kernel_rfl) (Tryz.prog.fieldsOf 25)[0]! (Tryz.prog.fieldsOf 25)[1]! (by kernel_rfl) (by kernel_rfl) (by kernel_rfl) (t1 := 4) (t2 := 2) (by kernel_rfl) (by kernel_rfl) (by kernel_rfl) (by kernel_rfl) (fun _ _ _ => by kernel_rfl) (fun _ _ _ => by kernel_rfl) (fun w => run_equalIn_bool' w _ _ _ _ Tryz.underlying4) (fun w => run_equalIn_int w _ _ .i64 _ _ _ Tryz.underlying2) w
theorem num_eql {a c : Bool} {b d : Int} {B : Bool} (h : ((a == c) && (b == d)) = B) (w : World) : (binOp .eql 25 (.agg #[.bool a, .int .i64 b]) (.agg #[.bool c, .int .i64 d])).run Tryz.prog w = .ok (.bool B) w := by
  rw [run_eql_struct, num_two, h]; rfl
theorem num_neq {a c : Bool} {b d : Int} {B : Bool} (h : (!((a == c) && (b == d))) = B) (w : World) : (binOp .neq 25 (.agg #[.bool a, .int .i64 b]) (.agg #[.bool c, .int .i64 d])).run Tryz.prog w = .ok (.bool B) w := by
  rw [run_neq_struct, num_two, ← h]; rfl
theorem grd_num (op : BinOp) (x y : Operand) (a b c d : Value) (w : World) : (eqGuard op 25 x y (.agg #[a, b]) (.agg #[c, d])).run Tryz.prog w = .ok () w := run_eqGuard_agg w _ _ _ _ _ _ (by kernel_rfl)
theorem drop_c {α : Type} (l : List α) (i : Nat) (h : i < l.length) : l.drop i = l[i] :: l.drop (i + 1) := List.drop_eq_getElem_cons h
theorem sameEs_ne : ∀ l m : List Ex, ¬ l.length = m.length → sameEs l m = false
  | [], [], h => absurd rfl h
  | [], _ :: _, _ => by rw [sameEs] <;> simp
  | _ :: _, [], _ => by rw [sameEs] <;> simp
  | x :: l, y :: m, h => by rw [sameEs, sameEs_ne l m (by simpa using h), Bool.and_false]
theorem sameSs_ne : ∀ l m : List St, ¬ l.length = m.length → sameSs l m = false
  | [], [], h => absurd rfl h
  | [], _ :: _, _ => by rw [sameSs] <;> simp
  | _ :: _, [], _ => by rw [sameSs] <;> simp
  | x :: l, y :: m, h => by rw [sameSs, sameSs_ne l m (by simpa using h), Bool.and_false]
theorem sameEs_nil : sameEs [] [] = true := by rw [sameEs]
theorem sameSs_nil : sameSs [] [] = true := by rw [sameSs]
theorem sameE_eq (a b : Ex) : sameE a b = (a.op == b.op && a.text == b.text && a.nan == b.nan && a.val == b.val && a.abs == b.abs && sameEs a.args b.args && sameSs a.steps b.steps) := by cases a; cases b; rw [sameE]; rfl
theorem sameT_eq (a b : St) : sameT a b = (a.axis == b.axis && a.test == b.test && a.name == b.name && sameEs a.preds b.preds) := by cases a; cases b; rw [sameT]; rfl
theorem bs_eq (s t : List UInt8) : ((bs s).toList == (bs t).toList) = (s == t) := by rw [bs_toList, bs_toList]
theorem rbool {a b : Bool} (h : a = b) : Ending.returned (.bool b) = .returned (.bool a) := by rw [h]
def SmX (N : Nat) : Prop := ∀ (a b : Ex) (p q : Nat → Prop) (v u : Value) (w : World), wE a ≤ N → XR w p a v → XR w q b u → Calls Tryz.prog 12 #[v, u] w fun e w' => e = .returned (.bool (sameE a b)) ∧ Ext w w'
def SmT (N : Nat) : Prop := ∀ (a b : St) (p q : Nat → Prop) (v u : Value) (w : World), wT a ≤ N → TR w p a v → TR w q b u → Calls Tryz.prog 25 #[v, u] w fun e w' => e = .returned (.bool (sameT a b)) ∧ Ext w w'
set_option maxHeartbeats 8000000 in
theorem eqf_ex (N : Nat) (HN0 : Hid (SmX N)) (ks ks' : List Ex) (p q : Nat → Prop) (a b : Option Addr) (c d : Nat) (w : World) (hN : ∀ (i : Nat) (h : i < ks.length), wE ks[i] ≤ N) (h : Rep w p (.slice a ks.length c) (exsD ks)) (k : Rep w q (.slice b ks'.length d) (exsD ks')) :
    Calls Tryz.prog 23 #[.slice a ks.length c, .slice b ks'.length d, .func (.func 12) #[] #[]] w fun e w' => e = .returned (.bool (sameEs ks ks')) ∧ Ext w w' := by
  obtain ⟨hcA, hcB⟩ : ks.length ≤ c ∧ c ≤ 9223372036854775807 := by
    obtain ⟨_, _, e, h1, h2⟩ := h.count (f := exC) z_ex (by omega)
    cases e; exact ⟨h1, h2⟩
  obtain ⟨R, hR⟩ : ∃ R, sameEs ks ks' = R := ⟨_, rfl⟩
  rw [hR]
  have HR := Lib.hid hR
  have HM := Lib.hid hN
  clear hN
  by_cases hl : ks.length = ks'.length
  · have hl1 : ((ks.length : Int) != (ks'.length : Int)) = false := by rw [hl]; exact bne_self_eq_false _
    have HL := Lib.hid hl
    clear hR hl
    go_enter Tryz.func23, Tryz.ntmps23
    go_wp2_with fail
    go_loopw [7, 8, 9, 17] (fun _ _ _ t wr => ∃ i : Nat, t = .int .i64 i ∧ i ≤ ks.length ∧ Ext w wr ∧ Hid (sameEs (ks.drop i) (ks'.drop i) = R)) (fun _ _ _ t _ => downQ ks.length t)
    case atStart => exact ⟨0, rfl, Nat.zero_le _, Ext.refl _, HR⟩
    case round =>
      obtain ⟨i, rfl, hi, hX, HI⟩ := hrel
      have hi0 : (0 : Int) ≤ (i : Int) := by omega
      by_cases hlt : i < ks.length
      · have hlI : (i : Int) < (ks.length : Int) := by omega
        have hly : i < ks'.length := by have := HL.out; omega
        have hyI : (i : Int) < (ks'.length : Int) := by omega
        obtain ⟨g1, o1, had, lg1, aa, ac, ad, ae, ⟨d0, d1, d2, d3, d4, d5, d6⟩, hxa, hxk⟩ := ex_at (h.ext hX) i hlt
        obtain ⟨g2, o2, hbd, lg2, ga, gc, gd, ge, ⟨e0, e1, e2, e3, e4, e5, e6⟩, hya, hyk⟩ := ex_at (k.ext hX) i hly
        have hm := HM.out i hlt
        have HS : Hid (sameEs (ks.drop i) (ks'.drop i) = (sameE ks[i] ks'[i] && sameEs (ks.drop (i + 1)) (ks'.drop (i + 1)))) := Lib.hid (by rw [drop_c ks i hlt, drop_c ks' i hly, sameEs])
        obtain ⟨x, hx⟩ : ∃ x, ks[i] = x := ⟨_, rfl⟩
        obtain ⟨y, hy⟩ : ∃ y, ks'[i] = y := ⟨_, rfl⟩
        rw [hx] at d0 d1 d2 d3 d4 d5 d6 hxa hxk hm HS
        rw [hy] at e0 e1 e2 e3 e4 e5 e6 hya hyk HS
        have hrE := h
        have krE := k
        rw [had] at hrE
        rw [hbd] at krE
        subst had hbd
        obtain ⟨wo, hwo⟩ : ∃ wo, wo = wr := ⟨_, rfl⟩
        subst hwo
        have hEa : Ext wo (wo.alloc (.cells #[.string (bs x.op), .string (bs x.text), .bool x.nan, .int .i64 x.val, .slice aa x.args.length ac, .bool x.abs, .slice ad x.steps.length ae] 29)) := (Ext.refl wo).alloc _
        have e0' := hEa.keep lg2 e0; have e1' := hEa.keep lg2 e1; have e2' := hEa.keep lg2 e2; have e3' := hEa.keep lg2 e3; have e4' := hEa.keep lg2 e4; have e5' := hEa.keep lg2 e5; have e6' := hEa.keep lg2 e6
        have HC := Lib.hid fun W (hE : Ext wo W) => HN0.out x y p q _ _ W hm ⟨aa, ac, ad, ae, rfl, hxa.ext hE, hxk.ext hE⟩ ⟨ga, gc, gd, ge, rfl, hya.ext hE, hyk.ext hE⟩
        obtain ⟨B, hB⟩ : ∃ B, sameE x y = B := ⟨_, rfl⟩
        rw [hB] at HC HS
        have b0 : ((wo.alloc (.cells #[.string (bs x.op), .string (bs x.text), .bool x.nan, .int .i64 x.val, .slice aa x.args.length ac, .bool x.abs, .slice ad x.steps.length ae] 29)).alloc (.cells #[.string (bs y.op), .string (bs y.text), .bool y.nan, .int .i64 y.val, .slice ga y.args.length gc, .bool y.abs, .slice gd y.steps.length ge] 29)).heap[wo.heap.size]? = some (.cells [.string (bs x.op), .string (bs x.text), .bool x.nan, .int .i64 x.val, .slice aa x.args.length ac, .bool x.abs, .slice ad x.steps.length ae].toArray 29 (0, 0)) :=
          (Below.block ((Ext.refl _).alloc _) _ (by simp)).trans Array.getElem?_push_size
        have k0 := blk_cells b0 0 rfl; have k1 := blk_cells b0 1 rfl; have k2 := blk_cells b0 2 rfl; have k3 := blk_cells b0 3 rfl; have k4 := blk_cells b0 4 rfl; have k5 := blk_cells b0 5 rfl; have k6 := blk_cells b0 6 rfl
        have HE2 := Lib.hid ((((Ext.refl wo).alloc (.cells #[.string (bs x.op), .string (bs x.text), .bool x.nan, .int .i64 x.val, .slice aa x.args.length ac, .bool x.abs, .slice ad x.steps.length ae] 29))).alloc (.cells #[.string (bs y.op), .string (bs y.text), .bool y.nan, .int .i64 y.val, .slice ga y.args.length gc, .bool y.abs, .slice gd y.steps.length ge] 29))
        clear hx hy hB hxa hxk hya hyk hm hEa e0 e1 e2 e3 e4 e5 e6 b0
        go_wp2_with fail
        refine (HC.out _ HE2.out).mono ?_
        rintro e w1 ⟨rfl, hB1⟩
        clear k0 k1 k2 k3 k4 k5 k6 d0 d1 d2 d3 d4 d5 d6 e0' e1' e2' e3' e4' e5' e6'
        have HX1 := Lib.hid (hX.trans (HE2.out.trans hB1))
        clear hX HE2 hB1 HC
        cases B with
        | true =>
          have HN : Hid (sameEs (ks.drop (i + 1)) (ks'.drop (i + 1)) = R) := Lib.hid (by have := HS.out; rw [Bool.true_and] at this; rw [← this]; exact HI.out)
          clear HS HI
          go_wp2_with fail
          go_roundw
          case rel => exact ⟨i + 1, by go_num, by omega, HX1.out, HN⟩
          case measure => simp only [downQ]; omega
        | false =>
          have HN : Hid (false = R) := Lib.hid (by have := HS.out; rw [Bool.false_and] at this; rw [← this]; exact HI.out)
          clear HS HI
          go_wp2_with fail
          go_ret
          exact ⟨rbool HN.out.symm, HX1.out⟩
      · have hlI : ¬ (i : Int) < (ks.length : Int) := by omega
        have HN : Hid (true = R) := Lib.hid (by
          have := HI.out
          rw [List.drop_of_length_le (by omega), List.drop_of_length_le (by have := HL.out; omega), sameEs_nil] at this
          exact this)
        clear HI
        go_wp2_with fail
        go_ret
        exact ⟨rbool HN.out.symm, hX⟩
  · have hl1 : ((ks.length : Int) != (ks'.length : Int)) = true := by rw [bne_iff_ne]; omega
    have HN : Hid (false = R) := Lib.hid (by rw [← hR, sameEs_ne ks ks' hl])
    clear hR hl HR
    go_enter Tryz.func23, Tryz.ntmps23
    go_wp2_with fail
    go_ret
    exact ⟨rbool HN.out.symm, Ext.refl _⟩
set_option maxHeartbeats 8000000 in
theorem step_of (N : Nat) (HN0 : Hid (SmX N)) : SmT (N + 1) := by
  intro a b p q v u w hm hv hu
  obtain ⟨aa, ac, rfl, hra⟩ := hv
  obtain ⟨ba, bc, rfl, hrb⟩ := hu
  have hEQ := Lib.hid fun W (hE : Ext w W) => eqf_ex N HN0 a.preds b.preds p q aa ba ac bc W (fun i h => by have := wL_mem _ _ (List.getElem_mem h); have := wT_eq a; omega) (hra.ext hE) (hrb.ext hE)
  obtain ⟨R, hR⟩ : ∃ R, sameT a b = R := ⟨_, rfl⟩
  rw [hR]
  rw [sameT_eq] at hR
  obtain ⟨K, hK⟩ : ∃ K, sameEs a.preds b.preds = K := ⟨_, rfl⟩
  rw [hK] at hEQ hR
  have hE2 : Ext w ((w.alloc (.cells #[.string (bs a.axis), .string (bs a.test), .string (bs a.name), .slice aa a.preds.length ac] 62)).alloc (.cells #[.string (bs b.axis), .string (bs b.test), .string (bs b.name), .slice ba b.preds.length bc] 62)) := ((Ext.refl w).alloc _).alloc _
  have b0 : ((w.alloc (.cells #[.string (bs a.axis), .string (bs a.test), .string (bs a.name), .slice aa a.preds.length ac] 62)).alloc (.cells #[.string (bs b.axis), .string (bs b.test), .string (bs b.name), .slice ba b.preds.length bc] 62)).heap[w.heap.size]? = some (.cells [.string (bs a.axis), .string (bs a.test), .string (bs a.name), .slice aa a.preds.length ac].toArray 62 (0, 0)) :=
    (Below.block ((Ext.refl _).alloc _) _ (by simp)).trans Array.getElem?_push_size
  have b1 : ((w.alloc (.cells #[.string (bs a.axis), .string (bs a.test), .string (bs a.name), .slice aa a.preds.length ac] 62)).alloc (.cells #[.string (bs b.axis), .string (bs b.test), .string (bs b.name), .slice ba b.preds.length bc] 62)).heap[w.heap.size + 1]? = some (.cells [.string (bs b.axis), .string (bs b.test), .string (bs b.name), .slice ba b.preds.length bc].toArray 62 (0, 0)) := by
    obtain ⟨wA, hwA⟩ : ∃ W, w.alloc (.cells #[.string (bs a.axis), .string (bs a.test), .string (bs a.name), .slice aa a.preds.length ac] 62) = W := ⟨_, rfl⟩
    have hz : w.heap.size + 1 = wA.heap.size := by rw [← hwA]; simp
    rw [hwA, hz]
    exact Array.getElem?_push_size
  obtain ⟨wb, hwb⟩ : ∃ W, (w.alloc (.cells #[.string (bs a.axis), .string (bs a.test), .string (bs a.name), .slice aa a.preds.length ac] 62)).alloc (.cells #[.string (bs b.axis), .string (bs b.test), .string (bs b.name), .slice ba b.preds.length bc] 62) = W := ⟨_, rfl⟩
  rw [hwb] at hE2 b0 b1
  have k0 := blk_cells b0 0 rfl; have k1 := blk_cells b0 1 rfl; have k2 := blk_cells b0 2 rfl; have k3 := blk_cells b0 3 rfl
  have j0 := blk_cells b1 0 rfl; have j1 := blk_cells b1 1 rfl; have j2 := blk_cells b1 2 rfl; have j3 := blk_cells b1 3 rfl
  have l0 := blk_lt b0; have l1 := blk_lt b1
  have HE2 := Lib.hid hE2

  have f1 := bs_eq a.axis b.axis
  have f2 := bs_eq a.test b.test
  have f3 := bs_eq a.name b.name
  obtain ⟨B1, hB1⟩ : ∃ B, (a.axis == b.axis) = B := ⟨_, rfl⟩
  obtain ⟨B2, hB2⟩ : ∃ B, (a.test == b.test) = B := ⟨_, rfl⟩
  obtain ⟨B3, hB3⟩ : ∃ B, (a.name == b.name) = B := ⟨_, rfl⟩
  rw [hB1] at f1 hR
  rw [hB2] at f2 hR
  rw [hB3] at f3 hR
  have HR := Lib.hid hR
  clear hR hB1 hB2 hB3 hK hra hrb b0 b1 hE2 hm
  cases B1 with
  | false =>
    go_enter Tryz.func25, Tryz.ntmps25
    go_wp2_with fail
    go_ret
    exact ⟨rbool HR.out.symm, HE2.out⟩
  | true =>
    cases B2 with
    | false =>
      go_enter Tryz.func25, Tryz.ntmps25
      go_wp2_with fail
      go_ret
      exact ⟨rbool HR.out.symm, HE2.out⟩
    | true =>
      cases B3 with
      | false =>
        go_enter Tryz.func25, Tryz.ntmps25
        go_wp2_with fail
        go_ret
        exact ⟨rbool HR.out.symm, HE2.out⟩
      | true =>
        go_enter Tryz.func25, Tryz.ntmps25
        go_wp2_with fail
        refine (hEQ.out _ HE2.out).mono ?_
        rintro e w1 ⟨rfl, hX1⟩
        clear hEQ
        go_wp2_with fail
        go_ret
        exact ⟨rbool HR.out.symm, HE2.out.trans hX1⟩
set_option maxHeartbeats 8000000 in
theorem eqf_st (N : Nat) (HN0 : Hid (SmT N)) (ks ks' : List St) (p q : Nat → Prop) (a b : Option Addr) (c d : Nat) (w : World) (hN : ∀ (i : Nat) (h : i < ks.length), wT ks[i] ≤ N) (h : Rep w p (.slice a ks.length c) (stsD ks)) (k : Rep w q (.slice b ks'.length d) (stsD ks')) :
    Calls Tryz.prog 24 #[.slice a ks.length c, .slice b ks'.length d, .func (.func 25) #[] #[]] w fun e w' => e = .returned (.bool (sameSs ks ks')) ∧ Ext w w' := by
  obtain ⟨hcA, hcB⟩ : ks.length ≤ c ∧ c ≤ 9223372036854775807 := by
    obtain ⟨_, _, e, h1, h2⟩ := h.count (f := stC) z_st (by omega)
    cases e; exact ⟨h1, h2⟩
  obtain ⟨R, hR⟩ : ∃ R, sameSs ks ks' = R := ⟨_, rfl⟩
  rw [hR]
  have HR := Lib.hid hR
  have HM := Lib.hid hN
  clear hN
  by_cases hl : ks.length = ks'.length
  · have hl1 : ((ks.length : Int) != (ks'.length : Int)) = false := by rw [hl]; exact bne_self_eq_false _
    have HL := Lib.hid hl
    clear hR hl
    go_enter Tryz.func24, Tryz.ntmps24
    go_wp2_with fail
    go_loopw [7, 8, 9, 17] (fun _ _ _ t wr => ∃ i : Nat, t = .int .i64 i ∧ i ≤ ks.length ∧ Ext w wr ∧ Hid (sameSs (ks.drop i) (ks'.drop i) = R)) (fun _ _ _ t _ => downQ ks.length t)
    case atStart => exact ⟨0, rfl, Nat.zero_le _, Ext.refl _, HR⟩
    case round =>
      obtain ⟨i, rfl, hi, hX, HI⟩ := hrel
      have hi0 : (0 : Int) ≤ (i : Int) := by omega
      by_cases hlt : i < ks.length
      · have hlI : (i : Int) < (ks.length : Int) := by omega
        have hly : i < ks'.length := by have := HL.out; omega
        have hyI : (i : Int) < (ks'.length : Int) := by omega
        obtain ⟨g1, o1, had, lg1, pa, pc, ⟨d0, d1, d2, d3⟩, hxa⟩ := st_at (h.ext hX) i hlt
        obtain ⟨g2, o2, hbd, lg2, ga, gc, ⟨e0, e1, e2, e3⟩, hya⟩ := st_at (k.ext hX) i hly
        have hm := HM.out i hlt
        have HS : Hid (sameSs (ks.drop i) (ks'.drop i) = (sameT ks[i] ks'[i] && sameSs (ks.drop (i + 1)) (ks'.drop (i + 1)))) := Lib.hid (by rw [drop_c ks i hlt, drop_c ks' i hly, sameSs])
        obtain ⟨x, hx⟩ : ∃ x, ks[i] = x := ⟨_, rfl⟩
        obtain ⟨y, hy⟩ : ∃ y, ks'[i] = y := ⟨_, rfl⟩
        rw [hx] at d0 d1 d2 d3 hxa hm HS
        rw [hy] at e0 e1 e2 e3 hya HS
        have hrE := h
        have krE := k
        rw [had] at hrE
        rw [hbd] at krE
        subst had hbd
        obtain ⟨wo, hwo⟩ : ∃ wo, wo = wr := ⟨_, rfl⟩
        subst hwo
        have hEa : Ext wo (wo.alloc (.cells #[.string (bs x.axis), .string (bs x.test), .string (bs x.name), .slice pa x.preds.length pc] 62)) := (Ext.refl wo).alloc _
        have e0' := hEa.keep lg2 e0; have e1' := hEa.keep lg2 e1; have e2' := hEa.keep lg2 e2; have e3' := hEa.keep lg2 e3
        have HC := Lib.hid fun W (hE : Ext wo W) => HN0.out x y p q _ _ W hm ⟨pa, pc, rfl, hxa.ext hE⟩ ⟨ga, gc, rfl, hya.ext hE⟩
        obtain ⟨B, hB⟩ : ∃ B, sameT x y = B := ⟨_, rfl⟩
        rw [hB] at HC HS
        have b0 : ((wo.alloc (.cells #[.string (bs x.axis), .string (bs x.test), .string (bs x.name), .slice pa x.preds.length pc] 62)).alloc (.cells #[.string (bs y.axis), .string (bs y.test), .string (bs y.name), .slice ga y.preds.length gc] 62)).heap[wo.heap.size]? = some (.cells [.string (bs x.axis), .string (bs x.test), .string (bs x.name), .slice pa x.preds.length pc].toArray 62 (0, 0)) :=
          (Below.block ((Ext.refl _).alloc _) _ (by simp)).trans Array.getElem?_push_size
        have k0 := blk_cells b0 0 rfl; have k1 := blk_cells b0 1 rfl; have k2 := blk_cells b0 2 rfl; have k3 := blk_cells b0 3 rfl
        have HE2 := Lib.hid ((((Ext.refl wo).alloc (.cells #[.string (bs x.axis), .string (bs x.test), .string (bs x.name), .slice pa x.preds.length pc] 62))).alloc (.cells #[.string (bs y.axis), .string (bs y.test), .string (bs y.name), .slice ga y.preds.length gc] 62))
        clear hx hy hB hxa hya hm hEa e0 e1 e2 e3 b0
        go_wp2_with fail
        refine (HC.out _ HE2.out).mono ?_
        rintro e w1 ⟨rfl, hB1⟩
        clear k0 k1 k2 k3 d0 d1 d2 d3 e0' e1' e2' e3'
        have HX1 := Lib.hid (hX.trans (HE2.out.trans hB1))
        clear hX HE2 hB1 HC
        cases B with
        | true =>
          have HN : Hid (sameSs (ks.drop (i + 1)) (ks'.drop (i + 1)) = R) := Lib.hid (by have := HS.out; rw [Bool.true_and] at this; rw [← this]; exact HI.out)
          clear HS HI
          go_wp2_with fail
          go_roundw
          case rel => exact ⟨i + 1, by go_num, by omega, HX1.out, HN⟩
          case measure => simp only [downQ]; omega
        | false =>
          have HN : Hid (false = R) := Lib.hid (by have := HS.out; rw [Bool.false_and] at this; rw [← this]; exact HI.out)
          clear HS HI
          go_wp2_with fail
          go_ret
          exact ⟨rbool HN.out.symm, HX1.out⟩
      · have hlI : ¬ (i : Int) < (ks.length : Int) := by omega
        have HN : Hid (true = R) := Lib.hid (by
          have := HI.out
          rw [List.drop_of_length_le (by omega), List.drop_of_length_le (by have := HL.out; omega), sameSs_nil] at this
          exact this)
        clear HI
        go_wp2_with fail
        go_ret
        exact ⟨rbool HN.out.symm, hX⟩
  · have hl1 : ((ks.length : Int) != (ks'.length : Int)) = true := by rw [bne_iff_ne]; omega
    have HN : Hid (false = R) := Lib.hid (by rw [← hR, sameSs_ne ks ks' hl])
    clear hR hl HR
    go_enter Tryz.func24, Tryz.ntmps24
    go_wp2_with fail
    go_ret
    exact ⟨rbool HN.out.symm, Ext.refl _⟩
set_option maxHeartbeats 16000000 in
theorem same_of (N : Nat) (HN0 : Hid (SmX N)) : SmX (N + 1) := by
  intro a b p q v u w hm hv hu
  obtain ⟨aa, ac, ad, ae, rfl, hra, hrs⟩ := hv
  obtain ⟨ba, bc, bd, be, rfl, hrb, hrt⟩ := hu
  have hwa := wE_eq a
  have hEQ := Lib.hid fun W (hE : Ext w W) => eqf_ex N HN0 a.args b.args p q aa ba ac bc W (fun i h => by have := wL_mem _ _ (List.getElem_mem h); omega) (hra.ext hE) (hrb.ext hE)
  have hES := Lib.hid fun W (hE : Ext w W) => eqf_st (N + 1) (Lib.hid (step_of N HN0)) a.steps b.steps p q ad bd ae be W (fun i h => by have := wS_mem _ _ (List.getElem_mem h); omega) (hrs.ext hE) (hrt.ext hE)
  obtain ⟨R, hR⟩ : ∃ R, sameE a b = R := ⟨_, rfl⟩
  rw [hR]
  rw [sameE_eq] at hR
  obtain ⟨K, hK⟩ : ∃ K, sameEs a.args b.args = K := ⟨_, rfl⟩
  obtain ⟨L, hL⟩ : ∃ K, sameSs a.steps b.steps = K := ⟨_, rfl⟩
  rw [hK] at hEQ hR
  rw [hL] at hES hR
  have hE2 : Ext w ((w.alloc (.cells #[.string (bs a.op), .string (bs a.text), .bool a.nan, .int .i64 a.val, .slice aa a.args.length ac, .bool a.abs, .slice ad a.steps.length ae] 29)).alloc (.cells #[.string (bs b.op), .string (bs b.text), .bool b.nan, .int .i64 b.val, .slice ba b.args.length bc, .bool b.abs, .slice bd b.steps.length be] 29)) := ((Ext.refl w).alloc _).alloc _
  have b0 : ((w.alloc (.cells #[.string (bs a.op), .string (bs a.text), .bool a.nan, .int .i64 a.val, .slice aa a.args.length ac, .bool a.abs, .slice ad a.steps.length ae] 29)).alloc (.cells #[.string (bs b.op), .string (bs b.text), .bool b.nan, .int .i64 b.val, .slice ba b.args.length bc, .bool b.abs, .slice bd b.steps.length be] 29)).heap[w.heap.size]? = some (.cells [.string (bs a.op), .string (bs a.text), .bool a.nan, .int .i64 a.val, .slice aa a.args.length ac, .bool a.abs, .slice ad a.steps.length ae].toArray 29 (0, 0)) :=
    (Below.block ((Ext.refl _).alloc _) _ (by simp)).trans Array.getElem?_push_size
  have b1 : ((w.alloc (.cells #[.string (bs a.op), .string (bs a.text), .bool a.nan, .int .i64 a.val, .slice aa a.args.length ac, .bool a.abs, .slice ad a.steps.length ae] 29)).alloc (.cells #[.string (bs b.op), .string (bs b.text), .bool b.nan, .int .i64 b.val, .slice ba b.args.length bc, .bool b.abs, .slice bd b.steps.length be] 29)).heap[w.heap.size + 1]? = some (.cells [.string (bs b.op), .string (bs b.text), .bool b.nan, .int .i64 b.val, .slice ba b.args.length bc, .bool b.abs, .slice bd b.steps.length be].toArray 29 (0, 0)) := by
    obtain ⟨wA, hwA⟩ : ∃ W, w.alloc (.cells #[.string (bs a.op), .string (bs a.text), .bool a.nan, .int .i64 a.val, .slice aa a.args.length ac, .bool a.abs, .slice ad a.steps.length ae] 29) = W := ⟨_, rfl⟩
    have hz : w.heap.size + 1 = wA.heap.size := by rw [← hwA]; simp
    rw [hwA, hz]
    exact Array.getElem?_push_size
  obtain ⟨wb, hwb⟩ : ∃ W, (w.alloc (.cells #[.string (bs a.op), .string (bs a.text), .bool a.nan, .int .i64 a.val, .slice aa a.args.length ac, .bool a.abs, .slice ad a.steps.length ae] 29)).alloc (.cells #[.string (bs b.op), .string (bs b.text), .bool b.nan, .int .i64 b.val, .slice ba b.args.length bc, .bool b.abs, .slice bd b.steps.length be] 29) = W := ⟨_, rfl⟩
  rw [hwb] at hE2 b0 b1
  have k0 := blk_cells b0 0 rfl; have k1 := blk_cells b0 1 rfl; have k2 := blk_cells b0 2 rfl; have k3 := blk_cells b0 3 rfl; have k4 := blk_cells b0 4 rfl; have k5 := blk_cells b0 5 rfl; have k6 := blk_cells b0 6 rfl
  have j0 := blk_cells b1 0 rfl; have j1 := blk_cells b1 1 rfl; have j2 := blk_cells b1 2 rfl; have j3 := blk_cells b1 3 rfl; have j4 := blk_cells b1 4 rfl; have j5 := blk_cells b1 5 rfl; have j6 := blk_cells b1 6 rfl
  have l0 := blk_lt b0; have l1 := blk_lt b1
  have HE2 := Lib.hid hE2

  have f1 := bs_eq a.op b.op
  have f2 := bs_eq a.text b.text
  have f3 := fun B h w => num_eql (a := a.nan) (c := b.nan) (b := a.val) (d := b.val) (B := B) h w
  have f4 := fun x y => grd_num .eql x y (.bool a.nan) (.int .i64 a.val) (.bool b.nan) (.int .i64 b.val)
  obtain ⟨B1, hB1⟩ : ∃ B, (a.op == b.op) = B := ⟨_, rfl⟩
  obtain ⟨B2, hB2⟩ : ∃ B, (a.text == b.text) = B := ⟨_, rfl⟩
  obtain ⟨B3, hB3⟩ : ∃ B, ((a.nan == b.nan) && (a.val == b.val)) = B := ⟨_, rfl⟩
  obtain ⟨B4, f5⟩ : ∃ B, (a.abs == b.abs) = B := ⟨_, rfl⟩
  rw [hB1] at f1 hR
  rw [hB2] at f2 hR
  rw [Bool.and_assoc (B1 && B2), hB3, f5] at hR
  replace f3 := f3 B3 hB3
  have HR := Lib.hid hR
  clear hR hB1 hB2 hB3 hK hL hra hrb hrs hrt b0 b1 hE2 hm hwa
  cases B1 with
  | false =>
    go_enter Tryz.func12, Tryz.ntmps12
    go_wp2_with fail
    go_ret
    exact ⟨rbool HR.out.symm, HE2.out⟩
  | true =>
    cases B2 with
    | false =>
      go_enter Tryz.func12, Tryz.ntmps12
      go_wp2_with fail
      go_ret
      exact ⟨rbool HR.out.symm, HE2.out⟩
    | true =>
      cases B3 with
      | false =>
        go_enter Tryz.func12, Tryz.ntmps12
        go_wp2_with fail
        go_ret
        exact ⟨rbool HR.out.symm, HE2.out⟩
      | true =>
        cases B4 with
        | false =>
          go_enter Tryz.func12, Tryz.ntmps12
          go_wp2_with fail
          go_ret
          exact ⟨rbool HR.out.symm, HE2.out⟩
        | true =>
          go_enter Tryz.func12, Tryz.ntmps12
          go_wp2_with fail
          refine (hEQ.out _ HE2.out).mono ?_
          rintro e w1 ⟨rfl, hX1⟩
          have m6 := hX1.keep l0 k6
          have n6 := hX1.keep l1 j6
          clear hEQ hwb
          cases K with
          | false =>
            go_wp2_with fail
            go_ret
            exact ⟨rbool HR.out.symm, HE2.out.trans hX1⟩
          | true =>
            go_wp2_with fail
            refine (hES.out _ (HE2.out.trans hX1)).mono ?_
            rintro e w2 ⟨rfl, hX2⟩
            clear hES
            go_wp2_with fail
            go_ret
            exact ⟨rbool HR.out.symm, HE2.out.trans (hX1.trans hX2)⟩
theorem same_all : ∀ N, SmX N := by
  intro N
  induction N with
  | zero => intro a b p q v u w hm; have := wE_eq a; omega
  | succ N ih => exact same_of N (Lib.hid ih)
theorem same_any (a b : Ex) (p q : Nat → Prop) (v u : Value) (w : World) (hv : XR w p a v) (hu : XR w q b u) : Calls Tryz.prog 12 #[v, u] w fun e w' => e = .returned (.bool (sameE a b)) ∧ Ext w w' := same_all _ a b p q v u w (Nat.le_refl _) hv hu

end Go.Proofs.YtfoclfefjcnllaaGreatDoor
