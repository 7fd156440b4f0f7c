/-
  Contracts of package deci: Mul, Div. Helper lemmas; no statement of the seat is proved here.
-/
import Derived.Test.YtcdpjgdaofgpcaaDoorDeciC
import Derived.Test.YtcdpjgdaofgpcaaDoorDivAny
namespace Go.Proofs.YtcdpjgdaofgpcaaDoor
open Go.RowKit
set_option maxRecDepth 100000

theorem mul64I (x y : Nat) (w : World) (hx : x < 18446744073709551616) (hy : y < 18446744073709551616) {h l : Int} (eh : ((x * y / 18446744073709551616 : Nat) : Int) = h) (el : ((x * y % 18446744073709551616 : Nat) : Int) = l) :
    Calls Tryd.prog 91 #[.int .u64 x, .int .u64 y] w fun e w' => e = .returned (.tuple #[.int .u64 h, .int .u64 l]) ∧ w = w' := by
  refine (Tryd.bits_Mul64 x y hx hy w).mono fun e w' ⟨he, hw⟩ => ⟨?_, hw.symm⟩
  rw [he, eh, el]
theorem div64I (hi lo y : Nat) (w : World) (h2 : hi < y) (h3 : y < 18446744073709551616) (l1 : lo < 18446744073709551616) {q : Int} (eq : (((hi * 18446744073709551616 + lo) / y : Nat) : Int) = q) :
    Calls Tryd.prog 92 #[.int .u64 hi, .int .u64 lo, .int .u64 y] w fun e w' => ∃ r : Int, e = .returned (.tuple #[.int .u64 q, .int .u64 r]) ∧ Ext w w' := by
  rw [← eq]; exact div64_any hi lo y w h2 h3 l1
def signed (neg : Bool) (q : Nat) : Int := if neg then -(q : Int) else q
def mulS (a b : Int) : Out := fitS (signed (decide (a < 0) != decide (b < 0)) (a.natAbs * b.natAbs / 1000000))
def divS (a b : Int) : Out := if b = 0 then ((false, 0), 67) else fitS (signed (decide (a < 0) != decide (b < 0)) (a.natAbs * 1000000 / b.natAbs))
theorem fitS_far (neg : Bool) (q : Nat) (h : 1000000000000000 < q) : fitS (signed neg q) = ((false, 0), 66) := by
  cases neg
  · exact fitS_hi (by simp [signed]; omega)
  · exact fitS_lo (by simp [signed]; omega)

theorem mul_odd (an bn : Bool) (av bv : Int) (w : World) (ho : (oddB an av || oddB bn bv) = true) :
    Calls Tryd.prog 25 #[.agg #[.bool an, .int .i64 av], .agg #[.bool bn, .int .i64 bv]] w fun e w' => e = .returned (.tuple #[.agg #[.bool true, .int .i64 0], .int .i64 0]) ∧ Ext w w' := by
  have HO := Lib.hid ho; clear ho
  go_enter Tryd.func25, Tryd.ntmps25
  go_wp2_with fail
  refine (odd2_any an bn av bv _ _ (by simp) (by simp [go_sem]) (by simp [go_sem]) (by simp [go_sem]) (by simp [go_sem])).mono ?_
  rw [HO.out]
  rintro e w1 ⟨rfl, hB⟩
  have hc := hB.cells; have hf := hB.frees; have hz := hB.size
  simp at hz
  go_wp2_with fail
  refine (nan_any _).mono ?_
  rintro e w2 ⟨rfl, hB2⟩
  have hc2 := hB2.cells; have hf2 := hB2.frees; have hz2 := hB2.size
  have l2 : w.heap.size + 1 + 1 < w1.heap.size := by omega
  have l2' : w.heap.size + 1 + 1 < w2.heap.size := by omega
  go_wp2_with fail
  refine bodyPost_ret (v := .tuple #[.agg #[.bool true, .int .i64 0], .int .i64 0]) (by simp [results, Tryd.results25, go_sem, hc, hc2, l2]) rfl ⟨rfl, ?_⟩
  repeat (first | exact Ext.refl _ | refine Ext.set ?_ (by dsimp only; omega) _ | refine Ext.alloc ?_ _ | refine Ext.drew ?_ | refine (Ext.trans ?_ (by assumption)))
theorem div_odd (an bn : Bool) (av bv : Int) (w : World) (ho : (oddB an av || oddB bn bv) = true) :
    Calls Tryd.prog 26 #[.agg #[.bool an, .int .i64 av], .agg #[.bool bn, .int .i64 bv]] w fun e w' => e = .returned (.tuple #[.agg #[.bool true, .int .i64 0], .int .i64 0]) ∧ Ext w w' := by
  have HO := Lib.hid ho; clear ho
  go_enter Tryd.func26, Tryd.ntmps26
  go_wp2_with fail
  refine (odd2_any an bn av bv _ _ (by simp) (by simp [go_sem]) (by simp [go_sem]) (by simp [go_sem]) (by simp [go_sem])).mono ?_
  rw [HO.out]
  rintro e w1 ⟨rfl, hB⟩
  have hc := hB.cells; have hf := hB.frees; have hz := hB.size
  simp at hz
  go_wp2_with fail
  refine (nan_any _).mono ?_
  rintro e w2 ⟨rfl, hB2⟩
  have hc2 := hB2.cells; have hf2 := hB2.frees; have hz2 := hB2.size
  have l2 : w.heap.size + 1 + 1 < w1.heap.size := by omega
  have l2' : w.heap.size + 1 + 1 < w2.heap.size := by omega
  go_wp2_with fail
  refine bodyPost_ret (v := .tuple #[.agg #[.bool true, .int .i64 0], .int .i64 0]) (by simp [results, Tryd.results26, go_sem, hc, hc2, l2]) rfl ⟨rfl, ?_⟩
  repeat (first | exact Ext.refl _ | refine Ext.set ?_ (by dsimp only; omega) _ | refine Ext.alloc ?_ _ | refine Ext.drew ?_ | refine (Ext.trans ?_ (by assumption)))
theorem div_zero (av : Int) (w : World) (ho : (oddB false av || oddB false 0) = false) :
    Calls Tryd.prog 26 #[.agg #[.bool false, .int .i64 av], .agg #[.bool false, .int .i64 0]] w fun e w' => e = .returned (.tuple #[.agg #[.bool false, .int .i64 0], .int .i64 67]) ∧ Ext w w' := by
  have HO := Lib.hid ho; clear ho
  go_enter Tryd.func26, Tryd.ntmps26
  go_wp2_with fail
  refine (odd2_any false false av 0 _ _ (by simp) (by simp [go_sem]) (by simp [go_sem]) (by simp [go_sem]) (by simp [go_sem])).mono ?_
  rw [HO.out]
  rintro e w1 ⟨rfl, hB⟩
  have hc := hB.cells; have hf := hB.frees; have hz := hB.size
  simp at hz
  go_wp2_with fail
  refine bodyPost_ret (v := .tuple #[.agg #[.bool false, .int .i64 0], .int .i64 67]) (by simp [results, Tryd.results26, go_sem, hc]) rfl ⟨rfl, ?_⟩
  repeat (first | exact Ext.refl _ | refine Ext.set ?_ (by dsimp only; omega) _ | refine Ext.alloc ?_ _ | refine Ext.drew ?_ | refine (Ext.trans ?_ (by assumption)))
theorem mul_range (av bv : Int) (w : World) (ho : (oddB false av || oddB false bv) = false) (hr : 1000000 ≤ av.natAbs * bv.natAbs / 18446744073709551616) :
    Calls Tryd.prog 25 #[.agg #[.bool false, .int .i64 av], .agg #[.bool false, .int .i64 bv]] w fun e w' => e = .returned (.tuple #[.agg #[.bool false, .int .i64 0], .int .i64 66]) ∧ Ext w w' := by
  rw [Bool.or_eq_false_iff] at ho
  obtain ⟨_, a1, a2⟩ := oddB_false ho.1
  obtain ⟨_, b1, b2⟩ := oddB_false ho.2
  obtain ⟨h, eh⟩ : ∃ h : Int, ((av.natAbs * bv.natAbs / 18446744073709551616 : Nat) : Int) = h := ⟨_, rfl⟩
  obtain ⟨l, el⟩ : ∃ l : Int, ((av.natAbs * bv.natAbs % 18446744073709551616 : Nat) : Int) = l := ⟨_, rfl⟩
  have hh : 1000000 ≤ h := by rw [← eh]; omega
  have HO := Lib.hid ho; have EH := Lib.hid eh; have EL := Lib.hid el; clear ho eh el
  clear hr
  go_enter Tryd.func25, Tryd.ntmps25
  go_wp2_with fail
  refine (odd2_any false false av bv _ _ (by simp) (by simp [go_sem]) (by simp [go_sem]) (by simp [go_sem]) (by simp [go_sem])).mono ?_
  rw [HO.out.1, HO.out.2]
  rintro e w1 ⟨rfl, hB⟩
  have hc := hB.cells; have hf := hB.frees; have hz := hB.size
  simp at hz
  go_wp2_with fail
  refine (size_any av _ (by omega) (by omega)).mono ?_
  rintro e w' ⟨rfl, rfl⟩
  go_wp2_with fail
  refine (size_any bv _ (by omega) (by omega)).mono ?_
  rintro e w' ⟨rfl, rfl⟩
  go_wp2_with fail
  refine (mul64I av.natAbs bv.natAbs _ (by omega) (by omega) EH.out EL.out).mono ?_
  rintro e w' ⟨rfl, rfl⟩
  have l2 : w.heap.size + 1 + 1 < w1.heap.size := by omega
  go_wp2_with fail
  refine bodyPost_ret (v := .tuple #[.agg #[.bool false, .int .i64 0], .int .i64 66]) (by simp [results, Tryd.results25, go_sem, hc]) rfl ⟨rfl, ?_⟩
  repeat (first | exact Ext.refl _ | refine Ext.set ?_ (by dsimp only; omega) _ | refine Ext.alloc ?_ _ | refine Ext.drew ?_ | refine (Ext.trans ?_ (by assumption)))
theorem mul_ok (av bv : Int) (w : World) (ho : (oddB false av || oddB false bv) = false) (hr : av.natAbs * bv.natAbs / 18446744073709551616 < 1000000) :
    Calls Tryd.prog 25 #[.agg #[.bool false, .int .i64 av], .agg #[.bool false, .int .i64 bv]] w fun e w' => e = .returned (.tuple #[.agg #[.bool (fitS (signed (decide (av < 0) != decide (bv < 0)) (av.natAbs * bv.natAbs / 1000000))).1.1, .int .i64 (fitS (signed (decide (av < 0) != decide (bv < 0)) (av.natAbs * bv.natAbs / 1000000))).1.2], .int .i64 (fitS (signed (decide (av < 0) != decide (bv < 0)) (av.natAbs * bv.natAbs / 1000000))).2]) ∧ Ext w w' := by
  obtain ⟨⟨⟨r1, r2⟩, r3⟩, er⟩ : ∃ r, fitS (signed (decide (av < 0) != decide (bv < 0)) (av.natAbs * bv.natAbs / 1000000)) = r := ⟨_, rfl⟩
  rw [er]
  rw [Bool.or_eq_false_iff] at ho
  obtain ⟨_, a1, a2⟩ := oddB_false ho.1
  obtain ⟨_, b1, b2⟩ := oddB_false ho.2
  obtain ⟨h, eh⟩ : ∃ h : Int, ((av.natAbs * bv.natAbs / 18446744073709551616 : Nat) : Int) = h := ⟨_, rfl⟩
  obtain ⟨l, el⟩ : ∃ l : Int, ((av.natAbs * bv.natAbs % 18446744073709551616 : Nat) : Int) = l := ⟨_, rfl⟩
  have hh : h < 1000000 := by rw [← eh]; omega
  have eq : (((av.natAbs * bv.natAbs / 18446744073709551616 * 18446744073709551616 + av.natAbs * bv.natAbs % 18446744073709551616) / 1000000 : Nat) : Int) = ((av.natAbs * bv.natAbs / 1000000 : Nat) : Int) := by
    have := Nat.div_add_mod (av.natAbs * bv.natAbs) 18446744073709551616
    rw [Nat.mul_comm] at this
    rw [this]
  obtain ⟨q, eq2⟩ : ∃ q : Int, ((av.natAbs * bv.natAbs / 1000000 : Nat) : Int) = q := ⟨_, rfl⟩
  have q0 : 0 ≤ q := by rw [← eq2]; exact Int.natCast_nonneg _
  rw [eq2] at eq
  have hl : av.natAbs * bv.natAbs % 18446744073709551616 < 18446744073709551616 := Nat.mod_lt _ (by decide)
  have ES : (signed (decide (av < 0) != decide (bv < 0)) (av.natAbs * bv.natAbs / 1000000)) = if (decide (av < 0) != decide (bv < 0)) then -q else q := by rw [← eq2]; rfl
  have HER := Lib.hid er; have EQ := Lib.hid eq; have HES := Lib.hid ES; have HR := Lib.hid hr; have HL := Lib.hid hl; clear er eq eq2 ES hr hl
  have EH2 := Lib.hid eh; have EL2 := Lib.hid el
  have HO := Lib.hid ho; have EH := Lib.hid eh; have EL := Lib.hid el; clear ho eh el
  go_enter Tryd.func25, Tryd.ntmps25
  go_wp2_with fail
  refine (odd2_any false false av bv _ _ (by simp) (by simp [go_sem]) (by simp [go_sem]) (by simp [go_sem]) (by simp [go_sem])).mono ?_
  rw [HO.out.1, HO.out.2]
  rintro e w1 ⟨rfl, hB⟩
  have hc := hB.cells; have hf := hB.frees; have hz := hB.size
  simp at hz
  go_wp2_with fail
  refine (size_any av _ (by omega) (by omega)).mono ?_
  rintro e w' ⟨rfl, rfl⟩
  go_wp2_with fail
  refine (size_any bv _ (by omega) (by omega)).mono ?_
  rintro e w' ⟨rfl, rfl⟩
  go_wp2_with fail
  refine (mul64I av.natAbs bv.natAbs _ (by omega) (by omega) EH.out EL.out).mono ?_
  rintro e w' ⟨rfl, rfl⟩
  go_wp2_with fail
  rw [← EH2.out, ← EL2.out]
  refine (div64I (av.natAbs * bv.natAbs / 18446744073709551616) (av.natAbs * bv.natAbs % 18446744073709551616) 1000000 _ HR.out (by omega) HL.out EQ.out).mono ?_
  rintro e w2 ⟨r, rfl, hB2⟩
  have hc2 := hB2.cells; have hf2 := hB2.frees; have hz2 := hB2.size
  go_wp2_with fail
  refine (made_res q _ _ q0 _ HES.out HER.out).mono ?_
  rintro e w3 ⟨rfl, hB3⟩
  have hc3 := (hB2.trans hB3).cells; have hf3 := (hB2.trans hB3).frees; have hz3 := hB3.size
  have l2 : w.heap.size + 1 + 1 < w1.heap.size := by omega
  have l3 : w.heap.size + 1 + 1 < w3.heap.size := by omega
  go_wp2_with fail
  refine bodyPost_ret (v := .tuple #[.agg #[.bool r1, .int .i64 r2], .int .i64 r3]) (by simp [results, Tryd.results25, go_sem, hc, hc3, l2]) rfl ⟨rfl, ?_⟩
  repeat (first | exact Ext.refl _ | refine Ext.set ?_ (by dsimp only; omega) _ | refine Ext.alloc ?_ _ | refine Ext.drew ?_ | refine (Ext.trans ?_ (by assumption)))
theorem div_range (av bv : Int) (w : World) (ho : (oddB false av || oddB false bv) = false) (hb : ¬ bv = 0) (hr : bv.natAbs ≤ av.natAbs * 1000000 / 18446744073709551616) :
    Calls Tryd.prog 26 #[.agg #[.bool false, .int .i64 av], .agg #[.bool false, .int .i64 bv]] w fun e w' => e = .returned (.tuple #[.agg #[.bool false, .int .i64 0], .int .i64 66]) ∧ Ext w w' := by
  rw [Bool.or_eq_false_iff] at ho
  obtain ⟨_, a1, a2⟩ := oddB_false ho.1
  obtain ⟨_, b1, b2⟩ := oddB_false ho.2
  have hne : (bv == 0) = false := by simpa using hb
  have hb1 : bv ≠ 0 := hb
  clear hb
  obtain ⟨h, eh⟩ : ∃ h : Int, ((av.natAbs * 1000000 / 18446744073709551616 : Nat) : Int) = h := ⟨_, rfl⟩
  obtain ⟨l, el⟩ : ∃ l : Int, ((av.natAbs * 1000000 % 18446744073709551616 : Nat) : Int) = l := ⟨_, rfl⟩
  have hh : absI bv ≤ h := by rw [← eh]; unfold absI; omega
  have HO := Lib.hid ho; have EH := Lib.hid eh; have EL := Lib.hid el; clear ho eh el
  clear hr
  go_enter Tryd.func26, Tryd.ntmps26
  go_wp2_with fail
  refine (odd2_any false false av bv _ _ (by simp) (by simp [go_sem]) (by simp [go_sem]) (by simp [go_sem]) (by simp [go_sem])).mono ?_
  rw [HO.out.1, HO.out.2]
  rintro e w1 ⟨rfl, hB⟩
  have hc := hB.cells; have hf := hB.frees; have hz := hB.size
  simp at hz
  go_wp2_with fail
  refine (size_any av _ (by omega) (by omega)).mono ?_
  rintro e w' ⟨rfl, rfl⟩
  go_wp2_with fail
  refine (size_any bv _ (by omega) (by omega)).mono ?_
  rintro e w' ⟨rfl, rfl⟩
  go_wp2_with fail
  refine (mul64I av.natAbs 1000000 _ (by omega) (by omega) EH.out EL.out).mono ?_
  rintro e w' ⟨rfl, rfl⟩
  have l2 : w.heap.size + 1 + 1 < w1.heap.size := by omega
  go_wp2_with fail
  refine bodyPost_ret (v := .tuple #[.agg #[.bool false, .int .i64 0], .int .i64 66]) (by simp [results, Tryd.results26, go_sem, hc]) rfl ⟨rfl, ?_⟩
  repeat (first | exact Ext.refl _ | refine Ext.set ?_ (by dsimp only; omega) _ | refine Ext.alloc ?_ _ | refine Ext.drew ?_ | refine (Ext.trans ?_ (by assumption)))
theorem div_ok (av bv : Int) (w : World) (ho : (oddB false av || oddB false bv) = false) (hb : ¬ bv = 0) (hr : av.natAbs * 1000000 / 18446744073709551616 < bv.natAbs) :
    Calls Tryd.prog 26 #[.agg #[.bool false, .int .i64 av], .agg #[.bool false, .int .i64 bv]] w fun e w' => e = .returned (.tuple #[.agg #[.bool (fitS (signed (decide (av < 0) != decide (bv < 0)) (av.natAbs * 1000000 / bv.natAbs))).1.1, .int .i64 (fitS (signed (decide (av < 0) != decide (bv < 0)) (av.natAbs * 1000000 / bv.natAbs))).1.2], .int .i64 (fitS (signed (decide (av < 0) != decide (bv < 0)) (av.natAbs * 1000000 / bv.natAbs))).2]) ∧ Ext w w' := by
  obtain ⟨⟨⟨r1, r2⟩, r3⟩, er⟩ : ∃ r, fitS (signed (decide (av < 0) != decide (bv < 0)) (av.natAbs * 1000000 / bv.natAbs)) = r := ⟨_, rfl⟩
  rw [er]
  rw [Bool.or_eq_false_iff] at ho
  obtain ⟨_, a1, a2⟩ := oddB_false ho.1
  obtain ⟨_, b1, b2⟩ := oddB_false ho.2
  have hne : (bv == 0) = false := by simpa using hb
  have hb1 : bv ≠ 0 := hb
  clear hb
  obtain ⟨h, eh⟩ : ∃ h : Int, ((av.natAbs * 1000000 / 18446744073709551616 : Nat) : Int) = h := ⟨_, rfl⟩
  obtain ⟨l, el⟩ : ∃ l : Int, ((av.natAbs * 1000000 % 18446744073709551616 : Nat) : Int) = l := ⟨_, rfl⟩
  have hh : h < absI bv := by rw [← eh]; unfold absI; omega
  have eq : (((av.natAbs * 1000000 / 18446744073709551616 * 18446744073709551616 + av.natAbs * 1000000 % 18446744073709551616) / bv.natAbs : Nat) : Int) = ((av.natAbs * 1000000 / bv.natAbs : Nat) : Int) := by
    have := Nat.div_add_mod (av.natAbs * 1000000) 18446744073709551616
    rw [Nat.mul_comm] at this
    rw [this]
  obtain ⟨q, eq2⟩ : ∃ q : Int, ((av.natAbs * 1000000 / bv.natAbs : Nat) : Int) = q := ⟨_, rfl⟩
  have q0 : 0 ≤ q := by rw [← eq2]; exact Int.natCast_nonneg _
  rw [eq2] at eq
  have hl : av.natAbs * 1000000 % 18446744073709551616 < 18446744073709551616 := Nat.mod_lt _ (by decide)
  have ES : (signed (decide (av < 0) != decide (bv < 0)) (av.natAbs * 1000000 / bv.natAbs)) = if (decide (av < 0) != decide (bv < 0)) then -q else q := by rw [← eq2]; rfl
  have HER := Lib.hid er; have EQ := Lib.hid eq; have HES := Lib.hid ES; have HR := Lib.hid hr; have HL := Lib.hid hl; clear er eq eq2 ES hr hl
  have EH2 := Lib.hid eh; have EL2 := Lib.hid el
  have HO := Lib.hid ho; have EH := Lib.hid eh; have EL := Lib.hid el; clear ho eh el
  go_enter Tryd.func26, Tryd.ntmps26
  go_wp2_with fail
  refine (odd2_any false false av bv _ _ (by simp) (by simp [go_sem]) (by simp [go_sem]) (by simp [go_sem]) (by simp [go_sem])).mono ?_
  rw [HO.out.1, HO.out.2]
  rintro e w1 ⟨rfl, hB⟩
  have hc := hB.cells; have hf := hB.frees; have hz := hB.size
  simp at hz
  go_wp2_with fail
  refine (size_any av _ (by omega) (by omega)).mono ?_
  rintro e w' ⟨rfl, rfl⟩
  go_wp2_with fail
  refine (size_any bv _ (by omega) (by omega)).mono ?_
  rintro e w' ⟨rfl, rfl⟩
  go_wp2_with fail
  refine (mul64I av.natAbs 1000000 _ (by omega) (by omega) EH.out EL.out).mono ?_
  rintro e w' ⟨rfl, rfl⟩
  go_wp2_with fail
  rw [← EH2.out, ← EL2.out]
  refine (div64I (av.natAbs * 1000000 / 18446744073709551616) (av.natAbs * 1000000 % 18446744073709551616) bv.natAbs _ HR.out (by omega) HL.out EQ.out).mono ?_
  rintro e w2 ⟨r, rfl, hB2⟩
  have hc2 := hB2.cells; have hf2 := hB2.frees; have hz2 := hB2.size
  go_wp2_with fail
  refine (made_res q _ _ q0 _ HES.out HER.out).mono ?_
  rintro e w3 ⟨rfl, hB3⟩
  have hc3 := (hB2.trans hB3).cells; have hf3 := (hB2.trans hB3).frees; have hz3 := hB3.size
  have l2 : w.heap.size + 1 + 1 < w1.heap.size := by omega
  have l3 : w.heap.size + 1 + 1 < w3.heap.size := by omega
  go_wp2_with fail
  refine bodyPost_ret (v := .tuple #[.agg #[.bool r1, .int .i64 r2], .int .i64 r3]) (by simp [results, Tryd.results26, go_sem, hc, hc3, l2]) rfl ⟨rfl, ?_⟩
  repeat (first | exact Ext.refl _ | refine Ext.set ?_ (by dsimp only; omega) _ | refine Ext.alloc ?_ _ | refine Ext.drew ?_ | refine (Ext.trans ?_ (by assumption)))
theorem mul_any (an bn : Bool) (av bv : Int) (w : World) :
    Calls Tryd.prog 25 #[.agg #[.bool an, .int .i64 av], .agg #[.bool bn, .int .i64 bv]] w fun e w' => e = .returned (.tuple #[.agg #[.bool (two an bn av bv (mulS av bv)).1.1, .int .i64 (two an bn av bv (mulS av bv)).1.2], .int .i64 (two an bn av bv (mulS av bv)).2]) ∧ Ext w w' := by
  by_cases h : (oddB an av || oddB bn bv) = true
  · rw [two, if_pos h]; exact mul_odd an bn av bv w h
  · rw [two, if_neg h]
    have h' : (oddB an av || oddB bn bv) = false := by simpa using h
    have h2 := h'
    rw [Bool.or_eq_false_iff] at h2
    obtain ⟨rfl, _, _⟩ := oddB_false h2.1
    obtain ⟨rfl, _, _⟩ := oddB_false h2.2
    by_cases hr : 1000000 ≤ av.natAbs * bv.natAbs / 18446744073709551616
    · have e : mulS av bv = ((false, 0), 66) := fitS_far _ _ (by omega)
      rw [e]; exact mul_range av bv w h' hr
    · exact mul_ok av bv w h' (by omega)
theorem div_any (an bn : Bool) (av bv : Int) (w : World) :
    Calls Tryd.prog 26 #[.agg #[.bool an, .int .i64 av], .agg #[.bool bn, .int .i64 bv]] w fun e w' => e = .returned (.tuple #[.agg #[.bool (two an bn av bv (divS av bv)).1.1, .int .i64 (two an bn av bv (divS av bv)).1.2], .int .i64 (two an bn av bv (divS av bv)).2]) ∧ Ext w w' := by
  by_cases h : (oddB an av || oddB bn bv) = true
  · rw [two, if_pos h]; exact div_odd an bn av bv w h
  · rw [two, if_neg h]
    have h' : (oddB an av || oddB bn bv) = false := by simpa using h
    have h2 := h'
    rw [Bool.or_eq_false_iff] at h2
    obtain ⟨rfl, _, _⟩ := oddB_false h2.1
    obtain ⟨rfl, _, _⟩ := oddB_false h2.2
    by_cases hb : bv = 0
    · subst hb; rw [divS, if_pos rfl]; exact div_zero av w h'
    · rw [divS, if_neg hb]
      by_cases hr : bv.natAbs ≤ av.natAbs * 1000000 / 18446744073709551616
      · have hq : 1000000000000000 < av.natAbs * 1000000 / bv.natAbs := by
          have hp : 0 < bv.natAbs := by omega
          have : 18446744073709551616 ≤ av.natAbs * 1000000 / bv.natAbs := by
            rw [Nat.le_div_iff_mul_le hp]; omega
          omega
        rw [fitS_far _ _ hq]; exact div_range av bv w h' hb hr
      · exact div_ok av bv w h' hb (by omega)
end Go.Proofs.YtcdpjgdaofgpcaaDoor
