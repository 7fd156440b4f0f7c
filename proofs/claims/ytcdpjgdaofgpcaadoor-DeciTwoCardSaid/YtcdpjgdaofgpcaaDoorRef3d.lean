/-
  Contracts of the reference of layer 3, fourth part: Div. Helper lemmas; no statement of the seat is proved here.
-/
import Derived.Test.YtcdpjgdaofgpcaaDoorRef3
import Derived.Test.YtcdpjgdaofgpcaaDoorDeciPlain
import Derived.LoopTactic
namespace Go.Proofs.YtcdpjgdaofgpcaaDoor
open Go.RowKit
set_option maxRecDepth 100000
set_option linter.unusedVariables false

theorem rdiv_odd1 (an bn : Bool) (av bv : Int) (w : World) (ho : oddB an av = true) : Calls Tryd.prog 38 #[.agg #[.bool an, .int .i64 av], .agg #[.bool bn, .int .i64 bv]] w fun e w' => e = .returned (.tuple #[.agg #[.bool true, .int .i64 0], .int .i64 0]) ∧ Ext w w' := by
  have HO := Lib.hid ho; clear ho
  go_enter Tryd.func38, Tryd.ntmps38
  go_wp2_with fail
  refine (rodd_any an av _).mono ?_
  rw [HO.out]
  rintro e w1 ⟨rfl, hB1⟩
  have hc1 := hB1.cells; have hf1 := hB1.frees; have hz1 := hB1.size
  simp at hz1
  go_wp2_with fail
  have hc := hB1.cells; have hf := hB1.frees; have hz := hB1.size
  simp at hz
  refine (rnone_any _).mono ?_
  rintro e w9 ⟨rfl, hB9⟩
  have hc9 := hB9.cells; have hf9 := hB9.frees; have hz9 := hB9.size
  have l2 : w.heap.size + 1 + 1 < w1.heap.size := by omega
  have l9 : w.heap.size + 1 + 1 < w9.heap.size := by omega
  go_wp2_with fail
  refine bodyPost_ret (v := .tuple #[.agg #[.bool true, .int .i64 0], .int .i64 0]) (by simp [results, Tryd.results38, go_sem, hc, hc9, l2]) rfl ⟨rfl, ?_⟩
  repeat (first | exact Ext.refl _ | refine Ext.set ?_ (by dsimp only; omega) _ | refine Ext.alloc ?_ _ | refine Ext.drew ?_ | refine (Ext.trans ?_ (by assumption)))

theorem rdiv_odd2 (bn : Bool) (av bv : Int) (w : World) (ha : oddB false av = false) (ho : oddB bn bv = true) : Calls Tryd.prog 38 #[.agg #[.bool false, .int .i64 av], .agg #[.bool bn, .int .i64 bv]] w fun e w' => e = .returned (.tuple #[.agg #[.bool true, .int .i64 0], .int .i64 0]) ∧ Ext w w' := by
  have HA := Lib.hid ha; have HO := Lib.hid ho; clear ho ha
  go_enter Tryd.func38, Tryd.ntmps38
  go_wp2_with fail
  refine (rodd_any false av _).mono ?_
  rw [HA.out]
  rintro e w1 ⟨rfl, hB1⟩
  have hc1 := hB1.cells; have hf1 := hB1.frees; have hz1 := hB1.size
  simp at hz1
  go_wp2_with fail
  refine (rodd_any bn bv _).mono ?_
  rw [HO.out]
  rintro e w2 ⟨rfl, hB2⟩
  go_wp2_with fail
  have hc := (hB1.trans hB2).cells; have hf := (hB1.trans hB2).frees; have hz := (hB1.trans hB2).size
  simp at hz
  refine (rnone_any _).mono ?_
  rintro e w9 ⟨rfl, hB9⟩
  have hc9 := hB9.cells; have hf9 := hB9.frees; have hz9 := hB9.size
  have l2 : w.heap.size + 1 + 1 < w2.heap.size := by omega
  have l9 : w.heap.size + 1 + 1 < w9.heap.size := by omega
  go_wp2_with fail
  refine bodyPost_ret (v := .tuple #[.agg #[.bool true, .int .i64 0], .int .i64 0]) (by simp [results, Tryd.results38, go_sem, hc, hc9, l2]) rfl ⟨rfl, ?_⟩
  repeat (first | exact Ext.refl _ | refine Ext.set ?_ (by dsimp only; omega) _ | refine Ext.alloc ?_ _ | refine Ext.drew ?_ | refine (Ext.trans ?_ (by assumption)))

theorem rdiv_zero (av bv : Int) (w : World) (ha : oddB false av = false) (hb : oddB false bv = false) (h0 : bv = 0) : Calls Tryd.prog 38 #[.agg #[.bool false, .int .i64 av], .agg #[.bool false, .int .i64 bv]] w fun e w' => e = .returned (.tuple #[.agg #[.bool false, .int .i64 0], .int .i64 67]) ∧ Ext w w' := by
  obtain ⟨_, a1, a2⟩ := oddB_false ha
  obtain ⟨_, b1, b2⟩ := oddB_false hb
  subst h0
  have HA := Lib.hid ha; have HO := Lib.hid hb; clear hb ha
  go_enter Tryd.func38, Tryd.ntmps38
  go_wp2_with fail
  refine (rodd_any false av _).mono ?_
  rw [HA.out]
  rintro e w1 ⟨rfl, hB1⟩
  have hc1 := hB1.cells; have hf1 := hB1.frees; have hz1 := hB1.size
  simp at hz1
  go_wp2_with fail
  refine (rodd_any false 0 _).mono ?_
  rw [HO.out]
  rintro e w2 ⟨rfl, hB2⟩
  have hc2 := (hB1.trans hB2).cells; have hf2 := (hB1.trans hB2).frees; have hz2 := hB2.size
  go_wp2_with fail
  refine bodyPost_ret (v := .tuple #[.agg #[.bool false, .int .i64 0], .int .i64 67]) (by simp [results, Tryd.results38, go_sem, hc2]) rfl ⟨rfl, ?_⟩
  have hz3 := hz1
  repeat (first | exact Ext.refl _ | refine Ext.set ?_ (by dsimp only; omega) _ | refine Ext.alloc ?_ _ | refine Ext.drew ?_ | refine (Ext.trans ?_ (by assumption)))

theorem div_round (x y k : Nat) (hy : 0 < y) (v r : Int) (hv : v = ((x * 10 ^ k / y : Nat) : Int)) (hr : r = ((x * 10 ^ k % y : Nat) : Int)) :
    v * 10 + r * 10 / (y : Int) = ((x * 10 ^ (k + 1) / y : Nat) : Int) ∧ r * 10 % (y : Int) = ((x * 10 ^ (k + 1) % y : Nat) : Int) := by
  obtain ⟨h1, h2⟩ := KDeci.div_step x y (10 ^ k) hy _ _ rfl rfl
  rw [Nat.pow_succ, ← h1, ← h2, hv, hr]
  constructor
  · simp only [Int.natCast_add, Int.natCast_mul, Int.natCast_ediv]; rfl
  · simp only [Int.natCast_mul, Int.natCast_emod]; rfl
theorem digit_small (r y : Int) (h0 : 0 ≤ r) (h1 : r < y) : 0 ≤ r * 10 / y ∧ r * 10 / y ≤ 9 := by
  refine ⟨Int.ediv_nonneg (by omega) (by omega), ?_⟩
  have : r * 10 / y < 10 := by rw [Int.ediv_lt_iff_lt_mul (by omega)]; omega
  omega
theorem rest_small (r y : Int) (h1 : 0 < y) : 0 ≤ r * 10 % y ∧ r * 10 % y < y := ⟨Int.emod_nonneg _ (by omega), Int.emod_lt_of_pos _ h1⟩
theorem rdiv_oknn (av bv : Int) (w : World) (ha : oddB false av = false) (hb : oddB false bv = false) (sa : av < 0) (sb : bv < 0) (h0 : ¬ bv = 0) {r1 : Bool} {r2 r3 : Int} (hr : fitS (signed false (av.natAbs * 1000000 / bv.natAbs)) = ((r1, r2), r3)) : Calls Tryd.prog 38 #[.agg #[.bool false, .int .i64 av], .agg #[.bool false, .int .i64 bv]] w fun e w' => e = .returned (.tuple #[.agg #[.bool r1, .int .i64 r2], .int .i64 r3]) ∧ Ext w w' := by
  obtain ⟨_, a1, a2⟩ := oddB_false ha
  obtain ⟨_, b1, b2⟩ := oddB_false hb
  have da : decide (av < 0) = true := by simp; omega
  have db : decide (bv < 0) = true := by simp; omega
  have v1 := absI_nonneg av
  have v2 : absI av ≤ 1000000000000000 := by unfold absI; omega
  have v3 := absI_nonneg bv
  have v4 : absI bv ≤ 1000000000000000 := by unfold absI; omega
  have hne : (bv == 0) = false := by simpa using h0
  have v5 : 1 ≤ absI bv := by unfold absI; omega
  have hyp : 0 < bv.natAbs := by omega
  clear h0
  have q0 : 0 ≤ absI av / absI bv := Int.ediv_nonneg v1 (by omega)
  have q1 : absI av / absI bv ≤ 1000000000000000 := Int.le_trans (Int.ediv_le_self _ v1) v2
  have q2 : 0 ≤ absI av % absI bv := Int.emod_nonneg _ (by omega)
  have q3 : absI av % absI bv < absI bv := Int.emod_lt_of_pos _ (by omega)
  have HS0 : Hid (absI av / absI bv = ((av.natAbs * 10 ^ 0 / bv.natAbs : Nat) : Int) ∧ absI av % absI bv = ((av.natAbs * 10 ^ 0 % bv.natAbs : Nat) : Int)) := by
    refine Lib.hid ⟨?_, ?_⟩ <;> unfold absI <;> simp
  have HR := Lib.hid hr; clear hr
  have HA := Lib.hid ha; have HO := Lib.hid hb; clear hb ha
  go_enter Tryd.func38, Tryd.ntmps38
  go_wp2_with fail
  refine (rodd_any false av _).mono ?_
  rw [HA.out]
  rintro e w1 ⟨rfl, hB1⟩
  have hc1 := hB1.cells; have hf1 := hB1.frees; have hz1 := hB1.size
  simp at hz1
  go_wp2_with fail
  refine (rodd_any false bv _).mono ?_
  rw [HO.out]
  rintro e w2 ⟨rfl, hB2⟩
  have hc2 := (hB1.trans hB2).cells; have hf2 := (hB1.trans hB2).frees; have hz2 := hB2.size
  go_wp2_with fail
  refine (rabs_any av _ (by omega) (by omega)).mono ?_
  rintro e w' ⟨rfl, rfl⟩
  go_wp2_with fail
  refine (rabs_any bv _ (by omega) (by omega)).mono ?_
  rintro e w' ⟨rfl, rfl⟩
  go_wp2_with fail
  go_loop [8, 9, 10] (fun v r i => ∃ (k : Nat) (vk rk : Int), v = .int .i64 vk ∧ r = .int .i64 rk ∧ i = .int .i64 k ∧ k ≤ 6 ∧ Hid (vk = ((av.natAbs * 10 ^ k / bv.natAbs : Nat) : Int) ∧ rk = ((av.natAbs * 10 ^ k % bv.natAbs : Nat) : Int)) ∧ 0 ≤ vk ∧ vk ≤ 10000000000000009 ∧ 0 ≤ rk ∧ rk < absI bv) (fun _ _ i => 6 - (intOf i).toNat)
  case atStart => exact ⟨0, _, _, rfl, rfl, rfl, by omega, HS0, by omega, by omega, by omega, by omega⟩
  case round =>
    obtain ⟨k, vk, rk, rfl, rfl, rfl, hk, HK, z1, z2, z3, z4⟩ := hrel
    by_cases hlt : k < 6
    · by_cases hbig : 1000000000000000 < vk
      · have hfar : fitS (signed false (av.natAbs * 1000000 / bv.natAbs)) = ((false, 0), 66) := by
          refine fitS_far _ _ ?_
          have h1 := HK.out.1
          have h2 := KDeci.div_mono av.natAbs bv.natAbs (10 ^ k) (10 ^ 6) (Nat.pow_le_pow_right (by decide) (by omega))
          have h3 : (10 : Nat) ^ 6 = 1000000 := rfl
          rw [h3] at h2
          omega
        have hrr := HR.out
        rw [hfar] at hrr
        injection hrr with e1 e2
        injection e1 with e1 e3
        subst e1; subst e2; subst e3
        clear hfar HR HS0 HK
        go_wp2_with fail
        refine bodyPost_ret (v := .tuple #[.agg #[.bool false, .int .i64 0], .int .i64 66]) (by simp [results, Tryd.results38, go_sem, hc2]) rfl ⟨rfl, ?_⟩
        repeat (first | exact Ext.refl _ | refine Ext.set ?_ (by dsimp only; omega) _ | refine Ext.alloc ?_ _ | refine Ext.drew ?_ | refine (Ext.trans ?_ (by assumption)))
      · have hn := div_round av.natAbs bv.natAbs k hyp vk rk HK.out.1 HK.out.2
        have HN : Hid (vk * 10 + rk * 10 / absI bv = ((av.natAbs * 10 ^ (k + 1) / bv.natAbs : Nat) : Int) ∧ rk * 10 % absI bv = ((av.natAbs * 10 ^ (k + 1) % bv.natAbs : Nat) : Int)) := hn
        clear hn
        obtain ⟨d1, d2⟩ := digit_small rk (absI bv) z3 z4
        obtain ⟨d3, d4⟩ := rest_small rk (absI bv) (by omega)
        go_wp2_with fail
        go_round
        case rel => exact ⟨k + 1, _, _, rfl, rfl, by go_num, by omega, HN, by omega, by omega, by omega, by omega⟩
        case measure => simp [intOf]; omega
    · obtain rfl : k = 6 := by omega
      have HV : Hid (fitS (vk) = ((r1, r2), r3)) := by
        have h1 := HK.out.1
        have h3 : (10 : Nat) ^ 6 = 1000000 := rfl
        rw [h3] at h1
        have h2 := HR.out
        unfold signed at h2
        rw [h1]
        exact h2
      clear HR HK HS0
      go_wp2_with fail
      refine (rfit_any _ _ HV.out).mono ?_
      rintro e w3 ⟨rfl, hB3⟩
      have hc3 := ((hB1.trans hB2).trans hB3).cells; have hf3 := ((hB1.trans hB2).trans hB3).frees; have hz3 := hB3.size
      go_wp2_with fail
      refine bodyPost_ret (v := .tuple #[.agg #[.bool r1, .int .i64 r2], .int .i64 r3]) (by simp [results, Tryd.results38, go_sem, hc3]) rfl ⟨rfl, ?_⟩
      repeat (first | exact Ext.refl _ | refine Ext.set ?_ (by dsimp only; omega) _ | refine Ext.alloc ?_ _ | refine Ext.drew ?_ | refine (Ext.trans ?_ (by assumption)))

theorem rdiv_oknp (av bv : Int) (w : World) (ha : oddB false av = false) (hb : oddB false bv = false) (sa : av < 0) (sb : 0 ≤ bv) (h0 : ¬ bv = 0) {r1 : Bool} {r2 r3 : Int} (hr : fitS (signed true (av.natAbs * 1000000 / bv.natAbs)) = ((r1, r2), r3)) : Calls Tryd.prog 38 #[.agg #[.bool false, .int .i64 av], .agg #[.bool false, .int .i64 bv]] w fun e w' => e = .returned (.tuple #[.agg #[.bool r1, .int .i64 r2], .int .i64 r3]) ∧ Ext w w' := by
  obtain ⟨_, a1, a2⟩ := oddB_false ha
  obtain ⟨_, b1, b2⟩ := oddB_false hb
  have da : decide (av < 0) = true := by simp; omega
  have db : decide (bv < 0) = false := by simp; omega
  have v1 := absI_nonneg av
  have v2 : absI av ≤ 1000000000000000 := by unfold absI; omega
  have v3 := absI_nonneg bv
  have v4 : absI bv ≤ 1000000000000000 := by unfold absI; omega
  have hne : (bv == 0) = false := by simpa using h0
  have v5 : 1 ≤ absI bv := by unfold absI; omega
  have hyp : 0 < bv.natAbs := by omega
  clear h0
  have q0 : 0 ≤ absI av / absI bv := Int.ediv_nonneg v1 (by omega)
  have q1 : absI av / absI bv ≤ 1000000000000000 := Int.le_trans (Int.ediv_le_self _ v1) v2
  have q2 : 0 ≤ absI av % absI bv := Int.emod_nonneg _ (by omega)
  have q3 : absI av % absI bv < absI bv := Int.emod_lt_of_pos _ (by omega)
  have HS0 : Hid (absI av / absI bv = ((av.natAbs * 10 ^ 0 / bv.natAbs : Nat) : Int) ∧ absI av % absI bv = ((av.natAbs * 10 ^ 0 % bv.natAbs : Nat) : Int)) := by
    refine Lib.hid ⟨?_, ?_⟩ <;> unfold absI <;> simp
  have HR := Lib.hid hr; clear hr
  have HA := Lib.hid ha; have HO := Lib.hid hb; clear hb ha
  go_enter Tryd.func38, Tryd.ntmps38
  go_wp2_with fail
  refine (rodd_any false av _).mono ?_
  rw [HA.out]
  rintro e w1 ⟨rfl, hB1⟩
  have hc1 := hB1.cells; have hf1 := hB1.frees; have hz1 := hB1.size
  simp at hz1
  go_wp2_with fail
  refine (rodd_any false bv _).mono ?_
  rw [HO.out]
  rintro e w2 ⟨rfl, hB2⟩
  have hc2 := (hB1.trans hB2).cells; have hf2 := (hB1.trans hB2).frees; have hz2 := hB2.size
  go_wp2_with fail
  refine (rabs_any av _ (by omega) (by omega)).mono ?_
  rintro e w' ⟨rfl, rfl⟩
  go_wp2_with fail
  refine (rabs_any bv _ (by omega) (by omega)).mono ?_
  rintro e w' ⟨rfl, rfl⟩
  go_wp2_with fail
  go_loop [8, 9, 10] (fun v r i => ∃ (k : Nat) (vk rk : Int), v = .int .i64 vk ∧ r = .int .i64 rk ∧ i = .int .i64 k ∧ k ≤ 6 ∧ Hid (vk = ((av.natAbs * 10 ^ k / bv.natAbs : Nat) : Int) ∧ rk = ((av.natAbs * 10 ^ k % bv.natAbs : Nat) : Int)) ∧ 0 ≤ vk ∧ vk ≤ 10000000000000009 ∧ 0 ≤ rk ∧ rk < absI bv) (fun _ _ i => 6 - (intOf i).toNat)
  case atStart => exact ⟨0, _, _, rfl, rfl, rfl, by omega, HS0, by omega, by omega, by omega, by omega⟩
  case round =>
    obtain ⟨k, vk, rk, rfl, rfl, rfl, hk, HK, z1, z2, z3, z4⟩ := hrel
    by_cases hlt : k < 6
    · by_cases hbig : 1000000000000000 < vk
      · have hfar : fitS (signed true (av.natAbs * 1000000 / bv.natAbs)) = ((false, 0), 66) := by
          refine fitS_far _ _ ?_
          have h1 := HK.out.1
          have h2 := KDeci.div_mono av.natAbs bv.natAbs (10 ^ k) (10 ^ 6) (Nat.pow_le_pow_right (by decide) (by omega))
          have h3 : (10 : Nat) ^ 6 = 1000000 := rfl
          rw [h3] at h2
          omega
        have hrr := HR.out
        rw [hfar] at hrr
        injection hrr with e1 e2
        injection e1 with e1 e3
        subst e1; subst e2; subst e3
        clear hfar HR HS0 HK
        go_wp2_with fail
        refine bodyPost_ret (v := .tuple #[.agg #[.bool false, .int .i64 0], .int .i64 66]) (by simp [results, Tryd.results38, go_sem, hc2]) rfl ⟨rfl, ?_⟩
        repeat (first | exact Ext.refl _ | refine Ext.set ?_ (by dsimp only; omega) _ | refine Ext.alloc ?_ _ | refine Ext.drew ?_ | refine (Ext.trans ?_ (by assumption)))
      · have hn := div_round av.natAbs bv.natAbs k hyp vk rk HK.out.1 HK.out.2
        have HN : Hid (vk * 10 + rk * 10 / absI bv = ((av.natAbs * 10 ^ (k + 1) / bv.natAbs : Nat) : Int) ∧ rk * 10 % absI bv = ((av.natAbs * 10 ^ (k + 1) % bv.natAbs : Nat) : Int)) := hn
        clear hn
        obtain ⟨d1, d2⟩ := digit_small rk (absI bv) z3 z4
        obtain ⟨d3, d4⟩ := rest_small rk (absI bv) (by omega)
        go_wp2_with fail
        go_round
        case rel => exact ⟨k + 1, _, _, rfl, rfl, by go_num, by omega, HN, by omega, by omega, by omega, by omega⟩
        case measure => simp [intOf]; omega
    · obtain rfl : k = 6 := by omega
      have HV : Hid (fitS (-vk) = ((r1, r2), r3)) := by
        have h1 := HK.out.1
        have h3 : (10 : Nat) ^ 6 = 1000000 := rfl
        rw [h3] at h1
        have h2 := HR.out
        unfold signed at h2
        rw [h1]
        exact h2
      clear HR HK HS0
      go_wp2_with fail
      refine (rfit_any _ _ HV.out).mono ?_
      rintro e w3 ⟨rfl, hB3⟩
      have hc3 := ((hB1.trans hB2).trans hB3).cells; have hf3 := ((hB1.trans hB2).trans hB3).frees; have hz3 := hB3.size
      go_wp2_with fail
      refine bodyPost_ret (v := .tuple #[.agg #[.bool r1, .int .i64 r2], .int .i64 r3]) (by simp [results, Tryd.results38, go_sem, hc3]) rfl ⟨rfl, ?_⟩
      repeat (first | exact Ext.refl _ | refine Ext.set ?_ (by dsimp only; omega) _ | refine Ext.alloc ?_ _ | refine Ext.drew ?_ | refine (Ext.trans ?_ (by assumption)))

theorem rdiv_okpn (av bv : Int) (w : World) (ha : oddB false av = false) (hb : oddB false bv = false) (sa : 0 ≤ av) (sb : bv < 0) (h0 : ¬ bv = 0) {r1 : Bool} {r2 r3 : Int} (hr : fitS (signed true (av.natAbs * 1000000 / bv.natAbs)) = ((r1, r2), r3)) : Calls Tryd.prog 38 #[.agg #[.bool false, .int .i64 av], .agg #[.bool false, .int .i64 bv]] w fun e w' => e = .returned (.tuple #[.agg #[.bool r1, .int .i64 r2], .int .i64 r3]) ∧ Ext w w' := by
  obtain ⟨_, a1, a2⟩ := oddB_false ha
  obtain ⟨_, b1, b2⟩ := oddB_false hb
  have da : decide (av < 0) = false := by simp; omega
  have db : decide (bv < 0) = true := by simp; omega
  have v1 := absI_nonneg av
  have v2 : absI av ≤ 1000000000000000 := by unfold absI; omega
  have v3 := absI_nonneg bv
  have v4 : absI bv ≤ 1000000000000000 := by unfold absI; omega
  have hne : (bv == 0) = false := by simpa using h0
  have v5 : 1 ≤ absI bv := by unfold absI; omega
  have hyp : 0 < bv.natAbs := by omega
  clear h0
  have q0 : 0 ≤ absI av / absI bv := Int.ediv_nonneg v1 (by omega)
  have q1 : absI av / absI bv ≤ 1000000000000000 := Int.le_trans (Int.ediv_le_self _ v1) v2
  have q2 : 0 ≤ absI av % absI bv := Int.emod_nonneg _ (by omega)
  have q3 : absI av % absI bv < absI bv := Int.emod_lt_of_pos _ (by omega)
  have HS0 : Hid (absI av / absI bv = ((av.natAbs * 10 ^ 0 / bv.natAbs : Nat) : Int) ∧ absI av % absI bv = ((av.natAbs * 10 ^ 0 % bv.natAbs : Nat) : Int)) := by
    refine Lib.hid ⟨?_, ?_⟩ <;> unfold absI <;> simp
  have HR := Lib.hid hr; clear hr
  have HA := Lib.hid ha; have HO := Lib.hid hb; clear hb ha
  go_enter Tryd.func38, Tryd.ntmps38
  go_wp2_with fail
  refine (rodd_any false av _).mono ?_
  rw [HA.out]
  rintro e w1 ⟨rfl, hB1⟩
  have hc1 := hB1.cells; have hf1 := hB1.frees; have hz1 := hB1.size
  simp at hz1
  go_wp2_with fail
  refine (rodd_any false bv _).mono ?_
  rw [HO.out]
  rintro e w2 ⟨rfl, hB2⟩
  have hc2 := (hB1.trans hB2).cells; have hf2 := (hB1.trans hB2).frees; have hz2 := hB2.size
  go_wp2_with fail
  refine (rabs_any av _ (by omega) (by omega)).mono ?_
  rintro e w' ⟨rfl, rfl⟩
  go_wp2_with fail
  refine (rabs_any bv _ (by omega) (by omega)).mono ?_
  rintro e w' ⟨rfl, rfl⟩
  go_wp2_with fail
  go_loop [8, 9, 10] (fun v r i => ∃ (k : Nat) (vk rk : Int), v = .int .i64 vk ∧ r = .int .i64 rk ∧ i = .int .i64 k ∧ k ≤ 6 ∧ Hid (vk = ((av.natAbs * 10 ^ k / bv.natAbs : Nat) : Int) ∧ rk = ((av.natAbs * 10 ^ k % bv.natAbs : Nat) : Int)) ∧ 0 ≤ vk ∧ vk ≤ 10000000000000009 ∧ 0 ≤ rk ∧ rk < absI bv) (fun _ _ i => 6 - (intOf i).toNat)
  case atStart => exact ⟨0, _, _, rfl, rfl, rfl, by omega, HS0, by omega, by omega, by omega, by omega⟩
  case round =>
    obtain ⟨k, vk, rk, rfl, rfl, rfl, hk, HK, z1, z2, z3, z4⟩ := hrel
    by_cases hlt : k < 6
    · by_cases hbig : 1000000000000000 < vk
      · have hfar : fitS (signed true (av.natAbs * 1000000 / bv.natAbs)) = ((false, 0), 66) := by
          refine fitS_far _ _ ?_
          have h1 := HK.out.1
          have h2 := KDeci.div_mono av.natAbs bv.natAbs (10 ^ k) (10 ^ 6) (Nat.pow_le_pow_right (by decide) (by omega))
          have h3 : (10 : Nat) ^ 6 = 1000000 := rfl
          rw [h3] at h2
          omega
        have hrr := HR.out
        rw [hfar] at hrr
        injection hrr with e1 e2
        injection e1 with e1 e3
        subst e1; subst e2; subst e3
        clear hfar HR HS0 HK
        go_wp2_with fail
        refine bodyPost_ret (v := .tuple #[.agg #[.bool false, .int .i64 0], .int .i64 66]) (by simp [results, Tryd.results38, go_sem, hc2]) rfl ⟨rfl, ?_⟩
        repeat (first | exact Ext.refl _ | refine Ext.set ?_ (by dsimp only; omega) _ | refine Ext.alloc ?_ _ | refine Ext.drew ?_ | refine (Ext.trans ?_ (by assumption)))
      · have hn := div_round av.natAbs bv.natAbs k hyp vk rk HK.out.1 HK.out.2
        have HN : Hid (vk * 10 + rk * 10 / absI bv = ((av.natAbs * 10 ^ (k + 1) / bv.natAbs : Nat) : Int) ∧ rk * 10 % absI bv = ((av.natAbs * 10 ^ (k + 1) % bv.natAbs : Nat) : Int)) := hn
        clear hn
        obtain ⟨d1, d2⟩ := digit_small rk (absI bv) z3 z4
        obtain ⟨d3, d4⟩ := rest_small rk (absI bv) (by omega)
        go_wp2_with fail
        go_round
        case rel => exact ⟨k + 1, _, _, rfl, rfl, by go_num, by omega, HN, by omega, by omega, by omega, by omega⟩
        case measure => simp [intOf]; omega
    · obtain rfl : k = 6 := by omega
      have HV : Hid (fitS (-vk) = ((r1, r2), r3)) := by
        have h1 := HK.out.1
        have h3 : (10 : Nat) ^ 6 = 1000000 := rfl
        rw [h3] at h1
        have h2 := HR.out
        unfold signed at h2
        rw [h1]
        exact h2
      clear HR HK HS0
      go_wp2_with fail
      refine (rfit_any _ _ HV.out).mono ?_
      rintro e w3 ⟨rfl, hB3⟩
      have hc3 := ((hB1.trans hB2).trans hB3).cells; have hf3 := ((hB1.trans hB2).trans hB3).frees; have hz3 := hB3.size
      go_wp2_with fail
      refine bodyPost_ret (v := .tuple #[.agg #[.bool r1, .int .i64 r2], .int .i64 r3]) (by simp [results, Tryd.results38, go_sem, hc3]) rfl ⟨rfl, ?_⟩
      repeat (first | exact Ext.refl _ | refine Ext.set ?_ (by dsimp only; omega) _ | refine Ext.alloc ?_ _ | refine Ext.drew ?_ | refine (Ext.trans ?_ (by assumption)))

theorem rdiv_okpp (av bv : Int) (w : World) (ha : oddB false av = false) (hb : oddB false bv = false) (sa : 0 ≤ av) (sb : 0 ≤ bv) (h0 : ¬ bv = 0) {r1 : Bool} {r2 r3 : Int} (hr : fitS (signed false (av.natAbs * 1000000 / bv.natAbs)) = ((r1, r2), r3)) : Calls Tryd.prog 38 #[.agg #[.bool false, .int .i64 av], .agg #[.bool false, .int .i64 bv]] w fun e w' => e = .returned (.tuple #[.agg #[.bool r1, .int .i64 r2], .int .i64 r3]) ∧ Ext w w' := by
  obtain ⟨_, a1, a2⟩ := oddB_false ha
  obtain ⟨_, b1, b2⟩ := oddB_false hb
  have da : decide (av < 0) = false := by simp; omega
  have db : decide (bv < 0) = false := by simp; omega
  have v1 := absI_nonneg av
  have v2 : absI av ≤ 1000000000000000 := by unfold absI; omega
  have v3 := absI_nonneg bv
  have v4 : absI bv ≤ 1000000000000000 := by unfold absI; omega
  have hne : (bv == 0) = false := by simpa using h0
  have v5 : 1 ≤ absI bv := by unfold absI; omega
  have hyp : 0 < bv.natAbs := by omega
  clear h0
  have q0 : 0 ≤ absI av / absI bv := Int.ediv_nonneg v1 (by omega)
  have q1 : absI av / absI bv ≤ 1000000000000000 := Int.le_trans (Int.ediv_le_self _ v1) v2
  have q2 : 0 ≤ absI av % absI bv := Int.emod_nonneg _ (by omega)
  have q3 : absI av % absI bv < absI bv := Int.emod_lt_of_pos _ (by omega)
  have HS0 : Hid (absI av / absI bv = ((av.natAbs * 10 ^ 0 / bv.natAbs : Nat) : Int) ∧ absI av % absI bv = ((av.natAbs * 10 ^ 0 % bv.natAbs : Nat) : Int)) := by
    refine Lib.hid ⟨?_, ?_⟩ <;> unfold absI <;> simp
  have HR := Lib.hid hr; clear hr
  have HA := Lib.hid ha; have HO := Lib.hid hb; clear hb ha
  go_enter Tryd.func38, Tryd.ntmps38
  go_wp2_with fail
  refine (rodd_any false av _).mono ?_
  rw [HA.out]
  rintro e w1 ⟨rfl, hB1⟩
  have hc1 := hB1.cells; have hf1 := hB1.frees; have hz1 := hB1.size
  simp at hz1
  go_wp2_with fail
  refine (rodd_any false bv _).mono ?_
  rw [HO.out]
  rintro e w2 ⟨rfl, hB2⟩
  have hc2 := (hB1.trans hB2).cells; have hf2 := (hB1.trans hB2).frees; have hz2 := hB2.size
  go_wp2_with fail
  refine (rabs_any av _ (by omega) (by omega)).mono ?_
  rintro e w' ⟨rfl, rfl⟩
  go_wp2_with fail
  refine (rabs_any bv _ (by omega) (by omega)).mono ?_
  rintro e w' ⟨rfl, rfl⟩
  go_wp2_with fail
  go_loop [8, 9, 10] (fun v r i => ∃ (k : Nat) (vk rk : Int), v = .int .i64 vk ∧ r = .int .i64 rk ∧ i = .int .i64 k ∧ k ≤ 6 ∧ Hid (vk = ((av.natAbs * 10 ^ k / bv.natAbs : Nat) : Int) ∧ rk = ((av.natAbs * 10 ^ k % bv.natAbs : Nat) : Int)) ∧ 0 ≤ vk ∧ vk ≤ 10000000000000009 ∧ 0 ≤ rk ∧ rk < absI bv) (fun _ _ i => 6 - (intOf i).toNat)
  case atStart => exact ⟨0, _, _, rfl, rfl, rfl, by omega, HS0, by omega, by omega, by omega, by omega⟩
  case round =>
    obtain ⟨k, vk, rk, rfl, rfl, rfl, hk, HK, z1, z2, z3, z4⟩ := hrel
    by_cases hlt : k < 6
    · by_cases hbig : 1000000000000000 < vk
      · have hfar : fitS (signed false (av.natAbs * 1000000 / bv.natAbs)) = ((false, 0), 66) := by
          refine fitS_far _ _ ?_
          have h1 := HK.out.1
          have h2 := KDeci.div_mono av.natAbs bv.natAbs (10 ^ k) (10 ^ 6) (Nat.pow_le_pow_right (by decide) (by omega))
          have h3 : (10 : Nat) ^ 6 = 1000000 := rfl
          rw [h3] at h2
          omega
        have hrr := HR.out
        rw [hfar] at hrr
        injection hrr with e1 e2
        injection e1 with e1 e3
        subst e1; subst e2; subst e3
        clear hfar HR HS0 HK
        go_wp2_with fail
        refine bodyPost_ret (v := .tuple #[.agg #[.bool false, .int .i64 0], .int .i64 66]) (by simp [results, Tryd.results38, go_sem, hc2]) rfl ⟨rfl, ?_⟩
        repeat (first | exact Ext.refl _ | refine Ext.set ?_ (by dsimp only; omega) _ | refine Ext.alloc ?_ _ | refine Ext.drew ?_ | refine (Ext.trans ?_ (by assumption)))
      · have hn := div_round av.natAbs bv.natAbs k hyp vk rk HK.out.1 HK.out.2
        have HN : Hid (vk * 10 + rk * 10 / absI bv = ((av.natAbs * 10 ^ (k + 1) / bv.natAbs : Nat) : Int) ∧ rk * 10 % absI bv = ((av.natAbs * 10 ^ (k + 1) % bv.natAbs : Nat) : Int)) := hn
        clear hn
        obtain ⟨d1, d2⟩ := digit_small rk (absI bv) z3 z4
        obtain ⟨d3, d4⟩ := rest_small rk (absI bv) (by omega)
        go_wp2_with fail
        go_round
        case rel => exact ⟨k + 1, _, _, rfl, rfl, by go_num, by omega, HN, by omega, by omega, by omega, by omega⟩
        case measure => simp [intOf]; omega
    · obtain rfl : k = 6 := by omega
      have HV : Hid (fitS (vk) = ((r1, r2), r3)) := by
        have h1 := HK.out.1
        have h3 : (10 : Nat) ^ 6 = 1000000 := rfl
        rw [h3] at h1
        have h2 := HR.out
        unfold signed at h2
        rw [h1]
        exact h2
      clear HR HK HS0
      go_wp2_with fail
      refine (rfit_any _ _ HV.out).mono ?_
      rintro e w3 ⟨rfl, hB3⟩
      have hc3 := ((hB1.trans hB2).trans hB3).cells; have hf3 := ((hB1.trans hB2).trans hB3).frees; have hz3 := hB3.size
      go_wp2_with fail
      refine bodyPost_ret (v := .tuple #[.agg #[.bool r1, .int .i64 r2], .int .i64 r3]) (by simp [results, Tryd.results38, go_sem, hc3]) rfl ⟨rfl, ?_⟩
      repeat (first | exact Ext.refl _ | refine Ext.set ?_ (by dsimp only; omega) _ | refine Ext.alloc ?_ _ | refine Ext.drew ?_ | refine (Ext.trans ?_ (by assumption)))

theorem rdiv_any (an bn : Bool) (av bv : Int) (w : World) : Calls Tryd.prog 38 #[.agg #[.bool an, .int .i64 av], .agg #[.bool bn, .int .i64 bv]] w fun e w' => e = .returned (.tuple #[.agg #[.bool (two an bn av bv (divS av bv)).1.1, .int .i64 (two an bn av bv (divS av bv)).1.2], .int .i64 (two an bn av bv (divS av bv)).2]) ∧ Ext w w' := by
  by_cases h : oddB an av = true
  · rw [two, if_pos (by rw [h]; rfl)]; exact rdiv_odd1 an bn av bv w h
  · have h1 : oddB an av = false := by simpa using h
    by_cases h' : oddB bn bv = true
    · rw [two, if_pos (by rw [h', h1]; rfl)]
      obtain ⟨rfl, _, _⟩ := oddB_false h1
      exact rdiv_odd2 bn av bv w h1 h'
    · have h2 : oddB bn bv = false := by simpa using h'
      rw [two, if_neg (by rw [h1, h2]; decide)]
      obtain ⟨rfl, a1, a2⟩ := oddB_false h1
      obtain ⟨rfl, b1, b2⟩ := oddB_false h2
      by_cases h0 : bv = 0
      · rw [divS, if_pos h0]; exact rdiv_zero av bv w h1 h2 h0
      · rw [divS, if_neg h0]
        by_cases sa : av < 0
        · by_cases sb : bv < 0
          · rw [show (decide (av < 0) != decide (bv < 0)) = false by simp [sa, sb]]; exact rdiv_oknn av bv w h1 h2 sa sb h0 rfl
          · rw [show (decide (av < 0) != decide (bv < 0)) = true by simp [sa, sb]]; exact rdiv_oknp av bv w h1 h2 sa (by omega) h0 rfl
        · by_cases sb : bv < 0
          · rw [show (decide (av < 0) != decide (bv < 0)) = true by simp [sa, sb]]; exact rdiv_okpn av bv w h1 h2 (by omega) sb h0 rfl
          · rw [show (decide (av < 0) != decide (bv < 0)) = false by simp [sa, sb]]; exact rdiv_okpp av bv w h1 h2 (by omega) (by omega) h0 rfl
end Go.Proofs.YtcdpjgdaofgpcaaDoor
