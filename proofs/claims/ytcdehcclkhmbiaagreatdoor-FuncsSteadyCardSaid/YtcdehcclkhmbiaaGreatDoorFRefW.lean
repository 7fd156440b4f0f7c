/-
  recensionref24.whole. Helper lemmas; no statement of the seat is proved here.
-/
import Derived.Test.YtcdehcclkhmbiaaGreatDoorFRefP
namespace Go.Proofs.YtcdehcclkhmbiaaGreatDoor
open Go.RowKit
set_option maxRecDepth 100000
set_option linter.unusedVariables false
set_option linter.unusedSimpArgs false

def accS : Nat → List UInt8 → Nat
  | n, [] => n
  | n, c :: r => accS (n * 64 + c.toNat % 64) r
def lowS (k : Nat) : Nat := if k = 2 then 32 else if k = 3 then 16 else 8
def valR (p : List UInt8) : Nat := accS ((p.getD 0 0).toNat % lowS p.length) (p.drop 1)
def wholeR (p : List UInt8) : Bool := decide (encS (valR p) = p)
theorem acc_drop (n j : Nat) (p : List UInt8) (h : j < p.length) : accS n (p.drop j) = accS (n * 64 + p[j].toNat % 64) (p.drop (j + 1)) := by
  rw [List.drop_eq_getElem_cons h]; rfl
theorem bs_get (p : List UInt8) (j : Nat) (h : j < (bs p).size) : (bs p)[j] = p[j]'(by rw [bs_size] at h; exact h) := rfl
theorem eq_bs (a p : List UInt8) : decide (bs a = bs p) = decide (a = p) := by
  rw [decide_eq_decide]; exact ⟨bs_inj, fun h => by rw [h]⟩
theorem u8_bd (c : UInt8) : c.toNat < 256 := c.toNat_lt
def gV (i : Nat) : Nat := if i = 1 then 256 else if i = 2 then 16384 else if i = 3 then 1048576 else 67108864
def intV : Value → Int
  | .int _ n => n
  | _ => 0
set_option maxHeartbeats 4000000 in
theorem whole_2 (p : List UInt8) (hp : p.length = 2) (w : World) : Calls Tryz.prog 18 #[.string (bs p)] w fun e w' => e = .returned (.bool (wholeR p)) ∧ Ext w w' := by
  have hz : (bs p).size = 2 := by rw [bs_size]; exact hp
  have s0 : 0 < (bs p).size := by omega
  have HR : Hid (accS ((p.getD 0 0).toNat % 32) (p.drop 1) = valR p) := Lib.hid (by unfold valR; rw [hp]; rfl)
  obtain ⟨R, hR⟩ : ∃ R, valR p = R := ⟨_, rfl⟩
  rw [hR] at HR
  have HF : Hid (wholeR p = ((bs (encS R)).toList == (bs p).toList)) := Lib.hid (by unfold wholeR; rw [hR, bs_toList, bs_toList, Bool.eq_iff_iff]; simp)
  have t2 : (((bs p).size : Int) == 2) = true := by rw [hz]; rfl
  have t3 : (((bs p).size : Int) == 3) = false := by rw [hz]; rfl
  have t4 : (((bs p).size : Int) == 4) = false := by rw [hz]; rfl
  have s1 : (bs p).size ≤ 4 := by omega
  have s2 : 2 ≤ (bs p).size := by omega
  have c0 : (bs p)[0] = p.getD 0 0 := by
    rw [bs_get, List.getD_eq_getElem?_getD, List.getElem?_eq_getElem (by omega)]; rfl
  have HC := Lib.hid c0
  have cb := u8_bd ((bs p)[0])
  have HZ := Lib.hid hz
  have HP := Lib.hid hp
  clear hR hz c0 hp
  go_enter Tryz.func18, Tryz.ntmps18
  go_wp2_with fail
  go_loop [3, 4] (fun v i => ∃ (x : Int) (n j : Nat), v = .int .i64 x ∧ i = .int .i64 j ∧ 1 ≤ j ∧ j ≤ (bs p).size ∧ 0 ≤ x ∧ x < 67108864 ∧ Hid (x = (n : Int) ∧ n < gV j ∧ accS n (p.drop j) = R)) (fun _ i => 4 - (intV i).toNat)
  case atStart =>
    refine ⟨_, ((p.getD 0 0).toNat % 32), 1, rfl, rfl, by omega, by omega, by omega, by omega, Lib.hid ⟨?_, ?_, HR.out⟩⟩
    · rw [← HC.out]; omega
    · have := u8_bd (p.getD 0 0); unfold gV; simp; omega
  case round =>
    obtain ⟨x, n, j, rfl, rfl, j1, j2, x0, x1, HX⟩ := hrel
    by_cases hlt : j < (bs p).size
    · have bj := u8_bd ((bs p)[j])
      have hI : (j : Int) < ((bs p).size : Int) := by omega
      have hj0 : (0 : Int) ≤ (j : Int) := by omega
      have xb : x < 1048576 := by
        obtain ⟨e1, e2, _⟩ := HX.out
        unfold gV at e2
        have : j < 4 := by omega
        split at e2 <;> (try split at e2) <;> (try split at e2) <;> omega
      have HN : Hid (x * 64 + ((bs p)[j].toNat : Int) % 64 = ((n * 64 + (bs p)[j].toNat % 64 : Nat) : Int) ∧ n * 64 + (bs p)[j].toNat % 64 < gV (j + 1) ∧ accS (n * 64 + (bs p)[j].toNat % 64) (p.drop (j + 1)) = R) := by
        obtain ⟨e1, e2, e3⟩ := HX.out
        refine Lib.hid ⟨by omega, ?_, ?_⟩
        · unfold gV at e2 ⊢
          have : j < 4 := by omega
          have : j = 1 ∨ j = 2 ∨ j = 3 := by omega
          rcases this with rfl | rfl | rfl <;> simp at e2 ⊢ <;> omega
        · rw [← e3, acc_drop n j p (by rw [← bs_size]; exact hlt)]; rfl
      clear HX
      go_wp2_with fail
      go_round
      case rel => exact ⟨_, _, j + 1, rfl, by go_num, by omega, by omega, by omega, by omega, HN⟩
      case measure => simp [intV]; omega
    · have hI : ¬ ((j : Int) < ((bs p).size : Int)) := by omega
      obtain ⟨e1, e2, e3⟩ := HX.out
      have ej : j = p.length := by rw [bs_size] at j2 hlt; omega
      rw [ej, List.drop_of_length_le (Nat.le_refl _)] at e3
      have en : n = R := e3
      have HEX : Hid (x = (R : Int)) := Lib.hid (by rw [e1, en])
      have hRb : R < 67108864 := by omega
      clear e1 e2 e3 en ej HX
      have HEN := Lib.hid (encode_int R x HEX x0 (by omega))
      clear hRb
      go_wp2_with fail
      refine (HEN.out _).mono ?_
      rintro e w1 ⟨v, rfl, hcv, hB1⟩
      go_wp2_with fail
      go_ret
      exact ⟨ret_bool HF.out.symm, hB1⟩
set_option maxHeartbeats 4000000 in
theorem whole_3 (p : List UInt8) (hp : p.length = 3) (w : World) : Calls Tryz.prog 18 #[.string (bs p)] w fun e w' => e = .returned (.bool (wholeR p)) ∧ Ext w w' := by
  have hz : (bs p).size = 3 := by rw [bs_size]; exact hp
  have s0 : 0 < (bs p).size := by omega
  have HR : Hid (accS ((p.getD 0 0).toNat % 16) (p.drop 1) = valR p) := Lib.hid (by unfold valR; rw [hp]; rfl)
  obtain ⟨R, hR⟩ : ∃ R, valR p = R := ⟨_, rfl⟩
  rw [hR] at HR
  have HF : Hid (wholeR p = ((bs (encS R)).toList == (bs p).toList)) := Lib.hid (by unfold wholeR; rw [hR, bs_toList, bs_toList, Bool.eq_iff_iff]; simp)
  have t2 : (((bs p).size : Int) == 2) = false := by rw [hz]; rfl
  have t3 : (((bs p).size : Int) == 3) = true := by rw [hz]; rfl
  have t4 : (((bs p).size : Int) == 4) = false := by rw [hz]; rfl
  have s1 : (bs p).size ≤ 4 := by omega
  have s2 : 2 ≤ (bs p).size := by omega
  have c0 : (bs p)[0] = p.getD 0 0 := by
    rw [bs_get, List.getD_eq_getElem?_getD, List.getElem?_eq_getElem (by omega)]; rfl
  have HC := Lib.hid c0
  have cb := u8_bd ((bs p)[0])
  have HZ := Lib.hid hz
  have HP := Lib.hid hp
  clear hR hz c0 hp
  go_enter Tryz.func18, Tryz.ntmps18
  go_wp2_with fail
  go_loop [3, 4] (fun v i => ∃ (x : Int) (n j : Nat), v = .int .i64 x ∧ i = .int .i64 j ∧ 1 ≤ j ∧ j ≤ (bs p).size ∧ 0 ≤ x ∧ x < 67108864 ∧ Hid (x = (n : Int) ∧ n < gV j ∧ accS n (p.drop j) = R)) (fun _ i => 4 - (intV i).toNat)
  case atStart =>
    refine ⟨_, ((p.getD 0 0).toNat % 16), 1, rfl, rfl, by omega, by omega, by omega, by omega, Lib.hid ⟨?_, ?_, HR.out⟩⟩
    · rw [← HC.out]; omega
    · have := u8_bd (p.getD 0 0); unfold gV; simp; omega
  case round =>
    obtain ⟨x, n, j, rfl, rfl, j1, j2, x0, x1, HX⟩ := hrel
    by_cases hlt : j < (bs p).size
    · have bj := u8_bd ((bs p)[j])
      have hI : (j : Int) < ((bs p).size : Int) := by omega
      have hj0 : (0 : Int) ≤ (j : Int) := by omega
      have xb : x < 1048576 := by
        obtain ⟨e1, e2, _⟩ := HX.out
        unfold gV at e2
        have : j < 4 := by omega
        split at e2 <;> (try split at e2) <;> (try split at e2) <;> omega
      have HN : Hid (x * 64 + ((bs p)[j].toNat : Int) % 64 = ((n * 64 + (bs p)[j].toNat % 64 : Nat) : Int) ∧ n * 64 + (bs p)[j].toNat % 64 < gV (j + 1) ∧ accS (n * 64 + (bs p)[j].toNat % 64) (p.drop (j + 1)) = R) := by
        obtain ⟨e1, e2, e3⟩ := HX.out
        refine Lib.hid ⟨by omega, ?_, ?_⟩
        · unfold gV at e2 ⊢
          have : j < 4 := by omega
          have : j = 1 ∨ j = 2 ∨ j = 3 := by omega
          rcases this with rfl | rfl | rfl <;> simp at e2 ⊢ <;> omega
        · rw [← e3, acc_drop n j p (by rw [← bs_size]; exact hlt)]; rfl
      clear HX
      go_wp2_with fail
      go_round
      case rel => exact ⟨_, _, j + 1, rfl, by go_num, by omega, by omega, by omega, by omega, HN⟩
      case measure => simp [intV]; omega
    · have hI : ¬ ((j : Int) < ((bs p).size : Int)) := by omega
      obtain ⟨e1, e2, e3⟩ := HX.out
      have ej : j = p.length := by rw [bs_size] at j2 hlt; omega
      rw [ej, List.drop_of_length_le (Nat.le_refl _)] at e3
      have en : n = R := e3
      have HEX : Hid (x = (R : Int)) := Lib.hid (by rw [e1, en])
      have hRb : R < 67108864 := by omega
      clear e1 e2 e3 en ej HX
      have HEN := Lib.hid (encode_int R x HEX x0 (by omega))
      clear hRb
      go_wp2_with fail
      refine (HEN.out _).mono ?_
      rintro e w1 ⟨v, rfl, hcv, hB1⟩
      go_wp2_with fail
      go_ret
      exact ⟨ret_bool HF.out.symm, hB1⟩
set_option maxHeartbeats 4000000 in
theorem whole_4 (p : List UInt8) (hp : p.length = 4) (w : World) : Calls Tryz.prog 18 #[.string (bs p)] w fun e w' => e = .returned (.bool (wholeR p)) ∧ Ext w w' := by
  have hz : (bs p).size = 4 := by rw [bs_size]; exact hp
  have s0 : 0 < (bs p).size := by omega
  have HR : Hid (accS ((p.getD 0 0).toNat % 8) (p.drop 1) = valR p) := Lib.hid (by unfold valR; rw [hp]; rfl)
  obtain ⟨R, hR⟩ : ∃ R, valR p = R := ⟨_, rfl⟩
  rw [hR] at HR
  have HF : Hid (wholeR p = ((bs (encS R)).toList == (bs p).toList)) := Lib.hid (by unfold wholeR; rw [hR, bs_toList, bs_toList, Bool.eq_iff_iff]; simp)
  have t2 : (((bs p).size : Int) == 2) = false := by rw [hz]; rfl
  have t3 : (((bs p).size : Int) == 3) = false := by rw [hz]; rfl
  have t4 : (((bs p).size : Int) == 4) = true := by rw [hz]; rfl
  have s1 : (bs p).size ≤ 4 := by omega
  have s2 : 2 ≤ (bs p).size := by omega
  have c0 : (bs p)[0] = p.getD 0 0 := by
    rw [bs_get, List.getD_eq_getElem?_getD, List.getElem?_eq_getElem (by omega)]; rfl
  have HC := Lib.hid c0
  have cb := u8_bd ((bs p)[0])
  have HZ := Lib.hid hz
  have HP := Lib.hid hp
  clear hR hz c0 hp
  go_enter Tryz.func18, Tryz.ntmps18
  go_wp2_with fail
  go_loop [3, 4] (fun v i => ∃ (x : Int) (n j : Nat), v = .int .i64 x ∧ i = .int .i64 j ∧ 1 ≤ j ∧ j ≤ (bs p).size ∧ 0 ≤ x ∧ x < 67108864 ∧ Hid (x = (n : Int) ∧ n < gV j ∧ accS n (p.drop j) = R)) (fun _ i => 4 - (intV i).toNat)
  case atStart =>
    refine ⟨_, ((p.getD 0 0).toNat % 8), 1, rfl, rfl, by omega, by omega, by omega, by omega, Lib.hid ⟨?_, ?_, HR.out⟩⟩
    · rw [← HC.out]; omega
    · have := u8_bd (p.getD 0 0); unfold gV; simp; omega
  case round =>
    obtain ⟨x, n, j, rfl, rfl, j1, j2, x0, x1, HX⟩ := hrel
    by_cases hlt : j < (bs p).size
    · have bj := u8_bd ((bs p)[j])
      have hI : (j : Int) < ((bs p).size : Int) := by omega
      have hj0 : (0 : Int) ≤ (j : Int) := by omega
      have xb : x < 1048576 := by
        obtain ⟨e1, e2, _⟩ := HX.out
        unfold gV at e2
        have : j < 4 := by omega
        split at e2 <;> (try split at e2) <;> (try split at e2) <;> omega
      have HN : Hid (x * 64 + ((bs p)[j].toNat : Int) % 64 = ((n * 64 + (bs p)[j].toNat % 64 : Nat) : Int) ∧ n * 64 + (bs p)[j].toNat % 64 < gV (j + 1) ∧ accS (n * 64 + (bs p)[j].toNat % 64) (p.drop (j + 1)) = R) := by
        obtain ⟨e1, e2, e3⟩ := HX.out
        refine Lib.hid ⟨by omega, ?_, ?_⟩
        · unfold gV at e2 ⊢
          have : j < 4 := by omega
          have : j = 1 ∨ j = 2 ∨ j = 3 := by omega
          rcases this with rfl | rfl | rfl <;> simp at e2 ⊢ <;> omega
        · rw [← e3, acc_drop n j p (by rw [← bs_size]; exact hlt)]; rfl
      clear HX
      go_wp2_with fail
      go_round
      case rel => exact ⟨_, _, j + 1, rfl, by go_num, by omega, by omega, by omega, by omega, HN⟩
      case measure => simp [intV]; omega
    · have hI : ¬ ((j : Int) < ((bs p).size : Int)) := by omega
      obtain ⟨e1, e2, e3⟩ := HX.out
      have ej : j = p.length := by rw [bs_size] at j2 hlt; omega
      rw [ej, List.drop_of_length_le (Nat.le_refl _)] at e3
      have en : n = R := e3
      have HEX : Hid (x = (R : Int)) := Lib.hid (by rw [e1, en])
      have hRb : R < 67108864 := by omega
      clear e1 e2 e3 en ej HX
      have HEN := Lib.hid (encode_int R x HEX x0 (by omega))
      clear hRb
      go_wp2_with fail
      refine (HEN.out _).mono ?_
      rintro e w1 ⟨v, rfl, hcv, hB1⟩
      go_wp2_with fail
      go_ret
      exact ⟨ret_bool HF.out.symm, hB1⟩
end Go.Proofs.YtcdehcclkhmbiaaGreatDoor
