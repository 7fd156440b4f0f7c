/-
  The reader's numbers. Helper lemmas; no statement of the seat is proved here.
-/
import Derived.Test.YtghhachbnhldoaaDoorC6
namespace Go.Proofs.YtghhachbnhldoaaDoor
open Go.RowKit
set_option maxRecDepth 100000
set_option linter.unusedVariables false
set_option linter.unusedSimpArgs false

theorem or_addw (k a c : Nat) (ha : a < 2 ^ k) (h : a + c * 2 ^ k < 18446744073709551616) : bits .or .u64 (a : Int) (IntKind.u64.wrap ((c : Int) * 2 ^ k)) = ((a + c * 2 ^ k : Nat) : Int) := by
  have e : IntKind.u64.wrap ((c : Int) * 2 ^ k) = ((c * 2 ^ k : Nat) : Int) := by
    rw [u64_wrap, show (c : Int) * 2 ^ k = ((c * 2 ^ k : Nat) : Int) by push_cast; rfl]; omega
  rw [e, or_add k a c ha h]
set_option maxHeartbeats 8000000 in
theorem begin_any (n : Nat) (hn : n < 9223372036854775808) (rest : Bytes) (p : Nat → Prop) (v : Value) (w : World) (h : Rep w p v (numsD .u8 (byI (numB n ++ rest)))) :
    Calls Tryd.prog 72 #[v] w fun e w' => e = .returned (.tuple #[.int .u64 n, .int .i64 (numB n).length]) ∧ Ext w w' := by
  have hpos := numB_pos n
  obtain ⟨inp, hinp⟩ : ∃ x, numB n ++ rest = x := ⟨_, rfl⟩
  rw [hinp] at h
  have HI := Lib.hid hinp
  obtain ⟨a, c, rfl, hc1, hc2⟩ := by_count h
  obtain ⟨b, off, rfl, hb0, hc0⟩ := by_at h 0 (by rw [← hinp, List.length_append]; omega)
  clear hc0
  have HR := Lib.hid h
  have hil : inp.length ≤ 9223372036854775807 := by omega
  have hm10 : max (10 : Int) 0 = 10 := by decide
  clear h hpos
  go_enter Tryd.func72, Tryd.ntmps72
  by_cases h10 : 10 < inp.length
  · have hI : (10 : Int) < (inp.length : Int) := by omega
    go_wp2_with fail
    go_loopw [4, 5, 6, 13] (fun vv _ _ t wr => ∃ (i k m x : Nat), t = .int .i64 i ∧ vv = .int .u64 x ∧ i ≤ 9 ∧ Ext w wr ∧ Hid (i + k = 9 ∧ inp.drop i = numF k m ++ rest ∧ n = m * 128 ^ i + x ∧ x < 128 ^ i ∧ (i = 0 ∨ 1 ≤ m) ∧ i + (numF k m).length = (numB n).length)) (fun _ _ _ t _ => downV 10 t)
    case atStart => exact ⟨0, 9, n, 0, rfl, rfl, by omega, Ext.refl _, Lib.hid ⟨rfl, by rw [List.drop_zero, ← HI.out]; rfl, by simp, by simp, .inl rfl, by rw [Nat.zero_add]; rfl⟩⟩
    case round =>
      obtain ⟨i, k, m, x, rfl, rfl, hi, hX, HH⟩ := hrel
      obtain ⟨q1, q2, q3, q4, q5, q6⟩ := HH.out
      have hi8 : i < 9 := by
        rcases Nat.lt_or_ge i 9 with h | h
        · exact h
        · exfalso
          have : i = 9 := by omega
          subst this
          rcases q5 with h | h
          · omega
          · have := Nat.mul_le_mul_right (128 ^ 9) h; omega
      have hil : i < inp.length := by
        have h := congrArg List.length q2
        rw [List.length_drop, List.length_append] at h
        have := numF_pos k m
        omega
      obtain ⟨b', o', e', hbl, hcell⟩ := by_at HR.out i hil
      injection e' with e'
      injection e' with e1 e2
      subst e1 e2
      have hcell := hX.keep hbl hcell
      have hx0 : (0 : Int) ≤ (x : Int) := by omega
      have hiI : (i : Int) < 9 := by omega
      have hi0 : (0 : Int) ≤ (i : Int) := by omega
      have hM : (i : Int) < 10 := by omega
      have h9 : ((i : Int) == 9) = false := by rw [beq_eq_false_iff_ne]; omega
      have hhead : inp[i]? = (numF k m ++ rest)[0]? := by rw [← q2, List.getElem?_drop, Nat.add_zero]
      rw [List.getElem?_eq_getElem hil] at hhead
      by_cases hm : m < 128
      · have hc : (inp[i].toNat : Int) = (m : Int) := by
          rw [numF_lt _ _ hm, List.cons_append, List.getElem?_cons_zero] at hhead
          rw [Option.some.inj hhead]; exact byte_of m (by omega)
        rw [hc] at hcell
        have hA : bits .andNot .u8 (m : Int) 128 = (m : Int) := by rw [and128 m (by omega), Nat.mod_eq_of_lt hm]
        have hmI : (m : Int) < 128 := by omega
        have hm0 : (0 : Int) ≤ (m : Int) := by omega
        have hO : bits .or .u64 (x : Int) (IntKind.u64.wrap ((m : Int) * 2 ^ (7 * i))) = (n : Int) := by
          have e := or_addw (7 * i) x m (by rw [Nat.pow_mul]; exact q4) (by rw [Nat.pow_mul]; show x + m * 128 ^ i < _; omega)
          rw [e, Nat.pow_mul]; show ((x + m * 128 ^ i : Nat) : Int) = _; omega
        have HF := Lib.hid (show i + 1 = (numB n).length by rw [numF_lt _ _ hm] at q6; simpa using q6)
        have HO := Lib.hid hO
        clear hc hhead q1 q2 q3 q4 q5 q6 HH hO
        go_wp2_with fail
        go_ret2
        refine ⟨?_, hX⟩
        rw [HO.out, ← HF.out]; rfl
      · have hk : k ≠ 0 := by omega
        obtain ⟨k', rfl⟩ : ∃ k', k = k' + 1 := ⟨k - 1, by omega⟩
        have hc : (inp[i].toNat : Int) = ((m % 128 + 128 : Nat) : Int) := by
          rw [numF, if_neg hm, List.cons_append, List.getElem?_cons_zero] at hhead
          rw [Option.some.inj hhead]; exact byte_of _ (by omega)
        rw [hc] at hcell
        have hlt : m % 128 < 128 := Nat.mod_lt _ (by omega)
        have hA : bits .andNot .u8 ((m % 128 + 128 : Nat) : Int) 128 = ((m % 128 : Nat) : Int) := by rw [and128 _ (by omega)]; congr 1; omega
        have hbd : x + m % 128 * 128 ^ i < 18446744073709551616 := by
          have h1 : m % 128 * 128 ^ i ≤ m * 128 ^ i := Nat.mul_le_mul_right _ (Nat.mod_le _ _)
          omega
        have hO := or_addw (7 * i) x (m % 128) (by rw [Nat.pow_mul]; exact q4) (by rw [Nat.pow_mul]; exact hbd)
        rw [Nat.pow_mul] at hO
        have HF : Hid (i + 1 + k' = 9 ∧ inp.drop (i + 1) = numF k' (m / 128) ++ rest ∧ n = m / 128 * 128 ^ (i + 1) + (x + m % 128 * 128 ^ i) ∧ x + m % 128 * 128 ^ i < 128 ^ (i + 1) ∧ (i + 1 = 0 ∨ 1 ≤ m / 128) ∧ i + 1 + (numF k' (m / 128)).length = (numB n).length) := Lib.hid (by
          rw [numF, if_neg hm] at q2 q6
          refine ⟨by omega, ?_, ?_, ?_, .inr (by omega), by rw [← q6, List.length_cons]; omega⟩
          · rw [← List.drop_drop, q2]; rfl
          · have h1 := Nat.div_add_mod m 128
            have h2 : m * 128 ^ i = (128 * (m / 128) + m % 128) * 128 ^ i := by rw [h1]
            rw [Nat.add_mul, Nat.mul_comm 128 (m / 128), Nat.mul_assoc] at h2
            rw [Nat.pow_succ, Nat.mul_comm (128 ^ i) 128]
            omega
          · have h1 : m % 128 * 128 ^ i ≤ 127 * 128 ^ i := Nat.mul_le_mul_right _ (by omega)
            rw [Nat.pow_succ]; omega)
        obtain ⟨c, hcc⟩ : ∃ c, m % 128 = c := ⟨_, rfl⟩
        rw [hcc] at hcell hA hO HF hlt
        have hc0 : (128 : Int) ≤ ((c + 128 : Nat) : Int) := by omega
        have hc1 : ¬ ((c + 128 : Nat) : Int) < 128 := by omega
        obtain ⟨cc, hcd⟩ : ∃ x, c + 128 = x := ⟨_, rfl⟩
        rw [hcd] at hcell hA hc0 hc1
        have HO := Lib.hid hO
        clear hc hhead q1 q2 q3 q4 q5 q6 HH hO hbd hm hcc hcd
        go_wp2_with fail
        go_roundw
        case rel => exact ⟨i + 1, k', m / 128, _, by go_num, congrArg (Value.int .u64) HO.out, by omega, hX, HF⟩
        case measure => simp only [downV]; omega
  · have hI : (inp.length : Int) ≤ 10 := by omega
    go_wp2_with fail
    go_loopw [4, 5, 6, 13] (fun vv _ _ t wr => ∃ (i k m x : Nat), t = .int .i64 i ∧ vv = .int .u64 x ∧ i ≤ 9 ∧ Ext w wr ∧ Hid (i + k = 9 ∧ inp.drop i = numF k m ++ rest ∧ n = m * 128 ^ i + x ∧ x < 128 ^ i ∧ (i = 0 ∨ 1 ≤ m) ∧ i + (numF k m).length = (numB n).length)) (fun _ _ _ t _ => downV 10 t)
    case atStart => exact ⟨0, 9, n, 0, rfl, rfl, by omega, Ext.refl _, Lib.hid ⟨rfl, by rw [List.drop_zero, ← HI.out]; rfl, by simp, by simp, .inl rfl, by rw [Nat.zero_add]; rfl⟩⟩
    case round =>
      obtain ⟨i, k, m, x, rfl, rfl, hi, hX, HH⟩ := hrel
      obtain ⟨q1, q2, q3, q4, q5, q6⟩ := HH.out
      have hi8 : i < 9 := by
        rcases Nat.lt_or_ge i 9 with h | h
        · exact h
        · exfalso
          have : i = 9 := by omega
          subst this
          rcases q5 with h | h
          · omega
          · have := Nat.mul_le_mul_right (128 ^ 9) h; omega
      have hil : i < inp.length := by
        have h := congrArg List.length q2
        rw [List.length_drop, List.length_append] at h
        have := numF_pos k m
        omega
      obtain ⟨b', o', e', hbl, hcell⟩ := by_at HR.out i hil
      injection e' with e'
      injection e' with e1 e2
      subst e1 e2
      have hcell := hX.keep hbl hcell
      have hx0 : (0 : Int) ≤ (x : Int) := by omega
      have hiI : (i : Int) < 9 := by omega
      have hi0 : (0 : Int) ≤ (i : Int) := by omega
      have hM : (i : Int) < (inp.length : Int) := by omega
      have h9 : ((i : Int) == 9) = false := by rw [beq_eq_false_iff_ne]; omega
      have hhead : inp[i]? = (numF k m ++ rest)[0]? := by rw [← q2, List.getElem?_drop, Nat.add_zero]
      rw [List.getElem?_eq_getElem hil] at hhead
      by_cases hm : m < 128
      · have hc : (inp[i].toNat : Int) = (m : Int) := by
          rw [numF_lt _ _ hm, List.cons_append, List.getElem?_cons_zero] at hhead
          rw [Option.some.inj hhead]; exact byte_of m (by omega)
        rw [hc] at hcell
        have hA : bits .andNot .u8 (m : Int) 128 = (m : Int) := by rw [and128 m (by omega), Nat.mod_eq_of_lt hm]
        have hmI : (m : Int) < 128 := by omega
        have hm0 : (0 : Int) ≤ (m : Int) := by omega
        have hO : bits .or .u64 (x : Int) (IntKind.u64.wrap ((m : Int) * 2 ^ (7 * i))) = (n : Int) := by
          have e := or_addw (7 * i) x m (by rw [Nat.pow_mul]; exact q4) (by rw [Nat.pow_mul]; show x + m * 128 ^ i < _; omega)
          rw [e, Nat.pow_mul]; show ((x + m * 128 ^ i : Nat) : Int) = _; omega
        have HF := Lib.hid (show i + 1 = (numB n).length by rw [numF_lt _ _ hm] at q6; simpa using q6)
        have HO := Lib.hid hO
        clear hc hhead q1 q2 q3 q4 q5 q6 HH hO
        go_wp2_with fail
        go_ret2
        refine ⟨?_, hX⟩
        rw [HO.out, ← HF.out]; rfl
      · have hk : k ≠ 0 := by omega
        obtain ⟨k', rfl⟩ : ∃ k', k = k' + 1 := ⟨k - 1, by omega⟩
        have hc : (inp[i].toNat : Int) = ((m % 128 + 128 : Nat) : Int) := by
          rw [numF, if_neg hm, List.cons_append, List.getElem?_cons_zero] at hhead
          rw [Option.some.inj hhead]; exact byte_of _ (by omega)
        rw [hc] at hcell
        have hlt : m % 128 < 128 := Nat.mod_lt _ (by omega)
        have hA : bits .andNot .u8 ((m % 128 + 128 : Nat) : Int) 128 = ((m % 128 : Nat) : Int) := by rw [and128 _ (by omega)]; congr 1; omega
        have hbd : x + m % 128 * 128 ^ i < 18446744073709551616 := by
          have h1 : m % 128 * 128 ^ i ≤ m * 128 ^ i := Nat.mul_le_mul_right _ (Nat.mod_le _ _)
          omega
        have hO := or_addw (7 * i) x (m % 128) (by rw [Nat.pow_mul]; exact q4) (by rw [Nat.pow_mul]; exact hbd)
        rw [Nat.pow_mul] at hO
        have HF : Hid (i + 1 + k' = 9 ∧ inp.drop (i + 1) = numF k' (m / 128) ++ rest ∧ n = m / 128 * 128 ^ (i + 1) + (x + m % 128 * 128 ^ i) ∧ x + m % 128 * 128 ^ i < 128 ^ (i + 1) ∧ (i + 1 = 0 ∨ 1 ≤ m / 128) ∧ i + 1 + (numF k' (m / 128)).length = (numB n).length) := Lib.hid (by
          rw [numF, if_neg hm] at q2 q6
          refine ⟨by omega, ?_, ?_, ?_, .inr (by omega), by rw [← q6, List.length_cons]; omega⟩
          · rw [← List.drop_drop, q2]; rfl
          · have h1 := Nat.div_add_mod m 128
            have h2 : m * 128 ^ i = (128 * (m / 128) + m % 128) * 128 ^ i := by rw [h1]
            rw [Nat.add_mul, Nat.mul_comm 128 (m / 128), Nat.mul_assoc] at h2
            rw [Nat.pow_succ, Nat.mul_comm (128 ^ i) 128]
            omega
          · have h1 : m % 128 * 128 ^ i ≤ 127 * 128 ^ i := Nat.mul_le_mul_right _ (by omega)
            rw [Nat.pow_succ]; omega)
        obtain ⟨c, hcc⟩ : ∃ c, m % 128 = c := ⟨_, rfl⟩
        rw [hcc] at hcell hA hO HF hlt
        have hc0 : (128 : Int) ≤ ((c + 128 : Nat) : Int) := by omega
        have hc1 : ¬ ((c + 128 : Nat) : Int) < 128 := by omega
        obtain ⟨cc, hcd⟩ : ∃ x, c + 128 = x := ⟨_, rfl⟩
        rw [hcd] at hcell hA hc0 hc1
        have HO := Lib.hid hO
        clear hc hhead q1 q2 q3 q4 q5 q6 HH hO hbd hm hcc hcd
        go_wp2_with fail
        go_roundw
        case rel => exact ⟨i + 1, k', m / 128, _, by go_num, congrArg (Value.int .u64) HO.out, by omega, hX, HF⟩
        case measure => simp only [downV]; omega

end Go.Proofs.YtghhachbnhldoaaDoor
