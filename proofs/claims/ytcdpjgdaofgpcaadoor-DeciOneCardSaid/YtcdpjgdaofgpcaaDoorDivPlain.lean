/-
  The plain arithmetic of math/bits.Div64: two digits of base 2^32, each guessed from above and lowered. No program in sight. Helper lemmas; no statement of the seat is proved here.
-/
namespace Go.Proofs.YtcdpjgdaofgpcaaDoor
namespace KDiv

/-- what is divided, and by what: a digit's step -/
structure Step (Y y1 y0 u n Q R : Int) : Prop where
  hY : Y = y1 * 4294967296 + y0
  a0 : 0 ≤ y0
  a1 : y0 ≤ 4294967295
  b0 : 2147483648 ≤ y1
  b1 : y1 ≤ 4294967295
  n0 : 0 ≤ n
  n1 : n ≤ 4294967295
  u0 : 0 ≤ u
  u1 : u < Y
  hQ : u * 4294967296 + n = Q * Y + R
  r0 : 0 ≤ R
  r1 : R < Y
  q0 : 0 ≤ Q
  q1 : Q ≤ 4294967295

theorem step_of (Y y1 y0 u n : Int) (hY : Y = y1 * 4294967296 + y0) (a0 : 0 ≤ y0) (a1 : y0 ≤ 4294967295) (b0 : 2147483648 ≤ y1) (b1 : y1 ≤ 4294967295)
    (n0 : 0 ≤ n) (n1 : n ≤ 4294967295) (u0 : 0 ≤ u) (u1 : u < Y) : Step Y y1 y0 u n ((u * 4294967296 + n) / Y) ((u * 4294967296 + n) % Y) := by
  have hp : 0 < Y := by omega
  have e := Int.mul_ediv_add_emod (u * 4294967296 + n) Y
  rw [Int.mul_comm] at e
  refine ⟨hY, a0, a1, b0, b1, n0, n1, u0, u1, e.symm, Int.emod_nonneg _ (by omega), Int.emod_lt_of_pos _ hp, Int.ediv_nonneg (by omega) (by omega), ?_⟩
  have : (u * 4294967296 + n) / Y < 4294967296 := by
    rw [Int.ediv_lt_iff_lt_mul hp]
    omega
  omega

theorem times (q y1 y0 : Int) : q * (y1 * 4294967296 + y0) = q * y1 * 4294967296 + q * y0 := by
  rw [Int.mul_add, Int.mul_assoc]

variable {Y y1 y0 u n Q R : Int}

theorem Step.prod (h : Step Y y1 y0 u n Q R) (q : Int) : q * Y = q * y1 * 4294967296 + q * y0 := by rw [h.hY, times]
/-- q is at most the digit where its product fits, at least where it does not -/
theorem Step.le_of (h : Step Y y1 y0 u n Q R) (q : Int) (hq : q * Y ≤ u * 4294967296 + n) : q ≤ Q := by
  have h1 := h.hQ; have h2 := h.r1; have h3 := h.u0; have h4 := h.u1
  have : q * Y < (Q + 1) * Y := by rw [Int.add_mul, Int.one_mul]; omega
  have := Int.lt_of_mul_lt_mul_right this (by omega)
  omega
theorem Step.ge_of (h : Step Y y1 y0 u n Q R) (q : Int) (hq : u * 4294967296 + n < q * Y) : Q ≤ q - 1 := by
  have h1 := h.hQ; have h2 := h.r0; have h3 := h.u0; have h4 := h.u1
  have : Q * Y < q * Y := by omega
  have := Int.lt_of_mul_lt_mul_right this (by omega)
  omega
/-- the first guess -/
theorem Step.first (h : Step Y y1 y0 u n Q R) : Q ≤ u / y1 ∧ u / y1 ≤ 4294967297 ∧ 0 ≤ u / y1 ∧ u / y1 * y1 + (u - u / y1 * y1) = u ∧ 0 ≤ u - u / y1 * y1 ∧ u - u / y1 * y1 < y1 ∧ 0 ≤ u / y1 * y1 := by
  have h1 := h.hY; have h2 := h.a0; have h3 := h.a1; have h4 := h.b0; have h5 := h.n1; have h6 := h.n0; have h7 := h.u0; have h8 := h.u1; have h9 := h.hQ; have h10 := h.r0; have h11 := h.q0
  have hp : 0 < y1 := by omega
  have e := Int.mul_ediv_add_emod u y1
  rw [Int.mul_comm] at e
  have e1 := Int.emod_nonneg u (b := y1) (by omega)
  have e2 := Int.emod_lt_of_pos u hp
  refine ⟨?_, ?_, Int.ediv_nonneg h7 (by omega), by omega, by omega, by omega, Int.mul_nonneg (Int.ediv_nonneg h7 (by omega)) (by omega)⟩
  · rw [Int.le_ediv_iff_mul_le hp]
    have hm := h.prod Q
    have : 0 ≤ Q * y0 := Int.mul_nonneg h11 h2
    omega
  · have : u / y1 < 4294967298 := by
      rw [Int.ediv_lt_iff_lt_mul hp]
      omega
    omega
/-- products that the loop's test makes do not pass 2^64 -/
theorem Step.small (h : Step Y y1 y0 u n Q R) (q : Int) (q0 : 0 ≤ q) (q1 : q ≤ 4294967297) : 0 ≤ q * y0 ∧ q * y0 ≤ 18446744073709551615 := by
  have h2 := h.a0; have h3 := h.a1
  have a := Int.mul_nonneg q0 h2
  have b : q * y0 ≤ 4294967297 * 4294967295 := Int.mul_le_mul q1 h3 h2 (by decide)
  omega
theorem Step.down (h : Step Y y1 y0 u n Q R) (q r : Int) (hqr : q * y1 + r = u) (hc : 4294967296 ≤ q ∨ 4294967296 * r + n < q * y0) : Q ≤ q - 1 := by
  rcases hc with hc | hc
  · have := h.q1; omega
  · refine h.ge_of q ?_
    rw [h.prod q]
    omega
theorem Step.done (h : Step Y y1 y0 u n Q R) (q r : Int) (hqr : q * y1 + r = u) (hQ : Q ≤ q) (hc : ¬ 4294967296 * r + n < q * y0) : q = Q := by
  have := h.le_of q (by rw [h.prod q]; omega)
  omega
theorem next (y1 u q r : Int) (hqr : q * y1 + r = u) : (q - 1) * y1 + (r + y1) = u := by
  rw [Int.sub_mul, Int.one_mul]; omega
theorem Step.past (h : Step Y y1 y0 u n Q R) (q r : Int) (hqr : q * y1 + r = u) (hQ : Q ≤ q) (q1 : q ≤ 4294967296) (hr : 4294967296 ≤ r) : q = Q := by
  have h2 := h.a0; have h3 := h.a1; have h6 := h.n0; have h7 := h.q0
  have hb : q * y0 ≤ 4294967296 * 4294967295 := Int.mul_le_mul q1 h3 h2 (by decide)
  have := h.le_of q (by rw [h.prod q]; omega)
  omega
/-- the whole division, of the two digits -/
theorem whole (hi lo y t u n n1 n0 Y Q1 R1 Q0 R0 : Int) (ht : 0 < t) (hY : Y = y * t) (hu : u * 18446744073709551616 + n = (hi * 18446744073709551616 + lo) * t)
    (hn : n = n1 * 4294967296 + n0) (h1 : u * 4294967296 + n1 = Q1 * Y + R1) (h0 : R1 * 4294967296 + n0 = Q0 * Y + R0) (r0 : 0 ≤ R0) (r1 : R0 < Y) :
    Q1 * 4294967296 + Q0 = (hi * 18446744073709551616 + lo) / y := by
  have e : (hi * 18446744073709551616 + lo) * t = (Q1 * 4294967296 + Q0) * Y + R0 := by
    rw [Int.add_mul (Q1 * 4294967296)]
    have e1 : Q1 * 4294967296 * Y = Q1 * Y * 4294967296 := by rw [Int.mul_assoc, Int.mul_comm 4294967296 Y, ← Int.mul_assoc]
    omega
  have hYp : 0 < Y := by omega
  have e2 : (hi * 18446744073709551616 + lo) / y = (hi * 18446744073709551616 + lo) * t / Y := by
    rw [hY, Int.mul_ediv_mul_of_pos_left _ _ ht]
  rw [e2, e, Int.add_comm _ R0, Int.add_mul_ediv_right _ _ (by omega), Int.ediv_eq_zero_of_lt r0 r1, Int.zero_add]
end KDiv
end Go.Proofs.YtcdpjgdaofgpcaaDoor
