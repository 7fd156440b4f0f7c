/-
  Plain arithmetic of the decimal numbers. No program in sight. Helper lemmas; no statement of the seat is proved here.
-/
namespace Go.Proofs.YtcdpjgdaofgpcaaDoor
namespace KDeci

/-- the parts of the reference's product. -/
theorem mul_parts (x y : Nat) : x * y / 1000000 = x / 1000000 * y + x % 1000000 * (y / 1000000) + x % 1000000 * (y % 1000000) / 1000000 := by
  have h1 : x = 1000000 * (x / 1000000) + x % 1000000 := by omega
  have h2 : y = 1000000 * (y / 1000000) + y % 1000000 := by omega
  generalize x / 1000000 = a at *
  generalize x % 1000000 = r at *
  generalize hq : y / 1000000 = c at *
  generalize hs : y % 1000000 = s at *
  subst h1
  have : (1000000 * a + r) * y = 1000000 * (a * y + r * c) + r * s := by
    rw [h2, Nat.add_mul, Nat.mul_add, Nat.mul_add, Nat.mul_add, Nat.mul_add]
    have e1 : 1000000 * a * (1000000 * c) = 1000000 * (a * (1000000 * c)) := by rw [Nat.mul_assoc]
    have e2 : 1000000 * a * s = 1000000 * (a * s) := by rw [Nat.mul_assoc]
    have e3 : r * (1000000 * c) = 1000000 * (r * c) := by rw [Nat.mul_left_comm]
    rw [e1, e2, e3]
    omega
  rw [this, Nat.mul_add_div (by decide)]
theorem mul_over (x y : Nat) (h : 0 < x / 1000000) (h2 : 1000000000000000 / (x / 1000000) < y) : 1000000000000000 < x * y / 1000000 := by
  rw [mul_parts]
  have : 1000000000000000 < x / 1000000 * y := by
    have := (Nat.div_lt_iff_lt_mul h).1 h2
    rw [Nat.mul_comm]; exact this
  omega
theorem mul_high (x y : Nat) (h : 1000000 ≤ x * y / 18446744073709551616) : 1000000000000000 < x * y / 1000000 := by omega

/-- the reference's division, digit by digit. -/
theorem div_step (x y k : Nat) (hy : 0 < y) (v r : Nat) (hv : v = x * k / y) (hr : r = x * k % y) :
    v * 10 + r * 10 / y = x * (k * 10) / y ∧ r * 10 % y = x * (k * 10) % y := by
  subst hv hr
  have e : x * (k * 10) = x * k * 10 := by rw [Nat.mul_assoc]
  rw [e]
  generalize x * k = n
  have h := Nat.div_add_mod n y
  have e2 : n * 10 = y * (n / y * 10) + n % y * 10 := by
    have : n * 10 = (y * (n / y) + n % y) * 10 := by rw [h]
    rw [this, Nat.add_mul, Nat.mul_assoc]
  rw [e2]
  constructor
  · rw [Nat.mul_add_div hy]
  · rw [Nat.mul_add_mod]
theorem div_mono (x y k j : Nat) (h : k ≤ j) : x * k / y ≤ x * j / y := Nat.div_le_div_right (Nat.mul_le_mul_left _ h)
end KDeci
end Go.Proofs.YtcdpjgdaofgpcaaDoor
