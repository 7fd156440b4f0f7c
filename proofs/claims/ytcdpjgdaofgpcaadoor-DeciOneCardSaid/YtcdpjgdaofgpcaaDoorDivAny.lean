/-
  math/bits.Div64 over natural numbers: the quotient of hi * 2^64 + lo by y. Helper lemmas; no statement of the seat is proved here.
-/
import Derived.Test.YtcdpjgdaofgpcaaDoorDiv64
namespace Go.Proofs.YtcdpjgdaofgpcaaDoor
open Go.RowKit
theorem shift_parts (lo s : Nat) (hs : s ≤ 63) (hl : lo < 18446744073709551616) : lo * 2 ^ s = lo / 2 ^ (64 - s) * 18446744073709551616 + lo * 2 ^ s % 18446744073709551616 ∧ lo / 2 ^ (64 - s) < 2 ^ s := by
  have e : (18446744073709551616 : Nat) = 2 ^ (64 - s) * 2 ^ s := by rw [← Nat.pow_add, show 64 - s + s = 64 by omega]
  have hp : 0 < 2 ^ s := Nat.two_pow_pos _
  constructor
  · have h := Nat.div_add_mod (lo * 2 ^ s) 18446744073709551616
    have e2 : lo * 2 ^ s / 18446744073709551616 = lo / 2 ^ (64 - s) := by rw [e, Nat.mul_div_mul_right _ _ hp]
    rw [e2] at h
    omega
  · rw [Nat.div_lt_iff_lt_mul (Nat.two_pow_pos _), Nat.mul_comm, ← e]
    exact hl
theorem div_high (hi lo y : Nat) (w : World) (h1 : 0 < hi) (h2 : hi < y) (h3 : y < 18446744073709551616) (l1 : lo < 18446744073709551616) :
    Calls Tryd.prog 92 #[.int .u64 hi, .int .u64 lo, .int .u64 y] w fun e w' => ∃ r : Int, e = .returned (.tuple #[.int .u64 (((hi * 18446744073709551616 + lo) / y : Nat) : Int), .int .u64 r]) ∧ Ext w w' := by
  obtain ⟨k1, k2, k3, k4⟩ := norm y (by omega) h3
  have HC : Hid (∀ w, Calls Tryd.prog 134 #[.int .u64 (y : Int)] w fun e w' => e = .returned (.int .i64 ((64 - Lib.bitLen y : Nat) : Int)) ∧ w = w') := by
    refine Lib.hid fun w => ?_
    refine (Tryd.bits_LeadingZeros64 (y : Int) w (by omega) (by omega)).mono fun e w' ⟨he, hw⟩ => ⟨?_, hw.symm⟩
    rw [he, Int.toNat_natCast, Int.natCast_sub k1]
    rfl
  obtain ⟨s, hs⟩ : ∃ s, 64 - Lib.bitLen y = s := ⟨_, rfl⟩
  rw [hs] at HC k3 k4
  have hs63 : s ≤ 63 := by omega
  obtain ⟨p1, p2⟩ := shift_parts lo s hs63 l1
  have hp : 0 < 2 ^ s := Nat.two_pow_pos _
  have hH : hi * 2 ^ s < y * 2 ^ s := Nat.mul_lt_mul_of_pos_right h2 hp
  have hN : (hi * 18446744073709551616 + lo) * 2 ^ s = (hi * 2 ^ s + lo / 2 ^ (64 - s)) * 18446744073709551616 + lo * 2 ^ s % 18446744073709551616 := by
    rw [Nat.add_mul, Nat.add_mul, Nat.mul_right_comm]; omega
  have hN2 : (hi * 18446744073709551616 + lo) * 2 ^ s < y * 18446744073709551616 * 2 ^ s := Nat.mul_lt_mul_of_pos_right (by omega) hp
  rw [Nat.mul_right_comm y] at hN2
  have ht : 2 ^ s ≤ 9223372036854775808 := by
    have := Nat.pow_le_pow_right (show 0 < 2 by decide) hs63
    exact this
  generalize eY : y * 2 ^ s = Y at *
  generalize eL : lo / 2 ^ (64 - s) = L at *
  generalize en : lo * 2 ^ s % 18446744073709551616 = n at *
  have hn : n < 18446744073709551616 := by rw [← en]; exact Nat.mod_lt _ (by decide)
  have hu : hi * 2 ^ s + L < Y := by omega
  have S1 := KDiv.step_of (Y : Int) ((Y / 4294967296 : Nat) : Int) ((Y % 4294967296 : Nat) : Int) ((hi * 2 ^ s + L : Nat) : Int) ((n / 4294967296 : Nat) : Int) (by omega) (by omega) (by omega) (by omega) (by omega) (by omega) (by omega) (by omega) (by omega)
  have S2 := KDiv.step_of (Y : Int) ((Y / 4294967296 : Nat) : Int) ((Y % 4294967296 : Nat) : Int) _ ((n % 4294967296 : Nat) : Int) S1.hY S1.a0 S1.a1 S1.b0 S1.b1 (by omega) (by omega) S1.r0 S1.r1
  have cP : ((2 ^ s : Nat) : Int) = 2 ^ s := Int.natCast_pow 2 s
  have cQ : ((2 ^ (64 - s) : Nat) : Int) = 2 ^ (64 - s) := Int.natCast_pow 2 (64 - s)
  have cY : (y : Int) * 2 ^ s = (Y : Int) := by rw [← cP, ← Int.natCast_mul, eY]
  have cH : (hi : Int) * 2 ^ s = ((hi * 2 ^ s : Nat) : Int) := by rw [← cP, ← Int.natCast_mul]
  have cL : (lo : Int) / 2 ^ (64 - (s : Int)).toNat = (L : Int) := by
    rw [show (64 - (s : Int)).toNat = 64 - s by omega, ← cQ, ← Int.natCast_ediv, eL]
  have cn : (lo : Int) * 2 ^ s % 18446744073709551616 = (n : Int) := by
    rw [← cP, ← Int.natCast_mul, ← en]; rfl
  have hN' : ((hi * 2 ^ s + L : Nat) : Int) * 18446744073709551616 + (n : Int) = ((hi : Int) * 18446744073709551616 + (lo : Int)) * ((2 ^ s : Nat) : Int) := by
    have h := congrArg (fun x : Nat => (x : Int)) hN
    simp only [Int.natCast_add, Int.natCast_mul] at h ⊢
    exact h.symm
  have hw := KDiv.whole (hi : Int) (lo : Int) (y : Int) ((2 ^ s : Nat) : Int) ((hi * 2 ^ s + L : Nat) : Int) (n : Int) ((n / 4294967296 : Nat) : Int) ((n % 4294967296 : Nat) : Int) (Y : Int) _ _ _ _
    (by omega) (by rw [← eY, Int.natCast_mul]) hN' (by omega) S1.hQ S2.hQ S2.r0 S2.r1
  have hgo := div_go (hi : Int) (lo : Int) (y : Int) (s : Int) w (by omega) (by omega) (by omega) (by omega) (by omega) (by omega) (by omega) HC (Y : Int) _ _ ((hi * 2 ^ s : Nat) : Int) (L : Int) _ (n : Int) _ _ _ _ _ _ _ _ _ _ S1 S2
    (by rw [Int.toNat_natCast, IntKind.wrap_u64, cY]; omega) (by omega) (by omega) (by rw [and_low _ (by omega) (by omega)]; omega)
    (by rw [Int.toNat_natCast, IntKind.wrap_u64, cH]; omega) cL (or_add _ _ _ p2 (by omega) (by omega))
    (by rw [Int.toNat_natCast, IntKind.wrap_u64, cn]) (by omega) (by omega) (by rw [and_low _ (by omega) (by omega)]; omega) rfl rfl rfl rfl
  refine hgo.mono fun e w' hq => ?_
  unfold Quo at hq
  obtain ⟨r, he, hw'⟩ := hq
  refine ⟨r, ?_, hw' ▸ Ext.refl _⟩
  rw [he, hw]
  congr 4
/-- math/bits.Div64 where hi is below y. -/
theorem div64_any (hi lo y : Nat) (w : World) (h2 : hi < y) (h3 : y < 18446744073709551616) (l1 : lo < 18446744073709551616) :
    Calls Tryd.prog 92 #[.int .u64 hi, .int .u64 lo, .int .u64 y] w fun e w' => ∃ r : Int, e = .returned (.tuple #[.int .u64 (((hi * 18446744073709551616 + lo) / y : Nat) : Int), .int .u64 r]) ∧ Ext w w' := by
  by_cases h1 : 0 < hi
  · exact div_high hi lo y w h1 h2 h3 l1
  · obtain rfl : hi = 0 := by omega
    have h := div_low (lo : Int) (y : Int) w (by omega) (by omega) (by omega) (by omega)
    rw [Nat.zero_mul, Nat.zero_add, Int.natCast_ediv]
    exact h
end Go.Proofs.YtcdpjgdaofgpcaaDoor
