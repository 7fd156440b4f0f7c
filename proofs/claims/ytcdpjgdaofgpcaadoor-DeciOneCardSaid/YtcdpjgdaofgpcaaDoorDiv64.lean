/-
  math/bits.Div64: the contract: the quotient of hi * 2^64 + lo by y, where hi < y. Helper lemmas; no statement of the seat is proved here.
-/
import Derived.Test.YtcdpjgdaofgpcaaDoorBase
import Derived.Test.YtcdpjgdaofgpcaaDoorShelf
import Derived.Test.YtcdpjgdaofgpcaaDoorDivPlain
import Derived.LoopTactic
import Derived.Laws.Bits64b
import Derived.Deep.QuietTactic
import Derived.BigQuiet
namespace Go.Proofs.YtcdpjgdaofgpcaaDoor
open Go.RowKit
set_option maxRecDepth 100000

/-! ### how many bits a number has -/
theorem bitLenAux_lt : ∀ (f x : Nat), x < 2 ^ f → x < 2 ^ Lib.bitLenAux f x ∧ (0 < x → 2 ^ (Lib.bitLenAux f x - 1) ≤ x ∧ 1 ≤ Lib.bitLenAux f x) ∧ Lib.bitLenAux f x ≤ f
  | 0, x, h => by simp at h; subst h; simp [Lib.bitLenAux]
  | f + 1, x, h => by
    by_cases hx : x = 0
    · subst hx; simp [Lib.bitLenAux]
    · have ih := bitLenAux_lt f (x / 2) (by rw [Nat.pow_succ] at h; omega)
      have e : Lib.bitLenAux (f + 1) x = 1 + Lib.bitLenAux f (x / 2) := by simp [Lib.bitLenAux, hx]
      rw [e]
      obtain ⟨i1, i2, i3⟩ := ih
      refine ⟨?_, fun _ => ⟨?_, by omega⟩, by omega⟩
      · rw [Nat.add_comm, Nat.pow_succ]; omega
      · by_cases h2 : x / 2 = 0
        · have : Lib.bitLenAux f (x / 2) = 0 := by rw [h2]; cases f <;> simp [Lib.bitLenAux]
          rw [this]; simp; omega
        · obtain ⟨j1, j2⟩ := i2 (by omega)
          have e2 : 1 + Lib.bitLenAux f (x / 2) - 1 = (Lib.bitLenAux f (x / 2) - 1) + 1 := by omega
          rw [e2, Nat.pow_succ]; omega
/-- what is shifted so that its first bit stands first -/
theorem norm (y : Nat) (h0 : 0 < y) (h1 : y < 18446744073709551616) :
    Lib.bitLen y ≤ 64 ∧ 1 ≤ Lib.bitLen y ∧ 9223372036854775808 ≤ y * 2 ^ (64 - Lib.bitLen y) ∧ y * 2 ^ (64 - Lib.bitLen y) < 18446744073709551616 := by
  obtain ⟨i1, i2, i3⟩ := bitLenAux_lt 64 y h1
  obtain ⟨j1, j2⟩ := i2 h0
  unfold Lib.bitLen
  generalize Lib.bitLenAux 64 y = k at *
  refine ⟨i3, j2, ?_, ?_⟩
  · have := Nat.mul_le_mul_right (2 ^ (64 - k)) j1
    rw [← Nat.pow_add] at this
    have e : k - 1 + (64 - k) = 63 := by omega
    rw [e] at this
    exact this
  · have := Nat.mul_lt_mul_of_pos_right i1 (Nat.two_pow_pos _ : 0 < 2 ^ (64 - k))
    rw [← Nat.pow_add] at this
    have e : k + (64 - k) = 64 := by omega
    rw [e] at this
    exact this
/-- the bits of two that share none -/
theorem or_add (a b k : Nat) (hb : b < 2 ^ k) (ha : a * 2 ^ k < 18446744073709551616) (hk : 2 ^ k ≤ 18446744073709551616) : bits .or .u64 ((a * 2 ^ k : Nat) : Int) (b : Int) = ((a * 2 ^ k + b : Nat) : Int) := by
  rw [bits_or_u64_nat _ _ ha (by omega), Nat.mul_comm, Nat.two_pow_add_eq_or_of_lt hb]
theorem and_low (a : Int) (h0 : 0 ≤ a) (h1 : a < 18446744073709551616) : bits .and .u64 a 4294967295 = a % 4294967296 := by
  obtain ⟨n, rfl⟩ := Int.eq_ofNat_of_zero_le h0
  have h := bits_and_u64_nat n 4294967295 (by omega) (by omega)
  have e : n &&& 4294967295 = n % 4294967296 := Nat.and_two_pow_sub_one_eq_mod n 32
  rw [e] at h
  rw [show ((4294967295 : Int)) = ((4294967295 : Nat) : Int) from rfl, h]
  omega
theorem rest_wraps (a b c R : Int) (h : a * 4294967296 + b = c + R) (h0 : 0 ≤ R) (h1 : R < 18446744073709551616) : IntKind.u64.wrap (IntKind.u64.wrap (IntKind.u64.wrap (a * 4294967296) + b) - IntKind.u64.wrap c) = R := by
  rw [IntKind.wrap_u64, IntKind.wrap_u64, IntKind.wrap_u64, IntKind.wrap_u64]
  omega

def Quo (q : Int) (w : World) (e : Ending) (w' : World) : Prop := ∃ r : Int, e = .returned (.tuple #[.int .u64 q, .int .u64 r]) ∧ w = w'

theorem div_low (lo y : Int) (w : World) (h1 : 0 < y) (h3 : y ≤ 18446744073709551615) (l0 : 0 ≤ lo) (l1 : lo ≤ 18446744073709551615) :
    Calls Tryd.prog 92 #[.int .u64 0, .int .u64 lo, .int .u64 y] w fun e w' => ∃ r : Int, e = .returned (.tuple #[.int .u64 (lo / y), .int .u64 r]) ∧ Ext w w' := by
  have hne : (y == 0) = false := by simp; omega
  have q0 : 0 ≤ lo / y := Int.ediv_nonneg l0 (by omega)
  have q1 : lo / y ≤ 18446744073709551615 := Int.le_trans (Int.ediv_le_self y l0) l1
  go_enter Tryd.func92, Tryd.ntmps92
  go_wp2_with fail
  go_quiet (fail)
  go_wp2_with fail
  go_ret2
  exact ⟨_, rfl, (Ext.refl _).drewN _⟩

set_option maxHeartbeats 8000000 in
theorem div_go (hi lo y s : Int) (w : World) (h1 : 0 < hi) (h2 : hi < y) (_h3 : y ≤ 18446744073709551615) (_l0 : 0 ≤ lo) (_l1 : lo ≤ 18446744073709551615) (s0 : 0 ≤ s) (s1 : s < 64)
    (HC : Hid (∀ w, Calls Tryd.prog 134 #[.int .u64 y] w fun e w' => e = .returned (.int .i64 s) ∧ w = w'))
    (Y y1 y0 H L u n n1 n0 Q R Q2 R2 q r q2 r2 : Int) (S1 : KDiv.Step Y y1 y0 u n1 Q R) (S2 : KDiv.Step Y y1 y0 R n0 Q2 R2)
    (hY : IntKind.u64.wrap (y * 2 ^ s.toNat) = Y) (d : Y ≤ 18446744073709551615) (ky1 : Y / 4294967296 = y1) (ky0 : bits .and .u64 Y 4294967295 = y0)
    (kh : IntKind.u64.wrap (hi * 2 ^ s.toNat) = H) (kl : lo / 2 ^ (64 - s).toNat = L) (ku : bits .or .u64 H L = u)
    (kn : IntKind.u64.wrap (lo * 2 ^ s.toNat) = n) (_n00 : 0 ≤ n) (kn1 : n / 4294967296 = n1) (kn0 : bits .and .u64 n 4294967295 = n0)
    (kq : u / y1 = q) (kr : u - q * y1 = r) (kq2 : R / y1 = q2) (kr2 : R - q2 * y1 = r2) :
    Calls Tryd.prog 92 #[.int .u64 hi, .int .u64 lo, .int .u64 y] w (Quo (Q * 4294967296 + Q2) w) := by
  have hne : (y == 0) = false := by simp; omega
  have hne2 : (hi == 0) = false := by simp; omega
  have v1 := S1.a0; have v2 := S1.a1; have v3 := S1.b0; have v4 := S1.b1; have v5 := S1.n0; have v6 := S1.n1; have v7 := S1.u0; have v8 := S1.u1
  have v9 := S1.q0; have v10 := S1.q1; have v11 := S1.r0; have v12 := S1.r1; have v13 := S2.n0; have v14 := S2.n1; have v15 := S2.q0; have v16 := S2.q1
  obtain ⟨f1, f2, f3, f4, f5, f6, f7⟩ := S1.first
  rw [kq] at f1 f2 f3 f4 f5 f6 f7
  rw [kr] at f4 f5 f6
  obtain ⟨g1, g2, g3, g4, g5, g6, g7⟩ := S2.first
  rw [kq2] at g1 g2 g3 g4 g5 g6 g7
  rw [kr2] at g4 g5 g6
  have f8 : q * y1 ≤ 18446744073709551615 := by omega
  have g8 : q2 * y1 ≤ 18446744073709551615 := by omega
  have H1 := Lib.hid f4; have H2 := Lib.hid g4
  clear f4 g4
  have d' : u ≤ 18446744073709551615 := by omega
  have d2 : R ≤ 18446744073709551615 := by omega
  have y10 : (y1 == 0) = false := by simp; omega

  go_enter Tryd.func92, Tryd.ntmps92
  go_wp2_with fail
  refine (HC.out _).mono ?_
  rintro e w' ⟨rfl, rfl⟩
  go_wp2_with fail
  go_loop [15, 16] (fun a b => ∃ qk rk : Int, a = .int .u64 qk ∧ b = .int .u64 rk ∧ 0 ≤ qk ∧ qk ≤ 4294967297 ∧ 0 ≤ rk ∧ rk < 4294967296 ∧ Hid (qk * y1 + rk = u) ∧ Q ≤ qk) (fun a _ => (intOf a).toNat)
  case atStart => exact ⟨q, r, by first | rfl | rw [kq], rfl, by omega, by omega, by omega, by omega, H1.out, by omega⟩
  case round =>
    obtain ⟨qk, rk, rfl, rfl, z1, z2, z3, z4, hqr, hQk⟩ := hrel
    obtain ⟨p0, p1⟩ := S1.small qk z1 z2
    have w0 : (0 : Int) ≤ 4294967296 * rk + n1 := by omega
    by_cases c1 : 4294967296 ≤ qk
    · clear p0 p1 w0
      have hdn := S1.down qk rk hqr.out (by omega)
      have hnx := Lib.hid (KDiv.next y1 u qk rk hqr.out)
      by_cases c3 : 4294967296 ≤ rk + y1
      · have eQ := S1.past (qk - 1) (rk + y1) hnx.out (by omega) (by omega) (by omega)
        have kun := rest_wraps u n1 (Q * Y) R S1.hQ S1.r0 (by omega)
        clear hQk hqr
        go_wp2_with fail
        go_loop [18, 16] (fun a b => ∃ qk rk : Int, a = .int .u64 qk ∧ b = .int .u64 rk ∧ 0 ≤ qk ∧ qk ≤ 4294967297 ∧ 0 ≤ rk ∧ rk < 4294967296 ∧ Hid (qk * y1 + rk = R) ∧ Q2 ≤ qk) (fun a _ => (intOf a).toNat)
        case atStart => exact ⟨q2, r2, by first | rfl | rw [kq2], rfl, by omega, by omega, by omega, by omega, H2.out, by omega⟩
        case round =>
          obtain ⟨qk, rk, rfl, rfl, z1, z2, z3, z4, hqr, hQk⟩ := hrel
          obtain ⟨p0, p1⟩ := S2.small qk z1 z2
          have w0 : (0 : Int) ≤ 4294967296 * rk + n0 := by omega
          by_cases c1 : 4294967296 ≤ qk
          · clear p0 p1 w0
            have hdn := S2.down qk rk hqr.out (by omega)
            have hnx := Lib.hid (KDiv.next y1 R qk rk hqr.out)
            by_cases c3 : 4294967296 ≤ rk + y1
            · have eQ := S2.past (qk - 1) (rk + y1) hnx.out (by omega) (by omega) (by omega)
              go_wp2_with fail
              go_ret2
              unfold Quo; exact ⟨_, rfl, rfl⟩
            · go_wp2_with fail
              go_round
              case rel => exact ⟨_, _, rfl, rfl, by omega, by omega, by omega, by omega, hnx, hdn⟩
              case measure => simp [intOf]; omega
          · by_cases c2 : 4294967296 * rk + n0 < qk * y0
            · have hdn := S2.down qk rk hqr.out (by omega)
              have hnx := Lib.hid (KDiv.next y1 R qk rk hqr.out)
              by_cases c3 : 4294967296 ≤ rk + y1
              · have eQ := S2.past (qk - 1) (rk + y1) hnx.out (by omega) (by omega) (by omega)
                go_wp2_with fail
                go_ret2
                unfold Quo; exact ⟨_, rfl, rfl⟩
              · go_wp2_with fail
                go_round
                case rel => exact ⟨_, _, rfl, rfl, by omega, by omega, by omega, by omega, hnx, hdn⟩
                case measure => simp [intOf]; omega
            · obtain rfl := (S2.done qk rk hqr.out hQk c2).symm
              go_wp2_with fail
              go_ret2
              unfold Quo; exact ⟨_, rfl, rfl⟩
      · go_wp2_with fail
        go_round
        case rel => exact ⟨_, _, rfl, rfl, by omega, by omega, by omega, by omega, hnx, hdn⟩
        case measure => simp [intOf]; omega
    · by_cases c2 : 4294967296 * rk + n1 < qk * y0
      · have hdn := S1.down qk rk hqr.out (by omega)
        have hnx := Lib.hid (KDiv.next y1 u qk rk hqr.out)
        by_cases c3 : 4294967296 ≤ rk + y1
        · have eQ := S1.past (qk - 1) (rk + y1) hnx.out (by omega) (by omega) (by omega)
          have kun := rest_wraps u n1 (Q * Y) R S1.hQ S1.r0 (by omega)
          clear hQk hqr
          go_wp2_with fail
          go_loop [18, 16] (fun a b => ∃ qk rk : Int, a = .int .u64 qk ∧ b = .int .u64 rk ∧ 0 ≤ qk ∧ qk ≤ 4294967297 ∧ 0 ≤ rk ∧ rk < 4294967296 ∧ Hid (qk * y1 + rk = R) ∧ Q2 ≤ qk) (fun a _ => (intOf a).toNat)
          case atStart => exact ⟨q2, r2, by first | rfl | rw [kq2], rfl, by omega, by omega, by omega, by omega, H2.out, by omega⟩
          case round =>
            obtain ⟨qk, rk, rfl, rfl, z1, z2, z3, z4, hqr, hQk⟩ := hrel
            obtain ⟨p0, p1⟩ := S2.small qk z1 z2
            have w0 : (0 : Int) ≤ 4294967296 * rk + n0 := by omega
            by_cases c1 : 4294967296 ≤ qk
            · clear p0 p1 w0
              have hdn := S2.down qk rk hqr.out (by omega)
              have hnx := Lib.hid (KDiv.next y1 R qk rk hqr.out)
              by_cases c3 : 4294967296 ≤ rk + y1
              · have eQ := S2.past (qk - 1) (rk + y1) hnx.out (by omega) (by omega) (by omega)
                go_wp2_with fail
                go_ret2
                unfold Quo; exact ⟨_, rfl, rfl⟩
              · go_wp2_with fail
                go_round
                case rel => exact ⟨_, _, rfl, rfl, by omega, by omega, by omega, by omega, hnx, hdn⟩
                case measure => simp [intOf]; omega
            · by_cases c2 : 4294967296 * rk + n0 < qk * y0
              · have hdn := S2.down qk rk hqr.out (by omega)
                have hnx := Lib.hid (KDiv.next y1 R qk rk hqr.out)
                by_cases c3 : 4294967296 ≤ rk + y1
                · have eQ := S2.past (qk - 1) (rk + y1) hnx.out (by omega) (by omega) (by omega)
                  go_wp2_with fail
                  go_ret2
                  unfold Quo; exact ⟨_, rfl, rfl⟩
                · go_wp2_with fail
                  go_round
                  case rel => exact ⟨_, _, rfl, rfl, by omega, by omega, by omega, by omega, hnx, hdn⟩
                  case measure => simp [intOf]; omega
              · obtain rfl := (S2.done qk rk hqr.out hQk c2).symm
                go_wp2_with fail
                go_ret2
                unfold Quo; exact ⟨_, rfl, rfl⟩
        · go_wp2_with fail
          go_round
          case rel => exact ⟨_, _, rfl, rfl, by omega, by omega, by omega, by omega, hnx, hdn⟩
          case measure => simp [intOf]; omega
      · obtain rfl := (S1.done qk rk hqr.out hQk c2).symm
        have kun := rest_wraps u n1 (Q * Y) R S1.hQ S1.r0 (by omega)
        clear hQk hqr
        go_wp2_with fail
        go_loop [18, 16] (fun a b => ∃ qk rk : Int, a = .int .u64 qk ∧ b = .int .u64 rk ∧ 0 ≤ qk ∧ qk ≤ 4294967297 ∧ 0 ≤ rk ∧ rk < 4294967296 ∧ Hid (qk * y1 + rk = R) ∧ Q2 ≤ qk) (fun a _ => (intOf a).toNat)
        case atStart => exact ⟨q2, r2, by first | rfl | rw [kq2], rfl, by omega, by omega, by omega, by omega, H2.out, by omega⟩
        case round =>
          obtain ⟨qk, rk, rfl, rfl, z1, z2, z3, z4, hqr, hQk⟩ := hrel
          obtain ⟨p0, p1⟩ := S2.small qk z1 z2
          have w0 : (0 : Int) ≤ 4294967296 * rk + n0 := by omega
          by_cases c1 : 4294967296 ≤ qk
          · clear p0 p1 w0
            have hdn := S2.down qk rk hqr.out (by omega)
            have hnx := Lib.hid (KDiv.next y1 R qk rk hqr.out)
            by_cases c3 : 4294967296 ≤ rk + y1
            · have eQ := S2.past (qk - 1) (rk + y1) hnx.out (by omega) (by omega) (by omega)
              go_wp2_with fail
              go_ret2
              unfold Quo; exact ⟨_, rfl, rfl⟩
            · go_wp2_with fail
              go_round
              case rel => exact ⟨_, _, rfl, rfl, by omega, by omega, by omega, by omega, hnx, hdn⟩
              case measure => simp [intOf]; omega
          · by_cases c2 : 4294967296 * rk + n0 < qk * y0
            · have hdn := S2.down qk rk hqr.out (by omega)
              have hnx := Lib.hid (KDiv.next y1 R qk rk hqr.out)
              by_cases c3 : 4294967296 ≤ rk + y1
              · have eQ := S2.past (qk - 1) (rk + y1) hnx.out (by omega) (by omega) (by omega)
                go_wp2_with fail
                go_ret2
                unfold Quo; exact ⟨_, rfl, rfl⟩
              · go_wp2_with fail
                go_round
                case rel => exact ⟨_, _, rfl, rfl, by omega, by omega, by omega, by omega, hnx, hdn⟩
                case measure => simp [intOf]; omega
            · obtain rfl := (S2.done qk rk hqr.out hQk c2).symm
              go_wp2_with fail
              go_ret2
              unfold Quo; exact ⟨_, rfl, rfl⟩
end Go.Proofs.YtcdpjgdaofgpcaaDoor
