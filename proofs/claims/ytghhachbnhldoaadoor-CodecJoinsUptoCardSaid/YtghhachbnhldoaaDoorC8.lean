/-
  The reader's number. Helper lemmas; no statement of the seat is proved here.
-/
import Derived.Test.YtghhachbnhldoaaDoorC7
namespace Go.Proofs.YtghhachbnhldoaaDoor
open Go.RowKit
set_option maxRecDepth 100000
set_option linter.unusedVariables false
set_option linter.unusedSimpArgs false

theorem numF_last : ∀ (k n : Nat), 1 ≤ n → n < 2 * 128 ^ k → ∃ c : UInt8, (numF k n)[(numF k n).length - 1]? = some c ∧ c.toNat ≠ 0
  | 0, n, h1, h2 => by
    have : n = 1 := by omega
    subst this
    exact ⟨1, rfl, by decide⟩
  | k + 1, n, h1, h2 => by
    rw [numF]
    split
    · rename_i h
      refine ⟨UInt8.ofNat n, rfl, ?_⟩
      simp; omega
    · rename_i h
      obtain ⟨c, hc, h0⟩ := numF_last k (n / 128) (by omega) (by rw [Nat.pow_succ] at h2; omega)
      have hp := numF_pos k (n / 128)
      refine ⟨c, ?_, h0⟩
      rw [List.length_cons, show (numF k (n / 128)).length + 1 - 1 = ((numF k (n / 128)).length - 1) + 1 by omega, List.getElem?_cons_succ]
      exact hc
/-- What a function of the reader leaves: a value, the bytes that are left, whether something was wrong. -/
def RPost (w0 W : World) (b' : Bool) (rest : Bytes) (deep : Int) (V : Value → World → Prop) (e : Ending) (w' : World) : Prop :=
  ∃ v, e = .returned v ∧ V v w' ∧ (∃ inp', RS w0 w' inp' deep b' ∧ (b' = false → inp' = rest)) ∧ Exc w0.heap.size W w'
theorem numF_len : ∀ (k n : Nat), (numF k n).length ≤ k + 1
  | 0, n => by simp [numF]
  | k + 1, n => by
    rw [numF]; split
    · simp
    · rw [List.length_cons]; have := numF_len k (n / 128); omega
theorem numB_len (n : Nat) : (numB n).length ≤ 10 := numF_len 9 n
set_option maxHeartbeats 8000000 in
theorem rnum_any (w0 W : World) (inp : Bytes) (deep : Int) (b : Bool) (n : Nat) (rest : Bytes) (hn : n < 9223372036854775808) (hi : b = false → inp = numB n ++ rest) (h : RS w0 W inp deep b) :
    Calls Tryd.prog 51 #[.pointer (some ⟨w0.heap.size, 0, none⟩)] W (RPost w0 W (b || decide (4611686018427387904 < n)) rest deep fun v _ => v = .int .i64 (if (b || decide (4611686018427387904 < n)) = true then 0 else (n : Int))) := by
  have c2 := h.c2
  have HH := Lib.hid h
  cases b with
  | true =>
    clear h
    go_enter Tryd.func51, Tryd.ntmps51
    go_wp2_with fail
    go_ret
    exact ⟨_, rfl, rfl, ⟨_, HH.out, fun h => by cases h⟩, Exc.refl _ _⟩
  | false =>
    obtain rfl := hi rfl
    rw [Bool.false_or]
    obtain ⟨bb, off, c, hv0, hrep, hc1, hc2⟩ := h.row
    have hlt := h.lt
    have f0 := h.f0
    have f2 := h.f2
    have HC := Lib.hid (begin_any n hn rest _ _ W (hrep.ext h.ext))
    have HR := Lib.hid hrep
    have hpos := numB_pos n
    have hlast : 1 < (numB n).length → ∃ c : UInt8, W.cell? ⟨bb, off + ((numB n).length - 1), none⟩ = some (.int .u8 (c.toNat : Int)) ∧ c.toNat ≠ 0 := fun hl => by
      have h1 : 1 ≤ n := by
        rcases Nat.eq_zero_or_pos n with e | e
        · subst e; exact absurd hl (by decide)
        · exact e
      obtain ⟨c, hc, h0⟩ := numF_last 9 n h1 (by omega)
      have hi : (numB n).length - 1 < (numB n ++ rest).length := by rw [List.length_append]; omega
      obtain ⟨b', o', e', hbl, hcell⟩ := by_at hrep _ hi
      injection e' with e'
      injection e' with e1 e2
      subst e1 e2
      refine ⟨c, ?_, h0⟩
      have h2 : (numB n ++ rest)[(numB n).length - 1]? = some c := by rw [List.getElem?_append_left (by omega)]; exact hc
      rw [List.getElem?_eq_getElem hi] at h2
      rw [Option.some.inj h2] at hcell
      exact h.ext.keep hbl hcell
    have HLS := Lib.hid hlast
    have hlen9 : (numB n).length ≤ 10 := numB_len n
    obtain ⟨inp, hinp⟩ : ∃ x, numB n ++ rest = x := ⟨_, rfl⟩
    obtain ⟨sz, hsz⟩ : ∃ x, (numB n).length = x := ⟨_, rfl⟩
    have hszi : sz ≤ inp.length := by rw [← hinp, List.length_append]; omega
    have hdrop : inp.drop sz = rest := by rw [← hinp, ← hsz, List.drop_left]
    rw [hinp] at HR hc1 hv0 HH HC
    rw [hsz] at HC HLS hpos hlen9
    have HD := Lib.hid hdrop
    obtain ⟨B, hBd⟩ : ∃ B, decide (4611686018427387904 < n) = B := ⟨_, rfl⟩
    rw [hBd]
    have HB := Lib.hid hBd
    clear h hlast hinp hsz hi hrep hdrop hBd
    go_enter Tryd.func51, Tryd.ntmps51
    go_wp2_with fail
    refine HC.out.mono ?_
    rintro e w1 ⟨rfl, hB1⟩
    have k0 := hB1.keep hlt hv0
    have k2 := hB1.keep hlt c2
    have g0 := hB1.free hlt f0
    have g2 := hB1.free hlt f2
    have hsz0 : ¬ (sz : Int) ≤ 0 := by omega
    have hn0 : (0 : Int) ≤ (n : Int) := by omega
    have H1 := Lib.hid (HH.out.step hB1)
    by_cases hbig : 4611686018427387904 < n
    · obtain rfl : B = true := by rw [← HB.out, decide_eq_true hbig]
      have hI : (4611686018427387904 : Int) < (n : Int) := by omega
      clear HC hv0 c2
      go_wp2_with fail
      go_ret
      exact ⟨_, rfl, rfl, ⟨_, H1.out.setBad true, fun h => by cases h⟩, (Exc.of _ hB1).set rfl _⟩
    · obtain rfl : B = false := by rw [← HB.out, decide_eq_false hbig]
      have hI : ¬ (4611686018427387904 : Int) < (n : Int) := by omega
      have hszI : (sz : Int) ≤ (inp.length : Int) := by omega
      by_cases hcs : c = sz
      · subst hcs
        have hle : inp.length = c := by omega
        clear hle
        by_cases hs1 : 1 < c
        · have hJ : (1 : Int) < (c : Int) := by omega
          obtain ⟨cl, hcl, hcl0⟩ := HLS.out hs1
          have kc := hB1.keep (World.block_lt_of_cell? W _ hcl) hcl
          have q0 : ((cl.toNat : Int) == 0) = false := by rw [beq_eq_false_iff_ne]; omega
          obtain ⟨m, hm⟩ : ∃ m, c - 1 = m := ⟨_, rfl⟩
          have hmI : (c : Int) - 1 = (m : Int) := by omega
          rw [hm] at kc
          have hm0 : (0 : Int) ≤ (m : Int) := by omega
          have hml : (m : Int) < (inp.length : Int) := by omega
          clear HC hv0 c2 hcl hm
          go_wp2_with fail
          go_ret
          exact ⟨_, rfl, rfl, ⟨_, H1.out.passAll c (by omega), fun _ => HD.out⟩, (Exc.of _ hB1).set rfl _⟩
        · have hJ : ¬ (1 : Int) < (c : Int) := by omega
          clear HC hv0 c2
          go_wp2_with fail
          go_ret
          exact ⟨_, rfl, rfl, ⟨_, H1.out.passAll c (by omega), fun _ => HD.out⟩, (Exc.of _ hB1).set rfl _⟩
      · have hcsI : ¬ sz = c := fun e => hcs e.symm
        by_cases hs1 : 1 < sz
        · have hJ : (1 : Int) < (sz : Int) := by omega
          obtain ⟨cl, hcl, hcl0⟩ := HLS.out hs1
          have kc := hB1.keep (World.block_lt_of_cell? W _ hcl) hcl
          have q0 : ((cl.toNat : Int) == 0) = false := by rw [beq_eq_false_iff_ne]; omega
          obtain ⟨m, hm⟩ : ∃ m, sz - 1 = m := ⟨_, rfl⟩
          have hmI : (sz : Int) - 1 = (m : Int) := by omega
          rw [hm] at kc
          have hm0 : (0 : Int) ≤ (m : Int) := by omega
          have hml : (m : Int) < (inp.length : Int) := by omega
          clear HC hv0 c2 hcl hm
          go_wp2_with fail
          go_ret
          exact ⟨_, rfl, rfl, ⟨_, H1.out.pass HR.out hc1 hc2 sz hszi, fun _ => HD.out⟩, (Exc.of _ hB1).set rfl _⟩
        · have hJ : ¬ (1 : Int) < (sz : Int) := by omega
          clear HC hv0 c2
          go_wp2_with fail
          go_ret
          exact ⟨_, rfl, rfl, ⟨_, H1.out.pass HR.out hc1 hc2 sz hszi, fun _ => HD.out⟩, (Exc.of _ hB1).set rfl _⟩

end Go.Proofs.YtghhachbnhldoaaDoor
