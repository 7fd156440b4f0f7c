/-
  Bytes. Helper lemmas; no statement of the seat is proved here.
-/
import Derived.Test.YtghhachbnhldoaaDoorC28
namespace Go.Proofs.YtghhachbnhldoaaDoor
open Go.RowKit
set_option maxRecDepth 100000
set_option linter.unusedVariables false
set_option linter.unusedSimpArgs false

set_option maxHeartbeats 8000000 in
theorem bytes_any (x y : Bytes) (p q : Nat → Prop) (v u : Value) (w : World) (h : Rep w p v (numsD .u8 (byI x))) (k : Rep w q u (numsD .u8 (byI y))) :
    Calls Tryd.prog 10 #[v, u] w fun e w' => e = .returned (.bool (decide (x = y))) ∧ Ext w w' := by
  obtain ⟨a, c, rfl, hc1, hc2⟩ := by_count h
  obtain ⟨b, d, rfl, hd1, hd2⟩ := by_count k
  have hx_at := fun i (hi : i < x.length) => by_at h i hi
  have hy_at := fun i (hi : i < y.length) => by_at k i hi
  obtain ⟨R, hR⟩ : ∃ R, decide (x = y) = R := ⟨_, rfl⟩
  rw [hR]
  have HR := Lib.hid hR
  clear hR h k
  by_cases hl : x.length = y.length
  · have hl1 : ((x.length : Int) != (y.length : Int)) = false := by rw [hl]; exact bne_self_eq_false _
    have HL := Lib.hid hl
    clear hl
    go_enter Tryd.func10, Tryd.ntmps10
    go_wp2_with fail
    go_loopw [5] (fun t wr => ∃ i : Nat, t = .int .i64 i ∧ i ≤ x.length ∧ Ext w wr ∧ Hid (decide (x.drop i = y.drop i) = R)) (fun t _ => downV x.length t)
    case atStart => exact ⟨0, rfl, Nat.zero_le _, Ext.refl _, HR⟩
    case round =>
      obtain ⟨i, rfl, hi, hX, HI⟩ := hrel
      have hi0 : (0 : Int) ≤ (i : Int) := by omega
      by_cases hlt : i < x.length
      · have hlI : (i : Int) < (x.length : Int) := by omega
        have hly : i < y.length := by have := HL.out; omega
        have hyI : (i : Int) < (y.length : Int) := by omega
        obtain ⟨b1, o1, e1, l1, h1⟩ := hx_at i hlt
        obtain ⟨b2, o2, e2, l2, h2⟩ := hy_at i hly
        subst e1 e2
        have n1 := hX.keep l1 h1
        have n2 := hX.keep l2 h2
        have HS : Hid (decide (x.drop i = y.drop i) = decide (x[i] = y[i] ∧ x.drop (i + 1) = y.drop (i + 1))) := Lib.hid (by rw [drop_one x i hlt, drop_one y i hly]; exact decide_eq_decide.2 (by rw [List.cons.injEq]))
        obtain ⟨s, hs⟩ : ∃ s, x[i] = s := ⟨_, rfl⟩
        obtain ⟨t, ht⟩ : ∃ t, y[i] = t := ⟨_, rfl⟩
        rw [hs] at n1 HS
        rw [ht] at n2 HS
        have HX := Lib.hid hX
        clear hs ht hX h1 h2
        by_cases he : s = t
        · subst he
          have HN : Hid (decide (x.drop (i + 1) = y.drop (i + 1)) = R) := Lib.hid (by rw [← HI.out, HS.out]; exact decide_eq_decide.2 ⟨fun h => ⟨rfl, h⟩, fun h => h.2⟩)
          have q0 : ((s.toNat : Int) != (s.toNat : Int)) = false := bne_self_eq_false _
          clear HS HI
          go_wp2_with fail
          go_quiet (fail)
          go_wp2_with fail
          go_roundw
          case rel => exact ⟨i + 1, by go_num, by omega, HX.out.drewN _, HN⟩
          case measure => simp only [downV]; omega
        · have HN : Hid (false = R) := Lib.hid (by rw [← HI.out, HS.out]; exact (decide_eq_false fun h => he h.1).symm)
          have q0 : ((s.toNat : Int) != (t.toNat : Int)) = true := by
            rw [bne_iff_ne]
            intro e
            exact he (UInt8.toNat.inj (by omega))
          clear HS HI he
          go_wp2_with fail
          go_quiet (fail)
          go_wp2_with fail
          go_ret
          exact ⟨ret_bool HN.out, HX.out.drewN _⟩
      · have hlI : ¬ (i : Int) < (x.length : Int) := by omega
        have HN : Hid (true = R) := Lib.hid (by
          rw [← HI.out, List.drop_of_length_le (by omega), List.drop_of_length_le (by have := HL.out; omega)]; rfl)
        clear HI
        go_wp2_with fail
        go_ret
        exact ⟨ret_bool HN.out, hX⟩
  · have hl1 : ((x.length : Int) != (y.length : Int)) = true := by rw [bne_iff_ne]; omega
    have HN : Hid (false = R) := Lib.hid (by rw [← HR.out]; exact (decide_eq_false fun h => hl (congrArg List.length h)).symm)
    clear hl
    go_enter Tryd.func10, Tryd.ntmps10
    go_wp2_with fail
    go_ret
    exact ⟨ret_bool HN.out, Ext.refl _⟩
/-- A row of bytes of the call's own, as it reads. -/
theorem rowB_rep {w : World} {base : Nat} {v : Value} {L : Bytes} (h : w.ownsRow base 5 1 v L.length (rowB L)) : Rep w (fun b => base ≤ b) v (numsD .u8 (byI L)) := by
  have h2 : Own w (fun _ => False) base 5 1 v L.length ((byI L).flatMap fun y => [.v (.int .u8 y)]) := ⟨_, h, (nums_reps w _ .u8 (byI L))⟩
  exact h2.rep.ok fun b hb => hb.elim (fun h => h.elim) id

end Go.Proofs.YtghhachbnhldoaaDoor
