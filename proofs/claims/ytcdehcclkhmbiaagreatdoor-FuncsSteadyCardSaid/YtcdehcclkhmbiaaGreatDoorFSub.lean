/-
  (*caller).substring. Helper lemmas; no statement of the seat is proved here.
-/
import Derived.Test.YtcdehcclkhmbiaaGreatDoorFLoops
namespace Go.Proofs.YtcdehcclkhmbiaaGreatDoor
open Go.RowKit
set_option maxRecDepth 100000
set_option linter.unusedVariables false
set_option linter.unusedSimpArgs false

/-- The piece at j (the first is at 0) is among those from the place f on, ahead of t. -/
def keepS (f t : Int) (j : Nat) : Bool := !(lessS false false (((j : Int) + 1) * 1000000) f) && lessS false false (((j : Int) + 1) * 1000000) t
def subT (Z : List (List UInt8)) (f t : Int) : Nat → List UInt8
  | 0 => []
  | j + 1 => subT Z f t j ++ (if keepS f t j = true then Z.getD j [] else [])
theorem str_add (a b : List UInt8) : bs a ++ bs b = bs (a ++ b) := bs_append a b
theorem subT_len (Z : List (List UInt8)) (f t : Int) (h : ∀ p ∈ Z, p.length ≤ 4) : ∀ j, (subT Z f t j).length ≤ 4 * j
  | 0 => Nat.le_refl _
  | j + 1 => by
    have ih := subT_len Z f t h j
    have h1 : (if keepS f t j = true then Z.getD j [] else []).length ≤ 4 := by
      split
      · rw [List.getD_eq_getElem?_getD]
        cases e : Z[j]? with
        | none => simp
        | some x => exact h x (List.mem_of_getElem? e)
      · simp
    rw [subT, List.length_append]; omega

set_option maxHeartbeats 8000000 in
theorem fsub2_any (q : Nat) (T : Value) (c0 c1 c2 c3 : Int) (ad : Option Addr) (cp : Nat) (l : List UInt8) (f : Int) (w : World) (U : GlobU w) (hl : l.length ≤ 100000000)
    (hC : CallerAt w q T c0 c1 c2 c3 (.slice ad 2 cp)) (H0 : Hid (TextOf w q 0 (bs l)))
    (H1 : Hid (∀ W, Ext w W → Calls Tryz.prog 83 #[.pointer (some ⟨q, 0, none⟩), .int .i64 1] W fun e w' => e = .returned (.tuple #[.agg #[.bool false, .int .i64 f], .int .i64 0]) ∧ Ext W w')) :
    Calls Tryz.prog 46 #[.pointer (some ⟨q, 0, none⟩)] w fun e w' => e = .returned (.tuple #[valV 4 false false 0 (bs (subT (Pc.pieces l) f 1000000000000000 (Pc.pieces l).length)), .int .i64 0]) ∧ Ext w w' := by
  have HP : Hid (∀ W, Ext w W → Calls Tryz.prog 26 #[.string (bs l)] W fun e w' => ∃ v, e = .returned v ∧ StrRow w' v (Pc.pieces l) ∧ Ext W w') := Lib.hid fun W hX => pieces_any (bs l) W (U.ext hX) (by rw [bs_size]; omega)
  have k3 := Pc.pieces_len l
  have k4 := subT_len (Pc.pieces l) f 1000000000000000 (fun p hp => (Pc.pieces_ne l p hp).2)
  obtain ⟨Z, hZ⟩ : ∃ Z, Pc.pieces l = Z := ⟨_, rfl⟩
  rw [hZ] at k3 k4 HP ⊢
  have hZn : Z.length ≤ 100000000 := by omega
  have HK := Lib.hid k4
  have HL4 : Hid (∀ p ∈ Z, p.length ≤ 4) := Lib.hid fun p hp => (Pc.pieces_ne l p (hZ ▸ hp)).2
  clear hZ k3 k4 U
  have a5 := hC.a; have hq := hC.lt
  clear hC
  go_enter Tryz.func46, Tryz.ntmps46
  go_wp2_with fail
  refine (H1.out _ ((Ext.refl w).alloc _)).mono ?_
  rintro e w1 ⟨rfl, hB1⟩
  have hE1 : Ext w w1 := ((Ext.refl w).alloc _).trans hB1
  have l0 : w.heap.size < w1.heap.size := by have := hB1.size; simp at this; omega
  have a51 := hE1.keep hq a5
  have hq1 : q < w1.heap.size := Nat.lt_of_lt_of_le hq hE1.size
  have d0 : w1.cell? ⟨w.heap.size, 0, none⟩ = some (.int .i64 0) := hB1.keep (by simp) (by simp [go_sem])
  have z0 : w1.frozen? ⟨w.heap.size, 0, none⟩ = false := hB1.free (by simp) (by simp [go_sem])
  have d1 : w1.cell? ⟨w.heap.size, 1, none⟩ = some (.slice none 0 0) := hB1.keep (by simp) (by simp [go_sem])
  have z1 : w1.frozen? ⟨w.heap.size, 1, none⟩ = false := hB1.free (by simp) (by simp [go_sem])
  have d2 : w1.cell? ⟨w.heap.size, 2, none⟩ = some (.bool false) := hB1.keep (by simp) (by simp [go_sem])
  have z2 : w1.frozen? ⟨w.heap.size, 2, none⟩ = false := hB1.free (by simp) (by simp [go_sem])
  have d3 : w1.cell? ⟨w.heap.size, 3, none⟩ = some (.bool false) := hB1.keep (by simp) (by simp [go_sem])
  have z3 : w1.frozen? ⟨w.heap.size, 3, none⟩ = false := hB1.free (by simp) (by simp [go_sem])
  have d4 : w1.cell? ⟨w.heap.size, 4, none⟩ = some (.int .i64 0) := hB1.keep (by simp) (by simp [go_sem])
  have z4 : w1.frozen? ⟨w.heap.size, 4, none⟩ = false := hB1.free (by simp) (by simp [go_sem])
  have d5 : w1.cell? ⟨w.heap.size, 5, none⟩ = some (.string ⟨#[]⟩) := hB1.keep (by simp) (by simp [go_sem])
  have z5 : w1.frozen? ⟨w.heap.size, 5, none⟩ = false := hB1.free (by simp) (by simp [go_sem])
  clear hB1 a5
  go_wp2_with fail
  refine (H0.out _ ((hE1.alloc _).alloc _)).mono ?_
  rintro e w2 ⟨rfl, hB2⟩
  have hE2 : Ext w w2 := ((hE1.alloc _).alloc _).trans hB2
  go_wp2_with fail
  refine (HP.out _ hE2).mono ?_
  rintro e w3 ⟨v, rfl, hS, hB3⟩
  have hE3 : Ext w w3 := hE2.trans hB3
  obtain ⟨sa, sc, e3⟩ := hS.slice
  subst e3
  have hX := hB2.trans hB3
  have hX0 : Ext w1 w3 := (((Ext.refl w1).alloc _).alloc _).trans hX
  have lx : w1.heap.size + 1 < w3.heap.size := by have := hX.size; simp at this; omega
  have g0 : w3.cell? ⟨w.heap.size, 0, none⟩ = some (.int .i64 0) := hX0.keep l0 d0
  have gz0 : w3.frozen? ⟨w.heap.size, 0, none⟩ = false := hX0.free l0 z0
  have g1 : w3.cell? ⟨w.heap.size, 1, none⟩ = some (.slice none 0 0) := hX0.keep l0 d1
  have gz1 : w3.frozen? ⟨w.heap.size, 1, none⟩ = false := hX0.free l0 z1
  have g2 : w3.cell? ⟨w.heap.size, 2, none⟩ = some (.bool false) := hX0.keep l0 d2
  have gz2 : w3.frozen? ⟨w.heap.size, 2, none⟩ = false := hX0.free l0 z2
  have g3 : w3.cell? ⟨w.heap.size, 3, none⟩ = some (.bool false) := hX0.keep l0 d3
  have gz3 : w3.frozen? ⟨w.heap.size, 3, none⟩ = false := hX0.free l0 z3
  have g4 : w3.cell? ⟨w.heap.size, 4, none⟩ = some (.int .i64 0) := hX0.keep l0 d4
  have gz4 : w3.frozen? ⟨w.heap.size, 4, none⟩ = false := hX0.free l0 z4
  have g5 : w3.cell? ⟨w.heap.size, 5, none⟩ = some (.string ⟨#[]⟩) := hX0.keep l0 d5
  have gz5 : w3.frozen? ⟨w.heap.size, 5, none⟩ = false := hX0.free l0 z5
  have p0 : w3.cell? ⟨w1.heap.size, 0, none⟩ = some (.bool false) := (hX).keep (by simp; try omega) (by simp [go_sem, *])
  have p1 : w3.cell? ⟨w1.heap.size, 1, none⟩ = some (.int .i64 f) := (hX).keep (by simp; try omega) (by simp [go_sem, *])
  have r0 : w3.cell? ⟨w1.heap.size + 1, 0, none⟩ = some (.bool false) := (hX).keep (by simp; try omega) (by simp [go_sem, *])
  have r1 : w3.cell? ⟨w1.heap.size + 1, 1, none⟩ = some (.int .i64 1000000000000000) := (hX).keep (by simp; try omega) (by simp [go_sem, *])
  clear hX hX0 hB2 hB3 hE2 d0 z0 d1 z1 d2 z2 d3 z3 d4 z4 d5 z5
  go_wp2
  go_loopw [9, 53] (fun o tx wr => ∃ j : Nat, o = .string (bs (subT Z f 1000000000000000 j)) ∧ tx = .int .i64 j ∧ j ≤ Z.length ∧ Ext w3 wr) (fun _ tx _ => downV Z.length tx)
  case atStart => exact ⟨0, rfl, rfl, Nat.zero_le _, Ext.refl _⟩
  case round =>
    obtain ⟨j, rfl, rfl, hj, hX⟩ := hrel
    have hsz := hX.size
    by_cases hlt : j < Z.length
    · have hjI : (j : Int) < (Z.length : Int) := by omega
      have hj0 : (0 : Int) ≤ (j : Int) := by omega
      obtain ⟨g, rfl, hc⟩ := (hS.ext hX).at j hlt
      have hlim := HK.out j
      have hstep : subT Z f 1000000000000000 (j + 1) = subT Z f 1000000000000000 j ++ (if keepS f 1000000000000000 j = true then Z[j] else []) := by rw [subT, List.getD_eq_getElem?_getD, List.getElem?_eq_getElem hlt]; rfl
      have hkeep : keepS f 1000000000000000 j = (!(lessS false false (((j : Int) + 1) * 1000000) f) && lessS false false (((j : Int) + 1) * 1000000) 1000000000000000) := rfl
      have hp4 := HL4.out _ (List.getElem_mem hlt)
      obtain ⟨piece, hp⟩ : ∃ piece, Z[j] = piece := ⟨_, rfl⟩
      rw [hp] at hc hstep hp4
      have hcc : ¬ 9223372036854775807 < (bs (subT Z f 1000000000000000 j)).size + (bs piece).size := by rw [bs_size, bs_size]; omega
      have HL1 := fun W => less_any false false (((j : Int) + 1) * 1000000) f W
      have HL2 := fun W => less_any false false (((j : Int) + 1) * 1000000) 1000000000000000 W
      obtain ⟨b1, h1⟩ : ∃ b1, lessS false false (((j : Int) + 1) * 1000000) f = b1 := ⟨_, rfl⟩
      obtain ⟨b2, h2⟩ : ∃ b2, lessS false false (((j : Int) + 1) * 1000000) 1000000000000000 = b2 := ⟨_, rfl⟩
      rw [h1] at HL1 hkeep
      rw [h2] at HL2 hkeep
      rw [hkeep] at hstep
      have HST := Lib.hid hstep
      have HL1 := Lib.hid HL1
      have HL2 := Lib.hid HL2
      have q1 : wr.cell? ⟨w1.heap.size, 0, none⟩ = some (.bool false) := hX.keep (by omega) p0
      have q2 : wr.cell? ⟨w1.heap.size, 1, none⟩ = some (.int .i64 f) := hX.keep (by omega) p1
      have q3 : wr.cell? ⟨w1.heap.size + 1, 0, none⟩ = some (.bool false) := hX.keep (by omega) r0
      have q4 : wr.cell? ⟨w1.heap.size + 1, 1, none⟩ = some (.int .i64 1000000000000000) := hX.keep (by omega) r1
      have lw : w1.heap.size + 1 < wr.heap.size := by omega
      have lw0 : w1.heap.size < wr.heap.size := by omega
      clear h1 h2 hp hstep hkeep
      go_wp2_with fail
      refine (of_in ((j : Int) + 1) _ (by omega) (by omega)).mono ?_
      rintro e wa ⟨rfl, hBa⟩
      have hXa := hX.trans hBa
      have lwa : w1.heap.size + 1 < wa.heap.size := by have := hBa.size; omega
      have lwa0 : w1.heap.size < wa.heap.size := by omega
      replace q1 := hBa.keep (by omega) q1
      replace q2 := hBa.keep (by omega) q2
      replace q3 := hBa.keep (by omega) q3
      replace q4 := hBa.keep (by omega) q4
      clear hBa hX
      go_wp2_with fail
      refine (HL1.out _).mono ?_
      rintro e wb ⟨rfl, hBb⟩
      have hXb : Ext w3 wb := (hXa.alloc _).trans hBb
      have lwb : wa.heap.size < wb.heap.size := by have := hBb.size; simp at this; omega
      have lwb0 : w1.heap.size < wb.heap.size := by omega
      have lwb1 : w1.heap.size + 1 < wb.heap.size := by omega
      have s1 : wb.cell? ⟨wa.heap.size, 0, none⟩ = some (.bool false) := hBb.keep (by simp) (by simp [go_sem])
      have s2 : wb.cell? ⟨wa.heap.size, 1, none⟩ = some (.int .i64 (((j : Int) + 1) * 1000000)) := hBb.keep (by simp) (by simp [go_sem])
      replace hBb : Ext wa wb := ((Ext.refl wa).alloc _).trans hBb
      replace q1 := hBb.keep (by omega) q1
      replace q2 := hBb.keep (by omega) q2
      replace q3 := hBb.keep (by omega) q3
      replace q4 := hBb.keep (by omega) q4
      clear hBb hXa
      cases b1 with
      | true =>
        rw [Bool.not_true, Bool.false_and, if_neg (by decide), List.append_nil] at HST
        go_wp2
        go_roundw
        case rel => exact ⟨j + 1, by rw [HST.out], by push_cast; rfl, hlt, hXb⟩
        case measure => simp only [downV]; omega
      | false =>
        cases b2 with
        | false =>
          rw [Bool.and_false, if_neg (by decide), List.append_nil] at HST
          go_wp2_with fail
          refine (HL2.out _).mono ?_
          rintro e wc ⟨rfl, hBc⟩
          have hXc : Ext w3 wc := hXb.trans hBc
          go_wp2
          go_roundw
          case rel => exact ⟨j + 1, by rw [HST.out], by push_cast; rfl, hlt, hXc⟩
          case measure => simp only [downV]; omega
        | true =>
          rw [Bool.not_false, Bool.true_and, if_pos rfl] at HST
          go_wp2_with fail
          refine (HL2.out _).mono ?_
          rintro e wc ⟨rfl, hBc⟩
          have hXc : Ext w3 wc := hXb.trans hBc
          go_wp2
          go_roundw
          case rel => exact ⟨j + 1, by rw [HST.out, ← bs_append], by push_cast; rfl, hlt, hXc⟩
          case measure => simp only [downV]; omega
    · have hjI : ¬ ((j : Int) < (Z.length : Int)) := by omega
      obtain rfl : j = Z.length := by omega
      go_wp2_with fail
      refine (ftext_any _ _).mono ?_
      rintro e wa ⟨rfl, hBa⟩
      have hXa := hX.trans hBa
      have hEa : Ext w wa := Ext.trans hE3 hXa
      have lw0 : w.heap.size < wa.heap.size := by have := hXa.size; omega
      replace g0 := hXa.keep (by omega) g0
      replace gz0 := hXa.free (by omega) gz0
      replace g1 := hXa.keep (by omega) g1
      replace gz1 := hXa.free (by omega) gz1
      replace g2 := hXa.keep (by omega) g2
      replace gz2 := hXa.free (by omega) gz2
      replace g3 := hXa.keep (by omega) g3
      replace gz3 := hXa.free (by omega) gz3
      replace g4 := hXa.keep (by omega) g4
      replace gz4 := hXa.free (by omega) gz4
      replace g5 := hXa.keep (by omega) g5
      replace gz5 := hXa.free (by omega) gz5
      clear hBa hX hXa
      go_wp2_with fail
      refine bodyPost_ret (v := .tuple #[valV 4 false false 0 (bs (subT Z f 1000000000000000 Z.length)), .int .i64 0]) (by simp [results, Tryz.results46, go_sem, lw0, g0, g1, g2, g3, g4, g5]) rfl ⟨rfl, ?_⟩
      repeat refine Ext.set ?_ (by dsimp only; omega) _
      exact hEa
set_option maxHeartbeats 8000000 in
theorem fsub3_any (q : Nat) (T : Value) (c0 c1 c2 c3 : Int) (ad : Option Addr) (cp : Nat) (l : List UInt8) (f g t : Int) (w : World) (U : GlobU w) (hl : l.length ≤ 100000000)
    (hC : CallerAt w q T c0 c1 c2 c3 (.slice ad 3 cp)) (H0 : Hid (TextOf w q 0 (bs l)))
    (H1 : Hid (∀ W, Ext w W → Calls Tryz.prog 83 #[.pointer (some ⟨q, 0, none⟩), .int .i64 1] W fun e w' => e = .returned (.tuple #[.agg #[.bool false, .int .i64 f], .int .i64 0]) ∧ Ext W w'))
    (H2 : Hid (∀ W, Ext w W → Calls Tryz.prog 83 #[.pointer (some ⟨q, 0, none⟩), .int .i64 2] W fun e w' => e = .returned (.tuple #[.agg #[.bool false, .int .i64 g], .int .i64 0]) ∧ Ext W w')) (HA : Hid (∀ W, Ext w W → Calls Tryz.prog 72 #[.agg #[.bool false, .int .i64 f], .agg #[.bool false, .int .i64 g]] W fun e w' => e = .returned (.tuple #[.agg #[.bool false, .int .i64 t], .int .i64 0]) ∧ Ext W w')) :
    Calls Tryz.prog 46 #[.pointer (some ⟨q, 0, none⟩)] w fun e w' => e = .returned (.tuple #[valV 4 false false 0 (bs (subT (Pc.pieces l) f t (Pc.pieces l).length)), .int .i64 0]) ∧ Ext w w' := by
  have HP : Hid (∀ W, Ext w W → Calls Tryz.prog 26 #[.string (bs l)] W fun e w' => ∃ v, e = .returned v ∧ StrRow w' v (Pc.pieces l) ∧ Ext W w') := Lib.hid fun W hX => pieces_any (bs l) W (U.ext hX) (by rw [bs_size]; omega)
  have k3 := Pc.pieces_len l
  have k4 := subT_len (Pc.pieces l) f t (fun p hp => (Pc.pieces_ne l p hp).2)
  obtain ⟨Z, hZ⟩ : ∃ Z, Pc.pieces l = Z := ⟨_, rfl⟩
  rw [hZ] at k3 k4 HP ⊢
  have hZn : Z.length ≤ 100000000 := by omega
  have HK := Lib.hid k4
  have HL4 : Hid (∀ p ∈ Z, p.length ≤ 4) := Lib.hid fun p hp => (Pc.pieces_ne l p (hZ ▸ hp)).2
  clear hZ k3 k4 U
  have a5 := hC.a; have hq := hC.lt
  clear hC
  go_enter Tryz.func46, Tryz.ntmps46
  go_wp2_with fail
  refine (H1.out _ ((Ext.refl w).alloc _)).mono ?_
  rintro e w1 ⟨rfl, hB1⟩
  have hE1 : Ext w w1 := ((Ext.refl w).alloc _).trans hB1
  have l0 : w.heap.size < w1.heap.size := by have := hB1.size; simp at this; omega
  have a51 := hE1.keep hq a5
  have hq1 : q < w1.heap.size := Nat.lt_of_lt_of_le hq hE1.size
  have d0 : w1.cell? ⟨w.heap.size, 0, none⟩ = some (.int .i64 0) := hB1.keep (by simp) (by simp [go_sem])
  have z0 : w1.frozen? ⟨w.heap.size, 0, none⟩ = false := hB1.free (by simp) (by simp [go_sem])
  have d1 : w1.cell? ⟨w.heap.size, 1, none⟩ = some (.slice none 0 0) := hB1.keep (by simp) (by simp [go_sem])
  have z1 : w1.frozen? ⟨w.heap.size, 1, none⟩ = false := hB1.free (by simp) (by simp [go_sem])
  have d2 : w1.cell? ⟨w.heap.size, 2, none⟩ = some (.bool false) := hB1.keep (by simp) (by simp [go_sem])
  have z2 : w1.frozen? ⟨w.heap.size, 2, none⟩ = false := hB1.free (by simp) (by simp [go_sem])
  have d3 : w1.cell? ⟨w.heap.size, 3, none⟩ = some (.bool false) := hB1.keep (by simp) (by simp [go_sem])
  have z3 : w1.frozen? ⟨w.heap.size, 3, none⟩ = false := hB1.free (by simp) (by simp [go_sem])
  have d4 : w1.cell? ⟨w.heap.size, 4, none⟩ = some (.int .i64 0) := hB1.keep (by simp) (by simp [go_sem])
  have z4 : w1.frozen? ⟨w.heap.size, 4, none⟩ = false := hB1.free (by simp) (by simp [go_sem])
  have d5 : w1.cell? ⟨w.heap.size, 5, none⟩ = some (.string ⟨#[]⟩) := hB1.keep (by simp) (by simp [go_sem])
  have z5 : w1.frozen? ⟨w.heap.size, 5, none⟩ = false := hB1.free (by simp) (by simp [go_sem])
  clear hB1 a5
  go_wp2_with fail
  refine (H2.out _ ((hE1.alloc _).alloc _)).mono ?_
  rintro e w2 ⟨rfl, hB2⟩
  have hE2 : Ext w w2 := ((hE1.alloc _).alloc _).trans hB2
  have l2 : w1.heap.size + 1 < w2.heap.size := by have := hB2.size; simp at this; omega
  have l20 : w1.heap.size < w2.heap.size := by omega
  have hX0 : Ext w1 w2 := (((Ext.refl w1).alloc _).alloc _).trans hB2
  have e0 : w2.cell? ⟨w.heap.size, 0, none⟩ = some (.int .i64 0) := hX0.keep l0 d0
  have ez0 : w2.frozen? ⟨w.heap.size, 0, none⟩ = false := hX0.free l0 z0
  have e1 : w2.cell? ⟨w.heap.size, 1, none⟩ = some (.slice none 0 0) := hX0.keep l0 d1
  have ez1 : w2.frozen? ⟨w.heap.size, 1, none⟩ = false := hX0.free l0 z1
  have e2 : w2.cell? ⟨w.heap.size, 2, none⟩ = some (.bool false) := hX0.keep l0 d2
  have ez2 : w2.frozen? ⟨w.heap.size, 2, none⟩ = false := hX0.free l0 z2
  have e3 : w2.cell? ⟨w.heap.size, 3, none⟩ = some (.bool false) := hX0.keep l0 d3
  have ez3 : w2.frozen? ⟨w.heap.size, 3, none⟩ = false := hX0.free l0 z3
  have e4 : w2.cell? ⟨w.heap.size, 4, none⟩ = some (.int .i64 0) := hX0.keep l0 d4
  have ez4 : w2.frozen? ⟨w.heap.size, 4, none⟩ = false := hX0.free l0 z4
  have e5 : w2.cell? ⟨w.heap.size, 5, none⟩ = some (.string ⟨#[]⟩) := hX0.keep l0 d5
  have ez5 : w2.frozen? ⟨w.heap.size, 5, none⟩ = false := hX0.free l0 z5
  have p0 : w2.cell? ⟨w1.heap.size, 0, none⟩ = some (.bool false) := (hB2).keep (by simp; try omega) (by simp [go_sem, *])
  have pz0 : w2.frozen? ⟨w1.heap.size, 0, none⟩ = false := (hB2).free (by simp; try omega) (by simp [go_sem, *])
  have p1 : w2.cell? ⟨w1.heap.size, 1, none⟩ = some (.int .i64 f) := (hB2).keep (by simp; try omega) (by simp [go_sem, *])
  have pz1 : w2.frozen? ⟨w1.heap.size, 1, none⟩ = false := (hB2).free (by simp; try omega) (by simp [go_sem, *])
  have r0 : w2.cell? ⟨w1.heap.size + 1, 0, none⟩ = some (.bool false) := (hB2).keep (by simp; try omega) (by simp [go_sem, *])
  have rz0 : w2.frozen? ⟨w1.heap.size + 1, 0, none⟩ = false := (hB2).free (by simp; try omega) (by simp [go_sem, *])
  have r1 : w2.cell? ⟨w1.heap.size + 1, 1, none⟩ = some (.int .i64 1000000000000000) := (hB2).keep (by simp; try omega) (by simp [go_sem, *])
  have rz1 : w2.frozen? ⟨w1.heap.size + 1, 1, none⟩ = false := (hB2).free (by simp; try omega) (by simp [go_sem, *])
  clear hX0 hB2 d0 z0 d1 z1 d2 z2 d3 z3 d4 z4 d5 z5
  go_wp2_with fail
  refine (HA.out _ (hE2.alloc _)).mono ?_
  rintro e w3 ⟨rfl, hB3⟩
  have hE3 : Ext w w3 := (hE2.alloc _).trans hB3
  have l3 : w2.heap.size < w3.heap.size := by have := hB3.size; simp at this; omega
  have hX0 : Ext w2 w3 := ((Ext.refl w2).alloc _).trans hB3
  have l02 : w.heap.size < w2.heap.size := by omega
  have l12 : w1.heap.size < w2.heap.size := by omega
  have d0 : w3.cell? ⟨w.heap.size, 0, none⟩ = some (.int .i64 0) := hX0.keep l02 e0
  have z0 : w3.frozen? ⟨w.heap.size, 0, none⟩ = false := hX0.free l02 ez0
  have d1 : w3.cell? ⟨w.heap.size, 1, none⟩ = some (.slice none 0 0) := hX0.keep l02 e1
  have z1 : w3.frozen? ⟨w.heap.size, 1, none⟩ = false := hX0.free l02 ez1
  have d2 : w3.cell? ⟨w.heap.size, 2, none⟩ = some (.bool false) := hX0.keep l02 e2
  have z2 : w3.frozen? ⟨w.heap.size, 2, none⟩ = false := hX0.free l02 ez2
  have d3 : w3.cell? ⟨w.heap.size, 3, none⟩ = some (.bool false) := hX0.keep l02 e3
  have z3 : w3.frozen? ⟨w.heap.size, 3, none⟩ = false := hX0.free l02 ez3
  have d4 : w3.cell? ⟨w.heap.size, 4, none⟩ = some (.int .i64 0) := hX0.keep l02 e4
  have z4 : w3.frozen? ⟨w.heap.size, 4, none⟩ = false := hX0.free l02 ez4
  have d5 : w3.cell? ⟨w.heap.size, 5, none⟩ = some (.string ⟨#[]⟩) := hX0.keep l02 e5
  have z5 : w3.frozen? ⟨w.heap.size, 5, none⟩ = false := hX0.free l02 ez5
  replace p0 : w3.cell? ⟨w1.heap.size, 0, none⟩ = some (.bool false) := hX0.keep l12 p0
  replace pz0 : w3.frozen? ⟨w1.heap.size, 0, none⟩ = false := hX0.free l12 pz0
  replace p1 : w3.cell? ⟨w1.heap.size, 1, none⟩ = some (.int .i64 f) := hX0.keep l12 p1
  replace pz1 : w3.frozen? ⟨w1.heap.size, 1, none⟩ = false := hX0.free l12 pz1
  replace r0 : w3.cell? ⟨w1.heap.size + 1, 0, none⟩ = some (.bool false) := hX0.keep l2 r0
  replace rz0 : w3.frozen? ⟨w1.heap.size + 1, 0, none⟩ = false := hX0.free l2 rz0
  replace r1 : w3.cell? ⟨w1.heap.size + 1, 1, none⟩ = some (.int .i64 1000000000000000) := hX0.keep l2 r1
  replace rz1 : w3.frozen? ⟨w1.heap.size + 1, 1, none⟩ = false := hX0.free l2 rz1
  clear hX0 hB3 hE2 e0 ez0 e1 ez1 e2 ez2 e3 ez3 e4 ez4 e5 ez5
  have l13 : w1.heap.size + 1 < w3.heap.size := by omega
  clear l2 l3 l02 l12
  go_wp2_with fail
  refine (H0.out _ (Ext.set (Ext.set hE3 (by dsimp only; have := hE1.size; omega) _) (by dsimp only; have := hE1.size; omega) _)).mono ?_
  rintro e w4 ⟨rfl, hB4⟩
  have hE4 : Ext w w4 := (Ext.set (Ext.set hE3 (by dsimp only; have := hE1.size; omega) _) (by dsimp only; have := hE1.size; omega) _).trans hB4
  go_wp2_with fail
  refine (HP.out _ hE4).mono ?_
  rintro e w5 ⟨v, rfl, hS, hB5⟩
  have hE5 : Ext w w5 := hE4.trans hB5
  obtain ⟨sa, sc, e5⟩ := hS.slice
  subst e5
  have hX := hB4.trans hB5
  have lx : w1.heap.size + 1 < w5.heap.size := by have := hX.size; simp at this; omega
  have n01 : w.heap.size ≠ w1.heap.size := by omega
  have n02 : w.heap.size ≠ w1.heap.size + 1 := by omega
  have n10 : w1.heap.size ≠ w.heap.size := by omega
  have n20 : w1.heap.size + 1 ≠ w.heap.size := by omega
  have l03 : w.heap.size < w3.heap.size := by omega
  have l33 : w1.heap.size < w3.heap.size := by omega
  have g0 : w5.cell? ⟨w.heap.size, 0, none⟩ = some (.int .i64 0) := hX.keep (by simp; omega) (by simp [go_sem, d0, n20, n02])
  have gz0 : w5.frozen? ⟨w.heap.size, 0, none⟩ = false := hX.free (by simp; omega) (by simp [go_sem, z0, n20, n02])
  have g1 : w5.cell? ⟨w.heap.size, 1, none⟩ = some (.slice none 0 0) := hX.keep (by simp; omega) (by simp [go_sem, d1, n20, n02])
  have gz1 : w5.frozen? ⟨w.heap.size, 1, none⟩ = false := hX.free (by simp; omega) (by simp [go_sem, z1, n20, n02])
  have g2 : w5.cell? ⟨w.heap.size, 2, none⟩ = some (.bool false) := hX.keep (by simp; omega) (by simp [go_sem, d2, n20, n02])
  have gz2 : w5.frozen? ⟨w.heap.size, 2, none⟩ = false := hX.free (by simp; omega) (by simp [go_sem, z2, n20, n02])
  have g3 : w5.cell? ⟨w.heap.size, 3, none⟩ = some (.bool false) := hX.keep (by simp; omega) (by simp [go_sem, d3, n20, n02])
  have gz3 : w5.frozen? ⟨w.heap.size, 3, none⟩ = false := hX.free (by simp; omega) (by simp [go_sem, z3, n20, n02])
  have g4 : w5.cell? ⟨w.heap.size, 4, none⟩ = some (.int .i64 0) := hX.keep (by simp; omega) (by simp [go_sem, d4, n20, n02])
  have gz4 : w5.frozen? ⟨w.heap.size, 4, none⟩ = false := hX.free (by simp; omega) (by simp [go_sem, z4, n20, n02])
  have g5 : w5.cell? ⟨w.heap.size, 5, none⟩ = some (.string ⟨#[]⟩) := hX.keep (by simp; omega) (by simp [go_sem, d5, n20, n02])
  have gz5 : w5.frozen? ⟨w.heap.size, 5, none⟩ = false := hX.free (by simp; omega) (by simp [go_sem, z5, n20, n02])
  have px0 : w5.cell? ⟨w1.heap.size, 0, none⟩ = some (.bool false) := hX.keep (by simp; omega) (by simp [go_sem, l13, l33, p0, p1, r0, r1, pz0, pz1, rz0, rz1])
  have px1 : w5.cell? ⟨w1.heap.size, 1, none⟩ = some (.int .i64 f) := hX.keep (by simp; omega) (by simp [go_sem, l13, l33, p0, p1, r0, r1, pz0, pz1, rz0, rz1])
  have rx0 : w5.cell? ⟨w1.heap.size + 1, 0, none⟩ = some (.bool false) := hX.keep (by simp; omega) (by simp [go_sem, l13, l33, p0, p1, r0, r1, pz0, pz1, rz0, rz1])
  have rx1 : w5.cell? ⟨w1.heap.size + 1, 1, none⟩ = some (.int .i64 t) := hX.keep (by simp; omega) (by simp [go_sem, l13, l33, p0, p1, r0, r1, pz0, pz1, rz0, rz1])
  clear hX hB4 hB5 hE4 hE3 p0 p1 r0 r1 pz0 pz1 rz0 rz1 H1 H2 HA H0 HP d0 z0 d1 z1 d2 z2 d3 z3 d4 z4 d5 z5
  have p0 := px0
  have p1 := px1
  have r0 := rx0
  have r1 := rx1
  clear px0 px1 rx0 rx1 n01 n02 n10 n20 l03 l33 l13
  go_wp2
  go_loopw [9, 53] (fun o tx wr => ∃ j : Nat, o = .string (bs (subT Z f t j)) ∧ tx = .int .i64 j ∧ j ≤ Z.length ∧ Ext w5 wr) (fun _ tx _ => downV Z.length tx)
  case atStart => exact ⟨0, rfl, rfl, Nat.zero_le _, Ext.refl _⟩
  case round =>
    obtain ⟨j, rfl, rfl, hj, hX⟩ := hrel
    have hsz := hX.size
    by_cases hlt : j < Z.length
    · have hjI : (j : Int) < (Z.length : Int) := by omega
      have hj0 : (0 : Int) ≤ (j : Int) := by omega
      obtain ⟨g, rfl, hc⟩ := (hS.ext hX).at j hlt
      have hlim := HK.out j
      have hstep : subT Z f t (j + 1) = subT Z f t j ++ (if keepS f t j = true then Z[j] else []) := by rw [subT, List.getD_eq_getElem?_getD, List.getElem?_eq_getElem hlt]; rfl
      have hkeep : keepS f t j = (!(lessS false false (((j : Int) + 1) * 1000000) f) && lessS false false (((j : Int) + 1) * 1000000) t) := rfl
      have hp4 := HL4.out _ (List.getElem_mem hlt)
      obtain ⟨piece, hp⟩ : ∃ piece, Z[j] = piece := ⟨_, rfl⟩
      rw [hp] at hc hstep hp4
      have hcc : ¬ 9223372036854775807 < (bs (subT Z f t j)).size + (bs piece).size := by rw [bs_size, bs_size]; omega
      have HL1 := fun W => less_any false false (((j : Int) + 1) * 1000000) f W
      have HL2 := fun W => less_any false false (((j : Int) + 1) * 1000000) t W
      obtain ⟨b1, h1⟩ : ∃ b1, lessS false false (((j : Int) + 1) * 1000000) f = b1 := ⟨_, rfl⟩
      obtain ⟨b2, h2⟩ : ∃ b2, lessS false false (((j : Int) + 1) * 1000000) t = b2 := ⟨_, rfl⟩
      rw [h1] at HL1 hkeep
      rw [h2] at HL2 hkeep
      rw [hkeep] at hstep
      have HST := Lib.hid hstep
      have HL1 := Lib.hid HL1
      have HL2 := Lib.hid HL2
      have q1 : wr.cell? ⟨w1.heap.size, 0, none⟩ = some (.bool false) := hX.keep (by omega) p0
      have q2 : wr.cell? ⟨w1.heap.size, 1, none⟩ = some (.int .i64 f) := hX.keep (by omega) p1
      have q3 : wr.cell? ⟨w1.heap.size + 1, 0, none⟩ = some (.bool false) := hX.keep (by omega) r0
      have q4 : wr.cell? ⟨w1.heap.size + 1, 1, none⟩ = some (.int .i64 t) := hX.keep (by omega) r1
      have lw : w1.heap.size + 1 < wr.heap.size := by omega
      have lw0 : w1.heap.size < wr.heap.size := by omega
      clear h1 h2 hp hstep hkeep
      go_wp2_with fail
      refine (of_in ((j : Int) + 1) _ (by omega) (by omega)).mono ?_
      rintro e wa ⟨rfl, hBa⟩
      have hXa := hX.trans hBa
      have lwa : w1.heap.size + 1 < wa.heap.size := by have := hBa.size; omega
      have lwa0 : w1.heap.size < wa.heap.size := by omega
      replace q1 := hBa.keep (by omega) q1
      replace q2 := hBa.keep (by omega) q2
      replace q3 := hBa.keep (by omega) q3
      replace q4 := hBa.keep (by omega) q4
      clear hBa hX
      go_wp2_with fail
      refine (HL1.out _).mono ?_
      rintro e wb ⟨rfl, hBb⟩
      have hXb : Ext w5 wb := (hXa.alloc _).trans hBb
      have lwb : wa.heap.size < wb.heap.size := by have := hBb.size; simp at this; omega
      have lwb0 : w1.heap.size < wb.heap.size := by omega
      have lwb1 : w1.heap.size + 1 < wb.heap.size := by omega
      have s1 : wb.cell? ⟨wa.heap.size, 0, none⟩ = some (.bool false) := hBb.keep (by simp) (by simp [go_sem])
      have s2 : wb.cell? ⟨wa.heap.size, 1, none⟩ = some (.int .i64 (((j : Int) + 1) * 1000000)) := hBb.keep (by simp) (by simp [go_sem])
      replace hBb : Ext wa wb := ((Ext.refl wa).alloc _).trans hBb
      replace q1 := hBb.keep (by omega) q1
      replace q2 := hBb.keep (by omega) q2
      replace q3 := hBb.keep (by omega) q3
      replace q4 := hBb.keep (by omega) q4
      clear hBb hXa
      cases b1 with
      | true =>
        rw [Bool.not_true, Bool.false_and, if_neg (by decide), List.append_nil] at HST
        go_wp2
        go_roundw
        case rel => exact ⟨j + 1, by rw [HST.out], by push_cast; rfl, hlt, hXb⟩
        case measure => simp only [downV]; omega
      | false =>
        cases b2 with
        | false =>
          rw [Bool.and_false, if_neg (by decide), List.append_nil] at HST
          go_wp2_with fail
          refine (HL2.out _).mono ?_
          rintro e wc ⟨rfl, hBc⟩
          have hXc : Ext w5 wc := hXb.trans hBc
          go_wp2
          go_roundw
          case rel => exact ⟨j + 1, by rw [HST.out], by push_cast; rfl, hlt, hXc⟩
          case measure => simp only [downV]; omega
        | true =>
          rw [Bool.not_false, Bool.true_and, if_pos rfl] at HST
          go_wp2_with fail
          refine (HL2.out _).mono ?_
          rintro e wc ⟨rfl, hBc⟩
          have hXc : Ext w5 wc := hXb.trans hBc
          go_wp2
          go_roundw
          case rel => exact ⟨j + 1, by rw [HST.out, ← bs_append], by push_cast; rfl, hlt, hXc⟩
          case measure => simp only [downV]; omega
    · have hjI : ¬ ((j : Int) < (Z.length : Int)) := by omega
      obtain rfl : j = Z.length := by omega
      go_wp2_with fail
      refine (ftext_any _ _).mono ?_
      rintro e wa ⟨rfl, hBa⟩
      have hXa := hX.trans hBa
      have hEa : Ext w wa := Ext.trans hE5 hXa
      have lw0 : w.heap.size < wa.heap.size := by have := hXa.size; omega
      replace g0 := hXa.keep (by omega) g0
      replace gz0 := hXa.free (by omega) gz0
      replace g1 := hXa.keep (by omega) g1
      replace gz1 := hXa.free (by omega) gz1
      replace g2 := hXa.keep (by omega) g2
      replace gz2 := hXa.free (by omega) gz2
      replace g3 := hXa.keep (by omega) g3
      replace gz3 := hXa.free (by omega) gz3
      replace g4 := hXa.keep (by omega) g4
      replace gz4 := hXa.free (by omega) gz4
      replace g5 := hXa.keep (by omega) g5
      replace gz5 := hXa.free (by omega) gz5
      clear hBa hX hXa
      go_wp2_with fail
      refine bodyPost_ret (v := .tuple #[valV 4 false false 0 (bs (subT Z f t Z.length)), .int .i64 0]) (by simp [results, Tryz.results46, go_sem, lw0, g0, g1, g2, g3, g4, g5]) rfl ⟨rfl, ?_⟩
      repeat refine Ext.set ?_ (by dsimp only; omega) _
      exact hEa
end Go.Proofs.YtcdehcclkhmbiaaGreatDoor
