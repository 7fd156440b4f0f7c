/-
  The small functions of package funcs, over what they call. Helper lemmas; no statement of the seat is proved here.
-/
import Derived.Test.YtcdehcclkhmbiaaGreatDoorFVal
import Derived.Test.YtcdehcclkhmbiaaGreatDoorShelf
import Derived.LoopTactic
namespace Go.Proofs.YtcdehcclkhmbiaaGreatDoor
open Go.RowKit
set_option maxRecDepth 100000
set_option linter.unusedVariables false
set_option linter.unusedSimpArgs false

/-- The i-th argument as a text, in every later world. -/
def TextOf (w : World) (q : Nat) (i : Int) (R : ByteArray) : Prop := ∀ W, Ext w W → Calls Tryz.prog 27 #[.pointer (some ⟨q, 0, none⟩), .int .i64 i] W fun e w' => e = .returned (.string R) ∧ Ext W w'
/-- The i-th argument as a number, in every later world. -/
def NumOf (w : World) (q : Nat) (i : Int) (r1 : Bool) (r2 r3 : Int) : Prop := ∀ W, Ext w W → Calls Tryz.prog 74 #[.pointer (some ⟨q, 0, none⟩), .int .i64 i] W fun e w' => e = .returned (.tuple #[.agg #[.bool r1, .int .i64 r2], .int .i64 r3]) ∧ Ext W w'

set_option maxHeartbeats 2000000 in
theorem ftext_any (s : ByteArray) (w : World) : Calls Tryz.prog 35 #[.string s] w fun e w' => e = .returned (.tuple #[valV 4 false false 0 s, .int .i64 0]) ∧ Ext w w' := by
  go_enter Tryz.func35, Tryz.ntmps35
  go_wp2_with fail
  refine bodyPost_ret (v := .tuple #[valV 4 false false 0 s, .int .i64 0]) (by simp [results, Tryz.results35, go_sem]) rfl ⟨rfl, ?_⟩
  repeat refine Ext.set ?_ (by dsimp only; omega) _
  exact ((Ext.refl w).alloc _)
set_option maxHeartbeats 2000000 in
theorem ftruth_any (b : Bool) (w : World) : Calls Tryz.prog 53 #[.bool b] w fun e w' => e = .returned (.tuple #[valV 2 b false 0 ⟨#[]⟩, .int .i64 0]) ∧ Ext w w' := by
  go_enter Tryz.func53, Tryz.ntmps53
  go_wp2_with fail
  refine bodyPost_ret (v := .tuple #[valV 2 b false 0 ⟨#[]⟩, .int .i64 0]) (by simp [results, Tryz.results53, go_sem]) rfl ⟨rfl, ?_⟩
  repeat refine Ext.set ?_ (by dsimp only; omega) _
  exact ((Ext.refl w).alloc _)
set_option maxHeartbeats 2000000 in
theorem fnum_ok (n : Bool) (v : Int) (w : World) : Calls Tryz.prog 65 #[.agg #[.bool n, .int .i64 v], .int .i64 0] w fun e w' => e = .returned (.tuple #[valV 3 false n v ⟨#[]⟩, .int .i64 0]) ∧ Ext w w' := by
  go_enter Tryz.func65, Tryz.ntmps65
  go_wp2_with fail
  refine bodyPost_ret (v := .tuple #[valV 3 false n v ⟨#[]⟩, .int .i64 0]) (by simp [results, Tryz.results65, go_sem]) rfl ⟨rfl, ?_⟩
  repeat refine Ext.set ?_ (by dsimp only; omega) _
  exact (((Ext.refl w).alloc _).alloc _)
set_option maxHeartbeats 2000000 in
theorem fnum_no (n : Bool) (v c : Int) (w : World) (hc : ((c : Int) != 0) = true) : Calls Tryz.prog 65 #[.agg #[.bool n, .int .i64 v], .int .i64 c] w fun e w' => e = .returned (.tuple #[valV 0 false false 0 ⟨#[]⟩, .int .i64 c]) ∧ Ext w w' := by
  go_enter Tryz.func65, Tryz.ntmps65
  go_wp2_with fail
  refine bodyPost_ret (v := .tuple #[valV 0 false false 0 ⟨#[]⟩, .int .i64 c]) (by simp [results, Tryz.results65, go_sem]) rfl ⟨rfl, ?_⟩
  repeat refine Ext.set ?_ (by dsimp only; omega) _
  exact (((Ext.refl w).alloc _).alloc _)
set_option maxHeartbeats 2000000 in
theorem fwhole_ok (n : Int) (w : World) (h1 : n ≤ 1000000000) (h2 : -1000000000 ≤ n) : Calls Tryz.prog 21 #[.int .i64 n] w fun e w' => e = .returned (.tuple #[valV 3 false false (n * 1000000) ⟨#[]⟩, .int .i64 0]) ∧ Ext w w' := by
  go_enter Tryz.func21, Tryz.ntmps21
  go_wp2_with fail
  refine (of_in n _ h1 h2).mono ?_
  rintro e w1 ⟨rfl, hB1⟩
  have hE1 : Ext w w1 := ((Ext.refl w).alloc _).trans hB1
  go_wp2_with fail
  refine (fnum_ok false (n * 1000000) _).mono ?_
  rintro e w2 ⟨rfl, hB2⟩
  have hE2 : Ext w w2 := hE1.trans hB2
  have hX := (hB1.trans hB2)
  have lx : w.heap.size < w2.heap.size := by have := hX.size; simp at this; omega
  have d0 : w2.cell? ⟨w.heap.size, 0, none⟩ = some (.int .i64 0) := hX.keep (by simp) (by simp [go_sem])
  have z0 : w2.frozen? ⟨w.heap.size, 0, none⟩ = false := hX.free (by simp) (by simp [go_sem])
  have d1 : w2.cell? ⟨w.heap.size, 1, none⟩ = some (.slice none 0 0) := hX.keep (by simp) (by simp [go_sem])
  have z1 : w2.frozen? ⟨w.heap.size, 1, none⟩ = false := hX.free (by simp) (by simp [go_sem])
  have d2 : w2.cell? ⟨w.heap.size, 2, none⟩ = some (.bool false) := hX.keep (by simp) (by simp [go_sem])
  have z2 : w2.frozen? ⟨w.heap.size, 2, none⟩ = false := hX.free (by simp) (by simp [go_sem])
  have d3 : w2.cell? ⟨w.heap.size, 3, none⟩ = some (.bool false) := hX.keep (by simp) (by simp [go_sem])
  have z3 : w2.frozen? ⟨w.heap.size, 3, none⟩ = false := hX.free (by simp) (by simp [go_sem])
  have d4 : w2.cell? ⟨w.heap.size, 4, none⟩ = some (.int .i64 0) := hX.keep (by simp) (by simp [go_sem])
  have z4 : w2.frozen? ⟨w.heap.size, 4, none⟩ = false := hX.free (by simp) (by simp [go_sem])
  have d5 : w2.cell? ⟨w.heap.size, 5, none⟩ = some (.string ⟨#[]⟩) := hX.keep (by simp) (by simp [go_sem])
  have z5 : w2.frozen? ⟨w.heap.size, 5, none⟩ = false := hX.free (by simp) (by simp [go_sem])
  clear hX hB1 hB2
  go_wp2_with fail
  refine bodyPost_ret (v := .tuple #[valV 3 false false (n * 1000000) ⟨#[]⟩, .int .i64 0]) (by simp [results, Tryz.results21, go_sem, lx, d0, d1, d2, d3, d4, d5]) rfl ⟨rfl, ?_⟩
  repeat refine Ext.set ?_ (by dsimp only; omega) _
  exact hE2
set_option maxHeartbeats 2000000 in
theorem fn_string (q : Nat) (R0 : ByteArray) (w : World) (T0 : Hid (TextOf w q 0 R0)) : Calls Tryz.prog 39 #[.pointer (some ⟨q, 0, none⟩)] w fun e w' => e = .returned (.tuple #[valV 4 false false 0 R0, .int .i64 0]) ∧ Ext w w' := by
  go_enter Tryz.func39, Tryz.ntmps39
  go_wp2_with fail
  refine (T0.out _ (((Ext.refl w).alloc _))).mono ?_
  rintro e w1 ⟨rfl, hB1⟩
  have hE1 : Ext w w1 := ((Ext.refl w).alloc _).trans hB1
  go_wp2_with fail
  refine (ftext_any R0 _).mono ?_
  rintro e w2 ⟨rfl, hB2⟩
  have hE2 : Ext w w2 := hE1.trans hB2
  have hX := (hB1.trans hB2)
  have lx : w.heap.size < w2.heap.size := by have := hX.size; simp at this; omega
  have d0 : w2.cell? ⟨w.heap.size, 0, none⟩ = some (.int .i64 0) := hX.keep (by simp) (by simp [go_sem])
  have z0 : w2.frozen? ⟨w.heap.size, 0, none⟩ = false := hX.free (by simp) (by simp [go_sem])
  have d1 : w2.cell? ⟨w.heap.size, 1, none⟩ = some (.slice none 0 0) := hX.keep (by simp) (by simp [go_sem])
  have z1 : w2.frozen? ⟨w.heap.size, 1, none⟩ = false := hX.free (by simp) (by simp [go_sem])
  have d2 : w2.cell? ⟨w.heap.size, 2, none⟩ = some (.bool false) := hX.keep (by simp) (by simp [go_sem])
  have z2 : w2.frozen? ⟨w.heap.size, 2, none⟩ = false := hX.free (by simp) (by simp [go_sem])
  have d3 : w2.cell? ⟨w.heap.size, 3, none⟩ = some (.bool false) := hX.keep (by simp) (by simp [go_sem])
  have z3 : w2.frozen? ⟨w.heap.size, 3, none⟩ = false := hX.free (by simp) (by simp [go_sem])
  have d4 : w2.cell? ⟨w.heap.size, 4, none⟩ = some (.int .i64 0) := hX.keep (by simp) (by simp [go_sem])
  have z4 : w2.frozen? ⟨w.heap.size, 4, none⟩ = false := hX.free (by simp) (by simp [go_sem])
  have d5 : w2.cell? ⟨w.heap.size, 5, none⟩ = some (.string ⟨#[]⟩) := hX.keep (by simp) (by simp [go_sem])
  have z5 : w2.frozen? ⟨w.heap.size, 5, none⟩ = false := hX.free (by simp) (by simp [go_sem])
  clear hX hB1 hB2
  go_wp2_with fail
  refine bodyPost_ret (v := .tuple #[valV 4 false false 0 R0, .int .i64 0]) (by simp [results, Tryz.results39, go_sem, lx, d0, d1, d2, d3, d4, d5]) rfl ⟨rfl, ?_⟩
  repeat refine Ext.set ?_ (by dsimp only; omega) _
  exact hE2
theorem hasPrefix_any (s p : ByteArray) (w : World) : Calls Tryz.prog 61 #[.string s, .string p] w fun e w' => e = .returned (.bool (Lib.hasPrefix s.data.toList p.data.toList)) ∧ Ext w w' := by
  refine (Tryz.strings_HasPrefix s p w).mono fun e w' ⟨he, hw⟩ => ⟨he, ?_⟩
  subst hw; exact Ext.refl _
theorem contains_any (s p : ByteArray) (w : World) (hs : s.size ≤ 4294967280) (G : Glob w) : Calls Tryz.prog 63 #[.string s, .string p] w fun e w' => e = .returned (.bool (Lib.contains s.data.toList p.data.toList)) ∧ Ext w w' := by
  obtain ⟨m, hm⟩ := G.m
  refine (Tryz.strings_Contains s p m w (by omega) hm).mono fun e w' ⟨he, hw⟩ => ⟨he, ?_⟩
  first | (subst hw; exact Ext.refl _) | (obtain ⟨k, hw⟩ := hw; subst hw; exact (Ext.refl _).drewN k)
theorem cutL_any (s p : ByteArray) (w : World) (hs : s.size ≤ 4294967280) (G : Glob w) : Calls Tryz.prog 82 #[.string s, .string p] w fun e w' => e = .returned (.tuple #[.string (bs (Lib.cut s.data.toList p.data.toList).1), .string (bs (Lib.cut s.data.toList p.data.toList).2.1), .bool (Lib.cut s.data.toList p.data.toList).2.2]) ∧ Ext w w' := by
  obtain ⟨m, hm⟩ := G.m
  refine (Tryz.strings_Cut s p m w (by omega) hm).mono fun e w' ⟨he, n, hw⟩ => ⟨he, by rw [hw]; exact (Ext.refl _).drewN n⟩
/-- what stands ahead of a part, and behind it; nothing of either where it is not there -/
def cutS (s p : List UInt8) : List UInt8 × List UInt8 := if (Lib.cut s p).2.2 = true then ((Lib.cut s p).1, (Lib.cut s p).2.1) else ([], [])
set_option maxHeartbeats 2000000 in
theorem ccut_any (q : Nat) (R0 R1 : ByteArray) (w : World) (T0 : Hid (TextOf w q 0 R0)) (T1 : Hid (TextOf w q 1 R1)) (G : Glob w) (h0 : R0.size ≤ 4294967280) :
    Calls Tryz.prog 44 #[.pointer (some ⟨q, 0, none⟩)] w fun e w' => e = .returned (.tuple #[.string (bs (cutS R0.data.toList R1.data.toList).1), .string (bs (cutS R0.data.toList R1.data.toList).2)]) ∧ Ext w w' := by
  obtain ⟨a, ea⟩ : ∃ a, (Lib.cut R0.data.toList R1.data.toList).1 = a := ⟨_, rfl⟩
  obtain ⟨b, eb⟩ : ∃ b, (Lib.cut R0.data.toList R1.data.toList).2.1 = b := ⟨_, rfl⟩
  have HC := fun W (hG : Glob W) => cutL_any R0 R1 W h0 hG
  unfold cutS
  rw [ea, eb] at *
  cases hf : (Lib.cut R0.data.toList R1.data.toList).2.2 with
  | true =>
    rw [if_pos rfl]
    rw [hf] at HC
    have HC := Lib.hid HC
    clear hf ea eb
    go_enter Tryz.func44, Tryz.ntmps44
    go_wp2_with fail
    refine (T0.out _ (Ext.refl _)).mono ?_
    rintro e w1 ⟨rfl, hB1⟩
    go_wp2_with fail
    refine (T1.out _ hB1).mono ?_
    rintro e w2 ⟨rfl, hB2⟩
    go_wp2_with fail
    refine (HC.out _ (G.ext (hB1.trans hB2))).mono ?_
    rintro e w3 ⟨rfl, hB3⟩
    go_wp2_with fail
    go_ret2
    exact ⟨rfl, (hB1.trans hB2).trans hB3⟩
  | false =>
    rw [if_neg (by decide)]
    rw [hf] at HC
    have HC := Lib.hid HC
    clear hf ea eb
    go_enter Tryz.func44, Tryz.ntmps44
    go_wp2_with fail
    refine (T0.out _ (Ext.refl _)).mono ?_
    rintro e w1 ⟨rfl, hB1⟩
    go_wp2_with fail
    refine (T1.out _ hB1).mono ?_
    rintro e w2 ⟨rfl, hB2⟩
    go_wp2_with fail
    refine (HC.out _ (G.ext (hB1.trans hB2))).mono ?_
    rintro e w3 ⟨rfl, hB3⟩
    go_wp2_with fail
    go_ret2
    exact ⟨rfl, (hB1.trans hB2).trans hB3⟩
set_option maxHeartbeats 2000000 in
theorem fn_starts (q : Nat) (R0 R1 : ByteArray) (w : World) (T0 : Hid (TextOf w q 0 R0)) (T1 : Hid (TextOf w q 1 R1)) : Calls Tryz.prog 60 #[.pointer (some ⟨q, 0, none⟩)] w fun e w' => e = .returned (.tuple #[valV 2 (Lib.hasPrefix R0.data.toList R1.data.toList) false 0 ⟨#[]⟩, .int .i64 0]) ∧ Ext w w' := by
  go_enter Tryz.func60, Tryz.ntmps60
  go_wp2_with fail
  refine (T0.out _ (((Ext.refl w).alloc _))).mono ?_
  rintro e w1 ⟨rfl, hB1⟩
  have hE1 : Ext w w1 := ((Ext.refl w).alloc _).trans hB1
  go_wp2_with fail
  refine (T1.out _ (hE1)).mono ?_
  rintro e w2 ⟨rfl, hB2⟩
  have hE2 : Ext w w2 := hE1.trans hB2
  go_wp2_with fail
  refine (hasPrefix_any R0 R1 _).mono ?_
  rintro e w3 ⟨rfl, hB3⟩
  have hE3 : Ext w w3 := hE2.trans hB3
  go_wp2_with fail
  refine (ftruth_any (Lib.hasPrefix R0.data.toList R1.data.toList) _).mono ?_
  rintro e w4 ⟨rfl, hB4⟩
  have hE4 : Ext w w4 := hE3.trans hB4
  have hX := (((hB1.trans hB2).trans hB3).trans hB4)
  have lx : w.heap.size < w4.heap.size := by have := hX.size; simp at this; omega
  have d0 : w4.cell? ⟨w.heap.size, 0, none⟩ = some (.int .i64 0) := hX.keep (by simp) (by simp [go_sem])
  have z0 : w4.frozen? ⟨w.heap.size, 0, none⟩ = false := hX.free (by simp) (by simp [go_sem])
  have d1 : w4.cell? ⟨w.heap.size, 1, none⟩ = some (.slice none 0 0) := hX.keep (by simp) (by simp [go_sem])
  have z1 : w4.frozen? ⟨w.heap.size, 1, none⟩ = false := hX.free (by simp) (by simp [go_sem])
  have d2 : w4.cell? ⟨w.heap.size, 2, none⟩ = some (.bool false) := hX.keep (by simp) (by simp [go_sem])
  have z2 : w4.frozen? ⟨w.heap.size, 2, none⟩ = false := hX.free (by simp) (by simp [go_sem])
  have d3 : w4.cell? ⟨w.heap.size, 3, none⟩ = some (.bool false) := hX.keep (by simp) (by simp [go_sem])
  have z3 : w4.frozen? ⟨w.heap.size, 3, none⟩ = false := hX.free (by simp) (by simp [go_sem])
  have d4 : w4.cell? ⟨w.heap.size, 4, none⟩ = some (.int .i64 0) := hX.keep (by simp) (by simp [go_sem])
  have z4 : w4.frozen? ⟨w.heap.size, 4, none⟩ = false := hX.free (by simp) (by simp [go_sem])
  have d5 : w4.cell? ⟨w.heap.size, 5, none⟩ = some (.string ⟨#[]⟩) := hX.keep (by simp) (by simp [go_sem])
  have z5 : w4.frozen? ⟨w.heap.size, 5, none⟩ = false := hX.free (by simp) (by simp [go_sem])
  clear hX hB1 hB2 hB3 hB4
  go_wp2_with fail
  refine bodyPost_ret (v := .tuple #[valV 2 (Lib.hasPrefix R0.data.toList R1.data.toList) false 0 ⟨#[]⟩, .int .i64 0]) (by simp [results, Tryz.results60, go_sem, lx, d0, d1, d2, d3, d4, d5]) rfl ⟨rfl, ?_⟩
  repeat refine Ext.set ?_ (by dsimp only; omega) _
  exact hE4
set_option maxHeartbeats 2000000 in
theorem fn_contains (q : Nat) (R0 R1 : ByteArray) (w : World) (T0 : Hid (TextOf w q 0 R0)) (T1 : Hid (TextOf w q 1 R1)) (G : Glob w) (h0 : R0.size ≤ 4294967280) : Calls Tryz.prog 62 #[.pointer (some ⟨q, 0, none⟩)] w fun e w' => e = .returned (.tuple #[valV 2 (Lib.contains R0.data.toList R1.data.toList) false 0 ⟨#[]⟩, .int .i64 0]) ∧ Ext w w' := by
  go_enter Tryz.func62, Tryz.ntmps62
  go_wp2_with fail
  refine (T0.out _ (((Ext.refl w).alloc _))).mono ?_
  rintro e w1 ⟨rfl, hB1⟩
  have hE1 : Ext w w1 := ((Ext.refl w).alloc _).trans hB1
  go_wp2_with fail
  refine (T1.out _ (hE1)).mono ?_
  rintro e w2 ⟨rfl, hB2⟩
  have hE2 : Ext w w2 := hE1.trans hB2
  go_wp2_with fail
  refine (contains_any R0 R1 _ h0 (G.ext (hE2))).mono ?_
  rintro e w3 ⟨rfl, hB3⟩
  have hE3 : Ext w w3 := hE2.trans hB3
  go_wp2_with fail
  refine (ftruth_any (Lib.contains R0.data.toList R1.data.toList) _).mono ?_
  rintro e w4 ⟨rfl, hB4⟩
  have hE4 : Ext w w4 := hE3.trans hB4
  have hX := (((hB1.trans hB2).trans hB3).trans hB4)
  have lx : w.heap.size < w4.heap.size := by have := hX.size; simp at this; omega
  have d0 : w4.cell? ⟨w.heap.size, 0, none⟩ = some (.int .i64 0) := hX.keep (by simp) (by simp [go_sem])
  have z0 : w4.frozen? ⟨w.heap.size, 0, none⟩ = false := hX.free (by simp) (by simp [go_sem])
  have d1 : w4.cell? ⟨w.heap.size, 1, none⟩ = some (.slice none 0 0) := hX.keep (by simp) (by simp [go_sem])
  have z1 : w4.frozen? ⟨w.heap.size, 1, none⟩ = false := hX.free (by simp) (by simp [go_sem])
  have d2 : w4.cell? ⟨w.heap.size, 2, none⟩ = some (.bool false) := hX.keep (by simp) (by simp [go_sem])
  have z2 : w4.frozen? ⟨w.heap.size, 2, none⟩ = false := hX.free (by simp) (by simp [go_sem])
  have d3 : w4.cell? ⟨w.heap.size, 3, none⟩ = some (.bool false) := hX.keep (by simp) (by simp [go_sem])
  have z3 : w4.frozen? ⟨w.heap.size, 3, none⟩ = false := hX.free (by simp) (by simp [go_sem])
  have d4 : w4.cell? ⟨w.heap.size, 4, none⟩ = some (.int .i64 0) := hX.keep (by simp) (by simp [go_sem])
  have z4 : w4.frozen? ⟨w.heap.size, 4, none⟩ = false := hX.free (by simp) (by simp [go_sem])
  have d5 : w4.cell? ⟨w.heap.size, 5, none⟩ = some (.string ⟨#[]⟩) := hX.keep (by simp) (by simp [go_sem])
  have z5 : w4.frozen? ⟨w.heap.size, 5, none⟩ = false := hX.free (by simp) (by simp [go_sem])
  clear hX hB1 hB2 hB3 hB4
  go_wp2_with fail
  refine bodyPost_ret (v := .tuple #[valV 2 (Lib.contains R0.data.toList R1.data.toList) false 0 ⟨#[]⟩, .int .i64 0]) (by simp [results, Tryz.results62, go_sem, lx, d0, d1, d2, d3, d4, d5]) rfl ⟨rfl, ?_⟩
  repeat refine Ext.set ?_ (by dsimp only; omega) _
  exact hE4
set_option maxHeartbeats 2000000 in
theorem fn_before (q : Nat) (a b : ByteArray) (w : World) (C : Hid (∀ W, Ext w W → Calls Tryz.prog 44 #[.pointer (some ⟨q, 0, none⟩)] W fun e w' => e = .returned (.tuple #[.string a, .string b]) ∧ Ext W w')) : Calls Tryz.prog 43 #[.pointer (some ⟨q, 0, none⟩)] w fun e w' => e = .returned (.tuple #[valV 4 false false 0 a, .int .i64 0]) ∧ Ext w w' := by
  go_enter Tryz.func43, Tryz.ntmps43
  go_wp2_with fail
  refine (C.out _ (((Ext.refl w).alloc _))).mono ?_
  rintro e w1 ⟨rfl, hB1⟩
  have hE1 : Ext w w1 := ((Ext.refl w).alloc _).trans hB1
  go_wp2_with fail
  refine (ftext_any a _).mono ?_
  rintro e w2 ⟨rfl, hB2⟩
  have hE2 : Ext w w2 := hE1.trans hB2
  have hX := (hB1.trans hB2)
  have lx : w.heap.size < w2.heap.size := by have := hX.size; simp at this; omega
  have d0 : w2.cell? ⟨w.heap.size, 0, none⟩ = some (.int .i64 0) := hX.keep (by simp) (by simp [go_sem])
  have z0 : w2.frozen? ⟨w.heap.size, 0, none⟩ = false := hX.free (by simp) (by simp [go_sem])
  have d1 : w2.cell? ⟨w.heap.size, 1, none⟩ = some (.slice none 0 0) := hX.keep (by simp) (by simp [go_sem])
  have z1 : w2.frozen? ⟨w.heap.size, 1, none⟩ = false := hX.free (by simp) (by simp [go_sem])
  have d2 : w2.cell? ⟨w.heap.size, 2, none⟩ = some (.bool false) := hX.keep (by simp) (by simp [go_sem])
  have z2 : w2.frozen? ⟨w.heap.size, 2, none⟩ = false := hX.free (by simp) (by simp [go_sem])
  have d3 : w2.cell? ⟨w.heap.size, 3, none⟩ = some (.bool false) := hX.keep (by simp) (by simp [go_sem])
  have z3 : w2.frozen? ⟨w.heap.size, 3, none⟩ = false := hX.free (by simp) (by simp [go_sem])
  have d4 : w2.cell? ⟨w.heap.size, 4, none⟩ = some (.int .i64 0) := hX.keep (by simp) (by simp [go_sem])
  have z4 : w2.frozen? ⟨w.heap.size, 4, none⟩ = false := hX.free (by simp) (by simp [go_sem])
  have d5 : w2.cell? ⟨w.heap.size, 5, none⟩ = some (.string ⟨#[]⟩) := hX.keep (by simp) (by simp [go_sem])
  have z5 : w2.frozen? ⟨w.heap.size, 5, none⟩ = false := hX.free (by simp) (by simp [go_sem])
  clear hX hB1 hB2
  go_wp2_with fail
  refine bodyPost_ret (v := .tuple #[valV 4 false false 0 a, .int .i64 0]) (by simp [results, Tryz.results43, go_sem, lx, d0, d1, d2, d3, d4, d5]) rfl ⟨rfl, ?_⟩
  repeat refine Ext.set ?_ (by dsimp only; omega) _
  exact hE2
set_option maxHeartbeats 2000000 in
theorem fn_after (q : Nat) (a b : ByteArray) (w : World) (C : Hid (∀ W, Ext w W → Calls Tryz.prog 44 #[.pointer (some ⟨q, 0, none⟩)] W fun e w' => e = .returned (.tuple #[.string a, .string b]) ∧ Ext W w')) : Calls Tryz.prog 45 #[.pointer (some ⟨q, 0, none⟩)] w fun e w' => e = .returned (.tuple #[valV 4 false false 0 b, .int .i64 0]) ∧ Ext w w' := by
  go_enter Tryz.func45, Tryz.ntmps45
  go_wp2_with fail
  refine (C.out _ (((Ext.refl w).alloc _))).mono ?_
  rintro e w1 ⟨rfl, hB1⟩
  have hE1 : Ext w w1 := ((Ext.refl w).alloc _).trans hB1
  go_wp2_with fail
  refine (ftext_any b _).mono ?_
  rintro e w2 ⟨rfl, hB2⟩
  have hE2 : Ext w w2 := hE1.trans hB2
  have hX := (hB1.trans hB2)
  have lx : w.heap.size < w2.heap.size := by have := hX.size; simp at this; omega
  have d0 : w2.cell? ⟨w.heap.size, 0, none⟩ = some (.int .i64 0) := hX.keep (by simp) (by simp [go_sem])
  have z0 : w2.frozen? ⟨w.heap.size, 0, none⟩ = false := hX.free (by simp) (by simp [go_sem])
  have d1 : w2.cell? ⟨w.heap.size, 1, none⟩ = some (.slice none 0 0) := hX.keep (by simp) (by simp [go_sem])
  have z1 : w2.frozen? ⟨w.heap.size, 1, none⟩ = false := hX.free (by simp) (by simp [go_sem])
  have d2 : w2.cell? ⟨w.heap.size, 2, none⟩ = some (.bool false) := hX.keep (by simp) (by simp [go_sem])
  have z2 : w2.frozen? ⟨w.heap.size, 2, none⟩ = false := hX.free (by simp) (by simp [go_sem])
  have d3 : w2.cell? ⟨w.heap.size, 3, none⟩ = some (.bool false) := hX.keep (by simp) (by simp [go_sem])
  have z3 : w2.frozen? ⟨w.heap.size, 3, none⟩ = false := hX.free (by simp) (by simp [go_sem])
  have d4 : w2.cell? ⟨w.heap.size, 4, none⟩ = some (.int .i64 0) := hX.keep (by simp) (by simp [go_sem])
  have z4 : w2.frozen? ⟨w.heap.size, 4, none⟩ = false := hX.free (by simp) (by simp [go_sem])
  have d5 : w2.cell? ⟨w.heap.size, 5, none⟩ = some (.string ⟨#[]⟩) := hX.keep (by simp) (by simp [go_sem])
  have z5 : w2.frozen? ⟨w.heap.size, 5, none⟩ = false := hX.free (by simp) (by simp [go_sem])
  clear hX hB1 hB2
  go_wp2_with fail
  refine bodyPost_ret (v := .tuple #[valV 4 false false 0 b, .int .i64 0]) (by simp [results, Tryz.results45, go_sem, lx, d0, d1, d2, d3, d4, d5]) rfl ⟨rfl, ?_⟩
  repeat refine Ext.set ?_ (by dsimp only; omega) _
  exact hE2
end Go.Proofs.YtcdehcclkhmbiaaGreatDoor
