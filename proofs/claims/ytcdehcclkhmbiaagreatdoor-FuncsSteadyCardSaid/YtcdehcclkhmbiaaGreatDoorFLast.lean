/-
  The closures of concat and translate. Helper lemmas; no statement of the seat is proved here.
-/
import Derived.Test.YtcdehcclkhmbiaaGreatDoorFSub
namespace Go.Proofs.YtcdehcclkhmbiaaGreatDoor
open Go.RowKit
set_option maxRecDepth 100000
set_option linter.unusedVariables false
set_option linter.unusedSimpArgs false

set_option maxHeartbeats 2000000 in
theorem fn_translate (q : Nat) (a b c : List UInt8) (w : World) (T0 : Hid (TextOf w q 0 (bs a))) (T1 : Hid (TextOf w q 1 (bs b))) (T2 : Hid (TextOf w q 2 (bs c))) (U : GlobU w) (ha : a.length ≤ 1000000000) (hb : b.length ≤ 1000000000) (hc : c.length ≤ 1000000000) : Calls Tryz.prog 49 #[.pointer (some ⟨q, 0, none⟩)] w fun e w' => e = .returned (.tuple #[valV 4 false false 0 (bs (trL (Pc.pieces a) (Pc.pieces b) (Pc.pieces c))), .int .i64 0]) ∧ Ext w w' := by
  go_enter Tryz.func49, Tryz.ntmps49
  go_wp2_with fail
  refine (T0.out _ (((Ext.refl w).alloc _))).mono ?_
  rintro e w1 ⟨rfl, hB1⟩
  have hE1 : Ext w w1 := ((Ext.refl w).alloc _).trans hB1
  go_wp2_with fail
  refine (T1.out _ (hE1)).mono ?_
  rintro e w2 ⟨rfl, hB2⟩
  have hE2 : Ext w w2 := hE1.trans hB2
  go_wp2_with fail
  refine (T2.out _ (hE2)).mono ?_
  rintro e w3 ⟨rfl, hB3⟩
  have hE3 : Ext w w3 := hE2.trans hB3
  go_wp2_with fail
  refine (translate_any a b c _ (U.ext (hE3)) ha hb hc).mono ?_
  rintro e w4 ⟨rfl, hB4⟩
  have hE4 : Ext w w4 := hE3.trans hB4
  go_wp2_with fail
  refine (ftext_any (bs (trL (Pc.pieces a) (Pc.pieces b) (Pc.pieces c))) _).mono ?_
  rintro e w5 ⟨rfl, hB5⟩
  have hE5 : Ext w w5 := hE4.trans hB5
  have hX := ((((hB1.trans hB2).trans hB3).trans hB4).trans hB5)
  have lx : w.heap.size < w5.heap.size := by have := hX.size; simp at this; omega
  have d0 : w5.cell? ⟨w.heap.size, 0, none⟩ = some (.int .i64 0) := hX.keep (by simp) (by simp [go_sem])
  have z0 : w5.frozen? ⟨w.heap.size, 0, none⟩ = false := hX.free (by simp) (by simp [go_sem])
  have d1 : w5.cell? ⟨w.heap.size, 1, none⟩ = some (.slice none 0 0) := hX.keep (by simp) (by simp [go_sem])
  have z1 : w5.frozen? ⟨w.heap.size, 1, none⟩ = false := hX.free (by simp) (by simp [go_sem])
  have d2 : w5.cell? ⟨w.heap.size, 2, none⟩ = some (.bool false) := hX.keep (by simp) (by simp [go_sem])
  have z2 : w5.frozen? ⟨w.heap.size, 2, none⟩ = false := hX.free (by simp) (by simp [go_sem])
  have d3 : w5.cell? ⟨w.heap.size, 3, none⟩ = some (.bool false) := hX.keep (by simp) (by simp [go_sem])
  have z3 : w5.frozen? ⟨w.heap.size, 3, none⟩ = false := hX.free (by simp) (by simp [go_sem])
  have d4 : w5.cell? ⟨w.heap.size, 4, none⟩ = some (.int .i64 0) := hX.keep (by simp) (by simp [go_sem])
  have z4 : w5.frozen? ⟨w.heap.size, 4, none⟩ = false := hX.free (by simp) (by simp [go_sem])
  have d5 : w5.cell? ⟨w.heap.size, 5, none⟩ = some (.string ⟨#[]⟩) := hX.keep (by simp) (by simp [go_sem])
  have z5 : w5.frozen? ⟨w.heap.size, 5, none⟩ = false := hX.free (by simp) (by simp [go_sem])
  clear hX hB1 hB2 hB3 hB4 hB5
  go_wp2_with fail
  refine bodyPost_ret (v := .tuple #[valV 4 false false 0 (bs (trL (Pc.pieces a) (Pc.pieces b) (Pc.pieces c))), .int .i64 0]) (by simp [results, Tryz.results49, go_sem, lx, d0, d1, d2, d3, d4, d5]) rfl ⟨rfl, ?_⟩
  repeat refine Ext.set ?_ (by dsimp only; omega) _
  exact hE5
set_option maxHeartbeats 2000000 in
theorem fn_concat (q : Nat) (R : List (List UInt8)) (w : World) (TX : Hid (∀ W, Ext w W → Calls Tryz.prog 42 #[.pointer (some ⟨q, 0, none⟩)] W fun e w' => ∃ v, e = .returned v ∧ StrRow w' v R ∧ Ext W w')) (hN : R.length ≤ 1000000) (hlen : (Lib.join R []).length ≤ 140737488355328) : Calls Tryz.prog 40 #[.pointer (some ⟨q, 0, none⟩)] w fun e w' => e = .returned (.tuple #[valV 4 false false 0 (bs (Lib.join R [])), .int .i64 0]) ∧ Ext w w' := by
  go_enter Tryz.func40, Tryz.ntmps40
  go_wp2_with fail
  refine (TX.out _ (((Ext.refl w).alloc _))).mono ?_
  rintro e w1 ⟨v, rfl, hS, hB1⟩
  obtain ⟨sa, sc, rfl⟩ := hS.slice
  have hE1 : Ext w w1 := ((Ext.refl w).alloc _).trans hB1
  go_wp2_with fail
  refine (join_any _ R [] _ hS (by omega) hlen).mono ?_
  rintro e w2 ⟨rfl, hB2⟩
  have hE2 : Ext w w2 := hE1.trans hB2
  go_wp2_with fail
  refine (ftext_any (bs (Lib.join R [])) _).mono ?_
  rintro e w3 ⟨rfl, hB3⟩
  have hE3 : Ext w w3 := hE2.trans hB3
  have hX := ((hB1.trans hB2).trans hB3)
  have lx : w.heap.size < w3.heap.size := by have := hX.size; simp at this; omega
  have d0 : w3.cell? ⟨w.heap.size, 0, none⟩ = some (.int .i64 0) := hX.keep (by simp) (by simp [go_sem])
  have z0 : w3.frozen? ⟨w.heap.size, 0, none⟩ = false := hX.free (by simp) (by simp [go_sem])
  have d1 : w3.cell? ⟨w.heap.size, 1, none⟩ = some (.slice none 0 0) := hX.keep (by simp) (by simp [go_sem])
  have z1 : w3.frozen? ⟨w.heap.size, 1, none⟩ = false := hX.free (by simp) (by simp [go_sem])
  have d2 : w3.cell? ⟨w.heap.size, 2, none⟩ = some (.bool false) := hX.keep (by simp) (by simp [go_sem])
  have z2 : w3.frozen? ⟨w.heap.size, 2, none⟩ = false := hX.free (by simp) (by simp [go_sem])
  have d3 : w3.cell? ⟨w.heap.size, 3, none⟩ = some (.bool false) := hX.keep (by simp) (by simp [go_sem])
  have z3 : w3.frozen? ⟨w.heap.size, 3, none⟩ = false := hX.free (by simp) (by simp [go_sem])
  have d4 : w3.cell? ⟨w.heap.size, 4, none⟩ = some (.int .i64 0) := hX.keep (by simp) (by simp [go_sem])
  have z4 : w3.frozen? ⟨w.heap.size, 4, none⟩ = false := hX.free (by simp) (by simp [go_sem])
  have d5 : w3.cell? ⟨w.heap.size, 5, none⟩ = some (.string ⟨#[]⟩) := hX.keep (by simp) (by simp [go_sem])
  have z5 : w3.frozen? ⟨w.heap.size, 5, none⟩ = false := hX.free (by simp) (by simp [go_sem])
  clear hX hB1 hB2 hB3
  go_wp2_with fail
  refine bodyPost_ret (v := .tuple #[valV 4 false false 0 (bs (Lib.join R [])), .int .i64 0]) (by simp [results, Tryz.results40, go_sem, lx, d0, d1, d2, d3, d4, d5]) rfl ⟨rfl, ?_⟩
  repeat refine Ext.set ?_ (by dsimp only; omega) _
  exact hE3
end Go.Proofs.YtcdehcclkhmbiaaGreatDoor
