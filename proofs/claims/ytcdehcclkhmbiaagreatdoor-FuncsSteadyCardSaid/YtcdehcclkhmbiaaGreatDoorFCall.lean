/-
  funcs.Call: the function of a name is found in its table, and called of the arguments. Helper lemmas; no statement of the seat is proved here.
-/
import Derived.Test.YtcdehcclkhmbiaaGreatDoorFMap
import Derived.Test.YtcdehcclkhmbiaaGreatDoorFBase
import Derived.LoopTactic
import Derived.Outline
import Derived.Laws.EntriesVeiled
namespace Go.Proofs.YtcdehcclkhmbiaaGreatDoor
open Go.RowKit
set_option maxRecDepth 100000
set_option linter.unusedVariables false
set_option linter.unusedSimpArgs false

theorem zeroFn (w : World) : (zeroValue 51).run Tryz.prog w = .ok (.agg #[.int .i64 0, .int .i64 0, .bool false, .nilFunc]) w := by kernel_rfl
def Miss0 (name : ByteArray) : Prop := ∀ b0 b1 b2 b3, Instr.findNow .string (.string name) (numberedT b0 b1 b2 b3).toList 0 = some none
def Miss1 (name : ByteArray) : Prop := Instr.findNow .string (.string name) textedT.toList 0 = some none
def Miss2 (name : ByteArray) : Prop := Instr.findNow .string (.string name) toldT.toList 0 = some none

set_option maxHeartbeats 8000000 in
theorem call_hit0 (name : ByteArray) (ta : Option Addr) (tn tc : Nat) (c0 c1 c2 c3 : Int) (ad : Option Addr) (n cp : Nat) (w : World) (l m : Int) (f : FuncId) (hE : ∀ args w, (callFunc f args).run Tryz.prog w = .ok (.enter f args) w) (i : Nat) 
    (h0 : ∀ b0 b1 b2 b3, Instr.findNow .string (.string name) (numberedT b0 b1 b2 b3).toList 0 = some (some (i, fnV l m false (fnF f)))) (hl : l ≤ (n : Int)) (hm : (n : Int) ≤ m) (hn : n ≤ 1000000)
    (k : Int) (b nn : Bool) (nv : Int) (s : ByteArray) (code : Int)
    (HD : Hid (∀ W q, Ext w W → CallerAt W q (.slice ta tn tc) c0 c1 c2 c3 (.slice ad n cp) → Calls Tryz.prog f #[.pointer (some ⟨q, 0, none⟩)] W fun e w' => e = .returned (.tuple #[valV k b nn nv s, .int .i64 code]) ∧ Ext W w')) :
    Calls Tryz.prog 9 #[.slice ta tn tc, .agg #[.int .i64 c0, .int .i64 c1, .int .i64 c2, .int .i64 c3], .string name, .slice ad n cp] w fun e w' => e = .returned (.tuple #[valV k b nn nv s, .int .i64 code]) ∧ Ext w w' := by
  have H0 := Lib.hid h0; clear h0
  go_enter Tryz.func9, Tryz.ntmps9
  go_wp2_with fail
  refine (numbered_any _).mono ?_
  rintro e w1 ⟨b0, b1, b2, b3, r0, rfl, m0, hB1, u0, u1, u2, u3⟩
  clear u0 u1 u2 u3
  go_wp2_with fail
  refine (texted_any _).mono ?_
  rintro e w2 ⟨r1, rfl, m1, hB2⟩
  have m0 := hB2.block m0
  go_wp2_with fail
  refine (told_any _).mono ?_
  rintro e w3 ⟨r2, rfl, m2, hB3⟩
  have m0 := hB3.block m0
  have m1 := hB3.block m1
  go_wp2_with fail
  have hz1 := hB1.size; have hz2 := hB2.size; have hz3 := hB3.size
  simp at hz1
  obtain ⟨w4, hW⟩ : ∃ wz, w3.alloc (.cells #[.map (some r0), .map (some r1), .map (some r2)] 46) = wz := ⟨_, rfl⟩
  have hB4 : Ext w3 w4 := by rw [← hW]; exact (Ext.refl _).alloc _
  have k0 : w4.cell? ⟨w3.heap.size, 0, none⟩ = some (.map (some r0)) := by rw [← hW]; simp [go_sem]
  have k1 : w4.cell? ⟨w3.heap.size, 1, none⟩ = some (.map (some r1)) := by rw [← hW]; simp [go_sem]
  have k2 : w4.cell? ⟨w3.heap.size, 2, none⟩ = some (.map (some r2)) := by rw [← hW]; simp [go_sem]
  have hz4 : w3.heap.size < w4.heap.size := by rw [← hW]; simp
  have HX : Ext ((w.alloc (.cells #[.int .i64 c0, .int .i64 c1, .int .i64 c2, .int .i64 c3] 33)).alloc (.cells #[.int .i64 0, .slice none 0 0, .bool false, .bool false, .int .i64 0, .string ⟨#[]⟩] 28)) w4 := ((hB1.trans hB2).trans hB3).trans hB4
  have m0 := hB4.block m0; have m1 := hB4.block m1; have m2 := hB4.block m2
  rw [hW]
  clear hW
  have q0 : w4.cell? ⟨w.heap.size, 0, none⟩ = some (.int .i64 c0) := HX.keep (by simp; omega) (by simp [go_sem])
  have q1 : w4.cell? ⟨w.heap.size, 1, none⟩ = some (.int .i64 c1) := HX.keep (by simp; omega) (by simp [go_sem])
  have q2 : w4.cell? ⟨w.heap.size, 2, none⟩ = some (.int .i64 c2) := HX.keep (by simp; omega) (by simp [go_sem])
  have q3 : w4.cell? ⟨w.heap.size, 3, none⟩ = some (.int .i64 c3) := HX.keep (by simp; omega) (by simp [go_sem])
  have l0 : w.heap.size < w4.heap.size := by omega
  have l1 : w.heap.size + 1 < w4.heap.size := by omega
  have d0 : w4.cell? ⟨w.heap.size + 1, 0, none⟩ = some (.int .i64 0) := HX.keep (by simp) (by simp [go_sem])
  have z0 : w4.frozen? ⟨w.heap.size + 1, 0, none⟩ = false := HX.free (by simp) (by simp [go_sem])
  have d1 : w4.cell? ⟨w.heap.size + 1, 1, none⟩ = some (.slice none 0 0) := HX.keep (by simp) (by simp [go_sem])
  have z1 : w4.frozen? ⟨w.heap.size + 1, 1, none⟩ = false := HX.free (by simp) (by simp [go_sem])
  have d2 : w4.cell? ⟨w.heap.size + 1, 2, none⟩ = some (.bool false) := HX.keep (by simp) (by simp [go_sem])
  have z2 : w4.frozen? ⟨w.heap.size + 1, 2, none⟩ = false := HX.free (by simp) (by simp [go_sem])
  have d3 : w4.cell? ⟨w.heap.size + 1, 3, none⟩ = some (.bool false) := HX.keep (by simp) (by simp [go_sem])
  have z3 : w4.frozen? ⟨w.heap.size + 1, 3, none⟩ = false := HX.free (by simp) (by simp [go_sem])
  have d4 : w4.cell? ⟨w.heap.size + 1, 4, none⟩ = some (.int .i64 0) := HX.keep (by simp) (by simp [go_sem])
  have z4 : w4.frozen? ⟨w.heap.size + 1, 4, none⟩ = false := HX.free (by simp) (by simp [go_sem])
  have d5 : w4.cell? ⟨w.heap.size + 1, 5, none⟩ = some (.string ⟨#[]⟩) := HX.keep (by simp) (by simp [go_sem])
  have z5 : w4.frozen? ⟨w.heap.size + 1, 5, none⟩ = false := HX.free (by simp) (by simp [go_sem])
  have HXX := Lib.hid HX
  have m0 := Lib.hid m0; have m1 := Lib.hid m1; have m2 := Lib.hid m2
  clear hB1 hB2 hB3 hB4 HX
  refine wp_loop_rounds 1 ?_
  rw [rounds_succ]
  have eL0 : (Instr.lookup 46 (.map (some r0)) (.string name) true).run Tryz.prog w4 = .ok (.tuple #[fnV l m false (fnF f), .bool true]) w4 := run_look_hit (P := Tryz.prog) Tryz.underlying46 Tryz.underlying9 m0.out (H0.out _ _ _ _)
  unfold fnV fnF at eL0
  go_wp2_with fail
  obtain ⟨w5, hW5⟩ : ∃ wz, ((w4.alloc (.cells #[.int .i64 l, .int .i64 m, .bool false, .func (.func f) #[] #[]] 51)).alloc (.cells #[.slice ta tn tc, .int .i64 c0, .int .i64 c1, .int .i64 c2, .int .i64 c3, .slice ad n cp] 55)) = wz := ⟨_, rfl⟩
  have hB5 : Ext w4 w5 := by rw [← hW5]; exact ((Ext.refl _).alloc _).alloc _
  have hC : CallerAt w5 (w4.heap.size + 1) (.slice ta tn tc) c0 c1 c2 c3 (.slice ad n cp) := by
    rw [← hW5]; exact ⟨by simp, by simp [go_sem], by simp [go_sem], by simp [go_sem], by simp [go_sem], by simp [go_sem], by simp [go_sem]⟩
  have hxw : Ext w w5 := by have hx := HXX.out; exact Ext.trans (Ext.trans (((Ext.refl w).alloc _).alloc _) hx) hB5
  rw [hW5]
  clear hW5
  refine (HD.out w5 _ hxw hC).mono ?_
  rintro e w6 ⟨rfl, hB6⟩
  have hB46 : Ext w4 w6 := hB5.trans hB6
  have l6 : w.heap.size + 1 < w6.heap.size := Nat.lt_of_lt_of_le l1 hB46.size
  have d0' := hB46.keep l1 d0; have z0' := hB46.free l1 z0
  have d1' := hB46.keep l1 d1; have z1' := hB46.free l1 z1
  have d2' := hB46.keep l1 d2; have z2' := hB46.free l1 z2
  have d3' := hB46.keep l1 d3; have z3' := hB46.free l1 z3
  have d4' := hB46.keep l1 d4; have z4' := hB46.free l1 z4
  have d5' := hB46.keep l1 d5; have z5' := hB46.free l1 z5
  have hX6 : Ext w w6 := hxw.trans hB6
  clear d0 d1 d2 d3 d4 d5 z0 z1 z2 z3 z4 z5 q0 q1 q2 q3 k0 k1 k2 hC eL0
  go_wp2_with fail
  refine bodyPost_ret (v := .tuple #[valV k b nn nv s, .int .i64 code]) (by simp [results, Tryz.results9, go_sem, l6, d0', d1', d2', d3', d4', d5']) rfl ⟨rfl, ?_⟩
  repeat refine Ext.set ?_ (by dsimp only; omega) _
  exact hX6
set_option maxHeartbeats 8000000 in
theorem call_reckon (name : ByteArray) (ta : Option Addr) (tn tc : Nat) (c0 c1 c2 c3 : Int) (ad : Option Addr) (n cp : Nat) (w : World) (l m : Int) (g : FuncId) (i : Nat) 
    (h0 : (g = 30 ∧ ∀ b0 b1 b2 b3, Instr.findNow .string (.string name) (numberedT b0 b1 b2 b3).toList 0 = some (some (i, fnV l m false (fnR b0)))) ∨ (g = 31 ∧ ∀ b0 b1 b2 b3, Instr.findNow .string (.string name) (numberedT b0 b1 b2 b3).toList 0 = some (some (i, fnV l m false (fnR b1)))) ∨ (g = 32 ∧ ∀ b0 b1 b2 b3, Instr.findNow .string (.string name) (numberedT b0 b1 b2 b3).toList 0 = some (some (i, fnV l m false (fnR b2)))) ∨ (g = 33 ∧ ∀ b0 b1 b2 b3, Instr.findNow .string (.string name) (numberedT b0 b1 b2 b3).toList 0 = some (some (i, fnV l m false (fnR b3))))) (hl : l ≤ (n : Int)) (hm : (n : Int) ≤ m) (hn : n ≤ 1000000)
    (k : Int) (b nn : Bool) (nv : Int) (s : ByteArray) (code : Int)
    (HD : Hid (∀ W q bx, Ext w W → CallerAt W q (.slice ta tn tc) c0 c1 c2 c3 (.slice ad n cp) → bx < W.heap.size → W.cell? ⟨bx, 0, none⟩ = some (fnF g) → Calls Tryz.prog 73 #[.pointer (some ⟨q, 0, none⟩), .pointer (some ⟨bx, 0, none⟩)] W fun e w' => e = .returned (.tuple #[valV k b nn nv s, .int .i64 code]) ∧ Ext W w')) :
    Calls Tryz.prog 9 #[.slice ta tn tc, .agg #[.int .i64 c0, .int .i64 c1, .int .i64 c2, .int .i64 c3], .string name, .slice ad n cp] w fun e w' => e = .returned (.tuple #[valV k b nn nv s, .int .i64 code]) ∧ Ext w w' := by
  obtain ⟨jx, hgx, h0⟩ : ∃ jx : Nat, (jx = 0 ∧ g = 30 ∨ jx = 1 ∧ g = 31 ∨ jx = 2 ∧ g = 32 ∨ jx = 3 ∧ g = 33) ∧ ∀ b0 b1 b2 b3 : Nat, Instr.findNow .string (.string name) (numberedT b0 b1 b2 b3).toList 0 = some (some (i, fnV l m false (fnR (if jx = 0 then b0 else if jx = 1 then b1 else if jx = 2 then b2 else b3)))) := by
    rcases h0 with ⟨e, h⟩ | ⟨e, h⟩ | ⟨e, h⟩ | ⟨e, h⟩
    · exact ⟨0, Or.inl ⟨rfl, e⟩, h⟩
    · exact ⟨1, Or.inr (Or.inl ⟨rfl, e⟩), h⟩
    · exact ⟨2, Or.inr (Or.inr (Or.inl ⟨rfl, e⟩)), h⟩
    · exact ⟨3, Or.inr (Or.inr (Or.inr ⟨rfl, e⟩)), h⟩
  have HG := Lib.hid hgx; clear hgx
  have H0 := Lib.hid h0; clear h0
  go_enter Tryz.func9, Tryz.ntmps9
  go_wp2_with fail
  refine (numbered_any _).mono ?_
  rintro e w1 ⟨b0, b1, b2, b3, r0, rfl, m0, hB1, u0, u1, u2, u3⟩
  obtain ⟨bx, hbx⟩ : ∃ bx, (if jx = 0 then b0 else if jx = 1 then b1 else if jx = 2 then b2 else b3) = bx := ⟨_, rfl⟩
  have ub : w1.heap[bx]? = some (.cells #[fnF g] 62 (0, 0)) := by
    rcases HG.out with ⟨rfl, e⟩ | ⟨rfl, e⟩ | ⟨rfl, e⟩ | ⟨rfl, e⟩
    · rw [e, ← hbx]; exact u0
    · rw [e, ← hbx]; exact u1
    · rw [e, ← hbx]; exact u2
    · rw [e, ← hbx]; exact u3
  have h0' := H0.out b0 b1 b2 b3
  rw [hbx] at h0'
  have H0' := Lib.hid h0'; clear h0' hbx
  clear u0 u1 u2 u3
  go_wp2_with fail
  refine (texted_any _).mono ?_
  rintro e w2 ⟨r1, rfl, m1, hB2⟩
  have m0 := hB2.block m0
  go_wp2_with fail
  refine (told_any _).mono ?_
  rintro e w3 ⟨r2, rfl, m2, hB3⟩
  have m0 := hB3.block m0
  have m1 := hB3.block m1
  go_wp2_with fail
  have hz1 := hB1.size; have hz2 := hB2.size; have hz3 := hB3.size
  simp at hz1
  obtain ⟨w4, hW⟩ : ∃ wz, w3.alloc (.cells #[.map (some r0), .map (some r1), .map (some r2)] 46) = wz := ⟨_, rfl⟩
  have hB4 : Ext w3 w4 := by rw [← hW]; exact (Ext.refl _).alloc _
  have k0 : w4.cell? ⟨w3.heap.size, 0, none⟩ = some (.map (some r0)) := by rw [← hW]; simp [go_sem]
  have k1 : w4.cell? ⟨w3.heap.size, 1, none⟩ = some (.map (some r1)) := by rw [← hW]; simp [go_sem]
  have k2 : w4.cell? ⟨w3.heap.size, 2, none⟩ = some (.map (some r2)) := by rw [← hW]; simp [go_sem]
  have hz4 : w3.heap.size < w4.heap.size := by rw [← hW]; simp
  have HX : Ext ((w.alloc (.cells #[.int .i64 c0, .int .i64 c1, .int .i64 c2, .int .i64 c3] 33)).alloc (.cells #[.int .i64 0, .slice none 0 0, .bool false, .bool false, .int .i64 0, .string ⟨#[]⟩] 28)) w4 := ((hB1.trans hB2).trans hB3).trans hB4
  have m0 := hB4.block m0; have m1 := hB4.block m1; have m2 := hB4.block m2
  rw [hW]
  clear hW
  have ub := (((hB2.trans hB3).trans hB4).block ub)
  have q0 : w4.cell? ⟨w.heap.size, 0, none⟩ = some (.int .i64 c0) := HX.keep (by simp; omega) (by simp [go_sem])
  have q1 : w4.cell? ⟨w.heap.size, 1, none⟩ = some (.int .i64 c1) := HX.keep (by simp; omega) (by simp [go_sem])
  have q2 : w4.cell? ⟨w.heap.size, 2, none⟩ = some (.int .i64 c2) := HX.keep (by simp; omega) (by simp [go_sem])
  have q3 : w4.cell? ⟨w.heap.size, 3, none⟩ = some (.int .i64 c3) := HX.keep (by simp; omega) (by simp [go_sem])
  have l0 : w.heap.size < w4.heap.size := by omega
  have l1 : w.heap.size + 1 < w4.heap.size := by omega
  have d0 : w4.cell? ⟨w.heap.size + 1, 0, none⟩ = some (.int .i64 0) := HX.keep (by simp) (by simp [go_sem])
  have z0 : w4.frozen? ⟨w.heap.size + 1, 0, none⟩ = false := HX.free (by simp) (by simp [go_sem])
  have d1 : w4.cell? ⟨w.heap.size + 1, 1, none⟩ = some (.slice none 0 0) := HX.keep (by simp) (by simp [go_sem])
  have z1 : w4.frozen? ⟨w.heap.size + 1, 1, none⟩ = false := HX.free (by simp) (by simp [go_sem])
  have d2 : w4.cell? ⟨w.heap.size + 1, 2, none⟩ = some (.bool false) := HX.keep (by simp) (by simp [go_sem])
  have z2 : w4.frozen? ⟨w.heap.size + 1, 2, none⟩ = false := HX.free (by simp) (by simp [go_sem])
  have d3 : w4.cell? ⟨w.heap.size + 1, 3, none⟩ = some (.bool false) := HX.keep (by simp) (by simp [go_sem])
  have z3 : w4.frozen? ⟨w.heap.size + 1, 3, none⟩ = false := HX.free (by simp) (by simp [go_sem])
  have d4 : w4.cell? ⟨w.heap.size + 1, 4, none⟩ = some (.int .i64 0) := HX.keep (by simp) (by simp [go_sem])
  have z4 : w4.frozen? ⟨w.heap.size + 1, 4, none⟩ = false := HX.free (by simp) (by simp [go_sem])
  have d5 : w4.cell? ⟨w.heap.size + 1, 5, none⟩ = some (.string ⟨#[]⟩) := HX.keep (by simp) (by simp [go_sem])
  have z5 : w4.frozen? ⟨w.heap.size + 1, 5, none⟩ = false := HX.free (by simp) (by simp [go_sem])
  have HXX := Lib.hid HX
  have m0 := Lib.hid m0; have m1 := Lib.hid m1; have m2 := Lib.hid m2
  clear hB1 hB2 hB3 hB4 HX
  refine wp_loop_rounds 1 ?_
  rw [rounds_succ]
  have eL0 : (Instr.lookup 46 (.map (some r0)) (.string name) true).run Tryz.prog w4 = .ok (.tuple #[fnV l m false (fnR bx), .bool true]) w4 := run_look_hit (P := Tryz.prog) Tryz.underlying46 Tryz.underlying9 m0.out H0'.out
  unfold fnV fnR at eL0
  go_wp2_with fail
  obtain ⟨w5, hW5⟩ : ∃ wz, ((w4.alloc (.cells #[.int .i64 l, .int .i64 m, .bool false, .func (.func 73) #[] #[.pointer (some ⟨bx, 0, none⟩)]] 51)).alloc (.cells #[.slice ta tn tc, .int .i64 c0, .int .i64 c1, .int .i64 c2, .int .i64 c3, .slice ad n cp] 55)) = wz := ⟨_, rfl⟩
  have hB5 : Ext w4 w5 := by rw [← hW5]; exact ((Ext.refl _).alloc _).alloc _
  have hC : CallerAt w5 (w4.heap.size + 1) (.slice ta tn tc) c0 c1 c2 c3 (.slice ad n cp) := by
    rw [← hW5]; exact ⟨by simp, by simp [go_sem], by simp [go_sem], by simp [go_sem], by simp [go_sem], by simp [go_sem], by simp [go_sem]⟩
  have hxw : Ext w w5 := by have hx := HXX.out; exact Ext.trans (Ext.trans (((Ext.refl w).alloc _).alloc _) hx) hB5
  rw [hW5]
  clear hW5
  have ub5 := hB5.block ub
  have cb : w5.cell? ⟨bx, 0, none⟩ = some (fnF g) := by simp [World.cell?, ub5]
  refine (HD.out w5 _ bx hxw hC (Array.getElem?_eq_some_iff.1 ub5).1 cb).mono ?_
  rintro e w6 ⟨rfl, hB6⟩
  have hB46 : Ext w4 w6 := hB5.trans hB6
  have l6 : w.heap.size + 1 < w6.heap.size := Nat.lt_of_lt_of_le l1 hB46.size
  have d0' := hB46.keep l1 d0; have z0' := hB46.free l1 z0
  have d1' := hB46.keep l1 d1; have z1' := hB46.free l1 z1
  have d2' := hB46.keep l1 d2; have z2' := hB46.free l1 z2
  have d3' := hB46.keep l1 d3; have z3' := hB46.free l1 z3
  have d4' := hB46.keep l1 d4; have z4' := hB46.free l1 z4
  have d5' := hB46.keep l1 d5; have z5' := hB46.free l1 z5
  have hX6 : Ext w w6 := hxw.trans hB6
  clear d0 d1 d2 d3 d4 d5 z0 z1 z2 z3 z4 z5 q0 q1 q2 q3 k0 k1 k2 hC eL0
  go_wp2_with fail
  refine bodyPost_ret (v := .tuple #[valV k b nn nv s, .int .i64 code]) (by simp [results, Tryz.results9, go_sem, l6, d0', d1', d2', d3', d4', d5']) rfl ⟨rfl, ?_⟩
  repeat refine Ext.set ?_ (by dsimp only; omega) _
  exact hX6
set_option maxHeartbeats 8000000 in
theorem call_hit1 (name : ByteArray) (ta : Option Addr) (tn tc : Nat) (c0 c1 c2 c3 : Int) (ad : Option Addr) (n cp : Nat) (w : World) (l m : Int) (f : FuncId) (hE : ∀ args w, (callFunc f args).run Tryz.prog w = .ok (.enter f args) w) (i : Nat) 
    (h0 : Miss0 name) (h1 : Instr.findNow .string (.string name) textedT.toList 0 = some (some (i, fnV l m false (fnF f)))) (hl : l ≤ (n : Int)) (hm : (n : Int) ≤ m) (hn : n ≤ 1000000)
    (k : Int) (b nn : Bool) (nv : Int) (s : ByteArray) (code : Int)
    (HD : Hid (∀ W q, Ext w W → CallerAt W q (.slice ta tn tc) c0 c1 c2 c3 (.slice ad n cp) → Calls Tryz.prog f #[.pointer (some ⟨q, 0, none⟩)] W fun e w' => e = .returned (.tuple #[valV k b nn nv s, .int .i64 code]) ∧ Ext W w')) :
    Calls Tryz.prog 9 #[.slice ta tn tc, .agg #[.int .i64 c0, .int .i64 c1, .int .i64 c2, .int .i64 c3], .string name, .slice ad n cp] w fun e w' => e = .returned (.tuple #[valV k b nn nv s, .int .i64 code]) ∧ Ext w w' := by
  have H0 := Lib.hid h0; clear h0
  have H1 := Lib.hid h1; clear h1
  go_enter Tryz.func9, Tryz.ntmps9
  go_wp2_with fail
  refine (numbered_any _).mono ?_
  rintro e w1 ⟨b0, b1, b2, b3, r0, rfl, m0, hB1, u0, u1, u2, u3⟩
  clear u0 u1 u2 u3
  go_wp2_with fail
  refine (texted_any _).mono ?_
  rintro e w2 ⟨r1, rfl, m1, hB2⟩
  have m0 := hB2.block m0
  go_wp2_with fail
  refine (told_any _).mono ?_
  rintro e w3 ⟨r2, rfl, m2, hB3⟩
  have m0 := hB3.block m0
  have m1 := hB3.block m1
  go_wp2_with fail
  have hz1 := hB1.size; have hz2 := hB2.size; have hz3 := hB3.size
  simp at hz1
  obtain ⟨w4, hW⟩ : ∃ wz, w3.alloc (.cells #[.map (some r0), .map (some r1), .map (some r2)] 46) = wz := ⟨_, rfl⟩
  have hB4 : Ext w3 w4 := by rw [← hW]; exact (Ext.refl _).alloc _
  have k0 : w4.cell? ⟨w3.heap.size, 0, none⟩ = some (.map (some r0)) := by rw [← hW]; simp [go_sem]
  have k1 : w4.cell? ⟨w3.heap.size, 1, none⟩ = some (.map (some r1)) := by rw [← hW]; simp [go_sem]
  have k2 : w4.cell? ⟨w3.heap.size, 2, none⟩ = some (.map (some r2)) := by rw [← hW]; simp [go_sem]
  have hz4 : w3.heap.size < w4.heap.size := by rw [← hW]; simp
  have HX : Ext ((w.alloc (.cells #[.int .i64 c0, .int .i64 c1, .int .i64 c2, .int .i64 c3] 33)).alloc (.cells #[.int .i64 0, .slice none 0 0, .bool false, .bool false, .int .i64 0, .string ⟨#[]⟩] 28)) w4 := ((hB1.trans hB2).trans hB3).trans hB4
  have m0 := hB4.block m0; have m1 := hB4.block m1; have m2 := hB4.block m2
  rw [hW]
  clear hW
  have q0 : w4.cell? ⟨w.heap.size, 0, none⟩ = some (.int .i64 c0) := HX.keep (by simp; omega) (by simp [go_sem])
  have q1 : w4.cell? ⟨w.heap.size, 1, none⟩ = some (.int .i64 c1) := HX.keep (by simp; omega) (by simp [go_sem])
  have q2 : w4.cell? ⟨w.heap.size, 2, none⟩ = some (.int .i64 c2) := HX.keep (by simp; omega) (by simp [go_sem])
  have q3 : w4.cell? ⟨w.heap.size, 3, none⟩ = some (.int .i64 c3) := HX.keep (by simp; omega) (by simp [go_sem])
  have l0 : w.heap.size < w4.heap.size := by omega
  have l1 : w.heap.size + 1 < w4.heap.size := by omega
  have d0 : w4.cell? ⟨w.heap.size + 1, 0, none⟩ = some (.int .i64 0) := HX.keep (by simp) (by simp [go_sem])
  have z0 : w4.frozen? ⟨w.heap.size + 1, 0, none⟩ = false := HX.free (by simp) (by simp [go_sem])
  have d1 : w4.cell? ⟨w.heap.size + 1, 1, none⟩ = some (.slice none 0 0) := HX.keep (by simp) (by simp [go_sem])
  have z1 : w4.frozen? ⟨w.heap.size + 1, 1, none⟩ = false := HX.free (by simp) (by simp [go_sem])
  have d2 : w4.cell? ⟨w.heap.size + 1, 2, none⟩ = some (.bool false) := HX.keep (by simp) (by simp [go_sem])
  have z2 : w4.frozen? ⟨w.heap.size + 1, 2, none⟩ = false := HX.free (by simp) (by simp [go_sem])
  have d3 : w4.cell? ⟨w.heap.size + 1, 3, none⟩ = some (.bool false) := HX.keep (by simp) (by simp [go_sem])
  have z3 : w4.frozen? ⟨w.heap.size + 1, 3, none⟩ = false := HX.free (by simp) (by simp [go_sem])
  have d4 : w4.cell? ⟨w.heap.size + 1, 4, none⟩ = some (.int .i64 0) := HX.keep (by simp) (by simp [go_sem])
  have z4 : w4.frozen? ⟨w.heap.size + 1, 4, none⟩ = false := HX.free (by simp) (by simp [go_sem])
  have d5 : w4.cell? ⟨w.heap.size + 1, 5, none⟩ = some (.string ⟨#[]⟩) := HX.keep (by simp) (by simp [go_sem])
  have z5 : w4.frozen? ⟨w.heap.size + 1, 5, none⟩ = false := HX.free (by simp) (by simp [go_sem])
  have HXX := Lib.hid HX
  have m0 := Lib.hid m0; have m1 := Lib.hid m1; have m2 := Lib.hid m2
  clear hB1 hB2 hB3 hB4 HX
  refine wp_loop_rounds 2 ?_
  rw [rounds_succ]
  have eL0 : (Instr.lookup 46 (.map (some r0)) (.string name) true).run Tryz.prog w4 = .ok (.tuple #[.agg #[.int .i64 0, .int .i64 0, .bool false, .nilFunc], .bool false]) w4 := run_look_miss (P := Tryz.prog) Tryz.underlying46 Tryz.underlying9 m0.out (H0.out _ _ _ _) (zeroFn _)
  go_wp2_with fail
  clear eL0
  obtain ⟨w41, hWw41⟩ : ∃ wz, w4.alloc (.cells #[.int .i64 0, .int .i64 0, .bool false, .nilFunc] 51) = wz := ⟨_, rfl⟩
  have hBw41 : Ext w4 w41 := by rw [← hWw41]; exact (Ext.refl _).alloc _
  rw [hWw41]
  clear hWw41
  have q0 := hBw41.keep l0 q0
  have q1 := hBw41.keep l0 q1
  have q2 := hBw41.keep l0 q2
  have q3 := hBw41.keep l0 q3
  have d0 := hBw41.keep l1 d0; have z0 := hBw41.free l1 z0
  have d1 := hBw41.keep l1 d1; have z1 := hBw41.free l1 z1
  have d2 := hBw41.keep l1 d2; have z2 := hBw41.free l1 z2
  have d3 := hBw41.keep l1 d3; have z3 := hBw41.free l1 z3
  have d4 := hBw41.keep l1 d4; have z4 := hBw41.free l1 z4
  have d5 := hBw41.keep l1 d5; have z5 := hBw41.free l1 z5
  have k0 := hBw41.keep hz4 k0
  have k1 := hBw41.keep hz4 k1
  have k2 := hBw41.keep hz4 k2
  have l0 := Nat.lt_of_lt_of_le l0 hBw41.size
  have l1 := Nat.lt_of_lt_of_le l1 hBw41.size
  have hz4 := Nat.lt_of_lt_of_le hz4 hBw41.size
  have HXX := Lib.hid (HXX.out.trans hBw41)
  have m1 := Lib.hid (hBw41.block m1.out)
  have m2 := Lib.hid (hBw41.block m2.out)
  rw [rounds_succ]
  have eL1 : (Instr.lookup 46 (.map (some r1)) (.string name) true).run Tryz.prog w41 = .ok (.tuple #[fnV l m false (fnF f), .bool true]) w41 := run_look_hit (P := Tryz.prog) Tryz.underlying46 Tryz.underlying9 m1.out H1.out
  unfold fnV fnF at eL1
  go_wp2_with fail
  obtain ⟨w5, hW5⟩ : ∃ wz, ((w41.alloc (.cells #[.int .i64 l, .int .i64 m, .bool false, .func (.func f) #[] #[]] 51)).alloc (.cells #[.slice ta tn tc, .int .i64 c0, .int .i64 c1, .int .i64 c2, .int .i64 c3, .slice ad n cp] 55)) = wz := ⟨_, rfl⟩
  have hB5 : Ext w41 w5 := by rw [← hW5]; exact ((Ext.refl _).alloc _).alloc _
  have hC : CallerAt w5 (w41.heap.size + 1) (.slice ta tn tc) c0 c1 c2 c3 (.slice ad n cp) := by
    rw [← hW5]; exact ⟨by simp, by simp [go_sem], by simp [go_sem], by simp [go_sem], by simp [go_sem], by simp [go_sem], by simp [go_sem]⟩
  have hxw : Ext w w5 := by have hx := HXX.out; exact Ext.trans (Ext.trans (((Ext.refl w).alloc _).alloc _) hx) hB5
  rw [hW5]
  clear hW5
  refine (HD.out w5 _ hxw hC).mono ?_
  rintro e w6 ⟨rfl, hB6⟩
  have hB46 : Ext w41 w6 := hB5.trans hB6
  have l6 : w.heap.size + 1 < w6.heap.size := Nat.lt_of_lt_of_le l1 hB46.size
  have d0' := hB46.keep l1 d0; have z0' := hB46.free l1 z0
  have d1' := hB46.keep l1 d1; have z1' := hB46.free l1 z1
  have d2' := hB46.keep l1 d2; have z2' := hB46.free l1 z2
  have d3' := hB46.keep l1 d3; have z3' := hB46.free l1 z3
  have d4' := hB46.keep l1 d4; have z4' := hB46.free l1 z4
  have d5' := hB46.keep l1 d5; have z5' := hB46.free l1 z5
  have hX6 : Ext w w6 := hxw.trans hB6
  clear d0 d1 d2 d3 d4 d5 z0 z1 z2 z3 z4 z5 q0 q1 q2 q3 k0 k1 k2 hC eL1
  go_wp2_with fail
  refine bodyPost_ret (v := .tuple #[valV k b nn nv s, .int .i64 code]) (by simp [results, Tryz.results9, go_sem, l6, d0', d1', d2', d3', d4', d5']) rfl ⟨rfl, ?_⟩
  repeat refine Ext.set ?_ (by dsimp only; omega) _
  exact hX6
set_option maxHeartbeats 8000000 in
theorem call_hit2 (name : ByteArray) (ta : Option Addr) (tn tc : Nat) (c0 c1 c2 c3 : Int) (ad : Option Addr) (n cp : Nat) (w : World) (l m : Int) (f : FuncId) (hE : ∀ args w, (callFunc f args).run Tryz.prog w = .ok (.enter f args) w) (i : Nat) 
    (h0 : Miss0 name) (h1 : Miss1 name) (h2 : Instr.findNow .string (.string name) toldT.toList 0 = some (some (i, fnV l m false (fnF f)))) (hl : l ≤ (n : Int)) (hm : (n : Int) ≤ m) (hn : n ≤ 1000000)
    (k : Int) (b nn : Bool) (nv : Int) (s : ByteArray) (code : Int)
    (HD : Hid (∀ W q, Ext w W → CallerAt W q (.slice ta tn tc) c0 c1 c2 c3 (.slice ad n cp) → Calls Tryz.prog f #[.pointer (some ⟨q, 0, none⟩)] W fun e w' => e = .returned (.tuple #[valV k b nn nv s, .int .i64 code]) ∧ Ext W w')) :
    Calls Tryz.prog 9 #[.slice ta tn tc, .agg #[.int .i64 c0, .int .i64 c1, .int .i64 c2, .int .i64 c3], .string name, .slice ad n cp] w fun e w' => e = .returned (.tuple #[valV k b nn nv s, .int .i64 code]) ∧ Ext w w' := by
  have H0 := Lib.hid h0; clear h0
  have H1 := Lib.hid h1; clear h1
  have H2 := Lib.hid h2; clear h2
  go_enter Tryz.func9, Tryz.ntmps9
  go_wp2_with fail
  refine (numbered_any _).mono ?_
  rintro e w1 ⟨b0, b1, b2, b3, r0, rfl, m0, hB1, u0, u1, u2, u3⟩
  clear u0 u1 u2 u3
  go_wp2_with fail
  refine (texted_any _).mono ?_
  rintro e w2 ⟨r1, rfl, m1, hB2⟩
  have m0 := hB2.block m0
  go_wp2_with fail
  refine (told_any _).mono ?_
  rintro e w3 ⟨r2, rfl, m2, hB3⟩
  have m0 := hB3.block m0
  have m1 := hB3.block m1
  go_wp2_with fail
  have hz1 := hB1.size; have hz2 := hB2.size; have hz3 := hB3.size
  simp at hz1
  obtain ⟨w4, hW⟩ : ∃ wz, w3.alloc (.cells #[.map (some r0), .map (some r1), .map (some r2)] 46) = wz := ⟨_, rfl⟩
  have hB4 : Ext w3 w4 := by rw [← hW]; exact (Ext.refl _).alloc _
  have k0 : w4.cell? ⟨w3.heap.size, 0, none⟩ = some (.map (some r0)) := by rw [← hW]; simp [go_sem]
  have k1 : w4.cell? ⟨w3.heap.size, 1, none⟩ = some (.map (some r1)) := by rw [← hW]; simp [go_sem]
  have k2 : w4.cell? ⟨w3.heap.size, 2, none⟩ = some (.map (some r2)) := by rw [← hW]; simp [go_sem]
  have hz4 : w3.heap.size < w4.heap.size := by rw [← hW]; simp
  have HX : Ext ((w.alloc (.cells #[.int .i64 c0, .int .i64 c1, .int .i64 c2, .int .i64 c3] 33)).alloc (.cells #[.int .i64 0, .slice none 0 0, .bool false, .bool false, .int .i64 0, .string ⟨#[]⟩] 28)) w4 := ((hB1.trans hB2).trans hB3).trans hB4
  have m0 := hB4.block m0; have m1 := hB4.block m1; have m2 := hB4.block m2
  rw [hW]
  clear hW
  have q0 : w4.cell? ⟨w.heap.size, 0, none⟩ = some (.int .i64 c0) := HX.keep (by simp; omega) (by simp [go_sem])
  have q1 : w4.cell? ⟨w.heap.size, 1, none⟩ = some (.int .i64 c1) := HX.keep (by simp; omega) (by simp [go_sem])
  have q2 : w4.cell? ⟨w.heap.size, 2, none⟩ = some (.int .i64 c2) := HX.keep (by simp; omega) (by simp [go_sem])
  have q3 : w4.cell? ⟨w.heap.size, 3, none⟩ = some (.int .i64 c3) := HX.keep (by simp; omega) (by simp [go_sem])
  have l0 : w.heap.size < w4.heap.size := by omega
  have l1 : w.heap.size + 1 < w4.heap.size := by omega
  have d0 : w4.cell? ⟨w.heap.size + 1, 0, none⟩ = some (.int .i64 0) := HX.keep (by simp) (by simp [go_sem])
  have z0 : w4.frozen? ⟨w.heap.size + 1, 0, none⟩ = false := HX.free (by simp) (by simp [go_sem])
  have d1 : w4.cell? ⟨w.heap.size + 1, 1, none⟩ = some (.slice none 0 0) := HX.keep (by simp) (by simp [go_sem])
  have z1 : w4.frozen? ⟨w.heap.size + 1, 1, none⟩ = false := HX.free (by simp) (by simp [go_sem])
  have d2 : w4.cell? ⟨w.heap.size + 1, 2, none⟩ = some (.bool false) := HX.keep (by simp) (by simp [go_sem])
  have z2 : w4.frozen? ⟨w.heap.size + 1, 2, none⟩ = false := HX.free (by simp) (by simp [go_sem])
  have d3 : w4.cell? ⟨w.heap.size + 1, 3, none⟩ = some (.bool false) := HX.keep (by simp) (by simp [go_sem])
  have z3 : w4.frozen? ⟨w.heap.size + 1, 3, none⟩ = false := HX.free (by simp) (by simp [go_sem])
  have d4 : w4.cell? ⟨w.heap.size + 1, 4, none⟩ = some (.int .i64 0) := HX.keep (by simp) (by simp [go_sem])
  have z4 : w4.frozen? ⟨w.heap.size + 1, 4, none⟩ = false := HX.free (by simp) (by simp [go_sem])
  have d5 : w4.cell? ⟨w.heap.size + 1, 5, none⟩ = some (.string ⟨#[]⟩) := HX.keep (by simp) (by simp [go_sem])
  have z5 : w4.frozen? ⟨w.heap.size + 1, 5, none⟩ = false := HX.free (by simp) (by simp [go_sem])
  have HXX := Lib.hid HX
  have m0 := Lib.hid m0; have m1 := Lib.hid m1; have m2 := Lib.hid m2
  clear hB1 hB2 hB3 hB4 HX
  refine wp_loop_rounds 3 ?_
  rw [rounds_succ]
  have eL0 : (Instr.lookup 46 (.map (some r0)) (.string name) true).run Tryz.prog w4 = .ok (.tuple #[.agg #[.int .i64 0, .int .i64 0, .bool false, .nilFunc], .bool false]) w4 := run_look_miss (P := Tryz.prog) Tryz.underlying46 Tryz.underlying9 m0.out (H0.out _ _ _ _) (zeroFn _)
  go_wp2_with fail
  clear eL0
  obtain ⟨w41, hWw41⟩ : ∃ wz, w4.alloc (.cells #[.int .i64 0, .int .i64 0, .bool false, .nilFunc] 51) = wz := ⟨_, rfl⟩
  have hBw41 : Ext w4 w41 := by rw [← hWw41]; exact (Ext.refl _).alloc _
  rw [hWw41]
  clear hWw41
  have q0 := hBw41.keep l0 q0
  have q1 := hBw41.keep l0 q1
  have q2 := hBw41.keep l0 q2
  have q3 := hBw41.keep l0 q3
  have d0 := hBw41.keep l1 d0; have z0 := hBw41.free l1 z0
  have d1 := hBw41.keep l1 d1; have z1 := hBw41.free l1 z1
  have d2 := hBw41.keep l1 d2; have z2 := hBw41.free l1 z2
  have d3 := hBw41.keep l1 d3; have z3 := hBw41.free l1 z3
  have d4 := hBw41.keep l1 d4; have z4 := hBw41.free l1 z4
  have d5 := hBw41.keep l1 d5; have z5 := hBw41.free l1 z5
  have k0 := hBw41.keep hz4 k0
  have k1 := hBw41.keep hz4 k1
  have k2 := hBw41.keep hz4 k2
  have l0 := Nat.lt_of_lt_of_le l0 hBw41.size
  have l1 := Nat.lt_of_lt_of_le l1 hBw41.size
  have hz4 := Nat.lt_of_lt_of_le hz4 hBw41.size
  have HXX := Lib.hid (HXX.out.trans hBw41)
  have m1 := Lib.hid (hBw41.block m1.out)
  have m2 := Lib.hid (hBw41.block m2.out)
  rw [rounds_succ]
  have eL1 : (Instr.lookup 46 (.map (some r1)) (.string name) true).run Tryz.prog w41 = .ok (.tuple #[.agg #[.int .i64 0, .int .i64 0, .bool false, .nilFunc], .bool false]) w41 := run_look_miss (P := Tryz.prog) Tryz.underlying46 Tryz.underlying9 m1.out H1.out (zeroFn _)
  go_wp2_with fail
  clear eL1
  obtain ⟨w42, hWw42⟩ : ∃ wz, w41.alloc (.cells #[.int .i64 0, .int .i64 0, .bool false, .nilFunc] 51) = wz := ⟨_, rfl⟩
  have hBw42 : Ext w41 w42 := by rw [← hWw42]; exact (Ext.refl _).alloc _
  rw [hWw42]
  clear hWw42
  have q0 := hBw42.keep l0 q0
  have q1 := hBw42.keep l0 q1
  have q2 := hBw42.keep l0 q2
  have q3 := hBw42.keep l0 q3
  have d0 := hBw42.keep l1 d0; have z0 := hBw42.free l1 z0
  have d1 := hBw42.keep l1 d1; have z1 := hBw42.free l1 z1
  have d2 := hBw42.keep l1 d2; have z2 := hBw42.free l1 z2
  have d3 := hBw42.keep l1 d3; have z3 := hBw42.free l1 z3
  have d4 := hBw42.keep l1 d4; have z4 := hBw42.free l1 z4
  have d5 := hBw42.keep l1 d5; have z5 := hBw42.free l1 z5
  have k0 := hBw42.keep hz4 k0
  have k1 := hBw42.keep hz4 k1
  have k2 := hBw42.keep hz4 k2
  have l0 := Nat.lt_of_lt_of_le l0 hBw42.size
  have l1 := Nat.lt_of_lt_of_le l1 hBw42.size
  have hz4 := Nat.lt_of_lt_of_le hz4 hBw42.size
  have HXX := Lib.hid (HXX.out.trans hBw42)
  have m2 := Lib.hid (hBw42.block m2.out)
  rw [rounds_succ]
  have eL2 : (Instr.lookup 46 (.map (some r2)) (.string name) true).run Tryz.prog w42 = .ok (.tuple #[fnV l m false (fnF f), .bool true]) w42 := run_look_hit (P := Tryz.prog) Tryz.underlying46 Tryz.underlying9 m2.out H2.out
  unfold fnV fnF at eL2
  go_wp2_with fail
  obtain ⟨w5, hW5⟩ : ∃ wz, ((w42.alloc (.cells #[.int .i64 l, .int .i64 m, .bool false, .func (.func f) #[] #[]] 51)).alloc (.cells #[.slice ta tn tc, .int .i64 c0, .int .i64 c1, .int .i64 c2, .int .i64 c3, .slice ad n cp] 55)) = wz := ⟨_, rfl⟩
  have hB5 : Ext w42 w5 := by rw [← hW5]; exact ((Ext.refl _).alloc _).alloc _
  have hC : CallerAt w5 (w42.heap.size + 1) (.slice ta tn tc) c0 c1 c2 c3 (.slice ad n cp) := by
    rw [← hW5]; exact ⟨by simp, by simp [go_sem], by simp [go_sem], by simp [go_sem], by simp [go_sem], by simp [go_sem], by simp [go_sem]⟩
  have hxw : Ext w w5 := by have hx := HXX.out; exact Ext.trans (Ext.trans (((Ext.refl w).alloc _).alloc _) hx) hB5
  rw [hW5]
  clear hW5
  refine (HD.out w5 _ hxw hC).mono ?_
  rintro e w6 ⟨rfl, hB6⟩
  have hB46 : Ext w42 w6 := hB5.trans hB6
  have l6 : w.heap.size + 1 < w6.heap.size := Nat.lt_of_lt_of_le l1 hB46.size
  have d0' := hB46.keep l1 d0; have z0' := hB46.free l1 z0
  have d1' := hB46.keep l1 d1; have z1' := hB46.free l1 z1
  have d2' := hB46.keep l1 d2; have z2' := hB46.free l1 z2
  have d3' := hB46.keep l1 d3; have z3' := hB46.free l1 z3
  have d4' := hB46.keep l1 d4; have z4' := hB46.free l1 z4
  have d5' := hB46.keep l1 d5; have z5' := hB46.free l1 z5
  have hX6 : Ext w w6 := hxw.trans hB6
  clear d0 d1 d2 d3 d4 d5 z0 z1 z2 z3 z4 z5 q0 q1 q2 q3 k0 k1 k2 hC eL2
  go_wp2_with fail
  refine bodyPost_ret (v := .tuple #[valV k b nn nv s, .int .i64 code]) (by simp [results, Tryz.results9, go_sem, l6, d0', d1', d2', d3', d4', d5']) rfl ⟨rfl, ?_⟩
  repeat refine Ext.set ?_ (by dsimp only; omega) _
  exact hX6
set_option maxHeartbeats 8000000 in
theorem call_none (name : ByteArray) (ta : Option Addr) (tn tc : Nat) (c0 c1 c2 c3 : Int) (ad : Option Addr) (n cp : Nat) (w : World) 
    (h0 : Miss0 name) (h1 : Miss1 name) (h2 : Miss2 name)  :
    Calls Tryz.prog 9 #[.slice ta tn tc, .agg #[.int .i64 c0, .int .i64 c1, .int .i64 c2, .int .i64 c3], .string name, .slice ad n cp] w fun e w' => e = .returned (.tuple #[valV 0 false false 0 ⟨#[]⟩, .int .i64 63]) ∧ Ext w w' := by
  have H0 := Lib.hid h0; clear h0
  have H1 := Lib.hid h1; clear h1
  have H2 := Lib.hid h2; clear h2
  go_enter Tryz.func9, Tryz.ntmps9
  go_wp2_with fail
  refine (numbered_any _).mono ?_
  rintro e w1 ⟨b0, b1, b2, b3, r0, rfl, m0, hB1, u0, u1, u2, u3⟩
  clear u0 u1 u2 u3
  go_wp2_with fail
  refine (texted_any _).mono ?_
  rintro e w2 ⟨r1, rfl, m1, hB2⟩
  have m0 := hB2.block m0
  go_wp2_with fail
  refine (told_any _).mono ?_
  rintro e w3 ⟨r2, rfl, m2, hB3⟩
  have m0 := hB3.block m0
  have m1 := hB3.block m1
  go_wp2_with fail
  have hz1 := hB1.size; have hz2 := hB2.size; have hz3 := hB3.size
  simp at hz1
  obtain ⟨w4, hW⟩ : ∃ wz, w3.alloc (.cells #[.map (some r0), .map (some r1), .map (some r2)] 46) = wz := ⟨_, rfl⟩
  have hB4 : Ext w3 w4 := by rw [← hW]; exact (Ext.refl _).alloc _
  have k0 : w4.cell? ⟨w3.heap.size, 0, none⟩ = some (.map (some r0)) := by rw [← hW]; simp [go_sem]
  have k1 : w4.cell? ⟨w3.heap.size, 1, none⟩ = some (.map (some r1)) := by rw [← hW]; simp [go_sem]
  have k2 : w4.cell? ⟨w3.heap.size, 2, none⟩ = some (.map (some r2)) := by rw [← hW]; simp [go_sem]
  have hz4 : w3.heap.size < w4.heap.size := by rw [← hW]; simp
  have HX : Ext ((w.alloc (.cells #[.int .i64 c0, .int .i64 c1, .int .i64 c2, .int .i64 c3] 33)).alloc (.cells #[.int .i64 0, .slice none 0 0, .bool false, .bool false, .int .i64 0, .string ⟨#[]⟩] 28)) w4 := ((hB1.trans hB2).trans hB3).trans hB4
  have m0 := hB4.block m0; have m1 := hB4.block m1; have m2 := hB4.block m2
  rw [hW]
  clear hW
  have q0 : w4.cell? ⟨w.heap.size, 0, none⟩ = some (.int .i64 c0) := HX.keep (by simp; omega) (by simp [go_sem])
  have q1 : w4.cell? ⟨w.heap.size, 1, none⟩ = some (.int .i64 c1) := HX.keep (by simp; omega) (by simp [go_sem])
  have q2 : w4.cell? ⟨w.heap.size, 2, none⟩ = some (.int .i64 c2) := HX.keep (by simp; omega) (by simp [go_sem])
  have q3 : w4.cell? ⟨w.heap.size, 3, none⟩ = some (.int .i64 c3) := HX.keep (by simp; omega) (by simp [go_sem])
  have l0 : w.heap.size < w4.heap.size := by omega
  have l1 : w.heap.size + 1 < w4.heap.size := by omega
  have d0 : w4.cell? ⟨w.heap.size + 1, 0, none⟩ = some (.int .i64 0) := HX.keep (by simp) (by simp [go_sem])
  have z0 : w4.frozen? ⟨w.heap.size + 1, 0, none⟩ = false := HX.free (by simp) (by simp [go_sem])
  have d1 : w4.cell? ⟨w.heap.size + 1, 1, none⟩ = some (.slice none 0 0) := HX.keep (by simp) (by simp [go_sem])
  have z1 : w4.frozen? ⟨w.heap.size + 1, 1, none⟩ = false := HX.free (by simp) (by simp [go_sem])
  have d2 : w4.cell? ⟨w.heap.size + 1, 2, none⟩ = some (.bool false) := HX.keep (by simp) (by simp [go_sem])
  have z2 : w4.frozen? ⟨w.heap.size + 1, 2, none⟩ = false := HX.free (by simp) (by simp [go_sem])
  have d3 : w4.cell? ⟨w.heap.size + 1, 3, none⟩ = some (.bool false) := HX.keep (by simp) (by simp [go_sem])
  have z3 : w4.frozen? ⟨w.heap.size + 1, 3, none⟩ = false := HX.free (by simp) (by simp [go_sem])
  have d4 : w4.cell? ⟨w.heap.size + 1, 4, none⟩ = some (.int .i64 0) := HX.keep (by simp) (by simp [go_sem])
  have z4 : w4.frozen? ⟨w.heap.size + 1, 4, none⟩ = false := HX.free (by simp) (by simp [go_sem])
  have d5 : w4.cell? ⟨w.heap.size + 1, 5, none⟩ = some (.string ⟨#[]⟩) := HX.keep (by simp) (by simp [go_sem])
  have z5 : w4.frozen? ⟨w.heap.size + 1, 5, none⟩ = false := HX.free (by simp) (by simp [go_sem])
  have HXX := Lib.hid HX
  have m0 := Lib.hid m0; have m1 := Lib.hid m1; have m2 := Lib.hid m2
  clear hB1 hB2 hB3 hB4 HX
  refine wp_loop_rounds 4 ?_
  rw [rounds_succ]
  have eL0 : (Instr.lookup 46 (.map (some r0)) (.string name) true).run Tryz.prog w4 = .ok (.tuple #[.agg #[.int .i64 0, .int .i64 0, .bool false, .nilFunc], .bool false]) w4 := run_look_miss (P := Tryz.prog) Tryz.underlying46 Tryz.underlying9 m0.out (H0.out _ _ _ _) (zeroFn _)
  go_wp2_with fail
  clear eL0
  obtain ⟨w41, hWw41⟩ : ∃ wz, w4.alloc (.cells #[.int .i64 0, .int .i64 0, .bool false, .nilFunc] 51) = wz := ⟨_, rfl⟩
  have hBw41 : Ext w4 w41 := by rw [← hWw41]; exact (Ext.refl _).alloc _
  rw [hWw41]
  clear hWw41
  have q0 := hBw41.keep l0 q0
  have q1 := hBw41.keep l0 q1
  have q2 := hBw41.keep l0 q2
  have q3 := hBw41.keep l0 q3
  have d0 := hBw41.keep l1 d0; have z0 := hBw41.free l1 z0
  have d1 := hBw41.keep l1 d1; have z1 := hBw41.free l1 z1
  have d2 := hBw41.keep l1 d2; have z2 := hBw41.free l1 z2
  have d3 := hBw41.keep l1 d3; have z3 := hBw41.free l1 z3
  have d4 := hBw41.keep l1 d4; have z4 := hBw41.free l1 z4
  have d5 := hBw41.keep l1 d5; have z5 := hBw41.free l1 z5
  have k0 := hBw41.keep hz4 k0
  have k1 := hBw41.keep hz4 k1
  have k2 := hBw41.keep hz4 k2
  have l0 := Nat.lt_of_lt_of_le l0 hBw41.size
  have l1 := Nat.lt_of_lt_of_le l1 hBw41.size
  have hz4 := Nat.lt_of_lt_of_le hz4 hBw41.size
  have HXX := Lib.hid (HXX.out.trans hBw41)
  have m1 := Lib.hid (hBw41.block m1.out)
  have m2 := Lib.hid (hBw41.block m2.out)
  rw [rounds_succ]
  have eL1 : (Instr.lookup 46 (.map (some r1)) (.string name) true).run Tryz.prog w41 = .ok (.tuple #[.agg #[.int .i64 0, .int .i64 0, .bool false, .nilFunc], .bool false]) w41 := run_look_miss (P := Tryz.prog) Tryz.underlying46 Tryz.underlying9 m1.out H1.out (zeroFn _)
  go_wp2_with fail
  clear eL1
  obtain ⟨w42, hWw42⟩ : ∃ wz, w41.alloc (.cells #[.int .i64 0, .int .i64 0, .bool false, .nilFunc] 51) = wz := ⟨_, rfl⟩
  have hBw42 : Ext w41 w42 := by rw [← hWw42]; exact (Ext.refl _).alloc _
  rw [hWw42]
  clear hWw42
  have q0 := hBw42.keep l0 q0
  have q1 := hBw42.keep l0 q1
  have q2 := hBw42.keep l0 q2
  have q3 := hBw42.keep l0 q3
  have d0 := hBw42.keep l1 d0; have z0 := hBw42.free l1 z0
  have d1 := hBw42.keep l1 d1; have z1 := hBw42.free l1 z1
  have d2 := hBw42.keep l1 d2; have z2 := hBw42.free l1 z2
  have d3 := hBw42.keep l1 d3; have z3 := hBw42.free l1 z3
  have d4 := hBw42.keep l1 d4; have z4 := hBw42.free l1 z4
  have d5 := hBw42.keep l1 d5; have z5 := hBw42.free l1 z5
  have k0 := hBw42.keep hz4 k0
  have k1 := hBw42.keep hz4 k1
  have k2 := hBw42.keep hz4 k2
  have l0 := Nat.lt_of_lt_of_le l0 hBw42.size
  have l1 := Nat.lt_of_lt_of_le l1 hBw42.size
  have hz4 := Nat.lt_of_lt_of_le hz4 hBw42.size
  have HXX := Lib.hid (HXX.out.trans hBw42)
  have m2 := Lib.hid (hBw42.block m2.out)
  rw [rounds_succ]
  have eL2 : (Instr.lookup 46 (.map (some r2)) (.string name) true).run Tryz.prog w42 = .ok (.tuple #[.agg #[.int .i64 0, .int .i64 0, .bool false, .nilFunc], .bool false]) w42 := run_look_miss (P := Tryz.prog) Tryz.underlying46 Tryz.underlying9 m2.out H2.out (zeroFn _)
  go_wp2_with fail
  clear eL2
  obtain ⟨w43, hWw43⟩ : ∃ wz, w42.alloc (.cells #[.int .i64 0, .int .i64 0, .bool false, .nilFunc] 51) = wz := ⟨_, rfl⟩
  have hBw43 : Ext w42 w43 := by rw [← hWw43]; exact (Ext.refl _).alloc _
  rw [hWw43]
  clear hWw43
  have q0 := hBw43.keep l0 q0
  have q1 := hBw43.keep l0 q1
  have q2 := hBw43.keep l0 q2
  have q3 := hBw43.keep l0 q3
  have d0 := hBw43.keep l1 d0; have z0 := hBw43.free l1 z0
  have d1 := hBw43.keep l1 d1; have z1 := hBw43.free l1 z1
  have d2 := hBw43.keep l1 d2; have z2 := hBw43.free l1 z2
  have d3 := hBw43.keep l1 d3; have z3 := hBw43.free l1 z3
  have d4 := hBw43.keep l1 d4; have z4 := hBw43.free l1 z4
  have d5 := hBw43.keep l1 d5; have z5 := hBw43.free l1 z5
  have k0 := hBw43.keep hz4 k0
  have k1 := hBw43.keep hz4 k1
  have k2 := hBw43.keep hz4 k2
  have l0 := Nat.lt_of_lt_of_le l0 hBw43.size
  have l1 := Nat.lt_of_lt_of_le l1 hBw43.size
  have hz4 := Nat.lt_of_lt_of_le hz4 hBw43.size
  have HXX := Lib.hid (HXX.out.trans hBw43)
  rw [rounds_succ]
  go_wp2_with fail
  refine bodyPost_ret (v := .tuple #[valV 0 false false 0 ⟨#[]⟩, .int .i64 63]) (by simp [results, Tryz.results9, go_sem, l1, d0, d1, d2, d3, d4, d5]) rfl ⟨rfl, ?_⟩
  have hx := HXX.out
  repeat (first | exact Ext.refl _ | refine Ext.set ?_ (by dsimp only; omega) _ | refine Ext.alloc ?_ _ | refine Ext.drew ?_ | refine (Ext.trans ?_ (by assumption)))
end Go.Proofs.YtcdehcclkhmbiaaGreatDoor
