/-
  A value as a text and as a number (package value), of texts and numbers. Helper lemmas; no statement of the seat is proved here.
-/
import Derived.Test.YtcdehcclkhmbiaaGreatDoorFText
import Derived.Test.YtcdehcclkhmbiaaGreatDoorTextLaw
namespace Go.Proofs.YtcdehcclkhmbiaaGreatDoor
open Go.RowKit
set_option maxRecDepth 100000
set_option linter.unusedVariables false
set_option linter.unusedSimpArgs false

theorem vtext_text (ta : Option Addr) (tn tc : Nat) (b nn : Bool) (nv : Int) (s : ByteArray) (w : World) :
    Calls Tryz.prog 68 #[.slice ta tn tc, valV 4 b nn nv s] w fun e w' => e = .returned (.string s) ∧ Ext w w' := by
  go_enter Tryz.func68, Tryz.ntmps68
  go_wp2_with fail
  go_ret
  exact ⟨rfl, (Ext.refl _).alloc _⟩
theorem vtext_num (ta : Option Addr) (tn tc : Nat) (b nn : Bool) (nv : Int) (s : ByteArray) (w : World) (G : Glob w) :
    Calls Tryz.prog 68 #[.slice ta tn tc, valV 3 b nn nv s] w fun e w' => e = .returned (.string (bs (textS nn nv))) ∧ Ext w w' := by
  go_enter Tryz.func68, Tryz.ntmps68
  go_wp2_with fail
  refine (text_any nn nv _ (G.alloc _)).mono ?_
  rintro e w1 ⟨rfl, hB1⟩
  go_wp2_with fail
  go_ret
  exact ⟨rfl, ((Ext.refl _).alloc _).trans hB1⟩
theorem vnum_num (ta : Option Addr) (tn tc : Nat) (b nn : Bool) (nv : Int) (s : ByteArray) (w : World) :
    Calls Tryz.prog 99 #[.slice ta tn tc, valV 3 b nn nv s] w fun e w' => e = .returned (.tuple #[.agg #[.bool nn, .int .i64 nv], .int .i64 0]) ∧ Ext w w' := by
  go_enter Tryz.func99, Tryz.ntmps99
  go_wp2_with fail
  refine bodyPost_ret (v := .tuple #[.agg #[.bool nn, .int .i64 nv], .int .i64 0]) (by simp [results, Tryz.results99, go_sem]) rfl ⟨rfl, ?_⟩
  repeat refine Ext.set ?_ (by dsimp only; omega) _
  exact ((Ext.refl _).alloc _).alloc _
theorem vnum_text (ta : Option Addr) (tn tc : Nat) (b nn : Bool) (nv : Int) (s : ByteArray) (w : World) (G : Glob w) (hs : s.size ≤ 4294967280) {r1 : Bool} {r2 r3 : Int} (hr : parseS s.data.toList = ((r1, r2), r3)) :
    Calls Tryz.prog 99 #[.slice ta tn tc, valV 4 b nn nv s] w fun e w' => e = .returned (.tuple #[.agg #[.bool r1, .int .i64 r2], .int .i64 r3]) ∧ Ext w w' := by
  have HR := Lib.hid hr; clear hr
  go_enter Tryz.func99, Tryz.ntmps99
  go_wp2_with fail
  refine (parse_any s _ ((G.alloc _).alloc _) hs).mono ?_
  rw [HR.out]
  rintro e w1 ⟨rfl, hB1⟩
  have hz1 := hB1.size
  simp at hz1
  have l1 : w.heap.size + 1 < w1.heap.size := by omega
  have c0 : w1.cell? ⟨w.heap.size + 1, 0, none⟩ = some (.bool false) := hB1.keep (by simp) (by simp [go_sem])
  have c1 : w1.cell? ⟨w.heap.size + 1, 1, none⟩ = some (.int .i64 0) := hB1.keep (by simp) (by simp [go_sem])
  have f0 : w1.frozen? ⟨w.heap.size + 1, 0, none⟩ = false := hB1.free (by simp) (by simp [go_sem])
  have f1 : w1.frozen? ⟨w.heap.size + 1, 1, none⟩ = false := hB1.free (by simp) (by simp [go_sem])
  go_wp2_with fail
  refine bodyPost_ret (v := .tuple #[.agg #[.bool r1, .int .i64 r2], .int .i64 r3]) (by simp [results, Tryz.results99, go_sem, c0, c1]) rfl ⟨rfl, ?_⟩
  repeat refine Ext.set ?_ (by dsimp only; omega) _
  exact (((Ext.refl _).alloc _).alloc _).trans hB1
end Go.Proofs.YtcdehcclkhmbiaaGreatDoor
