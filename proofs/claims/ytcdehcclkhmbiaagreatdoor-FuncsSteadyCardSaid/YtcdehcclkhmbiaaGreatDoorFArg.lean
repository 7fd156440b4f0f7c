/-
  The arguments of a function of package funcs: (*caller).arg. Helper lemmas; no statement of the seat is proved here.
-/
import Derived.Test.YtcdehcclkhmbiaaGreatDoorFBase
import Derived.Laws.EntriesVeiled
namespace Go.Proofs.YtcdehcclkhmbiaaGreatDoor
open Go.RowKit
set_option maxRecDepth 100000
set_option linter.unusedVariables false
set_option linter.unusedSimpArgs false

set_option maxHeartbeats 4000000 in
theorem arg_any (q : Nat) (T : Value) (c0 c1 c2 c3 : Int) (ab n cp i : Nat) (k : Int) (b nn : Bool) (nv : Int) (s : ByteArray) (w : World) (hi : i < n) (hn : n ≤ 1000000)
    (hC : CallerAt w q T c0 c1 c2 c3 (.slice (some ⟨ab, 0, none⟩) n cp)) (hA : ArgAt w ab i k b nn nv s) :
    Calls Tryz.prog 69 #[.pointer (some ⟨q, 0, none⟩), .int .i64 i] w fun e w' => e = .returned (valV k b nn nv s) ∧ Ext w w' := by
  have a5 := hC.a; have hq := hC.lt
  have k0 := hA.k; have k1 := hA.n; have k2 := hA.b; have k3 := hA.nn; have k4 := hA.nv; have k5 := hA.s; have ha := hA.lt
  have hi0 : (0 : Int) ≤ (i : Int) := by omega
  have hi1 : (i : Int) < (n : Int) := by omega
  clear hC hA
  go_enter Tryz.func69, Tryz.ntmps69
  go_wp2_with fail
  refine bodyPost_ret (v := valV k b nn nv s) (by simp [results, Tryz.results69, go_sem]) rfl ⟨rfl, ?_⟩
  repeat refine Ext.set ?_ (by dsimp only; omega) _
  exact (Ext.refl _).alloc _
end Go.Proofs.YtcdehcclkhmbiaaGreatDoor
