/-
  Values, callers and arguments of package funcs, as they lie in memory. Helper lemmas; no statement of the seat is proved here.
-/
import Derived.Test.YtcdehcclkhmbiaaGreatDoorBase
namespace Go.Proofs.YtcdehcclkhmbiaaGreatDoor
open Go.RowKit
set_option linter.unusedVariables false

abbrev valV (k : Int) (b nn : Bool) (nv : Int) (s : ByteArray) : Value := .agg #[.int .i64 k, .slice none 0 0, .bool b, .bool nn, .int .i64 nv, .string s]
/-- A caller, as it lies in memory. -/
structure CallerAt (W : World) (b : Nat) (T : Value) (c0 c1 c2 c3 : Int) (A : Value) : Prop where
  lt : b < W.heap.size
  t : W.cell? ⟨b, 0, none⟩ = some T
  n : W.cell? ⟨b, 1, none⟩ = some (.int .i64 c0)
  p : W.cell? ⟨b, 2, none⟩ = some (.int .i64 c1)
  z : W.cell? ⟨b, 3, none⟩ = some (.int .i64 c2)
  v : W.cell? ⟨b, 4, none⟩ = some (.int .i64 c3)
  a : W.cell? ⟨b, 5, none⟩ = some A
theorem CallerAt.ext {W W' : World} {b : Nat} {T A : Value} {c0 c1 c2 c3 : Int} (h : CallerAt W b T c0 c1 c2 c3 A) (hB : Ext W W') : CallerAt W' b T c0 c1 c2 c3 A :=
  ⟨Nat.lt_of_lt_of_le h.lt hB.size, hB.keep h.lt h.t, hB.keep h.lt h.n, hB.keep h.lt h.p, hB.keep h.lt h.z, hB.keep h.lt h.v, hB.keep h.lt h.a⟩
/-- An argument, as it lies in memory: the i-th of a row in block ab. -/
structure ArgAt (W : World) (ab i : Nat) (k : Int) (b nn : Bool) (nv : Int) (s : ByteArray) : Prop where
  lt : ab < W.heap.size
  k : W.cell? ⟨ab, i * 6, none⟩ = some (.int .i64 k)
  n : W.cell? ⟨ab, i * 6 + 1, none⟩ = some (.slice none 0 0)
  b : W.cell? ⟨ab, i * 6 + 2, none⟩ = some (.bool b)
  nn : W.cell? ⟨ab, i * 6 + 3, none⟩ = some (.bool nn)
  nv : W.cell? ⟨ab, i * 6 + 4, none⟩ = some (.int .i64 nv)
  s : W.cell? ⟨ab, i * 6 + 5, none⟩ = some (.string s)
theorem ArgAt.ext {W W' : World} {ab i : Nat} {k : Int} {b nn : Bool} {nv : Int} {s : ByteArray} (h : ArgAt W ab i k b nn nv s) (hB : Ext W W') : ArgAt W' ab i k b nn nv s :=
  ⟨Nat.lt_of_lt_of_le h.lt hB.size, hB.keep h.lt h.k, hB.keep h.lt h.n, hB.keep h.lt h.b, hB.keep h.lt h.nn, hB.keep h.lt h.nv, hB.keep h.lt h.s⟩
end Go.Proofs.YtcdehcclkhmbiaaGreatDoor
