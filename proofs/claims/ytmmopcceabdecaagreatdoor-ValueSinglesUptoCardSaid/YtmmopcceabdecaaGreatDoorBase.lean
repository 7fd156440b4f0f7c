/-
  Small words that every walk of this seat uses: 'Ext w w'': the world w' is w with new blocks behind it; of what was there nothing has turned. Helper lemmas; no statement of the seat is proved here.
-/
import Derived.Test.YtmmopcceabdecaaGreatDoorProg
import Derived.WalkKit
import Derived.WalkSpells
import Derived.WalkLawsBesides
import Derived.RowKit3
import Derived.Below
import Derived.Lib.Hide
import Derived.WalkSmall
namespace Go.Proofs.YtmmopcceabdecaaGreatDoor
open Go.RowKit

def Ext (w w' : World) : Prop := Below w.heap.size w w'
theorem Ext.refl (w : World) : Ext w w := Below.refl _ _
theorem Ext.alloc {a w : World} (h : Ext a w) (o : Obj) : Ext a (w.alloc o) := Below.alloc h (Below.size h) o
theorem Ext.trans {a b c : World} (h : Ext a b) (k : Ext b c) : Ext a c := Below.trans h (Below.mono k (Below.size h))
theorem Ext.set {a w : World} (h : Ext a w) {p : Addr} (hp : a.heap.size ≤ p.block) (u : Value) : Ext a (w.setCell p u) := Below.setCell h hp u
theorem Ext.drew {a w : World} (h : Ext a w) : Ext a w.drew := Below.drew h
theorem Ext.drewN {a w : World} (h : Ext a w) (n : Nat) : Ext a (w.drewN n) := below_drewN h n
theorem Ext.size {a w : World} (h : Ext a w) : a.heap.size ≤ w.heap.size := Below.size h
theorem Ext.cells {a w : World} (h : Ext a w) : ∀ b o, b < a.heap.size → w.cell? ⟨b, o, none⟩ = a.cell? ⟨b, o, none⟩ := fun b o hb => Below.cell (p := ⟨b, o, none⟩) h hb
theorem Ext.frees {a w : World} (h : Ext a w) : ∀ b o, b < a.heap.size → w.frozen? ⟨b, o, none⟩ = a.frozen? ⟨b, o, none⟩ := fun b o hb => Below.frozen (p := ⟨b, o, none⟩) h hb
theorem Ext.keep {a w : World} (h : Ext a w) {b o : Nat} {v : Option Value} (hb : b < a.heap.size) (hc : a.cell? ⟨b, o, none⟩ = v) : w.cell? ⟨b, o, none⟩ = v := (h.cells b o hb).trans hc
theorem Ext.free {a w : World} (h : Ext a w) {b o : Nat} {v : Bool} (hb : b < a.heap.size) (hc : a.frozen? ⟨b, o, none⟩ = v) : w.frozen? ⟨b, o, none⟩ = v := (h.frees b o hb).trans hc

theorem ret_int {k : IntKind} {a b : Int} (h : a = b) : Ending.returned (.int k a) = .returned (.int k b) := by rw [h]
theorem ret_bool {a b : Bool} (h : a = b) : Ending.returned (.bool a) = .returned (.bool b) := by rw [h]
theorem ret_string {a b : ByteArray} (h : a = b) : Ending.returned (.string a) = .returned (.string b) := by rw [h]
end Go.Proofs.YtmmopcceabdecaaGreatDoor
