/-
  Small laws for a region that draws its order, walked one operation at a time, each operation named by its number: what yields in every world that meets S goes first, a call where it alone may come up. Helper lemmas; no statement of the seat is proved here.
-/
import Derived.Test.YtmmopcceabdecaaGreatDoorBase
import Derived.Deep.RegionHeld3
namespace Go.Proofs.YtmmopcceabdecaaGreatDoor
open Go.RowKit

section
variable {P : Program} {ops : Array Oper} {Q : Exit → Act → World → Prop} {S : World → Prop} {fuel : Nat} {listed : Array Bool} {a : Act} {w : World}
/-- The region begins. -/
theorem rg_begin {id : Nat} (hm : P.follows .mixedOrders = true) (hS : S w.drew)
    (h : wpAnyH P .any ops Q S ops.size (Array.replicate ops.size false) a w.drew) : (Code.region id ops true).wp P Q a w := wp_region_held_drew hm hS fun _ => h
/-- Operation i is not wanted. -/
theorem rg_skip (i : Nat) (d : Option Tmp) {oi : Oper} (hi : ops[i]? = some oi) (hd : oi.dst = d) (hs : Region.noSelect ops = true) (hf : Region.free .any ops listed i = true) (hr : (Region.ready .any ops listed).contains i = true)
    (hQ : ∀ c a w, Q (.panic c) (a.put oi.dst undef) w → Q (.panic c) a w) (hS : S w) (hw : Region.wanted oi (yielded ops a.tmps) = false)
    (h : wpAnyH P .any ops Q S fuel (listed.setIfInBounds i true) (a.put d undef) w) : wpAnyH P .any ops Q S (fuel + 1) listed a w :=
  wpAnyH_take hi hs hf hr hQ (Or.inr ⟨hw, rfl⟩) hS (by rw [hd]; exact h)
/-- Operation i yields v, in every world that meets S. -/
theorem rg_take (i : Nat) (d : Option Tmp) (v : Value) {oi : Oper} (hi : ops[i]? = some oi) (hd : oi.dst = d) (hs : Region.noSelect ops = true) (hf : Region.free .any ops listed i = true) (hr : (Region.ready .any ops listed).contains i = true)
    (hQ : ∀ c a w, Q (.panic c) (a.put oi.dst v) w → Q (.panic c) a w) (hS : S w) (hw : Region.wanted oi (yielded ops a.tmps) = true)
    (hv : ∀ w', S w' → (execOp a.eval oi).run P w' = .ok (.value v) w')
    (h : wpAnyH P .any ops Q S fuel (listed.setIfInBounds i true) (a.put d v) w) : wpAnyH P .any ops Q S (fuel + 1) listed a w :=
  wpAnyH_take hi hs hf hr hQ (Or.inl ⟨hw, hv⟩) hS (by rw [hd]; exact h)
/-- rg_skip and rg_take with their plain sides filled in. -/
theorem rg_s (i : Nat) (d : Option Tmp) {oi : Oper} (hi : ops[i]? = some oi) (hS : S w) (h : wpAnyH P .any ops Q S fuel (listed.setIfInBounds i true) (a.put d undef) w)
    (hd : oi.dst = d := by rfl) (hs : Region.noSelect ops = true := by kernel_rfl) (hf : Region.free .any ops listed i = true := by kernel_rfl) (hr : (Region.ready .any ops listed).contains i = true := by kernel_rfl)
    (hQ : ∀ c a w, Q (.panic c) (a.put oi.dst undef) w → Q (.panic c) a w := by exact fun _ _ _ h => h) (hw : Region.wanted oi (yielded ops a.tmps) = false := by rfl) : wpAnyH P .any ops Q S (fuel + 1) listed a w :=
  rg_skip i d hi hd hs hf hr hQ hS hw h
theorem rg_t (i : Nat) (d : Option Tmp) (v : Value) {oi : Oper} (hi : ops[i]? = some oi) (hS : S w) (hv : ∀ w', S w' → (execOp a.eval oi).run P w' = .ok (.value v) w') (h : wpAnyH P .any ops Q S fuel (listed.setIfInBounds i true) (a.put d v) w)
    (hd : oi.dst = d := by rfl) (hs : Region.noSelect ops = true := by kernel_rfl) (hf : Region.free .any ops listed i = true := by kernel_rfl) (hr : (Region.ready .any ops listed).contains i = true := by kernel_rfl)
    (hQ : ∀ c a w, Q (.panic c) (a.put oi.dst v) w → Q (.panic c) a w := by exact fun _ _ _ h => h) (hw : Region.wanted oi (yielded ops a.tmps) = true := by rfl) : wpAnyH P .any ops Q S (fuel + 1) listed a w :=
  rg_take i d v hi hd hs hf hr hQ hS hw hv h
/-- Operation i alone may come up: a call of function f, by what it leaves. -/
theorem rg_call (i : Nat) (d : Option Tmp) (f : FuncId) (vals : Array Value) {oi : Oper} (hi : ops[i]? = some oi) (hd : oi.dst = d) (hr : Region.ready .any ops listed = [i]) (hw : Region.wanted oi (yielded ops a.tmps) = true)
    (hrun : ∀ w', (execOp a.eval oi).run P w' = .ok (.enter f vals) w') {R : Value → World → Prop}
    (hc : Calls P f vals w fun e w' => ∃ v, e = .returned v ∧ R v w')
    (h : ∀ v w', R v w' → S w' ∧ wpAnyH P .any ops Q S fuel (listed.setIfInBounds i true) (a.put d v) w') : wpAnyH P .any ops Q S (fuel + 1) listed a w := by
  refine wpAnyH_all hr (by simp) fun j hj => ?_
  obtain rfl : j = i := by simpa using hj
  unfold wpOp
  simp only [hi, hw, if_true]
  refine Or.inl ?_
  unfold Oper.wp
  rw [hrun w, Oper.upon_enter]
  refine hc.mono fun e w' ⟨v, he, hR⟩ => ?_
  subst he
  dsimp only
  rw [hd]
  exact h v w' hR
/-- Operation i alone may come up, and turns the world. -/
theorem rg_step (i : Nat) (d : Option Tmp) (v : Value) (w1 : World) {oi : Oper} (hi : ops[i]? = some oi) (hd : oi.dst = d) (hr : Region.ready .any ops listed = [i]) (hw : Region.wanted oi (yielded ops a.tmps) = true)
    (hrun : (execOp a.eval oi).run P w = .ok (.value v) w1)
    (hS : S w1) (h : wpAnyH P .any ops Q S fuel (listed.setIfInBounds i true) (a.put d v) w1) : wpAnyH P .any ops Q S (fuel + 1) listed a w := by
  refine wpAnyH_all hr (by simp) fun j hj => ?_
  obtain rfl : j = i := by simpa using hj
  unfold wpOp
  simp only [hi, hw, if_true]
  refine Or.inl ?_
  unfold Oper.wp
  rw [hrun, Oper.upon_value, hd]
  exact ⟨hS, h⟩
/-- Operation i alone may come up, and writes. -/
theorem rg_write (i : Nat) (d : Option Tmp) (w1 : World) {oi : Oper} (hi : ops[i]? = some oi) (hd : oi.dst = d) (hr : Region.ready .any ops listed = [i]) (hw : Region.wanted oi (yielded ops a.tmps) = true)
    (hrun : (execOp a.eval oi).run P w = .ok .skip w1)
    (hS : S w1) (h : wpAnyH P .any ops Q S fuel (listed.setIfInBounds i true) (a.put d undef) w1) : wpAnyH P .any ops Q S (fuel + 1) listed a w := by
  refine wpAnyH_all hr (by simp) fun j hj => ?_
  obtain rfl : j = i := by simpa using hj
  unfold wpOp
  simp only [hi, hw, if_true]
  refine Or.inl ?_
  unfold Oper.wp
  rw [hrun, Oper.upon_skip, hd]
  exact ⟨hS, h⟩
theorem rg_done (hr : Region.ready .any ops listed = []) (h : Q .normal a w) : wpAnyH P .any ops Q S fuel listed a w := wpAnyH_done hr h fuel
end
/-- The condition of a region in the midst of a walk: what was there at its beginning is as it was. -/
def Sx (w0 w' : World) : Prop := Ext w0 w'
theorem Sx.cell {w0 w' : World} (h : Sx w0 w') {b o : Nat} {v : Value} (hb : b < w0.heap.size) (hc : w0.cell? ⟨b, o, none⟩ = some v) : w'.cell? ⟨b, o, none⟩ = some v := Ext.keep h hb hc
theorem Sx.begin (w : World) : Sx w w.drew := (Ext.refl w).drew
theorem Sx.ext {w0 w w' : World} (h : Sx w0 w) (k : Ext w w') : Sx w0 w' := Ext.trans h k
theorem Sx.alloc {w0 w : World} (h : Sx w0 w) (o : Obj) : Sx w0 (w.alloc o) := Ext.alloc h o
/-- Short names. -/
theorem sA {α : Type} {l : List α} {i : Nat} {a : α} : l.toArray.setIfInBounds i a = (l.set i a).toArray := List.setIfInBounds_toArray l i a
theorem sZ {α : Type} {l : List α} {a b : α} : (a :: l).set 0 b = b :: l := rfl
theorem sS {α : Type} {l : List α} {n : Nat} {a b : α} : (a :: l).set (n + 1) b = a :: l.set n b := rfl
end Go.Proofs.YtmmopcceabdecaaGreatDoor
