/-
  recensionref13.Step, recensionref12.Find and Frontier. Helper lemmas; no statement of the seat is proved here.
-/
import Derived.Test.YtghhachbnhldoaaDoorT2
namespace Go.Proofs.YtghhachbnhldoaaDoor
open Go.RowKit
set_option maxRecDepth 100000
set_option linter.unusedVariables false
set_option linter.unusedSimpArgs false

/-- The same step? -/
def stepB (x y : Step) : Bool := if x.n = y.n then textsS x.key y.key else false
theorem stepB_iff (x y : Step) : stepB x y = true ↔ x = y := by
  unfold stepB
  split
  · rename_i h; rw [textsS_iff]; cases x; cases y; simp_all
  · rename_i h; cases x; cases y; simp_all
set_option maxHeartbeats 4000000 in
theorem step_any (p q : Nat → Prop) (x y : Step) (v u : Value) (w : World) (h : Rep w p v (strsD x.key)) (k : Rep w q u (strsD y.key)) :
    Calls Tryd.prog 64 #[.agg #[.string (bs x.n), v], .agg #[.string (bs y.n), u]] w fun e w' => e = .returned (.bool (stepB x y)) ∧ Ext w w' := by
  obtain ⟨a, c, rfl, _, _⟩ := h.count z_str (by omega)
  obtain ⟨b, d, rfl, _, _⟩ := k.count z_str (by omega)
  by_cases he : x.n = y.n
  · have e1 : ((bs x.n).toList == (bs y.n).toList) = true := by rw [bs_toList, bs_toList, he]; exact beq_self_eq_true _
    have HS : Hid (stepB x y = textsS x.key y.key) := Lib.hid (by unfold stepB; rw [if_pos he])
    have HC := Lib.hid fun W (hE : Ext w W) => texts_any p q x.key y.key _ _ W (h.ext hE) (k.ext hE)
    clear h k he
    go_enter Tryd.func64, Tryd.ntmps64
    go_wp2_with fail
    refine (HC.out _ (((Ext.refl w).alloc _).alloc _)).mono ?_
    rintro e w1 ⟨rfl, hB1⟩
    go_wp2_with fail
    go_ret
    exact ⟨ret_bool HS.out.symm, (by repeat (first | exact Ext.refl _ | assumption | refine Ext.alloc ?_ _ | refine Ext.set ?_ (by dsimp only; omega) _ | refine Ext.drewN ?_ _ | refine (Ext.trans ?_ (by assumption))))⟩
  · have e1 : ((bs x.n).toList == (bs y.n).toList) = false := by rw [bs_toList, bs_toList, beq_eq_false_iff_ne]; exact he
    have HS : Hid (stepB x y = false) := Lib.hid (by unfold stepB; rw [if_neg he])
    clear h k he
    go_enter Tryd.func64, Tryd.ntmps64
    go_wp2_with fail
    go_ret
    exact ⟨ret_bool HS.out.symm, ((Ext.refl w).alloc _).alloc _⟩
/-- The number of the rule of a path; -1: none. -/
def findS (path : List Bytes) : List Rule → Nat → Int
  | [], _ => -1
  | r :: l, i => if textsS r.path path = true then (i : Int) else findS path l (i + 1)
theorem findS_range (path : List Bytes) : ∀ (l : List Rule) (i : Nat), findS path l i = -1 ∨ ((i : Int) ≤ findS path l i ∧ findS path l i < ((i + l.length : Nat) : Int))
  | [], i => Or.inl rfl
  | r :: l, i => by
    unfold findS
    split
    · right; simp only [List.length_cons]; omega
    · rcases findS_range path l (i + 1) with h | h
      · exact Or.inl h
      · right; simp only [List.length_cons]; omega
/-- Is a path a rule's, and no rule's above another one? -/
def aboveS (path : List Bytes) (l : List Rule) : Bool := l.any fun r => decide (path.length < r.path.length) && textsS (r.path.take path.length) path
def frontS (l : List Rule) (path : List Bytes) : Bool := !aboveS path l && decide (0 ≤ findS path l 0)
theorem above_step (path : List Bytes) (r : Rule) (l : List Rule) : aboveS path (r :: l) = ((decide (path.length < r.path.length) && textsS (r.path.take path.length) path) || aboveS path l) := by unfold aboveS; rw [List.any_cons]
end Go.Proofs.YtghhachbnhldoaaDoor
