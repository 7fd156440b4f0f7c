/-
  Small: trees, paths, rules. Helper lemmas; no statement of the seat is proved here.
-/
import Derived.Test.YtghhachbnhldoaaDoorT6
namespace Go.Proofs.YtghhachbnhldoaaDoor
open Go.RowKit
set_option maxRecDepth 100000
set_option linter.unusedVariables false
set_option linter.unusedSimpArgs false

set_option maxHeartbeats 4000000 in
theorem bigsmall_any (m : Nat) (hm : m ≤ 1048576) (a : Node) (p : Nat → Prop) (va vk : Value) (w : World) (hc : cntN a ≤ 1048576) (hva : Rep w p va (attrsD a.attrs)) (hvk : Rep w p vk (nodesD a.kids)) :
    Calls Tryd.prog 15 #[.agg #[.int .i64 a.kind, .string (bs a.name), .string (bs a.text), va, vk], .int .i64 m] w fun e w' => e = .returned (.bool (decide (smallN m a ≤ m))) ∧ Ext w w' := by
  have HC := Lib.hid fun W (hE : Ext w W) => small_any m hm (nsz a) a p va vk W (Nat.le_refl _) hc (hva.ext hE) (hvk.ext hE)
  obtain ⟨ba, ca, rfl, ha1, ha2⟩ := hva.count z_attr (by omega)
  obtain ⟨bk, ck, rfl, hk1, hk2⟩ := hvk.count z_node (by omega)
  obtain ⟨s, hs⟩ : ∃ s, smallN m a = s := ⟨_, rfl⟩
  rw [hs] at HC ⊢
  clear hs hva hvk hc
  go_enter Tryd.func15, Tryd.ntmps15
  go_wp2_with fail
  refine (HC.out _ ((Ext.refl w).alloc _)).mono ?_
  rintro e w1 ⟨rfl, hB1⟩
  go_wp2_with fail
  go_ret
  exact ⟨ret_bool (by first | rfl | exact decide_eq_decide.2 (by omega)), ((Ext.refl w).alloc _).trans hB1⟩
/-- Some truth comes back, of which P holds. -/
def SomeB (P : Bool → Prop) (e : Ending) : Prop := ∃ b, e = .returned (.bool b) ∧ P b
set_option maxHeartbeats 4000000 in
/-- Is a path such as is gone through? -/
theorem psmall_any (p : Nat → Prop) (x : List Step) (v : Value) (w : World) (h : Rep w p v (stepsD x)) :
    Calls Tryd.prog 14 #[v] w fun e w' => SomeB (fun b => b = true → x.length ≤ 51) e ∧ Ext w w' := by
  obtain ⟨a, c, rfl, hc1, hc2⟩ := h.count z_step (by omega)
  go_enter Tryd.func14, Tryd.ntmps14
  go_wp2_with fail
  go_loopw [3] (fun t wr => ∃ i : Nat, t = .int .i64 i ∧ i ≤ x.length ∧ i ≤ 51 ∧ Ext w wr) (fun t _ => downV x.length t)
  case atStart => exact ⟨0, rfl, Nat.zero_le _, by omega, Ext.refl _⟩
  case round =>
    obtain ⟨i, rfl, hi, hi2, hX⟩ := hrel
    have hi0 : (0 : Int) ≤ (i : Int) := by omega
    by_cases hlt : i < x.length
    · have hlI : (i : Int) < (x.length : Int) := by omega
      by_cases h50 : 50 < i
      · have h5I : (50 : Int) < (i : Int) := by omega
        go_wp2_with fail
        go_ret
        exact ⟨⟨_, rfl, fun h => by cases h⟩, hX⟩
      · have h5I : ¬ (50 : Int) < (i : Int) := by omega
        obtain ⟨g, o, k, rfl, hb, _, e1, e2, hr⟩ := step_at (h.ext hX) i hlt
        obtain ⟨ak, ck, rfl, _, _⟩ := hr.count z_str (by omega)
        obtain ⟨s, hs⟩ : ∃ s, x[i] = s := ⟨_, rfl⟩
        rw [hs] at e1 e2 hr
        clear hs
        by_cases hk : 50 < s.key.length
        · have hkI : (50 : Int) < (s.key.length : Int) := by omega
          go_wp2_with fail
          go_ret
          exact ⟨⟨_, rfl, fun h => by cases h⟩, hX⟩
        · have hkI : ¬ (50 : Int) < (s.key.length : Int) := by omega
          go_wp2_with fail
          go_roundw
          case rel => exact ⟨i + 1, by go_num, by omega, by omega, hX⟩
          case measure => simp only [downV]; omega
    · have hlI : ¬ (i : Int) < (x.length : Int) := by omega
      go_wp2_with fail
      go_ret
      exact ⟨⟨_, rfl, fun _ => by omega⟩, hX⟩
end Go.Proofs.YtghhachbnhldoaaDoor
