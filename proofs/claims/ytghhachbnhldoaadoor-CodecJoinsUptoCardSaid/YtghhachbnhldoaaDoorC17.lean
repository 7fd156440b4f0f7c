/-
  codec.ReadEdits. Helper lemmas; no statement of the seat is proved here.
-/
import Derived.Test.YtghhachbnhldoaaDoorC16
namespace Go.Proofs.YtghhachbnhldoaaDoor
open Go.RowKit
set_option maxRecDepth 100000
set_option linter.unusedVariables false
set_option linter.unusedSimpArgs false

theorem cfail_any (w : World) : Calls Tryd.prog 28 #[] w fun e w' => (∃ v, e = .returned v ∧ ErrV w' w.heap.size 52 0 v) ∧ Ext w w' := by
  go_enter Tryd.func28, Tryd.ntmps28
  go_wp2_with fail
  refine (new_any 52 0 (by decide) _).mono ?_
  rintro e w1 ⟨rfl, hw1⟩
  go_wp2_with fail
  refine (wrap_any _ _ _).mono ?_
  rintro e w2 ⟨rfl, hw2⟩
  go_wp2_with fail
  go_ret
  subst hw1
  subst hw2
  refine ⟨⟨_, rfl, _, w.heap.size, rfl, by simp, by simp <;> omega, by simp [go_sem], ?_, ?_, by simp, Nat.le_refl _⟩, ((Ext.refl w).alloc _).alloc _⟩
  · exact ((Ext.refl _).alloc _).keep (by simp) (by simp [go_sem])
  · exact ((Ext.refl _).alloc _).keep (by simp) (by simp [go_sem])
/-- What ReadEdits tells. -/
def RetE (base : Nat) (ok : Bool) (l : List Edit) (e : Ending) (w : World) : Prop :=
  (ok = true → ∃ rv, e = .returned (.tuple #[rv, .nilIface]) ∧ Rep w (fun k => base ≤ k) rv (editsD l)) ∧ (ok = false → ∃ ev, e = .returned (.tuple #[.slice none 0 0, ev]) ∧ ∃ lo, ErrV w lo 52 0 ev)
set_option maxHeartbeats 16000000 in
theorem readedits_any (l : List Edit) (rest : Bytes) (p : Nat → Prop) (v : Value) (w : World) (hl : l.length ≤ 1000000000) (hok : ∀ x ∈ l, okE x = true) (hv : Rep w p v (numsD .u8 (byI (editsB l ++ rest)))) :
    Calls Tryd.prog 8 #[v] w fun e w' => RetE w.heap.size (l.all fitE && rest.isEmpty) l e w' ∧ Ext w w' := by
  obtain ⟨inp, hinp⟩ : ∃ x, editsB l ++ rest = x := ⟨_, rfl⟩
  rw [hinp] at hv
  have hpos : 0 < inp.length := by rw [← hinp, List.length_append]; unfold editsB; rw [List.length_append]; have := numB_pos l.length; omega
  obtain ⟨a, c, rfl, hc1, hc2⟩ := by_count hv
  obtain ⟨bb, off, rfl, hb0, hc0⟩ := by_at hv 0 hpos
  obtain ⟨wr, hwr⟩ : ∃ W, w.alloc (.cells #[.slice (some ⟨bb, off, none⟩) inp.length c, .int .i64 0, .bool false] 72) = W := ⟨_, rfl⟩
  have hE : Ext w wr := by rw [← hwr]; exact (Ext.refl w).alloc _
  have hblk : wr.heap[w.heap.size]? = some (.cells [.slice (some ⟨bb, off, none⟩) inp.length c, .int .i64 0, .bool false].toArray 72 (0, 0)) := by rw [← hwr]; exact Array.getElem?_push_size
  have hS : RS w wr inp 0 false := ⟨hE, ⟨bb, off, c, blk_cells hblk 0 rfl, hv.ok fun _ _ => trivial, hc1, hc2⟩, blk_cells hblk 1 rfl, blk_cells hblk 2 rfl, blk_free hblk, blk_free hblk, blk_free hblk⟩
  obtain ⟨B, hB⟩ : ∃ B, l.all fitE = B := ⟨_, rfl⟩
  have hc := redits_some w wr inp 0 false l rest hl (fun _ => hinp.symm) hS fun x hx W inp b rest h1 h2 => redit_any w W inp b x rest (hok x hx) h1 h2
  rw [Bool.false_or, hB] at hc
  rw [hB]
  obtain ⟨EM, hEM⟩ : ∃ E, rest.isEmpty = E := ⟨_, rfl⟩
  rw [hEM]
  have HT : Hid (EM = true → ¬ (0 : Int) < (rest.length : Int)) := Lib.hid fun e => by rw [e, List.isEmpty_iff] at hEM; rw [hEM]; simp
  have HF : Hid (EM = false → (0 : Int) < (rest.length : Int)) := Lib.hid fun e => by
    have : rest ≠ [] := fun e2 => by rw [e2] at hEM; rw [← hEM] at e; cases e
    have := List.length_pos_iff.2 this
    omega
  have HC := Lib.hid hc
  have HE := Lib.hid hE
  clear hv hc0 hblk hS hc hE hok hB hinp hpos hEM
  go_enter Tryd.func8, Tryd.ntmps8
  go_wp2_with fail
  refine HC.out.mono ?_
  rintro e w1 ⟨v, rfl, ⟨a1, n1, c1, rfl, hrep⟩, ⟨inp1, hS, hin⟩, hX⟩
  have k2 := hS.c2
  obtain ⟨b2, o2, cc, k0, hr2, _, _⟩ := hS.row
  have HR := Lib.hid (And.intro hrep (And.intro hin hS.ext))
  clear HC hrep hS hX hwr
  cases B with
  | false =>
    clear hin
    go_wp2_with fail
    refine (cfail_any _).mono ?_
    rintro e w2 ⟨⟨ev, rfl, hev⟩, hB2⟩
    have HEV := Lib.hid hev
    obtain ⟨eb1, eb2, rfl, _⟩ := hev
    go_wp2_with fail
    go_ret2
    exact ⟨⟨fun h => by simp at h, fun _ => ⟨_, rfl, _, HEV.out⟩⟩, HR.out.2.2.trans hB2⟩
  | true =>
    obtain rfl := hin rfl
    clear hin
    cases EM with
    | true =>
      have hl0 := HT.out rfl
      go_wp2_with fail
      go_ret2
      exact ⟨⟨fun _ => ⟨_, rfl, (HR.out.1 rfl).ok fun k hk => Nat.le_trans HE.out.size hk⟩, fun h => by simp at h⟩, HR.out.2.2⟩
    | false =>
      have hl0 := HF.out rfl
      go_wp2_with fail
      refine (cfail_any _).mono ?_
      rintro e w2 ⟨⟨ev, rfl, hev⟩, hB2⟩
      have HEV := Lib.hid hev
      obtain ⟨eb1, eb2, rfl, _⟩ := hev
      go_wp2_with fail
      go_ret2
      exact ⟨⟨fun h => by simp at h, fun _ => ⟨_, rfl, _, HEV.out⟩⟩, HR.out.2.2.trans hB2⟩

end Go.Proofs.YtghhachbnhldoaaDoor
