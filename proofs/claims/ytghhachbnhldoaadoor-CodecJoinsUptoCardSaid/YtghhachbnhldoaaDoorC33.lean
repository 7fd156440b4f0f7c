/-
  codec.Archive of nothing. Helper lemmas; no statement of the seat is proved here.
-/
import Derived.Test.YtghhachbnhldoaaDoorC31
namespace Go.Proofs.YtghhachbnhldoaaDoor
open Go.RowKit
set_option maxRecDepth 100000
set_option linter.unusedVariables false
set_option linter.unusedSimpArgs false

set_option maxHeartbeats 8000000 in
theorem carch0_any (w : World) : Calls Tryd.prog 13 #[.agg #[.int .i64 0, .string ⟨#[]⟩, .slice none 0 0, .slice none 0 0, .slice none 0 0, .slice none 0 0]] w fun e w' => (∃ rv, e = .returned rv ∧ w'.ownsRow (w.heap.size + 1) 5 1 rv 1 (rowB [0])) ∧ Ext w w' := by
  obtain ⟨wa, hwa⟩ : ∃ W, w.alloc (.cells #[.int .i64 0, .string ⟨#[]⟩, .slice none 0 0, .slice none 0 0, .slice none 0 0, .slice none 0 0] 45) = W := ⟨_, rfl⟩
  have hEa : Ext w wa := by rw [← hwa]; exact (Ext.refl w).alloc _
  have hsz : w.heap.size + 1 ≤ wa.heap.size := by rw [← hwa]; simp
  have hblk : wa.heap[w.heap.size]? = some (.cells [.int .i64 0, .string ⟨#[]⟩, .slice none 0 0, .slice none 0 0, .slice none 0 0, .slice none 0 0].toArray 45 (0, 0)) := by rw [← hwa]; exact Array.getElem?_push_size
  obtain ⟨wb, hwb⟩ : ∃ W, wa.alloc (.cells #[.slice none 0 0, .bool false] 59) = W := ⟨_, rfl⟩
  have hEb : Ext wa wb := by rw [← hwb]; exact (Ext.refl wa).alloc _
  have hS : WS wa wb [] false := by rw [← hwb]; exact ⟨(Ext.refl wa).alloc _, ⟨_, by simp [go_sem], World.ownsRow_nil _ _ _ _⟩, by simp [go_sem], by simp [go_sem], by simp [go_sem]⟩
  have HC := Lib.hid (wcnt_any wa wb [] false 0 (by decide) (by decide) hS)
  have hl0 := blk_lt hblk
  have k0 := hEb.keep hl0 (blk_cells hblk 0 rfl)
  have HE := Lib.hid (And.intro hEa (And.intro hsz (And.intro hl0 (blk_cells hblk 0 rfl))))
  clear hEa hsz hS hblk
  go_enter Tryd.func13, Tryd.ntmps13
  go_wp2_with fail
  refine HC.out.mono ?_
  rintro e w1 ⟨⟨u, rfl⟩, hS1, _⟩
  have k1 := hS1.ext.keep HE.out.2.2.1 HE.out.2.2.2
  have HD := Lib.hid (wdone_any wa w1 _ _ hS1)
  clear HC hS1 k0
  go_wp2_with fail
  refine HD.out.mono ?_
  rintro e w2 ⟨⟨rv, rfl, hr⟩, hX⟩
  have HR := Lib.hid (And.intro hr hX)
  clear hr hX HD
  go_wp2_with fail
  go_ret
  exact ⟨⟨_, rfl, rows_low HR.out.1 (by have := HE.out.2.1; omega)⟩, HE.out.1.trans HR.out.2⟩
def awE : Edit := ⟨1, [⟨[100, 98], []⟩], [], [], .mk 0 [] [] [] []⟩
theorem awE_enc : encE [awE] = [1, 1, 1, 2, 100, 98, 0, 0, 0, 0, 0, 0, 0, 0] := by kernel_rfl

end Go.Proofs.YtghhachbnhldoaaDoor
