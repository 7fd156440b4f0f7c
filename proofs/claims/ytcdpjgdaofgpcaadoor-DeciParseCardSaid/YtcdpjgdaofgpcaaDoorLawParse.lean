/-
  The walk of recensionlaw03.DeciParse: it returns true, whatever it is given. Helper lemmas; the statement itself is proved in the row's text.
-/
import Derived.Test.YtcdpjgdaofgpcaaDoorDeciAwake
import Derived.Test.YtcdpjgdaofgpcaaDoorRef3f
namespace Go.Proofs.YtcdpjgdaofgpcaaDoor
open Go.RowKit
set_option maxRecDepth 100000
set_option linter.unusedVariables false
set_option linter.unusedSimpArgs false

set_option maxHeartbeats 4000000 in
theorem parse_long (s : ByteArray) (w : World) (G : Glob w) (hm : s.size ≤ 9223372036854775807) (hs : 1000 < s.size) :
    Calls Tryd.prog 4 #[.string s] w fun e w' => e = .returned (.bool true) ∧ Ext w w' := by
  go_enter Tryd.func4, Tryd.ntmps4
  go_wp2_with fail
  refine (awake3 _ G).mono ?_
  rintro e w1 ⟨rfl, hB1⟩
  have hz1 := hB1.size
  go_wp2_with fail
  go_ret
  refine ⟨rfl, ?_⟩
  repeat (first | exact Ext.refl _ | refine Ext.set ?_ (by dsimp only; omega) _ | refine Ext.alloc ?_ _ | refine Ext.drew ?_ | refine (Ext.trans ?_ (by assumption)))
set_option maxHeartbeats 4000000 in
theorem parse_short (s : ByteArray) (w : World) (G : Glob w) (hs : s.size ≤ 1000) :
    Calls Tryd.prog 4 #[.string s] w fun e w' => e = .returned (.bool true) ∧ Ext w w' := by
  obtain ⟨⟨⟨r1, r2⟩, r3⟩, er⟩ : ∃ r, parseS s.data.toList = r := ⟨_, rfl⟩
  have E0 := Lib.hid er; clear er
  go_enter Tryd.func4, Tryd.ntmps4
  go_wp2_with fail
  refine (awake3 _ G).mono ?_
  rintro e w1 ⟨rfl, hB1⟩
  have hz1 := hB1.size
  go_wp2_with fail
  refine (parse_any s _ (G.ext hB1) (by omega)).mono ?_
  rw [E0.out]
  rintro e w2 ⟨rfl, hB2⟩
  have hz2 := hB2.size
  go_wp2_with fail
  refine (rparse_any s _ (by omega)).mono ?_
  rw [E0.out]
  rintro e w3 ⟨rfl, hB3⟩
  have hz3 := hB3.size
  simp at hz3
  have l0_3 : w2.heap.size < w3.heap.size := by omega
  have c0_0_3 : w3.cell? ⟨w2.heap.size, 0, none⟩ = some (.bool r1) := hB3.keep (by first | (simp; done) | (simp; omega)) (by simp [go_sem])
  have c0_1_3 : w3.cell? ⟨w2.heap.size, 1, none⟩ = some (.int .i64 r2) := hB3.keep (by first | (simp; done) | (simp; omega)) (by simp [go_sem])
  go_wp2_with fail
  obtain ⟨w4, hW4⟩ : ∃ wz, (w3.alloc (.cells #[.bool r1, .int .i64 r2] 38)) = wz := ⟨_, rfl⟩
  rw [hW4]
  have hB4 : Ext (w3.alloc (.cells #[.bool r1, .int .i64 r2] 38)) w4 := by rw [hW4]; exact Ext.refl _
  clear hW4
  have hz4 := hB4.size
  simp at hz4
  have l0_4 : w2.heap.size < w4.heap.size := by omega
  have l1_4 : w3.heap.size < w4.heap.size := by omega
  have c0_0_4 : w4.cell? ⟨w2.heap.size, 0, none⟩ = some (.bool r1) := hB4.keep (by first | (simp; done) | (simp; omega)) (by simp [go_sem, l0_3, c0_0_3])
  have c0_1_4 : w4.cell? ⟨w2.heap.size, 1, none⟩ = some (.int .i64 r2) := hB4.keep (by first | (simp; done) | (simp; omega)) (by simp [go_sem, l0_3, c0_1_3])
  have c1_0_4 : w4.cell? ⟨w3.heap.size, 0, none⟩ = some (.bool r1) := hB4.keep (by first | (simp; done) | (simp; omega)) (by simp [go_sem, l0_3])
  have c1_1_4 : w4.cell? ⟨w3.heap.size, 1, none⟩ = some (.int .i64 r2) := hB4.keep (by first | (simp; done) | (simp; omega)) (by simp [go_sem, l0_3])
  clear c0_0_3 c0_1_3 l0_3
  go_wp2_with fail
  go_ret
  refine ⟨rfl, ?_⟩
  repeat (first | exact Ext.refl _ | refine Ext.set ?_ (by dsimp only; omega) _ | refine Ext.alloc ?_ _ | refine Ext.drew ?_ | refine (Ext.trans ?_ (by assumption)))
theorem parse_walk (s : ByteArray) (w : World) (G : Glob w) (hm : s.size ≤ 9223372036854775807) :
    Calls Tryd.prog 4 #[.string s] w fun e w' => e = .returned (.bool true) ∧ Ext w w' := by
  by_cases hs : 1000 < s.size
  · exact parse_long s w G hm hs
  · exact parse_short s w G (by omega)
end Go.Proofs.YtcdpjgdaofgpcaaDoor
