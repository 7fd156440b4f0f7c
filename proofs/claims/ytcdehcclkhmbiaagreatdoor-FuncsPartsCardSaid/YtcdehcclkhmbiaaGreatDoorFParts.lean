/-
  recensionlaw24.FuncsParts tells true. Helper lemmas; no statement of the seat is proved here.
-/
import Derived.Test.YtcdehcclkhmbiaaGreatDoorFAwake
import Derived.Test.YtcdehcclkhmbiaaGreatDoorFPlainP
namespace Go.Proofs.YtcdehcclkhmbiaaGreatDoor
open Go.RowKit
set_option maxRecDepth 100000
set_option linter.unusedVariables false
set_option linter.unusedSimpArgs false

set_option maxHeartbeats 8000000 in
theorem parts_any (l : List UInt8) (n : Int) (w : World) (hn : 0 ≤ n) (hn2 : n < 65536) (G : Glob w) (U : GlobU w) : Calls Tryz.prog 5 #[.string (bs l), .int .u16 n] w fun e w' => e = .returned (.bool true) ∧ Ext w w' := by
  have U := Lib.hid U
  have HA := Lib.hid (awake_any w G U.out)
  clear G
  by_cases hl : (1000 : Int) < ((bs l).size : Int)
  · go_enter Tryz.func5, Tryz.ntmps5
    go_wp2_with fail
    refine HA.out.mono ?_
    rintro e w1 ⟨rfl, hE1⟩
    go_wp2_with fail
    go_ret
    exact ⟨rfl, hE1⟩
  · have hl2 : l.length ≤ 1000 := by rw [bs_size] at hl; omega
    obtain ⟨K, hK, hK2⟩ : ∃ K : Nat, n.tmod 1100 = (K : Int) ∧ K < 1100 := ⟨(n.tmod 1100).toNat, by rw [Int.tmod_eq_emod_of_nonneg hn]; omega, by rw [Int.tmod_eq_emod_of_nonneg hn]; omega⟩
    have k0 : (0 : Int) ≤ (K : Int) := by omega
    have k1 : (K : Int) < 1100 := by omega
    go_enter Tryz.func5, Tryz.ntmps5
    go_wp2_with fail
    refine HA.out.mono ?_
    rintro e w1 ⟨rfl, hE1⟩
    clear HA
    go_wp2_with fail
    refine (ltext_any (bs l) _).mono ?_
    rintro e w2 ⟨rfl, hB2⟩
    go_wp2_with fail
    refine (lnum_any 1000000 _).mono ?_
    rintro e w3 ⟨rfl, hB3⟩
    go_wp2_with fail
    refine (lnum_any ((K : Int) * 1000000) _).mono ?_
    rintro e w4 ⟨rfl, hB4⟩
    have hE4 : Ext w w4 := ((hE1.trans hB2).trans hB3).trans hB4
    clear hB2 hB3 hB4 hE1
    obtain ⟨p1, p2, p3⟩ := parts_plain l K (by omega) hl2
    have HS3 := Lib.hid fun W ab cp U' => c_sub3 l 1000000 ((K : Int) * 1000000) 1000000 ((K : Int) * 1000000) ((K : Int) * 1000000 + 1000000) (by omega) (by decide) (round_whole6 K (by omega)) (add_whole6 K (by omega)) ab cp W U'
    have HS2 := Lib.hid fun W ab cp U' => c_sub2 l ((K : Int) * 1000000 + 1000000) ((K : Int) * 1000000 + 1000000) (by omega) (by have := round_whole6 (K + 1) (by omega); push_cast at this; rw [show ((K : Int) + 1) * 1000000 = (K : Int) * 1000000 + 1000000 by omega] at this; exact this) ab cp W U'
    obtain ⟨A, hA⟩ : ∃ A, subT (Pc.pieces l) 1000000 ((K : Int) * 1000000 + 1000000) (Pc.pieces l).length = A := ⟨_, rfl⟩
    obtain ⟨B, hB⟩ : ∃ B, subT (Pc.pieces l) ((K : Int) * 1000000 + 1000000) 1000000000000000 (Pc.pieces l).length = B := ⟨_, rfl⟩
    rw [hA] at p1 p2 p3 HS3
    rw [hB] at p1 HS2
    obtain ⟨N, hN⟩ : ∃ N, (Pc.pieces A).length = N := ⟨_, rfl⟩
    have HLN := Lib.hid fun W ab cp U' => c_length A (by omega) ab cp W U'
    rw [hN] at p2 HLN
    have pB : B.length ≤ 1000 := by have := congrArg List.length p1; rw [List.length_append] at this; omega
    have hcc : ¬ 9223372036854775807 < (bs A).size + (bs B).size := by rw [bs_size, bs_size]; omega
    have hAB : bs A ++ bs B = bs l := by rw [bs_append, p1]
    have hle : (N : Int) * 1000000 ≤ (K : Int) * 1000000 := by omega
    clear hA hB hN p1 p3 hK
    go_wp2_with fail
    refine (HS3.out _ w4.heap.size 3 (U.out.ext (hE4.alloc _)) (arg_lit _ _ 0 _ _ _ _ _ rfl rfl rfl rfl rfl rfl) (arg_lit _ _ 1 _ _ _ _ _ rfl rfl rfl rfl rfl rfl) (arg_lit _ _ 2 _ _ _ _ _ rfl rfl rfl rfl rfl rfl)).mono ?_
    rintro e w5 ⟨rfl, hB5⟩
    have hE5 : Ext w w5 := (hE4.alloc _).trans hB5
    clear hB5 hE4 HS3
    go_wp2_with fail
    refine (ltext_any (bs l) _).mono ?_
    rintro e w6 ⟨rfl, hB6⟩
    go_wp2_with fail
    refine (lnum_any ((K : Int) * 1000000 + 1000000) _).mono ?_
    rintro e w7 ⟨rfl, hB7⟩
    have hX7 := hB6.trans hB7
    have v7 : w7.cell? ⟨w5.heap.size, 5, none⟩ = some (.string (bs A)) := hX7.keep (by simp) (by simp [go_sem])
    have l7 : w5.heap.size < w7.heap.size := by have := hX7.size; simp at this; omega
    have hE7 : Ext w w7 := (hE5.alloc _).trans hX7
    clear hB6 hB7 hX7 hE5
    go_wp2_with fail
    refine (HS2.out _ w7.heap.size 2 (U.out.ext (hE7.alloc _)) (arg_lit _ _ 0 _ _ _ _ _ rfl rfl rfl rfl rfl rfl) (arg_lit _ _ 1 _ _ _ _ _ rfl rfl rfl rfl rfl rfl)).mono ?_
    rintro e w8 ⟨rfl, hB8⟩
    have hX8 : Ext w7 w8 := ((Ext.refl w7).alloc _).trans hB8
    have v8 := hX8.keep l7 v7
    have l8 : w5.heap.size < w8.heap.size := Nat.lt_of_lt_of_le l7 hX8.size
    have hE8 := hE7.trans hX8
    clear hB8 hX8 v7 l7 hE7 HS2
    go_wp2_with fail
    refine (ltext_any (bs A) _).mono ?_
    rintro e w9 ⟨rfl, hB9⟩
    have u9 : w9.cell? ⟨w8.heap.size, 5, none⟩ = some (.string (bs B)) := hB9.keep (by simp) (by simp [go_sem])
    have m9 : w8.heap.size < w9.heap.size := by have := hB9.size; simp at this; omega
    have hX9 : Ext w8 w9 := ((Ext.refl w8).alloc _).trans hB9
    have v9 := hX9.keep l8 v8
    have l9 : w5.heap.size < w9.heap.size := by omega
    have hE9 := hE8.trans hX9
    clear hB9 hX9 v8 l8 hE8
    go_wp2_with fail
    refine (HLN.out _ w9.heap.size 1 (U.out.ext (hE9.alloc _)) (arg_lit _ _ 0 _ _ _ _ _ rfl rfl rfl rfl rfl rfl)).mono ?_
    rintro e w10 ⟨rfl, hB10⟩
    have hX10 : Ext w9 w10 := ((Ext.refl w9).alloc _).trans hB10
    have v10 := hX10.keep l9 v9
    have u10 := hX10.keep m9 u9
    have l10 : w5.heap.size < w10.heap.size := Nat.lt_of_lt_of_le l9 hX10.size
    have m10 : w8.heap.size < w10.heap.size := Nat.lt_of_lt_of_le m9 hX10.size
    have hE10 := hE9.trans hX10
    clear hB10 hX10 v9 u9 l9 m9 hE9 HLN
    go_wp2_with fail
    go_ret
    refine ⟨rfl, ?_⟩
    repeat refine Ext.set ?_ (by have := hE10.size; dsimp only; omega) _
    exact hE10.alloc _
/-- The law, of whatever text and number. -/
theorem parts_walk (s : ByteArray) (n : Int) (w : World) (G : Glob w) (U : GlobU w) (hn : (Lit.int IntKind.u16 n).wf = true) : Calls Tryz.prog 5 #[.string s, .int .u16 n] w fun e w' => e = .returned (.bool true) ∧ Ext w w' := by
  rw [str_ext s]
  have h2 : 0 ≤ n ∧ n < 65536 := by simp [Lit.wf, go_sem, IntKind.min, IntKind.max, IntKind.bits, IntKind.signed] at hn; omega
  exact parts_any _ n w h2.1 h2.2 G U
end Go.Proofs.YtcdehcclkhmbiaaGreatDoor
