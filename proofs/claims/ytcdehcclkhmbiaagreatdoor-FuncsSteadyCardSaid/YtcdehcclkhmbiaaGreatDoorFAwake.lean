/-
  recensionlaw24.awake tells true. Helper lemmas; no statement of the seat is proved here.
-/
import Derived.Test.YtcdehcclkhmbiaaGreatDoorFCalls
namespace Go.Proofs.YtcdehcclkhmbiaaGreatDoor
open Go.RowKit
set_option maxRecDepth 100000
set_option linter.unusedVariables false
set_option linter.unusedSimpArgs false

theorem pieces_ascii5 : Pc.pieces [49, 50, 51, 52, 53] = [[49], [50], [51], [52], [53]] := by decide
theorem sub_awake : subT (Pc.pieces [49, 50, 51, 52, 53]) 2000000 5000000 (Pc.pieces [49, 50, 51, 52, 53]).length = [50, 51, 52] := by decide
theorem tr_awake : trL (Pc.pieces [98, 97, 114]) (Pc.pieces [97, 98, 99]) (Pc.pieces [65, 66]) = [66, 65, 114] := by kernel_rfl
theorem sp_awake : spacesL (bs [32, 97, 32, 32, 98, 32]) = [97, 32, 98] := by kernel_rfl
theorem spn_awake : (Lib.goFieldsP blankB (bs [32, 97, 32, 32, 98, 32])).length = 2 := by kernel_rfl
theorem strRow_lit {w : World} (l : List (List UInt8)) (hl : l.length ≤ 1000) : StrRow (w.alloc (.cells (strV l).toArray 9)) (.slice (some ⟨w.heap.size, 0, none⟩) l.length l.length) l :=
  ⟨Or.inr ⟨w.heap.size, l.length, rfl, Nat.le_refl _, by omega, ⟨_, show (w.heap.push _)[w.heap.size]? = some _ from Array.getElem?_push_size⟩, fun j hj => by
    have h := strV_at l j hj
    have : (w.alloc (.cells (strV l).toArray 9)).cell? ⟨w.heap.size, j, none⟩ = (strV l).toArray[j]? := Lib.cell_of_heap (show (w.heap.push _)[w.heap.size]? = some (.cells (strV l).toArray 9 (0, 0)) from Array.getElem?_push_size) j
    rw [this, List.getElem?_toArray]; exact h⟩⟩
theorem arg_lit (w : World) (cs : Array Value) (i : Nat) (k : Int) (b nn : Bool) (nv : Int) (s : ByteArray) (h0 : cs[i * 6]? = some (.int .i64 k)) (h1 : cs[i * 6 + 1]? = some (.slice none 0 0)) (h2 : cs[i * 6 + 2]? = some (.bool b)) (h3 : cs[i * 6 + 3]? = some (.bool nn)) (h4 : cs[i * 6 + 4]? = some (.int .i64 nv)) (h5 : cs[i * 6 + 5]? = some (.string s)) : ArgAt (w.alloc (.cells cs 28)) w.heap.size i k b nn nv s :=
  have hc : ∀ j, (w.alloc (.cells cs 28)).cell? ⟨w.heap.size, j, none⟩ = cs[j]? := fun j => Lib.cell_of_heap (show (w.heap.push _)[w.heap.size]? = some (.cells cs 28 (0, 0)) from Array.getElem?_push_size) j
  ⟨by show w.heap.size < (w.heap.push _).size; rw [Array.size_push]; omega, by rw [hc]; exact h0, by rw [hc]; exact h1, by rw [hc]; exact h2, by rw [hc]; exact h3, by rw [hc]; exact h4, by rw [hc]; exact h5⟩
abbrev zCtx : Value := .agg #[.int .i64 0, .int .i64 0, .int .i64 0, .int .i64 0]
theorem awk_tr (w W : World) (G : Glob w) (U : GlobU w) (v : Value) (hS : StrRow W v [[98, 97, 114], [97, 98, 99], [65, 66]]) (hX : Ext w W) :
    Calls Tryz.prog 8 #[.string ⟨#[116, 114, 97, 110, 115, 108, 97, 116, 101]⟩, v] W fun e w' => e = .returned (.string ⟨#[66, 65, 114]⟩) ∧ Ext W w' :=
  told_any_texts ⟨#[116, 114, 97, 110, 115, 108, 97, 116, 101]⟩ [[98, 97, 114], [97, 98, 99], [65, 66]] v (bs [66, 65, 114]) W (by decide) (by decide) hS (Lib.hid fun W' ab cp hX' hA => by
    have := c_translate [98, 97, 114] [97, 98, 99] [65, 66] (by decide) (by decide) (by decide) ab cp W' (U.ext (hX.trans hX')) (hA 0 (by decide)) (hA 1 (by decide)) (hA 2 (by decide))
    rw [tr_awake] at this; exact this)
theorem awk_sp (w W : World) (v : Value) (hS : StrRow W v [[32, 97, 32, 32, 98, 32]]) (hX : Ext w W) :
    Calls Tryz.prog 8 #[.string ⟨#[110, 111, 114, 109, 97, 108, 105, 122, 101, 45, 115, 112, 97, 99, 101]⟩, v] W fun e w' => e = .returned (.string ⟨#[97, 32, 98]⟩) ∧ Ext W w' :=
  told_any_texts ⟨#[110, 111, 114, 109, 97, 108, 105, 122, 101, 45, 115, 112, 97, 99, 101]⟩ [[32, 97, 32, 32, 98, 32]] v (bs [97, 32, 98]) W (by decide) (by decide) hS (Lib.hid fun W' ab cp hX' hA => by
    have := c_space [32, 97, 32, 32, 98, 32] (by decide) (by rw [spn_awake]; decide) (by rw [sp_awake]; decide) ab cp W' (hA 0 (by decide))
    rw [sp_awake] at this; exact this)
theorem awk_sub (w W : World) (U : GlobU w) (ab cp : Nat) (hX : Ext w W) (A0 : ArgAt W ab 0 4 false false 0 (bs [49, 50, 51, 52, 53])) (A1 : ArgAt W ab 1 3 false false 1500000 (bs [])) (A2 : ArgAt W ab 2 3 false false 2600000 (bs [])) :
    Calls Tryz.prog 9 #[.slice none 0 0, zCtx, .string ⟨#[115, 117, 98, 115, 116, 114, 105, 110, 103]⟩, .slice (some ⟨ab, 0, none⟩) 3 cp] W fun e w' => e = .returned (.tuple #[valV 4 false false 0 ⟨#[50, 51, 52]⟩, .int .i64 0]) ∧ Ext W w' := by
  have := c_sub3 [49, 50, 51, 52, 53] 1500000 2600000 2000000 3000000 5000000 (by decide) (by decide) (by decide) (by decide) ab cp W (U.ext hX) A0 A1 A2
  rw [sub_awake] at this; exact this
theorem strRow_at {w W : World} (l : List (List UInt8)) (hl : l.length ≤ 1000) (n g : Nat) (hn : n = l.length) (hg : w.heap.size = g) (hW : W = w.alloc (.cells (strV l).toArray 9)) : StrRow W (.slice (some ⟨g, 0, none⟩) n n) l := by
  subst hn hg hW; exact strRow_lit l hl
set_option maxHeartbeats 8000000 in
theorem awake_any (w : World) (G : Glob w) (U : GlobU w) : Calls Tryz.prog 7 #[] w fun e w' => e = .returned (.bool true) ∧ Ext w w' := by
  have G := Lib.hid G
  have U := Lib.hid U
  go_enter Tryz.func7, Tryz.ntmps7
  go_wp2_with fail
  refine (ltext_any (bs [49, 50, 51, 52, 53]) _).mono ?_
  rintro e w1 ⟨rfl, hB1⟩
  go_wp2_with fail
  refine (lnum_any 1500000 _).mono ?_
  rintro e w2 ⟨rfl, hB2⟩
  go_wp2_with fail
  refine (lnum_any 2600000 _).mono ?_
  rintro e w3 ⟨rfl, hB3⟩
  have hE3 : Ext w w3 := (Ext.trans hB1 hB2).trans hB3
  clear hB1 hB2 hB3
  go_wp2_with fail
  refine (awk_sub w _ U.out w3.heap.size 3 (hE3.alloc _) (arg_lit _ _ 0 _ _ _ _ _ rfl rfl rfl rfl rfl rfl) (arg_lit _ _ 1 _ _ _ _ _ rfl rfl rfl rfl rfl rfl) (arg_lit _ _ 2 _ _ _ _ _ rfl rfl rfl rfl rfl rfl)).mono ?_
  rintro e w4 ⟨rfl, hB4⟩
  have hE4 : Ext w w4 := (hE3.alloc _).trans hB4
  clear hB4 hE3
  go_wp2_with fail
  refine (c_none _).mono ?_
  rintro e w5 ⟨rfl, hB5⟩
  have v5 : w5.cell? ⟨w4.heap.size, 5, none⟩ = some (.string ⟨#[50, 51, 52]⟩) := hB5.keep (by simp) (by simp [go_sem])
  have l5 : w4.heap.size < w5.heap.size := by have := hB5.size; simp at this; omega
  have hE5 : Ext w w5 := (hE4.alloc _).trans hB5
  clear hB5 hE4
  go_wp2_with fail
  refine (awk_tr w _ G.out U.out _ (strRow_at [[98, 97, 114], [97, 98, 99], [65, 66]] (by decide) 3 _ rfl (by simp) rfl) ((hE5.alloc _).alloc _)).mono ?_
  rintro e w6 ⟨rfl, hB6⟩
  have hX6 : Ext w5 w6 := (((Ext.refl w5).alloc _).alloc _).trans hB6
  have hE6 := hE5.trans hX6
  have v6 := hX6.keep l5 v5
  have l6 : w4.heap.size < w6.heap.size := Nat.lt_of_lt_of_le l5 hX6.size
  clear hX6 hB6 hE5 v5 l5
  go_wp2_with fail
  refine (awk_sp w _ _ (strRow_at [[32, 97, 32, 32, 98, 32]] (by decide) 1 _ rfl (by simp) rfl) (hE6.alloc _)).mono ?_
  rintro e w7 ⟨rfl, hB7⟩
  have hX7 : Ext w6 w7 := ((Ext.refl w6).alloc _).trans hB7
  have hE7 := hE6.trans hX7
  have v7 := hX7.keep l6 v6
  have l7 : w4.heap.size < w7.heap.size := Nat.lt_of_lt_of_le l6 hX7.size
  clear hX7 hB7 hE6 v6 l6
  go_wp2_with fail
  go_ret
  exact ⟨rfl, hE7⟩
end Go.Proofs.YtcdehcclkhmbiaaGreatDoor
