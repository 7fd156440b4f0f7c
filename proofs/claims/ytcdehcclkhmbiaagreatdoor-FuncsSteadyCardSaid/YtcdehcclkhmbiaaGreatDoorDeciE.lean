/-
  Contracts of package deci and utf over texts: Trim, digits, Parse, Text. Helper lemmas; no statement of the seat is proved here.
-/
import Derived.Test.YtcdehcclkhmbiaaGreatDoorDeciD
import Derived.Test.YtcdehcclkhmbiaaGreatDoorFmt
import Derived.Lib.SmallJoins
namespace Go.Proofs.YtcdehcclkhmbiaaGreatDoor
open Go.RowKit
set_option maxRecDepth 100000

/-- What the library reads of its variables. -/
structure Glob (w : World) : Prop where
  m : ∃ m, w.cell? ⟨2, 0, none⟩ = some (.int .i64 m)
  tab : Lib.TabIs Tryz.prog w "internal/strconv.uint64pow10" .u64 Lib.pow10Tab
theorem Glob.ext {w w' : World} (h : Glob w) (hB : Ext w w') : Glob w' := by
  obtain ⟨m, hm⟩ := h.m
  exact ⟨⟨m, hB.keep (World.block_lt_of_cell? w _ hm) hm⟩, Lib.tabBelow_of_tabIs h.tab w' hB⟩
theorem Glob.alloc {w : World} (h : Glob w) (o : Obj) : Glob (w.alloc o) := h.ext ((Ext.refl _).alloc _)
theorem Glob.drew {w : World} (h : Glob w) : Glob w.drew := h.ext (Ext.refl _).drew

theorem trim_any (s : ByteArray) (w : World) (hs : s.size ≤ 9223372036854775807) :
    Calls Tryz.prog 94 #[.string s] w fun e w' => e = .returned (.string ⟨(Lib.trimS s.data.toList [9, 10, 13, 32]).toArray⟩) ∧ Ext w w' := by
  have hcon := Any.strings_Trim_laid Tryz.lays160 (by kernel_rfl) s ⟨#[9, 10, 13, 32]⟩ w hs (by decide) (ascii_of_all (by decide))
  change Calls Tryz.prog 115 _ _ (fun e w' => e = .returned (.string ⟨(Lib.trimS s.data.toList [9, 10, 13, 32]).toArray⟩) ∧ Below w.heap.size w w') at hcon
  generalize (⟨(Lib.trimS s.data.toList [9, 10, 13, 32]).toArray⟩ : ByteArray) = r at hcon ⊢
  go_enter Tryz.func94, Tryz.ntmps94
  go_wp2_with (go_at_call 115; refine hcon.mono ?_; rintro e w' ⟨rfl, hB⟩)
  go_ret
  exact ⟨rfl, hB⟩
def digL (l : List UInt8) : Bool := (Lib.trimS l [48, 49, 50, 51, 52, 53, 54, 55, 56, 57]).isEmpty
theorem digits_any (s : ByteArray) (w : World) (hs : s.size ≤ 9223372036854775807) :
    Calls Tryz.prog 96 #[.string s] w fun e w' => e = .returned (.bool (digL s.data.toList)) ∧ Ext w w' := by
  have hcon := Any.strings_Trim_laid Tryz.lays160 (by kernel_rfl) s ⟨#[48, 49, 50, 51, 52, 53, 54, 55, 56, 57]⟩ w hs (by decide) (ascii_of_all (by decide))
  change Calls Tryz.prog 115 _ _ (fun e w' => e = .returned (.string ⟨(Lib.trimS s.data.toList [48, 49, 50, 51, 52, 53, 54, 55, 56, 57]).toArray⟩) ∧ Below w.heap.size w w') at hcon
  unfold digL
  generalize Lib.trimS s.data.toList [48, 49, 50, 51, 52, 53, 54, 55, 56, 57] = l at hcon ⊢
  have he : (⟨l.toArray⟩ : ByteArray).toList.isEmpty = l.isEmpty := by rw [Lib.toList_data]
  generalize (⟨l.toArray⟩ : ByteArray) = r at hcon he
  cases l with
  | nil =>
    go_enter Tryz.func96, Tryz.ntmps96
    go_wp2_with (go_at_call 115; refine hcon.mono ?_; rintro e w' ⟨rfl, hB⟩)
    go_ret
    exact ⟨rfl, hB⟩
  | cons c l =>
    go_enter Tryz.func96, Tryz.ntmps96
    go_wp2_with (go_at_call 115; refine hcon.mono ?_; rintro e w' ⟨rfl, hB⟩)
    go_ret
    exact ⟨rfl, hB⟩
end Go.Proofs.YtcdehcclkhmbiaaGreatDoor
