/-
  What the rows of this seat list of package-level variables: what it gives the walks, and a world that meets it. Helper lemmas; no statement of the seat is proved here.
-/
import Derived.Test.YtcdehcclkhmbiaaGreatDoorCards
import Derived.Test.YtcdehcclkhmbiaaGreatDoorTie
import Derived.Test.YtcdehcclkhmbiaaGreatDoorDeciE
import Derived.Test.YtcdehcclkhmbiaaGreatDoorFPieces
import Derived.Test.YtcdehcclkhmbiaaGreatDoorShelf
import Derived.ProofKit
import Derived.OpenShut
import Derived.Deep.DeepHandedRow
import Derived.Deep.DeepWitnessRowRef
import Derived.Lib.LaidTab
import Derived.Lib.LaidU8
import Derived.LaidMore
import Derived.Shelf.Vars
namespace Go.Proofs.YtcdehcclkhmbiaaGreatDoor
open Go.ChangeShapes Go.WideShapes Go.ChangeAt Go.RowKit

theorem own : ownKnob Tryz.prog.godebug = none := by kernel_rfl
theorem gPow : Tryz.prog.globalNamed "internal/strconv.uint64pow10" = some 5 := by kernel_rfl
theorem gPowType : (Tryz.prog.globals[5]?).map (·.type) = some 166 := by kernel_rfl
theorem cellsPow : Tryz.prog.cellsOf 166 = 20 := by kernel_rfl
theorem cellsU64 : Tryz.prog.cellsOf 88 = 1 := by kernel_rfl

theorem tabIs_of_reads {P : Program} {W : World} {name : String} {k : IntKind} {zs : List Int} {g : Nat} {t e : TypeId} {n : Nat}
    (hg : P.globalNamed name = some g) (hty : (P.globals[g]?).map (·.type) = some t) (ht : P.underlying t = some (.array n e)) (he : P.underlying e = some (.int k)) (hce : P.cellsOf e = 1) (hct : P.cellsOf t = n)
    (h : Lib.VarReads P W name (Lib.tabData k zs)) : Lib.TabIs P W name k zs := by
  obtain ⟨g', t', cs, fuel, p, hg', ht', hvar, hd⟩ := h
  obtain rfl := Option.some.inj (hg.symm.trans hg')
  obtain rfl := Option.some.inj (hty.symm.trans ht')
  unfold Lib.TabIs
  rw [hvar, ← Lib.cells_of_tab ht he hce hct hd]
/-- What every row of package funcs' laws lists. -/
def laidF : List (String × DataW Unit) := Rows.funcsPartsRow.laid
theorem glob_of {W : World} (h : laidMetH Tryz.prog laidF W) (hs : W.ShapedOpen Tryz.prog) : Glob W := by
  rw [MakeChecks.laidMetH_plain _ _ _ (by kernel_rfl)] at h
  have hr := Lib.laidMet.reads h (n := "internal/strconv.uint64pow10") (d := Lib.tabData .u64 Lib.pow10Tab) (by unfold laidF Rows.funcsPartsRow; simp only [List.mem_cons]; exact Or.inr (Or.inr (Or.inl rfl)))
  refine ⟨?_, tabIs_of_reads gPow gPowType Tryz.underlying166 Tryz.underlying88 cellsU64 cellsPow hr⟩
  exact cell_of_shapedOpen_int (P := Tryz.prog) (g := 2) (t := 3) (zero := #[.int .i64 0]) hs (of_decide_eq_true (by kernel_rfl)) (by kernel_rfl) rfl (by kernel_rfl) (by kernel_rfl) Tryz.underlying3
theorem u8x : U8Extra Tryz.prog Tryz.lays197_ren := { n3 := by kernel_rfl, n4 := by kernel_rfl, y3 := by kernel_rfl, y4 := by kernel_rfl, c5 := by kernel_rfl, c119 := by kernel_rfl, c138 := by kernel_rfl }
set_option maxRecDepth 100000 in
theorem globU_of {W : World} (h : laidMetH Tryz.prog laidF W) : GlobU W := by
  rw [MakeChecks.laidMetH_plain _ _ _ (by kernel_rfl)] at h
  have h3 := Lib.laidMet.reads h (n := "unicode/utf8.first") (d := Lib.firstData) (by unfold laidF Rows.funcsPartsRow; simp only [List.mem_cons]; exact Or.inr (Or.inr (Or.inr (Or.inr (Or.inr (Or.inr (Or.inl (by kernel_rfl))))))))
  have h4 := Lib.laidMet.reads h (n := "unicode/utf8.acceptRanges") (d := Lib.acceptData) (by unfold laidF Rows.funcsPartsRow; simp only [List.mem_cons]; exact Or.inr (Or.inr (Or.inr (Or.inl (by kernel_rfl)))))
  exact utf8Tabs_of_reads { Tryz.lays197 with } u8x h3 h4
/-- A world that holds all that is listed: what the start-up code lays, and the pinned table. -/
noncomputable def laidWorld (os : Os) : World :=
  { World.doorLaid Tryz.prog 1000 os with heap := (World.doorLaid Tryz.prog 1000 os).heap.modify 0 fun
      | .cells _ t frozen => .cells (Lib.firstTab.map fun z => Value.int .u8 z).toArray t frozen
      | o => o }
theorem laid_met (os : Os) (args : Array Value) : laidMetH Tryz.prog laidF ((laidWorld os).forCall (fun _ _ => 0) ⟨#[], args, []⟩).memory :=
  laidMetH_of_parts3 (fuel := 8) (laidMet_of_run' 8 (by kernel_rfl) (by kernel_rfl)) (by kernel_rfl) (by kernel_rfl)
end Go.Proofs.YtcdehcclkhmbiaaGreatDoor
