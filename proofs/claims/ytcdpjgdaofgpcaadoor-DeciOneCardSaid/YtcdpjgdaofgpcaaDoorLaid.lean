/-
  What the rows of this seat list of package-level variables: what it gives the walks, and a world that meets it. Helper lemmas; no statement of the seat is proved here.
-/
import Derived.Test.YtcdpjgdaofgpcaaDoorCards
import Derived.Test.YtcdpjgdaofgpcaaDoorTie
import Derived.Test.YtcdpjgdaofgpcaaDoorDeciE
import Derived.ProofKit
import Derived.OpenShut
import Derived.Deep.DeepHandedRow
import Derived.Deep.DeepWitnessRowRef
import Derived.Lib.LaidTab
import Derived.Lib.LaidU8
import Derived.LaidMore
import Derived.Shelf.Vars
namespace Go.Proofs.YtcdpjgdaofgpcaaDoor
open Go.ChangeShapes Go.WideShapes Go.ChangeAt Go.RowKit

theorem own : ownKnob Tryd.prog.godebug = none := by kernel_rfl
theorem gPow : Tryd.prog.globalNamed "internal/strconv.uint64pow10" = some 6 := by kernel_rfl
theorem gPowType : (Tryd.prog.globals[6]?).map (·.type) = some 226 := by kernel_rfl
theorem cellsPow : Tryd.prog.cellsOf 226 = 20 := by kernel_rfl
theorem cellsU64 : Tryd.prog.cellsOf 115 = 1 := by kernel_rfl

theorem tabIs_of_reads {P : Program} {W : World} {name : String} {k : IntKind} {zs : List Int} {g : Nat} {t e : TypeId} {n : Nat}
    (hg : P.globalNamed name = some g) (hty : (P.globals[g]?).map (·.type) = some t) (ht : P.underlying t = some (.array n e)) (he : P.underlying e = some (.int k)) (hce : P.cellsOf e = 1) (hct : P.cellsOf t = n)
    (h : Lib.VarReads P W name (Lib.tabData k zs)) : Lib.TabIs P W name k zs := by
  obtain ⟨g', t', cs, fuel, p, hg', ht', hvar, hd⟩ := h
  obtain rfl := Option.some.inj (hg.symm.trans hg')
  obtain rfl := Option.some.inj (hty.symm.trans ht')
  unfold Lib.TabIs
  rw [hvar, ← Lib.cells_of_tab ht he hce hct hd]
/-- What every row of package deci's laws lists. -/
def laidDeci : List (String × DataW Unit) := Rows.deciUnitsRow.laid
theorem glob_of {W : World} (h : laidMetH Tryd.prog laidDeci W) (hs : W.ShapedOpen Tryd.prog) : Glob W := by
  rw [MakeChecks.laidMetH_plain _ _ _ (by kernel_rfl)] at h
  have hr := Lib.laidMet.reads h (n := "internal/strconv.uint64pow10") (d := Lib.tabData .u64 Lib.pow10Tab) (by unfold laidDeci Rows.deciUnitsRow; simp only [List.mem_cons]; exact Or.inr (Or.inr (Or.inl rfl)))
  refine ⟨?_, tabIs_of_reads gPow gPowType Tryd.underlying226 Tryd.underlying115 cellsU64 cellsPow hr⟩
  exact cell_of_shapedOpen_int (P := Tryd.prog) (g := 3) (t := 3) (zero := #[.int .i64 0]) hs (of_decide_eq_true (by kernel_rfl)) (by kernel_rfl) rfl (by kernel_rfl) (by kernel_rfl) Tryd.underlying3
/-- A world that holds all that is listed: what the start-up code lays, and the pinned table. -/
noncomputable def laidWorld (os : Os) : World :=
  { World.doorLaid Tryd.prog 1000 os with heap := (World.doorLaid Tryd.prog 1000 os).heap.modify 7 fun
      | .cells _ t frozen => .cells (Lib.firstTab.map fun z => Value.int .u8 z).toArray t frozen
      | o => o }
theorem laid_met (os : Os) (args : Array Value) : laidMetH Tryd.prog laidDeci ((laidWorld os).forCall (fun _ _ => 0) ⟨#[], args, []⟩).memory :=
  laidMetH_of_parts3 (fuel := 8) (laidMet_of_run' 8 (by kernel_rfl) (by kernel_rfl)) (by kernel_rfl) (by kernel_rfl)
end Go.Proofs.YtcdpjgdaofgpcaaDoor
