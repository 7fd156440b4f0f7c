/-
  What the rows of package codec's law list of package-level variables: what it gives the walks, and a world that meets it; an argument read again. Helper lemmas; no statement of the seat is proved here.
-/
import Derived.Test.YtghhachbnhldoaaDoorCards
import Derived.Test.YtghhachbnhldoaaDoorTie
import Derived.Test.YtghhachbnhldoaaDoorCOpen
import Derived.Test.YtghhachbnhldoaaDoorC37
import Derived.ProofKit
import Derived.OpenShut
import Derived.ReadAgain
import Derived.ChangeSame
import Derived.Deep.DeepHandedRow
import Derived.Deep.DeepWitnessRowRef
import Derived.LaidMore
namespace Go.Proofs.YtghhachbnhldoaaDoor
open Go.ChangeShapes Go.WideShapes Go.ChangeAt Go.RowKit
set_option maxRecDepth 100000
set_option linter.unusedVariables false

theorem own : ownKnob Tryd.prog.godebug = none := by kernel_rfl
theorem gErr : Tryd.prog.globalNamed "errors.errorType" = some 0 := by kernel_rfl
theorem cutRt : (Tryd.prog.cutTypes.find? (·.1 == "internal/reflectlite.rtype")).map (·.2) = some 146 := by kernel_rfl
theorem typesN : Tryd.prog.types.size = 187 := by kernel_rfl
theorem oneRow : ((List.range 187).filter fun t => Tryd.prog.rowNamed t [101, 114, 114, 111, 114]) = [28] := by kernel_rfl
/-- What every row of package codec's law lists. -/
def laidP : List (String × DataW Unit) := Rows.codecJoinsRow.laid
set_option maxRecDepth 100000 in
theorem globE_of {W : World} (h : laidMetH Tryd.prog laidP W) : GlobE W := by
  have h' : laidMet Tryd.prog (laidP.filter fun x => x.2.handleName?.isNone) W ∧ handlesMet Tryd.prog [("errors.errorType", Rows.laid_errors_errorType)] W := h
  obtain ⟨name, u, ty, e1, e2, e3, e4, e5⟩ := h'.2 _ (List.mem_singleton.2 rfl)
  have en : name = [101, 114, 114, 111, 114] := (Option.some.inj e1).symm
  subst en
  obtain rfl := Option.some.inj (cutRt.symm.trans e2)
  have hm : ty ∈ (List.range 187).filter fun t => Tryd.prog.rowNamed t [101, 114, 114, 111, 114] := List.mem_filter.2 ⟨List.mem_range.2 (by rw [← typesN]; exact e3), e4⟩
  rw [oneRow] at hm
  obtain rfl := List.mem_singleton.1 hm
  have hh : typeHandle Tryd.prog 28 = .pointer (some ⟨1, 28, none⟩) := by kernel_rfl
  rw [hh] at e5
  have hc : W.cell? ⟨0, 0, none⟩ = some (.iface 146 (.agg #[.pointer (some ⟨1, 28, none⟩)])) := by simpa using World.var?_cell gErr e5 0
  exact ⟨hc, World.block_lt_of_cell? W _ hc⟩
set_option maxRecDepth 100000 in
/-- A world that holds all that is listed. -/
noncomputable def laidWorld (os : Os) : World := World.doorLaid Tryd.prog 1000 os
theorem laid_met (os : Os) (args : Array Value) : laidMetH Tryd.prog laidP ((laidWorld os).forCall (fun _ _ => 0) ⟨#[], args, []⟩).memory :=
  laidMetH_of_parts3 (fuel := 8) (laidMet_of_run' 8 (by kernel_rfl) (by kernel_rfl)) (by kernel_rfl) (by kernel_rfl)
theorem laidOutP : laidOutB Tryd.prog = true := by kernel_rfl
theorem rowedP : mapsRowed Tryd.prog = true := by kernel_rfl
theorem slicesP : ∀ t e, t < Tryd.prog.types.size → Tryd.prog.underlying t = some (.slice e) → 0 < Tryd.prog.cellsOf e := slices_full_of _ (by kernel_rfl)
/-- The arguments read again, in a later world. -/
theorem trodAll_later {H : Type} {enc : TypeId × Value → H} {W W' : World} {base : Nat} {sp : Nat → Bool} {held : Bool} (hB : ∀ p : MemPlace, p.block < W.heap.size → W.sameAt W' p) : ∀ {ts : List TypeId} {vs : List Value} {ds : List (DataW H)} {ps : List MemPlace},
    DataW.TrodAll enc Tryd.prog W base sp held ts vs ds ps → DataW.TrodAll enc Tryd.prog W' base sp held ts vs ds ps
  | [], [], [], _, h => h
  | _ :: _, _ :: _, _ :: _, _, ⟨p, q, ⟨n, h1⟩, h2, e⟩ => ⟨p, q, ⟨n, DataW.trod_carry n _ _ _ h1 fun x hx => hB x (DataW.trod_lt n _ _ _ h1 x hx)⟩, trodAll_later hB h2, e⟩
theorem ext_same {W W' : World} (h : Ext W W') (p : MemPlace) (hp : p.block < W.heap.size) : W.sameAt W' p := by
  have hb := Below.block h p.block hp
  cases p with
  | cell b o => exact World.cell?_of_block (a := ⟨b, o, none⟩) hb
  | map b => exact hb
theorem slice_arg {W : World} {t e : TypeId} {v u : Value} (ht : Tryd.prog.underlying t = some (.slice e)) (hval : Value.okWide Tryd.prog W .any 0 t v) (h : v.cells.toList = [u]) : v = u := by
  unfold Value.okWide at hval
  rw [ht] at hval
  cases v with
  | agg cs => unfold Cell.okWide at hval; rw [ht] at hval; unfold Cell.ok at hval; rw [ht] at hval; exact hval.elim
  | tuple cs => unfold Cell.okWide at hval; rw [ht] at hval; unfold Cell.ok at hval; rw [ht] at hval; exact hval.elim
  | _ => simp [Value.cells] at h; exact h
end Go.Proofs.YtghhachbnhldoaaDoor
