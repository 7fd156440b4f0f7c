/-
  What the rows of this seat list of package-level variables: what it gives the walks, and a world that meets it. Helper lemmas; no statement of the seat is proved here.
-/
import Derived.Test.YtmmopcceabdecaaGreatDoorCards
import Derived.Test.YtmmopcceabdecaaGreatDoorTie
import Derived.Test.YtmmopcceabdecaaGreatDoorVOpen
import Derived.ReadAgain
import Derived.ChangeSame
import Derived.ProofKit
import Derived.OpenShut
import Derived.Deep.DeepHandedRow
import Derived.Deep.DeepWitnessRowRef
import Derived.Lib.LaidTab
import Derived.Lib.LaidU8
import Derived.LaidMore
import Derived.Shelf.Vars
namespace Go.Proofs.YtmmopcceabdecaaGreatDoor
set_option linter.unusedVariables false
set_option maxRecDepth 100000
open Go.ChangeShapes Go.WideShapes Go.ChangeAt Go.RowKit

theorem typesN : Tryz.prog.types.size = 188 := by kernel_rfl
theorem own : ownKnob Tryz.prog.godebug = none := by kernel_rfl
theorem gPow : Tryz.prog.globalNamed "internal/strconv.uint64pow10" = some 3 := by kernel_rfl
theorem gPowType : (Tryz.prog.globals[3]?).map (·.type) = some 154 := by kernel_rfl
theorem cellsPow : Tryz.prog.cellsOf 154 = 20 := by kernel_rfl
theorem cellsU64 : Tryz.prog.cellsOf 82 = 1 := by kernel_rfl

theorem tabIs_of_reads {P : Program} {W : World} {name : String} {k : IntKind} {zs : List Int} {g : Nat} {t e : TypeId} {n : Nat}
    (hg : P.globalNamed name = some g) (hty : (P.globals[g]?).map (·.type) = some t) (ht : P.underlying t = some (.array n e)) (he : P.underlying e = some (.int k)) (hce : P.cellsOf e = 1) (hct : P.cellsOf t = n)
    (h : Lib.VarReads P W name (Lib.tabData k zs)) : Lib.TabIs P W name k zs := by
  obtain ⟨g', t', cs, fuel, p, hg', ht', hvar, hd⟩ := h
  obtain rfl := Option.some.inj (hg.symm.trans hg')
  obtain rfl := Option.some.inj (hty.symm.trans ht')
  unfold Lib.TabIs
  rw [hvar, ← Lib.cells_of_tab ht he hce hct hd]
/-- What every row of the law lists. -/
def laidV : List (String × DataW Unit) := Rows.valueSinglesRow.laid
theorem glob_of {W : World} (h : laidMetH Tryz.prog laidV W) (hs : W.ShapedOpen Tryz.prog) : Glob W := by
  rw [MakeChecks.laidMetH_plain _ _ _ (by kernel_rfl)] at h
  have hr := Lib.laidMet.reads h (n := "internal/strconv.uint64pow10") (d := Lib.tabData .u64 Lib.pow10Tab) (by unfold laidV Rows.valueSinglesRow; simp only [List.mem_cons]; exact Or.inr (Or.inr (Or.inl rfl)))
  refine ⟨?_, tabIs_of_reads gPow gPowType Tryz.underlying154 Tryz.underlying82 cellsU64 cellsPow hr⟩
  exact cell_of_shapedOpen_int (P := Tryz.prog) (g := 0) (t := 3) (zero := #[.int .i64 0]) hs (of_decide_eq_true (by kernel_rfl)) (by kernel_rfl) rfl (by kernel_rfl) (by kernel_rfl) Tryz.underlying3
/-- A world that holds all that is listed: what the start-up code lays, and the pinned table. -/
noncomputable def laidWorld (os : Os) : World :=
  { World.doorLaid Tryz.prog 1000 os with heap := (World.doorLaid Tryz.prog 1000 os).heap.modify 4 fun
      | .cells _ t frozen => .cells (Lib.firstTab.map fun z => Value.int .u8 z).toArray t frozen
      | o => o }
theorem laid_met (os : Os) (args : Array Value) : laidMetH Tryz.prog laidV ((laidWorld os).forCall (fun _ _ => 0) ⟨#[], args, []⟩).memory :=
  laidMetH_of_parts3 (fuel := 8) (laidMet_of_run' 8 (by kernel_rfl) (by kernel_rfl)) (by kernel_rfl) (by kernel_rfl)
theorem laidOutP : laidOutB Tryz.prog = true := by kernel_rfl
theorem rowedP : mapsRowed Tryz.prog = true := by kernel_rfl
theorem slicesP : ∀ t e, t < Tryz.prog.types.size → Tryz.prog.underlying t = some (.slice e) → 0 < Tryz.prog.cellsOf e := slices_full_of _ (by kernel_rfl)
/-- The arguments read again, in a later world. -/
theorem trodAll_later {H : Type} {enc : TypeId × Value → H} {W W' : World} {base : Nat} {sp : Nat → Bool} {held : Bool} (hB : ∀ p : MemPlace, p.block < W.heap.size → W.sameAt W' p) : ∀ {ts : List TypeId} {vs : List Value} {ds : List (DataW H)} {ps : List MemPlace},
    DataW.TrodAll enc Tryz.prog W base sp held ts vs ds ps → DataW.TrodAll enc Tryz.prog W' base sp held ts vs ds ps
  | [], [], [], _, h => h
  | _ :: _, _ :: _, _ :: _, _, ⟨p, q, ⟨n, h1⟩, h2, e⟩ => ⟨p, q, ⟨n, DataW.trod_carry n _ _ _ h1 fun x hx => hB x (DataW.trod_lt n _ _ _ h1 x hx)⟩, trodAll_later hB h2, e⟩
theorem ext_same {W W' : World} (h : Ext W W') (p : MemPlace) (hp : p.block < W.heap.size) : W.sameAt W' p := by
  have hb := Below.block h p.block hp
  cases p with
  | cell b o => exact World.cell?_of_block (a := ⟨b, o, none⟩) hb
  | map b => exact hb
theorem slice_arg {W : World} {t e : TypeId} {v u : Value} (ht : Tryz.prog.underlying t = some (.slice e)) (hval : Value.okWide Tryz.prog W .any 0 t v) (h : v.cells.toList = [u]) : v = u := by
  unfold Value.okWide at hval
  rw [ht] at hval
  cases v with
  | agg cs => unfold Cell.okWide at hval; rw [ht] at hval; unfold Cell.ok at hval; rw [ht] at hval; exact hval.elim
  | tuple cs => unfold Cell.okWide at hval; rw [ht] at hval; unfold Cell.ok at hval; rw [ht] at hval; exact hval.elim
  | _ => simp [Value.cells] at h; exact h
theorem arr_arg {W : World} {t e : TypeId} {n : Nat} {v : Value} (ht : Tryz.prog.underlying t = some (.array n e)) (hval : Value.okWide Tryz.prog W .any 0 t v) : ∃ cs, v = .agg cs := by
  unfold Value.okWide at hval
  rw [ht] at hval
  obtain ⟨cs, h, _⟩ := hval
  exact ⟨cs, h⟩
theorem int_arg {W : World} {t : TypeId} {k : IntKind} {v u : Value} (ht : Tryz.prog.underlying t = some (.int k)) (hval : Value.okWide Tryz.prog W .any 0 t v) (h : v.cells.toList = [u]) : v = u := by
  unfold Value.okWide at hval
  rw [ht] at hval
  cases v with
  | agg cs => unfold Cell.okWide at hval; rw [ht] at hval; unfold Cell.ok at hval; rw [ht] at hval; exact hval.elim
  | tuple cs => unfold Cell.okWide at hval; rw [ht] at hval; unfold Cell.ok at hval; rw [ht] at hval; exact hval.elim
  | _ => simp [Value.cells] at h; exact h
theorem wf8 {n : Int} (h : (Lit.int .u8 n).wf = true) : 0 ≤ n ∧ n < 256 := by
  have e1 : IntKind.u8.min = 0 := by kernel_rfl
  have e2 : IntKind.u8.max = 255 := by kernel_rfl
  unfold Lit.wf at h
  rw [Bool.and_eq_true, e1, e2] at h
  have h1 := of_decide_eq_true h.1
  have h2 := of_decide_eq_true h.2
  omega
end Go.Proofs.YtmmopcceabdecaaGreatDoor
