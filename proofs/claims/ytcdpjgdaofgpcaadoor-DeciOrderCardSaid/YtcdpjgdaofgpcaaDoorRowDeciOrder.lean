/-
  recensionlaw03.DeciOrder returns true for every input, each argument reads afterwards as before: the statement Rows.DeciOrderCardSaid. No conditions.
-/
import Derived.Test.YtcdpjgdaofgpcaaDoorLaid
import Derived.Test.YtcdpjgdaofgpcaaDoorLawOrderAll
import Derived.Lib.SmallJoins
namespace Go.Proofs.YtcdpjgdaofgpcaaDoor.lawDeciOrder
open Go.ChangeShapes Go.WideShapes Go.ChangeAt Go.RowKit Go.Joins
open Go.ChangeMaps (open_string shut_string)
set_option linter.unusedVariables false

theorem cellsNum : Tryd.prog.cellsOf 38 = 2 := by kernel_rfl

set_option maxHeartbeats 4000000 in
set_option maxRecDepth 100000 in
theorem contract (H : Type) (enc : TypeId × Value → H) (W : World) (base : Nat) (args : Array Value) (ds gs : List (DataW H)) (before : List MemPlace)
    (hval : ∀ (j : Nat) t v, Tryd.f7.params[j]? = some t → args[j]? = some v → Value.okWide Tryd.prog W .any base t v)
    (hW : DataW.Whole enc Tryd.prog Tryd.f7.params.toList Rows.deciOrderSpec.vars false W args.toList ds gs before) (G : Glob W) :
    Calls Tryd.prog 7 args W fun e W' => ∃ v, e = .returned v ∧ Rows.deciOrderSpec.post enc Tryd.prog Tryd.f7 false true false false W args v W' := by
  have hW' := hW
  obtain ⟨p, q, hA0, hV, rfl, hfz, hnd⟩ := hW
  have hA : DataW.TrodAll enc Tryd.prog W 0 (fun _ => true) true Tryd.f7.params.toList args.toList ds p := hA0
  rw [Tryd.params7] at hA hval
  obtain ⟨v0, vs0, d0, ds0, p0, q0, hargs, rfl, rfl, h0, r0⟩ := trodAll_cons hA
  obtain ⟨v1, vs1, d1, ds1, p1, q1, rfl, rfl, rfl, h1, r1⟩ := trodAll_cons r0
  obtain ⟨v2, vs2, d2, ds2, p2, q2, rfl, rfl, rfl, h2, r2⟩ := trodAll_cons r1
  obtain ⟨rfl, rfl, rfl⟩ := trodAll_nil r2
  obtain rfl : args = #[v0, v1, v2] := by cases args; simp_all
  obtain ⟨rfl, rfl⟩ := trodVars_none hV
  obtain ⟨c0, e0, y0, z0, m0, rfl, rfl, rfl, hy0, hz0⟩ := open_agg2 Tryd.underlying38 (by kernel_rfl) cellsNum (hval 0 38 v0 rfl rfl) h0
  obtain ⟨n0, en0, rfl⟩ := DataW.trod_bool Tryd.underlying4 hy0
  obtain ⟨x0, ex0, rfl, wx0⟩ := DataW.trod_int Tryd.underlying2 hz0
  simp at en0 ex0; subst en0 ex0
  obtain ⟨c1, e1, y1, z1, m1, rfl, rfl, rfl, hy1, hz1⟩ := open_agg2 Tryd.underlying38 (by kernel_rfl) cellsNum (hval 1 38 v1 rfl rfl) h1
  obtain ⟨n1, en1, rfl⟩ := DataW.trod_bool Tryd.underlying4 hy1
  obtain ⟨x1, ex1, rfl, wx1⟩ := DataW.trod_int Tryd.underlying2 hz1
  simp at en1 ex1; subst en1 ex1
  obtain ⟨c2, e2, y2, z2, m2, rfl, rfl, rfl, hy2, hz2⟩ := open_agg2 Tryd.underlying38 (by kernel_rfl) cellsNum (hval 2 38 v2 rfl rfl) h2
  obtain ⟨n2, en2, rfl⟩ := DataW.trod_bool Tryd.underlying4 hy2
  obtain ⟨x2, ex2, rfl, wx2⟩ := DataW.trod_int Tryd.underlying2 hz2
  simp at en2 ex2; subst en2 ex2
  clear hA0
  refine (order_walk n0 n1 n2 x0 x1 x2 W G).mono fun e W' ⟨he, hB⟩ => ?_
  subst he
  exact ⟨_, rfl, _, _, _, [], _, [], hW', trodAll_cons_mk (shut_bool Tryd.underlying4 _) trodAll_mk0, (trodAll_cons_mk (shut_agg2 (y0 := (.lit (.bool n0), [])) (y1 := (.lit (.int .i64 x0), [])) Tryd.underlying38 (by kernel_rfl) cellsNum (shut_bool Tryd.underlying4 n0) (shut_int Tryd.underlying2 wx0)) (trodAll_cons_mk (shut_agg2 (y0 := (.lit (.bool n1), [])) (y1 := (.lit (.int .i64 x1), [])) Tryd.underlying38 (by kernel_rfl) cellsNum (shut_bool Tryd.underlying4 n1) (shut_int Tryd.underlying2 wx1)) (trodAll_cons_mk (shut_agg2 (y0 := (.lit (.bool n2), [])) (y1 := (.lit (.int .i64 x2), [])) Tryd.underlying38 (by kernel_rfl) cellsNum (shut_bool Tryd.underlying4 n2) (shut_int Tryd.underlying2 wx2)) trodAll_mk0))), rfl, Below.frame hB _, fun h => by cases h⟩

theorem reads (os : Os) {H : Type} (enc : TypeId × Value → H) : ∃ places, DataW.whole enc Tryd.prog ((laidWorld os).forCall (fun _ _ => 0) ⟨#[], #[.agg #[.bool false, .int .i64 0], .agg #[.bool false, .int .i64 0], .agg #[.bool false, .int .i64 0]], []⟩).memory Tryd.f7.params.toList Rows.deciOrderSpec.vars false (#[.agg #[.bool false, .int .i64 0], .agg #[.bool false, .int .i64 0], .agg #[.bool false, .int .i64 0]] : Array Value).toList 8 = some ([.agg [.lit (.bool false), .lit (.int .i64 0)], .agg [.lit (.bool false), .lit (.int .i64 0)], .agg [.lit (.bool false), .lit (.int .i64 0)]], [], places) :=
  ⟨[], by kernel_rfl⟩
set_option maxRecDepth 100000 in
theorem lifted (os : Os) (started : os.Started) (H : Type) (enc : TypeId × Value → H) (F : Stop.Interp) :
    ReturnsInHanded {} Tryd.checked os 7 .any ((OpenSpec.ofChange Rows.deciOrderSpec).preRow enc Tryd.prog Tryd.f7 Rows.deciOrderRow.domain false Rows.deciOrderRow.laid) (((OpenSpec.ofChange Rows.deciOrderSpec).at F).post enc Tryd.prog Tryd.f7 false true false false) := by
  obtain ⟨places, hx⟩ := reads os enc
  refine returnsInHanded_of_row (C := Tryd.checked) (s := OpenSpec.ofChange Rows.deciOrderSpec) own started (by kernel_rfl) Tryd.func7
    (witness_row_atRef (enc := enc) (C := Tryd.checked) false (laidWorld os) #[.agg #[.bool false, .int .i64 0], .agg #[.bool false, .int .i64 0], .agg #[.bool false, .int .i64 0]] rfl (by kernel_rfl) (by kernel_rfl) (by kernel_rfl)
      (OpenSpec.preRow_of_cond 8 hx (by kernel_rfl) (fun k hk => by cases hk) (by kernel_rfl) (laid_met os _))) ?_
  intro W base args ds gs before hval hW _ _ _ hL hsh _
  exact contract H enc W base args ds gs before hval hW (glob_of hL hsh)

theorem said : Rows.DeciOrderSaid :=
  OpenClaim.holds_of_cond 7 Tryd.f7 rfl rfl rfl rfl rfl rfl rfl ⟨rfl, rfl, rfl, rfl, rfl⟩ rfl rfl rfl rfl rfl (by kernel_rfl) Tryd.func7 (by kernel_rfl)
    (of_decide_eq_true (by kernel_rfl)) (by unfold Func.isWrapper; first | (rw [if_pos (by decide +kernel)]; kernel_rfl) | (rw [if_neg (by decide +kernel)]; exact ⟨rfl, rfl⟩))
    (fun os started H enc _ F => by rw [OpenClaim.pre_eq_preRow]; exact lifted os started H enc F)

theorem plain (f : FuncId) (fn : Func) (hf : Tryd.pinned.checked.prog.funcNamed "recension/recensionlaw03.DeciOrder" = some f) (hfn : Tryd.pinned.checked.prog.funcs[f]? = some fn) :
    true = Tryd.pinned.checked.prog.looks [] ∧ ∀ (j : Nat) t, fn.params[j]? = some t → Tryd.pinned.checked.prog.wantsStandIn t = false := by
  obtain rfl : f = 7 := Option.some.inj ((show Tryd.prog.funcNamed "recension/recensionlaw03.DeciOrder" = some 7 by kernel_rfl).symm.trans hf) |>.symm
  obtain rfl : fn = Tryd.f7 := (Option.some.inj (Tryd.func7.symm.trans hfn)).symm
  refine ⟨by kernel_rfl, fun j t ht => ?_⟩
  rw [Tryd.params7] at ht
  have hm : t ∈ [38, 38, 38] := by simpa using Array.mem_of_getElem? ht
  have hall : ([38, 38, 38].all fun u => !Tryd.prog.wantsStandIn u) = true := by kernel_rfl
  exact (show Tryd.prog.wantsStandIn t = false by simpa using List.all_eq_true.1 hall t hm)

/-- THE CARD -/
theorem card : Rows.DeciOrderCardSaid :=
  Claim7.holds_tied_plain_at .later [] _ _ _ _ said (fun _ h => by cases h) (by kernel_rfl) (fun _ h => by cases h) deciOrder_row_tie rfl ⟨rfl, rfl⟩ (by kernel_rfl) rfl plain (by kernel_rfl)
#print axioms card
end Go.Proofs.YtcdpjgdaofgpcaaDoor.lawDeciOrder
