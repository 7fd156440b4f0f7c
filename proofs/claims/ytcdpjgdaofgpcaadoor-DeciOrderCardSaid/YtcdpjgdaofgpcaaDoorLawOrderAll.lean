/-
  The walk of recensionlaw03.DeciOrder: it returns true, whatever the three numbers. Helper lemmas; the statement itself is proved in the row's text.
-/
import Derived.Test.YtcdpjgdaofgpcaaDoorLawOrderLt
import Derived.Test.YtcdpjgdaofgpcaaDoorLawOrderEq
import Derived.Test.YtcdpjgdaofgpcaaDoorLawOrderGt
namespace Go.Proofs.YtcdpjgdaofgpcaaDoor
open Go.RowKit
set_option maxRecDepth 100000
set_option linter.unusedVariables false
set_option linter.unusedSimpArgs false
theorem order_walk (an bn cn : Bool) (av bv cv : Int) (w : World) (G : Glob w) :
    Calls Tryd.prog 7 #[.agg #[.bool an, .int .i64 av], .agg #[.bool bn, .int .i64 bv], .agg #[.bool cn, .int .i64 cv]] w fun e w' => e = .returned (.bool true) ∧ Ext w w' := by
  cases ha : oddB an av with
  | true => exact order_odd1 an bn cn av bv cv w G ha
  | false =>
    cases hb : oddB bn bv with
    | true => exact order_odd2 an bn cn av bv cv w G ha hb
    | false =>
      have ha' := ha
      have hb' := hb
      obtain ⟨rfl, _, _⟩ := oddB_false ha'
      obtain ⟨rfl, _, _⟩ := oddB_false hb'
      rcases (by omega : av < bv ∨ av = bv ∨ bv < av) with hr | hr | hr
      · cases hc : oddB cn cv with
        | true => exact order_lt_nan cn av bv cv w G ha hb hr hc
        | false =>
          cases hx : oddB false (av + cv) with
          | true => exact order_lt_far1 cn av bv cv w G ha hb hr hc hx
          | false =>
            cases hy : oddB false (bv + cv) with
            | true => exact order_lt_far2 cn av bv cv w G ha hb hr hc hx hy
            | false => exact order_lt_in cn av bv cv w G ha hb hr hc hx hy
      · cases hc : oddB cn cv with
        | true => exact order_eq_nan cn av bv cv w G ha hb hr hc
        | false =>
          cases hx : oddB false (av + cv) with
          | true => exact order_eq_far1 cn av bv cv w G ha hb hr hc hx
          | false =>
            cases hy : oddB false (bv + cv) with
            | true => exact order_eq_far2 cn av bv cv w G ha hb hr hc hx hy
            | false => exact order_eq_in cn av bv cv w G ha hb hr hc hx hy
      · cases hc : oddB cn cv with
        | true => exact order_gt_nan cn av bv cv w G ha hb hr hc
        | false =>
          cases hx : oddB false (av + cv) with
          | true => exact order_gt_far1 cn av bv cv w G ha hb hr hc hx
          | false =>
            cases hy : oddB false (bv + cv) with
            | true => exact order_gt_far2 cn av bv cv w G ha hb hr hc hx hy
            | false => exact order_gt_in cn av bv cv w G ha hb hr hc hx hy
end Go.Proofs.YtcdpjgdaofgpcaaDoor
