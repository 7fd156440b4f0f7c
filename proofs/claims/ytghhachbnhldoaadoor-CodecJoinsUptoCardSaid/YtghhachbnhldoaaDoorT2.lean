/-
  recensionref05.Less. Helper lemmas; no statement of the seat is proved here.
-/
import Derived.Test.YtghhachbnhldoaaDoorT1
namespace Go.Proofs.YtghhachbnhldoaaDoor
open Go.RowKit
set_option maxRecDepth 100000
set_option linter.unusedVariables false
set_option linter.unusedSimpArgs false

theorem Rep.take {w : World} {p : Nat → Prop} {b off len cap z : Nat} {es : List DV} (h : Rep w p (.slice (some ⟨b, off, none⟩) len cap) (.s z es)) (n : Nat) (hn : n ≤ len) : Rep w p (.slice (some ⟨b, off, none⟩) n cap) (.s z (es.take (n * z))) := by
  obtain ⟨_, _, _, e, _, hc, hm, _⟩ := h.slice
  cases e
  have := h.sub 0 n cap (Nat.zero_le _) hn (by omega) hm
  rw [Nat.zero_mul, Nat.add_zero, List.drop_zero, Nat.sub_zero] at this
  exact this
theorem flat_take {α : Type} (f : α → List DV) (z : Nat) (hz : ∀ x, (f x).length = z) : ∀ (l : List α) (n : Nat), (l.flatMap f).take (n * z) = (l.take n).flatMap f
  | [], n => by simp
  | x :: r, 0 => by simp
  | x :: r, n + 1 => by rw [List.take_succ_cons, List.flatMap_cons, List.flatMap_cons, List.take_append, hz, List.take_of_length_le (by rw [hz, Nat.add_mul]; omega), show (n + 1) * z - z = n * z by rw [Nat.add_mul]; omega, flat_take f z hz r n]
theorem flat_drop {α : Type} (f : α → List DV) (z : Nat) (hz : ∀ x, (f x).length = z) : ∀ (l : List α) (n : Nat), (l.flatMap f).drop (n * z) = (l.drop n).flatMap f
  | [], n => by simp
  | x :: r, 0 => by simp
  | x :: r, n + 1 => by rw [List.drop_succ_cons, List.flatMap_cons, List.drop_append, hz, List.drop_of_length_le (by rw [hz, Nat.add_mul]; omega), show (n + 1) * z - z = n * z by rw [Nat.add_mul]; omega, flat_drop f z hz r n, List.nil_append]

/-- One text ahead of another one, byte by byte. -/
def lessB : Bytes → Bytes → Bool
  | [], [] => false
  | [], _ :: _ => true
  | _ :: _, [] => false
  | a :: x, b :: y => if a = b then lessB x y else decide (a.toNat < b.toNat)
end Go.Proofs.YtghhachbnhldoaaDoor
