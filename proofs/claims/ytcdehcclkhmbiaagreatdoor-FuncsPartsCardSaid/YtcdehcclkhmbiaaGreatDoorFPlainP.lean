/-
  The plain law of FuncsParts: the runes up to a place, and from it on, are the text. Helper lemmas; no statement of the seat is proved here.
-/
import Derived.Test.YtcdehcclkhmbiaaGreatDoorFSub
namespace Go.Proofs.YtcdehcclkhmbiaaGreatDoor
open Go.RowKit
set_option linter.unusedVariables false

theorem less_in (a b : Int) (h1 : -1000000000000000 ≤ a) (h2 : a ≤ 1000000000000000) (h3 : -1000000000000000 ≤ b) (h4 : b ≤ 1000000000000000) : lessS false false a b = decide (a < b) := by
  have e : ∀ v : Int, -1000000000000000 ≤ v → v ≤ 1000000000000000 → oddB false v = false := fun v k1 k2 => by
    unfold oddB
    rw [decide_eq_false (by omega), decide_eq_false (by omega)]; rfl
  unfold lessS
  rw [e a h1 h2, e b h3 h4]; rfl
theorem keep_head (K j : Nat) (hK : K ≤ 1100) (hj : j ≤ 100000) : keepS 1000000 ((K : Int) * 1000000 + 1000000) j = decide (j < K) := by
  unfold keepS
  rw [less_in _ _ (by omega) (by omega) (by omega) (by omega), less_in _ _ (by omega) (by omega) (by omega) (by omega)]
  rw [decide_eq_false (by omega), Bool.not_false, Bool.true_and]
  exact decide_eq_decide.2 (by omega)
theorem keep_tail (K j : Nat) (hK : K ≤ 1100) (hj : j ≤ 100000) : keepS ((K : Int) * 1000000 + 1000000) 1000000000000000 j = decide (K ≤ j) := by
  unfold keepS
  rw [less_in _ _ (by omega) (by omega) (by omega) (by omega), less_in _ _ (by omega) (by omega) (by omega) (by omega)]
  rw [decide_eq_true (p := ((j : Int) + 1) * 1000000 < 1000000000000000) (by omega), Bool.and_true, ← decide_not]
  exact decide_eq_decide.2 (by omega)
theorem getD_at (Z : List (List UInt8)) (n : Nat) (h : n < Z.length) : Z.getD n [] = Z[n] := by
  rw [List.getD_eq_getElem?_getD, List.getElem?_eq_getElem h]; rfl
theorem subT_head (Z : List (List UInt8)) (K : Nat) (hK : K ≤ 1100) : ∀ n, n ≤ Z.length → n ≤ 100000 → subT Z 1000000 ((K : Int) * 1000000 + 1000000) n = ((Z.take n).take K).flatten
  | 0, _, _ => by simp [subT]
  | n + 1, h, h2 => by
    rw [subT, subT_head Z K hK n (by omega) (by omega), keep_head K n hK (by omega), take_one Z n (by omega), getD_at Z n (by omega)]
    by_cases hn : n < K
    · rw [if_pos (decide_eq_true hn), List.take_of_length_le (l := List.take n Z) (by rw [List.length_take]; omega), List.take_of_length_le (l := List.take n Z ++ _) (by rw [List.length_append, List.length_take]; simp; omega), List.flatten_append]
      simp
    · rw [if_neg (by simpa using hn), List.append_nil, List.take_append_of_le_length (by rw [List.length_take]; omega)]
theorem subT_tail (Z : List (List UInt8)) (K : Nat) (hK : K ≤ 1100) : ∀ n, n ≤ Z.length → n ≤ 100000 → subT Z ((K : Int) * 1000000 + 1000000) 1000000000000000 n = ((Z.take n).drop K).flatten
  | 0, _, _ => by simp [subT]
  | n + 1, h, h2 => by
    rw [subT, subT_tail Z K hK n (by omega) (by omega), keep_tail K n hK (by omega), take_one Z n (by omega), getD_at Z n (by omega)]
    by_cases hn : K ≤ n
    · rw [if_pos (decide_eq_true hn), List.drop_append_of_le_length (by rw [List.length_take]; omega), List.flatten_append]
      simp
    · rw [if_neg (by simpa using hn), List.append_nil, show List.drop K (List.take n Z) = [] from List.drop_eq_nil_of_le (by rw [List.length_take]; omega), List.drop_eq_nil_of_le (by rw [List.length_append, List.length_take]; simp; omega)]
theorem parts_plain (l : List UInt8) (K : Nat) (hK : K ≤ 1100) (hl : l.length ≤ 1000) :
    subT (Pc.pieces l) 1000000 ((K : Int) * 1000000 + 1000000) (Pc.pieces l).length ++ subT (Pc.pieces l) ((K : Int) * 1000000 + 1000000) 1000000000000000 (Pc.pieces l).length = l ∧
    (Pc.pieces (subT (Pc.pieces l) 1000000 ((K : Int) * 1000000 + 1000000) (Pc.pieces l).length)).length ≤ K ∧
    (subT (Pc.pieces l) 1000000 ((K : Int) * 1000000 + 1000000) (Pc.pieces l).length).length ≤ 1000 := by
  have hp := Pc.pieces_len l
  rw [subT_head _ K hK _ (Nat.le_refl _) (by omega), subT_tail _ K hK _ (Nat.le_refl _) (by omega), List.take_length]
  have e : ((Pc.pieces l).take K).flatten ++ ((Pc.pieces l).drop K).flatten = l := by rw [← List.flatten_append, List.take_append_drop, Pc.pieces_join]
  refine ⟨e, ?_, ?_⟩
  · rw [Pc.pieces_take, List.length_take]; omega
  · have := congrArg List.length e
    rw [List.length_append] at this; omega
theorem round_whole6 (K : Nat) (hK : K ≤ 1200) : roundS false ((K : Int) * 1000000) = ((false, (K : Int) * 1000000), 0) := by
  unfold roundS one oddB fitS floorV
  rw [decide_eq_false (by omega), decide_eq_false (by omega)]
  rw [if_neg (by decide), if_neg (by omega)]
  rw [show (K : Int) * 1000000 + 500000 - ((K : Int) * 1000000 + 500000) % 1000000 = (K : Int) * 1000000 by omega]
theorem add_whole6 (K : Nat) (hK : K ≤ 1200) : two false false 1000000 ((K : Int) * 1000000) (fitS (1000000 + (K : Int) * 1000000)) = ((false, (K : Int) * 1000000 + 1000000), 0) := by
  unfold two oddB fitS
  rw [decide_eq_false (p := 1000000000000000 < (K : Int) * 1000000) (by omega), decide_eq_false (p := (K : Int) * 1000000 < -1000000000000000) (by omega)]
  rw [if_neg (by decide), if_neg (by omega)]
  rw [show (1000000 : Int) + (K : Int) * 1000000 = (K : Int) * 1000000 + 1000000 by omega]
end Go.Proofs.YtcdehcclkhmbiaaGreatDoor
