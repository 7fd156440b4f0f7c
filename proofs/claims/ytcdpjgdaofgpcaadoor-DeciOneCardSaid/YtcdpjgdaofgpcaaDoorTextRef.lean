/-
  The plain law of the reference's text of a number: digit by digit from behind. No program in sight. Helper lemmas; no statement of the seat is proved here.
-/
import Derived.Test.YtcdpjgdaofgpcaaDoorTextLaw
namespace Go.Proofs.YtcdpjgdaofgpcaaDoor
open KText

/-- A number's digits, the last one first. -/
def rdig (u : Nat) : List UInt8 := (Lib.decDigits u).reverse
theorem rdig_step (u : Nat) : rdig u = dgt u :: (if u / 10 = 0 then [] else rdig (u / 10)) := by
  unfold rdig
  by_cases h : u < 10
  · rw [dec_small u h, if_pos (by omega)]; rfl
  · rw [dec_big u h, if_neg (by omega), List.reverse_append]; rfl
/-- What is still to be written when k digits have been, q being what is left. -/
def restS (k q : Nat) : List UInt8 := if k < 6 then low (6 - k) q ++ 46 :: rdig (q / 10 ^ (6 - k)) else if k = 6 then 46 :: rdig q else if q = 0 then [] else rdig q
theorem restS_low (k q : Nat) (h : k < 6) : restS k q = dgt q :: restS (k + 1) (q / 10) := by
  unfold restS
  rw [if_pos h]
  obtain ⟨m, hm⟩ : ∃ m, 6 - k = m + 1 := ⟨5 - k, by omega⟩
  rw [hm, low]
  by_cases h5 : k + 1 < 6
  · rw [if_pos h5, show 6 - (k + 1) = m by omega, Nat.div_div_eq_div_mul, ← Nat.pow_succ']; rfl
  · rw [if_neg h5, if_pos (by omega), show m = 0 by omega, low]
    simp
theorem restS_point (q : Nat) : restS 6 q = 46 :: dgt q :: restS 7 (q / 10) := by
  unfold restS
  rw [if_neg (by decide), if_pos rfl, if_neg (by decide), if_neg (by decide), rdig_step q]
theorem restS_high (k q : Nat) (h : 7 ≤ k) (hq : 0 < q) : restS k q = dgt q :: restS (k + 1) (q / 10) := by
  unfold restS
  rw [if_neg (by omega), if_neg (by omega), if_neg (by omega), if_neg (by omega), if_neg (by omega), rdig_step q]
theorem restS_end (k : Nat) (h : 7 ≤ k) : restS k 0 = [] := by
  unfold restS
  rw [if_neg (by omega), if_neg (by omega), if_pos rfl]
/-- All that is written, the last place first. -/
def allS (a : Nat) : List UInt8 := restS 0 a
theorem allS_eq (a : Nat) : allS a = low 6 a ++ 46 :: rdig (a / 1000000) := by
  unfold allS restS
  rw [if_pos (by decide)]
theorem allS_len (a : Nat) (h : a ≤ 1000000000000000) : 8 ≤ (allS a).length ∧ (allS a).length ≤ 40 := by
  rw [allS_eq, List.length_append, low_length, List.length_cons]
  have h1 : (rdig (a / 1000000)).length ≤ 10 := by
    unfold rdig; rw [List.length_reverse]; exact dec_short 9 _ (by omega)
  have h2 : 1 ≤ (rdig (a / 1000000)).length := by rw [rdig_step]; simp
  omega
theorem allS_low (a k : Nat) (h : k < 6) : (allS a)[k]? = (low 6 a)[k]? := by
  rw [allS_eq, List.getElem?_append_left (by rw [low_length]; exact h)]
def z48 (c : UInt8) : Bool := ([48] : List UInt8).contains c
theorem z48_eq (c : UInt8) : z48 c = decide (c = 48) := by unfold z48; simp
theorem low_mod : ∀ k a, low k (a % 10 ^ k) = low k a
  | 0, _ => rfl
  | k + 1, a => by
    rw [low, low, Nat.pow_succ]
    have e1 : dgt (a % (10 ^ k * 10)) = dgt a := by unfold dgt; rw [Nat.mod_mul_left_mod]
    have e2 : a % (10 ^ k * 10) / 10 = a / 10 % 10 ^ k := by rw [Nat.mul_comm, Nat.mod_mul_right_div_self]
    rw [e1, e2, low_mod k]
/-- n leading noughts of the six places. -/
theorem body_of (a n : Nat) (hn : n ≤ 6) (h1 : ∀ (j : Nat) c, j < n → (allS a)[j]? = some c → c = 48) (h2 : n < 6 → ∀ c, (allS a)[n]? = some c → ¬ c = 48) :
    ((allS a).drop (if n = 6 then 7 else n)).reverse = bodyS a := by
  have hd : (low 6 a).dropWhile z48 = (low 6 a).drop n := by
    refine Lib.dropWhile_drop z48 _ n (fun j b hj hb => ?_) (fun b hb => ?_) (by rw [low_length]; exact hn)
    · rw [z48_eq]; exact decide_eq_true (h1 j b hj (by rw [allS_low a j (by omega)]; exact hb))
    · have hn6 : n < 6 := by
        have := (List.getElem?_eq_some_iff.1 hb).1
        rw [low_length] at this; exact this
      rw [z48_eq]; exact decide_eq_false (h2 hn6 b (by rw [allS_low a n hn6]; exact hb))
  have hp : placesS a = ((low 6 a).drop n).reverse := by
    unfold placesS Lib.trimRightS
    rw [List.reverse_reverse, show (a % 1000000) = a % 10 ^ 6 from rfl, low_mod]
    show ((low 6 a).dropWhile z48).reverse = _
    rw [hd]
  unfold bodyS
  rw [hp, allS_eq]
  by_cases h6 : n = 6
  · subst h6
    have e : (low 6 a).drop 6 = [] := List.drop_eq_nil_of_le (by rw [low_length]; exact Nat.le_refl _)
    have e7 : (low 6 a).drop 7 = [] := List.drop_eq_nil_of_le (by rw [low_length]; decide)
    rw [if_pos rfl, e, List.reverse_nil, if_pos rfl, List.drop_append, low_length, e7, List.nil_append]
    show (rdig (a / 1000000)).reverse = _
    unfold rdig; rw [List.reverse_reverse]
  · have hlt : n < 6 := by omega
    rw [if_neg h6, if_neg, List.drop_append_of_le_length (by rw [low_length]; omega), List.reverse_append, List.reverse_cons]
    · unfold rdig; rw [List.reverse_reverse, List.append_assoc]
    · intro e
      have := congrArg List.length e
      rw [List.length_reverse, List.length_drop, low_length, List.length_nil] at this
      omega
end Go.Proofs.YtcdpjgdaofgpcaaDoor
