/-
  Plain facts on the runes of a text, each as its own bytes. No program in sight. Helper lemmas; no statement of the seat is proved here.
-/
import Derived.Lib.DecodeN
namespace Go.Proofs.YtcdehcclkhmbiaaGreatDoor
namespace Pc

def gb (l : List UInt8) (k : Nat) : Nat := (l.getD k 0).toNat
/-- How many bytes the first rune has. -/
def szU (l : List UInt8) : Nat := (Lib.decodeN l.length (gb l 0) (gb l 1) (gb l 2) (gb l 3)).2
theorem dec_le (n b0 b1 b2 b3 : Nat) (h : 1 ≤ n) : 1 ≤ (Lib.decodeN n b0 b1 b2 b3).2 ∧ (Lib.decodeN n b0 b1 b2 b3).2 ≤ n ∧ (Lib.decodeN n b0 b1 b2 b3).2 ≤ 4 := by
  unfold Lib.decodeN
  repeat' split
  all_goals (simp only; omega)
theorem len_pos {l : List UInt8} (h : l ≠ []) : 1 ≤ l.length := List.length_pos_iff.2 h
theorem szU_le (l : List UInt8) (h : l ≠ []) : 1 ≤ szU l ∧ szU l ≤ l.length ∧ szU l ≤ 4 := dec_le _ _ _ _ _ (len_pos h)
/-- What is cut off behind a rune makes no difference to it. -/
theorem dec_cut (n m b0 b1 b2 b3 c1 c2 c3 : Nat) (hm : 1 ≤ m) (hmn : m ≤ n) (h : (Lib.decodeN n b0 b1 b2 b3).2 ≤ m)
    (e1 : 1 < m → c1 = b1) (e2 : 2 < m → c2 = b2) (e3 : 3 < m → c3 = b3) : (Lib.decodeN m b0 c1 c2 c3).2 = (Lib.decodeN n b0 b1 b2 b3).2 := by
  by_cases m1 : 1 < m
  · rw [e1 m1]
    by_cases m2 : 2 < m
    · rw [e2 m2]
      by_cases m3 : 3 < m
      · rw [e3 m3]
        unfold Lib.decodeN at h ⊢
        have t1 : 1 < n := by omega
        have t2 : 2 < n := by omega
        have t3 : 3 < n := by omega
        simp only [m1, m2, m3, t1, t2, t3]
      · unfold Lib.decodeN at h ⊢
        have t1 : 1 < n := by omega
        have t2 : 2 < n := by omega
        simp only [m1, m2, m3, t1, t2, true_and, false_and, and_false, if_false] at h ⊢
        repeat' split at h
        all_goals (repeat' split)
        all_goals first | rfl | (exfalso; omega) | (simp only at h ⊢; omega)
    · unfold Lib.decodeN at h ⊢
      have t1 : 1 < n := by omega
      simp only [m1, m2, t1, true_and, false_and, and_false, if_false] at h ⊢
      repeat' split at h
      all_goals (repeat' split)
      all_goals first | rfl | (exfalso; omega) | (simp only at h ⊢; omega)
  · unfold Lib.decodeN at h ⊢
    simp only [m1, false_and, and_false, if_false] at h ⊢
    repeat' split at h
    all_goals (repeat' split)
    all_goals first | rfl | (exfalso; omega) | (simp only at h ⊢; omega)
theorem gb_take (l : List UInt8) (m k : Nat) (h : k < m) : gb (l.take m) k = gb l k := by
  unfold gb; rw [List.getD_eq_getElem?_getD, List.getD_eq_getElem?_getD, List.getElem?_take, if_pos h]
theorem szU_take (l : List UInt8) (m : Nat) (hl : l ≠ []) (h : szU l ≤ m) (hm : m ≤ l.length) : szU (l.take m) = szU l := by
  obtain ⟨a1, _, _⟩ := szU_le l hl
  unfold szU at h a1 ⊢
  rw [List.length_take, Nat.min_eq_left hm, gb_take l m 0 (by omega)]
  exact dec_cut _ _ _ _ _ _ _ _ _ (by omega) hm h (gb_take l m 1) (gb_take l m 2) (gb_take l m 3)

def pcs : Nat → List UInt8 → List (List UInt8)
  | 0, _ => []
  | f + 1, l => if l = [] then [] else l.take (szU l) :: pcs f (l.drop (szU l))
theorem pcs_fuel : ∀ (f g : Nat) (l : List UInt8), l.length ≤ f → l.length ≤ g → pcs f l = pcs g l
  | 0, g, l, h, _ => by
    have : l = [] := List.eq_nil_of_length_eq_zero (by omega)
    subst this
    cases g <;> simp [pcs]
  | f + 1, 0, l, _, h => by
    have : l = [] := List.eq_nil_of_length_eq_zero (by omega)
    subst this
    simp [pcs]
  | f + 1, g + 1, l, h1, h2 => by
    rw [pcs, pcs]
    by_cases hl : l = []
    · rw [if_pos hl, if_pos hl]
    · rw [if_neg hl, if_neg hl]
      obtain ⟨a1, a2, _⟩ := szU_le l hl
      rw [pcs_fuel f g (l.drop (szU l)) (by rw [List.length_drop]; omega) (by rw [List.length_drop]; omega)]
/-- A text's runes, each as it stands. -/
def pieces (l : List UInt8) : List (List UInt8) := pcs l.length l
theorem pieces_nil : pieces [] = [] := rfl
theorem pieces_cons (l : List UInt8) (h : l ≠ []) : pieces l = l.take (szU l) :: pieces (l.drop (szU l)) := by
  obtain ⟨a1, a2, _⟩ := szU_le l h
  have hp := len_pos h
  unfold pieces
  obtain ⟨n, hn⟩ : ∃ n, l.length = n + 1 := ⟨l.length - 1, by omega⟩
  rw [hn, pcs, if_neg h]
  rw [pcs_fuel n _ (l.drop (szU l)) (by rw [List.length_drop]; omega) (Nat.le_refl _)]
/-- Induction over a text's runes. -/
theorem pieces_ind {M : List UInt8 → Prop} (h0 : M []) (h1 : ∀ l, l ≠ [] → M (l.drop (szU l)) → M l) : ∀ l, M l := by
  intro l
  induction hn : l.length using Nat.strongRecOn generalizing l with
  | _ n ih =>
    by_cases hl : l = []
    · subst hl; exact h0
    · obtain ⟨a1, a2, _⟩ := szU_le l hl
      exact h1 l hl (ih _ (by rw [List.length_drop]; omega) _ rfl)
theorem pieces_join : ∀ l : List UInt8, (pieces l).flatten = l := by
  refine pieces_ind rfl fun l hl ih => ?_
  rw [pieces_cons l hl, List.flatten_cons, ih, List.take_append_drop]
theorem pieces_len : ∀ l : List UInt8, (pieces l).length ≤ l.length := by
  refine pieces_ind (Nat.le_refl _) fun l hl ih => ?_
  obtain ⟨a1, a2, _⟩ := szU_le l hl
  rw [List.length_drop] at ih
  rw [pieces_cons l hl, List.length_cons]; omega
theorem pieces_ne : ∀ l : List UInt8, ∀ p ∈ pieces l, p ≠ [] ∧ p.length ≤ 4 := by
  refine pieces_ind (fun p hp => by cases hp) fun l hl ih => ?_
  obtain ⟨a1, a2, a3⟩ := szU_le l hl
  intro p hp
  rw [pieces_cons l hl] at hp
  rcases List.mem_cons.1 hp with rfl | hp
  · refine ⟨fun e => ?_, by rw [List.length_take]; omega⟩
    have := congrArg List.length e
    rw [List.length_take, List.length_nil] at this
    omega
  · exact ih p hp
/-- The first K runes, as a text, have just these runes. -/
theorem pieces_take : ∀ (l : List UInt8) (K : Nat), pieces (((pieces l).take K).flatten) = (pieces l).take K := by
  refine pieces_ind (fun K => by simp [pieces_nil]) fun l hl ih K => ?_
  obtain ⟨a1, a2, _⟩ := szU_le l hl
  rw [pieces_cons l hl]
  cases K with
  | zero => rfl
  | succ K =>
    rw [List.take_succ_cons, List.flatten_cons]
    have ihK := ih K
    have hpre : ((pieces (l.drop (szU l))).take K).flatten <+: l.drop (szU l) := by
      have e := pieces_join (l.drop (szU l))
      rw [← List.take_append_drop K (pieces (l.drop (szU l))), List.flatten_append] at e
      exact ⟨_, e⟩
    generalize ((pieces (l.drop (szU l))).take K).flatten = q at ihK hpre ⊢
    obtain ⟨r, hr⟩ := hpre
    have hne : l.take (szU l) ++ q ≠ [] := fun e => by
      have := congrArg List.length e
      rw [List.length_append, List.length_take, List.length_nil] at this
      omega
    have hlen : (l.take (szU l)).length = szU l := by rw [List.length_take]; omega
    have eL : l.take (szU l) ++ q = l.take (szU l + q.length) := by
      have e0 : (l.take (szU l) ++ q ++ r).take (szU l + q.length) = l.take (szU l) ++ q := List.take_left' (by rw [List.length_append, hlen])
      have e1 : l.take (szU l) ++ q ++ r = l := by rw [List.append_assoc, hr, List.take_append_drop]
      rw [e1] at e0; exact e0.symm
    have hq : szU l + q.length ≤ l.length := by
      have := congrArg List.length hr
      rw [List.length_append, List.length_drop] at this
      omega
    have es : szU (l.take (szU l) ++ q) = szU l := by
      rw [eL]; exact szU_take l _ hl (by omega) hq
    rw [pieces_cons _ hne, es, List.take_left' hlen, List.drop_left' hlen, ihK]
end Pc
end Go.Proofs.YtcdehcclkhmbiaaGreatDoor
