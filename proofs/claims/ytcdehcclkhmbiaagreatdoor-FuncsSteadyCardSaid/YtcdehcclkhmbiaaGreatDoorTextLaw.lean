/-
  The plain law of a number's text: read, it is that number. No program in sight. Helper lemmas; no statement of the seat is proved here.
-/
import Derived.Test.YtcdehcclkhmbiaaGreatDoorDeciQ
namespace Go.Proofs.YtcdehcclkhmbiaaGreatDoor
namespace KText

theorem index_one_none (c : UInt8) : ∀ l : List UInt8, c ∉ l → Lib.index l [c] = -1
  | [], _ => rfl
  | b :: l, h => by
    have hb : ¬ c = b := fun e => h (by simp [e])
    unfold Lib.index
    rw [if_neg (by simp [List.isPrefixOf, hb]), index_one_none c l (fun m => h (List.mem_cons_of_mem _ m))]; rfl
theorem index_one_at (c : UInt8) (m : List UInt8) : ∀ l : List UInt8, c ∉ l → Lib.index (l ++ c :: m) [c] = (l.length : Int)
  | [], _ => by
    show Lib.index (c :: m) [c] = 0
    unfold Lib.index
    rw [if_pos (by simp [List.isPrefixOf])]
  | b :: l, h => by
    have hb : ¬ c = b := fun e => h (by simp [e])
    have ih := index_one_at c m l (fun m => h (List.mem_cons_of_mem _ m))
    show Lib.index (b :: (l ++ c :: m)) [c] = _
    unfold Lib.index
    rw [if_neg (by simp [List.isPrefixOf, hb]), ih, if_neg (by simp)]
    simp
theorem cut_none (c : UInt8) (l : List UInt8) (h : c ∉ l) : Lib.cut l [c] = (l, [], false) := by
  unfold Lib.cut
  rw [index_one_none c l h, if_neg (by decide)]
theorem cut_at (c : UInt8) (l m : List UInt8) (h : c ∉ l) : Lib.cut (l ++ c :: m) [c] = (l, m, true) := by
  unfold Lib.cut
  rw [index_one_at c m l h, if_pos (by omega)]
  simp
theorem dropWhile_id {p : UInt8 → Bool} : ∀ l : List UInt8, (∀ x ∈ l, p x = false) → l.dropWhile p = l
  | [], _ => rfl
  | c :: l, h => by rw [List.dropWhile_cons, if_neg (by simp [h c])]
theorem trimS_id (l cs : List UInt8) (h : ∀ x ∈ l, cs.contains x = false) : Lib.trimS l cs = l := by
  unfold Lib.trimS Lib.trimLeftS Lib.trimRightS
  rw [dropWhile_id l.reverse (fun x hx => h x (List.mem_reverse.1 hx)), List.reverse_reverse, dropWhile_id l h]
theorem takeWhile_same {p : UInt8 → Bool} (c : UInt8) (hp : ∀ x, p x = true → x = c) : ∀ l : List UInt8, l.takeWhile p = List.replicate (l.takeWhile p).length c
  | [] => rfl
  | x :: l => by
    rw [List.takeWhile_cons]
    by_cases h : p x = true
    · rw [if_pos h, List.length_cons, List.replicate_succ, hp x h, ← takeWhile_same c hp l]
    · rw [if_neg h]; rfl
theorem places_back (R : List UInt8) (h : R.length = 6) : (Lib.trimRightS R [48] ++ six).take 6 = R := by
  unfold Lib.trimRightS
  have e := List.takeWhile_append_dropWhile (p := (([48] : List UInt8).contains ·)) (l := R.reverse)
  have er := takeWhile_same (p := (([48] : List UInt8).contains ·)) 48 (fun x hx => by simpa using hx) R.reverse
  have hl := congrArg List.length e
  rw [List.length_append, List.length_reverse, h] at hl
  generalize R.reverse.takeWhile (([48] : List UInt8).contains ·) = t at e er hl
  generalize R.reverse.dropWhile (([48] : List UInt8).contains ·) = d at e hl ⊢
  have e2 := congrArg List.reverse e
  rw [List.reverse_append, List.reverse_reverse] at e2
  rw [er, List.reverse_replicate] at e2
  rw [← e2, show six = List.replicate 6 48 from rfl, List.take_append, List.length_reverse, List.take_replicate, List.take_of_length_le (by rw [List.length_reverse]; omega)]
  congr 2
  omega
theorem dec_ne (u : Nat) : Lib.decDigits u ≠ [] := by
  by_cases h : u < 10
  · rw [dec_small u h]; simp
  · rw [dec_big u h]; simp
theorem dec_short : ∀ (k u : Nat), u < 10 ^ (k + 1) → (Lib.decDigits u).length ≤ k + 1
  | 0, u, h => by rw [dec_small u (by simpa using h)]; simp
  | k + 1, u, h => by
    by_cases h' : u < 10
    · rw [dec_small u h']; simp
    · rw [dec_big u h', List.length_append]
      have := dec_short k (u / 10) (by rw [Nat.pow_succ] at h; omega)
      simp; omega
theorem plain_notblank (c : UInt8) (h : isDig c = true ∨ c = 45 ∨ c = 46) : ([9, 10, 13, 32] : List UInt8).contains c = false := by
  rcases h with h | h | h
  · have : ∀ n : Fin 256, isDig (UInt8.ofNat n.val) = true → ([9, 10, 13, 32] : List UInt8).contains (UInt8.ofNat n.val) = false := by decide +kernel
    have h' := this ⟨c.toNat, c.toNat_lt⟩
    simp only [UInt8.ofNat_toNat] at h'
    exact h' h
  · subst h; decide
  · subst h; decide
theorem dig_not (c d : UInt8) (h : isDig c = true) (hd : isDig d = false) : ¬ d = c := fun e => by rw [e, h] at hd; cases hd
theorem placesS_dig (a : Nat) : ∀ c ∈ placesS a, isDig c = true := by
  intro c hc
  unfold placesS Lib.trimRightS at hc
  have h1 := (List.dropWhile_sublist (([48] : List UInt8).contains ·)).mem (List.mem_reverse.1 hc)
  exact low_dig 6 _ c (by simpa using h1)
theorem body_cut (a : Nat) : (Lib.cut (bodyS a) [46]).1 = Lib.decDigits (a / 1000000) ∧ (Lib.cut (bodyS a) [46]).2.1 = placesS a := by
  have hW : (46 : UInt8) ∉ Lib.decDigits (a / 1000000) := fun h => by
    have := dec_dig _ _ h
    exact absurd this (by decide)
  unfold bodyS
  by_cases h : placesS a = []
  · rw [if_pos h, cut_none 46 _ hW, h]; exact ⟨rfl, rfl⟩
  · rw [if_neg h, show ([46] : List UInt8) ++ placesS a = 46 :: placesS a from rfl, cut_at 46 _ _ hW]; exact ⟨rfl, rfl⟩
theorem body_mem (a : Nat) : ∀ c ∈ bodyS a, isDig c = true ∨ c = 45 ∨ c = 46 := by
  intro c hc
  unfold bodyS at hc
  split at hc
  · exact Or.inl (dec_dig _ c hc)
  · rw [List.mem_append, List.mem_append] at hc
    rcases hc with hc | hc | hc
    · exact Or.inl (dec_dig _ c hc)
    · exact Or.inr (Or.inr (by simpa using hc))
    · exact Or.inl (placesS_dig a c hc)
theorem body_head (a : Nat) : ∃ c r, bodyS a = c :: r ∧ isDig c = true := by
  unfold bodyS
  cases hd : Lib.decDigits (a / 1000000) with
  | nil => exact absurd hd (dec_ne _)
  | cons c r =>
    have hc := dec_dig (a / 1000000) c (by rw [hd]; simp)
    split
    · exact ⟨c, r, rfl, hc⟩
    · exact ⟨c, r ++ ([46] ++ placesS a), rfl, hc⟩
theorem body_prefix (a : Nat) : Lib.hasPrefix (bodyS a) [45] = false := by
  obtain ⟨c, r, e, hc⟩ := body_head a
  rw [e]
  unfold Lib.hasPrefix
  have := dig_not c 45 hc (by decide)
  simp [List.isPrefixOf, this]
end KText
open KText
theorem back_nan (n : Bool) (v : Int) (h : oddB n v = true) : parseS (textS n v) = noneS := by
  unfold textS; rw [if_pos h]; decide +kernel
theorem back_ok (v : Int) (h : oddB false v = false) : parseS (textS false v) = ((false, v), 0) := by
  obtain ⟨_, h1, h2⟩ := oddB_false h
  have hodd : ¬ oddB false v = true := by rw [h]; decide
  have ht : Lib.trimS (textS false v) [9, 10, 13, 32] = textS false v := by
    refine trimS_id _ _ fun x hx => plain_notblank x ?_
    unfold textS at hx
    rw [if_neg hodd] at hx
    split at hx
    · rw [List.mem_append] at hx
      rcases hx with hx | hx
      · exact Or.inr (Or.inl (by simpa using hx))
      · exact body_mem _ x hx
    · exact body_mem _ x hx
  have hp : Lib.hasPrefix (textS false v) [45] = decide (v < 0) ∧ Lib.trimPrefix (textS false v) [45] = bodyS v.natAbs := by
    unfold textS
    rw [if_neg hodd]
    by_cases hv : v < 0
    · rw [if_pos hv, decide_eq_true hv]
      have e : Lib.hasPrefix ([45] ++ bodyS v.natAbs) [45] = true := by unfold Lib.hasPrefix; simp [List.isPrefixOf]
      refine ⟨e, ?_⟩
      unfold Lib.trimPrefix
      rw [if_pos e]; rfl
    · rw [if_neg hv, decide_eq_false hv]
      refine ⟨body_prefix _, ?_⟩
      unfold Lib.trimPrefix
      rw [if_neg (by rw [body_prefix]; decide)]
  have ha : v.natAbs ≤ 1000000000000000 := by omega
  generalize ea : v.natAbs = a at hp ha
  obtain ⟨hc1, hc2⟩ := body_cut a
  unfold parseS
  rw [ht, hp.1, hp.2, hc1, hc2]
  have hWd : (Lib.decDigits (a / 1000000)).all isDig = true := List.all_eq_true.2 (dec_dig _)
  have hPd : (placesS a).all isDig = true := List.all_eq_true.2 (placesS_dig a)
  have hlen : (Lib.trimLeftS (Lib.decDigits (a / 1000000)) [48]).length ≤ 10 := by
    refine Nat.le_trans (List.dropWhile_sublist _).length_le ?_
    exact dec_short 9 _ (by omega)
  rw [if_neg (by simp [dec_ne]), if_neg (by rw [hWd]; decide), if_neg (by rw [hPd]; decide), if_neg (by omega)]
  have hR : (placesS a ++ six).take 6 = (low 6 (a % 1000000)).reverse := places_back _ (by rw [List.length_reverse, low_length])
  have hval : KText.val 0 ([48] ++ Lib.trimLeftS (Lib.decDigits (a / 1000000)) [48] ++ (low 6 (a % 1000000)).reverse) = a := by
    rw [val_append, val_append, show val 0 [48] = 0 from rfl, val_lead, val_dec, val_acc, List.length_reverse, low_length, val_low 6 _ (by omega)]
    omega
  rw [hR, hval]
  have hs : signed (decide (v < 0)) a = v := by
    unfold signed
    by_cases hv : v < 0
    · rw [decide_eq_true hv, if_pos rfl]; omega
    · rw [decide_eq_false hv, if_neg (by decide)]; omega
  rw [hs]
  exact fitS_in h1 h2
theorem textS_len (n : Bool) (v : Int) : (textS n v).length ≤ 40 := by
  unfold textS
  by_cases h : oddB n v = true
  · rw [if_pos h]; decide
  · rw [if_neg h]
    have h' : oddB n v = false := by simpa using h
    obtain ⟨_, h1, h2⟩ := oddB_false h'
    have hb : (bodyS v.natAbs).length ≤ 30 := by
      unfold bodyS
      have hd := dec_len (v.natAbs / 1000000) (by omega)
      have hp : (placesS v.natAbs).length ≤ 6 := by
        unfold placesS Lib.trimRightS
        rw [List.length_reverse]
        refine Nat.le_trans (List.dropWhile_sublist _).length_le ?_
        rw [List.length_reverse, List.length_reverse, KText.low_length]; exact Nat.le_refl _
      split
      · omega
      · rw [List.length_append, List.length_append]; simp only [List.length_singleton]; omega
    split
    · rw [List.length_append]; simp only [List.length_singleton]; omega
    · omega
end Go.Proofs.YtcdehcclkhmbiaaGreatDoor
