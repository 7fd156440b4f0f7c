/-
  The plain law of the document's reading of a number, character by character: it is what the program's reading is. No program in sight. Helper lemmas; no statement of the seat is proved here.
-/
import Derived.Test.YtcdpjgdaofgpcaaDoorTextLaw
namespace Go.Proofs.YtcdpjgdaofgpcaaDoor
open KText

/-- One digit more behind a number, and whether it was too great. -/
def stepV (v : Int) (c : UInt8) : Int := if 1000000000000000 < v * 10 + ((c.toNat : Int) - 48) then 1000000000000000 else v * 10 + ((c.toNat : Int) - 48)
def stepO (v : Int) (c : UInt8) (o : Bool) : Bool := if 1000000000000000 < v * 10 + ((c.toNat : Int) - 48) then true else o
/-- The characters behind the sign: the number so far, its places, how many digits, whether it was too great; none: it is no number. -/
def scan : List UInt8 → Int → Nat → Bool → Nat → Bool → Option (Int × Nat × Nat × Bool)
  | [], v, p, _, d, o => some (v, p, d, o)
  | c :: l, v, p, pt, d, o =>
    if c = 46 ∧ pt = false then scan l v p true d o
    else if isDig c = false then none
    else if pt = true ∧ p = 6 then scan l v p pt (d + 1) o
    else scan l (stepV v c) (if pt then p + 1 else p) pt (d + 1) (stepO v c o)
/-- The places that lack. -/
def fillS : Nat → Int → Bool → Int × Bool
  | 0, v, o => (v, o)
  | k + 1, v, o => if 1000000000000000 < v * 10 then fillS k 1000000000000000 true else fillS k (v * 10) o
def endS (neg : Bool) (v : Int) (o : Bool) : Out := if o = true then ((false, 0), 66) else ((false, if neg then -v else v), 0)
def rparseT (neg : Bool) : Option (Int × Nat × Nat × Bool) → Out
  | none => noneS
  | some (v, p, d, o) => if d = 0 then noneS else endS neg (fillS (6 - p) v o).1 (fillS (6 - p) v o).2
def rparseS (l : List UInt8) : Out :=
  rparseT (Lib.hasPrefix (Lib.trimS l [9, 10, 13, 32]) [45]) (scan (Lib.trimPrefix (Lib.trimS l [9, 10, 13, 32]) [45]) 0 0 false 0 false)

/-- v is n, or (o) n is too great. -/
def Inv (v : Int) (o : Bool) (n : Nat) : Prop := (o = false → v = n) ∧ (o = true → 1000000000000000 < n) ∧ 0 ≤ v ∧ v ≤ 1000000000000000
theorem inv_over {v : Int} {o : Bool} {n : Nat} (h : Inv v o n) (d : Nat) (hd : 1000000000000000 < v * 10 + d) : Inv 1000000000000000 true (n * 10 + d) := by
  obtain ⟨h1, h2, h3, h4⟩ := h
  refine ⟨(fun e => by cases e), fun _ => ?_, by decide, by decide⟩
  cases o with
  | false => have := h1 rfl; omega
  | true => have := h2 rfl; omega
theorem inv_in {v : Int} {o : Bool} {n : Nat} (h : Inv v o n) (d : Nat) (hd : v * 10 + d ≤ 1000000000000000) : Inv (v * 10 + d) o (n * 10 + d) := by
  obtain ⟨h1, h2, h3, h4⟩ := h
  refine ⟨fun e => ?_, fun e => ?_, by omega, hd⟩
  · rw [h1 e]; omega
  · have := h2 e; omega
theorem inv_step {v : Int} {o : Bool} {n : Nat} (h : Inv v o n) (c : UInt8) (hc : isDig c = true) : Inv (stepV v c) (stepO v c o) (n * 10 + (c.toNat - 48)) := by
  have hdn : ((c.toNat : Int) - 48) = ((c.toNat - 48 : Nat) : Int) := by unfold isDig at hc; simp at hc; omega
  unfold stepV stepO
  rw [hdn]
  by_cases hb : 1000000000000000 < v * 10 + ((c.toNat - 48 : Nat) : Int)
  · rw [if_pos hb, if_pos hb]; exact inv_over h _ hb
  · rw [if_neg hb, if_neg hb]; exact inv_in h _ (by omega)
theorem stepV_in {v : Int} (c : UInt8) (h1 : 0 ≤ v) (h2 : v ≤ 1000000000000000) (hc : isDig c = true) : 0 ≤ stepV v c ∧ stepV v c ≤ 1000000000000000 := by
  unfold isDig at hc; simp at hc
  unfold stepV
  split <;> omega
theorem dig_point (c : UInt8) (b : Prop) (hc : isDig c = true) : ¬ (c = 46 ∧ b) := fun e => by rw [e.1] at hc; revert hc; decide
theorem scan_whole : ∀ (l : List UInt8) (v : Int) (d : Nat) (o : Bool) (n : Nat), Inv v o n → l.all isDig = true →
    ∃ v' o', Inv v' o' (val n l) ∧ ∀ rest, scan (l ++ rest) v 0 false d o = scan rest v' 0 false (d + l.length) o'
  | [], v, d, o, n, h, _ => ⟨v, o, h, fun _ => rfl⟩
  | c :: l, v, d, o, n, h, ha => by
    rw [List.all_cons, Bool.and_eq_true] at ha
    obtain ⟨v', o', i2, e2⟩ := scan_whole l (stepV v c) (d + 1) (stepO v c o) _ (inv_step h c ha.1) ha.2
    refine ⟨v', o', i2, fun rest => ?_⟩
    rw [List.cons_append, scan, if_neg (dig_point c _ ha.1), if_neg (by rw [ha.1]; decide), if_neg (by simp)]
    simp only [Bool.false_eq_true, if_false]
    rw [e2, List.length_cons]
    congr 1; omega
theorem scan_whole_no : ∀ (l rest : List UInt8) (v : Int) (d : Nat) (o : Bool), (46 : UInt8) ∉ l → l.all isDig = false → scan (l ++ rest) v 0 false d o = none
  | [], _, _, _, _, _, h => by cases h
  | c :: l, rest, v, d, o, hm, h => by
    have h46 : ¬ (c = 46 ∧ false = false) := fun e => hm (by rw [e.1]; exact List.mem_cons_self)
    rw [List.cons_append, scan, if_neg h46]
    by_cases hc : isDig c = false
    · rw [if_pos hc]
    · rw [if_neg hc, if_neg (by simp)]
      have hc' : isDig c = true := by simpa using hc
      rw [List.all_cons, hc', Bool.true_and] at h
      exact scan_whole_no l rest _ _ _ (fun m => hm (List.mem_cons_of_mem _ m)) h
theorem scan_places : ∀ (l : List UInt8) (v : Int) (p d : Nat) (o : Bool) (n : Nat), p ≤ 6 → Inv v o n → l.all isDig = true →
    ∃ v' o', Inv v' o' (val n (l.take (6 - p))) ∧ scan l v p true d o = some (v', min 6 (p + l.length), d + l.length, o')
  | [], v, p, d, o, n, hp, h, _ => ⟨v, o, by rw [List.take_nil]; exact h, by rw [scan, List.length_nil, Nat.add_zero, Nat.add_zero, Nat.min_eq_right hp]⟩
  | c :: l, v, p, d, o, n, hp, h, ha => by
    rw [List.all_cons, Bool.and_eq_true] at ha
    rw [scan, if_neg (by simp), if_neg (by rw [ha.1]; decide)]
    by_cases h6 : p = 6
    · subst h6
      rw [if_pos ⟨rfl, rfl⟩]
      obtain ⟨v', o', i2, e2⟩ := scan_places l v 6 (d + 1) o n (Nat.le_refl _) h ha.2
      refine ⟨v', o', i2, ?_⟩
      rw [e2, List.length_cons, Nat.min_eq_left (by omega), Nat.min_eq_left (by omega)]
      congr 4; omega
    · rw [if_neg (by simp [h6])]
      simp only [if_true]
      obtain ⟨v', o', i2, e2⟩ := scan_places l (stepV v c) (p + 1) (d + 1) (stepO v c o) _ (by omega) (inv_step h c ha.1) ha.2
      refine ⟨v', o', ?_, ?_⟩
      · rw [show 6 - p = (6 - (p + 1)) + 1 by omega, List.take_succ_cons]; exact i2
      · rw [e2, List.length_cons, show p + 1 + l.length = p + (l.length + 1) by omega, show d + 1 + l.length = d + (l.length + 1) by omega]
theorem scan_places_no : ∀ (l : List UInt8) (v : Int) (p d : Nat) (o : Bool), l.all isDig = false → scan l v p true d o = none
  | [], _, _, _, _, h => by cases h
  | c :: l, v, p, d, o, h => by
    rw [scan, if_neg (by simp)]
    by_cases hc : isDig c = false
    · rw [if_pos hc]
    · rw [if_neg hc]
      have hc' : isDig c = true := by simpa using hc
      rw [List.all_cons, hc', Bool.true_and] at h
      split
      · exact scan_places_no l _ _ _ _ h
      · exact scan_places_no l _ _ _ _ h
theorem fillS_inv : ∀ (k : Nat) (v : Int) (o : Bool) (n : Nat), Inv v o n → Inv (fillS k v o).1 (fillS k v o).2 (n * 10 ^ k)
  | 0, v, o, n, h => by rw [fillS, Nat.pow_zero, Nat.mul_one]; exact h
  | k + 1, v, o, n, h => by
    rw [fillS, Nat.pow_succ, Nat.mul_comm (10 ^ k) 10, ← Nat.mul_assoc]
    by_cases hb : 1000000000000000 < v * 10
    · rw [if_pos hb]; exact fillS_inv k _ _ _ (inv_over h 0 (by omega))
    · rw [if_neg hb]
      have := inv_in h 0 (by omega)
      simp only [Nat.add_zero, Int.natCast_zero, Int.add_zero] at this
      exact fillS_inv k _ _ _ this
theorem end_inv (neg : Bool) (v : Int) (o : Bool) (n : Nat) (h : Inv v o n) : endS neg v o = fitS (signed neg n) := by
  obtain ⟨h1, h2, h3, h4⟩ := h
  unfold endS
  cases o with
  | true => rw [if_pos rfl, fitS_far neg n (h2 rfl)]
  | false =>
    have e := h1 rfl
    rw [if_neg (by decide), e]
    unfold signed
    rw [fitS_in (by split <;> omega) (by split <;> omega)]
theorem lead_big (l : List UInt8) (h : l.all isDig = true) (hl : 10 < (Lib.trimLeftS l [48]).length) : 10000000000 ≤ val 0 l := by
  rw [← val_lead]
  cases ht : Lib.trimLeftS l [48] with
  | nil => rw [ht] at hl; simp at hl
  | cons c r =>
    rw [ht, List.length_cons] at hl
    have hc : isDig c = true := by
      refine List.all_eq_true.1 h c ?_
      have := (List.dropWhile_sublist (([48] : List UInt8).contains ·) (l := l)).mem (a := c) (by unfold Lib.trimLeftS at ht; rw [ht]; simp)
      exact this
    have h48 : ¬ c = 48 := fun e => by
      have := dropWhile_head _ _ _ ht
      subst e; revert this; decide
    have h1 : 1 ≤ c.toNat - 48 := by
      unfold isDig at hc; simp at hc
      have : c.toNat ≠ 48 := fun e => h48 (UInt8.toNat_inj.1 (by rw [e]; rfl))
      omega
    show 10000000000 ≤ val (0 * 10 + (c.toNat - 48)) r
    rw [Nat.zero_mul, Nat.zero_add, val_acc]
    have hp : 10 ^ 10 ≤ 10 ^ r.length := Nat.pow_le_pow_right (by decide) (by omega)
    have := Nat.mul_le_mul h1 hp
    omega
theorem take_six (pl : List UInt8) : (pl ++ six).take 6 = pl.take 6 ++ List.replicate (6 - pl.length) 48 := by
  rw [List.take_append, show six = List.replicate 6 48 from rfl, List.take_replicate]
  congr 2; omega
theorem rparse_parts (neg : Bool) (wh pl : List UInt8) (hw : wh.all isDig = true) (_hp : pl.all isDig = true) (hne : wh ++ pl ≠ []) (v : Int) (o : Bool) (h : Inv v o (val (val 0 wh) (pl.take 6))) :
    rparseT neg (some (v, min 6 pl.length, wh.length + pl.length, o)) =
      (if 10 < (Lib.trimLeftS wh [48]).length then ((false, 0), 66) else fitS (signed neg (val 0 ([48] ++ Lib.trimLeftS wh [48] ++ (pl ++ six).take 6)))) := by
  have hd : ¬ wh.length + pl.length = 0 := fun e => hne (List.eq_nil_of_length_eq_zero (by rw [List.length_append]; exact e))
  rw [rparseT, if_neg hd]
  have hf := fillS_inv (6 - min 6 pl.length) v o _ h
  rw [end_inv neg _ _ _ hf]
  have e : val (val 0 wh) (pl.take 6) * 10 ^ (6 - min 6 pl.length) = val (val 0 wh) ((pl ++ six).take 6) := by
    rw [take_six, val_append, val_zeros, show 6 - min 6 pl.length = 6 - pl.length by omega]
  rw [e]
  have e2 : val 0 ([48] ++ Lib.trimLeftS wh [48] ++ (pl ++ six).take 6) = val (val 0 wh) ((pl ++ six).take 6) := by
    rw [val_append, val_append, show val 0 [48] = 0 from rfl, val_lead]
  by_cases hb : 10 < (Lib.trimLeftS wh [48]).length
  · rw [if_pos hb]
    have := lead_big wh hw hb
    refine fitS_far neg _ ?_
    rw [val_acc, show ((pl ++ six).take 6).length = 6 by rw [List.length_take, List.length_append, show six.length = 6 from rfl]; omega]
    omega
  · rw [if_neg hb, e2]
theorem rparse_eq (l : List UInt8) : rparseS l = parseS l := by
  unfold rparseS parseS
  generalize Lib.hasPrefix (Lib.trimS l [9, 10, 13, 32]) [45] = neg
  generalize Lib.trimPrefix (Lib.trimS l [9, 10, 13, 32]) [45] = t
  have i0 : Inv 0 false 0 := ⟨fun _ => rfl, (fun e => by cases e), by decide, by decide⟩
  by_cases h46 : (46 : UInt8) ∈ t
  · obtain ⟨wh, pl, rfl, hw46⟩ := List.eq_append_cons_of_mem h46
    rw [cut_at 46 wh pl hw46]
    dsimp only
    by_cases hw : wh.all isDig = false
    · rw [scan_whole_no wh _ _ _ _ hw46 hw, if_pos hw]
      split <;> rfl
    · have hw' : wh.all isDig = true := by simpa using hw
      rw [if_neg hw]
      obtain ⟨v1, o1, i1, e1⟩ := scan_whole wh 0 0 false 0 i0 hw'
      rw [e1, scan, if_pos ⟨rfl, rfl⟩, Nat.zero_add]
      by_cases hp : pl.all isDig = false
      · rw [scan_places_no _ _ _ _ _ hp, if_pos hp]
        split <;> rfl
      · have hp' : pl.all isDig = true := by simpa using hp
        rw [if_neg hp]
        obtain ⟨v2, o2, i2, e2⟩ := scan_places pl v1 0 wh.length o1 _ (by decide) i1 hp'
        rw [e2, Nat.zero_add]
        by_cases hn : wh ++ pl = []
        · rw [if_pos hn]
          have : wh.length + pl.length = 0 := by rw [← List.length_append, hn]; rfl
          rw [rparseT, if_pos this]
        · rw [if_neg hn]
          exact rparse_parts neg wh pl hw' hp' hn v2 o2 i2
  · rw [cut_none 46 t h46]
    dsimp only
    by_cases hw : t.all isDig = false
    · have := scan_whole_no t [] 0 0 false h46 hw
      rw [List.append_nil] at this
      rw [this, if_pos hw]
      split <;> rfl
    · have hw' : t.all isDig = true := by simpa using hw
      rw [if_neg hw]
      obtain ⟨v1, o1, i1, e1⟩ := scan_whole t 0 0 false 0 i0 hw'
      have e1' := e1 []
      rw [List.append_nil, scan, Nat.zero_add] at e1'
      rw [e1', if_neg (show ¬ ([] : List UInt8).all isDig = false by decide)]
      by_cases hn : t ++ [] = []
      · rw [if_pos hn]
        have : t.length = 0 := by rw [List.append_nil] at hn; rw [hn]; rfl
        rw [rparseT, if_pos this]
      · rw [if_neg hn]
        exact rparse_parts neg t [] hw' rfl hn v1 o1 i1
end Go.Proofs.YtcdpjgdaofgpcaaDoor
