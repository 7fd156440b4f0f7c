/-
  Plain facts on texts of decimal numbers, over lists of bytes. No program in sight. Helper lemmas; no statement of the seat is proved here.
-/
import Derived.Lib.SlTrimSet
import Derived.Lib.IndexMore
import Derived.Lib.ParseIntB
import Derived.Lib.ItoaNum
import Derived.Lib.Strings
namespace Go.Proofs.YtmmopcceabdecaaGreatDoor
namespace KText

/-! ### the last digits of a number -/
def dgt (n : Nat) : UInt8 := UInt8.ofNat (48 + n % 10)
/-- The last k digits of a number, the last one first. -/
def low : Nat → Nat → List UInt8
  | 0, _ => []
  | k + 1, a => dgt a :: low k (a / 10)
theorem dec_big (u : Nat) (h : ¬ u < 10) : Lib.decDigits u = Lib.decDigits (u / 10) ++ [dgt u] := by
  rw [Lib.decDigits, dif_neg h]; rfl
theorem dec_small (u : Nat) (h : u < 10) : Lib.decDigits u = [dgt u] := by
  rw [Lib.decDigits, dif_pos h]; unfold dgt; rw [Nat.mod_eq_of_lt h]
theorem low_length : ∀ k a, (low k a).length = k
  | 0, _ => rfl
  | k + 1, a => by simp [low, low_length k]
theorem dec_low (k : Nat) : ∀ f, f < 10 ^ k → Lib.decDigits (f + 10 ^ k) = 49 :: (low k f).reverse := by
  induction k with
  | zero => intro f h; have : f = 0 := by simpa using h
            subst this; rw [dec_small _ (by decide)]; rfl
  | succ k ih =>
    intro f h
    rw [Nat.pow_succ] at h
    have hp : 1 ≤ 10 ^ k := Nat.one_le_pow _ _ (by decide)
    rw [Nat.pow_succ, dec_big _ (by omega)]
    have e : (f + 10 ^ k * 10) / 10 = f / 10 + 10 ^ k := by omega
    have e2 : dgt (f + 10 ^ k * 10) = dgt f := by unfold dgt; congr 2; omega
    rw [e, e2, ih _ (by omega)]
    simp [low]
theorem dec_million (f : Nat) (h : f < 1000000) : Lib.decDigits (f + 1000000) = 49 :: (low 6 f).reverse := dec_low 6 f h

/-! ### digits and values -/
def isDig (c : UInt8) : Bool := decide (48 ≤ c.toNat) && decide (c.toNat ≤ 57)
theorem dgt_toNat (n : Nat) : (dgt n).toNat = 48 + n % 10 := by
  unfold dgt; rw [UInt8.toNat_ofNat']; omega
theorem isDig_dgt (n : Nat) : isDig (dgt n) = true := by unfold isDig; rw [dgt_toNat]; simp; omega
theorem low_dig : ∀ k a, ∀ c ∈ low k a, isDig c = true
  | 0, _, c, h => by cases h
  | k + 1, a, c, h => by
    simp [low] at h
    rcases h with rfl | h
    · exact isDig_dgt a
    · exact low_dig k _ c h
theorem dec_dig (u : Nat) : ∀ c ∈ Lib.decDigits u, isDig c = true := by
  induction u using Nat.strongRecOn with
  | _ u ih =>
    intro c hc
    by_cases h : u < 10
    · rw [dec_small u h] at hc; simp at hc; subst hc; exact isDig_dgt u
    · rw [dec_big u h] at hc
      simp at hc
      rcases hc with hc | rfl
      · exact ih _ (by omega) c hc
      · exact isDig_dgt u
def val (acc : Nat) (l : List UInt8) : Nat := l.foldl (fun a c => a * 10 + (c.toNat - 48)) acc
theorem val_append (acc : Nat) (l m : List UInt8) : val acc (l ++ m) = val (val acc l) m := by unfold val; rw [List.foldl_append]
theorem val_acc : ∀ (l : List UInt8) (acc : Nat), val acc l = acc * 10 ^ l.length + val 0 l
  | [], acc => by simp [val]
  | c :: l, acc => by
    show val (acc * 10 + (c.toNat - 48)) l = _ + val (0 * 10 + (c.toNat - 48)) l
    rw [val_acc l (acc * 10 + (c.toNat - 48)), val_acc l (0 * 10 + (c.toNat - 48)), List.length_cons, Nat.pow_succ, Nat.zero_mul, Nat.zero_add, Nat.add_mul, Nat.mul_comm (10 ^ l.length) 10, ← Nat.mul_assoc, Nat.add_assoc]
theorem val_mono (l : List UInt8) (acc : Nat) : acc ≤ val acc l := by
  rw [val_acc]
  have := Nat.one_le_pow l.length 10 (by decide)
  have := Nat.mul_le_mul_left acc this
  omega
theorem val_dec (u : Nat) : val 0 (Lib.decDigits u) = u := by
  induction u using Nat.strongRecOn with
  | _ u ih =>
    by_cases h : u < 10
    · rw [dec_small u h]; show 0 * 10 + ((dgt u).toNat - 48) = u; rw [dgt_toNat]; omega
    · rw [dec_big u h, val_append, ih _ (by omega)]
      show u / 10 * 10 + ((dgt u).toNat - 48) = u
      rw [dgt_toNat]; omega
theorem val_low : ∀ k f, f < 10 ^ k → val 0 (low k f).reverse = f
  | 0, f, h => by have : f = 0 := by simpa using h
                  subst this; rfl
  | k + 1, f, h => by
    rw [Nat.pow_succ] at h
    rw [low, List.reverse_cons, val_append, val_low k (f / 10) (by omega)]
    show f / 10 * 10 + ((dgt f).toNat - 48) = f
    rw [dgt_toNat]; omega
theorem val_zeros (acc : Nat) : ∀ k, val acc (List.replicate k 48) = acc * 10 ^ k
  | 0 => by simp [val]
  | k + 1 => by
    rw [List.replicate_succ]
    show val (acc * 10 + (48 - 48)) (List.replicate k 48) = _
    rw [val_zeros _ k, Nat.pow_succ, Nat.sub_self, Nat.add_zero, Nat.mul_assoc, Nat.mul_comm 10]
theorem val_lead : ∀ (l : List UInt8), val 0 (Lib.trimLeftS l [48]) = val 0 l
  | [] => rfl
  | c :: l => by
    unfold Lib.trimLeftS
    rw [List.dropWhile_cons]
    by_cases h : c = 48
    · subst h
      rw [if_pos (by decide)]
      have := val_lead l
      unfold Lib.trimLeftS at this
      rw [this]; rfl
    · rw [if_neg (by simpa using h)]
theorem val_lt : ∀ (l : List UInt8), (∀ c ∈ l, isDig c = true) → val 0 l < 10 ^ l.length
  | [], _ => by simp [val]
  | c :: l, h => by
    have hc := h c (by simp)
    have ih := val_lt l (fun d hd => h d (by simp [hd]))
    rw [show val 0 (c :: l) = val (c.toNat - 48) l by show val (0 * 10 + (c.toNat - 48)) l = _; rw [Nat.zero_mul, Nat.zero_add], val_acc, List.length_cons, Nat.pow_succ]
    have h9 : c.toNat - 48 ≤ 9 := by unfold isDig at hc; simp at hc; omega
    have := Nat.mul_le_mul_right (10 ^ l.length) h9
    omega
theorem parse_ok : ∀ (l : List UInt8) (acc : Nat), (∀ c ∈ l, isDig c = true) → (acc + 1) * 10 ^ l.length ≤ 10 ^ 18 → Lib.parseUintM (2 ^ 64 - 1) acc l = .ok (val acc l)
  | [], acc, _, _ => rfl
  | c :: l, acc, h, hb => by
    have hc := h c (by simp)
    unfold isDig at hc
    simp at hc
    rw [List.length_cons, Nat.pow_succ] at hb
    have hp : 1 ≤ 10 ^ l.length := Nat.one_le_pow _ _ (by decide)
    have hb1 : (acc + 1) * 10 * 10 ^ l.length ≤ 10 ^ 18 := by rw [Nat.mul_assoc, Nat.mul_comm 10]; exact hb
    have hb2 : (acc + 1) * 10 * 1 ≤ (acc + 1) * 10 * 10 ^ l.length := Nat.mul_le_mul_left _ hp
    have e18 : (10 : Nat) ^ 18 = 1000000000000000000 := by decide
    have e64 : (2 : Nat) ^ 64 - 1 = 18446744073709551615 := by decide
    rw [Lib.parseUintM, if_pos (by omega), if_neg (by omega), if_neg (by omega)]
    rw [parse_ok l _ (fun d hd => h d (by simp [hd])) (Nat.le_trans (Nat.mul_le_mul_right _ (by omega)) hb1)]
    rfl
theorem parseB_ok (l : List UInt8) (hne : l ≠ []) (h : ∀ c ∈ l, isDig c = true) (hl : l.length ≤ 18) : Lib.parseUintB 64 l = .ok (val 0 l) := by
  rw [Lib.parseUintB, if_neg hne]
  exact parse_ok l 0 h (by rw [Nat.zero_add, Nat.one_mul]; exact Nat.pow_le_pow_right (by decide) hl)

/-! ### trimming -/
theorem dropWhile_nil {p : UInt8 → Bool} : ∀ (l : List UInt8), l.dropWhile p = [] ↔ ∀ c ∈ l, p c = true
  | [] => by simp
  | c :: l => by
    rw [List.dropWhile_cons]
    by_cases h : p c = true
    · rw [if_pos h, dropWhile_nil l]; simp [h]
    · rw [if_neg h]; simp [h]
theorem dropWhile_head {p : UInt8 → Bool} : ∀ (l : List UInt8) (c : UInt8) (r : List UInt8), l.dropWhile p = c :: r → p c = false
  | [], _, _, h => by cases h
  | d :: l, c, r, h => by
    rw [List.dropWhile_cons] at h
    by_cases hd : p d = true
    · rw [if_pos hd] at h; exact dropWhile_head l c r h
    · rw [if_neg hd] at h; injection h with h1 _; subst h1; simpa using hd
theorem trimS_nil (l cs : List UInt8) : Lib.trimS l cs = [] ↔ ∀ c ∈ l, cs.contains c = true := by
  unfold Lib.trimS Lib.trimLeftS Lib.trimRightS
  rw [dropWhile_nil]
  constructor
  · intro h
    cases hx : l.reverse.dropWhile (cs.contains ·) with
    | nil =>
      rw [dropWhile_nil] at hx
      intro c hc; exact hx c (by simpa using hc)
    | cons c r =>
      have := dropWhile_head _ _ _ hx
      rw [hx] at h
      have := h c (by simp)
      simp_all
  · intro h c hc
    have := List.dropWhile_sublist (cs.contains ·) (l := l.reverse)
    have hm := this.mem (List.mem_reverse.1 hc)
    exact h c (List.mem_reverse.1 hm)
theorem digits_mem (c : UInt8) : [48, 49, 50, 51, 52, 53, 54, 55, 56, 57].contains c = isDig c := by
  have : ∀ n : Fin 256, ([48, 49, 50, 51, 52, 53, 54, 55, 56, 57] : List UInt8).contains (UInt8.ofNat n.val) = isDig (UInt8.ofNat n.val) := by decide +kernel
  have h := this ⟨c.toNat, c.toNat_lt⟩
  simpa using h
theorem digits_all (l : List UInt8) : (Lib.trimS l [48, 49, 50, 51, 52, 53, 54, 55, 56, 57]).isEmpty = l.all isDig := by
  rw [Bool.eq_iff_iff, List.isEmpty_iff, trimS_nil, List.all_eq_true]
  constructor
  · intro h c hc; rw [← digits_mem]; exact h c hc
  · intro h c hc; rw [digits_mem]; exact h c hc
end KText
end Go.Proofs.YtmmopcceabdecaaGreatDoor
