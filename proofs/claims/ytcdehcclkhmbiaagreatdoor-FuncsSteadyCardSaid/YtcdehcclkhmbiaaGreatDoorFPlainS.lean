/-
  The plain laws of FuncsSteady: fields of joined fields; translate to the same runes, and to none; pieces of pieces; the document's pieces. Helper lemmas; no statement of the seat is proved here.
-/
import Derived.Test.YtcdehcclkhmbiaaGreatDoorFLast
namespace Go.Proofs.YtcdehcclkhmbiaaGreatDoor
open Go.RowKit
set_option linter.unusedVariables false

theorem blankB_iff (x : Nat) : blankB x = true ↔ (x = 9 ∨ x = 10 ∨ x = 13 ∨ x = 32) := by
  unfold blankB; simp only [Bool.or_eq_true, beq_iff_eq]; omega
theorem blankB_not (x : Nat) : blankB x = false ↔ ¬ (x = 9 ∨ x = 10 ∨ x = 13 ∨ x = 32) := by
  rw [← blankB_iff]; simp
def D2 (n b0 b1 : Nat) : Prop := b0 / 32 = 6 ∧ (1 < n ∧ b1 / 64 = 2) ∧ b0 % 32 * 64 + b1 % 64 ≥ 128
def V3 (b0 b1 b2 : Nat) : Nat := b0 % 16 * 4096 + b1 % 64 * 64 + b2 % 64
def V4 (b0 b1 b2 b3 : Nat) : Nat := b0 % 8 * 262144 + b1 % 64 * 4096 + b2 % 64 * 64 + b3 % 64
def D3 (n b0 b1 b2 : Nat) : Prop := b0 / 16 = 14 ∧ (1 < n ∧ b1 / 64 = 2) ∧ (2 < n ∧ b2 / 64 = 2) ∧ V3 b0 b1 b2 ≥ 2048 ∧ (V3 b0 b1 b2 < 55296 ∨ (57344 ≤ V3 b0 b1 b2 ∧ V3 b0 b1 b2 ≤ 1114111))
def D4 (n b0 b1 b2 b3 : Nat) : Prop := b0 / 8 = 30 ∧ (1 < n ∧ b1 / 64 = 2) ∧ (2 < n ∧ b2 / 64 = 2) ∧ (3 < n ∧ b3 / 64 = 2) ∧ V4 b0 b1 b2 b3 ≥ 65536 ∧ (V4 b0 b1 b2 b3 < 55296 ∨ (57344 ≤ V4 b0 b1 b2 b3 ∧ V4 b0 b1 b2 b3 ≤ 1114111))
/-- The five ways of a decoding. -/
theorem decN_ways (n b0 b1 b2 b3 : Nat) :
    (Lib.decodeN n b0 b1 b2 b3 = (b0, 1) ∧ b0 < 128) ∨
    (Lib.decodeN n b0 b1 b2 b3 = (b0 % 32 * 64 + b1 % 64, 2) ∧ D2 n b0 b1) ∨
    (Lib.decodeN n b0 b1 b2 b3 = (V3 b0 b1 b2, 3) ∧ D3 n b0 b1 b2) ∨
    (Lib.decodeN n b0 b1 b2 b3 = (V4 b0 b1 b2 b3, 4) ∧ D4 n b0 b1 b2 b3) ∨
    (Lib.decodeN n b0 b1 b2 b3 = (65533, 1) ∧ ¬ b0 < 128 ∧ ¬ D2 n b0 b1 ∧ ¬ D3 n b0 b1 b2 ∧ ¬ D4 n b0 b1 b2 b3) := by
  unfold D2 D3 D4 V3 V4
  by_cases h1 : b0 < 128
  · exact Or.inl ⟨by unfold Lib.decodeN; rw [if_pos h1], h1⟩
  · refine Or.inr ?_
    by_cases h2 : b0 / 32 = 6 ∧ (1 < n ∧ b1 / 64 = 2)
    · by_cases g2 : b0 % 32 * 64 + b1 % 64 ≥ 128
      · exact Or.inl ⟨by unfold Lib.decodeN; rw [if_neg h1, if_pos h2, if_pos g2], h2.1, h2.2, g2⟩
      · exact Or.inr (Or.inr (Or.inr ⟨by unfold Lib.decodeN; rw [if_neg h1, if_pos h2, if_neg g2], h1, fun k => g2 k.2.2, fun k => by omega, fun k => by omega⟩))
    · refine Or.inr ?_
      by_cases h3 : b0 / 16 = 14 ∧ (1 < n ∧ b1 / 64 = 2) ∧ (2 < n ∧ b2 / 64 = 2)
      · by_cases g3 : b0 % 16 * 4096 + b1 % 64 * 64 + b2 % 64 ≥ 2048 ∧ (b0 % 16 * 4096 + b1 % 64 * 64 + b2 % 64 < 55296 ∨ (57344 ≤ b0 % 16 * 4096 + b1 % 64 * 64 + b2 % 64 ∧ b0 % 16 * 4096 + b1 % 64 * 64 + b2 % 64 ≤ 1114111))
        · exact Or.inl ⟨by unfold Lib.decodeN; rw [if_neg h1, if_neg h2, if_pos h3, if_pos g3], h3.1, h3.2.1, h3.2.2, g3⟩
        · exact Or.inr (Or.inr ⟨by unfold Lib.decodeN; rw [if_neg h1, if_neg h2, if_pos h3, if_neg g3], h1, fun k => h2 ⟨k.1, k.2.1⟩, fun k => g3 k.2.2.2, fun k => by omega⟩)
      · refine Or.inr ?_
        by_cases h4 : b0 / 8 = 30 ∧ (1 < n ∧ b1 / 64 = 2) ∧ (2 < n ∧ b2 / 64 = 2) ∧ (3 < n ∧ b3 / 64 = 2)
        · by_cases g4 : b0 % 8 * 262144 + b1 % 64 * 4096 + b2 % 64 * 64 + b3 % 64 ≥ 65536 ∧ (b0 % 8 * 262144 + b1 % 64 * 4096 + b2 % 64 * 64 + b3 % 64 < 55296 ∨ (57344 ≤ b0 % 8 * 262144 + b1 % 64 * 4096 + b2 % 64 * 64 + b3 % 64 ∧ b0 % 8 * 262144 + b1 % 64 * 4096 + b2 % 64 * 64 + b3 % 64 ≤ 1114111))
          · exact Or.inl ⟨by unfold Lib.decodeN; rw [if_neg h1, if_neg h2, if_neg h3, if_pos h4, if_pos g4], h4.1, h4.2.1, h4.2.2.1, h4.2.2.2, g4⟩
          · exact Or.inr ⟨by unfold Lib.decodeN; rw [if_neg h1, if_neg h2, if_neg h3, if_pos h4, if_neg g4], h1, fun k => h2 ⟨k.1, k.2.1⟩, fun k => h3 ⟨k.1, k.2.1, k.2.2.1⟩, fun k => g4 k.2.2.2.2⟩
        · exact Or.inr ⟨by unfold Lib.decodeN; rw [if_neg h1, if_neg h2, if_neg h3, if_neg h4], h1, fun k => h2 ⟨k.1, k.2.1⟩, fun k => h3 ⟨k.1, k.2.1, k.2.2.1⟩, fun k => h4 ⟨k.1, k.2.1, k.2.2.1, k.2.2.2.1⟩⟩
theorem decN_blank (n b0 b1 b2 b3 : Nat) (h : blankB (Lib.decodeN n b0 b1 b2 b3).1 = true) : (Lib.decodeN n b0 b1 b2 b3).2 = 1 ∧ blankB b0 = true := by
  rcases decN_ways n b0 b1 b2 b3 with ⟨e, k⟩ | ⟨e, k⟩ | ⟨e, k⟩ | ⟨e, k⟩ | ⟨e, k⟩ <;> rw [e] at h ⊢ <;> simp only [blankB_iff] at *
  · exact ⟨trivial, h⟩
  · have := k.2.2; omega
  · have := k.2.2.2.1; omega
  · have := k.2.2.2.2.1; omega
  · omega
theorem decN_not (n b0 b1 b2 b3 : Nat) (h : blankB (Lib.decodeN n b0 b1 b2 b3).1 = false) : blankB b0 = false ∧ (1 < (Lib.decodeN n b0 b1 b2 b3).2 → blankB b1 = false) ∧ (2 < (Lib.decodeN n b0 b1 b2 b3).2 → blankB b2 = false) ∧ (3 < (Lib.decodeN n b0 b1 b2 b3).2 → blankB b3 = false) := by
  rcases decN_ways n b0 b1 b2 b3 with ⟨e, k⟩ | ⟨e, k⟩ | ⟨e, k⟩ | ⟨e, k⟩ | ⟨e, k⟩ <;> rw [e] at h ⊢ <;> simp only [blankB_not] at *
  · exact ⟨h, by omega, by omega, by omega⟩
  · have := k.1; have := k.2.1.2; omega
  · have := k.1; have := k.2.1.2; have := k.2.2.1.2; omega
  · have := k.1; have := k.2.1.2; have := k.2.2.1.2; have := k.2.2.2.1.2; omega
  · have := k.1; omega

/-- The fields of bytes, one by one; the open one. -/
def fB : Option (List UInt8) → List UInt8 → List (List UInt8)
  | cur, [] => cur.toList
  | cur, c :: r => if blankB c.toNat = true then cur.toList ++ fB none r else fB (some (cur.getD [] ++ [c])) r
theorem fB_skip : ∀ (q rest : List UInt8) (cur : Option (List UInt8)), q ≠ [] → (∀ c ∈ q, blankB c.toNat = false) → fB cur (q ++ rest) = fB (some (cur.getD [] ++ q)) rest
  | [], _, _, h, _ => absurd rfl h
  | [c], rest, cur, _, h => by
    have hc := h c (by simp)
    simp [fB, hc]
  | c :: d :: q, rest, cur, _, h => by
    have hc := h c (by simp)
    rw [List.cons_append, fB, hc, if_neg (by decide), fB_skip (d :: q) rest _ (by simp) (fun x hx => h x (List.mem_cons_of_mem _ hx))]
    simp
def segL (l : List UInt8) (a b : Nat) : List UInt8 := (l.drop a).take (b - a)
theorem seg_ext (s : ByteArray) (a b : Nat) : (s.extract a b).data.toList = segL s.data.toList a b := by
  unfold segL; simp [ByteArray.data_extract]
theorem seg_add (l : List UInt8) (a p k : Nat) (h : a ≤ p) : segL l a p ++ (l.drop p).take k = segL l a (p + k) := by
  unfold segL
  rw [show p + k - a = (p - a) + k by omega, List.take_add, List.drop_drop, show a + (p - a) = p by omega]
theorem getB (s : ByteArray) (i : Nat) : s.get! i = s.data.toList.getD i 0 := by
  have h := get_bs s.data.toList i
  rw [← str_ext] at h; exact h
theorem dec_seg (s : ByteArray) (pos : Nat) (h : pos < s.size) :
    (blankB (Utf8.decode s pos).1 = true → (Utf8.decode s pos).2 = 1 ∧ ∃ c, blankB c.toNat = true ∧ s.data.toList.drop pos = c :: s.data.toList.drop (pos + 1)) ∧
    (blankB (Utf8.decode s pos).1 = false → 1 ≤ (Utf8.decode s pos).2 ∧ pos + (Utf8.decode s pos).2 ≤ s.size ∧ ∀ c ∈ (s.data.toList.drop pos).take (Utf8.decode s pos).2, blankB c.toNat = false) := by
  have hs : s.data.toList.length = s.size := Array.length_toList
  rw [Lib.decode_at]
  have hle := Pc.dec_le (s.size - pos) (s.get! pos).toNat (s.get! (pos + 1)).toNat (s.get! (pos + 2)).toNat (s.get! (pos + 3)).toNat (by omega)
  refine ⟨fun hb => ?_, fun hb => ?_⟩
  · have := decN_blank _ _ _ _ _ hb
    refine ⟨this.1, s.data.toList[pos]'(by omega), ?_, List.drop_eq_getElem_cons (by omega)⟩
    have e : s.get! pos = s.data.toList[pos]'(by omega) := by rw [getB, List.getD_eq_getElem?_getD, List.getElem?_eq_getElem (by omega)]; rfl
    rw [← e]; exact this.2
  · have hn := decN_not _ _ _ _ _ hb
    refine ⟨hle.1, by omega, fun c hc => ?_⟩
    obtain ⟨j, hj, rfl⟩ := List.mem_iff_getElem.1 hc
    simp only [List.length_take, List.length_drop] at hj
    rw [List.getElem_take, List.getElem_drop]
    have e : ∀ i (hi : i < s.data.toList.length), s.data.toList[i] = s.get! i := fun i hi => by rw [getB, List.getD_eq_getElem?_getD, List.getElem?_eq_getElem hi]; rfl
    rw [e _ (by omega)]
    obtain ⟨n0, n1, n2, n3⟩ := hn
    have hk := hle.2.2
    match j, hj with
    | 0, _ => exact n0
    | 1, hj => exact n1 (by omega)
    | 2, hj => exact n2 (by omega)
    | 3, hj => exact n3 (by omega)
    | j + 4, hj => omega
theorem spans_fB (s : ByteArray) : ∀ (f pos : Nat) (st : Option Nat) (acc : List (Nat × Nat)), s.size - pos ≤ f → pos ≤ s.size → (∀ a, st = some a → a ≤ pos) →
    (Lib.closeSpans s (Lib.spansFromP blankB s f pos st acc)).map (fun x => segL s.data.toList x.1 x.2) = acc.map (fun x => segL s.data.toList x.1 x.2) ++ fB (st.map fun a => segL s.data.toList a pos) (s.data.toList.drop pos)
  | f, pos, st, acc, hf, hp, hst => by
    have hs : s.data.toList.length = s.size := Array.length_toList
    by_cases hlt : pos < s.size
    · obtain ⟨f, rfl⟩ : ∃ g, f = g + 1 := ⟨f - 1, by omega⟩
      unfold Lib.spansFromP
      rw [if_pos hlt]
      obtain ⟨hy, hn⟩ := dec_seg s pos hlt
      cases hb : blankB (Utf8.decode s pos).1 with
      | true =>
        obtain ⟨e1, c, hc, ed⟩ := hy hb
        rw [if_pos rfl, e1, ed]
        cases st with
        | none =>
          show (Lib.closeSpans s (Lib.spansFromP blankB s f (pos + 1) none acc)).map _ = _
          rw [spans_fB s f (pos + 1) none acc (by omega) (by omega) (fun a h => by cases h)]
          simp [fB, hc]
        | some a =>
          show (Lib.closeSpans s (Lib.spansFromP blankB s f (pos + 1) none (acc ++ [(a, pos)]))).map _ = _
          rw [spans_fB s f (pos + 1) none _ (by omega) (by omega) (fun a h => by cases h)]
          simp [fB, hc]
      | false =>
        obtain ⟨k1, k2, k3⟩ := hn hb
        generalize (Utf8.decode s pos).2 = k at *
        rw [if_neg (by decide)]
        have ed : s.data.toList.drop pos = (s.data.toList.drop pos).take k ++ s.data.toList.drop (pos + k) := by
          rw [← List.drop_drop, List.take_append_drop]
        have hne : (s.data.toList.drop pos).take k ≠ [] := by
          intro h0
          have := congrArg List.length h0
          rw [List.length_take, List.length_drop, List.length_nil] at this; omega
        have hsk := fun cur => fB_skip ((s.data.toList.drop pos).take k) (s.data.toList.drop (pos + k)) cur hne k3
        rw [← ed] at hsk
        rw [hsk]
        cases st with
        | none =>
          show (Lib.closeSpans s (Lib.spansFromP blankB s f (pos + k) (some pos) acc)).map _ = _
          rw [spans_fB s f (pos + k) (some pos) acc (by omega) (by omega) (fun a h => by cases h; omega)]
          have e : segL s.data.toList pos (pos + k) = (s.data.toList.drop pos).take k := by unfold segL; rw [show pos + k - pos = k by omega]
          simp [e]
        | some a =>
          show (Lib.closeSpans s (Lib.spansFromP blankB s f (pos + k) (some a) acc)).map _ = _
          have ha := hst a rfl
          rw [spans_fB s f (pos + k) (some a) acc (by omega) (by omega) (fun b h => by cases h; omega)]
          have e := seg_add s.data.toList a pos k ha
          simp [e]
    · have hp2 : pos = s.size := by omega
      rw [Lib.spansFromP_end _ _ _ _ _ _ hlt, List.drop_of_length_le (by omega)]
      cases st with
      | none => simp [Lib.closeSpans, fB]
      | some a => simp [Lib.closeSpans, fB, hp2]
  termination_by f => f
theorem fields_fB (m : List UInt8) : ((Lib.goFieldsP blankB (bs m)).map (·.data.toList)) = fB none m := by
  unfold Lib.goFieldsP Lib.spansOfP
  rw [List.map_map]
  have h := spans_fB (bs m) (bs m).size 0 none [] (by omega) (Nat.zero_le _) (fun a h => by cases h)
  simp only [List.map_nil, List.nil_append, Option.map_none, List.drop_zero] at h
  have e : (bs m).data.toList = m := rfl
  rw [e] at h
  rw [← h]
  exact List.map_congr_left fun x _ => seg_ext (bs m) x.1 x.2
theorem fB_ok : ∀ (l : List UInt8) (cur : Option (List UInt8)), (∀ q, cur = some q → q ≠ [] ∧ ∀ c ∈ q, blankB c.toNat = false) → ∀ q ∈ fB cur l, q ≠ [] ∧ ∀ c ∈ q, blankB c.toNat = false
  | [], cur, h, q, hq => by
    cases cur with
    | none => simp [fB] at hq
    | some p => simp [fB] at hq; subst hq; exact h _ rfl
  | c :: r, cur, h, q, hq => by
    unfold fB at hq
    split at hq
    · rcases List.mem_append.1 hq with h1 | h1
      · cases cur with
        | none => simp at h1
        | some p => simp at h1; subst h1; exact h _ rfl
      · exact fB_ok r none (fun _ e => by cases e) q h1
    · rename_i hc
      refine fB_ok r _ (fun p e => ?_) q hq
      cases e
      refine ⟨by simp, fun x hx => ?_⟩
      rcases List.mem_append.1 hx with h1 | h1
      · cases cur with
        | none => simp at h1
        | some p => exact (h p rfl).2 x (by simpa using h1)
      · simp at h1; subst h1; simpa using hc
theorem join_two (x y : List UInt8) (r : List (List UInt8)) (sep : List UInt8) : Lib.join (x :: y :: r) sep = x ++ sep ++ Lib.join (y :: r) sep := by
  simp [Lib.join, List.intercalate, List.intersperse]
theorem join_one (x sep : List UInt8) : Lib.join [x] sep = x := by simp [Lib.join, List.intercalate, List.intersperse]
theorem join_nil (sep : List UInt8) : Lib.join [] sep = [] := by simp [Lib.join, List.intercalate, List.intersperse]
theorem fB_join : ∀ (F : List (List UInt8)), (∀ q ∈ F, q ≠ [] ∧ ∀ c ∈ q, blankB c.toNat = false) → fB none (Lib.join F [32]) = F
  | [], _ => by rw [join_nil]; rfl
  | [x], h => by
    obtain ⟨h1, h2⟩ := h x (by simp)
    rw [join_one]
    have := fB_skip x [] none h1 h2
    rw [List.append_nil] at this
    rw [this]; simp [fB]
  | x :: y :: r, h => by
    obtain ⟨h1, h2⟩ := h x (by simp)
    rw [join_two, List.append_assoc, fB_skip x _ none h1 h2]
    show fB (some ([] ++ x)) (32 :: Lib.join (y :: r) [32]) = _
    rw [fB, if_pos (by decide), fB_join (y :: r) (fun q hq => h q (List.mem_cons_of_mem _ hq))]
    simp
theorem spaces_eq (m : List UInt8) : spacesL (bs m) = Lib.join (fB none m) [32] := by unfold spacesL; rw [fields_fB]
theorem spaces_again (m : List UInt8) : spacesL (bs (spacesL (bs m))) = spacesL (bs m) := by
  rw [spaces_eq (spacesL (bs m)), spaces_eq m, fB_join _ (fB_ok m none (fun _ e => by cases e))]
theorem fB_len : ∀ (l : List UInt8) (cur : Option (List UInt8)), (fB cur l).length ≤ l.length + 1 ∧ (fB cur l).flatten.length ≤ l.length + (cur.getD []).length
  | [], cur => by cases cur <;> simp [fB]
  | c :: r, cur => by
    unfold fB
    split
    · have := fB_len r none
      cases cur <;> simp at * <;> omega
    · have := fB_len r (some (cur.getD [] ++ [c]))
      simp at *; omega
theorem join_len (sep : List UInt8) (hs : sep.length = 1) : ∀ F : List (List UInt8), (Lib.join F sep).length ≤ F.flatten.length + F.length
  | [] => by rw [join_nil]; simp
  | [x] => by rw [join_one]; simp
  | x :: y :: r => by
    have := join_len sep hs (y :: r)
    rw [join_two]
    simp at *; omega
theorem spaces_len (m : List UInt8) : (spacesL (bs m)).length ≤ 2 * m.length + 1 ∧ (Lib.goFieldsP blankB (bs m)).length ≤ m.length + 1 := by
  have h := fB_len m none
  have hj := join_len [32] rfl (fB none m)
  have hf := congrArg List.length (fields_fB m)
  rw [List.length_map] at hf
  rw [spaces_eq]
  have h1 := h.1
  have h2 : (fB none m).flatten.length ≤ m.length := h.2
  omega

theorem idx_spec (x : ByteArray) : ∀ (zs : List ByteArray) (i : Nat), (Lib.idxFromS zs x i < 0 ∧ x ∉ zs) ∨ (∃ j, Lib.idxFromS zs x i = ((i + j : Nat) : Int) ∧ zs[j]? = some x)
  | [], i => Or.inl ⟨by unfold Lib.idxFromS; omega, by simp⟩
  | z :: zs, i => by
    unfold Lib.idxFromS
    by_cases h : z = x
    · rw [if_pos h]; exact Or.inr ⟨0, by simp, by simp [h]⟩
    · rw [if_neg h]
      rcases idx_spec x zs (i + 1) with ⟨h1, h2⟩ | ⟨j, h1, h2⟩
      · exact Or.inl ⟨h1, by simp [h2]; exact fun e => h e.symm⟩
      · exact Or.inr ⟨j + 1, by rw [h1]; congr 1; omega, by simpa using h2⟩
theorem bs_inj {a b : List UInt8} (h : bs a = bs b) : a = b := by
  have := congrArg (fun s : ByteArray => s.data.toList) h
  exact this
theorem idxA_spec (A : List (List UInt8)) (p : List UInt8) : (idxA A p < 0 ∧ p ∉ A) ∨ (¬ idxA A p < 0 ∧ A[(idxA A p).toNat]? = some p) := by
  unfold idxA Lib.idxOfS
  rcases idx_spec (bs p) (A.map bs) 0 with ⟨h1, h2⟩ | ⟨j, h1, h2⟩
  · exact Or.inl ⟨h1, fun hm => h2 (List.mem_map_of_mem hm)⟩
  · refine Or.inr ⟨by omega, ?_⟩
    rw [h1, Int.toNat_natCast, Nat.zero_add]
    rw [List.getElem?_map] at h2
    cases hA : A[j]? with
    | none => rw [hA] at h2; cases h2
    | some q =>
      rw [hA] at h2
      rw [bs_inj (Option.some.inj h2)]
theorem trOne_self (A : List (List UInt8)) (p : List UInt8) : trOne A A p = p := by
  unfold trOne
  rcases idxA_spec A p with ⟨h1, _⟩ | ⟨h1, h2⟩
  · rw [if_pos h1]
  · rw [if_neg h1, List.getD_eq_getElem?_getD, h2]; rfl
theorem trL_self (Z A : List (List UInt8)) : trL Z A A = Z.flatten := by
  unfold trL
  rw [show Z.map (trOne A A) = Z from by rw [show trOne A A = id from funext fun p => trOne_self A p]; simp]
theorem trOne_none (A : List (List UInt8)) (p : List UInt8) : trOne A [] p = if p ∈ A then [] else p := by
  unfold trOne
  rcases idxA_spec A p with ⟨h1, h2⟩ | ⟨h1, h2⟩
  · rw [if_pos h1, if_neg h2]
  · rw [if_neg h1, if_pos (List.mem_of_getElem? h2)]; rfl
theorem trL_none (Z A : List (List UInt8)) : trL Z A [] = (Z.filter fun p => decide (p ∉ A)).flatten := by
  unfold trL
  induction Z with
  | nil => rfl
  | cons p Z ih =>
    rw [List.map_cons, List.flatten_cons, ih, trOne_none, List.filter_cons]
    by_cases h : p ∈ A <;> simp [h]
/-- Is a piece a whole rune, or a byte of its own? -/
def wholeP (p : List UInt8) : Bool := decide (1 < p.length) || decide ((p.getD 0 0).toNat < 128)
theorem gb_app (p r : List UInt8) (k : Nat) (h : k < p.length) : Pc.gb (p ++ r) k = Pc.gb p k := by
  unfold Pc.gb
  rw [List.getD_eq_getElem?_getD, List.getD_eq_getElem?_getD, List.getElem?_append_left h]
theorem szU_app (m r : List UInt8) (hm : m ≠ []) (hw : wholeP (m.take (Pc.szU m)) = true) : Pc.szU (m.take (Pc.szU m) ++ r) = Pc.szU m := by
  obtain ⟨s1, s2, s3⟩ := Pc.szU_le m hm
  obtain ⟨K, hK⟩ : ∃ K, Pc.szU m = K := ⟨_, rfl⟩
  rw [hK] at hw s1 s2 s3 ⊢
  have hlen : (m.take K).length = K := by rw [List.length_take]; omega
  have hg : ∀ k, k < K → Pc.gb (m.take K ++ r) k = Pc.gb m k := fun k hk => by
    rw [gb_app _ _ _ (by omega), Pc.gb_take _ _ _ hk]
  have hlen2 : (m.take K ++ r).length = K + r.length := by rw [List.length_append, hlen]
  have hw2 : 1 < K ∨ Pc.gb m 0 < 128 := by
    unfold wholeP at hw
    rw [hlen] at hw
    simp only [Bool.or_eq_true, decide_eq_true_eq] at hw
    rcases hw with h | h
    · exact Or.inl h
    · refine Or.inr ?_
      have := Pc.gb_take m K 0 (by omega)
      rw [← this]; exact h
  obtain ⟨q, hq⟩ : ∃ q, m.take K ++ r = q := ⟨_, rfl⟩
  rw [hq] at hg hlen2 ⊢
  clear hq hw hlen
  unfold Pc.szU at hK ⊢
  rcases decN_ways m.length (Pc.gb m 0) (Pc.gb m 1) (Pc.gb m 2) (Pc.gb m 3) with ⟨e, k⟩ | ⟨e, k⟩ | ⟨e, k⟩ | ⟨e, k⟩ | ⟨e, k⟩ <;> rw [e] at hK <;> simp only at hK <;> subst hK
  · rw [hg 0 (by omega)]; unfold Lib.decodeN; rw [if_pos k]
  · rw [hg 0 (by omega), hg 1 (by omega)]
    rcases decN_ways q.length (Pc.gb m 0) (Pc.gb m 1) (Pc.gb q 2) (Pc.gb q 3) with ⟨f, j⟩ | ⟨f, j⟩ | ⟨f, j⟩ | ⟨f, j⟩ | ⟨f, j⟩ <;> rw [f] <;> simp only [D2, D3, D4] at k j ⊢ <;> omega
  · rw [hg 0 (by omega), hg 1 (by omega), hg 2 (by omega)]
    rcases decN_ways q.length (Pc.gb m 0) (Pc.gb m 1) (Pc.gb m 2) (Pc.gb q 3) with ⟨f, j⟩ | ⟨f, j⟩ | ⟨f, j⟩ | ⟨f, j⟩ | ⟨f, j⟩ <;> rw [f] <;> simp only [D2, D3, D4] at k j ⊢ <;> omega
  · rw [hg 0 (by omega), hg 1 (by omega), hg 2 (by omega), hg 3 (by omega)]
    rcases decN_ways q.length (Pc.gb m 0) (Pc.gb m 1) (Pc.gb m 2) (Pc.gb m 3) with ⟨f, j⟩ | ⟨f, j⟩ | ⟨f, j⟩ | ⟨f, j⟩ | ⟨f, j⟩ <;> rw [f] <;> simp only [D2, D3, D4] at k j ⊢ <;> omega
  · omega
/-- A piece of some text. -/
def Piece (p : List UInt8) : Prop := ∃ m, m ≠ [] ∧ p = m.take (Pc.szU m)
theorem pieces_piece : ∀ l : List UInt8, ∀ p ∈ Pc.pieces l, Piece p := by
  refine Pc.pieces_ind (fun p hp => by rw [Pc.pieces_nil] at hp; cases hp) (fun l hl ih p hp => ?_)
  rw [Pc.pieces_cons l hl] at hp
  rcases List.mem_cons.1 hp with rfl | h
  · exact ⟨l, hl, rfl⟩
  · exact ih p h
theorem pieces_flat : ∀ L : List (List UInt8), (∀ p ∈ L, Piece p ∧ wholeP p = true) → Pc.pieces L.flatten = L
  | [], _ => rfl
  | p :: L, h => by
    obtain ⟨⟨m, hm, rfl⟩, hw⟩ := h p (by simp)
    have hs := szU_app m L.flatten hm hw
    have h1 := Pc.szU_le m hm
    have hlen : (m.take (Pc.szU m)).length = Pc.szU m := by rw [List.length_take]; omega
    rw [List.flatten_cons, Pc.pieces_cons _ (by intro e; have := congrArg List.length e; rw [List.length_append, List.length_nil] at this; omega), hs]
    rw [List.take_append_of_le_length (by omega), List.take_of_length_le (by omega), List.drop_append_of_le_length (by omega), List.drop_eq_nil_of_le (by omega), List.nil_append]
    rw [pieces_flat L (fun q hq => h q (List.mem_cons_of_mem _ hq))]
/-- Translated to none, none of the runes is left. -/
theorem none_left (s a : List UInt8) (h : ∀ p ∈ Pc.pieces s, wholeP p = true) : ∀ p ∈ Pc.pieces (trL (Pc.pieces s) (Pc.pieces a) []), p ∉ Pc.pieces a := by
  rw [trL_none, pieces_flat _ (fun p hp => by
    have := (List.mem_filter.1 hp).1
    exact ⟨pieces_piece s p this, h p this⟩)]
  intro p hp
  exact of_decide_eq_true (List.mem_filter.1 hp).2
end Go.Proofs.YtcdehcclkhmbiaaGreatDoor
