/-
 ivset.Add at a version that is greater than all; plain laws. Helper lemmas; no statement of the seat is proved here.
-/
import Derived.Test.YtkelpbbekeelcaaGreatDoorU20
import Derived.Test.YtkelpbbekeelcaaGreatDoorU18
import Derived.Test.YtkelpbbekeelcaaGreatDoorU17
import Derived.Deep.WholeRow
import Derived.Test.YtkelpbbekeelcaaGreatDoorU4
import Derived.Test.YtkelpbbekeelcaaGreatDoorU19
namespace Go.Proofs.YtkelpbbekeelcaaGreatDoor
open Go.RowKit
set_option maxHeartbeats 32000000
set_option maxRecDepth 100000
set_option linter.unusedVariables false
set_option linter.unusedSimpArgs false
theorem mayG_head : ∀ (l : List Span) (lo : Int), mayG lo l → ∀ t ∈ l, lo ≤ t.a ∧ t.a ≤ t.b ∧ t.b ≤ 200
 | [], _, _, t, ht => by cases ht
 | s :: r, lo, ⟨h1, h2, h3, h4⟩, t, ht => by
  rcases List.mem_cons.1 ht with e | ht
  ·
   rw [e]; exact ⟨h1, h2, h3⟩
  ·
   have := mayG_head r _ h4 t ht
   exact ⟨by omega, this.2⟩
theorem inS_mem {l : List Span} {t : Span} (h : t ∈ l) {v : Int} (h1 : t.a ≤ v) (h2 : v ≤ t.b) : inS l v = true := List.any_eq_true.2 ⟨t, h, decide_eq_true ⟨h1, h2⟩⟩
theorem mayG_uniq : ∀ (a b : List Span) (lo : Int), mayG lo a → mayG lo b → (∀ v, inS a v = inS b v) → a = b
 | [], [], _, _, _, _ => rfl
 | [], t :: y, _, _, hb, h => by
  have := h t.a
  rw [inS_mem List.mem_cons_self (Int.le_refl _) hb.2.1] at this
  cases this
 | s :: x, [], _, ha, _, h => by
  have := h s.a
  rw [inS_mem List.mem_cons_self (Int.le_refl _) ha.2.1] at this
  cases this
 | s :: x, t :: y, lo, ha, hb, h => by
  obtain ⟨a1, a2, a3, a4⟩ := ha
  obtain ⟨b1, b2, b3, b4⟩ := hb
  have e1 : ∀ v, inS (s :: x) v = (decide (s.a ≤ v ∧ v ≤ s.b) || inS x v) := fun v => by rw [inS, List.any_cons]; rfl
  have e2 : ∀ v, inS (t :: y) v = (decide (t.a ≤ v ∧ v ≤ t.b) || inS y v) := fun v => by rw [inS, List.any_cons]; rfl
  have o1 : ∀ v, v < s.b + 2 → inS x v = false := fun v hv => inS_out x _ a4 v (.inl hv)
  have o2 : ∀ v, v < t.b + 2 → inS y v = false := fun v hv => inS_out y _ b4 v (.inl hv)
  have hh : ∀ v, v < s.b + 2 → v < t.b + 2 → ((s.a ≤ v ∧ v ≤ s.b) ↔ (t.a ≤ v ∧ v ≤ t.b)) := fun v h1 h2 => by
   have := h v
   rw [e1, e2, o1 v h1, o2 v h2, Bool.or_false, Bool.or_false] at this
   rw [← decide_eq_true_iff (p := s.a ≤ v ∧ v ≤ s.b), this, decide_eq_true_iff]
  have hab : s.a = t.a := by
   by_cases c : s.a ≤ t.a
   ·
    have h1 := hh s.a (by omega) (by omega)
    omega
   ·
    have h1 := hh t.a (by omega) (by omega)
    omega
  have hbb : s.b = t.b := by
   by_cases c : s.b ≤ t.b
   ·
    by_cases d : s.b = t.b
    ·
     exact d
    ·
     have h1 := hh (s.b + 1) (by omega) (by omega)
     omega
   ·
    have h1 := hh (t.b + 1) (by omega) (by omega)
    omega
  have hst : s = t := by cases s; cases t; simp_all
  subst hst
  rw [mayG_uniq x y _ a4 b4 fun v => by
   by_cases c : v < s.b + 2
   ·
    rw [o1 v c, o2 v c]
   ·
    have := h v
    rw [e1, e2, decide_eq_false (by omega), Bool.false_or, Bool.false_or] at this
    exact this]
theorem putS_may (v : Int) (h200 : v ≤ 200) : ∀ (l : List Span) (lo : Int), mayG lo l → (∀ t ∈ l, t.b < v) → lo ≤ v → mayG lo (putS l ⟨v, v⟩) ∧ ∀ u, inS (putS l ⟨v, v⟩) u = (inS l u || decide (u = v))
 | [], lo, _, _, h => ⟨⟨h, Int.le_refl _, h200, trivial⟩, fun u => by
   rw [putS, inS, List.any_cons, List.any_nil, Bool.or_false, inS_nil, Bool.false_or, Bool.eq_iff_iff, decide_eq_true_iff, decide_eq_true_iff]
   simp only; omega⟩
 | [t], lo, ⟨h1, h2, h3, _⟩, hl, h => by
  have ht := hl t (by simp)
  rw [putS]
  by_cases c : v ≤ t.b + 1
  ·
   rw [if_pos c]
   refine ⟨⟨h1, ?_, ?_, trivial⟩, fun u => ?_⟩
   ·
    simp only; rw [if_pos ht]; omega
   ·
    simp only; rw [if_pos ht]; omega
   ·
    simp only
    rw [if_pos ht, inS, List.any_cons, List.any_nil, Bool.or_false, inS, List.any_cons, List.any_nil, Bool.or_false, Bool.eq_iff_iff, Bool.or_eq_true, decide_eq_true_iff, decide_eq_true_iff, decide_eq_true_iff]
    simp only; omega
  ·
   rw [if_neg c]
   refine ⟨⟨h1, h2, h3, by simp only; omega, Int.le_refl _, h200, trivial⟩, fun u => ?_⟩
   rw [inS, List.any_cons, List.any_cons, List.any_nil, Bool.or_false, inS, List.any_cons, List.any_nil, Bool.or_false, Bool.eq_iff_iff, Bool.or_eq_true, Bool.or_eq_true, decide_eq_true_iff, decide_eq_true_iff, decide_eq_true_iff]
   simp only; omega
 | t :: x :: r, lo, ⟨h1, h2, h3, h4⟩, hl, h => by
  have hx := hl x (by simp)
  have h5 := h4
  obtain ⟨g1, g2, _, _⟩ := h5
  obtain ⟨i1, i2⟩ := putS_may v h200 (x :: r) (t.b + 2) h4 (fun t ht => hl t (List.mem_cons_of_mem _ ht)) (by omega)
  rw [putS]
  refine ⟨⟨h1, h2, h3, i1⟩, fun u => ?_⟩
  have e1 : ∀ z : List Span, inS (t :: z) u = (decide (t.a ≤ u ∧ u ≤ t.b) || inS z u) := fun z => by rw [inS, List.any_cons]; rfl
  rw [e1, e1, i2 u, Bool.or_assoc]
theorem may_gap : ∀ (i : List Span) (t s : Span) (r : List Span) (lo : Int), mayG lo (i ++ t :: s :: r) → t.b + 2 ≤ s.a
 | [], t, s, r, lo, h => h.2.2.2.1
 | u :: i, t, s, r, lo, h => may_gap i t s r _ h.2.2.2
theorem putF_may (lo : Int) : ∀ (r acc : List Span), mayG lo (acc ++ r) → r.foldl putS acc = acc ++ r
 | [], acc, _ => by simp
 | s :: r, acc, h => by
  have e : putS acc s = acc ++ [s] := by
   rcases List.eq_nil_or_concat acc with e | ⟨i, t, e⟩
   ·
    rw [e]; rfl
   ·
    rw [List.concat_eq_append] at e
    subst e
    rw [List.append_assoc, List.singleton_append] at h
    have := may_gap i t s r lo h
    rw [putS_snoc, if_neg (by omega), List.append_assoc]; rfl
  rw [List.foldl_cons, e, putF_may lo r (acc ++ [s]) (by simpa using h)]
  simp
theorem may_count (v : Int) : ∀ (l : List Span) (lo : Int), mayG lo l → (∀ t ∈ l, t.b < v) → lo ≤ v + 1 → 2 * (l.length : Int) ≤ v - lo + 1
 | [], lo, _, _, h => by simp; omega
 | s :: r, lo, ⟨h1, h2, h3, h4⟩, hl, _ => by
  have hs := hl s (by simp)
  have := may_count v r (s.b + 2) h4 (fun t ht => hl t (List.mem_cons_of_mem _ ht)) (by omega)
  simp only [List.length_cons, Int.natCast_add]
  omega
theorem flOf_lt {L : List Int} {v : Int} (hL : ∀ u ∈ L, u < v) : ∀ t ∈ spansOf (flOf L), t.b < v := fun t ht => by
 have h1 := mayG_head _ _ (spansOf_may (flOf L)) t ht
 have h2 := inS_mem ht (v := t.b) h1.2.1 (Int.le_refl _)
 rw [inS_of, Bool.and_eq_true, decide_eq_true_iff] at h2
 have h3 := (flOf_mem L t.b.toNat).1 h2.2
 rw [Int.toNat_of_nonneg (by omega)] at h3
 exact hL _ h3.2.2
theorem add_law (L : List Int) (v : Int) (hL : ∀ u ∈ L, u < v) (h1 : 1 ≤ v) (h2 : v ≤ 200) : putS (spansOf (flOf L)) ⟨v, v⟩ = spansOf (flOf (L ++ [v])) := by
 obtain ⟨i1, i2⟩ := putS_may v h2 (spansOf (flOf L)) 1 (spansOf_may _) (flOf_lt hL) h1
 refine mayG_uniq _ _ 1 i1 (spansOf_may _) fun u => ?_
 rw [i2 u, inS_of, inS_of]
 by_cases hu : 1 ≤ u ∧ u ≤ 200
 ·
  rw [decide_eq_true hu, Bool.true_and, Bool.true_and, Bool.eq_iff_iff, Bool.or_eq_true, flOf_mem, flOf_mem, decide_eq_true_iff, Int.toNat_of_nonneg (by omega), List.mem_append, List.mem_singleton]
  constructor
  ·
   rintro (⟨a, b, c⟩ | c)
   ·
    exact ⟨a, b, .inl c⟩
   ·
    exact ⟨by omega, by omega, .inr c⟩
  ·
   rintro ⟨a, b, c | c⟩
   ·
    exact .inl ⟨a, b, c⟩
   ·
    exact .inr c
 ·
  rw [decide_eq_false hu, Bool.false_and, Bool.false_and, Bool.false_or, decide_eq_false (by omega)]
theorem iadd_any (L : List Int) (v : Int) (hL : ∀ u ∈ L, u < v) (h1 : 1 ≤ v) (h2 : v ≤ 20) (p : Nat → Prop) (va : Value) (w : World) (h : Rep w p va (spansD (spansOf (flOf L)))) :
  Calls Tryz.prog 59 #[va, .int .i64 v] w fun e w' => Ret (fun b => w.heap.size ≤ b) (spansD (spansOf (flOf (L ++ [v])))) e w' ∧ Ext w w' := by
 have hlaw := add_law L v hL h1 (by omega)
 have hm := spansOf_may (flOf L)
 have hlt := flOf_lt hL
 obtain ⟨l, hl⟩ : ∃ l, spansOf (flOf L) = l := ⟨_, rfl⟩
 rw [hl] at hlaw hm hlt h
 have hcnt := may_count v l 1 hm hlt (by omega)
 have hmay := mayI_of l 1 (-1) hm (by omega) (.inl (by omega))
 obtain ⟨R, hR⟩ : ∃ R, spansOf (flOf (L ++ [v])) = R := ⟨_, rfl⟩
 rw [hR] at hlaw ⊢
 have hf : (l ++ [(⟨v, v⟩ : Span)]).foldl putS [] = R := by rw [List.foldl_append, putF_may 1 l [] hm]; exact hlaw
 have hmv : mayI [⟨v, v⟩] (-1) = true := mayI_of _ 1 (-1) ⟨h1, Int.le_refl _, by simp only; omega, trivial⟩ (by omega) (.inl (by omega))
 have hhd := mayG_head l 1 hm
 have hE : Ext w (w.alloc (.cells #[.int .i64 v, .int .i64 v] 96)) := (Ext.refl w).alloc _
 have hblk : (w.alloc (.cells #[.int .i64 v, .int .i64 v] 96)).heap[w.heap.size]? = some (.cells [.int .i64 v, .int .i64 v].toArray 96 (0, 0)) := Array.getElem?_push_size
 have hrv : Rep (w.alloc (.cells #[.int .i64 v, .int .i64 v] 96)) (fun _ => True) (.slice (some ⟨w.heap.size, 0, none⟩) 1 1) (spansD [⟨v, v⟩]) := by
  refine .row w.heap.size 0 1 1 2 [.int .i64 v, .int .i64 v] _ (fun _ => trivial) rfl rfl (Nat.le_refl _) (by omega) (fun k u hk => by rw [Nat.zero_add]; exact blk_cells hblk k hk) ?_
  exact (reps_span (w.alloc (.cells #[.int .i64 v, .int .i64 v] 96)) (fun _ => True) [⟨v, v⟩]).2
 have HU := Lh (union_any l [⟨v, v⟩] _ rfl (fun _ => True) va _ _ hmay hmv (by simp) (by simp; omega) (fun t ht => by
  rcases List.mem_append.1 ht with ht | ht
  ·
   have := hhd t ht; omega
  ·
   rw [List.mem_singleton] at ht; rw [ht]; simp only; omega) (fun i hi => by
  have hgap : mayG 1 (putS l ⟨v, v⟩) ∧ True := ⟨(putS_may v (by omega) l 1 hm hlt h1).1, trivial⟩
  rw [List.length_append, List.length_singleton] at hi
  by_cases c : i + 1 < l.length
  ·
   rw [List.getElem_append_left c, List.getElem_append_left (by omega)]
   have e : l = l.take i ++ l[i] :: l[i + 1] :: l.drop (i + 2) := by
    rw [← List.drop_eq_getElem_cons c, ← List.drop_eq_getElem_cons (by omega), List.take_append_drop]
   have := may_gap (l.take i) l[i] l[i + 1] (l.drop (i + 2)) 1 (by rw [← e]; exact hm)
   have := hhd l[i] (List.getElem_mem _)
   omega
  ·
   rw [List.getElem_append_left (by omega), List.getElem_append_right (by omega)]
   have := hlt l[i] (List.getElem_mem _)
   have := hhd l[i] (List.getElem_mem _)
   simp only [show i + 1 - l.length = 0 by omega, List.getElem_cons_zero]
   omega) ((h.ext hE).ok fun _ _ => trivial) hrv)
 rw [hf] at HU
 have HVB := Lh (show verB v = true from decide_eq_true (by omega))
 have HE := Lh hE
 obtain ⟨aa, ac, rfl, _, _⟩ := h.count z_span (by omega)
 clear hlaw hm hlt hl hcnt hmay hR hf hmv hhd hE hblk hrv h hL h1 h2
 go_enter Tryz.func59, Tryz.ntmps59
 go_wp2_with fail
 refine (version_any v w).mono ?_
 rintro e w1 ⟨rfl, rfl⟩
 rw [HVB.out]
 go_wp2_with fail
 refine HU.out.mono ?_
 rintro e w2 ⟨⟨v', rfl, hrow⟩, hB2⟩
 have HR := Lh (And.intro hrow (HE.out.trans hB2))
 clear hrow hB2 HU
 go_wp2_with fail
 go_ret
 exact ⟨⟨_, rfl, (Own.rep (p := fun _ => False) (n := R.length) ⟨_, rows_mono HR.out.1 HE.out.size, reps_span _ _ _⟩).ok fun b hb => hb.elim (fun h => h.elim) id⟩, HR.out.2⟩
theorem fl_new {w : World} {F : List Bool} {f : Nat → Bool} (h : F.length = 201) (e : ∀ j, F.getD j false = f j) : Fl (w.alloc (.cells (flV F) 103)) w.heap.size f :=
 ⟨F, h, Array.getElem?_push_size, e⟩
theorem rhas_any (x : List Span) (n : Int) (hm : mayG 1 x) (p : Nat → Prop) (v : Value) (w : World) (hx : x.length ≤ 1048576) (h : Rep w p v (spansD x)) :
  Calls Tryz.prog 29 #[v, .int .i64 n] w fun e w' => e = .returned (.bool (inS x n)) ∧ Ext w w' := by
 have HF1 := Lh (flags_any x hm p v w hx h)
 have HO := Lh (inS_out x 1 hm n)
 obtain ⟨B, hB⟩ : ∃ B, inS x n = B := ⟨_, rfl⟩
 have HB := Lh hB
 rw [hB] at HO ⊢
 obtain ⟨a, c, rfl, hc1, hc2⟩ := h.count z_span (by omega)
 clear h hm hB
 go_enter Tryz.func29, Tryz.ntmps29
 go_wp2_with fail
 refine HF1.out.mono ?_
 rintro e w1 ⟨⟨F1, hl1, hf1, rfl⟩, hB1⟩
 have HL1 := Lh (And.intro hl1 (And.intro hf1 (And.intro (flV_size F1 hl1) (flV_one F1))))
 have HB1 := Lh hB1
 clear HF1 hl1 hf1 hB1
 by_cases h1 : 1 ≤ n
 ·
  by_cases h2 : n ≤ 200
  ·
   obtain ⟨k, rfl⟩ : ∃ k : Nat, n = (k : Int) := ⟨n.toNat, by omega⟩
   have k201 : (k : Int) < 201 := by omega
   have k0 : (0 : Int) ≤ (k : Int) := by omega
   have hcell := ((fl_new (w := w1) (f := fun j => inS x j) HL1.out.1 HL1.out.2.1).cell k (by omega)).1
   rw [HB.out] at hcell
   have hc2 : ((w1.alloc (.cells Tryz.zeroCells103 103)).setRow w1.heap.size (flV F1)).cell? ⟨w1.heap.size, k, none⟩ = some (.bool B) := by rw [World.setRow_alloc_new]; exact hcell
   clear hcell
   go_wp2_with (refine wpList_store_row rfl 103 (.tmp 5) (.tmp 10) rfl w1.heap.size (flV F1) rfl rfl 103 (flV (List.replicate 201 false)) (by rw [← zero103]; exact Array.getElem?_push_size) HL1.out.2.2.1 (by unfold flV; simp [HL1.out.1]) HL1.out.2.2.2 ?_)
   go_ret
   rw [World.setRow_alloc_new]
   exact ⟨rfl, HB1.out.alloc _⟩
  ·
   have HR : Hid (B = false) := Lh (HO.out (.inr (by omega)))
   go_wp2_with (refine wpList_store_row rfl 103 (.tmp 5) (.tmp 10) rfl w1.heap.size (flV F1) rfl rfl 103 (flV (List.replicate 201 false)) (by rw [← zero103]; exact Array.getElem?_push_size) HL1.out.2.2.1 (by unfold flV; simp [HL1.out.1]) HL1.out.2.2.2 ?_)
   rw [World.setRow_alloc_new]
   go_wp2_with fail
   go_ret
   exact ⟨ret_bool HR.out.symm, HB1.out.alloc _⟩
 ·
  have HR : Hid (B = false) := Lh (HO.out (.inl (by omega)))
  go_wp2_with (refine wpList_store_row rfl 103 (.tmp 5) (.tmp 10) rfl w1.heap.size (flV F1) rfl rfl 103 (flV (List.replicate 201 false)) (by rw [← zero103]; exact Array.getElem?_push_size) HL1.out.2.2.1 (by unfold flV; simp [HL1.out.1]) HL1.out.2.2.2 ?_)
  rw [World.setRow_alloc_new]
  go_wp2_with fail
  go_ret
  exact ⟨ret_bool HR.out.symm, HB1.out.alloc _⟩
def prevO (ds : List Node) : Nat → Option Node
 | 0 => none
 | i + 1 => ds[i]?
def skipV (l : List Rule) (x : List Step) (o : Option Node) (d : Node) : Bool :=
 decide ((findF l d x).2 < x.length) || (match o with | none => false | some m => decide ((findF l m x).2 = x.length) && sameN (findF l d x).1 (findF l m x).1)
def chgV (l : List Rule) (x : List Step) : Option Node → List Node → Nat → List Int → List Int
 | _, [], _, L => L
 | o, d :: r, i, L => chgV l x (some d) r (i + 1) (if skipV l x o d = true then L else L ++ [(i : Int) + 1])
theorem prevO_succ (ds : List Node) (i : Nat) (h : i < ds.length) : prevO ds (i + 1) = some ds[i] := by unfold prevO; exact List.getElem?_eq_getElem h
theorem walkF_le (l : List Rule) : ∀ (x : List Step) (n : Node) (path : List Bytes) (i : Nat), (walkF l n path x i).2 ≤ i + x.length
 | [], n, path, i => by rw [walkF]; exact Nat.le_refl _
 | t :: r, n, path, i => by
  rw [walkF]
  split
  ·
   simp only; omega
  ·
   have := walkF_le l r
   rw [List.length_cons]
   refine Nat.le_trans (this _ _ _) (by omega)
theorem findF_le (l : List Rule) (n : Node) (x : List Step) : (findF l n x).2 ≤ x.length := by
 cases x with
 | nil => rw [findF]; exact Nat.le_refl _
 | cons t r =>
  rw [findF]
  split
  ·
   have := walkF_le l r n [n.name] 1
   rw [List.length_cons]; omega
  ·
   exact Nat.zero_le _
theorem B5.new (W : World) (n : Node) (xa xk : Value) : B5 (W.alloc (.cells #[.int .i64 n.kind, .string (bs n.name), .string (bs n.text), xa, xk] 60)) W.heap.size n xa xk :=
 ⟨by simp, by simp [go_sem], by simp [go_sem], by simp [go_sem], by simp [go_sem], by simp [go_sem], by simp [go_sem], by simp [go_sem], by simp [go_sem], by simp [go_sem], by simp [go_sem]⟩
theorem rchanged_any (l : List Rule) (ds : List Node) (x : List Step) (p : Nat → Prop) (vl vd vx : Value) (w : World) (hcnt : ∀ d ∈ ds, cntN d ≤ 1048576) (hok : RulesOk l) (hxl : x.length ≤ 1048576) (hdl : ds.length ≤ 1048576)
  (hvl : Rep w p vl (rulesD l)) (hvd : Rep w p vd (nodesD ds)) (hvx : Rep w p vx (stepsD x)) :
  Calls Tryz.prog 31 #[vl, vd, vx] w fun e w' => Ret (fun b => w.heap.size ≤ b) (spansD (spansOf (flOf (chgV l x none ds 0 [])))) e w' ∧ Ext w w' := by
 obtain ⟨la, lc, rfl, _, _⟩ := hvl.count z_rule (by omega)
 obtain ⟨da, dc, rfl, _, _⟩ := hvd.count z_node (by omega)
 obtain ⟨bx, cx, rfl, _, _⟩ := hvx.count z_step (by omega)
 obtain ⟨i0, hi0', hz0, hz1, hz2⟩ := info_parts infoInt
 obtain ⟨R, hR⟩ : ∃ R, chgV l x none ds 0 [] = R := ⟨_, rfl⟩
 rw [hR]
 have HR : Hid (chgV l x (prevO ds 0) (ds.drop 0) 0 [] = R) := Lh hR
 have HCN := Lh hcnt
 have HOK := Lh hok
 clear hR hcnt hok
 go_enter Tryz.func31, Tryz.ntmps31
 go_wp2_with fail
 go_loopw [7, 8, 9, 10, 11, 12] (fun nv t _ _ _ _ wr => ∃ (i : Nat) (L : List Int), t = .int .i64 i ∧ ∃ dv : Value, dv = nv ∧ i ≤ ds.length ∧ L.length ≤ i ∧ Ext w wr ∧ Hid (wr.ownsRow w.heap.size 3 1 dv L.length (L.map fun y => Value.int .i64 y) ∧ chgV l x (prevO ds i) (ds.drop i) i L = R)) (fun _ t _ _ _ _ _ => downV ds.length t)
 case atStart => exact ⟨0, [], rfl, _, rfl, Nat.zero_le _, Nat.le_refl _, Ext.refl _, Lh ⟨World.ownsRow_nil _ _ _ _, HR.out⟩⟩
 case round =>
  obtain ⟨i, L, rfl, dv, rfl, hi, hL, hX, HH⟩ := hrel
  clear HR
  have hi0 : (0 : Int) ≤ (i : Int) := by omega
  by_cases hlt : i < ds.length
  ·
   have hlI : (i : Int) < (ds.length : Int) := by omega
   obtain ⟨gd, od, ya, yk, rfl, lgd, _, d0, d1, d2, d3, d4, hya, hyk⟩ := node_at hvd i hlt
   have hcd := HCN.out _ (List.getElem_mem hlt)
   have hnm := (node_len hvd i hlt).1
   have HS : Hid (chgV l x (prevO ds i) (ds.drop i) i L = chgV l x (prevO ds (i + 1)) (ds.drop (i + 1)) (i + 1) (if skipV l x (prevO ds i) ds[i] = true then L else L ++ [(i : Int) + 1])) := Lh (by rw [drop_one ds i hlt, chgV, prevO_succ ds i hlt])
   have HDS : Hid (∀ W, Ext wr W → ∀ m, m + 1 = i → ∃ z xa xk, ds[m]? = some z ∧ W.cell? ⟨gd, od + m * 5, none⟩ = some (.int .i64 z.kind) ∧ W.cell? ⟨gd, od + m * 5 + 1, none⟩ = some (.string (bs z.name)) ∧ W.cell? ⟨gd, od + m * 5 + 2, none⟩ = some (.string (bs z.text)) ∧ W.cell? ⟨gd, od + m * 5 + 3, none⟩ = some xa ∧ W.cell? ⟨gd, od + m * 5 + 4, none⟩ = some xk ∧ Rep W p xa (attrsD z.attrs) ∧ Rep W p xk (nodesD z.kids) ∧ z.name.length ≤ 9223372036854775807 ∧ cntN z ≤ 1048576) := Lh (fun W hE m hm => by
    have hm' : m < ds.length := by omega
    obtain ⟨g2, o2, xa, xk, he2, lg2, _, e0, e1, e2, e3, e4, h5, h6⟩ := node_at hvd m hm'
    injection he2 with he2
    injection he2 with h7 h8
    subst h7 h8
    have hE' := hX.trans hE
    exact ⟨ds[m], xa, xk, List.getElem?_eq_getElem hm', hE'.keep lg2 e0, hE'.keep lg2 e1, hE'.keep lg2 e2, hE'.keep lg2 e3, hE'.keep lg2 e4, h5.ext hE', h6.ext hE', (node_len hvd m hm').1, HCN.out _ (List.getElem_mem hm')⟩)
   obtain ⟨d, hd⟩ : ∃ d, ds[i] = d := ⟨_, rfl⟩
   rw [hd] at d0 d1 d2 hya hyk hcd hnm HS
   have n0 := hX.keep lgd d0; have n1 := hX.keep lgd d1; have n2 := hX.keep lgd d2; have n3 := hX.keep lgd d3; have n4 := hX.keep lgd d4
   have HFC := Lh fun W (hE : Ext wr W) => findf_any l d x p _ _ _ _ W hcd HOK.out hxl (hvl.ext (hX.trans hE)) (hya.ext (hX.trans hE)) (hyk.ext (hX.trans hE)) (hvx.ext (hX.trans hE)) hnm
   have HFD := Lh fun (z : Node) (xa xk : Value) (hz : cntN z ≤ 1048576) (hzn : z.name.length ≤ 9223372036854775807) W (hE : Ext wr W) (h1 : Rep W p xa (attrsD z.attrs)) (h2 : Rep W p xk (nodesD z.kids)) => findf_any l z x p _ _ _ _ W hz HOK.out hxl (hvl.ext (hX.trans hE)) h1 h2 (hvx.ext (hX.trans hE)) hzn
   obtain ⟨yab, yac, rfl, _, _⟩ := hya.count z_attr (by omega)
   obtain ⟨ykb, ykc, rfl, _, _⟩ := hyk.count z_node (by omega)
   have HSK : Hid (skipV l x (prevO ds i) d = (decide ((findF l d x).2 < x.length) || (match prevO ds i with | none => false | some m => decide ((findF l m x).2 = x.length) && sameN (findF l d x).1 (findF l m x).1))) := Lh rfl
   obtain ⟨G, hG⟩ : ∃ G, findF l d x = G := ⟨_, rfl⟩
   have hle : G.2 ≤ x.length := by rw [← hG]; exact findF_le l d x
   rw [hG] at HFC HSK
   obtain ⟨gn, g⟩ := G
   clear hd hG d0 d1 d2 d3 d4 hya hyk hcd
   go_wp2_with fail
   refine (HFC.out _ (Ext.refl _)).mono ?_
   rintro e w3 ⟨⟨xa, xk, rfl, hxa, hxk⟩, hB3⟩
   simp only at hxa hxk hle
   obtain ⟨xb, xbc, rfl, _, _⟩ := hxa.count z_attr (by omega)
   obtain ⟨xc, xcc, rfl, _, _⟩ := hxk.count z_node (by omega)
   have hown := HH.out.1
   have hW := HH.out.2
   have hlow : w.heap.size ≤ w3.heap.size := Nat.le_trans hX.size hB3.size
   have hX3 := hX.trans hB3
   have hE4 : Ext w (w3.alloc (.cells #[.int .i64 gn.kind, .string (bs gn.name), .string (bs gn.text), .slice xb gn.attrs.length xbc, .slice xc gn.kids.length xcc] 60)) := hX3.alloc _
   have hown3 := (rows_ext hown hB3).alloc (.cells #[.int .i64 gn.kind, .string (bs gn.name), .string (bs gn.text), .slice xb gn.attrs.length xbc, .slice xc gn.kids.length xcc] 60)
   by_cases he : g < x.length
   ·
    have hI : (g : Int) < (x.length : Int) := by omega
    have HN : Hid (chgV l x (prevO ds (i + 1)) (ds.drop (i + 1)) (i + 1) L = R) := Lh (by rw [← hW, HS.out, if_pos (by rw [HSK.out, decide_eq_true he]; rfl)])
    have HO := Lh (And.intro hown3 hE4)
    clear HS HSK HDS HFD hW hown hown3 hE4 HH hX3 hxa hxk HFC
    go_wp2_with fail
    go_roundw
    case rel => exact ⟨i + 1, L, by go_num, dv, rfl, by omega, by omega, HO.out.2, Lh ⟨HO.out.1, HN.out⟩⟩
    case measure => simp only [downV]; omega
   ·
    have hge : g = x.length := by omega
    subst hge
    have hI : ¬ (x.length : Int) < (x.length : Int) := by omega
    by_cases hz : i = 0
    ·
     have hzI : ¬ (0 : Int) < (i : Int) := by omega
     have HN : Hid (chgV l x (prevO ds (i + 1)) (ds.drop (i + 1)) (i + 1) (L ++ [(i : Int) + 1]) = R) := Lh (by rw [← hW, HS.out, if_neg (by rw [HSK.out, hz]; simp [prevO])])
     have HO := Lh (And.intro hown3 hE4)
     clear HS HSK HDS HFD hW hown hown3 hE4 HH hX3 hxa hxk HFC hz he hle
     go_wp2_with (at_builtin; refine wpList_append_own_at _ rfl (.tmp 55) (.tmp 58) _ rfl w.heap.size 3 i0 (.int .i64 0) 1 8 Tryz.underlying88 hi0' hz0 hz1 hz2 rfl (by decide) dv L.length (L.map fun y => Value.int .i64 y) rfl (HO.out.1.alloc _) ⟨w3.heap.size + 1, 0, none⟩ 1 1 [.int .i64 ((i : Int) + 1)] rfl rfl (by intro j u hj; match j, hj with | 0, hj => simp at hj; subst hj; simp [go_sem]) (by intro u hu; simp at hu; rcases hu with rfl; rfl) (by unfold maxLen; omega) (by omega) (by simp; omega) ?_; intro v2 w5 hown5 hgrow5 _ hat5)
     have hX5 : Ext w w5 := Below.grown (HO.out.2.alloc (.cells #[.int .i64 ((i : Int) + 1)] 3)) hgrow5 (Below.size (HO.out.2.alloc (.cells #[.int .i64 ((i : Int) + 1)] 3))) fun k hk => ((HO.out.1.alloc (.cells #[.int .i64 ((i : Int) + 1)] 3)).lt k hk).1
     clear hgrow5 hat5 HO
     go_roundw
     case rel => exact ⟨i + 1, L ++ [(i : Int) + 1], by go_num, v2, rfl, by omega, by simp; omega, hX5, Lh ⟨by simpa using hown5, HN.out⟩⟩
     case measure => simp only [downV]; omega
    ·
     have hzI : (0 : Int) < (i : Int) := by omega
     obtain ⟨m, hm⟩ : ∃ m, m + 1 = i := ⟨i - 1, by omega⟩
     have hmI : (i : Int) - 1 = (m : Int) := by omega
     have hE34 := hB3.alloc (.cells #[.int .i64 gn.kind, .string (bs gn.name), .string (bs gn.text), .slice xb gn.attrs.length xbc, .slice xc gn.kids.length xcc] 60)
     obtain ⟨z, za, zk, hzd, z0, z1, z2, z3, z4, hza, hzk, hzn, hzc⟩ := HDS.out _ hE34 m hm
     have HFC := Lh (HFD.out z za zk hzc hzn _ hE34 hza hzk)
     have hpv : prevO ds i = some z := by rw [← hm]; exact hzd
     have hm0 : (0 : Int) ≤ (m : Int) := by omega
     have hmlt : (m : Int) < (ds.length : Int) := by omega
     rw [hpv] at HSK
     simp only at HSK
     have HPV := Lh hpv
     obtain ⟨zab, zac, rfl, _, _⟩ := hza.count z_attr (by omega)
     obtain ⟨zkb, zkc, rfl, _, _⟩ := hzk.count z_node (by omega)
     obtain ⟨Z, hZ⟩ : ∃ Z, findF l z x = Z := ⟨_, rfl⟩
     rw [hZ] at HFC HSK
     obtain ⟨zn, j⟩ := Z
     simp only at HSK
     have HXX := Lh (And.intro hm (And.intro hown3 (And.intro hE4 (And.intro hxa hxk))))
     clear hzd hZ hza hzk hzn hzc hpv HDS HFD hm hown3 hE4 hxa hxk hown hX3 hz he hle hE34 HH
     go_wp2_with fail
     refine HFC.out.mono ?_
     rintro e w4 ⟨⟨ua, uk, rfl, hua, huk⟩, hB4⟩
     simp only at hua huk
     obtain ⟨ub, ubc, rfl, _, _⟩ := hua.count z_attr (by omega)
     obtain ⟨uc, ucc, rfl, _, _⟩ := huk.count z_node (by omega)
     obtain ⟨hm, hown3, hE4, hxa, hxk⟩ := HXX.out
     obtain ⟨w6, hw6⟩ : ∃ W, w4.alloc (.cells #[.int .i64 zn.kind, .string (bs zn.name), .string (bs zn.text), .slice ub zn.attrs.length ubc, .slice uc zn.kids.length ucc] 60) = W := ⟨_, rfl⟩
     have hlow4 : w.heap.size ≤ w4.heap.size := Nat.le_trans hE4.size hB4.size
     have hE46 : Ext w4 w6 := by rw [← hw6]; exact (Ext.refl w4).alloc _
     have hE36 := hB4.trans hE46
     have hRn := (B5.new w3 gn (.slice xb gn.attrs.length xbc) (.slice xc gn.kids.length xcc)).ext hE36
     have r0 := hRn.c0; have r1 := hRn.c1; have r2 := hRn.c2; have r3 := hRn.c3; have r4 := hRn.c4
     have HO := Lh (And.intro (rows_ext hown3 hE36) (hE4.trans hE36))
     by_cases hj : j = x.length
     ·
      have q1 : ((j : Int) == (x.length : Int)) = true := by rw [hj]; exact beq_self_eq_true _
      have hx36 := ((Ext.refl w3).alloc (.cells #[.int .i64 gn.kind, .string (bs gn.name), .string (bs gn.text), .slice xb gn.attrs.length xbc, .slice xc gn.kids.length xcc] 60)).trans hE36
      have HSA := Lh (same_any (nsz gn) gn zn p p _ _ _ _ w6 (Nat.le_refl _) (hxa.ext hx36) (hxk.ext hx36) (hua.ext hE46) (huk.ext hE46))
      obtain ⟨B, hBs⟩ : ∃ B, sameN gn zn = B := ⟨_, rfl⟩
      rw [hBs] at HSA HSK
      rw [decide_eq_false (Nat.lt_irrefl _), decide_eq_true hj, Bool.false_or, Bool.true_and] at HSK
      have HSr : Hid (R = chgV l x (prevO ds (i + 1)) (ds.drop (i + 1)) (i + 1) (if B = true then L else L ++ [(i : Int) + 1])) := Lh (by rw [← hW, HS.out, HPV.out, HSK.out])
      clear HS
      have HS := HSr
      clear HSr
      clear hm hown3 hE4 hxa hxk hua huk HXX hE46 hE36 hRn hx36 hBs hj hB3 hB4 HFC
      subst hw6
      go_wp2_with fail
      refine HSA.out.mono ?_
      rintro e w7 ⟨rfl, hB7⟩
      clear r0 r1 r2 r3 r4 HSA
      have hlow7 : w.heap.size ≤ w7.heap.size := (HO.out.2.trans hB7).size
      have HO2 := Lh (And.intro (rows_ext HO.out.1 hB7) (HO.out.2.trans hB7))
      clear HO
      have HO := HO2
      clear HO2 hB7
      cases B with
      | true =>
       have HN : Hid (chgV l x (prevO ds (i + 1)) (ds.drop (i + 1)) (i + 1) L = R) := Lh (by rw [HS.out, if_pos rfl])
       clear HS HSK hW
       go_wp2_with fail
       go_roundw
       case rel => exact ⟨i + 1, L, by go_num, dv, rfl, by omega, by omega, HO.out.2, Lh ⟨HO.out.1, HN.out⟩⟩
       case measure => simp only [downV]; omega
      | false =>
       have HN : Hid (chgV l x (prevO ds (i + 1)) (ds.drop (i + 1)) (i + 1) (L ++ [(i : Int) + 1]) = R) := Lh (by rw [HS.out, if_neg (by decide)])
       clear HS HSK hW
       go_wp2_with (at_builtin; refine wpList_append_own_at _ rfl (.tmp 55) (.tmp 58) _ rfl w.heap.size 3 i0 (.int .i64 0) 1 8 Tryz.underlying88 hi0' hz0 hz1 hz2 rfl (by decide) dv L.length (L.map fun y => Value.int .i64 y) rfl (HO.out.1.alloc _) ⟨w7.heap.size, 0, none⟩ 1 1 [.int .i64 ((i : Int) + 1)] rfl rfl (by intro j u hj; match j, hj with | 0, hj => simp at hj; subst hj; simp [go_sem]) (by intro u hu; simp at hu; rcases hu with rfl; rfl) (by unfold maxLen; omega) (by omega) (by simp; omega) ?_; intro v2 w5 hown5 hgrow5 _ hat5)
       have hX5 : Ext w w5 := Below.grown (HO.out.2.alloc (.cells #[.int .i64 ((i : Int) + 1)] 3)) hgrow5 (Below.size (HO.out.2.alloc (.cells #[.int .i64 ((i : Int) + 1)] 3))) fun k hk => ((HO.out.1.alloc (.cells #[.int .i64 ((i : Int) + 1)] 3)).lt k hk).1
       clear hgrow5 hat5 HO
       go_roundw
       case rel => exact ⟨i + 1, L ++ [(i : Int) + 1], by go_num, v2, rfl, by omega, by simp; omega, hX5, Lh ⟨by simpa using hown5, HN.out⟩⟩
       case measure => simp only [downV]; omega
     ·
      have q1 : ((j : Int) == (x.length : Int)) = false := by rw [beq_eq_false_iff_ne]; omega
      have HN : Hid (chgV l x (prevO ds (i + 1)) (ds.drop (i + 1)) (i + 1) (L ++ [(i : Int) + 1]) = R) := Lh (by rw [← hW, HS.out, if_neg (by rw [HPV.out, HSK.out, decide_eq_false (Nat.lt_irrefl _), decide_eq_false hj]; simp)])
      clear hm hown3 hE4 hxa hxk hua huk HXX hE46 hE36 hRn hB3 hB4 HFC HS HSK hW hj
      subst hw6
      go_wp2_with (at_builtin; refine wpList_append_own_at _ rfl (.tmp 55) (.tmp 58) _ rfl w.heap.size 3 i0 (.int .i64 0) 1 8 Tryz.underlying88 hi0' hz0 hz1 hz2 rfl (by decide) dv L.length (L.map fun y => Value.int .i64 y) rfl (HO.out.1.alloc _) ⟨w4.heap.size + 1, 0, none⟩ 1 1 [.int .i64 ((i : Int) + 1)] rfl rfl (by intro j u hj; match j, hj with | 0, hj => simp at hj; subst hj; simp [go_sem]) (by intro u hu; simp at hu; rcases hu with rfl; rfl) (by unfold maxLen; omega) (by omega) (by simp; omega) ?_; intro v2 w5 hown5 hgrow5 _ hat5)
      have hX5 : Ext w w5 := Below.grown (HO.out.2.alloc (.cells #[.int .i64 ((i : Int) + 1)] 3)) hgrow5 (Below.size (HO.out.2.alloc (.cells #[.int .i64 ((i : Int) + 1)] 3))) fun k hk => ((HO.out.1.alloc (.cells #[.int .i64 ((i : Int) + 1)] 3)).lt k hk).1
      clear hgrow5 hat5 HO
      go_roundw
      case rel => exact ⟨i + 1, L ++ [(i : Int) + 1], by go_num, v2, rfl, by omega, by simp; omega, hX5, Lh ⟨by simpa using hown5, HN.out⟩⟩
      case measure => simp only [downV]; omega
  ·
   have hlI : ¬ (i : Int) < (ds.length : Int) := by omega
   have HN : Hid (L = R) := Lh (by rw [← HH.out.2, List.drop_of_length_le (by omega), chgV])
   have hrep : Rep wr (fun b => False ∨ w.heap.size ≤ b) dv (intsD L) := Own.rep (p := fun _ => False) (e := 3) (n := L.length) ⟨_, HH.out.1, ints_reps wr _ L⟩
   have HC := Lh (of_any _ L dv wr hrep)
   clear HH hrep
   go_wp2_with fail
   refine HC.out.mono ?_
   rintro e w3 ⟨⟨sv, rfl, hsv⟩, hB3⟩
   go_wp2_with fail
   go_ret
   refine ⟨⟨sv, rfl, ?_⟩, hX.trans hB3⟩
   rw [← HN.out]
   exact hsv.ok fun b hb => Nat.le_trans hX.size hb
def pchV (vs : List Span) (n : ANode) : Nat → Int → List Int → List Int
 | 0, _, L => L
 | k + 1, v, L => pchV vs n k (v + 1) (if (hasV vs v && !(hasV vs (v - 1) && sameN (atN v n) (atN (v - 1) n))) = true then L ++ [v] else L)
def RetG (q : Nat → Prop) (r : Option (ANode × List Span) × Nat) (last : Nat) (e : Ending) (w : World) : Prop :=
 match r.1 with
 | some (n, vs) => ∃ sv, e = .returned (.tuple #[sv, .nilIface]) ∧ Rep w q sv (spansD (spansOf (flOf (pchV vs n last 1 []))))
 | none => ∃ ev, e = .returned (.tuple #[.slice none 0 0, ev]) ∧ ∃ lo, ErrV w lo 32 r.2 ev
theorem retU_yes {q : Nat → Prop} {n : ANode} {vs : List Span} {j : Nat} {v : Int} {e : Ending} {w : World} (h : RetU q (some (n, vs), j) v e w) (hv : hasV vs v = true) :
  ∃ xa xk, e = .returned (.tuple #[.agg #[.int .i64 1, .string (bs n.name), .string ⟨#[]⟩, xa, xk], .nilIface]) ∧ Rep w q xa (attrsD (atN v n).attrs) ∧ Rep w q xk (nodesD (atN v n).kids) := by
 unfold RetU at h
 simp only at h
 rw [if_pos hv] at h
 exact h
theorem retU_no {q : Nat → Prop} {n : ANode} {vs : List Span} {j : Nat} {v : Int} {e : Ending} {w : World} (h : RetU q (some (n, vs), j) v e w) (hv : hasV vs v = false) :
  ∃ ev, e = .returned (.tuple #[.agg #[.int .i64 0, .string ⟨#[]⟩, .string ⟨#[]⟩, .slice none 0 0, .slice none 0 0], ev]) ∧ ∃ lo, ErrV w lo 30 v ev := by
 unfold RetU at h
 simp only at h
 rw [if_neg (by rw [hv]; decide)] at h
 exact h
theorem new_one5 (W : World) (n : ANode) (v : Int) (xa xk : Value) : B5 (W.alloc (.cells #[.int .i64 1, .string (bs n.name), .string ⟨#[]⟩, xa, xk] 60)) W.heap.size (atN v n) xa xk := by
 have h := B5.new W (atN v n) xa xk
 rw [show (atN v n).kind = 1 by rw [atN_eq]; rfl, show (atN v n).name = n.name by rw [atN_eq]; rfl, show (atN v n).text = [] by rw [atN_eq]; rfl] at h
 exact h
theorem pchanged_any (last : Nat) (root : ANode) (x : List Step) (p : Nat → Prop) (vk vv vp vc vx : Value) (w : World) (hb : vB root = true) (hxl : x.length ≤ 1048576) (h12 : last ≤ 12)
  (hok : ∀ n vs, (findA last root x).1 = some (n, vs) → aB n = true ∧ n.name.length ≤ 9223372036854775807 ∧ ∀ v, hasV vs v = true → 1 ≤ v ∧ v ≤ last)
  (hvk : Rep w p vk (strsD root.key)) (hvv : Rep w p vv (spansD root.vers)) (hvp : Rep w p vp (partsD root.parts)) (hvc : Rep w p vc (anodesD root.kids)) (hvx : Rep w p vx (stepsD x)) :
  Calls Tryz.prog 30 #[.agg #[.int .i64 last, .string (bs root.name), vk, vv, vp, vc], vx] w fun e w' => RetG (fun b => w.heap.size ≤ b) (findA last root x) last e w' ∧ Ext w w' := by
 obtain ⟨rk, rkc, rfl, _, _⟩ := hvk.count z_str (by omega)
 obtain ⟨rv, rvc, rfl, _, _⟩ := hvv.count z_span (by omega)
 obtain ⟨rp, rpc, rfl, _, _⟩ := hvp.count z_part (by omega)
 obtain ⟨rc, rcc, rfl, _, _⟩ := hvc.count z_anode (by omega)
 obtain ⟨xa, xc, rfl, hx1, hx2⟩ := hvx.count z_step (by omega)
 obtain ⟨wa, hwa⟩ : ∃ W, w.alloc (.cells #[.int .i64 last, .string (bs root.name), .slice rk root.key.length rkc, .slice rv root.vers.length rvc, .slice rp root.parts.length rpc, .slice rc root.kids.length rcc] 36) = W := ⟨_, rfl⟩
 have hEa : Ext w wa := by rw [← hwa]; exact (Ext.refl w).alloc _
 have hba : wa.heap[w.heap.size]? = some (.cells [.int .i64 last, .string (bs root.name), .slice rk root.key.length rkc, .slice rv root.vers.length rvc, .slice rp root.parts.length rpc, .slice rc root.kids.length rcc].toArray 36 (0, 0)) := by rw [← hwa]; exact Array.getElem?_push_size
 have HA : Hid (∀ W, Ext wa W → W.cell? ⟨w.heap.size, 0, none⟩ = some (.int .i64 last) ∧ W.cell? ⟨w.heap.size, 1, none⟩ = some (.string (bs root.name)) ∧ W.cell? ⟨w.heap.size, 2, none⟩ = some (.slice rk root.key.length rkc) ∧ W.cell? ⟨w.heap.size, 3, none⟩ = some (.slice rv root.vers.length rvc) ∧ W.cell? ⟨w.heap.size, 4, none⟩ = some (.slice rp root.parts.length rpc) ∧ W.cell? ⟨w.heap.size, 5, none⟩ = some (.slice rc root.kids.length rcc)) := Lh fun W hE =>
  ⟨hE.keep (blk_lt hba) (blk_cells hba 0 rfl), hE.keep (blk_lt hba) (blk_cells hba 1 rfl), hE.keep (blk_lt hba) (blk_cells hba 2 rfl), hE.keep (blk_lt hba) (blk_cells hba 3 rfl), hE.keep (blk_lt hba) (blk_cells hba 4 rfl), hE.keep (blk_lt hba) (blk_cells hba 5 rfl)⟩
 have HC := Lh (find_any last root x p _ _ _ _ _ wa hb hxl (hvk.ext hEa) (hvv.ext hEa) (hvp.ext hEa) (hvc.ext hEa) (hvx.ext hEa))
 have HSU := Lh fun (v : Int) W (hE : Ext wa W) => psub_any last v root x p _ _ _ _ _ W hb hxl (fun n vs e => ⟨(hok n vs e).1, (hok n vs e).2.1, (hok n vs e).2.2 v⟩) ((hvk.ext hEa).ext hE) ((hvv.ext hEa).ext hE) ((hvp.ext hEa).ext hE) ((hvc.ext hEa).ext hE) ((hvx.ext hEa).ext hE)
 obtain ⟨a0, a1, a2, a3, a4, a5⟩ := HA.out wa (Ext.refl _)
 obtain ⟨R0, hR0⟩ : ∃ R, findA last root x = R := ⟨_, rfl⟩
 rw [hR0] at HC HSU ⊢
 have HE := Lh hEa
 clear hR0 hb hok hvk hvv hvp hvc hvx hEa hba
 go_enter Tryz.func30, Tryz.ntmps30
 go_wp2_with fail
 refine HC.out.mono ?_
 rintro e w2 ⟨hr, hB2⟩
 clear HC a0 a1 a2 a3 a4 a5
 obtain ⟨o, j⟩ := R0
 cases o with
 | none =>
  obtain ⟨ev, rfl, lo, hev⟩ := hr
  have HEV := Lh hev
  obtain ⟨eb1, eb2, rfl, _⟩ := hev
  go_wp2_with fail
  go_ret2
  exact ⟨⟨_, rfl, lo, HEV.out.ext ((Ext.refl w2).alloc _)⟩, (HE.out.trans hB2).alloc _⟩
 | some nv =>
  obtain ⟨n, vs⟩ := nv
  obtain ⟨k, vv2, pa, c, kc, vc', pc, cc, sv, rfl, hk, hv, hpa, hc, hsv⟩ := hr
  obtain ⟨sa, sc, rfl, _, _⟩ := hsv.count z_span (by omega)
  obtain ⟨R, hR⟩ : ∃ R, pchV vs n last 1 [] = R := ⟨_, rfl⟩
  have HG : Hid (∀ sv w', Rep w' (fun b => w.heap.size ≤ b) sv (spansD (spansOf (flOf R))) → RetG (fun b => w.heap.size ≤ b) (some (n, vs), j) last (.returned (.tuple #[sv, .nilIface])) w') := Lh fun sv w' h => ⟨sv, rfl, by rw [hR]; exact h⟩
  have HR : Hid (pchV vs n (last - 0) (((0 : Nat) : Int) + 1) [] = R) := Lh hR
  obtain ⟨w3, hw3⟩ : ∃ W, w2.alloc (.cells #[.string (bs n.name), .slice k n.key.length kc, .slice vv2 n.vers.length vc', .slice pa n.parts.length pc, .slice c n.kids.length cc] 34) = W := ⟨_, rfl⟩
  have hE3 : Ext w2 w3 := by rw [← hw3]; exact (Ext.refl w2).alloc _
  have HHS := Lh fun (v : Int) W (hE : Ext w3 W) => ihas_any vs v _ (.slice sa vs.length sc) W ((hsv.ext hE3).ext hE)
  have HE3 := Lh (hB2.trans hE3)
  clear hB2 hE3 hk hv hpa hc hsv hR
  go_wp2_with fail
  clear hw3
  go_loopw [9, 10, 11, 12, 13, 14] (fun nv t _ _ _ _ wr => ∃ (i : Nat) (L : List Int), t = .int .i64 ((i : Int) + 1) ∧ ∃ dv : Value, dv = nv ∧ i ≤ last ∧ (∀ u ∈ L, u ≤ (i : Int)) ∧ Ext w3 wr ∧ Hid (Rep wr (fun b => w.heap.size ≤ b) dv (spansD (spansOf (flOf L))) ∧ pchV vs n (last - i) ((i : Int) + 1) L = R)) (fun _ t _ _ _ _ _ => downV (last + 1) t)
  case atStart => exact ⟨0, [], rfl, _, rfl, Nat.zero_le _, (fun u hu => by cases hu), Ext.refl _, Lh ⟨by rw [show spansOf (flOf []) = [] by kernel_rfl]; exact .nil 2, HR.out⟩⟩
  case round =>
   obtain ⟨i, L, rfl, dv, rfl, hi, hL, hX, HH⟩ := hrel
   have hi0 : (0 : Int) ≤ (i : Int) := by omega
   have hi12 : (i : Int) ≤ 12 := by omega
   have hlast : (last : Int) ≤ 12 := by omega
   obtain ⟨n0, n1, n2, n3, n4, n5⟩ := HA.out wr (HE3.out.trans hX)
   clear HR
   by_cases hlt : i < last
   ·
    have hlI : (i : Int) + 1 ≤ (last : Int) := by omega
    have HS : Hid (pchV vs n (last - (i + 1)) (((i + 1 : Nat) : Int) + 1) (if (hasV vs ((i : Int) + 1) && !(hasV vs i && sameN (atN ((i : Int) + 1) n) (atN i n))) = true then L ++ [(i : Int) + 1] else L) = R) := Lh (by
     have h := HH.out.2
     rw [show last - i = (last - (i + 1)) + 1 by omega, pchV, show (i : Int) + 1 - 1 = (i : Int) by omega] at h
     exact h)
    have hdv := HH.out.1
    have HS1 := Lh (HSU.out ((i : Int) + 1) wr (HE3.out.trans hX))
    clear HH
    by_cases hv1 : hasV vs ((i : Int) + 1) = true
    ·
     have HV1 := Lh hv1
     rw [hv1, Bool.true_and] at HS
     clear hv1
     go_wp2_with fail
     refine HS1.out.mono ?_
     rintro e w4 ⟨hr, hB4⟩
     obtain ⟨xa', xk', rfl, hxa, hxk⟩ := retU_yes hr HV1.out
     have HR5 := Lh fun xa xk => new_one5 w4 n ((i : Int) + 1) xa xk
     have ek : (atN ((i : Int) + 1) n).kind = 1 := by rw [atN_eq]; rfl
     have en : (atN ((i : Int) + 1) n).name = n.name := by rw [atN_eq]; rfl
     have et : (atN ((i : Int) + 1) n).text = [] := by rw [atN_eq]; rfl
     obtain ⟨A, hA⟩ : ∃ A, atN ((i : Int) + 1) n = A := ⟨_, rfl⟩
     rw [hA] at hxa hxk HR5 ek en et HS
     obtain ⟨ya, yac, rfl, _, _⟩ := hxa.count z_attr (by omega)
     obtain ⟨yk, ykc, rfl, _, _⟩ := hxk.count z_node (by omega)
     have hE45 : Ext w4 (w4.alloc (.cells #[.int .i64 1, .string (bs n.name), .string ⟨#[]⟩, .slice ya A.attrs.length yac, .slice yk A.kids.length ykc] 60)) := (Ext.refl w4).alloc _
     have hEr5 := hB4.trans hE45
     obtain ⟨m0, m1, m2, m3, m4, m5⟩ := HA.out _ ((HE3.out.trans hX).trans hEr5)
     have hRA := HR5.out (.slice ya A.attrs.length yac) (.slice yk A.kids.length ykc)
     have HS0 := Lh (HSU.out i _ ((HE3.out.trans hX).trans hEr5))
     have HX5 := Lh (And.intro (hxa.ext hE45) (And.intro (hxk.ext hE45) (And.intro hRA (And.intro hEr5 (And.intro ek (And.intro en et))))))
     clear hr hA hxa hxk HR5 ek en et hE45 hEr5 hRA hB4 HS1 n0 n1 n2 n3 n4 n5
     by_cases hv0 : hasV vs i = true
     ·
      have HV0 := Lh hv0
      rw [hv0, Bool.true_and] at HS
      clear hv0
      go_wp2_with fail
      refine HS0.out.mono ?_
      rintro e w6 ⟨hr, hB6⟩
      obtain ⟨xa', xk', rfl, hza, hzk⟩ := retU_yes hr HV0.out
      have hRZ := fun xa xk => new_one5 w6 n i xa xk
      have ek : (atN i n).kind = 1 := by rw [atN_eq]; rfl
      have en : (atN i n).name = n.name := by rw [atN_eq]; rfl
      have et : (atN i n).text = [] := by rw [atN_eq]; rfl
      obtain ⟨Z, hZ⟩ : ∃ Z, atN i n = Z := ⟨_, rfl⟩
      rw [hZ] at hza hzk hRZ ek en et HS
      obtain ⟨za, zac, rfl, _, _⟩ := hza.count z_attr (by omega)
      obtain ⟨zk, zkc, rfl, _, _⟩ := hzk.count z_node (by omega)
      have hE67 : Ext w6 (w6.alloc (.cells #[.int .i64 1, .string (bs n.name), .string ⟨#[]⟩, .slice za Z.attrs.length zac, .slice zk Z.kids.length zkc] 60)) := (Ext.refl w6).alloc _
      obtain ⟨hxa, hxk, hRA, hEr5, ekA, enA, etA⟩ := HX5.out
      have hE57 := hB6.trans hE67
      have hEr7 := hEr5.trans hE57
      have HH0 := Lh (HHS.out i _ (hX.trans hEr7))
      rw [HV0.out] at HH0
      have HX7 := Lh (And.intro (hxa.ext hE57) (And.intro (hxk.ext hE57) (And.intro (hRA.ext hE57) (And.intro (hza.ext hE67) (And.intro (hzk.ext hE67) (And.intro (hRZ (.slice za Z.attrs.length zac) (.slice zk Z.kids.length zkc)) (And.intro hEr7 (And.intro (And.intro ekA (And.intro enA etA)) (And.intro ek (And.intro en et))))))))))
      clear hr hZ hza hzk hRZ ek en et hE67 hxa hxk hRA hEr5 ekA enA etA hE57 hEr7 HX5 HV0 HV1 m0 m1 m2 m3 m4 m5 HS0 hB6
      go_wp2_with fail
      refine HH0.out.mono ?_
      rintro e w8 ⟨rfl, hB8⟩
      obtain ⟨hxa, hxk, hRA, hza, hzk, hRZ, hEr7, ⟨ekA, enA, etA⟩, ek, en, et⟩ := HX7.out
      have hRA8 := hRA.ext hB8
      have hRZ8 := hRZ.ext hB8
      have r0 := hRA8.c0; have r1 := hRA8.c1; have r2 := hRA8.c2; have r3 := hRA8.c3; have r4 := hRA8.c4
      have s0 := hRZ8.c0; have s1 := hRZ8.c1; have s2 := hRZ8.c2; have s3 := hRZ8.c3; have s4 := hRZ8.c4
      have HSA := Lh (xsame_any (nsz A) A Z _ _ _ _ _ _ w8 (Nat.le_refl _) (hxa.ext hB8) (hxk.ext hB8) (hza.ext hB8) (hzk.ext hB8))
      have hEr8 := hEr7.trans hB8
      obtain ⟨b, hb⟩ : ∃ b, sameN A Z = b := ⟨_, rfl⟩
      rw [hb] at HSA HS
      clear hxa hxk hRA hza hzk hRZ hEr7 ekA enA etA ek en et hRA8 hRZ8 HX7 HH0 hb hB8
      cases b with
      | true =>
       have HS2 : Hid (pchV vs n (last - (i + 1)) (((i + 1 : Nat) : Int) + 1) L = R) := Lh HS.out
       clear HS
       go_wp2_with fail
       refine HSA.out.mono ?_
       rintro e w9 ⟨rfl, hB9⟩
       clear r0 r1 r2 r3 r4 s0 s1 s2 s3 s4 HSA
       have HN : Hid (pchV vs n (last - (i + 1)) (((i + 1 : Nat) : Int) + 1) L = R) := Lh HS2.out
       have HO2 := Lh (And.intro (hX.trans (hEr8.trans hB9)) (hdv.ext (hEr8.trans hB9)))
       clear HS2 hdv hX
       go_wp2_with fail
       go_roundw
       case rel => exact ⟨i + 1, L, by go_num, dv, rfl, by omega, fun u hu => by have := hL u hu; omega, HO2.out.1, Lh ⟨HO2.out.2, HN.out⟩⟩
       case measure => simp only [downV]; omega
      | false =>
       have HS2 : Hid (pchV vs n (last - (i + 1)) (((i + 1 : Nat) : Int) + 1) (L ++ [(i : Int) + 1]) = R) := Lh HS.out
       clear HS
       go_wp2_with fail
       refine HSA.out.mono ?_
       rintro e w9 ⟨rfl, hB9⟩
       clear r0 r1 r2 r3 r4 s0 s1 s2 s3 s4 HSA
       have HN : Hid (pchV vs n (last - (i + 1)) (((i + 1 : Nat) : Int) + 1) (L ++ [(i : Int) + 1]) = R) := Lh HS2.out
       have hEW : Ext wr (w9) := hEr8.trans hB9
       have HAD := Lh (iadd_any L ((i : Int) + 1) (fun u hu => by have := hL u hu; omega) (by omega) (by omega) (fun b => w.heap.size ≤ b) dv (w9) (hdv.ext hEW))
       have HO := Lh (hX.trans hEW)
       clear HS2 hEW hdv hX
       go_wp2_with fail
       refine HAD.out.mono ?_
       rintro e wz ⟨⟨v2, rfl, hv2⟩, hBz⟩
       have HO2 := Lh (And.intro (HO.out.trans hBz) (hv2.ok fun b hb => Nat.le_trans (Nat.le_trans (Nat.le_trans HE.out.size HE3.out.size) HO.out.size) hb))
       clear hv2 hBz HAD HO
       go_wp2_with fail
       go_roundw
       case rel => exact ⟨i + 1, L ++ [(i : Int) + 1], by go_num, v2, rfl, by omega, fun u hu => by rcases List.mem_append.1 hu with hu | hu; (· have := hL u hu; omega); (· rw [List.mem_singleton] at hu; omega), HO2.out.1, Lh ⟨HO2.out.2, HN.out⟩⟩
       case measure => simp only [downV]; omega
     ·
      have hv0' : hasV vs i = false := by cases h : hasV vs i with | true => exact absurd h hv0 | false => rfl
      have HV0 := Lh hv0'
      rw [hv0', Bool.false_and] at HS
      have HS2 : Hid (pchV vs n (last - (i + 1)) (((i + 1 : Nat) : Int) + 1) (L ++ [(i : Int) + 1]) = R) := Lh HS.out
      clear hv0 hv0' HS
      go_wp2_with fail
      refine HS0.out.mono ?_
      rintro e w6 ⟨hr, hB6⟩
      obtain ⟨ev, rfl, lo, hev⟩ := retU_no hr HV0.out
      obtain ⟨eb1, eb2, rfl, _⟩ := hev
      have hEr7 : Ext wr (w6.alloc (.cells #[.int .i64 0, .string ⟨#[]⟩, .string ⟨#[]⟩, .slice none 0 0, .slice none 0 0] 60)) := (HX5.out.2.2.2.1.trans hB6).alloc _
      have HH0 := Lh (HHS.out i _ (hX.trans hEr7))
      rw [HV0.out] at HH0
      clear hr HX5 HV0 HV1 m0 m1 m2 m3 m4 m5 HS0 hB6
      go_wp2_with fail
      refine HH0.out.mono ?_
      rintro e w8 ⟨rfl, hB8⟩
      have hEr8 := hEr7.trans hB8
      clear hEr7 hB8 HH0
      have HN : Hid (pchV vs n (last - (i + 1)) (((i + 1 : Nat) : Int) + 1) (L ++ [(i : Int) + 1]) = R) := Lh HS2.out
      have hEW : Ext wr (w8) := hEr8
      have HAD := Lh (iadd_any L ((i : Int) + 1) (fun u hu => by have := hL u hu; omega) (by omega) (by omega) (fun b => w.heap.size ≤ b) dv (w8) (hdv.ext hEW))
      have HO := Lh (hX.trans hEW)
      clear HS2 hEW hdv hX
      go_wp2_with fail
      refine HAD.out.mono ?_
      rintro e wz ⟨⟨v2, rfl, hv2⟩, hBz⟩
      have HO2 := Lh (And.intro (HO.out.trans hBz) (hv2.ok fun b hb => Nat.le_trans (Nat.le_trans (Nat.le_trans HE.out.size HE3.out.size) HO.out.size) hb))
      clear hv2 hBz HAD HO
      go_wp2_with fail
      go_roundw
      case rel => exact ⟨i + 1, L ++ [(i : Int) + 1], by go_num, v2, rfl, by omega, fun u hu => by rcases List.mem_append.1 hu with hu | hu; (· have := hL u hu; omega); (· rw [List.mem_singleton] at hu; omega), HO2.out.1, Lh ⟨HO2.out.2, HN.out⟩⟩
      case measure => simp only [downV]; omega
    ·
     have hv1' : hasV vs ((i : Int) + 1) = false := by cases h : hasV vs ((i : Int) + 1) with | true => exact absurd h hv1 | false => rfl
     have HV1 := Lh hv1'
     rw [hv1', Bool.false_and] at HS
     have HS2 : Hid (pchV vs n (last - (i + 1)) (((i + 1 : Nat) : Int) + 1) L = R) := Lh HS.out
     clear hv1 hv1' HS
     go_wp2_with fail
     refine HS1.out.mono ?_
     rintro e w4 ⟨hr, hB4⟩
     obtain ⟨ev, rfl, lo, hev⟩ := retU_no hr HV1.out
     obtain ⟨eb1, eb2, rfl, _⟩ := hev
     clear hr HV1 n0 n1 n2 n3 n4 n5 HS1
     have HN : Hid (pchV vs n (last - (i + 1)) (((i + 1 : Nat) : Int) + 1) L = R) := Lh HS2.out
     have HO2 := Lh (And.intro (hX.trans (hB4.alloc (.cells #[.int .i64 0, .string ⟨#[]⟩, .string ⟨#[]⟩, .slice none 0 0, .slice none 0 0] 60))) (hdv.ext (hB4.alloc (.cells #[.int .i64 0, .string ⟨#[]⟩, .string ⟨#[]⟩, .slice none 0 0, .slice none 0 0] 60))))
     clear HS2 hdv hX
     go_wp2_with fail
     go_roundw
     case rel => exact ⟨i + 1, L, by go_num, dv, rfl, by omega, fun u hu => by have := hL u hu; omega, HO2.out.1, Lh ⟨HO2.out.2, HN.out⟩⟩
     case measure => simp only [downV]; omega
   ·
    have hlI : ¬ (i : Int) + 1 ≤ (last : Int) := by omega
    have HN : Hid (L = R) := Lh (by rw [← HH.out.2, show last - i = 0 by omega, pchV])
    have HO := Lh HH.out.1
    clear HH
    go_wp2_with fail
    go_ret2
    exact ⟨HG.out _ _ (by rw [← HN.out]; exact HO.out), (HE.out.trans HE3.out).trans hX⟩
theorem addS_len (s : Step) (h : Held) (g : List Step × List (List Held)) : (addS s h g).1.length ≤ g.1.length + 1 := by
 unfold addS
 split
 ·
  simp only; rw [insAt_len]; exact Nat.le_refl _
 ·
  exact Nat.le_succ _
theorem gatherK_len (v : Int) : ∀ (ss : List Step) (ks : List Node) (g : List Step × List (List Held)), (gatherK v ss ks g).1.length ≤ g.1.length + ks.length
 | [], ks, g => by cases ks <;> (rw [gatherK] <;> first | omega | (intros; simp_all))
 | s :: ss, [], g => by rw [gatherK]; exact Nat.le_add_right _ _; intros; simp_all
 | s :: ss, k :: ks, g => by
  rw [gatherK, List.length_cons]
  have h1 := gatherK_len v ss ks (addS s ⟨v, k⟩ g)
  have h2 := addS_len s ⟨v, k⟩ g
  omega
theorem gather_len (l : List Rule) (path : List Bytes) (C : Nat) : ∀ (hs : List Held) (g : List Step × List (List Held)), (∀ h ∈ hs, h.n.kids.length ≤ C) → (gather l path hs g).1.length ≤ g.1.length + hs.length * C
 | [], g, _ => by rw [gather]; exact Nat.le_add_right _ _
 | h :: r, g, hc => by
  rw [gather, List.length_cons, Nat.succ_mul]
  have h1 := gather_len l path C r (gatherK h.v (stepsS l path h.n.kids) h.n.kids g) fun h hm => hc h (List.mem_cons_of_mem _ hm)
  have h2 := gatherK_len h.v (stepsS l path h.n.kids) h.n.kids g
  have h3 := hc h List.mem_cons_self
  omega
theorem partsG_mem (Q : List Attr → List Node → Prop) (whole : Bool) : ∀ (hs : List Held) (g : List Part × List (List Int)), (∀ q ∈ g.1, Q q.attrs q.kids) → (∀ h ∈ hs, Q h.n.attrs (kidsW whole h.n)) → ∀ q ∈ (partsG whole hs g).1, Q q.attrs q.kids
 | [], g, hg, _ => by rw [partsG]; exact hg
 | h :: r, g, hg, hh => by
  rw [partsG]
  refine partsG_mem Q whole r _ (fun q hq => ?_) fun h hm => hh h (List.mem_cons_of_mem _ hm)
  unfold addP at hq
  split at hq
  ·
   rcases List.mem_append.1 hq with hq | hq
   ·
    exact hg q hq
   ·
    obtain rfl := List.mem_singleton.1 hq
    exact hh h List.mem_cons_self
  ·
   exact hg q hq
theorem setV_mem : ∀ (ps : List Part) (vs : List (List Int)) (q : Part), q ∈ setV ps vs → ∃ p ∈ ps, q.attrs = p.attrs ∧ q.kids = p.kids
 | [], vs, q, h => by cases vs <;> (simp [setV] at h)
 | p :: x, [], q, h => by simp [setV] at h
 | p :: x, s :: y, q, h => by
  rw [setV] at h
  rcases List.mem_cons.1 h with e | h
  ·
   rw [e]; exact ⟨p, List.mem_cons_self, rfl, rfl⟩
  ·
   obtain ⟨p', h1, h2⟩ := setV_mem x y q h
   exact ⟨p', List.mem_cons_of_mem _ h1, h2⟩
theorem partsP_mem (Q : List Attr → List Node → Prop) (whole : Bool) (hs : List Held) (hh : ∀ h ∈ hs, Q h.n.attrs (kidsW whole h.n)) : ∀ q ∈ partsP whole hs, Q q.attrs q.kids := by
 have h0 := partsG_mem Q whole hs ([], []) (fun q hq => by cases hq) hh
 intro q hq
 unfold partsP at hq
 split at hq
 ·
  obtain ⟨p, h1, h2, h3⟩ := setV_mem _ _ q hq
  rw [h2, h3]; exact h0 p h1
 ·
  exact h0 q hq
theorem aBL_of : ∀ K : List ANode, (∀ n ∈ K, aB n = true) → aBL K = true
 | [], _ => by rw [aBL]
 | n :: r, h => by rw [aBL, h n List.mem_cons_self, aBL_of r fun n hn => h n (List.mem_cons_of_mem _ hn)]; rfl
theorem aB_node (l : List Rule) : ∀ (N : Nat) (path : List Bytes) (s : Step) (hs : List Held) (above : List Span), HeldOK l path s N hs → hs.length ≤ 12 → (∀ h ∈ hs, cntN h.n ≤ 1048576) → aB (nodeP l N path s hs above) = true
 | 0, path, s, hs, above, _, _, _ => by rw [nodeP, aB, aBL]; rfl
 | N + 1, path, s, hs, above, hh, h12, hc => by
  rw [nodeP, aB]
  have hkid : ∀ h ∈ hs, cntL h.n.kids ≤ 1048576 := fun h hm => by have := cnt_kids h.n; have := hc h hm; omega
  have hparts : (partsP (frontS l path) hs).all (fun x => decide (x.attrs.length ≤ 1048576 ∧ cntL x.kids ≤ 1048576)) = true := by
   refine List.all_eq_true.2 fun q hq => decide_eq_true ?_
   refine partsP_mem (fun a k => a.length ≤ 1048576 ∧ cntL k ≤ 1048576) _ hs (fun h hm => ⟨?_, ?_⟩) q hq
   ·
    have := cnt_kids h.n; have := hc h hm; have := cntA_len h.n.attrs; omega
   ·
    unfold kidsW
    split
    ·
     exact hkid h hm
    ·
     rw [cntL]; exact Nat.zero_le _
  rw [hparts]
  cases hf : frontS l path with
  | true => rw [if_pos rfl, aBL]; rfl
  | false =>
   rw [if_neg (by decide)]
   have hG := gather_all l path hs
   have hlen := gather_len l path 1048576 hs ([], []) fun h hm => Nat.le_trans (cntL_len _) (hkid h hm)
   have hsub := Nat.mul_le_mul_right 1048576 h12
   simp only [List.length_nil] at hlen
   rw [decide_eq_true (by rw [List.length_map, List.length_zip]; omega), Bool.true_and, Bool.true_and]
   refine aBL_of _ fun n hn => ?_
   obtain ⟨g, hg, rfl⟩ := List.mem_map.1 hn
   have hB := hh.below hf g.1
   have hris : ∀ h ∈ hs, Rising (stepsS l path h.n.kids) := fun h hm => (((wfN_eq l h.n path).1 (hh.2 h hm).1).2 hf).2.1
   rw [hG.eq g hg]
   refine aB_node l N _ _ _ _ hB ?_ fun k hk => ?_
   ·
    have := (selH_sub l path g.1 hs hris).length_le
    rw [List.length_map, List.length_map] at this
    omega
   ·
    obtain ⟨h, hm, hl, _⟩ := (selH_mem l path g.1 hs hris k).1 hk
    have w1 := (hh.2 h hm).1
    obtain ⟨hk1, _, _⟩ := (walkF_step l h.n path g.1 [] 0 w1).2 _ hl
    obtain ⟨i, hi, e⟩ := List.getElem_of_mem hk1
    have := cntL_mem h.n.kids i hi
    rw [e] at this
    have := hkid h hm
    omega
theorem held_all {l : List Rule} {nm : Bytes} {ds : List Node} (hw : ∀ d ∈ ds, wfN l d [nm] ∧ wtN l d [nm] ∧ d.name = nm) (h200 : ds.length ≤ 200) : HeldOK l [nm] ⟨nm, []⟩ (nszL ds + 1) (heldsOf ds 0) :=
 ⟨heldsOf_rise ds 0, fun h hm => by
  obtain ⟨a, b, c⟩ := heldsOf_mem ds 0 h hm
  have := nszL_le ds h.n a
  exact ⟨(hw _ a).1, (hw _ a).2.1, (hw _ a).2.2, by omega, by omega, by omega⟩⟩
theorem aB_root {l : List Rule} {nm : Bytes} {ds : List Node} (hw : ∀ d ∈ ds, wfN l d [nm] ∧ wtN l d [nm] ∧ d.name = nm) (h12 : ds.length ≤ 12) (hc : ∀ d ∈ ds, cntN d ≤ 1048576) : aB (rootP l nm ds) = true := by
 unfold rootP
 split
 ·
  rfl
 ·
  exact aB_node l _ _ _ _ _ (held_all hw (by omega)) (by rw [heldsOf_len]; exact h12) fun h hm => hc _ (heldsOf_mem ds 0 h hm).1
theorem walkA_sub : ∀ (x : List Step) (n : ANode) (vs : List Span) (i : Nat) (m : ANode) (us : List Span) (j : Nat), aB n = true → walkA n vs x i = (some (m, us), j) → aB m = true ∧ (m.name = n.name ∨ ∃ t ∈ x, m.name = t.n)
 | [], n, vs, i, m, us, j, hb, e => by
  rw [walkA] at e
  injection e with e1 _
  injection e1 with e1
  injection e1 with e1 _
  rw [← e1]; exact ⟨hb, .inl rfl⟩
 | t :: r, n, vs, i, m, us, j, hb, e => by
  rw [walkA] at e
  by_cases hc : idxA t n.kids 0 < 0
  ·
   rw [if_pos hc] at e; cases e
  ·
   rw [if_neg hc] at e
   obtain ⟨k, hk, ek, hbk⟩ := idxA_at t _ 0 hc
   rw [Nat.zero_add] at ek
   have hget : n.kids.getD (idxA t n.kids 0).toNat zeroA = n.kids[k] := by rw [ek, Int.toNat_natCast, List.getD_eq_getElem?_getD, List.getElem?_eq_getElem hk]; rfl
   rw [hget] at e
   obtain ⟨h1, h2⟩ := walkA_sub r _ _ _ m us j ((aB_own n hb).2.2 _ (List.getElem_mem hk)) e
   refine ⟨h1, .inr ?_⟩
   rcases h2 with h2 | ⟨t', ht, h2⟩
   ·
    exact ⟨t, List.mem_cons_self, by rw [h2]; exact ((isB_iff _ _).1 hbk).1⟩
   ·
    exact ⟨t', List.mem_cons_of_mem _ ht, h2⟩
theorem findA_sub (last : Int) (root : ANode) (x : List Step) (m : ANode) (us : List Span) (hb : aB root = true) (e : (findA last root x).1 = some (m, us)) : aB m = true ∧ ∃ t ∈ x, m.name = t.n := by
 cases x with
 | nil => rw [findA] at e; cases e
 | cons t r =>
  rw [findA] at e
  by_cases hc : last < 1 ∨ isB root t = false
  ·
   rw [if_pos hc] at e; cases e
  ·
   rw [if_neg hc] at e
   have hr : isB root t = true := by
    cases h : isB root t with
    | true => rfl
    | false => exact absurd (.inr h) hc
   obtain ⟨q, j⟩ : ∃ q, walkA root (eitherS root.vers []) r 1 = q := ⟨_, rfl⟩
   obtain ⟨q1, q2⟩ := q
   rw [j] at e
   simp only at e
   subst e
   obtain ⟨h1, h2⟩ := walkA_sub r root _ 1 m us q2 hb j
   refine ⟨h1, ?_⟩
   rcases h2 with h2 | ⟨t', ht, h2⟩
   ·
    exact ⟨t, List.mem_cons_self, by rw [h2]; exact ((isB_iff _ _).1 hr).1⟩
   ·
    exact ⟨t', List.mem_cons_of_mem _ ht, h2⟩
theorem hasV_inS (L : List Int) (v : Int) : hasV (spansOf (flOf L)) v = inS (spansOf (flOf L)) v := by
 unfold hasV
 rw [mayI_of _ 1 (-1) (spansOf_may _) (by omega) (.inl (by omega)), Bool.true_and]; rfl
theorem hasV_mem (L : List Int) (v : Int) (h : hasV (spansOf (flOf L)) v = true) : 1 ≤ v ∧ v ≤ 200 ∧ v ∈ L := by
 have h' := h
 rw [hasV_inS, inS_of, Bool.and_eq_true, decide_eq_true_iff] at h'
 have := hasV_of L v h'.1.1 h'.1.2
 rw [h] at this
 exact ⟨h'.1.1, h'.1.2, of_decide_eq_true this.symm⟩
theorem heldsOf_k : ∀ (ds : List Node) (i k : Nat) (h : k < ds.length), (⟨((i + k : Nat) : Int) + 1, ds[k]⟩ : Held) ∈ heldsOf ds i
 | [], _, _, h => absurd h (Nat.not_lt_zero _)
 | d :: r, i, 0, _ => by rw [heldsOf]; exact List.mem_cons_self
 | d :: r, i, k + 1, h => by
  rw [heldsOf]
  have := heldsOf_k r (i + 1) k (by simpa using h)
  rw [show i + 1 + k = i + (k + 1) by omega] at this
  exact List.mem_cons_of_mem _ this
theorem heldsOf_is : ∀ (ds : List Node) (i : Nat) (h : Held), h ∈ heldsOf ds i → ∃ (k : Nat) (hk : k < ds.length), h = ⟨((i + k : Nat) : Int) + 1, ds[k]⟩
 | [], _, h, hm => by cases hm
 | d :: r, i, h, hm => by
  rw [heldsOf] at hm
  rcases List.mem_cons.1 hm with e | hm
  ·
   exact ⟨0, by simp, e⟩
  ·
   obtain ⟨k, hk, e⟩ := heldsOf_is r (i + 1) h hm
   exact ⟨k + 1, by simpa using hk, by rw [e, show i + 1 + k = i + (k + 1) by omega]; rfl⟩
theorem hist_mem (l : List Rule) (x : List Step) (ds : List Node) (v : Int) : v ∈ (histV l x ds 0 [] 0).1 ↔ ∃ (k : Nat) (hk : k < ds.length), v = (k : Int) + 1 ∧ (findF l ds[k] x).2 = x.length ∧ 0 < (findF l ds[k] x).2 := by
 rw [(histV_law l x ds 0 [] 0).1, List.nil_append, List.mem_map]
 constructor
 ·
  rintro ⟨h, hm, rfl⟩
  obtain ⟨h1, h2⟩ := List.mem_filter.1 hm
  obtain ⟨k, hk, e⟩ := heldsOf_is ds 0 h h1
  subst e
  exact ⟨k, hk, by simp, (of_decide_eq_true h2).1, (of_decide_eq_true h2).2⟩
 ·
  rintro ⟨k, hk, rfl, h1, h2⟩
  exact ⟨_, List.mem_filter.2 ⟨heldsOf_k ds 0 k hk, decide_eq_true ⟨h1, h2⟩⟩, by simp⟩
theorem hist_has (l : List Rule) (x : List Step) (ds : List Node) (hx : x ≠ []) (h200 : ds.length ≤ 200) (k : Nat) (hk : k < ds.length) : hasV (spansOf (flOf (histV l x ds 0 [] 0).1)) ((k : Int) + 1) = decide ((findF l ds[k] x).2 = x.length) := by
 rw [hasV_of _ _ (by omega) (by omega)]
 refine decide_eq_decide.2 ?_
 rw [hist_mem]
 have hp := List.length_pos_iff.2 hx
 constructor
 ·
  rintro ⟨k', hk', e, h1, h2⟩
  obtain rfl : k = k' := by omega
  exact h1
 ·
  intro h
  exact ⟨k, hk, rfl, h, by omega⟩
theorem hist_one {l : List Rule} {x : List Step} {ds : List Node} {v : Int} (h : hasV (spansOf (flOf (histV l x ds 0 [] 0).1)) v = true) : 1 ≤ v ∧ v ≤ ds.length := by
 obtain ⟨k, hk, e, _⟩ := (hist_mem l x ds v).1 (hasV_mem _ v h).2.2
 omega
theorem chg_eq (l : List Rule) (x : List Step) (ds : List Node) (vs : List Span) (n : ANode) (hA : ∀ (k : Nat) (hk : k < ds.length), hasV vs ((k : Int) + 1) = decide ((findF l ds[k] x).2 = x.length)) (h0 : hasV vs 0 = false)
  (hB : ∀ (k : Nat) (hk : k < ds.length), (findF l ds[k] x).2 = x.length → atN ((k : Int) + 1) n = (findF l ds[k] x).1) :
  ∀ (k i : Nat) (L : List Int), i + k = ds.length → pchV vs n k ((i : Int) + 1) L = chgV l x (prevO ds i) (ds.drop i) i L
 | 0, i, L, h => by rw [pchV, List.drop_of_length_le (by omega), chgV]
 | k + 1, i, L, h => by
  have hlt : i < ds.length := by omega
  rw [pchV, drop_one ds i hlt, chgV]
  have e := chg_eq l x ds vs n hA h0 hB k (i + 1)
  have hp : prevO ds (i + 1) = some ds[i] := by unfold prevO; exact List.getElem?_eq_getElem hlt
  rw [hp] at e
  have e2 := e (if skipV l x (prevO ds i) ds[i] = true then L else L ++ [(i : Int) + 1]) (by omega)
  rw [← e2]
  congr 1
  rw [hA i hlt]
  have hle := findF_le l ds[i] x
  unfold skipV
  by_cases c : (findF l ds[i] x).2 = x.length
  ·
   rw [decide_eq_true c, decide_eq_false (by omega), Bool.true_and, Bool.false_or]
   cases i with
   | zero =>
    rw [show ((0 : Nat) : Int) + 1 - 1 = 0 by omega, h0]
    simp [prevO]
   | succ j =>
    have hj : j < ds.length := by omega
    have hpj : prevO ds (j + 1) = some ds[j] := by unfold prevO; exact List.getElem?_eq_getElem hj
    rw [hpj, show ((j + 1 : Nat) : Int) + 1 - 1 = (j : Int) + 1 by omega, hA j hj]
    have hb1 := hB (j + 1) hlt c
    by_cases d : (findF l ds[j] x).2 = x.length
    ·
     rw [hb1, hB j hj d, decide_eq_true d, Bool.true_and]
     cases hs : sameN (findF l ds[j + 1] x).1 (findF l ds[j] x).1 with
     | true => simp [hs, d]
     | false => simp [hs, d]
    ·
     rw [decide_eq_false d]; simp [d]
  ·
   rw [decide_eq_false c, decide_eq_true (by omega)]; simp
theorem chg_law {l : List Rule} {nm : Bytes} {ds : List Node} {x : List Step} (hw : ∀ d ∈ ds, wfN l d [nm] ∧ wtN l d [nm] ∧ d.name = nm) (h200 : ds.length ≤ 200) {n : ANode} {j : Nat} (hf : findA ds.length (rootP l nm ds) x = (some (n, spansOf (flOf (histV l x ds 0 [] 0).1)), j)) :
  pchV (spansOf (flOf (histV l x ds 0 [] 0).1)) n ds.length 1 [] = chgV l x none ds 0 [] := by
 have hx : x ≠ [] := by intro e; subst e; rw [findA] at hf; cases hf
 have hp := List.length_pos_iff.2 hx
 have hs := sub_law l nm ds x hw h200 n _ j hf
 have := chg_eq l x ds (spansOf (flOf (histV l x ds 0 [] 0).1)) n (hist_has l x ds hx h200)
  (by cases h : hasV (spansOf (flOf (histV l x ds 0 [] 0).1)) 0 with
    | false => rfl
    | true => have := (hist_one h).1; omega)
  (fun k hk h => by
   have := hs _ (heldsOf_k ds 0 k hk) ⟨h, by rw [h]; exact hp⟩
   rw [Nat.zero_add] at this
   exact this) ds.length 0 [] (by omega)
 rw [List.drop_zero] at this
 exact this
theorem may_len {SP : List Span} (h : mayG 1 SP) : SP.length ≤ 1048576 := by
 have := may_count 201 SP 1 h (fun t ht => by have := mayG_head SP 1 h t ht; omega) (by omega)
 omega
theorem nform_wt {l : List Rule} {nm : Bytes} {ks : List Bytes} {rs : List Rule} (hl : l = ⟨[nm], ks⟩ :: rs) {n : Node} (h : NForm l n) : wtN l n [nm] := by
 obtain ⟨a, nm', ks', rs', hm, hl', hk, hn, hc, he, h1, h2⟩ := h
 have e : nm' = nm := by rw [hl] at hl'; simp at hl'; exact hl'.1.1.symm
 subst e
 rw [he]
 exact norm_wt l a [nm'] 0 hk hc
theorem subs_law {l : List Rule} {nm : Bytes} {ds : List Node} {x : List Step} (hw : ∀ d ∈ ds, wfN l d [nm] ∧ wtN l d [nm] ∧ d.name = nm) (h12 : ds.length ≤ 12) (hc : ∀ d ∈ ds, cntN d ≤ 1048576) :
  (spansOf (flOf (histV l x ds 0 [] 0).1) = [] ∧ findA ds.length (rootP l nm ds) x = (none, (histV l x ds 0 [] 0).2)) ∨
  (spansOf (flOf (histV l x ds 0 [] 0).1) ≠ [] ∧ ∃ n j, findA ds.length (rootP l nm ds) x = (some (n, spansOf (flOf (histV l x ds 0 [] 0).1)), j) ∧ aB n = true ∧ (∃ t ∈ x, n.name = t.n) ∧ (∀ v, hasV (spansOf (flOf (histV l x ds 0 [] 0).1)) v = true → 1 ≤ v ∧ v ≤ ds.length) ∧
   (∀ v, inS (spansOf (flOf (histV l x ds 0 [] 0).1)) v = hasV (spansOf (flOf (histV l x ds 0 [] 0).1)) v) ∧ (∀ (k : Nat) (hk : k < ds.length), hasV (spansOf (flOf (histV l x ds 0 [] 0).1)) ((k : Int) + 1) = true → findF l ds[k] x = (atN ((k : Int) + 1) n, x.length)) ∧
   pchV (spansOf (flOf (histV l x ds 0 [] 0).1)) n ds.length 1 [] = chgV l x none ds 0 []) := by
 have hfl := find_law l nm ds x (fun d hd => ⟨(hw d hd).1, (hw d hd).2.2⟩) (by omega)
 by_cases hne : (histV l x ds 0 [] 0).1 = []
 ·
  exact .inl ⟨by rw [hne]; kernel_rfl, hfl.1 hne⟩
 ·
  refine .inr ⟨?_, ?_⟩
  ·
   obtain ⟨v, hv⟩ := List.exists_mem_of_ne_nil _ hne
   obtain ⟨k, hk, e, _⟩ := (hist_mem l x ds v).1 hv
   exact spansOf_ne _ _ hv (by omega) (by omega)
  ·
   obtain ⟨n, j, ef⟩ := hfl.2 hne
   have hb := aB_root hw h12 hc
   obtain ⟨b1, b2⟩ := findA_sub ds.length _ x n _ hb (by rw [ef])
   have hx : x ≠ [] := by intro e; subst e; rw [findA] at ef; cases ef
   have hp := List.length_pos_iff.2 hx
   refine ⟨n, j, ef, b1, b2, fun v hv => hist_one hv, fun v => (hasV_inS _ v).symm, fun k hk hv => ?_, chg_law hw (by omega) ef⟩
   rw [hist_has l x ds hx (by omega) k hk] at hv
   have hl := of_decide_eq_true hv
   have hs := sub_law l nm ds x hw (by omega) n _ j ef _ (heldsOf_k ds 0 k hk) ⟨hl, by simp only; rw [hl]; exact hp⟩
   rw [Nat.zero_add] at hs
   exact Prod.ext hs.symm hl
end Go.Proofs.YtkelpbbekeelcaaGreatDoor
