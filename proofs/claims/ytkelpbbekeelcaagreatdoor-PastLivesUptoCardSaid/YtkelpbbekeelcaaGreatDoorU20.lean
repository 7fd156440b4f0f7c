/-
 The lives of the archive of documents are the lives of the documents; plain. Helper lemmas; no statement of the seat is proved here.
-/
import Derived.Test.YtkelpbbekeelcaaGreatDoorU19
import Derived.Test.YtkelpbbekeelcaaGreatDoorU11
namespace Go.Proofs.YtkelpbbekeelcaaGreatDoor
open Go.RowKit
set_option maxRecDepth 100000
set_option linter.unusedVariables false
set_option linter.unusedSimpArgs false

mutual
/-- An element and all below it, an element's life ahead of its children's. -/
def preA : ANode → List Step → List Span → List Life
 | .mk nm key v _ ks, path, above => ⟨path ++ [⟨nm, key⟩], eitherS v above⟩ :: preAL ks (path ++ [⟨nm, key⟩]) (eitherS v above)
def preAL : List ANode → List Step → List Span → List Life
 | [], _, _ => []
 | n :: r, path, above => preA n path above ++ preAL r path above
end
theorem preA_eq (n : ANode) (path : List Step) (above : List Span) : preA n path above = ⟨path ++ [⟨n.name, n.key⟩], eitherS n.vers above⟩ :: preAL n.kids (path ++ [⟨n.name, n.key⟩]) (eitherS n.vers above) := by cases n; rw [preA]; rfl
theorem mem_preAL (y : Life) (path : List Step) (above : List Span) : ∀ K : List ANode, y ∈ preAL K path above ↔ ∃ n ∈ K, y ∈ preA n path above
 | [] => by simp [preAL]
 | n :: r => by rw [preAL, List.mem_append, mem_preAL y path above r]; simp
theorem pathAhead_asymm : ∀ x y : List Step, pathAhead x y = true → pathAhead y x = false
 | [], [], h => by cases h
 | [], _ :: _, _ => rfl
 | _ :: _, [], h => by cases h
 | a :: x, b :: y, h => by
  rw [pathAhead] at h ⊢
  by_cases e : a = b
  ·
   subst e
   rw [if_pos ((stepB_iff a a).2 rfl)] at h ⊢
   exact pathAhead_asymm x y h
  ·
   rw [if_neg (fun h => e ((stepB_iff _ _).1 h))] at h
   rw [if_neg (fun h => e ((stepB_iff _ _).1 h).symm)]
   exact aheadB_asymm _ _ h
theorem pathAhead_trans : ∀ x y z : List Step, pathAhead x y = true → pathAhead y z = true → pathAhead x z = true
 | [], [], _, h, _ => by cases h
 | _ :: _, [], _, h, _ => by cases h
 | _, _ :: _, [], _, h => by cases h
 | [], _ :: _, _ :: _, _, _ => rfl
 | a :: x, b :: y, c :: z, h, k => by
  rw [pathAhead] at h k ⊢
  by_cases e1 : a = b
  ·
   subst e1
   rw [if_pos ((stepB_iff a a).2 rfl)] at h
   by_cases e2 : a = c
   ·
    subst e2
    rw [if_pos ((stepB_iff a a).2 rfl)] at k ⊢
    exact pathAhead_trans x y z h k
   ·
    rw [if_neg (fun h => e2 ((stepB_iff _ _).1 h))] at k ⊢
    exact k
  ·
   rw [if_neg (fun h => e1 ((stepB_iff _ _).1 h))] at h
   by_cases e2 : b = c
   ·
    subst e2
    rw [if_neg (fun h => e1 ((stepB_iff _ _).1 h))]
    exact h
   ·
    rw [if_neg (fun h => e2 ((stepB_iff _ _).1 h))] at k
    have h3 := aheadB_trans _ _ _ h k
    have e3 : a ≠ c := by intro e; subst e; rw [aheadB_irrefl] at h3; cases h3
    rw [if_neg (fun h => e3 ((stepB_iff _ _).1 h))]
    exact h3
theorem pathAhead_total : ∀ x y : List Step, x ≠ y → pathAhead x y = false → pathAhead y x = true
 | [], [], h, _ => absurd rfl h
 | [], _ :: _, _, h => by cases h
 | _ :: _, [], _, _ => rfl
 | a :: x, b :: y, h, k => by
  rw [pathAhead] at k ⊢
  by_cases e : a = b
  ·
   subst e
   rw [if_pos ((stepB_iff a a).2 rfl)] at k ⊢
   exact pathAhead_total x y (fun e => h (by rw [e])) k
  ·
   rw [if_neg (fun h => e ((stepB_iff _ _).1 h))] at k
   rw [if_neg (fun h => e ((stepB_iff _ _).1 h).symm)]
   exact aheadB_total _ _ e k
theorem pathAhead_app (P : List Step) (x y : List Step) : pathAhead (P ++ x) (P ++ y) = pathAhead x y := by
 induction P with
 | nil => rfl
 | cons a P ih => rw [List.cons_append, List.cons_append, pathAhead, if_pos ((stepB_iff a a).2 rfl), ih]
theorem pathB_iff : ∀ x y : List Step, pathB x y = true ↔ x = y
 | [], [] => by simp [pathB]
 | [], _ :: _ => by simp [pathB]
 | _ :: _, [] => by simp [pathB]
 | a :: x, b :: y => by rw [pathB, Bool.and_eq_true, stepB_iff, pathB_iff x y, List.cons.injEq]
/-- Lives that rise. -/
def LSort (L : List Life) : Prop := L.Pairwise fun a b => pathAhead a.path b.path = true
theorem lsort_ext : ∀ A B : List Life, LSort A → LSort B → (∀ y, y ∈ A ↔ y ∈ B) → A = B
 | [], [], _, _, _ => rfl
 | [], b :: B, _, _, h => absurd ((h b).2 List.mem_cons_self) (by simp)
 | a :: A, [], _, _, h => absurd ((h a).1 List.mem_cons_self) (by simp)
 | a :: A, b :: B, hA, hB, h => by
  rw [LSort, List.pairwise_cons] at hA hB
  have hirr : ∀ y : Life, pathAhead y.path y.path ≠ true := fun y e => by have := pathAhead_asymm _ _ e; rw [e] at this; cases this
  have e : a = b := by
   rcases List.mem_cons.1 ((h a).1 List.mem_cons_self) with e | h1
   ·
    exact e
   ·
    rcases List.mem_cons.1 ((h b).2 List.mem_cons_self) with e | h2
    ·
     exact e.symm
    ·
     have h3 := pathAhead_asymm _ _ (hB.1 a h1)
     rw [hA.1 b h2] at h3; cases h3
  subst e
  rw [lsort_ext A B hA.2 hB.2 fun y => ?_]
  constructor
  ·
   intro hy
   rcases List.mem_cons.1 ((h y).1 (List.mem_cons_of_mem _ hy)) with e | h1
   ·
    subst e; exact absurd (hA.1 _ hy) (hirr _)
   ·
    exact h1
  ·
   intro hy
   rcases List.mem_cons.1 ((h y).2 (List.mem_cons_of_mem _ hy)) with e | h1
   ·
    subst e; exact absurd (hB.1 _ hy) (hirr _)
   ·
    exact h1
/-- One life more. -/
def addY (V : List Step → List Span) (x : List Step) (out : List Life) : List Life :=
 if (if h : lifePos x out < out.length then pathB out[lifePos x out].path x else false) = true then out else insAt out (lifePos x out) ⟨x, V x⟩
theorem addY_cons (V : List Step → List Span) (x : List Step) (a : Life) (out : List Life) :
  addY V x (a :: out) = if pathAhead a.path x = true then a :: addY V x out else if a.path = x then a :: out else ⟨x, V x⟩ :: a :: out := by
 unfold addY
 have hp := lifePos_cons x a out
 by_cases h1 : pathAhead a.path x = true
 ·
  rw [if_pos h1] at hp ⊢
  rw [hp]
  have e : (if h : lifePos x out + 1 < (a :: out).length then pathB (a :: out)[lifePos x out + 1].path x else false) = (if h : lifePos x out < out.length then pathB out[lifePos x out].path x else false) := by
   by_cases h2 : lifePos x out < out.length
   ·
    rw [dif_pos h2, dif_pos (by simpa using h2)]; simp
   ·
    rw [dif_neg h2, dif_neg (by simpa using h2)]
  rw [e, insAt_cons]
  generalize (if h : lifePos x out < out.length then pathB out[lifePos x out].path x else false) = c
  cases c <;> rfl
 ·
  rw [if_neg h1] at hp ⊢
  rw [hp, dif_pos (by simp)]
  simp only [List.getElem_cons_zero]
  by_cases h2 : a.path = x
  ·
   rw [if_pos ((pathB_iff _ _).2 h2), if_pos h2]
  ·
   rw [if_neg (fun h => h2 ((pathB_iff _ _).1 h)), if_neg h2, insAt_zero]
theorem addY_law (V : List Step → List Span) (x : List Step) : ∀ out : List Life, LSort out → (∀ y ∈ out, y.vers = V y.path) → LSort (addY V x out) ∧ ∀ y, y ∈ addY V x out ↔ y ∈ out ∨ y = ⟨x, V x⟩
 | [], _, _ => by
  have e : addY V x [] = [⟨x, V x⟩] := by unfold addY; simp [lifePos, insAt]
  rw [e]; simp [LSort]
 | a :: out, hs, hv => by
  rw [LSort, List.pairwise_cons] at hs
  rw [addY_cons]
  by_cases h1 : pathAhead a.path x = true
  ·
   rw [if_pos h1]
   obtain ⟨i1, i2⟩ := addY_law V x out hs.2 fun y hy => hv y (List.mem_cons_of_mem _ hy)
   refine ⟨?_, fun y => ?_⟩
   ·
    rw [LSort, List.pairwise_cons]
    refine ⟨fun y hy => ?_, i1⟩
    rcases (i2 y).1 hy with hy | e
    ·
     exact hs.1 y hy
    ·
     rw [e]; exact h1
   ·
    rw [List.mem_cons, i2, List.mem_cons, or_assoc]
  ·
   rw [if_neg h1]
   by_cases h2 : a.path = x
   ·
    rw [if_pos h2]
    refine ⟨by rw [LSort, List.pairwise_cons]; exact hs, fun y => ⟨.inl, fun h => ?_⟩⟩
    rcases h with h | e
    ·
     exact h
    ·
     have ha := hv a List.mem_cons_self
     rw [e, ← h2, ← ha]; exact List.mem_cons_self
   ·
    rw [if_neg h2]
    have h3 := pathAhead_total _ _ h2 (by simpa using h1)
    refine ⟨?_, fun y => ?_⟩
    ·
     rw [LSort, List.pairwise_cons, List.pairwise_cons]
     refine ⟨fun y hy => ?_, hs⟩
     rcases List.mem_cons.1 hy with e | hy
     ·
      rw [e]; exact h3
     ·
      exact pathAhead_trans _ _ _ h3 (hs.1 y hy)
    ·
     rw [List.mem_cons]; exact or_comm
theorem livesJ_law (l : List Rule) (ds : List Node) : ∀ (L : List (List Step)) (out : List Life), LSort out → (∀ y ∈ out, y.vers = spansOf (flOf (histV l y.path ds 0 [] 0).1)) →
  LSort (livesJ l ds L out) ∧ (∀ y ∈ livesJ l ds L out, y.vers = spansOf (flOf (histV l y.path ds 0 [] 0).1)) ∧ ∀ y, y ∈ livesJ l ds L out ↔ y ∈ out ∨ ∃ x ∈ L, y = ⟨x, spansOf (flOf (histV l x ds 0 [] 0).1)⟩
 | [], out, hs, hv => ⟨hs, hv, fun y => by simp [livesJ]⟩
 | x :: r, out, hs, hv => by
  obtain ⟨i1, i2⟩ := addY_law (fun x => spansOf (flOf (histV l x ds 0 [] 0).1)) x out hs hv
  have e : addL l ds x out = addY (fun x => spansOf (flOf (histV l x ds 0 [] 0).1)) x out := rfl
  obtain ⟨j1, j2, j3⟩ := livesJ_law l ds r (addL l ds x out) (by rw [e]; exact i1) (fun y hy => by
   rw [e] at hy
   rcases (i2 y).1 hy with h | h
   ·
    exact hv y h
   ·
    rw [h])
  refine ⟨j1, j2, fun y => ?_⟩
  rw [livesJ, j3, e, i2]
  simp only [List.mem_cons, exists_eq_or_imp, or_assoc]
theorem livesI_law (l : List Rule) (ds : List Node) : ∀ (L : List Node) (out : List Life), LSort out → (∀ y ∈ out, y.vers = spansOf (flOf (histV l y.path ds 0 [] 0).1)) →
  LSort (livesI l ds L out) ∧ ∀ y, y ∈ livesI l ds L out ↔ y ∈ out ∨ ∃ d ∈ L, ∃ x ∈ belowN l d [] [⟨d.name, []⟩], y = ⟨x, spansOf (flOf (histV l x ds 0 [] 0).1)⟩
 | [], out, hs, hv => ⟨hs, fun y => by simp [livesI]⟩
 | d :: r, out, hs, hv => by
  obtain ⟨i1, i2, i3⟩ := livesJ_law l ds (belowN l d [] [⟨d.name, []⟩]) out hs hv
  obtain ⟨j1, j2⟩ := livesI_law l ds r _ i1 i2
  refine ⟨j1, fun y => ?_⟩
  rw [livesI, j2, i3]
  simp only [List.mem_cons, exists_eq_or_imp, or_assoc]
theorem walkF_shift (l : List Rule) : ∀ (x : List Step) (n : Node) (path : List Bytes) (i : Nat), walkF l n path x i = ((walkF l n path x 0).1, i + (walkF l n path x 0).2)
 | [], n, path, i => by rw [walkF, walkF]; rfl
 | s :: r, n, path, i => by
  rw [walkF, walkF]
  split
  ·
   rfl
  ·
   rw [walkF_shift l r _ _ (i + 1), walkF_shift l r _ _ (0 + 1)]
   simp only
   congr 1; omega
/-- Has a node a path below it? -/
def hasP (l : List Rule) (n : Node) (path : List Bytes) (r : List Step) : Bool := decide ((walkF l n path r 0).2 = r.length)
theorem hasP_at (l : List Rule) (n : Node) (path : List Bytes) (r : List Step) (i : Nat) : ((walkF l n path r i).2 = i + r.length) ↔ hasP l n path r = true := by
 rw [walkF_shift]; unfold hasP; rw [decide_eq_true_iff]; simp only; omega
theorem hasP_nil (l : List Rule) (n : Node) (path : List Bytes) : hasP l n path [] = true := by unfold hasP; rw [walkF]; rfl
theorem hasP_step (l : List Rule) (n : Node) (path : List Bytes) (t : Step) (r : List Step) (hw : wfN l n path) :
  (lookK t (stepsS l path n.kids) n.kids = none → hasP l n path (t :: r) = false) ∧ ∀ k, lookK t (stepsS l path n.kids) n.kids = some k → hasP l k (path ++ [t.n]) r = hasP l n path (t :: r) := by
 obtain ⟨h1, h2⟩ := walkF_step l n path t r 0 hw
 refine ⟨fun e => ?_, fun k e => ?_⟩
 ·
  unfold hasP; rw [h1 e]; exact decide_eq_false (by simp)
 ·
  rw [Bool.eq_iff_iff, ← hasP_at l n path (t :: r) 0, (h2 k e).2.2, ← hasP_at l k _ r (0 + 1), List.length_cons]
  omega
theorem ownV_map {A B : List Held} (h : A.map (·.v) = B.map (·.v)) : ownV A = ownV B := by unfold ownV; rw [h]
/-- What lives the archive's element and all below it have. -/
theorem pre_mem (l : List Rule) : ∀ (N : Nat) (path : List Bytes) (s : Step) (hs : List Held) (above : List Span) (P : List Step), hs ≠ [] → (∀ h ∈ hs, wfN l h.n path ∧ nsz h.n ≤ N ∧ 1 ≤ h.v ∧ h.v ≤ 200) →
  LSort (preA (nodeP l N path s hs above) P above) ∧
  ∀ y, y ∈ preA (nodeP l N path s hs above) P above ↔ ∃ r, y.path = P ++ s :: r ∧ hs.filter (fun h => hasP l h.n path r) ≠ [] ∧ y.vers = ownV (hs.filter fun h => hasP l h.n path r)
 | 0, path, s, hs, above, P, h0, hh => by
  obtain ⟨h, hm⟩ := List.exists_mem_of_ne_nil hs h0
  have := (hh h hm).2.1
  have := nsz_pos h.n
  omega
 | N + 1, path, s, hs, above, P, h0, hh => by
  have hG := gather_all l path hs
  have hev : eitherS (nodeP l (N + 1) path s hs above).vers above = ownV hs := by rw [nodeP_vers]; exact either_vers hs above h0 fun h hm => (hh h hm).2.2
  have hnm : (nodeP l (N + 1) path s hs above).name = s.n := rfl
  have hky : (nodeP l (N + 1) path s hs above).key = s.key := rfl
  rw [preA_eq, hev, hnm, hky]
  have hse : (⟨s.n, s.key⟩ : Step) = s := by cases s; rfl
  rw [hse]
  have hall : hs.filter (fun h => hasP l h.n path []) = hs := List.filter_eq_self.2 fun h _ => hasP_nil l h.n path
  have hk := nodeP_kids l N path s hs above
  obtain ⟨K, hK⟩ : ∃ K, (nodeP l (N + 1) path s hs above).kids = K := ⟨_, rfl⟩
  rw [hK] at hk ⊢
  -- what the children give
  have hkids : LSort (preAL K (P ++ [s]) (ownV hs)) ∧ ∀ y, y ∈ preAL K (P ++ [s]) (ownV hs) ↔ ∃ t r, y.path = P ++ s :: t :: r ∧ hs.filter (fun h => hasP l h.n path (t :: r)) ≠ [] ∧ y.vers = ownV (hs.filter fun h => hasP l h.n path (t :: r)) := by
   cases hf : frontS l path with
   | true =>
    rw [hf, if_pos rfl] at hk
    subst hk
    refine ⟨by simp [preAL, LSort], fun y => ⟨fun h => by simp [preAL] at h, ?_⟩⟩
    rintro ⟨t, r, _, h2, _⟩
    obtain ⟨h, hm⟩ := List.exists_mem_of_ne_nil _ h2
    obtain ⟨hm1, hm2⟩ := List.mem_filter.1 hm
    have hlk : lookK t (stepsS l path h.n.kids) h.n.kids = none := by rw [front_steps l path hf]; cases h.n.kids <;> rfl
    rw [(hasP_step l h.n path t r (hh h hm1).1).1 hlk] at hm2
    cases hm2
   | false =>
    rw [hf, if_neg (by decide)] at hk
    have hris : ∀ h ∈ hs, Rising (stepsS l path h.n.kids) := fun h hm => ((((wfN_eq l h.n path).1 (hh h hm).1).2 hf).2.1)
    have hsub : ∀ t, ∀ g ∈ selH l path t hs, wfN l g.n (path ++ [t.n]) ∧ nsz g.n ≤ N ∧ 1 ≤ g.v ∧ g.v ≤ 200 := fun t g hg => by
     obtain ⟨h, hm, hkk, hv⟩ := (selH_mem l path t hs hris g).1 hg
     obtain ⟨hk1, hk2, _⟩ := (walkF_step l h.n path t [] 0 (hh h hm).1).2 _ hkk
     have hw := (((wfN_eq l h.n path).1 (hh h hm).1).2 hf).2.2
     have := wfL_mem l path _ _ hw hk1
     rw [hk2] at this
     have h6 := nsz_mem _ _ hk1
     have h7 := (hh h hm).2.1
     exact ⟨this, by omega, by rw [hv]; exact (hh h hm).2.2⟩
    have hfil : ∀ t r, ((selH l path t hs).filter fun h => hasP l h.n (path ++ [t.n]) r).map (·.v) = (hs.filter fun h => hasP l h.n path (t :: r)).map (·.v) := fun t r =>
     selH_filter l path t (fun h => hasP l h.n path (t :: r)) (fun h => hasP l h.n (path ++ [t.n]) r) hs fun h hm => ⟨hris h hm, (hasP_step l h.n path t r (hh h hm).1).1, fun k hkk => (hasP_step l h.n path t r (hh h hm).1).2 k hkk⟩
    have hz : ∀ p ∈ (gather l path hs ([], [])).1.zip (gather l path hs ([], [])).2, LSort (preA (nodeP l N (path ++ [p.1.n]) p.1 p.2 (ownV hs)) (P ++ [s]) (ownV hs)) ∧
      ∀ y, y ∈ preA (nodeP l N (path ++ [p.1.n]) p.1 p.2 (ownV hs)) (P ++ [s]) (ownV hs) ↔ ∃ r, y.path = P ++ s :: p.1 :: r ∧ hs.filter (fun h => hasP l h.n path (p.1 :: r)) ≠ [] ∧ y.vers = ownV (hs.filter fun h => hasP l h.n path (p.1 :: r)) := fun p hp => by
     have hp2 : p.2 = selH l path p.1 hs := hG.eq p hp
     have hs0 : selH l path p.1 hs ≠ [] := (hG.iff p.1).2 (List.of_mem_zip hp).1
     rw [hp2]
     obtain ⟨a, b⟩ := pre_mem l N (path ++ [p.1.n]) p.1 (selH l path p.1 hs) (ownV hs) (P ++ [s]) hs0 (hsub p.1)
     refine ⟨a, fun y => ?_⟩
     rw [b]
     constructor
     ·
      rintro ⟨r, h1, h2, h3⟩
      refine ⟨r, by rw [h1, List.append_assoc]; rfl, fun e => h2 ?_, by rw [h3]; exact ownV_map (hfil p.1 r)⟩
      have := hfil p.1 r
      rw [e, List.map_nil, List.map_eq_nil_iff] at this; exact this
     ·
      rintro ⟨r, h1, h2, h3⟩
      refine ⟨r, by rw [h1, List.append_assoc]; rfl, fun e => h2 ?_, by rw [h3]; exact (ownV_map (hfil p.1 r)).symm⟩
      have := hfil p.1 r
      rw [e, List.map_nil] at this
      exact List.map_eq_nil_iff.1 this.symm
    subst hk
    refine ⟨?_, fun y => ?_⟩
    ·
     have hr := hG.rise
     have hzl : (gather l path hs ([], [])).1.length = (gather l path hs ([], [])).2.length := hG.len
     generalize (gather l path hs ([], [])).1 = S at hr hz hzl
     generalize (gather l path hs ([], [])).2 = V at hz hzl
     clear hG
     induction S generalizing V with
     | nil => simp [preAL, LSort]
     | cons a S ih =>
      cases V with
      | nil => simp [preAL, LSort]
      | cons v V =>
       rw [Rising, List.pairwise_cons] at hr
       rw [List.zip_cons_cons, List.map_cons, preAL, LSort, List.pairwise_append]
       have hi := ih hr.2 V (fun p hp => hz p (by rw [List.zip_cons_cons]; exact List.mem_cons_of_mem _ hp)) (by simpa using hzl)
       obtain ⟨z1, z2⟩ := hz (a, v) (by rw [List.zip_cons_cons]; exact List.mem_cons_self)
       refine ⟨z1, hi, fun y hy z hzz => ?_⟩
       obtain ⟨r, e1, _⟩ := (z2 y).1 hy
       obtain ⟨n, hn, hzn⟩ := (mem_preAL z _ _ _).1 hzz
       obtain ⟨p, hp, rfl⟩ := List.mem_map.1 hn
       obtain ⟨r', e2, _⟩ := ((hz p (by rw [List.zip_cons_cons]; exact List.mem_cons_of_mem _ hp)).2 z).1 hzn
       rw [e1, e2, pathAhead_app, pathAhead, if_pos ((stepB_iff s s).2 rfl), pathAhead]
       have hah := hr.1 p.1 (List.of_mem_zip hp).1
       have hne : a ≠ p.1 := by intro e; rw [← e, aheadB_irrefl] at hah; cases hah
       rw [if_neg (fun h => hne ((stepB_iff _ _).1 h))]
       exact hah
    ·
     rw [mem_preAL]
     constructor
     ·
      rintro ⟨n, hn, hy⟩
      obtain ⟨p, hp, rfl⟩ := List.mem_map.1 hn
      obtain ⟨r, h1, h2, h3⟩ := ((hz p hp).2 y).1 hy
      exact ⟨p.1, r, h1, h2, h3⟩
     ·
      rintro ⟨t, r, h1, h2, h3⟩
      obtain ⟨h, hm⟩ := List.exists_mem_of_ne_nil _ h2
      obtain ⟨hm1, hm2⟩ := List.mem_filter.1 hm
      have hlk : lookK t (stepsS l path h.n.kids) h.n.kids ≠ none := fun e => by
       rw [(hasP_step l h.n path t r (hh h hm1).1).1 e] at hm2; cases hm2
      obtain ⟨k, hkk⟩ := Option.ne_none_iff_exists'.1 hlk
      have hs0 : selH l path t hs ≠ [] := by
       intro e
       have := (selH_mem l path t hs hris ⟨h.v, k⟩).2 ⟨h, hm1, hkk, rfl⟩
       rw [e] at this; cases this
      have ht := (hG.iff t).1 hs0
      obtain ⟨j, hj, e⟩ := List.getElem_of_mem ht
      have hp : (t, (gather l path hs ([], [])).2[j]'(by rw [← hG.len]; exact hj)) ∈ (gather l path hs ([], [])).1.zip (gather l path hs ([], [])).2 := by
       have := List.getElem_mem (l := (gather l path hs ([], [])).1.zip (gather l path hs ([], [])).2) (n := j) (by rw [List.length_zip, ← hG.len]; omega)
       rw [List.getElem_zip, e] at this; exact this
      exact ⟨_, List.mem_map.2 ⟨_, hp, rfl⟩, ((hz _ hp).2 y).2 ⟨r, h1, h2, h3⟩⟩
  refine ⟨?_, fun y => ?_⟩
  ·
   rw [LSort, List.pairwise_cons]
   refine ⟨fun y hy => ?_, hkids.1⟩
   obtain ⟨t, r, h1, _⟩ := (hkids.2 y).1 hy
   rw [h1, pathAhead_app, pathAhead, if_pos ((stepB_iff s s).2 rfl)]; rfl
  ·
   rw [List.mem_cons, hkids.2]
   constructor
   ·
    rintro (e | ⟨t, r, h1, h2, h3⟩)
    ·
     rw [e]; exact ⟨[], rfl, by rw [hall]; exact h0, by rw [hall]⟩
    ·
     exact ⟨t :: r, h1, h2, h3⟩
   ·
    rintro ⟨r, h1, h2, h3⟩
    cases r with
    | nil =>
     left
     rw [hall] at h3
     cases y; simp only at h1 h3; rw [h1, h3]
    | cons t r => exact .inr ⟨t, r, h1, h2, h3⟩
end Go.Proofs.YtkelpbbekeelcaaGreatDoor

/-
 The lives of the archive of documents, and the life above each; plain. Helper lemmas; no statement of the seat is proved here.
-/
namespace Go.Proofs.YtkelpbbekeelcaaGreatDoor
open Go.RowKit
set_option maxRecDepth 100000
set_option linter.unusedVariables false
set_option linter.unusedSimpArgs false

theorem belowL_of (l : List Rule) (x : List Step) (k : Node) (s : Step) : ∀ (ks : List Node) (ss : List Step) (names : List Bytes) (path : List Step) (j : Nat), ks[j]? = some k → ss[j]? = some s → x ∈ belowN l k names (path ++ [s]) → x ∈ belowL l ks ss names path
 | n :: r, t :: ss, names, path, 0, h1, h2, h => by
  simp at h1 h2
  rw [belowL, h1, h2]; exact List.mem_append_left _ h
 | n :: r, t :: ss, names, path, j + 1, h1, h2, h => by
  rw [belowL]; exact List.mem_append_right _ (belowL_of l x k s r ss names path j (by simpa using h1) (by simpa using h2) h)
 | [], _, _, _, j, h1, _, _ => by simp at h1
 | _ :: _, [], _, _, j, _, h2, _ => by simp at h2
theorem lookK_some (t : Step) (k : Node) : ∀ (ss : List Step) (ks : List Node), lookK t ss ks = some k → ∃ j : Nat, ss[j]? = some t ∧ ks[j]? = some k
 | [], ks, h => by cases ks <;> cases h
 | _ :: _, [], h => by cases h
 | s :: ss, a :: ks, h => by
  rw [lookK] at h
  by_cases e : t = s
  ·
   rw [if_pos e] at h
   exact ⟨0, by simp [e], by simpa using h⟩
  ·
   rw [if_neg e] at h
   obtain ⟨j, h1, h2⟩ := lookK_some t k ss ks h
   exact ⟨j + 1, by simpa using h1, by simpa using h2⟩
theorem below_has (l : List Rule) : ∀ (r : List Step) (n : Node) (above : List Bytes) (path : List Step), wfN l n (above ++ [n.name]) → hasP l n (above ++ [n.name]) r = true → path ++ r ∈ belowN l n above path
 | [], n, above, path, hw, _ => by cases n; rw [belowN, List.append_nil]; exact List.mem_cons_self
 | t :: r, n, above, path, hw, h => by
  obtain ⟨h1, h2⟩ := hasP_step l n (above ++ [n.name]) t r hw
  cases hlk : lookK t (stepsS l (above ++ [n.name]) n.kids) n.kids with
  | none => rw [h1 hlk] at h; cases h
  | some k =>
   rw [← h2 k hlk] at h
   obtain ⟨hkm, hkn, _⟩ := (walkF_step l n (above ++ [n.name]) t r 0 hw).2 k hlk
   cases hf : frontS l (above ++ [n.name]) with
   | true =>
    rw [front_steps l _ hf] at hlk
    cases hk : n.kids <;> rw [hk] at hlk <;> cases hlk
   | false =>
    have hwk := wfL_mem l _ _ k (((wfN_eq l n _).1 hw).2 hf).2.2 hkm
    obtain ⟨j, hj1, hj2⟩ := lookK_some t k _ _ hlk
    have hi := below_has l r k (above ++ [n.name]) (path ++ [t]) hwk (by rw [hkn]; exact h)
    rw [List.append_assoc] at hi
    have hb : belowN l n above path = path :: belowL l n.kids (stepsS l (above ++ [n.name]) n.kids) (above ++ [n.name]) path := by cases n; rw [belowN]; rfl
    rw [hb]
    exact List.mem_cons_of_mem _ (belowL_of l _ k t _ _ _ _ j hj2 hj1 hi)
theorem hasP_pre (l : List Rule) : ∀ (r r' : List Step) (n : Node) (path : List Bytes), wfN l n path → hasP l n path (r ++ r') = true → hasP l n path r = true
 | [], r', n, path, _, _ => hasP_nil l n path
 | t :: r, r', n, path, hw, h => by
  obtain ⟨h1, h2⟩ := hasP_step l n path t (r ++ r') hw
  obtain ⟨g1, g2⟩ := hasP_step l n path t r hw
  rw [List.cons_append] at h
  cases hlk : lookK t (stepsS l path n.kids) n.kids with
  | none => rw [h1 hlk] at h; cases h
  | some k =>
   rw [← h2 k hlk] at h
   rw [← g2 k hlk]
   obtain ⟨hkm, hkn, _⟩ := (walkF_step l n path t r 0 hw).2 k hlk
   cases hf : frontS l path with
   | true =>
    rw [front_steps l _ hf] at hlk
    cases hk : n.kids <;> rw [hk] at hlk <;> cases hlk
   | false =>
    have hwk := wfL_mem l _ _ k (((wfN_eq l n _).1 hw).2 hf).2.2 hkm
    rw [hkn] at hwk
    exact hasP_pre l r r' k _ hwk h
section
variable {l : List Rule} {nm : Bytes} {ds : List Node}
theorem hist_root (hw : ∀ d ∈ ds, wfN l d [nm] ∧ d.name = nm) (r : List Step) : (histV l (⟨nm, []⟩ :: r) ds 0 [] 0).1 = ((heldsOf ds 0).filter fun h => hasP l h.n [nm] r).map (·.v) := by
 obtain ⟨e, _⟩ := histV_law l (⟨nm, []⟩ :: r) ds 0 [] 0
 rw [e, List.nil_append]
 congr 1
 refine List.filter_congr fun h hm => ?_
 obtain ⟨a, _, _⟩ := heldsOf_mem ds 0 h hm
 obtain ⟨b, c⟩ := hw _ a
 have hk := ((wfN_eq l _ _).1 b).1
 rw [findF, c, if_pos ⟨hk, (stepB_iff _ _).2 rfl⟩, Bool.eq_iff_iff, decide_eq_true_iff, ← hasP_at l h.n [nm] r 1, List.length_cons]
 have := walkF_ge l r h.n [nm] 1
 omega
theorem lives_mem (hw : ∀ d ∈ ds, wfN l d [nm] ∧ d.name = nm) (y : Life) : y ∈ livesI l ds ds [] ↔ ∃ r, y.path = ⟨nm, []⟩ :: r ∧ (heldsOf ds 0).filter (fun h => hasP l h.n [nm] r) ≠ [] ∧ y.vers = ownV ((heldsOf ds 0).filter fun h => hasP l h.n [nm] r) := by
 obtain ⟨_, hm⟩ := livesI_law l ds ds [] List.Pairwise.nil (fun y hy => by cases hy)
 rw [hm]
 constructor
 ·
  rintro (h | ⟨d, hd, x, hx, rfl⟩)
  ·
   cases h
  ·
   obtain ⟨hwd, hnd⟩ := hw d hd
   obtain ⟨r, er, hr⟩ := below_found l x _ d [] [⟨d.name, []⟩] (Nat.le_refl _) (by rw [hnd]; exact hwd) hx
   rw [List.nil_append, hnd] at hr
   rw [hnd] at er
   have ex : x = ⟨nm, []⟩ :: r := er
   refine ⟨r, ex, ?_, by simp only; rw [ex, hist_root hw]; rfl⟩
   obtain ⟨k, hk, e⟩ := heldsOf_has ds 0 d hd
   exact List.ne_nil_of_mem (List.mem_filter.2 ⟨hk, by rw [e]; exact (hasP_at l d [nm] r 0).1 (hr 0)⟩)
 ·
  rintro ⟨r, h1, h2, h3⟩
  right
  obtain ⟨k, hk⟩ := List.exists_mem_of_ne_nil _ h2
  obtain ⟨hk1, hk2⟩ := List.mem_filter.1 hk
  obtain ⟨a, _, _⟩ := heldsOf_mem ds 0 k hk1
  obtain ⟨b, c⟩ := hw _ a
  refine ⟨k.n, a, ⟨nm, []⟩ :: r, ?_, ?_⟩
  ·
   have := below_has l r k.n [] [⟨k.n.name, []⟩] (by rw [c]; exact b) (by rw [c]; exact hk2)
   rw [c] at this ⊢; exact this
  ·
   cases y; simp only at h1 h3; rw [h1, h3, hist_root hw]; rfl
/-- The lives are those of the archive. -/
theorem lives_eq (hw : ∀ d ∈ ds, wfN l d [nm] ∧ d.name = nm) (h200 : ds.length ≤ 200) (hd : ds ≠ []) : preA (rootP l nm ds) [] [] = livesI l ds ds [] := by
 have hroot : rootP l nm ds = nodeP l (nszL ds + 1) [nm] ⟨nm, []⟩ (heldsOf ds 0) [] := by unfold rootP; rw [if_neg hd]
 have hne : heldsOf ds 0 ≠ [] := by cases ds with | nil => exact absurd rfl hd | cons d r => intro e; rw [heldsOf] at e; cases e
 have hall : ∀ h ∈ heldsOf ds 0, wfN l h.n [nm] ∧ nsz h.n ≤ nszL ds + 1 ∧ 1 ≤ h.v ∧ h.v ≤ 200 := fun h hm => by
  obtain ⟨a, b, c⟩ := heldsOf_mem ds 0 h hm
  have := nszL_le ds h.n a
  exact ⟨(hw _ a).1, by omega, by omega, by omega⟩
 obtain ⟨h1, h2⟩ := pre_mem l (nszL ds + 1) [nm] ⟨nm, []⟩ (heldsOf ds 0) [] [] hne hall
 obtain ⟨h3, _⟩ := livesI_law l ds ds [] List.Pairwise.nil (fun y hy => by cases hy)
 rw [hroot]
 refine lsort_ext _ _ h1 h3 fun y => ?_
 rw [h2, lives_mem hw]; rfl
/-- A life's path above it is a life's, ahead of it, with all its versions. -/
theorem lives_above (hw : ∀ d ∈ ds, wfN l d [nm] ∧ d.name = nm) (i : Nat) (hi : i < (livesI l ds ds []).length) (hl : (livesI l ds ds [])[i].path.length ≠ 1) :
  (∃ k, ∃ (hk : k < (livesI l ds ds []).length), k < i ∧ (livesI l ds ds [])[k].path = (livesI l ds ds [])[i].path.take ((livesI l ds ds [])[i].path.length - 1)) ∧
  ∀ k, ∀ (hk : k < (livesI l ds ds []).length), (livesI l ds ds [])[k].path = (livesI l ds ds [])[i].path.take ((livesI l ds ds [])[i].path.length - 1) → ∀ j, inS (livesI l ds ds [])[i].vers j = true → inS (livesI l ds ds [])[k].vers j = true := by
 obtain ⟨hs, _⟩ := livesI_law l ds ds [] List.Pairwise.nil (fun y hy => by cases hy)
 have hmem := lives_mem (l := l) (nm := nm) (ds := ds) hw
 obtain ⟨LV, hLV⟩ : ∃ L, livesI l ds ds [] = L := ⟨_, rfl⟩
 simp only [hLV] at hi hl hs hmem ⊢
 obtain ⟨r, e1, e2, e3⟩ := (hmem _).1 (List.getElem_mem hi)
 rw [e1, List.length_cons] at hl
 have hr : r ≠ [] := by intro e; subst e; exact hl rfl
 obtain ⟨r0, t, rfl⟩ : ∃ r0 t, r = r0 ++ [t] := ⟨r.dropLast, r.getLast hr, (List.dropLast_concat_getLast hr).symm⟩
 have htk : LV[i].path.take (LV[i].path.length - 1) = ⟨nm, []⟩ :: r0 := by
  rw [e1]
  simp only [List.length_cons, List.length_append, List.length_nil]
  rw [show r0.length + (0 + 1) + 1 - 1 = r0.length + 1 by omega, List.take_succ_cons, List.take_left']
  rfl
 have hpre : ∀ h ∈ heldsOf ds 0, hasP l h.n [nm] (r0 ++ [t]) = true → hasP l h.n [nm] r0 = true := fun h hm hp => by
  obtain ⟨a, _, _⟩ := heldsOf_mem ds 0 h hm
  exact hasP_pre l r0 [t] h.n [nm] (hw _ a).1 hp
 rw [htk]
 have hne : (heldsOf ds 0).filter (fun h => hasP l h.n [nm] r0) ≠ [] := by
  obtain ⟨h, hm⟩ := List.exists_mem_of_ne_nil _ e2
  obtain ⟨a, b⟩ := List.mem_filter.1 hm
  exact List.ne_nil_of_mem (List.mem_filter.2 ⟨a, hpre h a b⟩)
 constructor
 ·
  have hz := (hmem ⟨⟨nm, []⟩ :: r0, ownV ((heldsOf ds 0).filter fun h => hasP l h.n [nm] r0)⟩).2 ⟨r0, rfl, hne, rfl⟩
  obtain ⟨k, hk, ek⟩ := List.getElem_of_mem hz
  refine ⟨k, hk, ?_, by rw [ek]⟩
  have hah : pathAhead LV[k].path LV[i].path = true := by
   rw [ek, e1]
   simp only
   rw [pathAhead, if_pos ((stepB_iff _ _).2 rfl)]
   have := pathAhead_app r0 [] [t]
   rw [List.append_nil] at this
   rw [this]; rfl
  rcases Nat.lt_trichotomy k i with h | h | h
  ·
   exact h
  ·
   subst h
   have := pathAhead_asymm _ _ hah
   rw [hah] at this; cases this
  ·
   have h4 := (List.pairwise_iff_getElem.1 hs) i k hi hk h
   have := pathAhead_asymm _ _ hah
   rw [h4] at this; cases this
 ·
  intro k hk ek j hj
  obtain ⟨r', f1, f2, f3⟩ := (hmem _).1 (List.getElem_mem hk)
  rw [f1] at ek
  have er : r' = r0 := by injection ek
  subst er
  rw [e3] at hj
  rw [f3]
  unfold ownV at hj ⊢
  rw [inS_of, Bool.and_eq_true, decide_eq_true_eq, flOf_mem] at hj ⊢
  refine ⟨hj.1, hj.2.1, hj.2.2.1, ?_⟩
  obtain ⟨h, hm, e⟩ := List.mem_map.1 hj.2.2.2
  obtain ⟨a, b⟩ := List.mem_filter.1 hm
  exact List.mem_map.2 ⟨h, List.mem_filter.2 ⟨a, hpre h a b⟩, e⟩
end
end Go.Proofs.YtkelpbbekeelcaaGreatDoor

/-
 recensionref16.Same, at lives that are the same. Helper lemmas; no statement of the seat is proved here.
-/
namespace Go.Proofs.YtkelpbbekeelcaaGreatDoor
open Go.RowKit
set_option maxRecDepth 100000
set_option linter.unusedVariables false
set_option linter.unusedSimpArgs false

set_option maxHeartbeats 8000000 in
theorem lsame_any (p q : Nat → Prop) (x : List Life) (v u : Value) (w : World) (h : Rep w p v (livesD x)) (k : Rep w q u (livesD x)) :
  Calls Tryz.prog 25 #[v, u] w fun e w' => e = .returned (.bool true) ∧ Ext w w' := by
 obtain ⟨a, c, rfl, hc1, hc2⟩ := h.count z_life (by omega)
 obtain ⟨b, d, rfl, hd1, hd2⟩ := k.count z_life (by omega)
 have q0 : ((x.length : Int) != (x.length : Int)) = false := bne_self_eq_false _
 go_enter Tryz.func25, Tryz.ntmps25
 go_wp2_with fail
 go_loopw [5] (fun t wr => ∃ i : Nat, t = .int .i64 i ∧ i ≤ x.length ∧ Ext w wr) (fun t _ => downV x.length t)
 case atStart => exact ⟨0, rfl, Nat.zero_le _, Ext.refl _⟩
 case round =>
  obtain ⟨i, rfl, hi, hX⟩ := hrel
  have hi0 : (0 : Int) ≤ (i : Int) := by omega
  by_cases hlt : i < x.length
  ·
   have hlI : (i : Int) < (x.length : Int) := by omega
   obtain ⟨ga, oa, p1, v1, rfl, lga, _, a0, a1, hp1, hv1⟩ := life_at (h.ext hX) i hlt
   obtain ⟨gb, ob, p2, v2, rfl, lgb, _, b0, b1, hp2, hv2⟩ := life_at (k.ext hX) i hlt
   obtain ⟨y, hy⟩ : ∃ y, x[i] = y := ⟨_, rfl⟩
   rw [hy] at hp1 hv1 hp2 hv2
   obtain ⟨pa, pac, rfl, _, _⟩ := hp1.count z_step (by omega)
   obtain ⟨va, vac, rfl, _, _⟩ := hv1.count z_span (by omega)
   obtain ⟨pb, pbc, rfl, _, _⟩ := hp2.count z_step (by omega)
   obtain ⟨vb, vbc, rfl, _, _⟩ := hv2.count z_span (by omega)
   have HP := Lib.hid fun W (hE : Ext wr W) => path_any _ _ y.path y.path (.slice pa y.path.length pac) (.slice pb y.path.length pbc) W (hp1.ext hE) (hp2.ext hE)
   rw [(pathB_iff _ _).2 rfl] at HP
   have HQ := Lib.hid fun W (hE : Ext wr W) => spans_any _ _ y.vers y.vers (.slice va y.vers.length vac) (.slice vb y.vers.length vbc) W (hv1.ext hE) (hv2.ext hE)
   rw [(spansS_iff _ _).2 rfl] at HQ
   obtain ⟨wo, hwo⟩ : ∃ wo, wo = wr := ⟨_, rfl⟩
   subst hwo
   clear hy hp1 hv1 hp2 hv2
   go_wp2_with fail
   refine rg_begin (S := Sx wo) (by kernel_rfl) (Sx.begin _) ?_
   have hSx : Sx wo (World.drew wo) := (Sx.begin _)
   refine rg_t 0 (some 17) (.slice (some ⟨ga, oa, none⟩) x.length c) rfl hSx (fun w' hs => by rfl) ?_
   simp only [Act.put, sA, sZ, sS]
   refine rg_t 1 (some 18) (.int .i64 i) rfl hSx (fun w' hs => by rfl) ?_
   simp only [Act.put, sA, sZ, sS]
   refine rg_t 2 (some 19) (.pointer (some ⟨ga, oa + i * 2, none⟩)) rfl hSx (fun w' hs => by first | rfl | go_simp) ?_
   simp only [Act.put, sA, sZ, sS]
   refine rg_t 3 (some 20) (.pointer (some ⟨ga, oa + i * 2, none⟩)) rfl hSx (fun w' hs => by first | rfl | go_simp) ?_
   simp only [Act.put, sA, sZ, sS]
   refine rg_t 4 (some 21) (.slice pa y.path.length pac) rfl hSx (fun w' hs => by (have h0 := hs.cell lga a0; go_simp)) ?_
   simp only [Act.put, sA, sZ, sS]
   refine rg_t 5 (some 22) (.slice (some ⟨gb, ob, none⟩) x.length d) rfl hSx (fun w' hs => by rfl) ?_
   simp only [Act.put, sA, sZ, sS]
   refine rg_t 6 (some 23) (.int .i64 i) rfl hSx (fun w' hs => by rfl) ?_
   simp only [Act.put, sA, sZ, sS]
   refine rg_t 7 (some 24) (.pointer (some ⟨gb, ob + i * 2, none⟩)) rfl hSx (fun w' hs => by first | rfl | go_simp) ?_
   simp only [Act.put, sA, sZ, sS]
   refine rg_t 8 (some 25) (.pointer (some ⟨gb, ob + i * 2, none⟩)) rfl hSx (fun w' hs => by first | rfl | go_simp) ?_
   simp only [Act.put, sA, sZ, sS]
   refine rg_t 9 (some 26) (.slice pb y.path.length pbc) rfl hSx (fun w' hs => by (have h0 := hs.cell lgb b0; go_simp)) ?_
   simp only [Act.put, sA, sZ, sS]
   refine rg_call 10 (some 27) 26 #[.slice pa y.path.length pac, .slice pb y.path.length pbc] rfl rfl (by kernel_rfl) (by rfl) (fun w' => by first | rfl | go_simp) (R := fun v w' => v = .bool true ∧ Ext (World.drew wo) w') ?_ ?_
   ·
    refine (HP.out (World.drew wo) hSx).mono ?_
    rintro e w' ⟨rfl, h⟩
    exact ⟨_, rfl, rfl, h⟩
   rintro _ wrx1 ⟨rfl, hBrx1⟩
   have hSx1 := hSx.ext hBrx1
   refine ⟨hSx1, ?_⟩
   simp only [Act.put, sA, sZ, sS]
   refine rg_t 11 (some 28) (.bool false) rfl hSx1 (fun w' hs => by first | rfl | go_simp) ?_
   simp only [Act.put, sA, sZ, sS]
   refine rg_t 12 (some 29) (.bool false) rfl hSx1 (fun w' hs => by rfl) ?_
   simp only [Act.put, sA, sZ, sS]
   refine rg_t 13 (some 30) (.slice (some ⟨ga, oa, none⟩) x.length c) rfl hSx1 (fun w' hs => by rfl) ?_
   simp only [Act.put, sA, sZ, sS]
   refine rg_t 14 (some 31) (.int .i64 i) rfl hSx1 (fun w' hs => by rfl) ?_
   simp only [Act.put, sA, sZ, sS]
   refine rg_t 15 (some 32) (.pointer (some ⟨ga, oa + i * 2, none⟩)) rfl hSx1 (fun w' hs => by first | rfl | go_simp) ?_
   simp only [Act.put, sA, sZ, sS]
   refine rg_t 16 (some 33) (.pointer (some ⟨ga, oa + i * 2 + 1, none⟩)) rfl hSx1 (fun w' hs => by first | rfl | go_simp) ?_
   simp only [Act.put, sA, sZ, sS]
   refine rg_t 17 (some 34) (.slice va y.vers.length vac) rfl hSx1 (fun w' hs => by (have h0 := hs.cell lga a1; go_simp)) ?_
   simp only [Act.put, sA, sZ, sS]
   refine rg_t 18 (some 35) (.slice (some ⟨gb, ob, none⟩) x.length d) rfl hSx1 (fun w' hs => by rfl) ?_
   simp only [Act.put, sA, sZ, sS]
   refine rg_t 19 (some 36) (.int .i64 i) rfl hSx1 (fun w' hs => by rfl) ?_
   simp only [Act.put, sA, sZ, sS]
   refine rg_t 20 (some 37) (.pointer (some ⟨gb, ob + i * 2, none⟩)) rfl hSx1 (fun w' hs => by first | rfl | go_simp) ?_
   simp only [Act.put, sA, sZ, sS]
   refine rg_t 21 (some 38) (.pointer (some ⟨gb, ob + i * 2 + 1, none⟩)) rfl hSx1 (fun w' hs => by first | rfl | go_simp) ?_
   simp only [Act.put, sA, sZ, sS]
   refine rg_t 22 (some 39) (.slice vb y.vers.length vbc) rfl hSx1 (fun w' hs => by (have h0 := hs.cell lgb b1; go_simp)) ?_
   simp only [Act.put, sA, sZ, sS]
   refine rg_call 23 (some 40) 16 #[.slice va y.vers.length vac, .slice vb y.vers.length vbc] rfl rfl (by kernel_rfl) (by rfl) (fun w' => by first | rfl | go_simp) (R := fun v w' => v = .bool true ∧ Ext wrx1 w') ?_ ?_
   ·
    refine (HQ.out wrx1 hSx1).mono ?_
    rintro e w' ⟨rfl, h⟩
    exact ⟨_, rfl, rfl, h⟩
   rintro _ wrx2 ⟨rfl, hBrx2⟩
   have hSx2 := hSx1.ext hBrx2
   refine ⟨hSx2, ?_⟩
   simp only [Act.put, sA, sZ, sS]
   refine rg_t 24 (some 41) (.bool false) rfl hSx2 (fun w' hs => by first | rfl | go_simp) ?_
   simp only [Act.put, sA, sZ, sS]
   refine rg_t 25 (some 42) (.bool false) rfl hSx2 (fun w' hs => by rfl) ?_
   simp only [Act.put, sA, sZ, sS]
   refine rg_done (by kernel_rfl) ?_
   have hXn := hX.trans (show Ext wo wrx2 from hSx2)
   clear HP HQ a0 a1 b0 b1
   go_wp2_with fail
   go_roundw
   case rel => exact ⟨i + 1, by go_num, by omega, hXn⟩
   case measure => simp only [downV]; omega
  ·
   have hlI : ¬ (i : Int) < (x.length : Int) := by omega
   go_wp2_with fail
   go_ret
   exact ⟨rfl, hX⟩

end Go.Proofs.YtkelpbbekeelcaaGreatDoor

/-
 past.Lives: the function that walks. Helper lemmas; no statement of the seat is proved here.
-/
namespace Go.Proofs.YtkelpbbekeelcaaGreatDoor
open Go.RowKit
set_option maxRecDepth 100000
set_option linter.unusedVariables false
set_option linter.unusedSimpArgs false

/-- Neither the cell of the lives nor their row. -/
def Fr (g : Nat) (dv : Value) (b : Nat) : Prop := b ≠ g ∧ some b ≠ dv.ownBlock
/-- What a call that grows the lives keeps. -/
structure KL (g : Nat) (dv dv' : Value) (w w' : World) : Prop where
 os : w'.os = w.os
 tape : w'.tape = w.tape
 output : w'.output = w.output
 size : w.heap.size ≤ w'.heap.size
 block : ∀ b, b < w.heap.size → Fr g dv b → w'.heap[b]? = w.heap[b]?
 own : dv'.ownBlock = dv.ownBlock ∨ ∃ k, dv'.ownBlock = some k ∧ w.heap.size ≤ k
theorem KL.refl (g : Nat) (dv : Value) (w : World) : KL g dv dv w w := ⟨rfl, rfl, rfl, Nat.le_refl _, fun _ _ _ => rfl, .inl rfl⟩
theorem KL.fr {g : Nat} {dv dv' : Value} {w w' : World} (h : KL g dv dv' w w') {b : Nat} (hb : b < w.heap.size) (hf : Fr g dv b) : Fr g dv' b := ⟨hf.1, by
 rcases h.own with e | ⟨k, e, hk⟩
 ·
  rw [e]; exact hf.2
 ·
  rw [e]; intro e2; have := Option.some.inj e2; omega⟩
theorem KL.trans {g : Nat} {a b c : Value} {w w' w2 : World} (h : KL g a b w w') (k : KL g b c w' w2) : KL g a c w w2 :=
 ⟨k.os.trans h.os, k.tape.trans h.tape, k.output.trans h.output, Nat.le_trans h.size k.size, fun x hx hf => (k.block x (Nat.lt_of_lt_of_le hx h.size) (h.fr hx hf)).trans (h.block x hx hf), by
  rcases k.own with e | ⟨m, e, hm⟩
  ·
   rw [e]; exact h.own
  ·
   exact .inr ⟨m, e, Nat.le_trans h.size hm⟩⟩
theorem KL.ext {g : Nat} {dv : Value} {w w' : World} (h : Ext w w') : KL g dv dv w w' := ⟨h.os, h.tape, h.output, h.size, fun b hb _ => h.block b hb, .inl rfl⟩
theorem Rep.kl {g : Nat} {dv dv' v : Value} {d : DV} {w w' : World} (h : Rep w (Fr g dv) v d) (k : KL g dv dv' w w') : Rep w' (Fr g dv') v d :=
 ((h.lt).kept fun b hb hlt => k.block b hlt hb.1).ok fun b hb => k.fr hb.2 hb.1
/-- The function that walks. -/
def walkFV (g3 g4 : Nat) : Value := .func (.func 50) #[] #[.pointer (some ⟨g3, 0, none⟩), .pointer (some ⟨g4, 0, none⟩)]
/-- The lives as yet. -/
structure LSt (W : World) (base g3 g4 : Nat) (dv : Value) (out : List Life) : Prop where
 c : W.cell? ⟨g3, 0, none⟩ = some dv
 fz : W.frozen? ⟨g3, 0, none⟩ = false
 fv : W.cell? ⟨g4, 0, none⟩ = some (walkFV g3 g4)
 lt3 : g3 < base
 lt4 : g4 < base
 ne : g3 ≠ g4
 own : Own W (fun b => b ≠ g3) base 55 2 dv out.length (out.flatMap lifeC)
theorem LSt.ext {W W' : World} {base g3 g4 : Nat} {dv : Value} {out : List Life} (h : LSt W base g3 g4 dv out) (hE : Ext W W') : LSt W' base g3 g4 dv out :=
 ⟨hE.keep (World.block_lt_of_cell? W _ h.c) h.c, hE.free (World.block_lt_of_cell? W _ h.c) h.fz, hE.keep (World.block_lt_of_cell? W _ h.fv) h.fv, h.lt3, h.lt4, h.ne, h.own.ext hE⟩
mutual
/-- How many elements there are. -/
def asz : ANode → Nat
 | .mk _ _ _ _ ks => 1 + aszL ks
def aszL : List ANode → Nat
 | [] => 0
 | n :: r => asz n + aszL r
end
mutual
theorem preA_len : ∀ (n : ANode) (path : List Step) (above : List Span), (preA n path above).length = asz n
 | .mk nm key v pa ks, path, above => by rw [preA, asz, List.length_cons, preAL_len]; omega
theorem preAL_len : ∀ (K : List ANode) (path : List Step) (above : List Span), (preAL K path above).length = aszL K
 | [], _, _ => rfl
 | n :: r, path, above => by rw [preAL, aszL, List.length_append, preA_len, preAL_len]
end
theorem asz_kid (n : ANode) (i : Nat) (h : i < n.kids.length) : asz n.kids[i] < asz n := by
 have hL : ∀ (K : List ANode) (i : Nat) (h : i < K.length), asz K[i] ≤ aszL K := by
  intro K
  induction K with
  | nil => intro i h; exact absurd h (Nat.not_lt_zero _)
  | cons a K ih =>
   intro i h
   rw [aszL]
   cases i with
   | zero => simp
   | succ i => have := ih i (by simpa using h); rw [List.getElem_cons_succ]; omega
 cases n with
 | mk nm key v pa ks => have := hL ks i h; show asz ks[i] < _; rw [asz]; omega
theorem preAL_take (path : List Step) (above : List Span) : ∀ (K : List ANode) (i : Nat) (h : i < K.length), preAL (K.take (i + 1)) path above = preAL (K.take i) path above ++ preA K[i] path above
 | [], i, h => absurd h (Nat.not_lt_zero _)
 | n :: r, 0, h => by simp [preAL]
 | n :: r, i + 1, h => by
  rw [List.take_succ_cons, List.take_succ_cons, preAL, preAL, preAL_take path above r i (by simpa using h), List.append_assoc]; rfl
theorem preAL_sum (path : List Step) (above : List Span) (n : ANode) (i : Nat) (h : i < n.kids.length) : (preAL (n.kids.take i) path above).length + asz n.kids[i] + 1 ≤ asz n := by
 have hL : ∀ (K : List ANode) (i : Nat) (h : i < K.length), aszL (K.take i) + asz K[i] ≤ aszL K := by
  intro K
  induction K with
  | nil => intro i h; exact absurd h (Nat.not_lt_zero _)
  | cons a K ih =>
   intro i h
   cases i with
   | zero => simp [aszL]
   | succ i => have := ih i (by simpa using h); rw [List.take_succ_cons, aszL, aszL, List.getElem_cons_succ]; omega
 rw [preAL_len]
 cases n with
 | mk nm key v pa ks => have := hL ks i h; show aszL (ks.take i) + asz ks[i] + 1 ≤ _; rw [asz]; omega
mutual
/-- No element's key is of more texts than so many. -/
def kB : ANode → Bool
 | .mk _ k _ _ ks => decide (k.length ≤ 1048576) && kBL ks
def kBL : List ANode → Bool
 | [] => true
 | n :: r => kB n && kBL r
end
theorem kB_own (n : ANode) (h : kB n = true) : n.key.length ≤ 1048576 ∧ ∀ k ∈ n.kids, kB k = true := by
 have hL : ∀ K : List ANode, kBL K = true → ∀ k ∈ K, kB k = true := by
  intro K
  induction K with
  | nil => intro _ k hk; cases hk
  | cons a K ih =>
   intro h k hk
   rw [kBL, Bool.and_eq_true] at h
   rcases List.mem_cons.1 hk with e | hk
   ·
    rw [e]; exact h.1
   ·
    exact ih h.2 k hk
 cases n with
 | mk nm k v p ks => rw [kB, Bool.and_eq_true, decide_eq_true_eq] at h; exact ⟨h.1, hL ks h.2⟩
theorem anode_len {w : World} {p : Nat → Prop} {v : Value} {l : List ANode} (h : Rep w p v (anodesD l)) (i : Nat) (hi : i < l.length) : l[i].name.length ≤ 9223372036854775807 := by
 obtain ⟨a, c, rfl, _, _⟩ := h.count z_anode (by omega)
 obtain ⟨b, off, ha, hb, hp, hc⟩ := elem_at z_anode h (by omega) i hi
 rw [anodeC_eq] at hc
 obtain ⟨u, hu, hr⟩ := hc 0 _ rfl
 exact hr.len
theorem own_set3 {w : World} {p : Nat → Prop} {base z n g o : Nat} {e : TypeId} {v u : Value} {es : List DV} (h : Own w p base e z v n es) (hg : g < base) (hp : ∀ b, p b → b ≠ g) : Own (w.setCell ⟨g, o, none⟩ u) p base e z v n es := by
 obtain ⟨us, h1, h2⟩ := h
 refine ⟨us, ownsRow_setCell_below h1 hg _, (h2.kept fun b hb _ => Below.heap_setCell _ _ _ _ (by simpa using hp b hb.1)).ok fun b hb => ⟨hb.1, hb.2.1, by simpa using hb.2.2⟩⟩
set_option maxHeartbeats 32000000 in
theorem walk_any : ∀ (N : Nat) (n : ANode) (path : List Step) (above : List Span) (out : List Life) (base g3 g4 : Nat) (dv vk vv vp vc vx va : Value) (w : World), asz n ≤ N → vB n = true → kB n = true → path.length + asz n ≤ 16777216 → out.length + asz n ≤ 16777216 → above.length ≤ 1048576 → n.name.length ≤ 9223372036854775807 → base ≤ w.heap.size →
  LSt w base g3 g4 dv out → Rep w (Fr g3 dv) vk (strsD n.key) → Rep w (Fr g3 dv) vv (spansD n.vers) → Rep w (Fr g3 dv) vp (partsD n.parts) → Rep w (Fr g3 dv) vc (anodesD n.kids) → Rep w (Fr g3 dv) vx (stepsD path) → Rep w (Fr g3 dv) va (spansD above) →
  Calls Tryz.prog 50 #[.agg #[.string (bs n.name), vk, vv, vp, vc], vx, va, .pointer (some ⟨g3, 0, none⟩), .pointer (some ⟨g4, 0, none⟩)] w fun e w' => (∃ u, e = .returned u) ∧ ∃ dv', LSt w' base g3 g4 dv' (out ++ preA n path above) ∧ KL g3 dv dv' w w' := by
 intro N
 induction N with
 | zero => intro n path above out base g3 g4 dv vk vv vp vc vx va w hN; cases n; rw [asz] at hN; omega
 | succ N ih =>
  intro n path above out base g3 g4 dv vk vv vp vc vx va w hN hvB hkB hpl hol hab hnm hbw hL hvk hvv hvp hvc hvx hva
  obtain ⟨ka, kc, rfl, _, _⟩ := hvk.count z_str (by omega)
  obtain ⟨vva, vvc, rfl, _, _⟩ := hvv.count z_span (by omega)
  obtain ⟨pa, pc, rfl, _, _⟩ := hvp.count z_part (by omega)
  obtain ⟨ca, cc, rfl, _, _⟩ := hvc.count z_anode (by omega)
  obtain ⟨xa, xc, rfl, _, _⟩ := hvx.count z_step (by omega)
  obtain ⟨aa, ac, rfl, _, _⟩ := hva.count z_span (by omega)
  obtain ⟨j0, ji, jz0, jz1, jz2⟩ := info_parts infoStep
  obtain ⟨l0, li, lz0, lz1, lz2⟩ := info_parts infoLife
  have hkb := (kB_own n hkB).1
  have hvl := (vB_own n hvB).1
  have hown_lt : ∀ b, some b = dv.ownBlock → base ≤ b ∧ b < w.heap.size := fun b e => by
   obtain ⟨us, hr, _⟩ := hL.own.rows
   exact own_lt hr e
  have hfr : ∀ b, w.heap.size ≤ b → Fr g3 dv b := fun b hb => ⟨by have := hL.lt3; omega, fun e => by have := (hown_lt b e).2; omega⟩
  have HFR := Lib.hid (And.intro hfr hown_lt)
  have HIH := Lib.hid ih
  have HBD := Lib.hid (And.intro hN (And.intro hvB (And.intro hkB (And.intro hpl (And.intro hol hbw)))))
  have hpl2 : path.length ≤ 16777216 := by omega
  have hol2 : out.length ≤ 16777216 := by omega
  have hap := asz_kid n
  have HAK := Lib.hid hap
  obtain ⟨px, hpx⟩ : ∃ x, path ++ [(⟨n.name, n.key⟩ : Step)] = x := ⟨_, rfl⟩
  obtain ⟨E, hE⟩ : ∃ x, eitherS n.vers above = x := ⟨_, rfl⟩
  have hEl : E.length ≤ 1048576 := by rw [← hE]; unfold eitherS; split <;> assumption
  have HPX := Lib.hid (And.intro hpx hE)
  clear ih hN hvB hkB hfr hown_lt hap
  go_enter Tryz.func50, Tryz.ntmps50
  go_wp2_with fail
  obtain ⟨w1, hw1⟩ : ∃ W, w.alloc (.cells #[.string (bs n.name), .slice ka n.key.length kc, .slice vva n.vers.length vvc, .slice pa n.parts.length pc, .slice ca n.kids.length cc] 34) = W := ⟨_, rfl⟩
  have hE1 : Ext w w1 := by rw [← hw1]; exact (Ext.refl w).alloc _
  have hblk : w1.heap[w.heap.size]? = some (.cells [.string (bs n.name), .slice ka n.key.length kc, .slice vva n.vers.length vvc, .slice pa n.parts.length pc, .slice ca n.kids.length cc].toArray 34 (0, 0)) := by rw [← hw1]; exact Array.getElem?_push_size
  have hz1 : w1.heap.size = w.heap.size + 1 := by rw [← hw1]; simp
  obtain ⟨g5, hg5⟩ : ∃ g, w.heap.size = g := ⟨_, rfl⟩
  have hblk' := hblk
  simp only [hg5] at hblk'
  have c0 := blk_cells hblk' 0 rfl; have c1 := blk_cells hblk' 1 rfl; have c2 := blk_cells hblk' 2 rfl; have c4 := blk_cells hblk' 4 rfl
  have lg5 := blk_lt hblk'
  have hg53 : ¬ g5 = g3 := by have := hL.lt3; omega
  have hg35 : ¬ g3 = g5 := fun e => hg53 e.symm
  have HG5 := Lib.hid (And.intro hg5 hz1)
  have HC1 := Lib.hid fun W (hE : Ext w1 W) => clonest_own path (Fr g3 dv) (.slice xa path.length xc) W hpl2 ((hvx.ext hE1).ext hE)
  have HC2 := Lib.hid fun W (hE : Ext w1 W) => clonestr_any n.key (Fr g3 dv) (.slice ka n.key.length kc) W (by omega) ((hvk.ext hE1).ext hE)
  rw [hw1]
  simp only [hg5]
  clear hw1 hblk hblk' hg5 hz1
  refine rg_begin (S := Sx w1) (by kernel_rfl) (Sx.begin _) ?_
  have hSr : Sx w1 (World.drew w1) := (Sx.begin _)
  refine rg_t 0 (some 10) (.slice xa path.length xc) rfl hSr (fun w' hs => by rfl) ?_
  simp only [Act.put, sA, sZ, sS]
  refine rg_t 2 (some 12) (.pointer (some ⟨g5, 0, none⟩)) rfl hSr (fun w' hs => by first | rfl | go_simp) ?_
  simp only [Act.put, sA, sZ, sS]
  refine rg_t 3 (some 13) (.string (bs n.name)) rfl hSr (fun w' hs => by (have h0 := hs.cell lg5 c0; go_simp)) ?_
  simp only [Act.put, sA, sZ, sS]
  refine rg_t 4 (some 14) (.pointer (some ⟨g5, 1, none⟩)) rfl hSr (fun w' hs => by first | rfl | go_simp) ?_
  simp only [Act.put, sA, sZ, sS]
  refine rg_t 5 (some 15) (.slice ka n.key.length kc) rfl hSr (fun w' hs => by (have h0 := hs.cell lg5 c1; go_simp)) ?_
  simp only [Act.put, sA, sZ, sS]
  refine rg_one 1 (by kernel_rfl) ?_
  refine tk_call 1 (some 11) 51 #[.slice xa path.length xc] rfl rfl (by rfl) (fun w' => by first | rfl | go_simp) (R := fun v w' => Own w' (fun b => Fr g3 dv b ∧ b < w1.heap.size) w1.heap.size 76 2 v path.length (path.flatMap stepC) ∧ Ext (World.drew w1) w') ?_ ?_
  ·
   refine (HC1.out (World.drew w1) hSr).mono ?_
   rintro e w' ⟨⟨u, rfl, hu⟩, hB⟩
   exact ⟨_, rfl, hu, hB⟩
  rintro u1 wa ⟨hou, hBwa⟩
  have hSwa := hSr.ext hBwa
  refine ⟨hSwa, ?_⟩
  simp only [Act.put, sA, sZ, sS]
  refine rg_one 6 (by kernel_rfl) ?_
  refine tk_call 6 (some 16) 52 #[.slice ka n.key.length kc] rfl rfl (by rfl) (fun w' => by first | rfl | go_simp) (R := fun v w' => ∃ (ta : Option Addr) (tc : Nat), v = .slice ta n.key.length tc ∧ Rep w' (fun b => wa.heap.size ≤ b) (.slice ta n.key.length tc) (strsD n.key) ∧ Ext wa w') ?_ ?_
  ·
   refine (HC2.out wa hSwa).mono ?_
   rintro e w' ⟨⟨u, rfl, hu⟩, hB⟩
   exact ⟨_, rfl, by obtain ⟨a, c, rfl, _, _⟩ := hu.count z_str (by omega); exact ⟨a, c, rfl, hu, hB⟩⟩
  rintro _ wb ⟨ta, tc, rfl, htr, hBwb⟩
  have hSwb := hSwa.ext hBwb
  refine ⟨hSwb, ?_⟩
  simp only [Act.put, sA, sZ, sS]
  refine rg_t 7 (some 17) (.agg #[.string (bs n.name), .slice ta n.key.length tc]) rfl hSwb (fun w' hs => by first | rfl | go_simp) ?_
  simp only [Act.put, sA, sZ, sS]
  refine rg_one 8 (by kernel_rfl) ?_
  refine tk_new 8 (some 18) (.cells #[.string (bs n.name), .slice ta n.key.length tc] 76) (fun n => .slice (some ⟨n, 0, none⟩) 1 1) rfl rfl (by rfl) (by first | rfl | go_simp) ?_
  intro gb wc egb hBwc _ hgb
  have hSwc := hSwb.ext hBwc
  refine ⟨hSwc, ?_⟩
  simp only [Act.put, sA, sZ, sS]
  obtain ⟨us, hrow, hreps⟩ := (hou.ext (hBwb.trans hBwc)).rows
  refine rg_one 9 (by kernel_rfl) ?_
  refine tk_src 9 (some 19) rfl rfl (by rfl) (.tmp 11) (.tmp 18) 24 rfl w1.heap.size 76 j0 (.agg #[.string ⟨#[]⟩, .slice none 0 0]) 2 40 Tryz.underlying24 ji jz0 jz1 jz2 rfl (by decide) u1 path.length us rfl hrow (.slice (some ⟨gb, 0, none⟩) 1 1) 1 [.string (bs n.name), .slice ta n.key.length tc] rfl (Src.block hgb rfl) (by intro u hu; simp at hu; rcases hu with rfl | rfl <;> rfl) (by unfold maxLen; omega) (by omega) (show Ext w1 wc from hSwc).size ?_
  intro v4 w4 hr4 hg4 ha4
  have hS4 : Sx w1 w4 := sx_grown hSwc hrow hg4
  refine ⟨hS4, ?_⟩
  simp only [Act.put, sA, sZ, sS]
  refine rg_t 10 (some 1) (v4) rfl hS4 (fun w' hs => by rfl) ?_
  simp only [Act.put, sA, sZ, sS]
  refine rg_done (by kernel_rfl) ?_
  have hE4 : Ext w1 w4 := hS4
  have hw1w := hE1.size
  have hrx : Rep w4 (Fr g3 dv) v4 (stepsD px) := by
   rw [← HPX.out.1]
   have hua : ∀ b, some b = u1.ownBlock → b < wa.heap.size := fun b e => by
    obtain ⟨us', hr', _⟩ := hou.rows
    exact (own_lt hr' e).2
   have hO : Own w4 (Fr g3 dv) w1.heap.size 76 2 v4 (path.length + 1) ((path ++ [(⟨n.name, n.key⟩ : Step)]).flatMap stepC) := by
    rw [List.flatMap_append, List.flatMap_cons, List.flatMap_nil, List.append_nil]
    refine Own.push (w := wc) (hreps.ok fun b hb => ⟨hb.1.1, hb.2.1, hb.2.2⟩) (Reps.cons (Rep.string _ _ _ (by rw [bs_size]; exact hnm)) (Reps.cons ((htr.lt.ext hBwc).ok fun b hb => ⟨HFR.out.1 b ?_, fun e => ?_, Nat.lt_of_lt_of_le hb.2 hBwc.size⟩) (Reps.nil _ _))) hr4 hg4 ha4
    ·
     have := hBwa.size
     have h9 : w1.heap.size ≤ wa.heap.size := this
     have := hb.1; omega
    ·
     have := hua b e; have := hb.1; omega
   exact hO.rep.ok fun b hb => by
    rcases hb with hb | hb
    ·
     exact hb
    ·
     exact HFR.out.1 b (by omega)
  obtain ⟨x4, x4c, rfl, _, _⟩ := hrx.count z_step (by omega)
  have hEw4 := hE1.trans hE4
  have c2w := hE4.keep lg5 c2
  have HEI := Lib.hid (either_any n.vers above (Fr g3 dv) (Fr g3 dv) (.slice vva n.vers.length vvc) (.slice aa above.length ac) w4 hvl hab (hvv.ext hEw4) (hva.ext hEw4))
  rw [HPX.out.2] at HEI
  clear hreps hr4 hg4 ha4 htr hou hBwa hBwb hBwc hrow hgb hS4 hSwc hSwb hSwa HC1 HC2 hSr
  go_wp2_with fail
  refine HEI.out.mono ?_
  rintro e w5 ⟨⟨ue, rfl, hue⟩, hB5⟩
  obtain ⟨ea, ec, rfl, _, _⟩ := hue.count z_span (by omega)
  have hEw5 := hEw4.trans hB5
  have hL5 := hL.ext hEw5
  obtain ⟨us, hrow, hreps⟩ := hL5.own.rows
  have hc3 := hL5.c
  have hf3 := hL5.fz
  have hc4 := hL5.fv
  have c45 := (hE4.trans hB5).keep lg5 c4
  have hb5 := hEw5.size
  have hbs : base ≤ w5.heap.size + 1 := by have := HBD.out.2.2.2.2.2; omega
  obtain ⟨wz, hwz⟩ : ∃ W, w5.alloc (.cells #[.slice x4 px.length x4c, .slice ea E.length ec] 55) = W := ⟨_, rfl⟩
  have hEz : Ext w5 wz := by rw [← hwz]; exact (Ext.refl w5).alloc _
  have hzz : wz.heap.size = w5.heap.size + 1 := by rw [← hwz]; simp
  have hrowz := rows_ext hrow hEz
  have HZ : Hid (∀ (v6 : Value) (w6 : World), wz.grownBy w6 dv.ownBlock → (∀ (b : Nat) (o : Nat) (u : Value), b < w5.heap.size → some b ≠ dv.ownBlock → w5.cell? ⟨b, o, none⟩ = some u → w6.cell? ⟨b, o, none⟩ = some u) ∧ w6.frozen? ⟨g3, 0, none⟩ = false) := Lib.hid fun v6 w6 hg => by
   have hk : ∀ b, b < w5.heap.size → some b ≠ dv.ownBlock → w6.heap[b]? = w5.heap[b]? := fun b hb hn => (hg.block b (Nat.lt_of_lt_of_le hb hEz.size) hn).trans (Below.block hEz b hb)
   have h3 := World.block_lt_of_cell? w5 _ hc3
   refine ⟨fun b o u hb hn hc => (World.cell?_of_block (hk b hb hn)).trans hc, (World.frozen?_of_block (hk g3 h3 fun e => ?_)).trans hf3⟩
   have := (HFR.out.2 g3 e).1; have := hL.lt3; omega
  have hn3 : some g3 ≠ dv.ownBlock := fun e => by have := (HFR.out.2 g3 e).1; have := hL.lt3; omega
  have hn5 : some g5 ≠ dv.ownBlock := fun e => by have := (HFR.out.2 g5 e).2; have := HG5.out.1; omega
  have l3 := World.block_lt_of_cell? w5 _ hc3
  have l5 := World.block_lt_of_cell? w5 _ c45
  have HLL := Lib.hid (And.intro hL hL5)
  have HRV := Lib.hid (And.intro hrx (And.intro hue (And.intro hvc (And.intro hreps hrow))))
  clear hL hL5 hreps hrow hrx hue hvk hvv hvp hvx hva HEI c0 c1 c2 c4 c2w
  go_wp2_with (at_builtin; refine wpList_append_own_at _ rfl (.tmp 24) (.tmp 28) _ rfl base 55 l0 (.agg #[.slice none 0 0, .slice none 0 0]) 2 48 Tryz.underlying49 li lz0 lz1 lz2 rfl (by decide) dv out.length us rfl hrowz ⟨w5.heap.size, 0, none⟩ 1 1 [.slice x4 px.length x4c, .slice ea E.length ec] rfl rfl (by rw [← hwz]; exact new_two) (by intro u hu; simp at hu; rcases hu with rfl | rfl <;> rfl) (by unfold maxLen; omega) (by omega) (by omega) ?_; intro v6 w6 hown6 hgrow6 _ hat6; obtain ⟨o6, o6c, rfl⟩ := own_form hown6; have hc36 := (HZ.out dv _ hgrow6).1 g3 0 _ l3 hn3 hc3; have hf36 := (HZ.out dv _ hgrow6).2; have hc56 := (HZ.out dv _ hgrow6).1 g5 4 _ l5 hn5 c45)
  have hn4 : some g4 ≠ dv.ownBlock := fun e => by have := (HFR.out.2 g4 e).1; have := HLL.out.1.lt4; omega
  have l4 := World.block_lt_of_cell? w5 _ hc4
  have hc46 := (HZ.out dv _ hgrow6).1 g4 0 _ l4 hn4 hc4
  have hbw : base ≤ w.heap.size := HBD.out.2.2.2.2.2
  have hl3 := HLL.out.1.lt3
  have hl4 := HLL.out.1.lt4
  have hne34 := HLL.out.1.ne
  obtain ⟨w7, hw7⟩ : ∃ W, w6.setCell ⟨g3, 0, none⟩ (.slice o6 (out.length + 1) o6c) = W := ⟨_, rfl⟩
  rw [hw7]
  obtain ⟨d6, hd6⟩ : ∃ d, Value.slice o6 (out.length + 1) o6c = d := ⟨_, rfl⟩
  rw [hd6] at hown6 hat6 hw7
  have hK57 : KL g3 dv d6 w5 w7 := by
   rw [← hw7]
   refine ⟨hgrow6.os.trans hEz.os, hgrow6.tape.trans hEz.tape, hgrow6.output.trans hEz.output, ?_, fun b hb hf => ?_, ?_⟩
   ·
    simpa using Nat.le_trans hEz.size hgrow6.size
   ·
    rw [Below.heap_setCell _ _ _ _ (by simpa using hf.1), hgrow6.block b (Nat.lt_of_lt_of_le hb hEz.size) hf.2]
    exact Below.block hEz b hb
   ·
    rcases hat6 with e | e
    ·
     exact .inl e
    ·
     exact .inr ⟨_, e, hEz.size⟩
  have hK7 : KL g3 dv d6 w w7 := (KL.ext hEw5).trans hK57
  have hL7 : LSt w7 base g3 g4 d6 (out ++ [⟨px, E⟩]) := by
   rw [← hw7]
   refine ⟨by simp [go_sem, hc36], by simp [go_sem, hf36], ?_, hl3, hl4, hne34, own_set3 ?_ hl3 (fun b hb => hb)⟩
   ·
    rw [World.cell?_of_block (Below.heap_setCell _ _ _ _ (by simpa using hne34.symm))]; exact hc46
   ·
    rw [List.length_append, List.flatMap_append, List.flatMap_cons, List.flatMap_nil, List.append_nil]
    have hx5 := HRV.out.1.ext hB5
    have h45 := hB5.size
    have hw4 := hEw4.size
    refine Own.push (w := wz) ((HRV.out.2.2.2.1.ext hEz).ok fun b hb => ⟨hb.1, hb.2.1, Nat.lt_of_lt_of_le hb.2.2 hEz.size⟩) (Reps.cons ((hx5.lt.ext hEz).ok fun b hb => ⟨hb.1.1, hb.1.2, Nat.lt_of_lt_of_le hb.2 hEz.size⟩) (Reps.cons ((HRV.out.2.1.lt.ext hEz).ok fun b hb => ?_) (Reps.nil _ _))) hown6 hgrow6 hat6
    have hb2 := HFR.out.1 b (by have := hb.1; omega)
    exact ⟨hb2.1, hb2.2, Nat.lt_of_lt_of_le hb.2 hEz.size⟩
  have hx7 := (HRV.out.1.ext hB5).kl hK57
  have he7 := (HRV.out.2.1.ok fun b hb => HFR.out.1 b (by have := hEw4.size; omega)).kl hK57
  have hc7 := HRV.out.2.2.1.kl hK7
  have hsz7 : base ≤ w7.heap.size := Nat.le_trans hbw hK7.size
  have HL7 : Hid (LSt w7 base g3 g4 d6 ((out ++ [⟨px, E⟩]) ++ preAL (n.kids.take 0) px E) ∧ KL g3 d6 d6 w7 w7) := Lib.hid ⟨by simp only [List.take_zero, preAL, List.append_nil]; exact hL7, KL.refl _ _ _⟩
  have HK7 := Lib.hid hK7
  have HPl : Hid (px.length = path.length + 1) := Lib.hid (by rw [← HPX.out.1]; simp)
  clear HZ HLL HRV hw7 hd6 hown6 hgrow6 hat6 hc36 hf36 hc56 hc46 hK57 hK7 hL7 hrowz hwz hEz hzz hc3 hf3 hc4 c45 hn3 hn5 hn4 l3 l4 l5 hB5
  go_loopw [9, 33] (fun _ t wr => ∃ (i : Nat) (d : Value), t = .int .i64 i ∧ i ≤ n.kids.length ∧ Hid (LSt wr base g3 g4 d ((out ++ [⟨px, E⟩]) ++ preAL (n.kids.take i) px E) ∧ KL g3 d6 d w7 wr)) (fun _ t _ => downV n.kids.length t)
  case atStart => exact ⟨0, d6, rfl, Nat.zero_le _, HL7⟩
  case round =>
   clear HL7
   obtain ⟨i, d, rfl, hi, HI⟩ := hrel
   have hi0 : (0 : Int) ≤ (i : Int) := by omega
   by_cases hlt : i < n.kids.length
   ·
    have hlI : (i : Int) < (n.kids.length : Int) := by omega
    have hcr := hc7.kl HI.out.2
    obtain ⟨gk, ok, xk, xv, xp, xc2, rfl, lgk, _, k0, k1, k2, k3, k4, rk, rv, rp, rc⟩ := anode_at hcr i hlt
    have hkn := anode_len hcr i hlt
    have hak := HAK.out i hlt
    have hbd := HBD.out
    have hvk := vBL_get n.kids i hlt (vB_own n hbd.2.1).2
    have hkk := (kB_own n hbd.2.2.1).2 _ (List.getElem_mem hlt)
    have htk := preAL_take px E n.kids i hlt
    have hsum := preAL_sum px E n i hlt
    obtain ⟨q, hq⟩ : ∃ q, n.kids[i] = q := ⟨_, rfl⟩
    rw [hq] at k0 rk rv rp rc hkn hak hvk hkk htk hsum
    obtain ⟨ka2, kc2, rfl, _, _⟩ := rk.count z_str (by omega)
    obtain ⟨va2, vc2, rfl, _, _⟩ := rv.count z_span (by omega)
    obtain ⟨pa2, pc2, rfl, _, _⟩ := rp.count z_part (by omega)
    obtain ⟨ca2, cc2, rfl, _, _⟩ := rc.count z_anode (by omega)
    obtain ⟨wo, hwo⟩ : ∃ wo, wo = wr := ⟨_, rfl⟩
    subst hwo
    have hfv := HI.out.1.fv
    have HCA : Hid (∀ W, Ext wo W → Calls Tryz.prog 50 #[.agg #[.string (bs q.name), .slice ka2 q.key.length kc2, .slice va2 q.vers.length vc2, .slice pa2 q.parts.length pc2, .slice ca2 q.kids.length cc2], .slice x4 px.length x4c, .slice ea E.length ec, .pointer (some ⟨g3, 0, none⟩), .pointer (some ⟨g4, 0, none⟩)] W fun e w' => (∃ u, e = .returned u) ∧ ∃ dv', LSt w' base g3 g4 dv' (((out ++ [⟨px, E⟩]) ++ preAL (n.kids.take i) px E) ++ preA q px E) ∧ KL g3 d dv' W w') := Lib.hid fun W hE => by
     have hpx := HPl.out
     refine HIH.out q px E _ base g3 g4 d _ _ _ _ _ _ W (by omega) hvk hkk (by omega) ?_ hEl hkn (Nat.le_trans (Nat.le_trans hsz7 HI.out.2.size) hE.size) (HI.out.1.ext hE) (rk.ext hE) (rv.ext hE) (rp.ext hE) (rc.ext hE) ((hx7.kl HI.out.2).ext hE) ((he7.kl HI.out.2).ext hE)
     simp only [List.length_append, List.length_cons, List.length_nil]
     omega
    have HTK := Lib.hid htk
    unfold walkFV at hfv
    clear hq rk rv rp rc hkn hak hvk hkk htk hsum hbd hcr
    have hf4 : (wo.alloc (.cells #[.string (bs q.name), .slice ka2 q.key.length kc2, .slice va2 q.vers.length vc2, .slice pa2 q.parts.length pc2, .slice ca2 q.kids.length cc2] 34)).cell? ⟨g4, 0, none⟩ = some (.func (.func 50) #[] #[.pointer (some ⟨g3, 0, none⟩), .pointer (some ⟨g4, 0, none⟩)]) := ((Ext.refl wo).alloc _).keep (World.block_lt_of_cell? wo _ hfv) hfv
    go_wp2_with fail
    refine (HCA.out _ ((Ext.refl wo).alloc _)).mono ?_
    rintro e w9 ⟨⟨u9, rfl⟩, d9, hL9, hK9⟩
    have HN : Hid (LSt w9 base g3 g4 d9 ((out ++ [⟨px, E⟩]) ++ preAL (n.kids.take (i + 1)) px E) ∧ KL g3 d6 d9 w7 w9) := Lib.hid ⟨by rw [HTK.out, ← List.append_assoc]; exact hL9, HI.out.2.trans ((KL.ext ((Ext.refl wo).alloc _)).trans hK9)⟩
    clear HI HCA HTK hL9 hK9 hfv k0 k1 k2 k3 k4
    go_wp2_with fail
    go_roundw
    case rel => exact ⟨i + 1, d9, by go_num, by omega, HN⟩
    case measure => simp only [downV]; omega
   ·
    have hlI : ¬ (i : Int) < (n.kids.length : Int) := by omega
    have HN : Hid (LSt wr base g3 g4 d (out ++ preA n path above) ∧ KL g3 dv d w wr) := Lib.hid ⟨by
     have h1 := HI.out.1
     rw [List.take_of_length_le (by omega)] at h1
     rw [preA_eq, HPX.out.2]
     have h2 := HPX.out.1
     rw [h2, show out ++ ({ path := px, vers := E } :: preAL n.kids px E : List Life) = (out ++ [⟨px, E⟩]) ++ preAL n.kids px E by simp]
     exact h1, HK7.out.trans HI.out.2⟩
    clear HI
    go_wp2_with fail
    refine bodyPost_end (results_none rfl _ _ _) rfl ?_
    exact ⟨⟨_, rfl⟩, d, HN.out.1, HN.out.2⟩

end Go.Proofs.YtkelpbbekeelcaaGreatDoor

/-
 Bounds of the archive of documents: its keys, and how many elements it has. Helper lemmas; no statement of the seat is proved here.
-/
namespace Go.Proofs.YtkelpbbekeelcaaGreatDoor
open Go.RowKit
set_option maxRecDepth 100000
set_option linter.unusedVariables false
set_option linter.unusedSimpArgs false

theorem keyS_len (n : Node) : ∀ (ks L : List Bytes), keyS n ks = some L → L.length = ks.length
 | [], L, h => by simp [keyS] at h; rw [← h]
 | k :: r, L, h => by
  rw [keyS] at h
  cases hv : valS n k with
  | none => rw [hv] at h; cases h
  | some v =>
   rw [hv] at h
   simp only [Option.map_eq_some_iff] at h
   obtain ⟨L', h1, rfl⟩ := h
   rw [List.length_cons, List.length_cons, keyS_len n r L' h1]
theorem stepsS_key (l : List Rule) (hok : RulesOk l) (path : List Bytes) : ∀ (ks : List Node) (s : Step), s ∈ stepsS l path ks → s.key.length ≤ 1048576
 | [], s, h => by simp [stepsS] at h
 | k :: r, s, h => by
  rw [stepsS] at h
  by_cases hf : findS (path ++ [k.name]) l 0 < 0
  ·
   rw [if_pos hf] at h; exact stepsS_key l hok path r s h
  ·
   rw [if_neg hf] at h
   rcases List.mem_cons.1 h with e | h
   ·
    rw [e]
    simp only
    cases hk : keyS k (l.getD (findS (path ++ [k.name]) l 0).toNat noRule).keys with
    | none => simp
    | some L =>
     rw [Option.getD_some, keyS_len k _ L hk, List.getD_eq_getElem?_getD]
     cases hg : l[(findS (path ++ [k.name]) l 0).toNat]? with
     | none => simp [noRule]
     | some r => exact (hok r (List.mem_of_getElem? hg)).1
   ·
    exact stepsS_key l hok path r s h
theorem selK_in (t : Step) (v : Int) : ∀ (ss : List Step) (ks : List Node), selK t v ss ks ≠ [] → t ∈ ss
 | [], ks, h => by cases ks <;> exact absurd rfl h
 | _ :: _, [], h => absurd rfl h
 | s :: ss, k :: ks, h => by
  by_cases e : t = s
  ·
   rw [e]; exact List.mem_cons_self
  ·
   rw [selK, if_neg e, List.nil_append] at h
   exact List.mem_cons_of_mem _ (selK_in t v ss ks h)
theorem selH_in (l : List Rule) (path : List Bytes) (t : Step) : ∀ hs : List Held, selH l path t hs ≠ [] → ∃ h ∈ hs, t ∈ stepsS l path h.n.kids
 | [], h => absurd rfl h
 | a :: r, h => by
  rw [selH] at h
  by_cases e : selK t a.v (stepsS l path a.n.kids) a.n.kids = []
  ·
   rw [e, List.nil_append] at h
   obtain ⟨b, hb, ht⟩ := selH_in l path t r h
   exact ⟨b, List.mem_cons_of_mem _ hb, ht⟩
  ·
   exact ⟨a, List.mem_cons_self, selK_in t a.v _ _ e⟩
theorem kBL_of : ∀ K : List ANode, (∀ n ∈ K, kB n = true) → kBL K = true
 | [], _ => rfl
 | n :: r, h => by rw [kBL, h n List.mem_cons_self, kBL_of r fun n hn => h n (List.mem_cons_of_mem _ hn)]; rfl
theorem kB_node (l : List Rule) (hok : RulesOk l) : ∀ (N : Nat) (path : List Bytes) (s : Step) (hs : List Held) (above : List Span), s.key.length ≤ 1048576 → kB (nodeP l N path s hs above) = true
 | 0, path, s, hs, above, h => by rw [nodeP, kB, kBL, Bool.and_true]; exact decide_eq_true h
 | N + 1, path, s, hs, above, h => by
  rw [nodeP, kB, Bool.and_eq_true]
  refine ⟨decide_eq_true h, kBL_of _ fun n hn => ?_⟩
  split at hn
  ·
   cases hn
  ·
   obtain ⟨g, hg, rfl⟩ := List.mem_map.1 hn
   have ht := ((gather_all l path hs).iff g.1).2 (List.of_mem_zip hg).1
   obtain ⟨h', _, hm⟩ := selH_in l path g.1 hs ht
   exact kB_node l hok N _ _ _ _ (stepsS_key l hok path _ _ hm)
theorem kB_root (l : List Rule) (hok : RulesOk l) (nm : Bytes) (ds : List Node) : kB (rootP l nm ds) = true := by
 unfold rootP
 split
 ·
  rfl
 ·
  exact kB_node l hok _ _ _ _ _ (by simp)
theorem addL_len (l : List Rule) (ds : List Node) (x : List Step) (out : List Life) : (addL l ds x out).length ≤ out.length + 1 := by
 unfold addL
 by_cases c : (if h : lifePos x out < out.length then pathB out[lifePos x out].path x else false) = true
 ·
  rw [if_pos c]; omega
 ·
  rw [if_neg c, insAt_len]; exact Nat.le_refl _
theorem livesJ_len (l : List Rule) (ds : List Node) : ∀ (L : List (List Step)) (out : List Life), (livesJ l ds L out).length ≤ out.length + L.length
 | [], out => by simp [livesJ]
 | x :: r, out => by
  rw [livesJ, List.length_cons]
  have h1 := livesJ_len l ds r (addL l ds x out)
  have h2 := addL_len l ds x out
  omega
theorem livesI_len (l : List Rule) (ds : List Node) : ∀ (L : List Node) (out : List Life), (∀ d ∈ L, cntN d ≤ 1048576) → (livesI l ds L out).length ≤ out.length + L.length * 1048576
 | [], out, _ => by simp [livesI]
 | d :: r, out, h => by
  rw [livesI, List.length_cons]
  have h1 := livesI_len l ds r (livesJ l ds (belowN l d [] [⟨d.name, []⟩]) out) fun k hk => h k (List.mem_cons_of_mem _ hk)
  have h2 := livesJ_len l ds (belowN l d [] [⟨d.name, []⟩]) out
  have h3 := belowN_len l d [] [⟨d.name, []⟩]
  have h4 := h d List.mem_cons_self
  omega
end Go.Proofs.YtkelpbbekeelcaaGreatDoor

/-
 past.Lives. Helper lemmas; no statement of the seat is proved here.
-/
namespace Go.Proofs.YtkelpbbekeelcaaGreatDoor
open Go.RowKit
set_option maxRecDepth 100000
set_option linter.unusedVariables false
set_option linter.unusedSimpArgs false

@[go_sem] theorem run_store_func (P : Program) (w : World) (a : Addr) (m : Mode) (f : Fn) (x y : Array Value) : (store a (.func f x y) m).run P w = stored P w a (.func f x y) m := run_store P w a _ m rfl
mutual
theorem preA_bd (M : Nat) : ∀ (n : ANode) (path : List Step) (above : List Span), vB n = true → kB n = true → path.length + asz n ≤ M → above.length ≤ 1048576 → (∀ s ∈ path, s.key.length ≤ 1048576) → ∀ y ∈ preA n path above, y.path.length ≤ M ∧ y.vers.length ≤ 1048576 ∧ ∀ s ∈ y.path, s.key.length ≤ 1048576
 | .mk nm key v pa ks, path, above, h1, h2, h3, h4, h5, y, hy => by
  rw [vB, Bool.and_eq_true, decide_eq_true_eq] at h1
  rw [kB, Bool.and_eq_true, decide_eq_true_eq] at h2
  rw [asz] at h3
  have he : (eitherS v above).length ≤ 1048576 := by unfold eitherS; split <;> first | exact h4 | exact h1.1
  have hk : ∀ s ∈ path ++ [(⟨nm, key⟩ : Step)], s.key.length ≤ 1048576 := fun s hs => by
   rcases List.mem_append.1 hs with hs | hs
   ·
    exact h5 s hs
   ·
    rw [List.mem_singleton.1 hs]; exact h2.1
  rw [preA] at hy
  rcases List.mem_cons.1 hy with e | hy
  ·
   rw [e]; exact ⟨by simp; omega, he, hk⟩
  ·
   exact preAL_bd M ks _ _ h1.2 h2.2 (by simp; omega) he hk y hy
theorem preAL_bd (M : Nat) : ∀ (K : List ANode) (path : List Step) (above : List Span), vBL K = true → kBL K = true → path.length + aszL K ≤ M → above.length ≤ 1048576 → (∀ s ∈ path, s.key.length ≤ 1048576) → ∀ y ∈ preAL K path above, y.path.length ≤ M ∧ y.vers.length ≤ 1048576 ∧ ∀ s ∈ y.path, s.key.length ≤ 1048576
 | [], _, _, _, _, _, _, _, y, hy => by simp [preAL] at hy
 | n :: r, path, above, h1, h2, h3, h4, h5, y, hy => by
  rw [vBL, Bool.and_eq_true] at h1
  rw [kBL, Bool.and_eq_true] at h2
  rw [aszL] at h3
  rw [preAL] at hy
  rcases List.mem_append.1 hy with hy | hy
  ·
   exact preA_bd M n path above h1.1 h2.1 (by omega) h4 h5 y hy
  ·
   exact preAL_bd M r path above h1.2 h2.2 (by omega) h4 h5 y hy
end
set_option maxHeartbeats 8000000 in
theorem plives_any (last : Int) (root : ANode) (p : Nat → Prop) (vk vv vp vc : Value) (w : World) (hb : vB root = true) (hkb : kB root = true) (hsz : asz root ≤ 16777216) (hnm : root.name.length ≤ 9223372036854775807)
  (hvk : Rep w p vk (strsD root.key)) (hvv : Rep w p vv (spansD root.vers)) (hvp : Rep w p vp (partsD root.parts)) (hvc : Rep w p vc (anodesD root.kids)) :
  Calls Tryz.prog 24 #[.agg #[.int .i64 last, .string (bs root.name), vk, vv, vp, vc]] w fun e w' => Ret (fun _ => True) (livesD (if 0 < last then preA root [] [] else [])) e w' ∧ Ext w w' := by
 have HR := Lib.hid (And.intro hvk.lt (And.intro hvv.lt (And.intro hvp.lt hvc.lt)))
 obtain ⟨rk, rkc, rfl, _, _⟩ := hvk.count z_str (by omega)
 obtain ⟨rv, rvc, rfl, _, _⟩ := hvv.count z_span (by omega)
 obtain ⟨rp, rpc, rfl, _, _⟩ := hvp.count z_part (by omega)
 obtain ⟨rc, rcc, rfl, _, _⟩ := hvc.count z_anode (by omega)
 have HBD := Lib.hid (preA_bd 16777216 root [] [] hb hkb (by simpa using hsz) (by simp) (fun s h => by cases h))
 have HPL := Lib.hid (preA_len root [] [])
 have HB := Lib.hid (And.intro hb (And.intro hkb (And.intro hsz hnm)))
 clear hvk hvv hvp hvc hb hkb hsz hnm
 obtain ⟨wa, hwa⟩ : ∃ W, w.alloc (.cells #[.int .i64 last, .string (bs root.name), .slice rk root.key.length rkc, .slice rv root.vers.length rvc, .slice rp root.parts.length rpc, .slice rc root.kids.length rcc] 36) = W := ⟨_, rfl⟩
 have hEa : Ext w wa := by rw [← hwa]; exact (Ext.refl w).alloc _
 have hza : wa.heap.size = w.heap.size + 1 := by rw [← hwa]; simp
 have hba : wa.heap[w.heap.size]? = some (.cells [.int .i64 last, .string (bs root.name), .slice rk root.key.length rkc, .slice rv root.vers.length rvc, .slice rp root.parts.length rpc, .slice rc root.kids.length rcc].toArray 36 (0, 0)) := by rw [← hwa]; exact Array.getElem?_push_size
 obtain ⟨wb, hwb⟩ : ∃ W, wa.alloc (.cells #[.slice none 0 0] 49) = W := ⟨_, rfl⟩
 have hEb : Ext wa wb := by rw [← hwb]; exact (Ext.refl wa).alloc _
 have hzb : wb.heap.size = wa.heap.size + 1 := by rw [← hwb]; simp
 have hbb : wb.heap[wa.heap.size]? = some (.cells [.slice none 0 0].toArray 49 (0, 0)) := by rw [← hwb]; exact Array.getElem?_push_size
 obtain ⟨wc, hwc⟩ : ∃ W, wb.alloc (.cells #[.func (.func 50) #[] #[.pointer (some ⟨wa.heap.size, 0, none⟩), .pointer (some ⟨wb.heap.size, 0, none⟩)]] 111) = W := ⟨_, rfl⟩
 have hEc : Ext wb wc := by rw [← hwc]; exact (Ext.refl wb).alloc _
 have hzc : wc.heap.size = wb.heap.size + 1 := by rw [← hwc]; simp
 have hbc : wc.heap[wb.heap.size]? = some (.cells [.func (.func 50) #[] #[.pointer (some ⟨wa.heap.size, 0, none⟩), .pointer (some ⟨wb.heap.size, 0, none⟩)]].toArray 111 (0, 0)) := by rw [← hwc]; exact Array.getElem?_push_size
 have hE := hEa.trans (hEb.trans hEc)
 have h1 := hE.trans (Ext.refl _)
 have a0 := (hEb.trans hEc).keep (blk_lt hba) (blk_cells hba 0 rfl)
 have a1 := (hEb.trans hEc).keep (blk_lt hba) (blk_cells hba 1 rfl)
 have a2 := (hEb.trans hEc).keep (blk_lt hba) (blk_cells hba 2 rfl)
 have a3 := (hEb.trans hEc).keep (blk_lt hba) (blk_cells hba 3 rfl)
 have a4 := (hEb.trans hEc).keep (blk_lt hba) (blk_cells hba 4 rfl)
 have a5 := (hEb.trans hEc).keep (blk_lt hba) (blk_cells hba 5 rfl)
 have b0 := hEc.keep (blk_lt hbb) (blk_cells hbb 0 rfl)
 have f0 : wc.frozen? ⟨wa.heap.size, 0, none⟩ = false := hEc.free (blk_lt hbb) (by rw [← hwb]; simp [go_sem])
 have c0 := blk_cells hbc 0 rfl
 have hL0 : LSt wc wc.heap.size wa.heap.size wb.heap.size (.slice none 0 0) [] := ⟨b0, f0, c0, by omega, by omega, by omega, Own.nil _ _ _ _ _⟩
 have HL0 := Lib.hid hL0
 have HFR : Hid (∀ b, b < w.heap.size → Fr wa.heap.size (.slice none 0 0) b) := Lib.hid fun b hb => ⟨by omega, by intro e; cases e⟩
 have HSZ := Lib.hid (And.intro hza (And.intro hzb (And.intro hzc hE)))
 clear hL0 hba hbb hbc hEa hEb hEc h1 hza hzb hzc f0 b0
 go_enter Tryz.func24, Tryz.ntmps24
 by_cases h0 : 0 < last
 ·
  go_wp2_with fail
  refine (walk_any (asz root) root [] [] [] wc.heap.size wa.heap.size wb.heap.size (.slice none 0 0) _ _ _ _ _ _ wc (Nat.le_refl _) HB.out.1 HB.out.2.1 (by simpa using HB.out.2.2.1) (by simpa using HB.out.2.2.1) (by simp) HB.out.2.2.2 (Nat.le_refl _) HL0.out ((HR.out.1.ext HSZ.out.2.2.2).ok fun b hb => HFR.out b hb.2) ((HR.out.2.1.ext HSZ.out.2.2.2).ok fun b hb => HFR.out b hb.2) ((HR.out.2.2.1.ext HSZ.out.2.2.2).ok fun b hb => HFR.out b hb.2) ((HR.out.2.2.2.ext HSZ.out.2.2.2).ok fun b hb => HFR.out b hb.2) (.nil 2) (.nil 2)).mono ?_
  rintro e w4 ⟨⟨u, rfl⟩, dv, hL, hK⟩
  rw [List.nil_append] at hL
  have hE4 : Ext w w4 := by
   have hE := HSZ.out.2.2.2
   refine ⟨hK.os.trans hE.os, hK.tape.trans hE.tape, hK.output.trans hE.output, Nat.le_trans hE.size hK.size, fun b hb => (hK.block b (Nat.lt_of_lt_of_le hb hE.size) (HFR.out b hb)).trans (Below.block hE b hb)⟩
  have hc := hL.c
  have HC := Lib.hid (copies_any (preA root [] []) _ dv w4 (by rw [HPL.out]; exact HB.out.2.2.1) HBD.out hL.own.rep)
  clear hL hK a0 a1 a2 a3 a4 a5 c0 hwa hwb hwc
  go_wp2_with fail
  refine HC.out.mono ?_
  rintro e w5 ⟨⟨u5, rfl, hu⟩, hB5⟩
  clear HC
  go_wp2_with fail
  go_ret
  exact ⟨⟨_, rfl, hu⟩, hE4.trans hB5⟩
 ·
  have HC := Lib.hid (copies_any [] (fun _ => True) (.slice none 0 0) wc (by simp) (fun y h => by cases h) (.nil 2))
  have hb0 := HL0.out.c
  go_wp2_with fail
  refine HC.out.mono ?_
  rintro e w5 ⟨⟨u5, rfl, hu⟩, hB5⟩
  clear HC
  go_wp2_with fail
  go_ret
  exact ⟨⟨_, rfl, hu⟩, HSZ.out.2.2.2.trans hB5⟩

end Go.Proofs.YtkelpbbekeelcaaGreatDoor
