/-
 The archive of documents, plain. Helper lemmas; no statement of the seat is proved here.
-/
import Derived.Test.YtkelpbbekeelcaaGreatDoorU10
namespace Go.Proofs.YtkelpbbekeelcaaGreatDoor
open Go.RowKit
set_option maxHeartbeats 32000000
set_option maxRecDepth 100000
set_option linter.unusedVariables false
set_option linter.unusedSimpArgs false
def lastP (la : List Attr) (ks : List Node) : List Part → Nat → Int → Int
 | [], _, r => r
 | a :: x, i, r => lastP la ks x (i + 1) (if attrsS a.attrs la = true ∧ sameL a.kids ks = true then (i : Int) else r)
theorem lastP_range (la : List Attr) (ks : List Node) (m : Nat) : ∀ (x : List Part) (i : Nat) (r : Int), i + x.length ≤ m → r < m → -1 ≤ r → lastP la ks x i r < m ∧ -1 ≤ lastP la ks x i r
 | [], i, r, _, h, h' => ⟨h, h'⟩
 | a :: x, i, r, hi, h, h' => by
  rw [List.length_cons] at hi
  unfold lastP
  split
  ·
   exact lastP_range la ks m x (i + 1) _ (by omega) (by omega) (by omega)
  ·
   exact lastP_range la ks m x (i + 1) _ (by omega) h h'
def kidsW (whole : Bool) (n : Node) : List Node := if whole = true then n.kids else []
def addP (whole : Bool) (h : Held) (g : List Part × List (List Int)) : List Part × List (List Int) :=
 if lastP h.n.attrs (kidsW whole h.n) g.1 0 (-1) < 0 then (g.1 ++ [⟨[], h.n.attrs, kidsW whole h.n⟩], g.2 ++ [[h.v]])
 else (g.1, g.2.modify (lastP h.n.attrs (kidsW whole h.n) g.1 0 (-1)).toNat (· ++ [h.v]))
def partsG (whole : Bool) : List Held → List Part × List (List Int) → List Part × List (List Int)
 | [], g => g
 | h :: r, g => partsG whole r (addP whole h g)
def setV : List Part → List (List Int) → List Part
 | p :: x, s :: y => ⟨spansOf (flOf s), p.attrs, p.kids⟩ :: setV x y
 | _, _ => []
def partsP (whole : Bool) (l : List Held) : List Part := if 1 < (partsG whole l ([], [])).1.length then setV (partsG whole l ([], [])).1 (partsG whole l ([], [])).2 else (partsG whole l ([], [])).1
def stepPos (s : Step) (l : List Step) : Nat := l.findIdx fun x => !aheadB x s
def addS (s : Step) (h : Held) (g : List Step × List (List Held)) : List Step × List (List Held) :=
 if stepPos s g.1 = g.1.length ∨ stepB (g.1.getD (stepPos s g.1) ⟨[], []⟩) s = false then (insAt g.1 (stepPos s g.1) s, insAt g.2 (stepPos s g.1) [h])
 else (g.1, g.2.modify (stepPos s g.1) (· ++ [h]))
def gatherK (v : Int) : List Step → List Node → List Step × List (List Held) → List Step × List (List Held)
 | s :: ss, k :: ks, g => gatherK v ss ks (addS s ⟨v, k⟩ g)
 | _, _, g => g
def gather (l : List Rule) (path : List Bytes) : List Held → List Step × List (List Held) → List Step × List (List Held)
 | [], g => g
 | h :: r, g => gather l path r (gatherK h.v (stepsS l path h.n.kids) h.n.kids g)
def ownV (hs : List Held) : List Span := spansOf (flOf (hs.map (·.v)))
def versV (hs : List Held) (above : List Span) : List Span := if spansS (ownV hs) above = true then [] else ownV hs
def nodeP (l : List Rule) : Nat → List Bytes → Step → List Held → List Span → ANode
 | 0, _, s, hs, above => .mk s.n s.key (versV hs above) [] []
 | N + 1, path, s, hs, above => .mk s.n s.key (versV hs above) (partsP (frontS l path) hs)
   (if frontS l path = true then [] else ((gather l path hs ([], [])).1.zip (gather l path hs ([], [])).2).map fun g => nodeP l N (path ++ [g.1.n]) g.1 g.2 (ownV hs))
def heldsOf : List Node → Nat → List Held
 | [], _ => []
 | d :: r, i => ⟨(i : Int) + 1, d⟩ :: heldsOf r (i + 1)
def rootP (l : List Rule) (nm : Bytes) (ds : List Node) : ANode := if ds = [] then zeroA else nodeP l (nszL ds + 1) [nm] ⟨nm, []⟩ (heldsOf ds 0) []
theorem lessB_irrefl : ∀ x : Bytes, lessB x x = false
 | [] => rfl
 | a :: x => by rw [lessB, if_pos rfl]; exact lessB_irrefl x
theorem lessB_trans : ∀ x y z : Bytes, lessB x y = true → lessB y z = true → lessB x z = true
 | [], [], _, h, _ => by cases h
 | _ :: _, [], _, h, _ => by cases h
 | _, _ :: _, [], _, h => by cases h
 | [], _ :: _, _ :: _, _, _ => rfl
 | a :: x, b :: y, c :: z, h, k => by
  rw [lessB] at h k ⊢
  by_cases hab : a = b
  ·
   subst hab
   rw [if_pos rfl] at h
   by_cases hac : a = c
   ·
    subst hac
    rw [if_pos rfl] at k ⊢
    exact lessB_trans x y z h k
   ·
    rw [if_neg hac] at k ⊢; exact k
  ·
   rw [if_neg hab] at h
   by_cases hbc : b = c
   ·
    subst hbc; rw [if_neg hab]; exact h
   ·
    rw [if_neg hbc] at k
    have h1 := of_decide_eq_true h
    have h2 := of_decide_eq_true k
    have hac : a ≠ c := by intro e; subst e; omega
    rw [if_neg hac]; exact decide_eq_true (by omega)
theorem lessB_total : ∀ x y : Bytes, x ≠ y → lessB x y = false → lessB y x = true
 | [], [], h, _ => absurd rfl h
 | [], _ :: _, _, h => by cases h
 | _ :: _, [], _, _ => rfl
 | a :: x, b :: y, h, k => by
  rw [lessB] at k ⊢
  by_cases hab : a = b
  ·
   subst hab
   rw [if_pos rfl] at k ⊢
   exact lessB_total x y (fun e => h (by rw [e])) k
  ·
   rw [if_neg hab] at k
   rw [if_neg (fun e => hab e.symm)]
   have h1 := of_decide_eq_false k
   have h2 : a.toNat ≠ b.toNat := fun e => hab (UInt8.toNat_inj.1 e)
   exact decide_eq_true (by omega)
theorem lessK_irrefl : ∀ x : List Bytes, lessK x x = false
 | [] => rfl
 | a :: x => by rw [lessK, if_pos rfl]; exact lessK_irrefl x
theorem lessK_trans : ∀ x y z : List Bytes, lessK x y = true → lessK y z = true → lessK x z = true
 | [], [], _, h, _ => by cases h
 | _ :: _, [], _, h, _ => by cases h
 | _, _ :: _, [], _, h => by cases h
 | [], _ :: _, _ :: _, _, _ => rfl
 | a :: x, b :: y, c :: z, h, k => by
  rw [lessK] at h k ⊢
  by_cases hab : a = b
  ·
   subst hab
   rw [if_pos rfl] at h
   by_cases hac : a = c
   ·
    subst hac
    rw [if_pos rfl] at k ⊢
    exact lessK_trans x y z h k
   ·
    rw [if_neg hac] at k ⊢; exact k
  ·
   rw [if_neg hab] at h
   by_cases hbc : b = c
   ·
    subst hbc; rw [if_neg hab]; exact h
   ·
    rw [if_neg hbc] at k
    have hac : a ≠ c := by
     intro e; subst e
     have := lessB_trans a b a h k
     rw [lessB_irrefl] at this; cases this
    rw [if_neg hac]; exact lessB_trans a b c h k
theorem lessK_total : ∀ x y : List Bytes, x ≠ y → lessK x y = false → lessK y x = true
 | [], [], h, _ => absurd rfl h
 | [], _ :: _, _, h => by cases h
 | _ :: _, [], _, _ => rfl
 | a :: x, b :: y, h, k => by
  rw [lessK] at k ⊢
  by_cases hab : a = b
  ·
   subst hab
   rw [if_pos rfl] at k ⊢
   exact lessK_total x y (fun e => h (by rw [e])) k
  ·
   rw [if_neg hab] at k
   rw [if_neg (fun e => hab e.symm)]
   exact lessB_total a b hab k
theorem aheadB_irrefl (x : Step) : aheadB x x = false := by unfold aheadB; rw [if_pos rfl]; exact lessK_irrefl _
theorem aheadB_trans (x y z : Step) (h : aheadB x y = true) (k : aheadB y z = true) : aheadB x z = true := by
 unfold aheadB at *
 by_cases hab : x.n = y.n
 ·
  rw [if_pos hab] at h
  by_cases hbc : y.n = z.n
  ·
   rw [if_pos hbc] at k; rw [if_pos (hab.trans hbc)]; exact lessK_trans _ _ _ h k
  ·
   rw [if_neg hbc] at k; rw [if_neg (by rw [hab]; exact hbc), hab]; exact k
 ·
  rw [if_neg hab] at h
  by_cases hbc : y.n = z.n
  ·
   rw [if_neg (by rw [← hbc]; exact hab), ← hbc]; exact h
  ·
   rw [if_neg hbc] at k
   have hac : x.n ≠ z.n := by
    intro e
    have := lessB_trans _ _ _ h k
    rw [e, lessB_irrefl] at this; cases this
   rw [if_neg hac]; exact lessB_trans _ _ _ h k
theorem aheadB_total (x y : Step) (h : x ≠ y) (k : aheadB x y = false) : aheadB y x = true := by
 unfold aheadB at *
 by_cases hab : x.n = y.n
 ·
  rw [if_pos hab] at k
  rw [if_pos hab.symm]
  refine lessK_total _ _ (fun e => h ?_) k
  cases x; cases y; simp_all
 ·
  rw [if_neg hab] at k
  rw [if_neg (fun e => hab e.symm)]
  exact lessB_total _ _ hab k
theorem aheadB_asymm (x y : Step) (h : aheadB x y = true) : aheadB y x = false := by
 cases k : aheadB y x with
 | false => rfl
 | true => have := aheadB_trans _ _ _ h k; rw [aheadB_irrefl] at this; cases this
def Rising (l : List Step) : Prop := l.Pairwise fun a b => aheadB a b = true
theorem insAt_cons {α : Type} (a : α) (l : List α) (n : Nat) (x : α) : insAt (a :: l) (n + 1) x = a :: insAt l n x := by simp [insAt]
theorem insAt_zero {α : Type} (l : List α) (x : α) : insAt l 0 x = x :: l := by simp [insAt]
theorem mem_insAt {α : Type} (l : List α) (n : Nat) (x y : α) : y ∈ insAt l n x ↔ y = x ∨ y ∈ l := by
 unfold insAt
 rw [List.mem_append, List.mem_cons]
 constructor
 ·
  rintro (h | h | h)
  ·
   exact .inr (List.mem_of_mem_take h)
  ·
   exact .inl h
  ·
   exact .inr (List.mem_of_mem_drop h)
 ·
  rintro (h | h)
  ·
   exact .inr (.inl h)
  ·
   rw [← List.take_append_drop n l, List.mem_append] at h
   rcases h with h | h
   ·
    exact .inl h
   ·
    exact .inr (.inr h)
theorem stepPos_cons (s a : Step) (l : List Step) : stepPos s (a :: l) = if aheadB a s = true then stepPos s l + 1 else 0 := by
 unfold stepPos
 rw [List.findIdx_cons]
 cases aheadB a s <;> simp
theorem stepPos_le (s : Step) : ∀ l, stepPos s l ≤ l.length
 | [] => by simp [stepPos]
 | a :: l => by rw [stepPos_cons]; have := stepPos_le s l; split <;> simp <;> omega
theorem stepPos_mem (s : Step) : ∀ l, Rising l → s ∈ l → stepPos s l < l.length ∧ ∀ h : stepPos s l < l.length, l[stepPos s l] = s
 | [], _, h => by cases h
 | a :: l, hr, h => by
  rw [Rising, List.pairwise_cons] at hr
  have hp := stepPos_cons s a l
  by_cases ha : a = s
  ·
   subst ha
   rw [aheadB_irrefl] at hp
   simp only [Bool.false_eq_true, if_false] at hp
   rw [hp]; simp
  ·
   have hm : s ∈ l := by rcases List.mem_cons.1 h with h | h; exact absurd h.symm ha; exact h
   rw [if_pos (hr.1 s hm)] at hp
   obtain ⟨h1, h2⟩ := stepPos_mem s l hr.2 hm
   rw [hp]
   refine ⟨by simpa using h1, fun _ => ?_⟩
   simpa using h2 h1
theorem stepPos_new (s : Step) : ∀ l, Rising l → s ∉ l → Rising (insAt l (stepPos s l) s)
 | [], _, _ => by simp [Rising, insAt]
 | a :: l, hr, h => by
  have hr' := hr
  rw [Rising, List.pairwise_cons] at hr
  have hp := stepPos_cons s a l
  have ha : a ≠ s := fun e => h (by rw [e]; exact List.mem_cons_self)
  by_cases hb : aheadB a s = true
  ·
   rw [if_pos hb] at hp
   rw [hp, insAt_cons, Rising, List.pairwise_cons]
   refine ⟨fun y hy => ?_, stepPos_new s l hr.2 (fun hm => h (List.mem_cons_of_mem _ hm))⟩
   rcases (mem_insAt _ _ _ _).1 hy with h1 | h1
   ·
    rw [h1]; exact hb
   ·
    exact hr.1 y h1
  ·
   rw [if_neg hb] at hp
   rw [hp, insAt_zero, Rising, List.pairwise_cons]
   have hsa := aheadB_total a s ha (by simpa using hb)
   refine ⟨fun y hy => ?_, hr'⟩
   rcases List.mem_cons.1 hy with h1 | h1
   ·
    rw [h1]; exact hsa
   ·
    exact aheadB_trans _ _ _ hsa (hr.1 y h1)
theorem insAt_len' {α : Type} (l : List α) (n : Nat) (x : α) : (insAt l n x).length = l.length + 1 := by
 unfold insAt; rw [List.length_append, List.length_cons, List.length_take, List.length_drop]; omega
theorem insAt_zip {α β : Type} : ∀ (l : List α) (m : List β) (n : Nat) (x : α) (y : β), l.length = m.length → n ≤ l.length → (insAt l n x).zip (insAt m n y) = insAt (l.zip m) n (x, y)
 | l, m, 0, x, y, _, _ => by rw [insAt_zero, insAt_zero, insAt_zero, List.zip_cons_cons]
 | [], _, n + 1, _, _, _, h => by simp at h
 | _ :: _, [], _ + 1, _, _, h, _ => by simp at h
 | a :: l, b :: m, n + 1, x, y, h, hn => by rw [insAt_cons, insAt_cons, List.zip_cons_cons, List.zip_cons_cons, insAt_cons, insAt_zip l m n x y (by simpa using h) (by simpa using hn)]
instance stepDec : DecidableEq Step := fun a b => decidable_of_iff _ (stepB_iff a b)
structure GInv (g : List Step × List (List Held)) (F : Step → List Held) : Prop where
 rise : Rising g.1
 len : g.1.length = g.2.length
 eq : ∀ p ∈ g.1.zip g.2, p.2 = F p.1
 iff : ∀ s, F s ≠ [] ↔ s ∈ g.1
theorem zip_modify_ne {β : Type} (f : β → β) : ∀ (l : List Step) (m : List β) (n : Nat) (p : Step × β), Rising l → p ∈ l.zip (m.modify n f) → (p ∈ l.zip m ∧ ∀ h : n < l.length, p.1 ≠ l[n]) ∨ ∃ h : n < l.length, ∃ h' : n < m.length, p = (l[n], f m[n])
 | [], _, _, _, _, h => by simp at h
 | _ :: _, [], n, _, _, h => by cases n <;> simp at h
 | a :: l, b :: m, 0, p, hr, h => by
  rw [Rising, List.pairwise_cons] at hr
  rw [List.modify_zero_cons, List.zip_cons_cons, List.mem_cons] at h
  rcases h with h | h
  ·
   exact .inr ⟨by simp, by simp, h⟩
  ·
   refine .inl ⟨by rw [List.zip_cons_cons]; exact List.mem_cons_of_mem _ h, fun _ e => ?_⟩
   have h1 := hr.1 p.1 (List.of_mem_zip h).1
   rw [e] at h1
   have h2 : aheadB a a = true := by simpa using h1
   rw [aheadB_irrefl] at h2; cases h2
 | a :: l, b :: m, n + 1, p, hr, h => by
  rw [Rising, List.pairwise_cons] at hr
  rw [List.modify_succ_cons, List.zip_cons_cons, List.mem_cons] at h
  rcases h with h | h
  ·
   refine .inl ⟨by rw [List.zip_cons_cons]; exact List.mem_cons.2 (.inl h), fun h' e => ?_⟩
   have h1 : aheadB a (l[n]'(by simpa using h')) = true := hr.1 _ (List.getElem_mem _)
   rw [h] at e
   simp only [List.getElem_cons_succ] at e
   rw [← e, aheadB_irrefl] at h1; cases h1
  ·
   rcases zip_modify_ne f l m n p hr.2 h with ⟨h1, h2⟩ | ⟨h1, h2, h3⟩
   ·
    exact .inl ⟨by rw [List.zip_cons_cons]; exact List.mem_cons_of_mem _ h1, fun h' e => h2 (by simpa using h') (by simpa using e)⟩
   ·
    exact .inr ⟨by simpa using h1, by simpa using h2, by simpa using h3⟩
theorem addS_inv (s : Step) (h : Held) (g : List Step × List (List Held)) (F : Step → List Held) (hg : GInv g F) : GInv (addS s h g) (fun t => if t = s then F s ++ [h] else F t) := by
 obtain ⟨S, L⟩ := g
 obtain ⟨hr, hl, he, hi⟩ := hg
 simp only at hr hl he hi
 have hle := stepPos_le s S
 by_cases hm : s ∈ S
 ·
  obtain ⟨h1, h2⟩ := stepPos_mem s S hr hm
  have h3 := h2 h1
  have hc : ¬ (stepPos s S = S.length ∨ stepB (S.getD (stepPos s S) ⟨[], []⟩) s = false) := by
   rintro (h | h)
   ·
    omega
   ·
    rw [List.getD_eq_getElem?_getD, List.getElem?_eq_getElem h1, Option.getD_some, h3, (stepB_iff s s).2 rfl] at h; cases h
  have hadd : addS s h (S, L) = (S, L.modify (stepPos s S) (· ++ [h])) := by unfold addS; rw [if_neg hc]
  rw [hadd]
  refine ⟨hr, by simpa using hl, fun p hp => ?_, fun t => ?_⟩
  ·
   simp only at hp
   rcases zip_modify_ne _ S L _ p hr hp with ⟨h4, h5⟩ | ⟨h4, h5, h6⟩
   ·
    rw [if_neg (by rw [← h3]; exact h5 h1)]; exact he p h4
   ·
    have h7 : p.1 = s := by rw [h6]; exact h3
    rw [if_pos h7, h6]
    have h8 := he (S[stepPos s S], L[stepPos s S]) (by
     have := List.getElem_mem (l := S.zip L) (n := stepPos s S) (by rw [List.length_zip]; omega)
     rw [List.getElem_zip] at this; exact this)
    simp only at h8 ⊢
    rw [h8, h3]
  ·
   by_cases ht : t = s
   ·
    subst ht; simp [hm]
   ·
    rw [if_neg ht]; exact hi t
 ·
  have hF : F s = [] := by
   by_cases hFe : F s = []
   ·
    exact hFe
   ·
    exact absurd ((hi s).1 hFe) hm
  have hc : stepPos s S = S.length ∨ stepB (S.getD (stepPos s S) ⟨[], []⟩) s = false := by
   by_cases h1 : stepPos s S < S.length
   ·
    right
    rw [List.getD_eq_getElem?_getD, List.getElem?_eq_getElem h1, Option.getD_some]
    cases hb : stepB S[stepPos s S] s with
    | false => rfl
    | true => exact absurd (by rw [← (stepB_iff _ _).1 hb]; exact List.getElem_mem _) hm
   ·
    left; omega
  have hadd : addS s h (S, L) = (insAt S (stepPos s S) s, insAt L (stepPos s S) [h]) := by unfold addS; rw [if_pos hc]
  rw [hadd]
  refine ⟨stepPos_new s S hr hm, by simp only [insAt_len']; omega, fun p hp => ?_, fun t => ?_⟩
  ·
   simp only at hp
   rw [insAt_zip S L _ s [h] hl hle] at hp
   rcases (mem_insAt _ _ _ _).1 hp with h1 | h1
   ·
    rw [h1, if_pos rfl, hF]; rfl
   ·
    have h2 : p.1 ≠ s := fun e => hm (by rw [← e]; exact (List.of_mem_zip h1).1)
    rw [if_neg h2]; exact he p h1
  ·
   rw [mem_insAt]
   by_cases ht : t = s
   ·
    subst ht; simp
   ·
    rw [if_neg ht]; simp [ht, hi t]
def selK (t : Step) (v : Int) : List Step → List Node → List Held
 | s :: ss, k :: ks => (if t = s then [⟨v, k⟩] else []) ++ selK t v ss ks
 | _, _ => []
theorem gatherK_inv (v : Int) : ∀ (ss : List Step) (ks : List Node) (g : List Step × List (List Held)) (F : Step → List Held), GInv g F → GInv (gatherK v ss ks g) (fun t => F t ++ selK t v ss ks)
 | s :: ss, k :: ks, g, F, hg => by
  have h1 := gatherK_inv v ss ks _ _ (addS_inv s ⟨v, k⟩ g F hg)
  rw [gatherK]
  have e : (fun t => F t ++ selK t v (s :: ss) (k :: ks)) = (fun t => (fun t => if t = s then F s ++ [⟨v, k⟩] else F t) t ++ selK t v ss ks) := by
   funext t
   simp only [selK]
   by_cases ht : t = s
   ·
    subst ht; simp
   ·
    simp [ht]
  rw [e]; exact h1
 | [], ks, g, F, hg => by
  have e : (fun t => F t ++ selK t v [] ks) = F := by funext t; simp [selK]
  rw [e]; exact hg
 | s :: ss, [], g, F, hg => by
  have e : (fun t => F t ++ selK t v (s :: ss) []) = F := by funext t; simp [selK]
  rw [e]; exact hg
def selH (l : List Rule) (path : List Bytes) (t : Step) : List Held → List Held
 | [] => []
 | h :: r => selK t h.v (stepsS l path h.n.kids) h.n.kids ++ selH l path t r
theorem gather_inv (l : List Rule) (path : List Bytes) : ∀ (hs : List Held) (g : List Step × List (List Held)) (F : Step → List Held), GInv g F → GInv (gather l path hs g) (fun t => F t ++ selH l path t hs)
 | [], g, F, hg => by
  have e : (fun t => F t ++ selH l path t []) = F := by funext t; simp [selH]
  rw [e]; exact hg
 | h :: r, g, F, hg => by
  have h1 := gather_inv l path r _ _ (gatherK_inv h.v (stepsS l path h.n.kids) h.n.kids g F hg)
  have e : (fun t => F t ++ selH l path t (h :: r)) = (fun t => (F t ++ selK t h.v (stepsS l path h.n.kids) h.n.kids) ++ selH l path t r) := by funext t; simp [selH]
  rw [e]; exact h1
theorem gather_all (l : List Rule) (path : List Bytes) (hs : List Held) : GInv (gather l path hs ([], [])) (fun t => selH l path t hs) := by
 have h0 : GInv ([], []) (fun _ => []) := ⟨List.Pairwise.nil, rfl, fun p hp => by simp at hp, fun s => by simp⟩
 have h1 := gather_inv l path hs _ _ h0
 simpa using h1
theorem spansV_nil (f : Nat → Bool) : ∀ (k v : Nat), 201 - v ≤ k → spansV f k v = [] → ∀ j, v ≤ j → j ≤ 200 → f j = false
 | 0, v, h, _, j, h1, h2 => by omega
 | k + 1, v, h, e, j, h1, h2 => by
  unfold spansV at e
  rw [if_pos (by omega)] at e
  split at e
  ·
   cases e
  ·
   rename_i hf
   by_cases hj : j = v
   ·
    subst hj; simpa using hf
   ·
    exact spansV_nil f k (v + 1) (by omega) e j (by omega) h2
theorem spansOf_ne (L : List Int) (v : Int) (hv : v ∈ L) (h1 : 1 ≤ v) (h2 : v ≤ 200) : spansOf (flOf L) ≠ [] := by
 intro e
 have h := spansV_nil (flOf L) 200 1 (by omega) e v.toNat (by omega) (by omega)
 unfold flOf at h
 have h3 := of_decide_eq_false h
 refine h3 ⟨by omega, by omega, ?_⟩
 rw [Int.toNat_of_nonneg (by omega)]; exact hv
theorem findS_none (path : List Bytes) : ∀ (l : List Rule) (i : Nat), (∀ r ∈ l, r.path ≠ path) → findS path l i = -1
 | [], _, _ => rfl
 | r :: l, i, h => by
  have h1 : ¬ textsS r.path path = true := fun e => h r List.mem_cons_self ((textsS_iff _ _).1 e)
  rw [findS, if_neg h1]
  exact findS_none path l (i + 1) fun r hr => h r (List.mem_cons_of_mem _ hr)
theorem front_find (l : List Rule) (path : List Bytes) (nm : Bytes) (h : frontS l path = true) : findS (path ++ [nm]) l 0 < 0 := by
 unfold frontS at h
 rw [Bool.and_eq_true] at h
 rw [findS_none]
 ·
  omega
 ·
  intro r hr e
  have h1 : aboveS path l = true := by
   unfold aboveS
   rw [List.any_eq_true]
   refine ⟨r, hr, ?_⟩
   rw [Bool.and_eq_true, textsS_iff, e]
   exact ⟨decide_eq_true (by simp), by simp⟩
  rw [h1] at h
  simp at h
theorem front_steps (l : List Rule) (path : List Bytes) (h : frontS l path = true) : ∀ ks, stepsS l path ks = []
 | [] => rfl
 | k :: r => by rw [stepsS, if_pos (front_find l path k.name h)]; exact front_steps l path h r
mutual
def wfN (l : List Rule) : Node → List Bytes → Prop
 | .mk k _ _ _ ks, path => k = 1 ∧ (frontS l path = false → (stepsS l path ks).length = ks.length ∧ Rising (stepsS l path ks) ∧ wfL l ks path)
def wfL (l : List Rule) : List Node → List Bytes → Prop
 | [], _ => True
 | k :: r, path => wfN l k (path ++ [k.name]) ∧ wfL l r path
end
theorem wfN_eq (l : List Rule) (n : Node) (path : List Bytes) : wfN l n path ↔ n.kind = 1 ∧ (frontS l path = false → (stepsS l path n.kids).length = n.kids.length ∧ Rising (stepsS l path n.kids) ∧ wfL l n.kids path) := by
 cases n; rw [wfN]; rfl
theorem wfL_mem (l : List Rule) (path : List Bytes) : ∀ (ks : List Node) (k : Node), wfL l ks path → k ∈ ks → wfN l k (path ++ [k.name])
 | [], _, _, h => by cases h
 | a :: r, k, h, hk => by
  rw [wfL] at h
  rcases List.mem_cons.1 hk with e | hk
  ·
   rw [e]; exact h.1
  ·
   exact wfL_mem l path r k h.2 hk
def lookK (t : Step) : List Step → List Node → Option Node
 | s :: ss, k :: ks => if t = s then some k else lookK t ss ks
 | _, _ => none
theorem lookK_none_of (t : Step) : ∀ (ss : List Step) (ks : List Node), t ∉ ss → lookK t ss ks = none
 | [], _, _ => by cases ‹List Node› <;> rfl
 | _ :: _, [], _ => rfl
 | s :: ss, k :: ks, h => by
  rw [lookK, if_neg (fun e => h (by rw [e]; exact List.mem_cons_self))]
  exact lookK_none_of t ss ks fun hm => h (List.mem_cons_of_mem _ hm)
theorem rising_head {a : Step} {l : List Step} (h : Rising (a :: l)) : a ∉ l := by
 intro hm
 rw [Rising, List.pairwise_cons] at h
 have := h.1 a hm
 rw [aheadB_irrefl] at this; cases this
theorem rising_tail {a : Step} {l : List Step} (h : Rising (a :: l)) : Rising l := by
 rw [Rising, List.pairwise_cons] at h; exact h.2
theorem selK_none (t : Step) (v : Int) : ∀ (ss : List Step) (ks : List Node), t ∉ ss → selK t v ss ks = []
 | [], _, _ => by cases ‹List Node› <;> rfl
 | _ :: _, [], _ => rfl
 | s :: ss, k :: ks, h => by
  rw [selK, if_neg (fun e => h (by rw [e]; exact List.mem_cons_self)), selK_none t v ss ks fun hm => h (List.mem_cons_of_mem _ hm)]
  rfl
theorem selK_look (t : Step) (v : Int) : ∀ (ss : List Step) (ks : List Node), Rising ss → selK t v ss ks = ((lookK t ss ks).map fun k => (⟨v, k⟩ : Held)).toList
 | [], _, _ => by cases ‹List Node› <;> rfl
 | _ :: _, [], _ => rfl
 | s :: ss, k :: ks, h => by
  rw [selK, lookK]
  by_cases e : t = s
  ·
   subst e
   rw [if_pos rfl, if_pos rfl, selK_none t v ss ks (rising_head h)]; rfl
  ·
   rw [if_neg e, if_neg e, List.nil_append]
   exact selK_look t v ss ks (rising_tail h)
theorem lastAt_none (t : Step) : ∀ (ss : List Step) (i : Nat) (r : Int), t ∉ ss → lastAt t ss i r = r
 | [], _, _, _ => rfl
 | s :: ss, i, r, h => by
  have h1 : ¬ stepB s t = true := fun e => h (by rw [(stepB_iff s t).1 e]; exact List.mem_cons_self)
  rw [lastAt, if_neg h1]
  exact lastAt_none t ss (i + 1) r fun hm => h (List.mem_cons_of_mem _ hm)
theorem lastAt_look (t : Step) : ∀ (ss : List Step) (ks : List Node) (i : Nat) (r : Int), Rising ss → ss.length = ks.length →
  (lookK t ss ks = none → lastAt t ss i r = r) ∧ ∀ k, lookK t ss ks = some k → ∃ j : Nat, lastAt t ss i r = ((i + j : Nat) : Int) ∧ ks[j]? = some k ∧ ss[j]? = some t
 | [], ks, i, r, _, _ => ⟨fun _ => rfl, fun k h => by cases ks <;> cases h⟩
 | s :: ss, [], i, r, _, h => by cases h
 | s :: ss, k :: ks, i, r, h, hl => by
  rw [lookK, lastAt]
  by_cases e : t = s
  ·
   subst e
   rw [if_pos rfl, if_pos ((stepB_iff t t).2 rfl), lastAt_none t ss _ _ (rising_head h)]
   refine ⟨fun h => (by cases h), fun k' h' => ⟨0, by simp, ?_, rfl⟩⟩
   cases h'; rfl
  ·
   rw [if_neg e, if_neg (fun h => e ((stepB_iff s t).1 h).symm)]
   obtain ⟨h1, h2⟩ := lastAt_look t ss ks (i + 1) r (rising_tail h) (by simpa using hl)
   refine ⟨h1, fun k' hk' => ?_⟩
   obtain ⟨j, hj, hkj, hsj⟩ := h2 k' hk'
   exact ⟨j + 1, by rw [hj]; congr 1; omega, by simpa using hkj, by simpa using hsj⟩
theorem steps_name (l : List Rule) (path : List Bytes) : ∀ (ks : List Node), (stepsS l path ks).length = ks.length → ∀ (j : Nat) (s : Step) (k : Node), (stepsS l path ks)[j]? = some s → ks[j]? = some k → s.n = k.name
 | [], _, j, s, k, _, h => by simp at h
 | a :: r, hl, j, s, k, hs, hk => by
  rw [stepsS] at hl hs
  by_cases hf : findS (path ++ [a.name]) l 0 < 0
  ·
   rw [if_pos hf, List.length_cons] at hl
   have := stepsS_len l path r; omega
  ·
   rw [if_neg hf] at hl hs
   match j with
   | 0 => simp at hs hk; rw [← hs, ← hk]
   | j + 1 => exact steps_name l path r (by simpa using hl) j s k (by simpa using hs) (by simpa using hk)
theorem walkF_ge (l : List Rule) : ∀ (x : List Step) (n : Node) (path : List Bytes) (i : Nat), i ≤ (walkF l n path x i).2
 | [], n, path, i => by rw [walkF]; exact Nat.le_refl _
 | s :: r, n, path, i => by
  rw [walkF]
  split
  ·
   exact Nat.le_refl _
  ·
   exact Nat.le_trans (Nat.le_succ i) (walkF_ge l r _ _ (i + 1))
theorem walkF_step (l : List Rule) (n : Node) (path : List Bytes) (t : Step) (r : List Step) (i : Nat) (hw : wfN l n path) :
  (lookK t (stepsS l path n.kids) n.kids = none → walkF l n path (t :: r) i = (zeroN, i)) ∧
  ∀ k, lookK t (stepsS l path n.kids) n.kids = some k → k ∈ n.kids ∧ k.name = t.n ∧ walkF l n path (t :: r) i = walkF l k (path ++ [t.n]) r (i + 1) := by
 rw [wfN_eq] at hw
 rw [walkF]
 cases hf : frontS l path with
 | true =>
  rw [front_steps l path hf]
  refine ⟨fun _ => (by rw [if_pos (by rw [lastAt]; omega)]), fun k h => (by cases hk : n.kids <;> rw [hk] at h <;> cases h)⟩
 | false =>
  obtain ⟨hl, hr, _⟩ := hw.2 hf
  obtain ⟨h1, h2⟩ := lastAt_look t _ n.kids 0 (-1) hr hl
  refine ⟨fun h => by rw [h1 h, if_pos (by decide)], fun k h => ?_⟩
  obtain ⟨j, hj, hkj, hsj⟩ := h2 k h
  have hn := steps_name l path n.kids hl j t k hsj hkj
  have hka : kidAt l n path t = k := by unfold kidAt; rw [hj, Nat.zero_add, Int.toNat_natCast, List.getD_eq_getElem?_getD, hkj]; rfl
  refine ⟨List.mem_of_getElem? hkj, hn.symm, ?_⟩
  rw [hj, if_neg (by omega), hka, hn]
theorem idxA_none (t : Step) : ∀ (K : List ANode) (i : Nat), (∀ n ∈ K, isB n t = false) → idxA t K i = -1
 | [], _, _ => rfl
 | n :: r, i, h => by
  rw [idxA, if_neg (by rw [h n List.mem_cons_self]; decide)]
  exact idxA_none t r (i + 1) fun n hn => h n (List.mem_cons_of_mem _ hn)
theorem idxA_some (t : Step) : ∀ (K : List ANode) (i j : Nat) (h : j < K.length), isB K[j] t = true → (∀ (m : Nat) (hm : m < K.length), m < j → isB K[m] t = false) → idxA t K i = ((i + j : Nat) : Int)
 | [], _, _, h, _, _ => by simp at h
 | n :: r, i, 0, h, hb, _ => by rw [idxA, if_pos (by simpa using hb)]; simp
 | n :: r, i, j + 1, h, hb, hm => by
  have h0 := hm 0 (by simp) (by omega)
  simp only [List.getElem_cons_zero] at h0
  rw [idxA, if_neg (by rw [h0]; decide), idxA_some t r (i + 1) j (by simpa using h) (by simpa using hb) fun m h1 h2 => by have := hm (m + 1) (by simpa using h1) (by omega); simpa using this]
  congr 1; omega
theorem nodeP_vers (l : List Rule) (N : Nat) (path : List Bytes) (s : Step) (hs : List Held) (above : List Span) : (nodeP l N path s hs above).vers = versV hs above := by cases N <;> rfl
theorem nodeP_is (l : List Rule) (N : Nat) (path : List Bytes) (s t : Step) (hs : List Held) (above : List Span) : isB (nodeP l N path s hs above) t = stepB s t := by
 have h1 : (nodeP l N path s hs above).name = s.n := by cases N <;> rfl
 have h2 : (nodeP l N path s hs above).key = s.key := by cases N <;> rfl
 unfold isB stepB; rw [h1, h2]
theorem nodeP_kids (l : List Rule) (N : Nat) (path : List Bytes) (s : Step) (hs : List Held) (above : List Span) : (nodeP l (N + 1) path s hs above).kids = if frontS l path = true then [] else ((gather l path hs ([], [])).1.zip (gather l path hs ([], [])).2).map fun g => nodeP l N (path ++ [g.1.n]) g.1 g.2 (ownV hs) := rfl
theorem ownV_ne (hs : List Held) (h0 : hs ≠ []) (hv : ∀ h ∈ hs, 1 ≤ h.v ∧ h.v ≤ 200) : ownV hs ≠ [] := by
 obtain ⟨h, hm⟩ := List.exists_mem_of_ne_nil hs h0
 exact spansOf_ne _ h.v (List.mem_map.2 ⟨h, hm, rfl⟩) (hv h hm).1 (hv h hm).2
theorem either_vers (hs : List Held) (above : List Span) (h0 : hs ≠ []) (hv : ∀ h ∈ hs, 1 ≤ h.v ∧ h.v ≤ 200) : eitherS (versV hs above) above = ownV hs := by
 unfold eitherS versV
 by_cases h : spansS (ownV hs) above = true
 ·
  rw [if_pos h, if_pos (by rfl)]; exact ((spansS_iff _ _).1 h).symm
 ·
  rw [if_neg h, if_neg (fun e => ownV_ne hs h0 hv (List.eq_nil_of_length_eq_zero e))]
theorem selH_mem (l : List Rule) (path : List Bytes) (t : Step) : ∀ (hs : List Held), (∀ h ∈ hs, Rising (stepsS l path h.n.kids)) → ∀ g, g ∈ selH l path t hs ↔ ∃ h ∈ hs, lookK t (stepsS l path h.n.kids) h.n.kids = some g.n ∧ g.v = h.v
 | [], _, g => by simp [selH]
 | h :: r, hr, g => by
  rw [selH, List.mem_append, selK_look _ _ _ _ (hr h List.mem_cons_self), selH_mem l path t r (fun h hm => hr h (List.mem_cons_of_mem _ hm)) g]
  constructor
  ·
   rintro (h1 | ⟨h', h1, h2⟩)
   ·
    simp only [Option.mem_toList, Option.map_eq_some_iff] at h1
    obtain ⟨k, hk, rfl⟩ := h1
    exact ⟨h, List.mem_cons_self, hk, rfl⟩
   ·
    exact ⟨h', List.mem_cons_of_mem _ h1, h2⟩
  ·
   rintro ⟨h', h1, h2, h3⟩
   rcases List.mem_cons.1 h1 with e | h1
   ·
    subst e
    left
    simp only [Option.mem_toList, Option.map_eq_some_iff]
    exact ⟨g.n, h2, by cases g; simp at h3; rw [h3]⟩
   ·
    exact .inr ⟨h', h1, h2, h3⟩
theorem selH_filter (l : List Rule) (path : List Bytes) (t : Step) (P P' : Held → Bool) : ∀ (hs : List Held), (∀ h ∈ hs, Rising (stepsS l path h.n.kids) ∧ (lookK t (stepsS l path h.n.kids) h.n.kids = none → P h = false) ∧ ∀ k, lookK t (stepsS l path h.n.kids) h.n.kids = some k → P' ⟨h.v, k⟩ = P h) →
  ((selH l path t hs).filter P').map (·.v) = (hs.filter P).map (·.v)
 | [], _ => rfl
 | h :: r, hh => by
  obtain ⟨h1, h2, h3⟩ := hh h List.mem_cons_self
  rw [selH, List.filter_append, List.map_append, selH_filter l path t P P' r (fun h hm => hh h (List.mem_cons_of_mem _ hm)), selK_look _ _ _ _ h1, List.filter_cons]
  cases hk : lookK t (stepsS l path h.n.kids) h.n.kids with
  | none => rw [h2 hk]; rfl
  | some k =>
   have h4 := h3 k hk
   simp only [Option.map_some, Option.toList_some, List.filter_cons, List.filter_nil, h4]
   cases P h <;> rfl
theorem nsz_pos (n : Node) : 1 ≤ nsz n := by cases n; rw [nsz]; omega
theorem nsz_mem (n k : Node) (h : k ∈ n.kids) : nsz k < nsz n := by
 obtain ⟨i, hi, rfl⟩ := List.mem_iff_getElem.1 h
 exact kid_lt n i hi
theorem walk_law (l : List Rule) : ∀ (x : List Step) (N : Nat) (path : List Bytes) (s : Step) (hs : List Held) (above : List Span) (i : Nat), hs ≠ [] → (∀ h ∈ hs, wfN l h.n path ∧ nsz h.n ≤ N ∧ 1 ≤ h.v ∧ h.v ≤ 200) →
  ((hs.filter fun h => decide ((walkF l h.n path x i).2 = i + x.length)) = [] → ∃ m, walkA (nodeP l N path s hs above) (ownV hs) x i = (none, m) ∧ (∀ h ∈ hs, (walkF l h.n path x i).2 ≤ m) ∧ ∃ h ∈ hs, (walkF l h.n path x i).2 = m) ∧
  ((hs.filter fun h => decide ((walkF l h.n path x i).2 = i + x.length)) ≠ [] → ∃ n, walkA (nodeP l N path s hs above) (ownV hs) x i = (some (n, ownV (hs.filter fun h => decide ((walkF l h.n path x i).2 = i + x.length))), i + x.length))
 | [], N, path, s, hs, above, i, h0, hh => by
  have e : (hs.filter fun h => decide ((walkF l h.n path [] i).2 = i + ([] : List Step).length)) = hs := by
   rw [List.filter_eq_self]; intro h _; rw [walkF]; simp
  rw [e]
  exact ⟨fun h => absurd h h0, fun _ => ⟨_, by rw [walkA]; rfl⟩⟩
 | t :: r, 0, path, s, hs, above, i, h0, hh => by
  obtain ⟨h, hm⟩ := List.exists_mem_of_ne_nil hs h0
  have := (hh h hm).2.1
  have := nsz_pos h.n
  omega
 | t :: r, N + 1, path, s, hs, above, i, h0, hh => by
  have hG := gather_all l path hs
  have hall : ∀ h ∈ hs, lookK t (stepsS l path h.n.kids) h.n.kids = none → (walkF l h.n path (t :: r) i).2 = i := fun h hm e => by rw [((walkF_step l h.n path t r i (hh h hm).1).1 e)]
  obtain ⟨hz, hzm⟩ := List.exists_mem_of_ne_nil hs h0
  have hlow : idxA t (nodeP l (N + 1) path s hs above).kids 0 < 0 → (∀ h ∈ hs, lookK t (stepsS l path h.n.kids) h.n.kids = none) →
    ((hs.filter fun h => decide ((walkF l h.n path (t :: r) i).2 = i + (t :: r).length)) = [] → ∃ m, walkA (nodeP l (N + 1) path s hs above) (ownV hs) (t :: r) i = (none, m) ∧ (∀ h ∈ hs, (walkF l h.n path (t :: r) i).2 ≤ m) ∧ ∃ h ∈ hs, (walkF l h.n path (t :: r) i).2 = m) ∧
    ((hs.filter fun h => decide ((walkF l h.n path (t :: r) i).2 = i + (t :: r).length)) ≠ [] → ∃ n, walkA (nodeP l (N + 1) path s hs above) (ownV hs) (t :: r) i = (some (n, ownV (hs.filter fun h => decide ((walkF l h.n path (t :: r) i).2 = i + (t :: r).length))), i + (t :: r).length)) := fun hidx hno => by
   refine ⟨fun _ => ⟨i, by rw [walkA, if_pos hidx], fun h hm => Nat.le_of_eq (hall h hm (hno h hm)), hz, hzm, hall hz hzm (hno hz hzm)⟩, fun hne => ?_⟩
   refine absurd ?_ hne
   rw [List.filter_eq_nil_iff]
   intro h hm
   rw [hall h hm (hno h hm)]; simp
  cases hf : frontS l path with
  | true =>
   refine hlow ?_ ?_
   ·
    rw [nodeP_kids, if_pos hf, idxA]; omega
   ·
    intro h hm; rw [front_steps l path hf]; rfl
  | false =>
   have hris : ∀ h ∈ hs, Rising (stepsS l path h.n.kids) := fun h hm => (((wfN_eq l h.n path).1 (hh h hm).1).2 hf).2.1
   have hmem := selH_mem l path t hs hris
   have hkids := nodeP_kids l N path s hs above
   rw [if_neg (by rw [hf]; decide)] at hkids
   obtain ⟨G, hGe⟩ : ∃ G, gather l path hs ([], []) = G := ⟨_, rfl⟩
   rw [hGe] at hG hkids
   by_cases ht : t ∈ G.1
   ·
    obtain ⟨j, h1, h3⟩ : ∃ (j : Nat) (h : j < G.1.length), G.1[j] = t := ⟨_, (stepPos_mem t G.1 hG.rise ht).1, (stepPos_mem t G.1 hG.rise ht).2 _⟩
    have h1' : j < G.2.length := by rw [← hG.len]; exact h1
    have hjz : j < (G.1.zip G.2).length := by rw [List.length_zip]; omega
    have hzj : (G.1.zip G.2)[j] = (t, selH l path t hs) := by
     have hm := List.getElem_mem hjz
     rw [List.getElem_zip] at hm ⊢
     have := hG.eq _ hm
     simp only at this
     rw [this, h3]
    have hidx : idxA t (nodeP l (N + 1) path s hs above).kids 0 = (j : Int) := by
     rw [hkids, idxA_some t _ 0 j (by rw [List.length_map]; exact hjz)]
     ·
      simp
     ·
      rw [List.getElem_map, hzj, nodeP_is]; exact (stepB_iff _ _).2 rfl
     ·
      intro m hm hlt
      rw [List.getElem_map, nodeP_is]
      cases hb : stepB ((G.1.zip G.2)[m]'(by simpa using hm)).1 t with
      | false => rfl
      | true =>
       have e := (stepB_iff _ _).1 hb
       have hm1 : m < G.1.length := by rw [List.length_map, List.length_zip] at hm; omega
       have e2 : G.1[m] = t := by rw [List.getElem_zip] at e; exact e
       have h5 := List.pairwise_iff_getElem.1 hG.rise m j hm1 h1 hlt
       rw [e2, h3, aheadB_irrefl] at h5; cases h5
    have hget : (nodeP l (N + 1) path s hs above).kids.getD (j : Int).toNat zeroA = nodeP l N (path ++ [t.n]) t (selH l path t hs) (ownV hs) := by
     rw [hkids, Int.toNat_natCast, List.getD_eq_getElem?_getD, List.getElem?_map, List.getElem?_eq_getElem hjz, hzj]; rfl
    have hs0 : selH l path t hs ≠ [] := (hG.iff t).2 ht
    have hh' : ∀ g ∈ selH l path t hs, wfN l g.n (path ++ [t.n]) ∧ nsz g.n ≤ N ∧ 1 ≤ g.v ∧ g.v ≤ 200 := fun g hg => by
     obtain ⟨h, hm, hk, hv⟩ := (hmem g).1 hg
     obtain ⟨hk1, hk2, _⟩ := (walkF_step l h.n path t r i (hh h hm).1).2 _ hk
     have hw := (((wfN_eq l h.n path).1 (hh h hm).1).2 hf).2.2
     have := wfL_mem l path _ _ hw hk1
     rw [hk2] at this
     have h6 := nsz_mem _ _ hk1
     have h7 := (hh h hm).2.1
     exact ⟨this, by omega, by rw [hv]; exact (hh h hm).2.2⟩
    have hvers : eitherS (nodeP l N (path ++ [t.n]) t (selH l path t hs) (ownV hs)).vers (ownV hs) = ownV (selH l path t hs) := by
     rw [nodeP_vers]; exact either_vers _ _ hs0 fun g hg => (hh' g hg).2.2
    have hwalk : walkA (nodeP l (N + 1) path s hs above) (ownV hs) (t :: r) i = walkA (nodeP l N (path ++ [t.n]) t (selH l path t hs) (ownV hs)) (ownV (selH l path t hs)) r (i + 1) := by
     rw [walkA, hidx, if_neg (by omega), hget, hvers]
    have hfil : ((selH l path t hs).filter fun h => decide ((walkF l h.n (path ++ [t.n]) r (i + 1)).2 = i + 1 + r.length)).map (·.v) = (hs.filter fun h => decide ((walkF l h.n path (t :: r) i).2 = i + (t :: r).length)).map (·.v) := by
     refine selH_filter l path t _ _ hs fun h hm => ⟨hris h hm, fun e => ?_, fun k hk => ?_⟩
     ·
      rw [hall h hm e]; simp
     ·
      rw [((walkF_step l h.n path t r i (hh h hm).1).2 k hk).2.2, List.length_cons]
      simp only
      congr 1
      apply propext; omega
    obtain ⟨ih1, ih2⟩ := walk_law l r N (path ++ [t.n]) t (selH l path t hs) (ownV hs) (i + 1) hs0 hh'
    rw [hwalk]
    constructor
    ·
     intro he
     obtain ⟨m, hm1, hm2, g, hg, hm3⟩ := ih1 (by
      rw [he, List.map_nil, List.map_eq_nil_iff] at hfil
      exact hfil)
     obtain ⟨h, hm, hk, hv⟩ := (hmem g).1 hg
     have hge := walkF_ge l r g.n (path ++ [t.n]) (i + 1)
     refine ⟨m, hm1, fun h' hm' => ?_, h, hm, ?_⟩
     ·
      cases hk' : lookK t (stepsS l path h'.n.kids) h'.n.kids with
      | none => rw [hall h' hm' hk']; omega
      | some k =>
       rw [((walkF_step l h'.n path t r i (hh h' hm').1).2 k hk').2.2]
       exact hm2 ⟨h'.v, k⟩ ((hmem _).2 ⟨h', hm', hk', rfl⟩)
     ·
      rw [((walkF_step l h.n path t r i (hh h hm).1).2 _ hk).2.2]; exact hm3
    ·
     intro hne
     obtain ⟨n, hn⟩ := ih2 (by
      intro e
      rw [e, List.map_nil] at hfil
      exact hne (List.map_eq_nil_iff.1 hfil.symm))
     refine ⟨n, ?_⟩
     rw [hn]
     unfold ownV
     rw [hfil, List.length_cons]
     congr 1; omega
   ·
    refine hlow ?_ ?_
    ·
     rw [hkids, idxA_none]
     ·
      decide
     ·
      intro n hn
      obtain ⟨p, hp, rfl⟩ := List.mem_map.1 hn
      rw [nodeP_is]
      cases hb : stepB p.1 t with
      | false => rfl
      | true => exact absurd (by rw [← (stepB_iff _ _).1 hb]; exact (List.of_mem_zip hp).1) ht
    ·
     intro h hm
     cases hk : lookK t (stepsS l path h.n.kids) h.n.kids with
     | none => rfl
     | some k =>
      exfalso
      have : selH l path t hs ≠ [] := by
       intro e
       have := (hmem ⟨h.v, k⟩).2 ⟨h, hm, hk, rfl⟩
       rw [e] at this; cases this
      exact ht ((hG.iff t).1 this)
theorem countP_pos (s : Step) : ∀ (l : List Step), Rising l → l.countP (fun x => aheadB x s) = stepPos s l
 | [], _ => rfl
 | a :: l, h => by
  rw [stepPos_cons, List.countP_cons]
  by_cases ha : aheadB a s = true
  ·
   rw [if_pos ha, if_pos ha, countP_pos s l (rising_tail h)]
  ·
   rw [if_neg ha, if_neg ha, Nat.add_zero]
   rw [List.countP_eq_zero]
   intro x hx hxs
   rw [Rising, List.pairwise_cons] at h
   exact ha (aheadB_trans _ _ _ (h.1 x hx) hxs)
theorem stepsS_all (l : List Rule) (path : List Bytes) : ∀ (a : List Node), (∀ k ∈ a, ¬ findS (path ++ [k.name]) l 0 < 0) → stepsS l path a = a.map fun k => (⟨k.name, (keyS k (l.getD (findS (path ++ [k.name]) l 0).toNat noRule).keys).getD []⟩ : Step)
 | [], _ => rfl
 | k :: r, h => by
  rw [stepsS, if_neg (h k List.mem_cons_self), stepsS_all l path r fun k hk => h k (List.mem_cons_of_mem _ hk)]; rfl
theorem wfL_of (l : List Rule) (path : List Bytes) : ∀ (ks : List Node), (∀ k ∈ ks, wfN l k (path ++ [k.name])) → wfL l ks path
 | [], _ => trivial
 | k :: r, h => ⟨h k List.mem_cons_self, wfL_of l path r fun k hk => h k (List.mem_cons_of_mem _ hk)⟩
theorem map_insAt {α β : Type} (f : α → β) (l : List α) (n : Nat) (x : α) : (insAt l n x).map f = insAt (l.map f) n (f x) := by
 unfold insAt; rw [List.map_append, List.map_cons, List.map_take, List.map_drop]
def NInv (l : List Rule) (path : List Bytes) (steps : List Step) (out : List Node) : Prop :=
 Rising steps ∧ (∀ k ∈ out, ¬ findS (path ++ [k.name]) l 0 < 0 ∧ wfN l k (path ++ [k.name])) ∧ steps = out.map fun k => (⟨k.name, (keyS k (l.getD (findS (path ++ [k.name]) l 0).toNat noRule).keys).getD []⟩ : Step)
mutual
theorem norm_wf (l : List Rule) : ∀ (a : Node) (path : List Bytes) (first : Int), a.kind = 1 → (normN l a path first).2.1 = 0 → wfN l (normN l a path first).1 path ∧ (normN l a path first).1.name = a.name
 | .mk k nm tx la ks, path, first, hk, h => by
  rw [normN] at h ⊢
  by_cases hf : frontS l path = true
  ·
   rw [if_pos hf] at h ⊢
   refine ⟨?_, rfl⟩
   rw [wfN_eq]
   exact ⟨rfl, fun e => by rw [hf] at e; cases e⟩
  ·
   rw [if_neg hf] at h ⊢
   exact normL_wf l ks nm (sortA [] la) path first [] [] (first + 1) ⟨List.Pairwise.nil, fun k hk => (by cases hk), rfl⟩ h
theorem normL_wf (l : List Rule) : ∀ (ks : List Node) (nm : Bytes) (la : List Attr) (path : List Bytes) (first : Int) (steps : List Step) (out : List Node) (at' : Int), NInv l path steps out →
  (normL l ks nm la path first steps out at').2.1 = 0 → wfN l (normL l ks nm la path first steps out at').1 path ∧ (normL l ks nm la path first steps out at').1.name = nm
 | [], nm, la, path, first, steps, out, at', hi, h => by
  rw [normL]
  refine ⟨?_, rfl⟩
  obtain ⟨h1, h2, h3⟩ := hi
  rw [wfN_eq]
  refine ⟨rfl, fun _ => ?_⟩
  have h4 := stepsS_all l path out fun k hk => (h2 k hk).1
  simp only [Node.kids]
  rw [h4, ← h3]
  exact ⟨by rw [h3, List.length_map], h1, wfL_of l path out fun k hk => (h2 k hk).2⟩
 | k :: r, nm, la, path, first, steps, out, at', hi, h => by
  rw [normL] at h ⊢
  by_cases c1 : k.kind = 2 ∧ trimB k.text ≠ []
  ·
   rw [if_pos c1] at h; simp at h
  ·
   rw [if_neg c1] at h ⊢
   by_cases c2 : k.kind ≠ 1
   ·
    rw [if_pos c2] at h ⊢; exact normL_wf l r nm la path first steps out at' hi h
   ·
    rw [if_neg c2] at h ⊢
    by_cases c3 : findS (path ++ [k.name]) l 0 < 0
    ·
     rw [if_pos c3] at h; simp at h
    ·
     rw [if_neg c3] at h ⊢
     by_cases c4 : (normN l k (path ++ [k.name]) at').2.1 ≠ 0
     ·
      rw [if_pos c4] at h; exact absurd h c4
     ·
      rw [if_neg c4] at h ⊢
      have hk := norm_wf l k (path ++ [k.name]) at' (by simpa using c2) (by simpa using c4)
      cases hkey : keyS (normN l k (path ++ [k.name]) at').1 (l.getD (findS (path ++ [k.name]) l 0).toNat noRule).keys with
      | none => simp only [hkey] at h; simp at h
      | some key =>
       simp only [hkey] at h ⊢
       by_cases c5 : (steps.any fun s => stepB s ⟨k.name, key⟩) = true
       ·
        rw [if_pos c5] at h; simp at h
       ·
        rw [if_neg c5] at h ⊢
        refine normL_wf l r nm la path first _ _ _ ?_ h
        obtain ⟨h1, h2, h3⟩ := hi
        have hcp := countP_pos ⟨k.name, key⟩ steps h1
        have hnm : (⟨k.name, key⟩ : Step) ∉ steps := by
         intro hm
         exact c5 (List.any_eq_true.2 ⟨_, hm, (stepB_iff _ _).2 rfl⟩)
        refine ⟨?_, ?_, ?_⟩
        ·
         rw [hcp]; exact stepPos_new _ _ h1 hnm
        ·
         intro k' hk'
         rcases (mem_insAt _ _ _ _).1 hk' with e | hk'
         ·
          rw [e, hk.2]; exact ⟨c3, hk.1⟩
         ·
          exact h2 k' hk'
        ·
         rw [map_insAt, ← h3, hk.2, hkey]; rfl
end
theorem histV_law (l : List Rule) (x : List Step) : ∀ (ds : List Node) (i : Nat) (L : List Int) (m : Nat),
  (histV l x ds i L m).1 = L ++ ((heldsOf ds i).filter fun h => decide ((findF l h.n x).2 = x.length ∧ 0 < (findF l h.n x).2)).map (·.v) ∧
  m ≤ (histV l x ds i L m).2 ∧ (∀ h ∈ heldsOf ds i, (findF l h.n x).2 ≤ (histV l x ds i L m).2) ∧ ((histV l x ds i L m).2 = m ∨ ∃ h ∈ heldsOf ds i, (findF l h.n x).2 = (histV l x ds i L m).2)
 | [], i, L, m => by simp [histV, heldsOf]
 | d :: r, i, L, m => by
  rw [histV, heldsOf]
  obtain ⟨h1, h2, h3, h4⟩ := histV_law l x r (i + 1) (if (findF l d x).2 = x.length ∧ 0 < (findF l d x).2 then L ++ [(i : Int) + 1] else L) (max m (findF l d x).2)
  refine ⟨?_, by omega, fun h hm => ?_, ?_⟩
  ·
   rw [h1, List.filter_cons]
   by_cases c : (findF l d x).2 = x.length ∧ 0 < (findF l d x).2
   ·
    rw [if_pos c, if_pos (decide_eq_true c), List.map_cons, List.append_assoc]; rfl
   ·
    rw [if_neg c, if_neg (by simpa using c)]
  ·
   rcases List.mem_cons.1 hm with e | hm
   ·
    rw [e]; show (findF l d x).2 ≤ _; omega
   ·
    exact h3 h hm
  ·
   rcases h4 with h4 | ⟨h, hm, h4⟩
   ·
    by_cases c : (findF l d x).2 ≤ m
    ·
     left; rw [h4]; omega
    ·
     right; exact ⟨_, List.mem_cons_self, by show (findF l d x).2 = _; rw [h4]; omega⟩
   ·
    right; exact ⟨h, List.mem_cons_of_mem _ hm, h4⟩
theorem heldsOf_mem : ∀ (ds : List Node) (i : Nat) (h : Held), h ∈ heldsOf ds i → h.n ∈ ds ∧ (i : Int) + 1 ≤ h.v ∧ h.v ≤ ((i + ds.length : Nat) : Int)
 | [], i, h, hm => by cases hm
 | d :: r, i, h, hm => by
  rw [heldsOf] at hm
  rcases List.mem_cons.1 hm with e | hm
  ·
   rw [e]; exact ⟨List.mem_cons_self, by simp, by simp only [List.length_cons]; omega⟩
  ·
   obtain ⟨h1, h2, h3⟩ := heldsOf_mem r (i + 1) h hm
   exact ⟨List.mem_cons_of_mem _ h1, by omega, by simp only [List.length_cons]; omega⟩
theorem nszL_le : ∀ (ds : List Node) (d : Node), d ∈ ds → nsz d ≤ nszL ds
 | [], d, h => by cases h
 | a :: r, d, h => by
  rw [nszL]
  rcases List.mem_cons.1 h with e | h
  ·
   rw [e]; omega
  ·
   have := nszL_le r d h; omega
theorem find_law (l : List Rule) (nm : Bytes) (ds : List Node) (x : List Step) (hw : ∀ d ∈ ds, wfN l d [nm] ∧ d.name = nm) (h12 : ds.length ≤ 200) :
  ((histV l x ds 0 [] 0).1 = [] → findA ds.length (rootP l nm ds) x = (none, (histV l x ds 0 [] 0).2)) ∧
  ((histV l x ds 0 [] 0).1 ≠ [] → ∃ n j, findA ds.length (rootP l nm ds) x = (some (n, spansOf (flOf (histV l x ds 0 [] 0).1)), j)) := by
 obtain ⟨h1, _, h3, h4⟩ := histV_law l x ds 0 [] 0
 rw [List.nil_append] at h1
 cases x with
 | nil =>
  have hn : (histV l [] ds 0 [] 0).1 = [] := by
   rw [h1, List.map_eq_nil_iff, List.filter_eq_nil_iff]
   intro h _; simp [findF]
  refine ⟨fun _ => ?_, fun h => absurd hn h⟩
  rw [findA]
  congr 1
  rcases h4 with h4 | ⟨h, _, h4⟩
  ·
   exact h4.symm
  ·
   rw [← h4]; rfl
 | cons t r =>
  by_cases hd : ds = []
  ·
   subst hd
   exact ⟨fun _ => by rw [findA, if_pos (.inl (by simp))]; rfl, fun h => absurd rfl h⟩
  ·
   have hl0 : 0 < ds.length := List.length_pos_iff.2 hd
   have hroot : rootP l nm ds = nodeP l (nszL ds + 1) [nm] ⟨nm, []⟩ (heldsOf ds 0) [] := by unfold rootP; rw [if_neg hd]
   have hne : heldsOf ds 0 ≠ [] := by cases ds with | nil => exact absurd rfl hd | cons d r => intro e; rw [heldsOf] at e; cases e
   have hall : ∀ h ∈ heldsOf ds 0, wfN l h.n [nm] ∧ nsz h.n ≤ nszL ds + 1 ∧ 1 ≤ h.v ∧ h.v ≤ 200 := fun h hm => by
    obtain ⟨a, b, c⟩ := heldsOf_mem ds 0 h hm
    have := nszL_le ds h.n a
    exact ⟨(hw _ a).1, by omega, by omega, by omega⟩
   have hfd : ∀ h ∈ heldsOf ds 0, findF l h.n (t :: r) = if stepB ⟨nm, []⟩ t = true then walkF l h.n [nm] r 1 else (zeroN, 0) := fun h hm => by
    obtain ⟨a, _, _⟩ := heldsOf_mem ds 0 h hm
    obtain ⟨b, c⟩ := hw _ a
    rw [wfN_eq] at b
    rw [findF, c]
    by_cases e : stepB ⟨nm, []⟩ t = true
    ·
     rw [if_pos ⟨b.1, e⟩, if_pos e]
    ·
     rw [if_neg (fun h => e h.2), if_neg e]
   by_cases hst : stepB ⟨nm, []⟩ t = true
   ·
    have hfind : findA ds.length (rootP l nm ds) (t :: r) = walkA (nodeP l (nszL ds + 1) [nm] ⟨nm, []⟩ (heldsOf ds 0) []) (ownV (heldsOf ds 0)) r 1 := by
     rw [findA, hroot, nodeP_is, hst, if_neg (by simp; omega), nodeP_vers]
     congr 1
     exact either_vers _ _ hne fun h hm => (hall h hm).2.2
    obtain ⟨w1, w2⟩ := walk_law l r (nszL ds + 1) [nm] ⟨nm, []⟩ (heldsOf ds 0) [] 1 hne hall
    have hflt : ((heldsOf ds 0).filter fun h => decide ((findF l h.n (t :: r)).2 = (t :: r).length ∧ 0 < (findF l h.n (t :: r)).2)) = (heldsOf ds 0).filter fun h => decide ((walkF l h.n [nm] r 1).2 = 1 + r.length) := by
     apply List.filter_congr
     intro h hm
     rw [hfd h hm, if_pos hst, List.length_cons]
     have := walkF_ge l r h.n [nm] 1
     congr 1
     apply propext; omega
    rw [hflt] at h1
    constructor
    ·
     intro he
     rw [h1, List.map_eq_nil_iff] at he
     obtain ⟨m, hm1, hm2, h, hm, hm3⟩ := w1 he
     rw [hfind, hm1]
     congr 1
     have a := h3 h hm
     rw [hfd h hm, if_pos hst, hm3] at a
     have hg := walkF_ge l r h.n [nm] 1
     rcases h4 with h4 | ⟨h', hm', h4⟩
     ·
      omega
     ·
      have b := hm2 h' hm'
      rw [hfd h' hm', if_pos hst] at h4
      omega
    ·
     intro he
     obtain ⟨n, hn⟩ := w2 (by intro e; rw [e] at h1; exact he h1)
     refine ⟨n, 1 + r.length, ?_⟩
     rw [hfind, hn, h1]; rfl
   ·
    have hz : ∀ h ∈ heldsOf ds 0, (findF l h.n (t :: r)).2 = 0 := fun h hm => by rw [hfd h hm, if_neg hst]
    have hn : (histV l (t :: r) ds 0 [] 0).1 = [] := by
     rw [h1, List.map_eq_nil_iff, List.filter_eq_nil_iff]
     intro h hm; rw [hz h hm]; simp
    refine ⟨fun _ => ?_, fun h => absurd hn h⟩
    rw [findA, hroot, nodeP_is, if_pos (.inr (by simpa using hst))]
    congr 1
    rcases h4 with h4 | ⟨h, hm, h4⟩
    ·
     exact h4.symm
    ·
     rw [← h4, hz h hm]
def verB (n : Int) : Bool := decide (1 ≤ n ∧ n ≤ 200)
theorem version_any (n : Int) (w : World) : Calls Tryz.prog 81 #[.int .i64 n] w fun e w' => e = .returned (.bool (verB n)) ∧ w' = w := by
 by_cases h1 : 1 ≤ n
 ·
  by_cases h2 : n ≤ 200
  ·
   have HN : verB n = true := decide_eq_true ⟨h1, h2⟩
   rw [HN]
   go_enter Tryz.func81, Tryz.ntmps81
   go_wp2_with fail
   go_ret
   exact ⟨rfl, rfl⟩
  ·
   have HN : verB n = false := decide_eq_false (by omega)
   rw [HN]
   go_enter Tryz.func81, Tryz.ntmps81
   go_wp2_with fail
   go_ret
   exact ⟨rfl, rfl⟩
 ·
  have HN : verB n = false := decide_eq_false (by omega)
  rw [HN]
  go_enter Tryz.func81, Tryz.ntmps81
  go_wp2_with fail
  go_ret
  exact ⟨rfl, rfl⟩
def mayI : List Span → Int → Bool
 | [], _ => true
 | p :: r, ahead => if verB p.a = true then (if verB p.b = true then (if p.b < p.a then false else if p.a ≤ ahead + 1 ∧ 0 ≤ ahead then false else mayI r p.b) else false) else false
theorem may_set (x : List Span) (p : Nat → Prop) (v : Value) (w : World) (h : Rep w p v (spansD x)) :
  Calls Tryz.prog 46 #[v] w fun e w' => e = .returned (.bool (mayI x (-1))) ∧ Ext w w' := by
 obtain ⟨a, c, rfl, hc1, hc2⟩ := h.count z_span (by omega)
 obtain ⟨R, hR⟩ : ∃ R, mayI x (-1) = R := ⟨_, rfl⟩
 rw [hR]
 have HR : Hid (mayI (x.drop 0) (-1) = R) := Lh hR
 clear hR
 go_enter Tryz.func46, Tryz.ntmps46
 go_wp2_with fail
 go_loopw [2, 3, 8] (fun _ av t wr => ∃ (i : Nat) (A : Int), t = .int .i64 i ∧ av = .int .i64 A ∧ i ≤ x.length ∧ -1 ≤ A ∧ A ≤ 200 ∧ Ext w wr ∧ Hid (mayI (x.drop i) A = R)) (fun _ _ t _ => downV x.length t)
 case atStart => exact ⟨0, -1, rfl, rfl, Nat.zero_le _, by omega, by omega, Ext.refl _, HR⟩
 case round =>
  obtain ⟨i, A, rfl, rfl, hi, hA1, hA2, hX, HI⟩ := hrel
  have hi0 : (0 : Int) ≤ (i : Int) := by omega
  by_cases hlt : i < x.length
  ·
   have hlI : (i : Int) < (x.length : Int) := by omega
   obtain ⟨g, o, rfl, lg, _, d0, d1⟩ := span_at (h.ext hX) i hlt
   have HS : Hid (mayI (x.drop i) A = if verB x[i].a = true then (if verB x[i].b = true then (if x[i].b < x[i].a then false else if x[i].a ≤ A + 1 ∧ 0 ≤ A then false else mayI (x.drop (i + 1)) x[i].b) else false) else false) := Lh (by rw [drop_one x i hlt, mayI])
   obtain ⟨s, hs⟩ : ∃ s, x[i] = s := ⟨_, rfl⟩
   rw [hs] at d0 d1 HS
   obtain ⟨wo, hwo⟩ : ∃ wo, wo = wr := ⟨_, rfl⟩
   subst hwo
   clear hs
   obtain ⟨P, hP⟩ : ∃ P, verB s.a = P := ⟨_, rfl⟩
   obtain ⟨Q, hQ⟩ : ∃ Q, verB s.b = Q := ⟨_, rfl⟩
   have HV1 := Lh fun W => version_any s.a W
   have HV2 := Lh fun W => version_any s.b W
   have HQ := Lh hQ
   rw [hP] at HV1 HS
   rw [hQ] at HV2 HS
   clear hP hQ
   cases P with
   | false =>
    have HN : Hid (false = R) := Lh (by rw [← HI.out, HS.out, if_neg (by decide)])
    clear HS HI
    go_wp2_with fail
    refine (HV1.out _).mono ?_
    rintro e w1 ⟨rfl, rfl⟩
    go_wp2_with fail
    go_ret
    exact ⟨ret_bool HN.out, hX.alloc _⟩
   | true =>
    cases Q with
    | false =>
     have HN : Hid (false = R) := Lh (by rw [← HI.out, HS.out, if_pos rfl, if_neg (by decide)])
     clear HS HI
     go_wp2_with fail
     refine (HV1.out _).mono ?_
     rintro e w1 ⟨rfl, rfl⟩
     go_wp2_with fail
     refine (HV2.out _).mono ?_
     rintro e w1 ⟨rfl, rfl⟩
     go_wp2_with fail
     go_ret
     exact ⟨ret_bool HN.out, hX.alloc _⟩
    | true =>
     have hqb := of_decide_eq_true HQ.out
     obtain ⟨hqb1, hqb2⟩ := hqb
     clear HQ
     by_cases hba : s.b < s.a
     ·
      have HN : Hid (false = R) := Lh (by rw [← HI.out, HS.out, if_pos rfl, if_pos rfl, if_pos hba])
      clear HS HI
      go_wp2_with fail
      refine (HV1.out _).mono ?_
      rintro e w1 ⟨rfl, rfl⟩
      go_wp2_with fail
      refine (HV2.out _).mono ?_
      rintro e w1 ⟨rfl, rfl⟩
      go_wp2_with fail
      go_ret
      exact ⟨ret_bool HN.out, hX.alloc _⟩
     ·
      by_cases hc1 : s.a ≤ A + 1
      ·
       by_cases hc2 : 0 ≤ A
       ·
        have HN : Hid (false = R) := Lh (by rw [← HI.out, HS.out, if_pos rfl, if_pos rfl, if_neg hba, if_pos ⟨hc1, hc2⟩])
        clear HS HI
        go_wp2_with fail
        refine (HV1.out _).mono ?_
        rintro e w1 ⟨rfl, rfl⟩
        go_wp2_with fail
        refine (HV2.out _).mono ?_
        rintro e w1 ⟨rfl, rfl⟩
        go_wp2_with fail
        go_ret
        exact ⟨ret_bool HN.out, hX.alloc _⟩
       ·
        have HN : Hid (mayI (x.drop (i + 1)) s.b = R) := Lh (by rw [← HI.out, HS.out, if_pos rfl, if_pos rfl, if_neg hba, if_neg (by omega)])
        clear HS HI
        go_wp2_with fail
        refine (HV1.out _).mono ?_
        rintro e w1 ⟨rfl, rfl⟩
        go_wp2_with fail
        refine (HV2.out _).mono ?_
        rintro e w1 ⟨rfl, rfl⟩
        go_wp2_with fail
        go_roundw
        case rel => exact ⟨i + 1, s.b, by go_num, rfl, by omega, by omega, by omega, hX.alloc _, HN⟩
        case measure => simp only [downV]; omega
      ·
       have HN : Hid (mayI (x.drop (i + 1)) s.b = R) := Lh (by rw [← HI.out, HS.out, if_pos rfl, if_pos rfl, if_neg hba, if_neg (by omega)])
       clear HS HI
       go_wp2_with fail
       refine (HV1.out _).mono ?_
       rintro e w1 ⟨rfl, rfl⟩
       go_wp2_with fail
       refine (HV2.out _).mono ?_
       rintro e w1 ⟨rfl, rfl⟩
       go_wp2_with fail
       go_roundw
       case rel => exact ⟨i + 1, s.b, by go_num, rfl, by omega, by omega, by omega, hX.alloc _, HN⟩
       case measure => simp only [downV]; omega
  ·
   have hlI : ¬ (i : Int) < (x.length : Int) := by omega
   have HN : Hid (true = R) := Lh (by rw [← HI.out, List.drop_of_length_le (by omega), mayI])
   clear HI
   go_wp2_with fail
   go_ret
   exact ⟨ret_bool HN.out, hX⟩
theorem itoa1_any (w : World) : Calls Tryz.prog 60 #[.int .i64 1] w fun e w' => e = .returned (.string (bs [49])) ∧ Ext w w' := by
 have h0 : Calls Tryz.prog 139 #[.int .i64 1] w fun e w' => e = .returned (.string (bs [49])) ∧ w' = w := by
  go_enter Tryz.func139, Tryz.ntmps139
  go_wp2_with fail
  go_ret
  exact ⟨rfl, rfl⟩
 have h1 : Calls Tryz.prog 127 #[.int .i64 1, .int .i64 10] w fun e w' => e = .returned (.string (bs [49])) ∧ w' = w := by
  go_enter Tryz.func127, Tryz.ntmps127
  go_wp2_with fail
  refine h0.mono ?_
  rintro e w1 ⟨rfl, rfl⟩
  go_wp2_with fail
  go_ret
  exact ⟨rfl, rfl⟩
 have h2 : Calls Tryz.prog 96 #[.int .i64 1] w fun e w' => e = .returned (.string (bs [49])) ∧ w' = w := by
  go_enter Tryz.func96, Tryz.ntmps96
  go_wp2_with fail
  refine h1.mono ?_
  rintro e w1 ⟨rfl, rfl⟩
  go_wp2_with fail
  go_ret
  exact ⟨rfl, rfl⟩
 go_enter Tryz.func60, Tryz.ntmps60
 go_wp2_with fail
 refine h2.mono ?_
 rintro e w1 ⟨rfl, rfl⟩
 go_wp2_with fail
 go_ret
 exact ⟨rfl, Ext.refl _⟩
theorem itoa2_any (w : World) : Calls Tryz.prog 60 #[.int .i64 2] w fun e w' => e = .returned (.string (bs [50])) ∧ Ext w w' := by
 have h0 : Calls Tryz.prog 139 #[.int .i64 2] w fun e w' => e = .returned (.string (bs [50])) ∧ w' = w := by
  go_enter Tryz.func139, Tryz.ntmps139
  go_wp2_with fail
  go_ret
  exact ⟨rfl, rfl⟩
 have h1 : Calls Tryz.prog 127 #[.int .i64 2, .int .i64 10] w fun e w' => e = .returned (.string (bs [50])) ∧ w' = w := by
  go_enter Tryz.func127, Tryz.ntmps127
  go_wp2_with fail
  refine h0.mono ?_
  rintro e w1 ⟨rfl, rfl⟩
  go_wp2_with fail
  go_ret
  exact ⟨rfl, rfl⟩
 have h2 : Calls Tryz.prog 96 #[.int .i64 2] w fun e w' => e = .returned (.string (bs [50])) ∧ w' = w := by
  go_enter Tryz.func96, Tryz.ntmps96
  go_wp2_with fail
  refine h1.mono ?_
  rintro e w1 ⟨rfl, rfl⟩
  go_wp2_with fail
  go_ret
  exact ⟨rfl, rfl⟩
 go_enter Tryz.func60, Tryz.ntmps60
 go_wp2_with fail
 refine h2.mono ?_
 rintro e w1 ⟨rfl, rfl⟩
 go_wp2_with fail
 go_ret
 exact ⟨rfl, Ext.refl _⟩
theorem itoa3_any (w : World) : Calls Tryz.prog 60 #[.int .i64 3] w fun e w' => e = .returned (.string (bs [51])) ∧ Ext w w' := by
 have h0 : Calls Tryz.prog 139 #[.int .i64 3] w fun e w' => e = .returned (.string (bs [51])) ∧ w' = w := by
  go_enter Tryz.func139, Tryz.ntmps139
  go_wp2_with fail
  go_ret
  exact ⟨rfl, rfl⟩
 have h1 : Calls Tryz.prog 127 #[.int .i64 3, .int .i64 10] w fun e w' => e = .returned (.string (bs [51])) ∧ w' = w := by
  go_enter Tryz.func127, Tryz.ntmps127
  go_wp2_with fail
  refine h0.mono ?_
  rintro e w1 ⟨rfl, rfl⟩
  go_wp2_with fail
  go_ret
  exact ⟨rfl, rfl⟩
 have h2 : Calls Tryz.prog 96 #[.int .i64 3] w fun e w' => e = .returned (.string (bs [51])) ∧ w' = w := by
  go_enter Tryz.func96, Tryz.ntmps96
  go_wp2_with fail
  refine h1.mono ?_
  rintro e w1 ⟨rfl, rfl⟩
  go_wp2_with fail
  go_ret
  exact ⟨rfl, rfl⟩
 go_enter Tryz.func60, Tryz.ntmps60
 go_wp2_with fail
 refine h2.mono ?_
 rintro e w1 ⟨rfl, rfl⟩
 go_wp2_with fail
 go_ret
 exact ⟨rfl, Ext.refl _⟩
theorem join1_any (p : Nat → Prop) (s : Bytes) (sep : ByteArray) (v : Value) (w : World) (h : Rep w p v (strsD [s])) :
  Calls Tryz.prog 61 #[v, .string sep] w fun e w' => e = .returned (.string (bs s)) ∧ Ext w w' := by
 obtain ⟨a, c, rfl, hc1, hc2⟩ := h.count z_str (by omega)
 obtain ⟨g, o, rfl, lg, _, d0⟩ := str_at h 0 (by simp)
 rw [Nat.add_zero] at d0
 simp only [List.length_cons, List.length_nil, Nat.zero_add, List.getElem_cons_zero] at *
 go_enter Tryz.func61, Tryz.ntmps61
 go_wp2_with fail
 go_ret
 exact ⟨rfl, Ext.refl _⟩
def Sr (v : Value) (a w : World) : Prop := a.heap.size ≤ w.heap.size ∧ ∀ b, some b ≠ v.ownBlock → b < a.heap.size → w.heap[b]? = a.heap[b]?
theorem Sr.begin (v : Value) (w : World) : Sr v w w.drew := ⟨((Ext.refl w).drew).size, fun b _ hb => Below.block ((Ext.refl w).drew) b hb⟩
theorem Sr.ext {v : Value} {a w w' : World} (h : Sr v a w) (k : Ext w w') : Sr v a w' := ⟨Nat.le_trans h.1 k.size, fun b h1 h2 => (Below.block k b (Nat.lt_of_lt_of_le h2 h.1)).trans (h.2 b h1 h2)⟩
theorem Sr.cell {v : Value} {a w : World} (h : Sr v a w) {b o : Nat} {u : Value} (hb : b < a.heap.size ∧ some b ≠ v.ownBlock) (hc : a.cell? ⟨b, o, none⟩ = some u) : w.cell? ⟨b, o, none⟩ = some u := (World.cell?_of_block (h.2 b hb.2 hb.1)).trans hc
theorem Sr.free {v : Value} {a w : World} (h : Sr v a w) {b o : Nat} {u : Bool} (hb : b < a.heap.size ∧ some b ≠ v.ownBlock) (hc : a.frozen? ⟨b, o, none⟩ = u) : w.frozen? ⟨b, o, none⟩ = u := (World.frozen?_of_block (h.2 b hb.2 hb.1)).trans hc
theorem Sr.grown {v : Value} {a w w' : World} (h : Sr v a w) (hg : w.grownBy w' v.ownBlock) : Sr v a w' := ⟨Nat.le_trans h.1 hg.size, fun b h1 h2 => (hg.block b (Nat.lt_of_lt_of_le h2 h.1) h1).trans (h.2 b h1 h2)⟩
theorem Own.keep {w w' : World} {p : Nat → Prop} {base z n : Nat} {e : TypeId} {v : Value} {es : List DV} {row : Option Nat} (h : Own w p base e z v n es) (hg : w.grownBy w' row) (hv : v.ownBlock = none ∨ v.ownBlock ≠ row) (hp : ∀ g, row = some g → ¬ p g) : Own w' p base e z v n es := by
 obtain ⟨us, h1, h2⟩ := h
 exact ⟨us, h1.kept hg hv, (h2.kept fun b hb hlt => hg.block b hlt (fun e => hp b e.symm hb.1)).ok fun b hb => ⟨hb.1, hb.2.1, Nat.lt_of_lt_of_le hb.2.2 hg.size⟩⟩
theorem own_lt {w : World} {base z n : Nat} {e : TypeId} {v : Value} {us : List Value} (h : w.ownsRow base e z v n us) {g : Nat} (hg : some g = v.ownBlock) : base ≤ g ∧ g < w.heap.size := h.lt g hg.symm
def Mut (dv : Value) (vs : List Value) (b : Nat) : Prop := some b = dv.ownBlock ∨ ∃ v ∈ vs, some b = v.ownBlock
structure F2 {α : Type} (w : World) (p : Nat → Prop) (base : Nat) (eo e : TypeId) (z : Nat) (f : α → List DV) (dv : Value) (vs : List Value) (L : List (List α)) : Prop where
 d : w.ownsRow base eo 1 dv vs.length vs
 len : vs.length = L.length
 own : ∀ (i : Nat) (v : Value) (l : List α), vs[i]? = some v → L[i]? = some l → Own w p base e z v l.length (l.flatMap f)
 apart : ∀ (i j : Nat) (u v : Value), i ≠ j → vs[i]? = some u → vs[j]? = some v → u.ownBlock = none ∨ u.ownBlock ≠ v.ownBlock
 out : ∀ v ∈ vs, v.ownBlock = none ∨ v.ownBlock ≠ dv.ownBlock
section
variable {α : Type} {w w' : World} {p : Nat → Prop} {base : Nat} {eo e : TypeId} {z : Nat} {f : α → List DV} {dv : Value} {vs : List Value} {L : List (List α)}
theorem F2.nil (w : World) (p : Nat → Prop) (base : Nat) (eo e : TypeId) (z : Nat) (f : α → List DV) : F2 w p base eo e z f (.slice none 0 0) [] [] :=
 ⟨World.ownsRow_nil _ _ _ _, rfl, fun i v l h => by simp at h, fun i j u v _ h => by simp at h, fun v h => by cases h⟩
theorem F2.ownAt (h : F2 w p base eo e z f dv vs L) {v : Value} (hv : v ∈ vs) : ∃ l n us, Own w p base e z v n l ∧ w.ownsRow base e z v n us := by
 obtain ⟨i, hi⟩ := List.getElem?_of_mem hv
 have hlt : i < vs.length := (List.getElem?_eq_some_iff.1 hi).1
 have hl2 : i < L.length := by rw [← h.len]; exact hlt
 have h0 := h.own i v L[i] hi (List.getElem?_eq_getElem hl2)
 obtain ⟨us, h1, _⟩ := h0.rows
 exact ⟨_, _, us, h0, h1⟩
theorem F2.mut_lt (h : F2 w p base eo e z f dv vs L) {b : Nat} (hb : Mut dv vs b) : base ≤ b ∧ b < w.heap.size := by
 rcases hb with hb | ⟨v, hv, hb⟩
 ·
  exact own_lt h.d hb
 ·
  obtain ⟨l, n, us, _, h1⟩ := h.ownAt hv
  exact own_lt h1 hb
theorem F2.kept {row : Option Nat} (h : F2 w p base eo e z f dv vs L) (hg : w.grownBy w' row) (hr : ∀ g, row = some g → ¬ Mut dv vs g ∧ ¬ p g) : F2 w' p base eo e z f dv vs L := by
 refine ⟨h.d.kept hg ?_, h.len, fun i v l h1 h2 => (h.own i v l h1 h2).keep hg ?_ fun g e => (hr g e).2, h.apart, h.out⟩
 ·
  cases hd : dv.ownBlock with
  | none => exact .inl rfl
  | some g => right; intro e; exact (hr g e.symm).1 (.inl hd.symm)
 ·
  cases hd : v.ownBlock with
  | none => exact .inl rfl
  | some g => right; intro e; exact (hr g e.symm).1 (.inr ⟨v, List.mem_of_getElem? h1, hd.symm⟩)
theorem ext_grown {a b : World} (h : Ext a b) : a.grownBy b none := ⟨h.os, h.tape, h.output, h.size, fun i hi _ => Below.block h i hi⟩
theorem F2.ext (h : F2 w p base eo e z f dv vs L) (hB : Ext w w') : F2 w' p base eo e z f dv vs L := h.kept (ext_grown hB) fun g e => by cases e
theorem F2.snoc {w1 : World} (h : F2 w p base eo e z f dv vs L) (hB : Ext w w1) (hp : ∀ b, p b → b < base) {dv2 : Value} (hown : w'.ownsRow base eo 1 dv2 (vs.length + 1) (vs ++ [.slice none 0 0])) (hg : w1.grownBy w' dv.ownBlock) (hat : dv2.ownBlock = dv.ownBlock ∨ dv2.ownBlock = some w1.heap.size) :
  F2 w' p base eo e z f dv2 (vs ++ [.slice none 0 0]) (L ++ [[]]) ∧ ∀ b, Mut dv2 (vs ++ [.slice none 0 0]) b → Mut dv vs b ∨ w1.heap.size ≤ b := by
 have h1 := h.ext hB
 refine ⟨⟨by rw [List.length_append]; exact hown, by rw [List.length_append, List.length_append, h.len]; rfl, fun i v l hv hl => ?_, fun i j u v hij hu hv => ?_, fun v hv => ?_⟩, fun b hb => ?_⟩
 ·
  by_cases hi : i < vs.length
  ·
   rw [List.getElem?_append_left hi] at hv
   rw [List.getElem?_append_left (by rw [← h.len]; exact hi)] at hl
   refine (h1.own i v l hv hl).keep hg (h.out v (List.mem_of_getElem? hv)) fun g e hpg => ?_
   have := (own_lt h.d e.symm).1
   have := hp g hpg; omega
  ·
   rw [List.getElem?_append_right (by omega)] at hv
   rw [List.getElem?_append_right (by rw [← h.len]; omega), ← h.len] at hl
   match hk : i - vs.length with
   | 0 => rw [hk] at hv hl; simp at hv hl; subst hv; subst hl; exact Own.nil _ _ _ _ _
   | k + 1 => rw [hk] at hv; simp at hv
 ·
  by_cases hi : i < vs.length
  ·
   rw [List.getElem?_append_left hi] at hu
   by_cases hj : j < vs.length
   ·
    rw [List.getElem?_append_left hj] at hv
    exact h.apart i j u v hij hu hv
   ·
    rw [List.getElem?_append_right (by omega)] at hv
    match hk : j - vs.length with
    | 0 =>
     rw [hk] at hv; simp at hv; subst hv
     cases hub : u.ownBlock with
     | none => exact .inl rfl
     | some g => right; intro e; cases e
    | k + 1 => rw [hk] at hv; simp at hv
  ·
   rw [List.getElem?_append_right (by omega)] at hu
   match hk : i - vs.length with
   | 0 => rw [hk] at hu; simp at hu; subst hu; exact .inl rfl
   | k + 1 => rw [hk] at hu; simp at hu
 ·
  rcases List.mem_append.1 hv with hv | hv
  ·
   rcases hat with e | e
   ·
    rw [e]; exact h.out v hv
   ·
    cases hvb : v.ownBlock with
    | none => exact .inl rfl
    | some g =>
     right; rw [e]; intro e2
     have := (h1.mut_lt (b := g) (.inr ⟨v, hv, hvb.symm⟩)).2
     have := Option.some.inj e2; omega
  ·
   simp at hv; subst hv; exact .inl rfl
 ·
  rcases hb with hb | ⟨v, hv, hb⟩
  ·
   rcases hat with e | e
   ·
    rw [e] at hb; exact .inl (.inl hb)
   ·
    rw [e] at hb; right; have := Option.some.inj hb; omega
  ·
   rcases List.mem_append.1 hv with hv | hv
   ·
    exact .inl (.inr ⟨v, hv, hb⟩)
   ·
    simp at hv; subst hv; cases hb
theorem F2.ins {w1 : World} (h : F2 w p base eo e z f dv vs L) (hB : Ext w w1) (hsz : base ≤ w.heap.size) (k : Nat) (hk : k ≤ vs.length) {dv2 : Value} (hown : w1.ownsRow w.heap.size eo 1 dv2 (vs.length + 1) (insAt vs k (.slice none 0 0))) :
  F2 w1 p base eo e z f dv2 (insAt vs k (.slice none 0 0)) (insAt L k []) ∧ ∀ b, Mut dv2 (insAt vs k (.slice none 0 0)) b → Mut dv vs b ∨ w.heap.size ≤ b := by
 have h1 := h.ext hB
 have hge : ∀ {α : Type} (l : List α) (x : α) (i : Nat), k ≤ l.length → (insAt l k x)[i]? = if i < k then l[i]? else if i = k then some x else l[i - 1]? := fun l x i hkl => by
  unfold insAt
  by_cases hi : i < k
  ·
   rw [if_pos hi, List.getElem?_append_left (by rw [List.length_take]; omega), List.getElem?_take, if_pos hi]
  ·
   rw [if_neg hi, List.getElem?_append_right (by rw [List.length_take]; omega), List.length_take, Nat.min_eq_left hkl]
   by_cases hik : i = k
   ·
    subst hik; simp
   ·
    rw [if_neg hik]
    obtain ⟨m, hm⟩ : ∃ m, i - k = m + 1 := ⟨i - k - 1, by omega⟩
    rw [hm, List.getElem?_cons_succ, List.getElem?_drop]
    congr 1; omega
 have hkL : k ≤ L.length := by rw [← h.len]; exact hk
 have hmem : ∀ v ∈ insAt vs k (Value.slice none 0 0), v = .slice none 0 0 ∨ v ∈ vs := fun v hv => by
  unfold insAt at hv
  rw [List.mem_append, List.mem_cons] at hv
  rcases hv with hv | hv | hv
  ·
   exact .inr (List.mem_of_mem_take hv)
  ·
   exact .inl hv
  ·
   exact .inr (List.mem_of_mem_drop hv)
 refine ⟨⟨by rw [insAt_len]; exact rows_mono hown hsz, by rw [insAt_len, insAt_len, h.len], fun i v l hv hl => ?_, fun i j u v hij hu hv => ?_, fun v hv => ?_⟩, fun b hb => ?_⟩
 ·
  rw [hge _ _ _ hk] at hv
  rw [hge _ _ _ hkL] at hl
  by_cases hi : i < k
  ·
   rw [if_pos hi] at hv hl; exact h1.own i v l hv hl
  ·
   rw [if_neg hi] at hv hl
   by_cases hik : i = k
   ·
    rw [if_pos hik] at hv hl; cases hv; cases hl; exact Own.nil _ _ _ _ _
   ·
    rw [if_neg hik] at hv hl; exact h1.own _ v l hv hl
 ·
  rw [hge _ _ _ hk] at hu hv
  by_cases hi : i = k
  ·
   subst hi; rw [if_neg (by omega), if_pos rfl] at hu; cases hu; exact .inl rfl
  ·
   by_cases hj : j = k
   ·
    subst hj; rw [if_neg (by omega), if_pos rfl] at hv; cases hv
    cases hub : u.ownBlock with
    | none => exact .inl rfl
    | some g => right; intro e; cases e
   ·
    have hu' : vs[if i < k then i else i - 1]? = some u := by
     by_cases h : i < k
     ·
      rw [if_pos h] at hu ⊢; exact hu
     ·
      rw [if_neg h, if_neg hi] at hu; rw [if_neg h]; exact hu
    have hv' : vs[if j < k then j else j - 1]? = some v := by
     by_cases h : j < k
     ·
      rw [if_pos h] at hv ⊢; exact hv
     ·
      rw [if_neg h, if_neg hj] at hv; rw [if_neg h]; exact hv
    refine h.apart _ _ u v ?_ hu' hv'
    split <;> split <;> omega
 ·
  rcases hmem v hv with e | hv
  ·
   subst e; exact .inl rfl
  ·
   cases hvb : v.ownBlock with
   | none => exact .inl rfl
   | some g =>
    right; intro e2
    have a := (h.mut_lt (b := g) (.inr ⟨v, hv, hvb.symm⟩)).2
    have b := (own_lt hown (g := g) e2).1
    omega
 ·
  rcases hb with hb | ⟨v, hv, hb⟩
  ·
   right; exact (own_lt hown hb).1
  ·
   rcases hmem v hv with e | hv
   ·
    subst e; cases hb
   ·
    exact .inl (.inr ⟨v, hv, hb⟩)
theorem F2.push {w1 w2 : World} (h : F2 w p base eo e z f dv vs L) (hB : Ext w w1) (hsz : base ≤ w.heap.size) (hp : ∀ b, p b → b < base) (i : Nat) (v : Value) (l : List α) (hv : vs[i]? = some v) (hl : L[i]? = some l) (x : α) {us ns : List Value} {v2 : Value}
  (hus : Reps w (fun b => p b ∧ some b ≠ v.ownBlock ∧ b < w.heap.size) us (l.flatMap f)) (hns : Reps w1 (fun b => p b) ns (f x))
  (hown : w2.ownsRow base e z v2 (l.length + 1) (us ++ ns)) (hg : w1.grownBy w2 v.ownBlock) (hat : v2.ownBlock = v.ownBlock ∨ v2.ownBlock = some w1.heap.size)
  {gd cap : Nat} (hd : dv = .slice (some ⟨gd, 0, none⟩) vs.length cap) :
  F2 (w2.setCell ⟨gd, i, none⟩ v2) p base eo e z f dv (vs.set i v2) (L.set i (l ++ [x])) ∧ (∀ b, Mut dv (vs.set i v2) b → Mut dv vs b ∨ w1.heap.size ≤ b) := by
 have h1 := h.ext hB
 have hdb : dv.ownBlock = some gd := by rw [hd]; rfl
 have hvm : v ∈ vs := List.mem_of_getElem? hv
 have hil : i < vs.length := (List.getElem?_eq_some_iff.1 hv).1
 have hpv : ∀ g, v.ownBlock = some g → ¬ p g := fun g e hpg => by
  have := (h.mut_lt (b := g) (.inr ⟨v, hvm, e.symm⟩)).1
  have := hp g hpg; omega
 have hd2 : w2.ownsRow base eo 1 dv vs.length vs := h1.d.kept hg (by
  cases hvb : v.ownBlock with
  | none => right; rw [hdb]; intro e; cases e
  | some g =>
   right; intro e
   rcases h.out v hvm with e2 | e2
   ·
    rw [hvb] at e2; cases e2
   ·
    exact e2 (by rw [e, hvb]))
 have hpd : ¬ p gd := fun hpg => by
  have := (own_lt h.d hdb.symm).1
  have := hp gd hpg; omega
 obtain ⟨hst, hgs⟩ := (show w2.ownsRow base eo 1 (.slice (some ⟨gd, 0, none⟩) vs.length cap) vs.length vs by rw [← hd]; exact hd2).stored i v2
 have hv2d : v2.ownBlock = none ∨ v2.ownBlock ≠ dv.ownBlock := by
  rcases hat with e | e
  ·
   rw [e]; exact h.out v hvm
  ·
   right; rw [e, hdb]; intro e2
   have := (own_lt h1.d hdb.symm).2
   have := Option.some.inj e2; omega
 have hv2o : ∀ (j : Nat) (u : Value), j ≠ i → vs[j]? = some u → (u.ownBlock = none ∨ u.ownBlock ≠ v2.ownBlock) := fun j u hj hu => by
  rcases hat with e | e
  ·
   rw [e]; exact h.apart j i u v hj hu hv
  ·
   cases hub : u.ownBlock with
   | none => exact .inl rfl
   | some g =>
    right; rw [e]; intro e2
    have := (h1.mut_lt (b := g) (.inr ⟨u, List.mem_of_getElem? hu, hub.symm⟩)).2
    have := Option.some.inj e2; omega
 refine ⟨⟨?_, by rw [List.length_set, List.length_set]; exact h.len, fun j u l' hu hl' => ?_, fun j k u y hjk hu hy => ?_, fun u hu => ?_⟩, fun b hb => ?_⟩
 ·
  rw [List.length_set, hd]; exact hst
 ·
  rw [List.getElem?_set] at hu hl'
  by_cases hj : i = j
  ·
   subst hj
   rw [if_pos rfl, if_pos hil] at hu
   rw [if_pos rfl, if_pos (by rw [← h.len]; exact hil)] at hl'
   cases hu; cases hl'
   rw [List.length_append, List.flatMap_append]
   have hpush : Own w2 p base e z v2 (l.length + 1) (l.flatMap f ++ f x) := Own.push (w := w1) ((hus.ext hB).ok fun b hb => ⟨hb.1, hb.2.1, Nat.lt_of_lt_of_le hb.2.2 hB.size⟩) (hns.ok fun b hb => ⟨hb, fun e => hpv b e.symm hb, by have := hp b hb; have := hB.size; omega⟩) hown hg hat
   have hk := hpush.keep hgs (by rw [← hdb]; exact hv2d) fun g e hpg => by cases e; exact hpd hpg
   simpa using hk
  ·
   rw [if_neg hj] at hu hl'
   refine ((h1.own j u l' hu hl').keep hg (h.apart j i u v (fun e => hj e.symm) hu hv) hpv).keep hgs (by rw [← hdb]; exact h.out u (List.mem_of_getElem? hu)) fun g e hpg => ?_
   cases e; exact hpd hpg
 ·
  rw [List.getElem?_set] at hu hy
  by_cases hj : i = j
  ·
   subst hj
   rw [if_pos rfl, if_pos hil] at hu
   cases hu
   rw [if_neg hjk] at hy
   rcases hv2o k y (fun e => hjk e.symm) hy with e | e
   ·
    cases hub : v2.ownBlock with
    | none => exact .inl rfl
    | some g => right; rw [e]; intro e2; cases e2
   ·
    exact .inr fun e2 => e e2.symm
  ·
   rw [if_neg hj] at hu
   by_cases hk : i = k
   ·
    subst hk
    rw [if_pos rfl, if_pos hil] at hy
    cases hy
    exact hv2o j u (fun e => hj e.symm) hu
   ·
    rw [if_neg hk] at hy
    exact h.apart j k u y hjk hu hy
 ·
  rcases List.mem_or_eq_of_mem_set hu with hu | e
  ·
   exact h.out u hu
  ·
   subst e; exact hv2d
 ·
  rcases hb with hb | ⟨u, hu, hb⟩
  ·
   exact .inl (.inl hb)
  ·
   rcases List.mem_or_eq_of_mem_set hu with hu | e
   ·
    exact .inl (.inr ⟨u, hu, hb⟩)
   ·
    subst e
    rcases hat with e | e
    ·
     exact .inl (.inr ⟨v, hvm, by rw [← e]; exact hb⟩)
    ·
     right; rw [e] at hb; have := Option.some.inj hb; omega
theorem F2.frame {w1 w2 : World} (h : F2 w p base eo e z f dv vs L) {v v2 : Value} (hvm : v ∈ vs) (hg : w1.grownBy w2 v.ownBlock) {gd cap : Nat} {i : Nat} (hd : dv = .slice (some ⟨gd, 0, none⟩) vs.length cap) :
  ∀ b, ¬ Mut dv vs b → b < w1.heap.size → (w2.setCell ⟨gd, i, none⟩ v2).heap[b]? = w1.heap[b]? := fun b hb hlt => by
 rw [Below.heap_setCell _ _ _ _ (by intro e; exact hb (.inl (by rw [hd]; exact congrArg some e)))]
 exact hg.block b hlt fun e => hb (.inr ⟨v, hvm, e⟩)
end
end Go.Proofs.YtkelpbbekeelcaaGreatDoor
