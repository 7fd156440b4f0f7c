/-
 The parts of an element of the archive of documents, plain: what their versions are. Helper lemmas; no statement of the seat is proved here.
-/
import Derived.Test.YtkelpbbekeelcaaGreatDoorU18
import Derived.Test.YtkelpbbekeelcaaGreatDoorU12
import Derived.Test.YtkelpbbekeelcaaGreatDoorU17
import Derived.Test.YtkelpbbekeelcaaGreatDoorU10
namespace Go.Proofs.YtkelpbbekeelcaaGreatDoor
open Go.RowKit
set_option maxRecDepth 100000
set_option linter.unusedVariables false
set_option linter.unusedSimpArgs false

theorem lastP_at (la : List Attr) (ks : List Node) : ∀ (x : List Part) (i : Nat) (r : Int), lastP la ks x i r = r ∨ ∃ (j : Nat) (h : j < x.length), lastP la ks x i r = ((i + j : Nat) : Int) ∧ x[j].attrs = la ∧ x[j].kids = ks
 | [], i, r => .inl rfl
 | a :: x, i, r => by
  rw [lastP]
  rcases lastP_at la ks x (i + 1) (if attrsS a.attrs la = true ∧ sameL a.kids ks = true then (i : Int) else r) with h | ⟨j, hj, h1, h2, h3⟩
  ·
   rw [h]
   split
   ·
    rename_i c
    exact .inr ⟨0, by simp, by simp, (attrsS_iff _ _).1 c.1, (sameL_iff _ _).1 c.2⟩
   ·
    exact .inl rfl
  ·
   exact .inr ⟨j + 1, by simpa using hj, by rw [h1]; congr 1; omega, by simpa using h2, by simpa using h3⟩
/-- What parts are, on the way. -/
structure PInv (whole : Bool) (done : List Held) (g : List Part × List (List Int)) : Prop where
 len : g.1.length = g.2.length
 short : g.2.length ≤ done.length
 bare : ∀ p ∈ g.1, p.vers = []
 ne : ∀ L ∈ g.2, L ≠ []
 of : ∀ (k : Nat) (h : k < g.2.length) (h' : k < g.1.length) (v : Int), v ∈ g.2[k] → ∃ d ∈ done, d.v = v ∧ d.n.attrs = g.1[k].attrs ∧ kidsW whole d.n = g.1[k].kids
 all : ∀ d ∈ done, ∃ (k : Nat) (h : k < g.2.length), d.v ∈ g.2[k]
 rise : ∀ (i k : Nat) (hi : i < g.2.length) (hk : k < g.2.length), i < k → ∃ u ∈ g.2[i], ∀ v ∈ g.2[k], u < v
 apart : ∀ (i k : Nat) (hi : i < g.2.length) (hk : k < g.2.length), i < k → ∀ v ∈ g.2[i], v ∉ g.2[k]
theorem PInv.ver {whole : Bool} {done : List Held} {g : List Part × List (List Int)} (h : PInv whole done g) {h0 : Held} (hlt : ∀ d ∈ done, d.v < h0.v) {k : Nat} (hk : k < g.2.length) {v : Int} (hv : v ∈ g.2[k]) : v < h0.v := by
 obtain ⟨d, hd, e, _⟩ := h.of k hk (by rw [h.len]; exact hk) v hv
 rw [← e]; exact hlt d hd
theorem addP_inv (whole : Bool) (done : List Held) (g : List Part × List (List Int)) (h : Held) (hi : PInv whole done g) (hlt : ∀ d ∈ done, d.v < h.v) : PInv whole (done ++ [h]) (addP whole h g) := by
 obtain ⟨S, V⟩ := g
 have hlen := hi.len
 have hver : ∀ {k : Nat} (hk : k < V.length) {v : Int}, v ∈ V[k] → v < h.v := fun {k} hk {v} hv => hi.ver hlt hk hv
 simp only at hlen
 by_cases hc : lastP h.n.attrs (kidsW whole h.n) S 0 (-1) < 0
 ·
  have ha : addP whole h (S, V) = (S ++ [⟨[], h.n.attrs, kidsW whole h.n⟩], V ++ [[h.v]]) := by unfold addP; rw [if_pos hc]
  rw [ha]
  refine ⟨by simp [hlen], by have := hi.short; simp only [List.length_append, List.length_cons, List.length_nil] at this ⊢; omega, fun p hp => ?_, fun L hL => ?_, fun k hk hk' v hv => ?_, fun d hd => ?_, fun i k hik hkk hlt' => ?_, fun i k hik hkk hlt' v hv => ?_⟩
  ·
   rcases List.mem_append.1 hp with hp | hp
   ·
    exact hi.bare p hp
   ·
    rw [List.mem_singleton.1 hp]
  ·
   rcases List.mem_append.1 hL with hL | hL
   ·
    exact hi.ne L hL
   ·
    rw [List.mem_singleton.1 hL]; simp
  ·
   by_cases hk2 : k < V.length
   ·
    simp only [List.getElem_append_left hk2] at hv
    obtain ⟨d, hd, e1, e2, e3⟩ := hi.of k hk2 (by simp only; omega) v hv
    simp only [List.getElem_append_left (show k < S.length by omega)]
    exact ⟨d, List.mem_append_left _ hd, e1, e2, e3⟩
   ·
    have hkk : k = V.length := by simp at hk; omega
    subst hkk
    simp only [List.getElem_append_right (Nat.le_refl _), Nat.sub_self, List.getElem_cons_zero, List.mem_singleton] at hv
    have hs : S.length = V.length := hlen
    refine ⟨h, by simp, hv.symm, ?_, ?_⟩
    ·
     simp only [List.getElem_append_right (show S.length ≤ V.length by omega), hs, Nat.sub_self, List.getElem_cons_zero]
    ·
     simp only [List.getElem_append_right (show S.length ≤ V.length by omega), hs, Nat.sub_self, List.getElem_cons_zero]
  ·
   rcases List.mem_append.1 hd with hd | hd
   ·
    obtain ⟨k, hk, hv⟩ := hi.all d hd
    exact ⟨k, by simp only [List.length_append]; simp only at hk; omega, by simp only [List.getElem_append_left hk]; exact hv⟩
   ·
    rw [List.mem_singleton.1 hd]
    exact ⟨V.length, by simp, by simp⟩
  ·
   have hiV : i < V.length := by simp only [List.length_append, List.length_cons, List.length_nil] at hkk; omega
   simp only [List.getElem_append_left hiV]
   by_cases hk2 : k < V.length
   ·
    simp only [List.getElem_append_left hk2]
    exact hi.rise i k hiV hk2 hlt'
   ·
    have hkk : k = V.length := by simp at hkk; omega
    subst hkk
    obtain ⟨u, hu⟩ := List.exists_mem_of_ne_nil _ (hi.ne V[i] (List.getElem_mem hiV))
    refine ⟨u, hu, fun v hv => ?_⟩
    simp only [List.getElem_append_right (Nat.le_refl _), Nat.sub_self, List.getElem_cons_zero, List.mem_singleton] at hv
    rw [hv]; exact hver hiV hu
  ·
   have hiV : i < V.length := by simp only [List.length_append, List.length_cons, List.length_nil] at hkk; omega
   simp only [List.getElem_append_left hiV] at hv
   by_cases hk2 : k < V.length
   ·
    simp only [List.getElem_append_left hk2]
    exact hi.apart i k hiV hk2 hlt' v hv
   ·
    have hkk : k = V.length := by simp at hkk; omega
    subst hkk
    simp only [List.getElem_append_right (Nat.le_refl _), Nat.sub_self, List.getElem_cons_zero, List.mem_singleton]
    have := hver hiV hv; omega
 ·
  obtain ⟨j, hj, e1, e2, e3⟩ : ∃ (j : Nat) (hj : j < S.length), lastP h.n.attrs (kidsW whole h.n) S 0 (-1) = (j : Int) ∧ S[j].attrs = h.n.attrs ∧ S[j].kids = kidsW whole h.n := by
   rcases lastP_at h.n.attrs (kidsW whole h.n) S 0 (-1) with e | ⟨j, hj, e1, e2, e3⟩
   ·
    rw [e] at hc; exact absurd (by decide) hc
   ·
    exact ⟨j, hj, by rw [e1]; congr 1; omega, e2, e3⟩
  have ha : addP whole h (S, V) = (S, V.modify j (· ++ [h.v])) := by unfold addP; rw [if_neg hc, e1, Int.toNat_natCast]
  rw [ha]
  have hmem : ∀ (k : Nat) (hk : k < (V.modify j (· ++ [h.v])).length) (hk' : k < V.length) (v : Int), v ∈ (V.modify j (· ++ [h.v]))[k] ↔ v ∈ V[k] ∨ (j = k ∧ v = h.v) := by
   intro k hk hk' v
   rw [List.getElem_modify]
   split
   ·
    rename_i e; simp [e]
   ·
    rename_i e; simp [e]
  have hml : (V.modify j (· ++ [h.v])).length = V.length := by simp
  refine ⟨by rw [hml]; exact hlen, by rw [hml]; have := hi.short; simp only [List.length_append] at this ⊢; simp only [List.length_cons, List.length_nil]; omega, fun p hp => hi.bare p hp, fun L hL => ?_, fun k hk hk' v hv => ?_, fun d hd => ?_, fun i k hik hkk hlt' => ?_, fun i k hik hkk hlt' v hv => ?_⟩
  ·
   obtain ⟨k, hk, rfl⟩ := List.getElem_of_mem hL
   simp only [hml] at hk
   obtain ⟨u, hu⟩ := List.exists_mem_of_ne_nil _ (hi.ne V[k] (List.getElem_mem hk))
   exact List.ne_nil_of_mem ((hmem k (by rw [hml]; exact hk) hk u).2 (.inl hu))
  ·
   simp only [hml] at hk
   rcases (hmem k (by rw [hml]; exact hk) hk v).1 hv with hq | ⟨e, hq⟩
   ·
    obtain ⟨d, hd, a, b, c⟩ := hi.of k hk (by simp only; omega) v hq
    exact ⟨d, List.mem_append_left _ hd, a, b, c⟩
   ·
    subst e
    exact ⟨h, by simp, hq.symm, e2.symm, e3.symm⟩
  ·
   rcases List.mem_append.1 hd with hd | hd
   ·
    obtain ⟨k, hk, hv⟩ := hi.all d hd
    simp only at hk hv
    exact ⟨k, by rw [hml]; exact hk, (hmem k (by rw [hml]; exact hk) hk _).2 (.inl hv)⟩
   ·
    rw [List.mem_singleton.1 hd]
    have hjV : j < V.length := by omega
    exact ⟨j, by rw [hml]; exact hjV, (hmem j (by rw [hml]; exact hjV) hjV _).2 (.inr ⟨rfl, rfl⟩)⟩
  ·
   simp only [hml] at hik hkk
   obtain ⟨u, hu, huv⟩ := hi.rise i k hik hkk hlt'
   refine ⟨u, (hmem i (by rw [hml]; exact hik) hik u).2 (.inl hu), fun v hv => ?_⟩
   rcases (hmem k (by rw [hml]; exact hkk) hkk v).1 hv with hv | ⟨_, hv⟩
   ·
    exact huv v hv
   ·
    rw [hv]; exact hver hik hu
  ·
   simp only [hml] at hik hkk
   intro hv2
   rcases (hmem i (by rw [hml]; exact hik) hik v).1 hv with hv | ⟨e, hv⟩
   ·
    rcases (hmem k (by rw [hml]; exact hkk) hkk v).1 hv2 with hv2 | ⟨_, hv2⟩
    ·
     exact hi.apart i k hik hkk hlt' v hv hv2
    ·
     have := hver hik hv; omega
   ·
    rcases (hmem k (by rw [hml]; exact hkk) hkk v).1 hv2 with hv2 | ⟨e2, _⟩
    ·
     have := hver hkk hv2; omega
    ·
     omega
theorem partsG_inv (whole : Bool) : ∀ (hs done : List Held) (g : List Part × List (List Int)), PInv whole done g → (∀ d ∈ done, ∀ h ∈ hs, d.v < h.v) → hs.Pairwise (fun a b => a.v < b.v) → PInv whole (done ++ hs) (partsG whole hs g)
 | [], done, g, hi, _, _ => by rw [List.append_nil]; exact hi
 | h :: r, done, g, hi, hd, hp => by
  rw [List.pairwise_cons] at hp
  rw [partsG, show done ++ h :: r = (done ++ [h]) ++ r by simp]
  refine partsG_inv whole r _ _ (addP_inv whole done g h hi fun d hm => hd d hm h List.mem_cons_self) (fun d hm k hk => ?_) hp.2
  rcases List.mem_append.1 hm with hm | hm
  ·
   exact hd d hm k (List.mem_cons_of_mem _ hk)
  ·
   rw [List.mem_singleton.1 hm]; exact hp.1 k hk
theorem partsG_all (whole : Bool) (hs : List Held) (hp : hs.Pairwise (fun a b => a.v < b.v)) : PInv whole hs (partsG whole hs ([], [])) := by
 have h0 : PInv whole [] ([], []) := ⟨rfl, Nat.le_refl _, fun p h => (by cases h), fun p h => (by cases h), fun k h => absurd h (Nat.not_lt_zero _), fun d h => (by cases h), fun i k h => absurd h (Nat.not_lt_zero _), fun i k h => absurd h (Nat.not_lt_zero _)⟩
 have := partsG_inv whole hs [] ([], []) h0 (fun d h => (by cases h)) hp
 simpa using this
theorem setV_map (vs : List Span) : ∀ (a : List Part) (s : List (List Int)), a.length = s.length → (setV a s).map (fun p => eitherS p.vers vs) = s.map fun L => eitherS (spansOf (flOf L)) vs
 | [], [], _ => rfl
 | [], _ :: _, h => by cases h
 | _ :: _, [], h => by cases h
 | p :: x, s :: y, h => by rw [setV, List.map_cons, List.map_cons, setV_map vs x y (by simpa using h)]
theorem setV_vers : ∀ (a : List Part) (s : List (List Int)) (p : Part), p ∈ setV a s → p.vers.length ≤ 1048576
 | [], _, p, h => by simp [setV] at h
 | _ :: _, [], p, h => by simp [setV] at h
 | q :: x, s :: y, p, h => by
  rw [setV] at h
  rcases List.mem_cons.1 h with e | h
  ·
   rw [e]; exact Nat.le_trans (spansV_len _ 200 1) (by omega)
  ·
   exact setV_vers x y p h
theorem setV_le : ∀ (a : List Part) (s : List (List Int)), (setV a s).length ≤ s.length
 | [], _ => by simp [setV]
 | _ :: _, [] => by simp [setV]
 | q :: x, s :: y => by rw [setV, List.length_cons, List.length_cons]; have := setV_le x y; omega
theorem flOf_mem (L : List Int) (j : Nat) : flOf L j = true ↔ 1 ≤ j ∧ j ≤ 200 ∧ (j : Int) ∈ L := by unfold flOf; exact decide_eq_true_iff
theorem partsP_len (whole : Bool) (hs : List Held) (hp : hs.Pairwise (fun a b => a.v < b.v)) : (partsP whole hs).length ≤ hs.length ∧ ∀ p ∈ partsP whole hs, p.vers.length ≤ 1048576 := by
 have hi := partsG_all whole hs hp
 have h1 := setV_le (partsG whole hs ([], [])).1 (partsG whole hs ([], [])).2
 have h2 := hi.short
 have h3 := hi.len
 unfold partsP
 split
 ·
  exact ⟨by omega, fun p h => setV_vers _ _ p h⟩
 ·
  exact ⟨by omega, fun p h => by rw [hi.bare p h]; exact Nat.zero_le _⟩
/-- The versions of the parts, as Parts tells them. -/
theorem parts_law (whole : Bool) (hs : List Held) (hp : hs.Pairwise (fun a b => a.v < b.v)) (h0 : hs ≠ []) (hv : ∀ h ∈ hs, 1 ≤ h.v ∧ h.v ≤ 200) :
  (partsP whole hs).map (fun p => eitherS p.vers (ownV hs)) = (partsG whole hs ([], [])).2.map (fun L => spansOf (flOf L)) := by
 have hi := partsG_all whole hs hp
 have hne : ∀ L ∈ (partsG whole hs ([], [])).2, spansOf (flOf L) ≠ [] := fun L hL => by
  obtain ⟨k, hk, rfl⟩ := List.getElem_of_mem hL
  obtain ⟨u, hu⟩ := List.exists_mem_of_ne_nil _ (hi.ne _ (List.getElem_mem hk))
  obtain ⟨d, hd, e, _⟩ := hi.of k hk (by rw [hi.len]; exact hk) u hu
  have := hv d hd
  exact spansOf_ne _ u hu (by omega) (by omega)
 unfold partsP
 by_cases hc : 1 < (partsG whole hs ([], [])).1.length
 ·
  rw [if_pos hc, setV_map _ _ _ hi.len]
  refine List.map_congr_left fun L hL => ?_
  unfold eitherS
  rw [if_neg fun e => hne L hL (List.eq_nil_of_length_eq_zero e)]
 ·
  rw [if_neg hc]
  obtain ⟨h, hm⟩ := List.exists_mem_of_ne_nil _ h0
  obtain ⟨k, hk, _⟩ := hi.all h hm
  have hlen := hi.len
  obtain ⟨G, hG⟩ : ∃ G, partsG whole hs ([], []) = G := ⟨_, rfl⟩
  rw [hG] at hi hne hc hk hlen ⊢
  obtain ⟨S, V⟩ := G
  simp only at hlen hc hk ⊢
  obtain ⟨p, rfl⟩ := List.length_eq_one_iff.1 (show S.length = 1 by omega)
  obtain ⟨L, rfl⟩ := List.length_eq_one_iff.1 (show V.length = 1 by simp at hlen; omega)
  ·
   have hb := hi.bare p (by simp)
   simp only [List.map_cons, List.map_nil, List.cons.injEq, and_true]
   unfold eitherS
   rw [hb, if_pos (show ([] : List Span).length = 0 from rfl)]
   unfold ownV
   refine spansOf_ext _ _ fun j h1 h2 => ?_
   rw [Bool.eq_iff_iff, flOf_mem, flOf_mem]
   constructor
   ·
    rintro ⟨a, b, c⟩
    obtain ⟨d, hd, e⟩ := List.mem_map.1 c
    obtain ⟨k, hk, hvk⟩ := hi.all d hd
    simp only [List.length_cons, List.length_nil] at hk
    obtain rfl : k = 0 := by omega
    exact ⟨a, b, by rw [← e]; exact hvk⟩
   ·
    rintro ⟨a, b, c⟩
    obtain ⟨d, hd, e, _⟩ := hi.of 0 (by simp) (by simp) j c
    exact ⟨a, b, List.mem_map.2 ⟨d, hd, e⟩⟩
theorem idxA_at (t : Step) : ∀ (K : List ANode) (i : Nat), ¬ idxA t K i < 0 → ∃ (j : Nat) (h : j < K.length), idxA t K i = ((i + j : Nat) : Int) ∧ isB K[j] t = true
 | [], i, h => by rw [idxA] at h; exact absurd (by decide) h
 | n :: r, i, h => by
  rw [idxA] at h ⊢
  by_cases hb : isB n t = true
  ·
   rw [if_pos hb]; exact ⟨0, by simp, by simp, hb⟩
  ·
   rw [if_neg hb] at h ⊢
   obtain ⟨j, hj, e, hb2⟩ := idxA_at t r (i + 1) h
   exact ⟨j + 1, by simpa using hj, by rw [e]; congr 1; omega, by simpa using hb2⟩
theorem selH_sub (l : List Rule) (path : List Bytes) (t : Step) (hs : List Held) (hr : ∀ h ∈ hs, Rising (stepsS l path h.n.kids)) : ((selH l path t hs).map (·.v)).Sublist (hs.map (·.v)) := by
 have := selH_filter l path t (fun h => (lookK t (stepsS l path h.n.kids) h.n.kids).isSome) (fun _ => true) hs fun h hm => ⟨hr h hm, fun e => by rw [e]; rfl, fun k e => by rw [e]; rfl⟩
 rw [List.filter_eq_self.2 (fun _ _ => rfl)] at this
 rw [this]
 exact List.Sublist.map _ List.filter_sublist
/-- Where the archive has an element of a path, it is made of the documents' elements of that path. -/
theorem walk_held (l : List Rule) : ∀ (x : List Step) (N : Nat) (path : List Bytes) (s : Step) (hs : List Held) (above : List Span) (i : Nat), hs ≠ [] → (∀ h ∈ hs, wfN l h.n path ∧ nsz h.n ≤ N ∧ 1 ≤ h.v ∧ h.v ≤ 200) →
  ∀ n vs m, walkA (nodeP l N path s hs above) (ownV hs) x i = (some (n, vs), m) →
  ∃ (N' : Nat) (path' : List Bytes) (s' : Step) (hs' : List Held) (above' : List Span), n = nodeP l (N' + 1) path' s' hs' above' ∧ vs = ownV hs' ∧ hs' ≠ [] ∧ (hs'.map (·.v)).Sublist (hs.map (·.v)) ∧
   ∀ g ∈ hs', ∃ h ∈ hs, g.v = h.v ∧ walkF l h.n path x i = (g.n, i + x.length)
 | [], N, path, s, hs, above, i, h0, hh, n, vs, m, e => by
  rw [walkA] at e
  injection e with e1 e2
  injection e1 with e1
  injection e1 with e1 e3
  obtain ⟨h, hm⟩ := List.exists_mem_of_ne_nil hs h0
  have h1 := (hh h hm).2.1
  have h2 := nsz_pos h.n
  cases N with
  | zero => omega
  | succ N => exact ⟨N, path, s, hs, above, e1.symm, e3.symm, h0, List.Sublist.refl _, fun g hg => ⟨g, hg, rfl, by rw [walkF]; rfl⟩⟩
 | t :: r, 0, path, s, hs, above, i, h0, hh, n, vs, m, e => by
  obtain ⟨h, hm⟩ := List.exists_mem_of_ne_nil hs h0
  have := (hh h hm).2.1
  have := nsz_pos h.n
  omega
 | t :: r, N + 1, path, s, hs, above, i, h0, hh, n, vs, m, e => by
  have hG := gather_all l path hs
  rw [walkA] at e
  by_cases hc : idxA t (nodeP l (N + 1) path s hs above).kids 0 < 0
  ·
   rw [if_pos hc] at e; cases e
  ·
   rw [if_neg hc] at e
   obtain ⟨j, hj, ej, hb⟩ := idxA_at t _ 0 hc
   rw [Nat.zero_add] at ej
   have hk := nodeP_kids l N path s hs above
   cases hf : frontS l path with
   | true =>
    exfalso
    rw [hk, hf, if_pos rfl] at hj
    simp at hj
   | false =>
    rw [hf, if_neg (by decide)] at hk
    have hget : (nodeP l (N + 1) path s hs above).kids.getD (idxA t (nodeP l (N + 1) path s hs above).kids 0).toNat zeroA = (nodeP l (N + 1) path s hs above).kids[j] := by
     rw [ej, Int.toNat_natCast, List.getD_eq_getElem?_getD, List.getElem?_eq_getElem hj]; rfl
    rw [hget] at e
    obtain ⟨K, hK⟩ : ∃ K, (nodeP l (N + 1) path s hs above).kids = K := ⟨_, rfl⟩
    simp only [hK] at hj hb e
    rw [hK] at hk
    subst hk
    rw [List.length_map] at hj
    rw [List.getElem_map] at hb e
    have hzm := List.getElem_mem hj
    obtain ⟨p, hp⟩ : ∃ p, ((gather l path hs ([], [])).1.zip (gather l path hs ([], [])).2)[j] = p := ⟨_, rfl⟩
    rw [hp] at hb e hzm
    rw [nodeP_is] at hb
    have hpt := (stepB_iff _ _).1 hb
    have hp2 : p.2 = selH l path p.1 hs := hG.eq p hzm
    have ht : p.1 ∈ (gather l path hs ([], [])).1 := (List.of_mem_zip hzm).1
    have hs0 : selH l path p.1 hs ≠ [] := (hG.iff p.1).2 ht
    rw [hp2, hpt] at e
    rw [hpt] at hs0
    have hris : ∀ h ∈ hs, Rising (stepsS l path h.n.kids) := fun h hm => by
     have := (wfN_eq l h.n path).1 (hh h hm).1
     exact (this.2 hf).2.1
    have hmem := selH_mem l path t hs hris
    have hh' : ∀ g ∈ selH l path t hs, wfN l g.n (path ++ [t.n]) ∧ nsz g.n ≤ N ∧ 1 ≤ g.v ∧ g.v ≤ 200 := fun g hg => by
     obtain ⟨h, hm, hk, hv⟩ := (hmem g).1 hg
     obtain ⟨hk1, hk2, _⟩ := (walkF_step l h.n path t r i (hh h hm).1).2 _ hk
     have hw := (((wfN_eq l h.n path).1 (hh h hm).1).2 hf).2.2
     have := wfL_mem l path _ _ hw hk1
     rw [hk2] at this
     have h6 := nsz_mem _ _ hk1
     have h7 := (hh h hm).2.1
     exact ⟨this, by omega, by rw [hv]; exact (hh h hm).2.2⟩
    have hvers : eitherS (nodeP l N (path ++ [t.n]) t (selH l path t hs) (ownV hs)).vers (ownV hs) = ownV (selH l path t hs) := by
     rw [nodeP_vers]; exact either_vers _ _ hs0 fun g hg => (hh' g hg).2.2
    rw [hvers] at e
    obtain ⟨N', path', s', hs', above', e1, e2, e3, e4, e5⟩ := walk_held l r N (path ++ [t.n]) t (selH l path t hs) (ownV hs) (i + 1) hs0 hh' n vs m e
    refine ⟨N', path', s', hs', above', e1, e2, e3, e4.trans (selH_sub l path t hs hris), fun g hg => ?_⟩
    obtain ⟨g', hg', a, b⟩ := e5 g hg
    obtain ⟨h, hm, hk, hv⟩ := (hmem g').1 hg'
    refine ⟨h, hm, a.trans hv, ?_⟩
    rw [((walkF_step l h.n path t r i (hh h hm).1).2 _ hk).2.2, b, List.length_cons]
    congr 1; omega
theorem heldsOf_rise : ∀ (ds : List Node) (i : Nat), (heldsOf ds i).Pairwise (fun a b => a.v < b.v)
 | [], i => List.Pairwise.nil
 | d :: r, i => by
  rw [heldsOf, List.pairwise_cons]
  refine ⟨fun h hm => ?_, heldsOf_rise r (i + 1)⟩
  have := (heldsOf_mem r (i + 1) h hm).2.1
  simp only; omega
theorem heldsOf_at : ∀ (ds : List Node) (i : Nat) (h : Held), h ∈ heldsOf ds i → ∃ (j : Nat) (hj : j < ds.length), h.v = ((i + j : Nat) : Int) + 1 ∧ h.n = ds[j]
 | [], i, h, hm => by cases hm
 | d :: r, i, h, hm => by
  rw [heldsOf] at hm
  rcases List.mem_cons.1 hm with e | hm
  ·
   rw [e]; exact ⟨0, by simp, by simp, rfl⟩
  ·
   obtain ⟨j, hj, e1, e2⟩ := heldsOf_at r (i + 1) h hm
   exact ⟨j + 1, by simpa using hj, by rw [e1]; congr 2; omega, by simpa using e2⟩
end Go.Proofs.YtkelpbbekeelcaaGreatDoor

/-
 Lives: each is a path of a document; what the parts of its element are; plain. Helper lemmas; no statement of the seat is proved here.
-/
namespace Go.Proofs.YtkelpbbekeelcaaGreatDoor
open Go.RowKit
set_option maxRecDepth 100000
set_option linter.unusedVariables false
set_option linter.unusedSimpArgs false

theorem lookK_at (s : Step) (k : Node) : ∀ (ss : List Step) (ks : List Node) (j : Nat), Rising ss → ss[j]? = some s → ks[j]? = some k → lookK s ss ks = some k
 | [], _, j, _, h, _ => by simp at h
 | _ :: _, [], j, _, _, h => by simp at h
 | a :: ss, b :: ks, 0, _, h1, h2 => by simp at h1 h2; rw [lookK, if_pos h1.symm, h2]
 | a :: ss, b :: ks, j + 1, hr, h1, h2 => by
  have h3 : s ∈ ss := List.mem_of_getElem? (by simpa using h1)
  rw [lookK, if_neg (fun e => rising_head hr (by rw [← e]; exact h3))]
  exact lookK_at s k ss ks j (rising_tail hr) (by simpa using h1) (by simpa using h2)
theorem belowL_mem (l : List Rule) (x : List Step) : ∀ (ks : List Node) (ss : List Step) (names : List Bytes) (path : List Step), x ∈ belowL l ks ss names path → ∃ (j : Nat) (k : Node) (s : Step), ks[j]? = some k ∧ ss[j]? = some s ∧ x ∈ belowN l k names (path ++ [s])
 | n :: r, s :: ss, names, path, h => by
  rw [belowL] at h
  rcases List.mem_append.1 h with h | h
  ·
   exact ⟨0, n, s, by simp, by simp, h⟩
  ·
   obtain ⟨j, k, t, a, b, c⟩ := belowL_mem l x r ss names path h
   exact ⟨j + 1, k, t, by simpa using a, by simpa using b, c⟩
 | [], _, _, _, h => by simp [belowL] at h
 | _ :: _, [], _, _, h => by simp [belowL] at h
theorem below_found (l : List Rule) (x : List Step) : ∀ (N : Nat) (n : Node) (above : List Bytes) (path : List Step), nsz n ≤ N → wfN l n (above ++ [n.name]) → x ∈ belowN l n above path →
  ∃ r, x = path ++ r ∧ ∀ i, (walkF l n (above ++ [n.name]) r i).2 = i + r.length
 | 0, n, above, path, h, _, _ => by have := nsz_pos n; omega
 | N + 1, n, above, path, h, hw, hx => by
  have hbn : belowN l n above path = path :: belowL l n.kids (stepsS l (above ++ [n.name]) n.kids) (above ++ [n.name]) path := by cases n; rw [belowN]; rfl
  rw [hbn] at hx
  rcases List.mem_cons.1 hx with e | hx
  ·
   exact ⟨[], by rw [e, List.append_nil], fun i => by rw [walkF]; rfl⟩
  ·
   obtain ⟨j, k, s, hk, hs, hm⟩ := belowL_mem l x _ _ _ _ hx
   have hkm := List.mem_of_getElem? hk
   cases hf : frontS l (above ++ [n.name]) with
   | true =>
    rw [front_steps l _ hf] at hs
    simp at hs
   | false =>
    obtain ⟨h1, h2, h3⟩ := ((wfN_eq l n _).1 hw).2 hf
    have hlk := lookK_at s k _ _ j h2 hs hk
    obtain ⟨_, hn, _⟩ := (walkF_step l n (above ++ [n.name]) s [] 0 hw).2 k hlk
    have hwk := wfL_mem l _ _ k h3 hkm
    have hsz := nsz_mem n k hkm
    obtain ⟨r, er, hr⟩ := below_found l x N k (above ++ [n.name]) (path ++ [s]) (by omega) hwk hm
    refine ⟨s :: r, by rw [er, List.append_assoc]; rfl, fun i => ?_⟩
    rw [((walkF_step l n (above ++ [n.name]) s r i hw).2 k hlk).2.2, ← hn, hr, List.length_cons]
    omega
/-- What lives are. -/
def LInv (l : List Rule) (ds : List Node) (out : List Life) : Prop :=
 ∀ y ∈ out, y.vers = spansOf (flOf (histV l y.path ds 0 [] 0).1) ∧ y.path.length ≤ 1048576 ∧ ∃ d ∈ ds, (findF l d y.path).2 = y.path.length ∧ 0 < y.path.length
theorem addL_inv (l : List Rule) (ds : List Node) (x : List Step) (out : List Life) (h : LInv l ds out) (hl : x.length ≤ 1048576) (hx : ∃ d ∈ ds, (findF l d x).2 = x.length ∧ 0 < x.length) : LInv l ds (addL l ds x out) := by
 unfold addL
 by_cases c : (if h : lifePos x out < out.length then pathB out[lifePos x out].path x else false) = true
 ·
  rw [if_pos c]; exact h
 ·
  rw [if_neg c]
  intro y hy
  rcases (mem_insAt _ _ _ _).1 hy with e | hy
  ·
   rw [e]; exact ⟨rfl, hl, hx⟩
  ·
   exact h y hy
theorem livesJ_inv (l : List Rule) (ds : List Node) : ∀ (L : List (List Step)) (out : List Life), LInv l ds out → (∀ x ∈ L, x.length ≤ 1048576 ∧ ∃ d ∈ ds, (findF l d x).2 = x.length ∧ 0 < x.length) → LInv l ds (livesJ l ds L out)
 | [], out, h, _ => h
 | x :: r, out, h, hx => livesJ_inv l ds r _ (addL_inv l ds x out h (hx x List.mem_cons_self).1 (hx x List.mem_cons_self).2) fun y hy => hx y (List.mem_cons_of_mem _ hy)
theorem root_paths (l : List Rule) (d : Node) (hw : wfN l d [d.name]) (hsz : nsz d ≤ 1048576) (x : List Step) (hx : x ∈ belowN l d [] [⟨d.name, []⟩]) : x.length ≤ 1048576 ∧ (findF l d x).2 = x.length ∧ 0 < x.length := by
 have h1 := belowN_path l d [] [⟨d.name, []⟩] x hx
 obtain ⟨r, er, hr⟩ := below_found l x _ d [] [⟨d.name, []⟩] (Nat.le_refl _) hw hx
 simp only [List.length_cons, List.length_nil] at h1
 refine ⟨by omega, ?_, by rw [er]; simp⟩
 rw [er, List.singleton_append, findF, if_pos ⟨((wfN_eq l d _).1 hw).1, (stepB_iff _ _).2 rfl⟩]
 have := hr 1
 rw [List.nil_append] at this
 rw [this, List.length_cons]; omega
theorem livesI_inv (l : List Rule) (ds : List Node) (hd : ∀ d ∈ ds, wfN l d [d.name] ∧ nsz d ≤ 1048576) : ∀ (L : List Node) (out : List Life), (∀ d ∈ L, d ∈ ds) → LInv l ds out → LInv l ds (livesI l ds L out)
 | [], out, _, h => h
 | d :: r, out, hs, h => livesI_inv l ds hd r _ (fun k hk => hs k (List.mem_cons_of_mem _ hk)) (livesJ_inv l ds _ out h fun x hx => by
   have hm := hs d List.mem_cons_self
   obtain ⟨a, b, c⟩ := root_paths l d (hd d hm).1 (hd d hm).2 x hx
   exact ⟨a, d, hm, b, c⟩)
theorem heldsOf_has : ∀ (ds : List Node) (i : Nat) (d : Node), d ∈ ds → ∃ h ∈ heldsOf ds i, h.n = d
 | [], _, _, h => by cases h
 | a :: r, i, d, h => by
  rcases List.mem_cons.1 h with e | h
  ·
   exact ⟨_, List.mem_cons_self, e.symm⟩
  ·
   obtain ⟨k, hk, e⟩ := heldsOf_has r (i + 1) d h
   exact ⟨k, List.mem_cons_of_mem _ hk, e⟩
theorem hist_ne (l : List Rule) (ds : List Node) (x : List Step) (h : ∃ d ∈ ds, (findF l d x).2 = x.length ∧ 0 < x.length) : (histV l x ds 0 [] 0).1 ≠ [] := by
 obtain ⟨d, hd, h1, h2⟩ := h
 obtain ⟨k, hk, e⟩ := heldsOf_has ds 0 d hd
 obtain ⟨e1, _⟩ := histV_law l x ds 0 [] 0
 rw [e1, List.nil_append]
 intro e2
 rw [List.map_eq_nil_iff, List.filter_eq_nil_iff] at e2
 exact e2 k hk (by rw [e]; exact decide_eq_true ⟨h1, by omega⟩)
/-- What the law asks of the versions of an element's parts. -/
structure PartsOK (l : List Rule) (ds : List Node) (x : List Step) (Q : List (List Int)) (A : Nat → List Attr) : Prop where
 some : Q ≠ []
 ne : ∀ L ∈ Q, L ≠ [] ∧ ∀ v ∈ L, 1 ≤ v ∧ v ≤ 200
 rise : ∀ (i k : Nat) (hi : i < Q.length) (hk : k < Q.length), i < k → ∃ u ∈ Q[i], ∀ v ∈ Q[k], u < v
 apart : ∀ (i k : Nat) (hi : i < Q.length) (hk : k < Q.length), i < k → ∀ v ∈ Q[i], v ∉ Q[k]
 same : ∀ (k : Nat) (hk : k < Q.length) (v : Int), v ∈ Q[k] → ∃ (j : Nat) (hj : j < ds.length), v = (j : Int) + 1 ∧ (findF l ds[j] x).1.attrs = A k
 all : ∀ j : Nat, 1 ≤ j → j ≤ 200 → (Q.any fun L => flOf L j) = flOf (histV l x ds 0 [] 0).1 j
theorem life_law (l : List Rule) (nm : Bytes) (ds : List Node) (x : List Step) (hw : ∀ d ∈ ds, wfN l d [nm] ∧ d.name = nm) (h200 : ds.length ≤ 200) (hne : (histV l x ds 0 [] 0).1 ≠ []) :
  ∃ (n : ANode) (vs : List Span) (j : Nat) (Q : List (List Int)) (A : Nat → List Attr), findA ds.length (rootP l nm ds) x = (some (n, vs), j) ∧ vs = spansOf (flOf (histV l x ds 0 [] 0).1) ∧
   (n.parts.map fun p => eitherS p.vers vs) = Q.map (fun L => spansOf (flOf L)) ∧ PartsOK l ds x Q A ∧ n.parts.length ≤ 200 ∧ vs.length ≤ 1048576 ∧ ∀ q ∈ n.parts, q.vers.length ≤ 1048576 := by
 obtain ⟨_, h2⟩ := find_law l nm ds x hw h200
 obtain ⟨n, j, hf⟩ := h2 hne
 obtain ⟨vs, hvs⟩ : ∃ vs, spansOf (flOf (histV l x ds 0 [] 0).1) = vs := ⟨_, rfl⟩
 have hvl : vs.length ≤ 1048576 := by rw [← hvs]; exact Nat.le_trans (spansV_len _ 200 1) (by omega)
 rw [hvs] at hf
 cases x with
 | nil => rw [findA] at hf; cases hf
 | cons t r =>
  have hf0 := hf
  rw [findA] at hf
  by_cases hc : (ds.length : Int) < 1 ∨ isB (rootP l nm ds) t = false
  ·
   rw [if_pos hc] at hf; cases hf
  ·
   rw [if_neg hc] at hf
   have hd : ds ≠ [] := by intro e; subst e; exact hc (.inl (by simp))
   have hroot : rootP l nm ds = nodeP l (nszL ds + 1) [nm] ⟨nm, []⟩ (heldsOf ds 0) [] := by unfold rootP; rw [if_neg hd]
   have hhne : heldsOf ds 0 ≠ [] := by cases ds with | nil => exact absurd rfl hd | cons d r => intro e; rw [heldsOf] at e; cases e
   have hall : ∀ h ∈ heldsOf ds 0, wfN l h.n [nm] ∧ nsz h.n ≤ nszL ds + 1 ∧ 1 ≤ h.v ∧ h.v ≤ 200 := fun h hm => by
    obtain ⟨a, b, c⟩ := heldsOf_mem ds 0 h hm
    have := nszL_le ds h.n a
    exact ⟨(hw _ a).1, by omega, by omega, by omega⟩
   have hst : stepB ⟨nm, []⟩ t = true := by
    cases hb : stepB ⟨nm, []⟩ t with
    | true => rfl
    | false => exact absurd (.inr (by rw [hroot, nodeP_is]; exact hb)) hc
   have hev : eitherS (rootP l nm ds).vers [] = ownV (heldsOf ds 0) := by
    rw [hroot, nodeP_vers]; exact either_vers _ _ hhne fun h hm => (hall h hm).2.2
   rw [hev, hroot] at hf
   obtain ⟨N', path', s', hs', above', e1, e2, e3, e4, e5⟩ := walk_held l r (nszL ds + 1) [nm] ⟨nm, []⟩ (heldsOf ds 0) [] 1 hhne hall n vs j hf
   have hfd : ∀ h ∈ heldsOf ds 0, findF l h.n (t :: r) = walkF l h.n [nm] r 1 := fun h hm => by
    obtain ⟨a, _, _⟩ := heldsOf_mem ds 0 h hm
    obtain ⟨b, c⟩ := hw _ a
    rw [wfN_eq] at b
    rw [findF, c, if_pos ⟨b.1, hst⟩]
   have hris : hs'.Pairwise (fun a b => a.v < b.v) := by
    have h1 := heldsOf_rise ds 0
    have h2 : ((heldsOf ds 0).map (·.v)).Pairwise (· < ·) := List.pairwise_map.2 h1
    exact List.pairwise_map.1 (h2.sublist e4)
   have hv : ∀ g ∈ hs', 1 ≤ g.v ∧ g.v ≤ 200 := fun g hg => by
    obtain ⟨h, hm, a, _⟩ := e5 g hg
    rw [a]; exact (hall h hm).2.2
   have hlen : hs'.length ≤ ds.length := by
    have := e4.length_le
    rw [List.length_map, List.length_map] at this
    have hl : ∀ (L : List Node) (i : Nat), (heldsOf L i).length = L.length := by
     intro L
     induction L with
     | nil => intro i; rfl
     | cons a L ih => intro i; rw [heldsOf, List.length_cons, List.length_cons, ih]
    rw [hl] at this; exact this
   have hparts : n.parts = partsP (frontS l path') hs' := by rw [e1]; rfl
   have hi := partsG_all (frontS l path') hs' hris
   have hlaw := parts_law (frontS l path') hs' hris e3 hv
   obtain ⟨b1, b2⟩ := partsP_len (frontS l path') hs' hris
   obtain ⟨G, hG⟩ : ∃ G, partsG (frontS l path') hs' ([], []) = G := ⟨_, rfl⟩
   rw [hG] at hi hlaw
   refine ⟨n, vs, j, G.2, fun k => (G.1.getD k ⟨[], [], []⟩).attrs, hf0, hvs.symm, by rw [hparts, e2]; exact hlaw, ?_, by rw [hparts]; omega, hvl, by rw [hparts]; exact b2⟩
   have hof : ∀ (k : Nat) (hk : k < G.2.length) (v : Int), v ∈ G.2[k] → ∃ g ∈ hs', g.v = v ∧ g.n.attrs = (G.1.getD k ⟨[], [], []⟩).attrs := fun k hk v hv => by
    have hk1 : k < G.1.length := by rw [hi.len]; exact hk
    obtain ⟨g, hg, a, b, _⟩ := hi.of k hk hk1 v hv
    refine ⟨g, hg, a, ?_⟩
    rw [b, List.getD_eq_getElem?_getD, List.getElem?_eq_getElem hk1]; rfl
   refine ⟨?_, fun L hL => ⟨hi.ne L hL, fun v hvL => ?_⟩, hi.rise, hi.apart, fun k hk v hvk => ?_, fun q h1 h2 => ?_⟩
   ·
    obtain ⟨g, hg⟩ := List.exists_mem_of_ne_nil _ e3
    obtain ⟨k, hk, _⟩ := hi.all g hg
    exact List.ne_nil_of_length_pos (by omega)
   ·
    obtain ⟨k, hk, rfl⟩ := List.getElem_of_mem hL
    obtain ⟨g, hg, a, _⟩ := hof k hk v hvL
    rw [← a]; exact hv g hg
   ·
    obtain ⟨g, hg, a, b⟩ := hof k hk v hvk
    obtain ⟨h, hm, c, d⟩ := e5 g hg
    obtain ⟨q, hq, e6, e7⟩ := heldsOf_at ds 0 h hm
    refine ⟨q, hq, by rw [← a, c, e6]; simp, ?_⟩
    rw [← e7, hfd h hm, d]; exact b
   ·
    have hvq : flOf (histV l (t :: r) ds 0 [] 0).1 q = flOf (hs'.map (·.v)) q := by
     have h3 := inS_spansOf (flOf (histV l (t :: r) ds 0 [] 0).1) q h1 h2
     rw [hvs, e2] at h3
     unfold ownV at h3
     rw [inS_spansOf _ q h1 h2] at h3
     exact h3.symm
    rw [hvq, Bool.eq_iff_iff, List.any_eq_true, flOf_mem]
    constructor
    ·
     rintro ⟨L, hL, hq⟩
     obtain ⟨k, hk, rfl⟩ := List.getElem_of_mem hL
     obtain ⟨g, hg, a, _⟩ := hof k hk q ((flOf_mem _ _).1 hq).2.2
     exact ⟨h1, h2, List.mem_map.2 ⟨g, hg, a⟩⟩
    ·
     rintro ⟨_, _, hq⟩
     obtain ⟨g, hg, a⟩ := List.mem_map.1 hq
     obtain ⟨k, hk, hvk⟩ := hi.all g hg
     exact ⟨_, List.getElem_mem hk, (flOf_mem _ _).2 ⟨h1, h2, by rw [← a]; exact hvk⟩⟩
end Go.Proofs.YtkelpbbekeelcaaGreatDoor

/-
 slices.Clone of steps and texts. Helper lemmas; no statement of the seat is proved here.
-/
namespace Go.Proofs.YtkelpbbekeelcaaGreatDoor
open Go.RowKit
set_option maxRecDepth 100000
set_option linter.unusedVariables false
set_option linter.unusedSimpArgs false

set_option maxHeartbeats 4000000 in
theorem clonest_own (x : List Step) (p : Nat → Prop) (v : Value) (w : World) (hx : x.length ≤ 16777216) (h : Rep w p v (stepsD x)) :
  Calls Tryz.prog 51 #[v] w fun e w' => (∃ u, e = .returned u ∧ Own w' (fun b => p b ∧ b < w.heap.size) w.heap.size 76 2 u x.length (x.flatMap stepC)) ∧ Ext w w' := by
 obtain ⟨i0, hi, hz0, hz1, hz2⟩ := info_parts infoStep
 obtain ⟨a, c, rfl, hc1, hc2⟩ := h.count z_step (by omega)
 have knil := fun (a : Option Addr) (l c : Nat) (w : World) => run_eql_slice_nil (P := Tryz.prog) w 24 76 a l c Tryz.underlying24
 cases a with
 | none =>
  obtain ⟨h0, hc0, _⟩ := rep_none h
  obtain rfl : x = [] := List.eq_nil_of_length_eq_zero h0
  subst hc0
  clear h0
  simp only [List.length_nil] at *
  go_enter Tryz.func51, Tryz.ntmps51
  go_wp2_with fail
  go_ret
  exact ⟨⟨_, rfl, Own.nil _ _ _ _ _⟩, Ext.refl _⟩
 | some ad =>
  obtain ⟨us, hus, hul, hcells⟩ := rep_some h
  have h1u := hus.one (flat_one one_step x)
  have hown : (w.alloc (.cells #[] 76)).ownsRow w.heap.size 76 2 (.slice (some ⟨w.heap.size, 0, none⟩) 0 0) 0 [] := own_empty' (Nat.le_refl _) Array.getElem?_push_size
  have hcl : ∀ j u, us[j]? = some u → (w.alloc (.cells #[] 76)).cell? (ad.add j) = some u := fun j u hj => by
   have h1 := hcells j u hj
   exact (World.cell?_of_block (Below.heap_alloc _ _ _ (World.block_lt_of_cell? w _ h1))).trans h1
  have HU := Lib.hid (And.intro hus h1u)
  clear hus h1u h hcells
  go_enter Tryz.func51, Tryz.ntmps51
  go_wp2_with (at_builtin; refine wpList_append_own_at _ rfl (.tmp 5) (.tmp 6) _ rfl w.heap.size 76 i0 (.agg #[.string ⟨#[]⟩, .slice none 0 0]) 2 40 Tryz.underlying24 hi hz0 hz1 hz2 rfl (by decide) (.slice (some ⟨w.heap.size, 0, none⟩) 0 0) 0 [] rfl hown ad x.length c us rfl hul hcl HU.out.2 (by unfold maxLen; omega) (by omega) (by simp) ?_; intro v2 w3 hown3 hgrow3 _ hat3)
  have hX3 : Ext w w3 := Below.grown ((Ext.refl w).alloc (.cells #[] 76)) hgrow3 (by simp) fun k hk => (hown.lt k hk).1
  have hO : Own w3 (fun b => p b ∧ b < w.heap.size) w.heap.size 76 2 v2 x.length (x.flatMap stepC) := ⟨us, by simpa using hown3, (HU.out.1.lt.ext hX3).ok fun b hb => ⟨hb, fun e => by
   have := (hown3.lt b e.symm).1
   have := hb.2
   omega, Nat.lt_of_lt_of_le hb.2 hX3.size⟩⟩
  clear hown3 hgrow3 hat3
  go_wp2_with fail
  go_ret
  exact ⟨⟨v2, rfl, hO⟩, hX3⟩
set_option maxHeartbeats 4000000 in
theorem clonestr_own (x : List Bytes) (p : Nat → Prop) (v : Value) (w : World) (hx : x.length ≤ 16777216) (h : Rep w p v (strsD x)) :
  Calls Tryz.prog 52 #[v] w fun e w' => (∃ u, e = .returned u ∧ Own w' (fun b => p b ∧ b < w.heap.size) w.heap.size 9 1 u x.length (x.flatMap (fun x => [strD x]))) ∧ Ext w w' := by
 obtain ⟨i0, hi, hz0, hz1, hz2⟩ := info_parts infoStr
 obtain ⟨a, c, rfl, hc1, hc2⟩ := h.count z_str (by omega)
 have knil := fun (a : Option Addr) (l c : Nat) (w : World) => run_eql_slice_nil (P := Tryz.prog) w 29 9 a l c Tryz.underlying29
 cases a with
 | none =>
  obtain ⟨h0, hc0, _⟩ := rep_none h
  obtain rfl : x = [] := List.eq_nil_of_length_eq_zero h0
  subst hc0
  clear h0
  simp only [List.length_nil] at *
  go_enter Tryz.func52, Tryz.ntmps52
  go_wp2_with fail
  go_ret
  exact ⟨⟨_, rfl, Own.nil _ _ _ _ _⟩, Ext.refl _⟩
 | some ad =>
  obtain ⟨us, hus, hul, hcells⟩ := rep_some h
  have h1u := hus.one (flat_one one_str x)
  have hown : (w.alloc (.cells #[] 9)).ownsRow w.heap.size 9 1 (.slice (some ⟨w.heap.size, 0, none⟩) 0 0) 0 [] := own_empty' (Nat.le_refl _) Array.getElem?_push_size
  have hcl : ∀ j u, us[j]? = some u → (w.alloc (.cells #[] 9)).cell? (ad.add j) = some u := fun j u hj => by
   have h1 := hcells j u hj
   exact (World.cell?_of_block (Below.heap_alloc _ _ _ (World.block_lt_of_cell? w _ h1))).trans h1
  have HU := Lib.hid (And.intro hus h1u)
  clear hus h1u h hcells
  go_enter Tryz.func52, Tryz.ntmps52
  go_wp2_with (at_builtin; refine wpList_append_own_at _ rfl (.tmp 5) (.tmp 6) _ rfl w.heap.size 9 i0 (.string ⟨#[]⟩) 1 16 Tryz.underlying29 hi hz0 hz1 hz2 rfl (by decide) (.slice (some ⟨w.heap.size, 0, none⟩) 0 0) 0 [] rfl hown ad x.length c us rfl hul hcl HU.out.2 (by unfold maxLen; omega) (by omega) (by simp) ?_; intro v2 w3 hown3 hgrow3 _ hat3)
  have hX3 : Ext w w3 := Below.grown ((Ext.refl w).alloc (.cells #[] 9)) hgrow3 (by simp) fun k hk => (hown.lt k hk).1
  have hO : Own w3 (fun b => p b ∧ b < w.heap.size) w.heap.size 9 1 v2 x.length (x.flatMap (fun x => [strD x])) := ⟨us, by simpa using hown3, (HU.out.1.lt.ext hX3).ok fun b hb => ⟨hb, fun e => by
   have := (hown3.lt b e.symm).1
   have := hb.2
   omega, Nat.lt_of_lt_of_le hb.2 hX3.size⟩⟩
  clear hown3 hgrow3 hat3
  go_wp2_with fail
  go_ret
  exact ⟨⟨v2, rfl, hO⟩, hX3⟩
theorem clonestr_any (x : List Bytes) (p : Nat → Prop) (v : Value) (w : World) (hx : x.length ≤ 16777216) (h : Rep w p v (strsD x)) :
  Calls Tryz.prog 52 #[v] w fun e w' => Ret (fun b => w.heap.size ≤ b) (strsD x) e w' ∧ Ext w w' :=
 (clonestr_own x p v w hx h).mono fun e w' ⟨⟨u, he, us, h1, h2⟩, hE⟩ => ⟨⟨u, he, (Own.rep (p := fun _ => False) (n := x.length) ⟨us, h1, reps_strs h2⟩).ok fun b hb => hb.elim (fun h => h.elim) id⟩, hE⟩

end Go.Proofs.YtkelpbbekeelcaaGreatDoor

/-
 ivset.Within, at a set within another one. Helper lemmas; no statement of the seat is proved here.
-/
namespace Go.Proofs.YtkelpbbekeelcaaGreatDoor
open Go.RowKit
set_option maxRecDepth 100000
set_option linter.unusedVariables false
set_option linter.unusedSimpArgs false

theorem inS_get (l : List Span) (i : Nat) (h : i < l.length) (v : Int) (h1 : l[i].a ≤ v) (h2 : v ≤ l[i].b) : inS l v = true := by
 unfold inS
 rw [List.any_eq_true]
 exact ⟨l[i], List.getElem_mem h, decide_eq_true ⟨h1, h2⟩⟩
set_option maxHeartbeats 8000000 in
theorem both_none (x y : List Span) (hx : mayG 1 x) (hy : mayG 1 y) (hd : ∀ v, inS x v = true → inS y v = false) (p q : Nat → Prop) (v u : Value) (w : World) (h : Rep w p v (spansD x)) (k : Rep w q u (spansD y)) :
  Calls Tryz.prog 85 #[v, u] w fun e w' => e = .returned (.slice none 0 0) ∧ Ext w w' := by
 have HM1 := Lib.hid fun W (hE : Ext w W) => may_set x p v W (h.ext hE)
 have HM2 := Lib.hid fun W (hE : Ext w W) => may_set y q u W (k.ext hE)
 rw [mayI_of x 1 (-1) hx (by omega) (.inl (by omega))] at HM1
 rw [mayI_of y 1 (-1) hy (by omega) (.inl (by omega))] at HM2
 obtain ⟨a, c, rfl, hc1, hc2⟩ := h.count z_span (by omega)
 obtain ⟨b, d, rfl, hd1, hd2⟩ := k.count z_span (by omega)
 have HD := Lib.hid hd
 clear hd
 go_enter Tryz.func85, Tryz.ntmps85
 go_wp2_with fail
 refine (HM1.out _ (Ext.refl _)).mono ?_
 rintro e w1 ⟨rfl, hB1⟩
 go_wp2_with fail
 refine (HM2.out _ hB1).mono ?_
 rintro e w2 ⟨rfl, hB2⟩
 have hE2 := hB1.trans hB2
 go_wp2_with fail
 go_loopw [5, 6, 7, 8, 9] (fun o ti tk _ _ wr => ∃ (i k : Nat), ti = .int .i64 i ∧ tk = .int .i64 k ∧ o = .slice none 0 0 ∧ i ≤ x.length ∧ k ≤ y.length ∧ Ext w wr) (fun _ ti tk _ _ _ => downV x.length ti + downV y.length tk)
 case atStart => exact ⟨0, 0, rfl, rfl, rfl, Nat.zero_le _, Nat.zero_le _, hE2⟩
 case round =>
  obtain ⟨i, k', rfl, rfl, rfl, hi, hk, hX⟩ := hrel
  have hi0 : (0 : Int) ≤ (i : Int) := by omega
  have hk0 : (0 : Int) ≤ (k' : Int) := by omega
  by_cases hlt : i < x.length
  ·
   have hlI : (i : Int) < (x.length : Int) := by omega
   by_cases hkt : k' < y.length
   ·
    have hkI : (k' : Int) < (y.length : Int) := by omega
    obtain ⟨g, o, rfl, lg, _, d0, d1⟩ := span_at (h.ext hX) i hlt
    obtain ⟨g', o', rfl, lg', _, e0, e1⟩ := span_at (k.ext hX) k' hkt
    have hgx := fun v => inS_get x i hlt v
    have hgy := fun v => inS_get y k' hkt v
    obtain ⟨mx1, mx2, _⟩ := mayG_at x 1 hx i hlt
    obtain ⟨my1, my2, _⟩ := mayG_at y 1 hy k' hkt
    obtain ⟨s, hs⟩ : ∃ s, x[i] = s := ⟨_, rfl⟩
    obtain ⟨t, ht⟩ : ∃ t, y[k'] = t := ⟨_, rfl⟩
    rw [hs] at d0 d1 mx1 mx2
    simp only [hs] at hgx
    rw [ht] at e0 e1 my1 my2
    simp only [ht] at hgy
    have hno : s.b < t.a ∨ t.b < s.a := by
     by_cases h1 : s.b < t.a
     ·
      exact .inl h1
     ·
      by_cases h2 : t.b < s.a
      ·
       exact .inr h2
      ·
       exfalso
       by_cases h3 : s.a ≤ t.a
       ·
        have := HD.out t.a (hgx _ h3 (by omega))
        rw [hgy _ (Int.le_refl _) my2] at this; cases this
       ·
        have := HD.out s.a (hgx _ (Int.le_refl _) mx2)
        rw [hgy _ (by omega) (by omega)] at this; cases this
    have HX := Lib.hid hX
    clear hgx hgy hs ht hX
    rcases hno with h1 | h1
    ·
     have q1 : max s.a t.a = t.a := by omega
     have q2 : min s.b t.b = s.b := by omega
     have q3 : decide (t.a ≤ s.b) = false := decide_eq_false (by omega)
     have q3' : ¬ t.a ≤ s.b := by omega
     have q4 : decide (s.b < t.b) = true := decide_eq_true (by omega)
     have q5 : s.b < t.b := by omega
     go_wp2_with fail
     go_quiet (fail)
     go_wp2_with fail
     go_quiet (fail)
     go_wp2_with fail
     go_roundw
     case rel => exact ⟨i + 1, k', by go_num, rfl, rfl, by omega, by omega, HX.out.drewN _⟩
     case measure => simp only [downV]; omega
    ·
     have q1 : max s.a t.a = s.a := by omega
     have q2 : min s.b t.b = t.b := by omega
     have q3 : decide (s.a ≤ t.b) = false := decide_eq_false (by omega)
     have q3' : ¬ s.a ≤ t.b := by omega
     have q4 : decide (s.b < t.b) = false := decide_eq_false (by omega)
     have q5 : ¬ s.b < t.b := by omega
     go_wp2_with fail
     go_quiet (fail)
     go_wp2_with fail
     go_quiet (fail)
     go_wp2_with fail
     go_roundw
     case rel => exact ⟨i, k' + 1, rfl, by go_num, rfl, by omega, by omega, HX.out.drewN _⟩
     case measure => simp only [downV]; omega
   ·
    have hkI : ¬ (k' : Int) < (y.length : Int) := by omega
    go_wp2_with fail
    go_ret
    exact ⟨rfl, hX⟩
  ·
   have hlI : ¬ (i : Int) < (x.length : Int) := by omega
   go_wp2_with fail
   go_ret
   exact ⟨rfl, hX⟩
/-- What isn't in a set, from a version on. -/
def restP : List Span → Int → List Span
 | [], f => if f ≤ 200 then [⟨f, 200⟩] else []
 | p :: r, f => (if f < p.a then [⟨f, p.a - 1⟩] else []) ++ restP r (p.b + 1)
theorem restP_law : ∀ (l : List Span) (lo f : Int), mayG lo l → f ≤ lo → (lo ≤ f + 1) → mayG f (restP l f) ∧ ∀ v, inS (restP l f) v = (decide (f ≤ v ∧ v ≤ 200) && !inS l v)
 | [], lo, f, _, _, _ => by
  rw [restP]
  by_cases h : f ≤ 200
  ·
   rw [if_pos h]
   refine ⟨⟨Int.le_refl _, h, Int.le_refl _, trivial⟩, fun v => ?_⟩
   simp [inS]
  ·
   rw [if_neg h]
   refine ⟨trivial, fun v => ?_⟩
   rw [show decide (f ≤ v ∧ v ≤ 200) = false from decide_eq_false (by omega)]; rfl
 | p :: r, lo, f, ⟨h1, h2, h3, h4⟩, hf, hf2 => by
  obtain ⟨i1, i2⟩ := restP_law r (p.b + 2) (p.b + 1) h4 (by omega) (by omega)
  have hout := inS_out r _ h4
  rw [restP]
  by_cases hc : f < p.a
  ·
   rw [if_pos hc, List.singleton_append]
   refine ⟨⟨Int.le_refl _, by simp only; omega, by simp only; omega, mayG_mono _ _ _ (by simp only; omega) i1⟩, fun v => ?_⟩
   rw [inS, List.any_cons]
   have e : (restP r (p.b + 1)).any (fun s => decide (s.a ≤ v ∧ v ≤ s.b)) = inS (restP r (p.b + 1)) v := rfl
   have e2 : inS (p :: r) v = (decide (p.a ≤ v ∧ v ≤ p.b) || inS r v) := by unfold inS; rw [List.any_cons]
   rw [e, i2, e2]
   by_cases c1 : v < p.b + 2
   ·
    rw [hout v (.inl c1)]
    rw [Bool.eq_iff_iff]; simp; omega
   ·
    rw [show decide (p.a ≤ v ∧ v ≤ p.b) = false from decide_eq_false (by omega), Bool.false_or, show decide (f ≤ v ∧ v ≤ p.a - 1) = false from decide_eq_false (by omega), Bool.false_or]
    congr 1
    exact decide_eq_decide.2 (by omega)
  ·
   rw [if_neg hc, List.nil_append]
   refine ⟨mayG_mono _ _ _ (by omega) i1, fun v => ?_⟩
   have e2 : inS (p :: r) v = (decide (p.a ≤ v ∧ v ≤ p.b) || inS r v) := by unfold inS; rw [List.any_cons]
   rw [i2, e2]
   by_cases c1 : v < p.b + 2
   ·
    rw [hout v (.inl c1)]
    rw [Bool.eq_iff_iff]; simp; omega
   ·
    rw [show decide (p.a ≤ v ∧ v ≤ p.b) = false from decide_eq_false (by omega), Bool.false_or]
    congr 1
    exact decide_eq_decide.2 (by omega)
set_option maxHeartbeats 8000000 in
theorem within_any (x y : List Span) (hx : mayG 1 x) (hy : mayG 1 y) (hin : ∀ v, inS x v = true → inS y v = true) (p q : Nat → Prop) (v u : Value) (w : World) (hyl : y.length ≤ 1048576) (h : Rep w p v (spansD x)) (k : Rep w q u (spansD y)) :
  Calls Tryz.prog 27 #[v, u] w fun e w' => e = .returned (.bool true) ∧ Ext w w' := by
 have HM1 := Lib.hid fun W (hE : Ext w W) => may_set x p v W (h.ext hE)
 have HM2 := Lib.hid fun W (hE : Ext w W) => may_set y q u W (k.ext hE)
 rw [mayI_of x 1 (-1) hx (by omega) (.inl (by omega))] at HM1
 rw [mayI_of y 1 (-1) hy (by omega) (.inl (by omega))] at HM2
 obtain ⟨r1, r2⟩ := restP_law y 1 1 hy (Int.le_refl _) (by omega)
 have HW : Hid (∀ W, Ext w W → Calls Tryz.prog 54 #[v, u] W fun e w' => e = .returned (.slice none 0 0) ∧ Ext W w') := Lib.hid fun W hE => by
  have HBO := Lib.hid fun W' p' v' (hE' : Ext w W') (hr : Rep W' p' v' (spansD (restP y 1))) => both_none x (restP y 1) hx r1 (fun z hz => by rw [r2, hin z hz]; simp) p p' v v' W' (h.ext hE') hr
  have hk := k.ext hE
  have hh := h.ext hE
  obtain ⟨a, c, rfl, hc1, hc2⟩ := hh.count z_span (by omega)
  obtain ⟨b, d, rfl, hd1, hd2⟩ := hk.count z_span (by omega)
  obtain ⟨i0, hi, hz0, hz1, hz2⟩ := info_parts infoSpan
  obtain ⟨R, hR⟩ : ∃ R, restP y 1 = R := ⟨_, rfl⟩
  rw [hR] at HBO
  have HR : Hid ([] ++ restP (y.drop 0) 1 = R) := Lib.hid hR
  clear r1 r2 hR hx hin h k hh
  go_enter Tryz.func54, Tryz.ntmps54
  go_wp2_with fail
  refine (HM1.out _ hE).mono ?_
  rintro e w1 ⟨rfl, hB1⟩
  go_wp2_with fail
  refine (HM2.out _ (hE.trans hB1)).mono ?_
  rintro e w2 ⟨rfl, hB2⟩
  have hE2 := hB1.trans hB2
  go_wp2_with fail
  go_loopw [5, 6, 8, 19] (fun o tf _ t wr => ∃ (i : Nat) (f : Int) (L : List Span) (dv : Value), t = .int .i64 i ∧ tf = .int .i64 f ∧ dv = o ∧ i ≤ y.length ∧ L.length ≤ i ∧ 1 ≤ f ∧ f ≤ 201 ∧ Ext W wr ∧ Hid (Own wr (fun _ => False) W.heap.size 96 2 dv L.length (L.flatMap spanC) ∧ L ++ restP (y.drop i) f = R)) (fun _ _ _ t _ => downV y.length t)
  case atStart => exact ⟨0, 1, [], _, rfl, rfl, rfl, Nat.zero_le _, Nat.le_refl _, Int.le_refl _, by omega, hE2, Lib.hid ⟨Own.nil _ _ _ _ _, HR.out⟩⟩
  case round =>
   obtain ⟨i, f, L, dv, rfl, rfl, rfl, hi2, hL, hf1, hf2, hX, HI⟩ := hrel
   have hi0 : (0 : Int) ≤ (i : Int) := by omega
   have hwz := hX.size
   by_cases hlt : i < y.length
   ·
    have hlI : (i : Int) < (y.length : Int) := by omega
    obtain ⟨g, o, rfl, lg, _, d0, d1⟩ := span_at (hk.ext hX) i hlt
    obtain ⟨m1, m2, m3⟩ := mayG_at y 1 hy i hlt
    have hEQ : restP (y.drop i) f = (if f < y[i].a then [⟨f, y[i].a - 1⟩] else []) ++ restP (y.drop (i + 1)) (y[i].b + 1) := by rw [drop_one y i hlt, restP]
    obtain ⟨s, hs⟩ : ∃ s, y[i] = s := ⟨_, rfl⟩
    rw [hs] at d0 d1 m1 m2 m3 hEQ
    have q1 : IntKind.i64.wrap (s.a - 1) = s.a - 1 := IntWalk.i64_in _ (by omega)
    have q2 : IntKind.i64.wrap (s.b + 1) = s.b + 1 := IntWalk.i64_in _ (by omega)
    have hLl : L.length ≤ 1048576 := by omega
    by_cases hc : f < s.a
    ·
     obtain ⟨us, hrow, hreps⟩ := HI.out.1.rows
     have HN : Hid ((L ++ [⟨f, s.a - 1⟩]) ++ restP (y.drop (i + 1)) (s.b + 1) = R) := Lib.hid (by rw [← HI.out.2, hEQ, if_pos hc, List.append_assoc])
     have HE1 : Hid (∀ w3, ((wr.alloc (.cells #[.int .i64 s.a, .int .i64 s.b] 96)).alloc (.cells #[.int .i64 f, .int .i64 (s.a - 1)] 96)).grownBy w3 dv.ownBlock → w3.cell? ⟨wr.heap.size, 1, none⟩ = some (.int .i64 s.b)) := Lib.hid fun w3 hg => by
      refine (World.cell?_of_block (hg.block wr.heap.size (by simp; omega) (fun e => ?_))).trans ?_
      ·
       have := (own_lt hrow e).2; omega
      ·
       rw [World.cell?_of_block (Below.heap_alloc _ _ _ (by simp))]; simp [go_sem]
     clear HI hEQ hs
     go_wp2_with (at_builtin; refine wpList_append_own_at _ rfl (.tmp 27) (.tmp 33) _ rfl W.heap.size 96 i0 (.agg #[.int .i64 0, .int .i64 0]) 2 16 Tryz.underlying30 hi hz0 hz1 hz2 rfl (by decide) dv L.length us rfl ((hrow.alloc _).alloc _) ⟨wr.heap.size + 1, 0, none⟩ 1 1 [.int .i64 f, .int .i64 (s.a - 1)] rfl rfl (by have := new_two (w := wr.alloc (.cells #[.int .i64 s.a, .int .i64 s.b] 96)) (a := .int .i64 f) (b := .int .i64 (s.a - 1)) (e := 96); rw [show (wr.alloc (.cells #[.int .i64 s.a, .int .i64 s.b] 96)).heap.size = wr.heap.size + 1 by simp] at this; exact this) (by intro u hu; simp at hu; rcases hu with rfl | rfl <;> rfl) (by unfold maxLen; omega) (by omega) (by simp; omega) ?_; intro v2 w3 hown2 hgrow2 _ hat2; have e1 := HE1.out _ hgrow2)
     have hXa : Ext W (wr.alloc (.cells #[.int .i64 s.a, .int .i64 s.b] 96)) := hX.alloc _
     have hX2 : Ext W w3 := hXa.grown_own (hrow.alloc _) hgrow2
     have hO2 : Own w3 (fun _ => False) W.heap.size 96 2 v2 (L ++ [(⟨f, s.a - 1⟩ : Span)]).length ((L ++ [(⟨f, s.a - 1⟩ : Span)]).flatMap spanC) := by
      rw [List.length_append, List.flatMap_append]
      exact Own.push (((hreps.ext ((Ext.refl wr).alloc _)).ext ((Ext.refl _).alloc _)).ok fun b hb => ⟨hb.1, hb.2.1, by simp; omega⟩) (Reps.cons (Rep.int _ _ _ _) (Reps.cons (Rep.int _ _ _ _) (Reps.nil _ _))) hown2 hgrow2 hat2
     have HN2 := Lib.hid (And.intro hO2 HN.out)
     clear hown2 hgrow2 hrow hreps hat2 hO2 hXa HN
     go_wp2_with fail
     go_roundw
     case rel => exact ⟨i + 1, s.b + 1, L ++ [⟨f, s.a - 1⟩], v2, by go_num, rfl, rfl, by omega, by simp; omega, by omega, by omega, hX2, HN2⟩
     case measure => simp only [downV]; omega
    ·
     have HN : Hid (Own wr (fun _ => False) W.heap.size 96 2 dv L.length (L.flatMap spanC) ∧ L ++ restP (y.drop (i + 1)) (s.b + 1) = R) := Lib.hid ⟨HI.out.1, by rw [← HI.out.2, hEQ, if_neg hc, List.nil_append]⟩
     clear HI hEQ hs
     go_wp2_with fail
     go_roundw
     case rel => exact ⟨i + 1, s.b + 1, L, dv, by go_num, rfl, rfl, by omega, by omega, by omega, by omega, hX.alloc _, Lib.hid ⟨HN.out.1.ext ((Ext.refl wr).alloc _), HN.out.2⟩⟩
     case measure => simp only [downV]; omega
   ·
    have hlI : ¬ (i : Int) < (y.length : Int) := by omega
    have hEQ : restP (y.drop i) f = if f ≤ 200 then [⟨f, 200⟩] else [] := by rw [List.drop_of_length_le (by omega), restP]
    have hLl : L.length ≤ 1048576 := by omega
    by_cases hc : f ≤ 200
    ·
     obtain ⟨us, hrow, hreps⟩ := HI.out.1.rows
     have HN : Hid (L ++ [⟨f, 200⟩] = R) := Lib.hid (by rw [← HI.out.2, hEQ, if_pos hc])
     clear HI hEQ
     go_wp2_with (at_builtin; refine wpList_append_own_at _ rfl (.tmp 41) (.tmp 44) _ rfl W.heap.size 96 i0 (.agg #[.int .i64 0, .int .i64 0]) 2 16 Tryz.underlying30 hi hz0 hz1 hz2 rfl (by decide) dv L.length us rfl (hrow.alloc _) ⟨wr.heap.size, 0, none⟩ 1 1 [.int .i64 f, .int .i64 200] rfl rfl new_two (by intro u hu; simp at hu; rcases hu with rfl | rfl <;> rfl) (by unfold maxLen; omega) (by omega) (by simp; omega) ?_; intro v2 w3 hown2 hgrow2 _ hat2)
     have hX2 : Ext W w3 := hX.grown_own hrow hgrow2
     have hO2 : Own w3 (fun _ => False) W.heap.size 96 2 v2 (L ++ [(⟨f, 200⟩ : Span)]).length ((L ++ [(⟨f, 200⟩ : Span)]).flatMap spanC) := by
      rw [List.length_append, List.flatMap_append]
      exact Own.push ((hreps.ext ((Ext.refl wr).alloc _)).ok fun b hb => ⟨hb.1, hb.2.1, by simp; omega⟩) (Reps.cons (Rep.int _ _ _ _) (Reps.cons (Rep.int _ _ _ _) (Reps.nil _ _))) hown2 hgrow2 hat2
     have hrep := hO2.rep
     rw [HN.out] at hrep
     have HC := Lib.hid (HBO.out w3 _ v2 (hE.trans hX2) hrep)
     clear hown2 hgrow2 hrow hreps hat2 hO2 hrep
     go_wp2_with fail
     refine HC.out.mono ?_
     rintro e w4 ⟨rfl, hB4⟩
     go_wp2_with fail
     go_ret
     exact ⟨rfl, hX2.trans hB4⟩
    ·
     have HN : L = R := by rw [← HI.out.2, hEQ, if_neg hc, List.append_nil]
     have hrep := HI.out.1.rep
     rw [HN] at hrep
     have HC := Lib.hid (HBO.out wr _ dv (hE.trans hX) hrep)
     clear HI hEQ hrep HN
     go_wp2_with fail
     refine HC.out.mono ?_
     rintro e w4 ⟨rfl, hB4⟩
     go_wp2_with fail
     go_ret
     exact ⟨rfl, hX.trans hB4⟩
 obtain ⟨a, c, rfl, hc1, hc2⟩ := h.count z_span (by omega)
 obtain ⟨b, d, rfl, hd1, hd2⟩ := k.count z_span (by omega)
 clear h k hx hy hin r1 r2
 go_enter Tryz.func27, Tryz.ntmps27
 go_wp2_with fail
 refine (HM1.out _ (Ext.refl _)).mono ?_
 rintro e w1 ⟨rfl, hB1⟩
 go_wp2_with fail
 refine (HM2.out _ hB1).mono ?_
 rintro e w2 ⟨rfl, hB2⟩
 go_wp2_with fail
 refine (HW.out _ (hB1.trans hB2)).mono ?_
 rintro e w3 ⟨rfl, hB3⟩
 go_wp2_with fail
 go_ret
 exact ⟨rfl, (hB1.trans hB2).trans hB3⟩
end Go.Proofs.YtkelpbbekeelcaaGreatDoor

/-
 past.copies. Helper lemmas; no statement of the seat is proved here.
-/
namespace Go.Proofs.YtkelpbbekeelcaaGreatDoor
open Go.RowKit
set_option maxRecDepth 100000
set_option linter.unusedVariables false
set_option linter.unusedSimpArgs false

theorem Sr.ext0 {v : Value} {a w' : World} (h : Sr v a (World.drew a)) (k : Ext a w') : Sr v a w' := ⟨k.size, fun b _ h2 => Below.block k b h2⟩
set_option maxHeartbeats 16000000 in
theorem copies_any (x : List Life) (p : Nat → Prop) (v : Value) (w : World) (hx : x.length ≤ 16777216) (hb : ∀ y ∈ x, y.path.length ≤ 16777216 ∧ y.vers.length ≤ 1048576 ∧ ∀ s ∈ y.path, s.key.length ≤ 1048576) (h : Rep w p v (livesD x)) :
  Calls Tryz.prog 53 #[v] w fun e w' => Ret (fun _ => True) (livesD x) e w' ∧ Ext w w' := by
 obtain ⟨a, c, rfl, hc1, hc2⟩ := h.count z_life (by omega)
 obtain ⟨j0, ji, jz0, jz1, jz2⟩ := info_parts infoStep
 obtain ⟨l0, li, lz0, lz1, lz2⟩ := info_parts infoLife
 have HB := Lib.hid hb
 clear hb
 go_enter Tryz.func53, Tryz.ntmps53
 go_wp2_with fail
 go_loopw [3, 5, 6, 8, 11, 18] (fun o _ _ _ t _ wr => ∃ (i : Nat) (L : List Life) (dv : Value), t = .int .i64 i ∧ dv = o ∧ i ≤ x.length ∧ Ext w wr ∧ Hid (L = x.take i ∧ Own wr (fun b => w.heap.size ≤ b) w.heap.size 55 2 dv L.length (L.flatMap lifeC))) (fun _ _ _ _ t _ _ => downV x.length t)
 case atStart => exact ⟨0, [], _, rfl, rfl, Nat.zero_le _, Ext.refl _, Lib.hid ⟨by simp, Own.nil _ _ _ _ _⟩⟩
 case round =>
  obtain ⟨i, L, dv, rfl, rfl, hi, hX, HI⟩ := hrel
  have hi0 : (0 : Int) ≤ (i : Int) := by omega
  by_cases hlt : i < x.length
  ·
   have hlI : (i : Int) < (x.length : Int) := by omega
   obtain ⟨g, o, xp, xv, rfl, lg, _, d0, d1, hxp, hxv⟩ := life_at (h.ext hX) i hlt
   obtain ⟨hb1, hb2, hb3⟩ := HB.out _ (List.getElem_mem hlt)
   have HN : Hid (L ++ [x[i]] = x.take (i + 1)) := Lib.hid (by rw [List.take_add_one, List.getElem?_eq_getElem hlt, HI.out.1]; rfl)
   have HLi : Hid (L.length = i) := Lib.hid (by rw [HI.out.1]; simp; omega)
   obtain ⟨y, hy⟩ : ∃ y, x[i] = y := ⟨_, rfl⟩
   rw [hy] at hxp hxv hb1 hb2 hb3 HN
   obtain ⟨pa, pc, rfl, _, _⟩ := hxp.count z_step (by omega)
   obtain ⟨va, vc, rfl, _, _⟩ := hxv.count z_span (by omega)
   have HB3 := Lib.hid hb3
   have hLl : L.length ≤ 16777216 := by have := HLi.out; omega
   clear hy hb3
   obtain ⟨wo, hwo⟩ : ∃ wo, wo = wr := ⟨_, rfl⟩
   subst hwo
   go_wp2_with fail
   obtain ⟨wB, hwB⟩ : ∃ W, wo.alloc (.cells #[.slice pa y.path.length pc, .slice va y.vers.length vc] 55) = W := ⟨_, rfl⟩
   have hEB : Ext wo wB := by rw [← hwB]; exact (Ext.refl wo).alloc _
   have hblk : wB.heap[wo.heap.size]? = some (.cells [.slice pa y.path.length pc, .slice va y.vers.length vc].toArray 55 (0, 0)) := by rw [← hwB]; exact Array.getElem?_push_size
   have b1 := blk_cells hblk 1 rfl
   have lb1 := blk_lt hblk
   have hXB := hX.trans hEB
   have HOB := Lib.hid (HI.out.2.ext hEB)
   have hxpB := hxp.ext hEB
   have hxvB := hxv.ext hEB
   rw [hwB]
   obtain ⟨g5, hg5⟩ : ∃ g, wo.heap.size = g := ⟨_, rfl⟩
   rw [hg5] at b1 lb1 ⊢
   clear hwB hblk HI hxp hxv hg5
   go_loopw [6, 8, 18] (fun o _ t wq => ∃ (k : Nat) (K : List Step) (dv2 : Value), t = .int .i64 k ∧ dv2 = o ∧ k ≤ y.path.length ∧ Ext wB wq ∧ Hid (K = y.path.take k ∧ Own wq (fun b => wB.heap.size ≤ b) wB.heap.size 76 2 dv2 K.length (K.flatMap stepC))) (fun _ _ t _ => downV y.path.length t)
   case atStart => exact ⟨0, [], _, rfl, rfl, Nat.zero_le _, Ext.refl _, Lib.hid ⟨by simp, Own.nil _ _ _ _ _⟩⟩
   case round =>
    obtain ⟨k, K, dv2, rfl, rfl, hk, hQ, HK⟩ := hrel
    have hk0 : (0 : Int) ≤ (k : Int) := by omega
    by_cases hkt : k < y.path.length
    ·
     have hkI : (k : Int) < (y.path.length : Int) := by omega
     obtain ⟨gs, os, sk, eps, lgs, _, s0, s1, hsk⟩ := step_at (hxpB.ext hQ) k hkt
     cases eps
     have hsn := step_len (hxpB.ext hQ) k hkt
     have hkb := HB3.out _ (List.getElem_mem hkt)
     have HNK : Hid (K ++ [y.path[k]] = y.path.take (k + 1)) := Lib.hid (by rw [List.take_add_one, List.getElem?_eq_getElem hkt, HK.out.1]; rfl)
     have hKl : K.length ≤ 16777216 := by rw [HK.out.1]; simp; omega
     obtain ⟨s, hs⟩ : ∃ s, y.path[k] = s := ⟨_, rfl⟩
     rw [hs] at s0 hsk hsn hkb HNK
     obtain ⟨ka, kc, rfl, _, _⟩ := hsk.count z_str (by omega)
     obtain ⟨us, hrow0, hreps0⟩ := HK.out.2.rows
     obtain ⟨wq, hwq⟩ : ∃ wq, wq = wr := ⟨_, rfl⟩
     subst hwq
     have HRP := Lib.hid (And.intro hrow0 hreps0)
     have HSK := Lib.hid hsk
     clear hs HK hrow0 hreps0 hsk
     go_wp2_with fail
     obtain ⟨w2, hw2⟩ : ∃ W, wq.alloc (.cells #[.string (bs s.n), .slice ka s.key.length kc] 76) = W := ⟨_, rfl⟩
     have hEq : Ext wq w2 := by rw [← hw2]; exact (Ext.refl wq).alloc _
     have hblk : w2.heap[wq.heap.size]? = some (.cells [.string (bs s.n), .slice ka s.key.length kc].toArray 76 (0, 0)) := by rw [← hw2]; exact Array.getElem?_push_size
     have hrow := rows_ext HRP.out.1 hEq
     have hreps := HRP.out.2.ext hEq
     have c0 := blk_cells hblk 0 rfl
     have c1 := blk_cells hblk 1 rfl
     have hob : ∀ b, some b = dv2.ownBlock → wB.heap.size ≤ b ∧ b < wq.heap.size := fun b e => own_lt HRP.out.1 e
     obtain ⟨g8, hg8⟩ : ∃ g, wq.heap.size = g := ⟨_, rfl⟩
     have lg8 : g8 < w2.heap.size ∧ some g8 ≠ dv2.ownBlock := ⟨by rw [← hg8]; exact blk_lt hblk, fun e => by have := (hob g8 e).2; omega⟩
     have hE2 := hQ.trans hEq
     have HC := Lib.hid fun W (hE : Ext w2 W) => clonestr_any s.key _ (.slice ka s.key.length kc) W (by omega) (((HSK.out).ext hEq).ext hE)
     have HOB2 := Lib.hid hob
     have hq2 := hEq.size
     rw [hw2]
     rw [hg8] at c0 c1 ⊢
     clear hw2 hblk HRP hob s0 s1
     go_wp2_with fail
     refine rg_begin (S := Sr dv2 w2) (by kernel_rfl) (Sr.begin _ _) ?_
     have hSr : Sr dv2 w2 (World.drew w2) := (Sr.begin _ _)
     refine rg_t 0 (some 22) (dv2) rfl hSr (fun w' hs => by rfl) ?_
     simp only [Act.put, sA, sZ, sS]
     refine rg_t 1 (some 23) (.pointer (some ⟨g8, 0, none⟩)) rfl hSr (fun w' hs => by first | rfl | go_simp) ?_
     simp only [Act.put, sA, sZ, sS]
     refine rg_t 2 (some 24) (.string (bs s.n)) rfl hSr (fun w' hs => by (have h0 := hs.cell lg8 c0; go_simp)) ?_
     simp only [Act.put, sA, sZ, sS]
     refine rg_t 3 (some 25) (.pointer (some ⟨g8, 1, none⟩)) rfl hSr (fun w' hs => by first | rfl | go_simp) ?_
     simp only [Act.put, sA, sZ, sS]
     refine rg_t 4 (some 26) (.slice ka s.key.length kc) rfl hSr (fun w' hs => by (have h0 := hs.cell lg8 c1; go_simp)) ?_
     simp only [Act.put, sA, sZ, sS]
     refine rg_one 5 (by kernel_rfl) ?_
     refine tk_call 5 (some 27) 52 #[.slice ka s.key.length kc] rfl rfl (by rfl) (fun w' => by first | rfl | go_simp) (R := fun v w' => ∃ (ta : Option Addr) (tc : Nat), v = .slice ta s.key.length tc ∧ Rep w' (fun b => w2.heap.size ≤ b) (.slice ta s.key.length tc) (strsD s.key) ∧ Ext w2 w') ?_ ?_
     ·
      refine (HC.out (World.drew w2) ((Ext.refl w2).drew)).mono ?_
      rintro e w' ⟨⟨u, rfl, hu⟩, hB⟩
      obtain ⟨a, c, rfl, _, _⟩ := hu.count z_str (by omega)
      exact ⟨_, rfl, a, c, rfl, hu, ((Ext.refl w2).drew).trans hB⟩
     rintro _ wb ⟨ta, tc, rfl, htr, hBwb⟩
     have hSwb : Sr dv2 w2 wb := (Sr.begin dv2 w2).ext0 hBwb
     refine ⟨hSwb, ?_⟩
     simp only [Act.put, sA, sZ, sS]
     refine rg_t 6 (some 28) (.agg #[.string (bs s.n), .slice ta s.key.length tc]) rfl hSwb (fun w' hs => by first | rfl | go_simp) ?_
     simp only [Act.put, sA, sZ, sS]
     refine rg_one 7 (by kernel_rfl) ?_
     refine tk_new 7 (some 29) (.cells #[.string (bs s.n), .slice ta s.key.length tc] 76) (fun n => .slice (some ⟨n, 0, none⟩) 1 1) rfl rfl (by rfl) (by first | rfl | go_simp) ?_
     intro gb wc egb hBwc _ hgb
     have hSwc := hSwb.ext hBwc
     refine ⟨hSwc, ?_⟩
     simp only [Act.put, sA, sZ, sS]
     have hEc := hBwb.trans hBwc
     have hrowc := rows_ext hrow hEc
     refine rg_one 8 (by kernel_rfl) ?_
     refine tk_src 8 (some 30) rfl rfl (by rfl) (.tmp 22) (.tmp 29) 24 rfl wB.heap.size 76 j0 (.agg #[.string ⟨#[]⟩, .slice none 0 0]) 2 40 Tryz.underlying24 ji jz0 jz1 jz2 rfl (by decide) dv2 K.length us rfl hrowc (.slice (some ⟨gb, 0, none⟩) 1 1) 1 [.string (bs s.n), .slice ta s.key.length tc] rfl (Src.block hgb rfl) (by intro u hu; simp at hu; rcases hu with rfl | rfl <;> rfl) (by unfold maxLen; omega) (by omega) (hE2.trans hEc).size ?_
     intro v4 w4 hr4 hg4 ha4
     have hS4 := hSwc.grown hg4
     refine ⟨hS4, ?_⟩
     simp only [Act.put, sA, sZ, sS]
     refine rg_t 9 (some 6) (v4) rfl hS4 (fun w' hs => by rfl) ?_
     simp only [Act.put, sA, sZ, sS]
     refine rg_done (by kernel_rfl) ?_
     have hE4 : Ext wB w4 := Below.grown (hE2.trans hEc) hg4 (hE2.trans hEc).size fun b e => (HOB2.out b e.symm).1
     have hO4 : Own w4 (fun b => wB.heap.size ≤ b) wB.heap.size 76 2 v4 (K ++ [s]).length ((K ++ [s]).flatMap stepC) := by
      rw [List.length_append, List.flatMap_append, List.flatMap_cons, List.flatMap_nil, List.append_nil]
      refine Own.push (w := wc) ((hreps.ext hEc).ok fun b hb => ⟨hb.1, hb.2.1, Nat.lt_of_lt_of_le hb.2.2 (Nat.le_trans hq2 hEc.size)⟩) (Reps.cons (Rep.string _ _ _ (by rw [bs_size]; exact hsn)) (Reps.cons ((htr.lt.ext hBwc).ok fun b hb => ⟨Nat.le_trans hE2.size hb.1, fun e => by have := (HOB2.out b e).2; have := hb.1; omega, Nat.lt_of_lt_of_le hb.2 hBwc.size⟩) (Reps.nil _ _))) hr4 hg4 ha4
     have HN4 := Lib.hid (And.intro HNK.out hO4)
     clear hr4 hg4 ha4 hrow hrowc hreps hO4 htr HC HSK c0 c1 lg8 HNK hS4 hSwc hSwb hgb
     go_wp2_with fail
     go_roundw
     case rel => exact ⟨k + 1, K ++ [s], v4, by go_num, rfl, by omega, hE4, HN4⟩
     case measure => simp only [downV]; omega
    ·
     have hkI : ¬ (k : Int) < (y.path.length : Int) := by omega
     have hKe : K = y.path := by rw [HK.out.1, List.take_of_length_le (by omega)]
     have hrepK := HK.out.2.rep
     rw [hKe] at hrepK
     obtain ⟨pa2, pc2, hpf, _, _⟩ := HK.out.2.form
     rw [hKe] at hpf
     subst hpf
     have HRK := Lib.hid hrepK
     have HCS := Lib.hid fun W (hE : Ext wr W) => clonesp_any y.vers _ (.slice va y.vers.length vc) W hb2 ((hxvB.ext hQ).ext hE)
     have b1q := hQ.keep lb1 b1
     have hXq := hXB.trans hQ
     clear HK hKe hrepK
     go_wp2_with fail
     refine (HCS.out _ (Ext.refl _)).mono ?_
     rintro e w5 ⟨⟨u5, rfl, hu5⟩, hB5⟩
     obtain ⟨ua, uc, rfl, _, _⟩ := hu5.count z_span (by omega)
     have hQ5 := hQ.trans hB5
     obtain ⟨us, hrow, hreps⟩ := (HOB.out.ext hQ5).rows
     have hX5 := hXq.trans hB5
     have hx5 := hX5.size
     go_wp2_with (at_builtin; refine wpList_append_own_at _ rfl (.tmp 32) (.tmp 38) _ rfl w.heap.size 55 l0 (.agg #[.slice none 0 0, .slice none 0 0]) 2 48 Tryz.underlying49 li lz0 lz1 lz2 rfl (by decide) dv L.length us rfl (hrow.alloc _) ⟨w5.heap.size, 0, none⟩ 1 1 [.slice pa2 y.path.length pc2, .slice ua y.vers.length uc] rfl rfl new_two (by intro u hu; simp at hu; rcases hu with rfl | rfl <;> rfl) (by unfold maxLen; omega) (by omega) (by simp; omega) ?_; intro v6 w6 hown6 hgrow6 _ hat6)
     have hX6 : Ext w w6 := hX5.grown_own hrow hgrow6
     have hO6 : Own w6 (fun b => w.heap.size ≤ b) w.heap.size 55 2 v6 (L ++ [y]).length ((L ++ [y]).flatMap lifeC) := by
      rw [List.length_append, List.flatMap_append, List.flatMap_cons, List.flatMap_nil, List.append_nil]
      have hdvb : ∀ b, some b = dv.ownBlock → b < wB.heap.size := fun b e => by
       obtain ⟨us', hr', _⟩ := HOB.out.rows
       exact (own_lt hr' e).2
      have hwB := hXB.size
      refine Own.push (w := w5.alloc (.cells #[.slice pa2 y.path.length pc2, .slice ua y.vers.length uc] 55)) ((hreps.ext ((Ext.refl w5).alloc _)).ok fun b hb => ⟨hb.1, hb.2.1, by simp; omega⟩) (Reps.cons (((HRK.out.ext hB5).lt.ext ((Ext.refl w5).alloc _)).ok fun b hb => ?_) (Reps.cons ((hu5.lt.ext ((Ext.refl w5).alloc _)).ok fun b hb => ?_) (Reps.nil _ _))) hown6 hgrow6 hat6
      ·
       have hb1 : wB.heap.size ≤ b := hb.1.elim id id
       exact ⟨by omega, fun e => by have := hdvb b e; omega, by simp; omega⟩
      ·
       have hq := hQ.size
       exact ⟨by omega, fun e => by have := hdvb b e; omega, by simp; omega⟩
     have HN6 := Lib.hid (And.intro HN.out hO6)
     clear hown6 hgrow6 hrow hreps hat6 hO6 hu5 HCS HRK HN
     go_wp2_with fail
     go_roundw
     case rel => exact ⟨i + 1, L ++ [y], v6, by go_num, rfl, by omega, hX6, HN6⟩
     case measure => simp only [downV]; omega
  ·
   have hlI : ¬ (i : Int) < (x.length : Int) := by omega
   have hL : L = x := by rw [HI.out.1, List.take_of_length_le (by omega)]
   have hrep := HI.out.2.rep
   rw [hL] at hrep
   have HZ := Lib.hid hrep
   clear HI hrep hL
   go_wp2_with fail
   go_ret
   exact ⟨⟨_, rfl, HZ.out.ok fun _ _ => trivial⟩, hX⟩

end Go.Proofs.YtkelpbbekeelcaaGreatDoor
