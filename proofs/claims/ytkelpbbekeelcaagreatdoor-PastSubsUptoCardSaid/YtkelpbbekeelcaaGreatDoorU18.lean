/-
 The parts of an element of the archive of documents, plain: what their versions are. Helper lemmas; no statement of the seat is proved here.
-/
import Derived.Test.YtkelpbbekeelcaaGreatDoorU17
import Derived.Test.YtkelpbbekeelcaaGreatDoorU12
import Derived.Test.YtkelpbbekeelcaaGreatDoorU10
import Derived.Test.YtkelpbbekeelcaaGreatDoorU8
import Derived.Test.YtkelpbbekeelcaaGreatDoorU14
namespace Go.Proofs.YtkelpbbekeelcaaGreatDoor
open Go.RowKit
set_option maxHeartbeats 32000000
set_option maxRecDepth 100000
set_option linter.unusedVariables false
set_option linter.unusedSimpArgs false
theorem lastP_at (la : List Attr) (ks : List Node) : ∀ (x : List Part) (i : Nat) (r : Int), lastP la ks x i r = r ∨ ∃ (j : Nat) (h : j < x.length), lastP la ks x i r = ((i + j : Nat) : Int) ∧ x[j].attrs = la ∧ x[j].kids = ks
 | [], i, r => .inl rfl
 | a :: x, i, r => by
  rw [lastP]
  rcases lastP_at la ks x (i + 1) (if attrsS a.attrs la = true ∧ sameL a.kids ks = true then (i : Int) else r) with h | ⟨j, hj, h1, h2, h3⟩
  ·
   rw [h]
   split
   ·
    rename_i c
    exact .inr ⟨0, by simp, by simp, (attrsS_iff _ _).1 c.1, (sameL_iff _ _).1 c.2⟩
   ·
    exact .inl rfl
  ·
   exact .inr ⟨j + 1, by simpa using hj, by rw [h1]; congr 1; omega, by simpa using h2, by simpa using h3⟩
structure PInv (whole : Bool) (done : List Held) (g : List Part × List (List Int)) : Prop where
 len : g.1.length = g.2.length
 short : g.2.length ≤ done.length
 bare : ∀ p ∈ g.1, p.vers = []
 ne : ∀ L ∈ g.2, L ≠ []
 of : ∀ (k : Nat) (h : k < g.2.length) (h' : k < g.1.length) (v : Int), v ∈ g.2[k] → ∃ d ∈ done, d.v = v ∧ d.n.attrs = g.1[k].attrs ∧ kidsW whole d.n = g.1[k].kids
 all : ∀ d ∈ done, ∃ (k : Nat) (h : k < g.2.length), d.v ∈ g.2[k]
 rise : ∀ (i k : Nat) (hi : i < g.2.length) (hk : k < g.2.length), i < k → ∃ u ∈ g.2[i], ∀ v ∈ g.2[k], u < v
 apart : ∀ (i k : Nat) (hi : i < g.2.length) (hk : k < g.2.length), i < k → ∀ v ∈ g.2[i], v ∉ g.2[k]
theorem PInv.ver {whole : Bool} {done : List Held} {g : List Part × List (List Int)} (h : PInv whole done g) {h0 : Held} (hlt : ∀ d ∈ done, d.v < h0.v) {k : Nat} (hk : k < g.2.length) {v : Int} (hv : v ∈ g.2[k]) : v < h0.v := by
 obtain ⟨d, hd, e, _⟩ := h.of k hk (by rw [h.len]; exact hk) v hv
 rw [← e]; exact hlt d hd
theorem addP_inv (whole : Bool) (done : List Held) (g : List Part × List (List Int)) (h : Held) (hi : PInv whole done g) (hlt : ∀ d ∈ done, d.v < h.v) : PInv whole (done ++ [h]) (addP whole h g) := by
 obtain ⟨S, V⟩ := g
 have hlen := hi.len
 have hver : ∀ {k : Nat} (hk : k < V.length) {v : Int}, v ∈ V[k] → v < h.v := fun {k} hk {v} hv => hi.ver hlt hk hv
 simp only at hlen
 by_cases hc : lastP h.n.attrs (kidsW whole h.n) S 0 (-1) < 0
 ·
  have ha : addP whole h (S, V) = (S ++ [⟨[], h.n.attrs, kidsW whole h.n⟩], V ++ [[h.v]]) := by unfold addP; rw [if_pos hc]
  rw [ha]
  refine ⟨by simp [hlen], by have := hi.short; simp only [List.length_append, List.length_cons, List.length_nil] at this ⊢; omega, fun p hp => ?_, fun L hL => ?_, fun k hk hk' v hv => ?_, fun d hd => ?_, fun i k hik hkk hlt' => ?_, fun i k hik hkk hlt' v hv => ?_⟩
  ·
   rcases List.mem_append.1 hp with hp | hp
   ·
    exact hi.bare p hp
   ·
    rw [List.mem_singleton.1 hp]
  ·
   rcases List.mem_append.1 hL with hL | hL
   ·
    exact hi.ne L hL
   ·
    rw [List.mem_singleton.1 hL]; simp
  ·
   by_cases hk2 : k < V.length
   ·
    simp only [List.getElem_append_left hk2] at hv
    obtain ⟨d, hd, e1, e2, e3⟩ := hi.of k hk2 (by simp only; omega) v hv
    simp only [List.getElem_append_left (show k < S.length by omega)]
    exact ⟨d, List.mem_append_left _ hd, e1, e2, e3⟩
   ·
    have hkk : k = V.length := by simp at hk; omega
    subst hkk
    simp only [List.getElem_append_right (Nat.le_refl _), Nat.sub_self, List.getElem_cons_zero, List.mem_singleton] at hv
    have hs : S.length = V.length := hlen
    refine ⟨h, by simp, hv.symm, ?_, ?_⟩
    ·
     simp only [List.getElem_append_right (show S.length ≤ V.length by omega), hs, Nat.sub_self, List.getElem_cons_zero]
    ·
     simp only [List.getElem_append_right (show S.length ≤ V.length by omega), hs, Nat.sub_self, List.getElem_cons_zero]
  ·
   rcases List.mem_append.1 hd with hd | hd
   ·
    obtain ⟨k, hk, hv⟩ := hi.all d hd
    exact ⟨k, by simp only [List.length_append]; simp only at hk; omega, by simp only [List.getElem_append_left hk]; exact hv⟩
   ·
    rw [List.mem_singleton.1 hd]
    exact ⟨V.length, by simp, by simp⟩
  ·
   have hiV : i < V.length := by simp only [List.length_append, List.length_cons, List.length_nil] at hkk; omega
   simp only [List.getElem_append_left hiV]
   by_cases hk2 : k < V.length
   ·
    simp only [List.getElem_append_left hk2]
    exact hi.rise i k hiV hk2 hlt'
   ·
    have hkk : k = V.length := by simp at hkk; omega
    subst hkk
    obtain ⟨u, hu⟩ := List.exists_mem_of_ne_nil _ (hi.ne V[i] (List.getElem_mem hiV))
    refine ⟨u, hu, fun v hv => ?_⟩
    simp only [List.getElem_append_right (Nat.le_refl _), Nat.sub_self, List.getElem_cons_zero, List.mem_singleton] at hv
    rw [hv]; exact hver hiV hu
  ·
   have hiV : i < V.length := by simp only [List.length_append, List.length_cons, List.length_nil] at hkk; omega
   simp only [List.getElem_append_left hiV] at hv
   by_cases hk2 : k < V.length
   ·
    simp only [List.getElem_append_left hk2]
    exact hi.apart i k hiV hk2 hlt' v hv
   ·
    have hkk : k = V.length := by simp at hkk; omega
    subst hkk
    simp only [List.getElem_append_right (Nat.le_refl _), Nat.sub_self, List.getElem_cons_zero, List.mem_singleton]
    have := hver hiV hv; omega
 ·
  obtain ⟨j, hj, e1, e2, e3⟩ : ∃ (j : Nat) (hj : j < S.length), lastP h.n.attrs (kidsW whole h.n) S 0 (-1) = (j : Int) ∧ S[j].attrs = h.n.attrs ∧ S[j].kids = kidsW whole h.n := by
   rcases lastP_at h.n.attrs (kidsW whole h.n) S 0 (-1) with e | ⟨j, hj, e1, e2, e3⟩
   ·
    rw [e] at hc; exact absurd (by decide) hc
   ·
    exact ⟨j, hj, by rw [e1]; congr 1; omega, e2, e3⟩
  have ha : addP whole h (S, V) = (S, V.modify j (· ++ [h.v])) := by unfold addP; rw [if_neg hc, e1, Int.toNat_natCast]
  rw [ha]
  have hmem : ∀ (k : Nat) (hk : k < (V.modify j (· ++ [h.v])).length) (hk' : k < V.length) (v : Int), v ∈ (V.modify j (· ++ [h.v]))[k] ↔ v ∈ V[k] ∨ (j = k ∧ v = h.v) := by
   intro k hk hk' v
   rw [List.getElem_modify]
   split
   ·
    rename_i e; simp [e]
   ·
    rename_i e; simp [e]
  have hml : (V.modify j (· ++ [h.v])).length = V.length := by simp
  refine ⟨by rw [hml]; exact hlen, by rw [hml]; have := hi.short; simp only [List.length_append] at this ⊢; simp only [List.length_cons, List.length_nil]; omega, fun p hp => hi.bare p hp, fun L hL => ?_, fun k hk hk' v hv => ?_, fun d hd => ?_, fun i k hik hkk hlt' => ?_, fun i k hik hkk hlt' v hv => ?_⟩
  ·
   obtain ⟨k, hk, rfl⟩ := List.getElem_of_mem hL
   simp only [hml] at hk
   obtain ⟨u, hu⟩ := List.exists_mem_of_ne_nil _ (hi.ne V[k] (List.getElem_mem hk))
   exact List.ne_nil_of_mem ((hmem k (by rw [hml]; exact hk) hk u).2 (.inl hu))
  ·
   simp only [hml] at hk
   rcases (hmem k (by rw [hml]; exact hk) hk v).1 hv with hq | ⟨e, hq⟩
   ·
    obtain ⟨d, hd, a, b, c⟩ := hi.of k hk (by simp only; omega) v hq
    exact ⟨d, List.mem_append_left _ hd, a, b, c⟩
   ·
    subst e
    exact ⟨h, by simp, hq.symm, e2.symm, e3.symm⟩
  ·
   rcases List.mem_append.1 hd with hd | hd
   ·
    obtain ⟨k, hk, hv⟩ := hi.all d hd
    simp only at hk hv
    exact ⟨k, by rw [hml]; exact hk, (hmem k (by rw [hml]; exact hk) hk _).2 (.inl hv)⟩
   ·
    rw [List.mem_singleton.1 hd]
    have hjV : j < V.length := by omega
    exact ⟨j, by rw [hml]; exact hjV, (hmem j (by rw [hml]; exact hjV) hjV _).2 (.inr ⟨rfl, rfl⟩)⟩
  ·
   simp only [hml] at hik hkk
   obtain ⟨u, hu, huv⟩ := hi.rise i k hik hkk hlt'
   refine ⟨u, (hmem i (by rw [hml]; exact hik) hik u).2 (.inl hu), fun v hv => ?_⟩
   rcases (hmem k (by rw [hml]; exact hkk) hkk v).1 hv with hv | ⟨_, hv⟩
   ·
    exact huv v hv
   ·
    rw [hv]; exact hver hik hu
  ·
   simp only [hml] at hik hkk
   intro hv2
   rcases (hmem i (by rw [hml]; exact hik) hik v).1 hv with hv | ⟨e, hv⟩
   ·
    rcases (hmem k (by rw [hml]; exact hkk) hkk v).1 hv2 with hv2 | ⟨_, hv2⟩
    ·
     exact hi.apart i k hik hkk hlt' v hv hv2
    ·
     have := hver hik hv; omega
   ·
    rcases (hmem k (by rw [hml]; exact hkk) hkk v).1 hv2 with hv2 | ⟨e2, _⟩
    ·
     have := hver hkk hv2; omega
    ·
     omega
theorem partsG_inv (whole : Bool) : ∀ (hs done : List Held) (g : List Part × List (List Int)), PInv whole done g → (∀ d ∈ done, ∀ h ∈ hs, d.v < h.v) → hs.Pairwise (fun a b => a.v < b.v) → PInv whole (done ++ hs) (partsG whole hs g)
 | [], done, g, hi, _, _ => by rw [List.append_nil]; exact hi
 | h :: r, done, g, hi, hd, hp => by
  rw [List.pairwise_cons] at hp
  rw [partsG, show done ++ h :: r = (done ++ [h]) ++ r by simp]
  refine partsG_inv whole r _ _ (addP_inv whole done g h hi fun d hm => hd d hm h List.mem_cons_self) (fun d hm k hk => ?_) hp.2
  rcases List.mem_append.1 hm with hm | hm
  ·
   exact hd d hm k (List.mem_cons_of_mem _ hk)
  ·
   rw [List.mem_singleton.1 hm]; exact hp.1 k hk
theorem partsG_all (whole : Bool) (hs : List Held) (hp : hs.Pairwise (fun a b => a.v < b.v)) : PInv whole hs (partsG whole hs ([], [])) := by
 have h0 : PInv whole [] ([], []) := ⟨rfl, Nat.le_refl _, fun p h => (by cases h), fun p h => (by cases h), fun k h => absurd h (Nat.not_lt_zero _), fun d h => (by cases h), fun i k h => absurd h (Nat.not_lt_zero _), fun i k h => absurd h (Nat.not_lt_zero _)⟩
 have := partsG_inv whole hs [] ([], []) h0 (fun d h => (by cases h)) hp
 simpa using this
theorem flOf_mem (L : List Int) (j : Nat) : flOf L j = true ↔ 1 ≤ j ∧ j ≤ 200 ∧ (j : Int) ∈ L := by unfold flOf; exact decide_eq_true_iff
theorem idxA_at (t : Step) : ∀ (K : List ANode) (i : Nat), ¬ idxA t K i < 0 → ∃ (j : Nat) (h : j < K.length), idxA t K i = ((i + j : Nat) : Int) ∧ isB K[j] t = true
 | [], i, h => by rw [idxA] at h; exact absurd (by decide) h
 | n :: r, i, h => by
  rw [idxA] at h ⊢
  by_cases hb : isB n t = true
  ·
   rw [if_pos hb]; exact ⟨0, by simp, by simp, hb⟩
  ·
   rw [if_neg hb] at h ⊢
   obtain ⟨j, hj, e, hb2⟩ := idxA_at t r (i + 1) h
   exact ⟨j + 1, by simpa using hj, by rw [e]; congr 1; omega, by simpa using hb2⟩
theorem selH_sub (l : List Rule) (path : List Bytes) (t : Step) (hs : List Held) (hr : ∀ h ∈ hs, Rising (stepsS l path h.n.kids)) : ((selH l path t hs).map (·.v)).Sublist (hs.map (·.v)) := by
 have := selH_filter l path t (fun h => (lookK t (stepsS l path h.n.kids) h.n.kids).isSome) (fun _ => true) hs fun h hm => ⟨hr h hm, fun e => by rw [e]; rfl, fun k e => by rw [e]; rfl⟩
 rw [List.filter_eq_self.2 (fun _ _ => rfl)] at this
 rw [this]
 exact List.Sublist.map _ List.filter_sublist
theorem heldsOf_rise : ∀ (ds : List Node) (i : Nat), (heldsOf ds i).Pairwise (fun a b => a.v < b.v)
 | [], i => List.Pairwise.nil
 | d :: r, i => by
  rw [heldsOf, List.pairwise_cons]
  refine ⟨fun h hm => ?_, heldsOf_rise r (i + 1)⟩
  have := (heldsOf_mem r (i + 1) h hm).2.1
  simp only; omega
def idxF {α : Type} (f : α → Bool) : List α → Nat → Int
 | [], _ => -1
 | n :: r, i => if f n = true then (i : Int) else idxF f r (i + 1)
theorem idxF_range {α : Type} (f : α → Bool) : ∀ (l : List α) (i : Nat), idxF f l i = -1 ∨ ((i : Int) ≤ idxF f l i ∧ idxF f l i < ((i + l.length : Nat) : Int))
 | [], i => Or.inl rfl
 | n :: l, i => by
  unfold idxF
  split
  ·
   right; simp only [List.length_cons]; omega
  ·
   rcases idxF_range f l (i + 1) with h | h
   ·
    exact Or.inl h
   ·
    right; simp only [List.length_cons]; omega
theorem idxF_any {α : Type} (f : α → Bool) : ∀ (l : List α) (i : Nat), l.any f = decide (0 ≤ idxF f l i)
 | [], i => rfl
 | n :: l, i => by
  unfold idxF
  rw [List.any_cons]
  cases h : f n with
  | true => rw [if_pos rfl, decide_eq_true (by omega)]; rfl
  | false => rw [if_neg (by decide), Bool.false_or]; exact idxF_any f l (i + 1)
def atS (v : Int) (s : Span) : Bool := decide (s.a ≤ v ∧ v ≤ s.b)
theorem hasfn_any (s : Span) (v : Int) (b : Nat) (w : World) (hb : b < w.heap.size) (c0 : w.cell? ⟨b, 0, none⟩ = some (.int .i64 v)) :
  Calls Tryz.prog 87 #[.agg #[.int .i64 s.a, .int .i64 s.b], .pointer (some ⟨b, 0, none⟩)] w fun e w' => e = .returned (.bool (atS v s)) ∧ Ext w w' := by
 have c1 : (w.alloc (.cells #[.int .i64 s.a, .int .i64 s.b] 96)).cell? ⟨b, 0, none⟩ = some (.int .i64 v) := ((Ext.refl w).alloc _).keep hb c0
 by_cases h1 : s.a ≤ v
 ·
  by_cases h2 : v ≤ s.b
  ·
   rw [show atS v s = true from decide_eq_true ⟨h1, h2⟩]
   go_enter Tryz.func87, Tryz.ntmps87
   go_wp2_with fail
   go_ret
   exact ⟨rfl, (Ext.refl w).alloc _⟩
  ·
   rw [show atS v s = false from decide_eq_false (by omega)]
   go_enter Tryz.func87, Tryz.ntmps87
   go_wp2_with fail
   go_ret
   exact ⟨rfl, (Ext.refl w).alloc _⟩
 ·
  rw [show atS v s = false from decide_eq_false (by omega)]
  go_enter Tryz.func87, Tryz.ntmps87
  go_wp2_with fail
  go_ret
  exact ⟨rfl, (Ext.refl w).alloc _⟩
theorem indexsp_any (p : Nat → Prop) (l : List Span) (n : Int) (v : Value) (b : Nat) (w : World) (h : Rep w p v (spansD l)) (hb : b < w.heap.size) (c0 : w.cell? ⟨b, 0, none⟩ = some (.int .i64 n)) :
  Calls Tryz.prog 118 #[v, .func (.func 87) #[] #[.pointer (some ⟨b, 0, none⟩)]] w fun e w' => e = .returned (.int .i64 (idxF (atS n) l 0)) ∧ Ext w w' := by
 obtain ⟨a, c, rfl, hc1, hc2⟩ := h.count z_span (by omega)
 obtain ⟨R, hR⟩ : ∃ R, idxF (atS n) l 0 = R := ⟨_, rfl⟩
 rw [hR]
 have HR := Lh hR
 have HC0 := Lh c0
 clear hR c0
 go_enter Tryz.func118, Tryz.ntmps118
 go_wp2_with fail
 go_loopw [5, 8] (fun _ t wr => ∃ i : Nat, t = .int .i64 i ∧ i ≤ l.length ∧ Ext w wr ∧ Hid (idxF (atS n) (l.drop i) i = R)) (fun _ t _ => downV l.length t)
 case atStart => exact ⟨0, rfl, Nat.zero_le _, Ext.refl _, HR⟩
 case round =>
  obtain ⟨i, rfl, hi, hX, HI⟩ := hrel
  have hi0 : (0 : Int) ≤ (i : Int) := by omega
  by_cases hlt : i < l.length
  ·
   have hlI : (i : Int) < (l.length : Int) := by omega
   obtain ⟨g, o, rfl, lg, _, d0, d1⟩ := span_at (h.ext hX) i hlt
   have HS : Hid (idxF (atS n) (l.drop i) i = if atS n l[i] = true then (i : Int) else idxF (atS n) (l.drop (i + 1)) (i + 1)) := Lh (by rw [drop_one l i hlt]; rfl)
   obtain ⟨s, hs⟩ : ∃ s, l[i] = s := ⟨_, rfl⟩
   rw [hs] at d0 d1 HS
   have HC := Lh (hasfn_any s n b wr (Nat.lt_of_lt_of_le hb hX.size) (hX.keep hb HC0.out))
   obtain ⟨B, hB⟩ : ∃ B, atS n s = B := ⟨_, rfl⟩
   rw [hB] at HC HS
   clear hs hB
   go_wp2_with fail
   refine HC.out.mono ?_
   rintro e w1 ⟨rfl, hB1⟩
   cases B with
   | true =>
    have HN : Hid ((i : Int) = R) := Lh (by have := HS.out; rw [if_pos rfl] at this; rw [← this]; exact HI.out)
    clear HS HI
    go_wp2_with fail
    go_ret
    exact ⟨ret_int HN.out, hX.trans hB1⟩
   | false =>
    have HN : Hid (idxF (atS n) (l.drop (i + 1)) (i + 1) = R) := Lh (by have := HS.out; rw [if_neg (by decide)] at this; rw [← this]; exact HI.out)
    clear HS HI
    go_wp2_with fail
    go_roundw
    case rel => exact ⟨i + 1, by go_num, by omega, hX.trans hB1, HN⟩
    case measure => simp only [downV]; omega
  ·
   have hlI : ¬ (i : Int) < (l.length : Int) := by omega
   have HN : Hid ((-1 : Int) = R) := Lh (by
    have := HI.out
    rw [List.drop_of_length_le (by omega)] at this
    exact this)
   clear HI
   go_wp2_with fail
   go_ret
   exact ⟨ret_int HN.out, hX⟩
theorem contains_any (p : Nat → Prop) (l : List Span) (n : Int) (v : Value) (b : Nat) (w : World) (h : Rep w p v (spansD l)) (hb : b < w.heap.size) (c0 : w.cell? ⟨b, 0, none⟩ = some (.int .i64 n)) :
  Calls Tryz.prog 86 #[v, .func (.func 87) #[] #[.pointer (some ⟨b, 0, none⟩)]] w fun e w' => e = .returned (.bool (l.any (atS n))) ∧ Ext w w' := by
 have HC := Lh (indexsp_any p l n v b w h hb c0)
 have hA := idxF_any (atS n) l 0
 rw [hA]
 obtain ⟨R, hR⟩ : ∃ R, idxF (atS n) l 0 = R := ⟨_, rfl⟩
 rw [hR] at HC ⊢
 clear hA hR h c0
 go_enter Tryz.func86, Tryz.ntmps86
 go_wp2_with fail
 refine HC.out.mono ?_
 rintro e w1 ⟨rfl, hB1⟩
 clear HC
 by_cases h0 : 0 ≤ R
 ·
  have HN := Lh (decide_eq_true h0)
  go_wp2_with fail
  go_ret
  exact ⟨ret_bool HN.out.symm, hB1⟩
 ·
  go_wp2_with fail
  go_ret
  exact ⟨rfl, hB1⟩
def hasV (l : List Span) (n : Int) : Bool := mayI l (-1) && l.any (atS n)
theorem ihas_any (l : List Span) (n : Int) (p : Nat → Prop) (v : Value) (w : World) (h : Rep w p v (spansD l)) :
  Calls Tryz.prog 55 #[v, .int .i64 n] w fun e w' => e = .returned (.bool (hasV l n)) ∧ Ext w w' := by
 obtain ⟨wb, hwb⟩ : ∃ W, w.alloc (.cells #[.int .i64 n] 3) = W := ⟨_, rfl⟩
 have hE : Ext w wb := by rw [← hwb]; exact (Ext.refl w).alloc _
 have hz : wb.heap.size = w.heap.size + 1 := by rw [← hwb]; simp
 have hc : wb.cell? ⟨w.heap.size, 0, none⟩ = some (.int .i64 n) := by rw [← hwb]; simp [go_sem]
 have HM := Lh (may_set l p v wb (h.ext hE))
 have HC := Lh fun W (hB : Ext wb W) => contains_any p l n v w.heap.size W ((h.ext hE).ext hB) (by have := hB.size; omega) (hB.keep (by omega) hc)
 unfold hasV
 obtain ⟨M, hM⟩ : ∃ M, mayI l (-1) = M := ⟨_, rfl⟩
 obtain ⟨A, hA⟩ : ∃ A, l.any (atS n) = A := ⟨_, rfl⟩
 rw [hM] at HM ⊢
 rw [hA] at HC ⊢
 clear hM hA h hz hc
 cases M with
 | true =>
  rw [Bool.true_and]
  go_enter Tryz.func55, Tryz.ntmps55
  go_wp2_with fail
  refine HM.out.mono ?_
  rintro e w1 ⟨rfl, hB1⟩
  clear HM
  go_wp2_with fail
  refine (HC.out _ hB1).mono ?_
  rintro e w2 ⟨rfl, hB2⟩
  clear HC
  go_wp2_with fail
  go_ret
  exact ⟨rfl, hE.trans (hB1.trans hB2)⟩
 | false =>
  rw [Bool.false_and]
  go_enter Tryz.func55, Tryz.ntmps55
  go_wp2_with fail
  refine HM.out.mono ?_
  rintro e w1 ⟨rfl, hB1⟩
  clear HM HC
  go_wp2_with fail
  go_ret
  exact ⟨rfl, hE.trans hB1⟩
def ahas (l : List Span) (n : Int) : Bool := if l.length = 0 then true else hasV l n
theorem ahas_any (l : List Span) (n : Int) (p : Nat → Prop) (v : Value) (w : World) (h : Rep w p v (spansD l)) :
  Calls Tryz.prog 90 #[v, .int .i64 n] w fun e w' => e = .returned (.bool (ahas l n)) ∧ Ext w w' := by
 have HC := Lh (ihas_any l n p v w h)
 obtain ⟨a, c, rfl, hc1, hc2⟩ := h.count z_span (by omega)
 unfold ahas
 obtain ⟨A, hA⟩ : ∃ A, hasV l n = A := ⟨_, rfl⟩
 rw [hA] at HC ⊢
 clear hA h
 by_cases h0 : l.length = 0
 ·
  rw [if_pos h0]
  have hI : (l.length : Int) = 0 := by omega
  rw [h0] at HC hc1 ⊢
  clear h0 hI HC
  go_enter Tryz.func90, Tryz.ntmps90
  go_wp2_with fail
  go_ret
  exact ⟨rfl, Ext.refl _⟩
 ·
  rw [if_neg h0]
  have hI : ¬ (l.length : Int) = 0 := by omega
  go_enter Tryz.func90, Tryz.ntmps90
  go_wp2_with fail
  refine HC.out.mono ?_
  rintro e w1 ⟨rfl, hB1⟩
  clear HC
  go_wp2_with fail
  go_ret
  exact ⟨ret_bool (by rw [show ((l.length : Int) == 0) = false from by simpa using h0]; rfl), hB1⟩
def waits (ops : Array Oper) : Nat → Nat → Nat → Bool
 | 0, _, _ => false
 | n + 1, i, j => ((ops[i]?).map fun o => o.after.any fun e => Region.binds .any e && (e.on == j || waits ops n e.on j)).getD false
def cutL (n k : Nat) : Array Bool := (List.replicate k true ++ List.replicate (n - k) false).toArray
def QCut (P : Program) (ops : Array Oper) (k : Nat) (Q : Exit → Act → World → Prop) : Exit → Act → World → Prop
 | .normal, a, w => ∀ fuel, ops.size - k ≤ fuel → wpAny P .any ops Q fuel (cutL ops.size k) a w
 | e, a, w => Q e a w
section
variable {P : Program} {ops ops1 : Array Oper} {Q : Exit → Act → World → Prop}
def Shut (ops : Array Oper) (listed : Array Bool) : Prop := ∀ i : Nat, listed.getD i false = true → ∀ o, ops[i]? = some o → ∀ e ∈ o.after, Region.binds .any e = true → listed.getD e.on false = true
theorem Shut.waits {listed : Array Bool} (h : Shut ops listed) : ∀ (n i j : Nat), (∀ o, ops[i]? = some o → ∀ e ∈ o.after, Region.binds .any e = true → listed.getD e.on false = true) → waits ops n i j = true → listed.getD j false = true
 | 0, i, j, _, hw => by cases hw
 | n + 1, i, j, hi, hw => by
  unfold Go.Proofs.YtkelpbbekeelcaaGreatDoor.waits at hw
  cases ho : ops[i]? with
  | none => rw [ho] at hw; cases hw
  | some o =>
   rw [ho] at hw
   simp only [Option.map_some, Option.getD_some, Array.any_eq_true', Bool.and_eq_true, Bool.or_eq_true, beq_iff_eq] at hw
   obtain ⟨e, he, hb, h2⟩ := hw
   have h1 := hi o ho e he hb
   rcases h2 with h2 | h2
   ·
    rw [← h2]; exact h1
   ·
    exact Shut.waits h n e.on j (h e.on h1) h2
theorem upon_qcut (k : Nat) (o : Oper) (a : Act) (K : Act → World → Prop) (r : Result Next) (h : o.upon P a K (QCut P ops k Q) r) : o.upon P a K Q r := by
 cases r with
 | ok n w' =>
  cases n
  case enter f args =>
   refine Calls.mono h fun e w'' he => ?_
   cases e <;> exact he
  all_goals exact h
 | halt x w' => cases x <;> exact h
theorem getD_false {listed : Array Bool} {j : Nat} (hj : j < listed.size) (b : Bool) : listed.getD j b = listed.getD j false := by simp [Array.getD, hj]
theorem wpAny_cut (k : Nat) (hk : k ≤ ops.size) (h1 : ∀ i : Nat, ops1[i]? = if i < k then ops[i]? else none)
  (hord : ∀ (i : Nat) (o : Oper), i < k → ops[i]? = some o → (∀ e ∈ o.after, Region.binds .any e = true → e.on < i) ∧ ∀ j b, o.guard = some (j, b) → j < k)
  (hpost : ∀ i : Nat, i < ops.size → k ≤ i → ∀ j, j < k → waits ops ops.size i j = true) :
  ∀ (fuel1 : Nat) (listed : Array Bool) (a : Act) (w : World), listed.size = ops.size → Shut ops listed → (∀ j, k ≤ j → j < ops.size → listed.getD j false = false) →
   wpAny P .any ops1 (QCut P ops k Q) fuel1 listed a w → ∀ fuel, fuel1 + (ops.size - k) ≤ fuel → wpAny P .any ops Q fuel listed a w := by
 have hnone : ∀ (listed : Array Bool) (a : Act) (w : World), listed.size = ops.size → (∀ j, k ≤ j → j < ops.size → listed.getD j false = false) → Region.ready .any ops1 listed = [] → QCut P ops k Q .normal a w → ∀ fuel, ops.size - k ≤ fuel → wpAny P .any ops Q fuel listed a w := by
  intro listed a w hls hlo hr hq fuel hf
  have hall : ∀ j, j < k → listed.getD j false = true := by
   intro j
   induction j using Nat.strongRecOn with
   | ind j ih =>
    intro hj
    cases hl : listed.getD j false with
    | true => rfl
    | false =>
     exfalso
     have hjo : j < ops.size := by omega
     have ho : ops[j]? = some ops[j] := Array.getElem?_eq_getElem hjo
     have hm : j ∈ Region.ready .any ops1 listed := mem_ready.2 ⟨by rw [getD_false (by omega)]; exact hl, ops[j], by rw [h1, if_pos hj, ho], fun e he hb => ih e.on ((hord j _ hj ho).1 e he hb) (by have := (hord j _ hj ho).1 e he hb; omega)⟩
     rw [hr] at hm; cases hm
  have he : listed = cutL ops.size k := by
   apply Array.ext
   ·
    simp [cutL]; omega
   ·
    intro i hi1 hi2
    have hg : listed.getD i false = listed[i] := by simp [Array.getD, hi1]
    by_cases hik : i < k
    ·
     rw [← hg, hall i hik]; simp [cutL, List.getElem_append, hik]
    ·
     rw [← hg, hlo i (by omega) (by omega)]; simp [cutL, List.getElem_append, hik]
  rw [he]
  exact hq fuel hf
 have hsub : ∀ (listed : Array Bool) (i : Nat), i < k → (i ∈ Region.ready .any ops listed ↔ i ∈ Region.ready .any ops1 listed) := fun listed i hi => by
  rw [mem_ready, mem_ready, h1, if_pos hi]
 intro fuel1
 induction fuel1 with
 | zero =>
  intro listed a w hls hsh hlo h fuel hf
  exact hnone listed a w hls hlo h.1 h.2 fuel (by omega)
 | succ fuel1 ih =>
  intro listed a w hls hsh hlo h fuel hf
  by_cases hr : Region.ready .any ops1 listed = []
  ·
   exact hnone listed a w hls hlo hr (h.1 hr) fuel (by omega)
  ·
   obtain ⟨f, rfl⟩ : ∃ f, fuel = f + 1 := ⟨fuel - 1, by omega⟩
   refine ⟨fun he => ?_, fun i hi => ?_⟩
   ·
    obtain ⟨j, hj⟩ := List.exists_mem_of_ne_nil _ hr
    have hjk : j < k := by
     obtain ⟨_, o, ho, _⟩ := mem_ready.1 hj
     rw [h1] at ho
     by_cases c : j < k
     ·
      exact c
     ·
      rw [if_neg c] at ho; cases ho
    have := (hsub listed j hjk).2 hj
    rw [he] at this; cases this
   ·
    obtain ⟨hu, o, ho, hal⟩ := mem_ready.1 hi
    have his : i < ops.size := (Array.getElem?_eq_some_iff.1 ho).1
    have hik : i < k := by
     by_cases c : i < k
     ·
      exact c
     ·
      exfalso
      obtain ⟨j, hj⟩ := List.exists_mem_of_ne_nil _ hr
      obtain ⟨hju, o', ho', _⟩ := mem_ready.1 hj
      rw [h1] at ho'
      by_cases cj : j < k
      ·
       have hw := hsh.waits ops.size i j (fun o2 ho2 e he hb => by rw [ho] at ho2; cases ho2; exact hal e he hb) (hpost i his (by omega) j cj)
       rw [getD_false (by omega)] at hju
       rw [hju] at hw; cases hw
      ·
       rw [if_neg cj] at ho'; cases ho'
    have h2 := h.2 i ((hsub listed i hik).1 hi)
    have h3 := wpOp_mono (fun a' w' h' => ih (listed.setIfInBounds i true) a' w' (by simpa using hls) (fun i' hi' o2 ho2 e he hb => by
     have hlt : ∀ m : Nat, listed.getD m false = true → (listed.setIfInBounds i true).getD m false = true := fun m hm => by
      by_cases hmi : i = m
      ·
       subst hmi; simp [Array.getD, hls, his]
      ·
       rw [getD_set_ne false hmi]; exact hm
     by_cases hii : i = i'
     ·
      subst hii
      rw [ho] at ho2; cases ho2
      exact hlt _ (hal e he hb)
     ·
      rw [getD_set_ne false hii] at hi'
      exact hlt _ (hsh i' hi' o2 ho2 e he hb)) (fun j hj1 hj2 => by rw [getD_set_ne false (by omega)]; exact hlo j hj1 hj2) h' f (by omega)) h2
    unfold wpOp at h3 ⊢
    rw [h1, if_pos hik] at h3
    simp only [ho] at h3 ⊢
    have hy : Region.wanted o (yielded ops1 a.tmps) = Region.wanted o (yielded ops a.tmps) := by
     unfold Region.wanted
     cases hg : o.guard with
     | none => rfl
     | some g =>
      obtain ⟨j, b⟩ := g
      have hj := (hord i o hik ho).2 j b hg
      simp only
      have : yielded ops1 a.tmps j = yielded ops a.tmps j := by unfold yielded; rw [h1, if_pos hj]
      rw [this]
    rw [hy] at h3
    split at h3
    ·
     rename_i hw
     rw [if_pos hw]
     rcases h3 with h3 | ⟨h3, h4⟩
     ·
      exact Or.inl (upon_qcut k o a _ _ h3)
     ·
      exact Or.inr ⟨h3, h4⟩
    ·
     rename_i hw
     rw [if_neg hw]
     exact h3
theorem rg_cut {S : World → Prop} {id : Nat} {a : Act} {w : World} (k : Nat) (hm : P.follows .mixedOrders = true) (hk : decide (k ≤ ops.size) = true)
  (hord : ((List.range k).all fun i => ((ops[i]?).map fun o => (o.after.all fun e => !Region.binds .any e || decide (e.on < i)) && (match o.guard with | none => true | some (j, _) => decide (j < k))).getD true) = true)
  (hpost : ((List.range ops.size).all fun i => decide (i < k) || (List.range k).all fun j => waits ops ops.size i j) = true)
  (hS : S w.drew) (h : wpAnyH P .any (ops.toList.take k).toArray (QCut P ops k Q) S k (Array.replicate ops.size false) a w.drew) : (Code.region id ops true).wp P Q a w := by
 refine wp_region_any hm (wpAny_cut (ops1 := (ops.toList.take k).toArray) k (of_decide_eq_true hk) (fun i => ?_) (fun i o hi ho => ?_) (fun i hi hki j hj => ?_) k _ a _ (by simp) (fun i hi => by simp [Array.getD] at hi) (fun j _ hj => by simp [Array.getD]) (wpAny_of_held _ _ _ _ h) _ (by have := of_decide_eq_true hk; omega))
 ·
  simp [List.getElem?_take]
 ·
  have h := (List.all_eq_true.1 hord) i (List.mem_range.2 hi)
  rw [ho] at h
  simp only [Option.map_some, Option.getD_some, Bool.and_eq_true, Array.all_eq_true', Bool.or_eq_true, Bool.not_eq_true', decide_eq_true_eq] at h
  refine ⟨fun e he hb => ?_, fun j b hg => ?_⟩
  ·
   rcases h.1 e he with h2 | h2
   ·
    rw [hb] at h2; cases h2
   ·
    exact h2
  ·
   have h2 := h.2
   rw [hg] at h2
   exact of_decide_eq_true h2
 ·
  have h := (List.all_eq_true.1 hpost) i (List.mem_range.2 hi)
  rw [Bool.or_eq_true] at h
  rcases h with h | h
  ·
   have := of_decide_eq_true h; omega
  ·
   exact (List.all_eq_true.1 h) j (List.mem_range.2 hj)
theorem rg_go {k : Nat} {a : Act} {w : World} (r : Nat) (L : Array Bool) (hL : cutL ops.size k = L) (hr : ops.size - k = r) (h : ∀ m, wpAnyH P .any ops Q (fun _ => True) (m + r) L a w) : QCut P ops k Q .normal a w := fun fuel hf => by
 obtain ⟨m, rfl⟩ : ∃ m, fuel = m + r := ⟨fuel - r, by omega⟩
 rw [hL]
 exact wpAny_of_held _ _ _ _ (h m)
end
theorem s1Attr : ∀ W, (sizeOf 58).run Tryz.prog W = .ok 1 W := fun W => by go_simp
theorem cloneat_own (x : List Attr) (p : Nat → Prop) (v : Value) (w : World) (hx : x.length ≤ 16777216) (h : Rep w p v (attrsD x)) :
  Calls Tryz.prog 121 #[v] w fun e w' => (∃ u, e = .returned u ∧ Own w' (fun b => p b ∧ b < w.heap.size) w.heap.size 74 2 u x.length (x.flatMap attrC)) ∧ Ext w w' := by
 obtain ⟨i0, hi, hz0, hz1, hz2⟩ := info_parts infoAttr
 obtain ⟨a, c, rfl, hc1, hc2⟩ := h.count z_attr (by omega)
 have knil := fun (a : Option Addr) (l c : Nat) (w : World) => run_eql_slice_nil (P := Tryz.prog) w 58 74 a l c Tryz.underlying58
 cases a with
 | none =>
  obtain ⟨h0, hc0, _⟩ := rep_none h
  obtain rfl : x = [] := List.eq_nil_of_length_eq_zero h0
  subst hc0
  clear h0
  simp only [List.length_nil] at *
  go_enter Tryz.func121, Tryz.ntmps121
  go_wp2_with fail
  go_ret
  exact ⟨⟨_, rfl, Own.nil _ _ _ _ _⟩, Ext.refl _⟩
 | some ad =>
  obtain ⟨us, hus, hul, hcells⟩ := rep_some h
  have h1u := hus.one (flat_one one_attr x)
  have hown : (w.alloc (.cells #[] 74)).ownsRow w.heap.size 74 2 (.slice (some ⟨w.heap.size, 0, none⟩) 0 0) 0 [] := own_empty' (Nat.le_refl _) Array.getElem?_push_size
  have hcl : ∀ j u, us[j]? = some u → (w.alloc (.cells #[] 74)).cell? (ad.add j) = some u := fun j u hj => by
   have h1 := hcells j u hj
   exact (World.cell?_of_block (Below.heap_alloc _ _ _ (World.block_lt_of_cell? w _ h1))).trans h1
  have HU := Lh (And.intro hus h1u)
  clear hus h1u h hcells
  go_enter Tryz.func121, Tryz.ntmps121
  go_wp2_with (at_builtin; refine wpList_append_own_at _ rfl (.tmp 5) (.tmp 6) _ rfl w.heap.size 74 i0 (.agg #[.string ⟨#[]⟩, .string ⟨#[]⟩]) 2 32 Tryz.underlying58 hi hz0 hz1 hz2 rfl (by decide) (.slice (some ⟨w.heap.size, 0, none⟩) 0 0) 0 [] rfl hown ad x.length c us rfl hul hcl HU.out.2 (by unfold maxLen; omega) (by omega) (by simp) ?_; intro v2 w3 hown3 hgrow3 _ hat3)
  have hX3 : Ext w w3 := Below.grown ((Ext.refl w).alloc (.cells #[] 74)) hgrow3 (by simp) fun k hk => (hown.lt k hk).1
  have hO : Own w3 (fun b => p b ∧ b < w.heap.size) w.heap.size 74 2 v2 x.length (x.flatMap attrC) := ⟨us, by simpa using hown3, (HU.out.1.lt.ext hX3).ok fun b hb => ⟨hb, fun e => by
   have := (hown3.lt b e.symm).1
   have := hb.2
   omega, Nat.lt_of_lt_of_le hb.2 hX3.size⟩⟩
  clear hown3 hgrow3 hat3
  go_wp2_with fail
  go_ret
  exact ⟨⟨v2, rfl, hO⟩, hX3⟩
theorem reps_attrs {w W : World} {p q : Nat → Prop} {us : List Value} {l : List Attr} (h : Reps w p us (l.flatMap attrC)) : Reps W q us (l.flatMap attrC) := by
 refine ⟨h.1, fun k u e hu he => ?_⟩
 have h1 := h.2 k u e hu he
 obtain ⟨x, _, hx⟩ := List.mem_flatMap.1 (List.mem_of_getElem? he)
 simp only [attrC, List.mem_cons, List.not_mem_nil, or_false] at hx
 rcases hx with rfl | rfl <;> (unfold strD at h1 ⊢; cases h1 with | leaf _ hs => exact .leaf _ hs)
theorem cloneat_any (x : List Attr) (p : Nat → Prop) (v : Value) (w : World) (hx : x.length ≤ 16777216) (h : Rep w p v (attrsD x)) :
  Calls Tryz.prog 121 #[v] w fun e w' => Ret (fun b => w.heap.size ≤ b) (attrsD x) e w' ∧ Ext w w' :=
 (cloneat_own x p v w hx h).mono fun e w' ⟨⟨u, he, us, h1, h2⟩, hE⟩ => ⟨⟨u, he, (Own.rep (p := fun _ => False) (n := x.length) ⟨us, h1, reps_attrs h2⟩).ok fun b hb => hb.elim (fun h => h.elim) id⟩, hE⟩
theorem acopies_own : ∀ (N : Nat) (ks : List Node) (p : Nat → Prop) (v : Value) (w : World), (∀ (i : Nat) (h : i < ks.length), nsz ks[i] ≤ N) → cntL ks ≤ 1048576 → Rep w p v (nodesD ks) →
  Calls Tryz.prog 122 #[v] w fun e w' => (∃ u, e = .returned u ∧ Own w' (fun b => w.heap.size ≤ b) w.heap.size 60 5 u ks.length (ks.flatMap nodeC)) ∧ Ext w w' := by
 intro N
 induction N with
 | zero =>
  intro ks p v w hN hcnt hv
  have h0 : ks = [] := by
   cases ks with
   | nil => rfl
   | cons n r => have := hN 0 (by simp); cases n; simp [nsz] at this
  subst h0
  obtain ⟨a, c, rfl, hc1, hc2⟩ := hv.count z_node (by omega)
  go_enter Tryz.func122, Tryz.ntmps122
  go_wp2_with fail
  go_loopw [3, 5, 8] (fun o _ t wr => t = .int .i64 0 ∧ o = .slice none 0 0 ∧ wr = w) (fun _ _ _ _ => 0)
  case atStart => exact ⟨rfl, rfl, rfl⟩
  case round =>
   obtain ⟨rfl, rfl, rfl⟩ := hrel
   go_wp2_with fail
   go_ret
   exact ⟨⟨_, rfl, Own.nil _ _ _ _ _⟩, Ext.refl _⟩
 | succ N ih =>
  intro ks p v w hN hcnt hv
  obtain ⟨a, c, rfl, hc1, hc2⟩ := hv.count z_node (by omega)
  obtain ⟨i0, hi, hz0, hz1, hz2⟩ := info_parts infoNode
  have HM := Lh hN
  have hkl := cntL_len ks
  have HCM : Hid (∀ (i : Nat) (h : i < ks.length), cntN ks[i] ≤ 1048576) := Lh (fun i h => by have := cntL_mem ks i h; omega)
  have IH := Lh ih
  clear hN ih
  go_enter Tryz.func122, Tryz.ntmps122
  go_wp2_with fail
  go_loopw [3, 5, 8] (fun o _ t wr => ∃ (i : Nat) (dv : Value), t = .int .i64 i ∧ dv = o ∧ i ≤ ks.length ∧ Ext w wr ∧ Hid (Own wr (fun b => w.heap.size ≤ b) w.heap.size 60 5 dv i ((ks.take i).flatMap nodeC))) (fun _ _ t _ => downV ks.length t)
  case atStart => exact ⟨0, _, rfl, rfl, Nat.zero_le _, Ext.refl _, Lh (Own.nil _ _ _ _ _)⟩
  case round =>
   obtain ⟨i, dv, rfl, rfl, hi2, hX, HH⟩ := hrel
   have hi0 : (0 : Int) ≤ (i : Int) := by omega
   have hwz := hX.size
   by_cases hlt : i < ks.length
   ·
    have hlI : (i : Int) < (ks.length : Int) := by omega
    obtain ⟨g, o, za, zk, rfl, lg, _, d0, d1, d2, d3, d4, hza, hzk⟩ := node_at (hv.ext hX) i hlt
    have hm := HM.out i hlt
    have hcm := HCM.out i hlt
    have hnl := node_len hv i hlt
    have HS : Hid ((ks.take (i + 1)).flatMap nodeC = (ks.take i).flatMap nodeC ++ nodeC ks[i]) := Lh (by rw [List.take_add_one, List.getElem?_eq_getElem hlt, List.flatMap_append]; simp)
    obtain ⟨x, hx⟩ : ∃ x, ks[i] = x := ⟨_, rfl⟩
    rw [hx] at d0 d1 d2 hza hzk hm hcm hnl HS
    clear hx
    have hck := cnt_kids x
    have hal := cntA_len x.attrs
    have hnk : ∀ (j : Nat) (h : j < x.kids.length), nsz x.kids[j] ≤ N := fun j h => by have := kid_lt x j h; omega
    obtain ⟨zab, zac, rfl, _, _⟩ := hza.count z_attr (by omega)
    obtain ⟨zkb, zkc, rfl, _, _⟩ := hzk.count z_node (by omega)
    obtain ⟨wo, hwo⟩ : ∃ wo, wo = wr := ⟨_, rfl⟩
    subst hwo
    go_wp2_with fail
    obtain ⟨w2, hw2⟩ : ∃ w2, wo.alloc (.cells #[.int .i64 x.kind, .string (bs x.name), .string (bs x.text), .slice zab x.attrs.length zac, .slice zkb x.kids.length zkc] 60) = w2 := ⟨_, rfl⟩
    have hE2 : Ext wo w2 := by rw [← hw2]; exact (Ext.refl wo).alloc _
    have hs2 : w2.heap.size = wo.heap.size + 1 := by rw [← hw2]; simp
    have hb2 : B5 w2 wo.heap.size x (.slice zab x.attrs.length zac) (.slice zkb x.kids.length zkc) := by
     rw [← hw2]
     exact ⟨by simp, by simp [go_sem], by simp [go_sem], by simp [go_sem], by simp [go_sem], by simp [go_sem], by simp [go_sem], by simp [go_sem], by simp [go_sem], by simp [go_sem], by simp [go_sem]⟩
    rw [hw2]
    have HA : Hid (∀ W, Ext w2 W → Calls Tryz.prog 121 #[.slice zab x.attrs.length zac] W fun e w' => ∃ (ua : Option Addr) (uc : Nat), e = .returned (.slice ua x.attrs.length uc) ∧ Rep w' (fun b => w2.heap.size ≤ b) (.slice ua x.attrs.length uc) (attrsD x.attrs) ∧ Ext W w') := Lh fun W hE => (cloneat_any x.attrs p _ W (by omega) ((hza.ext hE2).ext hE)).mono fun e w' ⟨⟨u, he, hu⟩, hB⟩ => by
     obtain ⟨ua, uc, rfl, _, _⟩ := hu.count z_attr (by omega)
     exact ⟨ua, uc, he, hu.ok fun b hb => Nat.le_trans hE.size hb, hB⟩
    have HC : Hid (∀ W, Ext w2 W → Calls Tryz.prog 122 #[.slice zkb x.kids.length zkc] W fun e w' => ∃ (ua : Option Addr) (uc : Nat), e = .returned (.slice ua x.kids.length uc) ∧ Rep w' (fun b => w2.heap.size ≤ b) (.slice ua x.kids.length uc) (nodesD x.kids) ∧ Ext W w') := Lh fun W hE => (IH.out x.kids p _ W hnk (by omega) ((hzk.ext hE2).ext hE)).mono fun e w' ⟨⟨u, he, hO⟩, hB⟩ => by
     have hu : Rep w' (fun b => W.heap.size ≤ b) u (nodesD x.kids) := hO.rep.ok fun b hb => by rcases hb with h | h <;> exact h
     obtain ⟨ua, uc, rfl, _, _⟩ := hu.count z_node (by omega)
     exact ⟨ua, uc, he, hu.ok fun b hb => Nat.le_trans hE.size hb, hB⟩
    have lw2 := hb2.lt
    have b3 := hb2.c3; have b4 := hb2.c4; have g3 := hb2.f3; have g4 := hb2.f4
    clear hw2 d0 d1 d2 d3 d4 hck hal hnk hm hcm hza hzk
    refine rg_cut (S := Sx w2) 7 (by kernel_rfl) (by kernel_rfl) (by kernel_rfl) (by kernel_rfl) (Sx.begin _) ?_
    have hSc : Sx w2 (World.drew w2) := (Sx.begin _)
    refine rg_t 0 (some 12) (.pointer (some ⟨wo.heap.size, 3, none⟩)) rfl hSc (fun w' hs => by first | rfl | go_simp) ?_
    simp only [Act.put, sA, sZ, sS]
    refine rg_t 1 (some 13) (.slice zab x.attrs.length zac) rfl hSc (fun w' hs => by (have h0 := hs.cell lw2 b3; go_simp)) ?_
    simp only [Act.put, sA, sZ, sS]
    refine rg_t 3 (some 15) (.pointer (some ⟨wo.heap.size, 4, none⟩)) rfl hSc (fun w' hs => by first | rfl | go_simp) ?_
    simp only [Act.put, sA, sZ, sS]
    refine rg_t 4 (some 16) (.slice zkb x.kids.length zkc) rfl hSc (fun w' hs => by (have h0 := hs.cell lw2 b4; go_simp)) ?_
    simp only [Act.put, sA, sZ, sS]
    refine rg_call 2 (some 14) 121 #[.slice zab x.attrs.length zac] rfl rfl (by kernel_rfl) (by rfl) (fun w' => by first | rfl | go_simp) (R := fun v w' => ∃ (ua : Option Addr) (uc : Nat), v = .slice ua x.attrs.length uc ∧ Rep w' (fun b => w2.heap.size ≤ b) (.slice ua x.attrs.length uc) (attrsD x.attrs) ∧ Ext (World.drew w2) w') ?_ ?_
    ·
     refine (HA.out (World.drew w2) hSc).mono ?_
     rintro e w' ⟨ua, uc, rfl, hu, hB⟩
     exact ⟨_, rfl, ua, uc, rfl, hu, hB⟩
    rintro _ wrc1 ⟨uaa, uac, rfl, hua, hBrc1⟩
    have hSc1 := hSc.ext hBrc1
    refine ⟨hSc1, ?_⟩
    simp only [Act.put, sA, sZ, sS]
    refine rg_t 6 (some 18) (.pointer (some ⟨wo.heap.size, 3, none⟩)) rfl hSc1 (fun w' hs => by first | rfl | go_simp) ?_
    simp only [Act.put, sA, sZ, sS]
    refine rg_call 5 (some 17) 122 #[.slice zkb x.kids.length zkc] rfl rfl (by kernel_rfl) (by rfl) (fun w' => by first | rfl | go_simp) (R := fun v w' => ∃ (ua : Option Addr) (uc : Nat), v = .slice ua x.kids.length uc ∧ Rep w' (fun b => w2.heap.size ≤ b) (.slice ua x.kids.length uc) (nodesD x.kids) ∧ Ext wrc1 w') ?_ ?_
    ·
     refine (HC.out wrc1 hSc1).mono ?_
     rintro e w' ⟨ua, uc, rfl, hu, hB⟩
     exact ⟨_, rfl, ua, uc, rfl, hu, hB⟩
    rintro _ wrc2 ⟨uka, ukc, rfl, huk, hBrc2⟩
    have hSc2 := hSc1.ext hBrc2
    refine ⟨hSc2, ?_⟩
    simp only [Act.put, sA, sZ, sS]
    have hua2 := hua.ext hBrc2
    have c3 := hSc2.keep lw2 b3
    have c4 := hSc2.keep lw2 b4
    have f3 := hSc2.free lw2 g3
    have f4 := hSc2.free lw2 g4
    have hb3 := hb2.ext hSc2
    have hE3 : Ext wo wrc2 := hE2.trans hSc2
    refine rg_done (by kernel_rfl) ?_
    refine rg_go 3 #[true, true, true, true, true, true, true, false, false, false] (by kernel_rfl) (by kernel_rfl) fun m => ?_
    refine rg_write 7 none (wrc2.setCell ⟨wo.heap.size, 3, none⟩ (.slice uaa x.attrs.length uac)) rfl rfl (by kernel_rfl) (by rfl) (exec_store rfl (store_slice _ s1Attr c3 f3 _ _ _)) trivial ?_
    simp only [Act.put, sA, sZ, sS]
    have hb4 : B5 (wrc2.setCell ⟨wo.heap.size, 3, none⟩ (.slice uaa x.attrs.length uac)) wo.heap.size x (.slice uaa x.attrs.length uac) (.slice zkb x.kids.length zkc) := hb3.set3 _ rfl rfl rfl
    have c4' := hb4.c4
    have f4' := hb4.f4
    refine rg_t 8 (some 19) (.pointer (some ⟨wo.heap.size, 4, none⟩)) rfl trivial (fun w' hs => by first | rfl | go_simp) ?_
    simp only [Act.put, sA, sZ, sS]
    refine rg_write 9 none ((wrc2.setCell ⟨wo.heap.size, 3, none⟩ (.slice uaa x.attrs.length uac)).setCell ⟨wo.heap.size, 4, none⟩ (.slice uka x.kids.length ukc)) rfl rfl (by kernel_rfl) (by rfl) (exec_store rfl (store_slice _ s1Node c4' f4' _ _ _)) trivial ?_
    simp only [Act.put, sA, sZ, sS]
    refine rg_done (by kernel_rfl) ?_
    have hb5 : B5 ((wrc2.setCell ⟨wo.heap.size, 3, none⟩ (.slice uaa x.attrs.length uac)).setCell ⟨wo.heap.size, 4, none⟩ (.slice uka x.kids.length ukc)) wo.heap.size x (.slice uaa x.attrs.length uac) (.slice uka x.kids.length ukc) := hb4.set4 _ rfl rfl rfl
    have hE5 : Ext wo ((wrc2.setCell ⟨wo.heap.size, 3, none⟩ (.slice uaa x.attrs.length uac)).setCell ⟨wo.heap.size, 4, none⟩ (.slice uka x.kids.length ukc)) := (hE3.set (Nat.le_refl _) _).set (Nat.le_refl _) _
    have hset : ∀ (b : Nat), w2.heap.size ≤ b → ((wrc2.setCell ⟨wo.heap.size, 3, none⟩ (.slice uaa x.attrs.length uac)).setCell ⟨wo.heap.size, 4, none⟩ (.slice uka x.kids.length ukc)).heap[b]? = wrc2.heap[b]? := fun b hb => by rw [Below.heap_setCell _ _ _ _ (by simp only; omega), Below.heap_setCell _ _ _ _ (by simp only; omega)]
    have hua5 := hua2.kept fun b hb hlt => hset b hb
    have huk5 := huk.kept fun b hb hlt => hset b hb
    obtain ⟨us, hrowr, hreps⟩ := HH.out.rows
    have hrow := rows_ext hrowr hE3
    have hrow0 : Hid (∀ b, some b = dv.ownBlock → b < wo.heap.size) := Lh (fun b hb => (hrowr.lt b hb.symm).2)
    have hne : some wo.heap.size ≠ dv.ownBlock := fun e => by have := hrow0.out _ e; omega
    have hrow5 := rows_set (rows_set hrow (p := ⟨wo.heap.size, 3, none⟩) hne (.slice uaa x.attrs.length uac)) (p := ⟨wo.heap.size, 4, none⟩) hne (.slice uka x.kids.length ukc)
    obtain ⟨w6, hw6⟩ : ∃ W, (wrc2.setCell ⟨wo.heap.size, 3, none⟩ (.slice uaa x.attrs.length uac)).setCell ⟨wo.heap.size, 4, none⟩ (.slice uka x.kids.length ukc) = W := ⟨_, rfl⟩
    rw [hw6] at hb5 hE5 hua5 huk5 hrow5 ⊢
    have e0 := hb5.c0; have e1 := hb5.c1; have e2 := hb5.c2; have e3 := hb5.c3; have e4 := hb5.c4
    have hz6 : w.heap.size ≤ w6.heap.size := Nat.le_trans hwz hE5.size
    have HU := Lh (And.intro hua5 (And.intro huk5 (And.intro hreps (And.intro hE5 hs2))))
    clear hw6 hb5 hb4 hb3 c3 c4 f3 f4 c4' f4' hua hua2 huk hua5 huk5 hset hrow hrowr hreps hE3 hE5 hne hE2 hs2 hb2 lw2 b3 b4 g3 g4 HA HC hSc hSc1 hSc2 hBrc1 hBrc2
    simp only [Exit.then]
    go_wp2_with (at_builtin; refine wpList_append_own_at _ rfl (.tmp 20) (.tmp 22) _ rfl w.heap.size 60 i0 (.agg #[.int .i64 0, .string ⟨#[]⟩, .string ⟨#[]⟩, .slice none 0 0, .slice none 0 0]) 5 88 Tryz.underlying23 hi hz0 hz1 hz2 rfl (by decide) dv i us rfl (rows_ext hrow5 ((Ext.refl w6).alloc _)) ⟨w6.heap.size, 0, none⟩ 1 1 [.int .i64 x.kind, .string (bs x.name), .string (bs x.text), (.slice uaa x.attrs.length uac), (.slice uka x.kids.length ukc)] rfl rfl (new_cells _) (by intro u hu; simp at hu; rcases hu with rfl | rfl | rfl | rfl | rfl <;> rfl) (by unfold maxLen; omega) (by omega) (by simp; omega) ?_; intro v2 w7 hown7 hgrow7 _ hat7)
    have hX7 : Ext w w7 := (hX.trans HU.out.2.2.2.1).grown_own hrow5 hgrow7
    have hO7 : Own w7 (fun b => w.heap.size ≤ b) w.heap.size 60 5 v2 (i + 1) ((ks.take (i + 1)).flatMap nodeC) := by
     rw [HS.out, nodeC_eq]
     obtain ⟨hua5, huk, hreps, hE5, hs2⟩ := HU.out
     refine Own.push (us := us) ?_ (Reps.cons (Rep.int _ _ _ _) (Reps.cons (Rep.string _ _ _ (by rw [bs_size]; exact hnl.1)) (Reps.cons (Rep.string _ _ _ (by rw [bs_size]; exact hnl.2)) (Reps.cons (e := attrsD x.attrs) ?_ (Reps.cons (e := nodesD x.kids) ?_ (Reps.nil _ _)))))) hown7 hgrow7 hat7
     ·
      exact (hreps.ext (hE5.alloc _)).ok fun b hb => ⟨hb.1, hb.2.1, by simp; have := hE5.size; omega⟩
     ·
      refine (hua5.ext ((Ext.refl _).alloc _)).lt.ok fun b hb => ⟨by omega, fun e => ?_, hb.2⟩
      have := hrow0.out b e
      omega
     ·
      refine (huk.ext ((Ext.refl _).alloc _)).lt.ok fun b hb => ⟨by omega, fun e => ?_, hb.2⟩
      have := hrow0.out b e
      omega
    clear hown7 hgrow7 hat7 hrow5 HU e0 e1 e2 e3 e4
    go_wp2_with fail
    go_roundw
    case rel => exact ⟨i + 1, v2, by go_num, rfl, by omega, hX7, Lh hO7⟩
    case measure => simp only [downV]; omega
   ·
    have hlI : ¬ (i : Int) < (ks.length : Int) := by omega
    have hown := HH.out
    have hil : i = ks.length := by omega
    rw [hil, List.take_length] at hown
    have HN := Lh hown
    clear HH hown hil
    go_wp2_with fail
    go_ret
    exact ⟨⟨dv, rfl, HN.out⟩, hX⟩
theorem row_low {w : World} {base base' z n : Nat} {e : TypeId} {v : Value} {us : List Value} (h : w.ownsRow base e z v n us) (hb : base' ≤ base) : w.ownsRow base' e z v n us :=
 ⟨h.1, h.2.imp id fun ⟨g, cap, cur, e1, h1, r⟩ => ⟨g, cap, cur, e1, Nat.le_trans hb h1, r⟩⟩
theorem Own.low {w : World} {p q : Nat → Prop} {base base' z n : Nat} {e : TypeId} {v : Value} {es : List DV} (h : Own w p base e z v n es) (hb : base' ≤ base) (hpq : ∀ b, p b → q b) : Own w q base' e z v n es := by
 obtain ⟨us, h1, h2⟩ := h
 exact ⟨us, row_low h1 hb, h2.ok fun b hb => ⟨hpq b hb.1, hb.2⟩⟩
def atP (v : Int) (x : Part) : Bool := ahas x.vers v
theorem at1_any (x : Part) (v : Int) (b : Nat) (p : Nat → Prop) (va aa ka : Option Addr) (vl vc al ac kl kc : Nat) (w : World) (hv : Rep w p (.slice va vl vc) (spansD x.vers)) (hb : b < w.heap.size) (c0 : w.cell? ⟨b, 0, none⟩ = some (.int .i64 v)) :
  Calls Tryz.prog 120 #[.agg #[.slice va vl vc, .slice aa al ac, .slice ka kl kc], .pointer (some ⟨b, 0, none⟩)] w fun e w' => e = .returned (.bool (atP v x)) ∧ Ext w w' := by
 obtain ⟨wb, hwb⟩ : ∃ W, w.alloc (.cells #[.slice va vl vc, .slice aa al ac, .slice ka kl kc] 100) = W := ⟨_, rfl⟩
 have hE : Ext w wb := by rw [← hwb]; exact (Ext.refl w).alloc _
 have hblk : wb.heap[w.heap.size]? = some (.cells [.slice va vl vc, .slice aa al ac, .slice ka kl kc].toArray 100 (0, 0)) := by rw [← hwb]; exact Array.getElem?_push_size
 have b0 := blk_cells hblk 0 rfl
 have c1 := hE.keep hb c0
 have HC := Lh (ahas_any x.vers v p (.slice va vl vc) wb (hv.ext hE))
 unfold atP
 obtain ⟨B, hB⟩ : ∃ B, ahas x.vers v = B := ⟨_, rfl⟩
 rw [hB] at HC ⊢
 clear hB hv hblk c0
 go_enter Tryz.func120, Tryz.ntmps120
 go_wp2_with fail
 refine HC.out.mono ?_
 rintro e w1 ⟨rfl, hB1⟩
 clear HC
 go_wp2_with fail
 go_ret
 exact ⟨rfl, hE.trans hB1⟩
theorem indexpt_any (p : Nat → Prop) (l : List Part) (n : Int) (v : Value) (b : Nat) (w : World) (h : Rep w p v (partsD l)) (hb : b < w.heap.size) (c0 : w.cell? ⟨b, 0, none⟩ = some (.int .i64 n)) :
  Calls Tryz.prog 119 #[v, .func (.func 120) #[] #[.pointer (some ⟨b, 0, none⟩)]] w fun e w' => e = .returned (.int .i64 (idxF (atP n) l 0)) ∧ Ext w w' := by
 obtain ⟨a, c, rfl, hc1, hc2⟩ := h.count z_part (by omega)
 obtain ⟨R, hR⟩ : ∃ R, idxF (atP n) l 0 = R := ⟨_, rfl⟩
 rw [hR]
 have HR := Lh hR
 have HC0 := Lh c0
 clear hR c0
 go_enter Tryz.func119, Tryz.ntmps119
 go_wp2_with fail
 go_loopw [5, 8] (fun _ t wr => ∃ i : Nat, t = .int .i64 i ∧ i ≤ l.length ∧ Ext w wr ∧ Hid (idxF (atP n) (l.drop i) i = R)) (fun _ t _ => downV l.length t)
 case atStart => exact ⟨0, rfl, Nat.zero_le _, Ext.refl _, HR⟩
 case round =>
  obtain ⟨i, rfl, hi, hX, HI⟩ := hrel
  have hi0 : (0 : Int) ≤ (i : Int) := by omega
  by_cases hlt : i < l.length
  ·
   have hlI : (i : Int) < (l.length : Int) := by omega
   obtain ⟨g, o, xv, xa, xk, rfl, lg, _, d0, d1, d2, hxv, hxa, hxk⟩ := part_at (h.ext hX) i hlt
   have HS : Hid (idxF (atP n) (l.drop i) i = if atP n l[i] = true then (i : Int) else idxF (atP n) (l.drop (i + 1)) (i + 1)) := Lh (by rw [drop_one l i hlt]; rfl)
   obtain ⟨s, hs⟩ : ∃ s, l[i] = s := ⟨_, rfl⟩
   rw [hs] at hxv hxa hxk HS
   obtain ⟨va, vc, rfl, _, _⟩ := hxv.count z_span (by omega)
   obtain ⟨aa, ac, rfl, _, _⟩ := hxa.count z_attr (by omega)
   obtain ⟨ka, kc, rfl, _, _⟩ := hxk.count z_node (by omega)
   have HC := Lh (at1_any s n b p va aa ka s.vers.length vc s.attrs.length ac s.kids.length kc wr hxv (Nat.lt_of_lt_of_le hb hX.size) (hX.keep hb HC0.out))
   obtain ⟨B, hB⟩ : ∃ B, atP n s = B := ⟨_, rfl⟩
   rw [hB] at HC HS
   clear hs hB hxv hxa hxk
   go_wp2_with fail
   refine HC.out.mono ?_
   rintro e w1 ⟨rfl, hB1⟩
   cases B with
   | true =>
    have HN : Hid ((i : Int) = R) := Lh (by have := HS.out; rw [if_pos rfl] at this; rw [← this]; exact HI.out)
    clear HS HI
    go_wp2_with fail
    go_ret
    exact ⟨ret_int HN.out, hX.trans hB1⟩
   | false =>
    have HN : Hid (idxF (atP n) (l.drop (i + 1)) (i + 1) = R) := Lh (by have := HS.out; rw [if_neg (by decide)] at this; rw [← this]; exact HI.out)
    clear HS HI
    go_wp2_with fail
    go_roundw
    case rel => exact ⟨i + 1, by go_num, by omega, hX.trans hB1, HN⟩
    case measure => simp only [downV]; omega
  ·
   have hlI : ¬ (i : Int) < (l.length : Int) := by omega
   have HN : Hid ((-1 : Int) = R) := Lh (by
    have := HI.out
    rw [List.drop_of_length_le (by omega)] at this
    exact this)
   clear HI
   go_wp2_with fail
   go_ret
   exact ⟨ret_int HN.out, hX⟩
theorem idxF_find {α : Type} (f : α → Bool) : ∀ (l : List α) (k : Nat), (idxF f l k = -1 ∧ l.find? f = none) ∨ ∃ (i : Nat) (h : i < l.length), idxF f l k = ((k + i : Nat) : Int) ∧ l.find? f = some l[i]
 | [], k => .inl ⟨rfl, rfl⟩
 | n :: r, k => by
  cases h : f n with
  | true => exact .inr ⟨0, by simp, by unfold idxF; rw [if_pos h]; rfl, by rw [List.find?_cons, h]; rfl⟩
  | false =>
   rcases idxF_find f r (k + 1) with ⟨h1, h2⟩ | ⟨i, hi, h1, h2⟩
   ·
    exact .inl ⟨by unfold idxF; rw [if_neg (by rw [h]; decide)]; exact h1, by rw [List.find?_cons, h]; exact h2⟩
   ·
    exact .inr ⟨i + 1, by simpa using hi, by unfold idxF; rw [if_neg (by rw [h]; decide), h1]; congr 1; omega, by rw [List.find?_cons, h, h2]; rfl⟩
def partA (v : Int) (ps : List Part) : List Attr := ((ps.find? (atP v)).map fun x => x.attrs).getD []
def partK (v : Int) (ps : List Part) : List Node := ((ps.find? (atP v)).map fun x => x.kids).getD []
mutual
def atN (v : Int) : ANode → Node
 | .mk nm _ _ ps ks => .mk 1 nm [] (partA v ps) (partK v ps ++ atL v ks)
def atL (v : Int) : List ANode → List Node
 | [] => []
 | k :: r => if ahas k.vers v then atN v k :: atL v r else atL v r
end
theorem atN_eq (v : Int) (n : ANode) : atN v n = .mk 1 n.name [] (partA v n.parts) (partK v n.parts ++ atL v n.kids) := by cases n; rw [atN]; rfl
theorem atL_take (v : Int) : ∀ (ks : List ANode) (i : Nat) (h : i < ks.length), atL v (ks.take (i + 1)) = atL v (ks.take i) ++ if ahas ks[i].vers v then [atN v ks[i]] else []
 | [], i, h => absurd h (Nat.not_lt_zero _)
 | k :: r, 0, h => by simp [atL]
 | k :: r, i + 1, h => by
  have := atL_take v r i (by simpa using h)
  rw [List.take_succ_cons, List.take_succ_cons, atL, atL, List.getElem_cons_succ, this]
  split <;> simp
theorem atL_len (v : Int) : ∀ ks : List ANode, (atL v ks).length ≤ ks.length
 | [] => Nat.le_refl _
 | k :: r => by
  have := atL_len v r
  rw [atL]
  split <;> simp only [List.length_cons] <;> omega
mutual
def aB : ANode → Bool
 | .mk _ _ _ ps ks => decide (ks.length ≤ 16777216) && (ps.all fun x => decide (x.attrs.length ≤ 1048576 ∧ cntL x.kids ≤ 1048576)) && aBL ks
def aBL : List ANode → Bool
 | [] => true
 | n :: r => aB n && aBL r
end
theorem aB_own (n : ANode) (h : aB n = true) : n.kids.length ≤ 16777216 ∧ (∀ x ∈ n.parts, x.attrs.length ≤ 1048576 ∧ cntL x.kids ≤ 1048576) ∧ ∀ k ∈ n.kids, aB k = true := by
 have hL : ∀ K : List ANode, aBL K = true → ∀ k ∈ K, aB k = true := by
  intro K
  induction K with
  | nil => intro _ k hk; cases hk
  | cons a K ih =>
   intro h k hk
   rw [aBL, Bool.and_eq_true] at h
   rcases List.mem_cons.1 hk with e | hk
   ·
    rw [e]; exact h.1
   ·
    exact ih h.2 k hk
 cases n with
 | mk nm k v p ks =>
  rw [aB, Bool.and_eq_true, Bool.and_eq_true, decide_eq_true_eq, List.all_eq_true] at h
  exact ⟨h.1.1, fun x hx => of_decide_eq_true (h.1.2 x hx), hL ks h.2⟩
end Go.Proofs.YtkelpbbekeelcaaGreatDoor
