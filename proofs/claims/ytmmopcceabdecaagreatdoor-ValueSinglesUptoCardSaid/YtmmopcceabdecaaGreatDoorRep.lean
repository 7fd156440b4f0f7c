/-
  What a value reads as, in memory: leaves and slices within slices; that it stays so in later worlds; a row of the call's own. Helper lemmas; no statement of the seat is proved here.
-/
import Derived.Test.YtmmopcceabdecaaGreatDoorBase
import Derived.Maps.AppendAt
namespace Go.Proofs.YtmmopcceabdecaaGreatDoor
open Go.RowKit
set_option linter.unusedVariables false

/-- What is read: a leaf as it stands, or a slice: the cells of its elements, one behind another; z: how many an element has. -/
inductive DV
  | v (x : Value)
  | s (z : Nat) (es : List DV)
/-- A value reads so, in a world, out of blocks that are let. -/
inductive Rep (w : World) (ok : Nat → Prop) : Value → DV → Prop
  | leaf (x : Value) (hx : ∀ s, x = .string s → s.size ≤ 9223372036854775807) : Rep w ok x (.v x)
  | nil (z : Nat) : Rep w ok (.slice none 0 0) (.s z [])
  | emp (ad : Addr) (z : Nat) : Rep w ok (.slice (some ad) 0 0) (.s z [])
  | row (b off len cap z : Nat) (us : List Value) (es : List DV) (hok : 0 < us.length → ok b) (hl : es.length = len * z) (hu : us.length = len * z) (hcap : len ≤ cap) (hm : cap ≤ 9223372036854775807)
      (hc : ∀ (k : Nat) (u : Value), us[k]? = some u → w.cell? ⟨b, off + k, none⟩ = some u) (hr : ∀ (k : Nat) (u : Value) (e : DV), us[k]? = some u → es[k]? = some e → Rep w ok u e) : Rep w ok (.slice (some ⟨b, off, none⟩) len cap) (.s z es)
theorem Rep.is {w : World} {ok : Nat → Prop} {u x : Value} (h : Rep w ok u (.v x)) : u = x := by cases h; rfl
theorem Rep.int (w : World) (ok : Nat → Prop) (k : IntKind) (n : Int) : Rep w ok (.int k n) (.v (.int k n)) := .leaf _ (fun s h => by cases h)
theorem Rep.bool (w : World) (ok : Nat → Prop) (b : Bool) : Rep w ok (.bool b) (.v (.bool b)) := .leaf _ (fun s h => by cases h)
theorem Rep.string (w : World) (ok : Nat → Prop) (s : ByteArray) (h : s.size ≤ 9223372036854775807) : Rep w ok (.string s) (.v (.string s)) := .leaf _ (fun t e => by cases e; exact h)
theorem Rep.bound {w : World} {ok : Nat → Prop} {u : Value} {s : ByteArray} (h : Rep w ok u (.v (.string s))) : s.size ≤ 9223372036854775807 := by
  cases h with
  | leaf x hx => exact hx s rfl
theorem Rep.ok {w : World} {p q : Nat → Prop} {v : Value} {d : DV} (h : Rep w p v d) (hpq : ∀ b, p b → q b) : Rep w q v d := by
  induction h with
  | leaf x hx => exact .leaf x hx
  | nil z => exact .nil z
  | emp ad z => exact .emp ad z
  | row b off len cap z us es hok hl hu hcap hm hc hr ih => exact .row b off len cap z us es (fun h => hpq _ (hok h)) hl hu hcap hm hc ih
theorem Rep.kept {w w' : World} {p : Nat → Prop} {v : Value} {d : DV} (h : Rep w p v d) (hb : ∀ b, p b → b < w.heap.size → w'.heap[b]? = w.heap[b]?) : Rep w' p v d := by
  induction h with
  | leaf x hx => exact .leaf x hx
  | nil z => exact .nil z
  | emp ad z => exact .emp ad z
  | row b off len cap z us es hok hl hu hcap hm hc hr ih =>
    refine .row b off len cap z us es hok hl hu hcap hm (fun k u hk => ?_) ih
    have h1 := hc k u hk
    have hlt : b < w.heap.size := World.block_lt_of_cell? w _ h1
    have hpos : 0 < us.length := by have := (List.getElem?_eq_some_iff.1 hk).1; omega
    rw [← h1]
    exact World.cell?_of_block (hb b (hok hpos) hlt)
theorem Rep.ext {w w' : World} {p : Nat → Prop} {v : Value} {d : DV} (h : Rep w p v d) (hB : Ext w w') : Rep w' p v d := h.kept fun b _ hb => Below.block hB b hb
theorem Rep.slice {w : World} {p : Nat → Prop} {v : Value} {z : Nat} {es : List DV} (h : Rep w p v (.s z es)) : ∃ a len cap, v = .slice a len cap ∧ es.length = len * z ∧ len ≤ cap ∧ cap ≤ 9223372036854775807 ∧ (a = none → len = 0) := by
  cases h with
  | nil => exact ⟨none, 0, 0, rfl, by simp, by omega, by omega, fun _ => rfl⟩
  | emp ad => exact ⟨some ad, 0, 0, rfl, by simp, by omega, by omega, fun h => by cases h⟩
  | row b off len cap _ us _ hok hl hu hcap hm hc hr => exact ⟨_, len, cap, rfl, hl, hcap, hm, fun h => by cases h⟩
/-- Cell k of a slice, and what it reads as. -/
theorem Rep.at {w : World} {p : Nat → Prop} {a : Option Addr} {len cap z : Nat} {es : List DV} (h : Rep w p (.slice a len cap) (.s z es)) (k : Nat) (hk : k < es.length) :
    ∃ b off u, a = some ⟨b, off, none⟩ ∧ w.cell? ⟨b, off + k, none⟩ = some u ∧ Rep w p u es[k] ∧ b < w.heap.size ∧ p b := by
  cases h with
  | nil => simp at hk
  | emp => simp at hk
  | row b off _ _ _ us _ hok hl hu hcap hm hc hr =>
    have hku : k < us.length := by rw [hu, ← hl]; exact hk
    have h1 := hc k us[k] (List.getElem?_eq_getElem hku)
    exact ⟨b, off, us[k], rfl, h1, hr k _ _ (List.getElem?_eq_getElem hku) (List.getElem?_eq_getElem hk), World.block_lt_of_cell? w _ h1, hok (by omega)⟩
/-- All cells of a slice that isn't empty, at once. -/
theorem Rep.all {w : World} {p : Nat → Prop} {a : Option Addr} {len cap z : Nat} {es : List DV} (h : Rep w p (.slice a len cap) (.s z es)) (hne : 0 < es.length) :
    ∃ b off, a = some ⟨b, off, none⟩ ∧ b < w.heap.size ∧ p b ∧ ∀ k e, es[k]? = some e → ∃ u, w.cell? ⟨b, off + k, none⟩ = some u ∧ Rep w p u e := by
  obtain ⟨b, off, _, rfl, _, _, hb, hp⟩ := h.at 0 hne
  refine ⟨b, off, rfl, hb, hp, fun k e he => ?_⟩
  obtain ⟨hk, rfl⟩ := List.getElem?_eq_some_iff.1 he
  obtain ⟨b', off', u, e', hc, hr, _⟩ := h.at k hk
  cases e'
  exact ⟨u, hc, hr⟩
/-- A part of a slice. -/
theorem Rep.sub {w : World} {p : Nat → Prop} {b off len cap z : Nat} {es : List DV} (h : Rep w p (.slice (some ⟨b, off, none⟩) len cap) (.s z es)) (i j cap' : Nat) (hij : i ≤ j) (hj : j ≤ len) (hc' : j - i ≤ cap') (hc2 : cap' ≤ 9223372036854775807) :
    Rep w p (.slice (some ⟨b, off + i * z, none⟩) (j - i) cap') (.s z ((es.drop (i * z)).take ((j - i) * z))) := by
  cases h with
  | emp =>
    obtain rfl : j = 0 := by omega
    obtain rfl : i = 0 := by omega
    exact .row b _ (0 - 0) cap' z [] _ (fun h => absurd h (Nat.lt_irrefl 0)) (by simp) (by simp) (by omega) hc2 (fun k u h => by simp at h) (fun k u e h => by simp at h)
  | row _ _ _ _ _ us _ hok hl hu hcap hm hc hr =>
    have h1 : j * z ≤ len * z := Nat.mul_le_mul_right _ hj
    have h2 : i * z + (j - i) * z = j * z := by rw [← Nat.add_mul]; congr 1; omega
    refine .row b (off + i * z) (j - i) cap' z ((us.drop (i * z)).take ((j - i) * z)) _ (fun hpos => hok (by rw [List.length_take, List.length_drop] at hpos; omega)) (by rw [List.length_take, List.length_drop]; omega) (by rw [List.length_take, List.length_drop]; omega) hc' hc2 (fun k u hk => ?_) (fun k u e hk he => ?_)
    · rw [List.getElem?_take] at hk
      split at hk
      · rw [List.getElem?_drop] at hk
        rw [Nat.add_assoc]; exact hc _ _ hk
      · cases hk
    · rw [List.getElem?_take] at hk he
      split at hk
      · rename_i hlt
        rw [if_pos hlt] at he
        rw [List.getElem?_drop] at hk he
        exact hr _ _ _ hk he
      · cases hk

/-- Cells that read so, one by one. -/
def Reps (w : World) (p : Nat → Prop) (us : List Value) (es : List DV) : Prop := us.length = es.length ∧ ∀ (k : Nat) (u : Value) (e : DV), us[k]? = some u → es[k]? = some e → Rep w p u e
theorem Reps.nil (w : World) (p : Nat → Prop) : Reps w p [] [] := ⟨rfl, fun k u e h => by simp at h⟩
theorem Reps.cons {w : World} {p : Nat → Prop} {u : Value} {e : DV} {us : List Value} {es : List DV} (h : Rep w p u e) (hs : Reps w p us es) : Reps w p (u :: us) (e :: es) :=
  ⟨by simp [hs.1], fun k u' e' hk he => by
    cases k with
    | zero => simp at hk he; subst hk he; exact h
    | succ k => exact hs.2 k u' e' (by simpa using hk) (by simpa using he)⟩
theorem Reps.append {w : World} {p : Nat → Prop} {us us' : List Value} {es es' : List DV} (h : Reps w p us es) (h' : Reps w p us' es') : Reps w p (us ++ us') (es ++ es') :=
  ⟨by simp [h.1, h'.1], fun k u e hk he => by
    by_cases hlt : k < us.length
    · rw [List.getElem?_append_left hlt] at hk
      rw [List.getElem?_append_left (by rw [← h.1]; exact hlt)] at he
      exact h.2 k u e hk he
    · rw [List.getElem?_append_right (by omega)] at hk
      rw [List.getElem?_append_right (by rw [← h.1]; omega), ← h.1] at he
      exact h'.2 _ u e hk he⟩
theorem Reps.ok {w : World} {p q : Nat → Prop} {us : List Value} {es : List DV} (h : Reps w p us es) (hpq : ∀ b, p b → q b) : Reps w q us es := ⟨h.1, fun k u e hk he => (h.2 k u e hk he).ok hpq⟩
theorem Reps.kept {w w' : World} {p : Nat → Prop} {us : List Value} {es : List DV} (h : Reps w p us es) (hb : ∀ b, p b → b < w.heap.size → w'.heap[b]? = w.heap[b]?) : Reps w' p us es := ⟨h.1, fun k u e hk he => (h.2 k u e hk he).kept hb⟩
theorem Reps.ext {w w' : World} {p : Nat → Prop} {us : List Value} {es : List DV} (h : Reps w p us es) (hB : Ext w w') : Reps w' p us es := ⟨h.1, fun k u e hk he => (h.2 k u e hk he).ext hB⟩

/-- A row of the call's own: its elements read so, out of blocks that are let and aren't the row's own. -/
def Own (w : World) (p : Nat → Prop) (base : Nat) (e : TypeId) (z : Nat) (v : Value) (n : Nat) (es : List DV) : Prop :=
  ∃ us, w.ownsRow base e z v n us ∧ Reps w (fun b => p b ∧ some b ≠ v.ownBlock ∧ b < w.heap.size) us es
theorem Own.nil (w : World) (p : Nat → Prop) (base : Nat) (e : TypeId) (z : Nat) : Own w p base e z (.slice none 0 0) 0 [] := ⟨[], World.ownsRow_nil _ _ _ _, Reps.nil _ _⟩
theorem Own.len {w : World} {p : Nat → Prop} {base z n : Nat} {e : TypeId} {v : Value} {es : List DV} (h : Own w p base e z v n es) : es.length = n * z := by
  obtain ⟨us, h1, h2⟩ := h
  rw [← h2.1]; exact h1.1
theorem Own.ext {w w' : World} {p : Nat → Prop} {base z n : Nat} {e : TypeId} {v : Value} {es : List DV} (h : Own w p base e z v n es) (hB : Ext w w') : Own w' p base e z v n es := by
  obtain ⟨us, h1, h2⟩ := h
  exact ⟨us, h1.kept (row := none) ⟨hB.os, hB.tape, hB.output, hB.size, fun i hi _ => Below.block hB i hi⟩ (by cases v.ownBlock <;> simp), (h2.ext hB).ok fun b hb => ⟨hb.1, hb.2.1, Nat.lt_of_lt_of_le hb.2.2 hB.size⟩⟩
theorem Own.form {w : World} {p : Nat → Prop} {base z n : Nat} {e : TypeId} {v : Value} {es : List DV} (h : Own w p base e z v n es) : ∃ a cap, v = .slice a n cap ∧ n ≤ cap ∧ cap ≤ 9223372036854775807 := by
  obtain ⟨us, h1, h2⟩ := h
  rcases h1.2 with ⟨rfl, rfl⟩ | ⟨g, cap, cur, rfl, _, _, hn, hm, _⟩
  · exact ⟨none, 0, rfl, by omega, by omega⟩
  · exact ⟨_, cap, rfl, hn, by unfold maxLen at hm; omega⟩
/-- What it reads as, as a slice. -/
theorem Own.rep {w : World} {p : Nat → Prop} {base z n : Nat} {e : TypeId} {v : Value} {es : List DV} (h : Own w p base e z v n es) : Rep w (fun b => p b ∨ base ≤ b) v (.s z es) := by
  obtain ⟨us, h1, h2⟩ := h
  rcases h1.2 with ⟨rfl, rfl⟩ | ⟨g, cap, cur, rfl, hb, hg, hn, hm, hs, ht⟩
  · have : es = [] := List.eq_nil_of_length_eq_zero (by rw [← h2.1, h1.1]; simp)
    subst this; exact .nil z
  · exact .row g 0 n cap z us es (fun _ => Or.inr hb) (by rw [← h2.1]; exact h1.1) h1.1 hn (by unfold maxLen at hm; omega) (fun k u hk => by
      have := h1.cells (g := g) rfl k u hk
      have e0 : (⟨g, 0, none⟩ : Addr).add k = ⟨g, 0 + k, none⟩ := by unfold Addr.add; split <;> simp_all
      rw [e0] at this; exact this) (fun k u d hk hd => (h2.2 k u d hk hd).ok fun b hb => Or.inl hb.1)
/-- One element more (or some): behind the law of append. 'w': the world at the append; the news lie in it. -/
theorem Own.push {w w' : World} {p : Nat → Prop} {base z n m : Nat} {e : TypeId} {v v' : Value} {us ns : List Value} {es ds : List DV}
    (h2 : Reps w (fun b => p b ∧ some b ≠ v.ownBlock ∧ b < w.heap.size) us es) (hn : Reps w (fun b => p b ∧ some b ≠ v.ownBlock ∧ b < w.heap.size) ns ds)
    (hown : w'.ownsRow base e z v' (n + m) (us ++ ns)) (hg : w.grownBy w' v.ownBlock) (hat : v'.ownBlock = v.ownBlock ∨ v'.ownBlock = some w.heap.size) : Own w' p base e z v' (n + m) (es ++ ds) := by
  refine ⟨us ++ ns, hown, ?_⟩
  have hk : ∀ {xs : List Value} {ys : List DV}, Reps w (fun b => p b ∧ some b ≠ v.ownBlock ∧ b < w.heap.size) xs ys → Reps w' (fun b => p b ∧ some b ≠ v'.ownBlock ∧ b < w'.heap.size) xs ys := fun hx =>
    (hx.kept fun b hb hlt => hg.block b hlt hb.2.1).ok fun b hb => ⟨hb.1, by
      rcases hat with h | h
      · rw [h]; exact hb.2.1
      · rw [h]; intro e; have := Option.some.inj e; omega, Nat.lt_of_lt_of_le hb.2.2 hg.size⟩
  exact (hk h2).append (hk hn)
end Go.Proofs.YtmmopcceabdecaaGreatDoor
