/-
  What an argument reads as, opened: slices of structs of slices, as plain data, with their bulk. Helper lemmas; no statement of the seat is proved here.
-/
import Derived.Test.YtmmopcceabdecaaGreatDoorTree
import Derived.Test.YtmmopcceabdecaaGreatDoorRows
import Derived.Deep.Slices
namespace Go.Proofs.YtmmopcceabdecaaGreatDoor
open Go.RowKit Go.Deep
set_option linter.unusedVariables false

theorem cell_spot {w : World} {a : Addr} {v : Value} (h : w.cell? a = some v) : a.spot = none := by
  unfold World.cell? at h
  split at h
  · split at h
    · cases h
    · rename_i h2; simpa using h2
  · cases h
/-- A list's data, one by one. -/
def QL {H : Type} {α : Type} (Q : α → DataW H → Prop) (l : List α) (es : List (DataW H)) : Prop := es.length = l.length ∧ ∀ (i : Nat) (y : α) (e : DataW H), l[i]? = some y → es[i]? = some e → Q y e
/-- A slice's datum. -/
def QS {H : Type} {α : Type} (Q : α → DataW H → Prop) (l : List α) (d : DataW H) : Prop := (l = [] ∧ d = .nil) ∨ ∃ es sp, d = .slice es sp ∧ QL Q l es
theorem pieces {α : Type} (z : Nat) (F : Nat → List α) : ∀ (n : Nat), (∀ i, i < n → (F i).length = z) → ((List.range n).flatMap F).length = n * z ∧ ∀ (k : Nat) (u : α), ((List.range n).flatMap F)[k]? = some u → ∃ i j, i < n ∧ j < z ∧ k = i * z + j ∧ (F i)[j]? = some u
  | 0, _ => by simp
  | n + 1, h => by
    obtain ⟨h1, h2⟩ := pieces z F n fun i hi => h i (by omega)
    rw [List.range_succ, List.flatMap_append]
    have e1 : [n].flatMap F = F n := by simp
    rw [e1]
    refine ⟨by rw [List.length_append, h1, h n (by omega), Nat.add_mul]; omega, fun k u hk => ?_⟩
    by_cases hlt : k < n * z
    · rw [List.getElem?_append_left (by rw [h1]; exact hlt)] at hk
      obtain ⟨i, j, a, b, c, d⟩ := h2 k u hk
      exact ⟨i, j, by omega, b, c, d⟩
    · rw [List.getElem?_append_right (by rw [h1]; omega), h1] at hk
      have hz : k - n * z < z := by have := (List.getElem?_eq_some_iff.1 hk).1; rw [h n (by omega)] at this; exact this
      exact ⟨n, k - n * z, by omega, hz, by omega, hk⟩
theorem reps_pieces {w : World} {p : Nat → Prop} {α : Type} (f : α → List DV) (CS : Nat → List Value) (Y : Nat → α) : ∀ (n : Nat), (∀ i, i < n → Reps w p (CS i) (f (Y i))) → Reps w p ((List.range n).flatMap CS) (((List.range n).map Y).flatMap f)
  | 0, _ => Reps.nil _ _
  | n + 1, h => by
    rw [List.range_succ, List.flatMap_append, List.map_append, List.flatMap_append]
    have e1 : [n].flatMap CS = CS n := by simp
    have e2 : ([n].map Y).flatMap f = f (Y n) := by simp
    rw [e1, e2]
    exact (reps_pieces f CS Y n fun i hi => h i (by omega)).append (h n (by omega))
section
variable {H : Type} {enc : TypeId × Value → H} {P : Program} {w : World} {base : Nat} {held : Bool}
/-- A slice, opened. -/
theorem open_rep {α : Type} [Inhabited α] {f : α → List DV} {z : Nat} (hf : ∀ y, (f y).length = z) {t e : TypeId} (Q : α → DataW H → Prop) (ht : P.underlying t = some (.slice e)) (hc : P.cellsOf e = z) (hz : 0 < z) {fuel : Nat} {cs : List Value} {x : DataW H × List MemPlace}
    (hel : ∀ n cs x, n < fuel → DataW.trod enc P w base (fun _ => true) held n e cs = some x → ∃ y : α, Reps w (fun _ => True) cs (f y) ∧ Q y x.1)
    (h : DataW.trod enc P w base (fun _ => true) held fuel t cs = some x) : ∃ (v : Value) (l : List α), cs = [v] ∧ Rep w (fun _ => True) v (.s z (l.flatMap f)) ∧ QS Q l x.1 := by
  rcases DataW.trod_slice ht h with ⟨rfl, rfl⟩ | ⟨a, len, cap, elems, rest, n, hn, rfl, rfl, hb, hl, hm, hlen, hall, hsp, hns⟩
  · exact ⟨_, [], rfl, .nil z, .inl ⟨rfl, rfl⟩⟩
  · have each : ∀ i, i < len → ∃ q : α × List Value, w.cells? base (a.add (i * z)) z = some q.2 ∧ Reps w (fun _ => True) q.2 (f q.1) ∧ ∀ e', elems[i]? = some e' → Q q.1 e'.1 := fun i hi => by
      have h1 := hall i hi
      have h2 : elems[i]? = some elems[i] := List.getElem?_eq_getElem (by omega)
      rw [h2] at h1
      obtain ⟨cs', h3, h4⟩ := Option.bind_eq_some_iff.1 h1
      obtain ⟨y, h5, h6⟩ := hel n cs' _ (by omega) h4
      rw [hc] at h3
      exact ⟨(y, cs'), h3, h5, fun e' he' => by rw [h2] at he'; cases he'; exact h6⟩
    obtain ⟨q, hq⟩ := choose_lt (α := α × List Value) each
    refine ⟨_, (List.range len).map fun i => (q i).1, rfl, ?_, .inr ⟨_, _, rfl, by rw [List.length_map, List.length_map, List.length_range, hlen], fun i y e' hy he => ?_⟩⟩
    rotate_left
    · rw [List.getElem?_map] at hy he
      obtain ⟨i', hi', rfl⟩ := Option.map_eq_some_iff.1 hy
      obtain ⟨e2, he2, rfl⟩ := Option.map_eq_some_iff.1 he
      have hlt := (List.getElem?_eq_some_iff.1 hi').1
      rw [List.length_range] at hlt
      rw [List.getElem?_range hlt] at hi'
      cases hi'
      exact (hq i hlt).2.2 e2 he2
    · have hcell : ∀ i, i < len → (q i).2.length = z ∧ ∀ j u, (q i).2[j]? = some u → w.cell? ((a.add (i * z)).add j) = some u := fun i hi => by
        obtain ⟨_, h2, h3⟩ := World.cells?_some (hq i hi).1
        refine ⟨h2, fun j u hj => ?_⟩
        have hjz : j < z := by have := (List.getElem?_eq_some_iff.1 hj).1; omega
        rw [h3 j hjz]; exact hj
      have hadd0 : a.add (0 * z) = a := by rw [Nat.zero_mul]; unfold Addr.add; rw [if_pos rfl]
      have hspot : 0 < cap → a.spot = none := fun hcap => by
        by_cases hl0 : 0 < len
        · obtain ⟨h2, h3⟩ := hcell 0 hl0
          have h4 := h3 0 _ (List.getElem?_eq_getElem (by omega))
          rw [hadd0] at h4
          have e : a.add 0 = a := by unfold Addr.add; rw [if_pos rfl]
          rw [e] at h4
          exact cell_spot h4
        · have hs := (hsp rfl).2 0 (by omega)
          have hlen0 : len = 0 := by omega
          have hr : rest.length = cap - len := (hsp rfl).1
          rw [List.getElem?_eq_getElem (by omega)] at hs
          obtain ⟨cs', h3, _⟩ := Option.bind_eq_some_iff.1 hs
          rw [hlen0, hc, show 0 + 0 = 0 from rfl, hadd0] at h3
          obtain ⟨_, h5, h6⟩ := World.cells?_some h3
          have h7 := h6 0 hz
          have e : a.add 0 = a := by unfold Addr.add; rw [if_pos rfl]
          rw [e, List.getElem?_eq_getElem (by omega)] at h7
          exact cell_spot h7
      by_cases hcap : 0 < cap
      · obtain ⟨b, o, sp⟩ := a
        have := hspot hcap
        simp only at this
        subst this
        obtain ⟨hpl, hpc⟩ := pieces z (fun i => (q i).2) len fun i hi => (hcell i hi).1
        have hr := reps_pieces f (fun i => (q i).2) (fun i => (q i).1) len fun i hi => (hq i hi).2.1
        refine .row b o len cap z ((List.range len).flatMap fun i => (q i).2) _ (fun _ => trivial) (by rw [flat_len f z hf, List.length_map, List.length_range]) hpl hl (by unfold maxLen at hm; omega) (fun k u hk => ?_) hr.2
        obtain ⟨i, j, hi, hj, rfl, hu⟩ := hpc k u hk
        have h8 := (hcell i hi).2 j u hu
        have e1 : ((⟨b, o, none⟩ : Addr).add (i * z)).add j = ⟨b, o + (i * z + j), none⟩ := by
          have ha : ∀ (o j : Nat), (⟨b, o, none⟩ : Addr).add j = ⟨b, o + j, none⟩ := fun o j => by unfold Addr.add; split <;> simp_all
          rw [ha, ha, Nat.add_assoc]
        rw [e1] at h8; exact h8
      · obtain rfl : cap = 0 := by omega
        obtain rfl : len = 0 := by omega
        exact .emp a z
/-- A struct whose fields are one cell each, opened. -/
theorem open_fields {t : TypeId} {fs : Array Field} (ht : P.underlying t = some (.struct fs)) (hsz : P.cellsOf t = fs.size) (hoff : ∀ (i : Nat) (f : Field), fs[i]? = some f → f.offset = i ∧ P.cellsOf f.type = 1) {spare : Nat → Bool} {fuel : Nat} {cs : List Value} {x : DataW H × List MemPlace}
    (h : DataW.trod enc P w base spare held fuel t cs = some x) : ∃ (xs : List (DataW H × List MemPlace)) (n : Nat), n < fuel ∧ x.1 = .agg (xs.map (·.1)) ∧ cs.length = fs.size ∧ xs.length = fs.size ∧
      ∀ (i : Nat) (f : Field), fs[i]? = some f → ∃ v y, cs[i]? = some v ∧ xs[i]? = some y ∧ DataW.trod enc P w base spare held n f.type [v] = some y := by
  obtain ⟨xs, n, h1, h2, h3, h4, h5⟩ := DataW.trod_struct ht h
  refine ⟨xs, n, by omega, by rw [h2], by rw [h3, hsz], h4, fun i f hf => ?_⟩
  have hi : i < fs.size := by
    rcases Nat.lt_or_ge i fs.size with h' | h'
    · exact h'
    · rw [Array.getElem?_eq_none h'] at hf; cases hf
  obtain ⟨ho, hcf⟩ := hoff i f hf
  have h6 := h5 i f hf
  rw [ho, hcf, List.getElem?_eq_getElem (show i < xs.length by omega)] at h6
  have hics : i < cs.length := by rw [h3, hsz]; exact hi
  have e : (cs.drop i).take 1 = [cs[i]] := by rw [List.drop_eq_getElem_cons hics]; rfl
  rw [e] at h6
  exact ⟨cs[i], xs[i], List.getElem?_eq_getElem hics, List.getElem?_eq_getElem (show i < xs.length by omega), h6⟩
end
end Go.Proofs.YtmmopcceabdecaaGreatDoor
