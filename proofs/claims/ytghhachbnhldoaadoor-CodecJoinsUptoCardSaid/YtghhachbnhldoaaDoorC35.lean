/-
  Laws drawn from elder texts. Helper lemmas; no statement of the seat is proved here.
-/
import Derived.Test.YtghhachbnhldoaaDoorC34
import Derived.Test.YtghhachbnhldoaaDoorC32
import Derived.Laws.AppendOwnNone
namespace Go.Proofs.YtghhachbnhldoaaDoor
open Go.RowKit
set_option maxRecDepth 100000
set_option linter.unusedVariables false
set_option linter.unusedSimpArgs false

/-- What an append takes from: nothing, or cells. -/
def Src (w : World) (z : Nat) (v : Value) (m : Nat) (news : List Value) : Prop :=
  (v = .slice none 0 0 ∧ m = 0 ∧ news = []) ∨ ∃ ad c, v = .slice (some ad) m c ∧ news.length = m * z ∧ ∀ j u, news[j]? = some u → w.cell? (ad.add j) = some u
theorem add_offs' (b o j : Nat) : (⟨b, o, none⟩ : Addr).add j = ⟨b, o + j, none⟩ := by unfold Addr.add; split <;> simp_all
theorem Src.cells {w : World} {z : Nat} {g o m c : Nat} {news : List Value} (hl : news.length = m * z) (h : ∀ j u, news[j]? = some u → w.cell? ⟨g, o + j, none⟩ = some u) : Src w z (.slice (some ⟨g, o, none⟩) m c) m news :=
  .inr ⟨_, c, rfl, hl, fun j u hj => by rw [add_offs']; exact h j u hj⟩
theorem Src.block {w : World} {z : Nat} {g m c : Nat} {cs : Array Value} {e : TypeId} {fz : Nat × Nat} (h : w.heap[g]? = some (.cells cs e fz)) (hl : cs.size = m * z) : Src w z (.slice (some ⟨g, 0, none⟩) m c) m cs.toList :=
  .cells (by simpa using hl) (fun j u hj => by rw [Nat.zero_add]; simp at hj; simp [World.cell?, h, hj])
theorem Src.ext {w w' : World} {z : Nat} {v : Value} {m : Nat} {news : List Value} (h : Src w z v m news) (hB : Ext w w') : Src w' z v m news := by
  rcases h with h | ⟨ad, c, rfl, hl, hc⟩
  · exact .inl h
  · refine .inr ⟨ad, c, rfl, hl, fun j u hj => ?_⟩
    have h1 := hc j u hj
    have hlt := World.block_lt_of_cell? w _ h1
    exact (World.cell?_of_block (Below.block hB _ hlt)).trans h1
theorem src_drop {P : Program} {w : World} {base z n : Nat} {e t : TypeId} {v : Value} {us : List Value} (hown : w.ownsRow base e z v n us) (ht : P.underlying t = some (.slice (P.elem t))) (hz : ∀ W, (sizeOf (P.elem t)).run P W = .ok z W) (k : Nat) (hk : k ≤ n) :
    ∃ sv, Src w z sv (n - k) (us.drop (k * z)) ∧ ∀ W, (Instr.sliceAt t v (some (.int .i64 k)) none none).run P W = .ok sv W := by
  have hL := hown.1
  have hmul : k * z ≤ n * z := Nat.mul_le_mul_right _ hk
  have hsub : n * z - k * z = (n - k) * z := (Nat.sub_mul n k z).symm
  have hlen : (us.drop (k * z)).length = (n - k) * z := by rw [List.length_drop, hL, hsub]
  rcases hown.2 with ⟨rfl, rfl⟩ | ⟨g, cap, cur, rfl, hb, hg, hn, hm, hs, htk⟩
  · obtain rfl : k = 0 := by omega
    refine ⟨.slice none 0 0, .inl ⟨rfl, rfl, List.eq_nil_of_length_eq_zero (by rw [hlen]; simp)⟩, fun W => ?_⟩
    rw [run_sliceAt_slice W t _ _ _ _ ht, run_slice_l W t none 0 0 ht .i64 _ (by omega) (by omega), hz]
    simp [Result.andThen, sliced]
  · refine ⟨sliced (some ⟨g, 0, none⟩) ((k : Int).toNat) n cap z, ?_, fun W => ?_⟩
    rotate_left
    · rw [run_sliceAt_slice W t _ _ _ _ ht, run_slice_l W t _ n cap ht .i64 _ (by omega) (by omega), hz]
      rfl
    · unfold sliced
      have hcell : ∀ j u, (us.drop (k * z))[j]? = some u → w.cell? ⟨g, 0 + k * z + j, none⟩ = some u := fun j u hj => by
        rw [List.getElem?_drop] at hj
        have := hown.cells (g := g) rfl _ u hj
        rw [add_offs'] at this
        rw [show 0 + k * z + j = 0 + (k * z + j) by omega]; exact this
      simp only [Int.toNat_natCast]
      by_cases h0 : cap = k
      · have h1 : n = k := by omega
        have hnil : us.drop (k * z) = [] := List.eq_nil_of_length_eq_zero (by rw [hlen, h1]; simp)
        rw [if_pos h0, hnil]
        exact .cells (by rw [h1]; simp) (fun j u hj => by simp at hj)
      · rw [if_neg h0]
        simp only [Option.map_some, add_offs']
        exact .cells hlen hcell
theorem exec_slice {P : Program} {ev : Operand → Value} {oi : Oper} {t : TypeId} {x : Operand} {lo hi mx : Option Operand} {sv : Value} {W : World} (ho : oi.op = .slice t x lo hi mx) (h : (Instr.sliceAt t (ev x) (lo.map ev) (hi.map ev) (mx.map ev)).run P W = .ok sv W) :
    (execOp ev oi).run P W = .ok (.value sv) W := by
  unfold execOp
  simp only [ho, Sem.run_bind, h, Result.andThen_ok, Sem.run_pure]
theorem grown_refl (w : World) (row : Option Nat) : w.grownBy w row := by
  have h := World.grownBy_alloc w (.cells #[] 0) row
  exact ⟨rfl, rfl, rfl, Nat.le_refl _, fun _ _ _ => rfl⟩
section
variable {P : Program} {ops : Array Oper} {Q : Exit → Act → World → Prop} {S : World → Prop} {fuel : Nat} {listed : Array Bool} {a : Act} {w : World} {K : Act → World → Prop}
/-- As tk_app, where nothing may be appended too. -/
theorem tk_src (i : Nat) (d : Option Tmp) {oi : Oper} (hi' : ops[i]? = some oi) (hd : oi.dst = d) (hw : Region.wanted oi (yielded ops a.tmps) = true) (s x : Operand) (t : TypeId)
    (ho : oi.op = .call { callee := .builtin .append, args := #[s, x], argTypes := #[t, t] })
    (base : Nat) (e : TypeId) (i0 : TypeInfo) (z : Value) (size bytes : Nat) (ht : P.underlying t = some (.slice e)) (hi : P.info? e = some i0) (hz : i0.zero = some z)
    (hsize : i0.size = size) (hby : i0.bytes = bytes) (hzs : z.cells.size = size) (hsz : 0 < size)
    (v : Value) (n : Nat) (xs : List Value) (hs : a.eval s = v) (hown : w.ownsRow base e size v n xs)
    (sv : Value) (m : Nat) (news : List Value) (hx : a.eval x = sv) (hsrc : Src w size sv m news) (h1 : ∀ u ∈ news, u.oneCell' = true)
    (h63 : n + m ≤ maxLen) (hbytes : (n + m) * bytes ≤ 140737488355328) (hbase : base ≤ w.heap.size)
    (h : ∀ v' w', w'.ownsRow base e size v' (n + m) (xs ++ news) → w.grownBy w' v.ownBlock → (v'.ownBlock = v.ownBlock ∨ v'.ownBlock = some w.heap.size) → K (a.put d v') w') : wpOp P ops Q i K a w := by
  rcases hsrc with ⟨rfl, rfl, rfl⟩ | ⟨ad, c, rfl, hl, hc⟩
  · unfold wpOp
    simp only [hi', hw, if_true]
    refine Or.inl ?_
    have hrun := run_append_owned_none (P := P) (w := w) base t oi.type e i0 size ht hi v n xs hown
    unfold Oper.wp execOp
    simp only [ho, resolve, invoke, builtin, Sem.run_bind, Sem.run_pure, Result.andThen_ok, List.map_toArray, List.map_cons, List.map_nil, hs, hx, hrun]
    rw [Oper.upon_value, hd]
    exact h _ _ (by simpa using hown) (grown_refl _ _) (.inl rfl)
  · exact tk_app i d hi' hd hw s x t ho base e i0 z size bytes ht hi hz hsize hby hzs hsz v n xs hs hown ad m c news hx hl hc h1 h63 hbytes hbase h
end
theorem own_empty' {w : World} {base g z : Nat} {e : TypeId} (hb : base ≤ g) (h : w.heap[g]? = some (.cells #[] e (0, 0))) : w.ownsRow base e z (.slice (some ⟨g, 0, none⟩) 0 0) 0 [] :=
  ⟨by simp, .inr ⟨g, 0, #[], rfl, hb, h, Nat.le_refl _, Nat.zero_le _, by simp, by simp⟩⟩
theorem Reps.drop {w : World} {p : Nat → Prop} {us : List Value} {es : List DV} (h : Reps w p us es) (k : Nat) : Reps w p (us.drop k) (es.drop k) :=
  ⟨by rw [List.length_drop, List.length_drop, h.1], fun j u e hu he => by
    rw [List.getElem?_drop] at hu he; exact h.2 _ _ _ hu he⟩
/-- The cells of a slice, and its parts. -/
theorem rep_src {P : Program} {w : World} {p : Nat → Prop} {z : Nat} {t : TypeId} {a : Option Addr} {n cap : Nat} {es : List DV} (h : Rep w p (.slice a n cap) (.s z es)) (ht : P.underlying t = some (.slice (P.elem t))) (hz : ∀ W, (sizeOf (P.elem t)).run P W = .ok z W) :
    ∃ us, Reps w p us es ∧ us.length = n * z ∧ (∀ k, k ≤ n → ∃ sv, Src w z sv k (us.take (k * z)) ∧ ∀ W, (Instr.sliceAt t (.slice a n cap) none (some (.int .i64 k)) none).run P W = .ok sv W) ∧
      (∀ k, k ≤ n → ∃ sv, Src w z sv (n - k) (us.drop (k * z)) ∧ ∀ W, (Instr.sliceAt t (.slice a n cap) (some (.int .i64 k)) none none).run P W = .ok sv W) ∧ Src w z (.slice a n cap) n us := by
  cases h with
  | nil =>
    refine ⟨[], Reps.nil _ _, by simp, fun k hk => ?_, fun k hk => ?_, .inl ⟨rfl, rfl, rfl⟩⟩
    · obtain rfl : k = 0 := by omega
      refine ⟨.slice none 0 0, .inl ⟨rfl, rfl, by simp⟩, fun W => ?_⟩
      rw [run_sliceAt_slice W t _ _ _ _ ht, run_slice_h W t none 0 0 ht .i64 _ (by omega) (by omega), hz]
      simp [Result.andThen, sliced]
    · obtain rfl : k = 0 := by omega
      refine ⟨.slice none 0 0, .inl ⟨rfl, rfl, by simp⟩, fun W => ?_⟩
      rw [run_sliceAt_slice W t _ _ _ _ ht, run_slice_l W t none 0 0 ht .i64 _ (by omega) (by omega), hz]
      simp [Result.andThen, sliced]
  | emp ad =>
    refine ⟨[], Reps.nil _ _, by simp, fun k hk => ?_, fun k hk => ?_, .inr ⟨ad, 0, rfl, by simp, fun j u h => by simp at h⟩⟩
    · obtain rfl : k = 0 := by omega
      refine ⟨sliced (some ad) 0 ((0 : Nat) : Int).toNat 0 z, .inr ⟨ad, 0, by simp [sliced], by simp, fun j u h => by simp at h⟩, fun W => ?_⟩
      rw [run_sliceAt_slice W t _ _ _ _ ht, run_slice_h W t _ 0 0 ht .i64 _ (by omega) (by omega), hz]; rfl
    · obtain rfl : k = 0 := by omega
      refine ⟨sliced (some ad) ((0 : Nat) : Int).toNat 0 0 z, .inr ⟨ad, 0, by simp [sliced], by simp, fun j u h => by simp at h⟩, fun W => ?_⟩
      rw [run_sliceAt_slice W t _ _ _ _ ht, run_slice_l W t _ 0 0 ht .i64 _ (by omega) (by omega), hz]; rfl
  | row b off _ _ _ us _ hok hl hu hcap hm hc hr =>
    have hcell : ∀ j u, us[j]? = some u → w.cell? ⟨b, off + j, none⟩ = some u := hc
    refine ⟨us, ⟨by rw [hu, hl], hr⟩, hu, fun k hk => ?_, fun k hk => ?_, .cells hu hcell⟩
    · have hmul : k * z ≤ n * z := Nat.mul_le_mul_right _ hk
      refine ⟨sliced (some ⟨b, off, none⟩) 0 ((k : Int).toNat) cap z, ?_, fun W => ?_⟩
      · unfold sliced
        have hlen : (us.take (k * z)).length = k * z := by rw [List.length_take, hu]; omega
        have hcl : ∀ j u, (us.take (k * z))[j]? = some u → w.cell? ⟨b, off + j, none⟩ = some u := fun j u hj => by
          rw [List.getElem?_take] at hj
          split at hj
          · exact hcell j u hj
          · cases hj
        by_cases h0 : cap = 0
        · rw [if_pos h0]
          simp only [Int.toNat_natCast, Nat.sub_zero]
          exact .cells hlen hcl
        · rw [if_neg h0]
          simp only [Int.toNat_natCast, Nat.sub_zero, Option.map_some, add_offs', Nat.zero_mul, Nat.add_zero]
          exact .cells hlen hcl
      · rw [run_sliceAt_slice W t _ _ _ _ ht, run_slice_h W t _ n cap ht .i64 _ (by omega) (by omega), hz]; rfl
    · have hmul : k * z ≤ n * z := Nat.mul_le_mul_right _ hk
      have hsub : n * z - k * z = (n - k) * z := (Nat.sub_mul n k z).symm
      have hlen : (us.drop (k * z)).length = (n - k) * z := by rw [List.length_drop, hu, hsub]
      refine ⟨sliced (some ⟨b, off, none⟩) ((k : Int).toNat) n cap z, ?_, fun W => ?_⟩
      · unfold sliced
        have hcl : ∀ j u, (us.drop (k * z))[j]? = some u → w.cell? ⟨b, off + k * z + j, none⟩ = some u := fun j u hj => by
          rw [List.getElem?_drop] at hj
          rw [Nat.add_assoc]; exact hcell _ u hj
        simp only [Int.toNat_natCast]
        by_cases h0 : cap = k
        · have h1 : n = k := by omega
          have hnil : us.drop (k * z) = [] := List.eq_nil_of_length_eq_zero (by rw [hlen, h1]; simp)
          rw [if_pos h0, hnil]
          exact .cells (by rw [h1]; simp) (fun j u hj => by simp at hj)
        · rw [if_neg h0]
          simp only [Option.map_some, add_offs']
          exact .cells hlen hcl
      · rw [run_sliceAt_slice W t _ _ _ _ ht, run_slice_l W t _ n cap ht .i64 _ (by omega) (by omega), hz]; rfl
/-- What reads as one cell each. -/
def DV.one : DV → Bool
  | .v x => x.oneCell'
  | .s _ _ => true
theorem Rep.one {w : World} {p : Nat → Prop} {u : Value} {e : DV} (h : Rep w p u e) (he : e.one = true) : u.oneCell' = true := by
  cases h with
  | leaf x hx => exact he
  | nil z => rfl
  | emp ad z => rfl
  | row => rfl
theorem Reps.one {w : World} {p : Nat → Prop} {us : List Value} {es : List DV} (h : Reps w p us es) (he : ∀ e ∈ es, e.one = true) : ∀ u ∈ us, u.oneCell' = true := by
  intro u hu
  obtain ⟨k, hk, rfl⟩ := List.getElem_of_mem hu
  have hk' : k < es.length := by rw [← h.1]; exact hk
  exact (h.2 k _ es[k] (List.getElem?_eq_getElem hk) (List.getElem?_eq_getElem hk')).one (he _ (List.getElem_mem hk'))
theorem flat_one {α : Type} {f : α → List DV} (hf : ∀ x, ∀ e ∈ f x, e.one = true) (l : List α) : ∀ e ∈ l.flatMap f, e.one = true := by
  intro e he
  obtain ⟨x, _, hx⟩ := List.mem_flatMap.1 he
  exact hf x e hx
end Go.Proofs.YtghhachbnhldoaaDoor
