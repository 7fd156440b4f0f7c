/-
  Laws drawn from elder texts. Helper lemmas; no statement of the seat is proved here.
-/
import Derived.Test.YtfoclfefjcnllaaGreatDoorD1
import Derived.Deep.QuietTactic
import Derived.BigQuiet
import Derived.Laws.StructEq
import Derived.IntWalk
import Derived.Laws.IdiomStrings
import Derived.Laws.Cover3
import Derived.Laws.Rows
import Derived.RowKitTokens
import Derived.Laws.AppendOwnNone
import Derived.LaidEql
import Derived.Stop.Asserts
namespace Go.Proofs.YtfoclfefjcnllaaGreatDoor
open Go.RowKit
set_option maxRecDepth 100000
set_option linter.unusedVariables false
set_option linter.unusedSimpArgs false

theorem Rep.take {w : World} {p : Nat → Prop} {b off len cap z : Nat} {es : List DV} (h : Rep w p (.slice (some ⟨b, off, none⟩) len cap) (.s z es)) (n : Nat) (hn : n ≤ len) : Rep w p (.slice (some ⟨b, off, none⟩) n cap) (.s z (es.take (n * z))) := by
  obtain ⟨_, _, _, e, _, hc, hm, _⟩ := h.slice
  cases e
  have := h.sub 0 n cap (Nat.zero_le _) hn (by omega) hm
  rw [Nat.zero_mul, Nat.add_zero, List.drop_zero, Nat.sub_zero] at this
  exact this
/-- Some truth comes back, of which P holds. -/
def SomeB (P : Bool → Prop) (e : Ending) : Prop := ∃ b, e = .returned (.bool b) ∧ P b
theorem blk_cell {w : World} {g k : Nat} {cs : Array Value} {t : TypeId} {u : Value} (h : w.heap[g]? = some (.cells cs t (0, 0))) (hk : cs[k]? = some u) : w.cell? ⟨g, k, none⟩ = some u := by simp [World.cell?, h, hk]
theorem blk_free {w : World} {g k : Nat} {cs : Array Value} {t : TypeId} (h : w.heap[g]? = some (.cells cs t (0, 0))) : w.frozen? ⟨g, k, none⟩ = false := by simp [World.frozen?, h]
theorem blk_lt {w : World} {g : Nat} {o : Obj} (h : w.heap[g]? = some o) : g < w.heap.size := by
  rcases Nat.lt_or_ge g w.heap.size with h' | h'
  · exact h'
  · simp [Array.getElem?_eq_none h'] at h
section
variable {P : Program} {ops : Array Oper} {Q : Exit → Act → World → Prop} {S : World → Prop} {fuel : Nat} {listed : Array Bool} {a : Act} {w : World} {K : Act → World → Prop}
/-- One operation alone may come up. -/
theorem rg_one (i : Nat) (hr : Region.ready .any ops listed = [i]) (h1 : wpOp P ops Q i (fun a w => S w ∧ wpAnyH P .any ops Q S fuel (listed.setIfInBounds i true) a w) a w) : wpAnyH P .any ops Q S (fuel + 1) listed a w := by
  refine wpAnyH_all hr (by simp) fun j hj => ?_
  obtain rfl : j = i := by simpa using hj
  exact h1
/-- One of two operations comes up. -/
theorem rg_two (i j : Nat) (hr : Region.ready .any ops listed = [i, j]) (h1 : wpOp P ops Q i (fun a w => S w ∧ wpAnyH P .any ops Q S fuel (listed.setIfInBounds i true) a w) a w)
    (h2 : wpOp P ops Q j (fun a w => S w ∧ wpAnyH P .any ops Q S fuel (listed.setIfInBounds j true) a w) a w) : wpAnyH P .any ops Q S (fuel + 1) listed a w := by
  refine wpAnyH_all hr (by simp) fun k hk => ?_
  have hk' : k = i ∨ k = j := by simpa using hk
  rcases hk' with rfl | rfl
  · exact h1
  · exact h2
/-- The operation makes a block. -/
theorem tk_new (i : Nat) (d : Option Tmp) (o : Obj) (f : Nat → Value) {oi : Oper} (hi : ops[i]? = some oi) (hd : oi.dst = d) (hw : Region.wanted oi (yielded ops a.tmps) = true)
    (hrun : (execOp a.eval oi).run P w = .ok (.value (f w.heap.size)) (w.alloc o)) (h : ∀ g W, g = w.heap.size → Ext w W → W.heap.size = w.heap.size + 1 → W.heap[g]? = some o → K (a.put d (f g)) W) : wpOp P ops Q i K a w := by
  unfold wpOp
  simp only [hi, hw, if_true]
  refine Or.inl ?_
  unfold Oper.wp
  rw [hrun, Oper.upon_value, hd]
  exact h _ _ rfl ((Ext.refl w).alloc _) (by simp) Array.getElem?_push_size
/-- The operation appends to a row of the call's own. -/
theorem tk_app (i : Nat) (d : Option Tmp) {oi : Oper} (hi' : ops[i]? = some oi) (hd : oi.dst = d) (hw : Region.wanted oi (yielded ops a.tmps) = true) (s x : Operand) (t : TypeId)
    (ho : oi.op = .call { callee := .builtin .append, args := #[s, x], argTypes := #[t, t] })
    (base : Nat) (e : TypeId) (i0 : TypeInfo) (z : Value) (size bytes : Nat) (ht : P.underlying t = some (.slice e)) (hi : P.info? e = some i0) (hz : i0.zero = some z)
    (hsize : i0.size = size) (hby : i0.bytes = bytes) (hzs : z.cells.size = size) (hsz : 0 < size)
    (v : Value) (n : Nat) (xs : List Value) (hs : a.eval s = v) (hown : w.ownsRow base e size v n xs)
    (ad : Addr) (m c : Nat) (news : List Value) (hx : a.eval x = .slice (some ad) m c) (hl : news.length = m * size) (hnews : ∀ j u, news[j]? = some u → w.cell? (ad.add j) = some u) (h1 : ∀ u ∈ news, u.oneCell' = true)
    (h63 : n + m ≤ maxLen) (hbytes : (n + m) * bytes ≤ 140737488355328) (hbase : base ≤ w.heap.size)
    (h : ∀ v' w', w'.ownsRow base e size v' (n + m) (xs ++ news) → w.grownBy w' v.ownBlock → (v'.ownBlock = v.ownBlock ∨ v'.ownBlock = some w.heap.size) → K (a.put d v') w') : wpOp P ops Q i K a w := by
  unfold wpOp
  simp only [hi', hw, if_true]
  refine Or.inl ?_
  obtain ⟨v', w', hr, h2, h3, h4, h5⟩ := run_append_own_at (P := P) w base t oi.type e i0 z size bytes ht hi hz hsize hby hzs hsz v n xs hown ad m c news hl hnews h1 h63 hbytes hbase
  unfold Oper.wp execOp
  simp only [ho, resolve, invoke, builtin, Sem.run_bind, Sem.run_pure, Result.andThen_ok, List.map_toArray, List.map_cons, List.map_nil, hs, hx, hr]
  rw [Oper.upon_value, hd]
  exact h v' w' h2 h3 h5
end
theorem rows_ext {w w' : World} {base z n : Nat} {e : TypeId} {v : Value} {us : List Value} (h : w.ownsRow base e z v n us) (hB : Ext w w') : w'.ownsRow base e z v n us :=
  h.kept (row := none) ⟨hB.os, hB.tape, hB.output, hB.size, fun i hi _ => Below.block hB i hi⟩ (by cases v.ownBlock <;> simp)
theorem sx_grown {a w w' : World} {z n : Nat} {e : TypeId} {v : Value} {us : List Value} (h : Sx a w) (hown : w.ownsRow a.heap.size e z v n us) (hg : w.grownBy w' v.ownBlock) : Sx a w' :=
  Below.grown h hg (Below.size h) fun k hk => (hown.lt k hk).1
theorem Rep.lt {w : World} {p : Nat → Prop} {v : Value} {d : DV} (h : Rep w p v d) : Rep w (fun b => p b ∧ b < w.heap.size) v d := by
  induction h with
  | leaf x hx => exact .leaf x hx
  | nil z => exact .nil z
  | emp ad z => exact .emp ad z
  | row b off len cap z us es hok hl hu hcap hm hc hr ih =>
    refine .row b off len cap z us es (fun hpos => ⟨hok hpos, ?_⟩) hl hu hcap hm hc ih
    exact World.block_lt_of_cell? w _ (hc 0 us[0] (List.getElem?_eq_getElem hpos))
/-- A row of numbers of one kind. -/
def numsD (k : IntKind) (l : List Int) : DV := .s 1 (l.flatMap fun c => [.v (.int k c)])
theorem z_num (k : IntKind) (x : Int) : ([.v (.int k x)] : List DV).length = 1 := rfl
/-- A text's bytes as numbers. -/
def byI (s : Bytes) : List Int := s.map fun c => (c.toNat : Int)
theorem byI_len (s : Bytes) : (byI s).length = s.length := by simp [byI]
/-- A new row, as it reads. -/
theorem new_row {w : World} {e : TypeId} {cs : Array Value} {fz : Nat × Nat} {us : List Value} {z cap : Nat} {len : Nat} {es : List DV} (W : World) (hW : W.heap[w.heap.size]? = some (.cells cs e fz)) (hl : es.length = len * z) (hu : us.length = len * z) (hc : len ≤ cap) (hm : cap ≤ 9223372036854775807)
    (hcs : ∀ (k : Nat) (u : Value), us[k]? = some u → cs[k]? = some u) (hr : ∀ (k : Nat) (u : Value) (d : DV), us[k]? = some u → es[k]? = some d → Rep W (fun b => w.heap.size ≤ b) u d) :
    Rep W (fun b => w.heap.size ≤ b) (.slice (some ⟨w.heap.size, 0, none⟩) len cap) (.s z es) :=
  .row _ 0 len cap z us es (fun _ => Nat.le_refl _) hl hu hc hm (fun k u hk => by rw [Nat.zero_add]; simp [World.cell?, hW, hcs k u hk]) hr
theorem nums_reps (w : World) (p : Nat → Prop) (k : IntKind) : ∀ l : List Int, Reps w p (l.map fun y => Value.int k y) (l.flatMap fun y => [.v (.int k y)])
  | [] => Reps.nil _ _
  | y :: r => Reps.cons (Rep.int _ _ _ _) (nums_reps w p k r)
/-- '[]byte(s)'. -/
theorem conv_bytes (w : World) (s : Bytes) (h : s.length ≤ 9223372036854775807) : ∃ v W, (convert 9 70 (.string (bs s))).run Tryz.prog w = .ok v W ∧ Ext w W ∧ Rep W (fun b => w.heap.size ≤ b) v (numsD .u8 (byI s)) := by
  have hsz : (bs s).size = s.length := bs_size s
  have hl : (bs s).size ≤ maxLen := by rw [hsz]; unfold maxLen; omega
  have hg := grownCap_le_maxLen w (bs s).size 0 5 hl
  have hge := grownCap_ge w (bs s).size 0 5
  refine ⟨_, _, run_bytes_of_string w 9 70 5 (bs s) Tryz.underlying9 Tryz.underlying70 Tryz.underlying5, (Ext.refl w).drew.alloc _, ?_⟩
  rw [hsz] at hg hge ⊢
  unfold maxLen at hg
  refine new_row (us := (byI s).map fun y => Value.int .u8 y) (cs := bytesRow (bs s) (grownCap w s.length 0 5)) (e := 5) _ (Array.getElem?_push_size ..) (by rw [flat_len _ 1 (z_num .u8), byI_len]) (by simp [byI_len]) hge (by omega) (fun k u hk => ?_) (nums_reps _ _ _ _).2
  unfold bytesRow
  rw [List.getElem?_map] at hk
  have hlt : k < s.length := by
    rcases Nat.lt_or_ge k s.length with h' | h'
    · exact h'
    · rw [List.getElem?_eq_none (by rw [byI_len]; exact h')] at hk; cases hk
  rw [Array.getElem?_append_left (by simp [hsz, hlt])]
  rw [List.getElem?_eq_getElem (by rw [byI_len]; exact hlt)] at hk
  simp [byI, bs, hlt] at hk ⊢
  exact hk
/-- What an append takes from: nothing, or cells. -/
def Src (w : World) (z : Nat) (v : Value) (m : Nat) (news : List Value) : Prop :=
  (v = .slice none 0 0 ∧ m = 0 ∧ news = []) ∨ ∃ ad c, v = .slice (some ad) m c ∧ news.length = m * z ∧ ∀ j u, news[j]? = some u → w.cell? (ad.add j) = some u
theorem add_offs' (b o j : Nat) : (⟨b, o, none⟩ : Addr).add j = ⟨b, o + j, none⟩ := by unfold Addr.add; split <;> simp_all
theorem Src.cells {w : World} {z : Nat} {g o m c : Nat} {news : List Value} (hl : news.length = m * z) (h : ∀ j u, news[j]? = some u → w.cell? ⟨g, o + j, none⟩ = some u) : Src w z (.slice (some ⟨g, o, none⟩) m c) m news :=
  .inr ⟨_, c, rfl, hl, fun j u hj => by rw [add_offs']; exact h j u hj⟩
theorem Src.block {w : World} {z : Nat} {g m c : Nat} {cs : Array Value} {e : TypeId} {fz : Nat × Nat} (h : w.heap[g]? = some (.cells cs e fz)) (hl : cs.size = m * z) : Src w z (.slice (some ⟨g, 0, none⟩) m c) m cs.toList :=
  .cells (by simpa using hl) (fun j u hj => by rw [Nat.zero_add]; simp at hj; simp [World.cell?, h, hj])
theorem Src.ext {w w' : World} {z : Nat} {v : Value} {m : Nat} {news : List Value} (h : Src w z v m news) (hB : Ext w w') : Src w' z v m news := by
  rcases h with h | ⟨ad, c, rfl, hl, hc⟩
  · exact .inl h
  · refine .inr ⟨ad, c, rfl, hl, fun j u hj => ?_⟩
    have h1 := hc j u hj
    have hlt := World.block_lt_of_cell? w _ h1
    exact (World.cell?_of_block (Below.block hB _ hlt)).trans h1
/-- The first ones of a row, and the last ones. -/
theorem src_take {P : Program} {w : World} {base z n : Nat} {e t : TypeId} {v : Value} {us : List Value} (hown : w.ownsRow base e z v n us) (ht : P.underlying t = some (.slice (P.elem t))) (hz : ∀ W, (sizeOf (P.elem t)).run P W = .ok z W) (k : Nat) (hk : k ≤ n) :
    ∃ sv, Src w z sv k (us.take (k * z)) ∧ ∀ W, (Instr.sliceAt t v none (some (.int .i64 k)) none).run P W = .ok sv W := by
  have hL := hown.1
  have hmul : k * z ≤ n * z := Nat.mul_le_mul_right _ hk
  rcases hown.2 with ⟨rfl, rfl⟩ | ⟨g, cap, cur, rfl, hb, hg, hn, hm, hs, htk⟩
  · obtain rfl : k = 0 := by omega
    refine ⟨.slice none 0 0, .inl ⟨rfl, rfl, by simp⟩, fun W => ?_⟩
    rw [run_sliceAt_slice W t _ _ _ _ ht, run_slice_h W t none 0 0 ht .i64 _ (by omega) (by omega), hz]
    simp [Result.andThen, sliced]
  · refine ⟨sliced (some ⟨g, 0, none⟩) 0 ((k : Int).toNat) cap z, ?_, fun W => ?_⟩
    rotate_left
    · rw [run_sliceAt_slice W t _ _ _ _ ht, run_slice_h W t _ n cap ht .i64 _ (by omega) (by omega), hz]
      rfl
    · unfold sliced
      have hcell : ∀ j u, (us.take (k * z))[j]? = some u → w.cell? ⟨g, 0 + j, none⟩ = some u := fun j u hj => by
        rw [List.getElem?_take] at hj
        split at hj
        · have := hown.cells (g := g) rfl j u hj
          rw [add_offs'] at this; exact this
        · cases hj
      have hlen : (us.take (k * z)).length = k * z := by rw [List.length_take, hL]; omega
      by_cases h0 : cap = 0
      · rw [if_pos h0]
        simp only [Int.toNat_natCast, Nat.sub_zero]
        exact .cells hlen hcell
      · rw [if_neg h0]
        simp only [Int.toNat_natCast, Nat.sub_zero, Option.map_some, add_offs', Nat.zero_mul]
        exact .cells hlen hcell
theorem src_drop {P : Program} {w : World} {base z n : Nat} {e t : TypeId} {v : Value} {us : List Value} (hown : w.ownsRow base e z v n us) (ht : P.underlying t = some (.slice (P.elem t))) (hz : ∀ W, (sizeOf (P.elem t)).run P W = .ok z W) (k : Nat) (hk : k ≤ n) :
    ∃ sv, Src w z sv (n - k) (us.drop (k * z)) ∧ ∀ W, (Instr.sliceAt t v (some (.int .i64 k)) none none).run P W = .ok sv W := by
  have hL := hown.1
  have hmul : k * z ≤ n * z := Nat.mul_le_mul_right _ hk
  have hsub : n * z - k * z = (n - k) * z := (Nat.sub_mul n k z).symm
  have hlen : (us.drop (k * z)).length = (n - k) * z := by rw [List.length_drop, hL, hsub]
  rcases hown.2 with ⟨rfl, rfl⟩ | ⟨g, cap, cur, rfl, hb, hg, hn, hm, hs, htk⟩
  · obtain rfl : k = 0 := by omega
    refine ⟨.slice none 0 0, .inl ⟨rfl, rfl, List.eq_nil_of_length_eq_zero (by rw [hlen]; simp)⟩, fun W => ?_⟩
    rw [run_sliceAt_slice W t _ _ _ _ ht, run_slice_l W t none 0 0 ht .i64 _ (by omega) (by omega), hz]
    simp [Result.andThen, sliced]
  · refine ⟨sliced (some ⟨g, 0, none⟩) ((k : Int).toNat) n cap z, ?_, fun W => ?_⟩
    rotate_left
    · rw [run_sliceAt_slice W t _ _ _ _ ht, run_slice_l W t _ n cap ht .i64 _ (by omega) (by omega), hz]
      rfl
    · unfold sliced
      have hcell : ∀ j u, (us.drop (k * z))[j]? = some u → w.cell? ⟨g, 0 + k * z + j, none⟩ = some u := fun j u hj => by
        rw [List.getElem?_drop] at hj
        have := hown.cells (g := g) rfl _ u hj
        rw [add_offs'] at this
        rw [show 0 + k * z + j = 0 + (k * z + j) by omega]; exact this
      simp only [Int.toNat_natCast]
      by_cases h0 : cap = k
      · have h1 : n = k := by omega
        have hnil : us.drop (k * z) = [] := List.eq_nil_of_length_eq_zero (by rw [hlen, h1]; simp)
        rw [if_pos h0, hnil]
        exact .cells (by rw [h1]; simp) (fun j u hj => by simp at hj)
      · rw [if_neg h0]
        simp only [Option.map_some, add_offs']
        exact .cells hlen hcell
theorem exec_slice {P : Program} {ev : Operand → Value} {oi : Oper} {t : TypeId} {x : Operand} {lo hi mx : Option Operand} {sv : Value} {W : World} (ho : oi.op = .slice t x lo hi mx) (h : (Instr.sliceAt t (ev x) (lo.map ev) (hi.map ev) (mx.map ev)).run P W = .ok sv W) :
    (execOp ev oi).run P W = .ok (.value sv) W := by
  unfold execOp
  simp only [ho, Sem.run_bind, h, Result.andThen_ok, Sem.run_pure]
theorem grown_refl (w : World) (row : Option Nat) : w.grownBy w row := by
  have h := World.grownBy_alloc w (.cells #[] 0) row
  exact ⟨rfl, rfl, rfl, Nat.le_refl _, fun _ _ _ => rfl⟩
section
variable {P : Program} {ops : Array Oper} {Q : Exit → Act → World → Prop} {S : World → Prop} {fuel : Nat} {listed : Array Bool} {a : Act} {w : World} {K : Act → World → Prop}
/-- As tk_app, where nothing may be appended too. -/
theorem tk_src (i : Nat) (d : Option Tmp) {oi : Oper} (hi' : ops[i]? = some oi) (hd : oi.dst = d) (hw : Region.wanted oi (yielded ops a.tmps) = true) (s x : Operand) (t : TypeId)
    (ho : oi.op = .call { callee := .builtin .append, args := #[s, x], argTypes := #[t, t] })
    (base : Nat) (e : TypeId) (i0 : TypeInfo) (z : Value) (size bytes : Nat) (ht : P.underlying t = some (.slice e)) (hi : P.info? e = some i0) (hz : i0.zero = some z)
    (hsize : i0.size = size) (hby : i0.bytes = bytes) (hzs : z.cells.size = size) (hsz : 0 < size)
    (v : Value) (n : Nat) (xs : List Value) (hs : a.eval s = v) (hown : w.ownsRow base e size v n xs)
    (sv : Value) (m : Nat) (news : List Value) (hx : a.eval x = sv) (hsrc : Src w size sv m news) (h1 : ∀ u ∈ news, u.oneCell' = true)
    (h63 : n + m ≤ maxLen) (hbytes : (n + m) * bytes ≤ 140737488355328) (hbase : base ≤ w.heap.size)
    (h : ∀ v' w', w'.ownsRow base e size v' (n + m) (xs ++ news) → w.grownBy w' v.ownBlock → (v'.ownBlock = v.ownBlock ∨ v'.ownBlock = some w.heap.size) → K (a.put d v') w') : wpOp P ops Q i K a w := by
  rcases hsrc with ⟨rfl, rfl, rfl⟩ | ⟨ad, c, rfl, hl, hc⟩
  · unfold wpOp
    simp only [hi', hw, if_true]
    refine Or.inl ?_
    have hrun := run_append_owned_none (P := P) (w := w) base t oi.type e i0 size ht hi v n xs hown
    unfold Oper.wp execOp
    simp only [ho, resolve, invoke, builtin, Sem.run_bind, Sem.run_pure, Result.andThen_ok, List.map_toArray, List.map_cons, List.map_nil, hs, hx, hrun]
    rw [Oper.upon_value, hd]
    exact h _ _ (by simpa using hown) (grown_refl _ _) (.inl rfl)
  · exact tk_app i d hi' hd hw s x t ho base e i0 z size bytes ht hi hz hsize hby hzs hsz v n xs hs hown ad m c news hx hl hc h1 h63 hbytes hbase h
end
theorem own_empty' {w : World} {base g z : Nat} {e : TypeId} (hb : base ≤ g) (h : w.heap[g]? = some (.cells #[] e (0, 0))) : w.ownsRow base e z (.slice (some ⟨g, 0, none⟩) 0 0) 0 [] :=
  ⟨by simp, .inr ⟨g, 0, #[], rfl, hb, h, Nat.le_refl _, Nat.zero_le _, by simp, by simp⟩⟩
theorem rows_mono {w : World} {base base' z n : Nat} {e : TypeId} {v : Value} {us : List Value} (h : w.ownsRow base e z v n us) (hb : base' ≤ base) : w.ownsRow base' e z v n us := by
  refine ⟨h.1, ?_⟩
  rcases h.2 with h2 | ⟨g, cap, cur, rfl, hg, hr⟩
  · exact .inl h2
  · exact .inr ⟨g, cap, cur, rfl, Nat.le_trans hb hg, hr⟩
theorem Reps.take {w : World} {p : Nat → Prop} {us : List Value} {es : List DV} (h : Reps w p us es) (k : Nat) : Reps w p (us.take k) (es.take k) :=
  ⟨by rw [List.length_take, List.length_take, h.1], fun j u e hu he => by
    rw [List.getElem?_take] at hu he
    split at hu
    · rename_i hlt; rw [if_pos hlt] at he; exact h.2 _ _ _ hu he
    · cases hu⟩
theorem Reps.drop {w : World} {p : Nat → Prop} {us : List Value} {es : List DV} (h : Reps w p us es) (k : Nat) : Reps w p (us.drop k) (es.drop k) :=
  ⟨by rw [List.length_drop, List.length_drop, h.1], fun j u e hu he => by
    rw [List.getElem?_drop] at hu he; exact h.2 _ _ _ hu he⟩
/-- What reads as one cell each. -/
def DV.one : DV → Bool
  | .v x => x.oneCell'
  | .s _ _ => true
theorem Rep.one {w : World} {p : Nat → Prop} {u : Value} {e : DV} (h : Rep w p u e) (he : e.one = true) : u.oneCell' = true := by
  cases h with
  | leaf x hx => exact he
  | nil z => rfl
  | emp ad z => rfl
  | row => rfl
theorem Reps.one {w : World} {p : Nat → Prop} {us : List Value} {es : List DV} (h : Reps w p us es) (he : ∀ e ∈ es, e.one = true) : ∀ u ∈ us, u.oneCell' = true := by
  intro u hu
  obtain ⟨k, hk, rfl⟩ := List.getElem_of_mem hu
  have hk' : k < es.length := by rw [← h.1]; exact hk
  exact (h.2 k _ es[k] (List.getElem?_eq_getElem hk) (List.getElem?_eq_getElem hk')).one (he _ (List.getElem_mem hk'))
theorem flat_one {α : Type} {f : α → List DV} (hf : ∀ x, ∀ e ∈ f x, e.one = true) (l : List α) : ∀ e ∈ l.flatMap f, e.one = true := by
  intro e he
  obtain ⟨x, _, hx⟩ := List.mem_flatMap.1 he
  exact hf x e hx
/-- What is asked at the end of a region whose last operation is walked for itself. -/
def QLast (P : Program) (ops : Array Oper) (last : Nat) (Q : Exit → Act → World → Prop) : Exit → Act → World → Prop
  | .normal, a, w => wpOp P ops Q last (fun a w => Q .normal a w) a w
  | e, a, w => Q e a w
section
variable {P : Program} {ops ops' : Array Oper} {Q : Exit → Act → World → Prop}
theorem ready_eq (hsz : ops'.size = ops.size) (ha : ∀ i : Nat, (ops'[i]?).map (·.after) = (ops[i]?).map (·.after)) (listed : Array Bool) : Region.ready .any ops' listed = Region.ready .any ops listed := by
  unfold Region.ready
  rw [hsz]
  refine List.filter_congr fun i _ => ?_
  have h := ha i
  cases h1 : ops'[i]? <;> cases h2 : ops[i]? <;> simp_all
theorem yielded_eq (hd : ∀ i : Nat, (ops'[i]?).bind (·.dst) = (ops[i]?).bind (·.dst)) (tmps : Array Value) : yielded ops' tmps = yielded ops tmps := by
  funext j
  unfold yielded
  rw [hd j]
theorem upon_qlast (last : Nat) (o : Oper) (a : Act) (K : Act → World → Prop) (r : Result Next) (h : o.upon P a K (QLast P ops last Q) r) : o.upon P a K Q r := by
  cases r with
  | ok n w' =>
    cases n
    case enter f args =>
      refine Calls.mono h fun e w'' he => ?_
      cases e <;> exact he
    all_goals exact h
  | halt x w' => cases x <;> exact h
/-- An operation that hasn't come up, and none may: there is none, where each waits for earlier ones alone. -/
theorem ready_some (hord : ∀ (i : Nat) (o : Oper), ops[i]? = some o → ∀ e ∈ o.after, Region.binds .any e = true → e.on < i) (listed : Array Bool) (k : Nat) (hk : k < ops.size) (hl : listed.getD k true = false) (hls : listed.size = ops.size) :
    ∃ i, i ∈ Region.ready .any ops listed := by
  induction k using Nat.strongRecOn with
  | ind k ih =>
    by_cases h : ∃ j, j < k ∧ listed.getD j true = false
    · obtain ⟨j, hj, hlj⟩ := h
      exact ih j hj (by omega) hlj
    · refine ⟨k, ?_⟩
      unfold Region.ready
      rw [List.mem_filter]
      refine ⟨List.mem_range.2 hk, ?_⟩
      rw [hl]
      obtain ⟨o, ho⟩ : ∃ o, ops[k]? = some o := ⟨_, Array.getElem?_eq_getElem hk⟩
      rw [ho]
      simp only [Bool.not_false, Bool.true_and, Option.map_some, Option.getD_some, List.all_eq_true, Bool.or_eq_true, Bool.not_eq_true', Array.all_eq_true']
      intro e he
      by_cases hb : Region.binds .any e = true
      · right
        have hon := hord k o ho e he hb
        have h1 : ¬ listed.getD e.on true = false := fun h2 => h ⟨_, hon, h2⟩
        have hlt : e.on < listed.size := by omega
        simp [Array.getD, hlt] at h1 ⊢
        exact h1
      · left; simpa using hb
theorem wpAny_last (last : Nat) (hm : P.follows .mixedOrders = true) (hsz : ops'.size = ops.size) (hl : last < ops.size) (hsame : ∀ i : Nat, i ≠ last → ops'[i]? = ops[i]?)
    (ol ol' : Oper) (hol : ops[last]? = some ol) (hol' : ops'[last]? = some ol') (hd : ol.dst = none) (hd' : ol'.dst = none) (haf : ol'.after = ol.after) (hop : ol'.op = .move (.const (.bool true))) (hg : ol'.guard = none)
    (hwait : ∀ j : Nat, j < ops.size → j ≠ last → ∃ e ∈ ol.after, Region.binds .any e = true ∧ e.on = j)
    (hord : ∀ (i : Nat) (o : Oper), ops[i]? = some o → ∀ e ∈ o.after, Region.binds .any e = true → e.on < i) :
    ∀ (fuel : Nat) (listed : Array Bool) (a : Act) (w : World), listed.size = ops.size → listed.getD last true = false → wpAny P .any ops' (QLast P ops last Q) fuel listed a w → wpAny P .any ops Q fuel listed a w := by
  have ha : ∀ i : Nat, (ops'[i]?).map (·.after) = (ops[i]?).map (·.after) := fun i => by
    by_cases h : i = last
    · subst h; rw [hol, hol']; simp [haf]
    · rw [hsame i h]
  have hdd : ∀ i : Nat, (ops'[i]?).bind (·.dst) = (ops[i]?).bind (·.dst) := fun i => by
    by_cases h : i = last
    · subst h; rw [hol, hol']; simp [hd, hd']
    · rw [hsame i h]
  have hy := fun tmps => yielded_eq (ops := ops) (ops' := ops') hdd tmps
  have hr := fun listed => ready_eq (ops := ops) (ops' := ops') hsz ha listed
  intro fuel
  induction fuel with
  | zero =>
    intro listed a w hls hll h
    obtain ⟨i, hi⟩ := ready_some hord listed last hl hll hls
    have h1 := h.1
    rw [hr] at h1
    rw [h1] at hi; cases hi
  | succ fuel ih =>
    intro listed a w hls hll h
    obtain ⟨h0, h1⟩ := h
    rw [hr] at h0 h1
    refine ⟨fun he => ?_, fun i hi => ?_⟩
    · obtain ⟨i, hi⟩ := ready_some hord listed last hl hll hls
      rw [he] at hi; cases hi
    · have h2 := h1 i hi
      by_cases hil : i = last
      · subst hil
        have hall : Region.ready .any ops (listed.setIfInBounds i true) = [] := by
          rw [List.eq_nil_iff_forall_not_mem]
          intro j hj
          unfold Region.ready at hj hi
          rw [List.mem_filter] at hj hi
          have hjs := List.mem_range.1 hj.1
          by_cases e : j = i
          · subst e
            have := hj.2
            simp [Array.getD, hls, hl] at this
          · obtain ⟨e1, he1, hb1, ho1⟩ := hwait j hjs e
            have h3 := hi.2
            rw [hol] at h3
            simp only [Option.map_some, Option.getD_some, Bool.and_eq_true, Array.all_eq_true'] at h3
            have h4 := h3.2 e1 he1
            rw [hb1, ho1] at h4
            have h5 := hj.2
            have hjl : j < listed.size := by omega
            simp [Array.getD, hjl, Array.getElem_setIfInBounds, Ne.symm e] at h4 h5
            rw [h4] at h5
            simp at h5
        have h3 : wpAny P .any ops' (QLast P ops i Q) fuel (listed.setIfInBounds i true) a w := by
          unfold wpOp at h2
          simp only [hol'] at h2
          have hwn : Region.wanted ol' (yielded ops' a.tmps) = true := by unfold Region.wanted; rw [hg]
          rw [if_pos hwn] at h2
          rcases h2 with h2 | ⟨h2, _⟩
          · have hrun : (execOp a.eval ol').run P w = .ok (.value (.bool true)) w := by unfold execOp; rw [hop]; rfl
            unfold Oper.wp at h2
            rw [hrun, Oper.upon_value, hd'] at h2
            exact h2
          · exfalso
            have := h2.1
            have hrt : ((execOp a.eval ol').runT P w #[]).2 = #[] := by unfold execOp; rw [hop]; rfl
            rw [hrt] at this
            simp at this
        have h4 : QLast P ops i Q .normal a w := by
          cases fuel with
          | zero => exact h3.2
          | succ f => exact h3.1 (by rw [hr]; exact hall)
        refine wpOp_mono (fun a w hq => ?_) h4
        cases fuel with
        | zero => exact ⟨hall, hq⟩
        | succ f => exact ⟨fun _ => hq, fun j hj => by rw [hall] at hj; cases hj⟩
      · have h3 := wpOp_mono (fun a' w' h' => ih (listed.setIfInBounds i true) a' w' (by simpa using hls) (by
          have hlt : last < listed.size := by omega
          simp [Array.getD, hlt, Array.getElem_setIfInBounds] at hll ⊢
          exact ⟨hil, hll⟩) h') h2
        unfold wpOp at h3 ⊢
        rw [hsame i hil] at h3
        cases ho : ops[i]? with
        | none => simp only [ho] at h3; exact h3
        | some o =>
          simp only [ho] at h3 ⊢
          rw [hy] at h3
          split at h3
          · rename_i hw
            rw [if_pos hw]
            rcases h3 with h3 | ⟨h3, h4⟩
            · exact Or.inl (upon_qlast last o a _ _ h3)
            · exact Or.inr ⟨h3, h4⟩
          · rename_i hw
            rw [if_neg hw]
            exact h3
/-- A region whose last operation waits for all others: it is walked for itself. -/
theorem rg_last {S : World → Prop} {id : Nat} {a : Act} {w : World} (ops' : Array Oper) (last : Nat) (ol ol' : Oper) (hm : P.follows .mixedOrders = true) (hsz : ops'.size = ops.size) (hl : last < ops.size) (hsame : ∀ i : Nat, i < ops.size → i ≠ last → ops'[i]? = ops[i]?)
    (hol : ops[last]? = some ol) (hol' : ops'[last]? = some ol') (hd : ol.dst = none) (hd' : ol'.dst = none) (haf : ol'.after = ol.after) (hop : ol'.op = .move (.const (.bool true))) (hg : ol'.guard = none)
    (hwait : ((List.range ops.size).all fun j => j == last || ol.after.any fun e => Region.binds .any e && e.on == j) = true)
    (hord : ((List.range ops.size).all fun i => ((ops[i]?).map fun o => o.after.all fun e => !Region.binds .any e || decide (e.on < i)).getD true) = true)
    (hS : S w.drew) (h : wpAnyH P .any ops' (QLast P ops last Q) S ops'.size (Array.replicate ops'.size false) a w.drew) : (Code.region id ops true).wp P Q a w := by
  refine wp_region_any hm (wpAny_last (ops' := ops') last hm hsz hl (fun i hi => ?_) ol ol' hol hol' hd hd' haf hop hg (fun j hj hjl => ?_) (fun i o ho e he hb => ?_) ops.size _ a _ (by simp) (by simp [Array.getD, hl]) ?_)
  · by_cases h : i < ops.size
    · exact hsame i h hi
    · rw [Array.getElem?_eq_none (by omega), Array.getElem?_eq_none (by omega)]
  · have := (List.all_eq_true.1 hwait) j (List.mem_range.2 hj)
    rw [Bool.or_eq_true] at this
    rcases this with h1 | h1
    · exact absurd (by simpa using h1) hjl
    · simp only [Array.any_eq_true', Bool.and_eq_true, beq_iff_eq] at h1
      obtain ⟨e, he, h2⟩ := h1
      exact ⟨e, he, h2⟩
  · have hi : i < ops.size := by
      rcases Nat.lt_or_ge i ops.size with h' | h'
      · exact h'
      · rw [Array.getElem?_eq_none h'] at ho; cases ho
    have := (List.all_eq_true.1 hord) i (List.mem_range.2 hi)
    rw [ho] at this
    simp only [Option.map_some, Option.getD_some, Array.all_eq_true'] at this
    have := this e he
    rw [hb] at this
    simpa using this
  · have := wpAny_of_held _ _ _ _ h
    rw [hsz] at this
    exact this
end
/-- What a region leaves, told once for all orders. -/
def QM (R : Act → World → Prop) (Q : Exit → Act → World → Prop) : Exit → Act → World → Prop
  | .normal, a, w => R a w
  | e, a, w => Q e a w
theorem region_merge {P : Program} {Q : Exit → Act → World → Prop} {c : Code} {a : Act} {w : World} (R : Act → Act → World → Prop) (h1 : c.wp P (QM (R a) Q) a w) (h2 : ∀ a' w', R a a' w' → Q .normal a' w') : c.wp P Q a w := by
  refine Code.wp_mono (fun e a w h => ?_) h1
  cases e
  case normal => exact h2 _ _ h
  all_goals exact h
section
variable {P : Program} {ops : Array Oper} {Q : Exit → Act → World → Prop} {S : World → Prop} {fuel : Nat} {listed : Array Bool} {a : Act} {w : World} {K : Act → World → Prop}
/-- The operation is a call of function f, by what it leaves. -/
theorem tk_call (i : Nat) (d : Option Tmp) (f : FuncId) (vals : Array Value) {oi : Oper} (hi : ops[i]? = some oi) (hd : oi.dst = d) (hw : Region.wanted oi (yielded ops a.tmps) = true)
    (hrun : ∀ w', (execOp a.eval oi).run P w' = .ok (.enter f vals) w') {R : Value → World → Prop}
    (hc : Calls P f vals w fun e w' => ∃ v, e = .returned v ∧ R v w') (h : ∀ v w', R v w' → K (a.put d v) w') : wpOp P ops Q i K a w := by
  unfold wpOp
  simp only [hi, hw, if_true]
  refine Or.inl ?_
  unfold Oper.wp
  rw [hrun w, Oper.upon_enter]
  refine hc.mono fun e w' ⟨v, he, hR⟩ => ?_
  subst he
  dsimp only
  rw [hd]
  exact h v w' hR
/-- The operation writes. -/
theorem tk_write (i : Nat) (d : Option Tmp) (w1 : World) {oi : Oper} (hi : ops[i]? = some oi) (hd : oi.dst = d) (hw : Region.wanted oi (yielded ops a.tmps) = true)
    (hrun : (execOp a.eval oi).run P w = .ok .skip w1) (h : K (a.put d undef) w1) : wpOp P ops Q i K a w := by
  unfold wpOp
  simp only [hi, hw, if_true]
  refine Or.inl ?_
  unfold Oper.wp
  rw [hrun, Oper.upon_skip, hd]
  exact h
/-- The region's last operation put aside. -/
theorem rg_aside {id : Nat} (last : Nat) (ol : Oper) (hm : P.follows .mixedOrders = true) (hl : last < ops.size) (hol : ops[last]? = some ol) (hd : ol.dst = none)
    (hwait : ((List.range ops.size).all fun j => j == last || ol.after.any fun e => Region.binds .any e && e.on == j) = true)
    (hord : ((List.range ops.size).all fun i => ((ops[i]?).map fun o => o.after.all fun e => !Region.binds .any e || decide (e.on < i)).getD true) = true)
    (hS : S w.drew) (h : wpAnyH P .any (ops.setIfInBounds last { ol with op := .move (.const (.bool true)), guard := none }) (QLast P ops last Q) S (ops.setIfInBounds last { ol with op := .move (.const (.bool true)), guard := none }).size (Array.replicate (ops.setIfInBounds last { ol with op := .move (.const (.bool true)), guard := none }).size false) a w.drew) :
    (Code.region id ops true).wp P Q a w :=
  rg_last (ops.setIfInBounds last { ol with op := .move (.const (.bool true)), guard := none }) last ol { ol with op := .move (.const (.bool true)), guard := none } hm (by simp) hl (fun i _ hne => Array.getElem?_setIfInBounds_ne (Ne.symm hne)) hol (by simp [hl]) hd hd rfl rfl rfl hwait hord hS h
end
theorem Reps.lt {w : World} {p : Nat → Prop} {us : List Value} {es : List DV} (h : Reps w p us es) : Reps w (fun b => p b ∧ b < w.heap.size) us es := ⟨h.1, fun k u e hu he => (h.2 k u e hu he).lt⟩
/-- The cells of a slice, and its parts. -/
theorem rep_src {P : Program} {w : World} {p : Nat → Prop} {z : Nat} {t : TypeId} {a : Option Addr} {n cap : Nat} {es : List DV} (h : Rep w p (.slice a n cap) (.s z es)) (ht : P.underlying t = some (.slice (P.elem t))) (hz : ∀ W, (sizeOf (P.elem t)).run P W = .ok z W) :
    ∃ us, Reps w p us es ∧ us.length = n * z ∧ (∀ k, k ≤ n → ∃ sv, Src w z sv k (us.take (k * z)) ∧ ∀ W, (Instr.sliceAt t (.slice a n cap) none (some (.int .i64 k)) none).run P W = .ok sv W) ∧
      (∀ k, k ≤ n → ∃ sv, Src w z sv (n - k) (us.drop (k * z)) ∧ ∀ W, (Instr.sliceAt t (.slice a n cap) (some (.int .i64 k)) none none).run P W = .ok sv W) ∧ Src w z (.slice a n cap) n us := by
  cases h with
  | nil =>
    refine ⟨[], Reps.nil _ _, by simp, fun k hk => ?_, fun k hk => ?_, .inl ⟨rfl, rfl, rfl⟩⟩
    · obtain rfl : k = 0 := by omega
      refine ⟨.slice none 0 0, .inl ⟨rfl, rfl, by simp⟩, fun W => ?_⟩
      rw [run_sliceAt_slice W t _ _ _ _ ht, run_slice_h W t none 0 0 ht .i64 _ (by omega) (by omega), hz]
      simp [Result.andThen, sliced]
    · obtain rfl : k = 0 := by omega
      refine ⟨.slice none 0 0, .inl ⟨rfl, rfl, by simp⟩, fun W => ?_⟩
      rw [run_sliceAt_slice W t _ _ _ _ ht, run_slice_l W t none 0 0 ht .i64 _ (by omega) (by omega), hz]
      simp [Result.andThen, sliced]
  | emp ad =>
    refine ⟨[], Reps.nil _ _, by simp, fun k hk => ?_, fun k hk => ?_, .inr ⟨ad, 0, rfl, by simp, fun j u h => by simp at h⟩⟩
    · obtain rfl : k = 0 := by omega
      refine ⟨sliced (some ad) 0 ((0 : Nat) : Int).toNat 0 z, .inr ⟨ad, 0, by simp [sliced], by simp, fun j u h => by simp at h⟩, fun W => ?_⟩
      rw [run_sliceAt_slice W t _ _ _ _ ht, run_slice_h W t _ 0 0 ht .i64 _ (by omega) (by omega), hz]; rfl
    · obtain rfl : k = 0 := by omega
      refine ⟨sliced (some ad) ((0 : Nat) : Int).toNat 0 0 z, .inr ⟨ad, 0, by simp [sliced], by simp, fun j u h => by simp at h⟩, fun W => ?_⟩
      rw [run_sliceAt_slice W t _ _ _ _ ht, run_slice_l W t _ 0 0 ht .i64 _ (by omega) (by omega), hz]; rfl
  | row b off _ _ _ us _ hok hl hu hcap hm hc hr =>
    have hcell : ∀ j u, us[j]? = some u → w.cell? ⟨b, off + j, none⟩ = some u := hc
    refine ⟨us, ⟨by rw [hu, hl], hr⟩, hu, fun k hk => ?_, fun k hk => ?_, .cells hu hcell⟩
    · have hmul : k * z ≤ n * z := Nat.mul_le_mul_right _ hk
      refine ⟨sliced (some ⟨b, off, none⟩) 0 ((k : Int).toNat) cap z, ?_, fun W => ?_⟩
      · unfold sliced
        have hlen : (us.take (k * z)).length = k * z := by rw [List.length_take, hu]; omega
        have hcl : ∀ j u, (us.take (k * z))[j]? = some u → w.cell? ⟨b, off + j, none⟩ = some u := fun j u hj => by
          rw [List.getElem?_take] at hj
          split at hj
          · exact hcell j u hj
          · cases hj
        by_cases h0 : cap = 0
        · rw [if_pos h0]
          simp only [Int.toNat_natCast, Nat.sub_zero]
          exact .cells hlen hcl
        · rw [if_neg h0]
          simp only [Int.toNat_natCast, Nat.sub_zero, Option.map_some, add_offs', Nat.zero_mul, Nat.add_zero]
          exact .cells hlen hcl
      · rw [run_sliceAt_slice W t _ _ _ _ ht, run_slice_h W t _ n cap ht .i64 _ (by omega) (by omega), hz]; rfl
    · have hmul : k * z ≤ n * z := Nat.mul_le_mul_right _ hk
      have hsub : n * z - k * z = (n - k) * z := (Nat.sub_mul n k z).symm
      have hlen : (us.drop (k * z)).length = (n - k) * z := by rw [List.length_drop, hu, hsub]
      refine ⟨sliced (some ⟨b, off, none⟩) ((k : Int).toNat) n cap z, ?_, fun W => ?_⟩
      · unfold sliced
        have hcl : ∀ j u, (us.drop (k * z))[j]? = some u → w.cell? ⟨b, off + k * z + j, none⟩ = some u := fun j u hj => by
          rw [List.getElem?_drop] at hj
          rw [Nat.add_assoc]; exact hcell _ u hj
        simp only [Int.toNat_natCast]
        by_cases h0 : cap = k
        · have h1 : n = k := by omega
          have hnil : us.drop (k * z) = [] := List.eq_nil_of_length_eq_zero (by rw [hlen, h1]; simp)
          rw [if_pos h0, hnil]
          exact .cells (by rw [h1]; simp) (fun j u hj => by simp at hj)
        · rw [if_neg h0]
          simp only [Option.map_some, add_offs']
          exact .cells hlen hcl
      · rw [run_sliceAt_slice W t _ _ _ _ ht, run_slice_l W t _ n cap ht .i64 _ (by omega) (by omega), hz]; rfl
/-- The world is la it was, but for one block, and what is new. -/
def Exc (g : Nat) (a w : World) : Prop := a.heap.size ≤ w.heap.size ∧ ∀ b, b ≠ g → b < a.heap.size → w.heap[b]? = a.heap[b]?
theorem Exc.refl (g : Nat) (a : World) : Exc g a a := ⟨Nat.le_refl _, fun _ _ _ => rfl⟩
theorem Exc.ext {g : Nat} {a w w' : World} (h : Exc g a w) (hB : Ext w w') : Exc g a w' := ⟨Nat.le_trans h.1 hB.size, fun b h1 h2 => (Below.block hB b (Nat.lt_of_lt_of_le h2 h.1)).trans (h.2 b h1 h2)⟩
theorem Exc.set {g : Nat} {a w : World} (h : Exc g a w) {p : Addr} (hp : p.block = g) (u : Value) : Exc g a (w.setCell p u) := ⟨by simpa using h.1, fun b h1 h2 => by rw [Below.heap_setCell _ _ _ _ (by omega)]; exact h.2 b h1 h2⟩
theorem Rep.exc {g : Nat} {a w : World} {p : Nat → Prop} {v : Value} {d : DV} (h : Rep a p v d) (hp : ∀ b, p b → b ≠ g) (hm : Exc g a w) : Rep w p v d := h.kept fun b hb hlt => hm.2 b (hp b hb) hlt
theorem exec_store {P : Program} {ev : Operand → Value} {oi : Oper} {t : TypeId} {x y : Operand} {W W' : World} (ho : oi.op = .store t x y) (h : (Instr.storeAt t (ev x) (ev y)).run P W = .ok () W') :
    (execOp ev oi).run P W = .ok .skip W' := by
  unfold execOp
  simp only [ho, Sem.run_bind, h, Result.andThen_ok, Sem.run_pure]
theorem store_slice {P : Program} {W : World} {b o : Nat} {u : Value} (t : TypeId) (hs : ∀ W, (sizeOf t).run P W = .ok 1 W) (hc : W.cell? ⟨b, o, none⟩ = some u) (hf : W.frozen? ⟨b, o, none⟩ = false) (a : Option Addr) (n c : Nat) :
    (Instr.storeAt t (.pointer (some ⟨b, o, none⟩)) (.slice a n c)).run P W = .ok () (W.setCell ⟨b, o, none⟩ (.slice a n c)) := by
  go_simp
theorem rep_none {w : World} {p : Nat → Prop} {len cap z : Nat} {es : List DV} (h : Rep w p (.slice none len cap) (.s z es)) : len = 0 ∧ cap = 0 ∧ es = [] := by cases h; exact ⟨rfl, rfl, rfl⟩
theorem rep_some {w : World} {p : Nat → Prop} {ad : Addr} {len cap z : Nat} {es : List DV} (h : Rep w p (.slice (some ad) len cap) (.s z es)) : ∃ us, Reps w p us es ∧ us.length = len * z ∧ (∀ (j : Nat) (u : Value), us[j]? = some u → w.cell? (ad.add j) = some u) := by
  cases h with
  | emp => exact ⟨[], Reps.nil _ _, by simp, fun j u h => by simp at h⟩
  | row b off _ _ _ us _ hok hl hu hcap hm hc hr => exact ⟨us, ⟨by rw [hu, hl], hr⟩, hu, fun j u hj => by rw [add_offs']; exact hc j u hj⟩
/-- The package-level variable of errors is laid. -/
def GlobE (w : World) : Prop := w.cell? ⟨0, 0, none⟩ = some (.iface 114 (.agg #[.pointer (some ⟨12, 31, none⟩)])) ∧ 0 < w.heap.size
theorem GlobE.ext {w w' : World} (h : GlobE w) (hB : Ext w w') : GlobE w' := ⟨hB.keep h.2 h.1, Nat.lt_of_lt_of_le h.2 hB.size⟩
/-- A wrapped error of a code and a place. -/
def ErrV (w : World) (lo : Nat) (code at' : Int) (v : Value) : Prop := ∃ b1 b2, v = .iface 77 (.pointer (some ⟨b1, 0, none⟩)) ∧ b1 < w.heap.size ∧ b2 < w.heap.size ∧ w.cell? ⟨b1, 1, none⟩ = some (.iface 52 (.pointer (some ⟨b2, 0, none⟩))) ∧ w.cell? ⟨b2, 0, none⟩ = some (.int .i64 code) ∧ w.cell? ⟨b2, 1, none⟩ = some (.int .i64 at') ∧ lo ≤ b1 ∧ lo ≤ b2
theorem ErrV.ext {w w' : World} {lo : Nat} {code at' : Int} {v : Value} (h : ErrV w lo code at' v) (hB : Ext w w') : ErrV w' lo code at' v := by
  obtain ⟨b1, b2, h0, h1, h2, h3, h4, h5, h6⟩ := h
  exact ⟨b1, b2, h0, Nat.lt_of_lt_of_le h1 hB.size, Nat.lt_of_lt_of_le h2 hB.size, hB.keep h1 h3, hB.keep h2 h4, hB.keep h2 h5, h6⟩
theorem ErrV.exc {w w' : World} {g lo : Nat} {code at' : Int} {v : Value} (h : ErrV w lo code at' v) (hg : g < lo) (hB : Exc g w w') : ErrV w' lo code at' v := by
  obtain ⟨b1, b2, h0, h1, h2, h3, h4, h5, h6, h7⟩ := h
  have k1 := World.cell?_of_block (a := ⟨b1, 1, none⟩) (hB.2 b1 (by omega) h1)
  have k2 := World.cell?_of_block (a := ⟨b2, 0, none⟩) (hB.2 b2 (by omega) h2)
  have k3 := World.cell?_of_block (a := ⟨b2, 1, none⟩) (hB.2 b2 (by omega) h2)
  exact ⟨b1, b2, h0, Nat.lt_of_lt_of_le h1 hB.1, Nat.lt_of_lt_of_le h2 hB.1, k1.trans h3, k2.trans h4, k3.trans h5, h6, h7⟩
theorem new_any (code at' : Int) (hc : code ≠ 0) (w : World) : Calls Tryz.prog 16 #[.int .i64 code, .int .i64 at'] w fun e w' => e = .returned (.iface 52 (.pointer (some ⟨w.heap.size, 0, none⟩))) ∧ w' = w.alloc (.cells #[.int .i64 code, .int .i64 at'] 56) := by
  have q : (code == 0) = false := by rw [beq_eq_false_iff_ne]; exact hc
  clear hc
  go_enter Tryz.func16, Tryz.ntmps16
  go_wp2_with fail
  go_ret
  exact ⟨rfl, rfl⟩
theorem wrap_any (s : ByteArray) (v : Value) (w : World) : Calls Tryz.prog 15 #[.string s, .iface 52 v] w fun e w' => e = .returned (.iface 77 (.pointer (some ⟨w.heap.size, 0, none⟩))) ∧ w' = w.alloc (.cells #[.string s, .iface 52 v] 79) := by
  go_enter Tryz.func15, Tryz.ntmps15
  go_wp2_with fail
  go_ret
  exact ⟨rfl, rfl⟩
theorem code_nil (w : World) : Calls Tryz.prog 8 #[.nilIface] w fun e w' => e = .returned (.int .i64 0) ∧ Ext w w' := by
  go_enter Tryz.func8, Tryz.ntmps8
  go_wp2_with fail
  go_ret
  exact ⟨rfl, (Ext.refl w).alloc _⟩
set_option maxHeartbeats 4000000 in
theorem code_any (code at' : Int) (lo : Nat) (v : Value) (w : World) (hg : GlobE w) (h : ErrV w lo code at' v) : Calls Tryz.prog 8 #[v] w fun e w' => e = .returned (.int .i64 code) ∧ Ext w w' := by
  obtain ⟨b1, b2, rfl, l1, l2, h3, h4, h5, _⟩ := h
  obtain ⟨w1, hw1⟩ : ∃ w1, w.alloc (.cells #[.pointer none] 52) = w1 := ⟨_, rfl⟩
  have hE1 : Ext w w1 := by rw [← hw1]; exact (Ext.refl w).alloc _
  have lt0 : w.heap.size < w1.heap.size := by rw [← hw1]; simp
  have t0 : w1.cell? ⟨w.heap.size, 0, none⟩ = some (.pointer none) := by rw [← hw1]; simp [go_sem]
  have f0 : w1.frozen? ⟨w.heap.size, 0, none⟩ = false := by rw [← hw1]; simp [go_sem]
  have HC := Lib.hid (as_wrapped b1 b2 ⟨w.heap.size, 0, none⟩ _ w1 (hg.ext hE1).1 t0 f0 (Nat.lt_of_lt_of_le l1 hE1.size) (hE1.keep l1 h3))
  have HW := Lib.hid hw1
  clear hw1
  go_enter Tryz.func8, Tryz.ntmps8
  go_wp2_with fail
  rw [HW.out]
  refine HC.out.mono ?_
  rintro e w2 ⟨rfl, W, hEW, hw2⟩
  have hX := hE1.trans hEW
  have ct : w2.cell? ⟨w.heap.size, 0, none⟩ = some (.pointer (some ⟨b2, 0, none⟩)) := by
    have := hEW.keep lt0 t0
    rw [hw2]; simp [go_sem, this]
  have c0 : w2.cell? ⟨b2, 0, none⟩ = some (.int .i64 code) := by
    rw [hw2, World.cell?_setCell_far _ _ _ _ (by simp only; omega)]
    exact hX.keep l2 h4
  have hE2 : Ext w w2 := by rw [hw2]; exact hX.set (Nat.le_refl _) _
  clear hw2 HC
  go_wp2_with fail
  go_ret
  exact ⟨rfl, hE2⟩
set_option maxHeartbeats 4000000 in
theorem at_any (code at' : Int) (lo : Nat) (v : Value) (w : World) (hg : GlobE w) (h : ErrV w lo code at' v) : Calls Tryz.prog 9 #[v] w fun e w' => e = .returned (.int .i64 at') ∧ Ext w w' := by
  obtain ⟨b1, b2, rfl, l1, l2, h3, h4, h5, _⟩ := h
  obtain ⟨w1, hw1⟩ : ∃ w1, w.alloc (.cells #[.pointer none] 52) = w1 := ⟨_, rfl⟩
  have hE1 : Ext w w1 := by rw [← hw1]; exact (Ext.refl w).alloc _
  have lt0 : w.heap.size < w1.heap.size := by rw [← hw1]; simp
  have t0 : w1.cell? ⟨w.heap.size, 0, none⟩ = some (.pointer none) := by rw [← hw1]; simp [go_sem]
  have f0 : w1.frozen? ⟨w.heap.size, 0, none⟩ = false := by rw [← hw1]; simp [go_sem]
  have HC := Lib.hid (as_wrapped b1 b2 ⟨w.heap.size, 0, none⟩ _ w1 (hg.ext hE1).1 t0 f0 (Nat.lt_of_lt_of_le l1 hE1.size) (hE1.keep l1 h3))
  have HW := Lib.hid hw1
  clear hw1
  go_enter Tryz.func9, Tryz.ntmps9
  go_wp2_with fail
  rw [HW.out]
  refine HC.out.mono ?_
  rintro e w2 ⟨rfl, W, hEW, hw2⟩
  have hX := hE1.trans hEW
  have ct : w2.cell? ⟨w.heap.size, 0, none⟩ = some (.pointer (some ⟨b2, 0, none⟩)) := by
    have := hEW.keep lt0 t0
    rw [hw2]; simp [go_sem, this]
  have c0 : w2.cell? ⟨b2, 1, none⟩ = some (.int .i64 at') := by
    rw [hw2, World.cell?_setCell_far _ _ _ _ (by simp only; omega)]
    exact hX.keep l2 h5
  have hE2 : Ext w w2 := by rw [hw2]; exact hX.set (Nat.le_refl _) _
  clear hw2 HC
  go_wp2_with fail
  go_ret
  exact ⟨rfl, hE2⟩
theorem Own.keep {w w' : World} {p : Nat → Prop} {base z n : Nat} {e : TypeId} {v : Value} {es : List DV} {row : Option Nat} (h : Own w p base e z v n es) (hg : w.grownBy w' row) (hv : v.ownBlock = none ∨ v.ownBlock ≠ row) (hp : ∀ g, row = some g → ¬ p g) : Own w' p base e z v n es := by
  obtain ⟨us, h1, h2⟩ := h
  exact ⟨us, h1.kept hg hv, (h2.kept fun b hb hlt => hg.block b hlt (fun e => hp b e.symm hb.1)).ok fun b hb => ⟨hb.1, hb.2.1, Nat.lt_of_lt_of_le hb.2.2 hg.size⟩⟩
theorem rep_lit {w : World} {cs : Array Value} {e : TypeId} {n z : Nat} {es : List DV} (hs : cs.size = n * z) (hl : es.length = n * z) (hn : n ≤ 9223372036854775807) (hr : Reps w (fun _ => True) cs.toList es) :
    Rep (w.alloc (.cells cs e)) (fun _ => True) (.slice (some ⟨w.heap.size, 0, none⟩) n n) (.s z es) := by
  have hr' := hr.ext ((Ext.refl w).alloc (.cells cs e))
  refine .row w.heap.size 0 n n z cs.toList es (fun _ => trivial) hl (by simpa using hs) (Nat.le_refl _) hn (fun k u hk => ?_) hr'.2
  rw [Nat.zero_add]
  have h := World.cell?_alloc_mark w cs e (0, 0) k
  rw [h, ← hk]; simp
theorem blk_cells {w : World} {g : Nat} {xs : List Value} {e : TypeId} (h : w.heap[g]? = some (.cells xs.toArray e (0, 0))) (k : Nat) {u : Value} (hk : xs[k]? = some u) : w.cell? ⟨g, k, none⟩ = some u := blk_cell h (by simpa using hk)
@[go_sem] theorem run_store_func (P : Program) (w : World) (a : Addr) (m : Mode) (f : Fn) (x y : Array Value) : (store a (.func f x y) m).run P w = stored P w a (.func f x y) m := run_store P w a _ m rfl
/-- Operation i waits for j, by so many steps at most. -/
def waits (ops : Array Oper) : Nat → Nat → Nat → Bool
  | 0, _, _ => false
  | n + 1, i, j => ((ops[i]?).map fun o => o.after.any fun e => Region.binds .any e && (e.on == j || waits ops n e.on j)).getD false
/-- The first k have come up. -/
def cutL (n k : Nat) : Array Bool := (List.replicate k true ++ List.replicate (n - k) false).toArray
def QCut (P : Program) (ops : Array Oper) (k : Nat) (Q : Exit → Act → World → Prop) : Exit → Act → World → Prop
  | .normal, a, w => ∀ fuel, ops.size - k ≤ fuel → wpAny P .any ops Q fuel (cutL ops.size k) a w
  | e, a, w => Q e a w
section
variable {P : Program} {ops ops1 : Array Oper} {Q : Exit → Act → World → Prop}
/-- What has come up has all it waits for behind it. -/
def Shut (ops : Array Oper) (listed : Array Bool) : Prop := ∀ i : Nat, listed.getD i false = true → ∀ o, ops[i]? = some o → ∀ e ∈ o.after, Region.binds .any e = true → listed.getD e.on false = true
theorem Shut.waits {listed : Array Bool} (h : Shut ops listed) : ∀ (n i j : Nat), (∀ o, ops[i]? = some o → ∀ e ∈ o.after, Region.binds .any e = true → listed.getD e.on false = true) → waits ops n i j = true → listed.getD j false = true
  | 0, i, j, _, hw => by cases hw
  | n + 1, i, j, hi, hw => by
    unfold Go.Proofs.YtfoclfefjcnllaaGreatDoor.waits at hw
    cases ho : ops[i]? with
    | none => rw [ho] at hw; cases hw
    | some o =>
      rw [ho] at hw
      simp only [Option.map_some, Option.getD_some, Array.any_eq_true', Bool.and_eq_true, Bool.or_eq_true, beq_iff_eq] at hw
      obtain ⟨e, he, hb, h2⟩ := hw
      have h1 := hi o ho e he hb
      rcases h2 with h2 | h2
      · rw [← h2]; exact h1
      · exact Shut.waits h n e.on j (h e.on h1) h2
theorem upon_qcut (k : Nat) (o : Oper) (a : Act) (K : Act → World → Prop) (r : Result Next) (h : o.upon P a K (QCut P ops k Q) r) : o.upon P a K Q r := by
  cases r with
  | ok n w' =>
    cases n
    case enter f args =>
      refine Calls.mono h fun e w'' he => ?_
      cases e <;> exact he
    all_goals exact h
  | halt x w' => cases x <;> exact h
theorem getD_false {listed : Array Bool} {j : Nat} (hj : j < listed.size) (b : Bool) : listed.getD j b = listed.getD j false := by simp [Array.getD, hj]
theorem wpAny_cut (k : Nat) (hk : k ≤ ops.size) (h1 : ∀ i : Nat, ops1[i]? = if i < k then ops[i]? else none)
    (hord : ∀ (i : Nat) (o : Oper), i < k → ops[i]? = some o → (∀ e ∈ o.after, Region.binds .any e = true → e.on < i) ∧ ∀ j b, o.guard = some (j, b) → j < k)
    (hpost : ∀ i : Nat, i < ops.size → k ≤ i → ∀ j, j < k → waits ops ops.size i j = true) :
    ∀ (fuel1 : Nat) (listed : Array Bool) (a : Act) (w : World), listed.size = ops.size → Shut ops listed → (∀ j, k ≤ j → j < ops.size → listed.getD j false = false) →
      wpAny P .any ops1 (QCut P ops k Q) fuel1 listed a w → ∀ fuel, fuel1 + (ops.size - k) ≤ fuel → wpAny P .any ops Q fuel listed a w := by
  have hnone : ∀ (listed : Array Bool) (a : Act) (w : World), listed.size = ops.size → (∀ j, k ≤ j → j < ops.size → listed.getD j false = false) → Region.ready .any ops1 listed = [] → QCut P ops k Q .normal a w → ∀ fuel, ops.size - k ≤ fuel → wpAny P .any ops Q fuel listed a w := by
    intro listed a w hls hlo hr hq fuel hf
    have hall : ∀ j, j < k → listed.getD j false = true := by
      intro j
      induction j using Nat.strongRecOn with
      | ind j ih =>
        intro hj
        cases hl : listed.getD j false with
        | true => rfl
        | false =>
          exfalso
          have hjo : j < ops.size := by omega
          have ho : ops[j]? = some ops[j] := Array.getElem?_eq_getElem hjo
          have hm : j ∈ Region.ready .any ops1 listed := mem_ready.2 ⟨by rw [getD_false (by omega)]; exact hl, ops[j], by rw [h1, if_pos hj, ho], fun e he hb => ih e.on ((hord j _ hj ho).1 e he hb) (by have := (hord j _ hj ho).1 e he hb; omega)⟩
          rw [hr] at hm; cases hm
    have he : listed = cutL ops.size k := by
      apply Array.ext
      · simp [cutL]; omega
      · intro i hi1 hi2
        have hg : listed.getD i false = listed[i] := by simp [Array.getD, hi1]
        by_cases hik : i < k
        · rw [← hg, hall i hik]; simp [cutL, List.getElem_append, hik]
        · rw [← hg, hlo i (by omega) (by omega)]; simp [cutL, List.getElem_append, hik]
    rw [he]
    exact hq fuel hf
  have hsub : ∀ (listed : Array Bool) (i : Nat), i < k → (i ∈ Region.ready .any ops listed ↔ i ∈ Region.ready .any ops1 listed) := fun listed i hi => by
    rw [mem_ready, mem_ready, h1, if_pos hi]
  intro fuel1
  induction fuel1 with
  | zero =>
    intro listed a w hls hsh hlo h fuel hf
    exact hnone listed a w hls hlo h.1 h.2 fuel (by omega)
  | succ fuel1 ih =>
    intro listed a w hls hsh hlo h fuel hf
    by_cases hr : Region.ready .any ops1 listed = []
    · exact hnone listed a w hls hlo hr (h.1 hr) fuel (by omega)
    · obtain ⟨f, rfl⟩ : ∃ f, fuel = f + 1 := ⟨fuel - 1, by omega⟩
      refine ⟨fun he => ?_, fun i hi => ?_⟩
      · obtain ⟨j, hj⟩ := List.exists_mem_of_ne_nil _ hr
        have hjk : j < k := by
          obtain ⟨_, o, ho, _⟩ := mem_ready.1 hj
          rw [h1] at ho
          by_cases c : j < k
          · exact c
          · rw [if_neg c] at ho; cases ho
        have := (hsub listed j hjk).2 hj
        rw [he] at this; cases this
      · obtain ⟨hu, o, ho, hal⟩ := mem_ready.1 hi
        have his : i < ops.size := (Array.getElem?_eq_some_iff.1 ho).1
        have hik : i < k := by
          by_cases c : i < k
          · exact c
          · exfalso
            obtain ⟨j, hj⟩ := List.exists_mem_of_ne_nil _ hr
            obtain ⟨hju, o', ho', _⟩ := mem_ready.1 hj
            rw [h1] at ho'
            by_cases cj : j < k
            · have hw := hsh.waits ops.size i j (fun o2 ho2 e he hb => by rw [ho] at ho2; cases ho2; exact hal e he hb) (hpost i his (by omega) j cj)
              rw [getD_false (by omega)] at hju
              rw [hju] at hw; cases hw
            · rw [if_neg cj] at ho'; cases ho'
        have h2 := h.2 i ((hsub listed i hik).1 hi)
        have h3 := wpOp_mono (fun a' w' h' => ih (listed.setIfInBounds i true) a' w' (by simpa using hls) (fun i' hi' o2 ho2 e he hb => by
          have hlt : ∀ m : Nat, listed.getD m false = true → (listed.setIfInBounds i true).getD m false = true := fun m hm => by
            by_cases hmi : i = m
            · subst hmi; simp [Array.getD, hls, his]
            · rw [getD_set_ne false hmi]; exact hm
          by_cases hii : i = i'
          · subst hii
            rw [ho] at ho2; cases ho2
            exact hlt _ (hal e he hb)
          · rw [getD_set_ne false hii] at hi'
            exact hlt _ (hsh i' hi' o2 ho2 e he hb)) (fun j hj1 hj2 => by rw [getD_set_ne false (by omega)]; exact hlo j hj1 hj2) h' f (by omega)) h2
        unfold wpOp at h3 ⊢
        rw [h1, if_pos hik] at h3
        simp only [ho] at h3 ⊢
        have hy : Region.wanted o (yielded ops1 a.tmps) = Region.wanted o (yielded ops a.tmps) := by
          unfold Region.wanted
          cases hg : o.guard with
          | none => rfl
          | some g =>
            obtain ⟨j, b⟩ := g
            have hj := (hord i o hik ho).2 j b hg
            simp only
            have : yielded ops1 a.tmps j = yielded ops a.tmps j := by unfold yielded; rw [h1, if_pos hj]
            rw [this]
        rw [hy] at h3
        split at h3
        · rename_i hw
          rw [if_pos hw]
          rcases h3 with h3 | ⟨h3, h4⟩
          · exact Or.inl (upon_qcut k o a _ _ h3)
          · exact Or.inr ⟨h3, h4⟩
        · rename_i hw
          rw [if_neg hw]
          exact h3
/-- A region that is walked up to number k, and from there on by itself. -/
theorem rg_cut {S : World → Prop} {id : Nat} {a : Act} {w : World} (k : Nat) (hm : P.follows .mixedOrders = true) (hk : decide (k ≤ ops.size) = true)
    (hord : ((List.range k).all fun i => ((ops[i]?).map fun o => (o.after.all fun e => !Region.binds .any e || decide (e.on < i)) && (match o.guard with | none => true | some (j, _) => decide (j < k))).getD true) = true)
    (hpost : ((List.range ops.size).all fun i => decide (i < k) || (List.range k).all fun j => waits ops ops.size i j) = true)
    (hS : S w.drew) (h : wpAnyH P .any (ops.toList.take k).toArray (QCut P ops k Q) S k (Array.replicate ops.size false) a w.drew) : (Code.region id ops true).wp P Q a w := by
  refine wp_region_any hm (wpAny_cut (ops1 := (ops.toList.take k).toArray) k (of_decide_eq_true hk) (fun i => ?_) (fun i o hi ho => ?_) (fun i hi hki j hj => ?_) k _ a _ (by simp) (fun i hi => by simp [Array.getD] at hi) (fun j _ hj => by simp [Array.getD]) (wpAny_of_held _ _ _ _ h) _ (by have := of_decide_eq_true hk; omega))
  · simp [List.getElem?_take]
  · have h := (List.all_eq_true.1 hord) i (List.mem_range.2 hi)
    rw [ho] at h
    simp only [Option.map_some, Option.getD_some, Bool.and_eq_true, Array.all_eq_true', Bool.or_eq_true, Bool.not_eq_true', decide_eq_true_eq] at h
    refine ⟨fun e he hb => ?_, fun j b hg => ?_⟩
    · rcases h.1 e he with h2 | h2
      · rw [hb] at h2; cases h2
      · exact h2
    · have h2 := h.2
      rw [hg] at h2
      exact of_decide_eq_true h2
  · have h := (List.all_eq_true.1 hpost) i (List.mem_range.2 hi)
    rw [Bool.or_eq_true] at h
    rcases h with h | h
    · have := of_decide_eq_true h; omega
    · exact (List.all_eq_true.1 h) j (List.mem_range.2 hj)
/-- What is behind the cut: r operations more, with those that have come up written out. -/
theorem rg_go {k : Nat} {a : Act} {w : World} (r : Nat) (L : Array Bool) (hL : cutL ops.size k = L) (hr : ops.size - k = r) (h : ∀ m, wpAnyH P .any ops Q (fun _ => True) (m + r) L a w) : QCut P ops k Q .normal a w := fun fuel hf => by
  obtain ⟨m, rfl⟩ : ∃ m, fuel = m + r := ⟨fuel - r, by omega⟩
  rw [hL]
  exact wpAny_of_held _ _ _ _ (h m)
end
theorem Exc.trans {g : Nat} {a b c : World} (h : Exc g a b) (k : Exc g b c) : Exc g a c := ⟨Nat.le_trans h.1 k.1, fun x h1 h2 => (k.2 x h1 (Nat.lt_of_lt_of_le h2 h.1)).trans (h.2 x h1 h2)⟩
theorem Exc.of (g : Nat) {a b : World} (h : Ext a b) : Exc g a b := (Exc.refl g a).ext h
/-- The cells of a row of bytes. -/
theorem by_at {w : World} {p : Nat → Prop} {a : Option Addr} {len cap : Nat} {L : Bytes} (h : Rep w p (.slice a len cap) (numsD .u8 (byI L))) (i : Nat) (hi : i < L.length) :
    ∃ b off, a = some ⟨b, off, none⟩ ∧ b < w.heap.size ∧ w.cell? ⟨b, off + i, none⟩ = some (.int .u8 (L[i].toNat : Int)) := by
  obtain ⟨b, off, ha, hb, hp, hc⟩ := elem_at (f := fun c => [.v (.int .u8 c)]) (z_num .u8) h (by omega) i (by rw [byI_len]; exact hi)
  obtain ⟨u, hu, hr⟩ := hc 0 _ rfl
  rw [Nat.mul_one, Nat.add_zero] at hu
  refine ⟨b, off, ha, hb, ?_⟩
  rw [hu, hr.is]
  simp [byI]
theorem by_count {w : World} {p : Nat → Prop} {v : Value} {L : Bytes} (h : Rep w p v (numsD .u8 (byI L))) : ∃ a cap, v = .slice a L.length cap ∧ L.length ≤ cap ∧ cap ≤ 9223372036854775807 := by
  have := h.count (f := fun c => [.v (.int .u8 c)]) (z_num .u8) (by omega)
  rw [byI_len] at this
  exact this
/-- What is behind the first i bytes. -/
theorem by_drop {w : World} {p : Nat → Prop} {b off len cap : Nat} {L : Bytes} (h : Rep w p (.slice (some ⟨b, off, none⟩) len cap) (numsD .u8 (byI L))) (i : Nat) (hi : i ≤ L.length) (hl : len = L.length) (hc : cap ≤ 9223372036854775807) (hc2 : len ≤ cap) :
    Rep w p (.slice (some ⟨b, off + i, none⟩) (len - i) (cap - i)) (numsD .u8 (byI (L.drop i))) := by
  have h1 := Rep.sub h i len (cap - i) (by omega) (Nat.le_refl _) (by omega) (by omega)
  rw [Nat.mul_one, Nat.mul_one] at h1
  have e : (List.drop i (List.flatMap (fun c => [DV.v (.int .u8 c)]) (byI L))).take (len - i) = List.flatMap (fun c => [DV.v (.int .u8 c)]) (byI (L.drop i)) := by
    rw [List.take_of_length_le]
    · simp only [byI, List.map_drop, List.flatMap_singleton']
      rw [show ∀ l : List Int, l.flatMap (fun c => [DV.v (.int .u8 c)]) = l.map fun c => DV.v (.int .u8 c) from fun l => by induction l <;> simp_all, show ∀ l : List Int, l.flatMap (fun c => [DV.v (.int .u8 c)]) = l.map fun c => DV.v (.int .u8 c) from fun l => by induction l <;> simp_all, List.map_drop]
    · rw [List.length_drop, flat_len (fun c => [DV.v (.int .u8 c)]) 1 (z_num .u8), byI_len]; omega
  rw [e] at h1
  exact h1
/-- What a region keeps that appends to rows of the call's own: what was there at the call's beginning, and one block more. -/
def Sb (w0 : World) (bx : Nat) (wz w' : World) : Prop := Ext w0 wz ∧ Ext w0 w' ∧ w'.heap[bx]? = wz.heap[bx]? ∧ bx < w'.heap.size
theorem Sb.begin {w0 wz : World} {bx : Nat} (h : Ext w0 wz) (hb : bx < wz.heap.size) : Sb w0 bx wz (World.drew wz) := ⟨h, h.drew, Below.block (Ext.refl wz).drew _ hb, Nat.lt_of_lt_of_le hb (Ext.refl wz).drew.size⟩
theorem Sb.ext {w0 wz X X' : World} {bx : Nat} (h : Sb w0 bx wz X) (k : Ext X X') : Sb w0 bx wz X' := ⟨h.1, h.2.1.trans k, (Below.block k _ h.2.2.2).trans h.2.2.1, Nat.lt_of_lt_of_le h.2.2.2 k.size⟩
theorem Sb.cell {w0 wz X : World} {bx : Nat} (h : Sb w0 bx wz X) {b o : Nat} {v : Value} (hb : b < w0.heap.size ∨ b = bx) (hc : wz.cell? ⟨b, o, none⟩ = some v) : X.cell? ⟨b, o, none⟩ = some v := by
  rcases hb with hb | rfl
  · exact (World.cell?_of_block ((Below.block h.2.1 b hb).trans (Below.block h.1 b hb).symm)).trans hc
  · exact (World.cell?_of_block h.2.2.1).trans hc
end Go.Proofs.YtfoclfefjcnllaaGreatDoor

/-
  Package utf: ranges of runes. Helper lemmas; no statement of the seat is proved here.
-/
namespace Go.Proofs.YtfoclfefjcnllaaGreatDoor
open Go.RowKit
set_option maxRecDepth 100000
set_option linter.unusedVariables false
set_option linter.unusedSimpArgs false

def pairC (p : Int × Int) : List DV := [.v (.int .i32 p.1), .v (.int .i32 p.2)]
def pairsD (l : List (Int × Int)) : DV := .s 2 (l.flatMap pairC)
theorem z_pair (p : Int × Int) : (pairC p).length = 2 := rfl
def inZ (r : Int) (l : List (Int × Int)) : Bool := l.any fun p => decide (p.1 ≤ r) && decide (r ≤ p.2)
theorem pair_at {w : World} {p : Nat → Prop} {a : Option Addr} {len cap : Nat} {l : List (Int × Int)} (h : Rep w p (.slice a len cap) (pairsD l)) (i : Nat) (hi : i < l.length) :
    ∃ b off, a = some ⟨b, off, none⟩ ∧ b < w.heap.size ∧ w.cell? ⟨b, off + i * 2, none⟩ = some (.int .i32 l[i].1) ∧ w.cell? ⟨b, off + i * 2 + 1, none⟩ = some (.int .i32 l[i].2) := by
  obtain ⟨b, off, ha, hb, hp, hc⟩ := elem_at z_pair h (by omega) i hi
  obtain ⟨u0, h0, r0⟩ := hc 0 _ rfl
  obtain ⟨u1, h1, r1⟩ := hc 1 _ rfl
  refine ⟨b, off, ha, hb, ?_, ?_⟩
  · rw [← r0.is]; exact h0
  · rw [← r1.is]; exact h1
def downQ (N : Nat) : Value → Nat
  | .int _ i => N - i.toNat
  | _ => 0
set_option maxHeartbeats 4000000 in
theorem within_any (r : Int) (l : List (Int × Int)) (p : Nat → Prop) (v : Value) (w : World) (h : Rep w p v (pairsD l)) (hl : l.length ≤ 1000) :
    Calls Tryz.prog 107 #[.int .i32 r, v] w fun e w' => e = .returned (.bool (inZ r l)) ∧ Ext w w' := by
  obtain ⟨a, c, rfl, _, _⟩ := h.count z_pair (by omega)
  obtain ⟨R, hR⟩ : ∃ R, inZ r l = R := ⟨_, rfl⟩
  rw [hR]
  have HR := Lib.hid hR
  have HH := Lib.hid h
  clear hR h
  go_enter Tryz.func107, Tryz.ntmps107
  go_wp2_with fail
  go_loopw [9] (fun t wr => ∃ i : Nat, t = .int .i64 i ∧ i ≤ l.length ∧ Hid (Ext w wr) ∧ Hid (inZ r (l.drop i) = R)) (fun t _ => downQ l.length t)
  case atStart => exact ⟨0, rfl, Nat.zero_le _, Lib.hid (Ext.refl _), HR⟩
  case round =>
    obtain ⟨i, rfl, hi, HX, HI⟩ := hrel
    have hi0 : (0 : Int) ≤ (i : Int) := by omega
    have hi8 : (i : Int) ≤ 1000 := by omega
    by_cases hlt : i < l.length
    · have hlI : (i : Int) < (l.length : Int) := by omega
      obtain ⟨b, off, rfl, lb, c0, c1⟩ := pair_at (HH.out.ext HX.out) i hlt
      have HS : Hid (inZ r (l.drop i) = ((decide (l[i].1 ≤ r) && decide (r ≤ l[i].2)) || inZ r (l.drop (i + 1)))) := Lib.hid (by rw [List.drop_eq_getElem_cons hlt]; unfold inZ; rw [List.any_cons])
      obtain ⟨x, hx⟩ : ∃ x, l[i].1 = x := ⟨_, rfl⟩
      obtain ⟨y, hy⟩ : ∃ y, l[i].2 = y := ⟨_, rfl⟩
      rw [hx] at c0 HS
      rw [hy] at c1 HS
      clear hx hy
      by_cases h1 : x ≤ r
      · by_cases h2 : r ≤ y
        · have HN : Hid (true = R) := Lib.hid (by have := HS.out; rw [decide_eq_true h1, decide_eq_true h2] at this; rw [← HI.out, this]; rfl)
          go_wp2_with fail
          go_ret
          exact ⟨ret_bool HN.out, HX.out.alloc _⟩
        · have HN : Hid (inZ r (l.drop (i + 1)) = R) := Lib.hid (by have := HS.out; rw [decide_eq_true h1, decide_eq_false h2] at this; rw [← HI.out, this]; rfl)
          go_wp2_with fail
          go_roundw
          case rel => exact ⟨i + 1, by go_num, by omega, Lib.hid (HX.out.alloc _), HN⟩
          case measure => simp only [downQ]; omega
      · have HN : Hid (inZ r (l.drop (i + 1)) = R) := Lib.hid (by have := HS.out; rw [decide_eq_false h1] at this; rw [← HI.out, this]; rfl)
        go_wp2_with fail
        go_roundw
        case rel => exact ⟨i + 1, by go_num, by omega, Lib.hid (HX.out.alloc _), HN⟩
        case measure => simp only [downQ]; omega
    · have hlI : ¬ (i : Int) < (l.length : Int) := by omega
      have HN : Hid (false = R) := Lib.hid (by
        have := HI.out
        rw [List.drop_of_length_le (by omega)] at this
        exact this)
      go_wp2_with fail
      go_ret
      exact ⟨ret_bool HN.out, HX.out⟩
def beginsL : List (Int × Int) := [(65, 90), (95, 95), (97, 122), (192, 214), (216, 246), (248, 767), (880, 893), (895, 8191), (8204, 8205), (8304, 8591), (11264, 12271), (12289, 55295), (63744, 64975), (65008, 65533), (65536, 983039)]
theorem begins_any (w : World) : Calls Tryz.prog 108 #[] w fun e w' => (∃ v, e = .returned v ∧ Rep w' (fun _ => True) v (pairsD beginsL)) ∧ Ext w w' := by
  have hR : Rep (w.alloc (.cells #[.int .i32 65, .int .i32 90, .int .i32 95, .int .i32 95, .int .i32 97, .int .i32 122, .int .i32 192, .int .i32 214, .int .i32 216, .int .i32 246, .int .i32 248, .int .i32 767, .int .i32 880, .int .i32 893, .int .i32 895, .int .i32 8191, .int .i32 8204, .int .i32 8205, .int .i32 8304, .int .i32 8591, .int .i32 11264, .int .i32 12271, .int .i32 12289, .int .i32 55295, .int .i32 63744, .int .i32 64975, .int .i32 65008, .int .i32 65533, .int .i32 65536, .int .i32 983039] 184)) (fun _ => True) (.slice (some ⟨w.heap.size, 0, none⟩) 15 15) (pairsD beginsL) :=
    rep_lit (n := 15) (z := 2) rfl rfl (by decide) (by
      unfold beginsL
      simp only [List.flatMap_cons, List.flatMap_nil, pairC, List.append_nil, List.cons_append, List.nil_append]
      repeat (first | exact Reps.nil _ _ | refine Reps.cons (Rep.int _ _ _ _) ?_))
  have HR := Lib.hid hR
  clear hR
  go_enter Tryz.func108, Tryz.ntmps108
  go_wp2_with fail
  go_ret
  exact ⟨⟨_, rfl, HR.out⟩, (Ext.refl w).alloc _⟩
def goesOnL : List (Int × Int) := [(45, 46), (48, 57), (183, 183), (768, 879), (8255, 8256)]
theorem goesOn_any (w : World) : Calls Tryz.prog 109 #[] w fun e w' => (∃ v, e = .returned v ∧ Rep w' (fun _ => True) v (pairsD goesOnL)) ∧ Ext w w' := by
  have hR : Rep (w.alloc (.cells #[.int .i32 45, .int .i32 46, .int .i32 48, .int .i32 57, .int .i32 183, .int .i32 183, .int .i32 768, .int .i32 879, .int .i32 8255, .int .i32 8256] 184)) (fun _ => True) (.slice (some ⟨w.heap.size, 0, none⟩) 5 5) (pairsD goesOnL) :=
    rep_lit (n := 5) (z := 2) rfl rfl (by decide) (by
      unfold goesOnL
      simp only [List.flatMap_cons, List.flatMap_nil, pairC, List.append_nil, List.cons_append, List.nil_append]
      repeat (first | exact Reps.nil _ _ | refine Reps.cons (Rep.int _ _ _ _) ?_))
  have HR := Lib.hid hR
  clear hR
  go_enter Tryz.func109, Tryz.ntmps109
  go_wp2_with fail
  go_ret
  exact ⟨⟨_, rfl, HR.out⟩, (Ext.refl w).alloc _⟩
theorem Begins_any (r : Int) (w : World) : Calls Tryz.prog 87 #[.int .i32 r] w fun e w' => e = .returned (.bool (inZ r beginsL)) ∧ Ext w w' := by
  have HB := Lib.hid fun W => begins_any W
  go_enter Tryz.func87, Tryz.ntmps87
  go_wp2_with fail
  refine (HB.out _).mono ?_
  rintro e w1 ⟨⟨v, rfl, hv⟩, hX⟩
  have HC := Lib.hid (within_any r beginsL _ v w1 hv (by decide))
  clear hv HB
  go_wp2_with fail
  refine HC.out.mono ?_
  rintro e w2 ⟨rfl, hX2⟩
  go_wp2_with fail
  go_ret
  exact ⟨rfl, hX.trans hX2⟩
theorem GoesOn_any (r : Int) (w : World) : Calls Tryz.prog 88 #[.int .i32 r] w fun e w' => e = .returned (.bool (inZ r beginsL || inZ r goesOnL)) ∧ Ext w w' := by
  have HB := Lib.hid fun W => Begins_any r W
  have HG := Lib.hid fun W => goesOn_any W
  obtain ⟨b, hb⟩ : ∃ b, inZ r beginsL = b := ⟨_, rfl⟩
  rw [hb] at HB ⊢
  clear hb
  go_enter Tryz.func88, Tryz.ntmps88
  go_wp2_with fail
  refine (HB.out _).mono ?_
  rintro e w1 ⟨rfl, hX⟩
  cases b with
  | true =>
    go_wp2_with fail
    go_ret
    exact ⟨ret_bool rfl, hX⟩
  | false =>
    go_wp2_with fail
    refine (HG.out _).mono ?_
    rintro e w2 ⟨⟨v, rfl, hv⟩, hX2⟩
    have HC := Lib.hid (within_any r goesOnL _ v w2 hv (by decide))
    clear hv HB HG
    go_wp2_with fail
    refine HC.out.mono ?_
    rintro e w3 ⟨rfl, hX3⟩
    go_wp2_with fail
    go_ret
    exact ⟨ret_bool (by rw [Bool.false_or]), hX.trans (hX2.trans hX3)⟩
def charZ (r : Int) : Bool :=
  if r = 9 ∨ r = 10 ∨ r = 13 then true else if r < 32 ∨ 1114111 < r then false else decide (r ≤ 55295 ∨ (57344 ≤ r ∧ r ≤ 65533) ∨ 65536 ≤ r)
set_option maxHeartbeats 4000000 in
theorem Char_any (r : Int) (w : World) : Calls Tryz.prog 61 #[.int .i32 r] w fun e w' => e = .returned (.bool (charZ r)) ∧ w' = w := by
  obtain ⟨R, hR⟩ : ∃ R, charZ r = R := ⟨_, rfl⟩
  rw [hR]
  unfold charZ at hR
  by_cases h1 : r = 9 ∨ r = 10 ∨ r = 13
  · rw [if_pos h1] at hR
    subst hR
    go_enter Tryz.func61, Tryz.ntmps61
    rcases h1 with rfl | rfl | rfl <;> (go_wp2_with fail; go_ret; exact ⟨ret_bool rfl, rfl⟩)
  · rw [if_neg h1] at hR
    have q1 : (r == 9) = false := by rw [beq_eq_false_iff_ne]; omega
    have q2 : (r == 10) = false := by rw [beq_eq_false_iff_ne]; omega
    have q3 : (r == 13) = false := by rw [beq_eq_false_iff_ne]; omega
    by_cases h2 : r < 32
    · rw [if_pos (.inl h2)] at hR
      subst hR
      clear h1
      go_enter Tryz.func61, Tryz.ntmps61
      go_wp2_with fail
      go_ret
      exact ⟨ret_bool rfl, rfl⟩
    · by_cases h3 : r > 1114111
      · rw [if_pos (.inr h3)] at hR
        subst hR
        clear h1
        go_enter Tryz.func61, Tryz.ntmps61
        go_wp2_with fail
        go_ret
        exact ⟨ret_bool rfl, rfl⟩
      · rw [if_neg (by omega)] at hR
        have HR := Lib.hid hR
        clear h1 hR
        go_enter Tryz.func61, Tryz.ntmps61
        by_cases h4 : r ≤ 55295
        · go_wp2_with fail
          go_ret
          exact ⟨ret_bool ((decide_eq_true (.inl h4)).symm.trans HR.out), rfl⟩
        · by_cases h5 : r ≥ 57344
          · by_cases h6 : r ≤ 65533
            · go_wp2_with fail
              go_ret
              exact ⟨ret_bool ((decide_eq_true (.inr (.inl ⟨h5, h6⟩))).symm.trans HR.out), rfl⟩
            · by_cases h7 : r ≥ 65536
              · go_wp2_with fail
                go_ret
                exact ⟨ret_bool ((decide_eq_true (.inr (.inr h7))).symm.trans HR.out), rfl⟩
              · go_wp2_with fail
                go_ret
                exact ⟨ret_bool ((decide_eq_false (by omega)).symm.trans HR.out), rfl⟩
          · have h7 : ¬ r ≥ 65536 := by omega
            go_wp2_with fail
            go_ret
            exact ⟨ret_bool ((decide_eq_false (by omega)).symm.trans HR.out), rfl⟩
end Go.Proofs.YtfoclfefjcnllaaGreatDoor
