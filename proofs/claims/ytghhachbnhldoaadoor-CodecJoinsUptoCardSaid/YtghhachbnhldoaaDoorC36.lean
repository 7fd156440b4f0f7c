/-
  CodecJoins: what is appended; the joined bytes. Helper lemmas; no statement of the seat is proved here.
-/
import Derived.Test.YtghhachbnhldoaaDoorC35
namespace Go.Proofs.YtghhachbnhldoaaDoor
open Go.RowKit
set_option maxRecDepth 100000
set_option linter.unusedVariables false
set_option linter.unusedSimpArgs false

theorem one_edit (x : Edit) : ∀ e ∈ editC x, e.one = true := by intro e he; simp [editC, intD, strD, stepsD, attrsD, nodesD] at he; rcases he with rfl | rfl | rfl | rfl | rfl | rfl | rfl | rfl | rfl <;> rfl
theorem szEdit : ∀ W, (sizeOf (Tryd.prog.elem 22)).run Tryd.prog W = .ok 9 W := fun W => by rw [show Tryd.prog.elem 22 = 54 by kernel_rfl]; go_simp
theorem unEdit : Tryd.prog.underlying 22 = some (.slice (Tryd.prog.elem 22)) := by kernel_rfl
theorem szU8 : ∀ W, (sizeOf (Tryd.prog.elem 25)).run Tryd.prog W = .ok 1 W := fun W => by rw [show Tryd.prog.elem 25 = 5 by kernel_rfl]; go_simp
theorem unU8 : Tryd.prog.underlying 25 = some (.slice (Tryd.prog.elem 25)) := by kernel_rfl
section
variable {ops : Array Oper} {Q : Exit → Act → World → Prop} {a : Act} {w : World} {rest : List Oper} {o : Oper}
/-- 'append(s, x...)' to a row of the call's own, of edits that read as data. -/
theorem wpList_appE (hgd : o.guard = none) (s x : Operand) (ho : o.op = .call { callee := .builtin .append, args := #[s, x], argTypes := #[22, 22] })
    {w0 : World} {v : Value} {L M : List Edit} (hX : Ext w0 w) (hs : a.eval s = v) (hO : Own w (fun b => b < w0.heap.size) w0.heap.size 54 9 v L.length (L.flatMap editC))
    {p : Nat → Prop} {xa : Option Addr} {xc : Nat} (hx : a.eval x = .slice xa M.length xc) (hR : Rep w0 p (.slice xa M.length xc) (editsD M)) (hl : L.length + M.length ≤ 1000)
    (h : ∀ v' w', Ext w0 w' → Own w' (fun b => b < w0.heap.size) w0.heap.size 54 9 v' (L ++ M).length ((L ++ M).flatMap editC) → wpList Tryd.prog ops Q rest (a.put o.dst v') w') : wpList Tryd.prog ops Q (o :: rest) a w := by
  obtain ⟨i0, hi, hz0, hz1, hz2⟩ := info_parts infoEdit
  obtain ⟨us, hrow, hu⟩ := hO
  obtain ⟨ns, hn, hnl, _, _, hsrc⟩ := rep_src hR unEdit szEdit
  have hn1 := hn.one (flat_one one_edit M)
  have hlo : ∀ k, v.ownBlock = some k → w0.heap.size ≤ k ∧ k < w.heap.size := fun k hk => hrow.lt k hk
  have hn2 : Reps w (fun b => b < w0.heap.size ∧ some b ≠ v.ownBlock ∧ b < w.heap.size) ns (M.flatMap editC) := ((hn.lt).ext hX).ok fun b hb => ⟨hb.2, fun e => by have := hlo b e.symm; omega, by have := hX.size; omega⟩
  have hsz := hX.size
  rcases hsrc.ext hX with ⟨e1, e2, e3⟩ | ⟨ad, c, e1, e2, e3⟩
  · have hM : M = [] := List.eq_nil_of_length_eq_zero e2
    subst hM
    refine wpList_plain hgd fun K hK => ?_
    have hrun := run_append_owned_none (P := Tryd.prog) (w := w) w0.heap.size 22 o.type 54 i0 9 Tryd.underlying22 hi v L.length us hrow
    unfold Oper.wp execOp
    simp only [ho, resolve, invoke, builtin, Sem.run_bind, Sem.run_pure, Result.andThen_ok, List.map_toArray, List.map_cons, List.map_nil, hs, hx, e1, hrun]
    rw [Oper.upon_value]
    exact hK _ _ (h _ _ hX (by rw [List.append_nil]; exact ⟨us, hrow, hu⟩))
  · injection e1 with e1 e4 e5
    subst e1 e5
    refine wpList_append_own_at w hgd s x _ ho w0.heap.size 54 i0 (.agg #[.int .i64 0, .slice none 0 0, .slice none 0 0, .slice none 0 0, .int .i64 0, .string ⟨#[]⟩, .string ⟨#[]⟩, .slice none 0 0, .slice none 0 0]) 9 168 Tryd.underlying22 hi hz0 hz1 hz2 rfl (by decide) v L.length us hs hrow ad M.length xc ns hx e2 e3 hn1 (by unfold maxLen; omega) (by omega) hsz ?_
    intro v' w' hown hg _ hat
    exact h v' w' (Below.grown hX hg (Below.size hX) fun k hk => (hlo k hk).1) (by rw [List.length_append, List.flatMap_append]; exact Own.push hu hn2 hown hg hat)
end
theorem own_one {w : World} {base g : Nat} {e : TypeId} {u : Value} (hb : base ≤ g) (h : w.heap[g]? = some (.cells #[u] e (0, 0))) : w.ownsRow base e 1 (.slice (some ⟨g, 0, none⟩) 1 1) 1 [u] :=
  ⟨by simp, .inr ⟨g, 1, #[u], rfl, hb, h, Nat.le_refl _, by unfold maxLen; decide, by simp, by simp⟩⟩
theorem rowB_app' (x y : Bytes) : rowB (x ++ y) = rowB x ++ rowB y := by simp [rowB, byI]
theorem numB_one (n : Nat) (h : n < 128) : numB n = [UInt8.ofNat n] := numF_lt 9 n h
theorem rowB_num (n : Nat) (h : n < 128) : rowB (numB n) = [.int .u8 n] := by
  rw [numB_one n h]
  have e : (UInt8.ofNat n).toNat = n := by rw [UInt8.toNat_ofNat']; omega
  simp [rowB, byI, e]
theorem rowB_drop (n : Nat) (h : n < 128) (R : Bytes) : (rowB (numB n ++ R)).drop (1 * 1) = rowB R := by
  rw [rowB_app', rowB_num n h]; rfl
/-- The joined bytes. -/
theorem joins_row (a b : List Edit) (h : a.length + b.length < 128) : [Value.int .u8 ((a.length + b.length : Nat) : Int)] ++ (rowB (editsB a)).drop (1 * 1) ++ (rowB (editsB b)).drop (1 * 1) = rowB (editsB (a ++ b)) := by
  unfold editsB
  rw [rowB_drop _ (by omega), rowB_drop _ (by omega), List.flatMap_append, List.length_append, rowB_app', rowB_app', rowB_num _ h, List.append_assoc]
theorem editsB_len (a b : List Edit) (h : a.length + b.length < 128) : (editsB (a ++ b)).length = 1 + ((editsB a).length - 1) + ((editsB b).length - 1) := by
  have e1 : (editsB a).length = 1 + (a.flatMap editB).length := by unfold editsB; rw [numB_one _ (by omega), List.length_append]; rfl
  have e2 : (editsB b).length = 1 + (b.flatMap editB).length := by unfold editsB; rw [numB_one _ (by omega), List.length_append]; rfl
  have e3 : (editsB (a ++ b)).length = 1 + ((a.flatMap editB).length + (b.flatMap editB).length) := by unfold editsB; rw [numB_one _ (by rw [List.length_append]; exact h), List.length_append, List.flatMap_append]; simp only [List.length_append]; rfl
  omega
mutual
theorem nsz_cnt : ∀ x : Node, nsz x ≤ cntN x
  | .mk k n t la ks => by have := nszL_cnt ks; rw [nsz, cntN]; omega
theorem nszL_cnt : ∀ l : List Node, nszL l ≤ cntL l
  | [] => by rw [nszL, cntL]; omega
  | a :: r => by have := nsz_cnt a; have := nszL_cnt r; rw [nszL, cntL]; omega
end
/-- Edits that the law goes through. -/
def EOK (l : List Edit) : Prop := l.length ≤ 1048576 ∧ (editsB l).length ≤ 100000000 ∧ (∀ x ∈ l, rngE x = true) ∧ ∀ x ∈ l, cntN x.node ≤ 1048576 ∧ cntN (.mk 0 [] [] x.attrs x.kids) ≤ 1048576
end Go.Proofs.YtghhachbnhldoaaDoor
