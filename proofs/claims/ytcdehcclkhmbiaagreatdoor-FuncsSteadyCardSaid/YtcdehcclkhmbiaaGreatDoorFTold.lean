/-
  recensionlaw24's text, num and told, over funcs.Call's contract. Helper lemmas; no statement of the seat is proved here.
-/
import Derived.Test.YtcdehcclkhmbiaaGreatDoorFLast
import Derived.Test.YtcdehcclkhmbiaaGreatDoorFBase
namespace Go.Proofs.YtcdehcclkhmbiaaGreatDoor
open Go.RowKit
set_option maxRecDepth 100000
set_option linter.unusedVariables false
set_option linter.unusedSimpArgs false

theorem infoVal : (Tryz.prog.info? 28).map (fun i => (i.zero, i.size, i.bytes)) = some (some (valV 0 false false 0 ⟨#[]⟩), 6, 72) := by kernel_rfl
/-- The cells of a row of texts as values. -/
def valC : List (List UInt8) → List Value
  | [] => []
  | p :: L => .int .i64 4 :: .slice none 0 0 :: .bool false :: .bool false :: .int .i64 0 :: .string (bs p) :: valC L
theorem valC_len : ∀ L, (valC L).length = L.length * 6
  | [] => rfl
  | p :: L => by simp only [valC, List.length_cons, valC_len L]; omega
theorem valC_snoc : ∀ (L : List (List UInt8)) (p : List UInt8), valC (L ++ [p]) = valC L ++ [.int .i64 4, .slice none 0 0, .bool false, .bool false, .int .i64 0, .string (bs p)]
  | [], p => rfl
  | q :: L, p => by simp only [List.cons_append, valC, valC_snoc L p]
theorem valC_at : ∀ (L : List (List UInt8)) (j : Nat) (h : j < L.length), (valC L)[j * 6]? = some (.int .i64 4) ∧ (valC L)[j * 6 + 1]? = some (.slice none 0 0) ∧ (valC L)[j * 6 + 2]? = some (.bool false) ∧ (valC L)[j * 6 + 3]? = some (.bool false) ∧ (valC L)[j * 6 + 4]? = some (.int .i64 0) ∧ (valC L)[j * 6 + 5]? = some (.string (bs L[j]))
  | [], j, h => absurd h (Nat.not_lt_zero _)
  | p :: L, 0, h => ⟨rfl, rfl, rfl, rfl, rfl, rfl⟩
  | p :: L, j + 1, h => by
    have ih := valC_at L j (by simpa using h)
    have e : ∀ k, (valC (p :: L))[(j + 1) * 6 + k]? = (valC L)[j * 6 + k]? := fun k => by
      rw [show (j + 1) * 6 + k = (j * 6 + k) + 1 + 1 + 1 + 1 + 1 + 1 by omega]; rfl
    have e0 := e 0
    simp only [Nat.add_zero] at e0
    rw [e0, e, e, e, e, e]
    simpa using ih
theorem argAt_of {w : World} {B g n c : Nat} {L : List (List UInt8)} (h : w.ownsRow B 28 6 (.slice (some ⟨g, 0, none⟩) n c) L.length (valC L)) (j : Nat) (hj : j < L.length) : ArgAt w g j 4 false false 0 (bs L[j]) := by
  obtain ⟨a0, a1, a2, a3, a4, a5⟩ := valC_at L j hj
  have hc : ∀ k v, (valC L)[k]? = some v → w.cell? ⟨g, k, none⟩ = some v := fun k v hv => by rw [← add_offs]; exact h.cells (g := g) rfl k v hv
  exact ⟨(h.lt g rfl).2, hc _ _ a0, hc _ _ a1, hc _ _ a2, hc _ _ a3, hc _ _ a4, hc _ _ a5⟩
theorem new_six {w : World} {a b c d f g : Value} {e : TypeId} : ∀ (j : Nat) (v : Value), [a, b, c, d, f, g][j]? = some v → (w.alloc (.cells #[a, b, c, d, f, g] e)).cell? ((⟨w.heap.size, 0, none⟩ : Addr).add j) = some v := by
  intro j v hj
  rw [add_offs]
  have : (w.alloc (.cells #[a, b, c, d, f, g] e)).cell? ⟨w.heap.size, j, none⟩ = #[a, b, c, d, f, g][j]? := Lib.cell_of_heap (show (w.heap.push _)[w.heap.size]? = some (.cells #[a, b, c, d, f, g] e (0, 0)) from Array.getElem?_push_size) j
  rw [this, ← hj]; simp
theorem one_six {p : List UInt8} : ∀ u ∈ ([.int .i64 4, .slice none 0 0, .bool false, .bool false, .int .i64 0, .string (bs p)] : List Value), u.oneCell' = true := by
  intro u hu
  simp at hu
  rcases hu with rfl | rfl | rfl | rfl | rfl | rfl <;> rfl
set_option maxHeartbeats 2000000 in
theorem ltext_any (s : ByteArray) (w : World) : Calls Tryz.prog 10 #[.string s] w fun e w' => e = .returned (valV 4 false false 0 s) ∧ Ext w w' := by
  go_enter Tryz.func10, Tryz.ntmps10
  go_wp2_with fail
  refine bodyPost_ret (v := valV 4 false false 0 s) (by simp [results, Tryz.results10, go_sem]) rfl ⟨rfl, ?_⟩
  repeat refine Ext.set ?_ (by dsimp only; omega) _
  exact ((Ext.refl w).alloc _)
set_option maxHeartbeats 2000000 in
theorem lnum_any (v : Int) (w : World) : Calls Tryz.prog 12 #[.int .i64 v] w fun e w' => e = .returned (valV 3 false false v ⟨#[]⟩) ∧ Ext w w' := by
  go_enter Tryz.func12, Tryz.ntmps12
  go_wp2_with fail
  refine bodyPost_ret (v := valV 3 false false v ⟨#[]⟩) (by simp [results, Tryz.results12, go_sem]) rfl ⟨rfl, ?_⟩
  repeat refine Ext.set ?_ (by dsimp only; omega) _
  exact ((Ext.refl w).alloc _)
/-- What funcs.Call tells of a name and texts, asked of no node, in every later world. -/
def CallTexts (w : World) (name : ByteArray) (L : List (List UInt8)) (R : ByteArray) : Prop := ∀ W ab cp, Ext w W → (∀ (j : Nat) (h : j < L.length), ArgAt W ab j 4 false false 0 (bs L[j])) → Calls Tryz.prog 9 #[.slice none 0 0, .agg #[.int .i64 0, .int .i64 0, .int .i64 0, .int .i64 0], .string name, .slice (some ⟨ab, 0, none⟩) L.length cp] W fun e w' => e = .returned (.tuple #[valV 4 false false 0 R, .int .i64 0]) ∧ Ext W w'
set_option maxHeartbeats 8000000 in
/-- told -/
theorem told_any_texts (name : ByteArray) (L : List (List UInt8)) (v : Value) (R : ByteArray) (w : World) (hL : L ≠ []) (hn : L.length ≤ 100) (hS : StrRow w v L) (HC : Hid (CallTexts w name L R)) :
    Calls Tryz.prog 8 #[.string name, v] w fun e w' => e = .returned (.string R) ∧ Ext w w' := by
  obtain ⟨sa, sc, rfl⟩ := hS.slice
  obtain ⟨i0, hi, hz0, hz1, hz2⟩ := info_parts infoVal
  have hL1 : 1 ≤ L.length := List.length_pos_iff.2 hL
  clear hL
  go_enter Tryz.func8, Tryz.ntmps8
  go_wp2
  go_loopw [5, 6] (fun o t wr => ∃ (j : Nat) (dv : Value), dv = o ∧ t = .int .i64 j ∧ j ≤ L.length ∧ wr.ownsRow w.heap.size 28 6 dv (L.take j).length (valC (L.take j)) ∧ Ext w wr) (fun _ t _ => downV L.length t)
  case atStart => exact ⟨0, _, rfl, rfl, Nat.zero_le _, World.ownsRow_nil _ _ _ _, Ext.refl _⟩
  case round =>
    obtain ⟨j, dv, rfl, rfl, hj, hown, hX⟩ := hrel
    have hsz := hX.size
    by_cases hlt : j < L.length
    · have hI : (j : Int) < (L.length : Int) := by omega
      have hj0 : (0 : Int) ≤ (j : Int) := by omega
      have hLj : (L.take j).length = j := by rw [List.length_take]; omega
      obtain ⟨g, rfl, hc⟩ := (hS.ext hX).at j hlt
      have hstep : valC (L.take (j + 1)) = valC (L.take j) ++ [.int .i64 4, .slice none 0 0, .bool false, .bool false, .int .i64 0, .string (bs L[j])] := by rw [take_one L j hlt, valC_snoc]
      have hlen : (L.take (j + 1)).length = (L.take j).length + 1 := by rw [take_one L j hlt, List.length_append]; rfl
      obtain ⟨p, hp⟩ : ∃ p, L[j] = p := ⟨_, rfl⟩
      rw [hp] at hc hstep
      have HST := Lib.hid hstep
      have HLE := Lib.hid hlen
      clear hp hstep hlen
      go_wp2_with fail
      refine (ltext_any (bs p) _).mono ?_
      rintro e w1 ⟨rfl, hB1⟩
      have hX1 := hX.trans hB1
      have hsz1 := hX1.size
      have hown1 : w1.ownsRow w.heap.size 28 6 dv (L.take j).length (valC (L.take j)) := hown.kept (row := none) ⟨hB1.os, hB1.tape, hB1.output, hB1.size, fun i hi _ => Below.block hB1 i hi⟩ (by cases dv.ownBlock <;> simp)
      clear hown hX hB1 hsz
      go_wp2_with (at_builtin; refine wpList_append_own _ rfl (.tmp 15) (.tmp 21) _ rfl w.heap.size 28 i0 (valV 0 false false 0 ⟨#[]⟩) 6 72 Tryz.underlying35 hi hz0 hz1 hz2 rfl (by decide) dv (L.take j).length (valC (L.take j)) rfl (hown1.alloc _) ⟨w1.heap.size, 0, none⟩ 1 1 [.int .i64 4, .slice none 0 0, .bool false, .bool false, .int .i64 0, .string (bs p)] rfl rfl new_six one_six (by unfold maxLen; omega) (by omega) (by simp; omega) ?_; intro v2 w2 hown2 hgrow2 _)
      have hX2 := hX1.grown_own hown1 hgrow2
      have hO2 : w2.ownsRow w.heap.size 28 6 v2 (L.take (j + 1)).length (valC (L.take (j + 1))) := by
        rw [HST.out, HLE.out]; exact hown2
      clear hown1 hown2 hgrow2 hX1
      go_wp2
      go_roundw
      case rel => exact ⟨j + 1, v2, rfl, by push_cast; rfl, hlt, hO2, hX2⟩
      case measure => simp only [downV]; omega
    · have hI : ¬ ((j : Int) < (L.length : Int)) := by omega
      rw [List.take_of_length_le (by omega)] at hown
      obtain ⟨g, cap, rfl⟩ : ∃ g cap, dv = .slice (some ⟨g, 0, none⟩) L.length cap := by
        rcases hown.2 with ⟨_, h0⟩ | ⟨g, cap, cur, hv, _⟩
        · omega
        · exact ⟨g, cap, hv⟩
      have HD := Lib.hid (HC.out wr g cap hX (fun j hj => argAt_of hown j hj))
      clear hown hS
      go_wp2_with fail
      refine HD.out.mono ?_
      rintro e w1 ⟨rfl, hB1⟩
      have hX1 := hX.trans hB1
      go_wp2_with fail
      go_ret
      refine ⟨rfl, ?_⟩
      repeat refine Ext.set ?_ (by have := hX1.size; dsimp only; omega) _
      exact hX1.alloc _
end Go.Proofs.YtcdehcclkhmbiaaGreatDoor
