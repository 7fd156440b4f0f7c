/-
  The law's smallness and its awake. Helper lemmas; no statement of the seat is proved here.
-/
import Derived.Test.YtmmopcceabdecaaGreatDoorV7
namespace Go.Proofs.YtmmopcceabdecaaGreatDoor
open Go.RowKit Go.Shelf
set_option maxRecDepth 100000
set_option linter.unusedVariables false
set_option linter.unusedSimpArgs false

/-- Is a value small, its nodes so many? -/
def vsmall (k : Nat) (t : Bytes) : Bool := decide (k ≤ 300) && decide (t.length ≤ 2000)
theorem vsmall_any (b : VV) (o : Option Addr) (n c : Nat) (hs : b.nd = .slice o n c) (w : World) :
    Calls Tryz.prog 12 #[.agg (vvL b).toArray] w fun e w' => e = .returned (.bool (vsmall n b.text)) ∧ Ext w w' := by
  obtain ⟨k, nd, bo, nan, v, t⟩ := b
  dsimp only at hs ⊢
  subst hs
  unfold vvL vsmall
  have hz := bs_size t
  go_enter Tryz.func12, Tryz.ntmps12
  by_cases h1 : n ≤ 300 <;> by_cases h2 : t.length ≤ 2000
  · have e1 : (n : Int) ≤ 300 := by omega
    have e2 : (t.length : Int) ≤ 2000 := by omega
    go_wp2_with fail
    go_ret
    exact ⟨ret_bool (by rw [decide_eq_true h1, decide_eq_true h2]; rfl), (Ext.refl _).alloc _⟩
  · have e1 : (n : Int) ≤ 300 := by omega
    have e2 : ¬ (t.length : Int) ≤ 2000 := by omega
    go_wp2_with fail
    go_ret
    exact ⟨ret_bool rfl, (Ext.refl _).alloc _⟩
  · have e1 : ¬ (n : Int) ≤ 300 := by omega
    go_wp2_with fail
    go_ret
    exact ⟨ret_bool rfl, (Ext.refl _).alloc _⟩
  · have e1 : ¬ (n : Int) ≤ 300 := by omega
    go_wp2_with fail
    go_ret
    exact ⟨ret_bool rfl, (Ext.refl _).alloc _⟩
set_option maxHeartbeats 4000000 in
theorem nsmall_any (n : Node) (p : Nat → Prop) (va vk : Value) (w : World) (hcnt : cntN n ≤ 1048576) (hva : Rep w p va (attrsD n.attrs)) (hvk : Rep w p vk (nodesD n.kids)) :
    Calls Tryz.prog 11 #[.agg #[.int .i64 n.kind, .string (bs n.name), .string (bs n.text), va, vk], .int .i64 1500] w fun e w' => ∃ B, e = .returned (.bool B) ∧ Ext w w' := by
  obtain ⟨wz, hwz⟩ : ∃ W', w.alloc (.cells #[.int .i64 n.kind, .string (bs n.name), .string (bs n.text), va, vk] 25) = W' := ⟨_, rfl⟩
  have hE : Ext w wz := by rw [← hwz]; exact (Ext.refl w).alloc _
  have hblk : wz.heap[w.heap.size]? = some (.cells [.int .i64 n.kind, .string (bs n.name), .string (bs n.text), va, vk].toArray 25 (0, 0)) := by rw [← hwz]; exact Array.getElem?_push_size
  have HS := Lib.hid (small_any 1500 (by decide) (nsz n) n p va vk wz (Nat.le_refl _) hcnt (hva.ext hE) (hvk.ext hE))
  have HE := Lib.hid hE
  have c0 := blk_cells hblk 0 rfl; have c1 := blk_cells hblk 1 rfl; have c2 := blk_cells hblk 2 rfl; have c3 := blk_cells hblk 3 rfl; have c4 := blk_cells hblk 4 rfl
  obtain ⟨ba, ca, rfl, _, _⟩ := hva.count z_attr (by omega)
  obtain ⟨bk, ck, rfl, _, _⟩ := hvk.count z_node (by omega)
  clear hva hvk hblk hE
  go_enter Tryz.func11, Tryz.ntmps11
  go_wp2_with fail
  refine HS.out.mono ?_
  rintro e w1 ⟨rfl, hX⟩
  have HX := Lib.hid (HE.out.trans hX)
  clear hX c0 c1 c2 c3 c4
  by_cases h : smallN 1500 n ≤ 1500
  · have h' : (smallN 1500 n : Int) ≤ 1500 := by omega
    go_wp2_with fail
    go_ret
    exact ⟨_, rfl, HX.out⟩
  · have h' : ¬ (smallN 1500 n : Int) ≤ 1500 := by omega
    go_wp2_with fail
    go_ret
    exact ⟨_, rfl, HX.out⟩
set_option maxHeartbeats 4000000 in
theorem lsmall_any (n : Node) (a b : VV) (p : Nat → Prop) (va vk : Value) (w : World) (hcnt : cntN n ≤ 1048576) (hva : Rep w p va (attrsD n.attrs)) (hvk : Rep w p vk (nodesD n.kids)) (ao : Option Addr) (an ac : Nat) (ha : a.nd = .slice ao an ac) (hb : ∃ o n c, b.nd = .slice o n c) :
    Calls Tryz.prog 5 #[.agg #[.int .i64 n.kind, .string (bs n.name), .string (bs n.text), va, vk], .agg (vvL a).toArray, .agg (vvL b).toArray] w fun e w' => ∃ B, e = .returned (.bool B) ∧ Ext w w' ∧ (B = true → an ≤ 300) := by
  have HN := Lib.hid fun W (hE : Ext w W) => nsmall_any n p va vk W hcnt (hva.ext hE) (hvk.ext hE)
  have HA := Lib.hid fun W => vsmall_any a ao an ac ha W
  obtain ⟨bo', bn, bc, hb⟩ := hb
  have HB := Lib.hid fun W => vsmall_any b bo' bn bc hb W
  obtain ⟨ba, ca, rfl, _, _⟩ := hva.count z_attr (by omega)
  obtain ⟨bk, ck, rfl, _, _⟩ := hvk.count z_node (by omega)
  obtain ⟨k, nd, bo, nan, v, t⟩ := a
  obtain ⟨k', nd', bo2, nan', v', t'⟩ := b
  dsimp only at ha hb HA HB
  subst ha hb
  obtain ⟨A, hA⟩ : ∃ x, vsmall an t = x := ⟨_, rfl⟩
  obtain ⟨B, hB⟩ : ∃ x, vsmall bn t' = x := ⟨_, rfl⟩
  rw [hA] at HA
  rw [hB] at HB
  have HH := Lib.hid hA
  clear hva hvk hA hB
  unfold vvL at HA HB ⊢
  dsimp only at HA HB ⊢
  obtain ⟨wz, hwz⟩ : ∃ W', ((w.alloc (.cells #[.int .i64 n.kind, .string (bs n.name), .string (bs n.text), .slice ba n.attrs.length ca, .slice bk n.kids.length ck] 25)).alloc (.cells #[.int .i64 k, .slice ao an ac, .bool bo, .bool nan, .int .i64 v, .string (bs t)] 30)).alloc (.cells #[.int .i64 k', .slice bo' bn bc, .bool bo2, .bool nan', .int .i64 v', .string (bs t')] 30) = W' := ⟨_, rfl⟩
  have hE : Ext w wz := by rw [← hwz]; exact (((Ext.refl w).alloc _).alloc _).alloc _
  have z0 : w.heap.size + 2 < wz.heap.size := by rw [← hwz]; simp
  have n0 : wz.cell? ⟨w.heap.size, 0, none⟩ = some (.int .i64 n.kind) := by rw [← hwz]; simp [go_sem]
  have n1 : wz.cell? ⟨w.heap.size, 1, none⟩ = some (.string (bs n.name)) := by rw [← hwz]; simp [go_sem]
  have n2 : wz.cell? ⟨w.heap.size, 2, none⟩ = some (.string (bs n.text)) := by rw [← hwz]; simp [go_sem]
  have n3 : wz.cell? ⟨w.heap.size, 3, none⟩ = some (.slice ba n.attrs.length ca) := by rw [← hwz]; simp [go_sem]
  have n4 : wz.cell? ⟨w.heap.size, 4, none⟩ = some (.slice bk n.kids.length ck) := by rw [← hwz]; simp [go_sem]
  have a0 : wz.cell? ⟨w.heap.size + 1, 0, none⟩ = some (.int .i64 k) := by rw [← hwz]; simp [go_sem]
  have a1 : wz.cell? ⟨w.heap.size + 1, 1, none⟩ = some (.slice ao an ac) := by rw [← hwz]; simp [go_sem]
  have a2 : wz.cell? ⟨w.heap.size + 1, 2, none⟩ = some (.bool bo) := by rw [← hwz]; simp [go_sem]
  have a3 : wz.cell? ⟨w.heap.size + 1, 3, none⟩ = some (.bool nan) := by rw [← hwz]; simp [go_sem]
  have a4 : wz.cell? ⟨w.heap.size + 1, 4, none⟩ = some (.int .i64 v) := by rw [← hwz]; simp [go_sem]
  have a5 : wz.cell? ⟨w.heap.size + 1, 5, none⟩ = some (.string (bs t)) := by rw [← hwz]; simp [go_sem]
  have b0 : wz.cell? ⟨w.heap.size + 2, 0, none⟩ = some (.int .i64 k') := by rw [← hwz]; simp [go_sem]
  have b1 : wz.cell? ⟨w.heap.size + 2, 1, none⟩ = some (.slice bo' bn bc) := by rw [← hwz]; simp [go_sem]
  have b2 : wz.cell? ⟨w.heap.size + 2, 2, none⟩ = some (.bool bo2) := by rw [← hwz]; simp [go_sem]
  have b3 : wz.cell? ⟨w.heap.size + 2, 3, none⟩ = some (.bool nan') := by rw [← hwz]; simp [go_sem]
  have b4 : wz.cell? ⟨w.heap.size + 2, 4, none⟩ = some (.int .i64 v') := by rw [← hwz]; simp [go_sem]
  have b5 : wz.cell? ⟨w.heap.size + 2, 5, none⟩ = some (.string (bs t')) := by rw [← hwz]; simp [go_sem]
  have HE := Lib.hid hE
  clear hE
  go_enter Tryz.func5, Tryz.ntmps5
  go_wp2_with fail
  refine (HN.out _ HE.out).mono ?_
  rintro e w1 ⟨N, rfl, hX⟩
  have a0' := hX.keep (by omega) a0; have a1' := hX.keep (by omega) a1; have a2' := hX.keep (by omega) a2; have a3' := hX.keep (by omega) a3; have a4' := hX.keep (by omega) a4; have a5' := hX.keep (by omega) a5
  have b0' := hX.keep (by omega) b0; have b1' := hX.keep (by omega) b1; have b2' := hX.keep (by omega) b2; have b3' := hX.keep (by omega) b3; have b4' := hX.keep (by omega) b4; have b5' := hX.keep (by omega) b5
  have z1 : w.heap.size + 2 < w1.heap.size := by have := hX.size; omega
  have HX := Lib.hid (HE.out.trans hX)
  clear a0 a1 a2 a3 a4 a5 b0 b1 b2 b3 b4 b5 n0 n1 n2 n3 n4 hX hwz
  cases N with
  | false =>
    go_wp2_with fail
    go_ret
    exact ⟨_, rfl, HX.out, fun h => by cases h⟩
  | true =>
    go_wp2_with fail
    refine (HA.out _).mono ?_
    rintro e w2 ⟨rfl, hX2⟩
    have b0 := hX2.keep (by omega) b0'; have b1 := hX2.keep (by omega) b1'; have b2 := hX2.keep (by omega) b2'; have b3 := hX2.keep (by omega) b3'; have b4 := hX2.keep (by omega) b4'; have b5 := hX2.keep (by omega) b5'
    have HX2 := Lib.hid (HX.out.trans hX2)
    clear a0' a1' a2' a3' a4' a5' b0' b1' b2' b3' b4' b5' hX2
    cases A with
    | false =>
      go_wp2_with fail
      go_ret
      exact ⟨_, rfl, HX2.out, fun h => by cases h⟩
    | true =>
      go_wp2_with fail
      refine (HB.out _).mono ?_
      rintro e w3 ⟨rfl, hX3⟩
      go_wp2_with fail
      go_ret
      exact ⟨_, rfl, HX2.out.trans hX3, fun _ => by have := HH.out; unfold vsmall at this; rw [Bool.and_eq_true] at this; exact of_decide_eq_true this.1⟩
end Go.Proofs.YtmmopcceabdecaaGreatDoor
