/-
  The reader's edit. Helper lemmas; no statement of the seat is proved here.
-/
import Derived.Test.YtghhachbnhldoaaDoorC14
namespace Go.Proofs.YtghhachbnhldoaaDoor
open Go.RowKit
set_option maxRecDepth 100000
set_option linter.unusedVariables false
set_option linter.unusedSimpArgs false

theorem rnode_any (w0 : World) : ∀ (N d : Nat) (x : Node), nsz x ≤ N → d + N ≤ 10000000 → okN x = true → RNode w0 d x
  | 0, d, x, h, _, _ => by cases x; rw [nsz] at h; omega
  | N + 1, d, x, h, hd, hok => fun W inp b rest hi hS => by
    refine rnode_step w0 W inp d b x rest (by omega) hok hi hS fun y hy => ?_
    obtain ⟨i, hi', e⟩ := List.getElem_of_mem hy
    have := kid_lt x i hi'
    exact rnode_any w0 N (d + 1) y (by rw [← e]; omega) (by omega) ((okN_own hok).2.2 y hy)
def fitE (x : Edit) : Bool := decide (x.kind ≤ 4611686018427387904) && (x.kids.all (fitN 0) && fitN 0 x.node)
def okE (x : Edit) : Bool := decide (0 ≤ x.kind ∧ x.kind < 9223372036854775808 ∧ x.path.length ≤ 1000000000000 ∧ x.attrs.length ≤ 1000000000000 ∧ x.kids.length ≤ 1000000000000) && (x.path.all (fun s => decide (s.n.length ≤ 1000000000000 ∧ s.key.length ≤ 1000000000000) && s.key.all fun t => decide (t.length ≤ 1000000000000)) && (x.attrs.all (fun s => decide (s.n.length ≤ 1000000000000 ∧ s.v.length ≤ 1000000000000)) && (x.kids.all (fun y => decide (nsz y ≤ 9000000) && okN y) && (decide (nsz x.node ≤ 9000000) && okN x.node))))
theorem okE_own {x : Edit} (h : okE x = true) : (0 ≤ x.kind ∧ x.kind < 9223372036854775808 ∧ x.path.length ≤ 1000000000000 ∧ x.attrs.length ≤ 1000000000000 ∧ x.kids.length ≤ 1000000000000) ∧ (∀ s ∈ x.path, s.n.length ≤ 1000000000000 ∧ s.key.length ≤ 1000000000000 ∧ ∀ t ∈ s.key, t.length ≤ 1000000000000) ∧ (∀ s ∈ x.attrs, s.n.length ≤ 1000000000000 ∧ s.v.length ≤ 1000000000000) ∧ (∀ y ∈ x.kids, nsz y ≤ 9000000 ∧ okN y = true) ∧ nsz x.node ≤ 9000000 ∧ okN x.node = true := by
  unfold okE at h
  simp only [Bool.and_eq_true] at h
  obtain ⟨h1, h2, h3, h4, h5, h6⟩ := h
  exact ⟨of_decide_eq_true h1, fun s hs => by
    have := List.all_eq_true.1 h2 s hs
    rw [Bool.and_eq_true] at this
    have h7 := of_decide_eq_true this.1
    exact ⟨h7.1, h7.2, fun t ht => of_decide_eq_true (List.all_eq_true.1 this.2 t ht)⟩, fun s hs => of_decide_eq_true (List.all_eq_true.1 h3 s hs), fun y hy => by
    have := List.all_eq_true.1 h4 y hy
    rw [Bool.and_eq_true] at this
    exact ⟨of_decide_eq_true this.1, this.2⟩, of_decide_eq_true h5, h6⟩
/-- What was read as an edit. -/
def EditV (base : Nat) (b : Bool) (x : Edit) (v : Value) (w : World) : Prop := ∃ (k : Int) (a1 : Option Addr) (n1 c1 : Nat) (a2 : Option Addr) (n2 c2 : Nat) (a3 : Option Addr) (n3 c3 : Nat) (k4 : Int) (s t : Bytes) (a7 : Option Addr) (n7 c7 : Nat) (a8 : Option Addr) (n8 c8 : Nat), v = .agg #[.int .i64 k, .slice a1 n1 c1, .slice a2 n2 c2, .slice a3 n3 c3, .int .i64 k4, .string (bs s), .string (bs t), .slice a7 n7 c7, .slice a8 n8 c8] ∧ s.length ≤ 9223372036854775807 ∧ t.length ≤ 9223372036854775807 ∧
  (b = false → k = x.kind ∧ Rep w (fun k => base ≤ k) (.slice a1 n1 c1) (stepsD x.path) ∧ Rep w (fun k => base ≤ k) (.slice a2 n2 c2) (attrsD x.attrs) ∧ Rep w (fun k => base ≤ k) (.slice a3 n3 c3) (nodesD x.kids) ∧ k4 = x.node.kind ∧ s = x.node.name ∧ t = x.node.text ∧ Rep w (fun k => base ≤ k) (.slice a7 n7 c7) (attrsD x.node.attrs) ∧ Rep w (fun k => base ≤ k) (.slice a8 n8 c8) (nodesD x.node.kids))
theorem load_editL {W : World} {b : Nat} {v0 v1 v2 v3 v4 v5 v6 v7 v8 : Value} (h : W.heap[b]? = some (.cells [v0, v1, v2, v3, v4, v5, v6, v7, v8].toArray 54 (0, 0))) (h0 : ∃ k, v0 = .int .i64 k) (h1 : ∃ a n c, v1 = .slice a n c) (h2 : ∃ a n c, v2 = .slice a n c) (h3 : ∃ a n c, v3 = .slice a n c) (h4 : ∃ k, v4 = .int .i64 k) (h5 : ∃ s, v5 = .string s) (h6 : ∃ s, v6 = .string s) (h7 : ∃ a n c, v7 = .slice a n c) (h8 : ∃ a n c, v8 = .slice a n c) :
    (loadVar 54 ⟨b, 0, none⟩).run Tryd.prog W = .ok (.agg #[v0, v1, v2, v3, v4, v5, v6, v7, v8]) W := by
  obtain ⟨_, rfl⟩ := h0
  obtain ⟨_, _, _, rfl⟩ := h1
  obtain ⟨_, _, _, rfl⟩ := h2
  obtain ⟨_, _, _, rfl⟩ := h3
  obtain ⟨_, rfl⟩ := h4
  obtain ⟨_, rfl⟩ := h5
  obtain ⟨_, rfl⟩ := h6
  obtain ⟨_, _, _, rfl⟩ := h7
  obtain ⟨_, _, _, rfl⟩ := h8
  have c0 := blk_cells h 0 rfl; have c1 := blk_cells h 1 rfl; have c2 := blk_cells h 2 rfl; have c3 := blk_cells h 3 rfl; have c4 := blk_cells h 4 rfl; have c5 := blk_cells h 5 rfl; have c6 := blk_cells h 6 rfl; have c7 := blk_cells h 7 rfl; have c8 := blk_cells h 8 rfl
  go_simp
theorem edit_end {w0 W wl : World} {inp' : Bytes} {D : Int} {f : Bool} {zs : List Value} {T : TypeId} (hlw : w0.heap.size < W.heap.size) (hS : RS w0 wl inp' D f) (hX : Exc w0.heap.size W wl) (hba : wl.heap[W.heap.size]? = some (.cells zs.toArray T (0, 0))) (vs : List Value) (hl : zs.length = vs.length) :
    RS w0 (putAll wl W.heap.size 0 vs) inp' D f ∧ Exc w0.heap.size W (putAll wl W.heap.size 0 vs) ∧ (putAll wl W.heap.size 0 vs).heap[W.heap.size]? = some (.cells vs.toArray T (0, 0)) :=
  ⟨RS.putAll (by omega) (Nat.le_of_lt hlw) _ _ _ hS, Exc.putAll (Nat.le_refl _) _ _ _ hX, blk_all _ _ zs hl hba⟩
set_option maxHeartbeats 32000000 in
theorem redit_any (w0 W : World) (inp : Bytes) (b : Bool) (x : Edit) (rest : Bytes) (hok : okE x = true) (hi : b = false → inp = editB x ++ rest) (h : RS w0 W inp 0 b) :
    Calls Tryd.prog 27 #[.pointer (some ⟨w0.heap.size, 0, none⟩)] W (RPost w0 W (b || !fitE x) rest 0 fun v w => EditV W.heap.size (b || !fitE x) x v w) := by
  obtain ⟨wa, hwa⟩ : ∃ W', W.alloc (.cells #[.int .i64 0, .slice none 0 0, .slice none 0 0, .slice none 0 0, .int .i64 0, .string ⟨#[]⟩, .string ⟨#[]⟩, .slice none 0 0, .slice none 0 0] 54) = W' := ⟨_, rfl⟩
  obtain ⟨wb, hwb⟩ : ∃ W', wa.alloc (.cells #[.int .i64 0, .slice none 0 0, .slice none 0 0, .slice none 0 0, .int .i64 0, .string ⟨#[]⟩, .string ⟨#[]⟩, .slice none 0 0, .slice none 0 0] 54) = W' := ⟨_, rfl⟩
  have hEa : Ext W wa := by rw [← hwa]; exact (Ext.refl W).alloc _
  have hEb : Ext wa wb := by rw [← hwb]; exact (Ext.refl wa).alloc _
  have hba0 : wa.heap[W.heap.size]? = some (.cells [.int .i64 0, .slice none 0 0, .slice none 0 0, .slice none 0 0, .int .i64 0, .string ⟨#[]⟩, .string ⟨#[]⟩, .slice none 0 0, .slice none 0 0].toArray 54 (0, 0)) := by rw [← hwa]; exact Array.getElem?_push_size
  have hbn0 : wb.heap[wa.heap.size]? = some (.cells [.int .i64 0, .slice none 0 0, .slice none 0 0, .slice none 0 0, .int .i64 0, .string ⟨#[]⟩, .string ⟨#[]⟩, .slice none 0 0, .slice none 0 0].toArray 54 (0, 0)) := by rw [← hwb]; exact Array.getElem?_push_size
  have hlw := h.lt
  have hlab := blk_lt hba0
  have hS0 := h.step (hEa.trans hEb)
  have hoks := okE_own hok
  obtain ⟨A, hA⟩ : ∃ A, x.kids.all (fitN 0) = A := ⟨_, rfl⟩
  obtain ⟨G, hG⟩ : ∃ A, fitN 0 x.node = A := ⟨_, rfl⟩
  obtain ⟨F, hF⟩ : ∃ F, (b || decide (4611686018427387904 < x.kind.toNat)) = F := ⟨_, rfl⟩
  have hbF : (b || !fitE x) = ((F || !A) || !G) := by
    unfold fitE
    rw [← hF, hA, hG]
    by_cases c : x.kind ≤ 4611686018427387904
    · rw [decide_eq_true c, decide_eq_false (by omega)]; cases b <;> cases A <;> cases G <;> rfl
    · rw [decide_eq_false c, decide_eq_true (by omega)]; cases b <;> cases A <;> cases G <;> rfl
  rw [hbF]
  obtain ⟨KV, hKV⟩ : ∃ K, (if F = true then 0 else ((x.kind.toNat : Nat) : Int)) = K := ⟨_, rfl⟩
  have HKV : Hid (F = false → KV = x.kind) := Lib.hid fun e => by rw [← hKV, e, if_neg (by decide)]; omega
  have hnz : numZ x.kind = numB x.kind.toNat := by unfold numZ; congr 1; omega
  have h1 := rnum_any w0 wb inp 0 b x.kind.toNat (stepsB' x.path ++ (attrsB x.attrs ++ (nodesB x.kids ++ (nodeB x.node ++ rest)))) (by omega) (fun hb => by rw [hi hb]; unfold editB; rw [hnz]; simp only [List.append_assoc]) hS0
  rw [hF, hKV] at h1
  have hN0 : NS w0 wa 54 wb inp 0 b [.int .i64 0, .slice none 0 0, .slice none 0 0, .slice none 0 0, .int .i64 0, .string ⟨#[]⟩, .string ⟨#[]⟩, .slice none 0 0, .slice none 0 0] := ⟨hS0, Exc.of _ hEb, hbn0, by have := hEa.size; omega⟩
  have HN := Lib.hid hN0
  have H1 := Lib.hid h1
  have HOKS := Lib.hid hoks
  have HBA := Lib.hid (And.intro hEa (And.intro hba0 (And.intro hlw hlab)))
  clear h hi hok hEa hEb hba0 hbn0 hlw hlab hS0 hoks hF hbF hKV hnz h1 hN0
  go_enter Tryd.func27, Tryd.ntmps27
  have HC := Lib.hid (H1.out)
  go_wp2_with fail
  refine HC.out.mono ?_
  rintro e u1 ⟨v, rfl, rfl, ⟨inp1, hS, hin⟩, hX⟩
  have hb := HN.out.cell hX
  have k1_0 := blk_cells hb 0 rfl
  have g1_0 := blk_free hb (k := 0)
  obtain ⟨x1, hx1⟩ : ∃ W', (u1.setCell ⟨wa.heap.size, 0, none⟩ (.int .i64 KV)) = W' := ⟨_, rfl⟩
  have hN2 : NS w0 wa 54 x1 inp1 0 (F) [.int .i64 KV, .slice none 0 0, .slice none 0 0, .slice none 0 0, .int .i64 0, .string ⟨#[]⟩, .string ⟨#[]⟩, .slice none 0 0, .slice none 0 0] := by rw [← hx1]; exact ((HN.out.call hS hX).put 0 _)
  have HIN := Lib.hid hin
  clear HN HC hS hX hin hb
  have HN := Lib.hid hN2
  clear hN2
  have HC := Lib.hid (rsteps_any w0 x1 inp1 0 F x.path (attrsB x.attrs ++ (nodesB x.kids ++ (nodeB x.node ++ rest))) HOKS.out.1.2.2.1 HOKS.out.2.1 HIN.out HN.out.S)
  go_wp2_with fail
  refine HC.out.mono ?_
  rintro e u2 ⟨v, rfl, ⟨a1, n1, c1, rfl, e1⟩, ⟨inp2, hS, hin⟩, hX⟩
  have hb := HN.out.cell hX
  have k2_0 := blk_cells hb 1 rfl
  have g2_0 := blk_free hb (k := 1)
  obtain ⟨x2, hx2⟩ : ∃ W', (u2.setCell ⟨wa.heap.size, 1, none⟩ (.slice a1 n1 c1)) = W' := ⟨_, rfl⟩
  have hN2 : NS w0 wa 54 x2 inp2 0 (F) [.int .i64 KV, .slice a1 n1 c1, .slice none 0 0, .slice none 0 0, .int .i64 0, .string ⟨#[]⟩, .string ⟨#[]⟩, .slice none 0 0, .slice none 0 0] := by rw [← hx2]; exact ((HN.out.call hS hX).put 1 _)
  have hlo := HN.out.low
  have HRP : Hid ((F) = false → Rep x2 (fun k => wa.heap.size < k) (.slice a1 n1 c1) (stepsD x.path)) := Lib.hid fun hf => by rw [← hx2]; exact (rep_put ((e1 hf).ok fun k hk => by omega) 1 _)
  clear hlo e1
  have HIN := Lib.hid hin
  clear HN HC hS hX hin hb
  have HN := Lib.hid hN2
  clear hN2
  have HC := Lib.hid (rattrs_any w0 x2 inp2 0 F x.attrs (nodesB x.kids ++ (nodeB x.node ++ rest)) HOKS.out.1.2.2.2.1 HOKS.out.2.2.1 HIN.out HN.out.S)
  go_wp2_with fail
  refine HC.out.mono ?_
  rintro e u3 ⟨v, rfl, ⟨a2, n2, c2, rfl, e2⟩, ⟨inp3, hS, hin⟩, hX⟩
  have hb := HN.out.cell hX
  have k3_0 := blk_cells hb 2 rfl
  have g3_0 := blk_free hb (k := 2)
  obtain ⟨x3, hx3⟩ : ∃ W', (u3.setCell ⟨wa.heap.size, 2, none⟩ (.slice a2 n2 c2)) = W' := ⟨_, rfl⟩
  have hN2 : NS w0 wa 54 x3 inp3 0 (F) [.int .i64 KV, .slice a1 n1 c1, .slice a2 n2 c2, .slice none 0 0, .int .i64 0, .string ⟨#[]⟩, .string ⟨#[]⟩, .slice none 0 0, .slice none 0 0] := by rw [← hx3]; exact ((HN.out.call hS hX).put 2 _)
  have HRP2 : Hid ((F) = false → Rep x3 (fun k => wa.heap.size < k) (.slice a1 n1 c1) (stepsD x.path)) := Lib.hid fun hf => by rw [← hx3]; exact (rep_put (HN.out.rep (HRP.out (by first | exact hf | exact (Bool.or_eq_false_iff.1 hf).1)) hX) 2 _)
  clear HRP
  have HRP := HRP2
  clear HRP2
  have hlo := HN.out.low
  have HRA : Hid ((F) = false → Rep x3 (fun k => wa.heap.size < k) (.slice a2 n2 c2) (attrsD x.attrs)) := Lib.hid fun hf => by rw [← hx3]; exact (rep_put ((e2 hf).ok fun k hk => by omega) 2 _)
  clear hlo e2
  have HIN := Lib.hid hin
  clear HN HC hS hX hin hb
  have HN := Lib.hid hN2
  clear hN2
  have HC := Lib.hid ((by have h := rnodes_some w0 x3 inp3 0 0 F x.kids (nodeB x.node ++ rest) HOKS.out.1.2.2.2.2 HIN.out HN.out.S (fun y hy => rnode_any w0 (nsz y) 0 y (Nat.le_refl _) (by have := (HOKS.out.2.2.2.1 y hy).1; omega) (HOKS.out.2.2.2.1 y hy).2); rw [hA] at h; exact h))
  go_wp2_with fail
  refine HC.out.mono ?_
  rintro e u4 ⟨v, rfl, ⟨a3, n3, c3, rfl, e3⟩, ⟨inp4, hS, hin⟩, hX⟩
  have hb := HN.out.cell hX
  have k4_0 := blk_cells hb 3 rfl
  have g4_0 := blk_free hb (k := 3)
  obtain ⟨x4, hx4⟩ : ∃ W', (u4.setCell ⟨wa.heap.size, 3, none⟩ (.slice a3 n3 c3)) = W' := ⟨_, rfl⟩
  have hN2 : NS w0 wa 54 x4 inp4 0 (F || !A) [.int .i64 KV, .slice a1 n1 c1, .slice a2 n2 c2, .slice a3 n3 c3, .int .i64 0, .string ⟨#[]⟩, .string ⟨#[]⟩, .slice none 0 0, .slice none 0 0] := by rw [← hx4]; exact ((HN.out.call hS hX).put 3 _)
  have HRP2 : Hid ((F || !A) = false → Rep x4 (fun k => wa.heap.size < k) (.slice a1 n1 c1) (stepsD x.path)) := Lib.hid fun hf => by rw [← hx4]; exact (rep_put (HN.out.rep (HRP.out (by first | exact hf | exact (Bool.or_eq_false_iff.1 hf).1)) hX) 3 _)
  clear HRP
  have HRP := HRP2
  clear HRP2
  have HRA2 : Hid ((F || !A) = false → Rep x4 (fun k => wa.heap.size < k) (.slice a2 n2 c2) (attrsD x.attrs)) := Lib.hid fun hf => by rw [← hx4]; exact (rep_put (HN.out.rep (HRA.out (by first | exact hf | exact (Bool.or_eq_false_iff.1 hf).1)) hX) 3 _)
  clear HRA
  have HRA := HRA2
  clear HRA2
  have hlo := HN.out.low
  have HRK : Hid ((F || !A) = false → Rep x4 (fun k => wa.heap.size < k) (.slice a3 n3 c3) (nodesD x.kids)) := Lib.hid fun hf => by rw [← hx4]; exact (rep_put ((e3 hf).ok fun k hk => by omega) 3 _)
  clear hlo e3
  have HIN := Lib.hid hin
  clear HN HC hS hX hin hb
  have HN := Lib.hid hN2
  clear hN2
  have HC := Lib.hid ((by have h := rnode_any w0 (nsz x.node) 0 x.node (Nat.le_refl _) (by have := HOKS.out.2.2.2.2.1; omega) HOKS.out.2.2.2.2.2 x4 inp4 (F || !A) rest HIN.out HN.out.S; rw [hG] at h; exact h))
  go_wp2_with fail
  refine HC.out.mono ?_
  rintro e u5 ⟨v, rfl, ⟨k4, s, t, a7, n7, c7, a8, n8, c8, rfl, l1, l2, e4⟩, ⟨inp5, hS, hin⟩, hX⟩
  have e7 := fun hf => (e4 hf).2.2.2.1
  have e8 := fun hf => (e4 hf).2.2.2.2
  have hb := HN.out.cell hX
  have k5_0 := blk_cells hb 4 rfl
  have g5_0 := blk_free hb (k := 4)
  have k5_1 := blk_cells hb 5 rfl
  have g5_1 := blk_free hb (k := 5)
  have k5_2 := blk_cells hb 6 rfl
  have g5_2 := blk_free hb (k := 6)
  have k5_3 := blk_cells hb 7 rfl
  have g5_3 := blk_free hb (k := 7)
  have k5_4 := blk_cells hb 8 rfl
  have g5_4 := blk_free hb (k := 8)
  obtain ⟨x5, hx5⟩ : ∃ W', (((((u5.setCell ⟨wa.heap.size, 4, none⟩ (.int .i64 k4)).setCell ⟨wa.heap.size, 5, none⟩ (.string (bs s))).setCell ⟨wa.heap.size, 6, none⟩ (.string (bs t))).setCell ⟨wa.heap.size, 7, none⟩ (.slice a7 n7 c7)).setCell ⟨wa.heap.size, 8, none⟩ (.slice a8 n8 c8)) = W' := ⟨_, rfl⟩
  have hN2 : NS w0 wa 54 x5 inp5 0 ((F || !A) || !G) [.int .i64 KV, .slice a1 n1 c1, .slice a2 n2 c2, .slice a3 n3 c3, .int .i64 k4, .string (bs s), .string (bs t), .slice a7 n7 c7, .slice a8 n8 c8] := by rw [← hx5]; exact ((((((HN.out.call hS hX).put 4 _).put 5 _).put 6 _).put 7 _).put 8 _)
  have HRP2 : Hid (((F || !A) || !G) = false → Rep x5 (fun k => wa.heap.size < k) (.slice a1 n1 c1) (stepsD x.path)) := Lib.hid fun hf => by rw [← hx5]; exact (rep_put (rep_put (rep_put (rep_put (rep_put (HN.out.rep (HRP.out (by first | exact hf | exact (Bool.or_eq_false_iff.1 hf).1)) hX) 4 _) 5 _) 6 _) 7 _) 8 _)
  clear HRP
  have HRP := HRP2
  clear HRP2
  have HRA2 : Hid (((F || !A) || !G) = false → Rep x5 (fun k => wa.heap.size < k) (.slice a2 n2 c2) (attrsD x.attrs)) := Lib.hid fun hf => by rw [← hx5]; exact (rep_put (rep_put (rep_put (rep_put (rep_put (HN.out.rep (HRA.out (by first | exact hf | exact (Bool.or_eq_false_iff.1 hf).1)) hX) 4 _) 5 _) 6 _) 7 _) 8 _)
  clear HRA
  have HRA := HRA2
  clear HRA2
  have HRK2 : Hid (((F || !A) || !G) = false → Rep x5 (fun k => wa.heap.size < k) (.slice a3 n3 c3) (nodesD x.kids)) := Lib.hid fun hf => by rw [← hx5]; exact (rep_put (rep_put (rep_put (rep_put (rep_put (HN.out.rep (HRK.out (by first | exact hf | exact (Bool.or_eq_false_iff.1 hf).1)) hX) 4 _) 5 _) 6 _) 7 _) 8 _)
  clear HRK
  have HRK := HRK2
  clear HRK2
  have hlo := HN.out.low
  have HRM : Hid (((F || !A) || !G) = false → Rep x5 (fun k => wa.heap.size < k) (.slice a7 n7 c7) (attrsD x.node.attrs)) := Lib.hid fun hf => by rw [← hx5]; exact (rep_put (rep_put (rep_put (rep_put (rep_put ((e7 hf).ok fun k hk => by omega) 4 _) 5 _) 6 _) 7 _) 8 _)
  have HRQ : Hid ((((F || !A) || !G)) = false → Rep x5 (fun k => wa.heap.size < k) (.slice a8 n8 c8) (nodesD x.node.kids)) := Lib.hid fun hf => by rw [← hx5]; exact (rep_put (rep_put (rep_put (rep_put (rep_put ((e8 hf).ok fun k hk => by omega) 4 _) 5 _) 6 _) 7 _) 8 _)
  clear hlo e7 e8
  have HIN := Lib.hid hin
  clear HN HC hS hX hin hb
  have HN := Lib.hid hN2
  clear hN2
  obtain ⟨hEa, hba0, hlw, hlab⟩ := HBA.out
  have hba := (HN.out.X.2 W.heap.size (by omega) hlab).trans hba0
  have m0 := blk_cells HN.out.N 0 rfl; have m1 := blk_cells HN.out.N 1 rfl; have m2 := blk_cells HN.out.N 2 rfl; have m3 := blk_cells HN.out.N 3 rfl; have m4 := blk_cells HN.out.N 4 rfl; have m5 := blk_cells HN.out.N 5 rfl; have m6 := blk_cells HN.out.N 6 rfl; have m7 := blk_cells HN.out.N 7 rfl; have m8 := blk_cells HN.out.N 8 rfl
  have r0 := blk_cells hba 0 rfl; have r1 := blk_cells hba 1 rfl; have r2 := blk_cells hba 2 rfl; have r3 := blk_cells hba 3 rfl; have r4 := blk_cells hba 4 rfl; have r5 := blk_cells hba 5 rfl; have r6 := blk_cells hba 6 rfl; have r7 := blk_cells hba 7 rfl; have r8 := blk_cells hba 8 rfl
  have z0 := blk_free hba (k := 0); have z1 := blk_free hba (k := 1); have z2 := blk_free hba (k := 2); have z3 := blk_free hba (k := 3); have z4 := blk_free hba (k := 4); have z5 := blk_free hba (k := 5); have z6 := blk_free hba (k := 6); have z7 := blk_free hba (k := 7); have z8 := blk_free hba (k := 8)
  have y3 : ¬ w0.heap.size = wa.heap.size := by have := HN.out.ne; omega
  have y4 : ¬ wa.heap.size = w0.heap.size := by omega
  have y5 : ¬ W.heap.size = wa.heap.size := by omega
  have y6 : ¬ wa.heap.size = W.heap.size := by omega
  have HL := Lib.hid hba
  have HE := Lib.hid (show (F || !A || !G) = false → k4 = x.node.kind ∧ s = x.node.name ∧ t = x.node.text ∧ True from fun hf => ⟨(e4 hf).1, (e4 hf).2.1, (e4 hf).2.2.1, trivial⟩)
  clear hba hba0 hEa e4
  go_wp2_with fail
  obtain ⟨q1, q2, q3⟩ := edit_end hlw HN.out.S ((Exc.of _ HBA.out.1).trans HN.out.X) HL.out [.int .i64 KV, .slice a1 n1 c1, .slice a2 n2 c2, .slice a3 n3 c3, .int .i64 k4, .string (bs s), .string (bs t), .slice a7 n7 c7, .slice a8 n8 c8] rfl
  simp only [putAll, Nat.zero_add, Nat.reduceAdd] at q1 q2 q3
  refine bodyPost_ret (res_cell rfl _ _ _ ⟨W.heap.size, 0, none⟩ (by rfl) (load_editL q3 ⟨_, rfl⟩ ⟨_, _, _, rfl⟩ ⟨_, _, _, rfl⟩ ⟨_, _, _, rfl⟩ ⟨_, rfl⟩ ⟨_, rfl⟩ ⟨_, rfl⟩ ⟨_, _, _, rfl⟩ ⟨_, _, _, rfl⟩)) rfl ?_
  exact ⟨_, rfl, ⟨KV, a1, n1, c1, a2, n2, c2, a3, n3, c3, k4, s, t, a7, n7, c7, a8, n8, c8, rfl, l1, l2, fun hf => ⟨HKV.out (Bool.or_eq_false_iff.1 (Bool.or_eq_false_iff.1 hf).1).1, (Rep.putAll (b := W.heap.size) (fun k hk => by omega) [.int .i64 KV, .slice a1 n1 c1, .slice a2 n2 c2, .slice a3 n3 c3, .int .i64 k4, .string (bs s), .string (bs t), .slice a7 n7 c7, .slice a8 n8 c8] 0 _ (HRP.out hf)).ok fun k hk => by omega, (Rep.putAll (b := W.heap.size) (fun k hk => by omega) [.int .i64 KV, .slice a1 n1 c1, .slice a2 n2 c2, .slice a3 n3 c3, .int .i64 k4, .string (bs s), .string (bs t), .slice a7 n7 c7, .slice a8 n8 c8] 0 _ (HRA.out hf)).ok fun k hk => by omega, (Rep.putAll (b := W.heap.size) (fun k hk => by omega) [.int .i64 KV, .slice a1 n1 c1, .slice a2 n2 c2, .slice a3 n3 c3, .int .i64 k4, .string (bs s), .string (bs t), .slice a7 n7 c7, .slice a8 n8 c8] 0 _ (HRK.out hf)).ok fun k hk => by omega, (HE.out hf).1, (HE.out hf).2.1, (HE.out hf).2.2.1, (Rep.putAll (b := W.heap.size) (fun k hk => by omega) [.int .i64 KV, .slice a1 n1 c1, .slice a2 n2 c2, .slice a3 n3 c3, .int .i64 k4, .string (bs s), .string (bs t), .slice a7 n7 c7, .slice a8 n8 c8] 0 _ (HRM.out hf)).ok fun k hk => by omega, (Rep.putAll (b := W.heap.size) (fun k hk => by omega) [.int .i64 KV, .slice a1 n1 c1, .slice a2 n2 c2, .slice a3 n3 c3, .int .i64 k4, .string (bs s), .string (bs t), .slice a7 n7 c7, .slice a8 n8 c8] 0 _ (HRQ.out hf)).ok fun k hk => by omega⟩⟩, ⟨_, q1, HIN.out⟩, q2⟩

end Go.Proofs.YtghhachbnhldoaaDoor
