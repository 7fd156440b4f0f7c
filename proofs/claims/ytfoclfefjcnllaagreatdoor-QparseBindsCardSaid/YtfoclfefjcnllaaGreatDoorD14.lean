/-
  The parser's deferred closure. Helper lemmas; no statement of the seat is proved here.
-/
import Derived.Test.YtfoclfefjcnllaaGreatDoorD13
import Derived.Recover
import Derived.Defers
import Derived.Test.YtfoclfefjcnllaaGreatDoorD8
import Derived.Deep.QuietTactic
import Derived.BigQuiet
import Derived.Test.YtfoclfefjcnllaaGreatDoorD7
import Derived.Test.YtfoclfefjcnllaaGreatDoorD3
import Derived.Lib.IndexAny
namespace Go.Proofs.YtfoclfefjcnllaaGreatDoor
open Go.RowKit
set_option maxRecDepth 100000
set_option linter.unusedVariables false
set_option linter.unusedSimpArgs false

theorem s1Code : ∀ W, (sizeOf 34).run Tryz.prog W = .ok 1 W := fun W => by go_simp
theorem s1Int : ∀ W, (sizeOf 3).run Tryz.prog W = .ok 1 W := fun W => by go_simp
theorem store_iv {W : World} {b o : Nat} {u : Value} (t : TypeId) (hs : ∀ W, (sizeOf t).run Tryz.prog W = .ok 1 W) (hc : W.cell? ⟨b, o, none⟩ = some u) (hf : W.frozen? ⟨b, o, none⟩ = false) (n : Int) :
    (Instr.storeAt t (.pointer (some ⟨b, o, none⟩)) (.int .i64 n)).run Tryz.prog W = .ok () (W.setCell ⟨b, o, none⟩ (.int .i64 n)) := by
  go_simp
/-- All but three blocks is as it was. -/
structure G3 (r0 r1 r2 : Nat) (a w : World) : Prop where
  os : w.os = a.os
  tape : w.tape = a.tape
  output : w.output = a.output
  size : a.heap.size ≤ w.heap.size
  block : ∀ k, k < a.heap.size → k ≠ r0 → k ≠ r1 → k ≠ r2 → w.heap[k]? = a.heap[k]?
set_option maxHeartbeats 4000000 in
theorem catch_pan (r0 r1 r2 : Nat) (c a : Int) (W : World) {v0 v1 v2 v3 v4 v5 v6 x1 x2 : Value} (h0 : W.heap[r0]? = some (.cells #[v0, v1, v2, v3, v4, v5, v6] 29)) (h1 : W.heap[r1]? = some (.cells #[x1] 34)) (h2 : W.heap[r2]? = some (.cells #[x2] 3))
    (hr10 : r1 ≠ r0) (hr20 : r2 ≠ r0) (hr21 : r2 ≠ r1) :
    CallsD Tryz.prog 28 #[.pointer (some ⟨r0, 0, none⟩), .pointer (some ⟨r1, 0, none⟩), .pointer (some ⟨r2, 0, none⟩)] (.panicking [{ v := wrongV c a, recovered := false }]) W fun e u' w' =>
      e = .returned (.tuple #[]) ∧ u' = .panicking [{ v := wrongV c a, recovered := true }] ∧ w'.heap[r0]? = some (.cells #[.string ⟨#[]⟩, .string ⟨#[]⟩, .bool false, .int .i64 0, .slice none 0 0, .bool false, .slice none 0 0] 29) ∧ w'.heap[r1]? = some (.cells #[.int .i64 c] 34) ∧ w'.heap[r2]? = some (.cells #[.int .i64 a] 3) ∧ G3 r0 r1 r2 W w' := by
  refine callsD_of_wpS Tryz.func28 rfl fun c₀ cs hu => ?_
  apply wpS_seq
  apply wpS_region
  simp [wpOpsS, go_sem, recoverD, hu, wrongV, Tryz.ntmps28, Exit.thenS]
  refine wpS_of_wp ?_
  change Code.wp _ _ _ { tmps := #[.pointer (some ⟨r0, 0, none⟩), .pointer (some ⟨r1, 0, none⟩), .pointer (some ⟨r2, 0, none⟩), undef, undef, undef, (.iface 74 (.agg #[.int .i64 c, .int .i64 a])), undef, undef, undef, undef, undef, undef, undef, undef, undef, undef], defers := [] } W
  have hta : ∀ W, (Instr.typeAssert (.iface 74 (.agg #[.int .i64 c, .int .i64 a])) 20 74 true).run Tryz.prog W = .ok (.tuple #[.agg #[.int .i64 c, .int .i64 a], .bool true]) W := fun W => rfl
  obtain ⟨wz, hwz⟩ : ∃ w, W.alloc (.cells #[.int .i64 c, .int .i64 a] 74) = w := ⟨_, rfl⟩
  have Ewz : Ext W wz := by rw [← hwz]; exact (Ext.refl W).alloc _
  have hbwz : wz.heap[W.heap.size]? = some (.cells #[.int .i64 c, .int .i64 a] 74) := by rw [← hwz]; exact Array.getElem?_push_size

  obtain ⟨tb, htb⟩ : ∃ r, W.heap.size = r := ⟨_, rfl⟩
  rw [htb] at hbwz
  have hd0 := Gr.blk (Gr.of tb Ewz) (by have := blk_lt h0; omega) h0; have hd1' := Gr.blk (Gr.of tb Ewz) (by have := blk_lt h1; omega) h1; have hd2' := Gr.blk (Gr.of tb Ewz) (by have := blk_lt h2; omega) h2
  have hlt := blk_lt hbwz
  have hl0 := blk_lt h0; have hl1 := blk_lt h1; have hl2 := blk_lt h2
  have htr0 : tb ≠ r0 := by omega
  have htr1 : tb ≠ r1 := by omega
  have htr2 : tb ≠ r2 := by omega
  have hltd : tb < (World.drew wz).heap.size := hlt
  have d0 := blk_cell hbwz (k := 0) rfl
  have d1 := blk_cell hbwz (k := 1) rfl
  clear hbwz
  go_wp2_with fail
  refine rg_begin (S := Sk tb wz) (by kernel_rfl) (Sk.begin tb wz) ?_
  have hSp : Sk tb wz (World.drew wz) := (Sk.begin tb wz)
  refine rg_take 0 (some 12) (.agg #[.string ⟨#[]⟩, .string ⟨#[]⟩, .bool false, .int .i64 0, .slice none 0 0, .bool false, .slice none 0 0]) (oi := { dst := some 12, op := Go.Op.build 29 #[], type := 29, pos := "qparse.go:321", after := #[], guard := none }) rfl rfl (by kernel_rfl) (by kernel_rfl) (by kernel_rfl) (fun _ _ _ h => h) hSp (by rfl) (fun w' hs => by first | rfl | go_simp) ?_
  simp only [Act.put, List.setIfInBounds_toArray, List.set_cons_zero, List.set_cons_succ]
  refine rg_take 1 (some 13) (.pointer (some ⟨tb, 0, none⟩)) (oi := { dst := some 13, op := Go.Op.fieldAddr 74 (Go.Operand.tmp 4) 0, type := 0, pos := "qparse.go:321", after := #[{ on := 5, ground := Go.Ground.gcOnly Go.Departure.lateStores }], guard := none }) rfl rfl (by kernel_rfl) (by kernel_rfl) (by kernel_rfl) (fun _ _ _ h => h) hSp (by rfl) (fun w' hs => by first | rfl | go_simp) ?_
  simp only [Act.put, List.setIfInBounds_toArray, List.set_cons_zero, List.set_cons_succ]
  refine rg_take 2 (some 14) (.int .i64 c) (oi := { dst := some 14, op := Go.Op.load 34 (Go.Operand.tmp 13), type := 34, pos := "qparse.go:321", after := #[{ on := 1, ground := Go.Ground.data }, { on := 5, ground := Go.Ground.gcOnly Go.Departure.lateStores }], guard := none }) rfl rfl (by kernel_rfl) (by kernel_rfl) (by kernel_rfl) (fun _ _ _ h => h) hSp (by rfl) (fun w' hs => by (have h0 := hs.cell trivial d0; go_simp)) ?_
  simp only [Act.put, List.setIfInBounds_toArray, List.set_cons_zero, List.set_cons_succ]
  refine rg_take 3 (some 15) (.pointer (some ⟨tb, 1, none⟩)) (oi := { dst := some 15, op := Go.Op.fieldAddr 74 (Go.Operand.tmp 4) 1, type := 0, pos := "qparse.go:321", after := #[{ on := 6, ground := Go.Ground.gcOnly Go.Departure.lateStores }], guard := none }) rfl rfl (by kernel_rfl) (by kernel_rfl) (by kernel_rfl) (fun _ _ _ h => h) hSp (by rfl) (fun w' hs => by first | rfl | go_simp) ?_
  simp only [Act.put, List.setIfInBounds_toArray, List.set_cons_zero, List.set_cons_succ]
  refine rg_take 4 (some 16) (.int .i64 a) (oi := { dst := some 16, op := Go.Op.load 3 (Go.Operand.tmp 15), type := 3, pos := "qparse.go:321", after := #[{ on := 3, ground := Go.Ground.data }, { on := 6, ground := Go.Ground.gcOnly Go.Departure.lateStores }], guard := none }) rfl rfl (by kernel_rfl) (by kernel_rfl) (by kernel_rfl) (fun _ _ _ h => h) hSp (by rfl) (fun w' hs => by (have h0 := hs.cell trivial d1; go_simp)) ?_
  simp only [Act.put, List.setIfInBounds_toArray, List.set_cons_zero, List.set_cons_succ]
  obtain ⟨hb5, hG5, hs5⟩ := stc7_blk (v0 := .string ⟨#[]⟩) (v1 := .string ⟨#[]⟩) (v2 := .bool false) (v3 := .int .i64 0) (v4 := .slice none 0 0) (v5 := .bool false) (v6 := .slice none 0 0) (w := World.drew wz) hd0
  have hS5 : Sk tb wz (stc7 (World.drew wz) r0 (.string ⟨#[]⟩) (.string ⟨#[]⟩) (.bool false) (.int .i64 0) (.slice none 0 0) (.bool false) (.slice none 0 0)) := Sk.gr hSp hG5 hltd htr0
  refine rg_write 5 none (stc7 (World.drew wz) r0 (.string ⟨#[]⟩) (.string ⟨#[]⟩) (.bool false) (.int .i64 0) (.slice none 0 0) (.bool false) (.slice none 0 0)) (oi := { dst := none, op := Go.Op.store 29 (Go.Operand.tmp 0) (Go.Operand.tmp 12), type := 0, pos := "qparse.go:321", after := #[{ on := 0, ground := Go.Ground.data }, { on := 0, ground := Go.Ground.phase }, { on := 1, ground := Go.Ground.textOnly Go.Departure.lateStores }, { on := 2, ground := Go.Ground.textOnly Go.Departure.lateStores }, { on := 3, ground := Go.Ground.textOnly Go.Departure.lateStores }, { on := 4, ground := Go.Ground.textOnly Go.Departure.lateStores }], guard := none }) rfl rfl (by kernel_rfl) (by rfl) (exec_store rfl (store_ex (W := World.drew wz) hd0 ⟨#[]⟩ ⟨#[]⟩ false 0 none 0 0 false none 0 0)) hS5 ?_
  simp only [Act.put, List.setIfInBounds_toArray, List.set_cons_zero, List.set_cons_succ]
  obtain ⟨w5, hw5⟩ : ∃ w, stc7 (World.drew wz) r0 (.string ⟨#[]⟩) (.string ⟨#[]⟩) (.bool false) (.int .i64 0) (.slice none 0 0) (.bool false) (.slice none 0 0) = w := ⟨_, rfl⟩
  rw [hw5] at hb5 hG5 hS5 ⊢
  have hd15 := Gr.blk hG5 hr10 hd1'
  have hd25 := Gr.blk hG5 hr20 hd2'
  have hS6 : Sk tb wz (w5.setCell ⟨r1, 0, none⟩ (.int .i64 c)) := Sk.gr hS5 ((Gr.refl r1 w5).set 0 _) (by have := hG5.size; omega) htr1
  refine rg_write 6 none (w5.setCell ⟨r1, 0, none⟩ (.int .i64 c)) (oi := { dst := none, op := Go.Op.store 34 (Go.Operand.tmp 1) (Go.Operand.tmp 14), type := 0, pos := "qparse.go:321", after := #[{ on := 2, ground := Go.Ground.data }, { on := 5, ground := Go.Ground.chain }, { on := 0, ground := Go.Ground.phase }, { on := 1, ground := Go.Ground.phase }, { on := 2, ground := Go.Ground.phase }, { on := 3, ground := Go.Ground.textOnly Go.Departure.lateStores }, { on := 4, ground := Go.Ground.textOnly Go.Departure.lateStores }, { on := 5, ground := Go.Ground.phase }], guard := none }) rfl rfl (by kernel_rfl) (by rfl) (exec_store rfl (store_iv _ s1Code (blk_cell hd15 (k := 0) rfl) (blk_free hd15 (k := 0)) _)) hS6 ?_
  simp only [Act.put, List.setIfInBounds_toArray, List.set_cons_zero, List.set_cons_succ]
  have hb6 := heap_setCell_same _ r1 0 _ _ (.int .i64 c) hd15
  simp only [List.setIfInBounds_toArray, List.set_cons_zero, List.set_cons_succ] at hb6
  have hG6 : Gr r1 w5 (w5.setCell ⟨r1, 0, none⟩ (.int .i64 c)) := (Gr.refl r1 w5).set 0 _
  have hd26 := Gr.blk hG6 hr21 hd25
  have hS7 : Sk tb wz ((w5.setCell ⟨r1, 0, none⟩ (.int .i64 c)).setCell ⟨r2, 0, none⟩ (.int .i64 a)) := Sk.gr hS6 ((Gr.refl r2 _).set 0 _) (by have := hG5.size; have := hG6.size; omega) htr2
  refine rg_write 7 none ((w5.setCell ⟨r1, 0, none⟩ (.int .i64 c)).setCell ⟨r2, 0, none⟩ (.int .i64 a)) (oi := { dst := none, op := Go.Op.store 3 (Go.Operand.tmp 2) (Go.Operand.tmp 16), type := 0, pos := "qparse.go:321", after := #[{ on := 4, ground := Go.Ground.data }, { on := 6, ground := Go.Ground.chain }, { on := 0, ground := Go.Ground.phase }, { on := 1, ground := Go.Ground.phase }, { on := 2, ground := Go.Ground.phase }, { on := 3, ground := Go.Ground.phase }, { on := 4, ground := Go.Ground.phase }, { on := 5, ground := Go.Ground.phase }, { on := 6, ground := Go.Ground.phase }], guard := none }) rfl rfl (by kernel_rfl) (by rfl) (exec_store rfl (store_iv _ s1Int (blk_cell hd26 (k := 0) rfl) (blk_free hd26 (k := 0)) _)) hS7 ?_
  simp only [Act.put, List.setIfInBounds_toArray, List.set_cons_zero, List.set_cons_succ]
  have hb7 := heap_setCell_same _ r2 0 _ _ (.int .i64 a) hd26
  simp only [List.setIfInBounds_toArray, List.set_cons_zero, List.set_cons_succ] at hb7
  have hG7 : Gr r2 (w5.setCell ⟨r1, 0, none⟩ (.int .i64 c)) ((w5.setCell ⟨r1, 0, none⟩ (.int .i64 c)).setCell ⟨r2, 0, none⟩ (.int .i64 a)) := (Gr.refl r2 _).set 0 _
  refine rg_done (by kernel_rfl) ?_
  have hE1 : Ext W (World.drew wz) := Ewz.drew
  have hGS : G3 r0 r1 r2 W ((w5.setCell ⟨r1, 0, none⟩ (.int .i64 c)).setCell ⟨r2, 0, none⟩ (.int .i64 a)) :=
    ⟨hG7.os.trans (hG6.os.trans (hG5.os.trans hE1.os)), hG7.tape.trans (hG6.tape.trans (hG5.tape.trans hE1.tape)), hG7.output.trans (hG6.output.trans (hG5.output.trans hE1.output)), Nat.le_trans hE1.size (Nat.le_trans hG5.size (Nat.le_trans hG6.size hG7.size)),
      fun k hk k0 k1 k2 => (hG7.block k (Nat.lt_of_lt_of_le hk (Nat.le_trans hE1.size (Nat.le_trans hG5.size hG6.size))) fun e => k2 (Option.some.inj e)).trans ((hG6.block k (Nat.lt_of_lt_of_le hk (Nat.le_trans hE1.size hG5.size)) fun e => k1 (Option.some.inj e)).trans ((hG5.block k (Nat.lt_of_lt_of_le hk hE1.size) fun e => k0 (Option.some.inj e)).trans (Below.block hE1 k hk)))⟩
  have hq0 := Gr.blk hG7 hr20.symm (Gr.blk hG6 hr10.symm hb5)
  have hq1 := Gr.blk hG7 hr21.symm hb6
  exact ⟨rfl, _, rfl, _, results_none rfl _ _ _, rfl, rfl, hq0, hq1, hb7, hGS⟩
set_option maxHeartbeats 1000000 in
theorem catch_ok (r0 r1 r2 : Nat) (W : World) :
    CallsD Tryz.prog 28 #[.pointer (some ⟨r0, 0, none⟩), .pointer (some ⟨r1, 0, none⟩), .pointer (some ⟨r2, 0, none⟩)] .returning W fun e u' w' => e = .returned (.tuple #[]) ∧ u' = .returning ∧ w' = W := by
  refine callsD_of_wpS Tryz.func28 rfl fun c₀ cs hu => ?_
  apply wpS_seq
  apply wpS_region
  simp [wpOpsS, go_sem, recoverD, hu, Tryz.ntmps28, Exit.thenS]
  refine wpS_of_wp ?_
  change Code.wp _ _ _ { tmps := #[.pointer (some ⟨r0, 0, none⟩), .pointer (some ⟨r1, 0, none⟩), .pointer (some ⟨r2, 0, none⟩), undef, undef, undef, .nilIface, undef, undef, undef, undef, undef, undef, undef, undef, undef, undef], defers := [] } W
  go_wp2_with fail
  exact ⟨rfl, c₀.mode, rfl, _, results_none rfl _ _ _, rfl, hu, rfl⟩

end Go.Proofs.YtfoclfefjcnllaaGreatDoor

/-
  The parser's all. Helper lemmas; no statement of the seat is proved here.
-/
namespace Go.Proofs.YtfoclfefjcnllaaGreatDoor
open Go.RowKit
set_option maxRecDepth 100000
set_option linter.unusedVariables false
set_option linter.unusedSimpArgs false

theorem run_results (fn : Func) (h : fn.results = #[.cell 2 29, .cell 3 34, .cell 4 3]) {tmps : Array Value} {w : World} {r0 r1 r2 : Nat} {v0 v1 v2 v3 v4 v5 v6 x1 x2 : Value} (ha : tmps.getD 2 undef = .pointer (some ⟨r0, 0, none⟩)) (hb : tmps.getD 3 undef = .pointer (some ⟨r1, 0, none⟩)) (hc : tmps.getD 4 undef = .pointer (some ⟨r2, 0, none⟩))
    (h0 : w.heap[r0]? = some (.cells #[v0, v1, v2, v3, v4, v5, v6] 29)) (h1 : w.heap[r1]? = some (.cells #[x1] 34)) (h2 : w.heap[r2]? = some (.cells #[x2] 3)) :
    (results fn tmps).run Tryz.prog w = .ok (.tuple #[.agg #[v0, v1, v2, v3, v4, v5, v6], x1, x2]) w := by
  obtain ⟨k0, k1, k2, k3, k4, k5, k6⟩ := cells7 h0
  have n1 := blk_cell h1 (k := 0) rfl
  have n2 := blk_cell h2 (k := 0) rfl
  simp at n1 n2
  rw [Array.getD_eq_getD_getElem?] at ha hb hc
  simp only [results, h]
  go_simp
/-- What the parser's all gives. -/
def allR (ts : List QT) (en : Nat) : Except (Int × Int) Ex := match exprP ts en (fuelP ts) 0 0 with
    | .error e => .error e
    | .ok (e, i) => if i < ts.length then .error (61, ((tokP ts en i).at' : Int)) else .ok e
def AllX (g : Nat) (W : World) (r : Except (Int × Int) Ex) (e : Ending) (w' : World) : Prop := Gr g W w' ∧ match r with
  | .error (c, a) => e = .returned (.tuple #[.agg #[.string ⟨#[]⟩, .string ⟨#[]⟩, .bool false, .int .i64 0, .slice none 0 0, .bool false, .slice none 0 0], .int .i64 c, .int .i64 a])
  | .ok x => ∃ v, e = .returned (.tuple #[v, .int .i64 0, .int .i64 0]) ∧ XV w' (fun b => W.heap.size ≤ b) x v
section
variable {g : Nat} {ts : List QT} {en : Nat}
set_option maxHeartbeats 16000000 in
theorem allx_any (W : World) (HV : PEnv g W ts en) (hP : PS g W ts en 0 0) : Calls Tryz.prog 14 #[.pointer (some ⟨g, 0, none⟩)] W (AllX g W (allR ts en)) := by
  have hmf : ∀ (fn : Fn) (first cap : Array Value) (w : World), (Instr.makeFunc fn first cap).run Tryz.prog w = .ok (.func fn first cap) w := fun _ _ _ _ => rfl
  have hnf : NoF (exprP ts en (fuelP ts) 0 0) := by
    have h := fuel_ok ts en
    revert h
    cases exprP ts en (fuelP ts) 0 0 with
    | error e => exact fun h => h
    | ok x => exact fun _ => trivial
  have HV0 := Lib.hid HV
  have hlt := hP.lt
  obtain ⟨w1, hw1⟩ : ∃ w, W.alloc (.cells #[.string ⟨#[]⟩, .string ⟨#[]⟩, .bool false, .int .i64 0, .slice none 0 0, .bool false, .slice none 0 0] 29) = w := ⟨_, rfl⟩
  have Ew1 : Ext W w1 := by rw [← hw1]; exact (Ext.refl W).alloc _
  have hbw1 : w1.heap[W.heap.size]? = some (.cells #[.string ⟨#[]⟩, .string ⟨#[]⟩, .bool false, .int .i64 0, .slice none 0 0, .bool false, .slice none 0 0] 29) := by rw [← hw1]; exact Array.getElem?_push_size

  obtain ⟨r0, hr0⟩ : ∃ r, W.heap.size = r := ⟨_, rfl⟩
  rw [hr0] at hbw1
  obtain ⟨w2, hw2⟩ : ∃ w, w1.alloc (.cells #[.int .i64 0] 34) = w := ⟨_, rfl⟩
  have Ew2 : Ext w1 w2 := by rw [← hw2]; exact (Ext.refl w1).alloc _
  have hbw2 : w2.heap[w1.heap.size]? = some (.cells #[.int .i64 0] 34) := by rw [← hw2]; exact Array.getElem?_push_size

  obtain ⟨r1, hr1⟩ : ∃ r, w1.heap.size = r := ⟨_, rfl⟩
  rw [hr1] at hbw2
  obtain ⟨w3, hw3⟩ : ∃ w, w2.alloc (.cells #[.int .i64 0] 3) = w := ⟨_, rfl⟩
  have Ew3 : Ext w2 w3 := by rw [← hw3]; exact (Ext.refl w2).alloc _
  have hbw3 : w3.heap[w2.heap.size]? = some (.cells #[.int .i64 0] 3) := by rw [← hw3]; exact Array.getElem?_push_size

  obtain ⟨r2, hr2⟩ : ∃ r, w2.heap.size = r := ⟨_, rfl⟩
  rw [hr2] at hbw3
  have hl1 := blk_lt hbw1
  have hl2 := blk_lt hbw2
  have hl3 := blk_lt hbw3
  have hE3 := Ew1.trans (Ew2.trans Ew3)
  have hP3 := hP.ext hE3
  have hc0 := Gr.blk (Gr.of g (Ew2.trans Ew3)) (by omega) hbw1
  have hc1 := Gr.blk (Gr.of g Ew3) (by omega) hbw2
  have HC := Lib.hid ((parser_all HV (fuelP ts)).e w3 0 0 (Gr.of g hE3) hP3 (by omega) hnf)
  have HQ := Lib.hid (And.intro hE3 (And.intro hc0 (And.intro hc1 hbw3)))
  obtain ⟨A, hA⟩ : ∃ A, allR ts en = A := ⟨_, rfl⟩
  rw [hA]
  unfold allR at hA
  obtain ⟨X, hX⟩ : ∃ X, exprP ts en (fuelP ts) 0 0 = X := ⟨_, rfl⟩
  rw [hX] at HC hA
  have HA := Lib.hid hA
  clear hA hX hnf Ew1 Ew2 Ew3 hbw1 hbw2 hbw3 hE3 hP3 hc0 hc1 HV hP
  go_enter_defers Tryz.func14, Tryz.ntmps14
  go_wp2_with fail
  refine HC.out.mono ?_
  rintro e w4 ⟨hG4, hV⟩
  clear HC hw1 hw2 hw3
  obtain ⟨hE3, hz0, hz1, hz2⟩ := HQ.out
  have hGW : Gr g W w4 := (Gr.of g hE3).trans hG4
  have hc0 := Gr.blk hG4 (by omega) hz0
  have hc1 := Gr.blk hG4 (by omega) hz1
  have hc2 := Gr.blk hG4 (by omega) hz2
  have hA := HA.out
  rcases X with ⟨c, a⟩ | ⟨x, j⟩
  · obtain rfl := hV
    obtain rfl : .error (c, a) = A := hA
    refine leaves_cons (f := 28) (args := #[.pointer (some ⟨r0, 0, none⟩), .pointer (some ⟨r1, 0, none⟩), .pointer (some ⟨r2, 0, none⟩)]) (by simp) (by simp [go_sem]) ?_
    refine (catch_pan r0 r1 r2 c a w4 hc0 hc1 hc2 (by omega) (by omega) (by omega)).mono ?_
    rintro e u' w' ⟨rfl, rfl, hz0, hz1, hz2, hG3⟩
    obtain ⟨k0, k1, k2, k3, k4, k5, k6⟩ := cells7 hz0
    have n1 := blk_cell hz1 (k := 0) rfl
    have n2 := blk_cell hz2 (k := 0) rfl
    have hsz := hGW.size
    refine ⟨_, run_results _ rfl rfl rfl rfl hz0 hz1 hz2, ⟨hG3.os.trans hGW.os, hG3.tape.trans hGW.tape, hG3.output.trans hGW.output, Nat.le_trans hsz hG3.size, fun k hk hn => (hG3.block k (Nat.lt_of_lt_of_le hk hsz) (by omega) (by omega) (by omega)).trans (hGW.block k hk hn)⟩, ?_⟩
    rfl
  obtain ⟨v, rfl, hx, hP4⟩ := hV
  obtain ⟨aa, ac, ad, ae, rfl, hxw⟩ := XW.of hx
  clear hx
  dsimp only at hA
  have hjl := hP4.hi
  obtain ⟨k0, k1, k2, k3, k4, k5, k6⟩ := cells7 hc0
  have z0 := blk_free hc0 (k := 0); have z1 := blk_free hc0 (k := 1); have z2 := blk_free hc0 (k := 2); have z3 := blk_free hc0 (k := 3); have z4 := blk_free hc0 (k := 4); have z5 := blk_free hc0 (k := 5); have z6 := blk_free hc0 (k := 6)
  obtain ⟨hd0, hGd, hsd⟩ := stc7_blk (v0 := .string (bs x.op)) (v1 := .string (bs x.text)) (v2 := .bool x.nan) (v3 := .int .i64 x.val) (v4 := .slice aa x.args.length ac) (v5 := .bool x.abs) (v6 := .slice ad x.steps.length ae) hc0
  obtain ⟨wz, hwz⟩ : ∃ w, stc7 w4 r0 (.string (bs x.op)) (.string (bs x.text)) (.bool x.nan) (.int .i64 x.val) (.slice aa x.args.length ac) (.bool x.abs) (.slice ad x.steps.length ae) = w := ⟨_, rfl⟩
  rw [hwz] at hd0 hGd hsd
  unfold stc7 at hwz
  have hlen := HV0.out.ok.len
  have hPz := hP4.gr hGd (by omega)
  obtain ⟨la, lc, hrow, _⟩ := hPz.row
  have c0 := hrow
  have c1 := hPz.c1
  have hd1 := Gr.blk hGd (by omega) hc1
  have hd2 := Gr.blk hGd (by omega) hc2
  have hGz := hGW.new hGd (by omega)
  have hxz := hxw.gr hGd (fun b hb => by have := blk_lt hz0; omega)
  have HZ := Lib.hid (And.intro hGz (And.intro hPz (And.intro hd0 (And.intro hd1 (And.intro hd2 hxz)))))
  clear hGz hPz hd0 hd1 hd2 hxz hrow hGd hP4 hxw hc0 hc1 hc2 hz0 hz1 hz2 HQ hGW hG4 hE3
  by_cases hj : j < ts.length
  · obtain rfl : .error (61, ((tokP ts en j).at' : Int)) = A := (if_pos hj).symm.trans hA
    clear hA HA
    go_wp2_with fail
    have hjI : decide ((j : Int) < (ts.length : Int)) = true := decide_eq_true (by omega)
    go_quiet (fail)
    obtain ⟨wy, hwy⟩ : ∃ w, wz.drewN nq = w := ⟨_, rfl⟩
    have hEy : Ext wz wy := by rw [← hwy]; exact (Ext.refl wz).drewN _
    rw [hwy]
    clear hwy
    obtain ⟨hGz, hPz, hd0, hd1, hd2, hxz⟩ := HZ.out
    have hPy := hPz.ext hEy
    have hGy := hGz.ext hEy
    have hy0 := Gr.blk (Gr.of g hEy) (by omega) hd0
    have hy1 := Gr.blk (Gr.of g hEy) (by omega) hd1
    have hy2 := Gr.blk (Gr.of g hEy) (by omega) hd2
    have hxy := hxz.ext hEy
    have hsy := hGy.size
    clear hGz hPz hd0 hd1 hd2 hxz HZ hjI k0 k1 k2 k3 k4 k5 k6 z0 z1 z2 z3 z4 z5 z6 hwz c0 c1
    have HF := Lib.hid (fail_any g wy ts en j 0 HV0.out.ok hPy 61)
    have HQ := Lib.hid (And.intro hGy (And.intro hy0 (And.intro hy1 hy2)))
    clear hGy hPy hy0 hy1 hy2 hxy hj
    go_wp2_with fail
    refine HF.out.mono ?_
    rintro e w6 ⟨rfl, hX6⟩
    clear HF
    obtain ⟨hGy, hy0, hy1, hy2⟩ := HQ.out
    have hGW := hGy.ext hX6
    have hc0 := Gr.blk (Gr.of g hX6) (by omega) hy0
    have hc1 := Gr.blk (Gr.of g hX6) (by omega) hy1
    have hc2 := Gr.blk (Gr.of g hX6) (by omega) hy2
    refine leaves_cons (f := 28) (args := #[.pointer (some ⟨r0, 0, none⟩), .pointer (some ⟨r1, 0, none⟩), .pointer (some ⟨r2, 0, none⟩)]) (by simp) (by simp [go_sem]) ?_
    refine (catch_pan r0 r1 r2 61 ((tokP ts en j).at' : Int) w6 hc0 hc1 hc2 (by omega) (by omega) (by omega)).mono ?_
    rintro e u' w' ⟨rfl, rfl, hz0, hz1, hz2, hG3⟩
    obtain ⟨k0, k1, k2, k3, k4, k5, k6⟩ := cells7 hz0
    have n1 := blk_cell hz1 (k := 0) rfl
    have n2 := blk_cell hz2 (k := 0) rfl
    have hsz := hGW.size
    refine ⟨_, run_results _ rfl rfl rfl rfl hz0 hz1 hz2, ⟨hG3.os.trans hGW.os, hG3.tape.trans hGW.tape, hG3.output.trans hGW.output, Nat.le_trans hsz hG3.size, fun k hk hn => (hG3.block k (Nat.lt_of_lt_of_le hk hsz) (by omega) (by omega) (by omega)).trans (hGW.block k hk hn)⟩, ?_⟩
    rfl
  · obtain rfl : .ok x = A := (if_neg hj).symm.trans hA
    clear hA HA
    go_wp2_with fail
    have hjI : decide ((j : Int) < (ts.length : Int)) = false := decide_eq_false (by omega)
    go_quiet (fail)
    obtain ⟨wy, hwy⟩ : ∃ w, wz.drewN nq = w := ⟨_, rfl⟩
    have hEy : Ext wz wy := by rw [← hwy]; exact (Ext.refl wz).drewN _
    rw [hwy]
    clear hwy
    obtain ⟨hGz, hPz, hd0, hd1, hd2, hxz⟩ := HZ.out
    have hPy := hPz.ext hEy
    have hGy := hGz.ext hEy
    have hy0 := Gr.blk (Gr.of g hEy) (by omega) hd0
    have hy1 := Gr.blk (Gr.of g hEy) (by omega) hd1
    have hy2 := Gr.blk (Gr.of g hEy) (by omega) hd2
    have hxy := hxz.ext hEy
    have hsy := hGy.size
    clear hGz hPz hd0 hd1 hd2 hxz HZ hjI k0 k1 k2 k3 k4 k5 k6 z0 z1 z2 z3 z4 z5 z6 hwz c0 c1
    obtain ⟨k0, k1, k2, k3, k4, k5, k6⟩ := cells7 hy0
    have z0 := blk_free hy0 (k := 0); have z1 := blk_free hy0 (k := 1); have z2 := blk_free hy0 (k := 2); have z3 := blk_free hy0 (k := 3); have z4 := blk_free hy0 (k := 4); have z5 := blk_free hy0 (k := 5); have z6 := blk_free hy0 (k := 6)
    have n1 := blk_cell hy1 (k := 0) rfl
    have n2 := blk_cell hy2 (k := 0) rfl
    have m1 := blk_free hy1 (k := 0)
    have m2 := blk_free hy2 (k := 0)
    simp at n1 n2
    obtain ⟨hu0, hGu, hsu⟩ := stc7_blk (v0 := .string (bs x.op)) (v1 := .string (bs x.text)) (v2 := .bool x.nan) (v3 := .int .i64 x.val) (v4 := .slice aa x.args.length ac) (v5 := .bool x.abs) (v6 := .slice ad x.steps.length ae) hy0
    obtain ⟨w7, hw7⟩ : ∃ w, stc7 wy r0 (.string (bs x.op)) (.string (bs x.text)) (.bool x.nan) (.int .i64 x.val) (.slice aa x.args.length ac) (.bool x.abs) (.slice ad x.steps.length ae) = w := ⟨_, rfl⟩
    rw [hw7] at hu0 hGu hsu
    unfold stc7 at hw7
    have hu1 := Gr.blk hGu (by omega) hy1
    have hu2 := Gr.blk hGu (by omega) hy2
    have p1 := blk_cell hu1 (k := 0) rfl
    have q1 := blk_free hu1 (k := 0)
    simp at p1
    obtain ⟨w8, hw8⟩ : ∃ w, w7.setCell ⟨r1, 0, none⟩ (.int .i64 0) = w := ⟨_, rfl⟩
    have hG8 : Gr r1 w7 w8 := by rw [← hw8]; exact (Gr.refl r1 _).set 0 _
    have h80 := Gr.blk hG8 (by omega) hu0
    have h81 := heap_setCell_same w7 r1 0 _ _ (.int .i64 0) hu1
    rw [hw8] at h81
    simp only [List.setIfInBounds_toArray, List.set_cons_zero, List.set_cons_succ] at h81
    have h82 := Gr.blk hG8 (by omega) hu2
    have p2 := blk_cell h82 (k := 0) rfl
    have q2 := blk_free h82 (k := 0)
    simp at p2
    obtain ⟨w9, hw9⟩ : ∃ w, w8.setCell ⟨r2, 0, none⟩ (.int .i64 0) = w := ⟨_, rfl⟩
    have hG9 : Gr r2 w8 w9 := by rw [← hw9]; exact (Gr.refl r2 _).set 0 _
    have h90 := Gr.blk hG9 (by omega) h80
    have h91 := Gr.blk hG9 (by omega) h81
    have h92 := heap_setCell_same w8 r2 0 _ _ (.int .i64 0) h82
    rw [hw9] at h92
    simp only [List.setIfInBounds_toArray, List.set_cons_zero, List.set_cons_succ] at h92
    have HW := Lib.hid (And.intro (((hGy.new hGu (by omega)).new hG8 (by omega)).new hG9 (by omega)) (And.intro h90 (And.intro h91 (And.intro h92 (((hxy.gr hGu (fun b hb => by omega)).gr hG8 (fun b hb => by omega)).gr hG9 (fun b hb => by omega))))))
    clear hGy hPy hy0 hy1 hy2 hxy hj hEy hu0 hGu hu1 hu2 hG8 h80 h81 h82 hG9 h90 h91 h92
    go_wp2_with fail
    refine leaves_cons (f := 28) (args := #[.pointer (some ⟨r0, 0, none⟩), .pointer (some ⟨r1, 0, none⟩), .pointer (some ⟨r2, 0, none⟩)]) (by simp) (by simp [go_sem]) ?_
    refine (catch_ok r0 r1 r2 w9).mono ?_
    rintro e u' w' ⟨rfl, rfl, rfl⟩
    exact ⟨_, run_results _ rfl rfl rfl rfl HW.out.2.1 HW.out.2.2.1 HW.out.2.2.2.1, HW.out.1, _, rfl, (HW.out.2.2.2.2.ok fun b hb => by omega).xv⟩
end

end Go.Proofs.YtfoclfefjcnllaaGreatDoor

/-
  qparse.Parse. Helper lemmas; no statement of the seat is proved here.
-/
namespace Go.Proofs.YtfoclfefjcnllaaGreatDoor
open Go.RowKit
set_option maxRecDepth 100000
set_option linter.unusedVariables false
set_option linter.unusedSimpArgs false

theorem run_res2 (fn : Func) (h : fn.results = #[.cell 2 29, .tmp 3]) {tmps : Array Value} {w : World} {r0 : Nat} {v0 v1 v2 v3 v4 v5 v6 u : Value} (ha : tmps.getD 2 undef = .pointer (some ⟨r0, 0, none⟩)) (hb : tmps.getD 3 undef = u)
    (h0 : w.heap[r0]? = some (.cells #[v0, v1, v2, v3, v4, v5, v6] 29)) :
    (results fn tmps).run Tryz.prog w = .ok (.tuple #[.agg #[v0, v1, v2, v3, v4, v5, v6], u]) w := by
  obtain ⟨k0, k1, k2, k3, k4, k5, k6⟩ := cells7 h0
  rw [Array.getD_eq_getD_getElem?] at ha hb
  simp only [results, h]
  go_simp
theorem fin7e {fn : Func} (h : fn.results = #[.cell 2 29, .tmp 3]) {tmps : Array Value} {w : World} {r : Nat} {c0 c1 c2 c3 c4 c5 c6 v0 v1 v2 v3 v4 v5 v6 u : Value} (hr : w.heap[r]? = some (.cells #[c0, c1, c2, c3, c4, c5, c6] 29)) (hp : tmps.getD 2 undef = .pointer (some ⟨r, 0, none⟩)) (hu : tmps.getD 3 undef = u) {R : Ending → World → Prop}
    (hR : ∀ W', Gr r w W' → R (.returned (.tuple #[.agg #[v0, v1, v2, v3, v4, v5, v6], u])) W') : bodyPost Tryz.prog fn R .ret { tmps := tmps, defers := [] } (((((((w.setCell ⟨r, 0, none⟩ v0).setCell ⟨r, 1, none⟩ v1).setCell ⟨r, 2, none⟩ v2).setCell ⟨r, 3, none⟩ v3).setCell ⟨r, 4, none⟩ v4).setCell ⟨r, 5, none⟩ v5).setCell ⟨r, 6, none⟩ v6) := by
  obtain ⟨h1, h2, _⟩ := stc7_blk (v0 := v0) (v1 := v1) (v2 := v2) (v3 := v3) (v4 := v4) (v5 := v5) (v6 := v6) hr
  unfold stc7 at h1 h2
  exact bodyPost_ret (run_res2 _ h hp hu h1) rfl (hR _ h2)
theorem ErrV.gr {w w' : World} {g lo : Nat} {code at' : Int} {v : Value} (h : ErrV w lo code at' v) (hm : Gr g w w') (hg : g < lo) : ErrV w' lo code at' v := by
  obtain ⟨b1, b2, h0, h1, h2, h3, h4, h5, h6, h7⟩ := h
  have e1 := hm.block b1 h1 (fun e => by have := Option.some.inj e; omega)
  have e2 := hm.block b2 h2 (fun e => by have := Option.some.inj e; omega)
  have s := hm.size
  exact ⟨b1, b2, h0, by omega, by omega, (World.cell?_of_block (a := ⟨b1, 1, none⟩) e1).trans h3, (World.cell?_of_block (a := ⟨b2, 0, none⟩) e2).trans h4, (World.cell?_of_block (a := ⟨b2, 1, none⟩) e2).trans h5, h6, h7⟩
theorem parseP_eq (s : List UInt8) : parseP s = match allS s with
    | .error e => .error e
    | .ok ts => allR ts s.length := by
  unfold parseP allR
  cases allS s with
  | error e => rfl
  | ok ts => rfl
theorem allR_nz (ts : List QT) (en : Nat) {c a : Int} (h : allR ts en = .error (c, a)) : c ≠ 0 := by
  unfold allR at h
  have hg := fuel_ok ts en
  revert h hg
  cases exprP ts en (fuelP ts) 0 0 with
  | error e => intro h hg; cases h; exact hg
  | ok x =>
    obtain ⟨e, i⟩ := x
    intro h _
    dsimp only at h
    split at h
    · cases h; decide
    · cases h
/-- What Parse leans on, in every world that it comes to. -/
structure QEnv (W : World) : Prop where
  tb : ∀ w, Ext W w → Tabs w
  sp : ∀ w, Ext W w → Lib.TabIs Tryz.prog w "strings.asciiSpace" .u8 Lib.asciiSpaceTab
  gl : ∀ w, Ext W w → Glob w
def ParseX (W : World) (r : Except (Int × Int) Ex) (e : Ending) (w' : World) : Prop := Ext W w' ∧ match r with
  | .error (c, a) => ∃ v, e = .returned (.tuple #[.agg #[.string ⟨#[]⟩, .string ⟨#[]⟩, .bool false, .int .i64 0, .slice none 0 0, .bool false, .slice none 0 0], v]) ∧ ErrV w' W.heap.size c a v
  | .ok x => ∃ v, e = .returned (.tuple #[v, .nilIface]) ∧ XV w' (fun b => W.heap.size ≤ b) x v
set_option maxHeartbeats 16000000 in
theorem parse_qany (s : List UInt8) (W : World) (hl : s.length ≤ 1000) (HV : QEnv W) : Calls Tryz.prog 7 #[.string (bs s)] W (ParseX W (parseP s)) := by
  obtain ⟨R, hR⟩ : ∃ R, parseP s = R := ⟨_, rfl⟩
  rw [hR]
  rw [parseP_eq] at hR
  obtain ⟨w1, hw1⟩ : ∃ w, W.alloc (.cells #[.string ⟨#[]⟩, .string ⟨#[]⟩, .bool false, .int .i64 0, .slice none 0 0, .bool false, .slice none 0 0] 29) = w := ⟨_, rfl⟩
  have Ew1 : Ext W w1 := by rw [← hw1]; exact (Ext.refl W).alloc _
  have hbw1 : w1.heap[W.heap.size]? = some (.cells #[.string ⟨#[]⟩, .string ⟨#[]⟩, .bool false, .int .i64 0, .slice none 0 0, .bool false, .slice none 0 0] 29) := by rw [← hw1]; exact Array.getElem?_push_size

  obtain ⟨r0, hr0⟩ : ∃ r, W.heap.size = r := ⟨_, rfl⟩
  rw [hr0] at hbw1
  have hl1 := blk_lt hbw1
  have HC := Lib.hid (all_any s w1 hl fun w h => HV.tb w (Ew1.trans h))
  obtain ⟨A, hA⟩ : ∃ A, allS s = A := ⟨_, rfl⟩
  rw [hA] at HC hR
  have HR := Lib.hid hR
  have HQ := Lib.hid (And.intro Ew1 hbw1)
  have HV0 := Lib.hid HV
  have hsz : (bs s).size = s.length := bs_size s
  clear hR hA HV Ew1 hbw1
  go_enter Tryz.func7, Tryz.ntmps7
  go_wp2_with fail
  refine HC.out.mono ?_
  rintro e w2 ⟨hX2, hV⟩
  clear HC hw1
  obtain ⟨hE1, hb1⟩ := HQ.out
  have hR := HR.out
  rcases A with ⟨c, a⟩ | ts
  · obtain ⟨v, rfl, hev, hnz⟩ := hV
    obtain rfl : .error (c, a) = R := hR
    have hb2 := Gr.blk (Gr.of (r0 + 1) hX2) (by omega) hb1
    obtain ⟨r0', r1, r2, r3, r4, r5, r6⟩ := cells7 hb2
    have z0 := blk_free hb2 (k := 0); have z1 := blk_free hb2 (k := 1); have z2 := blk_free hb2 (k := 2); have z3 := blk_free hb2 (k := 3); have z4 := blk_free hb2 (k := 4); have z5 := blk_free hb2 (k := 5); have z6 := blk_free hb2 (k := 6)
    have HW := Lib.hid (And.intro (hE1.trans hX2) (And.intro hb2 hev))
    obtain ⟨b1, b2, rfl, _⟩ := hev
    clear hb2 hb1 hE1 hX2 HQ HR
    go_wp2_with fail
    refine fin7e rfl HW.out.2.1 rfl rfl fun W' hG' => ⟨HW.out.1.gr hG' (by omega), _, rfl, (HW.out.2.2.gr hG' (by omega)).lo (by omega)⟩
  obtain ⟨v, rfl, hle, hrep, htx⟩ := hV
  obtain ⟨la, lc, rfl, _, _⟩ := hrep.count (f := tokC) z_tok (by omega)
  dsimp only at hR
  obtain ⟨w3, hw3⟩ : ∃ w, w2.alloc (.cells #[.slice la ts.length lc, .int .i64 0, .int .i64 (s.length : Nat), .int .i64 0] 47) = w := ⟨_, rfl⟩
  have Ew3 : Ext w2 w3 := by rw [← hw3]; exact (Ext.refl w2).alloc _
  have hbw3 : w3.heap[w2.heap.size]? = some (.cells #[.slice la ts.length lc, .int .i64 0, .int .i64 (s.length : Nat), .int .i64 0] 47) := by rw [← hw3]; exact Array.getElem?_push_size

  obtain ⟨g, hg⟩ : ∃ r, w2.heap.size = r := ⟨_, rfl⟩
  rw [hg] at hbw3
  have hs2 := hX2.size
  have hl3 := blk_lt hbw3
  have hP : PS g w3 ts s.length 0 0 := ⟨⟨la, lc, blk_cell hbw3 (k := 0) rfl, (hrep.lt.ext Ew3).ok fun b hb => by omega⟩, blk_cell hbw3 (k := 1) rfl, blk_cell hbw3 (k := 2) rfl, blk_cell hbw3 (k := 3) rfl, blk_free hbw3, blk_free hbw3, Nat.zero_le _⟩
  have hE3 := hE1.trans (hX2.trans Ew3)
  have HP : PEnv g w3 ts s.length := ⟨⟨by omega, by omega, htx⟩, fun w h => HV0.out.sp w (hE3.gr h (by omega)), fun w h => HV0.out.gl w (hE3.gr h (by omega))⟩
  have HC := Lib.hid (allx_any w3 HP hP)
  have hnz0 := fun c a => allR_nz ts s.length (c := c) (a := a)
  have HZ := Lib.hid (And.intro hE3 (Gr.blk (Gr.of g (hX2.trans Ew3)) (by omega) hb1))
  obtain ⟨X, hX⟩ : ∃ X, allR ts s.length = X := ⟨_, rfl⟩
  rw [hX] at HC hR
  simp only [hX] at hnz0
  obtain rfl : X = R := hR
  clear HR hX hrep hP HP hE3 hE1 hb1 HQ hX2 Ew3 hbw3 htx
  go_wp2_with fail
  refine HC.out.mono ?_
  rintro e w4 ⟨hG4, hV⟩
  clear HC hw3
  obtain ⟨hE3, hb3⟩ := HZ.out
  have hE4 := hE3.gr hG4 (by omega)
  have hb4 := Gr.blk hG4 (by omega) hb3
  have hs4 := hG4.size
  clear hE3 hb3 HZ hG4
  rcases X with ⟨c, a⟩ | x
  · obtain rfl := hV
    have hnz := hnz0 c a rfl
    have HNZ := Lib.hid hnz
    have q0 : (c != 0) = true := by rw [bne_iff_ne]; exact hnz
    clear hnz
    go_wp2_with fail
    refine (new_any c a HNZ.out _).mono ?_
    rintro e w5 ⟨rfl, hw5⟩
    obtain ⟨wA, hwA⟩ : ∃ w, w4.alloc (.cells #[.string ⟨#[]⟩, .string ⟨#[]⟩, .bool false, .int .i64 0, .slice none 0 0, .bool false, .slice none 0 0] 29) = w := ⟨_, rfl⟩
    have hsA : w4.heap.size ≤ wA.heap.size := by rw [← hwA]; simp
    rw [hwA] at hw5 ⊢
    have HWA := Lib.hid hwA
    clear hwA
    go_wp2_with fail
    refine (wrap_any _ _ _).mono ?_
    rintro e w6 ⟨rfl, hw6⟩
    have hev := errW c a ⟨#[113, 117, 101, 114, 121]⟩ wA
    subst hw5
    rw [← hw6] at hev
    have hE6 : Ext w4 w6 := by rw [hw6, ← HWA.out]; exact (((Ext.refl w4).alloc _).alloc _).alloc _
    have hb6 := Gr.blk (Gr.of g hE6) (by omega) hb4
    obtain ⟨r0', r1, r2, r3, r4, r5, r6⟩ := cells7 hb6
    have z0 := blk_free hb6 (k := 0); have z1 := blk_free hb6 (k := 1); have z2 := blk_free hb6 (k := 2); have z3 := blk_free hb6 (k := 3); have z4 := blk_free hb6 (k := 4); have z5 := blk_free hb6 (k := 5); have z6 := blk_free hb6 (k := 6)
    have HW := Lib.hid (And.intro (hE4.trans hE6) (And.intro hb6 hev))
    have HB := Lib.hid hb4
    have hEs := hE4.size
    clear hE4 hb4 hE6 hb6 hev hw6 hnz0
    go_wp2_with fail
    refine fin7e rfl HW.out.2.1 rfl rfl fun W' hG' => ⟨HW.out.1.gr hG' (by omega), _, rfl, (HW.out.2.2.gr hG' (by have := blk_lt HB.out; omega)).lo (by omega)⟩
  · obtain ⟨v, rfl, hx⟩ := hV
    obtain ⟨aa, ac, ad, ae, rfl, hxw⟩ := XW.of hx
    clear hx hnz0
    obtain ⟨w5, hw5⟩ : ∃ w, w4.alloc (.cells #[.string (bs x.op), .string (bs x.text), .bool x.nan, .int .i64 x.val, .slice aa x.args.length ac, .bool x.abs, .slice ad x.steps.length ae] 29) = w := ⟨_, rfl⟩
    have Ew5 : Ext w4 w5 := by rw [← hw5]; exact (Ext.refl w4).alloc _
    have hbw5 : w5.heap[w4.heap.size]? = some (.cells #[.string (bs x.op), .string (bs x.text), .bool x.nan, .int .i64 x.val, .slice aa x.args.length ac, .bool x.abs, .slice ad x.steps.length ae] 29) := by rw [← hw5]; exact Array.getElem?_push_size

    have hb5 := Gr.blk (Gr.of g Ew5) (by omega) hb4
    obtain ⟨tb, htb⟩ : ∃ r, w4.heap.size = r := ⟨_, rfl⟩
    rw [htb] at hbw5
    have hlb := blk_lt hb4
    have htr : tb ≠ r0 := by omega
    have htr' : r0 ≠ tb := by omega
    obtain ⟨r0', r1, r2, r3, r4, r5, r6⟩ := cells7 hb5
    obtain ⟨e0, e1, e2, e3, e4, e5, e6⟩ := cells7 hbw5
    have z0 := blk_free hb5 (k := 0); have z1 := blk_free hb5 (k := 1); have z2 := blk_free hb5 (k := 2); have z3 := blk_free hb5 (k := 3); have z4 := blk_free hb5 (k := 4); have z5 := blk_free hb5 (k := 5); have z6 := blk_free hb5 (k := 6)
    have HW := Lib.hid (And.intro (hE4.trans Ew5) (And.intro hb5 (hxw.ext Ew5)))
    clear hE4 hb4 hb5 hbw5 hxw Ew5
    go_wp2_with fail
    refine fin7e rfl HW.out.2.1 rfl rfl fun W' hG' => ⟨HW.out.1.gr hG' (by omega), _, rfl, ((HW.out.2.2.gr hG' (fun b hb => by omega)).ok (fun b hb => by omega)).xv⟩

end Go.Proofs.YtfoclfefjcnllaaGreatDoor

/-
  A tree written out: quotes, tests. Helper lemmas; no statement of the seat is proved here.
-/
namespace Go.Proofs.YtfoclfefjcnllaaGreatDoor
open Go.RowKit
set_option maxRecDepth 100000
set_option linter.unusedVariables false
set_option linter.unusedSimpArgs false

/-- What a tree reads as. -/
def XR (W : World) (p : Nat → Prop) (x : Ex) (v : Value) : Prop := ∃ aa ac ad ae, v = .agg #[.string (bs x.op), .string (bs x.text), .bool x.nan, .int .i64 x.val, .slice aa x.args.length ac, .bool x.abs, .slice ad x.steps.length ae] ∧ Rep W p (.slice aa x.args.length ac) (exsD x.args) ∧ Rep W p (.slice ad x.steps.length ae) (stsD x.steps)
theorem XV.xr {W : World} {p : Nat → Prop} {x : Ex} {v : Value} (h : XV W p x v) : XR W p x v := by
  obtain ⟨aa, ac, ad, ae, h0, h1, h2, _, _⟩ := h
  exact ⟨aa, ac, ad, ae, h0, h1, h2⟩
def TR (W : World) (p : Nat → Prop) (x : St) (v : Value) : Prop := ∃ pa pc, v = .agg #[.string (bs x.axis), .string (bs x.test), .string (bs x.name), .slice pa x.preds.length pc] ∧ Rep W p (.slice pa x.preds.length pc) (exsD x.preds)
theorem ex_at {w : World} {p : Nat → Prop} {a : Option Addr} {len cap : Nat} {l : List Ex} (h : Rep w p (.slice a len cap) (exsD l)) (i : Nat) (hi : i < l.length) :
    ∃ b off, a = some ⟨b, off, none⟩ ∧ b < w.heap.size ∧ ∃ aa ac ad ae, (w.cell? ⟨b, off + i * 7, none⟩ = some (.string (bs l[i].op)) ∧ w.cell? ⟨b, off + i * 7 + 1, none⟩ = some (.string (bs l[i].text)) ∧ w.cell? ⟨b, off + i * 7 + 2, none⟩ = some (.bool l[i].nan) ∧ w.cell? ⟨b, off + i * 7 + 3, none⟩ = some (.int .i64 l[i].val) ∧ w.cell? ⟨b, off + i * 7 + 4, none⟩ = some (.slice aa l[i].args.length ac) ∧ w.cell? ⟨b, off + i * 7 + 5, none⟩ = some (.bool l[i].abs) ∧ w.cell? ⟨b, off + i * 7 + 6, none⟩ = some (.slice ad l[i].steps.length ae)) ∧ Rep w p (.slice aa l[i].args.length ac) (exsD l[i].args) ∧ Rep w p (.slice ad l[i].steps.length ae) (stsD l[i].steps) := by
  obtain ⟨b, off, ha, hb, hp, hc⟩ := elem_at z_ex h (by omega) i hi
  rw [exC_eq] at hc
  obtain ⟨u0, h0, r0⟩ := hc 0 _ rfl
  obtain ⟨u1, h1, r1⟩ := hc 1 _ rfl
  obtain ⟨u2, h2, r2⟩ := hc 2 _ rfl
  obtain ⟨u3, h3, r3⟩ := hc 3 _ rfl
  obtain ⟨u4, h4, r4⟩ := hc 4 _ rfl
  obtain ⟨u5, h5, r5⟩ := hc 5 _ rfl
  obtain ⟨u6, h6, r6⟩ := hc 6 _ rfl
  obtain ⟨aa, ac, rfl, _, _⟩ := r4.count (f := exC) z_ex (by omega)
  obtain ⟨ad, ae, rfl, _, _⟩ := r6.count (f := stC) z_st (by omega)
  exact ⟨b, off, ha, hb, aa, ac, ad, ae, ⟨by rw [← r0.is]; exact h0, by rw [← r1.is]; exact h1, by rw [← r2.is]; exact h2, by rw [← r3.is]; exact h3, h4, by rw [← r5.is]; exact h5, h6⟩, r4, r6⟩
theorem st_at {w : World} {p : Nat → Prop} {a : Option Addr} {len cap : Nat} {l : List St} (h : Rep w p (.slice a len cap) (stsD l)) (i : Nat) (hi : i < l.length) :
    ∃ b off, a = some ⟨b, off, none⟩ ∧ b < w.heap.size ∧ ∃ pa pc, (w.cell? ⟨b, off + i * 4, none⟩ = some (.string (bs l[i].axis)) ∧ w.cell? ⟨b, off + i * 4 + 1, none⟩ = some (.string (bs l[i].test)) ∧ w.cell? ⟨b, off + i * 4 + 2, none⟩ = some (.string (bs l[i].name)) ∧ w.cell? ⟨b, off + i * 4 + 3, none⟩ = some (.slice pa l[i].preds.length pc)) ∧ Rep w p (.slice pa l[i].preds.length pc) (exsD l[i].preds) := by
  obtain ⟨b, off, ha, hb, hp, hc⟩ := elem_at z_st h (by omega) i hi
  rw [stC_eq] at hc
  obtain ⟨u0, h0, r0⟩ := hc 0 _ rfl
  obtain ⟨u1, h1, r1⟩ := hc 1 _ rfl
  obtain ⟨u2, h2, r2⟩ := hc 2 _ rfl
  obtain ⟨u3, h3, r3⟩ := hc 3 _ rfl
  obtain ⟨pa, pc, rfl, _, _⟩ := r3.count (f := exC) z_ex (by omega)
  exact ⟨b, off, ha, hb, pa, pc, ⟨by rw [← r0.is]; exact h0, by rw [← r1.is]; exact h1, by rw [← r2.is]; exact h2, h3⟩, r3⟩
theorem quoteT_any (t : List UInt8) (w : World) (ht : t.length ≤ 1000000000000) : Calls Tryz.prog 19 #[.string (bs t)] w fun e w' => e = .returned (.string (bs (quoteT t))) ∧ w' = w := by
  have hs0 : (bs t).size ≤ 1000000000000 := by rw [bs_size]; exact ht
  have hs1 : ¬ 9223372036854775807 < 1 + (bs t).size := by omega
  have hs2 : ¬ 9223372036854775807 < 1 + (bs t).size + 1 := by omega
  have HC := Lib.hid (Tryz.strings_Contains_one (bs t) 34 w)
  unfold quoteT
  rw [show decide (0 ≤ Lib.indexByte (bs t).data.toList 34) = t.contains 34 from (Lib.contains_iff_indexByte t 34).symm] at HC
  obtain ⟨B, hB⟩ : ∃ B, t.contains 34 = B := ⟨_, rfl⟩
  rw [hB] at HC ⊢
  clear hB
  go_enter Tryz.func19, Tryz.ntmps19
  go_wp2_with fail
  refine HC.out.mono ?_
  rintro e w1 ⟨rfl, rfl⟩
  clear HC
  cases B with
  | true =>
    go_wp2_with fail
    go_ret
    exact ⟨by rw [show (⟨#[39]⟩ : ByteArray) = bs [39] from rfl, bs_append, bs_append]; rfl, rfl⟩
  | false =>
    go_wp2_with fail
    go_ret
    exact ⟨by rw [show (⟨#[34]⟩ : ByteArray) = bs [34] from rfl, bs_append, bs_append]; rfl, rfl⟩
set_option maxHeartbeats 4000000 in
theorem ttest_any (a t n : List UInt8) (pa : Option Addr) (pl pc : Nat) (W : World) (ht : t.length ≤ 1000000000) (hn : n.length ≤ 1000000000) : Calls Tryz.prog 43 #[.agg #[.string (bs a), .string (bs t), .string (bs n), .slice pa pl pc]] W fun e w' => e = .returned (.string (bs (testT t n))) ∧ Ext W w' := by
  have hs1 : ¬ 9223372036854775807 < (bs t).size + 2 := by rw [bs_size]; omega
  have hs2 : ¬ 9223372036854775807 < 23 + (bs (quoteT n)).size := by rw [bs_size]; unfold quoteT; split <;> simp <;> omega
  have hs3 : ¬ 9223372036854775807 < 23 + (bs (quoteT n)).size + 1 := by rw [bs_size]; unfold quoteT; split <;> simp <;> omega
  obtain ⟨R, hR⟩ : ∃ R, testT t n = R := ⟨_, rfl⟩
  rw [hR]
  unfold testT at hR
  have HR := Lib.hid hR
  obtain ⟨w1, hw1⟩ : ∃ w, W.alloc (.cells #[.string (bs a), .string (bs t), .string (bs n), .slice pa pl pc] 62) = w := ⟨_, rfl⟩
  have Ew1 : Ext W w1 := by rw [← hw1]; exact (Ext.refl W).alloc _
  have hbw1 : w1.heap[W.heap.size]? = some (.cells #[.string (bs a), .string (bs t), .string (bs n), .slice pa pl pc] 62) := by rw [← hw1]; exact Array.getElem?_push_size

  obtain ⟨tb, htb⟩ : ∃ r, W.heap.size = r := ⟨_, rfl⟩
  rw [htb] at hbw1
  have t1 := blk_cell hbw1 (k := 1) rfl
  have t2 := blk_cell hbw1 (k := 2) rfl
  have HE := Lib.hid Ew1
  clear hR Ew1 hbw1
  go_enter Tryz.func43, Tryz.ntmps43
  by_cases h1 : t = [110, 97, 109, 101]
  · have q1 : ((bs t).toList == [110, 97, 109, 101]) = true := by rw [bs_toList, beq_iff_eq]; exact h1
    obtain rfl : n = R := (if_pos h1).symm.trans HR.out
    clear h1 HR
    go_wp2_with fail
    go_ret
    exact ⟨rfl, HE.out⟩
  · have q1 : ((bs t).toList == [110, 97, 109, 101]) = false := by rw [bs_toList, beq_eq_false_iff_ne]; exact h1
    have hR := (if_neg h1).symm.trans HR.out
    by_cases h2 : t = [112, 105]
    · have q2 : ((bs t).toList == [112, 105]) = true := by rw [bs_toList, beq_iff_eq]; exact h2
      have hR := (if_pos h2).symm.trans hR
      by_cases h3 : n = []
      · have q3 : ((bs n).toList == []) = true := by rw [bs_toList, beq_iff_eq]; exact h3
        have hR := (if_pos h3).symm.trans hR
        clear h1 h2 h3 HR
        go_wp2_with fail
        go_ret
        exact ⟨by rw [← hR]; rfl, HE.out⟩
      · have q3 : ((bs n).toList == []) = false := by rw [bs_toList, beq_eq_false_iff_ne]; exact h3
        have hR := (if_neg h3).symm.trans hR
        have HC := Lib.hid (quoteT_any n w1 (by omega))
        clear h1 h2 h3 HR
        go_wp2_with fail
        refine HC.out.mono ?_
        rintro e w2 ⟨rfl, rfl⟩
        clear HC
        go_wp2_with fail
        go_ret
        refine ⟨?_, HE.out⟩
        rw [← hR, show (⟨#[112, 114, 111, 99, 101, 115, 115, 105, 110, 103, 45, 105, 110, 115, 116, 114, 117, 99, 116, 105, 111, 110, 40]⟩ : ByteArray) = bs [112, 114, 111, 99, 101, 115, 115, 105, 110, 103, 45, 105, 110, 115, 116, 114, 117, 99, 116, 105, 111, 110, 40] from rfl, show (⟨#[41]⟩ : ByteArray) = bs [41] from rfl, bs_append, bs_append]
        rfl
    · have q2 : ((bs t).toList == [112, 105]) = false := by rw [bs_toList, beq_eq_false_iff_ne]; exact h2
      obtain rfl : t ++ [40, 41] = R := (if_neg h2).symm.trans hR
      clear h1 h2 HR hR
      go_wp2_with fail
      go_ret
      exact ⟨by rw [show (⟨#[40, 41]⟩ : ByteArray) = bs [40, 41] from rfl, bs_append]; rfl, HE.out⟩

end Go.Proofs.YtfoclfefjcnllaaGreatDoor

/-
  Predicates written out. Helper lemmas; no statement of the seat is proved here.
-/
namespace Go.Proofs.YtfoclfefjcnllaaGreatDoor
open Go.RowKit
set_option maxRecDepth 100000
set_option linter.unusedVariables false
set_option linter.unusedSimpArgs false

/-- What the writing out leans on. -/
def QGl (W : World) : Prop := ∀ w, Ext W w → Glob w
theorem QGl.ext {W w : World} (h : QGl W) (k : Ext W w) : QGl w := fun x hx => h x (k.trans hx)
/-- The contract of Text at a tree. -/
def TxC (x : Ex) : Prop := ∀ (W : World) (p : Nat → Prop) (v : Value), QGl W → XR W p x v → Calls Tryz.prog 10 #[v] W fun e w' => e = .returned (.string (bs (txE x))) ∧ Ext W w'
theorem txL_eq : ∀ l : List Ex, txL l = l.map txE
  | [] => by rw [txL]; rfl
  | x :: r => by rw [txL, txL_eq r]; rfl
theorem txS_eq : ∀ l : List St, txS l = l.map txT
  | [] => by rw [txS]; rfl
  | x :: r => by rw [txS, txS_eq r]; rfl
set_option maxHeartbeats 8000000 in
theorem preds_tx (l : List Ex) (HT : ∀ x ∈ l, TxC x) (W : World) (p : Nat → Prop) (a : Option Addr) (c : Nat) (hr : Rep W p (.slice a l.length c) (exsD l)) (hG : QGl W) (hl : (bracketsT (txL l)).length ≤ 1000000000) :
    Calls Tryz.prog 21 #[.slice a l.length c] W fun e w' => e = .returned (.string (bs (bracketsT (txL l)))) ∧ Ext W w' := by
  obtain ⟨R, hR⟩ : ∃ R, bracketsT (txL l) = R := ⟨_, rfl⟩
  rw [hR] at hl ⊢
  have hll : l.length ≤ 1000000000 := by
    have h : l.length ≤ (bracketsT (txL l)).length := by
      rw [txL_eq]; unfold bracketsT
      clear hR hr HT
      induction l with
      | nil => exact Nat.le_refl _
      | cons x r ih => simp only [List.map_cons, List.flatMap_cons, List.length_append, List.length_cons]; omega
    rw [hR] at h; omega
  have HR := Lib.hid (show ([] : List UInt8) ++ bracketsT (txL (l.drop 0)) = R from hR)
  have HE := Lib.hid (Ext.refl W)
  have HQ := Lib.hid (And.intro HT (And.intro hr hG))
  have hllI : (l.length : Int) ≤ 1000000000 := by omega
  clear hR hr hG HT
  go_enter Tryz.func21, Tryz.ntmps21
  go_wp2_with fail
  go_loopw [3, 5, 8] (fun sv _ t wr => ∃ (i : Nat) (o : List UInt8), sv = .string (bs o) ∧ t = .int .i64 i ∧ i ≤ l.length ∧ Hid (Ext W wr) ∧ Hid (o ++ bracketsT (txL (l.drop i)) = R)) (fun _ _ t _ => downQ l.length t)
  case atStart => exact ⟨0, [], rfl, rfl, Nat.zero_le _, HE, HR⟩
  case round =>
    clear HE HR
    obtain ⟨i, o, rfl, rfl, hi, HE, HI⟩ := hrel
    by_cases hil : i < l.length
    · have hiI : (i : Int) < (l.length : Int) := by omega
      have hI := HI.out
      rw [List.drop_eq_getElem_cons hil, txL] at hI
      have HTx := HQ.out.1 l[i] (List.getElem_mem hil)
      obtain ⟨b, off, rfl, hb, aa, ac, ad, ae, ⟨e0, e1, e2, e3, e4, e5, e6⟩, hra, hrs⟩ := ex_at (HQ.out.2.1.ext HE.out) i hil
      obtain ⟨x, hx⟩ : ∃ x, l[i] = x := ⟨_, rfl⟩
      rw [hx] at hI HTx e0 e1 e2 e3 e4 e5 e6 hra hrs
      obtain ⟨w1, hw1⟩ : ∃ w, wr.alloc (.cells #[.string (bs x.op), .string (bs x.text), .bool x.nan, .int .i64 x.val, .slice aa x.args.length ac, .bool x.abs, .slice ad x.steps.length ae] 29) = w := ⟨_, rfl⟩
      have Ew1 : Ext wr w1 := by rw [← hw1]; exact (Ext.refl wr).alloc _
      have hbw1 : w1.heap[wr.heap.size]? = some (.cells #[.string (bs x.op), .string (bs x.text), .bool x.nan, .int .i64 x.val, .slice aa x.args.length ac, .bool x.abs, .slice ad x.steps.length ae] 29) := by rw [← hw1]; exact Array.getElem?_push_size

      have hI2 : o ++ ([91] ++ txE x ++ [93] ++ bracketsT (txL (l.drop (i + 1)))) = R := hI
      have hlen : o.length + ((txE x).length + 2) ≤ 1000000000 := by
        have h := congrArg List.length hI2
        simp only [List.length_append, List.length_cons, List.length_nil] at h
        omega
      have HC := Lib.hid (HTx w1 (fun b => p b) _ (HQ.out.2.2.ext (HE.out.trans Ew1)) ⟨aa, ac, ad, ae, rfl, hra.ext Ew1, hrs.ext Ew1⟩)
      have hs1 : ¬ 9223372036854775807 < 1 + (bs (txE x)).size := by rw [bs_size]; omega
      have hs2 : ¬ 9223372036854775807 < 1 + (bs (txE x)).size + 1 := by rw [bs_size]; omega
      have hs3 : ¬ 9223372036854775807 < (bs o).size + (1 + (bs (txE x)).size + 1) := by rw [bs_size, bs_size]; omega
      obtain ⟨T, hT⟩ : ∃ T, txE x = T := ⟨_, rfl⟩
      rw [hT] at HC hs1 hs2 hs3 hI2
      replace HE := Lib.hid (HE.out.trans Ew1)
      obtain ⟨eb, heb⟩ : ∃ r, wr.heap.size = r := ⟨_, rfl⟩
      rw [heb] at hbw1
      obtain ⟨k0, k1, k2, k3, k4, k5, k6⟩ := cells7 hbw1
      have HI2 := Lib.hid hI2
      clear hI hI2 hT HTx hra hrs hx hbw1 Ew1 hlen HI
      go_wp2_with fail
      refine HC.out.mono ?_
      rintro e w2 ⟨rfl, hX2⟩
      clear HC hw1 e0 e1 e2 e3 e4 e5 e6 k0 k1 k2 k3 k4 k5 k6
      have HE2 := Lib.hid (HE.out.trans hX2)
      have HN : Hid ((o ++ ([91] ++ T ++ [93])) ++ bracketsT (txL (l.drop (i + 1))) = R) := Lib.hid (by rw [← HI2.out]; simp)
      have hcat : bs o ++ (({ data := #[91] } : ByteArray) ++ bs T ++ { data := #[93] }) = bs (o ++ ([91] ++ T ++ [93])) := by
        rw [show (⟨#[91]⟩ : ByteArray) = bs [91] from rfl, show (⟨#[93]⟩ : ByteArray) = bs [93] from rfl, bs_append, bs_append, bs_append]
      clear HE HI2 hX2
      go_wp2_with fail
      go_roundw
      case rel => exact ⟨i + 1, _, congrArg Value.string hcat, by simp, hil, HE2, HN⟩
      case measure => simp only [downQ]; omega
    · have hiI : ¬ (i : Int) < (l.length : Int) := by omega
      have hI := HI.out
      rw [List.drop_eq_nil_of_le (by omega), txL] at hI
      have hI2 : o = R := by rw [← hI]; unfold bracketsT; simp
      clear HI hI
      go_wp2_with fail
      go_ret
      exact ⟨by rw [← hI2]; rfl, HE.out⟩

end Go.Proofs.YtfoclfefjcnllaaGreatDoor

/-
  Strings joined and put together. Helper lemmas; no statement of the seat is proved here.
-/
namespace Go.Proofs.YtfoclfefjcnllaaGreatDoor
open Go.RowKit
set_option maxRecDepth 100000
set_option linter.unusedVariables false
set_option linter.unusedSimpArgs false

theorem infoStr1 : (Tryz.prog.info? 9).map (fun i => (i.zero, i.size, i.bytes)) = some (some (.string ⟨#[]⟩), 1, 16) := by kernel_rfl
theorem wpList_app1k {ops : Array Oper} {Q : Exit → Act → World → Prop} {a : Act} {w : World} {rest : List Oper} {o : Oper} (hgd : o.guard = none) (s x : Operand) (ho : o.op = .call { callee := .builtin .append, args := #[s, x], argTypes := #[23, 23] })
    {p : Nat → Prop} {base n m cap gb : Nat} {d : Value} {es ds : List DV} {us : List Value} (hs : a.eval s = d) (hown : Own w p base 9 1 d n es) (hx : a.eval x = .slice (some ⟨gb, 0, none⟩) m cap)
    (hc : ∀ (j : Nat) (u : Value), us[j]? = some u → w.cell? ⟨gb, j, none⟩ = some u) (hr : Reps w (fun b => p b ∧ some b ≠ d.ownBlock ∧ b < w.heap.size) us ds) (h1 : ∀ e ∈ ds, e.one = true) (hl : us.length = m * 1) (hm : n + m ≤ 1000000000) (hb : base ≤ w.heap.size)
    (h : ∀ d' w', Own w' p base 9 1 d' (n + m) (es ++ ds) → w.grownBy w' d.ownBlock → (d'.ownBlock = d.ownBlock ∨ d'.ownBlock = some w.heap.size) → wpList Tryz.prog ops Q rest (a.put o.dst d') w') : wpList Tryz.prog ops Q (o :: rest) a w := by
  obtain ⟨i0, ii, iz0, iz1, iz2⟩ := info_parts infoStr1
  obtain ⟨vs, ho1, ho2⟩ := hown
  refine wpList_append_own_at w hgd s x 23 ho base 9 i0 (.string ⟨#[]⟩) 1 16 Tryz.underlying23 ii iz0 iz1 iz2 rfl (by decide) d n vs hs ho1 ⟨gb, 0, none⟩ m cap us hx hl (fun j u hj => by rw [add_offs', Nat.zero_add]; exact hc j u hj) (hr.one h1) (by unfold maxLen; omega) (by omega) hb ?_
  intro v' w' q1 q2 _ q3
  exact h v' w' (Own.push ho2 hr q1 q2 q3) q2 q3
theorem tk_app1 {ops : Array Oper} {Q : Exit → Act → World → Prop} {K : Act → World → Prop} {a : Act} {w : World} (i : Nat) (dt : Option Tmp) {oi : Oper} (hi' : ops[i]? = some oi) (hd : oi.dst = dt) (hw : Region.wanted oi (yielded ops a.tmps) = true) (s x : Operand) (ho : oi.op = .call { callee := .builtin .append, args := #[s, x], argTypes := #[23, 23] })
    {p : Nat → Prop} {base n m cap gb : Nat} {d : Value} {es ds : List DV} {us : List Value} (hs : a.eval s = d) (hown : Own w p base 9 1 d n es) (hx : a.eval x = .slice (some ⟨gb, 0, none⟩) m cap)
    (hc : ∀ (j : Nat) (u : Value), us[j]? = some u → w.cell? ⟨gb, j, none⟩ = some u) (hr : Reps w (fun b => p b ∧ some b ≠ d.ownBlock ∧ b < w.heap.size) us ds) (h1 : ∀ e ∈ ds, e.one = true) (hl : us.length = m * 1) (hm : n + m ≤ 1000000000) (hb : base ≤ w.heap.size)
    (h : ∀ d' w', Own w' p base 9 1 d' (n + m) (es ++ ds) → w.grownBy w' d.ownBlock → K (a.put dt d') w') : wpOp Tryz.prog ops Q i K a w := by
  obtain ⟨i0, ii, iz0, iz1, iz2⟩ := info_parts infoStr1
  obtain ⟨vs, ho1, ho2⟩ := hown
  refine tk_app i dt hi' hd hw s x 23 ho base 9 i0 (.string ⟨#[]⟩) 1 16 Tryz.underlying23 ii iz0 iz1 iz2 rfl (by decide) d n vs hs ho1 ⟨gb, 0, none⟩ m cap us hx hl (fun j u hj => by rw [add_offs', Nat.zero_add]; exact hc j u hj) (hr.one h1) (by unfold maxLen; omega) (by omega) hb ?_
  intro v' w' q1 q2 q3
  exact h v' w' (Own.push ho2 hr q1 q2 q3) q2
section
variable {ev : Operand → Value} {oi : Oper} {x y : Operand} {s t : List UInt8}
theorem exec_sadd (ho : oi.op = .binOp .add 9 x y 9) (hx : ev x = .string (bs s)) (hy : ev y = .string (bs t)) (h : s.length + t.length ≤ 9000000000000000000) (W : World) : (execOp ev oi).run Tryz.prog W = .ok (.value (.string (bs (s ++ t)))) W := by
  have h1 : ¬ 9223372036854775807 < (bs s).size + (bs t).size := by rw [bs_size, bs_size]; omega
  simp only [execOp, ho, hx, hy]
  simp [go_sem, h1, bs_append]
end
theorem joinT_eq (sep : List UInt8) : ∀ l : List (List UInt8), joinT sep l = Lib.join l sep
  | [] => rfl
  | [a] => by rw [joinT, Lib.join_one]
  | a :: b :: r => by rw [joinT, joinT_eq sep (b :: r)]; simp [Lib.join, List.intercalate, List.intersperse]
theorem join_any (sep : List UInt8) (L : List (List UInt8)) (p : Nat → Prop) (a : Option Addr) (c : Nat) (w : World) (hr : Rep w p (.slice a L.length c) (strsD L)) (hl : (joinT sep L).length ≤ 1000000000) (hn : L.length ≤ 1000000000) :
    Calls Tryz.prog 20 #[.slice a L.length c, .string (bs sep)] w fun e w' => e = .returned (.string (bs (joinT sep L))) ∧ Ext w w' := by
  cases L with
  | nil =>
    refine (Tryz.strings_Join_none a c (bs sep) w).mono ?_
    rintro e w' ⟨rfl, rfl⟩
    exact ⟨rfl, Ext.refl _⟩
  | cons x r =>
    obtain ⟨b, off, rfl, hb, _, _⟩ := str_at hr 0 (by simp)
    have hcap : (x :: r).length ≤ c := by
      obtain ⟨_, _, h, h2, _⟩ := hr.count (f := fun x => [strD x]) z_str (by omega)
      cases h; exact h2
    have hmap : ((x :: r).map bs).map (·.data.toList) = x :: r := by rw [List.map_map]; exact List.map_id' _
    have h := Tryz.strings_Join b off c ((x :: r).map bs) (bs sep) w (fun j y hy => by
      rw [List.getElem?_map] at hy
      cases hj : (x :: r)[j]? with
      | none => rw [hj] at hy; cases hy
      | some z =>
        rw [hj] at hy
        obtain rfl : bs z = y := Option.some.inj hy
        obtain ⟨hlt, hz⟩ := List.getElem?_eq_some_iff.1 hj
        obtain ⟨b', off', e, _, _, h3⟩ := str_at hr j hlt
        cases e
        rw [h3, hz]) hb (by simp only [List.length_map]; omega) (by rw [List.length_map]; exact hcap) (by rw [hmap, show (bs sep).data.toList = sep from rfl, ← joinT_eq]; omega)
    rw [hmap, show (bs sep).data.toList = sep from rfl, ← joinT_eq, List.length_map] at h
    exact h

end Go.Proofs.YtfoclfefjcnllaaGreatDoor
