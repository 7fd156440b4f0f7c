/-
  The tables of functions of package funcs, as they lie in memory, and what a look-up in them gives. Helper lemmas; no statement of the seat is proved here.
-/
import Derived.Test.YtcdehcclkhmbiaaGreatDoorBase
import Derived.WideMake
import Derived.ChangeMaps5
import Derived.Laws.AppendOwn
namespace Go.Proofs.YtcdehcclkhmbiaaGreatDoor
open Go.RowKit
set_option maxRecDepth 100000
set_option linter.unusedVariables false
set_option linter.unusedSimpArgs false

section
variable {P : Program} {w : World} {T kt et r c : Nat} {es : Array MapEntry} {k : ByteArray} {v : Value}
theorem run_insert_new (hT : P.underlying T = some (.map kt et)) (hk : P.underlying kt = some .string) (h : w.heap[r]? = some (.map es c)) (hf : Instr.findNow .string (.string k) es.toList 0 = some none) :
    (Instr.mapUpdate T (.map (some r)) (.string k) v).run P w = .ok () (ChangeMaps.setBlock w r (.map (es.push ⟨.string k, v, c⟩) (c + 1))) := by
  have hc : (Instr.checkKey false 10000 kt (.string k)).run P w = .ok () w := MapKept.run_checkKey (k := .string k) hk (by simp [MapKept.IsKey]) false 9999
  simp [Instr.mapUpdate, run_underlying hT, MapKept.run_getObj_map h, hc, MapKept.run_findKey hk hf, MapKept.run_setObj_map _ h, Result.andThen, ChangeMaps.setBlock]
theorem run_look_hit (hT : P.underlying T = some (.map kt et)) (hk : P.underlying kt = some .string) (h : w.heap[r]? = some (.map es c)) {i : Nat} (hf : Instr.findNow .string (.string k) es.toList 0 = some (some (i, v))) :
    (Instr.lookup T (.map (some r)) (.string k) true).run P w = .ok (.tuple #[v, .bool true]) w := by
  have hc : ∀ b, (Instr.checkKey b 10000 kt (.string k)).run P w = .ok () w := fun b => MapKept.run_checkKey (k := .string k) hk (by simp [MapKept.IsKey]) b 9999
  simp [Instr.lookup, run_underlying hT, MapKept.run_getObj_map h, hc, MapKept.run_findKey hk hf, Result.andThen]
theorem run_look_miss (hT : P.underlying T = some (.map kt et)) (hk : P.underlying kt = some .string) (h : w.heap[r]? = some (.map es c)) (hf : Instr.findNow .string (.string k) es.toList 0 = some none) {z : Value} (hz : (zeroValue et).run P w = .ok z w) :
    (Instr.lookup T (.map (some r)) (.string k) true).run P w = .ok (.tuple #[z, .bool false]) w := by
  have hc : ∀ b, (Instr.checkKey b 10000 kt (.string k)).run P w = .ok () w := fun b => MapKept.run_checkKey (k := .string k) hk (by simp [MapKept.IsKey]) b 9999
  simp [Instr.lookup, run_underlying hT, MapKept.run_getObj_map h, hc, MapKept.run_findKey hk hf, hz, Result.andThen]
theorem insert_new (hT : P.underlying T = some (.map kt et)) (hk : P.underlying kt = some .string) (h : w.heap[r]? = some (.map es c)) (hf : Instr.findNow .string (.string k) es.toList 0 = some none) :
    ∃ w', (Instr.mapUpdate T (.map (some r)) (.string k) v).run P w = .ok () w' ∧ w'.heap[r]? = some (.map (es.push ⟨.string k, v, c⟩) (c + 1)) ∧ w.grownBy w' (some r) :=
  ⟨_, run_insert_new hT hk h hf, ChangeMaps.heap_setBlock_same h _, ⟨rfl, rfl, rfl, by simp [ChangeMaps.setBlock], fun i _ hi => ChangeMaps.heap_setBlock_other h _ (fun e => hi (by rw [e]))⟩⟩
end
theorem Ext.grownM {a w w' : World} {r : Nat} (h : Ext a w) (hg : w.grownBy w' (some r)) (hr : a.heap.size ≤ r) : Ext a w' := Below.grown h hg (Below.size h) (fun k hk => by injection hk with hk; omega)
theorem Ext.block {a w : World} (h : Ext a w) {r : Nat} {o : Obj} (hr : a.heap[r]? = some o) : w.heap[r]? = some o := (Below.block h r (Array.getElem?_eq_some_iff.1 hr).1).trans hr
/-- A function of the tables: at least, at most so many arguments, nodes, what it does. -/
def fnV (least most : Int) (nodes : Bool) (do_ : Value) : Value := .agg #[.int .i64 least, .int .i64 most, .bool nodes, do_]
def fnF (f : FuncId) : Value := .func (.func f) #[] #[]
def fnR (b : Nat) : Value := .func (.func 73) #[] #[.pointer (some ⟨b, 0, none⟩)]

theorem reckon_any (f : FuncId) (w : World) : Calls Tryz.prog 29 #[fnF f] w fun e w' => e = .returned (.func (.func 73) #[] #[.pointer (some ⟨w.heap.size, 0, none⟩)]) ∧ w' = w.alloc (.cells #[fnF f] 62) := by
  unfold fnF
  go_enter Tryz.func29, Tryz.ntmps29
  go_wp2
  go_ret
  exact ⟨rfl, rfl⟩

def numberedT (b0 b1 b2 b3 : Nat) : Array MapEntry := #[⟨.string ⟨#[108, 97, 115, 116]⟩, fnV 0 0 false (fnF 20), 0⟩,
  ⟨.string ⟨#[112, 111, 115, 105, 116, 105, 111, 110]⟩, fnV 0 0 false (fnF 22), 1⟩,
  ⟨.string ⟨#[118, 101, 114, 115, 105, 111, 110]⟩, fnV 0 0 false (fnF 23), 2⟩,
  ⟨.string ⟨#[99, 111, 117, 110, 116]⟩, fnV 1 1 true (fnF 24), 3⟩,
  ⟨.string ⟨#[115, 116, 114, 105, 110, 103, 45, 108, 101, 110, 103, 116, 104]⟩, fnV 0 1 false (fnF 25), 4⟩,
  ⟨.string ⟨#[115, 117, 109]⟩, fnV 1 1 true (fnF 28), 5⟩,
  ⟨.string ⟨#[110, 117, 109, 98, 101, 114]⟩, fnV 0 1 false (fnR b0), 6⟩,
  ⟨.string ⟨#[102, 108, 111, 111, 114]⟩, fnV 1 1 false (fnR b1), 7⟩,
  ⟨.string ⟨#[99, 101, 105, 108, 105, 110, 103]⟩, fnV 1 1 false (fnR b2), 8⟩,
  ⟨.string ⟨#[114, 111, 117, 110, 100]⟩, fnV 1 1 false (fnR b3), 9⟩]
set_option maxHeartbeats 4000000 in
theorem numbered_any (w : World) : Calls Tryz.prog 15 #[] w fun e w' => ∃ b0 b1 b2 b3 r, e = .returned (.map (some r)) ∧ w'.heap[r]? = some (.map (numberedT b0 b1 b2 b3) 10) ∧ Ext w w' ∧ w'.heap[b0]? = some (.cells #[fnF 30] 62 (0, 0)) ∧ w'.heap[b1]? = some (.cells #[fnF 31] 62 (0, 0)) ∧ w'.heap[b2]? = some (.cells #[fnF 32] 62 (0, 0)) ∧ w'.heap[b3]? = some (.cells #[fnF 33] 62 (0, 0)) := by
  go_enter Tryz.func15, Tryz.ntmps15
  have hmm := @run_makeMap_plain Tryz.prog
  have h0 : (w.alloc (.map #[] 0)).heap[w.heap.size]? = some (.map #[] 0) := heap_alloc_new w _
  obtain ⟨w1, e1, h1, g1⟩ := insert_new (P := Tryz.prog) (k := ⟨#[108, 97, 115, 116]⟩) (v := .agg #[.int .i64 0, .int .i64 0, .bool false, .func (.func 20) #[] #[]]) Tryz.underlying46 Tryz.underlying9 h0 (by kernel_rfl)
  have x1 : Ext w w1 := Ext.grownM ((Ext.refl w).alloc _) g1 (Nat.le_refl _)
  obtain ⟨w2, e2, h2, g2⟩ := insert_new (P := Tryz.prog) (k := ⟨#[112, 111, 115, 105, 116, 105, 111, 110]⟩) (v := .agg #[.int .i64 0, .int .i64 0, .bool false, .func (.func 22) #[] #[]]) Tryz.underlying46 Tryz.underlying9 h1 (by kernel_rfl)
  have x2 : Ext w w2 := Ext.grownM x1 g2 (Nat.le_refl _)
  obtain ⟨w3, e3, h3, g3⟩ := insert_new (P := Tryz.prog) (k := ⟨#[118, 101, 114, 115, 105, 111, 110]⟩) (v := .agg #[.int .i64 0, .int .i64 0, .bool false, .func (.func 23) #[] #[]]) Tryz.underlying46 Tryz.underlying9 h2 (by kernel_rfl)
  have x3 : Ext w w3 := Ext.grownM x2 g3 (Nat.le_refl _)
  obtain ⟨w4, e4, h4, g4⟩ := insert_new (P := Tryz.prog) (k := ⟨#[99, 111, 117, 110, 116]⟩) (v := .agg #[.int .i64 1, .int .i64 1, .bool true, .func (.func 24) #[] #[]]) Tryz.underlying46 Tryz.underlying9 h3 (by kernel_rfl)
  have x4 : Ext w w4 := Ext.grownM x3 g4 (Nat.le_refl _)
  obtain ⟨w5, e5, h5, g5⟩ := insert_new (P := Tryz.prog) (k := ⟨#[115, 116, 114, 105, 110, 103, 45, 108, 101, 110, 103, 116, 104]⟩) (v := .agg #[.int .i64 0, .int .i64 1, .bool false, .func (.func 25) #[] #[]]) Tryz.underlying46 Tryz.underlying9 h4 (by kernel_rfl)
  have x5 : Ext w w5 := Ext.grownM x4 g5 (Nat.le_refl _)
  obtain ⟨w6, e6, h6, g6⟩ := insert_new (P := Tryz.prog) (k := ⟨#[115, 117, 109]⟩) (v := .agg #[.int .i64 1, .int .i64 1, .bool true, .func (.func 28) #[] #[]]) Tryz.underlying46 Tryz.underlying9 h5 (by kernel_rfl)
  have x6 : Ext w w6 := Ext.grownM x5 g6 (Nat.le_refl _)
  go_wp2_with fail
  refine (reckon_any 30 _).mono ?_
  rintro e v0 ⟨rfl, hv0⟩
  have hx0 : Ext w v0 := by rw [hv0]; exact x6.alloc _
  have hb0 : v0.heap[w6.heap.size]? = some (.cells #[fnF 30] 62 (0, 0)) := by rw [hv0]; exact heap_alloc_new _ _
  have hm0 := (Below.heap_alloc w6 (.cells #[fnF 30] 62) _ (Array.getElem?_eq_some_iff.1 h6).1).trans h6
  rw [← hv0] at hm0
  have hn0 : ¬ w.heap.size = w6.heap.size := by have := (Array.getElem?_eq_some_iff.1 h6).1; omega
  have hlt0 : w6.heap.size < v0.heap.size := by rw [hv0]; simp
  clear hv0
  obtain ⟨w7, e7, h7, g7⟩ := insert_new (P := Tryz.prog) (k := ⟨#[110, 117, 109, 98, 101, 114]⟩) (v := .agg #[.int .i64 0, .int .i64 1, .bool false, .func (.func 73) #[] #[.pointer (some ⟨w6.heap.size, 0, none⟩)]]) Tryz.underlying46 Tryz.underlying9 hm0 (by kernel_rfl)
  have x7 : Ext w w7 := Ext.grownM hx0 g7 (Nat.le_refl _)
  have hc0_7 : w7.heap[w6.heap.size]? = some (.cells #[fnF 30] 62 (0, 0)) := (g7.block _ (Array.getElem?_eq_some_iff.1 hb0).1 (by intro e; injection e with e; exact hn0 e.symm)).trans hb0
  go_wp2_with fail
  refine (reckon_any 31 _).mono ?_
  rintro e v1 ⟨rfl, hv1⟩
  have hx1 : Ext w v1 := by rw [hv1]; exact x7.alloc _
  have hb1 : v1.heap[w7.heap.size]? = some (.cells #[fnF 31] 62 (0, 0)) := by rw [hv1]; exact heap_alloc_new _ _
  have hm1 := (Below.heap_alloc w7 (.cells #[fnF 31] 62) _ (Array.getElem?_eq_some_iff.1 h7).1).trans h7
  rw [← hv1] at hm1
  have hn1 : ¬ w.heap.size = w7.heap.size := by have := (Array.getElem?_eq_some_iff.1 h7).1; omega
  have hlt1 : w7.heap.size < v1.heap.size := by rw [hv1]; simp
  have hb0_1 : v1.heap[w6.heap.size]? = some (.cells #[fnF 30] 62 (0, 0)) := by rw [hv1]; exact (Below.heap_alloc _ _ _ (Array.getElem?_eq_some_iff.1 hc0_7).1).trans hc0_7
  clear hv1
  obtain ⟨w8, e8, h8, g8⟩ := insert_new (P := Tryz.prog) (k := ⟨#[102, 108, 111, 111, 114]⟩) (v := .agg #[.int .i64 1, .int .i64 1, .bool false, .func (.func 73) #[] #[.pointer (some ⟨w7.heap.size, 0, none⟩)]]) Tryz.underlying46 Tryz.underlying9 hm1 (by kernel_rfl)
  have x8 : Ext w w8 := Ext.grownM hx1 g8 (Nat.le_refl _)
  have hc0_8 : w8.heap[w6.heap.size]? = some (.cells #[fnF 30] 62 (0, 0)) := (g8.block _ (Array.getElem?_eq_some_iff.1 hb0_1).1 (by intro e; injection e with e; exact hn0 e.symm)).trans hb0_1
  have hc1_8 : w8.heap[w7.heap.size]? = some (.cells #[fnF 31] 62 (0, 0)) := (g8.block _ (Array.getElem?_eq_some_iff.1 hb1).1 (by intro e; injection e with e; exact hn1 e.symm)).trans hb1
  go_wp2_with fail
  refine (reckon_any 32 _).mono ?_
  rintro e v2 ⟨rfl, hv2⟩
  have hx2 : Ext w v2 := by rw [hv2]; exact x8.alloc _
  have hb2 : v2.heap[w8.heap.size]? = some (.cells #[fnF 32] 62 (0, 0)) := by rw [hv2]; exact heap_alloc_new _ _
  have hm2 := (Below.heap_alloc w8 (.cells #[fnF 32] 62) _ (Array.getElem?_eq_some_iff.1 h8).1).trans h8
  rw [← hv2] at hm2
  have hn2 : ¬ w.heap.size = w8.heap.size := by have := (Array.getElem?_eq_some_iff.1 h8).1; omega
  have hlt2 : w8.heap.size < v2.heap.size := by rw [hv2]; simp
  have hb0_2 : v2.heap[w6.heap.size]? = some (.cells #[fnF 30] 62 (0, 0)) := by rw [hv2]; exact (Below.heap_alloc _ _ _ (Array.getElem?_eq_some_iff.1 hc0_8).1).trans hc0_8
  have hb1_2 : v2.heap[w7.heap.size]? = some (.cells #[fnF 31] 62 (0, 0)) := by rw [hv2]; exact (Below.heap_alloc _ _ _ (Array.getElem?_eq_some_iff.1 hc1_8).1).trans hc1_8
  clear hv2
  obtain ⟨w9, e9, h9, g9⟩ := insert_new (P := Tryz.prog) (k := ⟨#[99, 101, 105, 108, 105, 110, 103]⟩) (v := .agg #[.int .i64 1, .int .i64 1, .bool false, .func (.func 73) #[] #[.pointer (some ⟨w8.heap.size, 0, none⟩)]]) Tryz.underlying46 Tryz.underlying9 hm2 (by kernel_rfl)
  have x9 : Ext w w9 := Ext.grownM hx2 g9 (Nat.le_refl _)
  have hc0_9 : w9.heap[w6.heap.size]? = some (.cells #[fnF 30] 62 (0, 0)) := (g9.block _ (Array.getElem?_eq_some_iff.1 hb0_2).1 (by intro e; injection e with e; exact hn0 e.symm)).trans hb0_2
  have hc1_9 : w9.heap[w7.heap.size]? = some (.cells #[fnF 31] 62 (0, 0)) := (g9.block _ (Array.getElem?_eq_some_iff.1 hb1_2).1 (by intro e; injection e with e; exact hn1 e.symm)).trans hb1_2
  have hc2_9 : w9.heap[w8.heap.size]? = some (.cells #[fnF 32] 62 (0, 0)) := (g9.block _ (Array.getElem?_eq_some_iff.1 hb2).1 (by intro e; injection e with e; exact hn2 e.symm)).trans hb2
  go_wp2_with fail
  refine (reckon_any 33 _).mono ?_
  rintro e v3 ⟨rfl, hv3⟩
  have hx3 : Ext w v3 := by rw [hv3]; exact x9.alloc _
  have hb3 : v3.heap[w9.heap.size]? = some (.cells #[fnF 33] 62 (0, 0)) := by rw [hv3]; exact heap_alloc_new _ _
  have hm3 := (Below.heap_alloc w9 (.cells #[fnF 33] 62) _ (Array.getElem?_eq_some_iff.1 h9).1).trans h9
  rw [← hv3] at hm3
  have hn3 : ¬ w.heap.size = w9.heap.size := by have := (Array.getElem?_eq_some_iff.1 h9).1; omega
  have hlt3 : w9.heap.size < v3.heap.size := by rw [hv3]; simp
  have hb0_3 : v3.heap[w6.heap.size]? = some (.cells #[fnF 30] 62 (0, 0)) := by rw [hv3]; exact (Below.heap_alloc _ _ _ (Array.getElem?_eq_some_iff.1 hc0_9).1).trans hc0_9
  have hb1_3 : v3.heap[w7.heap.size]? = some (.cells #[fnF 31] 62 (0, 0)) := by rw [hv3]; exact (Below.heap_alloc _ _ _ (Array.getElem?_eq_some_iff.1 hc1_9).1).trans hc1_9
  have hb2_3 : v3.heap[w8.heap.size]? = some (.cells #[fnF 32] 62 (0, 0)) := by rw [hv3]; exact (Below.heap_alloc _ _ _ (Array.getElem?_eq_some_iff.1 hc2_9).1).trans hc2_9
  clear hv3
  obtain ⟨w10, e10, h10, g10⟩ := insert_new (P := Tryz.prog) (k := ⟨#[114, 111, 117, 110, 100]⟩) (v := .agg #[.int .i64 1, .int .i64 1, .bool false, .func (.func 73) #[] #[.pointer (some ⟨w9.heap.size, 0, none⟩)]]) Tryz.underlying46 Tryz.underlying9 hm3 (by kernel_rfl)
  have x10 : Ext w w10 := Ext.grownM hx3 g10 (Nat.le_refl _)
  have hc0_10 : w10.heap[w6.heap.size]? = some (.cells #[fnF 30] 62 (0, 0)) := (g10.block _ (Array.getElem?_eq_some_iff.1 hb0_3).1 (by intro e; injection e with e; exact hn0 e.symm)).trans hb0_3
  have hc1_10 : w10.heap[w7.heap.size]? = some (.cells #[fnF 31] 62 (0, 0)) := (g10.block _ (Array.getElem?_eq_some_iff.1 hb1_3).1 (by intro e; injection e with e; exact hn1 e.symm)).trans hb1_3
  have hc2_10 : w10.heap[w8.heap.size]? = some (.cells #[fnF 32] 62 (0, 0)) := (g10.block _ (Array.getElem?_eq_some_iff.1 hb2_3).1 (by intro e; injection e with e; exact hn2 e.symm)).trans hb2_3
  have hc3_10 : w10.heap[w9.heap.size]? = some (.cells #[fnF 33] 62 (0, 0)) := (g10.block _ (Array.getElem?_eq_some_iff.1 hb3).1 (by intro e; injection e with e; exact hn3 e.symm)).trans hb3
  go_wp2_with fail
  go_ret
  exact ⟨_, _, _, _, _, rfl, h10, x10, hc0_10, hc1_10, hc2_10, hc3_10⟩
def textedT : Array MapEntry := #[⟨.string ⟨#[108, 111, 99, 97, 108, 45, 110, 97, 109, 101]⟩, fnV 0 1 true (fnF 34), 0⟩,
  ⟨.string ⟨#[110, 97, 109, 101]⟩, fnV 0 1 true (fnF 37), 1⟩,
  ⟨.string ⟨#[110, 97, 109, 101, 115, 112, 97, 99, 101, 45, 117, 114, 105]⟩, fnV 0 1 true (fnF 38), 2⟩,
  ⟨.string ⟨#[115, 116, 114, 105, 110, 103]⟩, fnV 0 1 false (fnF 39), 3⟩,
  ⟨.string ⟨#[99, 111, 110, 99, 97, 116]⟩, fnV 2 1000 false (fnF 40), 4⟩,
  ⟨.string ⟨#[115, 117, 98, 115, 116, 114, 105, 110, 103, 45, 98, 101, 102, 111, 114, 101]⟩, fnV 2 2 false (fnF 43), 5⟩,
  ⟨.string ⟨#[115, 117, 98, 115, 116, 114, 105, 110, 103, 45, 97, 102, 116, 101, 114]⟩, fnV 2 2 false (fnF 45), 6⟩,
  ⟨.string ⟨#[115, 117, 98, 115, 116, 114, 105, 110, 103]⟩, fnV 2 3 false (fnF 46), 7⟩,
  ⟨.string ⟨#[110, 111, 114, 109, 97, 108, 105, 122, 101, 45, 115, 112, 97, 99, 101]⟩, fnV 0 1 false (fnF 47), 8⟩,
  ⟨.string ⟨#[116, 114, 97, 110, 115, 108, 97, 116, 101]⟩, fnV 3 3 false (fnF 49), 9⟩]
set_option maxHeartbeats 4000000 in
theorem texted_any (w : World) : Calls Tryz.prog 16 #[] w fun e w' => ∃ r, e = .returned (.map (some r)) ∧ w'.heap[r]? = some (.map (textedT) 10) ∧ Ext w w' := by
  go_enter Tryz.func16, Tryz.ntmps16
  have hmm := @run_makeMap_plain Tryz.prog
  have h0 : (w.alloc (.map #[] 0)).heap[w.heap.size]? = some (.map #[] 0) := heap_alloc_new w _
  obtain ⟨w1, e1, h1, g1⟩ := insert_new (P := Tryz.prog) (k := ⟨#[108, 111, 99, 97, 108, 45, 110, 97, 109, 101]⟩) (v := .agg #[.int .i64 0, .int .i64 1, .bool true, .func (.func 34) #[] #[]]) Tryz.underlying46 Tryz.underlying9 h0 (by kernel_rfl)
  have x1 : Ext w w1 := Ext.grownM ((Ext.refl w).alloc _) g1 (Nat.le_refl _)
  obtain ⟨w2, e2, h2, g2⟩ := insert_new (P := Tryz.prog) (k := ⟨#[110, 97, 109, 101]⟩) (v := .agg #[.int .i64 0, .int .i64 1, .bool true, .func (.func 37) #[] #[]]) Tryz.underlying46 Tryz.underlying9 h1 (by kernel_rfl)
  have x2 : Ext w w2 := Ext.grownM x1 g2 (Nat.le_refl _)
  obtain ⟨w3, e3, h3, g3⟩ := insert_new (P := Tryz.prog) (k := ⟨#[110, 97, 109, 101, 115, 112, 97, 99, 101, 45, 117, 114, 105]⟩) (v := .agg #[.int .i64 0, .int .i64 1, .bool true, .func (.func 38) #[] #[]]) Tryz.underlying46 Tryz.underlying9 h2 (by kernel_rfl)
  have x3 : Ext w w3 := Ext.grownM x2 g3 (Nat.le_refl _)
  obtain ⟨w4, e4, h4, g4⟩ := insert_new (P := Tryz.prog) (k := ⟨#[115, 116, 114, 105, 110, 103]⟩) (v := .agg #[.int .i64 0, .int .i64 1, .bool false, .func (.func 39) #[] #[]]) Tryz.underlying46 Tryz.underlying9 h3 (by kernel_rfl)
  have x4 : Ext w w4 := Ext.grownM x3 g4 (Nat.le_refl _)
  obtain ⟨w5, e5, h5, g5⟩ := insert_new (P := Tryz.prog) (k := ⟨#[99, 111, 110, 99, 97, 116]⟩) (v := .agg #[.int .i64 2, .int .i64 1000, .bool false, .func (.func 40) #[] #[]]) Tryz.underlying46 Tryz.underlying9 h4 (by kernel_rfl)
  have x5 : Ext w w5 := Ext.grownM x4 g5 (Nat.le_refl _)
  obtain ⟨w6, e6, h6, g6⟩ := insert_new (P := Tryz.prog) (k := ⟨#[115, 117, 98, 115, 116, 114, 105, 110, 103, 45, 98, 101, 102, 111, 114, 101]⟩) (v := .agg #[.int .i64 2, .int .i64 2, .bool false, .func (.func 43) #[] #[]]) Tryz.underlying46 Tryz.underlying9 h5 (by kernel_rfl)
  have x6 : Ext w w6 := Ext.grownM x5 g6 (Nat.le_refl _)
  obtain ⟨w7, e7, h7, g7⟩ := insert_new (P := Tryz.prog) (k := ⟨#[115, 117, 98, 115, 116, 114, 105, 110, 103, 45, 97, 102, 116, 101, 114]⟩) (v := .agg #[.int .i64 2, .int .i64 2, .bool false, .func (.func 45) #[] #[]]) Tryz.underlying46 Tryz.underlying9 h6 (by kernel_rfl)
  have x7 : Ext w w7 := Ext.grownM x6 g7 (Nat.le_refl _)
  obtain ⟨w8, e8, h8, g8⟩ := insert_new (P := Tryz.prog) (k := ⟨#[115, 117, 98, 115, 116, 114, 105, 110, 103]⟩) (v := .agg #[.int .i64 2, .int .i64 3, .bool false, .func (.func 46) #[] #[]]) Tryz.underlying46 Tryz.underlying9 h7 (by kernel_rfl)
  have x8 : Ext w w8 := Ext.grownM x7 g8 (Nat.le_refl _)
  obtain ⟨w9, e9, h9, g9⟩ := insert_new (P := Tryz.prog) (k := ⟨#[110, 111, 114, 109, 97, 108, 105, 122, 101, 45, 115, 112, 97, 99, 101]⟩) (v := .agg #[.int .i64 0, .int .i64 1, .bool false, .func (.func 47) #[] #[]]) Tryz.underlying46 Tryz.underlying9 h8 (by kernel_rfl)
  have x9 : Ext w w9 := Ext.grownM x8 g9 (Nat.le_refl _)
  obtain ⟨w10, e10, h10, g10⟩ := insert_new (P := Tryz.prog) (k := ⟨#[116, 114, 97, 110, 115, 108, 97, 116, 101]⟩) (v := .agg #[.int .i64 3, .int .i64 3, .bool false, .func (.func 49) #[] #[]]) Tryz.underlying46 Tryz.underlying9 h9 (by kernel_rfl)
  have x10 : Ext w w10 := Ext.grownM x9 g10 (Nat.le_refl _)
  go_wp2_with fail
  go_ret
  exact ⟨_, rfl, h10, x10⟩
def toldT : Array MapEntry := #[⟨.string ⟨#[105, 100]⟩, fnV 1 1 false (fnF 51), 0⟩,
  ⟨.string ⟨#[98, 111, 111, 108, 101, 97, 110]⟩, fnV 1 1 false (fnF 52), 1⟩,
  ⟨.string ⟨#[110, 111, 116]⟩, fnV 1 1 false (fnF 55), 2⟩,
  ⟨.string ⟨#[116, 114, 117, 101]⟩, fnV 0 0 false (fnF 56), 3⟩,
  ⟨.string ⟨#[102, 97, 108, 115, 101]⟩, fnV 0 0 false (fnF 57), 4⟩,
  ⟨.string ⟨#[108, 97, 110, 103]⟩, fnV 1 1 false (fnF 58), 5⟩,
  ⟨.string ⟨#[115, 116, 97, 114, 116, 115, 45, 119, 105, 116, 104]⟩, fnV 2 2 false (fnF 60), 6⟩,
  ⟨.string ⟨#[99, 111, 110, 116, 97, 105, 110, 115]⟩, fnV 2 2 false (fnF 62), 7⟩]
set_option maxHeartbeats 4000000 in
theorem told_any (w : World) : Calls Tryz.prog 17 #[] w fun e w' => ∃ r, e = .returned (.map (some r)) ∧ w'.heap[r]? = some (.map (toldT) 8) ∧ Ext w w' := by
  go_enter Tryz.func17, Tryz.ntmps17
  have hmm := @run_makeMap_plain Tryz.prog
  have h0 : (w.alloc (.map #[] 0)).heap[w.heap.size]? = some (.map #[] 0) := heap_alloc_new w _
  obtain ⟨w1, e1, h1, g1⟩ := insert_new (P := Tryz.prog) (k := ⟨#[105, 100]⟩) (v := .agg #[.int .i64 1, .int .i64 1, .bool false, .func (.func 51) #[] #[]]) Tryz.underlying46 Tryz.underlying9 h0 (by kernel_rfl)
  have x1 : Ext w w1 := Ext.grownM ((Ext.refl w).alloc _) g1 (Nat.le_refl _)
  obtain ⟨w2, e2, h2, g2⟩ := insert_new (P := Tryz.prog) (k := ⟨#[98, 111, 111, 108, 101, 97, 110]⟩) (v := .agg #[.int .i64 1, .int .i64 1, .bool false, .func (.func 52) #[] #[]]) Tryz.underlying46 Tryz.underlying9 h1 (by kernel_rfl)
  have x2 : Ext w w2 := Ext.grownM x1 g2 (Nat.le_refl _)
  obtain ⟨w3, e3, h3, g3⟩ := insert_new (P := Tryz.prog) (k := ⟨#[110, 111, 116]⟩) (v := .agg #[.int .i64 1, .int .i64 1, .bool false, .func (.func 55) #[] #[]]) Tryz.underlying46 Tryz.underlying9 h2 (by kernel_rfl)
  have x3 : Ext w w3 := Ext.grownM x2 g3 (Nat.le_refl _)
  obtain ⟨w4, e4, h4, g4⟩ := insert_new (P := Tryz.prog) (k := ⟨#[116, 114, 117, 101]⟩) (v := .agg #[.int .i64 0, .int .i64 0, .bool false, .func (.func 56) #[] #[]]) Tryz.underlying46 Tryz.underlying9 h3 (by kernel_rfl)
  have x4 : Ext w w4 := Ext.grownM x3 g4 (Nat.le_refl _)
  obtain ⟨w5, e5, h5, g5⟩ := insert_new (P := Tryz.prog) (k := ⟨#[102, 97, 108, 115, 101]⟩) (v := .agg #[.int .i64 0, .int .i64 0, .bool false, .func (.func 57) #[] #[]]) Tryz.underlying46 Tryz.underlying9 h4 (by kernel_rfl)
  have x5 : Ext w w5 := Ext.grownM x4 g5 (Nat.le_refl _)
  obtain ⟨w6, e6, h6, g6⟩ := insert_new (P := Tryz.prog) (k := ⟨#[108, 97, 110, 103]⟩) (v := .agg #[.int .i64 1, .int .i64 1, .bool false, .func (.func 58) #[] #[]]) Tryz.underlying46 Tryz.underlying9 h5 (by kernel_rfl)
  have x6 : Ext w w6 := Ext.grownM x5 g6 (Nat.le_refl _)
  obtain ⟨w7, e7, h7, g7⟩ := insert_new (P := Tryz.prog) (k := ⟨#[115, 116, 97, 114, 116, 115, 45, 119, 105, 116, 104]⟩) (v := .agg #[.int .i64 2, .int .i64 2, .bool false, .func (.func 60) #[] #[]]) Tryz.underlying46 Tryz.underlying9 h6 (by kernel_rfl)
  have x7 : Ext w w7 := Ext.grownM x6 g7 (Nat.le_refl _)
  obtain ⟨w8, e8, h8, g8⟩ := insert_new (P := Tryz.prog) (k := ⟨#[99, 111, 110, 116, 97, 105, 110, 115]⟩) (v := .agg #[.int .i64 2, .int .i64 2, .bool false, .func (.func 62) #[] #[]]) Tryz.underlying46 Tryz.underlying9 h7 (by kernel_rfl)
  have x8 : Ext w w8 := Ext.grownM x7 g8 (Nat.le_refl _)
  go_wp2_with fail
  go_ret
  exact ⟨_, rfl, h8, x8⟩
end Go.Proofs.YtcdehcclkhmbiaaGreatDoor
