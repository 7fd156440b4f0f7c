/-
  More of the functions of package funcs, over what they call. Helper lemmas; no statement of the seat is proved here.
-/
import Derived.Test.YtcdehcclkhmbiaaGreatDoorFWrap
import Derived.Test.YtcdehcclkhmbiaaGreatDoorFPieces
import Derived.Test.YtcdehcclkhmbiaaGreatDoorDeciC
import Derived.Test.YtcdehcclkhmbiaaGreatDoorFMap
import Derived.Laws.EntriesVeiled
import Derived.LoopTactic
namespace Go.Proofs.YtcdehcclkhmbiaaGreatDoor
open Go.RowKit
set_option maxRecDepth 100000
set_option linter.unusedVariables false
set_option linter.unusedSimpArgs false
theorem StrRow.slice {w : World} {v : Value} {L : List (List UInt8)} (h : StrRow w v L) : ∃ a c, v = .slice a L.length c := by
  rcases h.form with ⟨h1, h2⟩ | ⟨g, cap, h1, _⟩
  · exact ⟨none, 0, by rw [h1, h2]; rfl⟩
  · exact ⟨_, _, h1⟩
def blankB (x : Nat) : Bool := x == 9 || x == 10 || x == 13 || x == 32
/-- A function that has a body is entered. -/
theorem enters {f : FuncId} {fn : Func} {c : Code} (hf : Tryz.prog.funcs[f]? = some fn) (hn : (fn.name == "runtime.NumGoroutine") = false) (hb : fn.body = some c) (args : Array Value) (w : World) : (callFunc f args).run Tryz.prog w = .ok (.enter f args) w := by
  have h1 : fn.name ≠ "runtime.NumGoroutine" := by simpa using hn
  simp [callFunc, hf, h1, hb]
/-- A text's fields, with a blank between. -/
def spacesL (s : ByteArray) : List UInt8 := Lib.join ((Lib.goFieldsP blankB s).map (·.data.toList)) [32]
def roundS (n : Bool) (v : Int) : (Bool × Int) × Int := one n v (fitS (floorV (v + 500000)))

set_option maxHeartbeats 2000000 in
theorem freckon_ok (q bx : Nat) (g : FuncId) (r1 x1 : Bool) (r2 x2 : Int) (w : World) (T : Hid (NumOf w q 0 r1 r2 0)) (hE : ∀ args w, (callFunc g args).run Tryz.prog w = .ok (.enter g args) w) (hb : bx < w.heap.size) (cb : w.cell? ⟨bx, 0, none⟩ = some (fnF g)) (hG : Hid (∀ W, Ext w W → Calls Tryz.prog g #[.agg #[.bool r1, .int .i64 r2]] W fun e w' => e = .returned (.tuple #[.agg #[.bool x1, .int .i64 x2], .int .i64 0]) ∧ Ext W w')) : Calls Tryz.prog 73 #[.pointer (some ⟨q, 0, none⟩), .pointer (some ⟨bx, 0, none⟩)] w fun e w' => e = .returned (.tuple #[valV 3 false x1 x2 ⟨#[]⟩, .int .i64 0]) ∧ Ext w w' := by
  go_enter Tryz.func73, Tryz.ntmps73
  go_wp2_with fail
  refine (T.out _ (((Ext.refl w).alloc _))).mono ?_
  rintro e w1 ⟨rfl, hB1⟩
  have hE1 : Ext w w1 := ((Ext.refl w).alloc _).trans hB1
  have cb1 : w1.cell? ⟨bx, 0, none⟩ = some (fnF g) := hE1.keep hb cb
  unfold fnF at cb1
  have hb1 : bx < w1.heap.size := Nat.lt_of_lt_of_le hb hE1.size
  go_wp2_with fail
  refine (hG.out _ ((hE1).alloc _)).mono ?_
  rintro e w2 ⟨rfl, hB2⟩
  replace hB2 : Ext w1 w2 := ((Ext.refl w1).alloc _).trans hB2
  have hE2 : Ext w w2 := hE1.trans hB2
  go_wp2_with fail
  refine (fnum_ok x1 x2 _).mono ?_
  rintro e w3 ⟨rfl, hB3⟩
  have hE3 : Ext w w3 := hE2.trans hB3
  have hX := ((hB1.trans hB2).trans hB3)
  have lx : w.heap.size < w3.heap.size := by have := hX.size; simp at this; omega
  have d0 : w3.cell? ⟨w.heap.size, 0, none⟩ = some (.int .i64 0) := hX.keep (by simp) (by simp [go_sem])
  have z0 : w3.frozen? ⟨w.heap.size, 0, none⟩ = false := hX.free (by simp) (by simp [go_sem])
  have d1 : w3.cell? ⟨w.heap.size, 1, none⟩ = some (.slice none 0 0) := hX.keep (by simp) (by simp [go_sem])
  have z1 : w3.frozen? ⟨w.heap.size, 1, none⟩ = false := hX.free (by simp) (by simp [go_sem])
  have d2 : w3.cell? ⟨w.heap.size, 2, none⟩ = some (.bool false) := hX.keep (by simp) (by simp [go_sem])
  have z2 : w3.frozen? ⟨w.heap.size, 2, none⟩ = false := hX.free (by simp) (by simp [go_sem])
  have d3 : w3.cell? ⟨w.heap.size, 3, none⟩ = some (.bool false) := hX.keep (by simp) (by simp [go_sem])
  have z3 : w3.frozen? ⟨w.heap.size, 3, none⟩ = false := hX.free (by simp) (by simp [go_sem])
  have d4 : w3.cell? ⟨w.heap.size, 4, none⟩ = some (.int .i64 0) := hX.keep (by simp) (by simp [go_sem])
  have z4 : w3.frozen? ⟨w.heap.size, 4, none⟩ = false := hX.free (by simp) (by simp [go_sem])
  have d5 : w3.cell? ⟨w.heap.size, 5, none⟩ = some (.string ⟨#[]⟩) := hX.keep (by simp) (by simp [go_sem])
  have z5 : w3.frozen? ⟨w.heap.size, 5, none⟩ = false := hX.free (by simp) (by simp [go_sem])
  clear hX hB1 hB2 hB3
  go_wp2_with fail
  refine bodyPost_ret (v := .tuple #[valV 3 false x1 x2 ⟨#[]⟩, .int .i64 0]) (by simp [results, Tryz.results73, go_sem, lx, d0, d1, d2, d3, d4, d5]) rfl ⟨rfl, ?_⟩
  repeat refine Ext.set ?_ (by dsimp only; omega) _
  exact hE3
set_option maxHeartbeats 2000000 in
theorem freckon_no (q bx : Nat) (g : FuncId) (r1 x1 : Bool) (r2 x2 c : Int) (w : World) (T : Hid (NumOf w q 0 r1 r2 0)) (hc : ((c : Int) != 0) = true) (hE : ∀ args w, (callFunc g args).run Tryz.prog w = .ok (.enter g args) w) (hb : bx < w.heap.size) (cb : w.cell? ⟨bx, 0, none⟩ = some (fnF g)) (hG : Hid (∀ W, Ext w W → Calls Tryz.prog g #[.agg #[.bool r1, .int .i64 r2]] W fun e w' => e = .returned (.tuple #[.agg #[.bool x1, .int .i64 x2], .int .i64 c]) ∧ Ext W w')) : Calls Tryz.prog 73 #[.pointer (some ⟨q, 0, none⟩), .pointer (some ⟨bx, 0, none⟩)] w fun e w' => e = .returned (.tuple #[valV 0 false false 0 ⟨#[]⟩, .int .i64 c]) ∧ Ext w w' := by
  go_enter Tryz.func73, Tryz.ntmps73
  go_wp2_with fail
  refine (T.out _ (((Ext.refl w).alloc _))).mono ?_
  rintro e w1 ⟨rfl, hB1⟩
  have hE1 : Ext w w1 := ((Ext.refl w).alloc _).trans hB1
  have cb1 : w1.cell? ⟨bx, 0, none⟩ = some (fnF g) := hE1.keep hb cb
  unfold fnF at cb1
  have hb1 : bx < w1.heap.size := Nat.lt_of_lt_of_le hb hE1.size
  go_wp2_with fail
  refine (hG.out _ ((hE1).alloc _)).mono ?_
  rintro e w2 ⟨rfl, hB2⟩
  replace hB2 : Ext w1 w2 := ((Ext.refl w1).alloc _).trans hB2
  have hE2 : Ext w w2 := hE1.trans hB2
  go_wp2_with fail
  refine (fnum_no x1 x2 c _ hc).mono ?_
  rintro e w3 ⟨rfl, hB3⟩
  have hE3 : Ext w w3 := hE2.trans hB3
  have hX := ((hB1.trans hB2).trans hB3)
  have lx : w.heap.size < w3.heap.size := by have := hX.size; simp at this; omega
  have d0 : w3.cell? ⟨w.heap.size, 0, none⟩ = some (.int .i64 0) := hX.keep (by simp) (by simp [go_sem])
  have z0 : w3.frozen? ⟨w.heap.size, 0, none⟩ = false := hX.free (by simp) (by simp [go_sem])
  have d1 : w3.cell? ⟨w.heap.size, 1, none⟩ = some (.slice none 0 0) := hX.keep (by simp) (by simp [go_sem])
  have z1 : w3.frozen? ⟨w.heap.size, 1, none⟩ = false := hX.free (by simp) (by simp [go_sem])
  have d2 : w3.cell? ⟨w.heap.size, 2, none⟩ = some (.bool false) := hX.keep (by simp) (by simp [go_sem])
  have z2 : w3.frozen? ⟨w.heap.size, 2, none⟩ = false := hX.free (by simp) (by simp [go_sem])
  have d3 : w3.cell? ⟨w.heap.size, 3, none⟩ = some (.bool false) := hX.keep (by simp) (by simp [go_sem])
  have z3 : w3.frozen? ⟨w.heap.size, 3, none⟩ = false := hX.free (by simp) (by simp [go_sem])
  have d4 : w3.cell? ⟨w.heap.size, 4, none⟩ = some (.int .i64 0) := hX.keep (by simp) (by simp [go_sem])
  have z4 : w3.frozen? ⟨w.heap.size, 4, none⟩ = false := hX.free (by simp) (by simp [go_sem])
  have d5 : w3.cell? ⟨w.heap.size, 5, none⟩ = some (.string ⟨#[]⟩) := hX.keep (by simp) (by simp [go_sem])
  have z5 : w3.frozen? ⟨w.heap.size, 5, none⟩ = false := hX.free (by simp) (by simp [go_sem])
  clear hX hB1 hB2 hB3
  go_wp2_with fail
  refine bodyPost_ret (v := .tuple #[valV 0 false false 0 ⟨#[]⟩, .int .i64 c]) (by simp [results, Tryz.results73, go_sem, lx, d0, d1, d2, d3, d4, d5]) rfl ⟨rfl, ?_⟩
  repeat refine Ext.set ?_ (by dsimp only; omega) _
  exact hE3
set_option maxHeartbeats 2000000 in
/-- (*caller).round -/
theorem fround_any (q : Nat) (i : Int) (r1 : Bool) (r2 : Int) (w : World) (T : Hid (NumOf w q i r1 r2 0)) :
    Calls Tryz.prog 83 #[.pointer (some ⟨q, 0, none⟩), .int .i64 i] w fun e w' => e = .returned (.tuple #[.agg #[.bool (roundS r1 r2).1.1, .int .i64 (roundS r1 r2).1.2], .int .i64 (roundS r1 r2).2]) ∧ Ext w w' := by
  have HR := fun W => round_any r1 r2 W
  unfold roundS
  obtain ⟨⟨⟨x1, x2⟩, c⟩, hr⟩ : ∃ X, one r1 r2 (fitS (floorV (r2 + 500000))) = X := ⟨_, rfl⟩
  rw [hr] at HR ⊢
  have HR := Lib.hid HR
  clear hr
  dsimp only at HR ⊢
  go_enter Tryz.func83, Tryz.ntmps83
  go_wp2_with fail
  refine (T.out _ (by first | exact Ext.refl _ | exact (Ext.refl _).alloc _)).mono ?_
  rintro e w1 ⟨rfl, hB1⟩
  go_wp2_with fail
  refine (HR.out _).mono ?_
  rintro e w2 ⟨rfl, hB2⟩
  replace hB2 : Ext w1 w2 := ((Ext.refl w1).alloc _).trans hB2
  have hE2 : Ext w w2 := (((Ext.refl w).alloc _).trans hB1).trans hB2
  have hX := hB1.trans hB2
  have lx : w.heap.size < w2.heap.size := by have := hX.size; simp at this; omega
  have d0 : w2.cell? ⟨w.heap.size, 0, none⟩ = some (.bool false) := hX.keep (by simp) (by simp [go_sem])
  have z0 : w2.frozen? ⟨w.heap.size, 0, none⟩ = false := hX.free (by simp) (by simp [go_sem])
  have d1 : w2.cell? ⟨w.heap.size, 1, none⟩ = some (.int .i64 0) := hX.keep (by simp) (by simp [go_sem])
  have z1 : w2.frozen? ⟨w.heap.size, 1, none⟩ = false := hX.free (by simp) (by simp [go_sem])
  clear hX hB1 hB2 HR T
  go_wp2_with fail
  refine bodyPost_ret (v := .tuple #[.agg #[.bool x1, .int .i64 x2], .int .i64 c]) (by simp [results, Tryz.results83, go_sem, lx, d0, d1]) rfl ⟨rfl, ?_⟩
  repeat refine Ext.set ?_ (by dsimp only; omega) _
  exact hE2
set_option maxHeartbeats 2000000 in
theorem blank_any (x : Nat) (w : World) (hx : x ≤ 1114111) : Calls Tryz.prog 85 #[.int .i32 x] w fun e w' => e = .returned (.bool (blankB x)) ∧ Ext w w' := by
  have eA : ∀ k : Nat, (((x : Int) == (k : Int)) = (x == k)) := fun k => by
    by_cases h : x = k
    · subst h; simp
    · rw [show (x == k) = false by simpa using h]; simp; omega
  unfold blankB
  by_cases h9 : x = 9
  · subst h9
    go_enter Tryz.func85, Tryz.ntmps85
    go_wp2
    go_ret
    exact ⟨rfl, Ext.refl _⟩
  · by_cases h10 : x = 10
    · subst h10
      go_enter Tryz.func85, Tryz.ntmps85
      go_wp2
      go_ret
      exact ⟨rfl, Ext.refl _⟩
    · by_cases h13 : x = 13
      · subst h13
        go_enter Tryz.func85, Tryz.ntmps85
        go_wp2
        go_ret
        exact ⟨rfl, Ext.refl _⟩
      · have c9 : (x == 9) = false := by simpa using h9
        have c10 : (x == 10) = false := by simpa using h10
        have c13 : (x == 13) = false := by simpa using h13
        have e9 : ((x : Int) == 9) = false := (eA 9).trans c9
        have e10 : ((x : Int) == 10) = false := (eA 10).trans c10
        have e13 : ((x : Int) == 13) = false := (eA 13).trans c13
        have e32 : ((x : Int) == 32) = (x == 32) := eA 32
        rw [c9, c10, c13]
        cases h32 : x == 32
        all_goals
          rw [h32] at e32
          clear h32 c9 c10 c13 h9 h10 h13 eA
          go_enter Tryz.func85, Tryz.ntmps85
          go_wp2
          go_ret
          exact ⟨rfl, Ext.refl _⟩

set_option maxHeartbeats 2000000 in
theorem fn_length (q : Nat) (R0 : ByteArray) (w : World) (T0 : Hid (TextOf w q 0 R0)) (U : GlobU w) (h0 : R0.size ≤ 4294967280) (h1 : (Pc.pieces R0.data.toList).length ≤ 1000000000) : Calls Tryz.prog 25 #[.pointer (some ⟨q, 0, none⟩)] w fun e w' => e = .returned (.tuple #[valV 3 false false ((Pc.pieces R0.data.toList).length * 1000000) ⟨#[]⟩, .int .i64 0]) ∧ Ext w w' := by
  go_enter Tryz.func25, Tryz.ntmps25
  go_wp2_with fail
  refine (T0.out _ (((Ext.refl w).alloc _))).mono ?_
  rintro e w1 ⟨rfl, hB1⟩
  have hE1 : Ext w w1 := ((Ext.refl w).alloc _).trans hB1
  go_wp2_with fail
  refine (pieces_any R0 _ (U.ext (hE1)) h0).mono ?_
  rintro e w2 ⟨v, rfl, hS, hB2⟩
  obtain ⟨sa, sc, rfl⟩ := hS.slice
  clear hS
  have hE2 : Ext w w2 := hE1.trans hB2
  go_wp2_with fail
  refine (fwhole_ok ((Pc.pieces R0.data.toList).length : Nat) _ (by omega) (by omega)).mono ?_
  rintro e w3 ⟨rfl, hB3⟩
  have hE3 : Ext w w3 := hE2.trans hB3
  have hX := ((hB1.trans hB2).trans hB3)
  have lx : w.heap.size < w3.heap.size := by have := hX.size; simp at this; omega
  have d0 : w3.cell? ⟨w.heap.size, 0, none⟩ = some (.int .i64 0) := hX.keep (by simp) (by simp [go_sem])
  have z0 : w3.frozen? ⟨w.heap.size, 0, none⟩ = false := hX.free (by simp) (by simp [go_sem])
  have d1 : w3.cell? ⟨w.heap.size, 1, none⟩ = some (.slice none 0 0) := hX.keep (by simp) (by simp [go_sem])
  have z1 : w3.frozen? ⟨w.heap.size, 1, none⟩ = false := hX.free (by simp) (by simp [go_sem])
  have d2 : w3.cell? ⟨w.heap.size, 2, none⟩ = some (.bool false) := hX.keep (by simp) (by simp [go_sem])
  have z2 : w3.frozen? ⟨w.heap.size, 2, none⟩ = false := hX.free (by simp) (by simp [go_sem])
  have d3 : w3.cell? ⟨w.heap.size, 3, none⟩ = some (.bool false) := hX.keep (by simp) (by simp [go_sem])
  have z3 : w3.frozen? ⟨w.heap.size, 3, none⟩ = false := hX.free (by simp) (by simp [go_sem])
  have d4 : w3.cell? ⟨w.heap.size, 4, none⟩ = some (.int .i64 0) := hX.keep (by simp) (by simp [go_sem])
  have z4 : w3.frozen? ⟨w.heap.size, 4, none⟩ = false := hX.free (by simp) (by simp [go_sem])
  have d5 : w3.cell? ⟨w.heap.size, 5, none⟩ = some (.string ⟨#[]⟩) := hX.keep (by simp) (by simp [go_sem])
  have z5 : w3.frozen? ⟨w.heap.size, 5, none⟩ = false := hX.free (by simp) (by simp [go_sem])
  clear hX hB1 hB2 hB3
  go_wp2_with fail
  refine bodyPost_ret (v := .tuple #[valV 3 false false ((Pc.pieces R0.data.toList).length * 1000000) ⟨#[]⟩, .int .i64 0]) (by simp [results, Tryz.results25, go_sem, lx, d0, d1, d2, d3, d4, d5]) rfl ⟨rfl, ?_⟩
  repeat refine Ext.set ?_ (by dsimp only; omega) _
  exact hE3
set_option maxHeartbeats 2000000 in
/-- spaces: the fields, with a blank between -/
theorem spaces_any (s : ByteArray) (w : World) (hs : s.size ≤ 4294967280) (hN : (Lib.goFieldsP blankB s).length ≤ 140737488355328) (hlen : (spacesL s).length ≤ 140737488355328) :
    Calls Tryz.prog 48 #[.string s] w fun e w' => e = .returned (.string (bs (spacesL s))) ∧ Ext w w' := by
  have HF : ∀ W, Calls Tryz.prog 84 #[.string s, .func (.func 85) #[] #[]] W fun e w' => ∃ a c, e = .returned (.slice (some ⟨a, 0, none⟩) (Lib.goFieldsP blankB s).length c) ∧ ((Lib.goFieldsP blankB s).length ≤ c ∧ a < w'.heap.size ∧ ∀ (j : Nat) x, (Lib.goFieldsP blankB s)[j]? = some x → w'.cell? ⟨a, 0 + j, none⟩ = some (.string x)) ∧ Ext W w' := fun W => by
    refine (Tryz.strings_FieldsFunc_grows 85 #[] (fun args w => enters Tryz.func85 (by kernel_rfl) rfl args w) blankB s W (by omega) (fun W' x hx hB => ?_)).mono ?_
    · exact blank_any x W' hx
    · rintro e w' ⟨a, rfl, ha, hown, hB⟩
      refine ⟨a, _, rfl, ⟨Nat.le_refl _, (hown.lt a rfl).2, fun j x hj => ?_⟩, hB⟩
      rw [Nat.zero_add, ← add_offs]
      exact hown.cells (g := a) rfl j _ (by rw [List.getElem?_map, hj]; rfl)
  obtain ⟨XS, hX⟩ : ∃ XS, Lib.goFieldsP blankB s = XS := ⟨_, rfl⟩
  have eS : spacesL s = Lib.join (XS.map (·.data.toList)) (bs [32]).data.toList := by unfold spacesL; rw [hX]; rfl
  rw [hX] at HF hN
  rw [eS] at hlen ⊢
  have HF := Lib.hid HF
  have HJ := Lib.hid hlen
  clear hX hlen eS
  go_enter Tryz.func48, Tryz.ntmps48
  go_wp2_with fail
  refine (HF.out _).mono ?_
  rintro e w1 ⟨a, c, rfl, ⟨hc, hA, hcell⟩, hB1⟩
  have hcell := Lib.hid hcell
  go_wp2_with fail
  refine (Tryz.strings_Join a 0 c XS (bs [32]) _ hcell.out hA hN hc HJ.out).mono ?_
  rintro e w2 ⟨rfl, hB2⟩
  go_wp2_with fail
  go_ret
  exact ⟨rfl, hB1.trans hB2⟩
set_option maxHeartbeats 2000000 in
theorem fn_spaces (q : Nat) (R0 : ByteArray) (w : World) (T0 : Hid (TextOf w q 0 R0)) (h0 : R0.size ≤ 4294967280) (hN : (Lib.goFieldsP blankB R0).length ≤ 140737488355328) (hlen : (spacesL R0).length ≤ 140737488355328) : Calls Tryz.prog 47 #[.pointer (some ⟨q, 0, none⟩)] w fun e w' => e = .returned (.tuple #[valV 4 false false 0 (bs (spacesL R0)), .int .i64 0]) ∧ Ext w w' := by
  go_enter Tryz.func47, Tryz.ntmps47
  go_wp2_with fail
  refine (T0.out _ (((Ext.refl w).alloc _))).mono ?_
  rintro e w1 ⟨rfl, hB1⟩
  have hE1 : Ext w w1 := ((Ext.refl w).alloc _).trans hB1
  go_wp2_with fail
  refine (spaces_any R0 _ h0 hN hlen).mono ?_
  rintro e w2 ⟨rfl, hB2⟩
  have hE2 : Ext w w2 := hE1.trans hB2
  go_wp2_with fail
  refine (ftext_any (bs (spacesL R0)) _).mono ?_
  rintro e w3 ⟨rfl, hB3⟩
  have hE3 : Ext w w3 := hE2.trans hB3
  have hX := ((hB1.trans hB2).trans hB3)
  have lx : w.heap.size < w3.heap.size := by have := hX.size; simp at this; omega
  have d0 : w3.cell? ⟨w.heap.size, 0, none⟩ = some (.int .i64 0) := hX.keep (by simp) (by simp [go_sem])
  have z0 : w3.frozen? ⟨w.heap.size, 0, none⟩ = false := hX.free (by simp) (by simp [go_sem])
  have d1 : w3.cell? ⟨w.heap.size, 1, none⟩ = some (.slice none 0 0) := hX.keep (by simp) (by simp [go_sem])
  have z1 : w3.frozen? ⟨w.heap.size, 1, none⟩ = false := hX.free (by simp) (by simp [go_sem])
  have d2 : w3.cell? ⟨w.heap.size, 2, none⟩ = some (.bool false) := hX.keep (by simp) (by simp [go_sem])
  have z2 : w3.frozen? ⟨w.heap.size, 2, none⟩ = false := hX.free (by simp) (by simp [go_sem])
  have d3 : w3.cell? ⟨w.heap.size, 3, none⟩ = some (.bool false) := hX.keep (by simp) (by simp [go_sem])
  have z3 : w3.frozen? ⟨w.heap.size, 3, none⟩ = false := hX.free (by simp) (by simp [go_sem])
  have d4 : w3.cell? ⟨w.heap.size, 4, none⟩ = some (.int .i64 0) := hX.keep (by simp) (by simp [go_sem])
  have z4 : w3.frozen? ⟨w.heap.size, 4, none⟩ = false := hX.free (by simp) (by simp [go_sem])
  have d5 : w3.cell? ⟨w.heap.size, 5, none⟩ = some (.string ⟨#[]⟩) := hX.keep (by simp) (by simp [go_sem])
  have z5 : w3.frozen? ⟨w.heap.size, 5, none⟩ = false := hX.free (by simp) (by simp [go_sem])
  clear hX hB1 hB2 hB3
  go_wp2_with fail
  refine bodyPost_ret (v := .tuple #[valV 4 false false 0 (bs (spacesL R0)), .int .i64 0]) (by simp [results, Tryz.results47, go_sem, lx, d0, d1, d2, d3, d4, d5]) rfl ⟨rfl, ?_⟩
  repeat refine Ext.set ?_ (by dsimp only; omega) _
  exact hE3
end Go.Proofs.YtcdehcclkhmbiaaGreatDoor
