/-
  The walks of deci.Parse and deci.Text, over the contracts of what they call. Helper lemmas; no statement of the seat is proved here.
-/
import Derived.Test.YtcdehcclkhmbiaaGreatDoorDeciE
namespace Go.Proofs.YtcdehcclkhmbiaaGreatDoor
open Go.RowKit
set_option maxRecDepth 100000
set_option linter.unusedVariables false

theorem parse_empty (s t0 t1 wh pl : ByteArray) (neg fnd : Bool) (w : World) (G : Glob w) (b1 : wh.size ≤ 4294967296) (b2 : pl.size ≤ 4294967296)
    (H0 : Hid (∀ w, Calls Tryz.prog 94 #[.string s] w fun e w' => e = .returned (.string t0) ∧ Ext w w'))
    (H1 : Hid (∀ w, Calls Tryz.prog 95 #[.string t0, .string ⟨#[45]⟩] w fun e w' => e = .returned (.tuple #[.string t1, .bool neg]) ∧ w = w'))
    (H2 : Hid (∀ w, Glob w → Calls Tryz.prog 82 #[.string t1, .string ⟨#[46]⟩] w fun e w' => e = .returned (.tuple #[.string wh, .string pl, .bool fnd]) ∧ Ext w w'))
    (hne : (wh ++ pl).toList.isEmpty = true) :
    Calls Tryz.prog 70 #[.string s] w fun e w' => e = .returned (.tuple #[.agg #[.bool true, .int .i64 0], .int .i64 0]) ∧ Ext w w' := by
  go_enter Tryz.func70, Tryz.ntmps70
  go_wp2_with fail
  refine (H0.out _).mono ?_
  rintro e w1 ⟨rfl, hB1⟩
  go_wp2_with fail
  refine (H1.out _).mono ?_
  rintro e w' ⟨rfl, rfl⟩
  go_wp2_with fail
  refine (H2.out _ ((G.alloc _).ext hB1)).mono ?_
  rintro e w2 ⟨rfl, hB2⟩
  go_wp2_with fail
  have hc := (hB1.trans hB2).cells; have hf := (hB1.trans hB2).frees; have hz := (hB1.trans hB2).size
  simp at hz
  refine (nan_any _).mono ?_
  rintro e w9 ⟨rfl, hB9⟩
  have hc9 := hB9.cells; have hf9 := hB9.frees; have hz9 := hB9.size
  have l2 : w.heap.size < w2.heap.size := by omega
  have l9 : w.heap.size < w9.heap.size := by omega
  go_wp2_with fail
  refine bodyPost_ret (v := .tuple #[.agg #[.bool true, .int .i64 0], .int .i64 0]) (by simp [results, Tryz.results70, go_sem, hc, hc9, l2]) rfl ⟨rfl, ?_⟩
  repeat (first | exact Ext.refl _ | refine Ext.set ?_ (by dsimp only; omega) _ | refine Ext.alloc ?_ _ | refine Ext.drew ?_ | refine (Ext.trans ?_ (by assumption)))

theorem parse_bad1 (s t0 t1 wh pl : ByteArray) (neg fnd : Bool) (w : World) (G : Glob w) (b1 : wh.size ≤ 4294967296) (b2 : pl.size ≤ 4294967296)
    (H0 : Hid (∀ w, Calls Tryz.prog 94 #[.string s] w fun e w' => e = .returned (.string t0) ∧ Ext w w'))
    (H1 : Hid (∀ w, Calls Tryz.prog 95 #[.string t0, .string ⟨#[45]⟩] w fun e w' => e = .returned (.tuple #[.string t1, .bool neg]) ∧ w = w'))
    (H2 : Hid (∀ w, Glob w → Calls Tryz.prog 82 #[.string t1, .string ⟨#[46]⟩] w fun e w' => e = .returned (.tuple #[.string wh, .string pl, .bool fnd]) ∧ Ext w w'))
    (H3 : Hid (∀ w, Calls Tryz.prog 96 #[.string wh] w fun e w' => e = .returned (.bool false) ∧ Ext w w'))
    (hne : (wh ++ pl).toList.isEmpty = false) :
    Calls Tryz.prog 70 #[.string s] w fun e w' => e = .returned (.tuple #[.agg #[.bool true, .int .i64 0], .int .i64 0]) ∧ Ext w w' := by
  go_enter Tryz.func70, Tryz.ntmps70
  go_wp2_with fail
  refine (H0.out _).mono ?_
  rintro e w1 ⟨rfl, hB1⟩
  go_wp2_with fail
  refine (H1.out _).mono ?_
  rintro e w' ⟨rfl, rfl⟩
  go_wp2_with fail
  refine (H2.out _ ((G.alloc _).ext hB1)).mono ?_
  rintro e w2 ⟨rfl, hB2⟩
  go_wp2_with fail
  refine (H3.out _).mono ?_
  rintro e w3 ⟨rfl, hB3⟩
  go_wp2_with fail
  have hc := ((hB1.trans hB2).trans hB3).cells; have hf := ((hB1.trans hB2).trans hB3).frees; have hz := ((hB1.trans hB2).trans hB3).size
  simp at hz
  refine (nan_any _).mono ?_
  rintro e w9 ⟨rfl, hB9⟩
  have hc9 := hB9.cells; have hf9 := hB9.frees; have hz9 := hB9.size
  have l2 : w.heap.size < w3.heap.size := by omega
  have l9 : w.heap.size < w9.heap.size := by omega
  go_wp2_with fail
  refine bodyPost_ret (v := .tuple #[.agg #[.bool true, .int .i64 0], .int .i64 0]) (by simp [results, Tryz.results70, go_sem, hc, hc9, l2]) rfl ⟨rfl, ?_⟩
  repeat (first | exact Ext.refl _ | refine Ext.set ?_ (by dsimp only; omega) _ | refine Ext.alloc ?_ _ | refine Ext.drew ?_ | refine (Ext.trans ?_ (by assumption)))

theorem parse_bad2 (s t0 t1 wh pl : ByteArray) (neg fnd : Bool) (w : World) (G : Glob w) (b1 : wh.size ≤ 4294967296) (b2 : pl.size ≤ 4294967296)
    (H0 : Hid (∀ w, Calls Tryz.prog 94 #[.string s] w fun e w' => e = .returned (.string t0) ∧ Ext w w'))
    (H1 : Hid (∀ w, Calls Tryz.prog 95 #[.string t0, .string ⟨#[45]⟩] w fun e w' => e = .returned (.tuple #[.string t1, .bool neg]) ∧ w = w'))
    (H2 : Hid (∀ w, Glob w → Calls Tryz.prog 82 #[.string t1, .string ⟨#[46]⟩] w fun e w' => e = .returned (.tuple #[.string wh, .string pl, .bool fnd]) ∧ Ext w w'))
    (H3 : Hid (∀ w, Calls Tryz.prog 96 #[.string wh] w fun e w' => e = .returned (.bool true) ∧ Ext w w'))
    (H4 : Hid (∀ w, Calls Tryz.prog 96 #[.string pl] w fun e w' => e = .returned (.bool false) ∧ Ext w w'))
    (hne : (wh ++ pl).toList.isEmpty = false) :
    Calls Tryz.prog 70 #[.string s] w fun e w' => e = .returned (.tuple #[.agg #[.bool true, .int .i64 0], .int .i64 0]) ∧ Ext w w' := by
  go_enter Tryz.func70, Tryz.ntmps70
  go_wp2_with fail
  refine (H0.out _).mono ?_
  rintro e w1 ⟨rfl, hB1⟩
  go_wp2_with fail
  refine (H1.out _).mono ?_
  rintro e w' ⟨rfl, rfl⟩
  go_wp2_with fail
  refine (H2.out _ ((G.alloc _).ext hB1)).mono ?_
  rintro e w2 ⟨rfl, hB2⟩
  go_wp2_with fail
  refine (H3.out _).mono ?_
  rintro e w3 ⟨rfl, hB3⟩
  go_wp2_with fail
  refine (H4.out _).mono ?_
  rintro e w4 ⟨rfl, hB4⟩
  go_wp2_with fail
  have hc := (((hB1.trans hB2).trans hB3).trans hB4).cells; have hf := (((hB1.trans hB2).trans hB3).trans hB4).frees; have hz := (((hB1.trans hB2).trans hB3).trans hB4).size
  simp at hz
  refine (nan_any _).mono ?_
  rintro e w9 ⟨rfl, hB9⟩
  have hc9 := hB9.cells; have hf9 := hB9.frees; have hz9 := hB9.size
  have l2 : w.heap.size < w4.heap.size := by omega
  have l9 : w.heap.size < w9.heap.size := by omega
  go_wp2_with fail
  refine bodyPost_ret (v := .tuple #[.agg #[.bool true, .int .i64 0], .int .i64 0]) (by simp [results, Tryz.results70, go_sem, hc, hc9, l2]) rfl ⟨rfl, ?_⟩
  repeat (first | exact Ext.refl _ | refine Ext.set ?_ (by dsimp only; omega) _ | refine Ext.alloc ?_ _ | refine Ext.drew ?_ | refine (Ext.trans ?_ (by assumption)))

theorem parse_over (s t0 t1 wh pl : ByteArray) (neg fnd : Bool) (w : World) (G : Glob w) (b1 : wh.size ≤ 4294967296) (b2 : pl.size ≤ 4294967296)
    (wz : ByteArray) (hlen : 10 < wz.size) (hmax : wz.size ≤ 4294967296)
    (H0 : Hid (∀ w, Calls Tryz.prog 94 #[.string s] w fun e w' => e = .returned (.string t0) ∧ Ext w w'))
    (H1 : Hid (∀ w, Calls Tryz.prog 95 #[.string t0, .string ⟨#[45]⟩] w fun e w' => e = .returned (.tuple #[.string t1, .bool neg]) ∧ w = w'))
    (H2 : Hid (∀ w, Glob w → Calls Tryz.prog 82 #[.string t1, .string ⟨#[46]⟩] w fun e w' => e = .returned (.tuple #[.string wh, .string pl, .bool fnd]) ∧ Ext w w'))
    (H3 : Hid (∀ w, Calls Tryz.prog 96 #[.string wh] w fun e w' => e = .returned (.bool true) ∧ Ext w w'))
    (H4 : Hid (∀ w, Calls Tryz.prog 96 #[.string pl] w fun e w' => e = .returned (.bool true) ∧ Ext w w'))
    (H5 : Hid (∀ w, Calls Tryz.prog 97 #[.string wh, .string ⟨#[48]⟩] w fun e w' => e = .returned (.string wz) ∧ Ext w w'))
    (hne : (wh ++ pl).toList.isEmpty = false) :
    Calls Tryz.prog 70 #[.string s] w fun e w' => e = .returned (.tuple #[.agg #[.bool false, .int .i64 0], .int .i64 66]) ∧ Ext w w' := by
  go_enter Tryz.func70, Tryz.ntmps70
  go_wp2_with fail
  refine (H0.out _).mono ?_
  rintro e w1 ⟨rfl, hB1⟩
  go_wp2_with fail
  refine (H1.out _).mono ?_
  rintro e w' ⟨rfl, rfl⟩
  go_wp2_with fail
  refine (H2.out _ ((G.alloc _).ext hB1)).mono ?_
  rintro e w2 ⟨rfl, hB2⟩
  go_wp2_with fail
  refine (H3.out _).mono ?_
  rintro e w3 ⟨rfl, hB3⟩
  go_wp2_with fail
  refine (H4.out _).mono ?_
  rintro e w4 ⟨rfl, hB4⟩
  go_wp2_with fail
  refine (H5.out _).mono ?_
  rintro e w5 ⟨rfl, hB5⟩
  have hc := ((((hB1.trans hB2).trans hB3).trans hB4).trans hB5).cells; have hf := ((((hB1.trans hB2).trans hB3).trans hB4).trans hB5).frees; have hz := ((((hB1.trans hB2).trans hB3).trans hB4).trans hB5).size
  simp at hz
  go_wp2_with fail
  refine bodyPost_ret (v := .tuple #[.agg #[.bool false, .int .i64 0], .int .i64 66]) (by simp [results, Tryz.results70, go_sem, hc]) rfl ⟨rfl, ?_⟩
  repeat (first | exact Ext.refl _ | refine Ext.set ?_ (by dsimp only; omega) _ | refine Ext.alloc ?_ _ | refine Ext.drew ?_ | refine (Ext.trans ?_ (by assumption)))
theorem parse_ok (s t0 t1 wh pl : ByteArray) (neg fnd : Bool) (w : World) (G : Glob w) (b1 : wh.size ≤ 4294967296) (b2 : pl.size ≤ 4294967296)
    (wz : ByteArray) (hlen : wz.size ≤ 10) (q : Int) (q0 : 0 ≤ q) (v : Int) (hv : v = if neg then -q else q) (r1 : Bool) (r2 r3 : Int) (hr : Hid (fitS v = ((r1, r2), r3)))
    (H0 : Hid (∀ w, Calls Tryz.prog 94 #[.string s] w fun e w' => e = .returned (.string t0) ∧ Ext w w'))
    (H1 : Hid (∀ w, Calls Tryz.prog 95 #[.string t0, .string ⟨#[45]⟩] w fun e w' => e = .returned (.tuple #[.string t1, .bool neg]) ∧ w = w'))
    (H2 : Hid (∀ w, Glob w → Calls Tryz.prog 82 #[.string t1, .string ⟨#[46]⟩] w fun e w' => e = .returned (.tuple #[.string wh, .string pl, .bool fnd]) ∧ Ext w w'))
    (H3 : Hid (∀ w, Calls Tryz.prog 96 #[.string wh] w fun e w' => e = .returned (.bool true) ∧ Ext w w'))
    (H4 : Hid (∀ w, Calls Tryz.prog 96 #[.string pl] w fun e w' => e = .returned (.bool true) ∧ Ext w w'))
    (H5 : Hid (∀ w, Calls Tryz.prog 97 #[.string wh, .string ⟨#[48]⟩] w fun e w' => e = .returned (.string wz) ∧ Ext w w'))
    (H6 : Hid (∀ w, Calls Tryz.prog 98 #[.string ({ data := #[48] } ++ wz ++ (pl ++ { data := #[48, 48, 48, 48, 48, 48] }).extract 0 6), .int .i64 10, .int .i64 64] w fun e w' => e = .returned (.tuple #[.int .u64 q, .nilIface]) ∧ Ext w w'))
    (hne : (wh ++ pl).toList.isEmpty = false) :
    Calls Tryz.prog 70 #[.string s] w fun e w' => e = .returned (.tuple #[.agg #[.bool r1, .int .i64 r2], .int .i64 r3]) ∧ Ext w w' := by
  have HV := Lib.hid hv; clear hv
  go_enter Tryz.func70, Tryz.ntmps70
  go_wp2_with fail
  refine (H0.out _).mono ?_
  rintro e w1 ⟨rfl, hB1⟩
  go_wp2_with fail
  refine (H1.out _).mono ?_
  rintro e w' ⟨rfl, rfl⟩
  go_wp2_with fail
  refine (H2.out _ ((G.alloc _).ext hB1)).mono ?_
  rintro e w2 ⟨rfl, hB2⟩
  go_wp2_with fail
  refine (H3.out _).mono ?_
  rintro e w3 ⟨rfl, hB3⟩
  go_wp2_with fail
  refine (H4.out _).mono ?_
  rintro e w4 ⟨rfl, hB4⟩
  go_wp2_with fail
  refine (H5.out _).mono ?_
  rintro e w5 ⟨rfl, hB5⟩
  go_wp2_with fail
  refine (H6.out _).mono ?_
  rintro e w6 ⟨rfl, hB6⟩
  go_wp2_with fail
  refine (made_res q neg _ q0 v HV.out hr.out).mono ?_
  rintro e w7 ⟨rfl, hB7⟩
  have hc := ((((((hB1.trans hB2).trans hB3).trans hB4).trans hB5).trans hB6).trans hB7).cells; have hf := ((((((hB1.trans hB2).trans hB3).trans hB4).trans hB5).trans hB6).trans hB7).frees; have hz := ((((((hB1.trans hB2).trans hB3).trans hB4).trans hB5).trans hB6).trans hB7).size
  simp at hz
  go_wp2_with fail
  refine bodyPost_ret (v := .tuple #[.agg #[.bool r1, .int .i64 r2], .int .i64 r3]) (by simp [results, Tryz.results70, go_sem, hc]) rfl ⟨rfl, ?_⟩
  repeat (first | exact Ext.refl _ | refine Ext.set ?_ (by dsimp only; omega) _ | refine Ext.alloc ?_ _ | refine Ext.drew ?_ | refine (Ext.trans ?_ (by assumption)))
theorem text_odd (an : Bool) (av : Int) (w : World) (ho : oddB an av = true) :
    Calls Tryz.prog 87 #[.agg #[.bool an, .int .i64 av]] w fun e w' => e = .returned (.string ⟨#[78, 97, 78]⟩) ∧ Ext w w' := by
  have HO := Lib.hid ho; clear ho
  go_enter Tryz.func87, Tryz.ntmps87
  go_wp2_with fail
  refine (odd1_any an av _ _ (by simp) (by simp [go_sem]) (by simp [go_sem])).mono ?_
  rw [HO.out]
  rintro e w1 ⟨rfl, hB⟩
  go_wp2_with fail
  go_ret
  refine ⟨rfl, ?_⟩
  repeat (first | exact Ext.refl _ | refine Ext.set ?_ (by dsimp only; omega) _ | refine Ext.alloc ?_ _ | refine Ext.drew ?_ | refine (Ext.trans ?_ (by assumption)))
theorem text_neg_whole (av : Int) (w : World) (G : Glob w) (ho : oddB false av = false) (hs : av < 0) (fw pw tz : ByteArray) (b1 : fw.size ≤ 4294967296) (b2 : tz.size ≤ 4294967296) (b3 : 1 ≤ pw.size) (b4 : pw.size ≤ 4294967296)
    (F1 : Hid (∀ w, Glob w → Calls Tryz.prog 103 #[.int .u64 (absI av / 1000000), .int .i64 10] w fun e w' => e = .returned (.string fw) ∧ Ext w w'))
    (F2 : Hid (∀ w, Glob w → Calls Tryz.prog 103 #[.int .u64 (absI av % 1000000 + 1000000), .int .i64 10] w fun e w' => e = .returned (.string pw) ∧ Ext w w'))
    (F3 : Hid (∀ w, Calls Tryz.prog 104 #[.string (pw.extract 1 pw.size), .string ⟨#[48]⟩] w fun e w' => e = .returned (.string tz) ∧ Ext w w'))
    (ht : tz.toList.isEmpty = true) :
    Calls Tryz.prog 87 #[.agg #[.bool false, .int .i64 av]] w fun e w' => e = .returned (.string ({ data := #[45] } ++ fw)) ∧ Ext w w' := by
  obtain ⟨_, a1, a2⟩ := oddB_false ho
  have a3 : absI av ≤ 1000000000000000 := by unfold absI; omega
  have a4 := absI_nonneg av
  have HO := Lib.hid ho; clear ho
  go_enter Tryz.func87, Tryz.ntmps87
  go_wp2_with fail
  refine (odd1_any false av _ _ (by simp) (by simp [go_sem]) (by simp [go_sem])).mono ?_
  rw [HO.out]
  rintro e w1 ⟨rfl, hB⟩
  have G1 := ((G.alloc _).alloc _).ext hB
  have hc := hB.cells; have hf := hB.frees; have hz := hB.size
  simp at hz
  go_wp2_with fail
  refine (size_any av _ (by omega) (by omega)).mono ?_
  rintro e w' ⟨rfl, rfl⟩
  go_wp2_with fail
  refine (F1.out _ G1).mono ?_
  rintro e w2 ⟨rfl, hB2⟩
  go_wp2_with fail
  refine (F2.out _ (G1.ext hB2)).mono ?_
  rintro e w3 ⟨rfl, hB3⟩
  go_wp2_with fail
  refine (F3.out _).mono ?_
  rintro e w4 ⟨rfl, hB4⟩
  go_wp2_with fail
  go_ret
  refine ⟨rfl, ?_⟩
  repeat (first | exact Ext.refl _ | refine Ext.set ?_ (by dsimp only; omega) _ | refine Ext.alloc ?_ _ | refine Ext.drew ?_ | refine (Ext.trans ?_ (by assumption)))
theorem text_neg_parts (av : Int) (w : World) (G : Glob w) (ho : oddB false av = false) (hs : av < 0) (fw pw tz : ByteArray) (b1 : fw.size ≤ 4294967296) (b2 : tz.size ≤ 4294967296) (b3 : 1 ≤ pw.size) (b4 : pw.size ≤ 4294967296)
    (F1 : Hid (∀ w, Glob w → Calls Tryz.prog 103 #[.int .u64 (absI av / 1000000), .int .i64 10] w fun e w' => e = .returned (.string fw) ∧ Ext w w'))
    (F2 : Hid (∀ w, Glob w → Calls Tryz.prog 103 #[.int .u64 (absI av % 1000000 + 1000000), .int .i64 10] w fun e w' => e = .returned (.string pw) ∧ Ext w w'))
    (F3 : Hid (∀ w, Calls Tryz.prog 104 #[.string (pw.extract 1 pw.size), .string ⟨#[48]⟩] w fun e w' => e = .returned (.string tz) ∧ Ext w w'))
    (ht : tz.toList.isEmpty = false) :
    Calls Tryz.prog 87 #[.agg #[.bool false, .int .i64 av]] w fun e w' => e = .returned (.string ({ data := #[45] } ++ (fw ++ ({ data := #[46] } ++ tz)))) ∧ Ext w w' := by
  obtain ⟨_, a1, a2⟩ := oddB_false ho
  have a3 : absI av ≤ 1000000000000000 := by unfold absI; omega
  have a4 := absI_nonneg av
  have HO := Lib.hid ho; clear ho
  go_enter Tryz.func87, Tryz.ntmps87
  go_wp2_with fail
  refine (odd1_any false av _ _ (by simp) (by simp [go_sem]) (by simp [go_sem])).mono ?_
  rw [HO.out]
  rintro e w1 ⟨rfl, hB⟩
  have G1 := ((G.alloc _).alloc _).ext hB
  have hc := hB.cells; have hf := hB.frees; have hz := hB.size
  simp at hz
  go_wp2_with fail
  refine (size_any av _ (by omega) (by omega)).mono ?_
  rintro e w' ⟨rfl, rfl⟩
  go_wp2_with fail
  refine (F1.out _ G1).mono ?_
  rintro e w2 ⟨rfl, hB2⟩
  go_wp2_with fail
  refine (F2.out _ (G1.ext hB2)).mono ?_
  rintro e w3 ⟨rfl, hB3⟩
  go_wp2_with fail
  refine (F3.out _).mono ?_
  rintro e w4 ⟨rfl, hB4⟩
  go_wp2_with fail
  go_ret
  refine ⟨rfl, ?_⟩
  repeat (first | exact Ext.refl _ | refine Ext.set ?_ (by dsimp only; omega) _ | refine Ext.alloc ?_ _ | refine Ext.drew ?_ | refine (Ext.trans ?_ (by assumption)))
theorem text_pos_whole (av : Int) (w : World) (G : Glob w) (ho : oddB false av = false) (hs : 0 ≤ av) (fw pw tz : ByteArray) (b1 : fw.size ≤ 4294967296) (b2 : tz.size ≤ 4294967296) (b3 : 1 ≤ pw.size) (b4 : pw.size ≤ 4294967296)
    (F1 : Hid (∀ w, Glob w → Calls Tryz.prog 103 #[.int .u64 (absI av / 1000000), .int .i64 10] w fun e w' => e = .returned (.string fw) ∧ Ext w w'))
    (F2 : Hid (∀ w, Glob w → Calls Tryz.prog 103 #[.int .u64 (absI av % 1000000 + 1000000), .int .i64 10] w fun e w' => e = .returned (.string pw) ∧ Ext w w'))
    (F3 : Hid (∀ w, Calls Tryz.prog 104 #[.string (pw.extract 1 pw.size), .string ⟨#[48]⟩] w fun e w' => e = .returned (.string tz) ∧ Ext w w'))
    (ht : tz.toList.isEmpty = true) :
    Calls Tryz.prog 87 #[.agg #[.bool false, .int .i64 av]] w fun e w' => e = .returned (.string (fw)) ∧ Ext w w' := by
  obtain ⟨_, a1, a2⟩ := oddB_false ho
  have a3 : absI av ≤ 1000000000000000 := by unfold absI; omega
  have a4 := absI_nonneg av
  have HO := Lib.hid ho; clear ho
  go_enter Tryz.func87, Tryz.ntmps87
  go_wp2_with fail
  refine (odd1_any false av _ _ (by simp) (by simp [go_sem]) (by simp [go_sem])).mono ?_
  rw [HO.out]
  rintro e w1 ⟨rfl, hB⟩
  have G1 := ((G.alloc _).alloc _).ext hB
  have hc := hB.cells; have hf := hB.frees; have hz := hB.size
  simp at hz
  go_wp2_with fail
  refine (size_any av _ (by omega) (by omega)).mono ?_
  rintro e w' ⟨rfl, rfl⟩
  go_wp2_with fail
  refine (F1.out _ G1).mono ?_
  rintro e w2 ⟨rfl, hB2⟩
  go_wp2_with fail
  refine (F2.out _ (G1.ext hB2)).mono ?_
  rintro e w3 ⟨rfl, hB3⟩
  go_wp2_with fail
  refine (F3.out _).mono ?_
  rintro e w4 ⟨rfl, hB4⟩
  go_wp2_with fail
  go_ret
  refine ⟨rfl, ?_⟩
  repeat (first | exact Ext.refl _ | refine Ext.set ?_ (by dsimp only; omega) _ | refine Ext.alloc ?_ _ | refine Ext.drew ?_ | refine (Ext.trans ?_ (by assumption)))
theorem text_pos_parts (av : Int) (w : World) (G : Glob w) (ho : oddB false av = false) (hs : 0 ≤ av) (fw pw tz : ByteArray) (b1 : fw.size ≤ 4294967296) (b2 : tz.size ≤ 4294967296) (b3 : 1 ≤ pw.size) (b4 : pw.size ≤ 4294967296)
    (F1 : Hid (∀ w, Glob w → Calls Tryz.prog 103 #[.int .u64 (absI av / 1000000), .int .i64 10] w fun e w' => e = .returned (.string fw) ∧ Ext w w'))
    (F2 : Hid (∀ w, Glob w → Calls Tryz.prog 103 #[.int .u64 (absI av % 1000000 + 1000000), .int .i64 10] w fun e w' => e = .returned (.string pw) ∧ Ext w w'))
    (F3 : Hid (∀ w, Calls Tryz.prog 104 #[.string (pw.extract 1 pw.size), .string ⟨#[48]⟩] w fun e w' => e = .returned (.string tz) ∧ Ext w w'))
    (ht : tz.toList.isEmpty = false) :
    Calls Tryz.prog 87 #[.agg #[.bool false, .int .i64 av]] w fun e w' => e = .returned (.string (fw ++ ({ data := #[46] } ++ tz))) ∧ Ext w w' := by
  obtain ⟨_, a1, a2⟩ := oddB_false ho
  have a3 : absI av ≤ 1000000000000000 := by unfold absI; omega
  have a4 := absI_nonneg av
  have HO := Lib.hid ho; clear ho
  go_enter Tryz.func87, Tryz.ntmps87
  go_wp2_with fail
  refine (odd1_any false av _ _ (by simp) (by simp [go_sem]) (by simp [go_sem])).mono ?_
  rw [HO.out]
  rintro e w1 ⟨rfl, hB⟩
  have G1 := ((G.alloc _).alloc _).ext hB
  have hc := hB.cells; have hf := hB.frees; have hz := hB.size
  simp at hz
  go_wp2_with fail
  refine (size_any av _ (by omega) (by omega)).mono ?_
  rintro e w' ⟨rfl, rfl⟩
  go_wp2_with fail
  refine (F1.out _ G1).mono ?_
  rintro e w2 ⟨rfl, hB2⟩
  go_wp2_with fail
  refine (F2.out _ (G1.ext hB2)).mono ?_
  rintro e w3 ⟨rfl, hB3⟩
  go_wp2_with fail
  refine (F3.out _).mono ?_
  rintro e w4 ⟨rfl, hB4⟩
  go_wp2_with fail
  go_ret
  refine ⟨rfl, ?_⟩
  repeat (first | exact Ext.refl _ | refine Ext.set ?_ (by dsimp only; omega) _ | refine Ext.alloc ?_ _ | refine Ext.drew ?_ | refine (Ext.trans ?_ (by assumption)))
end Go.Proofs.YtcdehcclkhmbiaaGreatDoor
