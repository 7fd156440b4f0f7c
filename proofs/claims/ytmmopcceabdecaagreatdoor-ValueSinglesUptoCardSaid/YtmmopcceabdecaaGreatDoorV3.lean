/-
  Package value: numbers. Helper lemmas; no statement of the seat is proved here.
-/
import Derived.Test.YtmmopcceabdecaaGreatDoorV2
namespace Go.Proofs.YtmmopcceabdecaaGreatDoor
open Go.RowKit
set_option maxRecDepth 100000
set_option linter.unusedVariables false
set_option linter.unusedSimpArgs false

/-- The operators. -/
def OPS : List Bytes := [[61], [33, 61], [60], [60, 61], [62], [62, 61]]
def numsS (o : Bytes) (an : Bool) (av : Int) (bn : Bool) (bv : Int) : Bool :=
  if o = [61] then equalS an bn av bv else if o = [33, 61] then !equalS an bn av bv else if o = [60] then lessS an bn av bv else if o = [62] then lessS bn an bv av else if o = [60, 61] then lessS an bn av bv || equalS an bn av bv else lessS bn an bv av || equalS an bn av bv
/-- A value, as it lies in memory. -/
structure VV where
  kind : Int
  nd : Value
  bo : Bool
  nan : Bool
  v : Int
  text : Bytes
def vvL (b : VV) : List Value := [.int .i64 b.kind, b.nd, .bool b.bo, .bool b.nan, .int .i64 b.v, .string (bs b.text)]
def txtV (x : Bytes) : VV := ⟨4, .slice none 0 0, false, false, 0, x⟩
/-- A number, or a text, as a number. -/
def numV (b : VV) : (Bool × Int) × Int := if b.kind = 3 then ((b.nan, b.v), 0) else parseS b.text
def asN (o : Bytes) (a b : VV) : Bool × Int :=
  if (numV a).2 = 0 then (if (numV b).2 = 0 then (numsS o (numV a).1.1 (numV a).1.2 (numV b).1.1 (numV b).1.2, 0) else (false, (numV b).2)) else (false, (numV a).2)
def plainS (o : Bytes) (a b : VV) : Bool × Int :=
  if o = [61] ∨ o = [33, 61] then (if a.kind = 3 ∨ b.kind = 3 then asN o a b else (decide (a.text = b.text) == decide (o = [61]), 0)) else asN o a b
/-- A number, or a text, of a table. -/
def okV (a : VV) : Prop := (a.kind = 3 ∨ a.kind = 4) ∧ (∃ o n c, a.nd = .slice o n c) ∧ a.text.length ≤ 1048576
theorem okV_txt {x : Bytes} (h : x.length ≤ 1048576) : okV (txtV x) := ⟨.inr rfl, ⟨_, _, _, rfl⟩, h⟩
theorem nums_0 (an bn : Bool) (av bv : Int) (w : World) : Calls Tryz.prog 51 #[.string (bs [61]), .agg #[.bool an, .int .i64 av], .agg #[.bool bn, .int .i64 bv]] w fun e w' => e = .returned (.bool (numsS [61] an av bn bv)) ∧ Ext w w' := by
  have hwz : Ext w ((w.alloc (.cells #[.bool an, .int .i64 av] 28)).alloc (.cells #[.bool bn, .int .i64 bv] 28)) := ((Ext.refl w).alloc _).alloc _
  obtain ⟨wz, hz⟩ : ∃ W, (w.alloc (.cells #[.bool an, .int .i64 av] 28)).alloc (.cells #[.bool bn, .int .i64 bv] 28) = W := ⟨_, rfl⟩
  have a0 : wz.cell? ⟨w.heap.size, 0, none⟩ = some (.bool an) := by rw [← hz]; simp [go_sem]
  have a1 : wz.cell? ⟨w.heap.size, 1, none⟩ = some (.int .i64 av) := by rw [← hz]; simp [go_sem]
  have b0 : wz.cell? ⟨w.heap.size + 1, 0, none⟩ = some (.bool bn) := by rw [← hz]; simp [go_sem]
  have b1 : wz.cell? ⟨w.heap.size + 1, 1, none⟩ = some (.int .i64 bv) := by rw [← hz]; simp [go_sem]
  have hl : w.heap.size + 1 < wz.heap.size := by rw [← hz]; simp
  obtain ⟨r0, hr0⟩ : ∃ r, equalS an bn av bv = r := ⟨_, rfl⟩
  have H0 := Lib.hid fun W => equal_any an bn av bv W
  rw [hr0] at H0
  have HR : Hid (numsS [61] an av bn bv = (r0)) := Lib.hid (by rw [← hr0]; rfl)
  have HZ : Hid (Ext w wz) := Lib.hid (by rw [← hz]; exact hwz)
  clear hr0 hwz
  rw [show bs [61] = ⟨#[61]⟩ from rfl]
  go_enter Tryz.func51, Tryz.ntmps51
  go_wp2_with fail
  refine (H0.out _).mono ?_
  rintro e w1 ⟨rfl, hX⟩
  go_wp2_with fail
  go_ret
  exact ⟨ret_bool (by rw [HR.out]; try (cases r0 <;> rfl)), HZ.out.trans hX⟩

theorem nums_1 (an bn : Bool) (av bv : Int) (w : World) : Calls Tryz.prog 51 #[.string (bs [33, 61]), .agg #[.bool an, .int .i64 av], .agg #[.bool bn, .int .i64 bv]] w fun e w' => e = .returned (.bool (numsS [33, 61] an av bn bv)) ∧ Ext w w' := by
  have hwz : Ext w ((w.alloc (.cells #[.bool an, .int .i64 av] 28)).alloc (.cells #[.bool bn, .int .i64 bv] 28)) := ((Ext.refl w).alloc _).alloc _
  obtain ⟨wz, hz⟩ : ∃ W, (w.alloc (.cells #[.bool an, .int .i64 av] 28)).alloc (.cells #[.bool bn, .int .i64 bv] 28) = W := ⟨_, rfl⟩
  have a0 : wz.cell? ⟨w.heap.size, 0, none⟩ = some (.bool an) := by rw [← hz]; simp [go_sem]
  have a1 : wz.cell? ⟨w.heap.size, 1, none⟩ = some (.int .i64 av) := by rw [← hz]; simp [go_sem]
  have b0 : wz.cell? ⟨w.heap.size + 1, 0, none⟩ = some (.bool bn) := by rw [← hz]; simp [go_sem]
  have b1 : wz.cell? ⟨w.heap.size + 1, 1, none⟩ = some (.int .i64 bv) := by rw [← hz]; simp [go_sem]
  have hl : w.heap.size + 1 < wz.heap.size := by rw [← hz]; simp
  obtain ⟨r0, hr0⟩ : ∃ r, equalS an bn av bv = r := ⟨_, rfl⟩
  have H0 := Lib.hid fun W => equal_any an bn av bv W
  rw [hr0] at H0
  have HR : Hid (numsS [33, 61] an av bn bv = (!r0)) := Lib.hid (by rw [← hr0]; rfl)
  have HZ : Hid (Ext w wz) := Lib.hid (by rw [← hz]; exact hwz)
  clear hr0 hwz
  rw [show bs [33, 61] = ⟨#[33, 61]⟩ from rfl]
  go_enter Tryz.func51, Tryz.ntmps51
  go_wp2_with fail
  refine (H0.out _).mono ?_
  rintro e w1 ⟨rfl, hX⟩
  go_wp2_with fail
  go_ret
  exact ⟨ret_bool (by rw [HR.out]; try (cases r0 <;> rfl)), HZ.out.trans hX⟩

theorem nums_2 (an bn : Bool) (av bv : Int) (w : World) : Calls Tryz.prog 51 #[.string (bs [60]), .agg #[.bool an, .int .i64 av], .agg #[.bool bn, .int .i64 bv]] w fun e w' => e = .returned (.bool (numsS [60] an av bn bv)) ∧ Ext w w' := by
  have hwz : Ext w ((w.alloc (.cells #[.bool an, .int .i64 av] 28)).alloc (.cells #[.bool bn, .int .i64 bv] 28)) := ((Ext.refl w).alloc _).alloc _
  obtain ⟨wz, hz⟩ : ∃ W, (w.alloc (.cells #[.bool an, .int .i64 av] 28)).alloc (.cells #[.bool bn, .int .i64 bv] 28) = W := ⟨_, rfl⟩
  have a0 : wz.cell? ⟨w.heap.size, 0, none⟩ = some (.bool an) := by rw [← hz]; simp [go_sem]
  have a1 : wz.cell? ⟨w.heap.size, 1, none⟩ = some (.int .i64 av) := by rw [← hz]; simp [go_sem]
  have b0 : wz.cell? ⟨w.heap.size + 1, 0, none⟩ = some (.bool bn) := by rw [← hz]; simp [go_sem]
  have b1 : wz.cell? ⟨w.heap.size + 1, 1, none⟩ = some (.int .i64 bv) := by rw [← hz]; simp [go_sem]
  have hl : w.heap.size + 1 < wz.heap.size := by rw [← hz]; simp
  obtain ⟨r0, hr0⟩ : ∃ r, lessS an bn av bv = r := ⟨_, rfl⟩
  have H0 := Lib.hid fun W => less_any an bn av bv W
  rw [hr0] at H0
  have HR : Hid (numsS [60] an av bn bv = (r0)) := Lib.hid (by rw [← hr0]; rfl)
  have HZ : Hid (Ext w wz) := Lib.hid (by rw [← hz]; exact hwz)
  clear hr0 hwz
  rw [show bs [60] = ⟨#[60]⟩ from rfl]
  go_enter Tryz.func51, Tryz.ntmps51
  go_wp2_with fail
  refine (H0.out _).mono ?_
  rintro e w1 ⟨rfl, hX⟩
  go_wp2_with fail
  go_ret
  exact ⟨ret_bool (by rw [HR.out]; try (cases r0 <;> rfl)), HZ.out.trans hX⟩

theorem nums_3 (an bn : Bool) (av bv : Int) (w : World) : Calls Tryz.prog 51 #[.string (bs [62]), .agg #[.bool an, .int .i64 av], .agg #[.bool bn, .int .i64 bv]] w fun e w' => e = .returned (.bool (numsS [62] an av bn bv)) ∧ Ext w w' := by
  have hwz : Ext w ((w.alloc (.cells #[.bool an, .int .i64 av] 28)).alloc (.cells #[.bool bn, .int .i64 bv] 28)) := ((Ext.refl w).alloc _).alloc _
  obtain ⟨wz, hz⟩ : ∃ W, (w.alloc (.cells #[.bool an, .int .i64 av] 28)).alloc (.cells #[.bool bn, .int .i64 bv] 28) = W := ⟨_, rfl⟩
  have a0 : wz.cell? ⟨w.heap.size, 0, none⟩ = some (.bool an) := by rw [← hz]; simp [go_sem]
  have a1 : wz.cell? ⟨w.heap.size, 1, none⟩ = some (.int .i64 av) := by rw [← hz]; simp [go_sem]
  have b0 : wz.cell? ⟨w.heap.size + 1, 0, none⟩ = some (.bool bn) := by rw [← hz]; simp [go_sem]
  have b1 : wz.cell? ⟨w.heap.size + 1, 1, none⟩ = some (.int .i64 bv) := by rw [← hz]; simp [go_sem]
  have hl : w.heap.size + 1 < wz.heap.size := by rw [← hz]; simp
  obtain ⟨r0, hr0⟩ : ∃ r, lessS bn an bv av = r := ⟨_, rfl⟩
  have H0 := Lib.hid fun W => less_any bn an bv av W
  rw [hr0] at H0
  have HR : Hid (numsS [62] an av bn bv = (r0)) := Lib.hid (by rw [← hr0]; rfl)
  have HZ : Hid (Ext w wz) := Lib.hid (by rw [← hz]; exact hwz)
  clear hr0 hwz
  rw [show bs [62] = ⟨#[62]⟩ from rfl]
  go_enter Tryz.func51, Tryz.ntmps51
  go_wp2_with fail
  refine (H0.out _).mono ?_
  rintro e w1 ⟨rfl, hX⟩
  go_wp2_with fail
  go_ret
  exact ⟨ret_bool (by rw [HR.out]; try (cases r0 <;> rfl)), HZ.out.trans hX⟩

theorem nums_4 (an bn : Bool) (av bv : Int) (w : World) : Calls Tryz.prog 51 #[.string (bs [60, 61]), .agg #[.bool an, .int .i64 av], .agg #[.bool bn, .int .i64 bv]] w fun e w' => e = .returned (.bool (numsS [60, 61] an av bn bv)) ∧ Ext w w' := by
  have hwz : Ext w ((w.alloc (.cells #[.bool an, .int .i64 av] 28)).alloc (.cells #[.bool bn, .int .i64 bv] 28)) := ((Ext.refl w).alloc _).alloc _
  obtain ⟨wz, hz⟩ : ∃ W, (w.alloc (.cells #[.bool an, .int .i64 av] 28)).alloc (.cells #[.bool bn, .int .i64 bv] 28) = W := ⟨_, rfl⟩
  have a0 : wz.cell? ⟨w.heap.size, 0, none⟩ = some (.bool an) := by rw [← hz]; simp [go_sem]
  have a1 : wz.cell? ⟨w.heap.size, 1, none⟩ = some (.int .i64 av) := by rw [← hz]; simp [go_sem]
  have b0 : wz.cell? ⟨w.heap.size + 1, 0, none⟩ = some (.bool bn) := by rw [← hz]; simp [go_sem]
  have b1 : wz.cell? ⟨w.heap.size + 1, 1, none⟩ = some (.int .i64 bv) := by rw [← hz]; simp [go_sem]
  have hl : w.heap.size + 1 < wz.heap.size := by rw [← hz]; simp
  obtain ⟨r0, hr0⟩ : ∃ r, lessS an bn av bv = r := ⟨_, rfl⟩
  have H0 := Lib.hid fun W => less_any an bn av bv W
  rw [hr0] at H0
  obtain ⟨r1, hr1⟩ : ∃ r, equalS an bn av bv = r := ⟨_, rfl⟩
  have H1 := Lib.hid fun W => equal_any an bn av bv W
  rw [hr1] at H1
  have HR : Hid (numsS [60, 61] an av bn bv = ((r0 || r1))) := Lib.hid (by rw [← hr0, ← hr1]; rfl)
  have HZ : Hid (Ext w wz) := Lib.hid (by rw [← hz]; exact hwz)
  clear hr0 hr1 hwz
  rw [show bs [60, 61] = ⟨#[60, 61]⟩ from rfl]
  go_enter Tryz.func51, Tryz.ntmps51
  go_wp2_with fail
  refine (H0.out _).mono ?_
  rintro e w1 ⟨rfl, hX⟩
  have a0' := hX.keep (by omega) a0; have a1' := hX.keep (by omega) a1; have b0' := hX.keep hl b0; have b1' := hX.keep hl b1
  clear a0 a1 b0 b1
  cases r0 with
  | true =>
    go_wp2_with fail
    go_ret
    exact ⟨ret_bool (by rw [HR.out]; rfl), HZ.out.trans hX⟩
  | false =>
    go_wp2_with fail
    refine (H1.out _).mono ?_
    rintro e w2 ⟨rfl, hX2⟩
    go_wp2_with fail
    go_ret
    exact ⟨ret_bool (by rw [HR.out]; cases r1 <;> rfl), (HZ.out.trans hX).trans hX2⟩

theorem nums_5 (an bn : Bool) (av bv : Int) (w : World) : Calls Tryz.prog 51 #[.string (bs [62, 61]), .agg #[.bool an, .int .i64 av], .agg #[.bool bn, .int .i64 bv]] w fun e w' => e = .returned (.bool (numsS [62, 61] an av bn bv)) ∧ Ext w w' := by
  have hwz : Ext w ((w.alloc (.cells #[.bool an, .int .i64 av] 28)).alloc (.cells #[.bool bn, .int .i64 bv] 28)) := ((Ext.refl w).alloc _).alloc _
  obtain ⟨wz, hz⟩ : ∃ W, (w.alloc (.cells #[.bool an, .int .i64 av] 28)).alloc (.cells #[.bool bn, .int .i64 bv] 28) = W := ⟨_, rfl⟩
  have a0 : wz.cell? ⟨w.heap.size, 0, none⟩ = some (.bool an) := by rw [← hz]; simp [go_sem]
  have a1 : wz.cell? ⟨w.heap.size, 1, none⟩ = some (.int .i64 av) := by rw [← hz]; simp [go_sem]
  have b0 : wz.cell? ⟨w.heap.size + 1, 0, none⟩ = some (.bool bn) := by rw [← hz]; simp [go_sem]
  have b1 : wz.cell? ⟨w.heap.size + 1, 1, none⟩ = some (.int .i64 bv) := by rw [← hz]; simp [go_sem]
  have hl : w.heap.size + 1 < wz.heap.size := by rw [← hz]; simp
  obtain ⟨r0, hr0⟩ : ∃ r, lessS bn an bv av = r := ⟨_, rfl⟩
  have H0 := Lib.hid fun W => less_any bn an bv av W
  rw [hr0] at H0
  obtain ⟨r1, hr1⟩ : ∃ r, equalS an bn av bv = r := ⟨_, rfl⟩
  have H1 := Lib.hid fun W => equal_any an bn av bv W
  rw [hr1] at H1
  have HR : Hid (numsS [62, 61] an av bn bv = ((r0 || r1))) := Lib.hid (by rw [← hr0, ← hr1]; rfl)
  have HZ : Hid (Ext w wz) := Lib.hid (by rw [← hz]; exact hwz)
  clear hr0 hr1 hwz
  rw [show bs [62, 61] = ⟨#[62, 61]⟩ from rfl]
  go_enter Tryz.func51, Tryz.ntmps51
  go_wp2_with fail
  refine (H0.out _).mono ?_
  rintro e w1 ⟨rfl, hX⟩
  have a0' := hX.keep (by omega) a0; have a1' := hX.keep (by omega) a1; have b0' := hX.keep hl b0; have b1' := hX.keep hl b1
  clear a0 a1 b0 b1
  cases r0 with
  | true =>
    go_wp2_with fail
    go_ret
    exact ⟨ret_bool (by rw [HR.out]; rfl), HZ.out.trans hX⟩
  | false =>
    go_wp2_with fail
    refine (H1.out _).mono ?_
    rintro e w2 ⟨rfl, hX2⟩
    go_wp2_with fail
    go_ret
    exact ⟨ret_bool (by rw [HR.out]; cases r1 <;> rfl), (HZ.out.trans hX).trans hX2⟩

theorem nums_any (o : Bytes) (ho : o ∈ OPS) (an bn : Bool) (av bv : Int) (w : World) : Calls Tryz.prog 51 #[.string (bs o), .agg #[.bool an, .int .i64 av], .agg #[.bool bn, .int .i64 bv]] w fun e w' => e = .returned (.bool (numsS o an av bn bv)) ∧ Ext w w' := by
  simp only [OPS, List.mem_cons, List.not_mem_nil, or_false] at ho
  rcases ho with rfl | rfl | rfl | rfl | rfl | rfl
  · exact nums_0 an bn av bv w
  · exact nums_1 an bn av bv w
  · exact nums_2 an bn av bv w
  · exact nums_4 an bn av bv w
  · exact nums_3 an bn av bv w
  · exact nums_5 an bn av bv w

theorem number_num (b : VV) (tv : Value) (hk : b.kind = 3) (hs : ∃ o n c, b.nd = .slice o n c) (w : World) :
    Calls Tryz.prog 9 #[tv, .agg (vvL b).toArray] w fun e w' => e = .returned (.tuple #[.agg #[.bool b.nan, .int .i64 b.v], .int .i64 0]) ∧ Ext w w' := by
  obtain ⟨k, nd, bo, nan, v, t⟩ := b
  obtain ⟨o, m, c, rfl⟩ := hs
  subst hk
  unfold vvL
  go_enter Tryz.func9, Tryz.ntmps9
  go_wp2_with fail
  refine bodyPost_ret (v := .tuple #[.agg #[.bool nan, .int .i64 v], .int .i64 0]) (by simp [results, Tryz.f9, go_sem]) rfl ⟨rfl, ?_⟩
  exact ((Ext.refl w).alloc _).alloc _
set_option maxHeartbeats 4000000 in
theorem number_text (b : VV) (tv : Value) (hk : b.kind = 4) (hs : ∃ o n c, b.nd = .slice o n c) (w : World) (G : Glob w) (hl : b.text.length ≤ 4294967280) :
    Calls Tryz.prog 9 #[tv, .agg (vvL b).toArray] w fun e w' => e = .returned (.tuple #[.agg #[.bool (parseS b.text).1.1, .int .i64 (parseS b.text).1.2], .int .i64 (parseS b.text).2]) ∧ Ext w w' := by
  obtain ⟨k, nd, bo, nan, v, t⟩ := b
  obtain ⟨o, m, c, rfl⟩ := hs
  subst hk
  have HP := Lib.hid fun W (hE : Ext w W) => parse_any (bs t) W (G.ext hE) (by rw [bs_size]; exact hl)
  rw [bs_list] at HP
  dsimp only at HP ⊢
  obtain ⟨n1, hn1⟩ : ∃ x, (parseS t).1.1 = x := ⟨_, rfl⟩
  obtain ⟨v1, hv1⟩ : ∃ x, (parseS t).1.2 = x := ⟨_, rfl⟩
  obtain ⟨e1, he1⟩ : ∃ x, (parseS t).2 = x := ⟨_, rfl⟩
  rw [hn1, hv1, he1] at HP ⊢
  clear hn1 hv1 he1 hl G
  unfold vvL
  go_enter Tryz.func9, Tryz.ntmps9
  go_wp2_with fail
  refine (HP.out _ (((Ext.refl w).alloc _).alloc _)).mono ?_
  rintro e w1 ⟨rfl, hX⟩
  have hs1 : w.heap.size + 1 < w1.heap.size := by have := hX.size; simp at this; omega
  have d0 : w1.cell? ⟨w.heap.size + 1, 0, none⟩ = some (.bool false) := hX.keep (by simp) (by simp [go_sem])
  have d1 : w1.cell? ⟨w.heap.size + 1, 1, none⟩ = some (.int .i64 0) := hX.keep (by simp) (by simp [go_sem])
  have f0 : w1.frozen? ⟨w.heap.size + 1, 0, none⟩ = false := hX.free (by simp) (by simp [go_sem])
  have f1 : w1.frozen? ⟨w.heap.size + 1, 1, none⟩ = false := hX.free (by simp) (by simp [go_sem])
  have HX := Lib.hid ((((Ext.refl w).alloc _).alloc _).trans hX)
  clear HP hX
  go_wp2_with fail
  refine bodyPost_ret (v := .tuple #[.agg #[.bool n1, .int .i64 v1], .int .i64 e1]) (by simp [results, Tryz.f9, go_sem, d0, d1]) rfl ⟨rfl, ?_⟩
  exact (HX.out.set (p := ⟨w.heap.size + 1, 0, none⟩) (by simp) _).set (p := ⟨w.heap.size + 1, 1, none⟩) (by simp) _

theorem vv_len (b : VV) : (vvL b).length = 6 := rfl
theorem num_any (b : VV) (tv : Value) (hk : b.kind = 3 ∨ b.kind = 4) (hs : ∃ o n c, b.nd = .slice o n c) (w : World) (G : Glob w) (hl : b.text.length ≤ 4294967280) :
    Calls Tryz.prog 9 #[tv, .agg (vvL b).toArray] w fun e w' => e = .returned (.tuple #[.agg #[.bool (numV b).1.1, .int .i64 (numV b).1.2], .int .i64 (numV b).2]) ∧ Ext w w' := by
  rcases hk with hk | hk
  · unfold numV
    rw [if_pos hk]
    exact number_num b tv hk hs w
  · unfold numV
    rw [if_neg (by omega)]
    exact number_text b tv hk hs w G hl
set_option maxHeartbeats 8000000 in
theorem asnums_any (o : Bytes) (a b : VV) (tv : Value) (ht : ∃ o n c, tv = .slice o n c) (ho : o ∈ OPS) (hk : b.kind = 3 ∨ b.kind = 4) (hs : ∃ o n c, b.nd = .slice o n c) (w : World) (G : Glob w) (hx : okV a) (hl : b.text.length ≤ 4294967280) :
    Calls Tryz.prog 29 #[.agg #[tv, .string (bs o)], .agg (vvL a).toArray, .agg (vvL b).toArray] w fun e w' => e = .returned (.tuple #[.bool (asN o a b).1, .int .i64 (asN o a b).2]) ∧ Ext w w' := by
  obtain ⟨ta, tn, tc, rfl⟩ := ht
  have HN1 := Lib.hid fun W (hE : Ext w W) => num_any a (.slice ta tn tc) hx.1 hx.2.1 W (G.ext hE) (by have := hx.2.2; omega)
  have HN2 := Lib.hid fun W (hE : Ext w W) => num_any b (.slice ta tn tc) hk hs W (G.ext hE) hl
  obtain ⟨_, hxs, _⟩ := hx
  obtain ⟨ak, and', abo, anan, av, at'⟩ := a
  obtain ⟨aa, an', ac', rfl⟩ := hxs
  obtain ⟨k, nd, bo, nan, v, t⟩ := b
  obtain ⟨na, nn, nc, rfl⟩ := hs
  obtain ⟨R, hR⟩ : ∃ R, asN o ⟨ak, .slice aa an' ac', abo, anan, av, at'⟩ ⟨k, .slice na nn nc, bo, nan, v, t⟩ = R := ⟨_, rfl⟩
  rw [hR]
  unfold asN at hR
  obtain ⟨n1, hn1⟩ : ∃ y, (numV ⟨ak, .slice aa an' ac', abo, anan, av, at'⟩).1.1 = y := ⟨_, rfl⟩
  obtain ⟨v1, hv1⟩ : ∃ y, (numV ⟨ak, .slice aa an' ac', abo, anan, av, at'⟩).1.2 = y := ⟨_, rfl⟩
  obtain ⟨c1, hc1⟩ : ∃ y, (numV ⟨ak, .slice aa an' ac', abo, anan, av, at'⟩).2 = y := ⟨_, rfl⟩
  obtain ⟨n2, hn2⟩ : ∃ y, (numV ⟨k, .slice na nn nc, bo, nan, v, t⟩).1.1 = y := ⟨_, rfl⟩
  obtain ⟨v2, hv2⟩ : ∃ y, (numV ⟨k, .slice na nn nc, bo, nan, v, t⟩).1.2 = y := ⟨_, rfl⟩
  obtain ⟨c2, hc2⟩ : ∃ y, (numV ⟨k, .slice na nn nc, bo, nan, v, t⟩).2 = y := ⟨_, rfl⟩
  rw [hn1, hv1, hc1] at HN1 hR
  rw [hn2, hv2, hc2] at HN2 hR
  have HQ := Lib.hid fun W => nums_any o ho n1 n2 v1 v2 W
  obtain ⟨nr, hnr⟩ : ∃ y, numsS o n1 v1 n2 v2 = y := ⟨_, rfl⟩
  rw [hnr] at HQ hR
  have HR := Lib.hid hR
  obtain ⟨wz, hwz⟩ : ∃ W', ((w.alloc (.cells #[.slice ta tn tc, .string (bs o)] 53)).alloc (.cells #[.int .i64 ak, .slice aa an' ac', .bool abo, .bool anan, .int .i64 av, .string (bs at')] 30)).alloc (.cells #[.int .i64 k, .slice na nn nc, .bool bo, .bool nan, .int .i64 v, .string (bs t)] 30) = W' := ⟨_, rfl⟩
  have hE : Ext w wz := by rw [← hwz]; exact (((Ext.refl w).alloc _).alloc _).alloc _
  have z0 : w.heap.size + 2 < wz.heap.size := by rw [← hwz]; simp
  have p0 : wz.cell? ⟨w.heap.size, 0, none⟩ = some (.slice ta tn tc) := by rw [← hwz]; simp [go_sem]
  have p1 : wz.cell? ⟨w.heap.size, 1, none⟩ = some (.string (bs o)) := by rw [← hwz]; simp [go_sem]
  have a0 : wz.cell? ⟨w.heap.size + 1, 0, none⟩ = some (.int .i64 ak) := by rw [← hwz]; simp [go_sem]
  have a1 : wz.cell? ⟨w.heap.size + 1, 1, none⟩ = some (.slice aa an' ac') := by rw [← hwz]; simp [go_sem]
  have a2 : wz.cell? ⟨w.heap.size + 1, 2, none⟩ = some (.bool abo) := by rw [← hwz]; simp [go_sem]
  have a3 : wz.cell? ⟨w.heap.size + 1, 3, none⟩ = some (.bool anan) := by rw [← hwz]; simp [go_sem]
  have a4 : wz.cell? ⟨w.heap.size + 1, 4, none⟩ = some (.int .i64 av) := by rw [← hwz]; simp [go_sem]
  have a5 : wz.cell? ⟨w.heap.size + 1, 5, none⟩ = some (.string (bs at')) := by rw [← hwz]; simp [go_sem]
  have b0 : wz.cell? ⟨w.heap.size + 2, 0, none⟩ = some (.int .i64 k) := by rw [← hwz]; simp [go_sem]
  have b1 : wz.cell? ⟨w.heap.size + 2, 1, none⟩ = some (.slice na nn nc) := by rw [← hwz]; simp [go_sem]
  have b2 : wz.cell? ⟨w.heap.size + 2, 2, none⟩ = some (.bool bo) := by rw [← hwz]; simp [go_sem]
  have b3 : wz.cell? ⟨w.heap.size + 2, 3, none⟩ = some (.bool nan) := by rw [← hwz]; simp [go_sem]
  have b4 : wz.cell? ⟨w.heap.size + 2, 4, none⟩ = some (.int .i64 v) := by rw [← hwz]; simp [go_sem]
  have b5 : wz.cell? ⟨w.heap.size + 2, 5, none⟩ = some (.string (bs t)) := by rw [← hwz]; simp [go_sem]
  have HB := Lib.hid (And.intro p0 (And.intro p1 (And.intro b0 (And.intro b1 (And.intro b2 (And.intro b3 (And.intro b4 (And.intro b5 (And.intro z0 hE)))))))))
  clear hn1 hv1 hc1 hn2 hv2 hc2 hnr hR hk G hl ho hE b0 b1 b2 b3 b4 b5 p1
  unfold vvL
  go_enter Tryz.func29, Tryz.ntmps29
  go_wp2_with fail
  refine (HN1.out wz HB.out.2.2.2.2.2.2.2.2.2).mono ?_
  rintro e w1 ⟨rfl, hX1⟩
  clear a0 a1 a2 a3 a4 a5 p0 HN1
  by_cases hc : c1 = 0
  · subst hc
    have p0 := hX1.keep (by omega) HB.out.1
    have b0 := hX1.keep (by omega) HB.out.2.2.1; have b1 := hX1.keep (by omega) HB.out.2.2.2.1; have b2 := hX1.keep (by omega) HB.out.2.2.2.2.1; have b3 := hX1.keep (by omega) HB.out.2.2.2.2.2.1; have b4 := hX1.keep (by omega) HB.out.2.2.2.2.2.2.1; have b5 := hX1.keep (by omega) HB.out.2.2.2.2.2.2.2.1
    obtain ⟨w2, hw2⟩ : ∃ W', w1.alloc (.cells #[.bool n1, .int .i64 v1] 28) = W' := ⟨_, rfl⟩
    have hX2 : Ext w1 w2 := by rw [← hw2]; exact (Ext.refl w1).alloc _
    have d0 : w2.cell? ⟨w1.heap.size, 0, none⟩ = some (.bool n1) := by rw [← hw2]; simp [go_sem]
    have d1 : w2.cell? ⟨w1.heap.size, 1, none⟩ = some (.int .i64 v1) := by rw [← hw2]; simp [go_sem]
    have z1 : w1.heap.size < w2.heap.size := by rw [← hw2]; simp
    have q0 := hX2.keep (by have := hX1.size; omega) p0
    have e0 := hX2.keep (by have := hX1.size; omega) b0; have e1 := hX2.keep (by have := hX1.size; omega) b1; have e2 := hX2.keep (by have := hX1.size; omega) b2; have e3 := hX2.keep (by have := hX1.size; omega) b3; have e4 := hX2.keep (by have := hX1.size; omega) b4; have e5 := hX2.keep (by have := hX1.size; omega) b5
    have HX2 := Lib.hid (hX1.trans hX2)
    have HD := Lib.hid (And.intro d0 (And.intro d1 z1))
    clear hX1 hX2 b0 b1 b2 b3 b4 b5 p0 z0 d0 d1 z1
    go_wp2_with fail
    refine (HN2.out w2 (HB.out.2.2.2.2.2.2.2.2.2.trans HX2.out)).mono ?_
    rintro e w3 ⟨rfl, hX3⟩
    clear e0 e1 e2 e3 e4 e5 q0 HN2
    by_cases hd : c2 = 0
    · subst hd
      have p1 := (HX2.out.trans hX3).keep (by have := HB.out.2.2.2.2.2.2.2.2.1; omega) HB.out.2.1
      have d0 := hX3.keep HD.out.2.2 HD.out.1
      have d1 := hX3.keep HD.out.2.2 HD.out.2.1
      obtain ⟨w4, hw4⟩ : ∃ W', w3.alloc (.cells #[.bool n2, .int .i64 v2] 28) = W' := ⟨_, rfl⟩
      have hX4 : Ext w3 w4 := by rw [← hw4]; exact (Ext.refl w3).alloc _
      have g0 : w4.cell? ⟨w3.heap.size, 0, none⟩ = some (.bool n2) := by rw [← hw4]; simp [go_sem]
      have g1 : w4.cell? ⟨w3.heap.size, 1, none⟩ = some (.int .i64 v2) := by rw [← hw4]; simp [go_sem]
      have h3s := hX3.size
      have p1' := hX4.keep (by have := HB.out.2.2.2.2.2.2.2.2.1; have := HX2.out.size; omega) p1
      have d0' := hX4.keep (by have := HD.out.2.2; omega) d0
      have d1' := hX4.keep (by have := HD.out.2.2; omega) d1
      have HX4 := Lib.hid (HB.out.2.2.2.2.2.2.2.2.2.trans ((HX2.out.trans hX3).trans hX4))
      have HRR : Hid ((nr, (0 : Int)) = R) := Lib.hid (by have := HR.out; simpa using this)
      clear hX3 hX4 p1 d0 d1 h3s HR
      go_wp2_with fail
      refine (HQ.out w4).mono ?_
      rintro e w5 ⟨rfl, hX5⟩
      go_wp2_with fail
      rw [← HRR.out]
      go_ret2
      exact ⟨rfl, HX4.out.trans hX5⟩
    · have hd' : (c2 != 0) = true := by rw [bne_iff_ne]; exact hd
      have HRR : Hid ((false, c2) = R) := Lib.hid (by simpa [hd] using HR.out)
      have HX3 := Lib.hid ((HB.out.2.2.2.2.2.2.2.2.2.trans (HX2.out.trans hX3)).alloc (.cells #[.bool n2, .int .i64 v2] 28))
      clear hX3 HR hd
      go_wp2_with fail
      rw [← HRR.out]
      go_ret2
      exact ⟨rfl, HX3.out⟩
  · have hc' : (c1 != 0) = true := by rw [bne_iff_ne]; exact hc
    have HRR : Hid ((false, c1) = R) := Lib.hid (by simpa [hc] using HR.out)
    have HX1 := Lib.hid ((HB.out.2.2.2.2.2.2.2.2.2.trans hX1).alloc (.cells #[.bool n1, .int .i64 v1] 28))
    clear hX1 HR hc
    go_wp2_with fail
    rw [← HRR.out]
    go_ret2
    exact ⟨rfl, HX1.out⟩

theorem veq_no (o : Bytes) (h : ¬ (o = [61] ∨ o = [33, 61])) (w : World) : Calls Tryz.prog 28 #[.string (bs o)] w fun e w' => e = .returned (.bool false) ∧ w = w' := by
  have h1 : (o == [61]) = false := by rw [beq_eq_false_iff_ne]; exact fun e => h (.inl e)
  have h2 : (o == [33, 61]) = false := by rw [beq_eq_false_iff_ne]; exact fun e => h (.inr e)
  have q1 : ((bs o).toList == (⟨#[61]⟩ : ByteArray).toList) = false := by rw [show (⟨#[61]⟩ : ByteArray) = bs [61] from rfl, bs_eqv]; exact h1
  have q2 : ((bs o).toList == (⟨#[33, 61]⟩ : ByteArray).toList) = false := by rw [show (⟨#[33, 61]⟩ : ByteArray) = bs [33, 61] from rfl, bs_eqv]; exact h2
  have q5 : ((bs o).toList == [61]) = false := by rw [bs_toList]; exact h1
  have q6 : ((bs o).toList == [33, 61]) = false := by rw [bs_toList]; exact h2
  clear h h1 h2 q1 q2
  go_enter Tryz.func28, Tryz.ntmps28
  go_wp2_with fail
  go_ret
  exact ⟨rfl, rfl⟩
theorem veq_eq (w : World) : Calls Tryz.prog 28 #[.string ⟨#[61]⟩] w fun e w' => e = .returned (.bool true) ∧ w = w' := by
  go_enter Tryz.func28, Tryz.ntmps28
  go_wp2_with fail
  go_ret
  exact ⟨rfl, rfl⟩
theorem veq_ne (w : World) : Calls Tryz.prog 28 #[.string ⟨#[33, 61]⟩] w fun e w' => e = .returned (.bool true) ∧ w = w' := by
  go_enter Tryz.func28, Tryz.ntmps28
  go_wp2_with fail
  go_ret
  exact ⟨rfl, rfl⟩
def PlainP (o : Bytes) (a b : VV) (tv : Value) (w : World) : Prop := Calls Tryz.prog 17 #[.agg #[tv, .string (bs o)], .agg (vvL a).toArray, .agg (vvL b).toArray] w fun e w' => e = .returned (.tuple #[.bool (plainS o a b).1, .int .i64 (plainS o a b).2]) ∧ Ext w w'
set_option maxHeartbeats 8000000 in
/-- Where values are compared as numbers, or as texts. -/
theorem plain_any (o : Bytes) (a b : VV) (tv : Value) (ht : ∃ o n c, tv = .slice o n c) (ho : o ∈ OPS) (hk : b.kind = 3 ∨ b.kind = 4) (hs : ∃ o n c, b.nd = .slice o n c) (w : World) (G : Glob w) (hx : okV a) (hl : b.text.length ≤ 4294967280) :
    PlainP o a b tv w := by
  have HA := Lib.hid fun W (hE : Ext w W) => asnums_any o a b tv ht ho hk hs W (G.ext hE) hx hl
  obtain ⟨ta, tn, tc, rfl⟩ := ht
  obtain ⟨k, nd, bo, nan, v, t⟩ := b
  obtain ⟨na, nn, nc, rfl⟩ := hs
  obtain ⟨hak, hxs, _⟩ := hx
  obtain ⟨ak, and', abo, anan, av, at'⟩ := a
  obtain ⟨aa, an', ac', rfl⟩ := hxs
  unfold PlainP
  obtain ⟨wz, hwz⟩ : ∃ W', ((w.alloc (.cells #[.slice ta tn tc, .string (bs o)] 53)).alloc (.cells #[.int .i64 ak, .slice aa an' ac', .bool abo, .bool anan, .int .i64 av, .string (bs at')] 30)).alloc (.cells #[.int .i64 k, .slice na nn nc, .bool bo, .bool nan, .int .i64 v, .string (bs t)] 30) = W' := ⟨_, rfl⟩
  have hE : Ext w wz := by rw [← hwz]; exact (((Ext.refl w).alloc _).alloc _).alloc _
  have p0 : wz.cell? ⟨w.heap.size, 0, none⟩ = some (.slice ta tn tc) := by rw [← hwz]; simp [go_sem]
  have p1 : wz.cell? ⟨w.heap.size, 1, none⟩ = some (.string (bs o)) := by rw [← hwz]; simp [go_sem]
  have a0 : wz.cell? ⟨w.heap.size + 1, 0, none⟩ = some (.int .i64 ak) := by rw [← hwz]; simp [go_sem]
  have a1 : wz.cell? ⟨w.heap.size + 1, 1, none⟩ = some (.slice aa an' ac') := by rw [← hwz]; simp [go_sem]
  have a2 : wz.cell? ⟨w.heap.size + 1, 2, none⟩ = some (.bool abo) := by rw [← hwz]; simp [go_sem]
  have a3 : wz.cell? ⟨w.heap.size + 1, 3, none⟩ = some (.bool anan) := by rw [← hwz]; simp [go_sem]
  have a4 : wz.cell? ⟨w.heap.size + 1, 4, none⟩ = some (.int .i64 av) := by rw [← hwz]; simp [go_sem]
  have a5 : wz.cell? ⟨w.heap.size + 1, 5, none⟩ = some (.string (bs at')) := by rw [← hwz]; simp [go_sem]
  have b0 : wz.cell? ⟨w.heap.size + 2, 0, none⟩ = some (.int .i64 k) := by rw [← hwz]; simp [go_sem]
  have b1 : wz.cell? ⟨w.heap.size + 2, 1, none⟩ = some (.slice na nn nc) := by rw [← hwz]; simp [go_sem]
  have b2 : wz.cell? ⟨w.heap.size + 2, 2, none⟩ = some (.bool bo) := by rw [← hwz]; simp [go_sem]
  have b3 : wz.cell? ⟨w.heap.size + 2, 3, none⟩ = some (.bool nan) := by rw [← hwz]; simp [go_sem]
  have b4 : wz.cell? ⟨w.heap.size + 2, 4, none⟩ = some (.int .i64 v) := by rw [← hwz]; simp [go_sem]
  have b5 : wz.cell? ⟨w.heap.size + 2, 5, none⟩ = some (.string (bs t)) := by rw [← hwz]; simp [go_sem]
  have HE := Lib.hid hE
  have HA := Lib.hid (HA.out wz hE)
  unfold vvL at HA
  dsimp only at HA
  by_cases hq : o = [61] ∨ o = [33, 61]
  · rcases hak with hak | hak
    · dsimp only at hak
      subst hak
      have hk2 : (k == 2) = false := by rw [beq_eq_false_iff_ne]; dsimp only at hk; omega
      have HR : Hid (plainS o ⟨3, .slice aa an' ac', abo, anan, av, at'⟩ ⟨k, .slice na nn nc, bo, nan, v, t⟩ = asN o ⟨3, .slice aa an' ac', abo, anan, av, at'⟩ ⟨k, .slice na nn nc, bo, nan, v, t⟩) := Lib.hid (by unfold plainS; rw [if_pos hq, if_pos (.inl rfl)])
      obtain ⟨R, hRR⟩ : ∃ R, asN o ⟨3, .slice aa an' ac', abo, anan, av, at'⟩ ⟨k, .slice na nn nc, bo, nan, v, t⟩ = R := ⟨_, rfl⟩
      rw [hRR] at HA HR
      rw [HR.out]
      clear hRR HR G hl hE ho hk
      unfold vvL
      rcases hq with rfl | rfl
      · rw [show bs [61] = ⟨#[61]⟩ from rfl] at *
        go_enter Tryz.func17, Tryz.ntmps17
        go_wp2_with fail
        refine (veq_eq wz).mono ?_
        rintro e w' ⟨rfl, rfl⟩
        go_wp2_with fail
        refine HA.out.mono ?_
        rintro e w1 ⟨rfl, hX⟩
        go_wp2_with fail
        go_ret2
        exact ⟨rfl, HE.out.trans hX⟩
      · rw [show bs [33, 61] = ⟨#[33, 61]⟩ from rfl] at *
        go_enter Tryz.func17, Tryz.ntmps17
        go_wp2_with fail
        refine (veq_ne wz).mono ?_
        rintro e w' ⟨rfl, rfl⟩
        go_wp2_with fail
        refine HA.out.mono ?_
        rintro e w1 ⟨rfl, hX⟩
        go_wp2_with fail
        go_ret2
        exact ⟨rfl, HE.out.trans hX⟩
    · dsimp only at hak
      subst hak
      rcases hk with hk | hk
      · dsimp only at hk
        subst hk
        have HR : Hid (plainS o ⟨4, .slice aa an' ac', abo, anan, av, at'⟩ ⟨3, .slice na nn nc, bo, nan, v, t⟩ = asN o ⟨4, .slice aa an' ac', abo, anan, av, at'⟩ ⟨3, .slice na nn nc, bo, nan, v, t⟩) := Lib.hid (by unfold plainS; rw [if_pos hq, if_pos (.inr rfl)])
        obtain ⟨R, hRR⟩ : ∃ R, asN o ⟨4, .slice aa an' ac', abo, anan, av, at'⟩ ⟨3, .slice na nn nc, bo, nan, v, t⟩ = R := ⟨_, rfl⟩
        rw [hRR] at HA HR
        rw [HR.out]
        clear hRR HR G hl hE ho
        unfold vvL
        rcases hq with rfl | rfl
        · rw [show bs [61] = ⟨#[61]⟩ from rfl] at *
          go_enter Tryz.func17, Tryz.ntmps17
          go_wp2_with fail
          refine (veq_eq wz).mono ?_
          rintro e w' ⟨rfl, rfl⟩
          go_wp2_with fail
          refine HA.out.mono ?_
          rintro e w1 ⟨rfl, hX⟩
          go_wp2_with fail
          go_ret2
          exact ⟨rfl, HE.out.trans hX⟩
        · rw [show bs [33, 61] = ⟨#[33, 61]⟩ from rfl] at *
          go_enter Tryz.func17, Tryz.ntmps17
          go_wp2_with fail
          refine (veq_ne wz).mono ?_
          rintro e w' ⟨rfl, rfl⟩
          go_wp2_with fail
          refine HA.out.mono ?_
          rintro e w1 ⟨rfl, hX⟩
          go_wp2_with fail
          go_ret2
          exact ⟨rfl, HE.out.trans hX⟩
      · dsimp only at hk
        subst hk
        obtain ⟨B, hB⟩ : ∃ B, decide (at' = t) = B := ⟨_, rfl⟩
        have hbq : ((bs at').toList == (bs t).toList) = B := by rw [bs_eqv, ← hB, Bool.eq_iff_iff]; simp
        have HR : Hid (plainS o ⟨4, .slice aa an' ac', abo, anan, av, at'⟩ ⟨4, .slice na nn nc, bo, nan, v, t⟩ = (B == decide (o = [61]), 0)) := Lib.hid (by unfold plainS; rw [if_pos hq, if_neg (show ¬ ((4 : Int) = 3 ∨ (4 : Int) = 3) by decide), ← hB])
        rw [HR.out]
        clear HR G hl hE ho HA hB
        unfold vvL
        rcases hq with rfl | rfl
        · rw [show bs [61] = ⟨#[61]⟩ from rfl] at *
          go_enter Tryz.func17, Tryz.ntmps17
          go_wp2_with fail
          refine (veq_eq wz).mono ?_
          rintro e w' ⟨rfl, rfl⟩
          go_wp2_with fail
          go_ret2
          exact ⟨by cases B <;> rfl, HE.out⟩
        · rw [show bs [33, 61] = ⟨#[33, 61]⟩ from rfl] at *
          go_enter Tryz.func17, Tryz.ntmps17
          go_wp2_with fail
          refine (veq_ne wz).mono ?_
          rintro e w' ⟨rfl, rfl⟩
          go_wp2_with fail
          go_ret2
          exact ⟨by cases B <;> rfl, HE.out⟩
  · have HR : Hid (plainS o ⟨ak, .slice aa an' ac', abo, anan, av, at'⟩ ⟨k, .slice na nn nc, bo, nan, v, t⟩ = asN o ⟨ak, .slice aa an' ac', abo, anan, av, at'⟩ ⟨k, .slice na nn nc, bo, nan, v, t⟩) := Lib.hid (by unfold plainS; rw [if_neg hq])
    obtain ⟨R, hRR⟩ : ∃ R, asN o ⟨ak, .slice aa an' ac', abo, anan, av, at'⟩ ⟨k, .slice na nn nc, bo, nan, v, t⟩ = R := ⟨_, rfl⟩
    rw [hRR] at HA HR
    rw [HR.out]
    have HQ := Lib.hid (veq_no o hq wz)
    clear hRR HR G hl hE ho hq hk hak
    unfold vvL
    go_enter Tryz.func17, Tryz.ntmps17
    go_wp2_with fail
    refine HQ.out.mono ?_
    rintro e w' ⟨rfl, rfl⟩
    go_wp2_with fail
    refine HA.out.mono ?_
    rintro e w1 ⟨rfl, hX⟩
    go_wp2_with fail
    go_ret2
    exact ⟨rfl, HE.out.trans hX⟩

end Go.Proofs.YtmmopcceabdecaaGreatDoor
