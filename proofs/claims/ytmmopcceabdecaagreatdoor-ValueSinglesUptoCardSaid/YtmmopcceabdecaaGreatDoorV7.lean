/-
  value.Compare at nodes and a number or a text. Helper lemmas; no statement of the seat is proved here.
-/
import Derived.Test.YtmmopcceabdecaaGreatDoorV6
namespace Go.Proofs.YtmmopcceabdecaaGreatDoor
open Go.RowKit Go.Shelf
attribute [local go_sem] Oper.semAt_some
set_option maxRecDepth 100000
set_option linter.unusedVariables false
set_option linter.unusedSimpArgs false

/-- A comparison, text by text. -/
def cmpL (o : Bytes) (b : VV) : List VV → Bool × Int
  | [] => (false, 0)
  | x :: r => if (plainS o x b).1 = true ∨ (plainS o x b).2 ≠ 0 then plainS o x b else cmpL o b r
def OPB : List ByteArray := [⟨#[61]⟩, ⟨#[33, 61]⟩, ⟨#[60]⟩, ⟨#[60, 61]⟩, ⟨#[62]⟩, ⟨#[62, 61]⟩]
theorem ops_in (o : Bytes) (ho : o ∈ OPS) : Lib.containsS (OPB.take 6) (bs o) = true := by
  simp only [OPS, List.mem_cons, List.not_mem_nil, or_false] at ho
  rcases ho with rfl | rfl | rfl | rfl | rfl | rfl <;> decide
theorem opb_cells (W : World) (g : Nat) (h : W.heap[g]? = some (.cells [.string ⟨#[61]⟩, .string ⟨#[33, 61]⟩, .string ⟨#[60]⟩, .string ⟨#[60, 61]⟩, .string ⟨#[62]⟩, .string ⟨#[62, 61]⟩].toArray 9 (0, 0))) : ∀ j, j < OPB.length → W.cell? ⟨g, 0 + j, none⟩ = some (.string (OPB.getD j ByteArray.empty)) := fun j hj => by
  rw [Nat.zero_add]
  have hj' : j < 6 := hj
  match j, hj' with
  | 0, _ => exact blk_cells h 0 rfl
  | 1, _ => exact blk_cells h 1 rfl
  | 2, _ => exact blk_cells h 2 rfl
  | 3, _ => exact blk_cells h 3 rfl
  | 4, _ => exact blk_cells h 4 rfl
  | 5, _ => exact blk_cells h 5 rfl
theorem blk_new (w : World) (o : Obj) : (w.alloc o).heap[w.heap.size]? = some o := Array.getElem?_push_size
theorem blk_ext {W W' : World} {g : Nat} {o : Obj} (h : W.heap[g]? = some o) (hX : Ext W W') : W'.heap[g]? = some o := (Below.block hX g (blk_lt h)).trans h
theorem may_yes (b : VV) (h1 : 1 ≤ b.kind) (h4 : b.kind ≤ 4) (hs : ∃ o n c, b.nd = .slice o n c) (w : World) : Calls Tryz.prog 15 #[.agg (vvL b).toArray] w fun e w' => e = .returned (.bool true) ∧ Ext w w' := by
  obtain ⟨k, nd, bo, nan, v, t⟩ := b
  obtain ⟨na, nn, nc, rfl⟩ := hs
  dsimp only at h1 h4
  unfold vvL
  go_enter Tryz.func15, Tryz.ntmps15
  go_wp2_with fail
  go_ret
  exact ⟨rfl, (Ext.refl _).alloc _⟩
theorem pairs_any (tv : Value) (ht : ∃ o n c, tv = .slice o n c) (o : ByteArray) (a b : VV) (ha : ∃ o n c, a.nd = .slice o n c) (hb : ∃ o n c, b.nd = .slice o n c) (w : World) :
    Calls Tryz.prog 18 #[.agg #[tv, .string o], .agg (vvL a).toArray, .agg (vvL b).toArray] w fun e w' => e = .returned (.func (.func 30) #[] #[.pointer (some ⟨w.heap.size, 0, none⟩), .pointer (some ⟨w.heap.size + 2, 0, none⟩), .pointer (some ⟨w.heap.size + 1, 0, none⟩)]) ∧
      w'.heap[w.heap.size]? = some (.cells [tv, .string o].toArray 53 (0, 0)) ∧ w'.heap[w.heap.size + 2]? = some (.cells (vvL b).toArray 30 (0, 0)) ∧ w'.heap[w.heap.size + 1]? = some (.cells (vvL a).toArray 30 (0, 0)) ∧ Ext w w' := by
  obtain ⟨ta, tn, tc, rfl⟩ := ht
  obtain ⟨k, nd, bo, nan, v, t⟩ := a
  obtain ⟨na, nn, nc, rfl⟩ := ha
  obtain ⟨k', nd', bo', nan', v', t'⟩ := b
  obtain ⟨na', nn', nc', rfl⟩ := hb
  have h3 : Ext w (((w.alloc (.cells #[.slice ta tn tc, .string o] 53)).alloc (.cells #[.int .i64 k, .slice na nn nc, .bool bo, .bool nan, .int .i64 v, .string (bs t)] 30)).alloc (.cells #[.int .i64 k', .slice na' nn' nc', .bool bo', .bool nan', .int .i64 v', .string (bs t')] 30)) := (((Ext.refl w).alloc _).alloc _).alloc _
  unfold vvL
  go_enter Tryz.func18, Tryz.ntmps18
  go_wp2_with fail
  go_ret
  refine ⟨rfl, ?_, ?_, ?_, h3⟩
  · exact blk_ext (blk_new w _) (((Ext.refl _).alloc _).alloc _)
  · have h := blk_new ((w.alloc (.cells #[.slice ta tn tc, .string o] 53)).alloc (.cells #[.int .i64 k, .slice na nn nc, .bool bo, .bool nan, .int .i64 v, .string (bs t)] 30)) (.cells #[.int .i64 k', .slice na' nn' nc', .bool bo', .bool nan', .int .i64 v', .string (bs t')] 30)
    rw [World.size_alloc, World.size_alloc] at h
    exact h
  · have h := blk_ext (blk_new (w.alloc (.cells #[.slice ta tn tc, .string o] 53)) (.cells #[.int .i64 k, .slice na nn nc, .bool bo, .bool nan, .int .i64 v, .string (bs t)] 30)) ((Ext.refl _).alloc (.cells #[.int .i64 k', .slice na' nn' nc', .bool bo', .bool nan', .int .i64 v', .string (bs t')] 30))
    rw [World.size_alloc] at h
    exact h
theorem cmpL_hit (o : Bytes) (b : VV) (x : VV) (post : List VV) : ∀ pre : List VV, (∀ y ∈ pre, plainS o y b = (false, 0)) → ((plainS o x b).1 = true ∨ (plainS o x b).2 ≠ 0) → cmpL o b (pre ++ x :: post) = plainS o x b
  | [], _, h => by rw [List.nil_append, cmpL, if_pos h]
  | y :: pre, hp, h => by
    have hy := hp y (List.mem_cons_self ..)
    rw [List.cons_append, cmpL, hy, if_neg (by simp)]
    exact cmpL_hit o b x post pre (fun z hz => hp z (List.mem_cons_of_mem _ hz)) h
theorem cmpL_none (o : Bytes) (b : VV) : ∀ l : List VV, (∀ y ∈ l, plainS o y b = (false, 0)) → cmpL o b l = (false, 0)
  | [], _ => rfl
  | y :: l, hp => by
    rw [cmpL, hp y (List.mem_cons_self ..), if_neg (by simp)]
    exact cmpL_none o b l fun z hz => hp z (List.mem_cons_of_mem _ hz)
theorem act_name {F : Fence} {n : Nat} {P : Program} {c : Code} {Q : Exit → Act → World → Prop} {tm : Array Value} {d : List Deferred} {w : World} (h : ∀ A, A = tm → c.wpIn F n P Q { tmps := A, defers := d } w) : c.wpIn F n P Q { tmps := tm, defers := d } w := h tm rfl
theorem kpc_put (W : World) (l : Nat) (o o' : Obj) (h : W.heap[l]? = some o) (hc : o.isCells = false) : KpC W (W.putObj l o') := by
  have hg := grownBy_putObj' W l o'
  refine ⟨hg.size, fun k cs t fz e => (hg.block k (blk_lt e) ?_).trans e⟩
  intro e2
  cases e2
  rw [h] at e
  cases e
  cases hc
theorem blk_own {W W' : World} {row : Option Nat} {k : Nat} {cs : Array Value} {t : TypeId} {fz : Nat × Nat} (h : W.heap[k]? = some (.cells cs t fz)) (hg : W.grownBy W' row) {B : Nat} (hr : ∀ r, row = some r → B ≤ r ∧ ∃ o : Obj, W.heap[r]? = some o ∧ o.isCells = false) : W'.heap[k]? = some (.cells cs t fz) :=
  (hg.block k (blk_lt h) fun e => by
    obtain ⟨_, o, ho, hc⟩ := hr k e.symm
    rw [h] at ho
    cases ho
    cases hc).trans h
theorem ext_own {w W W' : World} {row : Option Nat} (h : Ext w W) (hg : W.grownBy W' row) {B : Nat} (hB : w.heap.size ≤ B) (hr : ∀ r, row = some r → B ≤ r ∧ ∃ o : Obj, W.heap[r]? = some o ∧ o.isCells = false) : Ext w W' :=
  Below.grown h hg (Below.size h) fun k hk => Nat.le_trans hB (hr k hk).1
theorem blk_put {W : World} {g : Nat} {u v : Value} {t : TypeId} (h : W.heap[g]? = some (.cells [v].toArray t (0, 0))) : (W.setCell ⟨g, 0, none⟩ u).heap[g]? = some (.cells [u].toArray t (0, 0)) := by
  have h1 := heap_setCell_same W g 0 [v].toArray t u h
  simpa using h1
theorem blk_oth {W : World} {g k : Nat} {u : Value} {o : Obj} (h : W.heap[k]? = some o) (hne : k ≠ g) : (W.setCell ⟨g, 0, none⟩ u).heap[k]? = some o := by
  rw [Below.heap_setCell _ _ _ _ (fun e => hne e)]
  exact h
/-- Between two rounds. -/
def InvC (o : Bytes) (b : VV) (w : World) (s8 s9 sc : Nat) (tv : Value) (pre : List TX) (W : World) : Prop :=
  (∀ x ∈ pre, plainS o x.1 b = (false, 0)) ∧ W.heap[s8]? = some (.cells [.bool false].toArray 4 (0, 0)) ∧ W.heap[s9]? = some (.cells [.int .i64 0].toArray 37 (0, 0)) ∧ W.heap[sc]? = some (.cells [tv, .string (bs o)].toArray 53 (0, 0)) ∧ Ext w W
/-- A round has left. -/
def OutC (o : Bytes) (b : VV) (w : World) (s8 s9 : Nat) (c : Code) (pre : List TX) (W : World) : Prop :=
  c = .ret ∧ (∃ (pre' : List TX) (x : TX), pre = pre' ++ [x] ∧ (∀ y ∈ pre', plainS o y.1 b = (false, 0)) ∧ ((plainS o x.1 b).1 = true ∨ (plainS o x.1 b).2 ≠ 0) ∧ W.heap[s8]? = some (.cells [.bool (plainS o x.1 b).1].toArray 4 (0, 0)) ∧ W.heap[s9]? = some (.cells [.int .i64 (plainS o x.1 b).2].toArray 37 (0, 0))) ∧ Ext w W
theorem invC_own {o : Bytes} {b : VV} {w : World} {s8 s9 sc : Nat} {tv : Value} {B : Nat} (hB : w.heap.size ≤ B) : OwnFrom B (InvC o b w s8 s9 sc tv) := fun s W W' row ⟨h1, h2, h3, h4, h5⟩ hg hr => ⟨h1, blk_own h2 hg hr, blk_own h3 hg hr, blk_own h4 hg hr, ext_own h5 hg hB hr⟩
theorem invC_ext {o : Bytes} {b : VV} {w : World} {s8 s9 sc : Nat} {tv : Value} {pre : List TX} {W W' : World} (h : InvC o b w s8 s9 sc tv pre W) (hX : Ext W W') : InvC o b w s8 s9 sc tv pre W' := ⟨h.1, blk_ext h.2.1 hX, blk_ext h.2.2.1 hX, blk_ext h.2.2.2.1 hX, h.2.2.2.2.trans hX⟩
theorem outC_own {o : Bytes} {b : VV} {w : World} {s8 s9 : Nat} {B : Nat} (hB : w.heap.size ≤ B) (c : Code) : OwnFrom B (OutC o b w s8 s9 c) := fun s W W' row ⟨h1, ⟨p, x, e, hp, hx, h2, h3⟩, h5⟩ hg hr => ⟨h1, ⟨p, x, e, hp, hx, blk_own h2 hg hr, blk_own h3 hg hr⟩, ext_own h5 hg hB hr⟩
set_option maxHeartbeats 16000000 in
theorem compare_core (o : Bytes) (ho : o ∈ OPS) (a b : VV) (hak : a.kind = 1 ∨ a.kind = 3 ∨ a.kind = 4) (ha0 : ∃ o n c, a.nd = .slice o n c) (hk : b.kind = 3 ∨ b.kind = 4) (hs : ∃ o n c, b.nd = .slice o n c) (hbt : b.text.length ≤ 4294967280) (tv : Value) (htv : ∃ o n c, tv = .slice o n c) (w : World) (G : Glob w)
    (xs : List TX) (hxl : xs.length ≤ 1000) (hsg : ∀ A, Ext w A → Calls Tryz.prog 31 #[.agg #[tv, .string (bs o)], .agg (vvL a).toArray] A fun e w' => (∃ rv, e = .returned rv ∧ w'.ownsRow A.heap.size 30 6 rv xs.length (rowX (xs.map (·.1)))) ∧ Ext A w') :
    Calls Tryz.prog 7 #[tv, .string (bs o), .agg (vvL a).toArray, .agg (vvL b).toArray] w fun e w' => e = .returned (.tuple #[.bool (cmpL o b (xs.map (·.1))).1, .int .i64 (cmpL o b (xs.map (·.1))).2]) ∧ Ext w w' := by
  have HM1 := Lib.hid fun W => may_yes a (by omega) (by omega) ha0 W
  have HM2 := Lib.hid fun W => may_yes b (by omega) (by omega) hs W
  have HP := Lib.hid fun W => pairs_any tv htv (bs o) a b ha0 hs W
  have HPL := Lib.hid fun W (hE : Ext w W) (x : VV) (hx : okV x) => plain_any o x b tv htv ho hk hs W (G.ext hE) hx hbt
  have HST := Lib.hid fun n (hn : 1 ≤ n) W (hE : Ext w W) Bc Bb Ba hc hb ha => pairs_stops n hn (bs o) a b ha0 hk hs tv htv W Bc Bb Ba hc hb ha xs hxl fun A hA => hsg A (hE.trans hA)
  have HIN := Lib.hid (ops_in o ho)
  have hq1 : (b.kind == 2) = false := by rw [beq_eq_false_iff_ne]; omega
  have hq2 : (a.kind == 2) = false := by rw [beq_eq_false_iff_ne]; omega
  obtain ⟨R, hR⟩ : ∃ R, cmpL o b (xs.map (·.1)) = R := ⟨_, rfl⟩
  rw [hR]
  have HR := Lib.hid hR
  obtain ⟨bk, nd, bbo, bnan, bv, bt⟩ := b
  obtain ⟨ba, bn, bc, rfl⟩ := hs
  obtain ⟨ak, and', bo, nan, v, t⟩ := a
  obtain ⟨na, an', nc, rfl⟩ := ha0
  obtain ⟨ta, tn, tc, rfl⟩ := htv
  dsimp only at hq1 hq2 hk hak
  clear ho hbt G hR hk hak hsg hxl
  unfold vvL at HM1 HM2
  dsimp only at HM1 HM2
  unfold vvL
  obtain ⟨wz, hwz⟩ : ∃ W', (((w.alloc (.cells #[.int .i64 ak, .slice na an' nc, .bool bo, .bool nan, .int .i64 v, .string (bs t)] 30)).alloc (.cells #[.int .i64 bk, .slice ba bn bc, .bool bbo, .bool bnan, .int .i64 bv, .string (bs bt)] 30)).alloc (.cells #[.bool false] 4)).alloc (.cells #[.int .i64 0] 37) = W' := ⟨_, rfl⟩
  have hE : Ext w wz := by rw [← hwz]; exact ((((Ext.refl w).alloc _).alloc _).alloc _).alloc _
  have hzs : wz.heap.size = w.heap.size + 4 := by rw [← hwz]; simp
  have hA : wz.heap[w.heap.size]? = some (.cells [.int .i64 ak, .slice na an' nc, .bool bo, .bool nan, .int .i64 v, .string (bs t)].toArray 30 (0, 0)) := by
    rw [← hwz]; exact blk_ext (blk_new w _) ((((Ext.refl _).alloc _).alloc _).alloc _)
  have hB : wz.heap[w.heap.size + 1]? = some (.cells [.int .i64 bk, .slice ba bn bc, .bool bbo, .bool bnan, .int .i64 bv, .string (bs bt)].toArray 30 (0, 0)) := by
    have h := blk_ext (blk_new (w.alloc (.cells #[.int .i64 ak, .slice na an' nc, .bool bo, .bool nan, .int .i64 v, .string (bs t)] 30)) (.cells #[.int .i64 bk, .slice ba bn bc, .bool bbo, .bool bnan, .int .i64 bv, .string (bs bt)] 30)) (((Ext.refl _).alloc (.cells #[.bool false] 4)).alloc (.cells #[.int .i64 0] 37))
    rw [World.size_alloc, hwz] at h; exact h
  obtain ⟨wy, hwy⟩ : ∃ W', wz.alloc (.cells #[.string ⟨#[61]⟩, .string ⟨#[33, 61]⟩, .string ⟨#[60]⟩, .string ⟨#[60, 61]⟩, .string ⟨#[62]⟩, .string ⟨#[62, 61]⟩] 9) = W' := ⟨_, rfl⟩
  have hE2 : Ext wz wy := by rw [← hwy]; exact (Ext.refl wz).alloc _
  have hCT := Tryz.slices_Contains_string wz.heap.size 0 6 6 OPB (bs o) wy (by decide) (by decide) (opb_cells wy wz.heap.size (by rw [← hwy]; exact blk_new wz _))
  rw [HIN.out] at hCT
  have HCT := Lib.hid hCT
  have a0 := blk_cells (blk_ext hA hE2) 0 rfl; have a1 := blk_cells (blk_ext hA hE2) 1 rfl; have a2 := blk_cells (blk_ext hA hE2) 2 rfl; have a3 := blk_cells (blk_ext hA hE2) 3 rfl; have a4 := blk_cells (blk_ext hA hE2) 4 rfl; have a5 := blk_cells (blk_ext hA hE2) 5 rfl
  have HAB2 : Hid (wz.heap[w.heap.size + 1 + 1]? = some (.cells [.bool false].toArray 4 (0, 0)) ∧ wz.heap[w.heap.size + 1 + 1 + 1]? = some (.cells [.int .i64 0].toArray 37 (0, 0))) := Lib.hid ⟨by
    have h := blk_ext (blk_new ((w.alloc (.cells #[.int .i64 ak, .slice na an' nc, .bool bo, .bool nan, .int .i64 v, .string (bs t)] 30)).alloc (.cells #[.int .i64 bk, .slice ba bn bc, .bool bbo, .bool bnan, .int .i64 bv, .string (bs bt)] 30)) (.cells #[.bool false] 4)) ((Ext.refl _).alloc (.cells #[.int .i64 0] 37))
    rw [World.size_alloc, World.size_alloc, hwz] at h; exact h, by
    have h := blk_new (((w.alloc (.cells #[.int .i64 ak, .slice na an' nc, .bool bo, .bool nan, .int .i64 v, .string (bs t)] 30)).alloc (.cells #[.int .i64 bk, .slice ba bn bc, .bool bbo, .bool bnan, .int .i64 bv, .string (bs bt)] 30)).alloc (.cells #[.bool false] 4)) (.cells #[.int .i64 0] 37)
    rw [World.size_alloc, World.size_alloc, World.size_alloc, hwz] at h; exact h⟩
  have HAB := Lib.hid (And.intro hA (And.intro hB (And.intro hE (And.intro hE2 hzs))))
  clear hA hB hE hE2 hzs hCT
  refine (callsIn_wide (n := 4)).1 ?_
  refine callsIn_of_wp_marks Tryz.func7 rfl trivial ?_ rfl
  simp only [Tryz.ntmps7, List.size_toArray, List.length_cons, List.length_nil, Nat.reduceAdd, Nat.reduceSub, Array.replicate_succ, Array.replicate_zero, List.push_toArray, List.append_toArray, List.nil_append, List.cons_append]
  gi_wp2_with fail
  refine ⟨trivial, (callsIn_wide.2 HCT.out).mono ?_⟩
  rintro e wy ⟨rfl, rfl⟩
  gi_wp2_with fail
  refine ⟨trivial, (callsIn_wide.2 (HM1.out _)).mono ?_⟩
  rintro e w6 ⟨rfl, hX6⟩
  have hXz6 := HAB.out.2.2.2.1.trans hX6
  have b0 := blk_cells (blk_ext HAB.out.2.1 hXz6) 0 rfl; have b1 := blk_cells (blk_ext HAB.out.2.1 hXz6) 1 rfl; have b2 := blk_cells (blk_ext HAB.out.2.1 hXz6) 2 rfl; have b3 := blk_cells (blk_ext HAB.out.2.1 hXz6) 3 rfl; have b4 := blk_cells (blk_ext HAB.out.2.1 hXz6) 4 rfl; have b5 := blk_cells (blk_ext HAB.out.2.1 hXz6) 5 rfl
  have HX6 := Lib.hid hXz6
  clear a0 a1 a2 a3 a4 a5 HCT HM1 hX6 hXz6
  gi_wp2_with fail
  refine ⟨trivial, (callsIn_wide.2 (HM2.out _)).mono ?_⟩
  rintro e w7 ⟨rfl, hX7⟩
  obtain ⟨w8, hw8⟩ : ∃ W', w7.alloc (.cells #[.slice ta tn tc, .string (bs o)] 53) = W' := ⟨_, rfl⟩
  have hX8 : Ext w7 w8 := by rw [← hw8]; exact (Ext.refl w7).alloc _
  have hXz8 := (HX6.out.trans hX7).trans hX8
  have hC8 : w8.heap[w7.heap.size]? = some (.cells [.slice ta tn tc, .string (bs o)].toArray 53 (0, 0)) := by rw [← hw8]; exact blk_new w7 _
  have c0 := blk_cells hC8 0 rfl; have c1 := blk_cells hC8 1 rfl
  have a0 := blk_cells (blk_ext HAB.out.1 hXz8) 0 rfl; have a1 := blk_cells (blk_ext HAB.out.1 hXz8) 1 rfl; have a2 := blk_cells (blk_ext HAB.out.1 hXz8) 2 rfl; have a3 := blk_cells (blk_ext HAB.out.1 hXz8) 3 rfl; have a4 := blk_cells (blk_ext HAB.out.1 hXz8) 4 rfl; have a5 := blk_cells (blk_ext HAB.out.1 hXz8) 5 rfl
  have d0 := blk_cells (blk_ext HAB.out.2.1 hXz8) 0 rfl; have d1 := blk_cells (blk_ext HAB.out.2.1 hXz8) 1 rfl; have d2 := blk_cells (blk_ext HAB.out.2.1 hXz8) 2 rfl; have d3 := blk_cells (blk_ext HAB.out.2.1 hXz8) 3 rfl; have d4 := blk_cells (blk_ext HAB.out.2.1 hXz8) 4 rfl; have d5 := blk_cells (blk_ext HAB.out.2.1 hXz8) 5 rfl
  have HX8 := Lib.hid (And.intro hXz8 hC8)
  have HP8 := Lib.hid (HP.out w8)
  unfold vvL at HP8
  dsimp only at HP8
  clear b0 b1 b2 b3 b4 b5 HM2 HX6 hX7 hX8 hXz8 hC8 HP
  gi_wp2_with fail
  refine ⟨trivial, (callsIn_wide.2 HP8.out).mono ?_⟩
  rintro e w9 ⟨rfl, hP1, hP2, hP3, hX9⟩
  clear HP8 a0 a1 a2 a3 a4 a5 d0 d1 d2 d3 d4 d5 c0 c1
  gi_wp2_with fail
  obtain ⟨b', hb'⟩ : ∃ y : VV, y = ⟨bk, .slice ba bn bc, bbo, bnan, bv, bt⟩ := ⟨_, rfl⟩
  have hX9w := HAB.out.2.2.1.trans (HX8.out.1.trans hX9)
  have hzs := HAB.out.2.2.2.2
  have hsz : wz.heap.size ≤ w9.heap.size := (HX8.out.1.trans hX9).size
  have hlen : w.heap.size ≤ w9.heap.size := by omega
  have h8 : w9.heap[w.heap.size + 1 + 1]? = some (.cells [.bool false].toArray 4 (0, 0)) := blk_ext HAB2.out.1 (HX8.out.1.trans hX9)
  have h9 : w9.heap[w.heap.size + 1 + 1 + 1]? = some (.cells [.int .i64 0].toArray 37 (0, 0)) := blk_ext HAB2.out.2 (HX8.out.1.trans hX9)
  have hC9 := blk_ext HX8.out.2 hX9
  refine act_name fun A hA => ?_
  refine wpIn_rangeFunc_ownH rfl (by decide) (gf := 30) (lb := #[.pointer (some ⟨w8.heap.size, 0, none⟩), .pointer (some ⟨w8.heap.size + 2, 0, none⟩), .pointer (some ⟨w8.heap.size + 1, 0, none⟩)]) (by rw [hA]; rfl) trivial (enters_of Tryz.func30 (by kernel_rfl) rfl)
    (HST.out 3 (by omega) w9 hX9w _ _ _ hP1 hP2 hP3) KpC.trans (fun W l o o' _ h hc _ => kpc_put W l o o' h hc) (Below.refl _ _) (fun _ => rfl)
    (InvC o b' w (w.heap.size + 1 + 1) (w.heap.size + 1 + 1 + 1) w7.heap.size (.slice ta tn tc)) (OutC o b' w (w.heap.size + 1 + 1) (w.heap.size + 1 + 1 + 1)) (invC_own hlen) (outC_own hlen)
    ⟨by simp, h8, h9, hC9, hX9w⟩
    (fun x a' W => ∃ Bx By, W.heap[Bx]? = some (.cells (vvL x.1).toArray 30 (0, 0)) ∧ W.heap[By]? = some (.cells (vvL b').toArray 30 (0, 0)) ∧ a' = { tmps := (((A.setIfInBounds 68 (.agg (vvL x.1).toArray)).setIfInBounds 69 (.agg (vvL b').toArray)).setIfInBounds 13 (.pointer (some ⟨Bx, 0, none⟩))).setIfInBounds 14 (.pointer (some ⟨By, 0, none⟩)), defers := [] })
    (fun x a' _ W W' row ⟨Bx, By, h1, h2, h3⟩ hg hr => ⟨Bx, By, blk_own h1 hg hr, blk_own h2 hg hr, h3⟩) ?assign ?body ?done ?stop
  case assign =>
    intro l pre x W K hI hK
    have HK := Lib.hid hK
    have HI := Lib.hid hI
    obtain ⟨⟨xk, xd, xb, xn, xv, xt⟩, hxok⟩ := x
    obtain ⟨xa, xl, xc, hxd⟩ := hxok.2.1
    dsimp only at hxd
    subst hxd
    clear hK hI HST HPL HR HIN hzs hsz hlen
    subst hA hb'
    unfold encP vvL
    dsimp only
    gi_wp2_with fail
    have hXX : Ext W ((W.alloc (.cells #[.int .i64 xk, .slice xa xl xc, .bool xb, .bool xn, .int .i64 xv, .string (bs xt)] 30)).alloc (.cells #[.int .i64 bk, .slice ba bn bc, .bool bbo, .bool bnan, .int .i64 bv, .string (bs bt)] 30)) := ((Ext.refl W).alloc _).alloc _
    refine HK.out _ _ (((KeepsOthers.alloc _ _).trans (KeepsOthers.alloc _ _)).from _) (KpC.ext hXX) (invC_ext HI.out hXX) ⟨W.heap.size, W.heap.size + 1, ?_, ?_, rfl⟩
    · exact blk_ext (blk_new W _) ((Ext.refl _).alloc _)
    · have h := blk_new (W.alloc (.cells #[.int .i64 xk, .slice xa xl xc, .bool xb, .bool xn, .int .i64 xv, .string (bs xt)] 30)) (.cells #[.int .i64 bk, .slice ba bn bc, .bool bbo, .bool bnan, .int .i64 bv, .string (bs bt)] 30)
      rw [World.size_alloc] at h
      exact h
  case body =>
    rintro l pre x a' W hl hr hI ⟨Bx, By, h1, h2, rfl⟩ hlp
    obtain ⟨hI1, hI8, hI9, hIc, hIE⟩ := hI
    have c0 := blk_cells hIc 0 rfl; have c1 := blk_cells hIc 1 rfl
    have HPX := Lib.hid (HPL.out W hIE x.1 x.2)
    have HI := Lib.hid (And.intro hI1 (And.intro hI8 (And.intro hI9 (And.intro hIc hIE))))
    obtain ⟨⟨xk, xd, xb, xn, xv, xt⟩, hxok⟩ := x
    obtain ⟨xa, xl, xc, hxd⟩ := hxok.2.1
    dsimp only at hxd
    subst hxd
    clear hI1 hI8 hI9 hIc hIE HST HPL HR HIN
    subst hA hb'
    unfold vvL at h1 h2 ⊢
    dsimp only at h1 h2 ⊢
    unfold PlainP vvL at HPX
    dsimp only at HPX
    clear hzs hsz hlen
    have x0 := blk_cells h1 0 rfl; have x1 := blk_cells h1 1 rfl; have x2 := blk_cells h1 2 rfl; have x3 := blk_cells h1 3 rfl; have x4 := blk_cells h1 4 rfl; have x5 := blk_cells h1 5 rfl
    have y0 := blk_cells h2 0 rfl; have y1 := blk_cells h2 1 rfl; have y2 := blk_cells h2 2 rfl; have y3 := blk_cells h2 3 rfl; have y4 := blk_cells h2 4 rfl; have y5 := blk_cells h2 5 rfl
    clear h1 h2
    simp only [List.setIfInBounds_toArray, List.set_cons_zero, List.set_cons_succ]
    obtain ⟨pl, hpl⟩ : ∃ y, plainS o ⟨xk, .slice xa xl xc, xb, xn, xv, xt⟩ ⟨bk, .slice ba bn bc, bbo, bnan, bv, bt⟩ = y := ⟨_, rfl⟩
    rw [hpl] at HPX
    have HPL2 := Lib.hid hpl
    obtain ⟨hh, cc⟩ := pl
    clear hpl
    dsimp only at HPX
    gi_wp2_with fail
    refine ⟨trivial, (CallsIn.inRound l (callsIn_wide.2 HPX.out)).mono ?_⟩
    rintro e W1 ⟨rfl, hX1⟩
    have h8 := blk_ext HI.out.2.1 hX1
    have h9 := blk_ext HI.out.2.2.1 hX1
    have e8 := blk_cells h8 0 rfl
    have e9 := blk_cells h9 0 rfl
    have f8 : W1.frozen? ⟨w.heap.size + 1 + 1, 0, none⟩ = false := blk_free h8
    have f9 : W1.frozen? ⟨w.heap.size + 1 + 1 + 1, 0, none⟩ = false := blk_free h9
    have HKO := Lib.hid (KeepsOthers.of_grownBy (ext_none hX1) (fun j o e => by cases e))
    have HH := Lib.hid (And.intro h8 (And.intro h9 hX1))
    clear h8 h9 hX1 HPX x0 x1 x2 x3 x4 x5 y0 y1 y2 y3 y4 y5 c0 c1
    have OUT : ∀ (hit : hh = true ∨ cc ≠ 0), KeepsFrom w9.heap.size W ((W1.setCell ⟨w.heap.size + 1 + 1, 0, none⟩ (.bool hh)).setCell ⟨w.heap.size + 1 + 1 + 1, 0, none⟩ (.int .i64 cc)) ∧ OutC o ⟨bk, .slice ba bn bc, bbo, bnan, bv, bt⟩ w (w.heap.size + 1 + 1) (w.heap.size + 1 + 1 + 1) .ret (pre ++ [⟨⟨xk, .slice xa xl xc, xb, xn, xv, xt⟩, hxok⟩]) ((W1.setCell ⟨w.heap.size + 1 + 1, 0, none⟩ (.bool hh)).setCell ⟨w.heap.size + 1 + 1 + 1, 0, none⟩ (.int .i64 cc)) := fun hit =>
      ⟨((HKO.out.trans (KeepsOthers.setCell _ _ _)).trans (KeepsOthers.setCell _ _ _)).from _, rfl, ⟨pre, _, rfl, HI.out.1, by rw [HPL2.out]; exact hit, by rw [HPL2.out]; exact blk_oth (blk_put HH.out.1) (by omega), by rw [HPL2.out]; exact blk_put (blk_oth HH.out.2.1 (by omega))⟩, ((HI.out.2.2.2.2.trans HH.out.2.2).set (p := ⟨w.heap.size + 1 + 1, 0, none⟩) (by simp only []; omega) _).set (p := ⟨w.heap.size + 1 + 1 + 1, 0, none⟩) (by simp only []; omega) _⟩
    have OUT := Lib.hid OUT
    cases hh with
    | true =>
      have OUT2 := Lib.hid (OUT.out (.inl rfl))
      clear OUT
      gi_wp2_with fail
      exact OUT2.out
    | false =>
      by_cases hcc : cc = 0
      · subst hcc
        gi_wp2_with fail
        exact ⟨HKO.out.from _, KpC.ext HH.out.2.2, fun y hy => by
          rcases List.mem_append.1 hy with h | h
          · exact HI.out.1 y h
          · rw [List.mem_singleton.1 h]; exact HPL2.out, HH.out.1, HH.out.2.1, blk_ext HI.out.2.2.2.1 HH.out.2.2, HI.out.2.2.2.2.trans HH.out.2.2⟩
      · have hcn : (cc != 0) = true := by rw [bne_iff_ne]; exact hcc
        have OUT2 := Lib.hid (OUT.out (.inr hcc))
        clear hcc OUT
        gi_wp2_with fail
        exact OUT2.out
  case done =>
    rintro D ys W hD rfl hI hDK
    obtain ⟨hI1, hI8, hI9, hIc, hIE⟩ := hI
    have hRR : cmpL o b' (ys.map (·.1)) = (false, 0) := by
      exact cmpL_none _ _ _ fun y hy => by obtain ⟨x, hx, rfl⟩ := List.mem_map.1 hy; exact hI1 x hx
    have e8 := blk_cells hI8 0 rfl
    have e9 := blk_cells hI9 0 rfl
    have f8 : W.frozen? ⟨w.heap.size + 1 + 1, 0, none⟩ = false := blk_free hI8
    have f9 : W.frozen? ⟨w.heap.size + 1 + 1 + 1, 0, none⟩ = false := blk_free hI9
    have HI := Lib.hid (And.intro hI8 (And.intro hI9 hIE))
    have HRR := Lib.hid hRR
    have HD := Lib.hid (And.intro hDK (And.intro hD hlen))
    clear hI1 hI8 hI9 hIc hIE hRR HST HPL HIN hzs hsz hlen hD hDK
    subst hA hb'
    gi_wp2_with fail
    have hK1 := (KeepsOthers.setCell W ⟨w.heap.size + 1 + 1, 0, none⟩ (.bool false)).same D _ HD.out.1 rfl
    have hK' := (KeepsOthers.setCell (W.setCell ⟨w.heap.size + 1 + 1, 0, none⟩ (.bool false)) ⟨w.heap.size + 1 + 1 + 1, 0, none⟩ (.int .i64 0)).same D _ hK1 rfl
    refine ⟨by simp, .inl ⟨_, _, rfl, run_takeDeferred hK', ?_⟩⟩
    have g8 := cell_kept (blk_cells (blk_oth (u := .int .i64 0) (g := w.heap.size + 1 + 1 + 1) (blk_put (u := .bool false) HI.out.1) (by omega)) 0 rfl) (grownBy_putObj' _ D (.deferred none)) (fun r e => by cases e; exact ⟨_, hK', rfl⟩)
    have g9 := cell_kept (blk_cells (blk_put (u := .int .i64 0) (blk_oth (u := .bool false) (g := w.heap.size + 1 + 1) HI.out.2.1 (by omega))) 0 rfl) (grownBy_putObj' _ D (.deferred none)) (fun r e => by cases e; exact ⟨_, hK', rfl⟩)
    have hR2 : R = (false, 0) := HR.out.symm.trans HRR.out
    have hEE : Ext w ((W.setCell ⟨w.heap.size + 1 + 1, 0, none⟩ (.bool false)).setCell ⟨w.heap.size + 1 + 1 + 1, 0, none⟩ (.int .i64 0)) := (HI.out.2.2.set (p := ⟨w.heap.size + 1 + 1, 0, none⟩) (by simp only []; omega) _).set (p := ⟨w.heap.size + 1 + 1 + 1, 0, none⟩) (by simp only []; omega) _
    refine ⟨.tuple #[.bool false, .int .i64 0], ?_, by rw [hR2], Below.trans hEE (belowK_b (w := w) (Nat.le_refl _) _ D _ _ (Nat.le_trans HD.out.2.2 HD.out.2.1) hK' rfl rfl)⟩
    simp [results, Tryz.f7, go_sem, g8, g9]
  case stop =>
    rintro D c pre W hD hpre hI hDK
    obtain ⟨rfl, ⟨pre', x, rfl, hp', hit, h8', h9'⟩, hIE⟩ := hI
    have hRR : cmpL o b' (xs.map (·.1)) = plainS o x.1 b' := by
      obtain ⟨post, hpost⟩ := hpre
      rw [← hpost, List.append_assoc, List.map_append, List.singleton_append, List.map_cons]
      exact cmpL_hit _ _ _ _ _ (fun y hy => by obtain ⟨z, hz, rfl⟩ := List.mem_map.1 hy; exact hp' z hz) hit
    obtain ⟨pl, hpl⟩ : ∃ y, plainS o x.1 b' = y := ⟨_, rfl⟩
    rw [hpl] at hRR h8' h9'
    obtain ⟨hh, cc⟩ := pl
    dsimp only at h8' h9'
    have e8 := blk_cells h8' 0 rfl
    have e9 := blk_cells h9' 0 rfl
    have HI := Lib.hid (And.intro h8' (And.intro h9' hIE))
    have HRR := Lib.hid hRR
    have HD := Lib.hid (And.intro hDK (And.intro hD hlen))
    clear hp' hit h8' h9' hIE hRR hpl hpre HST HPL HIN hzs hsz hlen hD hDK
    subst hA hb'
    gi_wp2_with fail
    refine ⟨by simp, .inl ⟨_, _, rfl, run_takeDeferred HD.out.1, ?_⟩⟩
    have g8 := cell_kept e8 (grownBy_putObj' W D (.deferred none)) (fun r e => by cases e; exact ⟨_, HD.out.1, rfl⟩)
    have g9 := cell_kept e9 (grownBy_putObj' W D (.deferred none)) (fun r e => by cases e; exact ⟨_, HD.out.1, rfl⟩)
    have hR2 : R = (hh, cc) := HR.out.symm.trans HRR.out
    refine ⟨.tuple #[.bool hh, .int .i64 cc], ?_, by rw [hR2], Below.trans HI.out.2.2 (belowK_b (w := w) (Nat.le_refl _) _ D _ _ (Nat.le_trans HD.out.2.2 HD.out.2.1) HD.out.1 rfl rfl)⟩
    simp [results, Tryz.f7, go_sem, g8, g9]
theorem compare_nodes (L : List QN) (hT : TOk 0 L.length L) (hL : L.length ≤ 1048577) (hS : totT L ≤ 1048576) (ns : List Int) (hns : ns.length ≤ 1000) (o : Bytes) (ho : o ∈ OPS) (bo nan : Bool) (v : Int) (t : Bytes) (b : VV) (hk : b.kind = 3 ∨ b.kind = 4) (hs : ∃ o n c, b.nd = .slice o n c) (hbt : b.text.length ≤ 4294967280) (p q : Nat → Prop) (tv nv : Value) (w : World) (G : Glob w) (hv : Rep w p tv (qnsD L)) (hnv : Rep w q nv (numsD .i64 ns)) :
    Calls Tryz.prog 7 #[tv, .string (bs o), .agg #[.int .i64 1, nv, .bool bo, .bool nan, .int .i64 v, .string (bs t)], .agg (vvL b).toArray] w fun e w' => e = .returned (.tuple #[.bool (cmpL o b (ns.map fun i => txtV (valV L i))).1, .int .i64 (cmpL o b (ns.map fun i => txtV (valV L i))).2]) ∧ Ext w w' := by
  have hvl := fun i => Nat.le_trans (valV_len L i) hS
  have h := compare_core o ho ⟨1, nv, bo, nan, v, t⟩ b (.inl rfl) (by obtain ⟨na, nc, rfl, _, _⟩ := hnv.count (z_num .i64) (by omega); exact ⟨_, _, _, rfl⟩) hk hs hbt tv (by obtain ⟨ta, tc, rfl, _, _⟩ := hv.count z_qn (by omega); exact ⟨_, _, _, rfl⟩) w G (ns.map fun i => ⟨txtV (valV L i), okV_txt (hvl i)⟩) (by rw [List.length_map]; exact hns) fun A hA => by
    have h1 := singles_nodes L hT hL hS ns hns (bs o) bo nan v t p q tv nv A (hv.ext hA) (hnv.ext hA)
    rw [List.length_map, List.map_map]
    exact h1
  rw [List.map_map] at h
  exact h
theorem compare_one (o : Bytes) (ho : o ∈ OPS) (a b : VV) (ha : okV a) (hk : b.kind = 3 ∨ b.kind = 4) (hs : ∃ o n c, b.nd = .slice o n c) (hbt : b.text.length ≤ 4294967280) (tv : Value) (htv : ∃ o n c, tv = .slice o n c) (w : World) (G : Glob w) :
    Calls Tryz.prog 7 #[tv, .string (bs o), .agg (vvL a).toArray, .agg (vvL b).toArray] w fun e w' => e = .returned (.tuple #[.bool (cmpL o b [a]).1, .int .i64 (cmpL o b [a]).2]) ∧ Ext w w' :=
  compare_core o ho a b (.inr ha.1) ha.2.1 hk hs hbt tv htv w G [⟨a, ha⟩] (show 1 ≤ 1000 by decide) fun A hA => by
    have h1 := singles_one #[tv, .string (bs o)] (by obtain ⟨ta, tn, tc, rfl⟩ := htv; exact ⟨_, _, _, _, rfl⟩) a ha.1 ha.2.1 A
    rw [show rowX ([(⟨a, ha⟩ : TX)].map (·.1)) = vvL a by show vvL a ++ [] = _; rw [List.append_nil]]
    exact h1
end Go.Proofs.YtmmopcceabdecaaGreatDoor
