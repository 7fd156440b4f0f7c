/-
  The writer's state; its numbers. Helper lemmas; no statement of the seat is proved here.
-/
import Derived.Test.YtghhachbnhldoaaDoorC0
import Derived.Lib.AppendStr
namespace Go.Proofs.YtghhachbnhldoaaDoor
open Go.RowKit
set_option maxRecDepth 100000
set_option linter.unusedVariables false
set_option linter.unusedSimpArgs false

theorem infoU8 : (Tryd.prog.info? 5).map (fun i => (i.zero, i.size, i.bytes)) = some (some (.int .u8 0), 1, 1) := by kernel_rfl
/-- A number's bytes: k more than one at most. -/
def numF : Nat → Nat → Bytes
  | 0, n => [UInt8.ofNat n]
  | k + 1, n => if n < 128 then [UInt8.ofNat n] else UInt8.ofNat (n % 128 + 128) :: numF k (n / 128)
def numB (n : Nat) : Bytes := numF 9 n
/-- A row of bytes, as cells. -/
def rowB (L : Bytes) : List Value := (byI L).map fun y => Value.int .u8 y
theorem rowB_len (L : Bytes) : (rowB L).length = L.length := by simp [rowB, byI]
theorem rowB_app (a b : Bytes) : rowB (a ++ b) = rowB a ++ rowB b := by simp [rowB, byI]
/-- The writer: its block, the first behind w0's, and its bytes as yet. -/
structure WS (w0 W : World) (L : Bytes) (bad : Bool) : Prop where
  ext : Ext w0 W
  row : ∃ dv, W.cell? ⟨w0.heap.size, 0, none⟩ = some dv ∧ W.ownsRow (w0.heap.size + 1) 5 1 dv L.length (rowB L)
  c1 : W.cell? ⟨w0.heap.size, 1, none⟩ = some (.bool bad)
  f0 : W.frozen? ⟨w0.heap.size, 0, none⟩ = false
  f1 : W.frozen? ⟨w0.heap.size, 1, none⟩ = false
theorem WS.lt {w0 W : World} {L : Bytes} {bad : Bool} (h : WS w0 W L bad) : w0.heap.size < W.heap.size := World.block_lt_of_cell? W _ h.c1
theorem WS.step {w0 W W' : World} {L : Bytes} {bad : Bool} (h : WS w0 W L bad) (hE : Ext W W') : WS w0 W' L bad := by
  have hl := h.lt
  obtain ⟨dv, h1, h2⟩ := h.row
  exact ⟨h.ext.trans hE, ⟨dv, hE.keep hl h1, rows_ext h2 hE⟩, hE.keep hl h.c1, hE.free hl h.f0, hE.free hl h.f1⟩
theorem WS.setBad {w0 W : World} {L : Bytes} {bad : Bool} (h : WS w0 W L bad) (b : Bool) : WS w0 (W.setCell ⟨w0.heap.size, 1, none⟩ (.bool b)) L b := by
  obtain ⟨dv, h1, h2⟩ := h.row
  have c1 := h.c1; have f0 := h.f0; have f1 := h.f1
  exact ⟨h.ext.set (p := ⟨w0.heap.size, 1, none⟩) (Nat.le_refl _) _, ⟨dv, by simp [go_sem, h1], ownsRow_setCell_below h2 (by simp) _⟩, by simp [go_sem, c1], by simp [go_sem, f0], by simp [go_sem, f1]⟩
/-- More bytes, in place or moved. -/
theorem WS.put {w0 W W1 W2 : World} {L L' : Bytes} {bad : Bool} (h : WS w0 W L bad) (hE : Ext W W1) {dv dv2 : Value} (hd : W.cell? ⟨w0.heap.size, 0, none⟩ = some dv) {n : Nat} {us : List Value} (hown : W2.ownsRow (w0.heap.size + 1) 5 1 dv2 n us) (hn : n = L'.length) (hu : us = rowB L') (hg : W1.grownBy W2 dv.ownBlock) :
    WS w0 (W2.setCell ⟨w0.heap.size, 0, none⟩ dv2) L' bad := by
  subst hn hu
  have h1 := h.step hE
  obtain ⟨dv', e1, e2⟩ := h.row
  rw [hd] at e1
  obtain rfl := Option.some.inj e1
  have h3 : W1.ownsRow (w0.heap.size + 1) 5 1 dv L.length (rowB L) := rows_ext e2 hE
  have hb : W2.heap[w0.heap.size]? = W1.heap[w0.heap.size]? := hg.block _ h1.lt fun e => by have := (h3.lt _ e.symm).1; omega
  have hX : Ext w0 W2 := Below.grown h1.ext hg (Below.size h1.ext) fun k hk => by have := (h3.lt k hk).1; omega
  have c0 : W2.cell? ⟨w0.heap.size, 0, none⟩ = some dv := (World.cell?_of_block hb).trans (hE.keep h.lt hd)
  have c1 : W2.cell? ⟨w0.heap.size, 1, none⟩ = some (.bool bad) := (World.cell?_of_block hb).trans h1.c1
  have f0 : W2.frozen? ⟨w0.heap.size, 0, none⟩ = false := (World.frozen?_of_block hb).trans h1.f0
  have f1 : W2.frozen? ⟨w0.heap.size, 1, none⟩ = false := (World.frozen?_of_block hb).trans h1.f1
  exact ⟨hX.set (p := ⟨w0.heap.size, 0, none⟩) (Nat.le_refl _) _, ⟨dv2, by simp [go_sem, c0], ownsRow_setCell_below hown (by simp) _⟩, by simp [go_sem, c1], by simp [go_sem, f0], by simp [go_sem, f1]⟩
/-- A loop's measure: the number itself. -/
def upV : Value → Nat
  | .int _ v => v.toNat
  | _ => 0
theorem numF_lt (k n : Nat) (h : n < 128) : numF k n = [UInt8.ofNat n] := by cases k with | zero => rfl | succ k => rw [numF, if_pos h]
theorem u64_wrap (n : Int) : IntKind.u64.wrap n = n % 18446744073709551616 := by first | rfl | simp [IntKind.wrap]
theorem WS.mid {w0 W W1 W2 : World} {L : Bytes} {bad : Bool} (h : WS w0 W L bad) (hE : Ext W W1) {dv : Value} (hd : W.cell? ⟨w0.heap.size, 0, none⟩ = some dv) (hown : W.ownsRow (w0.heap.size + 1) 5 1 dv L.length (rowB L)) (hg : W1.grownBy W2 dv.ownBlock) :
    W2.cell? ⟨w0.heap.size, 0, none⟩ = some dv ∧ W2.frozen? ⟨w0.heap.size, 0, none⟩ = false := by
  have h1 := h.step hE
  have h3 : W1.ownsRow (w0.heap.size + 1) 5 1 dv L.length (rowB L) := rows_ext hown hE
  have hb : W2.heap[w0.heap.size]? = W1.heap[w0.heap.size]? := hg.block _ h1.lt fun e => by have := (h3.lt _ e.symm).1; omega
  exact ⟨(World.cell?_of_block hb).trans (hE.keep h.lt hd), (World.frozen?_of_block hb).trans h1.f0⟩
/-- A block that the writer doesn't write to. -/
def Fz (w0 W : World) (b : Nat) : Prop := b ≠ w0.heap.size ∧ ∀ dv, W.cell? ⟨w0.heap.size, 0, none⟩ = some dv → some b ≠ dv.ownBlock
/-- What the writer's functions keep. -/
structure WK (w0 W W' : World) : Prop where
  size : W.heap.size ≤ W'.heap.size
  keep : ∀ b, b < W.heap.size → Fz w0 W b → W'.heap[b]? = W.heap[b]? ∧ Fz w0 W' b
theorem WK.refl (w0 W : World) : WK w0 W W := ⟨Nat.le_refl _, fun _ _ h => ⟨rfl, h⟩⟩
theorem WK.trans {w0 a b c : World} (h : WK w0 a b) (k : WK w0 b c) : WK w0 a c :=
  ⟨Nat.le_trans h.size k.size, fun x hx hf => by
    obtain ⟨h1, h2⟩ := h.keep x hx hf
    obtain ⟨k1, k2⟩ := k.keep x (Nat.lt_of_lt_of_le hx h.size) h2
    exact ⟨k1.trans h1, k2⟩⟩
theorem WK.ext {w0 W W' : World} (hl : w0.heap.size < W.heap.size) (h : Ext W W') : WK w0 W W' :=
  ⟨h.size, fun b hb hf => ⟨h.block b hb, hf.1, fun dv hd => hf.2 dv (by rw [← hd]; exact (World.cell?_of_block (h.block _ hl)).symm)⟩⟩
theorem WK.setBad (w0 W : World) (b : Bool) : WK w0 W (W.setCell ⟨w0.heap.size, 1, none⟩ (.bool b)) := by
  refine ⟨by simp, fun x hx hf => ⟨?_, hf.1, fun dv hd => hf.2 dv ?_⟩⟩
  · by_cases hl : w0.heap.size < W.heap.size
    · exact Below.heap_setCell _ _ _ _ hf.1
    · exact Below.heap_setCell _ _ _ _ hf.1
  · rw [← hd]; simp [go_sem]
theorem WS.putK {w0 W W1 W2 : World} {L : Bytes} {bad : Bool} (h : WS w0 W L bad) (hE : Ext W W1) {dv dv2 : Value} (hd : W.cell? ⟨w0.heap.size, 0, none⟩ = some dv) (hown : W.ownsRow (w0.heap.size + 1) 5 1 dv L.length (rowB L)) (hg : W1.grownBy W2 dv.ownBlock)
    (hat : dv2.ownBlock = dv.ownBlock ∨ dv2.ownBlock = some W1.heap.size) : WK w0 W (W2.setCell ⟨w0.heap.size, 0, none⟩ dv2) := by
  have hc := (h.mid hE hd hown hg).1
  refine ⟨by simp; exact Nat.le_trans hE.size hg.size, fun x hx hf => ⟨?_, hf.1, fun d hd2 => ?_⟩⟩
  · rw [Below.heap_setCell _ _ _ _ hf.1, hg.block x (Nat.lt_of_lt_of_le hx hE.size) (hf.2 dv hd)]
    exact hE.block x hx
  · rw [World.cell?_setCell_same' _ _ _ (by rw [hc]; rfl)] at hd2
    obtain rfl := Option.some.inj hd2
    rcases hat with e | e
    · rw [e]; exact hf.2 dv hd
    · rw [e]; intro e2; have := Option.some.inj e2; have := hE.size; omega
theorem own_slice {w : World} {base z n : Nat} {e : TypeId} {v : Value} {us : List Value} (h : w.ownsRow base e z v n us) : ∃ a c, v = .slice a n c := by
  obtain ⟨_, h | ⟨g, cap, cs, h, _⟩⟩ := h
  · obtain ⟨rfl, rfl⟩ := h
    exact ⟨_, _, rfl⟩
  · exact ⟨_, _, h⟩
/-- 'append(b, s...)': where the row lies. -/
theorem run_app_str (w : World) (base : Nat) (ty : TypeId) (i : TypeInfo) (hi : Tryd.prog.info? 5 = some i) (hz : i.zero = some (.int .u8 0)) (hsize : i.size = 1) (hby : i.bytes = 1)
    (v : Value) (n : Nat) (xs : List Value) (hown : w.ownsRow base 5 1 v n xs) (s : ByteArray) (hs : n + s.size ≤ 140737488355328) (hbase : base ≤ w.heap.size) :
    ∃ v' w', (Builtin.append_ #[25, 9] ty #[v, .string s]).run Tryd.prog w = .ok v' w' ∧ w'.ownsRow base 5 1 v' (n + s.size) (xs ++ Lib.strCells s) ∧ w.grownBy w' v.ownBlock ∧ (v'.ownBlock = v.ownBlock ∨ v'.ownBlock = some w.heap.size) := by
  obtain ⟨v', w', hr, h2, h3, h4⟩ := Lib.run_append_own_string (P := Tryd.prog) w base 25 9 ty 5 i Tryd.underlying25 Tryd.underlying9 hi hz hsize hby v n xs hown s (by unfold maxLen; omega) hs hbase
  refine ⟨v', w', hr, h2, h3, ?_⟩
  rcases hown.2 with ⟨rfl, rfl⟩ | ⟨g, cap, cur, rfl, hbg, hg, hnc, hcm, hcs, htake⟩
  · by_cases hm : s.size = 0
    · left; rw [h4.2 ⟨rfl, hm⟩]
    · right
      have h5 := run_append_nil_string (P := Tryd.prog) w 25 9 ty 5 i (.int .u8 0) Tryd.underlying25 Tryd.underlying9 hi hz s (by omega) (by omega) (by rw [hby]; omega)
      rw [hr] at h5
      injection h5 with h5 _
      rw [h5]; rfl
  · have hxl : xs.length = n := by simpa using hown.1
    have hcs' : cur.size = cap := by simpa using hcs
    by_cases hroom : n + s.size ≤ cap
    · left
      have h5 := Lib.run_append_room_string (P := Tryd.prog) w 25 9 ty 5 i Tryd.underlying25 Tryd.underlying9 hi hsize g n cap cur hg s hroom (by omega)
      rw [hr] at h5
      injection h5 with h5 _
      rw [h5]; rfl
    · right
      have holds : ∀ j u, xs[j]? = some u → w.cell? ((⟨g, 0, none⟩ : Addr).add j) = some u := hown.cells (g := g) rfl
      have h5 := Lib.run_append_grow_string (P := Tryd.prog) w 25 9 ty 5 i (.int .u8 0) Tryd.underlying25 Tryd.underlying9 hi hz ⟨g, 0, none⟩ n cap xs (by rw [hsize]; simpa using hxl) holds s (by omega) (by omega) (by rw [hby]; exact growslice_fits (by omega) (by omega))
      rw [hr] at h5
      injection h5 with h5 _
      rw [h5]; rfl
theorem wpList_app_str {ops : Array Oper} {rest : List Oper} {o : Oper} {a : Act} {w : World} {Q : Exit → Act → World → Prop} (hgd : o.guard = none) (sl x : Operand)
    (ho : o.op = .call { callee := .builtin .append, args := #[sl, x], argTypes := #[25, 9] })
    (base : Nat) (v : Value) (n : Nat) (xs : List Value) (hs : a.eval sl = v) (hown : w.ownsRow base 5 1 v n xs) (s : ByteArray) (hx : a.eval x = .string s) (hl : n + s.size ≤ 140737488355328) (hbase : base ≤ w.heap.size)
    (h : ∀ v' w', w'.ownsRow base 5 1 v' (n + s.size) (xs ++ Lib.strCells s) → w.grownBy w' v.ownBlock → (v'.ownBlock = v.ownBlock ∨ v'.ownBlock = some w.heap.size) → wpList Tryd.prog ops Q rest (a.put o.dst v') w') : wpList Tryd.prog ops Q (o :: rest) a w := by
  obtain ⟨i0, hi0', hz0, hz1, hz2⟩ := info_parts infoU8
  refine wpList_plain hgd fun K hK => ?_
  obtain ⟨v', w', hr, h2, h3, h4⟩ := run_app_str w base o.type i0 hi0' hz0 hz1 hz2 v n xs hown s hl hbase
  unfold Oper.wp execOp
  simp only [ho, resolve, invoke, builtin, Sem.run_bind, Sem.run_pure, Result.andThen_ok, List.map_toArray, List.map_cons, List.map_nil, hs, hx, hr]
  exact hK _ _ (h v' w' h2 h3 h4)
theorem strCells_bs (s : Bytes) : Lib.strCells (bs s) = rowB s := by simp [Lib.strCells, bs, rowB, byI]
theorem or128 (m : Nat) (h : m < 256) : bits .or .u8 (m : Int) 128 = ((m % 128 + 128 : Nat) : Int) := by
  have : ∀ m : Fin 256, bits .or .u8 (m.val : Int) 128 = ((m.val % 128 + 128 : Nat) : Int) := by decide +kernel
  exact this ⟨m, h⟩
theorem byte_of (n : Nat) (h : n < 256) : ((UInt8.ofNat n).toNat : Int) = (n : Int) := by simp [Nat.mod_eq_of_lt h]
theorem rowB_snoc (L : Bytes) (n : Nat) (h : n < 256) : rowB L ++ [.int .u8 (n : Int)] = rowB (L ++ [UInt8.ofNat n]) := by
  rw [rowB_app]; congr 1
  simp only [rowB, byI, List.map_cons, List.map_nil, byte_of n h]
set_option maxHeartbeats 8000000 in
theorem wnum_any (w0 W : World) (L : Bytes) (bad : Bool) (n : Int) (hL : L.length ≤ 1000000000000) (h : WS w0 W L bad) :
    Calls Tryd.prog 41 #[.pointer (some ⟨w0.heap.size, 0, none⟩), .int .i64 n] W fun e w' => (∃ u, e = .returned u) ∧ WS w0 w' (L ++ numB (n % 18446744073709551616).toNat) (bad || decide (n < 0)) ∧ WK w0 W w' := by
  have c1 := h.c1; have f1 := h.f1
  obtain ⟨R, hR⟩ : ∃ R, L ++ numB (n % 18446744073709551616).toNat = R := ⟨_, rfl⟩
  rw [hR]
  have HR : Hid (L ++ numF 9 (n % 18446744073709551616).toNat = R) := Lib.hid hR
  clear hR
  obtain ⟨i0, hi0', hz0, hz1, hz2⟩ := info_parts infoU8
  by_cases hn : n < 0
  · rw [decide_eq_true hn]
    cases bad
    · go_enter Tryd.func41, Tryd.ntmps41
      have hS := h.setBad true
      obtain ⟨w1, hw1⟩ : ∃ w1, W.setCell ⟨w0.heap.size, 1, none⟩ (.bool true) = w1 := ⟨_, rfl⟩
      rw [hw1] at hS
      have HS := Lib.hid hS
      have HK := Lib.hid (show WK w0 W w1 by rw [← hw1]; exact WK.setBad w0 W _)
      clear hS
      go_wp2_with fail
      clear hw1 h c1 f1
      go_loopw [4] (fun t wr => ∃ (v k : Nat) (L' : Bytes), t = .int .u64 v ∧ v < 18446744073709551616 ∧ L'.length + k ≤ 1000000000010 ∧ Hid (v < 2 * 128 ^ k ∧ WS w0 wr L' true ∧ L' ++ numF k v = R ∧ WK w0 W wr)) (fun t _ => upV t)
      case atStart => exact ⟨(n % 18446744073709551616).toNat, 9, L, by first | rw [u64_wrap, Int.toNat_of_nonneg (by omega)] | (congr 1; omega), by omega, by omega, Lib.hid ⟨by omega, HS.out, HR.out, HK.out⟩⟩
      case round =>
        obtain ⟨v, k, L', rfl, hv, hl, HH⟩ := hrel
        have hv0 : (0 : Int) ≤ (v : Int) := by omega
        obtain ⟨dv, hd, hown⟩ := HH.out.2.1.row
        have f0 := HH.out.2.1.f0
        have hlt := HH.out.2.1.lt
        have HO := Lib.hid (And.intro hd hown)
        by_cases hge : 128 ≤ v
        · have hI : (128 : Int) ≤ (v : Int) := by omega
          have hE : Ext wr (wr.alloc (.cells #[.int .u8 (bits .or .u8 ((v : Int) % 256) 128)] 5)) := (Ext.refl _).alloc _
          clear hown
          go_wp2_with (at_builtin; refine wpList_append_own_at _ rfl (.tmp 24) (.tmp 28) _ rfl (w0.heap.size + 1) 5 i0 (.int .u8 0) 1 1 Tryd.underlying25 hi0' hz0 hz1 hz2 rfl (by decide) dv L'.length (rowB L') rfl (rows_ext HO.out.2 hE) ⟨wr.heap.size, 0, none⟩ 1 1 [.int .u8 (bits .or .u8 ((v : Int) % 256) 128)] rfl rfl (by intro j u hj; match j, hj with | 0, hj => simp at hj; subst hj; simp [go_sem]) (by intro u hu; simp at hu; rcases hu with rfl; rfl) (by unfold maxLen; omega) (by omega) (by simp; omega) ?_; intro v2 w5 hown5 hgrow5 _ hat5; obtain ⟨va, vc, rfl⟩ := own_slice hown5; have k0 := (HH.out.2.1.mid hE HO.out.1 HO.out.2 hgrow5).1; have k1 := (HH.out.2.1.mid hE HO.out.1 HO.out.2 hgrow5).2)
          have hk : k ≠ 0 := by rintro rfl; have := HH.out.1; omega
          obtain ⟨m, rfl⟩ : ∃ m, k = m + 1 := ⟨k - 1, by omega⟩
          have h1 := HH.out.1
          have h2 := HH.out.2.2.1
          have hK5 := HH.out.2.2.2.trans (HH.out.2.1.putK hE HO.out.1 HO.out.2 hgrow5 hat5)
          rw [numF, if_neg (by omega)] at h2
          rw [Nat.pow_succ] at h1
          have h3 := HH.out.2.1.put hE HO.out.1 (L' := L' ++ [UInt8.ofNat (v % 128 + 128)]) hown5 (by simp) (by
            have e := or128 (v % 256) (by omega)
            rw [show ((v % 256 : Nat) : Int) = (v : Int) % 256 from rfl] at e
            rw [e, show v % 256 % 128 = v % 128 by omega, rowB_snoc _ _ (by omega)]) hgrow5
          refine ⟨⟨v / 128, m, _, by go_num, by omega, ?_, Lib.hid ⟨by omega, h3, by rw [List.append_assoc]; exact h2, hK5⟩⟩, ?_⟩
          · rw [List.length_append, List.length_singleton]; omega
          · simp only [upV]; omega
        · have hI : ¬ (128 : Int) ≤ (v : Int) := by omega
          have hE : Ext wr (wr.alloc (.cells #[.int .u8 (v : Int)] 5)) := (Ext.refl _).alloc _
          clear hown
          go_wp2_with (at_builtin; refine wpList_append_own_at _ rfl (.tmp 38) (.tmp 41) _ rfl (w0.heap.size + 1) 5 i0 (.int .u8 0) 1 1 Tryd.underlying25 hi0' hz0 hz1 hz2 rfl (by decide) dv L'.length (rowB L') rfl (rows_ext HO.out.2 hE) ⟨wr.heap.size, 0, none⟩ 1 1 [.int .u8 ((v : Int))] rfl rfl (by intro j u hj; match j, hj with | 0, hj => simp at hj; subst hj; simp [go_sem]) (by intro u hu; simp at hu; rcases hu with rfl; rfl) (by unfold maxLen; omega) (by omega) (by simp; omega) ?_; intro v2 w5 hown5 hgrow5 _ hat5; obtain ⟨va, vc, rfl⟩ := own_slice hown5; have k0 := (HH.out.2.1.mid hE HO.out.1 HO.out.2 hgrow5).1; have k1 := (HH.out.2.1.mid hE HO.out.1 HO.out.2 hgrow5).2)
          have h2 := HH.out.2.2.1
          have hK5 := HH.out.2.2.2.trans (HH.out.2.1.putK hE HO.out.1 HO.out.2 hgrow5 hat5)
          rw [numF_lt _ _ (by omega)] at h2
          have h3 := HH.out.2.1.put hE HO.out.1 (L' := L' ++ [UInt8.ofNat v]) hown5 (by simp) (by
            rw [rowB_snoc _ _ (by omega)]) hgrow5
          rw [h2] at h3
          refine bodyPost_end (results_none rfl _ _ _) rfl ?_
          refine ⟨⟨_, rfl⟩, ?_, hK5⟩
          simpa using h3
    · go_enter Tryd.func41, Tryd.ntmps41
      have hS := h.setBad true
      obtain ⟨w1, hw1⟩ : ∃ w1, W.setCell ⟨w0.heap.size, 1, none⟩ (.bool true) = w1 := ⟨_, rfl⟩
      rw [hw1] at hS
      have HS := Lib.hid hS
      have HK := Lib.hid (show WK w0 W w1 by rw [← hw1]; exact WK.setBad w0 W _)
      clear hS
      go_wp2_with fail
      clear hw1 h c1 f1
      go_loopw [4] (fun t wr => ∃ (v k : Nat) (L' : Bytes), t = .int .u64 v ∧ v < 18446744073709551616 ∧ L'.length + k ≤ 1000000000010 ∧ Hid (v < 2 * 128 ^ k ∧ WS w0 wr L' true ∧ L' ++ numF k v = R ∧ WK w0 W wr)) (fun t _ => upV t)
      case atStart => exact ⟨(n % 18446744073709551616).toNat, 9, L, by first | rw [u64_wrap, Int.toNat_of_nonneg (by omega)] | (congr 1; omega), by omega, by omega, Lib.hid ⟨by omega, HS.out, HR.out, HK.out⟩⟩
      case round =>
        obtain ⟨v, k, L', rfl, hv, hl, HH⟩ := hrel
        have hv0 : (0 : Int) ≤ (v : Int) := by omega
        obtain ⟨dv, hd, hown⟩ := HH.out.2.1.row
        have f0 := HH.out.2.1.f0
        have hlt := HH.out.2.1.lt
        have HO := Lib.hid (And.intro hd hown)
        by_cases hge : 128 ≤ v
        · have hI : (128 : Int) ≤ (v : Int) := by omega
          have hE : Ext wr (wr.alloc (.cells #[.int .u8 (bits .or .u8 ((v : Int) % 256) 128)] 5)) := (Ext.refl _).alloc _
          clear hown
          go_wp2_with (at_builtin; refine wpList_append_own_at _ rfl (.tmp 24) (.tmp 28) _ rfl (w0.heap.size + 1) 5 i0 (.int .u8 0) 1 1 Tryd.underlying25 hi0' hz0 hz1 hz2 rfl (by decide) dv L'.length (rowB L') rfl (rows_ext HO.out.2 hE) ⟨wr.heap.size, 0, none⟩ 1 1 [.int .u8 (bits .or .u8 ((v : Int) % 256) 128)] rfl rfl (by intro j u hj; match j, hj with | 0, hj => simp at hj; subst hj; simp [go_sem]) (by intro u hu; simp at hu; rcases hu with rfl; rfl) (by unfold maxLen; omega) (by omega) (by simp; omega) ?_; intro v2 w5 hown5 hgrow5 _ hat5; obtain ⟨va, vc, rfl⟩ := own_slice hown5; have k0 := (HH.out.2.1.mid hE HO.out.1 HO.out.2 hgrow5).1; have k1 := (HH.out.2.1.mid hE HO.out.1 HO.out.2 hgrow5).2)
          have hk : k ≠ 0 := by rintro rfl; have := HH.out.1; omega
          obtain ⟨m, rfl⟩ : ∃ m, k = m + 1 := ⟨k - 1, by omega⟩
          have h1 := HH.out.1
          have h2 := HH.out.2.2.1
          have hK5 := HH.out.2.2.2.trans (HH.out.2.1.putK hE HO.out.1 HO.out.2 hgrow5 hat5)
          rw [numF, if_neg (by omega)] at h2
          rw [Nat.pow_succ] at h1
          have h3 := HH.out.2.1.put hE HO.out.1 (L' := L' ++ [UInt8.ofNat (v % 128 + 128)]) hown5 (by simp) (by
            have e := or128 (v % 256) (by omega)
            rw [show ((v % 256 : Nat) : Int) = (v : Int) % 256 from rfl] at e
            rw [e, show v % 256 % 128 = v % 128 by omega, rowB_snoc _ _ (by omega)]) hgrow5
          refine ⟨⟨v / 128, m, _, by go_num, by omega, ?_, Lib.hid ⟨by omega, h3, by rw [List.append_assoc]; exact h2, hK5⟩⟩, ?_⟩
          · rw [List.length_append, List.length_singleton]; omega
          · simp only [upV]; omega
        · have hI : ¬ (128 : Int) ≤ (v : Int) := by omega
          have hE : Ext wr (wr.alloc (.cells #[.int .u8 (v : Int)] 5)) := (Ext.refl _).alloc _
          clear hown
          go_wp2_with (at_builtin; refine wpList_append_own_at _ rfl (.tmp 38) (.tmp 41) _ rfl (w0.heap.size + 1) 5 i0 (.int .u8 0) 1 1 Tryd.underlying25 hi0' hz0 hz1 hz2 rfl (by decide) dv L'.length (rowB L') rfl (rows_ext HO.out.2 hE) ⟨wr.heap.size, 0, none⟩ 1 1 [.int .u8 ((v : Int))] rfl rfl (by intro j u hj; match j, hj with | 0, hj => simp at hj; subst hj; simp [go_sem]) (by intro u hu; simp at hu; rcases hu with rfl; rfl) (by unfold maxLen; omega) (by omega) (by simp; omega) ?_; intro v2 w5 hown5 hgrow5 _ hat5; obtain ⟨va, vc, rfl⟩ := own_slice hown5; have k0 := (HH.out.2.1.mid hE HO.out.1 HO.out.2 hgrow5).1; have k1 := (HH.out.2.1.mid hE HO.out.1 HO.out.2 hgrow5).2)
          have h2 := HH.out.2.2.1
          have hK5 := HH.out.2.2.2.trans (HH.out.2.1.putK hE HO.out.1 HO.out.2 hgrow5 hat5)
          rw [numF_lt _ _ (by omega)] at h2
          have h3 := HH.out.2.1.put hE HO.out.1 (L' := L' ++ [UInt8.ofNat v]) hown5 (by simp) (by
            rw [rowB_snoc _ _ (by omega)]) hgrow5
          rw [h2] at h3
          refine bodyPost_end (results_none rfl _ _ _) rfl ?_
          refine ⟨⟨_, rfl⟩, ?_, hK5⟩
          simpa using h3
  · rw [decide_eq_false hn]
    cases bad
    · go_enter Tryd.func41, Tryd.ntmps41
      have hS := h.setBad false
      obtain ⟨w1, hw1⟩ : ∃ w1, W.setCell ⟨w0.heap.size, 1, none⟩ (.bool false) = w1 := ⟨_, rfl⟩
      rw [hw1] at hS
      have HS := Lib.hid hS
      have HK := Lib.hid (show WK w0 W w1 by rw [← hw1]; exact WK.setBad w0 W _)
      clear hS
      go_wp2_with fail
      clear hw1 h c1 f1
      go_loopw [4] (fun t wr => ∃ (v k : Nat) (L' : Bytes), t = .int .u64 v ∧ v < 18446744073709551616 ∧ L'.length + k ≤ 1000000000010 ∧ Hid (v < 2 * 128 ^ k ∧ WS w0 wr L' false ∧ L' ++ numF k v = R ∧ WK w0 W wr)) (fun t _ => upV t)
      case atStart => exact ⟨(n % 18446744073709551616).toNat, 9, L, by first | rw [u64_wrap, Int.toNat_of_nonneg (by omega)] | (congr 1; omega), by omega, by omega, Lib.hid ⟨by omega, HS.out, HR.out, HK.out⟩⟩
      case round =>
        obtain ⟨v, k, L', rfl, hv, hl, HH⟩ := hrel
        have hv0 : (0 : Int) ≤ (v : Int) := by omega
        obtain ⟨dv, hd, hown⟩ := HH.out.2.1.row
        have f0 := HH.out.2.1.f0
        have hlt := HH.out.2.1.lt
        have HO := Lib.hid (And.intro hd hown)
        by_cases hge : 128 ≤ v
        · have hI : (128 : Int) ≤ (v : Int) := by omega
          have hE : Ext wr (wr.alloc (.cells #[.int .u8 (bits .or .u8 ((v : Int) % 256) 128)] 5)) := (Ext.refl _).alloc _
          clear hown
          go_wp2_with (at_builtin; refine wpList_append_own_at _ rfl (.tmp 24) (.tmp 28) _ rfl (w0.heap.size + 1) 5 i0 (.int .u8 0) 1 1 Tryd.underlying25 hi0' hz0 hz1 hz2 rfl (by decide) dv L'.length (rowB L') rfl (rows_ext HO.out.2 hE) ⟨wr.heap.size, 0, none⟩ 1 1 [.int .u8 (bits .or .u8 ((v : Int) % 256) 128)] rfl rfl (by intro j u hj; match j, hj with | 0, hj => simp at hj; subst hj; simp [go_sem]) (by intro u hu; simp at hu; rcases hu with rfl; rfl) (by unfold maxLen; omega) (by omega) (by simp; omega) ?_; intro v2 w5 hown5 hgrow5 _ hat5; obtain ⟨va, vc, rfl⟩ := own_slice hown5; have k0 := (HH.out.2.1.mid hE HO.out.1 HO.out.2 hgrow5).1; have k1 := (HH.out.2.1.mid hE HO.out.1 HO.out.2 hgrow5).2)
          have hk : k ≠ 0 := by rintro rfl; have := HH.out.1; omega
          obtain ⟨m, rfl⟩ : ∃ m, k = m + 1 := ⟨k - 1, by omega⟩
          have h1 := HH.out.1
          have h2 := HH.out.2.2.1
          have hK5 := HH.out.2.2.2.trans (HH.out.2.1.putK hE HO.out.1 HO.out.2 hgrow5 hat5)
          rw [numF, if_neg (by omega)] at h2
          rw [Nat.pow_succ] at h1
          have h3 := HH.out.2.1.put hE HO.out.1 (L' := L' ++ [UInt8.ofNat (v % 128 + 128)]) hown5 (by simp) (by
            have e := or128 (v % 256) (by omega)
            rw [show ((v % 256 : Nat) : Int) = (v : Int) % 256 from rfl] at e
            rw [e, show v % 256 % 128 = v % 128 by omega, rowB_snoc _ _ (by omega)]) hgrow5
          refine ⟨⟨v / 128, m, _, by go_num, by omega, ?_, Lib.hid ⟨by omega, h3, by rw [List.append_assoc]; exact h2, hK5⟩⟩, ?_⟩
          · rw [List.length_append, List.length_singleton]; omega
          · simp only [upV]; omega
        · have hI : ¬ (128 : Int) ≤ (v : Int) := by omega
          have hE : Ext wr (wr.alloc (.cells #[.int .u8 (v : Int)] 5)) := (Ext.refl _).alloc _
          clear hown
          go_wp2_with (at_builtin; refine wpList_append_own_at _ rfl (.tmp 38) (.tmp 41) _ rfl (w0.heap.size + 1) 5 i0 (.int .u8 0) 1 1 Tryd.underlying25 hi0' hz0 hz1 hz2 rfl (by decide) dv L'.length (rowB L') rfl (rows_ext HO.out.2 hE) ⟨wr.heap.size, 0, none⟩ 1 1 [.int .u8 ((v : Int))] rfl rfl (by intro j u hj; match j, hj with | 0, hj => simp at hj; subst hj; simp [go_sem]) (by intro u hu; simp at hu; rcases hu with rfl; rfl) (by unfold maxLen; omega) (by omega) (by simp; omega) ?_; intro v2 w5 hown5 hgrow5 _ hat5; obtain ⟨va, vc, rfl⟩ := own_slice hown5; have k0 := (HH.out.2.1.mid hE HO.out.1 HO.out.2 hgrow5).1; have k1 := (HH.out.2.1.mid hE HO.out.1 HO.out.2 hgrow5).2)
          have h2 := HH.out.2.2.1
          have hK5 := HH.out.2.2.2.trans (HH.out.2.1.putK hE HO.out.1 HO.out.2 hgrow5 hat5)
          rw [numF_lt _ _ (by omega)] at h2
          have h3 := HH.out.2.1.put hE HO.out.1 (L' := L' ++ [UInt8.ofNat v]) hown5 (by simp) (by
            rw [rowB_snoc _ _ (by omega)]) hgrow5
          rw [h2] at h3
          refine bodyPost_end (results_none rfl _ _ _) rfl ?_
          refine ⟨⟨_, rfl⟩, ?_, hK5⟩
          simpa using h3
    · go_enter Tryd.func41, Tryd.ntmps41
      have hS := h.setBad true
      obtain ⟨w1, hw1⟩ : ∃ w1, W.setCell ⟨w0.heap.size, 1, none⟩ (.bool true) = w1 := ⟨_, rfl⟩
      rw [hw1] at hS
      have HS := Lib.hid hS
      have HK := Lib.hid (show WK w0 W w1 by rw [← hw1]; exact WK.setBad w0 W _)
      clear hS
      go_wp2_with fail
      clear hw1 h c1 f1
      go_loopw [4] (fun t wr => ∃ (v k : Nat) (L' : Bytes), t = .int .u64 v ∧ v < 18446744073709551616 ∧ L'.length + k ≤ 1000000000010 ∧ Hid (v < 2 * 128 ^ k ∧ WS w0 wr L' true ∧ L' ++ numF k v = R ∧ WK w0 W wr)) (fun t _ => upV t)
      case atStart => exact ⟨(n % 18446744073709551616).toNat, 9, L, by first | rw [u64_wrap, Int.toNat_of_nonneg (by omega)] | (congr 1; omega), by omega, by omega, Lib.hid ⟨by omega, HS.out, HR.out, HK.out⟩⟩
      case round =>
        obtain ⟨v, k, L', rfl, hv, hl, HH⟩ := hrel
        have hv0 : (0 : Int) ≤ (v : Int) := by omega
        obtain ⟨dv, hd, hown⟩ := HH.out.2.1.row
        have f0 := HH.out.2.1.f0
        have hlt := HH.out.2.1.lt
        have HO := Lib.hid (And.intro hd hown)
        by_cases hge : 128 ≤ v
        · have hI : (128 : Int) ≤ (v : Int) := by omega
          have hE : Ext wr (wr.alloc (.cells #[.int .u8 (bits .or .u8 ((v : Int) % 256) 128)] 5)) := (Ext.refl _).alloc _
          clear hown
          go_wp2_with (at_builtin; refine wpList_append_own_at _ rfl (.tmp 24) (.tmp 28) _ rfl (w0.heap.size + 1) 5 i0 (.int .u8 0) 1 1 Tryd.underlying25 hi0' hz0 hz1 hz2 rfl (by decide) dv L'.length (rowB L') rfl (rows_ext HO.out.2 hE) ⟨wr.heap.size, 0, none⟩ 1 1 [.int .u8 (bits .or .u8 ((v : Int) % 256) 128)] rfl rfl (by intro j u hj; match j, hj with | 0, hj => simp at hj; subst hj; simp [go_sem]) (by intro u hu; simp at hu; rcases hu with rfl; rfl) (by unfold maxLen; omega) (by omega) (by simp; omega) ?_; intro v2 w5 hown5 hgrow5 _ hat5; obtain ⟨va, vc, rfl⟩ := own_slice hown5; have k0 := (HH.out.2.1.mid hE HO.out.1 HO.out.2 hgrow5).1; have k1 := (HH.out.2.1.mid hE HO.out.1 HO.out.2 hgrow5).2)
          have hk : k ≠ 0 := by rintro rfl; have := HH.out.1; omega
          obtain ⟨m, rfl⟩ : ∃ m, k = m + 1 := ⟨k - 1, by omega⟩
          have h1 := HH.out.1
          have h2 := HH.out.2.2.1
          have hK5 := HH.out.2.2.2.trans (HH.out.2.1.putK hE HO.out.1 HO.out.2 hgrow5 hat5)
          rw [numF, if_neg (by omega)] at h2
          rw [Nat.pow_succ] at h1
          have h3 := HH.out.2.1.put hE HO.out.1 (L' := L' ++ [UInt8.ofNat (v % 128 + 128)]) hown5 (by simp) (by
            have e := or128 (v % 256) (by omega)
            rw [show ((v % 256 : Nat) : Int) = (v : Int) % 256 from rfl] at e
            rw [e, show v % 256 % 128 = v % 128 by omega, rowB_snoc _ _ (by omega)]) hgrow5
          refine ⟨⟨v / 128, m, _, by go_num, by omega, ?_, Lib.hid ⟨by omega, h3, by rw [List.append_assoc]; exact h2, hK5⟩⟩, ?_⟩
          · rw [List.length_append, List.length_singleton]; omega
          · simp only [upV]; omega
        · have hI : ¬ (128 : Int) ≤ (v : Int) := by omega
          have hE : Ext wr (wr.alloc (.cells #[.int .u8 (v : Int)] 5)) := (Ext.refl _).alloc _
          clear hown
          go_wp2_with (at_builtin; refine wpList_append_own_at _ rfl (.tmp 38) (.tmp 41) _ rfl (w0.heap.size + 1) 5 i0 (.int .u8 0) 1 1 Tryd.underlying25 hi0' hz0 hz1 hz2 rfl (by decide) dv L'.length (rowB L') rfl (rows_ext HO.out.2 hE) ⟨wr.heap.size, 0, none⟩ 1 1 [.int .u8 ((v : Int))] rfl rfl (by intro j u hj; match j, hj with | 0, hj => simp at hj; subst hj; simp [go_sem]) (by intro u hu; simp at hu; rcases hu with rfl; rfl) (by unfold maxLen; omega) (by omega) (by simp; omega) ?_; intro v2 w5 hown5 hgrow5 _ hat5; obtain ⟨va, vc, rfl⟩ := own_slice hown5; have k0 := (HH.out.2.1.mid hE HO.out.1 HO.out.2 hgrow5).1; have k1 := (HH.out.2.1.mid hE HO.out.1 HO.out.2 hgrow5).2)
          have h2 := HH.out.2.2.1
          have hK5 := HH.out.2.2.2.trans (HH.out.2.1.putK hE HO.out.1 HO.out.2 hgrow5 hat5)
          rw [numF_lt _ _ (by omega)] at h2
          have h3 := HH.out.2.1.put hE HO.out.1 (L' := L' ++ [UInt8.ofNat v]) hown5 (by simp) (by
            rw [rowB_snoc _ _ (by omega)]) hgrow5
          rw [h2] at h3
          refine bodyPost_end (results_none rfl _ _ _) rfl ?_
          refine ⟨⟨_, rfl⟩, ?_, hK5⟩
          simpa using h3
end Go.Proofs.YtghhachbnhldoaaDoor
