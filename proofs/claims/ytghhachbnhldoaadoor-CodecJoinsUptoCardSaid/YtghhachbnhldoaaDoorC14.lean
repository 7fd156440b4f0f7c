/-
  The reader's node. Helper lemmas; no statement of the seat is proved here.
-/
import Derived.Test.YtghhachbnhldoaaDoorC13
namespace Go.Proofs.YtghhachbnhldoaaDoor
open Go.RowKit
set_option maxRecDepth 100000
set_option linter.unusedVariables false
set_option linter.unusedSimpArgs false

/-- A record that is being read: its block is the first behind wa's. -/
structure NS (w0 wa : World) (T : TypeId) (cur : World) (inp : Bytes) (deep : Int) (f : Bool) (vals : List Value) : Prop where
  S : RS w0 cur inp deep f
  X : Exc w0.heap.size wa cur
  N : cur.heap[wa.heap.size]? = some (.cells vals.toArray T (0, 0))
  ne : w0.heap.size < wa.heap.size
section
variable {w0 wa cur u : World} {T : TypeId} {inp inp' : Bytes} {deep deep' : Int} {f f' : Bool} {vals : List Value}
theorem NS.cell (h : NS w0 wa T cur inp deep f vals) (hX : Exc w0.heap.size cur u) : u.heap[wa.heap.size]? = some (.cells vals.toArray T (0, 0)) :=
  (hX.2 _ (by have := h.ne; omega) (blk_lt h.N)).trans h.N
theorem NS.call (h : NS w0 wa T cur inp deep f vals) (hS : RS w0 u inp' deep' f') (hX : Exc w0.heap.size cur u) : NS w0 wa T u inp' deep' f' vals := ⟨hS, h.X.trans hX, h.cell hX, h.ne⟩
theorem NS.put (h : NS w0 wa T u inp deep f vals) (k : Nat) (v : Value) : NS w0 wa T (u.setCell ⟨wa.heap.size, k, none⟩ v) inp deep f (vals.set k v) :=
  ⟨h.S.other (p := ⟨wa.heap.size, k, none⟩) (by have := h.ne; simp only; omega) (by have := h.ne; simp only; omega) v, h.X.new (p := ⟨wa.heap.size, k, none⟩) (Nat.le_refl _) v, blk_put h.N v, h.ne⟩
theorem NS.low (h : NS w0 wa T cur inp deep f vals) : wa.heap.size < cur.heap.size := blk_lt h.N
theorem NS.rep (h : NS w0 wa T cur inp deep f vals) {v : Value} {d : DV} (hR : Rep cur (fun k => wa.heap.size < k) v d) (hX : Exc w0.heap.size cur u) : Rep u (fun k => wa.heap.size < k) v d := hR.exc (fun k hk => by have := h.ne; omega) hX
end
theorem rep_put {wa u : World} {v : Value} {d : DV} (hR : Rep u (fun k => wa.heap.size < k) v d) (k : Nat) (x : Value) : Rep (u.setCell ⟨wa.heap.size, k, none⟩ x) (fun k => wa.heap.size < k) v d := hR.set (q := ⟨wa.heap.size, k, none⟩) (fun k hk => by simp only; omega) x
theorem node_end {w0 W wl : World} {inp' : Bytes} {D1 D0 : Int} {f : Bool} {zs : List Value} {n : Nat} {T : TypeId} (hlw : w0.heap.size < W.heap.size) (hS : RS w0 wl inp' D1 f) (hX : Exc w0.heap.size W wl) (hba : wl.heap[W.heap.size]? = some (.cells zs.toArray T (0, 0))) (vs : List Value) (hl : zs.length = vs.length) :
    RS w0 (putAll (wl.setCell ⟨w0.heap.size, 1, none⟩ (.int .i64 D0)) W.heap.size 0 vs) inp' D0 f ∧ Exc w0.heap.size W (putAll (wl.setCell ⟨w0.heap.size, 1, none⟩ (.int .i64 D0)) W.heap.size 0 vs) ∧ (putAll (wl.setCell ⟨w0.heap.size, 1, none⟩ (.int .i64 D0)) W.heap.size 0 vs).heap[W.heap.size]? = some (.cells vs.toArray T (0, 0)) :=
  ⟨RS.putAll (by omega) (Nat.le_of_lt hlw) _ _ _ (hS.setDeep D0), Exc.putAll (Nat.le_refl _) _ _ _ (hX.set (p := ⟨w0.heap.size, 1, none⟩) rfl _), blk_all _ _ zs hl (by rw [Below.heap_setCell _ _ _ _ (by simp only; omega)]; exact hba)⟩
set_option maxHeartbeats 16000000 in
theorem rnode_step (w0 W : World) (inp : Bytes) (d : Nat) (b : Bool) (x : Node) (rest : Bytes) (hd : d ≤ 10000000) (hok : okN x = true) (hi : b = false → inp = nodeB x ++ rest) (h : RS w0 W inp d b) (HX0 : ∀ y ∈ x.kids, RNode w0 (d + 1) y) :
    Calls Tryd.prog 57 #[.pointer (some ⟨w0.heap.size, 0, none⟩)] W (RPost w0 W (b || !fitN d x) rest d fun v w => NodeV W.heap.size (b || !fitN d x) x v w) := by
  obtain ⟨wa, hwa⟩ : ∃ W', W.alloc (.cells #[.int .i64 0, .string ⟨#[]⟩, .string ⟨#[]⟩, .slice none 0 0, .slice none 0 0] 52) = W' := ⟨_, rfl⟩
  obtain ⟨wb, hwb⟩ : ∃ W', wa.alloc (.cells #[.int .i64 0, .string ⟨#[]⟩, .string ⟨#[]⟩, .slice none 0 0, .slice none 0 0] 52) = W' := ⟨_, rfl⟩
  have hEa : Ext W wa := by rw [← hwa]; exact (Ext.refl W).alloc _
  have hEb : Ext wa wb := by rw [← hwb]; exact (Ext.refl wa).alloc _
  have hba0 : wa.heap[W.heap.size]? = some (.cells [.int .i64 0, .string ⟨#[]⟩, .string ⟨#[]⟩, .slice none 0 0, .slice none 0 0].toArray 52 (0, 0)) := by rw [← hwa]; exact Array.getElem?_push_size
  have hbn0 : wb.heap[wa.heap.size]? = some (.cells [.int .i64 0, .string ⟨#[]⟩, .string ⟨#[]⟩, .slice none 0 0, .slice none 0 0].toArray 52 (0, 0)) := by rw [← hwb]; exact Array.getElem?_push_size
  have hba1 := (hEb.block _ (blk_lt hba0)).trans hba0
  have hlw := h.lt
  have hlab := blk_lt hba0
  have hlbn := blk_lt hbn0
  have HD := Lib.hid (rdown_any w0 wb inp d b hd (h.step (hEa.trans hEb)))
  obtain ⟨Bf, hBf⟩ : ∃ B, (b || !fitN d x) = B := ⟨_, rfl⟩
  rw [hBf]
  obtain ⟨B1, hB1⟩ : ∃ B, (b || decide (100 < d + 1)) = B := ⟨_, rfl⟩
  rw [hB1] at HD
  have HBA := Lib.hid hba0
  have HFT : Hid (B1 = true → Bf = true) := Lib.hid fun e => by
    rw [← hBf]
    rw [e, Bool.or_eq_true] at hB1
    rcases hB1 with e | e
    · rw [e]; rfl
    · rw [fitN_eq, decide_eq_false (by have := of_decide_eq_true e; omega)]; simp
  have HFF : Hid (B1 = false → b = false ∧ Bf = (!(decide (x.kind ≤ 4611686018427387904) && x.kids.all (fitN (d + 1))))) := Lib.hid fun e => by
    rw [← hBf]
    rw [e, Bool.or_eq_false_iff] at hB1
    rw [hB1.1, fitN_eq, decide_eq_true (by have := of_decide_eq_false hB1.2; omega)]
    exact ⟨rfl, by simp⟩
  have HI := Lib.hid hi
  have HOK := Lib.hid (okN_own hok)
  have HXX := Lib.hid HX0
  have HW := Lib.hid (And.intro hEa (And.intro hEb (And.intro hba1 (And.intro hbn0 (And.intro hlw (And.intro hlab hlbn))))))
  have hdd : ((d + 1 : Nat) : Int) - 1 = (d : Int) := by omega
  obtain ⟨D1, hD1⟩ : ∃ D : Int, ((d + 1 : Nat) : Int) = D := ⟨_, rfl⟩
  obtain ⟨D0, hD0⟩ : ∃ D : Int, (d : Int) = D := ⟨_, rfl⟩
  have hDr : -9223372036854775808 ≤ D0 ∧ D0 ≤ 9223372036854775807 := by omega
  rw [hD1, hD0] at hdd
  rw [hD1] at HD
  rw [hD0]
  obtain ⟨hDr1, hDr2⟩ := hDr
  have HDD := Lib.hid (And.intro hD1 hD0)
  clear h hi hok HX0 hB1 hBf hEa hEb hba0 hba1 hbn0 hlw hlab hlbn hD1 hD0 hd
  go_enter Tryd.func57, Tryd.ntmps57
  go_wp2_with fail
  refine HD.out.mono ?_
  rintro e w1 ⟨rfl, hS1, hX1⟩
  clear HD
  cases B1 with
  | true =>
    obtain rfl := HFT.out rfl
    obtain ⟨hEa, hEb, hba1, hbn0, hlw, hlab, hlbn⟩ := HW.out
    have hbn := (hX1.2 _ (by omega) hlbn).trans hbn0
    have hba := (hX1.2 W.heap.size (by omega) (by have := hEb.size; omega)).trans hba1
    have c1 := hS1.c1
    have f1 := hS1.f1
    have k0 := blk_cells hbn 0 rfl; have k1 := blk_cells hbn 1 rfl; have k2 := blk_cells hbn 2 rfl; have k3 := blk_cells hbn 3 rfl; have k4 := blk_cells hbn 4 rfl
    have a0 := blk_cells hba 0 rfl; have a1 := blk_cells hba 1 rfl; have a2 := blk_cells hba 2 rfl; have a3 := blk_cells hba 3 rfl; have a4 := blk_cells hba 4 rfl
    have e0 := blk_free hba (k := 0); have e1 := blk_free hba (k := 1); have e2 := blk_free hba (k := 2); have e3 := blk_free hba (k := 3); have e4 := blk_free hba (k := 4)
    have n1 : ¬ w0.heap.size = W.heap.size := by omega
    have n2 : ¬ W.heap.size = w0.heap.size := by omega
    have n3 : ¬ w0.heap.size = wa.heap.size := by omega
    have n4 : ¬ wa.heap.size = w0.heap.size := by omega
    have n5 : ¬ W.heap.size = wa.heap.size := by omega
    have n6 : ¬ wa.heap.size = W.heap.size := by omega
    have HL := Lib.hid (And.intro hS1 (And.intro hX1 hba))
    clear hS1 hX1 hba hbn hba1 hbn0 hlw hlab hlbn hEa hEb
    go_wp2_with fail
    obtain ⟨q1, q2, q3⟩ := node_end (n := 0) (D0 := D0) HW.out.2.2.2.2.1 HL.out.1 (((Exc.of _ HW.out.1).trans (Exc.of _ HW.out.2.1)).trans HL.out.2.1) HL.out.2.2 [.int .i64 0, .string ⟨#[]⟩, .string ⟨#[]⟩, .slice none 0 0, .slice none 0 0] rfl
    simp only [putAll, Nat.zero_add, Nat.reduceAdd] at q1 q2 q3
    refine bodyPost_ret (res_cell rfl _ _ _ ⟨W.heap.size, 0, none⟩ (by rfl) (load_nodeL q3 ⟨_, rfl⟩ ⟨_, rfl⟩ ⟨_, rfl⟩ ⟨_, _, _, rfl⟩ ⟨_, _, _, rfl⟩)) rfl ?_
    exact ⟨_, rfl, nodeV_zero _ _ _, ⟨_, q1, fun h => by cases h⟩, q2⟩
  | false =>
    obtain ⟨rfl, hBfe⟩ := HFF.out rfl
    have hinp := HI.out rfl
    obtain ⟨⟨ok1, ok2, ok3, ok4, ok5, ok6⟩, ok7, ok8⟩ := HOK.out
    have hnz : numZ x.kind = numB x.kind.toNat := by unfold numZ; congr 1; omega
    rw [nodeB_eq, hnz, List.append_assoc, List.append_assoc, List.append_assoc, List.append_assoc] at hinp
    obtain ⟨A, hA⟩ : ∃ A, x.kids.all (fitN (d + 1)) = A := ⟨_, rfl⟩
    obtain ⟨F, hF⟩ : ∃ F, decide (4611686018427387904 < x.kind.toNat) = F := ⟨_, rfl⟩
    have hFk : decide (x.kind ≤ 4611686018427387904) = !F := by
      rw [← hF]
      by_cases c : x.kind ≤ 4611686018427387904
      · rw [decide_eq_true c, decide_eq_false (by omega)]; rfl
      · rw [decide_eq_false c, decide_eq_true (by omega)]; rfl
    obtain rfl : Bf = (F || !A) := by rw [hBfe, hFk, hA]; cases F <;> cases A <;> rfl
    obtain ⟨KV, hKV⟩ : ∃ K, (if F = true then 0 else ((x.kind.toNat : Nat) : Int)) = K := ⟨_, rfl⟩
    have HKV : Hid (F = false → KV = x.kind) := Lib.hid fun e => by rw [← hKV, e, if_neg (by decide)]; omega
    have h1 := rnum_any w0 w1 inp D1 false x.kind.toNat (txtB x.name ++ (txtB x.text ++ (attrsB x.attrs ++ (nodesB x.kids ++ rest)))) (by omega) (fun _ => hinp) hS1
    rw [Bool.false_or, hF, hKV] at h1
    have hN0 : NS w0 wa 52 w1 inp D1 false [.int .i64 0, .string ⟨#[]⟩, .string ⟨#[]⟩, .slice none 0 0, .slice none 0 0] := ⟨hS1, (Exc.of _ HW.out.2.1).trans hX1, (hX1.2 _ (by have := HW.out.1.size; have := HW.out.2.2.2.2.1; omega) HW.out.2.2.2.2.2.2).trans HW.out.2.2.2.1, by have := HW.out.1.size; have := HW.out.2.2.2.2.1; omega⟩
    have HN := Lib.hid hN0
    have H1 := Lib.hid h1
    have HOKS := Lib.hid (And.intro ok3 (And.intro ok4 (And.intro ok5 (And.intro ok6 (And.intro ok7 ok8)))))
    have HXK : Hid (∀ y ∈ x.kids, ∀ (W : World) (inp : Bytes) (b : Bool) (rest : Bytes), (b = false → inp = nodeB y ++ rest) → RS w0 W inp D1 b → Calls Tryd.prog 57 #[.pointer (some ⟨w0.heap.size, 0, none⟩)] W (RPost w0 W (b || !fitN (d + 1) y) rest D1 fun v w => NodeV W.heap.size (b || !fitN (d + 1) y) y v w)) := Lib.hid fun y hy W inp b rest h1 h2 => by
      have h := HXX.out y hy W inp b rest h1
      rw [HDD.out.1] at h
      exact h h2
    clear hBfe hinp ok1 ok2 ok3 ok4 ok5 ok6 ok7 ok8 hnz hF hFk hKV h1 hN0 hS1 hX1 HFT HFF HI HOK HXX
    have HC := Lib.hid (H1.out)
    go_wp2_with fail
    refine HC.out.mono ?_
    rintro e u1 ⟨v, rfl, rfl, ⟨inp1, hS, hin⟩, hX⟩
    have hb := HN.out.cell hX
    have k1_0 := blk_cells hb 0 rfl
    have g1_0 := blk_free hb (k := 0)
    obtain ⟨x1, hx1⟩ : ∃ W', (u1.setCell ⟨wa.heap.size, 0, none⟩ (.int .i64 KV)) = W' := ⟨_, rfl⟩
    have hN2 : NS w0 wa 52 x1 inp1 D1 (F) [.int .i64 KV, .string ⟨#[]⟩, .string ⟨#[]⟩, .slice none 0 0, .slice none 0 0] := by rw [← hx1]; exact ((HN.out.call hS hX).put 0 _)
    have HIN := Lib.hid hin
    clear HN HC hS hX hin hb
    have HN := Lib.hid hN2
    clear hN2
    have HC := Lib.hid (rtext_any w0 x1 inp1 D1 F x.name (txtB x.text ++ (attrsB x.attrs ++ (nodesB x.kids ++ rest))) HOKS.out.1 HIN.out HN.out.S)
    go_wp2_with fail
    refine HC.out.mono ?_
    rintro e u2 ⟨v, rfl, ⟨s1, rfl, l1, e1⟩, ⟨inp2, hS, hin⟩, hX⟩
    have hb := HN.out.cell hX
    have k2_0 := blk_cells hb 1 rfl
    have g2_0 := blk_free hb (k := 1)
    obtain ⟨x2, hx2⟩ : ∃ W', (u2.setCell ⟨wa.heap.size, 1, none⟩ (.string (bs s1))) = W' := ⟨_, rfl⟩
    have hN2 : NS w0 wa 52 x2 inp2 D1 (F) [.int .i64 KV, .string (bs s1), .string ⟨#[]⟩, .slice none 0 0, .slice none 0 0] := by rw [← hx2]; exact ((HN.out.call hS hX).put 1 _)
    have HIN := Lib.hid hin
    clear HN HC hS hX hin hb
    have HN := Lib.hid hN2
    clear hN2
    have HC := Lib.hid (rtext_any w0 x2 inp2 D1 F x.text (attrsB x.attrs ++ (nodesB x.kids ++ rest)) HOKS.out.2.1 HIN.out HN.out.S)
    go_wp2_with fail
    refine HC.out.mono ?_
    rintro e u3 ⟨v, rfl, ⟨s2, rfl, l2, e2⟩, ⟨inp3, hS, hin⟩, hX⟩
    have hb := HN.out.cell hX
    have k3_0 := blk_cells hb 2 rfl
    have g3_0 := blk_free hb (k := 2)
    obtain ⟨x3, hx3⟩ : ∃ W', (u3.setCell ⟨wa.heap.size, 2, none⟩ (.string (bs s2))) = W' := ⟨_, rfl⟩
    have hN2 : NS w0 wa 52 x3 inp3 D1 (F) [.int .i64 KV, .string (bs s1), .string (bs s2), .slice none 0 0, .slice none 0 0] := by rw [← hx3]; exact ((HN.out.call hS hX).put 2 _)
    have HIN := Lib.hid hin
    clear HN HC hS hX hin hb
    have HN := Lib.hid hN2
    clear hN2
    have HC := Lib.hid (rattrs_any w0 x3 inp3 D1 F x.attrs (nodesB x.kids ++ rest) HOKS.out.2.2.1 HOKS.out.2.2.2.2.1 HIN.out HN.out.S)
    go_wp2_with fail
    refine HC.out.mono ?_
    rintro e u4 ⟨v, rfl, ⟨a1, n1, c1, rfl, e3⟩, ⟨inp4, hS, hin⟩, hX⟩
    have hb := HN.out.cell hX
    have k4_0 := blk_cells hb 3 rfl
    have g4_0 := blk_free hb (k := 3)
    obtain ⟨x4, hx4⟩ : ∃ W', (u4.setCell ⟨wa.heap.size, 3, none⟩ (.slice a1 n1 c1)) = W' := ⟨_, rfl⟩
    have hN2 : NS w0 wa 52 x4 inp4 D1 (F) [.int .i64 KV, .string (bs s1), .string (bs s2), .slice a1 n1 c1, .slice none 0 0] := by rw [← hx4]; exact ((HN.out.call hS hX).put 3 _)
    have hlo := HN.out.low
    have HRA : Hid ((F) = false → Rep x4 (fun k => wa.heap.size < k) (.slice a1 n1 c1) (attrsD x.attrs)) := Lib.hid fun hf => by rw [← hx4]; exact (rep_put ((e3 hf).ok fun k hk => by omega) 3 _)
    clear hlo e3
    have HIN := Lib.hid hin
    clear HN HC hS hX hin hb
    have HN := Lib.hid hN2
    clear hN2
    have HC := Lib.hid ((by have h := rnodes_some w0 x4 inp4 (d + 1) D1 F x.kids rest HOKS.out.2.2.2.1 HIN.out HN.out.S HXK.out; rw [hA] at h; exact h))
    go_wp2_with fail
    refine HC.out.mono ?_
    rintro e u5 ⟨v, rfl, ⟨a2, n2, c2, rfl, e4⟩, ⟨inp5, hS, hin⟩, hX⟩
    have hb := HN.out.cell hX
    have k5_0 := blk_cells hb 4 rfl
    have g5_0 := blk_free hb (k := 4)
    obtain ⟨x5, hx5⟩ : ∃ W', (u5.setCell ⟨wa.heap.size, 4, none⟩ (.slice a2 n2 c2)) = W' := ⟨_, rfl⟩
    have hN2 : NS w0 wa 52 x5 inp5 D1 (F || !A) [.int .i64 KV, .string (bs s1), .string (bs s2), .slice a1 n1 c1, .slice a2 n2 c2] := by rw [← hx5]; exact ((HN.out.call hS hX).put 4 _)
    have HRA2 : Hid ((F || !A) = false → Rep x5 (fun k => wa.heap.size < k) (.slice a1 n1 c1) (attrsD x.attrs)) := Lib.hid fun hf => by rw [← hx5]; exact (rep_put (HN.out.rep (HRA.out (by first | exact hf | exact (Bool.or_eq_false_iff.1 hf).1)) hX) 4 _)
    clear HRA
    have HRA := HRA2
    clear HRA2
    have hlo := HN.out.low
    have HRK : Hid ((F || !A) = false → Rep x5 (fun k => wa.heap.size < k) (.slice a2 n2 c2) (nodesD x.kids)) := Lib.hid fun hf => by rw [← hx5]; exact (rep_put ((e4 hf).ok fun k hk => by omega) 4 _)
    clear hlo e4
    have HIN := Lib.hid hin
    clear HN HC hS hX hin hb
    have HN := Lib.hid hN2
    clear hN2
    obtain ⟨hEa, hEb, hba1, hbn0, hlw, hlab, hlbn⟩ := HW.out
    have hba := (HN.out.X.2 W.heap.size (by omega) hlab).trans HBA.out
    have c1' := HN.out.S.c1
    have f1 := HN.out.S.f1
    have k0 := blk_cells HN.out.N 0 rfl; have k1 := blk_cells HN.out.N 1 rfl; have k2 := blk_cells HN.out.N 2 rfl; have k3 := blk_cells HN.out.N 3 rfl; have k4 := blk_cells HN.out.N 4 rfl
    have a0 := blk_cells hba 0 rfl; have a1' := blk_cells hba 1 rfl; have a2' := blk_cells hba 2 rfl; have a3 := blk_cells hba 3 rfl; have a4 := blk_cells hba 4 rfl
    have e0 := blk_free hba (k := 0); have e1' := blk_free hba (k := 1); have e2' := blk_free hba (k := 2); have e3' := blk_free hba (k := 3); have e4' := blk_free hba (k := 4)
    have n1' : ¬ w0.heap.size = W.heap.size := by omega
    have n2' : ¬ W.heap.size = w0.heap.size := by omega
    have n3 : ¬ w0.heap.size = wa.heap.size := by have := HN.out.ne; omega
    have n4 : ¬ wa.heap.size = w0.heap.size := by omega
    have n5 : ¬ W.heap.size = wa.heap.size := by omega
    have n6 : ¬ wa.heap.size = W.heap.size := by omega
    have HL := Lib.hid hba
    have HE := Lib.hid (And.intro e1 e2)
    clear hba hba1 hbn0 hEa hEb e1 e2
    go_wp2_with fail
    obtain ⟨q1, q2, q3⟩ := node_end (n := 0) (D0 := D0) HW.out.2.2.2.2.1 HN.out.S ((Exc.of _ HW.out.1).trans HN.out.X) HL.out [.int .i64 KV, .string (bs s1), .string (bs s2), .slice a1 n1 c1, .slice a2 n2 c2] rfl
    simp only [putAll, Nat.zero_add, Nat.reduceAdd] at q1 q2 q3
    refine bodyPost_ret (res_cell rfl _ _ _ ⟨W.heap.size, 0, none⟩ (by rfl) (load_nodeL q3 ⟨_, rfl⟩ ⟨_, rfl⟩ ⟨_, rfl⟩ ⟨_, _, _, rfl⟩ ⟨_, _, _, rfl⟩)) rfl ?_
    exact ⟨_, rfl, ⟨KV, s1, s2, a1, n1, c1, a2, n2, c2, rfl, l1, l2, fun hf => ⟨HKV.out (Bool.or_eq_false_iff.1 hf).1, HE.out.1 (Bool.or_eq_false_iff.1 hf).1, HE.out.2 (Bool.or_eq_false_iff.1 hf).1, (Rep.putAll (b := W.heap.size) (fun k hk => by omega) [.int .i64 KV, .string (bs s1), .string (bs s2), .slice a1 n1 c1, .slice a2 n2 c2] 0 _ ((HRA.out hf).set (q := ⟨w0.heap.size, 1, none⟩) (fun k hk => by have := HN.out.ne; simp only; omega) (.int .i64 D0))).ok fun k hk => by omega, (Rep.putAll (b := W.heap.size) (fun k hk => by omega) [.int .i64 KV, .string (bs s1), .string (bs s2), .slice a1 n1 c1, .slice a2 n2 c2] 0 _ ((HRK.out hf).set (q := ⟨w0.heap.size, 1, none⟩) (fun k hk => by have := HN.out.ne; simp only; omega) (.int .i64 D0))).ok fun k hk => by omega⟩⟩, ⟨_, q1, HIN.out⟩, q2⟩

end Go.Proofs.YtghhachbnhldoaaDoor
