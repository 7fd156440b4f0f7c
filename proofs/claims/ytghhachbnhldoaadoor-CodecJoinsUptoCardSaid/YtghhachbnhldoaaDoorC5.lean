/-
  The writer's edits: codec.Edits. Helper lemmas; no statement of the seat is proved here.
-/
import Derived.Test.YtghhachbnhldoaaDoorC4
namespace Go.Proofs.YtghhachbnhldoaaDoor
open Go.RowKit
set_option maxRecDepth 100000
set_option linter.unusedVariables false
set_option linter.unusedSimpArgs false

structure Edit where
  kind : Int
  path : List Step
  attrs : List Attr
  kids : List Node
  node : Node
def editC (e : Edit) : List DV := [intD e.kind, stepsD e.path, attrsD e.attrs, nodesD e.kids, intD e.node.kind, strD e.node.name, strD e.node.text, attrsD e.node.attrs, nodesD e.node.kids]
def editsD (l : List Edit) : DV := .s 9 (l.flatMap editC)
theorem z_edit (x : Edit) : (editC x).length = 9 := rfl
theorem edit_at {w : World} {p : Nat → Prop} {a : Option Addr} {len cap : Nat} {l : List Edit} (h : Rep w p (.slice a len cap) (editsD l)) (i : Nat) (hi : i < l.length) :
    ∃ b off x1 x2 x3 x7 x8, a = some ⟨b, off, none⟩ ∧ b < w.heap.size ∧ p b ∧ w.cell? ⟨b, off + i * 9, none⟩ = some (.int .i64 l[i].kind) ∧ w.cell? ⟨b, off + i * 9 + 1, none⟩ = some x1 ∧ w.cell? ⟨b, off + i * 9 + 2, none⟩ = some x2 ∧ w.cell? ⟨b, off + i * 9 + 3, none⟩ = some x3 ∧
      w.cell? ⟨b, off + i * 9 + 4, none⟩ = some (.int .i64 l[i].node.kind) ∧ w.cell? ⟨b, off + i * 9 + 5, none⟩ = some (.string (bs l[i].node.name)) ∧ w.cell? ⟨b, off + i * 9 + 6, none⟩ = some (.string (bs l[i].node.text)) ∧ w.cell? ⟨b, off + i * 9 + 7, none⟩ = some x7 ∧ w.cell? ⟨b, off + i * 9 + 8, none⟩ = some x8 ∧
      Rep w p x1 (stepsD l[i].path) ∧ Rep w p x2 (attrsD l[i].attrs) ∧ Rep w p x3 (nodesD l[i].kids) ∧ Rep w p x7 (attrsD l[i].node.attrs) ∧ Rep w p x8 (nodesD l[i].node.kids) := by
  obtain ⟨b, off, ha, hb, hp, hc⟩ := elem_at z_edit h (by omega) i hi
  obtain ⟨u0, hu0, hr0⟩ := hc 0 _ rfl
  obtain ⟨u1, hu1, hr1⟩ := hc 1 _ rfl
  obtain ⟨u2, hu2, hr2⟩ := hc 2 _ rfl
  obtain ⟨u3, hu3, hr3⟩ := hc 3 _ rfl
  obtain ⟨u4, hu4, hr4⟩ := hc 4 _ rfl
  obtain ⟨u5, hu5, hr5⟩ := hc 5 _ rfl
  obtain ⟨u6, hu6, hr6⟩ := hc 6 _ rfl
  obtain ⟨u7, hu7, hr7⟩ := hc 7 _ rfl
  obtain ⟨u8, hu8, hr8⟩ := hc 8 _ rfl
  exact ⟨b, off, u1, u2, u3, u7, u8, ha, hb, hp, by rw [← hr0.is]; exact hu0, hu1, hu2, hu3, by rw [← hr4.is]; exact hu4, by rw [← hr5.is]; exact hu5, by rw [← hr6.is]; exact hu6, hu7, hu8, hr1, hr2, hr3, hr7, hr8⟩
def editB (e : Edit) : Bytes := numZ e.kind ++ (stepsB' e.path ++ (attrsB e.attrs ++ (nodesB e.kids ++ nodeB e.node)))
def editsB (l : List Edit) : Bytes := numB l.length ++ l.flatMap editB
def negE (e : Edit) : Bool := decide (e.kind < 0) || (e.kids.any negN || negN e.node)
theorem editB_pos (x : Edit) : 0 < (editB x).length := by unfold editB; rw [List.length_append]; have := numB_pos (x.kind % 18446744073709551616).toNat; unfold numZ; omega
set_option maxHeartbeats 8000000 in
theorem wedit_any (w0 W : World) (L : Bytes) (bad : Bool) (x : Edit) (p : Nat → Prop) (pa ka na ma qa : Option Addr) (pc kc nc mc qc : Nat) (h1u : Rep w0 p (.slice pa x.path.length pc) (stepsD x.path)) (h2u : Rep w0 p (.slice ka x.attrs.length kc) (attrsD x.attrs)) (h3u : Rep w0 p (.slice na x.kids.length nc) (nodesD x.kids)) (h7u : Rep w0 p (.slice ma x.node.attrs.length mc) (attrsD x.node.attrs)) (h8u : Rep w0 p (.slice qa x.node.kids.length qc) (nodesD x.node.kids)) (h : WS w0 W L bad) (hR : (L ++ editB x).length ≤ 1000000000000) :
    Calls Tryd.prog 17 #[.pointer (some ⟨w0.heap.size, 0, none⟩), .agg #[.int .i64 x.kind, .slice pa x.path.length pc, .slice ka x.attrs.length kc, .slice na x.kids.length nc, .int .i64 x.node.kind, .string (bs x.node.name), .string (bs x.node.text), .slice ma x.node.attrs.length mc, .slice qa x.node.kids.length qc]] W (WPost w0 W (L ++ editB x) (bad || negE x)) := by
  obtain ⟨wb, hwb⟩ : ∃ wb, W.alloc (.cells #[.int .i64 x.kind, .slice pa x.path.length pc, .slice ka x.attrs.length kc, .slice na x.kids.length nc, .int .i64 x.node.kind, .string (bs x.node.name), .string (bs x.node.text), .slice ma x.node.attrs.length mc, .slice qa x.node.kids.length qc] 54) = wb := ⟨_, rfl⟩
  have hEb : Ext W wb := by rw [← hwb]; exact (Ext.refl W).alloc _
  have hblk : wb.heap[W.heap.size]? = some (.cells [.int .i64 x.kind, .slice pa x.path.length pc, .slice ka x.attrs.length kc, .slice na x.kids.length nc, .int .i64 x.node.kind, .string (bs x.node.name), .string (bs x.node.text), .slice ma x.node.attrs.length mc, .slice qa x.node.kids.length qc].toArray 54 (0, 0)) := by rw [← hwb]; exact Array.getElem?_push_size
  have hS0 := h.step hEb
  have hK0 := WK.ext h.lt hEb
  have hF0 : Fz w0 wb W.heap.size := by
    refine ⟨by have := h.lt; omega, fun dv hd e => ?_⟩
    obtain ⟨dv', h1, h2⟩ := h.row
    rw [(hEb.keep h.lt h1)] at hd
    obtain rfl := Option.some.inj hd
    have := (h2.lt _ e.symm).2
    omega
  have HK := Lib.hid (And.intro hK0 (And.intro hblk hF0))
  have HS := Lib.hid hS0
  have hl : L.length + ((numZ x.kind).length + (stepsB' x.path).length + (attrsB x.attrs).length + (nodesB x.kids).length + (nodeB x.node).length) ≤ 1000000000000 := by
    unfold editB at hR
    simp only [List.length_append] at hR; omega
  have b0 := blk_cells hblk 0 rfl
  have b1 := blk_cells hblk 1 rfl
  have b2 := blk_cells hblk 2 rfl
  have b3 := blk_cells hblk 3 rfl
  have b4 := blk_cells hblk 4 rfl
  have b5 := blk_cells hblk 5 rfl
  have b6 := blk_cells hblk 6 rfl
  have b7 := blk_cells hblk 7 rfl
  have b8 := blk_cells hblk 8 rfl
  clear hS0 hK0 hF0 hblk hEb
  go_enter Tryd.func17, Tryd.ntmps17
  go_wp2_with fail
  have HC := Lib.hid (wkind_any w0 wb (L) (bad) x.kind (by simp only [List.length_append]; omega) HS.out)
  refine HC.out.mono ?_
  rintro e w1 ⟨⟨u, rfl⟩, hSn, hKn⟩
  clear b0 b1 b2 b3 b4 b5 b6 b7 b8
  have hk := HK.out.2.2
  have hk2 := hKn.keep _ (blk_lt HK.out.2.1) hk
  have hblk := hk2.1.trans HK.out.2.1
  have HK2 := Lib.hid (And.intro (HK.out.1.trans hKn) (And.intro hblk hk2.2))
  have HS2 := Lib.hid hSn
  have b0 := blk_cells hblk 0 rfl
  have b1 := blk_cells hblk 1 rfl
  have b2 := blk_cells hblk 2 rfl
  have b3 := blk_cells hblk 3 rfl
  have b4 := blk_cells hblk 4 rfl
  have b5 := blk_cells hblk 5 rfl
  have b6 := blk_cells hblk 6 rfl
  have b7 := blk_cells hblk 7 rfl
  have b8 := blk_cells hblk 8 rfl
  clear hk hk2 hblk hSn hKn HC HK HS
  have HK := HK2
  have HS := HS2
  clear HK2 HS2
  go_wp2_with fail
  have HC := Lib.hid (wsteps_any w0 w1 (L ++ numZ x.kind) ((bad || decide (x.kind < 0))) x.path p _ HS.out h1u (by simp only [List.length_append]; omega))
  refine HC.out.mono ?_
  rintro e w2 ⟨⟨u, rfl⟩, hSn, hKn⟩
  clear b0 b1 b2 b3 b4 b5 b6 b7 b8
  have hk := HK.out.2.2
  have hk2 := hKn.keep _ (blk_lt HK.out.2.1) hk
  have hblk := hk2.1.trans HK.out.2.1
  have HK2 := Lib.hid (And.intro (HK.out.1.trans hKn) (And.intro hblk hk2.2))
  have HS2 := Lib.hid hSn
  have b0 := blk_cells hblk 0 rfl
  have b1 := blk_cells hblk 1 rfl
  have b2 := blk_cells hblk 2 rfl
  have b3 := blk_cells hblk 3 rfl
  have b4 := blk_cells hblk 4 rfl
  have b5 := blk_cells hblk 5 rfl
  have b6 := blk_cells hblk 6 rfl
  have b7 := blk_cells hblk 7 rfl
  have b8 := blk_cells hblk 8 rfl
  clear hk hk2 hblk hSn hKn HC HK HS
  have HK := HK2
  have HS := HS2
  clear HK2 HS2
  go_wp2_with fail
  have HC := Lib.hid (wattrs_any w0 w2 ((L ++ numZ x.kind) ++ stepsB' x.path) ((bad || decide (x.kind < 0))) x.attrs p _ HS.out h2u (by simp only [List.length_append]; omega))
  refine HC.out.mono ?_
  rintro e w3 ⟨⟨u, rfl⟩, hSn, hKn⟩
  clear b0 b1 b2 b3 b4 b5 b6 b7 b8
  have hk := HK.out.2.2
  have hk2 := hKn.keep _ (blk_lt HK.out.2.1) hk
  have hblk := hk2.1.trans HK.out.2.1
  have HK2 := Lib.hid (And.intro (HK.out.1.trans hKn) (And.intro hblk hk2.2))
  have HS2 := Lib.hid hSn
  have b0 := blk_cells hblk 0 rfl
  have b1 := blk_cells hblk 1 rfl
  have b2 := blk_cells hblk 2 rfl
  have b3 := blk_cells hblk 3 rfl
  have b4 := blk_cells hblk 4 rfl
  have b5 := blk_cells hblk 5 rfl
  have b6 := blk_cells hblk 6 rfl
  have b7 := blk_cells hblk 7 rfl
  have b8 := blk_cells hblk 8 rfl
  clear hk hk2 hblk hSn hKn HC HK HS
  have HK := HK2
  have HS := HS2
  clear HK2 HS2
  go_wp2_with fail
  have HC := Lib.hid (wnodes_any w0 w3 (((L ++ numZ x.kind) ++ stepsB' x.path) ++ attrsB x.attrs) ((bad || decide (x.kind < 0))) x.kids p _ HS.out h3u (by simp only [List.length_append]; omega) (fun y _ => wnode_any w0 (nsz y) y (Nat.le_refl _)))
  refine HC.out.mono ?_
  rintro e w4 ⟨⟨u, rfl⟩, hSn, hKn⟩
  clear b0 b1 b2 b3 b4 b5 b6 b7 b8
  have hk := HK.out.2.2
  have hk2 := hKn.keep _ (blk_lt HK.out.2.1) hk
  have hblk := hk2.1.trans HK.out.2.1
  have HK2 := Lib.hid (And.intro (HK.out.1.trans hKn) (And.intro hblk hk2.2))
  have HS2 := Lib.hid hSn
  have b0 := blk_cells hblk 0 rfl
  have b1 := blk_cells hblk 1 rfl
  have b2 := blk_cells hblk 2 rfl
  have b3 := blk_cells hblk 3 rfl
  have b4 := blk_cells hblk 4 rfl
  have b5 := blk_cells hblk 5 rfl
  have b6 := blk_cells hblk 6 rfl
  have b7 := blk_cells hblk 7 rfl
  have b8 := blk_cells hblk 8 rfl
  clear hk hk2 hblk hSn hKn HC HK HS
  have HK := HK2
  have HS := HS2
  clear HK2 HS2
  go_wp2_with fail
  have HC := Lib.hid (wnode_any w0 (nsz x.node) x.node (Nat.le_refl _) p w4 ((((L ++ numZ x.kind) ++ stepsB' x.path) ++ attrsB x.attrs) ++ nodesB x.kids) (((bad || decide (x.kind < 0)) || x.kids.any negN)) _ _ h7u h8u HS.out (by simp only [List.length_append]; omega))
  refine HC.out.mono ?_
  rintro e w5 ⟨⟨u, rfl⟩, hSn, hKn⟩
  clear b0 b1 b2 b3 b4 b5 b6 b7 b8
  have hk := HK.out.2.2
  have hk2 := hKn.keep _ (blk_lt HK.out.2.1) hk
  have hblk := hk2.1.trans HK.out.2.1
  have HK2 := Lib.hid (And.intro (HK.out.1.trans hKn) (And.intro hblk hk2.2))
  have HS2 := Lib.hid hSn
  have b0 := blk_cells hblk 0 rfl
  have b1 := blk_cells hblk 1 rfl
  have b2 := blk_cells hblk 2 rfl
  have b3 := blk_cells hblk 3 rfl
  have b4 := blk_cells hblk 4 rfl
  have b5 := blk_cells hblk 5 rfl
  have b6 := blk_cells hblk 6 rfl
  have b7 := blk_cells hblk 7 rfl
  have b8 := blk_cells hblk 8 rfl
  clear hk hk2 hblk hSn hKn HC HK HS
  have HK := HK2
  have HS := HS2
  clear HK2 HS2
  go_wp2_with fail
  refine bodyPost_end (results_none rfl _ _ _) rfl ?_
  have hf := HS.out
  rw [show ((((L ++ numZ x.kind) ++ stepsB' x.path) ++ attrsB x.attrs) ++ nodesB x.kids) ++ nodeB x.node = L ++ editB x by unfold editB; simp only [List.append_assoc]] at hf
  rw [Bool.or_assoc, Bool.or_assoc, show (decide (x.kind < 0) || (x.kids.any negN || negN x.node)) = negE x from rfl] at hf
  exact ⟨⟨_, rfl⟩, hf, HK.out.1⟩
set_option maxHeartbeats 8000000 in
theorem wedits_any (w0 W : World) (L : Bytes) (bad : Bool) (l : List Edit) (p : Nat → Prop) (v : Value) (h : WS w0 W L bad) (hv : Rep w0 p v (editsD l)) (hR : (L ++ editsB l).length ≤ 1000000000000) :
    Calls Tryd.prog 16 #[.pointer (some ⟨w0.heap.size, 0, none⟩), v, .func (.func 17) #[.pointer (some ⟨w0.heap.size, 0, none⟩)] #[]] W (WPost w0 W (L ++ editsB l) (bad || l.any negE)) := by
  obtain ⟨a, c, rfl, _, _⟩ := hv.count z_edit (by omega)
  obtain ⟨R, hRR⟩ : ∃ R, L ++ editsB l = R := ⟨_, rfl⟩
  rw [hRR] at hR ⊢
  have hll : l.length ≤ 1000000000000 := by
    have h1 := flat_le editB editB_pos l
    rw [← hRR, List.length_append] at hR
    have : editsB l = numB l.length ++ l.flatMap editB := rfl
    rw [this, List.length_append] at hR; omega
  obtain ⟨B, hB⟩ : ∃ B, (bad || l.any negE) = B := ⟨_, rfl⟩
  rw [hB]
  have hL : (L ++ numB l.length).length ≤ 1000000000000 := by
    rw [← hRR] at hR
    have : editsB l = numB l.length ++ l.flatMap editB := rfl
    rw [this, ← List.append_assoc, List.length_append] at hR; omega
  have HC := Lib.hid (wcnt_any w0 W L bad l.length hL hll h)
  have HRR := Lib.hid (show (L ++ numB l.length) ++ (l.drop 0).flatMap editB = R ∧ (bad || l.any negE) = B from ⟨by rw [← hRR, List.append_assoc]; rfl, hB⟩)
  clear hRR hB h hL
  have hv_at := fun i (hi : i < l.length) => edit_at hv i hi
  go_enter Tryd.func16, Tryd.ntmps16
  go_wp2_with fail
  refine HC.out.mono ?_
  rintro e w1 ⟨⟨u, rfl⟩, hS1, hK1⟩
  have H1 := Lib.hid (And.intro hS1 hK1)
  clear hS1 hK1 HC
  go_wp2_with fail
  go_loopw [7, 14] (fun _ t wr => ∃ (i : Nat) (L' : Bytes) (bad' : Bool), t = .int .i64 i ∧ i ≤ l.length ∧ Hid (WS w0 wr L' bad' ∧ L' ++ (l.drop i).flatMap editB = R ∧ (bad' || (l.drop i).any negE) = B ∧ WK w0 W wr)) (fun _ t _ => downV l.length t)
  case atStart => exact ⟨0, _, bad, rfl, Nat.zero_le _, Lib.hid ⟨H1.out.1, HRR.out.1, HRR.out.2, H1.out.2⟩⟩
  case round =>
    obtain ⟨i, L', bad', rfl, hi, HH⟩ := hrel
    clear HRR H1
    have hi0 : (0 : Int) ≤ (i : Int) := by omega
    have hi12 : (i : Int) ≤ 1000000000000 := by omega
    by_cases hlt : i < l.length
    · have hlI : (i : Int) < (l.length : Int) := by omega
      obtain ⟨gd, od, y1, y2, y3, y7, y8, hgd, lgd, _, d0, d1, d2, d3, d4, d5, d6, d7, d8, h1u, h2u, h3u, h7u, h8u⟩ := hv_at i hlt
      subst hgd
      have hX := HH.out.1.ext
      have hwl := HH.out.1.lt
      have hS : (L' ++ editB l[i]) ++ (l.drop (i + 1)).flatMap editB = R := by
        have h := HH.out.2.1
        rw [drop_one l i hlt, List.flatMap_cons, ← List.append_assoc] at h; exact h
      have hSl : (L' ++ editB l[i]).length ≤ 1000000000000 := by rw [← hS, List.length_append] at hR; omega
      have hN : ((bad' || negE l[i]) || (l.drop (i + 1)).any negE) = B := by
        have h := HH.out.2.2.1
        rw [drop_one l i hlt, List.any_cons, ← Bool.or_assoc] at h; exact h
      obtain ⟨pa, pc, rfl, _, _⟩ := h1u.count z_step (by omega)
      obtain ⟨ka, kc, rfl, _, _⟩ := h2u.count z_attr (by omega)
      obtain ⟨na, nc, rfl, _, _⟩ := h3u.count z_node (by omega)
      obtain ⟨ma, mc, rfl, _, _⟩ := h7u.count z_attr (by omega)
      obtain ⟨qa, qc, rfl, _, _⟩ := h8u.count z_node (by omega)
      have n0 := hX.keep lgd d0
      have n1 := hX.keep lgd d1
      have n2 := hX.keep lgd d2
      have n3 := hX.keep lgd d3
      have n4 := hX.keep lgd d4
      have n5 := hX.keep lgd d5
      have n6 := hX.keep lgd d6
      have n7 := hX.keep lgd d7
      have n8 := hX.keep lgd d8
      have HON := Lib.hid fun W1 (hE1 : Ext wr W1) => wedit_any w0 W1 L' bad' l[i] p _ _ _ _ _ _ _ _ _ _ h1u h2u h3u h7u h8u (HH.out.1.step hE1) hSl
      obtain ⟨x, hx⟩ : ∃ x, l[i] = x := ⟨_, rfl⟩
      rw [hx] at hS hSl hN HON n0 n1 n2 n3 n4 n5 n6 n7 n8 h1u h2u h3u h7u h8u
      have HS := Lib.hid (And.intro hS hN)
      clear hx hS hSl hN
      have hE1 : Ext wr (wr.alloc (.cells #[.int .i64 x.kind, .slice pa x.path.length pc, .slice ka x.attrs.length kc, .slice na x.kids.length nc, .int .i64 x.node.kind, .string (bs x.node.name), .string (bs x.node.text), .slice ma x.node.attrs.length mc, .slice qa x.node.kids.length qc] 54)) := (Ext.refl wr).alloc _
      go_wp2_with fail
      refine (HON.out _ hE1).mono ?_
      rintro e w3 ⟨⟨u, rfl⟩, hS3, hK3⟩
      have H3 := Lib.hid (And.intro hS3 (HH.out.2.2.2.trans ((WK.ext hwl hE1).trans hK3)))
      clear hS3 hK3 HON
      go_wp2_with fail
      go_roundw
      case rel => exact ⟨i + 1, _, _, by go_num, by omega, Lib.hid ⟨H3.out.1, HS.out.1, HS.out.2, H3.out.2⟩⟩
      case measure => simp only [downV]; omega
    · have hlI : ¬ (i : Int) < (l.length : Int) := by omega
      have hF : WPost w0 W R B (.returned (.tuple #[])) wr := by
        obtain ⟨h1, h2, h3, h4⟩ := HH.out
        rw [List.drop_of_length_le (by omega)] at h2 h3
        simp only [List.flatMap_nil, List.append_nil, List.any_nil, Bool.or_false] at h2 h3
        rw [← h2, ← h3]
        exact ⟨⟨_, rfl⟩, h1, h4⟩
      have HF := Lib.hid hF
      clear hF HH
      go_wp2_with fail
      exact bodyPost_end (results_none rfl _ _ _) rfl HF.out
set_option maxHeartbeats 8000000 in
theorem wdone_any (w0 W : World) (L : Bytes) (bad : Bool) (h : WS w0 W L bad) :
    Calls Tryd.prog 18 #[.pointer (some ⟨w0.heap.size, 0, none⟩)] W fun e w' => (∃ v, e = .returned v ∧ w'.ownsRow (w0.heap.size + 1) 5 1 v (if bad then [] else L).length (rowB (if bad then [] else L))) ∧ Ext w0 w' := by
  obtain ⟨dv, hd, hown⟩ := h.row
  have c1 := h.c1
  obtain ⟨va, vc, rfl⟩ := own_slice hown
  have HO := Lib.hid (And.intro hown h.ext)
  clear hown h
  go_enter Tryd.func18, Tryd.ntmps18
  cases bad with
  | true =>
    go_wp2_with fail
    go_ret
    exact ⟨⟨_, rfl, World.ownsRow_nil _ _ _ _⟩, HO.out.2⟩
  | false =>
    go_wp2_with fail
    go_ret
    exact ⟨⟨_, rfl, HO.out.1⟩, HO.out.2⟩
/-- The bytes of edits. -/
def encE (l : List Edit) : Bytes := if l.any negE then [] else editsB l
set_option maxHeartbeats 8000000 in
theorem edits_any (l : List Edit) (p : Nat → Prop) (v : Value) (w : World) (hv : Rep w p v (editsD l)) (hR : (editsB l).length ≤ 1000000000000) :
    Calls Tryd.prog 6 #[v] w fun e w' => (∃ rv, e = .returned rv ∧ w'.ownsRow (w.heap.size + 1) 5 1 rv (encE l).length (rowB (encE l))) ∧ Ext w w' := by
  have hE : Ext w (w.alloc (.cells #[.slice none 0 0, .bool false] 59)) := (Ext.refl w).alloc _
  have hS : WS w (w.alloc (.cells #[.slice none 0 0, .bool false] 59)) [] false := ⟨hE, ⟨_, by simp [go_sem], World.ownsRow_nil _ _ _ _⟩, by simp [go_sem], by simp [go_sem], by simp [go_sem]⟩
  have HC := Lib.hid (wedits_any w _ [] false l p v hS hv hR)
  rw [List.nil_append, Bool.false_or] at HC
  obtain ⟨a, c, rfl, _, _⟩ := hv.count z_edit (by omega)
  clear hS hv
  go_enter Tryd.func6, Tryd.ntmps6
  go_wp2_with fail
  refine HC.out.mono ?_
  rintro e w1 ⟨⟨u, rfl⟩, hS1, _⟩
  have HD := Lib.hid (wdone_any w w1 _ _ hS1)
  clear hS1 HC
  go_wp2_with fail
  refine HD.out.mono ?_
  rintro e w2 ⟨⟨rv, rfl, hrv⟩, hE2⟩
  have HR := Lib.hid (And.intro hrv hE2)
  clear hrv hE2 HD
  go_wp2_with fail
  go_ret
  exact ⟨⟨_, rfl, HR.out.1⟩, HR.out.2⟩

end Go.Proofs.YtghhachbnhldoaaDoor
