/-
  The writer's nodes. Helper lemmas; no statement of the seat is proved here.
-/
import Derived.Test.YtghhachbnhldoaaDoorC3
namespace Go.Proofs.YtghhachbnhldoaaDoor
open Go.RowKit
set_option maxRecDepth 100000
set_option linter.unusedVariables false
set_option linter.unusedSimpArgs false

def numZ (k : Int) : Bytes := numB (k % 18446744073709551616).toNat
mutual
def nodeB : Node → Bytes
  | .mk k n t la ks => numZ k ++ (txtB n ++ (txtB t ++ (attrsB la ++ (numB ks.length ++ nodesF ks))))
def nodesF : List Node → Bytes
  | [] => []
  | n :: r => nodeB n ++ nodesF r
end
def nodesB (l : List Node) : Bytes := numB l.length ++ l.flatMap nodeB
theorem nodesF_eq : ∀ l : List Node, nodesF l = l.flatMap nodeB
  | [] => rfl
  | n :: r => by rw [nodesF, List.flatMap_cons, nodesF_eq r]
theorem nodeB_eq (x : Node) : nodeB x = numZ x.kind ++ (txtB x.name ++ (txtB x.text ++ (attrsB x.attrs ++ nodesB x.kids))) := by
  cases x
  rw [nodeB, nodesF_eq]; rfl
theorem nodeB_pos (x : Node) : 0 < (nodeB x).length := by rw [nodeB_eq, List.length_append]; have := numB_pos (x.kind % 18446744073709551616).toNat; unfold numZ; omega
mutual
def negN : Node → Bool
  | .mk k _ _ _ ks => decide (k < 0) || negL ks
def negL : List Node → Bool
  | [] => false
  | n :: r => negN n || negL r
end
theorem negL_eq : ∀ l : List Node, negL l = l.any negN
  | [] => rfl
  | n :: r => by rw [negL, List.any_cons, negL_eq r]
theorem negN_eq (x : Node) : negN x = (decide (x.kind < 0) || x.kids.any negN) := by
  cases x
  rw [negN, negL_eq]; rfl
theorem wkind_any (w0 W : World) (L : Bytes) (bad : Bool) (n : Int) (hL : (L ++ numZ n).length ≤ 1000000000000) (h : WS w0 W L bad) :
    Calls Tryd.prog 41 #[.pointer (some ⟨w0.heap.size, 0, none⟩), .int .i64 n] W (WPost w0 W (L ++ numZ n) (bad || decide (n < 0))) :=
  wnum_any w0 W L bad n (by rw [List.length_append] at hL; omega) h
def WNode (w0 : World) (x : Node) : Prop := ∀ (p : Nat → Prop) (W : World) (L : Bytes) (bad : Bool) (va vk : Value), Rep w0 p va (attrsD x.attrs) → Rep w0 p vk (nodesD x.kids) → WS w0 W L bad → (L ++ nodeB x).length ≤ 1000000000000 →
  Calls Tryd.prog 49 #[.pointer (some ⟨w0.heap.size, 0, none⟩), .agg #[.int .i64 x.kind, .string (bs x.name), .string (bs x.text), va, vk]] W (WPost w0 W (L ++ nodeB x) (bad || negN x))
set_option maxHeartbeats 8000000 in
theorem wnodes_any (w0 W : World) (L : Bytes) (bad : Bool) (l : List Node) (p : Nat → Prop) (v : Value) (h : WS w0 W L bad) (hv : Rep w0 p v (nodesD l)) (hR : (L ++ nodesB l).length ≤ 1000000000000)
    (HX0 : ∀ x ∈ l, WNode w0 x) :
    Calls Tryd.prog 48 #[.pointer (some ⟨w0.heap.size, 0, none⟩), v, .func (.func 49) #[.pointer (some ⟨w0.heap.size, 0, none⟩)] #[]] W (WPost w0 W (L ++ nodesB l) (bad || l.any negN)) := by
  obtain ⟨a, c, rfl, _, _⟩ := hv.count z_node (by omega)
  obtain ⟨R, hRR⟩ : ∃ R, L ++ nodesB l = R := ⟨_, rfl⟩
  rw [hRR] at hR ⊢
  have hll : l.length ≤ 1000000000000 := by
    have h1 := flat_le nodeB nodeB_pos l
    rw [← hRR, List.length_append] at hR
    have : nodesB l = numB l.length ++ l.flatMap nodeB := rfl
    rw [this, List.length_append] at hR; omega
  obtain ⟨B, hB⟩ : ∃ B, (bad || l.any negN) = B := ⟨_, rfl⟩
  rw [hB]
  have hL : (L ++ numB l.length).length ≤ 1000000000000 := by
    rw [← hRR] at hR
    have : nodesB l = numB l.length ++ l.flatMap nodeB := rfl
    rw [this, ← List.append_assoc, List.length_append] at hR; omega
  have HC := Lib.hid (wcnt_any w0 W L bad l.length hL hll h)
  have HRR := Lib.hid (show (L ++ numB l.length) ++ (l.drop 0).flatMap nodeB = R ∧ (bad || l.any negN) = B from ⟨by rw [← hRR, List.append_assoc]; rfl, hB⟩)
  clear hRR hB h hL
  have HX := Lib.hid HX0
  clear HX0
  have hv_at := fun i (hi : i < l.length) => node_at hv i hi
  go_enter Tryd.func48, Tryd.ntmps48
  go_wp2_with fail
  refine HC.out.mono ?_
  rintro e w1 ⟨⟨u, rfl⟩, hS1, hK1⟩
  have H1 := Lib.hid (And.intro hS1 hK1)
  clear hS1 hK1 HC
  go_wp2_with fail
  go_loopw [7, 14] (fun _ t wr => ∃ (i : Nat) (L' : Bytes) (bad' : Bool), t = .int .i64 i ∧ i ≤ l.length ∧ Hid (WS w0 wr L' bad' ∧ L' ++ (l.drop i).flatMap nodeB = R ∧ (bad' || (l.drop i).any negN) = B ∧ WK w0 W wr)) (fun _ t _ => downV l.length t)
  case atStart => exact ⟨0, _, bad, rfl, Nat.zero_le _, Lib.hid ⟨H1.out.1, HRR.out.1, HRR.out.2, H1.out.2⟩⟩
  case round =>
    obtain ⟨i, L', bad', rfl, hi, HH⟩ := hrel
    clear HRR H1
    have hi0 : (0 : Int) ≤ (i : Int) := by omega
    have hi12 : (i : Int) ≤ 1000000000000 := by omega
    by_cases hlt : i < l.length
    · have hlI : (i : Int) < (l.length : Int) := by omega
      obtain ⟨gd, od, ku, nu, hgd, lgd, _, d0, d1, d2, d3, d4, hku, hnu⟩ := hv_at i hlt
      subst hgd
      have hX := HH.out.1.ext
      have hwl := HH.out.1.lt
      have hS : (L' ++ nodeB l[i]) ++ (l.drop (i + 1)).flatMap nodeB = R := by
        have h := HH.out.2.1
        rw [drop_one l i hlt, List.flatMap_cons, ← List.append_assoc] at h; exact h
      have hSl : (L' ++ nodeB l[i]).length ≤ 1000000000000 := by rw [← hS, List.length_append] at hR; omega
      have hN : ((bad' || negN l[i]) || (l.drop (i + 1)).any negN) = B := by
        have h := HH.out.2.2.1
        rw [drop_one l i hlt, List.any_cons, ← Bool.or_assoc] at h; exact h
      obtain ⟨ka, kc, rfl, _, _⟩ := hku.count z_attr (by omega)
      obtain ⟨na, nc, rfl, _, _⟩ := hnu.count z_node (by omega)
      have n0 := hX.keep lgd d0
      have n1 := hX.keep lgd d1
      have n2 := hX.keep lgd d2
      have n3 := hX.keep lgd d3
      have n4 := hX.keep lgd d4
      have HON := Lib.hid fun W1 (hE1 : Ext wr W1) => HX.out l[i] (List.getElem_mem hlt) p W1 L' bad' _ _ hku hnu (HH.out.1.step hE1) hSl
      obtain ⟨x, hx⟩ : ∃ x, l[i] = x := ⟨_, rfl⟩
      rw [hx] at hS hSl hN HON n0 n1 n2 n3 n4 hku hnu
      have HS := Lib.hid (And.intro hS hN)
      clear hx hS hSl hN
      have hE1 : Ext wr (wr.alloc (.cells #[.int .i64 x.kind, .string (bs x.name), .string (bs x.text), .slice ka x.attrs.length kc, .slice na x.kids.length nc] 52)) := (Ext.refl wr).alloc _
      go_wp2_with fail
      refine (HON.out _ hE1).mono ?_
      rintro e w3 ⟨⟨u, rfl⟩, hS3, hK3⟩
      have H3 := Lib.hid (And.intro hS3 (HH.out.2.2.2.trans ((WK.ext hwl hE1).trans hK3)))
      clear hS3 hK3 HON
      go_wp2_with fail
      go_roundw
      case rel => exact ⟨i + 1, _, _, by go_num, by omega, Lib.hid ⟨H3.out.1, HS.out.1, HS.out.2, H3.out.2⟩⟩
      case measure => simp only [downV]; omega
    · have hlI : ¬ (i : Int) < (l.length : Int) := by omega
      have hF : WPost w0 W R B (.returned (.tuple #[])) wr := by
        obtain ⟨h1, h2, h3, h4⟩ := HH.out
        rw [List.drop_of_length_le (by omega)] at h2 h3
        simp only [List.flatMap_nil, List.append_nil, List.any_nil, Bool.or_false] at h2 h3
        rw [← h2, ← h3]
        exact ⟨⟨_, rfl⟩, h1, h4⟩
      have HF := Lib.hid hF
      clear hF HH
      go_wp2_with fail
      exact bodyPost_end (results_none rfl _ _ _) rfl HF.out
set_option maxHeartbeats 8000000 in
theorem wnode_step (w0 W : World) (L : Bytes) (bad : Bool) (x : Node) (p : Nat → Prop) (ka na : Option Addr) (kc nc : Nat) (hka : Rep w0 p (.slice ka x.attrs.length kc) (attrsD x.attrs)) (hna : Rep w0 p (.slice na x.kids.length nc) (nodesD x.kids)) (HX : ∀ y ∈ x.kids, WNode w0 y) (h : WS w0 W L bad) (hR : (L ++ nodeB x).length ≤ 1000000000000) :
    Calls Tryd.prog 49 #[.pointer (some ⟨w0.heap.size, 0, none⟩), .agg #[.int .i64 x.kind, .string (bs x.name), .string (bs x.text), .slice ka x.attrs.length kc, .slice na x.kids.length nc]] W (WPost w0 W (L ++ nodeB x) (bad || negN x)) := by
  obtain ⟨wb, hwb⟩ : ∃ wb, W.alloc (.cells #[.int .i64 x.kind, .string (bs x.name), .string (bs x.text), .slice ka x.attrs.length kc, .slice na x.kids.length nc] 52) = wb := ⟨_, rfl⟩
  have hEb : Ext W wb := by rw [← hwb]; exact (Ext.refl W).alloc _
  have hblk : wb.heap[W.heap.size]? = some (.cells [.int .i64 x.kind, .string (bs x.name), .string (bs x.text), .slice ka x.attrs.length kc, .slice na x.kids.length nc].toArray 52 (0, 0)) := by rw [← hwb]; exact Array.getElem?_push_size
  have hS0 := h.step hEb
  have hK0 := WK.ext h.lt hEb
  have hF0 : Fz w0 wb W.heap.size := by
    refine ⟨by have := h.lt; omega, fun dv hd e => ?_⟩
    obtain ⟨dv', h1, h2⟩ := h.row
    rw [(hEb.keep h.lt h1)] at hd
    obtain rfl := Option.some.inj hd
    have := (h2.lt _ e.symm).2
    omega
  have HK := Lib.hid (And.intro hK0 (And.intro hblk hF0))
  have HS := Lib.hid hS0
  have hl : L.length + ((numZ x.kind).length + (txtB (x.name)).length + (txtB (x.text)).length + (attrsB x.attrs).length + (nodesB x.kids).length) ≤ 1000000000000 := by
    rw [nodeB_eq] at hR
    simp only [List.length_append] at hR; omega
  have b0 := blk_cells hblk 0 rfl
  have b1 := blk_cells hblk 1 rfl
  have b2 := blk_cells hblk 2 rfl
  have b3 := blk_cells hblk 3 rfl
  have b4 := blk_cells hblk 4 rfl
  clear hS0 hK0 hF0 hblk hEb
  go_enter Tryd.func49, Tryd.ntmps49
  go_wp2_with fail
  have HC := Lib.hid (wkind_any w0 wb (L) (bad) x.kind (by simp only [List.length_append]; omega) HS.out)
  refine HC.out.mono ?_
  rintro e w1 ⟨⟨u, rfl⟩, hSn, hKn⟩
  clear b0 b1 b2 b3 b4
  have hk := HK.out.2.2
  have hk2 := hKn.keep _ (blk_lt HK.out.2.1) hk
  have hblk := hk2.1.trans HK.out.2.1
  have HK2 := Lib.hid (And.intro (HK.out.1.trans hKn) (And.intro hblk hk2.2))
  have HS2 := Lib.hid hSn
  have b0 := blk_cells hblk 0 rfl
  have b1 := blk_cells hblk 1 rfl
  have b2 := blk_cells hblk 2 rfl
  have b3 := blk_cells hblk 3 rfl
  have b4 := blk_cells hblk 4 rfl
  clear hk hk2 hblk hSn hKn HC HK HS
  have HK := HK2
  have HS := HS2
  clear HK2 HS2
  go_wp2_with fail
  have HC := Lib.hid (wtext_any w0 w1 (L ++ numZ x.kind) ((bad || decide (x.kind < 0))) (x.name) (by simp only [List.length_append]; omega) HS.out)
  refine HC.out.mono ?_
  rintro e w2 ⟨⟨u, rfl⟩, hSn, hKn⟩
  clear b0 b1 b2 b3 b4
  have hk := HK.out.2.2
  have hk2 := hKn.keep _ (blk_lt HK.out.2.1) hk
  have hblk := hk2.1.trans HK.out.2.1
  have HK2 := Lib.hid (And.intro (HK.out.1.trans hKn) (And.intro hblk hk2.2))
  have HS2 := Lib.hid hSn
  have b0 := blk_cells hblk 0 rfl
  have b1 := blk_cells hblk 1 rfl
  have b2 := blk_cells hblk 2 rfl
  have b3 := blk_cells hblk 3 rfl
  have b4 := blk_cells hblk 4 rfl
  clear hk hk2 hblk hSn hKn HC HK HS
  have HK := HK2
  have HS := HS2
  clear HK2 HS2
  go_wp2_with fail
  have HC := Lib.hid (wtext_any w0 w2 ((L ++ numZ x.kind) ++ txtB (x.name)) ((bad || decide (x.kind < 0))) (x.text) (by simp only [List.length_append]; omega) HS.out)
  refine HC.out.mono ?_
  rintro e w3 ⟨⟨u, rfl⟩, hSn, hKn⟩
  clear b0 b1 b2 b3 b4
  have hk := HK.out.2.2
  have hk2 := hKn.keep _ (blk_lt HK.out.2.1) hk
  have hblk := hk2.1.trans HK.out.2.1
  have HK2 := Lib.hid (And.intro (HK.out.1.trans hKn) (And.intro hblk hk2.2))
  have HS2 := Lib.hid hSn
  have b0 := blk_cells hblk 0 rfl
  have b1 := blk_cells hblk 1 rfl
  have b2 := blk_cells hblk 2 rfl
  have b3 := blk_cells hblk 3 rfl
  have b4 := blk_cells hblk 4 rfl
  clear hk hk2 hblk hSn hKn HC HK HS
  have HK := HK2
  have HS := HS2
  clear HK2 HS2
  go_wp2_with fail
  have HC := Lib.hid (wattrs_any w0 w3 (((L ++ numZ x.kind) ++ txtB (x.name)) ++ txtB (x.text)) ((bad || decide (x.kind < 0))) x.attrs p _ HS.out hka (by simp only [List.length_append]; omega))
  refine HC.out.mono ?_
  rintro e w4 ⟨⟨u, rfl⟩, hSn, hKn⟩
  clear b0 b1 b2 b3 b4
  have hk := HK.out.2.2
  have hk2 := hKn.keep _ (blk_lt HK.out.2.1) hk
  have hblk := hk2.1.trans HK.out.2.1
  have HK2 := Lib.hid (And.intro (HK.out.1.trans hKn) (And.intro hblk hk2.2))
  have HS2 := Lib.hid hSn
  have b0 := blk_cells hblk 0 rfl
  have b1 := blk_cells hblk 1 rfl
  have b2 := blk_cells hblk 2 rfl
  have b3 := blk_cells hblk 3 rfl
  have b4 := blk_cells hblk 4 rfl
  clear hk hk2 hblk hSn hKn HC HK HS
  have HK := HK2
  have HS := HS2
  clear HK2 HS2
  go_wp2_with fail
  have HC := Lib.hid (wnodes_any w0 w4 ((((L ++ numZ x.kind) ++ txtB (x.name)) ++ txtB (x.text)) ++ attrsB x.attrs) ((bad || decide (x.kind < 0))) x.kids p _ HS.out hna (by simp only [List.length_append]; omega) HX)
  refine HC.out.mono ?_
  rintro e w5 ⟨⟨u, rfl⟩, hSn, hKn⟩
  clear b0 b1 b2 b3 b4
  have hk := HK.out.2.2
  have hk2 := hKn.keep _ (blk_lt HK.out.2.1) hk
  have hblk := hk2.1.trans HK.out.2.1
  have HK2 := Lib.hid (And.intro (HK.out.1.trans hKn) (And.intro hblk hk2.2))
  have HS2 := Lib.hid hSn
  have b0 := blk_cells hblk 0 rfl
  have b1 := blk_cells hblk 1 rfl
  have b2 := blk_cells hblk 2 rfl
  have b3 := blk_cells hblk 3 rfl
  have b4 := blk_cells hblk 4 rfl
  clear hk hk2 hblk hSn hKn HC HK HS
  have HK := HK2
  have HS := HS2
  clear HK2 HS2
  go_wp2_with fail
  refine bodyPost_end (results_none rfl _ _ _) rfl ?_
  have hf := HS.out
  rw [show ((((L ++ numZ x.kind) ++ txtB (x.name)) ++ txtB (x.text)) ++ attrsB x.attrs) ++ nodesB x.kids = L ++ nodeB x by rw [nodeB_eq]; simp only [List.append_assoc]] at hf
  rw [Bool.or_assoc, ← negN_eq] at hf
  exact ⟨⟨_, rfl⟩, hf, HK.out.1⟩
theorem wnode_any (w0 : World) : ∀ (N : Nat) (x : Node), nsz x ≤ N → WNode w0 x
  | 0, x, h => by cases x; rw [nsz] at h; omega
  | N + 1, x, h => by
    intro p W L bad va vk hva hvk hS hR
    obtain ⟨ka, kc, rfl, _, _⟩ := hva.count z_attr (by omega)
    obtain ⟨na, nc, rfl, _, _⟩ := hvk.count z_node (by omega)
    refine wnode_step w0 W L bad x p ka na kc nc hva hvk (fun y hy => ?_) hS hR
    obtain ⟨i, hi, e⟩ := List.getElem_of_mem hy
    have := kid_lt x i hi
    rw [← e]
    exact wnode_any w0 N _ (by omega)

end Go.Proofs.YtghhachbnhldoaaDoor
