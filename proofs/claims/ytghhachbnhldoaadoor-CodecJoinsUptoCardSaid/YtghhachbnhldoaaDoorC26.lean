/-
  The reference's bytes: nodes. Helper lemmas; no statement of the seat is proved here.
-/
import Derived.Test.YtghhachbnhldoaaDoorC25
namespace Go.Proofs.YtghhachbnhldoaaDoor
open Go.RowKit
set_option maxRecDepth 100000
set_option linter.unusedVariables false
set_option linter.unusedSimpArgs false

theorem Acc.again {w0 wz X : World} {bx : Nat} {d : Value} {L : Bytes} (h : Acc w0 bx wz X d L) : Acc w0 bx X (World.drew X) d L := Acc.ext ⟨h.own, ⟨h.s.2.1, h.s.2.1, rfl, h.s.2.2.2⟩, h.ne⟩ (Ext.refl X).drew
theorem Acc.flat {w0 wz X : World} {bx : Nat} {d : Value} {L : Bytes} (h : Acc w0 bx wz X d L) : Acc w0 bx X X d L := ⟨h.own, ⟨h.s.2.1, h.s.2.1, rfl, h.s.2.2.2⟩, h.ne⟩
def BNode (x : Node) : Prop := ∀ (p : Nat → Prop) (W : World) (va vk : Value), Rep W p va (attrsD x.attrs) → Rep W p vk (nodesD x.kids) → (nodeB x).length ≤ 1000000000000 →
  Calls Tryd.prog 25 #[.agg #[.int .i64 x.kind, .string (bs x.name), .string (bs x.text), va, vk]] W (RB W (nodeB x))
set_option maxHeartbeats 16000000 in
theorem bnodes_any (w : World) (l : List Node) (p : Nat → Prop) (v : Value) (hv : Rep w p v (nodesD l)) (hR : (nodesB l).length ≤ 1000000000000)
    (HX0 : ∀ x ∈ l, BNode x) :
    Calls Tryd.prog 24 #[v] w (RB w (nodesB l)) := by
  obtain ⟨a, c, rfl, _, _⟩ := hv.count z_node (by omega)
  obtain ⟨R, hRR⟩ : ∃ R, nodesB l = R := ⟨_, rfl⟩
  rw [hRR] at hR ⊢
  have hll : l.length ≤ 1000000000000 := by
    have h1 := flat_le nodeB nodeB_pos l
    have h2 : (nodesB l).length = (numB l.length).length + (l.flatMap nodeB).length := by show (numB l.length ++ l.flatMap nodeB).length = _; rw [List.length_append]
    rw [hRR] at h2; omega
  have HC := Lib.hid (num_any l.length (by omega) w)
  have HRR := Lib.hid (show numB l.length ++ (l.drop 0).flatMap nodeB = R from hRR)
  clear hRR
  have HX := Lib.hid HX0
  clear HX0
  have hv_at := fun i (hi : i < l.length) => node_at hv i hi
  go_enter Tryd.func24, Tryd.ntmps24
  go_wp2_with fail
  refine HC.out.mono ?_
  rintro e w1 ⟨dv, rfl, hown, hX1⟩
  have H1 := Lib.hid (And.intro hown hX1)
  clear hown hX1 HC
  go_wp2_with fail
  go_loopw [3, 4] (fun nv t wr => ∃ (i : Nat) (L' : Bytes) (dv : Value), t = .int .i64 i ∧ dv = nv ∧ i ≤ l.length ∧ Hid (wr.ownsRow w.heap.size 5 1 dv L'.length (rowB L') ∧ L' ++ (l.drop i).flatMap nodeB = R ∧ Ext w wr)) (fun _ t _ => downV l.length t)
  case atStart => exact ⟨0, _, _, rfl, rfl, Nat.zero_le _, Lib.hid ⟨H1.out.1, HRR.out, H1.out.2⟩⟩
  case round =>
    obtain ⟨i, L', dv, rfl, rfl, hi, HH⟩ := hrel
    clear HRR H1
    have hi0 : (0 : Int) ≤ (i : Int) := by omega
    have hi12 : (i : Int) ≤ 1000000000000 := by omega
    by_cases hlt : i < l.length
    · have hlI : (i : Int) < (l.length : Int) := by omega
      obtain ⟨gd, od, ku, nu, hgd, lgd, _, d0, d1, d2, d3, d4, hku, hnu⟩ := hv_at i hlt
      subst hgd
      have hX := HH.out.2.2
      have hS : (L' ++ nodeB l[i]) ++ (l.drop (i + 1)).flatMap nodeB = R := by
        have h := HH.out.2.1
        rw [drop_one l i hlt, List.flatMap_cons, ← List.append_assoc] at h; exact h
      have hSl : (L' ++ nodeB l[i]).length ≤ 1000000000000 := by rw [← hS, List.length_append] at hR; omega
      have hel : (nodeB l[i]).length ≤ 1000000000000 := by rw [List.length_append] at hSl; omega
      obtain ⟨ka, kc, rfl, _, _⟩ := hku.count z_attr (by omega)
      obtain ⟨na, nc, rfl, _, _⟩ := hnu.count z_node (by omega)
      have n0 := hX.keep lgd d0
      have n1 := hX.keep lgd d1
      have n2 := hX.keep lgd d2
      have n3 := hX.keep lgd d3
      have n4 := hX.keep lgd d4
      obtain ⟨x, hx⟩ : ∃ x, l[i] = x := ⟨_, rfl⟩
      have HON := Lib.hid (HX.out l[i] (List.getElem_mem hlt) p wr _ _ (hku.ext hX) (hnu.ext hX) hel)
      rw [hx] at hS hSl HON n0 n1 n2 n3 n4 hku hnu
      have HS := Lib.hid hS
      have HSL := Lib.hid hSl
      have hA0 : Acc w gd wr wr dv L' := ⟨HH.out.1, ⟨hX, hX, rfl, Nat.lt_of_lt_of_le lgd hX.size⟩, fun e => by have := (HH.out.1.lt gd e).1; omega⟩
      have HA0 := Lib.hid hA0
      clear hx hS hSl hel hA0
      go_wp2_with fail
      refine HON.out.mono ?_
      rintro e w3 ⟨tv, rfl, hrow, hX3⟩
      obtain ⟨g, cap, rfl, hP⟩ := Pend.new HA0.out (nodeB_pos x) hrow
      have HA := Lib.hid (And.intro (HA0.out.ext hX3) hP)
      clear HON HA0 hrow hP hX3
      go_wp2_with (at_builtin; refine wpList_appB rfl (.tmp 14) (.tmp 19) rfl rfl HA.out.1 HA.out.2 rfl HSL.out ?_; intro d5 w5 hA5)
      have HF := Lib.hid (And.intro hA5.own hA5.s.2.1)
      clear hA5
      go_roundw
      case rel => exact ⟨i + 1, _, _, by go_num, rfl, by omega, Lib.hid ⟨HF.out.1, HS.out, HF.out.2⟩⟩
      case measure => simp only [downV]; omega
    · have hlI : ¬ (i : Int) < (l.length : Int) := by omega
      have hF : RB w R (.returned dv) wr := by
        obtain ⟨h1, h2, h3⟩ := HH.out
        rw [List.drop_of_length_le (by omega)] at h2
        simp only [List.flatMap_nil, List.append_nil] at h2
        rw [← h2]
        exact ⟨_, rfl, h1, h3⟩
      have HF := Lib.hid hF
      clear hF HH
      go_wp2_with fail
      go_ret
      exact HF.out
theorem rows_low {w : World} {base base' z n : Nat} {e : TypeId} {v : Value} {us : List Value} (h : w.ownsRow base e z v n us) (hb : base' ≤ base) : w.ownsRow base' e z v n us := by
  refine ⟨h.1, ?_⟩
  rcases h.2 with h | ⟨g, cap, cur, e, hg, h⟩
  · exact .inl h
  · exact .inr ⟨g, cap, cur, e, Nat.le_trans hb hg, h⟩
theorem list_pos {α : Type} (n : Nat) (f : α → Bytes) (l : List α) : 0 < (numB n ++ l.flatMap f).length := by rw [List.length_append]; have := numB_pos n; omega
/-- 'append(num(..), text(..)...)': two rows that calls gave, in either order. -/
theorem two_rows {w0 wz X : World} {bx g1 g2 c1 c2 b1 b2 : Nat} {E1 E2 : Bytes} (hs : Sb w0 bx wz X) (h1 : X.ownsRow b1 5 1 (.slice (some ⟨g1, 0, none⟩) E1.length c1) E1.length (rowB E1)) (h2 : X.ownsRow b2 5 1 (.slice (some ⟨g2, 0, none⟩) E2.length c2) E2.length (rowB E2)) (hb1 : w0.heap.size ≤ b1) (hbx : bx < b1) (hne : g1 ≠ g2) :
    Acc w0 bx wz X (.slice (some ⟨g1, 0, none⟩) E1.length c1) E1 ∧ Pend X (.slice (some ⟨g1, 0, none⟩) E1.length c1) g2 c2 E2 :=
  ⟨⟨rows_low h1 hb1, hs, fun e => by have := (h1.lt g1 rfl).1; simp [Value.ownBlock] at e; omega⟩, ⟨h2.cells (g := g2) rfl, (h2.lt g2 rfl).2, fun e => by simp [Value.ownBlock] at e; exact hne e⟩⟩
set_option maxHeartbeats 32000000 in
theorem bnode_step (w : World) (x : Node) (p : Nat → Prop) (ka na : Option Addr) (kc nc : Nat) (hka : Rep w p (.slice ka x.attrs.length kc) (attrsD x.attrs)) (hna : Rep w p (.slice na x.kids.length nc) (nodesD x.kids)) (hok : 0 ≤ x.kind ∧ x.kind < 9223372036854775808) (HX : ∀ y ∈ x.kids, BNode y) (hR : (nodeB x).length ≤ 1000000000000) :
    Calls Tryd.prog 25 #[.agg #[.int .i64 x.kind, .string (bs x.name), .string (bs x.text), .slice ka x.attrs.length kc, .slice na x.kids.length nc]] w (RB w (nodeB x)) := by
  obtain ⟨wb, hwb⟩ : ∃ W', w.alloc (.cells #[.int .i64 x.kind, .string (bs x.name), .string (bs x.text), .slice ka x.attrs.length kc, .slice na x.kids.length nc] 52) = W' := ⟨_, rfl⟩
  have hE : Ext w wb := by rw [← hwb]; exact (Ext.refl w).alloc _
  have hblk : wb.heap[w.heap.size]? = some (.cells [.int .i64 x.kind, .string (bs x.name), .string (bs x.text), .slice ka x.attrs.length kc, .slice na x.kids.length nc].toArray 52 (0, 0)) := by rw [← hwb]; exact Array.getElem?_push_size
  have hbl := blk_lt hblk
  have HBL := Lib.hid (fun k u (h : ([.int .i64 x.kind, .string (bs x.name), .string (bs x.text), .slice ka x.attrs.length kc, .slice na x.kids.length nc] : List Value)[k]? = some u) => blk_cells hblk k h)
  have b0 := blk_cells hblk 0 rfl; have b1 := blk_cells hblk 1 rfl
  rw [nodeB_eq] at hR
  have hl := hR
  simp only [List.length_append] at hl
  have HLN := Lib.hid (show x.name.length ≤ 1000000000000 ∧ x.text.length ≤ 1000000000000 by unfold txtB at hl; simp only [List.length_append] at hl; omega)
  have HLN2 := Lib.hid (show (numZ x.kind ++ txtB x.name).length ≤ 1000000000000 ∧ ((numZ x.kind ++ txtB x.name) ++ txtB x.text).length ≤ 1000000000000 ∧ (((numZ x.kind ++ txtB x.name) ++ txtB x.text) ++ attrsB x.attrs).length ≤ 1000000000000 ∧ ((((numZ x.kind ++ txtB x.name) ++ txtB x.text) ++ attrsB x.attrs) ++ nodesB x.kids).length ≤ 1000000000000 ∧ (attrsB x.attrs).length ≤ 1000000000000 by simp only [List.length_append]; omega)
  have hkn : (x.kind.toNat : Int) = x.kind := by omega
  have HNUM : Hid (∀ W, Calls Tryd.prog 19 #[.int .i64 x.kind] W (RB W (numZ x.kind))) := Lib.hid fun W => by
    have h := num_any x.kind.toNat (by omega) W
    rw [hkn] at h
    rw [show numZ x.kind = numB x.kind.toNat by unfold numZ; congr 1; omega]
    exact h
  have HKA := Lib.hid fun W (hX : Ext wb W) => (hka.ext hE).ext hX
  have HKN := Lib.hid fun W (hX : Ext wb W) => bnodes_any W x.kids p _ ((hna.ext hE).ext hX) (by omega) HX
  have HE := Lib.hid hE
  clear hka hna HX hok hR hl hE hblk hkn
  go_enter Tryd.func25, Tryd.ntmps25
  go_wp2_with fail
  refine region_merge (fun ac ac' w' => ∃ (g1 : Nat) (c1 : Nat) (g2 : Nat) (c2 : Nat) (d2 : Value), ac' = ((((((((ac.put (some 4) (.pointer (some ⟨w.heap.size, 0, none⟩))).put (some 5) (.int .i64 x.kind)).put (some 6) (.slice (some ⟨g1, 0, none⟩) (numZ x.kind).length c1)).put (some 7) (.pointer (some ⟨w.heap.size, 1, none⟩))).put (some 8) (.string (bs x.name))).put (some 9) (.slice (some ⟨g2, 0, none⟩) (txtB x.name).length c2)).put (some 10) (d2)).put (some 3) (d2)) ∧ Acc wb w.heap.size wb w' d2 (numZ x.kind ++ txtB x.name)) ?_ ?_
  · refine rg_begin (S := Sb wb w.heap.size wb) (by kernel_rfl) (Sb.begin (Ext.refl wb) hbl) ?_
    have hSp : Sb wb w.heap.size wb (World.drew wb) := (Sb.begin (Ext.refl wb) hbl)
    refine rg_take 0 (some 4) (.pointer (some ⟨w.heap.size, 0, none⟩)) (oi := { dst := some 4, op := Go.Op.fieldAddr 52 (Go.Operand.tmp 1) 0, type := 0, pos := "ref.go:52", after := #[], guard := none }) rfl rfl (by kernel_rfl) (by kernel_rfl) (by kernel_rfl) (fun _ _ _ h => h) hSp (by rfl) (fun w' hs => by first | rfl | go_simp) ?_
    simp only [Act.put, List.setIfInBounds_toArray, List.set_cons_zero, List.set_cons_succ]
    refine rg_take 1 (some 5) (.int .i64 x.kind) (oi := { dst := some 5, op := Go.Op.load 3 (Go.Operand.tmp 4), type := 3, pos := "ref.go:52", after := #[{ on := 0, ground := Go.Ground.data }], guard := none }) rfl rfl (by kernel_rfl) (by kernel_rfl) (by kernel_rfl) (fun _ _ _ h => h) hSp (by rfl) (fun w' hs => by (have h0 := hs.cell (.inl hbl) b0; go_simp)) ?_
    simp only [Act.put, List.setIfInBounds_toArray, List.set_cons_zero, List.set_cons_succ]
    refine rg_take 3 (some 7) (.pointer (some ⟨w.heap.size, 1, none⟩)) (oi := { dst := some 7, op := Go.Op.fieldAddr 52 (Go.Operand.tmp 1) 1, type := 0, pos := "ref.go:52", after := #[], guard := none }) rfl rfl (by kernel_rfl) (by kernel_rfl) (by kernel_rfl) (fun _ _ _ h => h) hSp (by rfl) (fun w' hs => by first | rfl | go_simp) ?_
    simp only [Act.put, List.setIfInBounds_toArray, List.set_cons_zero, List.set_cons_succ]
    refine rg_take 4 (some 8) (.string (bs x.name)) (oi := { dst := some 8, op := Go.Op.load 9 (Go.Operand.tmp 7), type := 9, pos := "ref.go:52", after := #[{ on := 3, ground := Go.Ground.data }], guard := none }) rfl rfl (by kernel_rfl) (by kernel_rfl) (by kernel_rfl) (fun _ _ _ h => h) hSp (by rfl) (fun w' hs => by (have h0 := hs.cell (.inl hbl) b1; go_simp)) ?_
    simp only [Act.put, List.setIfInBounds_toArray, List.set_cons_zero, List.set_cons_succ]
    refine rg_one 2 (by kernel_rfl) ?_
    refine tk_call 2 (some 6) 19 #[.int .i64 x.kind] rfl rfl (by rfl) (fun w' => by first | rfl | go_simp) (R := fun v w' => w'.ownsRow ((World.drew wb)).heap.size 5 1 v (numZ x.kind).length (rowB (numZ x.kind)) ∧ Ext ((World.drew wb)) w') (HNUM.out _) ?_
    rintro v1 z1 ⟨hr1, hE1⟩
    obtain ⟨g1, c1, rfl, _, _, _⟩ := own_some hr1 (numB_pos _)
    have hS1 := (hSp).ext hE1
    refine ⟨hS1, ?_⟩
    simp only [Act.put, List.setIfInBounds_toArray, List.set_cons_zero, List.set_cons_succ]
    refine rg_one 5 (by kernel_rfl) ?_
    refine tk_call 5 (some 9) 21 #[.string (bs x.name)] rfl rfl (by rfl) (fun w' => by first | rfl | go_simp) (R := fun v w' => w'.ownsRow (z1).heap.size 5 1 v (txtB x.name).length (rowB (txtB x.name)) ∧ Ext (z1) w') (text_any x.name HLN.out.1 _) ?_
    rintro v2 z2 ⟨hr2, hE2⟩
    obtain ⟨g2, c2, rfl, _, _, _⟩ := own_some hr2 (txtB_pos x.name)
    have hr1' := rows_ext hr1 hE2
    have hlt1 := (hr1.lt g1 rfl).2
    clear hr1
    have hr1 := hr1'
    clear hr1'
    have hgt2 := (hr2.lt g2 rfl).1
    have hS2 := (hS1).ext hE2
    refine ⟨hS2, ?_⟩
    simp only [Act.put, List.setIfInBounds_toArray, List.set_cons_zero, List.set_cons_succ]
    refine rg_one 6 (by kernel_rfl) ?_
    have hszb : wb.heap.size ≤ ((World.drew wb)).heap.size := (Ext.refl wb).drew.size
    obtain ⟨hA0, hP0⟩ := two_rows hS2 hr1 hr2 hszb (by omega) (by omega)
    refine tk_appB 6 10 (.tmp 6) (.tmp 9) rfl rfl (by rfl) rfl rfl rfl hA0 hP0 (HLN2.out.1) ?_
    intro d2 y3 hA3 hq3
    refine ⟨hA3.s, ?_⟩
    simp only [Act.put, List.setIfInBounds_toArray, List.set_cons_zero, List.set_cons_succ]
    refine rg_take 7 (some 3) (d2) (oi := { dst := some 3, op := Go.Op.assign (Go.Operand.tmp 10), type := 25, pos := "ref.go:52", after := #[{ on := 6, ground := Go.Ground.data }, { on := 6, ground := Go.Ground.chain }, { on := 0, ground := Go.Ground.phase }, { on := 1, ground := Go.Ground.phase }, { on := 2, ground := Go.Ground.phase }, { on := 3, ground := Go.Ground.phase }, { on := 4, ground := Go.Ground.phase }, { on := 5, ground := Go.Ground.phase }, { on := 6, ground := Go.Ground.phase }], guard := none }) rfl rfl (by kernel_rfl) (by kernel_rfl) (by kernel_rfl) (fun _ _ _ h => h) hA3.s (by rfl) (fun w' hs => by rfl) ?_
    simp only [Act.put, List.setIfInBounds_toArray, List.set_cons_zero, List.set_cons_succ]
    refine rg_done (by kernel_rfl) ?_
    exact ⟨g1, c1, g2, c2, d2, (by first | rfl | simp only [Act.put, List.setIfInBounds_toArray, List.set_cons_zero, List.set_cons_succ]), hA3⟩
  rintro _ wA ⟨g1, c1, g2, c2, d2, rfl, hAA⟩
  simp only [Act.put, List.setIfInBounds_toArray, List.set_cons_zero, List.set_cons_succ]
  have hAA0 := hAA.again
  clear b0 b1
  have b2 := hAA.s.2.1.keep hbl (HBL.out 2 _ rfl); have b3 := hAA.s.2.1.keep hbl (HBL.out 3 _ rfl)
  go_wp2_with fail
  refine region_merge (fun ac ac' w' => ∃ (ga : Nat) (ca : Nat) (gb : Nat) (cb : Nat) (da : Value) (db : Value), ac' = ((((((((((ac.put (some 11) (d2)).put (some 12) (.pointer (some ⟨w.heap.size, 2, none⟩))).put (some 13) (.string (bs x.text))).put (some 14) (.slice (some ⟨ga, 0, none⟩) (txtB x.text).length ca)).put (some 15) (da)).put (some 16) (.pointer (some ⟨w.heap.size, 3, none⟩))).put (some 17) (.slice ka x.attrs.length kc)).put (some 18) (.slice (some ⟨gb, 0, none⟩) (attrsB x.attrs).length cb)).put (some 19) (db)).put (some 3) (db)) ∧ Acc wb w.heap.size wA w' db (((numZ x.kind ++ txtB x.name) ++ txtB x.text) ++ attrsB x.attrs)) ?_ ?_
  · refine rg_begin (S := Sb wb w.heap.size wA) (by kernel_rfl) (Sb.begin hAA.s.2.1 hAA.s.2.2.2) ?_
    have hSs : Sb wb w.heap.size wA (World.drew wA) := (Sb.begin hAA.s.2.1 hAA.s.2.2.2)
    refine rg_take 0 (some 11) (d2) (oi := { dst := some 11, op := Go.Op.move (Go.Operand.tmp 3), type := 25, pos := "ref.go:53", after := #[], guard := none }) rfl rfl (by kernel_rfl) (by kernel_rfl) (by kernel_rfl) (fun _ _ _ h => h) hSs (by rfl) (fun w' hs => by rfl) ?_
    simp only [Act.put, List.setIfInBounds_toArray, List.set_cons_zero, List.set_cons_succ]
    refine rg_take 1 (some 12) (.pointer (some ⟨w.heap.size, 2, none⟩)) (oi := { dst := some 12, op := Go.Op.fieldAddr 52 (Go.Operand.tmp 1) 2, type := 0, pos := "ref.go:53", after := #[], guard := none }) rfl rfl (by kernel_rfl) (by kernel_rfl) (by kernel_rfl) (fun _ _ _ h => h) hSs (by rfl) (fun w' hs => by first | rfl | go_simp) ?_
    simp only [Act.put, List.setIfInBounds_toArray, List.set_cons_zero, List.set_cons_succ]
    refine rg_take 2 (some 13) (.string (bs x.text)) (oi := { dst := some 13, op := Go.Op.load 9 (Go.Operand.tmp 12), type := 9, pos := "ref.go:53", after := #[{ on := 1, ground := Go.Ground.data }], guard := none }) rfl rfl (by kernel_rfl) (by kernel_rfl) (by kernel_rfl) (fun _ _ _ h => h) hSs (by rfl) (fun w' hs => by (have h0 := hs.cell (.inl hbl) b2; go_simp)) ?_
    simp only [Act.put, List.setIfInBounds_toArray, List.set_cons_zero, List.set_cons_succ]
    refine rg_take 5 (some 16) (.pointer (some ⟨w.heap.size, 3, none⟩)) (oi := { dst := some 16, op := Go.Op.fieldAddr 52 (Go.Operand.tmp 1) 3, type := 0, pos := "ref.go:53", after := #[], guard := none }) rfl rfl (by kernel_rfl) (by kernel_rfl) (by kernel_rfl) (fun _ _ _ h => h) hSs (by rfl) (fun w' hs => by first | rfl | go_simp) ?_
    simp only [Act.put, List.setIfInBounds_toArray, List.set_cons_zero, List.set_cons_succ]
    refine rg_take 6 (some 17) (.slice ka x.attrs.length kc) (oi := { dst := some 17, op := Go.Op.load 49 (Go.Operand.tmp 16), type := 49, pos := "ref.go:53", after := #[{ on := 5, ground := Go.Ground.data }], guard := none }) rfl rfl (by kernel_rfl) (by kernel_rfl) (by kernel_rfl) (fun _ _ _ h => h) hSs (by rfl) (fun w' hs => by (have h0 := hs.cell (.inl hbl) b3; go_simp)) ?_
    simp only [Act.put, List.setIfInBounds_toArray, List.set_cons_zero, List.set_cons_succ]
    refine rg_one 3 (by kernel_rfl) ?_
    refine tk_callB 3 14 21 #[.string (bs x.text)] rfl rfl (by rfl) (fun w' => by first | rfl | go_simp) (E := txtB x.text) (txtB_pos x.text) hAA0 (text_any x.text HLN.out.2 _) ?_
    intro ga ca y1s hA1s hE1s hPa
    refine ⟨hA1s.s, ?_⟩
    simp only [Act.put, List.setIfInBounds_toArray, List.set_cons_zero, List.set_cons_succ]
    refine rg_one 4 (by kernel_rfl) ?_
    refine tk_appB 4 15 (.tmp 11) (.tmp 14) rfl rfl (by rfl) rfl rfl rfl hA1s hPa (HLN2.out.2.1) ?_
    intro da y2s hA2s hq2s
    refine ⟨hA2s.s, ?_⟩
    simp only [Act.put, List.setIfInBounds_toArray, List.set_cons_zero, List.set_cons_succ]
    refine rg_one 7 (by kernel_rfl) ?_
    refine tk_callB 7 18 23 #[.slice ka x.attrs.length kc] rfl rfl (by rfl) (fun w' => by first | rfl | go_simp) (E := attrsB x.attrs) (list_pos _ _ _) hA2s (battrs_any _ x.attrs p _ (HKA.out _ hA2s.s.2.1) HLN2.out.2.2.2.2) ?_
    intro gb cb y3s hA3s hE3s hPb
    refine ⟨hA3s.s, ?_⟩
    simp only [Act.put, List.setIfInBounds_toArray, List.set_cons_zero, List.set_cons_succ]
    refine rg_one 8 (by kernel_rfl) ?_
    refine tk_appB 8 19 (.tmp 15) (.tmp 18) rfl rfl (by rfl) rfl rfl rfl hA3s hPb (HLN2.out.2.2.1) ?_
    intro db y4s hA4s hq4s
    refine ⟨hA4s.s, ?_⟩
    simp only [Act.put, List.setIfInBounds_toArray, List.set_cons_zero, List.set_cons_succ]
    refine rg_take 9 (some 3) (db) (oi := { dst := some 3, op := Go.Op.assign (Go.Operand.tmp 19), type := 25, pos := "ref.go:53", after := #[{ on := 8, ground := Go.Ground.data }, { on := 8, ground := Go.Ground.chain }, { on := 0, ground := Go.Ground.phase }, { on := 1, ground := Go.Ground.phase }, { on := 2, ground := Go.Ground.phase }, { on := 3, ground := Go.Ground.phase }, { on := 4, ground := Go.Ground.phase }, { on := 5, ground := Go.Ground.phase }, { on := 6, ground := Go.Ground.phase }, { on := 7, ground := Go.Ground.phase }, { on := 8, ground := Go.Ground.phase }], guard := none }) rfl rfl (by kernel_rfl) (by kernel_rfl) (by kernel_rfl) (fun _ _ _ h => h) hA4s.s (by rfl) (fun w' hs => by rfl) ?_
    simp only [Act.put, List.setIfInBounds_toArray, List.set_cons_zero, List.set_cons_succ]
    refine rg_done (by kernel_rfl) ?_
    exact ⟨ga, ca, gb, cb, da, db, (by first | rfl | simp only [Act.put, List.setIfInBounds_toArray, List.set_cons_zero, List.set_cons_succ]), hA4s⟩
  rintro _ w5s ⟨ga, ca, gb, cb, da, db, rfl, hA5s⟩
  simp only [Act.put, List.setIfInBounds_toArray, List.set_cons_zero, List.set_cons_succ]
  have b4 := hA5s.s.2.1.keep hbl (HBL.out 4 _ rfl)
  have HC := Lib.hid (HKN.out _ hA5s.s.2.1)
  have HA := Lib.hid hA5s
  clear hA5s hAA hAA0 b2 b3
  go_wp2_with fail
  refine HC.out.mono ?_
  rintro e w7 ⟨tv, rfl, hrow, hX7⟩
  obtain ⟨gz, cz, rfl, hPz⟩ := Pend.new (E := nodesB x.kids) HA.out (list_pos _ _ _) hrow
  have HA2 := Lib.hid (And.intro (HA.out.ext hX7) hPz)
  clear HC HA hrow hPz hX7
  go_wp2_with (at_builtin; refine wpList_appB rfl (.tmp 20) (.tmp 23) rfl rfl HA2.out.1 HA2.out.2 rfl HLN2.out.2.2.2.1 ?_; intro d9 w9 hA9)
  go_ret
  refine ⟨_, rfl, ?_, HE.out.trans hA9.s.2.1⟩
  rw [nodeB_eq, show numZ x.kind ++ (txtB x.name ++ (txtB x.text ++ (attrsB x.attrs ++ nodesB x.kids))) = ((((numZ x.kind ++ txtB x.name) ++ txtB x.text) ++ attrsB x.attrs) ++ nodesB x.kids) by simp only [List.append_assoc]]
  exact rows_low hA9.own HE.out.size
theorem bnode_any : ∀ (N : Nat) (x : Node), nsz x ≤ N → okN x = true → BNode x
  | 0, x, h, _ => by cases x; rw [nsz] at h; omega
  | N + 1, x, h, hok => fun p W va vk hva hvk hR => by
    obtain ⟨ka, kc, rfl, _, _⟩ := hva.count z_attr (by omega)
    obtain ⟨na, nc, rfl, _, _⟩ := hvk.count z_node (by omega)
    refine bnode_step W x p ka na kc nc hva hvk ⟨(okN_own hok).1.1, (okN_own hok).1.2.1⟩ (fun y hy => ?_) hR
    obtain ⟨i, hi', e⟩ := List.getElem_of_mem hy
    have := kid_lt x i hi'
    exact bnode_any N y (by rw [← e]; omega) ((okN_own hok).2.2 y hy)

end Go.Proofs.YtghhachbnhldoaaDoor
