/-
  The reference's bytes: texts, attributes. Helper lemmas; no statement of the seat is proved here.
-/
import Derived.Test.YtghhachbnhldoaaDoorC24
namespace Go.Proofs.YtghhachbnhldoaaDoor
open Go.RowKit
set_option maxRecDepth 100000
set_option linter.unusedVariables false
set_option linter.unusedSimpArgs false

/-- What a region keeps that appends to rows of the call's own: what was there at the call's beginning, and one block more. -/
def Sb (w0 : World) (bx : Nat) (wz w' : World) : Prop := Ext w0 wz ∧ Ext w0 w' ∧ w'.heap[bx]? = wz.heap[bx]? ∧ bx < w'.heap.size
theorem Sb.begin {w0 wz : World} {bx : Nat} (h : Ext w0 wz) (hb : bx < wz.heap.size) : Sb w0 bx wz (World.drew wz) := ⟨h, h.drew, Below.block (Ext.refl wz).drew _ hb, Nat.lt_of_lt_of_le hb (Ext.refl wz).drew.size⟩
theorem Sb.ext {w0 wz X X' : World} {bx : Nat} (h : Sb w0 bx wz X) (k : Ext X X') : Sb w0 bx wz X' := ⟨h.1, h.2.1.trans k, (Below.block k _ h.2.2.2).trans h.2.2.1, Nat.lt_of_lt_of_le h.2.2.2 k.size⟩
theorem Sb.cell {w0 wz X : World} {bx : Nat} (h : Sb w0 bx wz X) {b o : Nat} {v : Value} (hb : b < w0.heap.size ∨ b = bx) (hc : wz.cell? ⟨b, o, none⟩ = some v) : X.cell? ⟨b, o, none⟩ = some v := by
  rcases hb with hb | rfl
  · exact (World.cell?_of_block ((Below.block h.2.1 b hb).trans (Below.block h.1 b hb).symm)).trans hc
  · exact (World.cell?_of_block h.2.2.1).trans hc
/-- The row that is appended to. -/
structure Acc (w0 : World) (bx : Nat) (wz X : World) (d : Value) (L : Bytes) : Prop where
  own : X.ownsRow w0.heap.size 5 1 d L.length (rowB L)
  s : Sb w0 bx wz X
  ne : d.ownBlock ≠ some bx
/-- A row that waits to be appended. -/
structure Pend (X : World) (d : Value) (g cap : Nat) (E : Bytes) : Prop where
  cells : ∀ j u, (rowB E)[j]? = some u → X.cell? ((⟨g, 0, none⟩ : Addr).add j) = some u
  lt : g < X.heap.size
  ne : d.ownBlock ≠ some g
section
variable {w0 wz X X' : World} {bx g cap n : Nat} {d d' : Value} {L E : Bytes}
theorem Acc.ext (h : Acc w0 bx wz X d L) (k : Ext X X') : Acc w0 bx wz X' d L := ⟨rows_ext h.own k, h.s.ext k, h.ne⟩
theorem addr0 (g j : Nat) : (⟨g, 0, none⟩ : Addr).add j = ⟨g, j, none⟩ := by unfold Addr.add; split <;> simp_all
theorem Pend.ext (h : Pend X d g cap E) (k : Ext X X') : Pend X' d g cap E := ⟨fun j u hj => by
    have := h.cells j u hj
    rw [addr0] at this ⊢
    exact k.keep h.lt this, Nat.lt_of_lt_of_le h.lt k.size, h.ne⟩
theorem Acc.app (h : Acc w0 bx wz X d L) (hown : X'.ownsRow w0.heap.size 5 1 d' n (rowB L ++ rowB E)) (hn : n = L.length + E.length) (hg : X.grownBy X' d.ownBlock) (hat : d'.ownBlock = d.ownBlock ∨ d'.ownBlock = some X.heap.size) : Acc w0 bx wz X' d' (L ++ E) := by
  subst hn
  refine ⟨by rw [List.length_append, rowB_app]; exact hown, ⟨h.s.1, Below.grown h.s.2.1 hg (Below.size h.s.2.1) fun k hk => (h.own.lt k hk).1, (hg.block _ h.s.2.2.2 fun e => h.ne e.symm).trans h.s.2.2.1, Nat.lt_of_lt_of_le h.s.2.2.2 hg.size⟩, ?_⟩
  rcases hat with e | e
  · rw [e]; exact h.ne
  · rw [e]; intro e2; have := Option.some.inj e2; have := h.s.2.2.2; omega
theorem Pend.app (h : Pend X d g cap E) (hg : X.grownBy X' d.ownBlock) (hat : d'.ownBlock = d.ownBlock ∨ d'.ownBlock = some X.heap.size) : Pend X' d' g cap E := by
  refine ⟨fun j u hj => ?_, Nat.lt_of_lt_of_le h.lt hg.size, ?_⟩
  · have := h.cells j u hj
    rw [addr0] at this ⊢
    exact (World.cell?_of_block (hg.block _ h.lt fun e => h.ne e.symm)).trans this
  · rcases hat with e | e
    · rw [e]; exact h.ne
    · rw [e]; intro e2; have := Option.some.inj e2; have := h.lt; omega
/-- A row that a call gave. -/
theorem Pend.new (hA : Acc w0 bx wz X d L) {v : Value} (hE : 0 < E.length) (hr : X'.ownsRow X.heap.size 5 1 v E.length (rowB E)) : ∃ g cap, v = .slice (some ⟨g, 0, none⟩) E.length cap ∧ Pend X' d g cap E := by
  obtain ⟨g, cap, e, hb, hl, hc⟩ := own_some hr hE
  exact ⟨g, cap, e, hc, hl, fun e2 => by have := (hA.own.lt g e2).2; omega⟩
end
section
variable {ops : Array Oper} {Q : Exit → Act → World → Prop} {a : Act} {w : World} {K : Act → World → Prop}
theorem tk_appB (i : Nat) (k : Tmp) (s x : Operand) {oi : Oper} (hi' : ops[i]? = some oi) (hd : oi.dst = some k) (hw : Region.wanted oi (yielded ops a.tmps) = true) (ho : oi.op = .call { callee := .builtin .append, args := #[s, x], argTypes := #[25, 25] })
    {w0 wz : World} {bx g cap : Nat} {d : Value} {L E : Bytes} (hs : a.eval s = d) (hx : a.eval x = .slice (some ⟨g, 0, none⟩) E.length cap) (hA : Acc w0 bx wz w d L) (hP : Pend w d g cap E) (hl : (L ++ E).length ≤ 1000000000000)
    (h : ∀ d' w', Acc w0 bx wz w' d' (L ++ E) → (∀ g' cap' E', Pend w d g' cap' E' → Pend w' d' g' cap' E') → K (a.put (some k) d') w') : wpOp Tryd.prog ops Q i K a w := by
  obtain ⟨i0, hi0', hz0, hz1, hz2⟩ := info_parts infoU8
  rw [List.length_append] at hl
  refine tk_app i (some k) hi' hd hw s x 25 ho w0.heap.size 5 i0 (.int .u8 0) 1 1 Tryd.underlying25 hi0' hz0 hz1 hz2 rfl (by decide) d L.length (rowB L) hs hA.own ⟨g, 0, none⟩ E.length cap (rowB E) hx (by rw [rowB_len, Nat.mul_one]) hP.cells (rowB_one E) (by unfold maxLen; omega) (by omega) hA.s.2.1.size ?_
  intro v' w' h1 h2 h3
  exact h v' w' (hA.app h1 rfl h2 h3) fun g' cap' E' hp => hp.app h2 h3
theorem tk_callB (i : Nat) (k : Tmp) (f : FuncId) (vals : Array Value) {oi : Oper} (hi : ops[i]? = some oi) (hd : oi.dst = some k) (hw : Region.wanted oi (yielded ops a.tmps) = true) (hrun : ∀ w', (execOp a.eval oi).run Tryd.prog w' = .ok (.enter f vals) w')
    {w0 wz : World} {bx : Nat} {d : Value} {L E : Bytes} (hE : 0 < E.length) (hA : Acc w0 bx wz w d L) (hc : Calls Tryd.prog f vals w (RB w E))
    (h : ∀ g cap w', Acc w0 bx wz w' d L → Ext w w' → Pend w' d g cap E → K (a.put (some k) (.slice (some ⟨g, 0, none⟩) E.length cap)) w') : wpOp Tryd.prog ops Q i K a w := by
  refine tk_call i (some k) f vals hi hd hw hrun (R := fun v w' => w'.ownsRow w.heap.size 5 1 v E.length (rowB E) ∧ Ext w w') hc fun v w' ⟨hr, hX⟩ => ?_
  obtain ⟨g, cap, rfl, hP⟩ := Pend.new hA hE hr
  exact h g cap w' (hA.ext hX) hX hP
theorem wpList_appB {rest : List Oper} {o : Oper} (hgd : o.guard = none) (s x : Operand) (ho : o.op = .call { callee := .builtin .append, args := #[s, x], argTypes := #[25, 25] })
    {w0 wz : World} {bx g cap : Nat} {d : Value} {L E : Bytes} (hs : a.eval s = d) (hA : Acc w0 bx wz w d L) (hP : Pend w d g cap E) (hx : a.eval x = .slice (some ⟨g, 0, none⟩) E.length cap) (hl : (L ++ E).length ≤ 1000000000000)
    (h : ∀ d' w', Acc w0 bx wz w' d' (L ++ E) → wpList Tryd.prog ops Q rest (a.put o.dst d') w') : wpList Tryd.prog ops Q (o :: rest) a w := by
  obtain ⟨i0, hi0', hz0, hz1, hz2⟩ := info_parts infoU8
  rw [List.length_append] at hl
  refine wpList_append_own_at w hgd s x 25 ho w0.heap.size 5 i0 (.int .u8 0) 1 1 Tryd.underlying25 hi0' hz0 hz1 hz2 rfl (by decide) d L.length (rowB L) hs hA.own ⟨g, 0, none⟩ E.length cap (rowB E) hx (by rw [rowB_len, Nat.mul_one]) hP.cells (rowB_one E) (by unfold maxLen; omega) (by omega) hA.s.2.1.size ?_
  intro v' w' h1 h2 _ h3
  exact h v' w' (hA.app h1 rfl h2 h3)
/-- One of three operations comes up. -/
theorem rg_three {P : Program} {S : World → Prop} {fuel : Nat} {listed : Array Bool} (i j k : Nat) (hr : Region.ready .any ops listed = [i, j, k]) (h1 : wpOp P ops Q i (fun a w => S w ∧ wpAnyH P .any ops Q S fuel (listed.setIfInBounds i true) a w) a w)
    (h2 : wpOp P ops Q j (fun a w => S w ∧ wpAnyH P .any ops Q S fuel (listed.setIfInBounds j true) a w) a w) (h3 : wpOp P ops Q k (fun a w => S w ∧ wpAnyH P .any ops Q S fuel (listed.setIfInBounds k true) a w) a w) : wpAnyH P .any ops Q S (fuel + 1) listed a w := by
  refine wpAnyH_all hr (by simp) fun m hm => ?_
  have hm' : m = i ∨ m = j ∨ m = k := by simpa using hm
  rcases hm' with rfl | rfl | rfl
  · exact h1
  · exact h2
  · exact h3
end
set_option maxHeartbeats 16000000 in
theorem btexts_any (w : World) (l : List Bytes) (p : Nat → Prop) (v : Value) (hv : Rep w p v (strsD l)) (hR : (txtsB l).length ≤ 1000000000000) :
    Calls Tryd.prog 22 #[v] w (RB w (txtsB l)) := by
  obtain ⟨a, c, rfl, _, _⟩ := hv.count z_str (by omega)
  obtain ⟨R, hRR⟩ : ∃ R, txtsB l = R := ⟨_, rfl⟩
  rw [hRR] at hR ⊢
  have hll : l.length ≤ 1000000000000 := by
    have h1 := flat_le txtB txtB_pos l
    have h2 : (txtsB l).length = (numB l.length).length + (l.flatMap txtB).length := by show (numB l.length ++ l.flatMap txtB).length = _; rw [List.length_append]
    rw [hRR] at h2; omega
  have HC := Lib.hid (num_any l.length (by omega) w)
  have HRR := Lib.hid (show numB l.length ++ (l.drop 0).flatMap txtB = R from hRR)
  clear hRR
  have hv_at := fun i (hi : i < l.length) => str_at hv i hi
  go_enter Tryd.func22, Tryd.ntmps22
  go_wp2_with fail
  refine HC.out.mono ?_
  rintro e w1 ⟨dv, rfl, hown, hX1⟩
  have H1 := Lib.hid (And.intro hown hX1)
  clear hown hX1 HC
  go_wp2_with fail
  go_loopw [3, 4] (fun nv t wr => ∃ (i : Nat) (L' : Bytes) (dv : Value), t = .int .i64 i ∧ dv = nv ∧ i ≤ l.length ∧ Hid (wr.ownsRow w.heap.size 5 1 dv L'.length (rowB L') ∧ L' ++ (l.drop i).flatMap txtB = R ∧ Ext w wr)) (fun _ t _ => downV l.length t)
  case atStart => exact ⟨0, _, _, rfl, rfl, Nat.zero_le _, Lib.hid ⟨H1.out.1, HRR.out, H1.out.2⟩⟩
  case round =>
    obtain ⟨i, L', dv, rfl, rfl, hi, HH⟩ := hrel
    clear HRR H1
    have hi0 : (0 : Int) ≤ (i : Int) := by omega
    have hi12 : (i : Int) ≤ 1000000000000 := by omega
    by_cases hlt : i < l.length
    · have hlI : (i : Int) < (l.length : Int) := by omega
      obtain ⟨gd, od, hgd, lgd, _, d0⟩ := hv_at i hlt
      subst hgd
      have hX := HH.out.2.2
      have hS : (L' ++ txtB l[i]) ++ (l.drop (i + 1)).flatMap txtB = R := by
        have h := HH.out.2.1
        rw [drop_one l i hlt, List.flatMap_cons, ← List.append_assoc] at h; exact h
      have hSl : (L' ++ txtB l[i]).length ≤ 1000000000000 := by rw [← hS, List.length_append] at hR; omega
      have hel : (txtB l[i]).length ≤ 1000000000000 := by rw [List.length_append] at hSl; omega
      have n0 := hX.keep lgd d0
      obtain ⟨x, hx⟩ : ∃ x, l[i] = x := ⟨_, rfl⟩
      have HON := Lib.hid (text_any l[i] (by unfold txtB at hel; rw [List.length_append] at hel; omega) wr)
      rw [hx] at hS hSl HON n0
      have HS := Lib.hid hS
      have HSL := Lib.hid hSl
      have hA0 : Acc w gd wr wr dv L' := ⟨HH.out.1, ⟨hX, hX, rfl, Nat.lt_of_lt_of_le lgd hX.size⟩, fun e => by have := (HH.out.1.lt gd e).1; omega⟩
      have HA0 := Lib.hid hA0
      clear hx hS hSl hel hA0
      go_wp2_with fail
      refine HON.out.mono ?_
      rintro e w3 ⟨tv, rfl, hrow, hX3⟩
      obtain ⟨g, cap, rfl, hP⟩ := Pend.new HA0.out (txtB_pos x) hrow
      have HA := Lib.hid (And.intro (HA0.out.ext hX3) hP)
      clear HON HA0 hrow hP hX3
      go_wp2_with (at_builtin; refine wpList_appB rfl (.tmp 14) (.tmp 19) rfl rfl HA.out.1 HA.out.2 rfl HSL.out ?_; intro d5 w5 hA5)
      have HF := Lib.hid (And.intro hA5.own hA5.s.2.1)
      clear hA5
      go_roundw
      case rel => exact ⟨i + 1, _, _, by go_num, rfl, by omega, Lib.hid ⟨HF.out.1, HS.out, HF.out.2⟩⟩
      case measure => simp only [downV]; omega
    · have hlI : ¬ (i : Int) < (l.length : Int) := by omega
      have hF : RB w R (.returned dv) wr := by
        obtain ⟨h1, h2, h3⟩ := HH.out
        rw [List.drop_of_length_le (by omega)] at h2
        simp only [List.flatMap_nil, List.append_nil] at h2
        rw [← h2]
        exact ⟨_, rfl, h1, h3⟩
      have HF := Lib.hid hF
      clear hF HH
      go_wp2_with fail
      go_ret
      exact HF.out
set_option maxHeartbeats 16000000 in
theorem battrs_any (w : World) (l : List Attr) (p : Nat → Prop) (v : Value) (hv : Rep w p v (attrsD l)) (hR : (attrsB l).length ≤ 1000000000000) :
    Calls Tryd.prog 23 #[v] w (RB w (attrsB l)) := by
  obtain ⟨a, c, rfl, _, _⟩ := hv.count z_attr (by omega)
  obtain ⟨R, hRR⟩ : ∃ R, attrsB l = R := ⟨_, rfl⟩
  rw [hRR] at hR ⊢
  have hll : l.length ≤ 1000000000000 := by
    have h1 := flat_le attrB attrB_pos l
    have h2 : (attrsB l).length = (numB l.length).length + (l.flatMap attrB).length := by show (numB l.length ++ l.flatMap attrB).length = _; rw [List.length_append]
    rw [hRR] at h2; omega
  have HC := Lib.hid (num_any l.length (by omega) w)
  have HRR := Lib.hid (show numB l.length ++ (l.drop 0).flatMap attrB = R from hRR)
  clear hRR
  have hv_at := fun i (hi : i < l.length) => attr_at hv i hi
  go_enter Tryd.func23, Tryd.ntmps23
  go_wp2_with fail
  refine HC.out.mono ?_
  rintro e w1 ⟨dv, rfl, hown, hX1⟩
  have H1 := Lib.hid (And.intro hown hX1)
  clear hown hX1 HC
  go_wp2_with fail
  go_loopw [3, 4] (fun nv t wr => ∃ (i : Nat) (L' : Bytes) (dv : Value), t = .int .i64 i ∧ dv = nv ∧ i ≤ l.length ∧ Hid (wr.ownsRow w.heap.size 5 1 dv L'.length (rowB L') ∧ L' ++ (l.drop i).flatMap attrB = R ∧ Ext w wr)) (fun _ t _ => downV l.length t)
  case atStart => exact ⟨0, _, _, rfl, rfl, Nat.zero_le _, Lib.hid ⟨H1.out.1, HRR.out, H1.out.2⟩⟩
  case round =>
    obtain ⟨i, L', dv, rfl, rfl, hi, HH⟩ := hrel
    clear HRR H1
    have hi0 : (0 : Int) ≤ (i : Int) := by omega
    have hi12 : (i : Int) ≤ 1000000000000 := by omega
    by_cases hlt : i < l.length
    · have hlI : (i : Int) < (l.length : Int) := by omega
      obtain ⟨gd, od, hgd, lgd, _, d0, d1⟩ := hv_at i hlt
      subst hgd
      have hX := HH.out.2.2
      have hS : (L' ++ attrB l[i]) ++ (l.drop (i + 1)).flatMap attrB = R := by
        have h := HH.out.2.1
        rw [drop_one l i hlt, List.flatMap_cons, ← List.append_assoc] at h; exact h
      have hSl : (L' ++ attrB l[i]).length ≤ 1000000000000 := by rw [← hS, List.length_append] at hR; omega
      have hel : (attrB l[i]).length ≤ 1000000000000 := by rw [List.length_append] at hSl; omega
      have n0 := hX.keep lgd d0
      have n1 := hX.keep lgd d1
      obtain ⟨x, hx⟩ : ∃ x, l[i] = x := ⟨_, rfl⟩
      rw [hx] at hS hSl hel n0 n1
      have hA0 : Acc w gd wr (World.drew wr) dv L' := Acc.ext ⟨HH.out.1, ⟨hX, hX, rfl, Nat.lt_of_lt_of_le lgd hX.size⟩, fun e => by have := (HH.out.1.lt gd e).1; omega⟩ (Ext.refl wr).drew
      have HLN := Lib.hid (show x.n.length ≤ 1000000000000 ∧ x.v.length ≤ 1000000000000 by unfold attrB txtB at hel; simp only [List.length_append] at hel; omega)
      have HLN2 := Lib.hid (show (L' ++ txtB x.n).length ≤ 1000000000000 ∧ ((L' ++ txtB x.n) ++ txtB x.v).length ≤ 1000000000000 by unfold attrB at hSl; simp only [List.length_append] at hSl ⊢; omega)
      have HS := Lib.hid (show ((L' ++ txtB x.n) ++ txtB x.v) ++ (l.drop (i + 1)).flatMap attrB = R by rw [← hS]; unfold attrB; simp only [List.append_assoc])
      have HA0 := Lib.hid hA0
      clear hx hS hSl hel hA0
      go_wp2_with fail
      refine region_merge (fun ac ac' w' => ∃ (g1 : Nat) (c1 : Nat) (g2 : Nat) (c2 : Nat) (d1 : Value) (d2 : Value), ac' = ((((((((((((((((ac.put (some 14) (dv)).put (some 15) (.slice (some ⟨gd, od, none⟩) l.length c)).put (some 16) (.int .i64 i)).put (some 17) (.pointer (some ⟨gd, od + i * 2, none⟩))).put (some 18) (.pointer (some ⟨gd, od + i * 2, none⟩))).put (some 19) (.string (bs x.n))).put (some 20) (.slice (some ⟨g1, 0, none⟩) (txtB x.n).length c1)).put (some 21) (d1)).put (some 22) (.slice (some ⟨gd, od, none⟩) l.length c)).put (some 23) (.int .i64 i)).put (some 24) (.pointer (some ⟨gd, od + i * 2, none⟩))).put (some 25) (.pointer (some ⟨gd, od + i * 2 + 1, none⟩))).put (some 26) (.string (bs x.v))).put (some 27) (.slice (some ⟨g2, 0, none⟩) (txtB x.v).length c2)).put (some 28) (d2)).put (some 3) (d2)) ∧ Acc w gd wr w' d2 ((L' ++ txtB x.n) ++ txtB x.v)) ?_ ?_
      · refine rg_begin (S := Sb w gd wr) (by kernel_rfl) (Sb.begin hX (Nat.lt_of_lt_of_le lgd hX.size)) ?_
        have hSr : Sb w gd wr (World.drew wr) := (Sb.begin hX (Nat.lt_of_lt_of_le lgd hX.size))
        refine rg_take 0 (some 14) (dv) (oi := { dst := some 14, op := Go.Op.move (Go.Operand.tmp 3), type := 25, pos := "ref.go:36", after := #[], guard := none }) rfl rfl (by kernel_rfl) (by kernel_rfl) (by kernel_rfl) (fun _ _ _ h => h) hSr (by rfl) (fun w' hs => by rfl) ?_
        simp only [Act.put, List.setIfInBounds_toArray, List.set_cons_zero, List.set_cons_succ]
        refine rg_take 1 (some 15) (.slice (some ⟨gd, od, none⟩) l.length c) (oi := { dst := some 15, op := Go.Op.move (Go.Operand.tmp 0), type := 49, pos := "ref.go:36", after := #[], guard := none }) rfl rfl (by kernel_rfl) (by kernel_rfl) (by kernel_rfl) (fun _ _ _ h => h) hSr (by rfl) (fun w' hs => by rfl) ?_
        simp only [Act.put, List.setIfInBounds_toArray, List.set_cons_zero, List.set_cons_succ]
        refine rg_take 2 (some 16) (.int .i64 i) (oi := { dst := some 16, op := Go.Op.move (Go.Operand.tmp 4), type := 3, pos := "ref.go:36", after := #[], guard := none }) rfl rfl (by kernel_rfl) (by kernel_rfl) (by kernel_rfl) (fun _ _ _ h => h) hSr (by rfl) (fun w' hs => by rfl) ?_
        simp only [Act.put, List.setIfInBounds_toArray, List.set_cons_zero, List.set_cons_succ]
        refine rg_take 3 (some 17) (.pointer (some ⟨gd, od + i * 2, none⟩)) (oi := { dst := some 17, op := Go.Op.indexAddr 49 (Go.Operand.tmp 15) (Go.Operand.tmp 16), type := 0, pos := "ref.go:36", after := #[{ on := 1, ground := Go.Ground.data }, { on := 2, ground := Go.Ground.data }], guard := none }) rfl rfl (by kernel_rfl) (by kernel_rfl) (by kernel_rfl) (fun _ _ _ h => h) hSr (by rfl) (fun w' hs => by first | rfl | go_simp) ?_
        simp only [Act.put, List.setIfInBounds_toArray, List.set_cons_zero, List.set_cons_succ]
        refine rg_take 4 (some 18) (.pointer (some ⟨gd, od + i * 2, none⟩)) (oi := { dst := some 18, op := Go.Op.fieldAddr 101 (Go.Operand.tmp 17) 0, type := 0, pos := "ref.go:36", after := #[{ on := 3, ground := Go.Ground.data }], guard := none }) rfl rfl (by kernel_rfl) (by kernel_rfl) (by kernel_rfl) (fun _ _ _ h => h) hSr (by rfl) (fun w' hs => by first | rfl | go_simp) ?_
        simp only [Act.put, List.setIfInBounds_toArray, List.set_cons_zero, List.set_cons_succ]
        refine rg_take 5 (some 19) (.string (bs x.n)) (oi := { dst := some 19, op := Go.Op.load 9 (Go.Operand.tmp 18), type := 9, pos := "ref.go:36", after := #[{ on := 4, ground := Go.Ground.data }], guard := none }) rfl rfl (by kernel_rfl) (by kernel_rfl) (by kernel_rfl) (fun _ _ _ h => h) hSr (by rfl) (fun w' hs => by (have h0 := hs.cell (.inl lgd) n0; go_simp)) ?_
        simp only [Act.put, List.setIfInBounds_toArray, List.set_cons_zero, List.set_cons_succ]
        refine rg_take 8 (some 22) (.slice (some ⟨gd, od, none⟩) l.length c) (oi := { dst := some 22, op := Go.Op.move (Go.Operand.tmp 0), type := 49, pos := "ref.go:36", after := #[], guard := none }) rfl rfl (by kernel_rfl) (by kernel_rfl) (by kernel_rfl) (fun _ _ _ h => h) hSr (by rfl) (fun w' hs => by rfl) ?_
        simp only [Act.put, List.setIfInBounds_toArray, List.set_cons_zero, List.set_cons_succ]
        refine rg_take 9 (some 23) (.int .i64 i) (oi := { dst := some 23, op := Go.Op.move (Go.Operand.tmp 4), type := 3, pos := "ref.go:36", after := #[], guard := none }) rfl rfl (by kernel_rfl) (by kernel_rfl) (by kernel_rfl) (fun _ _ _ h => h) hSr (by rfl) (fun w' hs => by rfl) ?_
        simp only [Act.put, List.setIfInBounds_toArray, List.set_cons_zero, List.set_cons_succ]
        refine rg_take 10 (some 24) (.pointer (some ⟨gd, od + i * 2, none⟩)) (oi := { dst := some 24, op := Go.Op.indexAddr 49 (Go.Operand.tmp 22) (Go.Operand.tmp 23), type := 0, pos := "ref.go:36", after := #[{ on := 8, ground := Go.Ground.data }, { on := 9, ground := Go.Ground.data }], guard := none }) rfl rfl (by kernel_rfl) (by kernel_rfl) (by kernel_rfl) (fun _ _ _ h => h) hSr (by rfl) (fun w' hs => by first | rfl | go_simp) ?_
        simp only [Act.put, List.setIfInBounds_toArray, List.set_cons_zero, List.set_cons_succ]
        refine rg_take 11 (some 25) (.pointer (some ⟨gd, od + i * 2 + 1, none⟩)) (oi := { dst := some 25, op := Go.Op.fieldAddr 101 (Go.Operand.tmp 24) 1, type := 0, pos := "ref.go:36", after := #[{ on := 10, ground := Go.Ground.data }], guard := none }) rfl rfl (by kernel_rfl) (by kernel_rfl) (by kernel_rfl) (fun _ _ _ h => h) hSr (by rfl) (fun w' hs => by first | rfl | go_simp) ?_
        simp only [Act.put, List.setIfInBounds_toArray, List.set_cons_zero, List.set_cons_succ]
        refine rg_take 12 (some 26) (.string (bs x.v)) (oi := { dst := some 26, op := Go.Op.load 9 (Go.Operand.tmp 25), type := 9, pos := "ref.go:36", after := #[{ on := 11, ground := Go.Ground.data }], guard := none }) rfl rfl (by kernel_rfl) (by kernel_rfl) (by kernel_rfl) (fun _ _ _ h => h) hSr (by rfl) (fun w' hs => by (have h0 := hs.cell (.inl lgd) n1; go_simp)) ?_
        simp only [Act.put, List.setIfInBounds_toArray, List.set_cons_zero, List.set_cons_succ]
        refine rg_one 6 (by kernel_rfl) ?_
        refine tk_callB 6 20 21 #[.string (bs x.n)] rfl rfl (by rfl) (fun w' => by first | rfl | go_simp) (txtB_pos x.n) HA0.out (text_any x.n (by exact HLN.out.1) _) ?_
        intro g1 c1 y1 hA1 hE1 hP1
        refine ⟨hA1.s, ?_⟩
        simp only [Act.put, List.setIfInBounds_toArray, List.set_cons_zero, List.set_cons_succ]
        refine rg_one 7 (by kernel_rfl) ?_
        refine tk_appB 7 21 (.tmp 14) (.tmp 20) rfl rfl (by rfl) rfl rfl rfl hA1 hP1 (HLN2.out.1) ?_
        intro d1 y2 hA2 hq2
        refine ⟨hA2.s, ?_⟩
        simp only [Act.put, List.setIfInBounds_toArray, List.set_cons_zero, List.set_cons_succ]
        refine rg_one 13 (by kernel_rfl) ?_
        refine tk_callB 13 27 21 #[.string (bs x.v)] rfl rfl (by rfl) (fun w' => by first | rfl | go_simp) (txtB_pos x.v) hA2 (text_any x.v (by exact HLN.out.2) _) ?_
        intro g2 c2 y3 hA3 hE3 hP2
        refine ⟨hA3.s, ?_⟩
        simp only [Act.put, List.setIfInBounds_toArray, List.set_cons_zero, List.set_cons_succ]
        refine rg_one 14 (by kernel_rfl) ?_
        refine tk_appB 14 28 (.tmp 21) (.tmp 27) rfl rfl (by rfl) rfl rfl rfl hA3 hP2 (HLN2.out.2) ?_
        intro d2 y4 hA4 hq4
        refine ⟨hA4.s, ?_⟩
        simp only [Act.put, List.setIfInBounds_toArray, List.set_cons_zero, List.set_cons_succ]
        refine rg_take 15 (some 3) (d2) (oi := { dst := some 3, op := Go.Op.assign (Go.Operand.tmp 28), type := 25, pos := "ref.go:36", after := #[{ on := 14, ground := Go.Ground.data }, { on := 14, ground := Go.Ground.chain }, { on := 0, ground := Go.Ground.phase }, { on := 1, ground := Go.Ground.phase }, { on := 2, ground := Go.Ground.phase }, { on := 3, ground := Go.Ground.phase }, { on := 4, ground := Go.Ground.phase }, { on := 5, ground := Go.Ground.phase }, { on := 6, ground := Go.Ground.phase }, { on := 7, ground := Go.Ground.phase }, { on := 8, ground := Go.Ground.phase }, { on := 9, ground := Go.Ground.phase }, { on := 10, ground := Go.Ground.phase }, { on := 11, ground := Go.Ground.phase }, { on := 12, ground := Go.Ground.phase }, { on := 13, ground := Go.Ground.phase }, { on := 14, ground := Go.Ground.phase }], guard := none }) rfl rfl (by kernel_rfl) (by kernel_rfl) (by kernel_rfl) (fun _ _ _ h => h) hA4.s (by rfl) (fun w' hs => by rfl) ?_
        simp only [Act.put, List.setIfInBounds_toArray, List.set_cons_zero, List.set_cons_succ]
        refine rg_done (by kernel_rfl) ?_
        exact ⟨g1, c1, g2, c2, d1, d2, (by simp only [Act.put, List.setIfInBounds_toArray, List.set_cons_zero, List.set_cons_succ]), hA4⟩
      rintro _ w5 ⟨g1, c1, g2, c2, d1, d2, rfl, hA5⟩
      simp only [Act.put, List.setIfInBounds_toArray, List.set_cons_zero, List.set_cons_succ]
      go_wp2_with fail
      have HF := Lib.hid (And.intro hA5.own hA5.s.2.1)
      clear hA5
      go_roundw
      case rel => exact ⟨i + 1, _, _, by go_num, rfl, by omega, Lib.hid ⟨HF.out.1, HS.out, HF.out.2⟩⟩
      case measure => simp only [downV]; omega
    · have hlI : ¬ (i : Int) < (l.length : Int) := by omega
      have hF : RB w R (.returned dv) wr := by
        obtain ⟨h1, h2, h3⟩ := HH.out
        rw [List.drop_of_length_le (by omega)] at h2
        simp only [List.flatMap_nil, List.append_nil] at h2
        rw [← h2]
        exact ⟨_, rfl, h1, h3⟩
      have HF := Lib.hid hF
      clear hF HH
      go_wp2_with fail
      go_ret
      exact HF.out

end Go.Proofs.YtghhachbnhldoaaDoor
