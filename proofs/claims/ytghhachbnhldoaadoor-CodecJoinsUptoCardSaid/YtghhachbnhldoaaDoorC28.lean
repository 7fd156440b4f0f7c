/-
  ref18.Edits. Helper lemmas; no statement of the seat is proved here.
-/
import Derived.Test.YtghhachbnhldoaaDoorC27
namespace Go.Proofs.YtghhachbnhldoaaDoor
open Go.RowKit
set_option maxRecDepth 100000
set_option linter.unusedVariables false
set_option linter.unusedSimpArgs false

theorem Acc.chain {w0 wz X Y : World} {bx : Nat} {d d' : Value} {L L' : Bytes} (h1 : Acc w0 bx wz X d L) (h2 : Acc w0 bx X Y d' L') : Acc w0 bx wz Y d' L' := ⟨h2.own, ⟨h1.s.1, h2.s.2.1, h2.s.2.2.1.trans h1.s.2.2.1, h2.s.2.2.2⟩, h2.ne⟩
theorem Acc.box {w0 X : World} {d : Value} {L : Bytes} (hown : X.ownsRow w0.heap.size 5 1 d L.length (rowB L)) (hX : Ext w0 X) (cs : Array Value) (T : TypeId) : Acc w0 X.heap.size (X.alloc (.cells cs T)) (X.alloc (.cells cs T)) d L :=
  ⟨rows_ext hown ((Ext.refl X).alloc _), ⟨hX.alloc _, hX.alloc _, rfl, by simp⟩, fun e => by have := (hown.lt _ e).2; omega⟩
set_option maxHeartbeats 64000000 in
theorem bedits_any (w : World) (l : List Edit) (p : Nat → Prop) (v : Value) (hv : Rep w p v (editsD l)) (hR : (editsB l).length ≤ 1000000000000) (hok : ∀ x ∈ l, rngE x = true) :
    Calls Tryd.prog 7 #[v] w (RB w (encE l)) := by
  obtain ⟨a, c, rfl, _, _⟩ := hv.count z_edit (by omega)
  obtain ⟨R, hRR⟩ : ∃ R, editsB l = R := ⟨_, rfl⟩
  obtain ⟨NG, hNG⟩ : ∃ R, l.any negE = R := ⟨_, rfl⟩
  have hll : l.length ≤ 1000000000000 := by
    have h1 := flat_le editB editB_pos l
    have h2 : (editsB l).length = (numB l.length).length + (l.flatMap editB).length := by show (numB l.length ++ l.flatMap editB).length = _; rw [List.length_append]
    omega
  rw [show encE l = if NG then [] else R by unfold encE; rw [hNG, hRR]]
  rw [hRR] at hR
  obtain ⟨RR, hRES⟩ : ∃ r, (if NG then [] else R) = r := ⟨_, rfl⟩
  rw [hRES]
  have HRES := Lib.hid hRES
  have HC := Lib.hid (num_any l.length (by omega) w)
  have HRR := Lib.hid (show numB l.length ++ (l.drop 0).flatMap editB = R ∧ (l.drop 0).any negE = NG from ⟨hRR, hNG⟩)
  have HOK := Lib.hid hok
  clear hRR hNG hok hRES
  have hv_at := fun i (hi : i < l.length) => edit_at hv i hi
  go_enter Tryd.func7, Tryd.ntmps7
  go_wp2_with fail
  refine HC.out.mono ?_
  rintro e w1 ⟨dv, rfl, hown, hX1⟩
  have H1 := Lib.hid (And.intro hown hX1)
  clear hown hX1 HC
  go_wp2_with fail
  go_loopw [3, 4, 5, 6] (fun nv t _ _ wr => ∃ (i : Nat) (L' : Bytes) (dv : Value), t = .int .i64 i ∧ dv = nv ∧ i ≤ l.length ∧ Hid (wr.ownsRow w.heap.size 5 1 dv L'.length (rowB L') ∧ L' ++ (l.drop i).flatMap editB = R ∧ (l.drop i).any negE = NG ∧ Ext w wr)) (fun _ t _ _ _ => downV l.length t)
  case atStart => exact ⟨0, _, _, rfl, rfl, Nat.zero_le _, Lib.hid ⟨H1.out.1, HRR.out.1, HRR.out.2, H1.out.2⟩⟩
  case round =>
    obtain ⟨i, L', dv, rfl, rfl, hi, HH⟩ := hrel
    obtain ⟨wo, hwo⟩ : ∃ wo, wo = wr := ⟨_, rfl⟩
    subst hwo
    clear HRR H1
    have hi0 : (0 : Int) ≤ (i : Int) := by omega
    have hi12 : (i : Int) ≤ 1000000000000 := by omega
    by_cases hlt : i < l.length
    · have hlI : (i : Int) < (l.length : Int) := by omega
      obtain ⟨gl, ol, y1, y2, y3, y7, y8, hgl, lgl, _, d0, d1, d2, d3, d4, d5, d6, d7, d8, h1u, h2u, h3u, h7u, h8u⟩ := hv_at i hlt
      subst hgl
      have hX := HH.out.2.2.2
      have hrng := HOK.out _ (List.getElem_mem hlt)
      have hS : (L' ++ editB l[i]) ++ (l.drop (i + 1)).flatMap editB = R := by
        have h := HH.out.2.1
        rw [drop_one l i hlt, List.flatMap_cons, ← List.append_assoc] at h; exact h
      have hN : (negE l[i] || (l.drop (i + 1)).any negE) = NG := by have h := HH.out.2.2.1; rw [drop_one l i hlt, List.any_cons] at h; exact h
      have hSl : (L' ++ editB l[i]).length ≤ 1000000000000 := by rw [← hS, List.length_append] at hR; omega
      obtain ⟨x, hx⟩ : ∃ x, l[i] = x := ⟨_, rfl⟩
      rw [hx] at hrng hS hN hSl d0 d4 d5 d6 h1u h2u h3u h7u h8u
      obtain ⟨pa, pc, rfl, _, _⟩ := h1u.count z_step (by omega)
      obtain ⟨ka, kc, rfl, _, _⟩ := h2u.count z_attr (by omega)
      obtain ⟨na, nc, rfl, _, _⟩ := h3u.count z_node (by omega)
      obtain ⟨ma, mc, rfl, _, _⟩ := h7u.count z_attr (by omega)
      obtain ⟨qa, qc, rfl, _, _⟩ := h8u.count z_node (by omega)
      have n0 := hX.keep lgl d0
      have n1 := hX.keep lgl d1
      have n2 := hX.keep lgl d2
      have n3 := hX.keep lgl d3
      have n4 := hX.keep lgl d4
      have n5 := hX.keep lgl d5
      have n6 := hX.keep lgl d6
      have n7 := hX.keep lgl d7
      have n8 := hX.keep lgl d8
      obtain ⟨hplen, hklen, hkk, hno⟩ := rngE_own hrng
      have HRG := Lib.hid hrng
      have HHR := Lib.hid (And.intro h3u (And.intro h7u h8u))
      have hlen := hSl
      unfold editB at hlen
      simp only [List.length_append] at hlen
      have HLN := Lib.hid (show (L' ++ numZ x.kind).length ≤ 1000000000000 ∧ ((L' ++ numZ x.kind) ++ numB x.path.length).length ≤ 1000000000000 ∧ (stepsB' x.path).length ≤ 1000000000000 ∧ (attrsB x.attrs).length ≤ 1000000000000 ∧ ((((L' ++ numZ x.kind) ++ numB x.path.length) ++ x.path.flatMap stepB') ++ attrsB x.attrs).length ≤ 1000000000000 ∧ (((((L' ++ numZ x.kind) ++ numB x.path.length) ++ x.path.flatMap stepB') ++ attrsB x.attrs) ++ nodesB x.kids).length ≤ 1000000000000 ∧ ((((((L' ++ numZ x.kind) ++ numB x.path.length) ++ x.path.flatMap stepB') ++ attrsB x.attrs) ++ nodesB x.kids) ++ nodeB x.node).length ≤ 1000000000000 by
        have e : (stepsB' x.path).length = (numB x.path.length).length + (x.path.flatMap stepB').length := by show (numB x.path.length ++ x.path.flatMap stepB').length = _; rw [List.length_append]
        simp only [List.length_append]; omega)
      have HNL := Lib.hid (show (nodesB x.kids).length ≤ 1000000000000 ∧ (nodeB x.node).length ≤ 1000000000000 ∧ x.path.length ≤ 1000000000000 by omega)
      have HR1 := Lib.hid fun W (hE : Ext w W) => h1u.ext hE
      have HR2 := Lib.hid fun W (hE : Ext w W) => h2u.ext hE
      have HW1 := Lib.hid fun W (hE : Ext w W) => whole_any (nsz x.node) x.node (Nat.le_refl _) hno p W _ _ (h7u.ext hE) (h8u.ext hE)
      have HW2 : Hid (∀ W, Ext w W → Calls Tryd.prog 20 #[.agg #[.int .i64 0, .string ⟨#[]⟩, .string ⟨#[]⟩, .slice none 0 0, .slice na x.kids.length nc]] W fun e w' => e = .returned (.bool (!x.kids.any negN)) ∧ Ext W w') := Lib.hid fun W hE => by
        have h := whole_step W (.mk 0 [] [] [] x.kids) p none na 0 nc (h3u.ext hE) hklen fun y hy W va vk h1 h2 => whole_any (nsz y) y (Nat.le_refl _) (hkk y hy) p W va vk h1 h2
        rw [negN_eq] at h
        exact h
      have HS := Lib.hid (And.intro hS hN)
      have HNG : Hid (negE x = true → RR = []) := Lib.hid fun e => by
        have h := HS.out.2
        rw [e, Bool.true_or] at h
        rw [← HRES.out, ← h]; rfl
      have HNF : Hid (negE x = false → (l.drop (i + 1)).any negE = NG) := Lib.hid fun e => by have h := HS.out.2; rw [e, Bool.false_or] at h; exact h
      have HNE : Hid (negE x = (decide (x.kind < 0) || (x.kids.any negN || negN x.node))) := Lib.hid rfl
      obtain ⟨b5, hb5e⟩ : ∃ b, wo.heap.size = b := ⟨_, rfl⟩
      obtain ⟨wa1, hwa1⟩ : ∃ W', wo.alloc (.cells #[.int .i64 x.kind, .slice pa x.path.length pc, .slice ka x.attrs.length kc, .slice na x.kids.length nc, .int .i64 x.node.kind, .string (bs x.node.name), .string (bs x.node.text), .slice ma x.node.attrs.length mc, .slice qa x.node.kids.length qc] 54) = W' := ⟨_, rfl⟩
      have hXa : Ext w wa1 := by rw [← hwa1]; exact hX.alloc _
      have hblka : wa1.heap[b5]? = some (.cells [.int .i64 x.kind, .slice pa x.path.length pc, .slice ka x.attrs.length kc, .slice na x.kids.length nc, .int .i64 x.node.kind, .string (bs x.node.name), .string (bs x.node.text), .slice ma x.node.attrs.length mc, .slice qa x.node.kids.length qc].toArray 54 (0, 0)) := by rw [← hwa1, ← hb5e]; exact Array.getElem?_push_size
      have hAcca : Acc w b5 wa1 wa1 dv L' := by rw [← hwa1, ← hb5e]; exact Acc.box HH.out.1 hX _ _
      have hb5a := blk_lt hblka
      have e0 := blk_cells hblka 0 rfl
      have e1 := blk_cells hblka 1 rfl
      have e2 := blk_cells hblka 2 rfl
      have e3 := blk_cells hblka 3 rfl
      have e4 := blk_cells hblka 4 rfl
      have e5 := blk_cells hblka 5 rfl
      have e6 := blk_cells hblka 6 rfl
      have e7 := blk_cells hblka 7 rfl
      have e8 := blk_cells hblka 8 rfl
      have HBA := Lib.hid (And.intro hXa (And.intro hblka hAcca))
      clear hx hS hN hSl hlen hplen hklen hkk hno hrng h1u h2u h3u h7u h8u d0 d1 d2 d3 d4 d5 d6 d7 d8 hX hXa hblka hAcca
      by_cases hk0 : x.kind < 0
      · have HRN := Lib.hid (HNG.out (by rw [HNE.out, decide_eq_true hk0]; rfl))
        go_wp2_with fail
        go_ret
        rw [HRN.out]
        exact ⟨_, rfl, World.ownsRow_nil _ _ _ _, HBA.out.1⟩
      · have HW1a := Lib.hid (HW1.out wa1 HBA.out.1)
        obtain ⟨N1, hN1⟩ : ∃ b, negN x.node = b := ⟨_, rfl⟩
        rw [hN1] at HW1a HNE
        clear hN1
        rw [decide_eq_false hk0, Bool.false_or] at HNE
        go_wp2_with fail
        refine HW1a.out.mono ?_
        rintro e wb1 ⟨rfl, hXb⟩
        have f0 := hXb.keep hb5a e0
        have f1 := hXb.keep hb5a e1
        have f2 := hXb.keep hb5a e2
        have f3 := hXb.keep hb5a e3
        have f4 := hXb.keep hb5a e4
        have f5 := hXb.keep hb5a e5
        have f6 := hXb.keep hb5a e6
        have f7 := hXb.keep hb5a e7
        have f8 := hXb.keep hb5a e8
        clear HW1a e0 e1 e2 e3 e4 e5 e6 e7 e8 n0 n1 n2 n3 n4 n5 n6 n7 n8
        have HXB := Lib.hid (HBA.out.1.trans hXb)
        have HXb := Lib.hid hXb
        clear hXb
        cases N1 with
        | true =>
          have HRN := Lib.hid (HNG.out (by rw [HNE.out, Bool.or_true]))
          go_wp2_with fail
          go_ret
          rw [HRN.out]
          exact ⟨_, rfl, World.ownsRow_nil _ _ _ _, HXB.out⟩
        | false =>
          have HW2a := Lib.hid (HW2.out wb1 HXB.out)
          obtain ⟨N2, hN2⟩ : ∃ b, x.kids.any negN = b := ⟨_, rfl⟩
          rw [hN2] at HW2a HNE
          clear hN2
          go_wp2_with fail
          refine HW2a.out.mono ?_
          rintro e wr1 ⟨rfl, hXc⟩
          have hXac := HXb.out.trans hXc
          have HXR := Lib.hid (HXB.out.trans hXc)
          cases N2 with
          | true =>
            have HRN := Lib.hid (HNG.out (by rw [HNE.out]; rfl))
            clear hXac hXc
            go_wp2_with fail
            go_ret
            rw [HRN.out]
            exact ⟨_, rfl, World.ownsRow_nil _ _ _ _, HXR.out⟩
          | false =>
            have HRN := Lib.hid (HNF.out (by rw [HNE.out]; rfl))
            obtain ⟨hkr, hks, hka, hkk, hnz, hno⟩ := okE_own (okE_of HRG.out (by rw [HNE.out]; rfl))
            have HR3 := Lib.hid fun W (hE : Ext w W) => bnodes_any W x.kids p _ (HHR.out.1.ext hE) HNL.out.1 fun y hy => bnode_any (nsz y) y (Nat.le_refl _) (hkk y hy).2
            have HR4 := Lib.hid fun W (hE : Ext w W) => bnode_any (nsz x.node) x.node (Nat.le_refl _) hno p W _ _ (HHR.out.2.1.ext hE) (HHR.out.2.2.ext hE) HNL.out.2.1
            have HNK : Hid (∀ W, Calls Tryd.prog 19 #[.int .i64 x.kind] W (RB W (numZ x.kind))) := Lib.hid fun W => by
              have h := num_any x.kind.toNat (by omega) W
              rw [show (x.kind.toNat : Int) = x.kind by omega] at h
              rw [show numZ x.kind = numB x.kind.toNat by unfold numZ; congr 1; omega]
              exact h
            have HNP := Lib.hid fun W => num_any x.path.length (by omega) W
            have HYS := Lib.hid hks
            clear hkr hks hka hkk hnz hno
            have hXr : Ext w wr1 := HXR.out
            have hblkr : wr1.heap[b5]? = some (.cells [.int .i64 x.kind, .slice pa x.path.length pc, .slice ka x.attrs.length kc, .slice na x.kids.length nc, .int .i64 x.node.kind, .string (bs x.node.name), .string (bs x.node.text), .slice ma x.node.attrs.length mc, .slice qa x.node.kids.length qc].toArray 54 (0, 0)) := (Below.block hXac _ hb5a).trans HBA.out.2.1
            have hb5 := blk_lt hblkr
            have hAccr : Acc w b5 wr1 wr1 dv L' := (HBA.out.2.2.ext hXac).flat
            have hAcc0 := hAccr.again
            have e0 := blk_cells hblkr 0 rfl
            have e1 := blk_cells hblkr 1 rfl
            have e2 := blk_cells hblkr 2 rfl
            have e3 := blk_cells hblkr 3 rfl
            have e4 := blk_cells hblkr 4 rfl
            have e5 := blk_cells hblkr 5 rfl
            have e6 := blk_cells hblkr 6 rfl
            have e7 := blk_cells hblkr 7 rfl
            have e8 := blk_cells hblkr 8 rfl
            have HBR := Lib.hid hblkr
            clear f0 f1 f2 f3 f4 f5 f6 f7 f8 hXac hXc HW2a hblkr HBA HXB HXb hwa1 hk0
            go_wp2_with fail
            refine region_merge (fun ac ac' w' => ∃ (ga : Nat) (ca : Nat) (gb : Nat) (cb : Nat) (da : Value) (db : Value), ac' = (((((((((((ac.put (some 36) (dv)).put (some 37) (.pointer (some ⟨b5, 0, none⟩))).put (some 38) (.int .i64 x.kind)).put (some 39) (.slice (some ⟨ga, 0, none⟩) (numZ x.kind).length ca)).put (some 40) (da)).put (some 41) (.pointer (some ⟨b5, 1, none⟩))).put (some 42) (.slice pa x.path.length pc)).put (some 43) (.int .i64 x.path.length)).put (some 44) (.slice (some ⟨gb, 0, none⟩) (numB x.path.length).length cb)).put (some 45) (db)).put (some 3) (db)) ∧ Acc w b5 wr1 w' db ((L' ++ numZ x.kind) ++ numB x.path.length)) ?_ ?_
            · refine rg_begin (S := Sb w b5 wr1) (by kernel_rfl) (Sb.begin hXr hb5) ?_
              have hSa : Sb w b5 wr1 (World.drew wr1) := (Sb.begin hXr hb5)
              refine rg_take 0 (some 36) (dv) (oi := { dst := some 36, op := Go.Op.move (Go.Operand.tmp 3), type := 25, pos := "ref.go:132", after := #[], guard := none }) rfl rfl (by kernel_rfl) (by kernel_rfl) (by kernel_rfl) (fun _ _ _ h => h) hSa (by rfl) (fun w' hs => by rfl) ?_
              simp only [Act.put, List.setIfInBounds_toArray, List.set_cons_zero, List.set_cons_succ]
              refine rg_take 1 (some 37) (.pointer (some ⟨b5, 0, none⟩)) (oi := { dst := some 37, op := Go.Op.fieldAddr 54 (Go.Operand.tmp 5) 0, type := 0, pos := "ref.go:132", after := #[], guard := none }) rfl rfl (by kernel_rfl) (by kernel_rfl) (by kernel_rfl) (fun _ _ _ h => h) hSa (by rfl) (fun w' hs => by first | rfl | go_simp) ?_
              simp only [Act.put, List.setIfInBounds_toArray, List.set_cons_zero, List.set_cons_succ]
              refine rg_take 2 (some 38) (.int .i64 x.kind) (oi := { dst := some 38, op := Go.Op.load 3 (Go.Operand.tmp 37), type := 3, pos := "ref.go:132", after := #[{ on := 1, ground := Go.Ground.data }], guard := none }) rfl rfl (by kernel_rfl) (by kernel_rfl) (by kernel_rfl) (fun _ _ _ h => h) hSa (by rfl) (fun w' hs => by (have h0 := hs.cell (.inr rfl) e0; go_simp)) ?_
              simp only [Act.put, List.setIfInBounds_toArray, List.set_cons_zero, List.set_cons_succ]
              refine rg_take 5 (some 41) (.pointer (some ⟨b5, 1, none⟩)) (oi := { dst := some 41, op := Go.Op.fieldAddr 54 (Go.Operand.tmp 5) 1, type := 0, pos := "ref.go:132", after := #[], guard := none }) rfl rfl (by kernel_rfl) (by kernel_rfl) (by kernel_rfl) (fun _ _ _ h => h) hSa (by rfl) (fun w' hs => by first | rfl | go_simp) ?_
              simp only [Act.put, List.setIfInBounds_toArray, List.set_cons_zero, List.set_cons_succ]
              refine rg_take 6 (some 42) (.slice pa x.path.length pc) (oi := { dst := some 42, op := Go.Op.load 48 (Go.Operand.tmp 41), type := 48, pos := "ref.go:132", after := #[{ on := 5, ground := Go.Ground.data }], guard := none }) rfl rfl (by kernel_rfl) (by kernel_rfl) (by kernel_rfl) (fun _ _ _ h => h) hSa (by rfl) (fun w' hs => by (have h0 := hs.cell (.inr rfl) e1; go_simp)) ?_
              simp only [Act.put, List.setIfInBounds_toArray, List.set_cons_zero, List.set_cons_succ]
              refine rg_take 7 (some 43) (.int .i64 x.path.length) (oi := { dst := some 43, op := Go.Op.call { callee := Go.Callee.builtin Go.Builtin.len, args := #[Go.Operand.tmp 42], argTypes := #[48] }, type := 3, pos := "ref.go:132", after := #[{ on := 6, ground := Go.Ground.data }], guard := none }) rfl rfl (by kernel_rfl) (by kernel_rfl) (by kernel_rfl) (fun _ _ _ h => h) hSa (by rfl) (fun w' hs => by first | rfl | go_simp) ?_
              simp only [Act.put, List.setIfInBounds_toArray, List.set_cons_zero, List.set_cons_succ]
              refine rg_one 3 (by kernel_rfl) ?_
              refine tk_callB 3 39 19 #[.int .i64 x.kind] rfl rfl (by rfl) (fun w' => by first | rfl | go_simp) (E := numZ x.kind) (numB_pos _) hAcc0 (HNK.out _) ?_
              intro ga ca y1a hA1a hE1a hPa
              refine ⟨hA1a.s, ?_⟩
              simp only [Act.put, List.setIfInBounds_toArray, List.set_cons_zero, List.set_cons_succ]
              refine rg_one 4 (by kernel_rfl) ?_
              refine tk_appB 4 40 (.tmp 36) (.tmp 39) rfl rfl (by rfl) rfl rfl rfl hA1a hPa (HLN.out.1) ?_
              intro da y2a hA2a hq2a
              refine ⟨hA2a.s, ?_⟩
              simp only [Act.put, List.setIfInBounds_toArray, List.set_cons_zero, List.set_cons_succ]
              refine rg_one 8 (by kernel_rfl) ?_
              refine tk_callB 8 44 19 #[.int .i64 (x.path.length : Int)] rfl rfl (by rfl) (fun w' => by first | rfl | go_simp) (E := numB x.path.length) (numB_pos _) hA2a (HNP.out _) ?_
              intro gb cb y3a hA3a hE3a hPb
              refine ⟨hA3a.s, ?_⟩
              simp only [Act.put, List.setIfInBounds_toArray, List.set_cons_zero, List.set_cons_succ]
              refine rg_one 9 (by kernel_rfl) ?_
              refine tk_appB 9 45 (.tmp 40) (.tmp 44) rfl rfl (by rfl) rfl rfl rfl hA3a hPb (HLN.out.2.1) ?_
              intro db y4a hA4a hq4a
              refine ⟨hA4a.s, ?_⟩
              simp only [Act.put, List.setIfInBounds_toArray, List.set_cons_zero, List.set_cons_succ]
              refine rg_take 10 (some 3) (db) (oi := { dst := some 3, op := Go.Op.assign (Go.Operand.tmp 45), type := 25, pos := "ref.go:132", after := #[{ on := 9, ground := Go.Ground.data }, { on := 9, ground := Go.Ground.chain }, { on := 0, ground := Go.Ground.phase }, { on := 1, ground := Go.Ground.phase }, { on := 2, ground := Go.Ground.phase }, { on := 3, ground := Go.Ground.phase }, { on := 4, ground := Go.Ground.phase }, { on := 5, ground := Go.Ground.phase }, { on := 6, ground := Go.Ground.phase }, { on := 7, ground := Go.Ground.phase }, { on := 8, ground := Go.Ground.phase }, { on := 9, ground := Go.Ground.phase }], guard := none }) rfl rfl (by kernel_rfl) (by kernel_rfl) (by kernel_rfl) (fun _ _ _ h => h) hA4a.s (by rfl) (fun w' hs => by rfl) ?_
              simp only [Act.put, List.setIfInBounds_toArray, List.set_cons_zero, List.set_cons_succ]
              refine rg_done (by kernel_rfl) ?_
              exact ⟨ga, ca, gb, cb, da, db, (by first | rfl | simp only [Act.put, List.setIfInBounds_toArray, List.set_cons_zero, List.set_cons_succ]), hA4a⟩
            rintro _ w5a ⟨ga, ca, gb, cb, da, db, rfl, hA5a⟩
            simp only [Act.put, List.setIfInBounds_toArray, List.set_cons_zero, List.set_cons_succ]
            have HA8 := Lib.hid hA5a
            clear hA5a hAcc0 hAccr e0 e1 e2 e3 e4 e5 e6 e7 e8 hXr
            go_wp2_with fail
            go_loopw [3, 6] (fun nv t wr => ∃ (j : Nat) (Lw : Bytes) (dw : Value), t = .int .i64 j ∧ dw = nv ∧ j ≤ x.path.length ∧ Hid (Acc w b5 wr1 wr dw Lw ∧ Lw ++ (x.path.drop j).flatMap stepB' = ((L' ++ numZ x.kind) ++ numB x.path.length) ++ x.path.flatMap stepB')) (fun _ t _ => downV x.path.length t)
            case atStart => exact ⟨0, _, _, rfl, rfl, Nat.zero_le _, Lib.hid ⟨HA8.out, rfl⟩⟩
            case round =>
              obtain ⟨j, Lw, dw, rfl, rfl, hj, HI⟩ := hrel
              obtain ⟨wp, hwp⟩ : ∃ wp, wp = wr := ⟨_, rfl⟩
              subst hwp
              clear HA8
              have hj0 : (0 : Int) ≤ (j : Int) := by omega
              have hj12 : (j : Int) ≤ 1000000000000 := by have := HNL.out.2.2; omega
              have hblkp : wp.heap[b5]? = some (.cells [.int .i64 x.kind, .slice pa x.path.length pc, .slice ka x.attrs.length kc, .slice na x.kids.length nc, .int .i64 x.node.kind, .string (bs x.node.name), .string (bs x.node.text), .slice ma x.node.attrs.length mc, .slice qa x.node.kids.length qc].toArray 54 (0, 0)) := HI.out.1.s.2.2.1.trans HBR.out
              by_cases hjl : j < x.path.length
              · have hjI : (j : Int) < (x.path.length : Int) := by omega
                obtain ⟨gp, op, ky, hgp, lgp, _, q0, q1, hky⟩ := step_at (HR1.out w (Ext.refl w)) j hjl
                obtain rfl := hgp
                have hXp := HI.out.1.s.2.1
                have hbp := HI.out.1.s.2.2.2
                have hyo := HYS.out _ (List.getElem_mem hjl)
                have hSj : (Lw ++ stepB' x.path[j]) ++ (x.path.drop (j + 1)).flatMap stepB' = ((L' ++ numZ x.kind) ++ numB x.path.length) ++ x.path.flatMap stepB' := by
                  have h := HI.out.2
                  rw [drop_one x.path j hjl, List.flatMap_cons, ← List.append_assoc] at h; exact h
                have hSjl : (Lw ++ stepB' x.path[j]).length ≤ 1000000000000 := by
                  have h1 := congrArg List.length hSj
                  have h2 := HLN.out.2.2.2.2.1
                  simp only [List.length_append] at h1 h2 ⊢; omega
                obtain ⟨y, hy⟩ : ∃ y, x.path[j] = y := ⟨_, rfl⟩
                rw [hy] at q0 hky hyo hSj hSjl
                obtain ⟨ya, yc, rfl, _, _⟩ := hky.count z_str (by omega)
                have p0 := hXp.keep lgp q0
                have p1 := hXp.keep lgp q1
                have HYN := Lib.hid (show y.n.length ≤ 1000000000000 ∧ (txtsB y.key).length ≤ 1000000000000 ∧ (Lw ++ txtB y.n).length ≤ 1000000000000 ∧ ((Lw ++ txtB y.n) ++ txtsB y.key).length ≤ 1000000000000 by unfold stepB' at hSjl; simp only [List.length_append] at hSjl ⊢; exact ⟨hyo.1, by omega, by omega, by omega⟩)
                have HYK := Lib.hid fun W (hE : Ext w W) => hky.ext hE
                have HSJ := Lib.hid (show ((Lw ++ txtB y.n) ++ txtsB y.key) ++ (x.path.drop (j + 1)).flatMap stepB' = ((L' ++ numZ x.kind) ++ numB x.path.length) ++ x.path.flatMap stepB' by rw [← hSj]; unfold stepB'; simp only [List.append_assoc])
                have e1 := blk_cells hblkp 1 rfl
                have hAccp := HI.out.1.again
                clear hy hyo hSj hSjl q0 q1 hky hblkp
                go_wp2_with fail
                refine region_merge (fun ac ac' w' => ∃ (gc : Nat) (cc : Nat) (gd : Nat) (cd : Nat) (dc : Value) (dd : Value), ac' = ((((((((((((((((((ac.put (some 53) (dw)).put (some 54) (.pointer (some ⟨b5, 1, none⟩))).put (some 55) (.slice (some ⟨gp, op, none⟩) x.path.length pc)).put (some 56) (.int .i64 j)).put (some 57) (.pointer (some ⟨gp, op + j * 2, none⟩))).put (some 58) (.pointer (some ⟨gp, op + j * 2, none⟩))).put (some 59) (.string (bs y.n))).put (some 60) (.slice (some ⟨gc, 0, none⟩) (txtB y.n).length cc)).put (some 61) (dc)).put (some 62) (.pointer (some ⟨b5, 1, none⟩))).put (some 63) (.slice (some ⟨gp, op, none⟩) x.path.length pc)).put (some 64) (.int .i64 j)).put (some 65) (.pointer (some ⟨gp, op + j * 2, none⟩))).put (some 66) (.pointer (some ⟨gp, op + j * 2 + 1, none⟩))).put (some 67) (.slice ya y.key.length yc)).put (some 68) (.slice (some ⟨gd, 0, none⟩) (txtsB y.key).length cd)).put (some 69) (dd)).put (some 3) (dd)) ∧ Acc w b5 wp w' dd ((Lw ++ txtB y.n) ++ txtsB y.key)) ?_ ?_
                · refine rg_begin (S := Sb w b5 wp) (by kernel_rfl) (Sb.begin hXp hbp) ?_
                  have hSb : Sb w b5 wp (World.drew wp) := (Sb.begin hXp hbp)
                  refine rg_take 0 (some 53) (dw) (oi := { dst := some 53, op := Go.Op.move (Go.Operand.tmp 3), type := 25, pos := "ref.go:134", after := #[], guard := none }) rfl rfl (by kernel_rfl) (by kernel_rfl) (by kernel_rfl) (fun _ _ _ h => h) hSb (by rfl) (fun w' hs => by rfl) ?_
                  simp only [Act.put, List.setIfInBounds_toArray, List.set_cons_zero, List.set_cons_succ]
                  refine rg_take 1 (some 54) (.pointer (some ⟨b5, 1, none⟩)) (oi := { dst := some 54, op := Go.Op.fieldAddr 54 (Go.Operand.tmp 5) 1, type := 0, pos := "ref.go:134", after := #[], guard := none }) rfl rfl (by kernel_rfl) (by kernel_rfl) (by kernel_rfl) (fun _ _ _ h => h) hSb (by rfl) (fun w' hs => by first | rfl | go_simp) ?_
                  simp only [Act.put, List.setIfInBounds_toArray, List.set_cons_zero, List.set_cons_succ]
                  refine rg_take 2 (some 55) (.slice (some ⟨gp, op, none⟩) x.path.length pc) (oi := { dst := some 55, op := Go.Op.load 48 (Go.Operand.tmp 54), type := 48, pos := "ref.go:134", after := #[{ on := 1, ground := Go.Ground.data }], guard := none }) rfl rfl (by kernel_rfl) (by kernel_rfl) (by kernel_rfl) (fun _ _ _ h => h) hSb (by rfl) (fun w' hs => by (have h0 := hs.cell (.inr rfl) e1; go_simp)) ?_
                  simp only [Act.put, List.setIfInBounds_toArray, List.set_cons_zero, List.set_cons_succ]
                  refine rg_take 3 (some 56) (.int .i64 j) (oi := { dst := some 56, op := Go.Op.move (Go.Operand.tmp 6), type := 3, pos := "ref.go:134", after := #[], guard := none }) rfl rfl (by kernel_rfl) (by kernel_rfl) (by kernel_rfl) (fun _ _ _ h => h) hSb (by rfl) (fun w' hs => by rfl) ?_
                  simp only [Act.put, List.setIfInBounds_toArray, List.set_cons_zero, List.set_cons_succ]
                  refine rg_take 4 (some 57) (.pointer (some ⟨gp, op + j * 2, none⟩)) (oi := { dst := some 57, op := Go.Op.indexAddr 48 (Go.Operand.tmp 55) (Go.Operand.tmp 56), type := 0, pos := "ref.go:134", after := #[{ on := 2, ground := Go.Ground.data }, { on := 3, ground := Go.Ground.data }], guard := none }) rfl rfl (by kernel_rfl) (by kernel_rfl) (by kernel_rfl) (fun _ _ _ h => h) hSb (by rfl) (fun w' hs => by first | rfl | go_simp) ?_
                  simp only [Act.put, List.setIfInBounds_toArray, List.set_cons_zero, List.set_cons_succ]
                  refine rg_take 5 (some 58) (.pointer (some ⟨gp, op + j * 2, none⟩)) (oi := { dst := some 58, op := Go.Op.fieldAddr 47 (Go.Operand.tmp 57) 0, type := 0, pos := "ref.go:134", after := #[{ on := 4, ground := Go.Ground.data }], guard := none }) rfl rfl (by kernel_rfl) (by kernel_rfl) (by kernel_rfl) (fun _ _ _ h => h) hSb (by rfl) (fun w' hs => by first | rfl | go_simp) ?_
                  simp only [Act.put, List.setIfInBounds_toArray, List.set_cons_zero, List.set_cons_succ]
                  refine rg_take 6 (some 59) (.string (bs y.n)) (oi := { dst := some 59, op := Go.Op.load 9 (Go.Operand.tmp 58), type := 9, pos := "ref.go:134", after := #[{ on := 5, ground := Go.Ground.data }], guard := none }) rfl rfl (by kernel_rfl) (by kernel_rfl) (by kernel_rfl) (fun _ _ _ h => h) hSb (by rfl) (fun w' hs => by (have h0 := hs.cell (.inl lgp) p0; go_simp)) ?_
                  simp only [Act.put, List.setIfInBounds_toArray, List.set_cons_zero, List.set_cons_succ]
                  refine rg_take 9 (some 62) (.pointer (some ⟨b5, 1, none⟩)) (oi := { dst := some 62, op := Go.Op.fieldAddr 54 (Go.Operand.tmp 5) 1, type := 0, pos := "ref.go:134", after := #[], guard := none }) rfl rfl (by kernel_rfl) (by kernel_rfl) (by kernel_rfl) (fun _ _ _ h => h) hSb (by rfl) (fun w' hs => by first | rfl | go_simp) ?_
                  simp only [Act.put, List.setIfInBounds_toArray, List.set_cons_zero, List.set_cons_succ]
                  refine rg_take 10 (some 63) (.slice (some ⟨gp, op, none⟩) x.path.length pc) (oi := { dst := some 63, op := Go.Op.load 48 (Go.Operand.tmp 62), type := 48, pos := "ref.go:134", after := #[{ on := 9, ground := Go.Ground.data }], guard := none }) rfl rfl (by kernel_rfl) (by kernel_rfl) (by kernel_rfl) (fun _ _ _ h => h) hSb (by rfl) (fun w' hs => by (have h0 := hs.cell (.inr rfl) e1; go_simp)) ?_
                  simp only [Act.put, List.setIfInBounds_toArray, List.set_cons_zero, List.set_cons_succ]
                  refine rg_take 11 (some 64) (.int .i64 j) (oi := { dst := some 64, op := Go.Op.move (Go.Operand.tmp 6), type := 3, pos := "ref.go:134", after := #[], guard := none }) rfl rfl (by kernel_rfl) (by kernel_rfl) (by kernel_rfl) (fun _ _ _ h => h) hSb (by rfl) (fun w' hs => by rfl) ?_
                  simp only [Act.put, List.setIfInBounds_toArray, List.set_cons_zero, List.set_cons_succ]
                  refine rg_take 12 (some 65) (.pointer (some ⟨gp, op + j * 2, none⟩)) (oi := { dst := some 65, op := Go.Op.indexAddr 48 (Go.Operand.tmp 63) (Go.Operand.tmp 64), type := 0, pos := "ref.go:134", after := #[{ on := 10, ground := Go.Ground.data }, { on := 11, ground := Go.Ground.data }], guard := none }) rfl rfl (by kernel_rfl) (by kernel_rfl) (by kernel_rfl) (fun _ _ _ h => h) hSb (by rfl) (fun w' hs => by first | rfl | go_simp) ?_
                  simp only [Act.put, List.setIfInBounds_toArray, List.set_cons_zero, List.set_cons_succ]
                  refine rg_take 13 (some 66) (.pointer (some ⟨gp, op + j * 2 + 1, none⟩)) (oi := { dst := some 66, op := Go.Op.fieldAddr 47 (Go.Operand.tmp 65) 1, type := 0, pos := "ref.go:134", after := #[{ on := 12, ground := Go.Ground.data }], guard := none }) rfl rfl (by kernel_rfl) (by kernel_rfl) (by kernel_rfl) (fun _ _ _ h => h) hSb (by rfl) (fun w' hs => by first | rfl | go_simp) ?_
                  simp only [Act.put, List.setIfInBounds_toArray, List.set_cons_zero, List.set_cons_succ]
                  refine rg_take 14 (some 67) (.slice ya y.key.length yc) (oi := { dst := some 67, op := Go.Op.load 38 (Go.Operand.tmp 66), type := 38, pos := "ref.go:134", after := #[{ on := 13, ground := Go.Ground.data }], guard := none }) rfl rfl (by kernel_rfl) (by kernel_rfl) (by kernel_rfl) (fun _ _ _ h => h) hSb (by rfl) (fun w' hs => by (have h0 := hs.cell (.inl lgp) p1; go_simp)) ?_
                  simp only [Act.put, List.setIfInBounds_toArray, List.set_cons_zero, List.set_cons_succ]
                  refine rg_one 7 (by kernel_rfl) ?_
                  refine tk_callB 7 60 21 #[.string (bs y.n)] rfl rfl (by rfl) (fun w' => by first | rfl | go_simp) (E := txtB y.n) (txtB_pos _) hAccp (text_any y.n HYN.out.1 _) ?_
                  intro gc cc y1b hA1b hE1b hPc
                  refine ⟨hA1b.s, ?_⟩
                  simp only [Act.put, List.setIfInBounds_toArray, List.set_cons_zero, List.set_cons_succ]
                  refine rg_one 8 (by kernel_rfl) ?_
                  refine tk_appB 8 61 (.tmp 53) (.tmp 60) rfl rfl (by rfl) rfl rfl rfl hA1b hPc (HYN.out.2.2.1) ?_
                  intro dc y2b hA2b hq2b
                  refine ⟨hA2b.s, ?_⟩
                  simp only [Act.put, List.setIfInBounds_toArray, List.set_cons_zero, List.set_cons_succ]
                  refine rg_one 15 (by kernel_rfl) ?_
                  refine tk_callB 15 68 22 #[.slice ya y.key.length yc] rfl rfl (by rfl) (fun w' => by first | rfl | go_simp) (E := txtsB y.key) (list_pos _ _ _) hA2b (btexts_any _ y.key p _ (HYK.out _ hA2b.s.2.1) HYN.out.2.1) ?_
                  intro gd cd y3b hA3b hE3b hPd
                  refine ⟨hA3b.s, ?_⟩
                  simp only [Act.put, List.setIfInBounds_toArray, List.set_cons_zero, List.set_cons_succ]
                  refine rg_one 16 (by kernel_rfl) ?_
                  refine tk_appB 16 69 (.tmp 61) (.tmp 68) rfl rfl (by rfl) rfl rfl rfl hA3b hPd (HYN.out.2.2.2) ?_
                  intro dd y4b hA4b hq4b
                  refine ⟨hA4b.s, ?_⟩
                  simp only [Act.put, List.setIfInBounds_toArray, List.set_cons_zero, List.set_cons_succ]
                  refine rg_take 17 (some 3) (dd) (oi := { dst := some 3, op := Go.Op.assign (Go.Operand.tmp 69), type := 25, pos := "ref.go:134", after := #[{ on := 16, ground := Go.Ground.data }, { on := 16, ground := Go.Ground.chain }, { on := 0, ground := Go.Ground.phase }, { on := 1, ground := Go.Ground.phase }, { on := 2, ground := Go.Ground.phase }, { on := 3, ground := Go.Ground.phase }, { on := 4, ground := Go.Ground.phase }, { on := 5, ground := Go.Ground.phase }, { on := 6, ground := Go.Ground.phase }, { on := 7, ground := Go.Ground.phase }, { on := 8, ground := Go.Ground.phase }, { on := 9, ground := Go.Ground.phase }, { on := 10, ground := Go.Ground.phase }, { on := 11, ground := Go.Ground.phase }, { on := 12, ground := Go.Ground.phase }, { on := 13, ground := Go.Ground.phase }, { on := 14, ground := Go.Ground.phase }, { on := 15, ground := Go.Ground.phase }, { on := 16, ground := Go.Ground.phase }], guard := none }) rfl rfl (by kernel_rfl) (by kernel_rfl) (by kernel_rfl) (fun _ _ _ h => h) hA4b.s (by rfl) (fun w' hs => by rfl) ?_
                  simp only [Act.put, List.setIfInBounds_toArray, List.set_cons_zero, List.set_cons_succ]
                  refine rg_done (by kernel_rfl) ?_
                  exact ⟨gc, cc, gd, cd, dc, dd, (by first | rfl | simp only [Act.put, List.setIfInBounds_toArray, List.set_cons_zero, List.set_cons_succ]), hA4b⟩
                rintro _ w5b ⟨gc, cc, gd, cd, dc, dd, rfl, hA5b⟩
                simp only [Act.put, List.setIfInBounds_toArray, List.set_cons_zero, List.set_cons_succ]
                have HF := Lib.hid (HI.out.1.chain hA5b)
                clear hA5b hAccp p0 p1 e1 hXp
                go_wp2_with fail
                go_roundw
                case rel => exact ⟨j + 1, _, _, by go_num, rfl, by omega, Lib.hid ⟨HF.out, HSJ.out⟩⟩
                case measure => simp only [downV]; omega
              · have hjI : ¬ (j : Int) < (x.path.length : Int) := by omega
                obtain ⟨wq, hwq⟩ : ∃ wq, wq = wp := ⟨_, rfl⟩
                subst hwq
                have hLw : Lw = ((L' ++ numZ x.kind) ++ numB x.path.length) ++ x.path.flatMap stepB' := by have h := HI.out.2; rw [List.drop_of_length_le (by omega), List.flatMap_nil, List.append_nil] at h; exact h
                subst hLw
                obtain ⟨du, hdu⟩ : ∃ du, du = dw := ⟨_, rfl⟩
                subst hdu
                have hXq := HI.out.1.s.2.1
                have hbq := HI.out.1.s.2.2.2
                have hAccq := HI.out.1.again
                have f0 := blk_cells hblkp 0 rfl
                have f1 := blk_cells hblkp 1 rfl
                have f2 := blk_cells hblkp 2 rfl
                have f3 := blk_cells hblkp 3 rfl
                have f4 := blk_cells hblkp 4 rfl
                have f5 := blk_cells hblkp 5 rfl
                have f6 := blk_cells hblkp 6 rfl
                have f7 := blk_cells hblkp 7 rfl
                have f8 := blk_cells hblkp 8 rfl
                have e1 := f1
                clear hblkp
                go_wp2_with fail
                refine region_merge (fun ac ac' w' => ∃ (ge : Nat) (ce : Nat) (gg : Nat) (cg : Nat) (gh : Nat) (ch : Nat) (de : Value) (dg : Value) (dh : Value), ac' = ((((((((((((((ac.put (some 70) (du)).put (some 71) (.pointer (some ⟨b5, 2, none⟩))).put (some 72) (.slice ka x.attrs.length kc)).put (some 73) (.slice (some ⟨ge, 0, none⟩) (attrsB x.attrs).length ce)).put (some 74) (de)).put (some 75) (.pointer (some ⟨b5, 3, none⟩))).put (some 76) (.slice na x.kids.length nc)).put (some 77) (.slice (some ⟨gg, 0, none⟩) (nodesB x.kids).length cg)).put (some 78) (dg)).put (some 79) (.pointer (some ⟨b5, 4, none⟩))).put (some 80) (.agg #[.int .i64 x.node.kind, .string (bs x.node.name), .string (bs x.node.text), .slice ma x.node.attrs.length mc, .slice qa x.node.kids.length qc])).put (some 81) (.slice (some ⟨gh, 0, none⟩) (nodeB x.node).length ch)).put (some 82) (dh)).put (some 3) (dh)) ∧ Acc w b5 wq w' dh ((((((L' ++ numZ x.kind) ++ numB x.path.length) ++ x.path.flatMap stepB') ++ attrsB x.attrs) ++ nodesB x.kids) ++ nodeB x.node)) ?_ ?_
                · refine rg_begin (S := Sb w b5 wq) (by kernel_rfl) (Sb.begin hXq hbq) ?_
                  have hSd : Sb w b5 wq (World.drew wq) := (Sb.begin hXq hbq)
                  refine rg_take 0 (some 70) (du) (oi := { dst := some 70, op := Go.Op.move (Go.Operand.tmp 3), type := 25, pos := "ref.go:136", after := #[], guard := none }) rfl rfl (by kernel_rfl) (by kernel_rfl) (by kernel_rfl) (fun _ _ _ h => h) hSd (by rfl) (fun w' hs => by rfl) ?_
                  simp only [Act.put, List.setIfInBounds_toArray, List.set_cons_zero, List.set_cons_succ]
                  refine rg_take 1 (some 71) (.pointer (some ⟨b5, 2, none⟩)) (oi := { dst := some 71, op := Go.Op.fieldAddr 54 (Go.Operand.tmp 5) 2, type := 0, pos := "ref.go:136", after := #[], guard := none }) rfl rfl (by kernel_rfl) (by kernel_rfl) (by kernel_rfl) (fun _ _ _ h => h) hSd (by rfl) (fun w' hs => by first | rfl | go_simp) ?_
                  simp only [Act.put, List.setIfInBounds_toArray, List.set_cons_zero, List.set_cons_succ]
                  refine rg_take 2 (some 72) (.slice ka x.attrs.length kc) (oi := { dst := some 72, op := Go.Op.load 49 (Go.Operand.tmp 71), type := 49, pos := "ref.go:136", after := #[{ on := 1, ground := Go.Ground.data }], guard := none }) rfl rfl (by kernel_rfl) (by kernel_rfl) (by kernel_rfl) (fun _ _ _ h => h) hSd (by rfl) (fun w' hs => by (have h0 := hs.cell (.inr rfl) f2; go_simp)) ?_
                  simp only [Act.put, List.setIfInBounds_toArray, List.set_cons_zero, List.set_cons_succ]
                  refine rg_take 5 (some 75) (.pointer (some ⟨b5, 3, none⟩)) (oi := { dst := some 75, op := Go.Op.fieldAddr 54 (Go.Operand.tmp 5) 3, type := 0, pos := "ref.go:136", after := #[], guard := none }) rfl rfl (by kernel_rfl) (by kernel_rfl) (by kernel_rfl) (fun _ _ _ h => h) hSd (by rfl) (fun w' hs => by first | rfl | go_simp) ?_
                  simp only [Act.put, List.setIfInBounds_toArray, List.set_cons_zero, List.set_cons_succ]
                  refine rg_take 6 (some 76) (.slice na x.kids.length nc) (oi := { dst := some 76, op := Go.Op.load 50 (Go.Operand.tmp 75), type := 50, pos := "ref.go:136", after := #[{ on := 5, ground := Go.Ground.data }], guard := none }) rfl rfl (by kernel_rfl) (by kernel_rfl) (by kernel_rfl) (fun _ _ _ h => h) hSd (by rfl) (fun w' hs => by (have h0 := hs.cell (.inr rfl) f3; go_simp)) ?_
                  simp only [Act.put, List.setIfInBounds_toArray, List.set_cons_zero, List.set_cons_succ]
                  refine rg_take 9 (some 79) (.pointer (some ⟨b5, 4, none⟩)) (oi := { dst := some 79, op := Go.Op.fieldAddr 54 (Go.Operand.tmp 5) 4, type := 0, pos := "ref.go:136", after := #[], guard := none }) rfl rfl (by kernel_rfl) (by kernel_rfl) (by kernel_rfl) (fun _ _ _ h => h) hSd (by rfl) (fun w' hs => by first | rfl | go_simp) ?_
                  simp only [Act.put, List.setIfInBounds_toArray, List.set_cons_zero, List.set_cons_succ]
                  refine rg_take 10 (some 80) (.agg #[.int .i64 x.node.kind, .string (bs x.node.name), .string (bs x.node.text), .slice ma x.node.attrs.length mc, .slice qa x.node.kids.length qc]) (oi := { dst := some 80, op := Go.Op.load 52 (Go.Operand.tmp 79), type := 52, pos := "ref.go:136", after := #[{ on := 9, ground := Go.Ground.data }], guard := none }) rfl rfl (by kernel_rfl) (by kernel_rfl) (by kernel_rfl) (fun _ _ _ h => h) hSd (by rfl) (fun w' hs => by (have h0 := hs.cell (.inr rfl) f4; have h1 := hs.cell (.inr rfl) f5; have h2 := hs.cell (.inr rfl) f6; have h3 := hs.cell (.inr rfl) f7; have h4 := hs.cell (.inr rfl) f8; go_simp)) ?_
                  simp only [Act.put, List.setIfInBounds_toArray, List.set_cons_zero, List.set_cons_succ]
                  refine rg_one 3 (by kernel_rfl) ?_
                  refine tk_callB 3 73 23 #[.slice ka x.attrs.length kc] rfl rfl (by rfl) (fun w' => by first | rfl | go_simp) (E := attrsB x.attrs) (list_pos _ _ _) hAccq (battrs_any _ x.attrs p _ (HR2.out _ hAccq.s.2.1) HLN.out.2.2.2.1) ?_
                  intro ge ce y1d hA1d hE1d hPe
                  refine ⟨hA1d.s, ?_⟩
                  simp only [Act.put, List.setIfInBounds_toArray, List.set_cons_zero, List.set_cons_succ]
                  refine rg_one 4 (by kernel_rfl) ?_
                  refine tk_appB 4 74 (.tmp 70) (.tmp 73) rfl rfl (by rfl) rfl rfl rfl hA1d hPe (HLN.out.2.2.2.2.1) ?_
                  intro de y2d hA2d hq2d
                  refine ⟨hA2d.s, ?_⟩
                  simp only [Act.put, List.setIfInBounds_toArray, List.set_cons_zero, List.set_cons_succ]
                  refine rg_one 7 (by kernel_rfl) ?_
                  refine tk_callB 7 77 24 #[.slice na x.kids.length nc] rfl rfl (by rfl) (fun w' => by first | rfl | go_simp) (E := nodesB x.kids) (list_pos _ _ _) hA2d (HR3.out _ hA2d.s.2.1) ?_
                  intro gg cg y3d hA3d hE3d hPg
                  refine ⟨hA3d.s, ?_⟩
                  simp only [Act.put, List.setIfInBounds_toArray, List.set_cons_zero, List.set_cons_succ]
                  refine rg_one 8 (by kernel_rfl) ?_
                  refine tk_appB 8 78 (.tmp 74) (.tmp 77) rfl rfl (by rfl) rfl rfl rfl hA3d hPg (HLN.out.2.2.2.2.2.1) ?_
                  intro dg y4d hA4d hq4d
                  refine ⟨hA4d.s, ?_⟩
                  simp only [Act.put, List.setIfInBounds_toArray, List.set_cons_zero, List.set_cons_succ]
                  refine rg_one 11 (by kernel_rfl) ?_
                  refine tk_callB 11 81 25 #[.agg #[.int .i64 x.node.kind, .string (bs x.node.name), .string (bs x.node.text), .slice ma x.node.attrs.length mc, .slice qa x.node.kids.length qc]] rfl rfl (by rfl) (fun w' => by first | rfl | go_simp) (E := nodeB x.node) (nodeB_pos _) hA4d (HR4.out _ hA4d.s.2.1) ?_
                  intro gh ch y5d hA5d hE5d hPh
                  refine ⟨hA5d.s, ?_⟩
                  simp only [Act.put, List.setIfInBounds_toArray, List.set_cons_zero, List.set_cons_succ]
                  refine rg_one 12 (by kernel_rfl) ?_
                  refine tk_appB 12 82 (.tmp 78) (.tmp 81) rfl rfl (by rfl) rfl rfl rfl hA5d hPh (HLN.out.2.2.2.2.2.2) ?_
                  intro dh y6d hA6d hq6d
                  refine ⟨hA6d.s, ?_⟩
                  simp only [Act.put, List.setIfInBounds_toArray, List.set_cons_zero, List.set_cons_succ]
                  refine rg_take 13 (some 3) (dh) (oi := { dst := some 3, op := Go.Op.assign (Go.Operand.tmp 82), type := 25, pos := "ref.go:136", after := #[{ on := 12, ground := Go.Ground.data }, { on := 12, ground := Go.Ground.chain }, { on := 0, ground := Go.Ground.phase }, { on := 1, ground := Go.Ground.phase }, { on := 2, ground := Go.Ground.phase }, { on := 3, ground := Go.Ground.phase }, { on := 4, ground := Go.Ground.phase }, { on := 5, ground := Go.Ground.phase }, { on := 6, ground := Go.Ground.phase }, { on := 7, ground := Go.Ground.phase }, { on := 8, ground := Go.Ground.phase }, { on := 9, ground := Go.Ground.phase }, { on := 10, ground := Go.Ground.phase }, { on := 11, ground := Go.Ground.phase }, { on := 12, ground := Go.Ground.phase }], guard := none }) rfl rfl (by kernel_rfl) (by kernel_rfl) (by kernel_rfl) (fun _ _ _ h => h) hA6d.s (by rfl) (fun w' hs => by rfl) ?_
                  simp only [Act.put, List.setIfInBounds_toArray, List.set_cons_zero, List.set_cons_succ]
                  refine rg_done (by kernel_rfl) ?_
                  exact ⟨ge, ce, gg, cg, gh, ch, de, dg, dh, (by first | rfl | simp only [Act.put, List.setIfInBounds_toArray, List.set_cons_zero, List.set_cons_succ]), hA6d⟩
                rintro _ w5d ⟨ge, ce, gg, cg, gh, ch, de, dg, dh, rfl, hA5d⟩
                simp only [Act.put, List.setIfInBounds_toArray, List.set_cons_zero, List.set_cons_succ]
                have HF := Lib.hid (And.intro hA5d.own hA5d.s.2.1)
                clear hA5d hAccq hXq
                go_wp2_with fail
                go_roundw
                case rel => exact ⟨i + 1, _, _, by go_num, rfl, by omega, Lib.hid ⟨HF.out.1, by rw [← HS.out.1]; unfold editB stepsB'; simp only [List.append_assoc], HRN.out, HF.out.2⟩⟩
                case measure => simp only [downV]; omega
    · have hlI : ¬ (i : Int) < (l.length : Int) := by omega
      have hF : RB w RR (.returned dv) wo := by
        rw [← HRES.out]
        obtain ⟨h1, h2, h3, h4⟩ := HH.out
        rw [List.drop_of_length_le (by omega)] at h2 h3
        simp only [List.flatMap_nil, List.append_nil, List.any_nil] at h2 h3
        rw [← h2, ← h3]
        exact ⟨_, rfl, h1, h4⟩
      have HF := Lib.hid hF
      clear hF HH
      go_wp2_with fail
      go_ret
      exact HF.out

end Go.Proofs.YtghhachbnhldoaaDoor
