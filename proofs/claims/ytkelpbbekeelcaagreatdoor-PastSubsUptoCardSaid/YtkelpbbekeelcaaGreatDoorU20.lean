/-
 xtree.Same: slices.Equal of attributes, slices.EqualFunc of nodes. Helper lemmas; no statement of the seat is proved here.
-/
import Derived.Test.YtkelpbbekeelcaaGreatDoorU10
import Derived.Test.YtkelpbbekeelcaaGreatDoorU17
import Derived.Test.YtkelpbbekeelcaaGreatDoorU18
import Derived.Test.YtkelpbbekeelcaaGreatDoorU8
import Derived.Test.YtkelpbbekeelcaaGreatDoorU14
import Derived.Laws.OwnMore
import Derived.Lib.AppendZeros
import Derived.Laws.AppendOwnNone
import Derived.Test.YtkelpbbekeelcaaGreatDoorShelf
namespace Go.Proofs.YtkelpbbekeelcaaGreatDoor
open Go.RowKit
set_option maxHeartbeats 32000000
set_option maxRecDepth 100000
set_option linter.unusedVariables false
set_option linter.unusedSimpArgs false
theorem aequal_q (p q : Nat → Prop) (x y : List Attr) (v u : Value) (w : World) (h : Rep w p v (attrsD x)) (k : Rep w q u (attrsD y)) :
  Calls Tryz.prog 93 #[v, u] w fun e w' => e = .returned (.bool (attrsS x y)) ∧ Dr w w' := by
 obtain ⟨a, c, rfl, hc1, hc2⟩ := h.count z_attr (by omega)
 obtain ⟨b, d, rfl, hd1, hd2⟩ := k.count z_attr (by omega)
 obtain ⟨R, hR⟩ : ∃ R, attrsS x y = R := ⟨_, rfl⟩
 rw [hR]
 have HR := Lh hR
 by_cases hl : x.length = y.length
 ·
  have hl1 : ((x.length : Int) != (y.length : Int)) = false := by rw [hl]; exact bne_self_eq_false _
  have HL := Lh hl
  clear hR hl
  go_enter Tryz.func93, Tryz.ntmps93
  go_wp2_with fail
  go_loopw [5, 13] (fun _ t wr => ∃ i : Nat, t = .int .i64 i ∧ i ≤ x.length ∧ Dr w wr ∧ Hid (attrsS (x.drop i) (y.drop i) = R)) (fun _ t _ => downV x.length t)
  case atStart => exact ⟨0, rfl, Nat.zero_le _, Dr.refl _, HR⟩
  case round =>
   obtain ⟨i, rfl, hi, hX, HI⟩ := hrel
   by_cases hlt : i < x.length
   ·
    have hlI : (i : Int) < (x.length : Int) := by omega
    have hi0 : (0 : Int) ≤ (i : Int) := by omega
    have hly : i < y.length := by have := HL.out; omega
    have hyI : (i : Int) < (y.length : Int) := by omega
    obtain ⟨g1, o1, rfl, hb1, hp1, hc1, hd1⟩ := attr_at (h.ext hX.ext) i hlt
    obtain ⟨g2, o2, rfl, hb2, hp2, hc2, hd2⟩ := attr_at (k.ext hX.ext) i hly
    have HS : Hid (attrsS (x.drop i) (y.drop i) = if x[i] = y[i] then attrsS (x.drop (i + 1)) (y.drop (i + 1)) else false) := Lh (by rw [drop_one x i hlt, drop_one y i hly]; rfl)
    obtain ⟨s, hs⟩ : ∃ s, x[i] = s := ⟨_, rfl⟩
    obtain ⟨t, ht⟩ : ∃ t, y[i] = t := ⟨_, rfl⟩
    rw [hs] at hc1 hd1 HS
    rw [ht] at hc2 hd2 HS
    have HX := Lh hX
    clear hs ht hX
    by_cases he : s = t
    ·
     subst he
     have HN : Hid (attrsS (x.drop (i + 1)) (y.drop (i + 1)) = R) := Lh (by have := HS.out; rw [if_pos rfl] at this; rw [← this]; exact HI.out)
     have hq := attr_eqE s
     have hg := grd_attr
     clear HS HI
     go_wp2_with fail
     go_quiet (fail)
     go_wp2_with fail
     go_roundw
     case rel => exact ⟨i + 1, by go_num, by omega, HX.out.drewN _, HN⟩
     case measure => simp only [downV]; omega
    ·
     have HN : Hid (false = R) := Lh (by have := HS.out; rw [if_neg he] at this; rw [← this]; exact HI.out)
     have hq := attr_eqN s t he
     have hg := grd_attr
     clear HS HI he
     go_wp2_with fail
     go_quiet (fail)
     go_wp2_with fail
     go_ret
     exact ⟨ret_bool HN.out, HX.out.drewN _⟩
   ·
    have hlI : ¬ (i : Int) < (x.length : Int) := by omega
    have HN : Hid (true = R) := Lh (by
     have := HI.out
     rw [List.drop_of_length_le (by omega), List.drop_of_length_le (by have := HL.out; omega)] at this
     exact this)
    clear HI
    go_wp2_with fail
    go_ret
    exact ⟨ret_bool HN.out, hX⟩
 ·
  have hl1 : ((x.length : Int) != (y.length : Int)) = true := by rw [bne_iff_ne]; omega
  have HN : Hid (false = R) := Lh (by rw [← hR, attrsS_ne x y hl])
  clear hR hl HR
  go_enter Tryz.func93, Tryz.ntmps93
  go_wp2_with fail
  go_ret
  exact ⟨ret_bool HN.out, Dr.refl _⟩
theorem aequal_any (p q : Nat → Prop) (x y : List Attr) (v u : Value) (w : World) (h : Rep w p v (attrsD x)) (k : Rep w q u (attrsD y)) :
  Calls Tryz.prog 93 #[v, u] w fun e w' => e = .returned (.bool (attrsS x y)) ∧ Ext w w' :=
 (aequal_q p q x y v u w h k).mono fun _ _ ⟨he, hd⟩ => ⟨he, hd.ext⟩
def XSame (N : Nat) : Prop := ∀ (a b : Node) (p q : Nat → Prop) (va vk ua uk : Value) (w : World), nsz a ≤ N → Rep w p va (attrsD a.attrs) → Rep w p vk (nodesD a.kids) → Rep w q ua (attrsD b.attrs) → Rep w q uk (nodesD b.kids) →
  Calls Tryz.prog 58 #[.agg #[.int .i64 a.kind, .string (bs a.name), .string (bs a.text), va, vk], .agg #[.int .i64 b.kind, .string (bs b.name), .string (bs b.text), ua, uk]] w fun e w' => e = .returned (.bool (sameN a b)) ∧ Ext w w'
theorem eqfn_of (N : Nat) (HN0 : Hid (XSame N)) (ks ks' : List Node) (p q : Nat → Prop) (v u : Value) (w : World) (hN : ∀ (i : Nat) (h : i < ks.length), nsz ks[i] ≤ N) (h : Rep w p v (nodesD ks)) (k : Rep w q u (nodesD ks')) :
  Calls Tryz.prog 94 #[v, u, .func (.func 58) #[] #[]] w fun e w' => e = .returned (.bool (sameL ks ks')) ∧ Ext w w' := by
 obtain ⟨a, c, rfl, hc1, hc2⟩ := h.count z_node (by omega)
 obtain ⟨b, d, rfl, hd1, hd2⟩ := k.count z_node (by omega)
 obtain ⟨R, hR⟩ : ∃ R, sameL ks ks' = R := ⟨_, rfl⟩
 rw [hR]
 have HR := Lh hR
 have HM := Lh hN
 clear hN
 by_cases hl : ks.length = ks'.length
 ·
  have hl1 : ((ks.length : Int) != (ks'.length : Int)) = false := by rw [hl]; exact bne_self_eq_false _
  have HL := Lh hl
  clear hR hl
  go_enter Tryz.func94, Tryz.ntmps94
  go_wp2_with fail
  go_loopw [7, 8, 9, 17] (fun _ _ _ t wr => ∃ i : Nat, t = .int .i64 i ∧ i ≤ ks.length ∧ Ext w wr ∧ Hid (sameL (ks.drop i) (ks'.drop i) = R)) (fun _ _ _ t _ => downV ks.length t)
  case atStart => exact ⟨0, rfl, Nat.zero_le _, Ext.refl _, HR⟩
  case round =>
   obtain ⟨i, rfl, hi, hX, HI⟩ := hrel
   have hi0 : (0 : Int) ≤ (i : Int) := by omega
   by_cases hlt : i < ks.length
   ·
    have hlI : (i : Int) < (ks.length : Int) := by omega
    have hly : i < ks'.length := by have := HL.out; omega
    have hyI : (i : Int) < (ks'.length : Int) := by omega
    obtain ⟨g1, o1, xa, xk, rfl, lg1, _, d0, d1, d2, d3, d4, hxa, hxk⟩ := node_at (h.ext hX) i hlt
    obtain ⟨g2, o2, ya, yk, rfl, lg2, _, e0, e1, e2, e3, e4, hya, hyk⟩ := node_at (k.ext hX) i hly
    have hm := HM.out i hlt
    have HS : Hid (sameL (ks.drop i) (ks'.drop i) = (sameN ks[i] ks'[i] && sameL (ks.drop (i + 1)) (ks'.drop (i + 1)))) := Lh (by rw [drop_one ks i hlt, drop_one ks' i hly, sameL])
    obtain ⟨x, hx⟩ : ∃ x, ks[i] = x := ⟨_, rfl⟩
    obtain ⟨y, hy⟩ : ∃ y, ks'[i] = y := ⟨_, rfl⟩
    rw [hx] at d0 d1 d2 hxa hxk hm HS
    rw [hy] at e0 e1 e2 hya hyk HS
    obtain ⟨xab, xac, rfl, _, _⟩ := hxa.count z_attr (by omega)
    obtain ⟨xkb, xkc, rfl, _, _⟩ := hxk.count z_node (by omega)
    obtain ⟨yab, yac, rfl, _, _⟩ := hya.count z_attr (by omega)
    obtain ⟨ykb, ykc, rfl, _, _⟩ := hyk.count z_node (by omega)
    obtain ⟨wo, hwo⟩ : ∃ wo, wo = wr := ⟨_, rfl⟩
    subst hwo
    have hEa : Ext wo (wo.alloc (.cells #[.int .i64 x.kind, .string (bs x.name), .string (bs x.text), .slice xab x.attrs.length xac, .slice xkb x.kids.length xkc] 60)) := (Ext.refl wo).alloc _
    have e0' := hEa.keep lg2 e0; have e1' := hEa.keep lg2 e1; have e2' := hEa.keep lg2 e2; have e3' := hEa.keep lg2 e3; have e4' := hEa.keep lg2 e4
    have HC := Lh fun W (hE : Ext wo W) => HN0.out x y p q _ _ _ _ W hm (hxa.ext hE) (hxk.ext hE) (hya.ext hE) (hyk.ext hE)
    obtain ⟨B, hB⟩ : ∃ B, sameN x y = B := ⟨_, rfl⟩
    rw [hB] at HC HS
    have b0 : ((wo.alloc (.cells #[.int .i64 x.kind, .string (bs x.name), .string (bs x.text), .slice xab x.attrs.length xac, .slice xkb x.kids.length xkc] 60)).alloc (.cells #[.int .i64 y.kind, .string (bs y.name), .string (bs y.text), .slice yab y.attrs.length yac, .slice ykb y.kids.length ykc] 60)).heap[wo.heap.size]? = some (.cells [.int .i64 x.kind, .string (bs x.name), .string (bs x.text), .slice xab x.attrs.length xac, .slice xkb x.kids.length xkc].toArray 60 (0, 0)) :=
     (Below.block ((Ext.refl _).alloc _) _ (by simp)).trans Array.getElem?_push_size
    have k0 := blk_cells b0 0 rfl; have k1 := blk_cells b0 1 rfl; have k2 := blk_cells b0 2 rfl; have k3 := blk_cells b0 3 rfl; have k4 := blk_cells b0 4 rfl
    have HE2 := Lh ((((Ext.refl wo).alloc (.cells #[.int .i64 x.kind, .string (bs x.name), .string (bs x.text), .slice xab x.attrs.length xac, .slice xkb x.kids.length xkc] 60))).alloc (.cells #[.int .i64 y.kind, .string (bs y.name), .string (bs y.text), .slice yab y.attrs.length yac, .slice ykb y.kids.length ykc] 60))
    clear hx hy hB hxa hxk hya hyk hm hEa e0 e1 e2 e3 e4 b0
    go_wp2_with fail
    refine (HC.out _ HE2.out).mono ?_
    rintro e w1 ⟨rfl, hB1⟩
    clear k0 k1 k2 k3 k4 d0 d1 d2 d3 d4 e0' e1' e2' e3' e4'
    have HX1 := Lh (hX.trans (HE2.out.trans hB1))
    clear hX HE2 hB1 HC
    cases B with
    | true =>
     have HN : Hid (sameL (ks.drop (i + 1)) (ks'.drop (i + 1)) = R) := Lh (by have := HS.out; rw [Bool.true_and] at this; rw [← this]; exact HI.out)
     clear HS HI
     go_wp2_with fail
     go_roundw
     case rel => exact ⟨i + 1, by go_num, by omega, HX1.out, HN⟩
     case measure => simp only [downV]; omega
    | false =>
     have HN : Hid (false = R) := Lh (by have := HS.out; rw [Bool.false_and] at this; rw [← this]; exact HI.out)
     clear HS HI
     go_wp2_with fail
     go_ret
     exact ⟨ret_bool HN.out, HX1.out⟩
   ·
    have hlI : ¬ (i : Int) < (ks.length : Int) := by omega
    have HN : Hid (true = R) := Lh (by
     have := HI.out
     rw [List.drop_of_length_le (by omega), List.drop_of_length_le (by have := HL.out; omega)] at this
     exact this)
    clear HI
    go_wp2_with fail
    go_ret
    exact ⟨ret_bool HN.out, hX⟩
 ·
  have hl1 : ((ks.length : Int) != (ks'.length : Int)) = true := by rw [bne_iff_ne]; omega
  have HN : Hid (false = R) := Lh (by rw [← hR, sameL_ne ks ks' hl])
  clear hR hl HR
  go_enter Tryz.func94, Tryz.ntmps94
  go_wp2_with fail
  go_ret
  exact ⟨ret_bool HN.out, Ext.refl _⟩
theorem xsame_any : ∀ N, XSame N := by
 intro N
 induction N with
 | zero => intro a b p q va vk ua uk w hm; cases a; rw [nsz] at hm; omega
 | succ N ih =>
  intro a b p q va vk ua uk w hm hva hvk hua huk
  have hEQ := Lh fun W (hE : Ext w W) => eqfn_of N (Lh ih) a.kids b.kids p q vk uk W (fun i h => by have := kid_lt a i h; omega) (hvk.ext hE) (huk.ext hE)
  have HAT := Lh fun W (hE : Ext w W) => aequal_any p q a.attrs b.attrs va ua W (hva.ext hE) (hua.ext hE)
  obtain ⟨ba, ca, rfl, _, _⟩ := hva.count z_attr (by omega)
  obtain ⟨bk, c, rfl, hc1, hc2⟩ := hvk.count z_node (by omega)
  obtain ⟨da, ea, rfl, _, _⟩ := hua.count z_attr (by omega)
  obtain ⟨dk, d, rfl, hd1, hd2⟩ := huk.count z_node (by omega)
  obtain ⟨R, hR⟩ : ∃ R, sameN a b = R := ⟨_, rfl⟩
  rw [hR]
  rw [sameN_eq] at hR
  have hE1 : Ext w (w.alloc (.cells #[.int .i64 a.kind, .string (bs a.name), .string (bs a.text), .slice ba a.attrs.length ca, .slice bk a.kids.length c] 60)) := (Ext.refl w).alloc _
  have hE2 : Ext w ((w.alloc (.cells #[.int .i64 a.kind, .string (bs a.name), .string (bs a.text), .slice ba a.attrs.length ca, .slice bk a.kids.length c] 60)).alloc (.cells #[.int .i64 b.kind, .string (bs b.name), .string (bs b.text), .slice da b.attrs.length ea, .slice dk b.kids.length d] 60)) := hE1.alloc _
  have b0 : ((w.alloc (.cells #[.int .i64 a.kind, .string (bs a.name), .string (bs a.text), .slice ba a.attrs.length ca, .slice bk a.kids.length c] 60)).alloc (.cells #[.int .i64 b.kind, .string (bs b.name), .string (bs b.text), .slice da b.attrs.length ea, .slice dk b.kids.length d] 60)).heap[w.heap.size]? = some (.cells [.int .i64 a.kind, .string (bs a.name), .string (bs a.text), .slice ba a.attrs.length ca, .slice bk a.kids.length c].toArray 60 (0, 0)) :=
   (Below.block ((Ext.refl _).alloc _) _ (by simp)).trans Array.getElem?_push_size
  have b1 : ((w.alloc (.cells #[.int .i64 a.kind, .string (bs a.name), .string (bs a.text), .slice ba a.attrs.length ca, .slice bk a.kids.length c] 60)).alloc (.cells #[.int .i64 b.kind, .string (bs b.name), .string (bs b.text), .slice da b.attrs.length ea, .slice dk b.kids.length d] 60)).heap[w.heap.size + 1]? = some (.cells [.int .i64 b.kind, .string (bs b.name), .string (bs b.text), .slice da b.attrs.length ea, .slice dk b.kids.length d].toArray 60 (0, 0)) := by
   obtain ⟨wA, hwA⟩ : ∃ W, w.alloc (.cells #[.int .i64 a.kind, .string (bs a.name), .string (bs a.text), .slice ba a.attrs.length ca, .slice bk a.kids.length c] 60) = W := ⟨_, rfl⟩
   have hz : w.heap.size + 1 = wA.heap.size := by rw [← hwA]; simp
   rw [hwA, hz]
   exact Array.getElem?_push_size
  obtain ⟨wb, hwb⟩ : ∃ W, (w.alloc (.cells #[.int .i64 a.kind, .string (bs a.name), .string (bs a.text), .slice ba a.attrs.length ca, .slice bk a.kids.length c] 60)).alloc (.cells #[.int .i64 b.kind, .string (bs b.name), .string (bs b.text), .slice da b.attrs.length ea, .slice dk b.kids.length d] 60) = W := ⟨_, rfl⟩
  rw [hwb] at hE2 b0 b1
  have k0 := blk_cells b0 0 rfl; have k1 := blk_cells b0 1 rfl; have k2 := blk_cells b0 2 rfl; have k3 := blk_cells b0 3 rfl; have k4 := blk_cells b0 4 rfl
  have j0 := blk_cells b1 0 rfl; have j1 := blk_cells b1 1 rfl; have j2 := blk_cells b1 2 rfl; have j3 := blk_cells b1 3 rfl; have j4 := blk_cells b1 4 rfl
  have l0 := blk_lt b0; have l1 := blk_lt b1
  have HE2 := Lh hE2
  have HNE : Hid (¬ (a.kind = b.kind ∧ a.name = b.name ∧ a.text = b.text) → R = false) := Lh fun h => by
   rw [← hR]
   by_cases c1 : a.kind = b.kind
   ·
    by_cases c2 : a.name = b.name
    ·
     have c3 : ¬ a.text = b.text := fun e => h ⟨c1, c2, e⟩
     rw [decide_eq_false c3]; simp
    ·
     rw [decide_eq_false c2]; simp
   ·
    rw [decide_eq_false c1]; simp
  have HYE : Hid (a.kind = b.kind ∧ a.name = b.name ∧ a.text = b.text → R = (attrsS a.attrs b.attrs && sameL a.kids b.kids)) := Lh fun ⟨h1, h2, h3⟩ => by
   rw [← hR, decide_eq_true h1, decide_eq_true h2, decide_eq_true h3]; simp
  obtain ⟨A, hA⟩ : ∃ A, attrsS a.attrs b.attrs = A := ⟨_, rfl⟩
  obtain ⟨K, hK⟩ : ∃ K, sameL a.kids b.kids = K := ⟨_, rfl⟩
  rw [hA] at HAT HYE
  rw [hK] at hEQ HYE
  clear hR hA hK hva hvk hua huk b0 b1 hE1 hE2 ih hm
  by_cases h1 : a.kind = b.kind
  ·
   have f1 : (a.kind == b.kind) = true := by rw [h1]; exact beq_self_eq_true _
   by_cases h2 : a.name = b.name
   ·
    have f2 : ((bs a.name).toList == (bs b.name).toList) = true := by rw [h2]; exact beq_self_eq_true _
    by_cases h3 : a.text = b.text
    ·
     have f3 : ((bs a.text).toList == (bs b.text).toList) = true := by rw [h3]; exact beq_self_eq_true _
     have HR := Lh (HYE.out ⟨h1, h2, h3⟩)
     clear h1 h2 h3 HYE HNE
     cases A with
     | false =>
      go_enter Tryz.func58, Tryz.ntmps58
      go_wp2_with fail
      refine (HAT.out _ HE2.out).mono ?_
      rintro e w1 ⟨rfl, hB1⟩
      clear HAT hEQ
      go_wp2_with fail
      go_ret
      exact ⟨ret_bool (by rw [HR.out]; rfl), HE2.out.trans hB1⟩
     | true =>
      go_enter Tryz.func58, Tryz.ntmps58
      go_wp2_with fail
      refine (HAT.out _ HE2.out).mono ?_
      rintro e w1 ⟨rfl, hB1⟩
      clear HAT
      have m4 := hB1.keep l0 k4
      have n4 := hB1.keep l1 j4
      go_wp2_with fail
      refine (hEQ.out _ (HE2.out.trans hB1)).mono ?_
      rintro e w2 ⟨rfl, hB2⟩
      clear hEQ
      go_wp2_with fail
      go_ret
      exact ⟨ret_bool (by rw [HR.out]; rfl), (HE2.out.trans hB1).trans hB2⟩
    ·
     have f3 : ((bs a.text).toList == (bs b.text).toList) = false := by rw [bs_toList, bs_toList, beq_eq_false_iff_ne]; exact h3
     have HR := Lh (HNE.out fun h => h3 h.2.2)
     clear h1 h2 h3 HYE HNE HAT hEQ
     go_enter Tryz.func58, Tryz.ntmps58
     go_wp2_with fail
     go_ret
     exact ⟨ret_bool HR.out.symm, HE2.out⟩
   ·
    have f2 : ((bs a.name).toList == (bs b.name).toList) = false := by rw [bs_toList, bs_toList, beq_eq_false_iff_ne]; exact h2
    have HR := Lh (HNE.out fun h => h2 h.2.1)
    clear h1 h2 HYE HNE HAT hEQ
    go_enter Tryz.func58, Tryz.ntmps58
    go_wp2_with fail
    go_ret
    exact ⟨ret_bool HR.out.symm, HE2.out⟩
  ·
   have f1 : (a.kind == b.kind) = false := by rw [beq_eq_false_iff_ne]; exact h1
   have HR := Lh (HNE.out fun h => h1 h.1)
   clear h1 HYE HNE HAT hEQ
   go_enter Tryz.func58, Tryz.ntmps58
   go_wp2_with fail
   go_ret
   exact ⟨ret_bool HR.out.symm, HE2.out⟩
mutual
def wtN (l : List Rule) : Node → List Bytes → Prop
 | .mk _ _ t _ ks, path => t = [] ∧ (frontS l path = false → wtL l ks path)
def wtL (l : List Rule) : List Node → List Bytes → Prop
 | [], _ => True
 | k :: r, path => wtN l k (path ++ [k.name]) ∧ wtL l r path
end
theorem wtN_eq (l : List Rule) (n : Node) (path : List Bytes) : wtN l n path ↔ n.text = [] ∧ (frontS l path = false → wtL l n.kids path) := by cases n; rw [wtN]; rfl
theorem wtL_mem (l : List Rule) (path : List Bytes) : ∀ (ks : List Node) (k : Node), wtL l ks path → k ∈ ks → wtN l k (path ++ [k.name])
 | [], _, _, h => by cases h
 | a :: r, k, h, hk => by
  rw [wtL] at h
  rcases List.mem_cons.1 hk with e | hk
  ·
   rw [e]; exact h.1
  ·
   exact wtL_mem l path r k h.2 hk
theorem wtL_of (l : List Rule) (path : List Bytes) : ∀ (ks : List Node), (∀ k ∈ ks, wtN l k (path ++ [k.name])) → wtL l ks path
 | [], _ => trivial
 | k :: r, h => ⟨h k List.mem_cons_self, wtL_of l path r fun k hk => h k (List.mem_cons_of_mem _ hk)⟩
mutual
theorem norm_wt (l : List Rule) : ∀ (a : Node) (path : List Bytes) (first : Int), a.kind = 1 → (normN l a path first).2.1 = 0 → wtN l (normN l a path first).1 path
 | .mk k nm tx la ks, path, first, hk, h => by
  rw [normN] at h ⊢
  by_cases hf : frontS l path = true
  ·
   rw [if_pos hf] at h ⊢
   rw [wtN_eq]
   exact ⟨rfl, fun e => by rw [hf] at e; cases e⟩
  ·
   rw [if_neg hf] at h ⊢
   exact normL_wt l ks nm (sortA [] la) path first [] [] (first + 1) (fun k hk => (by cases hk)) h
theorem normL_wt (l : List Rule) : ∀ (ks : List Node) (nm : Bytes) (la : List Attr) (path : List Bytes) (first : Int) (steps : List Step) (out : List Node) (at' : Int), (∀ k ∈ out, wtN l k (path ++ [k.name])) →
  (normL l ks nm la path first steps out at').2.1 = 0 → wtN l (normL l ks nm la path first steps out at').1 path
 | [], nm, la, path, first, steps, out, at', hi, h => by
  rw [normL, wtN_eq]
  exact ⟨rfl, fun _ => wtL_of l path out hi⟩
 | k :: r, nm, la, path, first, steps, out, at', hi, h => by
  rw [normL] at h ⊢
  by_cases c1 : k.kind = 2 ∧ trimB k.text ≠ []
  ·
   rw [if_pos c1] at h; simp at h
  ·
   rw [if_neg c1] at h ⊢
   by_cases c2 : k.kind ≠ 1
   ·
    rw [if_pos c2] at h ⊢; exact normL_wt l r nm la path first steps out at' hi h
   ·
    rw [if_neg c2] at h ⊢
    by_cases c3 : findS (path ++ [k.name]) l 0 < 0
    ·
     rw [if_pos c3] at h; simp at h
    ·
     rw [if_neg c3] at h ⊢
     by_cases c4 : (normN l k (path ++ [k.name]) at').2.1 ≠ 0
     ·
      rw [if_pos c4] at h; exact absurd h c4
     ·
      rw [if_neg c4] at h ⊢
      have hk := norm_wt l k (path ++ [k.name]) at' (by simpa using c2) (by simpa using c4)
      have hn := (norm_wf l k (path ++ [k.name]) at' (by simpa using c2) (by simpa using c4)).2
      split at h
      ·
       simp at h
      ·
       split at h
       ·
        simp at h
       ·
        rename_i key hkey c5
        rw [if_neg c5]
        refine normL_wt l r nm la path first _ _ _ (fun m hm => ?_) h
        rcases (mem_insAt _ _ _ _).1 hm with e | hm
        ·
         rw [e, hn]; exact hk
        ·
         exact hi m hm
end
theorem hasV_of (L : List Int) (v : Int) (h1 : 1 ≤ v) (h2 : v ≤ 200) : hasV (spansOf (flOf L)) v = decide (v ∈ L) := by
 have h3 : (spansOf (flOf L)).any (atS v) = inS (spansOf (flOf L)) v := rfl
 unfold hasV
 rw [mayI_of _ 1 (-1) (spansOf_may _) (by omega) (.inl (by omega)), Bool.true_and, h3, inS_of, decide_eq_true ⟨h1, h2⟩, Bool.true_and]
 have h4 := flOf_mem L v.toNat
 rw [Int.toNat_of_nonneg (by omega)] at h4
 by_cases hm : v ∈ L
 ·
  rw [decide_eq_true hm]; exact h4.2 ⟨by omega, by omega, hm⟩
 ·
  rw [decide_eq_false hm]
  cases hf : flOf L v.toNat with
  | false => rfl
  | true => exact absurd (h4.1 hf).2.2 hm
theorem ahas_of (L : List Int) (v : Int) (h1 : 1 ≤ v) (h2 : v ≤ 200) (h0 : spansOf (flOf L) ≠ []) : ahas (spansOf (flOf L)) v = decide (v ∈ L) := by
 unfold ahas
 rw [if_neg fun e => h0 (List.eq_nil_of_length_eq_zero e), hasV_of L v h1 h2]
theorem held_uniq : ∀ (hs : List Held), hs.Pairwise (fun a b => a.v < b.v) → ∀ a ∈ hs, ∀ b ∈ hs, a.v = b.v → a = b
 | [], _, a, ha, _, _, _ => by cases ha
 | h :: r, hp, a, ha, b, hb, e => by
  rw [List.pairwise_cons] at hp
  rcases List.mem_cons.1 ha with ea | ha
  ·
   rcases List.mem_cons.1 hb with eb | hb
   ·
    rw [ea, eb]
   ·
    have := hp.1 b hb; rw [ea] at e; omega
  ·
   rcases List.mem_cons.1 hb with eb | hb
   ·
    have := hp.1 a ha; rw [eb] at e; omega
   ·
    exact held_uniq r hp.2 a ha b hb e
theorem setV_get : ∀ (a : List Part) (s : List (List Int)) (k : Nat) (h : k < (setV a s).length), ∃ (h1 : k < a.length) (h2 : k < s.length), (setV a s)[k] = ⟨spansOf (flOf s[k]), a[k].attrs, a[k].kids⟩
 | [], s, k, h => by simp [setV] at h
 | _ :: _, [], k, h => by simp [setV] at h
 | p :: a, q :: s, 0, h => ⟨by simp, by simp, rfl⟩
 | p :: a, q :: s, k + 1, h => by
  simp only [setV, List.length_cons] at h
  obtain ⟨h1, h2, h3⟩ := setV_get a s k (by omega)
  exact ⟨by simpa using h1, by simpa using h2, by simpa [setV] using h3⟩
theorem part_find (whole : Bool) (hs : List Held) (hp : hs.Pairwise (fun a b => a.v < b.v)) (hv : ∀ h ∈ hs, 1 ≤ h.v ∧ h.v ≤ 200) (h : Held) (hm : h ∈ hs) :
  ∃ q, (partsP whole hs).find? (atP h.v) = some q ∧ q.attrs = h.n.attrs ∧ q.kids = kidsW whole h.n := by
 have hi := partsG_all whole hs hp
 have hb := hv h hm
 obtain ⟨k, hk, hvk⟩ := hi.all h hm
 obtain ⟨G, hG⟩ : ∃ G, partsG whole hs ([], []) = G := ⟨_, rfl⟩
 have hsame : ∀ (j : Nat) (hj : j < G.2.length) (hj' : j < G.1.length), h.v ∈ G.2[j] → G.1[j].attrs = h.n.attrs ∧ G.1[j].kids = kidsW whole h.n := fun j hj hj' hjv => by
  subst hG
  obtain ⟨d, hd, e1, e2, e3⟩ := hi.of j hj hj' h.v hjv
  rw [held_uniq hs hp d hd h hm e1] at e2 e3
  exact ⟨e2.symm, e3.symm⟩
 unfold partsP
 rw [hG] at hi hk ⊢
 simp only [hG] at hvk
 obtain ⟨S, V⟩ := G
 have hlen := hi.len
 simp only at hlen hk hvk hsame ⊢
 by_cases hc : 1 < S.length
 ·
  rw [if_pos hc]
  have hat : ∀ (j : Nat) (hj : j < (setV S V).length), ∃ (h1 : j < S.length) (h2 : j < V.length), (setV S V)[j] = ⟨spansOf (flOf V[j]), S[j].attrs, S[j].kids⟩ ∧ (atP h.v (setV S V)[j] = true ↔ h.v ∈ V[j]) := fun j hj => by
   obtain ⟨h1, h2, h3⟩ := setV_get S V j hj
   refine ⟨h1, h2, h3, ?_⟩
   have hne : spansOf (flOf V[j]) ≠ [] := by
    obtain ⟨u, hu⟩ := List.exists_mem_of_ne_nil _ (hi.ne _ (List.getElem_mem h2))
    obtain ⟨d, hd, e, _⟩ := hi.of j h2 h1 u hu
    have := hv d hd
    exact spansOf_ne _ u hu (by omega) (by omega)
   unfold atP
   rw [h3, ahas_of _ _ hb.1 hb.2 hne, decide_eq_true_iff]
  have hsl := setV_len S V hlen
  cases hf : (setV S V).find? (atP h.v) with
  | none =>
   rw [List.find?_eq_none] at hf
   exact absurd ((hat k (by omega)).2.2.2.2 hvk) (hf _ (List.getElem_mem _))
  | some q =>
   have h1 := List.find?_some hf
   obtain ⟨j, hj, e⟩ := List.getElem_of_mem (List.mem_of_find?_eq_some hf)
   obtain ⟨j1, j2, j3, j4⟩ := hat j hj
   rw [← e] at h1 ⊢
   obtain ⟨a1, a2⟩ := hsame j j2 j1 (j4.1 h1)
   exact ⟨_, rfl, by rw [j3]; exact a1, by rw [j3]; exact a2⟩
 ·
  rw [if_neg hc]
  obtain ⟨q, rfl⟩ := List.length_eq_one_iff.1 (show S.length = 1 by omega)
  have hq := hi.bare q (by simp)
  have ha : atP h.v q = true := by unfold atP ahas; rw [hq]; rfl
  obtain rfl : k = 0 := by rw [← hlen] at hk; simp at hk; exact hk
  obtain ⟨a1, a2⟩ := hsame 0 hk (by simp) hvk
  exact ⟨q, by rw [List.find?_cons, ha], a1, a2⟩
theorem lookK_some (s : Step) : ∀ (ss : List Step) (ks : List Node), ss.length = ks.length → s ∈ ss → ∃ k, lookK s ss ks = some k
 | [], _, _, h => by cases h
 | _ :: _, [], h, _ => by cases h
 | a :: ss, k :: ks, h, hm => by
  rw [lookK]
  by_cases e : s = a
  ·
   rw [if_pos e]; exact ⟨_, rfl⟩
  ·
   rw [if_neg e]
   rcases List.mem_cons.1 hm with h1 | h1
   ·
    exact absurd h1 e
   ·
    exact lookK_some s ss ks (by simpa using h) h1
theorem fmap_congr {α β : Type} (f g : α → Option β) : ∀ (l : List α), (∀ x ∈ l, f x = g x) → l.filterMap f = l.filterMap g
 | [], _ => rfl
 | a :: l, h => by rw [List.filterMap_cons, List.filterMap_cons, h a List.mem_cons_self, fmap_congr f g l fun x hx => h x (List.mem_cons_of_mem _ hx)]
theorem look_all : ∀ (G ss : List Step) (ks : List Node), Rising G → Rising ss → ss.length = ks.length → (∀ t ∈ ss, t ∈ G) → G.filterMap (fun t => lookK t ss ks) = ks
 | [], [], ks, _, _, hl, _ => by cases ks with | nil => rfl | cons _ _ => cases hl
 | [], s :: ss, ks, _, _, _, h => by have := h s List.mem_cons_self; cases this
 | g :: G, [], ks, _, _, hl, _ => by
  cases ks with
  | cons _ _ => cases hl
  | nil => rw [fmap_congr _ (fun _ => none) _ fun x _ => lookK_none_of x [] [] (by simp)]; simp
 | g :: G, s :: ss, [], _, _, hl, _ => by cases hl
 | g :: G, s :: ss, k :: ks, hG, hS, hl, h => by
  have hGt := rising_tail hG
  by_cases e : g = s
  ·
   subst e
   rw [List.filterMap_cons, lookK, if_pos rfl]
   simp only
   congr 1
   rw [fmap_congr _ (fun t => lookK t ss ks) G fun x hx => by rw [lookK, if_neg (fun e => by rw [e] at hx; exact rising_head hG hx)]]
   exact look_all G ss ks hGt (rising_tail hS) (by simpa using hl) fun t ht => by
    rcases List.mem_cons.1 (h t (List.mem_cons_of_mem _ ht)) with e | hm
    ·
     rw [e] at ht; exact absurd ht (rising_head hS)
    ·
     exact hm
  ·
   have hs : s ∈ G := by
    rcases List.mem_cons.1 (h s List.mem_cons_self) with e2 | hm
    ·
     exact absurd e2.symm e
    ·
     exact hm
   rw [Rising, List.pairwise_cons] at hG
   have hgs := hG.1 s hs
   have hn : g ∉ s :: ss := fun hm => by
    rcases List.mem_cons.1 hm with e2 | hm
    ·
     exact e e2
    ·
     rw [Rising, List.pairwise_cons] at hS
     have := aheadB_asymm _ _ (hS.1 g hm)
     rw [this] at hgs; cases hgs
   rw [List.filterMap_cons, lookK_none_of g _ _ hn]
   simp only
   exact look_all G (s :: ss) (k :: ks) hGt hS hl fun t ht => by
    rcases List.mem_cons.1 (h t ht) with e2 | hm
    ·
     rw [e2] at ht; exact absurd ht hn
    ·
     exact hm
theorem atL_map {α : Type} (v : Int) (f : α → ANode) (g : α → Option Node) : ∀ (l : List α), (∀ x ∈ l, (ahas (f x).vers v = true ∧ g x = some (atN v (f x))) ∨ (ahas (f x).vers v = false ∧ g x = none)) → atL v (l.map f) = l.filterMap g
 | [], _ => by simp [atL]
 | a :: l, h => by
  have ih := atL_map v f g l fun x hx => h x (List.mem_cons_of_mem _ hx)
  rw [List.map_cons, atL, List.filterMap_cons]
  rcases h a List.mem_cons_self with ⟨h1, h2⟩ | ⟨h1, h2⟩
  ·
   rw [if_pos h1, h2, ih]
  ·
   rw [if_neg (by rw [h1]; decide), h2, ih]
def HeldOK (l : List Rule) (path : List Bytes) (s : Step) (N : Nat) (hs : List Held) : Prop :=
 hs.Pairwise (fun a b => a.v < b.v) ∧ ∀ h ∈ hs, wfN l h.n path ∧ wtN l h.n path ∧ h.n.name = s.n ∧ nsz h.n ≤ N ∧ 1 ≤ h.v ∧ h.v ≤ 200
theorem HeldOK.below {l : List Rule} {path : List Bytes} {s : Step} {N : Nat} {hs : List Held} (h : HeldOK l path s (N + 1) hs) (hf : frontS l path = false) (t : Step) : HeldOK l (path ++ [t.n]) t N (selH l path t hs) := by
 obtain ⟨hp, hh⟩ := h
 have hris : ∀ h ∈ hs, Rising (stepsS l path h.n.kids) := fun h hm => (((wfN_eq l h.n path).1 (hh h hm).1).2 hf).2.1
 refine ⟨?_, fun g hg => ?_⟩
 ·
  have h1 := (List.pairwise_map (f := fun h : Held => h.v) (R := fun a b => a < b)).2 hp
  exact List.pairwise_map.1 (h1.sublist (selH_sub l path t hs hris))
 ·
  obtain ⟨h, hm, hk, hv⟩ := (selH_mem l path t hs hris g).1 hg
  obtain ⟨w1, w2, w3, w4, w5⟩ := hh h hm
  obtain ⟨hk1, hk2, _⟩ := (walkF_step l h.n path t [] 0 w1).2 _ hk
  have a1 := wfL_mem l path _ _ (((wfN_eq l h.n path).1 w1).2 hf).2.2 hk1
  have a2 := wtL_mem l path _ _ (((wtN_eq l h.n path).1 w2).2 hf) hk1
  rw [hk2] at a1 a2
  have h6 := nsz_mem _ _ hk1
  exact ⟨a1, a2, hk2, by omega, by rw [hv]; exact w5⟩
theorem at_held (l : List Rule) : ∀ (N : Nat) (path : List Bytes) (s : Step) (hs : List Held) (above : List Span), HeldOK l path s N hs → ∀ h ∈ hs, atN h.v (nodeP l N path s hs above) = h.n
 | 0, path, s, hs, above, hh, h, hm => by
  have := (hh.2 h hm).2.2.2.1
  have := nsz_pos h.n
  omega
 | N + 1, path, s, hs, above, hh, h, hm => by
  obtain ⟨w1, w2, w3, w4, b1, b2⟩ := hh.2 h hm
  have hvs : ∀ h ∈ hs, 1 ≤ h.v ∧ h.v ≤ 200 := fun h hm => (hh.2 h hm).2.2.2.2
  obtain ⟨q, q1, q2, q3⟩ := part_find (frontS l path) hs hh.1 hvs h hm
  have hkind := ((wfN_eq l h.n path).1 w1).1
  have htext := ((wtN_eq l h.n path).1 w2).1
  have hname : (nodeP l (N + 1) path s hs above).name = s.n := rfl
  have hparts : (nodeP l (N + 1) path s hs above).parts = partsP (frontS l path) hs := rfl
  have hkids := nodeP_kids l N path s hs above
  have hA : partA h.v (partsP (frontS l path) hs) = h.n.attrs := by unfold partA; rw [q1]; exact q2
  have hK : partK h.v (partsP (frontS l path) hs) = kidsW (frontS l path) h.n := by unfold partK; rw [q1]; exact q3
  have hfin : kidsW (frontS l path) h.n ++ atL h.v (nodeP l (N + 1) path s hs above).kids = h.n.kids := by
   rw [hkids]
   cases hf : frontS l path with
   | true => rw [if_pos rfl, atL, List.append_nil]; rfl
   | false =>
    rw [if_neg (by decide), show kidsW false h.n = [] from rfl, List.nil_append]
    obtain ⟨c1, c2, c3⟩ := ((wfN_eq l h.n path).1 w1).2 hf
    have hG := gather_all l path hs
    have hris : ∀ h ∈ hs, Rising (stepsS l path h.n.kids) := fun h hm => (((wfN_eq l h.n path).1 (hh.2 h hm).1).2 hf).2.1
    have hmem := fun t => selH_mem l path t hs hris
    rw [atL_map h.v _ (fun p => lookK p.1 (stepsS l path h.n.kids) h.n.kids)]
    ·
     have e1 : (gather l path hs ([], [])).1 = ((gather l path hs ([], [])).1.zip (gather l path hs ([], [])).2).map Prod.fst := by rw [List.map_fst_zip (by rw [hG.len]; omega)]
     have e2 : ((gather l path hs ([], [])).1.zip (gather l path hs ([], [])).2).filterMap (fun p => lookK p.1 (stepsS l path h.n.kids) h.n.kids) = (gather l path hs ([], [])).1.filterMap (fun t => lookK t (stepsS l path h.n.kids) h.n.kids) := by
      conv => rhs; rw [e1]
      rw [List.filterMap_map]; rfl
     rw [e2]
     refine look_all _ _ _ hG.rise c2 c1 fun t ht => (hG.iff t).1 fun e => ?_
     obtain ⟨k, hk⟩ := lookK_some t _ _ c1 ht
     have := (hmem t ⟨h.v, k⟩).2 ⟨h, hm, hk, rfl⟩
     rw [e] at this; cases this
    ·
     intro p hpm
     have hp2 : p.2 = selH l path p.1 hs := hG.eq p hpm
     have hne : selH l path p.1 hs ≠ [] := (hG.iff p.1).2 (List.of_mem_zip hpm).1
     have hb := hh.below hf p.1
     rw [nodeP_vers, hp2]
     have hown : ∀ v : Int, 1 ≤ v → v ≤ 200 → hasV (ownV (selH l path p.1 hs)) v = decide (v ∈ (selH l path p.1 hs).map (·.v)) := fun v h1 h2 => hasV_of _ v h1 h2
     have hane : ownV (selH l path p.1 hs) ≠ [] := ownV_ne _ hne fun g hg => (hb.2 g hg).2.2.2.2
     have hah : ahas (versV (selH l path p.1 hs) (ownV hs)) h.v = decide (h.v ∈ (selH l path p.1 hs).map (·.v)) := by
      unfold versV
      by_cases he : spansS (ownV (selH l path p.1 hs)) (ownV hs) = true
      ·
       rw [if_pos he]
       have e1 := (spansS_iff _ _).1 he
       have h3 := hown h.v b1 b2
       rw [e1] at h3
       have h4 : hasV (ownV hs) h.v = decide (h.v ∈ hs.map (·.v)) := hasV_of _ h.v b1 b2
       rw [h4, decide_eq_true (List.mem_map.2 ⟨h, hm, rfl⟩)] at h3
       rw [← h3]; rfl
      ·
       rw [if_neg he]
       unfold ahas
       rw [if_neg fun e => hane (List.eq_nil_of_length_eq_zero e)]
       exact hown h.v b1 b2
     rw [hah]
     cases hk : lookK p.1 (stepsS l path h.n.kids) h.n.kids with
     | some k =>
      left
      have hg := (hmem p.1 ⟨h.v, k⟩).2 ⟨h, hm, hk, rfl⟩
      refine ⟨decide_eq_true (List.mem_map.2 ⟨_, hg, rfl⟩), ?_⟩
      congr 1
      exact (at_held l N (path ++ [p.1.n]) p.1 _ (ownV hs) hb _ hg).symm
     | none =>
      right
      refine ⟨decide_eq_false fun hv => ?_, rfl⟩
      obtain ⟨g, hg, e⟩ := List.mem_map.1 hv
      obtain ⟨h', hm', hk', hv'⟩ := (hmem p.1 g).1 hg
      have := held_uniq hs hh.1 h' hm' h hm (by rw [← hv']; exact e)
      subst this
      rw [hk] at hk'; cases hk'
  rw [atN_eq, hname, hparts, hA, hK, hfin]
  cases hn : h.n with
  | mk k nm tx la ks =>
   rw [hn] at hkind htext w3
   simp only [Node.kind, Node.text, Node.name] at hkind htext w3
   rw [hkind, htext, w3]
   rfl
theorem walkA_at (l : List Rule) : ∀ (x : List Step) (N : Nat) (path : List Bytes) (s : Step) (hs : List Held) (above : List Span) (i : Nat), HeldOK l path s N hs →
  ∀ n vs m, walkA (nodeP l N path s hs above) (ownV hs) x i = (some (n, vs), m) → ∀ h ∈ hs, (walkF l h.n path x i).2 = i + x.length → atN h.v n = (walkF l h.n path x i).1
 | [], N, path, s, hs, above, i, hh, n, vs, m, e, h, hm, hw => by
  rw [walkA] at e
  injection e with e1 e2
  injection e1 with e1
  injection e1 with e1 e3
  rw [← e1, walkF]
  exact at_held l N path s hs above hh h hm
 | t :: r, 0, path, s, hs, above, i, hh, n, vs, m, e, h, hm, hw => by
  have := (hh.2 h hm).2.2.2.1
  have := nsz_pos h.n
  omega
 | t :: r, N + 1, path, s, hs, above, i, hh, n, vs, m, e, h, hm, hw => by
  have hG := gather_all l path hs
  rw [walkA] at e
  by_cases hc : idxA t (nodeP l (N + 1) path s hs above).kids 0 < 0
  ·
   rw [if_pos hc] at e; cases e
  ·
   rw [if_neg hc] at e
   obtain ⟨j, hj, ej, hb⟩ := idxA_at t _ 0 hc
   rw [Nat.zero_add] at ej
   have hk := nodeP_kids l N path s hs above
   cases hf : frontS l path with
   | true =>
    exfalso
    rw [hk, hf, if_pos rfl] at hj
    simp at hj
   | false =>
    rw [hf, if_neg (by decide)] at hk
    have hget : (nodeP l (N + 1) path s hs above).kids.getD (idxA t (nodeP l (N + 1) path s hs above).kids 0).toNat zeroA = (nodeP l (N + 1) path s hs above).kids[j] := by
     rw [ej, Int.toNat_natCast, List.getD_eq_getElem?_getD, List.getElem?_eq_getElem hj]; rfl
    rw [hget] at e
    obtain ⟨K, hK⟩ : ∃ K, (nodeP l (N + 1) path s hs above).kids = K := ⟨_, rfl⟩
    simp only [hK] at hj hb e
    rw [hK] at hk
    subst hk
    rw [List.length_map] at hj
    rw [List.getElem_map] at hb e
    have hzm := List.getElem_mem hj
    obtain ⟨p, hp⟩ : ∃ p, ((gather l path hs ([], [])).1.zip (gather l path hs ([], [])).2)[j] = p := ⟨_, rfl⟩
    rw [hp] at hb e hzm
    rw [nodeP_is] at hb
    have hpt := (stepB_iff _ _).1 hb
    have hp2 : p.2 = selH l path p.1 hs := hG.eq p hzm
    have hs0 : selH l path p.1 hs ≠ [] := (hG.iff p.1).2 (List.of_mem_zip hzm).1
    rw [hp2, hpt] at e
    rw [hpt] at hs0
    have hB := hh.below hf t
    have hvers : eitherS (nodeP l N (path ++ [t.n]) t (selH l path t hs) (ownV hs)).vers (ownV hs) = ownV (selH l path t hs) := by
     rw [nodeP_vers]; exact either_vers _ _ hs0 fun g hg => (hB.2 g hg).2.2.2.2
    rw [hvers] at e
    have hris : ∀ h ∈ hs, Rising (stepsS l path h.n.kids) := fun h hm => (((wfN_eq l h.n path).1 (hh.2 h hm).1).2 hf).2.1
    obtain ⟨f1, f2⟩ := walkF_step l h.n path t r i (hh.2 h hm).1
    cases hk : lookK t (stepsS l path h.n.kids) h.n.kids with
    | none => rw [f1 hk, List.length_cons] at hw; simp only at hw; omega
    | some k =>
     obtain ⟨_, _, f5⟩ := f2 k hk
     rw [f5] at hw ⊢
     have hg := (selH_mem l path t hs hris ⟨h.v, k⟩).2 ⟨h, hm, hk, rfl⟩
     exact walkA_at l r N (path ++ [t.n]) t _ (ownV hs) (i + 1) hB n vs m e ⟨h.v, k⟩ hg (by rw [hw, List.length_cons]; omega)
theorem sub_law (l : List Rule) (nm : Bytes) (ds : List Node) (x : List Step) (hw : ∀ d ∈ ds, wfN l d [nm] ∧ wtN l d [nm] ∧ d.name = nm) (h200 : ds.length ≤ 200) (n : ANode) (vs : List Span) (j : Nat) (hf : findA ds.length (rootP l nm ds) x = (some (n, vs), j)) :
  ∀ h ∈ heldsOf ds 0, (findF l h.n x).2 = x.length ∧ 0 < (findF l h.n x).2 → atN h.v n = (findF l h.n x).1 := by
 cases x with
 | nil => rw [findA] at hf; cases hf
 | cons t r =>
  rw [findA] at hf
  by_cases hc : (ds.length : Int) < 1 ∨ isB (rootP l nm ds) t = false
  ·
   rw [if_pos hc] at hf; cases hf
  ·
   rw [if_neg hc] at hf
   have hd : ds ≠ [] := by intro e; subst e; exact hc (.inl (by simp))
   have hroot : rootP l nm ds = nodeP l (nszL ds + 1) [nm] ⟨nm, []⟩ (heldsOf ds 0) [] := by unfold rootP; rw [if_neg hd]
   have hhne : heldsOf ds 0 ≠ [] := by cases ds with | nil => exact absurd rfl hd | cons d r => intro e; rw [heldsOf] at e; cases e
   have hall : HeldOK l [nm] ⟨nm, []⟩ (nszL ds + 1) (heldsOf ds 0) := ⟨heldsOf_rise ds 0, fun h hm => by
    obtain ⟨a, b, c⟩ := heldsOf_mem ds 0 h hm
    have := nszL_le ds h.n a
    exact ⟨(hw _ a).1, (hw _ a).2.1, (hw _ a).2.2, by omega, by omega, by omega⟩⟩
   have hst : stepB ⟨nm, []⟩ t = true := by
    cases hb : stepB ⟨nm, []⟩ t with
    | true => rfl
    | false => exact absurd (.inr (by rw [hroot, nodeP_is]; exact hb)) hc
   have hev : eitherS (rootP l nm ds).vers [] = ownV (heldsOf ds 0) := by
    rw [hroot, nodeP_vers]; exact either_vers _ _ hhne fun h hm => (hall.2 h hm).2.2.2.2
   rw [hev, hroot] at hf
   intro h hm hh
   have hfd : findF l h.n (t :: r) = walkF l h.n [nm] r 1 := by
    obtain ⟨a, _, _⟩ := heldsOf_mem ds 0 h hm
    obtain ⟨b, _, c⟩ := hw _ a
    rw [wfN_eq] at b
    rw [findF, c, if_pos ⟨b.1, hst⟩]
   rw [hfd] at hh ⊢
   exact walkA_at l r _ _ _ _ [] 1 hall n vs j hf h hm (by rw [hh.1, List.length_cons]; omega)
theorem imax_if (a b : Int) : max a b = if a < b then b else a := by split <;> omega
def spanV (l : List Span) : List Value := l.flatMap fun s => [.int .i64 s.a, .int .i64 s.b]
theorem spanV_len : ∀ l, (spanV l).length = l.length * 2
 | [] => rfl
 | s :: r => by rw [spanV, List.flatMap_cons, List.length_append, ← spanV, spanV_len r]; simp only [List.length_cons, List.length_nil]; omega
theorem spanV_append (l m : List Span) : spanV (l ++ m) = spanV l ++ spanV m := by unfold spanV; rw [List.flatMap_append]
theorem reps_span (w : World) (p : Nat → Prop) : ∀ l : List Span, Reps w p (spanV l) (l.flatMap spanC)
 | [] => Reps.nil _ _
 | s :: r => by
  rw [spanV, List.flatMap_cons, List.flatMap_cons]
  exact Reps.append (Reps.cons (Rep.int _ _ _ _) (Reps.cons (Rep.int _ _ _ _) (Reps.nil _ _))) (reps_span w p r)
theorem reps_spanV {w : World} {p : Nat → Prop} {us : List Value} {l : List Span} (h : Reps w p us (l.flatMap spanC)) : us = spanV l := by
 have h2 := reps_span w p l
 refine List.ext_getElem (by rw [h.1, h2.1]) fun k h3 h4 => ?_
 have h5 : k < (l.flatMap spanC).length := by rw [← h.1]; exact h3
 have a := h.2 k _ _ (List.getElem?_eq_getElem h3) (List.getElem?_eq_getElem h5)
 have b := h2.2 k _ _ (List.getElem?_eq_getElem h4) (List.getElem?_eq_getElem h5)
 obtain ⟨x, _, hx⟩ := List.mem_flatMap.1 (List.getElem_mem h5)
 have : ∃ n : Int, (l.flatMap spanC)[k] = .v (.int .i64 n) := by
  simp only [spanC, List.mem_cons, List.not_mem_nil, or_false] at hx
  rcases hx with e | e <;> exact ⟨_, e⟩
 obtain ⟨n, hn⟩ := this
 rw [hn] at a b
 rw [a.is, b.is]
def putS : List Span → Span → List Span
 | [], s => [s]
 | [t], s => if s.a ≤ t.b + 1 then [⟨t.a, if t.b < s.b then s.b else t.b⟩] else [t, s]
 | t :: u :: r, s => t :: putS (u :: r) s
theorem putS_snoc (t s : Span) : ∀ l : List Span, putS (l ++ [t]) s = if s.a ≤ t.b + 1 then l ++ [⟨t.a, if t.b < s.b then s.b else t.b⟩] else l ++ [t, s]
 | [] => rfl
 | [u] => by
  show u :: putS [t] s = _
  rw [putS]; split <;> rfl
 | u :: x :: r => by
  have := putS_snoc t s (x :: r)
  show u :: putS (x :: r ++ [t]) s = _
  rw [this]; split <;> rfl
theorem s1Int : ∀ W, (sizeOf 3).run Tryz.prog W = .ok 1 W := fun W => by go_simp
theorem store_int {P : Program} {W : World} {b o : Nat} {u : Value} (t : TypeId) (hs : ∀ W, (sizeOf t).run P W = .ok 1 W) (hc : W.cell? ⟨b, o, none⟩ = some u) (hf : W.frozen? ⟨b, o, none⟩ = false) (n : Int) :
  (Instr.storeAt t (.pointer (some ⟨b, o, none⟩)) (.int .i64 n)).run P W = .ok () (W.setCell ⟨b, o, none⟩ (.int .i64 n)) := by
 go_simp
theorem Sx.free {w0 w' : World} (h : Sx w0 w') {b o : Nat} {v : Bool} (hb : b < w0.heap.size) (hc : w0.frozen? ⟨b, o, none⟩ = v) : w'.frozen? ⟨b, o, none⟩ = v := Ext.free h hb hc
theorem put_any (l : List Span) (s : Span) (base : Nat) (dv : Value) (w : World) (hrow : w.ownsRow base 96 2 dv l.length (spanV l)) (hl : l.length ≤ 1000) (hb : ∀ t ∈ l, 0 ≤ t.b ∧ t.b ≤ 1000) (hbs : base ≤ w.heap.size) :
  Calls Tryz.prog 126 #[dv, .agg #[.int .i64 s.a, .int .i64 s.b]] w fun e w' => (∃ v', e = .returned v' ∧ w'.ownsRow base 96 2 v' (putS l s).length (spanV (putS l s))) ∧ Below base w w' := by
 obtain ⟨i0, hi, hz0, hz1, hz2⟩ := info_parts infoSpan
 obtain ⟨wa, hwa⟩ : ∃ W, w.alloc (.cells #[.int .i64 s.a, .int .i64 s.b] 96) = W := ⟨_, rfl⟩
 have hEa : Ext w wa := by rw [← hwa]; exact (Ext.refl w).alloc _
 have hrowa := rows_ext hrow hEa
 have hba : wa.heap[w.heap.size]? = some (.cells [.int .i64 s.a, .int .i64 s.b].toArray 96 (0, 0)) := by rw [← hwa]; exact Array.getElem?_push_size
 have k0 := blk_cells hba 0 rfl; have k1 := blk_cells hba 1 rfl
 have lw := blk_lt hba
 have hsa := hEa.size
 have HE := Lh hEa
 clear hEa hba
 rcases List.eq_nil_or_concat l with rfl | ⟨i, t, rfl⟩
 ·
  have hrow0 := hrow
  obtain ⟨oa, oc, rfl⟩ := own_form hrow
  simp only [List.length_nil] at *
  go_enter Tryz.func126, Tryz.ntmps126
  go_wp2_with fail
  go_quiet (fail)
  go_wp2_with (at_builtin; refine wpList_append_own_at _ rfl (.tmp 37) (.tmp 39) _ rfl base 96 i0 (.agg #[.int .i64 0, .int .i64 0]) 2 16 Tryz.underlying30 hi hz0 hz1 hz2 rfl (by decide) (.slice oa 0 oc) 0 (spanV []) rfl (rows_ext hrowa (((Ext.refl wa).drewN _).alloc _)) ⟨wa.heap.size, 0, none⟩ 1 1 [.int .i64 s.a, .int .i64 s.b] rfl rfl new_two (by intro u hu; simp at hu; rcases hu with rfl | rfl <;> rfl) (by unfold maxLen; omega) (by omega) (by simp; omega) ?_; intro v2 w3 hown2 hgrow2 _ hat2)
  have hBl : Below base w w3 := Below.grown ((Below.mono (((HE.out.trans (((Ext.refl wa).drewN _).alloc _)))) hbs)) hgrow2 (by simp; omega) fun k hk => (hrow0.lt k hk).1
  go_wp2_with fail
  go_ret
  exact ⟨⟨v2, rfl, by simpa [putS, spanV] using hown2⟩, hBl⟩
 ·
  rw [List.concat_eq_append] at *
  obtain ⟨mq, hm⟩ : ∃ mq, i.length = mq := ⟨_, rfl⟩
  have hlen : (i ++ [t]).length = mq + 1 := by rw [List.length_append, hm]; rfl
  rw [hlen] at hrow hrowa hl
  obtain ⟨g, cap, rfl, hg, hbg⟩ := own_some hrow (by omega)
  have ht := hb t (by simp)
  have hV : spanV (i ++ [t]) = spanV i ++ [.int .i64 t.a, .int .i64 t.b] := spanV_append _ _
  have hVl : (spanV i).length = mq * 2 := by rw [spanV_len, hm]
  have gc1 : wa.cell? ⟨g, mq * 2 + 1, none⟩ = some (.int .i64 t.b) := by
   rw [hrowa.cellAt _ (by omega), hV, List.getElem?_append_right (by omega), hVl]
   simp
  have fc1 := hrowa.frozenAt (mq * 2 + 1)
  have lg : g < wa.heap.size := Nat.lt_of_lt_of_le hg hsa
  have HV := Lh (And.intro hV (And.intro hVl (And.intro hlen hrow)))
  have w1 : IntKind.i64.wrap (((mq + 1 : Nat) : Int) - 1) = (mq : Int) := by rw [show ((mq + 1 : Nat) : Int) - 1 = (mq : Int) by omega]; exact IntWalk.i64_in _ (by omega)
  have w2 : IntKind.i64.wrap (t.b + 1) = t.b + 1 := IntWalk.i64_in _ (by omega)
  have w3 : IntKind.i64.wrap ((mq : Int) + 1 - 1) = (mq : Int) := by rw [show (mq : Int) + 1 - 1 = (mq : Int) by omega]; exact IntWalk.i64_in _ (by omega)
  have p1 : (0 : Int) < ((mq + 1 : Nat) : Int) := by omega
  have p2 : (0 : Int) < (mq : Int) + 1 := by omega
  have p3 := decide_eq_true p2
  have HP := Lh (putS_snoc t s i)
  have htn : (mq : Int).toNat = mq := Int.toNat_natCast mq
  have w4 : IntKind.i64.wrap (mq : Int) = (mq : Int) := IntWalk.i64_in _ (by omega)
  have hm0 : (0 : Int) ≤ (mq : Int) := by omega
  have hm1 : (mq : Int) < (mq : Int) + 1 := by omega
  clear hV hVl hlen hb hm
  by_cases hc : s.a ≤ t.b + 1
  ·
   have hcd := decide_eq_true hc
   go_enter Tryz.func126, Tryz.ntmps126
   go_wp2_with fail
   go_quiet (fail)
   go_wp2_with fail
   obtain ⟨wz, hwz⟩ : ∃ W, wa.drewN nq = W := ⟨_, rfl⟩
   have hEz : Ext wa wz := by rw [← hwz]; exact (Ext.refl wa).drewN _
   have hrowz := rows_ext hrowa hEz
   have gc1 := hEz.keep lg gc1
   have fc1 := hEz.free lg fc1
   have k1 := hEz.keep lw k1
   have lg : g < wz.heap.size := Nat.lt_of_lt_of_le lg hEz.size
   have lw : w.heap.size < wz.heap.size := Nat.lt_of_lt_of_le lw hEz.size
   rw [hwz]
   have HEZ := Lh (And.intro hEz hrowz)
   clear hwz hEz hrowz hrowa hrow
   refine rg_cut (S := Sx wz) 14 (by kernel_rfl) (by kernel_rfl) (by kernel_rfl) (by kernel_rfl) (Sx.begin _) ?_
   have hSc : Sx wz (World.drew wz) := (Sx.begin _)
   refine rg_t 0 (some 22) (.slice (some ⟨g, 0, none⟩) (mq + 1) cap) rfl hSc (fun w' hs => by rfl) ?_
   simp only [Act.put, sA, sZ, sS]
   refine rg_t 1 (some 23) (.int .i64 ((mq : Int) + 1)) rfl hSc (fun w' hs => by rfl) ?_
   simp only [Act.put, sA, sZ, sS]
   refine rg_t 2 (some 24) (.int .i64 (mq : Int)) rfl hSc (fun w' hs => by first | rfl | go_simp) ?_
   simp only [Act.put, sA, sZ, sS]
   refine rg_t 3 (some 25) (.slice (some ⟨g, 0, none⟩) (mq + 1) cap) rfl hSc (fun w' hs => by rfl) ?_
   simp only [Act.put, sA, sZ, sS]
   refine rg_t 4 (some 26) (.int .i64 ((mq : Int) + 1)) rfl hSc (fun w' hs => by rfl) ?_
   simp only [Act.put, sA, sZ, sS]
   refine rg_t 5 (some 27) (.int .i64 (mq : Int)) rfl hSc (fun w' hs => by first | rfl | go_simp) ?_
   simp only [Act.put, sA, sZ, sS]
   refine rg_t 6 (some 28) (.pointer (some ⟨g, mq * 2, none⟩)) rfl hSc (fun w' hs => by first | rfl | go_simp) ?_
   simp only [Act.put, sA, sZ, sS]
   refine rg_t 7 (some 29) (.pointer (some ⟨g, mq * 2 + 1, none⟩)) rfl hSc (fun w' hs => by first | rfl | go_simp) ?_
   simp only [Act.put, sA, sZ, sS]
   refine rg_t 8 (some 30) (.int .i64 t.b) rfl hSc (fun w' hs => by (have h0 := hs.cell lg gc1; go_simp)) ?_
   simp only [Act.put, sA, sZ, sS]
   refine rg_t 9 (some 31) (.pointer (some ⟨w.heap.size, 1, none⟩)) rfl hSc (fun w' hs => by first | rfl | go_simp) ?_
   simp only [Act.put, sA, sZ, sS]
   refine rg_t 10 (some 32) (.int .i64 s.b) rfl hSc (fun w' hs => by (have h0 := hs.cell lw k1; go_simp)) ?_
   simp only [Act.put, sA, sZ, sS]
   refine rg_t 11 (some 33) (.int .i64 (if t.b < s.b then s.b else t.b)) rfl hSc (fun w' hs => by first | rfl | (go_simp; done) | (go_simp; exact imax_if _ _)) ?_
   simp only [Act.put, sA, sZ, sS]
   refine rg_t 12 (some 34) (.pointer (some ⟨g, mq * 2, none⟩)) rfl hSc (fun w' hs => by first | rfl | go_simp) ?_
   simp only [Act.put, sA, sZ, sS]
   refine rg_t 13 (some 35) (.pointer (some ⟨g, mq * 2 + 1, none⟩)) rfl hSc (fun w' hs => by first | rfl | go_simp) ?_
   simp only [Act.put, sA, sZ, sS]
   have gcz := hSc.cell lg gc1
   have fcz := hSc.free lg fc1
   refine rg_done (by kernel_rfl) ?_
   refine rg_go 1 #[true, true, true, true, true, true, true, true, true, true, true, true, true, true, false] (by kernel_rfl) (by kernel_rfl) fun m => ?_
   refine rg_write 14 none ((World.drew wz).setCell ⟨g, mq * 2 + 1, none⟩ (.int .i64 (if t.b < s.b then s.b else t.b))) rfl rfl (by kernel_rfl) (by rfl) (exec_store rfl (store_int _ s1Int gcz fcz _)) trivial ?_
   simp only [Act.put, sA, sZ, sS]
   refine rg_done (by kernel_rfl) ?_
   obtain ⟨mx, hmx⟩ : ∃ x, (if t.b < s.b then s.b else t.b) = x := ⟨_, rfl⟩
   obtain ⟨hEz, hrowz⟩ := HEZ.out
   have hrowd := rows_ext hrowz ((Ext.refl wz).drew)
   obtain ⟨hs1, hs2⟩ := hrowd.stored (mq * 2 + 1) (.int .i64 mx)
   have hBl : Below base w ((World.drew wz).setCell ⟨g, mq * 2 + 1, none⟩ (.int .i64 mx)) := Below.setCell (Below.mono ((HE.out.trans hEz).drew) hbs) hbg _
   have hset : (spanV (i ++ [t])).set (mq * 2 + 1) (.int .i64 mx) = spanV (i ++ [⟨t.a, mx⟩]) := by
    rw [HV.out.1, spanV_append, List.set_append_right _ _ (by rw [HV.out.2.1]; omega), HV.out.2.1, show mq * 2 + 1 - mq * 2 = 1 by omega]; rfl
   rw [hset] at hs1
   rw [hmx] at HP ⊢
   obtain ⟨wf, hwf⟩ : ∃ W, (World.drew wz).setCell ⟨g, mq * 2 + 1, none⟩ (.int .i64 mx) = W := ⟨_, rfl⟩
   rw [hwf] at hs1 hBl ⊢
   have hfin := Lh (And.intro hs1 hBl)
   clear hs1 hs2 hBl hset hrowd hrowz hEz HEZ hSc hwf hmx
   simp only [Exit.then]
   go_wp2_with fail
   go_ret
   refine ⟨⟨_, rfl, ?_⟩, hfin.out.2⟩
   rw [HP.out, if_pos (by omega)]
   have h1 := hfin.out.1
   have e1 : (i ++ [(⟨t.a, mx⟩ : Span)]).length = mq + 1 := by have := HV.out.2.2.1; rw [List.length_append] at this ⊢; exact this
   rw [e1]; exact h1
  ·
   have hcd := decide_eq_false hc
   go_enter Tryz.func126, Tryz.ntmps126
   go_wp2_with fail
   go_quiet (fail)
   go_wp2_with (at_builtin; refine wpList_append_own_at _ rfl (.tmp 37) (.tmp 39) _ rfl base 96 i0 (.agg #[.int .i64 0, .int .i64 0]) 2 16 Tryz.underlying30 hi hz0 hz1 hz2 rfl (by decide) (.slice (some ⟨g, 0, none⟩) (mq + 1) cap) (mq + 1) (spanV (i ++ [t])) rfl (rows_ext hrowa (((Ext.refl wa).drewN _).alloc _)) ⟨wa.heap.size, 0, none⟩ 1 1 [.int .i64 s.a, .int .i64 s.b] rfl rfl new_two (by intro u hu; simp at hu; rcases hu with rfl | rfl <;> rfl) (by unfold maxLen; omega) (by omega) (by simp; omega) ?_; intro v2 w3 hown2 hgrow2 _ hat2)
   have hBl : Below base w w3 := Below.grown ((Below.mono (((HE.out.trans (((Ext.refl wa).drewN _).alloc _)))) hbs)) hgrow2 (by simp; omega) fun k hk => (HV.out.2.2.2.lt k hk).1
   go_wp2_with fail
   go_ret
   refine ⟨⟨v2, rfl, ?_⟩, hBl⟩
   rw [HP.out, if_neg (by omega), List.append_cons, List.length_append, HV.out.2.2.1, spanV_append]
   exact hown2
theorem undInt : Tryz.prog.underlying 3 = some (.int .i64) := by kernel_rfl
theorem grow_any (n : Nat) (hn : n ≤ 100000) (w : World) :
  Calls Tryz.prog 136 #[.slice none 0 0, .int .i64 n] w fun e w' => (∃ v', e = .returned v' ∧ w'.ownsRow w.heap.size 96 2 v' 0 []) ∧ Ext w w' := by
 obtain ⟨i0, hi, hz0, hz1, hz2⟩ := info_parts infoSpan
 by_cases h0 : n = 0
 ·
  subst h0
  go_enter Tryz.func136, Tryz.ntmps136
  go_wp2_with fail
  go_ret
  exact ⟨⟨_, rfl, World.ownsRow_nil _ _ _ _⟩, Ext.refl _⟩
 ·
  have p0 : (0 : Int) < (n : Int) := by omega
  have p1 : ¬ (n : Int) < 0 := by omega
  have hr := Lib.run_append_nil_zeros (P := Tryz.prog) w 30 3 30 96 i0 (.agg #[.int .i64 0, .int .i64 0]) .i64 .i64 Tryz.underlying30 undInt hi hz0 n (by omega) (by omega) (by omega) (by rw [hz2]; omega)
  have hcap := grownCap_ge w n 0 96
  have hcm := grownCap_le_maxLen w n 0 96 (by unfold maxLen; omega)
  obtain ⟨cap, hcapE⟩ : ∃ c, grownCap w n 0 96 = c := ⟨_, rfl⟩
  rw [hcapE] at hr hcap hcm
  obtain ⟨cs, hcs⟩ : ∃ c, Builtin.zeroCells (Value.agg #[.int .i64 0, .int .i64 0]).cells n ++ Builtin.zeroCells (Value.agg #[.int .i64 0, .int .i64 0]).cells (cap - n) = c := ⟨_, rfl⟩
  have hsz : cs.size = cap * 2 := by
   rw [← hcs, Array.size_append, size_zeroCells, size_zeroCells]
   show n * 2 + (cap - n) * 2 = cap * 2
   omega
  rw [hcs] at hr
  have hown : (w.drew.alloc (.cells cs 96)).ownsRow w.heap.size 96 2 (.slice (some ⟨w.drew.heap.size, 0, none⟩) 0 cap) 0 [] := World.ownsRow_made _ cs cap (by simp) hcm hsz
  obtain ⟨w1, hw1⟩ : ∃ W, w.drew.alloc (.cells cs 96) = W := ⟨_, rfl⟩
  have hE1 : Ext w w1 := by rw [← hw1]; exact ((Ext.refl w).drew).alloc _
  rw [hw1] at hr hown
  have HR := Lh hr
  have HE := Lh (And.intro hown hE1)
  have hcapi : (0 : Int) ≤ (cap : Int) := by omega
  clear hr hown hE1 hw1 hsz hcs hcapE hcm hz0 hz1 hz2 hi
  go_enter Tryz.func136, Tryz.ntmps136
  go_wp2_with (at_builtin; refine Lib.wpList_append_run _ rfl _ _ _ _ rfl _ _ rfl rfl _ _ HR.out ?_)
  go_ret
  exact ⟨⟨_, rfl, HE.out.1⟩, HE.out.2⟩
def spssD (l : List (List Span)) : DV := .s 1 (l.flatMap fun x => [spansD x])
theorem z_spss (x : List Span) : ([spansD x] : List DV).length = 1 := rfl
theorem spss_at {w : World} {p : Nat → Prop} {a : Option Addr} {len cap : Nat} {l : List (List Span)} (h : Rep w p (.slice a len cap) (spssD l)) (i : Nat) (hi : i < l.length) :
  ∃ (b off : Nat) (sa : Option Addr) (sc : Nat), a = some ⟨b, off, none⟩ ∧ b < w.heap.size ∧ w.cell? ⟨b, off + i, none⟩ = some (.slice sa l[i].length sc) ∧ Rep w p (.slice sa l[i].length sc) (spansD l[i]) := by
 obtain ⟨b, off, ha, hb, _, hc⟩ := elem_at z_spss h (by omega) i hi
 obtain ⟨u, hu, hr⟩ := hc 0 _ rfl
 obtain ⟨sa, sc, rfl, _, _⟩ := hr.count z_span (by omega)
 rw [Nat.mul_one, Nat.add_zero] at hu
 exact ⟨b, off, sa, sc, ha, hb, hu, hr⟩
theorem sp_take {α : Type} (L : List (List α)) (i : Nat) (h : i < L.length) : (L.take (i + 1)).flatten = (L.take i).flatten ++ L[i] := by
 rw [List.take_add_one, List.getElem?_eq_getElem h, List.flatten_append]; simp
theorem sp_take_len {α : Type} (L : List (List α)) (i : Nat) : (L.take i).flatten.length ≤ L.flatten.length := by
 conv => rhs; rw [← List.take_append_drop i L, List.flatten_append, List.length_append]
 omega
theorem concat_any (L : List (List Span)) (p : Nat → Prop) (v : Value) (w : World) (hT : L.flatten.length ≤ 1000) (h : Rep w p v (spssD L)) :
  Calls Tryz.prog 123 #[v] w fun e w' => (∃ v', e = .returned v' ∧ w'.ownsRow w.heap.size 96 2 v' L.flatten.length (spanV L.flatten)) ∧ Ext w w' := by
 obtain ⟨i0, hi, hz0, hz1, hz2⟩ := info_parts infoSpan
 obtain ⟨a, c, rfl, hc1, hc2⟩ := h.count z_spss (by omega)
 have HT := Lh hT
 clear hT
 obtain ⟨fl, hfl⟩ : ∃ f, L.flatten = f := ⟨_, rfl⟩
 rw [hfl]
 have HFL := Lh hfl
 clear hfl
 go_enter Tryz.func123, Tryz.ntmps123
 go_wp2_with fail
 go_loopw [3, 5, 11] (fun z _ t wr => ∃ (i n : Nat), t = .int .i64 i ∧ z = .int .i64 n ∧ i ≤ L.length ∧ wr = w ∧ Hid (n = (L.take i).flatten.length)) (fun _ _ t _ => downV L.length t)
 case atStart => exact ⟨0, 0, rfl, rfl, Nat.zero_le _, rfl, Lh (by simp)⟩
 case round =>
  obtain ⟨i, n, rfl, rfl, hil, rfl, HN⟩ := hrel
  have hi0 : (0 : Int) ≤ (i : Int) := by omega
  by_cases hlt : i < L.length
  ·
   have hlI : (i : Int) < (L.length : Int) := by omega
   obtain ⟨b, off, sa, sc, rfl, lb, d0, hr⟩ := spss_at h i hlt
   have HS : Hid (n + L[i].length = (L.take (i + 1)).flatten.length) := Lh (by rw [sp_take L i hlt, List.length_append, HN.out])
   have hle : n + L[i].length ≤ 1000 := by rw [HS.out]; exact Nat.le_trans (sp_take_len L _) HT.out
   obtain ⟨m, hm⟩ : ∃ m, L[i].length = m := ⟨_, rfl⟩
   rw [hm] at d0 hle HS
   have hnn : ¬ (n : Int) + (m : Int) < 0 := by omega
   clear hm hr
   go_wp2_with fail
   go_roundw
   case rel => exact ⟨i + 1, n + m, by go_num, by go_num, by omega, trivial, HS⟩
   case measure => simp only [downV]; omega
  ·
   have hlI : ¬ (i : Int) < (L.length : Int) := by omega
   have hn : n = L.flatten.length := by rw [HN.out, List.take_of_length_le (by omega)]
   have hn1 : n ≤ 1000 := by rw [hn]; exact HT.out
   clear hn HN
   obtain ⟨w0, hw0⟩ : ∃ w0, w0 = wr := ⟨_, rfl⟩
   subst hw0
   go_wp2_with fail
   refine (grow_any n (by omega) w0).mono ?_
   rintro e w1 ⟨⟨gv, rfl, hrow⟩, hB1⟩
   have HR1 := Lh hrow
   clear hrow
   go_wp2_with fail
   go_loopw [6, 8, 27] (fun o _ t wr2 => ∃ (i : Nat) (dv : Value), t = .int .i64 i ∧ dv = o ∧ i ≤ L.length ∧ Ext w0 wr2 ∧ Hid (wr2.ownsRow w0.heap.size 96 2 dv (L.take i).flatten.length (spanV (L.take i).flatten))) (fun _ _ t _ => downV L.length t)
   case atStart => exact ⟨0, gv, rfl, rfl, Nat.zero_le _, hB1, Lh (by simpa [spanV] using HR1.out)⟩
   case round =>
    clear HR1
    obtain ⟨i, dv, rfl, rfl, hil2, hX, HH⟩ := hrel
    have hi0 : (0 : Int) ≤ (i : Int) := by omega
    by_cases hlt : i < L.length
    ·
     have hlI : (i : Int) < (L.length : Int) := by omega
     obtain ⟨b, off, sa, sc, rfl, lb, d0, hr⟩ := spss_at (h.ext hX) i hlt
     have HS : Hid ((L.take (i + 1)).flatten = (L.take i).flatten ++ L[i]) := Lh (sp_take L i hlt)
     have hle : (L.take i).flatten.length + L[i].length ≤ 1000 := by rw [← List.length_append, ← HS.out]; exact Nat.le_trans (sp_take_len L _) HT.out
     obtain ⟨x, hx⟩ : ∃ x, L[i] = x := ⟨_, rfl⟩
     rw [hx] at d0 hle HS hr
     obtain ⟨y, hy⟩ : ∃ y, (L.take i).flatten = y := ⟨_, rfl⟩
     rw [hy] at hle HS HH
     clear hx hy
     obtain ⟨wo, hwo⟩ : ∃ wo, wo = wr := ⟨_, rfl⟩
     subst hwo
     have hbz := hX.size
     cases sa with
     | none =>
      obtain ⟨h0, h1, h2⟩ := rep_none hr
      have hx0 : x = [] := List.eq_nil_of_length_eq_zero h0
      subst hx0
      subst h1
      clear h0 h2 hr
      go_wp2_with (at_builtin; refine wpList_append_own_none rfl (.tmp 31) (.tmp 32) 30 rfl w0.heap.size 96 i0 2 Tryz.underlying30 hi dv y.length (spanV y) rfl HH.out rfl ?_)
      go_roundw
      case rel => exact ⟨i + 1, dv, by go_num, rfl, by omega, hX, by rw [HS.out, List.append_nil]; exact HH⟩
      case measure => simp only [downV]; omega
     | some ad =>
      obtain ⟨us, hus, hul, hcells⟩ := rep_some hr
      have hue := reps_spanV hus
      subst hue
      have hone : ∀ u ∈ spanV x, u.oneCell' = true := fun u hu => by
       unfold spanV at hu
       obtain ⟨s, _, hs⟩ := List.mem_flatMap.1 hu
       simp at hs
       rcases hs with rfl | rfl <;> rfl
      have hlow := fun k hk => (HH.out.lt k hk).1
      have HL := Lh hlow
      clear hus hr hlow
      go_wp2_with (at_builtin; refine wpList_append_own_at _ rfl (.tmp 31) (.tmp 32) _ rfl w0.heap.size 96 i0 (.agg #[.int .i64 0, .int .i64 0]) 2 16 Tryz.underlying30 hi hz0 hz1 hz2 rfl (by decide) dv y.length (spanV y) rfl HH.out ad x.length sc (spanV x) rfl hul hcells hone (by unfold maxLen; omega) (by omega) (by omega) ?_; intro v2 w3 hown3 hgrow3 _ hat3)
      have hX3 : Ext w0 w3 := Below.grown hX hgrow3 hX.size HL.out
      have hO3 : Hid (w3.ownsRow w0.heap.size 96 2 v2 (L.take (i + 1)).flatten.length (spanV (L.take (i + 1)).flatten)) := Lh (by rw [HS.out, List.length_append, spanV_append]; exact hown3)
      clear hown3 hgrow3 hat3 hone hcells hul HH HS
      go_wp2_with fail
      go_roundw
      case rel => exact ⟨i + 1, v2, by go_num, rfl, by omega, hX3, hO3⟩
      case measure => simp only [downV]; omega
    ·
     have hlI : ¬ (i : Int) < (L.length : Int) := by omega
     have hfin := HH.out
     rw [List.take_of_length_le (by omega), HFL.out] at hfin
     have HF := Lh hfin
     clear HH hfin
     go_wp2_with fail
     go_ret
     exact ⟨⟨_, rfl, HF.out⟩, hX⟩
theorem putS_b (P : Int → Prop) : ∀ (l : List Span) (s : Span), (∀ t ∈ l, P t.b) → P s.b → ∀ t ∈ putS l s, P t.b
 | [], s, _, h, t, ht => by rw [putS, List.mem_singleton] at ht; rw [ht]; exact h
 | [u], s, hl, h, t, ht => by
  rw [putS] at ht
  split at ht
  ·
   rw [List.mem_singleton] at ht
   rw [ht]
   simp only
   split
   ·
    exact h
   ·
    exact hl u (by simp)
  ·
   simp only [List.mem_cons, List.not_mem_nil, or_false] at ht
   rcases ht with e | e
   ·
    rw [e]; exact hl u (by simp)
   ·
    rw [e]; exact h
 | u :: x :: r, s, hl, h, t, ht => by
  rw [putS] at ht
  rcases List.mem_cons.1 ht with e | ht
  ·
   rw [e]; exact hl u (by simp)
  ·
   exact putS_b P (x :: r) s (fun t ht => hl t (List.mem_cons_of_mem _ ht)) h t ht
theorem putS_len : ∀ (l : List Span) (s : Span), (putS l s).length ≤ l.length + 1
 | [], s => by simp [putS]
 | [u], s => by rw [putS]; split <;> simp
 | u :: x :: r, s => by have := putS_len (x :: r) s; rw [putS]; simp only [List.length_cons] at *; omega
theorem putF_b (l : List Span) (hl : ∀ t ∈ l, 0 ≤ t.b ∧ t.b ≤ 1000) : ∀ (i : Nat), ∀ t ∈ (l.take i).foldl putS [], 0 ≤ t.b ∧ t.b ≤ 1000 := by
 have h : ∀ (r acc : List Span), (∀ t ∈ r, 0 ≤ t.b ∧ t.b ≤ 1000) → (∀ t ∈ acc, 0 ≤ t.b ∧ t.b ≤ 1000) → ∀ t ∈ r.foldl putS acc, 0 ≤ t.b ∧ t.b ≤ 1000 := by
  intro r
  induction r with
  | nil => intro acc _ h; exact h
  | cons s r ih => intro acc hr ha; exact ih _ (fun t ht => hr t (List.mem_cons_of_mem _ ht)) (putS_b (fun b => 0 ≤ b ∧ b ≤ 1000) acc s ha (hr s List.mem_cons_self))
 exact fun i => h _ _ (fun t ht => hl t (List.mem_of_mem_take ht)) (fun t ht => (by cases ht))
theorem putF_len (l : List Span) (i : Nat) : ((l.take i).foldl putS []).length ≤ i := by
 have h : ∀ (r acc : List Span), (r.foldl putS acc).length ≤ acc.length + r.length := by
  intro r
  induction r with
  | nil => intro acc; simp
  | cons s r ih => intro acc; have h1 := ih (putS acc s); have h2 := putS_len acc s; simp only [List.foldl_cons, List.length_cons]; omega
 have := h (l.take i) []
 simp only [List.length_nil, List.length_take] at this
 omega
structure Sp where
 s : Span
 h : 0 ≤ s.a ∧ s.a ≤ 1000
instance spInh : Inhabited Sp := ⟨⟨⟨0, 0⟩, by simp⟩⟩
def encSp (x : Sp) : List Value := [.int .i64 x.s.a, .int .i64 x.s.b]
def cfSp (x y : Sp) : Int := x.s.a - y.s.a
theorem spanV_get : ∀ (l : List Span) (i : Nat) (h : i < l.length), (spanV l)[i * 2]? = some (.int .i64 l[i].a) ∧ (spanV l)[i * 2 + 1]? = some (.int .i64 l[i].b)
 | [], _, h => absurd h (Nat.not_lt_zero _)
 | s :: r, 0, _ => ⟨rfl, rfl⟩
 | s :: r, i + 1, h => by
  obtain ⟨h1, h2⟩ := spanV_get r i (by simpa using h)
  have e : spanV (s :: r) = .int .i64 s.a :: .int .i64 s.b :: spanV r := rfl
  rw [e, show (i + 1) * 2 = i * 2 + 1 + 1 by omega]
  exact ⟨by simpa using h1, by simpa using h2⟩
def spArr (l : List Span) (hb : ∀ t ∈ l, 0 ≤ t.a ∧ t.a ≤ 1000) : Array Sp := (l.pmap (fun s h => (⟨s, h⟩ : Sp)) hb).toArray
theorem spArr_size (l : List Span) (hb : ∀ t ∈ l, 0 ≤ t.a ∧ t.a ≤ 1000) : (spArr l hb).size = l.length := by simp [spArr]
theorem spArr_get (l : List Span) (hb : ∀ t ∈ l, 0 ≤ t.a ∧ t.a ≤ 1000) (i : Nat) (h : i < l.length) : (spArr l hb)[i]!.s = l[i] := by
 rw [getElem!_pos _ i (by rw [spArr_size]; exact h)]
 simp [spArr]
theorem spArr_flat (l : List Span) (hb : ∀ t ∈ l, 0 ≤ t.a ∧ t.a ≤ 1000) (j : Nat) (h : j < l.length * 2) : (spanV l)[j]? = some (Go.Sort.flatK encSp 2 (spArr l hb))[j]! := by
 rw [Go.Sort.get_flatK _ _ _ j (by rw [spArr_size]; exact h)]
 have hi : j / 2 < l.length := by omega
 obtain ⟨h1, h2⟩ := spanV_get l (j / 2) hi
 have hg := spArr_get l hb (j / 2) hi
 unfold encSp
 rw [hg]
 rcases Nat.mod_two_eq_zero_or_one j with h0 | h0
 ·
  rw [h0]
  have : j / 2 * 2 = j := by omega
  rw [this] at h1; exact h1
 ·
  rw [h0]
  have : j / 2 * 2 + 1 = j := by omega
  rw [this] at h2; exact h2
theorem cls_any (x y : Sp) (W : World) : Calls Tryz.prog 125 #[.agg #[.int .i64 x.s.a, .int .i64 x.s.b], .agg #[.int .i64 y.s.a, .int .i64 y.s.b]] W fun e w' => e = .returned (.int .i64 (cfSp x y)) ∧ ∃ q os', w' = Go.Sort.grow (W.drewN q) os' := by
 have h1 := x.h
 have h2 := y.h
 unfold cfSp
 obtain ⟨⟨xa, xb⟩, hx⟩ := x
 obtain ⟨⟨ya, yb⟩, hy⟩ := y
 simp only at h1 h2 ⊢
 go_enter Tryz.func125, Tryz.ntmps125
 go_wp2_with fail
 go_ret
 exact ⟨rfl, 0, _, by rw [Go.Sort.alloc_eq_grow, Go.Sort.alloc_eq_grow, Go.Sort.grow_grow]; rfl⟩
theorem ins_sorted (lt : Sp → Sp → Bool) (d : Array Sp) (b : Nat) (h : ∀ i, 0 < i → i < b → lt d[i]! d[i - 1]! = false) : ∀ (k i : Nat), b - i ≤ k → 0 < i → Go.Sort.insOuter lt 0 b i d = d
 | 0, i, hk, h0 => Go.Proofs.insOuter_stop _ _ _ _ _ (by omega)
 | k + 1, i, hk, h0 => by
  by_cases hi : i < b
  ·
   rw [Go.Proofs.insOuter_go _ _ _ _ _ hi, Go.Proofs.insInner_stop _ _ _ _ (.inr (h i h0 hi))]
   exact ins_sorted lt d b h k (i + 1) (by omega) (by omega)
  ·
   exact Go.Proofs.insOuter_stop _ _ _ _ _ hi
theorem grow_ext (w : World) (os : Array Obj) : Ext w (Go.Sort.grow w os) :=
 ⟨rfl, rfl, rfl, by unfold Go.Sort.grow; simp, fun k hk => by unfold Go.Sort.grow; simp [Array.getElem?_append, hk]⟩
theorem sortsp_sorted (l : List Span) (cap blk base : Nat) (w : World) (hb : ∀ t ∈ l, 0 ≤ t.a ∧ t.a ≤ 1000) (hs : ∀ (i : Nat) (h : i + 1 < l.length), l[i].a ≤ l[i + 1].a) (hl : l.length ≤ 12)
  (hrow : w.ownsRow base 96 2 (.slice (some ⟨blk, 0, none⟩) l.length cap) l.length (spanV l)) :
  Calls Tryz.prog 124 #[.slice (some ⟨blk, 0, none⟩) l.length cap, .func (.func 125) #[] #[]] w fun e w' => e = .returned (.tuple #[]) ∧ Ext w w' := by
 have hsz := spArr_size l hb
 have eg : ∀ args w, (callFunc 125 args).run Tryz.prog w = .ok (.enter 125 args) w := enters_of Tryz.func125 (by kernel_rfl) rfl
 have hblk : blk < w.heap.size := (hrow.lt blk rfl).2
 have hH : Go.Sort.HoldsK encSp 2 w blk 0 (spArr l hb) := fun j hj => by
  rw [Go.Sort.size_flatK, hsz] at hj
  rw [Nat.zero_add, hrow.cellAt j hj, spArr_flat l hb j hj]
  exact ⟨rfl, hrow.frozenAt j⟩
 have h := Go.Proofs.AnyQ.slices_SortFunc_small Tryz.sortSp 2 Tryz.isAgg96 Tryz.sizeOf96 encSp (fun _ => rfl) (fun x v hv => by simp [encSp] at hv; rcases hv with rfl | rfl <;> rfl) cfSp 125 #[] blk 0 cap (spArr l hb) w eg (fun _ _ _ _ x y => cls_any x y _) hH hblk (by rw [hsz]; exact hl)
  (fun n W hn => (Go.Proofs.Any.bits_Len Tryz.bitsLen n W (by omega) (by omega)).mono fun _ _ ⟨he, hw⟩ => ⟨⟨_, he⟩, hw⟩)
 have hid : Go.Sort.insertionSort (Go.Proofs.ltOf cfSp) (spArr l hb) 0 (spArr l hb).size = spArr l hb := ins_sorted _ _ _ (fun i h0 hi => by
  rw [hsz] at hi
  have a1 := spArr_get l hb i hi
  have a2 := spArr_get l hb (i - 1) (by omega)
  have a3 := hs (i - 1) (by omega)
  have a4 : i - 1 + 1 = i := by omega
  unfold Go.Proofs.ltOf cfSp
  rw [a1, a2]
  simp only [a4] at a3
  exact decide_eq_false (by omega)) _ _ (Nat.le_refl _) (by omega)
 rw [hid, hsz] at h
 refine Calls.mono h fun e w' ⟨he, n, os, hw⟩ => ⟨he, ?_⟩
 rw [hw]
 unfold Go.Proofs.sortWorldK
 have e1 : Go.Sort.putRowK encSp 2 (Go.Sort.ahead w n) blk 0 (spArr l hb) = Go.Sort.ahead w n := Go.Sort.putRowK_self (enc := encSp) (k := 2) _ blk 0 _ fun j hj => hH j hj
 rw [e1]
 exact Ext.trans (b := Go.Sort.ahead w n) ⟨rfl, rfl, rfl, Nat.le_refl _, fun _ _ => rfl⟩ (grow_ext _ _)
theorem union_any (a b l : List Span) (hle : a ++ b = l) (p : Nat → Prop) (va vb : Value) (w : World) (ha : mayI a (-1) = true) (hb : mayI b (-1) = true) (h0 : 0 < l.length) (hl : l.length ≤ 12)
  (hbd : ∀ t ∈ l, 0 ≤ t.a ∧ t.a ≤ 1000 ∧ 0 ≤ t.b ∧ t.b ≤ 1000) (hs : ∀ (i : Nat) (h : i + 1 < l.length), l[i].a ≤ l[i + 1].a) (hva : Rep w p va (spansD a)) (hvb : Rep w p vb (spansD b)) :
  Calls Tryz.prog 95 #[va, vb] w fun e w' => (∃ v', e = .returned v' ∧ w'.ownsRow w.heap.size 96 2 v' (l.foldl putS []).length (spanV (l.foldl putS []))) ∧ Ext w w' := by
 have HM1 := Lh fun W (hE : Ext w W) => may_set a p va W (hva.ext hE)
 have HM2 := Lh fun W (hE : Ext w W) => may_set b p vb W (hvb.ext hE)
 rw [ha] at HM1
 rw [hb] at HM2
 obtain ⟨aa, ac, rfl, _, _⟩ := hva.count z_span (by omega)
 obtain ⟨ba, bc, rfl, _, _⟩ := hvb.count z_span (by omega)
 have HL := Lh hle
 obtain ⟨fl, hfl⟩ : ∃ f, l.foldl putS [] = f := ⟨_, rfl⟩
 rw [hfl]
 have HFL := Lh hfl
 clear hfl
 have HVS := Lh (And.intro hva hvb)
 have HBD := Lh hbd
 have HSS := Lh hs
 clear hle ha hb hva hvb hbd hs
 go_enter Tryz.func95, Tryz.ntmps95
 go_wp2_with fail
 refine (HM1.out _ (Ext.refl _)).mono ?_
 rintro e w1 ⟨rfl, hB1⟩
 clear HM1
 go_wp2_with fail
 refine (HM2.out _ hB1).mono ?_
 rintro e w2 ⟨rfl, hB2⟩
 clear HM2
 have hX2 := hB1.trans hB2
 have HC : Hid (Calls Tryz.prog 123 #[.slice (some ⟨w2.heap.size, 0, none⟩) 2 2] (w2.alloc (.cells #[.slice aa a.length ac, .slice ba b.length bc] 30)) fun e w' => (∃ v', e = .returned v' ∧ w'.ownsRow (w2.heap.size + 1) 96 2 v' l.length (spanV l)) ∧ Ext w2 w') := Lh (by
  have hE3 : Ext w2 (w2.alloc (.cells #[.slice aa a.length ac, .slice ba b.length bc] 30)) := (Ext.refl w2).alloc _
  have hz : (w2.alloc (.cells #[.slice aa a.length ac, .slice ba b.length bc] 30)).heap.size = w2.heap.size + 1 := by simp
  have hblk : (w2.alloc (.cells #[.slice aa a.length ac, .slice ba b.length bc] 30)).heap[w2.heap.size]? = some (.cells [.slice aa a.length ac, .slice ba b.length bc].toArray 30 (0, 0)) := Array.getElem?_push_size
  have hr : Rep (w2.alloc (.cells #[.slice aa a.length ac, .slice ba b.length bc] 30)) (fun _ => True) (.slice (some ⟨w2.heap.size, 0, none⟩) 2 2) (spssD [a, b]) := by
   refine .row w2.heap.size 0 2 2 1 [.slice aa a.length ac, .slice ba b.length bc] _ (fun _ => trivial) rfl rfl (Nat.le_refl _) (by omega) (fun k u hk => by rw [Nat.zero_add]; exact blk_cells hblk k hk) ?_
   have hh : Reps (w2.alloc (.cells #[.slice aa a.length ac, .slice ba b.length bc] 30)) (fun _ => True) [.slice aa a.length ac, .slice ba b.length bc] [spansD a, spansD b] := Reps.cons ((HVS.out.1.ext (hX2.trans hE3)).ok fun _ _ => trivial) (Reps.cons ((HVS.out.2.ext (hX2.trans hE3)).ok fun _ _ => trivial) (Reps.nil _ _))
   exact hh.2
  have hfl : [a, b].flatten = l := by rw [← HL.out]; simp
  have hc := concat_any [a, b] _ _ _ (by rw [hfl]; omega) hr
  rw [hfl, hz] at hc
  exact hc.mono fun e w' h => ⟨h.1, hE3.trans h.2⟩)
 have HX2 := Lh hX2
 clear hB1 hB2 hX2 HVS
 go_wp2_with fail
 refine HC.out.mono ?_
 rintro e w3 ⟨⟨v3, rfl, hrow3⟩, hB3⟩
 clear HC
 obtain ⟨g, cap, rfl, hg, hbg⟩ := own_some hrow3 h0
 have HSO := Lh (sortsp_sorted l cap g _ w3 (fun t ht => ⟨(HBD.out t ht).1, (HBD.out t ht).2.1⟩) HSS.out hl hrow3)
 have HX3 := Lh (And.intro (HX2.out.trans hB3) hrow3)
 clear hB3 hrow3 HX2
 go_wp2_with fail
 refine HSO.out.mono ?_
 rintro e w5 ⟨rfl, hB5⟩
 clear HSO
 have hX5 := HX3.out.1.trans hB5
 have hrow5 := rows_ext HX3.out.2 hB5
 have lg5 : g < w5.heap.size := Nat.lt_of_lt_of_le hg hB5.size
 have HW5 := Lh (And.intro hX5 hrow5)
 clear hB5 hX5 hrow5 HX3 hg hbg
 go_wp2_with fail
 go_loopw [6, 8, 25] (fun o _ t wr => ∃ (i : Nat) (dv : Value), t = .int .i64 i ∧ dv = o ∧ i ≤ l.length ∧ Ext w5 wr ∧ Hid (wr.ownsRow w5.heap.size 96 2 dv ((l.take i).foldl putS []).length (spanV ((l.take i).foldl putS [])))) (fun _ _ t _ => downV l.length t)
 case atStart => exact ⟨0, _, rfl, rfl, Nat.zero_le _, Ext.refl _, Lh (World.ownsRow_nil _ _ _ _)⟩
 case round =>
  obtain ⟨i, dv, rfl, rfl, hil, hX, HH⟩ := hrel
  have hi0 : (0 : Int) ≤ (i : Int) := by omega
  have hbz := hX.size
  by_cases hlt : i < l.length
  ·
   have hlI : (i : Int) < (l.length : Int) := by omega
   have hrowr := rows_ext HW5.out.2 hX
   have hsv := spanV_get l i hlt
   have d0 : wr.cell? ⟨g, i * 2, none⟩ = some (.int .i64 l[i].a) := by rw [hrowr.cellAt _ (by omega)]; exact hsv.1
   have d1 : wr.cell? ⟨g, i * 2 + 1, none⟩ = some (.int .i64 l[i].b) := by rw [hrowr.cellAt _ (by omega)]; exact hsv.2
   have HS : Hid ((l.take (i + 1)).foldl putS [] = putS ((l.take i).foldl putS []) l[i]) := Lh (by rw [List.take_add_one, List.getElem?_eq_getElem hlt, List.foldl_append]; rfl)
   have hb1 := putF_b l (fun t ht => (HBD.out t ht).2.2) i
   have hb2 := putF_len l i
   obtain ⟨x, hx⟩ : ∃ x, l[i] = x := ⟨_, rfl⟩
   rw [hx] at d0 d1 HS
   obtain ⟨y, hy⟩ : ∃ y, (l.take i).foldl putS [] = y := ⟨_, rfl⟩
   rw [hy] at HS HH hb1 hb2
   have lgr : g < wr.heap.size := Nat.lt_of_lt_of_le lg5 hX.size
   obtain ⟨wo, hwo⟩ : ∃ wo, wo = wr := ⟨_, rfl⟩
   subst hwo
   have hE9 : Ext wo (wo.alloc (.cells #[.int .i64 x.a, .int .i64 x.b] 96)) := (Ext.refl wo).alloc _
   have HP := Lh (put_any y x w5.heap.size dv (wo.alloc (.cells #[.int .i64 x.a, .int .i64 x.b] 96)) (rows_ext HH.out hE9) (by omega) hb1 (by simp; omega))
   clear hx hy hb1 hb2 hsv hrowr HH
   go_wp2_with fail
   refine HP.out.mono ?_
   rintro e w7 ⟨⟨v7, rfl, hrow7⟩, hB7⟩
   have hX7 : Ext w5 w7 := Below.trans (hX.trans hE9) hB7
   rw [← HS.out] at hrow7
   have HR7 := Lh hrow7
   clear hB7 hrow7 HP HS hE9 hX d0 d1
   go_wp2_with fail
   go_roundw
   case rel => exact ⟨i + 1, v7, by go_num, rfl, by omega, hX7, HR7⟩
   case measure => simp only [downV]; omega
  ·
   have hlI : ¬ (i : Int) < (l.length : Int) := by omega
   have hfin := HH.out
   rw [List.take_of_length_le (by omega), HFL.out] at hfin
   have HF := Lh (And.intro (rows_mono hfin HW5.out.1.size) (HW5.out.1.trans hX))
   clear hfin HH hX
   go_wp2_with fail
   go_ret
   exact ⟨⟨_, rfl, HF.out.1⟩, HF.out.2⟩
end Go.Proofs.YtkelpbbekeelcaaGreatDoor
