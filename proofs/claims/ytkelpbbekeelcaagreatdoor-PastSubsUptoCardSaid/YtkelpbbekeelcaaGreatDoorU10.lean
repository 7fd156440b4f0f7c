/-
 recensionref13.Normal. Helper lemmas; no statement of the seat is proved here.
-/
import Derived.Test.YtkelpbbekeelcaaGreatDoorU9
import Derived.Laws.Cover3
import Derived.LaidEql
import Derived.Stop.Asserts
import Derived.RowKitTokens
namespace Go.Proofs.YtkelpbbekeelcaaGreatDoor
open Go.RowKit
set_option maxHeartbeats 32000000
set_option maxRecDepth 100000
set_option linter.unusedVariables false
set_option linter.unusedSimpArgs false
def Sg (g : Nat) (a w : World) : Prop := Exc g a w
theorem Sg.begin (g : Nat) (w : World) : Sg g w w.drew := (Exc.refl g w).ext ((Ext.refl w).drew)
theorem Sg.ext {g : Nat} {a w w' : World} (h : Sg g a w) (k : Ext w w') : Sg g a w' := Exc.ext h k
theorem Sg.cell {g : Nat} {a w : World} (h : Sg g a w) {b o : Nat} {v : Value} (hb : b < a.heap.size ∧ b ≠ g) (hc : a.cell? ⟨b, o, none⟩ = some v) : w.cell? ⟨b, o, none⟩ = some v := (World.cell?_of_block (h.2 b hb.2 hb.1)).trans hc
theorem Exc.st5 {a w : World} {b : Nat} (h : Exc b a w) (n : Node) (xa xk : Value) : Exc b a (st5 w b n xa xk) := ((((h.set (p := ⟨b, 0, none⟩) rfl _).set (p := ⟨b, 1, none⟩) rfl _).set (p := ⟨b, 2, none⟩) rfl _).set (p := ⟨b, 3, none⟩) rfl _).set (p := ⟨b, 4, none⟩) rfl _
theorem MayOk.rules {l : List Rule} (h : MayOk l) (hb : RulesB l) : RulesOk l := fun r hr => by
 obtain ⟨i, hi, rfl⟩ := List.getElem_of_mem hr
 exact ⟨(hb _ hr).2.1, (h.2.2 i hi).1.2⟩
theorem MayOk.root {l : List Rule} (h : MayOk l) : ∃ nm ks r, l = ⟨[nm], ks⟩ :: r := by
 obtain ⟨h1, h2, h3⟩ := h
 cases l with
 | nil => simp at h1
 | cons x r =>
  have h4 := h3 0 (by simp)
  simp only [List.getElem_cons_zero, List.take_zero] at h4
  obtain ⟨h5, h6⟩ := h4
  unfold placedS at h6
  rw [if_neg (show ¬ (0 : Int) ≤ findS x.path [] 0 by simp [findS])] at h6
  by_cases hl : x.path.length = 1
  ·
   obtain ⟨nm, hn⟩ := List.length_eq_one_iff.1 hl
   exact ⟨nm, x.keys, r, by rw [← hn]⟩
  ·
   rw [if_neg hl] at h6; simp [findS] at h6
def NormP (l : List Rule) (a : Node) (r : Node × Int × Int) : Prop := cntN r.1 ≤ cntN a ∧ (r.2.1 = 0 → MayOk l ∧ a.kind = 1 ∧ ∃ nm ks rs, l = ⟨[nm], ks⟩ :: rs ∧ a.name = nm ∧ r = normN l a [nm] 0)
theorem bignormal_any (l : List Rule) (hb : RulesB l) (hll : l.length ≤ 1048576) (a : Node) (p : Nat → Prop) (vl va vk : Value) (w : World) (hcnt : cntN a ≤ 1048576)
  (hvl : Rep w p vl (rulesD l)) (hva : Rep w p va (attrsD a.attrs)) (hvk : Rep w p vk (nodesD a.kids)) :
  Calls Tryz.prog 36 #[vl, .agg #[.int .i64 a.kind, .string (bs a.name), .string (bs a.text), va, vk]] w fun e w' => (∃ r, RetNC (fun b => w.heap.size ≤ b) r e w' ∧ NormP l a r) ∧ Ext w w' := by
 have HMAY := Lh fun W (hE : Ext w W) => may_any l p vl W hb hll (hvl.ext hE)
 have HFAIR := Lh fun W (hE : Ext w W) => fair_any (nsz a) a p va vk W (Nat.le_refl _) hcnt (hva.ext hE) (hvk.ext hE)
 have HVL := Lh hvl
 obtain ⟨la, lc, rfl, hlc1, hlc2⟩ := hvl.count z_rule (by omega)
 obtain ⟨ba, ca, rfl, _, _⟩ := hva.count z_attr (by omega)
 obtain ⟨bk, ck, rfl, _, _⟩ := hvk.count z_node (by omega)
 have HB := Lh hb
 clear hb
 go_enter Tryz.func36, Tryz.ntmps36
 go_wp2_with fail
 obtain ⟨w1, hw1⟩ : ∃ w1, ((w.alloc (.cells #[.int .i64 a.kind, .string (bs a.name), .string (bs a.text), .slice ba a.attrs.length ca, .slice bk a.kids.length ck] 60)).alloc (.cells #[.int .i64 0, .string ⟨#[]⟩, .string ⟨#[]⟩, .slice none 0 0, .slice none 0 0] 60)) = w1 := ⟨_, rfl⟩
 have hE1 : Ext w w1 := by rw [← hw1]; exact ((Ext.refl w).alloc _).alloc _
 have hz1 : w1.heap.size = w.heap.size + 2 := by rw [← hw1]; simp
 have hbx : B5 w1 w.heap.size a (.slice ba a.attrs.length ca) (.slice bk a.kids.length ck) := by
  rw [← hw1]
  exact B5.ext ⟨by simp, by simp [go_sem], by simp [go_sem], by simp [go_sem], by simp [go_sem], by simp [go_sem], by simp [go_sem], by simp [go_sem], by simp [go_sem], by simp [go_sem], by simp [go_sem]⟩ ((Ext.refl _).alloc _)
 have hbr : B5 w1 (w.heap.size + 1) zeroN (.slice none 0 0) (.slice none 0 0) := by
  rw [← hw1]
  exact ⟨by simp, by simp [go_sem, zeroN, Node.kind], by simp [go_sem, zeroN, Node.name]; rfl, by simp [go_sem, zeroN, Node.text]; rfl, by simp [go_sem], by simp [go_sem], by simp [go_sem], by simp [go_sem], by simp [go_sem], by simp [go_sem], by simp [go_sem]⟩
 rw [hw1]
 clear hw1
 refine (HMAY.out _ hE1).mono ?_
 rintro e w2 ⟨⟨mb, rfl, hmay⟩, hB2⟩
 have hE2 := hE1.trans hB2
 have hbx2 := hbx.ext hB2
 have hbr2 := hbr.ext hB2
 have HMO := Lh hmay
 clear hmay hbx hbr hE1 HMAY
 cases mb with
 | false =>
  have HRB := Lh (hbr2)
  have HXX := Lh (hE2)
  have rc0 := HRB.out.c0
  have rf0 := HRB.out.f0
  have rc1 := HRB.out.c1
  have rf1 := HRB.out.f1
  have rc2 := HRB.out.c2
  have rf2 := HRB.out.f2
  have rc3 := HRB.out.c3
  have rf3 := HRB.out.f3
  have rc4 := HRB.out.c4
  have rf4 := HRB.out.f4
  go_wp2_with fail
  (try simp only [Exit.inBlock, Exit.then])
  refine bodyPost_ret (res_node3 rfl _ _ _ ⟨w.heap.size + 1, 0, none⟩ ?_ (load_node (B5.put (n := zeroN) (xa := .slice none 0 0) (xk := .slice none 0 0) HRB.out))) rfl ?_
  ·
   rfl
  exact ⟨⟨(zeroN, 20, 0), ⟨_, _, rfl, .nil 2, .nil 5⟩, by rw [cnt_zeroN]; exact cntN_pos a, fun h => by cases h⟩, HXX.out.st5 (by omega) zeroN _ _⟩
 | true =>
  have xc0 := hbx2.c0
  have xf0 := hbx2.f0
  have xc1 := hbx2.c1
  have xf1 := hbx2.f1
  have xc2 := hbx2.c2
  have xf2 := hbx2.f2
  have xc3 := hbx2.c3
  have xf3 := hbx2.f3
  have xc4 := hbx2.c4
  have xf4 := hbx2.f4
  go_wp2_with fail
  refine (HFAIR.out _ hE2).mono ?_
  rintro e w3 ⟨⟨fb, rfl, _⟩, hB3⟩
  have hE3 := hE2.trans hB3
  have hbx3 := hbx2.ext hB3
  have hbr3 := hbr2.ext hB3
  clear xc0 xc1 xc2 xc3 xc4 xf0 xf1 xf2 xf3 xf4 HFAIR hbx2 hbr2
  cases fb with
  | false =>
   have HRB := Lh (hbr3)
   have HXX := Lh (hE3)
   have rc0 := HRB.out.c0
   have rf0 := HRB.out.f0
   have rc1 := HRB.out.c1
   have rf1 := HRB.out.f1
   have rc2 := HRB.out.c2
   have rf2 := HRB.out.f2
   have rc3 := HRB.out.c3
   have rf3 := HRB.out.f3
   have rc4 := HRB.out.c4
   have rf4 := HRB.out.f4
   go_wp2_with fail
   (try simp only [Exit.inBlock, Exit.then])
   refine bodyPost_ret (res_node3 rfl _ _ _ ⟨w.heap.size + 1, 0, none⟩ ?_ (load_node (B5.put (n := zeroN) (xa := .slice none 0 0) (xk := .slice none 0 0) HRB.out))) rfl ?_
   ·
    rfl
   exact ⟨⟨(zeroN, 80, 0), ⟨_, _, rfl, .nil 2, .nil 5⟩, by rw [cnt_zeroN]; exact cntN_pos a, fun h => by cases h⟩, HXX.out.st5 (by omega) zeroN _ _⟩
  | true =>
   have xc0 := hbx3.c0
   by_cases hk : a.kind = 1
   ·
    have q1 : (a.kind != 1) = false := by rw [hk]; rfl
    have HK := Lh hk
    have hmo := HMO.out trivial
    obtain ⟨nm, ks, rs, hl⟩ := hmo.root
    have HL := Lh hl
    obtain ⟨gl, ol, vp, vkk, e1, lgl, hgl, r0, r1, hrp, hrk⟩ := rule_at (HVL.out.lt.ext hE3) 0 (by rw [hl]; simp)
    subst e1
    rw [Nat.zero_mul, Nat.add_zero] at r0 r1
    have hl0 : l[0]'(by rw [hl]; simp) = ⟨[nm], ks⟩ := by simp [hl]
    rw [hl0] at hrp hrk
    obtain ⟨gp, pc, rfl, hpc1, hpc2⟩ := hrp.count z_str (by omega)
    obtain ⟨gpp, op, rfl, lgp, _, n0⟩ := str_at hrp 0 (by simp)
    have hlp : (0 : Int) < (l.length : Int) := by rw [hl]; simp <;> omega
    have hlne : l ≠ [] := by rw [hl]; simp
    have hnn : [nm][0]'(by simp) = nm := rfl
    rw [hnn, Nat.add_zero] at n0
    have hone : ([nm] : List Bytes).length = 1 := rfl
    rw [hone] at r0 hpc1
    have HRP := Lh hrp
    have hrp1 : Rep w3 (fun b => p b ∧ b < w.heap.size) (.slice (some ⟨gpp, op, none⟩) 1 pc) (strsD [nm]) := hrp
    have xc1 := hbx3.c1
    have lx := hbx3.lt
    have HH := Lh (And.intro hbx3 (And.intro hbr3 (And.intro hE3 hrp1)))
    have HMM := Lh hmo
    clear hl hl0 hrk hrp hrp1 HRP hone hnn hk hmo r1
    go_wp2_with fail
    by_cases hname : a.name = nm
    ·
     have t1 : ((bs a.name).toList == (bs nm).toList) = true := by rw [hname]; exact beq_self_eq_true _
     have HNM := Lh hname
     clear hname
     go_quiet (fail)
     go_wp2_with fail
     have hE5 : Ext w3 (w3.drewN nq) := (Ext.refl w3).drewN nq
     obtain ⟨w5, hw5⟩ : ∃ w5, w3.drewN nq = w5 := ⟨_, rfl⟩
     rw [hw5] at hE5 ⊢
     have hok : RulesOk l := HMM.out.rules HB.out
     have hE5w := HH.out.2.2.1.trans hE5
     have rr0 := hE5.keep lgl r0
     have lgl5 : gl < w5.heap.size ∧ gl ≠ w.heap.size + 1 := ⟨Nat.lt_of_lt_of_le lgl hE5.size, by omega⟩
     have hbx5 := HH.out.1.ext hE5
     have yc0 := hbx5.c0
     have yf0 := hbx5.f0
     have yc1 := hbx5.c1
     have yf1 := hbx5.f1
     have yc2 := hbx5.c2
     have yf2 := hbx5.f2
     have yc3 := hbx5.c3
     have yf3 := hbx5.f3
     have yc4 := hbx5.c4
     have yf4 := hbx5.f4
     have lx5 : w.heap.size < w5.heap.size ∧ w.heap.size ≠ w.heap.size + 1 := ⟨hbx5.lt, by omega⟩
     have hz5 : w.heap.size + 2 ≤ w5.heap.size := by have := hB2.size; have := hB3.size; have := hE5.size; omega
     have HNC := Lh fun W (hE : Ext w5 W) => normal_any l hok (nsz a) a [nm] 0 (fun _ => True) _ _ _ _ W (Nat.le_refl _) hcnt (by simp) (by simp; omega) (by omega) (by omega) ((HVL.out.ext (hE5w.trans hE)).ok fun _ _ => trivial) ((HH.out.2.2.2.ext (hE5.trans hE)).ok fun _ _ => trivial) ((hva.ext (hE5w.trans hE)).ok fun _ _ => trivial) ((hvk.ext (hE5w.trans hE)).ok fun _ _ => trivial)
     have hcr := cnt_normN l a [nm] 0
     have HP : Hid (NormP l a (normN l a [nm] 0)) := Lh ⟨hcr, fun _ => ⟨HMM.out, HK.out, nm, ks, rs, HL.out, HNM.out, rfl⟩⟩
     obtain ⟨RN, hRN⟩ : ∃ R, normN l a [nm] 0 = R := ⟨_, rfl⟩
     rw [hRN] at HNC HP
     obtain ⟨rd, re, rwh⟩ := RN
     have HH5 := Lh (And.intro hE5w (And.intro (HH.out.2.1.ext hE5) hE5))
     clear hRN hcr hw5 hbx5 xc0 xc1 r0 n0 hva hvk hvl hok
     have xc0 := yc0
     have xc1 := yc1
     have xc2 := yc2
     have xc3 := yc3
     have xc4 := yc4
     clear yc0 yc1 yc2 yc3 yc4 yf0 yf1 yf2 yf3 yf4
     refine rg_begin (S := Sg (w.heap.size + 1) w5) (by kernel_rfl) (Sg.begin _ _) ?_
     have hS : Sg (w.heap.size + 1) w5 (World.drew w5) := (Sg.begin _ _)
     refine rg_t 0 (some 30) (.slice (some ⟨gl, ol, none⟩) l.length lc) rfl hS (fun w' hs => by rfl) ?_
     simp only [Act.put, sA, sZ, sS]
     refine rg_t 1 (some 31) (.agg #[.int .i64 a.kind, .string (bs a.name), .string (bs a.text), .slice ba a.attrs.length ca, .slice bk a.kids.length ck]) rfl hS (fun w' hs => by (have h0 := hs.cell lx5 xc0; have h1 := hs.cell lx5 xc1; have h2 := hs.cell lx5 xc2; have h3 := hs.cell lx5 xc3; have h4 := hs.cell lx5 xc4; go_simp)) ?_
     simp only [Act.put, sA, sZ, sS]
     refine rg_t 2 (some 32) (.slice (some ⟨gl, ol, none⟩) l.length lc) rfl hS (fun w' hs => by rfl) ?_
     simp only [Act.put, sA, sZ, sS]
     refine rg_t 3 (some 33) (.pointer (some ⟨gl, ol, none⟩)) rfl hS (fun w' hs => by first | rfl | go_simp) ?_
     simp only [Act.put, sA, sZ, sS]
     refine rg_t 4 (some 34) (.pointer (some ⟨gl, ol, none⟩)) rfl hS (fun w' hs => by first | rfl | go_simp) ?_
     simp only [Act.put, sA, sZ, sS]
     refine rg_t 5 (some 35) (.slice (some ⟨gpp, op, none⟩) 1 pc) rfl hS (fun w' hs => by (have h0 := hs.cell lgl5 rr0; go_simp)) ?_
     simp only [Act.put, sA, sZ, sS]
     refine rg_call 6 (some 36) 66 #[.slice (some ⟨gl, ol, none⟩) l.length lc, .agg #[.int .i64 a.kind, .string (bs a.name), .string (bs a.text), .slice ba a.attrs.length ca, .slice bk a.kids.length ck], .slice (some ⟨gpp, op, none⟩) 1 pc, .int .i64 0] rfl rfl (by kernel_rfl) (by rfl) (fun w' => by first | rfl | go_simp) (R := fun v w' => ∃ (oa : Option Addr) (na ca2 : Nat) (ob : Option Addr) (nb cb2 : Nat), v = .tuple #[.agg #[.int .i64 rd.kind, .string (bs rd.name), .string (bs rd.text), .slice oa na ca2, .slice ob nb cb2], .int .i64 re, .int .i64 rwh] ∧ Rep w' (fun b => w.heap.size + 2 ≤ b) (.slice oa na ca2) (attrsD rd.attrs) ∧ Rep w' (fun b => w.heap.size + 2 ≤ b) (.slice ob nb cb2) (nodesD rd.kids) ∧ Ext (World.drew w5) w') ?_ ?_
     ·
      refine (HNC.out _ ((Ext.refl w5).drew)).mono ?_
      rintro e w' ⟨⟨xa, xk, rfl, hxa, hxk⟩, h⟩
      obtain ⟨oa, ca2, rfl, _, _⟩ := hxa.count z_attr (by omega)
      obtain ⟨ob, cb2, rfl, _, _⟩ := hxk.count z_node (by omega)
      exact ⟨_, rfl, oa, _, ca2, ob, _, cb2, rfl, hxa.ok (fun b hb => by have := hz5; have hb' : w5.heap.size ≤ b := hb; omega), hxk.ok (fun b hb => by have := hz5; have hb' : w5.heap.size ≤ b := hb; omega), h⟩
     rintro _ wr1 ⟨oa, na, ca2, ob, nb, cb2, rfl, hxa, hxk, hBr1⟩
     have hS1 := hS.ext hBr1
     refine ⟨hS1, ?_⟩
     simp only [Act.put, sA, sZ, sS]
     refine rg_t 7 (some 37) (.agg #[.int .i64 rd.kind, .string (bs rd.name), .string (bs rd.text), .slice oa na ca2, .slice ob nb cb2]) rfl hS1 (fun w' hs => by first | rfl | go_simp) ?_
     simp only [Act.put, sA, sZ, sS]
     refine rg_t 8 (some 38) (.int .i64 re) rfl hS1 (fun w' hs => by first | rfl | go_simp) ?_
     simp only [Act.put, sA, sZ, sS]
     refine rg_t 9 (some 39) (.int .i64 rwh) rfl hS1 (fun w' hs => by first | rfl | go_simp) ?_
     simp only [Act.put, sA, sZ, sS]
     have hbz := HH5.out.2.1.ext ((Ext.refl w5).drew.trans hBr1)
     refine rg_write 10 none (st5 wr1 (w.heap.size + 1) rd (.slice oa na ca2) (.slice ob nb cb2)) rfl rfl (by kernel_rfl) (by rfl) (exec_store rfl (store_nodeS (m := rd) hbz _ _ _ _ _ _)) (Exc.st5 hS1 _ _ _) ?_
     simp only [Act.put, sA, sZ, sS]
     have hSz : Sg (w.heap.size + 1) w5 (st5 wr1 (w.heap.size + 1) rd (.slice oa na ca2) (.slice ob nb cb2)) := Exc.st5 hS1 _ _ _
     refine rg_t 11 (some 5) (.int .i64 re) rfl hSz (fun w' hs => by rfl) ?_
     simp only [Act.put, sA, sZ, sS]
     refine rg_t 12 (some 6) (.int .i64 rwh) rfl hSz (fun w' hs => by rfl) ?_
     simp only [Act.put, sA, sZ, sS]
     refine rg_done (by kernel_rfl) ?_
     have HRB := Lh hbz
     have HXX : Hid (Ext w wr1) := Lh (HH5.out.1.trans ((Ext.refl w5).drew.trans hBr1))
     have HXA := Lh (And.intro hxa hxk)
     clear hxa hxk xc0 xc1 xc2 xc3 xc4 hbz
     go_wp2_with fail
     (try simp only [Exit.inBlock, Exit.then])
     refine bodyPost_ret (res_node3 rfl _ _ _ ⟨w.heap.size + 1, 0, none⟩ ?_ (load_node (B5.put (n := rd) (xa := .slice oa na ca2) (xk := .slice ob nb cb2) HRB.out))) rfl ?_
     ·
      rfl
     have hX6 := HXX.out.st5 (b := w.heap.size + 1) (by omega) rd (.slice oa na ca2) (.slice ob nb cb2)
     exact ⟨⟨(rd, re, rwh), ⟨_, _, rfl, (HXA.out.1.kept fun b hb _ => st5_block _ _ _ _ _ (by omega)).ok fun b hb => by omega, (HXA.out.2.kept fun b hb _ => st5_block _ _ _ _ _ (by omega)).ok fun b hb => by omega⟩, HP.out⟩, hX6⟩
    ·
     have t1 : ((bs a.name).toList == (bs nm).toList) = false := by rw [bs_toList, bs_toList, beq_eq_false_iff_ne]; exact hname
     clear hname
     go_quiet (fail)
     have hX5 : Ext w3 (w3.drewN nq) := (Ext.refl w3).drewN nq
     have HRB := Lh (HH.out.2.1.ext hX5)
     have HXX := Lh (HH.out.2.2.1.trans hX5)
     have rc0 := HRB.out.c0
     have rf0 := HRB.out.f0
     have rc1 := HRB.out.c1
     have rf1 := HRB.out.f1
     have rc2 := HRB.out.c2
     have rf2 := HRB.out.f2
     have rc3 := HRB.out.c3
     have rf3 := HRB.out.f3
     have rc4 := HRB.out.c4
     have rf4 := HRB.out.f4
     go_wp2_with fail
     (try simp only [Exit.inBlock, Exit.then])
     refine bodyPost_ret (res_node3 rfl _ _ _ ⟨w.heap.size + 1, 0, none⟩ ?_ (load_node (B5.put (n := zeroN) (xa := .slice none 0 0) (xk := .slice none 0 0) HRB.out))) rfl ?_
     ·
      rfl
     exact ⟨⟨(zeroN, 24, 0), ⟨_, _, rfl, .nil 2, .nil 5⟩, by rw [cnt_zeroN]; exact cntN_pos a, fun h => by cases h⟩, HXX.out.st5 (by omega) zeroN _ _⟩
   ·
    have q1 : (a.kind != 1) = true := by rw [bne_iff_ne]; exact hk
    clear hk
    have HRB := Lh (hbr3)
    have HXX := Lh (hE3)
    have rc0 := HRB.out.c0
    have rf0 := HRB.out.f0
    have rc1 := HRB.out.c1
    have rf1 := HRB.out.f1
    have rc2 := HRB.out.c2
    have rf2 := HRB.out.f2
    have rc3 := HRB.out.c3
    have rf3 := HRB.out.f3
    have rc4 := HRB.out.c4
    have rf4 := HRB.out.f4
    go_wp2_with fail
    (try simp only [Exit.inBlock, Exit.then])
    refine bodyPost_ret (res_node3 rfl _ _ _ ⟨w.heap.size + 1, 0, none⟩ ?_ (load_node (B5.put (n := zeroN) (xa := .slice none 0 0) (xk := .slice none 0 0) HRB.out))) rfl ?_
    ·
     rfl
    exact ⟨⟨(zeroN, 80, 0), ⟨_, _, rfl, .nil 2, .nil 5⟩, by rw [cnt_zeroN]; exact cntN_pos a, fun h => by cases h⟩, HXX.out.st5 (by omega) zeroN _ _⟩
def NForm (l : List Rule) (n : Node) : Prop := ∃ a nm ks rs, MayOk l ∧ l = ⟨[nm], ks⟩ :: rs ∧ a.kind = 1 ∧ a.name = nm ∧ (normN l a [nm] 0).2.1 = 0 ∧ n = (normN l a [nm] 0).1 ∧ cntN a ≤ 1048576 ∧ cntN n ≤ 1048576
theorem cnt_name (n : Node) : n.name.length + n.text.length ≤ cntN n := by cases n; rw [cntN]; simp only [Node.name, Node.text]; omega
theorem normals_any (l : List Rule) (hb : RulesB l) (hll : l.length ≤ 1048576) (ds : List Node) (p : Nat → Prop) (vl vd : Value) (w : World) (hcnt : ∀ d ∈ ds, cntN d ≤ 1048576) (hdl : ds.length ≤ 1048576)
  (hvl : Rep w p vl (rulesD l)) (hvd : Rep w p vd (nodesD ds)) :
  Calls Tryz.prog 10 #[vl, vd] w fun e w' => (∃ L : List Node, Ret (fun b => w.heap.size ≤ b) (nodesD L) e w' ∧ L.length ≤ ds.length ∧ ∀ n ∈ L, NForm l n) ∧ Ext w w' := by
 obtain ⟨la, lc, rfl, hlc1, hlc2⟩ := hvl.count z_rule (by omega)
 obtain ⟨da, dc, rfl, hdc1, hdc2⟩ := hvd.count z_node (by omega)
 obtain ⟨i0, hi, hz0, hz1, hz2⟩ := info_parts infoNode
 have HB := Lh hb
 have HCN := Lh hcnt
 clear hb hcnt
 go_enter Tryz.func10, Tryz.ntmps10
 go_wp2_with fail
 go_loopw [5, 6, 7, 8, 9] (fun o t _ _ _ wr => ∃ (i : Nat) (L : List Node) (dv : Value), t = .int .i64 i ∧ dv = o ∧ i ≤ ds.length ∧ L.length ≤ i ∧ Ext w wr ∧ Hid (Own wr (fun b => w.heap.size ≤ b) w.heap.size 60 5 dv L.length (L.flatMap nodeC) ∧ ∀ n ∈ L, NForm l n)) (fun _ t _ _ _ _ => downV ds.length t)
 case atStart => exact ⟨0, [], _, rfl, rfl, Nat.zero_le _, Nat.le_refl _, Ext.refl _, Lh ⟨Own.nil _ _ _ _ _, by simp⟩⟩
 case round =>
  obtain ⟨i, L, dv, rfl, rfl, hi2, hL, hX, HH⟩ := hrel
  have hi0 : (0 : Int) ≤ (i : Int) := by omega
  have hwz := hX.size
  by_cases hlt : i < ds.length
  ·
   have hlI : (i : Int) < (ds.length : Int) := by omega
   obtain ⟨g, o, za, zk, rfl, lg, _, d0, d1, d2, d3, d4, hza, hzk⟩ := node_at (hvd.ext hX) i hlt
   have hcm := HCN.out _ (List.getElem_mem hlt)
   obtain ⟨x, hx⟩ : ∃ x, ds[i] = x := ⟨_, rfl⟩
   rw [hx] at d0 d1 d2 hza hzk hcm
   clear hx
   have HN := Lh fun W (hE : Ext wr W) => bignormal_any l HB.out hll x p _ za zk W hcm (hvl.ext (hX.trans hE)) (hza.ext hE) (hzk.ext hE)
   obtain ⟨zab, zac, rfl, _, _⟩ := hza.count z_attr (by omega)
   obtain ⟨zkb, zkc, rfl, _, _⟩ := hzk.count z_node (by omega)
   clear hza hzk
   go_wp2_with fail
   refine (HN.out _ (Ext.refl _)).mono ?_
   rintro e w3 ⟨⟨r, ⟨xa, xk, rfl, hxa, hxk⟩, hr⟩, hB3⟩
   obtain ⟨n, c, at'⟩ := r
   simp only at hxa hxk ⊢
   have hr1 := hr.1
   simp only at hr1
   have hnn := cnt_name n
   obtain ⟨xaa, xac, rfl, _, _⟩ := hxa.count z_attr (by omega)
   obtain ⟨xka, xkc, rfl, _, _⟩ := hxk.count z_node (by omega)
   obtain ⟨nA, hnA⟩ : ∃ m, n.attrs.length = m := ⟨_, rfl⟩
   obtain ⟨nK, hnK⟩ : ∃ m, n.kids.length = m := ⟨_, rfl⟩
   rw [hnA] at hxa ⊢
   rw [hnK] at hxk ⊢
   clear hnA hnK HN d0 d1 d2 d3 d4
   have HR := Lh hr
   have HRX := Lh (And.intro hxa hxk)
   clear hr hxa hxk
   have hX3 := hX.trans hB3
   by_cases hc : c = 0
   ·
    subst hc
    obtain ⟨us, hrowr, hreps⟩ := HH.out.1.rows
    have hrow0 : Hid (∀ b, some b = dv.ownBlock → b < wr.heap.size) := Lh fun b hb => (hrowr.lt b hb.symm).2
    have hrow := (rows_ext hrowr hB3).alloc (.cells #[.int .i64 n.kind, .string (bs n.name), .string (bs n.text), .slice xaa nA xac, .slice xka nK xkc] 60)
    have hX4 : Ext w (w3.alloc (.cells #[.int .i64 n.kind, .string (bs n.name), .string (bs n.text), .slice xaa nA xac, .slice xka nK xkc] 60)) := hX3.alloc _
    have hE34 : Ext wr (w3.alloc (.cells #[.int .i64 n.kind, .string (bs n.name), .string (bs n.text), .slice xaa nA xac, .slice xka nK xkc] 60)) := hB3.alloc _
    have hsz3 := hB3.size
    have HHX := Lh (And.intro hreps (And.intro hE34 hsz3))
    clear hreps hE34 hX3
    go_wp2_with (at_builtin; refine wpList_append_own_at _ rfl (.tmp 28) (.tmp 30) _ rfl w.heap.size 60 i0 (.agg #[.int .i64 0, .string ⟨#[]⟩, .string ⟨#[]⟩, .slice none 0 0, .slice none 0 0]) 5 88 Tryz.underlying23 hi hz0 hz1 hz2 rfl (by decide) dv L.length us rfl (hrow.alloc _) ⟨w3.heap.size + 1, 0, none⟩ 1 1 [.int .i64 n.kind, .string (bs n.name), .string (bs n.text), .slice xaa nA xac, .slice xka nK xkc] rfl rfl (by have := new_cells (w := w3.alloc (.cells #[.int .i64 n.kind, .string (bs n.name), .string (bs n.text), .slice xaa nA xac, .slice xka nK xkc] 60)) (e := 60) [.int .i64 n.kind, .string (bs n.name), .string (bs n.text), .slice xaa nA xac, .slice xka nK xkc]; simpa using this) (by intro u hu; simp at hu; rcases hu with rfl | rfl | rfl | rfl | rfl <;> rfl) (by unfold maxLen; omega) (by omega) (by simp; omega) ?_; intro v2 w7 hown7 hgrow7 _ hat7)
    have hX7 : Ext w w7 := hX4.grown_own hrow hgrow7
    have hO7 : Own w7 (fun b => w.heap.size ≤ b) w.heap.size 60 5 v2 (L ++ [n]).length ((L ++ [n]).flatMap nodeC) := by
     rw [List.length_append, List.flatMap_append, List.flatMap_singleton, nodeC_eq]
     obtain ⟨hreps, hE34, hsz3⟩ := HHX.out
     refine Own.push (us := us) ?_ (Reps.cons (Rep.int _ _ _ _) (Reps.cons (Rep.string _ _ _ (by rw [bs_size]; omega)) (Reps.cons (Rep.string _ _ _ (by rw [bs_size]; omega)) (Reps.cons (e := attrsD n.attrs) ?_ (Reps.cons (e := nodesD n.kids) ?_ (Reps.nil _ _)))))) hown7 hgrow7 hat7
     ·
      exact (hreps.ext (hE34.alloc _)).ok fun b hb => ⟨hb.1, hb.2.1, by simp; omega⟩
     ·
      refine (HRX.out.1.ext (((Ext.refl _).alloc _).alloc _)).lt.ok fun b hb => ⟨by omega, fun e => ?_, hb.2⟩
      have := hrow0.out b e
      omega
     ·
      refine (HRX.out.2.ext (((Ext.refl _).alloc _).alloc _)).lt.ok fun b hb => ⟨by omega, fun e => ?_, hb.2⟩
      have := hrow0.out b e
      omega
    have hNF : Hid (∀ m ∈ L ++ [n], NForm l m) := Lh fun m hm => by
     rcases List.mem_append.1 hm with h | h
     ·
      exact HH.out.2 m h
     ·
      have : m = n := by simpa using h
      subst this
      obtain ⟨h1, h2⟩ := HR.out
      obtain ⟨h3, h4, nm, ks, rs, h5, h6, h7⟩ := h2 rfl
      exact ⟨x, nm, ks, rs, h3, h5, h4, h6, by rw [← h7], by rw [← h7], hcm, by omega⟩
    clear hown7 hgrow7 hat7 hrow hrowr HHX
    go_wp2_with fail
    go_roundw
    case rel => exact ⟨i + 1, L ++ [n], v2, by go_num, rfl, by omega, by rw [List.length_append]; simp; omega, hX7, Lh ⟨hO7, hNF.out⟩⟩
    case measure => simp only [downV]; omega
   ·
    have q1 : (c == 0) = false := by rw [beq_eq_false_iff_ne]; exact hc
    clear hc
    go_wp2_with fail
    go_roundw
    case rel => exact ⟨i + 1, L, dv, by go_num, rfl, by omega, by omega, hX3.alloc _, Lh ⟨HH.out.1.ext (hB3.alloc _), HH.out.2⟩⟩
    case measure => simp only [downV]; omega
  ·
   have hlI : ¬ (i : Int) < (ds.length : Int) := by omega
   obtain ⟨hown, hLc⟩ := HH.out
   clear HH
   go_wp2_with fail
   go_ret
   exact ⟨⟨L, ⟨dv, rfl, hown.rep.ok (fun b hb => by rcases hb with h | h <;> exact h)⟩, by omega, hLc⟩, hX⟩
theorem fits_any (l : List Rule) (hb : RulesB l) (hll : l.length ≤ 1048576) (ds : List Node) (p : Nat → Prop) (vl vd : Value) (w : World) (hcnt : ∀ d ∈ ds, cntN d ≤ 1048576)
  (hvl : Rep w p vl (rulesD l)) (hvd : Rep w p vd (nodesD ds)) :
  Calls Tryz.prog 8 #[vl, vd] w fun e w' => SomeB (fun b => b = true → ds.length ≤ 12 ∧ MayOk l) e ∧ Ext w w' := by
 have HS := Lh fun W (hE : Ext w W) => rsmall_any p l vl W (hvl.ext hE)
 have HM := Lh fun W (hE : Ext w W) => may_any l p vl W hb hll (hvl.ext hE)
 obtain ⟨la, lc, rfl, hlc1, hlc2⟩ := hvl.count z_rule (by omega)
 obtain ⟨da, dc, rfl, hdc1, hdc2⟩ := hvd.count z_node (by omega)
 have HCN := Lh hcnt
 clear hcnt hb
 by_cases h12 : 12 < ds.length
 ·
  have h12I : (12 : Int) < (ds.length : Int) := by omega
  go_enter Tryz.func8, Tryz.ntmps8
  go_wp2_with fail
  go_ret
  exact ⟨⟨_, rfl, fun h => by cases h⟩, Ext.refl _⟩
 ·
  have h12I : ¬ (12 : Int) < (ds.length : Int) := by omega
  go_enter Tryz.func8, Tryz.ntmps8
  go_wp2_with fail
  refine (HS.out _ (Ext.refl _)).mono ?_
  rintro e w1 ⟨⟨b1, rfl, _⟩, hB1⟩
  cases b1 with
  | false =>
   go_wp2_with fail
   go_ret
   exact ⟨⟨_, rfl, fun h => by cases h⟩, hB1⟩
  | true =>
   go_wp2_with fail
   refine (HM.out _ hB1).mono ?_
   rintro e w2 ⟨⟨b2, rfl, hm⟩, hB2⟩
   have hX2 := hB1.trans hB2
   cases b2 with
   | false =>
    go_wp2_with fail
    go_ret
    exact ⟨⟨_, rfl, fun h => by cases h⟩, hX2⟩
   | true =>
    have HMO := Lh (hm rfl)
    clear hm
    go_wp2_with fail
    go_loopw [5] (fun t wr => ∃ i : Nat, t = .int .i64 i ∧ i ≤ ds.length ∧ Ext w wr) (fun t _ => downV ds.length t)
    case atStart => exact ⟨0, rfl, Nat.zero_le _, hX2⟩
    case round =>
     obtain ⟨i, rfl, hi, hX⟩ := hrel
     have hi0 : (0 : Int) ≤ (i : Int) := by omega
     by_cases hlt : i < ds.length
     ·
      have hlI : (i : Int) < (ds.length : Int) := by omega
      obtain ⟨g, o, za, zk, rfl, lg, _, d0, d1, d2, d3, d4, hza, hzk⟩ := node_at (hvd.ext hX) i hlt
      have hcm := HCN.out _ (List.getElem_mem hlt)
      obtain ⟨x, hx⟩ : ∃ x, ds[i] = x := ⟨_, rfl⟩
      rw [hx] at d0 d1 d2 hza hzk hcm
      clear hx
      have HC := Lh fun W (hE : Ext wr W) => bigsmall_any 1200 (by omega) x p za zk W hcm (hza.ext hE) (hzk.ext hE)
      clear hza hzk
      go_wp2_with fail
      refine (HC.out _ (Ext.refl _)).mono ?_
      rintro e w3 ⟨rfl, hB3⟩
      obtain ⟨b, hb⟩ : ∃ b, decide (smallN 1200 x ≤ 1200) = b := ⟨_, rfl⟩
      rw [hb]
      cases b with
      | false =>
       go_wp2_with fail
       go_ret
       exact ⟨⟨_, rfl, fun h => by cases h⟩, hX.trans hB3⟩
      | true =>
       clear hb
       go_wp2_with fail
       go_roundw
       case rel => exact ⟨i + 1, by go_num, by omega, hX.trans hB3⟩
       case measure => simp only [downV]; omega
     ·
      have hlI : ¬ (i : Int) < (ds.length : Int) := by omega
      go_wp2_with fail
      go_ret
      exact ⟨⟨_, rfl, fun _ => ⟨by omega, HMO.out⟩⟩, hX⟩
theorem anode_at {w : World} {p : Nat → Prop} {a : Option Addr} {len cap : Nat} {l : List ANode} (h : Rep w p (.slice a len cap) (anodesD l)) (i : Nat) (hi : i < l.length) :
  ∃ b off x y z u, a = some ⟨b, off, none⟩ ∧ b < w.heap.size ∧ p b ∧ w.cell? ⟨b, off + i * 5, none⟩ = some (.string (bs l[i].name)) ∧ w.cell? ⟨b, off + i * 5 + 1, none⟩ = some x ∧ w.cell? ⟨b, off + i * 5 + 2, none⟩ = some y ∧
   w.cell? ⟨b, off + i * 5 + 3, none⟩ = some z ∧ w.cell? ⟨b, off + i * 5 + 4, none⟩ = some u ∧ Rep w p x (strsD l[i].key) ∧ Rep w p y (spansD l[i].vers) ∧ Rep w p z (partsD l[i].parts) ∧ Rep w p u (anodesD l[i].kids) := by
 obtain ⟨b, off, ha, hb, hp, hc⟩ := elem_at z_anode h (by omega) i hi
 rw [anodeC_eq] at hc
 obtain ⟨u, hu, hr⟩ := hc 0 _ rfl
 obtain ⟨u1, hu1, hr1⟩ := hc 1 _ rfl
 obtain ⟨u2, hu2, hr2⟩ := hc 2 _ rfl
 obtain ⟨u3, hu3, hr3⟩ := hc 3 _ rfl
 obtain ⟨u4, hu4, hr4⟩ := hc 4 _ rfl
 exact ⟨b, off, u1, u2, u3, u4, ha, hb, hp, by rw [← hr.is]; exact hu, hu1, hu2, hu3, hu4, hr1, hr2, hr3, hr4⟩
theorem sequal_q (p q : Nat → Prop) (x y : List Bytes) (v u : Value) (w : World) (h : Rep w p v (strsD x)) (k : Rep w q u (strsD y)) :
  Calls Tryz.prog 113 #[v, u] w fun e w' => e = .returned (.bool (textsS x y)) ∧ Dr w w' := by
 obtain ⟨a, c, rfl, hc1, hc2⟩ := h.count z_str (by omega)
 obtain ⟨b, d, rfl, hd1, hd2⟩ := k.count z_str (by omega)
 obtain ⟨R, hR⟩ : ∃ R, textsS x y = R := ⟨_, rfl⟩
 rw [hR]
 have HR := Lh hR
 by_cases hl : x.length = y.length
 ·
  have hl1 : ((x.length : Int) != (y.length : Int)) = false := by rw [hl]; exact bne_self_eq_false _
  have HL := Lh hl
  clear hR hl
  go_enter Tryz.func113, Tryz.ntmps113
  go_wp2_with fail
  go_loopw [5, 13] (fun _ t wr => ∃ i : Nat, t = .int .i64 i ∧ i ≤ x.length ∧ Dr w wr ∧ Hid (textsS (x.drop i) (y.drop i) = R)) (fun _ t _ => downV x.length t)
  case atStart => exact ⟨0, rfl, Nat.zero_le _, Dr.refl _, HR⟩
  case round =>
   obtain ⟨i, rfl, hi, hX, HI⟩ := hrel
   by_cases hlt : i < x.length
   ·
    have hlI : (i : Int) < (x.length : Int) := by omega
    have hi0 : (0 : Int) ≤ (i : Int) := by omega
    have hly : i < y.length := by have := HL.out; omega
    have hyI : (i : Int) < (y.length : Int) := by omega
    obtain ⟨g1, o1, rfl, hb1, hp1, hc1⟩ := str_at (h.ext hX.ext) i hlt
    obtain ⟨g2, o2, rfl, hb2, hp2, hc2⟩ := str_at (k.ext hX.ext) i hly
    have HS : Hid (textsS (x.drop i) (y.drop i) = if x[i] = y[i] then textsS (x.drop (i + 1)) (y.drop (i + 1)) else false) := Lh (by rw [drop_one x i hlt, drop_one y i hly]; rfl)
    obtain ⟨s, hs⟩ : ∃ s, x[i] = s := ⟨_, rfl⟩
    obtain ⟨t, ht⟩ : ∃ t, y[i] = t := ⟨_, rfl⟩
    rw [hs] at hc1 HS
    rw [ht] at hc2 HS
    have HX := Lh hX
    clear hs ht hX
    by_cases he : s = t
    ·
     subst he
     have HN : Hid (textsS (x.drop (i + 1)) (y.drop (i + 1)) = R) := Lh (by have := HS.out; rw [if_pos rfl] at this; rw [← this]; exact HI.out)
     clear HS HI
     go_wp2_with fail
     go_quiet (fail)
     go_wp2_with fail
     go_roundw
     case rel => exact ⟨i + 1, by go_num, by omega, HX.out.drewN _, HN⟩
     case measure => simp only [downV]; omega
    ·
     have HN : Hid (false = R) := Lh (by have := HS.out; rw [if_neg he] at this; rw [← this]; exact HI.out)
     have e1 : ((bs s).toList == (bs t).toList) = false := by rw [bs_toList, bs_toList, beq_eq_false_iff_ne]; exact he
     clear HS HI he
     go_wp2_with fail
     go_quiet (fail)
     go_wp2_with fail
     go_ret
     exact ⟨ret_bool HN.out, HX.out.drewN _⟩
   ·
    have hlI : ¬ (i : Int) < (x.length : Int) := by omega
    have HN : Hid (true = R) := Lh (by
     have := HI.out
     rw [List.drop_of_length_le (by omega), List.drop_of_length_le (by have := HL.out; omega)] at this
     exact this)
    clear HI
    go_wp2_with fail
    go_ret
    exact ⟨ret_bool HN.out, hX⟩
 ·
  have hl1 : ((x.length : Int) != (y.length : Int)) = true := by rw [bne_iff_ne]; omega
  have HN : Hid (false = R) := Lh (by rw [← hR, textsS_ne x y hl])
  clear hR hl HR
  go_enter Tryz.func113, Tryz.ntmps113
  go_wp2_with fail
  go_ret
  exact ⟨ret_bool HN.out, Dr.refl _⟩
def isB (n : ANode) (s : Step) : Bool := if n.name = s.n then textsS n.key s.key else false
theorem isB_iff (n : ANode) (s : Step) : isB n s = true ↔ n.name = s.n ∧ n.key = s.key := by
 unfold isB
 split
 ·
  rename_i h; rw [textsS_iff]; simp [h]
 ·
  rename_i h; simp [h]
theorem is_any (p q : Nat → Prop) (n : ANode) (s : Step) (nk nv np nc sk : Value) (w : World) (h : Rep w p nk (strsD n.key)) (k : Rep w q sk (strsD s.key)) (hv : nv.oneCell' = true) (hp : np.oneCell' = true) (hc : nc.oneCell' = true) :
  Calls Tryz.prog 71 #[.agg #[.string (bs n.name), nk, nv, np, nc], .agg #[.string (bs s.n), sk]] w fun e w' => e = .returned (.bool (isB n s)) ∧ Ext w w' := by
 obtain ⟨a, c, rfl, _, _⟩ := h.count z_str (by omega)
 obtain ⟨b, d, rfl, _, _⟩ := k.count z_str (by omega)
 have HC := Lh fun W (hE : Ext w W) => sequal_q p q n.key s.key _ _ W (h.ext hE) (k.ext hE)
 have HS : Hid (isB n s = if n.name = s.n then textsS n.key s.key else false) := Lh rfl
 obtain ⟨R, hR⟩ : ∃ R, isB n s = R := ⟨_, rfl⟩
 rw [hR] at HS ⊢
 clear h k hR
 by_cases he : n.name = s.n
 ·
  have e1 : ((bs n.name).toList == (bs s.n).toList) = true := by rw [bs_toList, bs_toList, he]; exact beq_self_eq_true _
  have HN : Hid (textsS n.key s.key = R) := Lh (by rw [HS.out, if_pos he])
  clear HS he
  go_enter Tryz.func71, Tryz.ntmps71
  go_wp2_with fail
  refine (HC.out _ (((Ext.refl w).alloc _).alloc _)).mono ?_
  rintro e w1 ⟨rfl, hB1⟩
  go_wp2_with fail
  go_ret
  exact ⟨ret_bool HN.out, (((Ext.refl w).alloc _).alloc _).trans hB1.ext⟩
 ·
  have e1 : ((bs n.name).toList == (bs s.n).toList) = false := by rw [bs_toList, bs_toList, beq_eq_false_iff_ne]; exact he
  have HN : Hid (false = R) := Lh (by rw [HS.out, if_neg he])
  clear HS he
  go_enter Tryz.func71, Tryz.ntmps71
  go_wp2_with fail
  go_ret
  exact ⟨ret_bool HN.out, ((Ext.refl w).alloc _).alloc _⟩
theorem one_span (x : Span) : ∀ e ∈ spanC x, e.one = true := by intro e he; simp [spanC] at he; rcases he with rfl | rfl <;> rfl
theorem run_eql_slice_nil {P : Program} (w : World) (t e : TypeId) (a : Option Addr) (l c : Nat) (h : P.underlying t = some (.slice e)) : (binOp .eql t (.slice a l c) (.slice none 0 0)).run P w = .ok (.bool a.isNone) w := by
 simp only [binOp]
 simp [run_equal_slice_nil w t e a l c h]
theorem rep_none {w : World} {p : Nat → Prop} {len cap z : Nat} {es : List DV} (h : Rep w p (.slice none len cap) (.s z es)) : len = 0 ∧ cap = 0 ∧ es = [] := by cases h; exact ⟨rfl, rfl, rfl⟩
theorem rep_some {w : World} {p : Nat → Prop} {ad : Addr} {len cap z : Nat} {es : List DV} (h : Rep w p (.slice (some ad) len cap) (.s z es)) : ∃ us, Reps w p us es ∧ us.length = len * z ∧ (∀ (j : Nat) (u : Value), us[j]? = some u → w.cell? (ad.add j) = some u) := by
 cases h with
 | emp => exact ⟨[], Reps.nil _ _, by simp, fun j u h => by simp at h⟩
 | row b off _ _ _ us _ hok hl hu hcap hm hc hr => exact ⟨us, ⟨by rw [hu, hl], hr⟩, hu, fun j u hj => by rw [add_offs']; exact hc j u hj⟩
theorem clonesp_any (x : List Span) (p : Nat → Prop) (v : Value) (w : World) (hx : x.length ≤ 1048576) (h : Rep w p v (spansD x)) :
  Calls Tryz.prog 79 #[v] w fun e w' => Ret (fun b => w.heap.size ≤ b) (spansD x) e w' ∧ Ext w w' := by
 obtain ⟨i0, hi, hz0, hz1, hz2⟩ := info_parts infoSpan
 obtain ⟨a, c, rfl, hc1, hc2⟩ := h.count z_span (by omega)
 have knil := fun (a : Option Addr) (l c : Nat) (w : World) => run_eql_slice_nil (P := Tryz.prog) w 30 96 a l c Tryz.underlying30
 cases a with
 | none =>
  obtain ⟨h0, hc0, _⟩ := rep_none h
  obtain rfl : x = [] := List.eq_nil_of_length_eq_zero h0
  subst hc0
  clear h0
  simp only [List.length_nil] at *
  go_enter Tryz.func79, Tryz.ntmps79
  go_wp2_with fail
  go_ret
  exact ⟨⟨_, rfl, .nil 2⟩, Ext.refl _⟩
 | some ad =>
  obtain ⟨us, hus, hul, hcells⟩ := rep_some h
  have h1u := hus.one (flat_one one_span x)
  have hown : (w.alloc (.cells #[] 96)).ownsRow w.heap.size 96 2 (.slice (some ⟨w.heap.size, 0, none⟩) 0 0) 0 [] := own_empty' (Nat.le_refl _) Array.getElem?_push_size
  have hcl : ∀ j u, us[j]? = some u → (w.alloc (.cells #[] 96)).cell? (ad.add j) = some u := fun j u hj => by
   have h1 := hcells j u hj
   exact (World.cell?_of_block (Below.heap_alloc _ _ _ (World.block_lt_of_cell? w _ h1))).trans h1
  have HU := Lh (And.intro hus h1u)
  clear hus h1u h hcells
  go_enter Tryz.func79, Tryz.ntmps79
  go_wp2_with (at_builtin; refine wpList_append_own_at _ rfl (.tmp 5) (.tmp 6) _ rfl w.heap.size 96 i0 (.agg #[.int .i64 0, .int .i64 0]) 2 16 Tryz.underlying30 hi hz0 hz1 hz2 rfl (by decide) (.slice (some ⟨w.heap.size, 0, none⟩) 0 0) 0 [] rfl hown ad x.length c us rfl hul hcl HU.out.2 (by unfold maxLen; omega) (by omega) (by simp) ?_; intro v2 w3 hown3 hgrow3 _ hat3)
  have hX3 : Ext w w3 := Below.grown ((Ext.refl w).alloc (.cells #[] 96)) hgrow3 (by simp) fun k hk => (hown.lt k hk).1
  have hrep : Rep w3 (fun b => p b ∨ w.heap.size ≤ b) v2 (spansD x) := Own.rep (p := p) (base := w.heap.size) (e := 96) (n := 0 + x.length) ⟨us, by simpa using hown3, (HU.out.1.lt.ext hX3).ok fun b hb => ⟨hb.1, fun e => by
   have := (hown3.lt b e.symm).1
   omega, Nat.lt_of_lt_of_le hb.2 hX3.size⟩⟩
  have hrep2 : Rep w3 (fun b => w.heap.size ≤ b) v2 (spansD x) := by
   have h3 : Rep w3 (fun b => False ∨ w.heap.size ≤ b) v2 (spansD x) := Own.rep (p := fun _ => False) (base := w.heap.size) (e := 96) (n := 0 + x.length) ⟨us, by simpa using hown3, ⟨HU.out.1.1, fun k u d hk hd => by
    have hm := List.mem_of_getElem? hd
    have h4 := HU.out.1.2 k u d hk hd
    have h5 : ∃ n : Int, d = intD n := by
     obtain ⟨s, _, hs⟩ := List.mem_flatMap.1 hm
     simp [spanC] at hs
     rcases hs with rfl | rfl
     ·
      exact ⟨_, rfl⟩
     ·
      exact ⟨_, rfl⟩
    obtain ⟨n, rfl⟩ := h5
    rw [h4.is]
    exact Rep.int _ _ _ _⟩⟩
   exact h3.ok fun b hb => by rcases hb with h | h; exact h.elim; exact h
  clear hown3 hgrow3 hat3 hrep
  go_wp2_with fail
  go_ret
  exact ⟨⟨v2, rfl, hrep2⟩, hX3⟩
def eitherS (s a : List Span) : List Span := if s.length = 0 then a else s
theorem either_any (x y : List Span) (p q : Nat → Prop) (v u : Value) (w : World) (hx : x.length ≤ 1048576) (hy : y.length ≤ 1048576) (h : Rep w p v (spansD x)) (k : Rep w q u (spansD y)) :
  Calls Tryz.prog 43 #[v, u] w fun e w' => Ret (fun b => w.heap.size ≤ b) (spansD (eitherS x y)) e w' ∧ Ext w w' := by
 have HC1 := Lh fun W (hE : Ext w W) => clonesp_any x p v W hx (h.ext hE)
 have HC2 := Lh fun W (hE : Ext w W) => clonesp_any y q u W hy (k.ext hE)
 have HS : Hid (eitherS x y = if x.length = 0 then y else x) := Lh rfl
 obtain ⟨R, hR⟩ : ∃ R, eitherS x y = R := ⟨_, rfl⟩
 rw [hR] at HS ⊢
 obtain ⟨a, c, rfl, _, _⟩ := h.count z_span (by omega)
 obtain ⟨b, d, rfl, _, _⟩ := k.count z_span (by omega)
 clear h k hR
 by_cases h0 : x.length = 0
 ·
  have q0 : ((x.length : Int) == 0) = true := by rw [h0]; rfl
  have HN : Hid (y = R) := Lh (by rw [HS.out, if_pos h0])
  clear HS h0
  go_enter Tryz.func43, Tryz.ntmps43
  go_wp2_with fail
  refine (HC2.out _ (Ext.refl _)).mono ?_
  rintro e w1 ⟨⟨v1, rfl, hv1⟩, hB1⟩
  go_wp2_with fail
  go_ret
  exact ⟨⟨v1, rfl, by rw [← HN.out]; exact hv1⟩, hB1⟩
 ·
  have q0 : ((x.length : Int) == 0) = false := by rw [beq_eq_false_iff_ne]; omega
  have HN : Hid (x = R) := Lh (by rw [HS.out, if_neg h0])
  clear HS h0
  go_enter Tryz.func43, Tryz.ntmps43
  go_wp2_with fail
  refine (HC1.out _ (Ext.refl _)).mono ?_
  rintro e w1 ⟨⟨v1, rfl, hv1⟩, hB1⟩
  go_wp2_with fail
  go_ret
  exact ⟨⟨v1, rfl, by rw [← HN.out]; exact hv1⟩, hB1⟩
theorem find1_any (p q : Nat → Prop) (n : ANode) (s : Step) (ka va pa ca sa : Option Addr) (kl kc vl vc pl pc cl cc sl sc b : Nat) (w : World) (h : Rep w p (.slice ka kl kc) (strsD n.key)) (k : Rep w q (.slice sa sl sc) (strsD s.key))
  (hb : b < w.heap.size) (s0 : w.cell? ⟨b, 0, none⟩ = some (.string (bs s.n))) (s1 : w.cell? ⟨b, 1, none⟩ = some (.slice sa sl sc)) :
  Calls Tryz.prog 73 #[.agg #[.string (bs n.name), .slice ka kl kc, .slice va vl vc, .slice pa pl pc, .slice ca cl cc], .pointer (some ⟨b, 0, none⟩)] w fun e w' => e = .returned (.bool (isB n s)) ∧ Ext w w' := by
 have HC := Lh fun W (hE : Ext w W) => is_any p q n s _ (.slice va vl vc) (.slice pa pl pc) (.slice ca cl cc) _ W (h.ext hE) (k.ext hE) rfl rfl rfl
 obtain ⟨R, hR⟩ : ∃ R, isB n s = R := ⟨_, rfl⟩
 rw [hR] at HC ⊢
 clear hR h k
 go_enter Tryz.func73, Tryz.ntmps73
 go_wp2_with fail
 refine (HC.out _ ((Ext.refl w).alloc _)).mono ?_
 rintro e w1 ⟨rfl, hB1⟩
 go_wp2_with fail
 go_ret
 exact ⟨rfl, ((Ext.refl w).alloc _).trans hB1⟩
def idxA (s : Step) : List ANode → Nat → Int
 | [], _ => -1
 | n :: r, i => if isB n s = true then (i : Int) else idxA s r (i + 1)
theorem idxA_range (s : Step) : ∀ (l : List ANode) (i : Nat), idxA s l i = -1 ∨ ((i : Int) ≤ idxA s l i ∧ idxA s l i < ((i + l.length : Nat) : Int))
 | [], i => Or.inl rfl
 | n :: l, i => by
  unfold idxA
  split
  ·
   right; simp only [List.length_cons]; omega
  ·
   rcases idxA_range s l (i + 1) with h | h
   ·
    exact Or.inl h
   ·
    right; simp only [List.length_cons]; omega
theorem indexa_any (p q : Nat → Prop) (l : List ANode) (s : Step) (v : Value) (sa : Option Addr) (sl sc b : Nat) (w : World) (h : Rep w p v (anodesD l)) (k : Rep w q (.slice sa sl sc) (strsD s.key))
  (hb : b < w.heap.size) (s0 : w.cell? ⟨b, 0, none⟩ = some (.string (bs s.n))) (s1 : w.cell? ⟨b, 1, none⟩ = some (.slice sa sl sc)) :
  Calls Tryz.prog 72 #[v, .func (.func 73) #[] #[.pointer (some ⟨b, 0, none⟩)]] w fun e w' => e = .returned (.int .i64 (idxA s l 0)) ∧ Ext w w' := by
 obtain ⟨a, c, rfl, hc1, hc2⟩ := h.count z_anode (by omega)
 obtain ⟨R, hR⟩ : ∃ R, idxA s l 0 = R := ⟨_, rfl⟩
 rw [hR]
 have HR := Lh hR
 clear hR
 go_enter Tryz.func72, Tryz.ntmps72
 go_wp2_with fail
 go_loopw [5, 8] (fun _ t wr => ∃ i : Nat, t = .int .i64 i ∧ i ≤ l.length ∧ Ext w wr ∧ Hid (idxA s (l.drop i) i = R)) (fun _ t _ => downV l.length t)
 case atStart => exact ⟨0, rfl, Nat.zero_le _, Ext.refl _, HR⟩
 case round =>
  obtain ⟨i, rfl, hi, hX, HI⟩ := hrel
  have hi0 : (0 : Int) ≤ (i : Int) := by omega
  by_cases hlt : i < l.length
  ·
   have hlI : (i : Int) < (l.length : Int) := by omega
   obtain ⟨g, o, x, y, z, u, rfl, lg, _, d0, d1, d2, d3, d4, hx, hy, hz, hu⟩ := anode_at (h.ext hX) i hlt
   have HS : Hid (idxA s (l.drop i) i = if isB l[i] s = true then (i : Int) else idxA s (l.drop (i + 1)) (i + 1)) := Lh (by rw [drop_one l i hlt]; rfl)
   obtain ⟨n, hn⟩ : ∃ n, l[i] = n := ⟨_, rfl⟩
   rw [hn] at d0 hx hy hz hu HS
   obtain ⟨xa, xc, rfl, _, _⟩ := hx.count z_str (by omega)
   obtain ⟨ya, yc, rfl, _, _⟩ := hy.count z_span (by omega)
   obtain ⟨za, zc, rfl, _, _⟩ := hz.count z_part (by omega)
   obtain ⟨ua, uc, rfl, _, _⟩ := hu.count z_anode (by omega)
   have HC := Lh fun W (hE : Ext wr W) => find1_any p q n s xa ya za ua sa n.key.length xc n.vers.length yc n.parts.length zc n.kids.length uc sl sc b W (hx.ext hE) (k.ext (hX.trans hE)) (Nat.lt_of_lt_of_le hb (hX.trans hE).size) ((hX.trans hE).keep hb s0) ((hX.trans hE).keep hb s1)
   obtain ⟨B, hB⟩ : ∃ B, isB n s = B := ⟨_, rfl⟩
   rw [hB] at HC HS
   clear hn hB hx hy hz hu
   go_wp2_with fail
   refine (HC.out _ (Ext.refl _)).mono ?_
   rintro e w1 ⟨rfl, hB1⟩
   cases B with
   | true =>
    have HN : Hid ((i : Int) = R) := Lh (by have := HS.out; rw [if_pos rfl] at this; rw [← this]; exact HI.out)
    clear HS HI
    go_wp2_with fail
    go_ret
    exact ⟨ret_int HN.out, hX.trans hB1⟩
   | false =>
    have HN : Hid (idxA s (l.drop (i + 1)) (i + 1) = R) := Lh (by have := HS.out; rw [if_neg (by decide)] at this; rw [← this]; exact HI.out)
    clear HS HI
    go_wp2_with fail
    go_roundw
    case rel => exact ⟨i + 1, by go_num, by omega, hX.trans hB1, HN⟩
    case measure => simp only [downV]; omega
  ·
   have hlI : ¬ (i : Int) < (l.length : Int) := by omega
   have HN : Hid ((-1 : Int) = R) := Lh (by
    have := HI.out
    rw [List.drop_of_length_le (by omega)] at this
    exact this)
   clear HI
   go_wp2_with fail
   go_ret
   exact ⟨ret_int HN.out, hX⟩
open Go.RowKit Go.Extern.Stop Go.Stop Go.Extern
theorem rl_valueOf27 (t : Addr) (w : World) : (ReflectliteValue.unpack (.iface 92 (.pointer (some t)))).run Tryz.prog w
  = .ok (.agg #[.pointer (some ⟨5, 92, none⟩), .pointer (some ⟨w.heap.size, 0, none⟩), .int .u64 150]) (w.alloc (.cells #[.pointer (some t)] 92)) := by kernel_rfl
theorem rl_type27 (a : Addr) (w : World) : (ReflectliteValue.methodAny (ReflectliteValue.valueError "reflectlite.Value.Type" 0) (fun t _ _ _ => ReflectliteType.toType t) #[.agg #[.pointer (some ⟨5, 92, none⟩), .pointer (some a), .int .u64 150]]).run Tryz.prog w
  = .ok (.iface 175 (.agg #[.pointer (some ⟨5, 92, none⟩)])) w := by kernel_rfl
theorem rl_methodKind (h : Value) (w : World) : (Go.method 376 175 (.agg #[h]) "Kind").run Tryz.prog w = .ok (186, h) w := by kernel_rfl
theorem rl_kind27 (w : World) : ((ReflectliteType.abiMethod fun t => (fun a : Nat => Value.int IntKind.u8 (a : Int)) <$> Rtype.kind t) #[.pointer (some ⟨5, 92, none⟩)]).run Tryz.prog w = .ok (.int .u8 22) w := by kernel_rfl
theorem rl_kind25 (w : World) : ((ReflectliteType.abiMethod fun t => (fun a : Nat => Value.int IntKind.u8 (a : Int)) <$> Rtype.kind t) #[.pointer (some ⟨5, 90, none⟩)]).run Tryz.prog w = .ok (.int .u8 22) w := by kernel_rfl
theorem rlm (z : Sem Value) (f : TypeId → Addr → Nat → Nat → Sem Value) (v : Value) :
  ReflectliteValue.method z f #[v] = (do match ← ReflectliteValue.parts v with | none => z | some (t, a, fl) => f t a fl (fl % 32)) := rfl
theorem rl_parts27 (a : Addr) (w : World) : (ReflectliteValue.parts (.agg #[.pointer (some ⟨5, 92, none⟩), .pointer (some a), .int .u64 150])).run Tryz.prog w = .ok (some (92, a, 150)) w := by kernel_rfl
theorem rl_isNil27 (a p : Addr) (W : World) (ha : W.cell? a = some (.pointer (some p))) :
  (ReflectliteValue.method (ReflectliteValue.valueError "reflectlite.Value.IsNil" 0) ReflectliteValue.isNil #[.agg #[.pointer (some ⟨5, 92, none⟩), .pointer (some a), .int .u64 150]]).run Tryz.prog W = .ok (.bool false) W := by
 rw [rlm]
 simp only [Sem.run_bind, rl_parts27, Result.andThen]
 simp [ReflectliteValue.isNil, loadVar, isAgg, underlying, Tryz.underlying92, ha, Result.andThen]
theorem rl_methodElem (h : Value) (w : World) : (Go.method 376 175 (.agg #[h]) "Elem").run Tryz.prog w = .ok (197, .agg #[h]) w := by kernel_rfl
theorem rl_methodImplements (h : Value) (w : World) : (Go.method 376 175 (.agg #[h]) "Implements").run Tryz.prog w = .ok (198, .agg #[h]) w := by kernel_rfl
theorem rl_methodAssignableTo (h : Value) (w : World) : (Go.method 376 175 (.agg #[h]) "AssignableTo").run Tryz.prog w = .ok (195, .agg #[h]) w := by kernel_rfl
theorem rl_elem27 (w : World) : (ReflectliteType.method ReflectliteType.elem #[.agg #[.pointer (some ⟨5, 92, none⟩)]]).run Tryz.prog w = .ok (.iface 175 (.agg #[.pointer (some ⟨5, 90, none⟩)])) w := by kernel_rfl
theorem rl_implements25 (w : World) : (ReflectliteType.relation "Implements" ReflectliteType.implements_ #[.agg #[.pointer (some ⟨5, 90, none⟩)], .iface 175 (.agg #[.pointer (some ⟨5, 39, none⟩)])]).run Tryz.prog w = .ok (.bool true) w := by kernel_rfl
theorem rl_typeOf25 (v : Value) (w : World) : (ReflectliteType.typeOf #[.iface 90 v]).run Tryz.prog w = .ok (.iface 175 (.agg #[.pointer (some ⟨5, 90, none⟩)])) w := by kernel_rfl
theorem rl_assignable25 (w : World) : (ReflectliteType.relation "AssignableTo" ReflectliteType.assignableTo #[.agg #[.pointer (some ⟨5, 90, none⟩)], .iface 175 (.agg #[.pointer (some ⟨5, 90, none⟩)])]).run Tryz.prog w = .ok (.bool true) w := by kernel_rfl
theorem rl_valueOf25 (e : Addr) (w : World) : (ReflectliteValue.unpack (.iface 90 (.pointer (some e)))).run Tryz.prog w
  = .ok (.agg #[.pointer (some ⟨5, 90, none⟩), .pointer (some ⟨w.heap.size, 0, none⟩), .int .u64 150]) (w.alloc (.cells #[.pointer (some e)] 90)) := by kernel_rfl
theorem rl_elemOf27 (w : World) : (Rtype.elem? 92).run Tryz.prog w = .ok (some 90) w := by kernel_rfl
theorem rl_mk25 (p : Addr) (w : World) : (ReflectliteValue.mk 90 p ReflectliteValue.flagAddr).run Tryz.prog w = .ok (.agg #[.pointer (some ⟨5, 90, none⟩), .pointer (some p), .int .u64 406]) w := by kernel_rfl
theorem rl_elemV27 (a p : Addr) (W : World) (ha : W.cell? a = some (.pointer (some p))) :
  (ReflectliteValue.method (ReflectliteValue.valueError "reflectlite.Value.Elem" 0) ReflectliteValue.elem #[.agg #[.pointer (some ⟨5, 92, none⟩), .pointer (some a), .int .u64 150]]).run Tryz.prog W
   = .ok (.agg #[.pointer (some ⟨5, 90, none⟩), .pointer (some p), .int .u64 406]) W := by
 rw [rlm]
 simp only [Sem.run_bind, rl_parts27, Result.andThen]
 simp [ReflectliteValue.elem, loadVar, isAgg, underlying, Tryz.underlying92, ha, Result.andThen, rl_elemOf27, rl_mk25]
theorem rls (v x : Value) : ReflectliteValue.set #[v, x] = (do
  let (some (dst, a, fl), some (src, b, _)) := (← ReflectliteValue.parts v, ← ReflectliteValue.parts x)
   | unsupported (.noEntry "extern/(internal/reflectlite.Value).Set.zeroValue")
  if fl / ReflectliteValue.flagAddr % 2 == 0 then unsupported (.noEntry "extern/(internal/reflectlite.Value).Set.unaddressable")
  let val ← loadVar src b
  if ← Rtype.directlyAssignable dst src then storeVar dst a val
  else if ← Rtype.implements dst src then
   if (← Rtype.kind src) == 20 then
    match val with
    | .nilIface => unsupported (.noEntry "extern/reflectlite: a nil value of one interface type handed on as a value of another")
    | _ => storeVar dst a val
   else storeVar dst a (.iface src val)
  else panicString ("reflectlite.Set: value of type " ++ (← Rtype.spelt src) ++ " is not assignable to type " ++ (← Rtype.spelt dst))
  pure (.tuple #[])) := rfl
theorem rl_parts25a (a : Addr) (w : World) : (ReflectliteValue.parts (.agg #[.pointer (some ⟨5, 90, none⟩), .pointer (some a), .int .u64 406])).run Tryz.prog w = .ok (some (90, a, 406)) w := by kernel_rfl
theorem rl_parts25 (a : Addr) (w : World) : (ReflectliteValue.parts (.agg #[.pointer (some ⟨5, 90, none⟩), .pointer (some a), .int .u64 150])).run Tryz.prog w = .ok (some (90, a, 150)) w := by kernel_rfl
theorem rl_direct25 (w : World) : (Rtype.directlyAssignable 90 90).run Tryz.prog w = .ok true w := by kernel_rfl
theorem rl_set25 (ta b e : Addr) (old : Value) (W : World) (hb : W.cell? b = some (.pointer (some e))) (ht : W.cell? ta = some old) (hf : W.frozen? ta = false) :
  (ReflectliteValue.set #[.agg #[.pointer (some ⟨5, 90, none⟩), .pointer (some ta), .int .u64 406], .agg #[.pointer (some ⟨5, 90, none⟩), .pointer (some b), .int .u64 150]]).run Tryz.prog W
   = .ok (.tuple #[]) (W.setCell ta (.pointer (some e))) := by
 rw [rls]
 simp only [Sem.run_bind, rl_parts25a, rl_parts25, Result.andThen]
 simp [ReflectliteValue.flagAddr, loadVar, isAgg, underlying, Tryz.underlying90, hb, Result.andThen, rl_direct25, storeVar, Value.cells, storeCells, Addr.add]
 rw [run_store Tryz.prog W ta _ _ (by rfl)]
 simp [ht, hf]
theorem rl_typeOf91 (v : Value) (w : World) : (ReflectliteType.typeOf #[.iface 191 v]).run Tryz.prog w = .ok (.iface 175 (.agg #[.pointer (some ⟨5, 191, none⟩)])) w := by kernel_rfl
theorem rl_assignable91 (w : World) : (ReflectliteType.relation "AssignableTo" ReflectliteType.assignableTo #[.agg #[.pointer (some ⟨5, 191, none⟩)], .iface 175 (.agg #[.pointer (some ⟨5, 90, none⟩)])]).run Tryz.prog w = .ok (.bool false) w := by kernel_rfl
theorem rl_ta1 (a : Addr) (w : World) : (Instr.typeAssert (.iface 191 (.pointer (some a))) 39 180 true).run Tryz.prog w = .ok (.tuple #[.nilIface, .bool false]) w := run_typeAssert_lacksB Tryz.underlying180 (by kernel_rfl) (by kernel_rfl) _ _ w
theorem rl_ta2 (a : Addr) (w : World) : (Instr.typeAssert (.iface 191 (.pointer (some a))) 39 183 true).run Tryz.prog w = .ok (.tuple #[.iface 191 (.pointer (some a)), .bool true]) w := run_typeAssert_hasB Tryz.underlying183 (by kernel_rfl) _ _ w
theorem rl_mU (a : Addr) (w : World) : (Go.method 376 191 (.pointer (some a)) "Unwrap").run Tryz.prog w = .ok (206, .pointer (some a)) w := by kernel_rfl
theorem as_wrapped (b1 b2 : Nat) (t : Addr) (old : Value) (w : World) (hg : w.cell? ⟨0, 0, none⟩ = some (.iface 175 (.agg #[.pointer (some ⟨5, 39, none⟩)]))) (ht0 : w.cell? t = some old) (hf0 : w.frozen? t = false) (hb1 : b1 < w.heap.size) (hu : w.cell? ⟨b1, 1, none⟩ = some (.iface 90 (.pointer (some ⟨b2, 0, none⟩)))) :
  Calls Tryz.prog 40 #[.iface 191 (.pointer (some ⟨b1, 0, none⟩)), .iface 92 (.pointer (some t))] w fun ev w' => ev = .returned (.bool true) ∧ ∃ W, Ext w W ∧ w' = W.setCell t (.pointer (some ⟨b2, 0, none⟩)) := by
 obtain ⟨e, he⟩ : ∃ e : Addr, ⟨b2, 0, none⟩ = e := ⟨_, rfl⟩
 rw [he] at hu ⊢
 have h6 := @run_callFunc_extern Tryz.prog 74 _ (fun args => ReflectliteValue.unpack (args.getD 0 (.tuple #[]))) Tryz.func74 (by kernel_rfl) (by kernel_rfl) (by kernel_rfl) (by kernel_rfl)
 have h7 := @run_callFunc_extern Tryz.prog 75 _ (ReflectliteValue.methodAny (ReflectliteValue.valueError "reflectlite.Value.Type" 0) (fun t _ _ _ => ReflectliteType.toType t)) Tryz.func75 (by kernel_rfl) (by kernel_rfl) (by kernel_rfl) (by kernel_rfl)
 have h8 := @run_callFunc_extern Tryz.prog 76 _ (ReflectliteValue.method (ReflectliteValue.valueError "reflectlite.Value.IsNil" 0) ReflectliteValue.isNil) Tryz.func76 (by kernel_rfl) (by kernel_rfl) (by kernel_rfl) (by kernel_rfl)
 have h27 := @run_callFunc_extern Tryz.prog 186 _ (ReflectliteType.abiMethod fun t => do pure (.int .u8 (← Rtype.kind t))) Tryz.func186 (by kernel_rfl) (by kernel_rfl) (by kernel_rfl) (by kernel_rfl)
 have h37 := @run_callFunc_extern Tryz.prog 197 _ (ReflectliteType.method ReflectliteType.elem) Tryz.func197 (by kernel_rfl) (by kernel_rfl) (by kernel_rfl) (by kernel_rfl)
 have h38 := @run_callFunc_extern Tryz.prog 198 _ (ReflectliteType.relation "Implements" ReflectliteType.implements_) Tryz.func198 (by kernel_rfl) (by kernel_rfl) (by kernel_rfl) (by kernel_rfl)
 have h10 := @run_callFunc_extern Tryz.prog 114 _ ReflectliteType.typeOf Tryz.func114 (by kernel_rfl) (by kernel_rfl) (by kernel_rfl) (by kernel_rfl)
 have h35 := @run_callFunc_extern Tryz.prog 195 _ (ReflectliteType.relation "AssignableTo" ReflectliteType.assignableTo) Tryz.func195 (by kernel_rfl) (by kernel_rfl) (by kernel_rfl) (by kernel_rfl)
 have h11 := @run_callFunc_extern Tryz.prog 115 _ (ReflectliteValue.method (ReflectliteValue.valueError "reflectlite.Value.Elem" 0) ReflectliteValue.elem) Tryz.func115 (by kernel_rfl) (by kernel_rfl) (by kernel_rfl) (by kernel_rfl)
 have h12 := @run_callFunc_extern Tryz.prog 116 _ ReflectliteValue.set Tryz.func116 (by kernel_rfl) (by kernel_rfl) (by kernel_rfl) (by kernel_rfl)
 have tO := rl_typeOf25
 have mA := rl_methodAssignableTo
 have a25 := rl_assignable25
 have v25 := rl_valueOf25
 have f6 := rl_valueOf27
 have f7 := rl_type27
 have mK := rl_methodKind
 have mE := rl_methodElem
 have mI := rl_methodImplements
 have k27 := rl_kind27
 have k25 := rl_kind25
 have e27 := rl_elem27
 have i25 := rl_implements25
 have n8 := rl_isNil27 ⟨w.heap.size, 0, none⟩ t ((w.alloc (.cells #[.pointer (some t)] 92)).alloc (.cells #[.pointer (some ⟨5, 92, none⟩), .pointer (some ⟨w.heap.size, 0, none⟩), .int .u64 150] 135)) (by simp)
 have hlt : 0 < w.heap.size := by
  rcases Nat.eq_zero_or_pos w.heap.size with h0 | h
  ·
   simp [World.cell?, h0] at hg
  ·
   exact h
 have hg2 : ((w.alloc (.cells #[.pointer (some t)] 92)).alloc (.cells #[.pointer (some ⟨5, 92, none⟩), .pointer (some ⟨w.heap.size, 0, none⟩), .int .u64 150] 135)).cell? ⟨0, 0, none⟩ = some (.iface 175 (.agg #[.pointer (some ⟨5, 39, none⟩)])) := by
  rw [World.cell?_alloc_lt _ _ ⟨0, 0, none⟩ (by simp), World.cell?_alloc_lt _ _ ⟨0, 0, none⟩ hlt]; exact hg
 have htl : t.block < w.heap.size := by
  rcases Nat.lt_or_ge t.block w.heap.size with h | h
  ·
   exact h
  ·
   simp [World.cell?, Array.getElem?_eq_none h] at ht0
 have el := rl_elemV27 ⟨w.heap.size, 0, none⟩ t (((w.alloc (.cells #[.pointer (some t)] 92)).alloc (.cells #[.pointer (some ⟨5, 92, none⟩), .pointer (some ⟨w.heap.size, 0, none⟩), .int .u64 150] 135)).alloc (.cells #[.pointer (some ⟨5, 92, none⟩), .pointer (some ⟨w.heap.size, 0, none⟩), .int .u64 150] 135)) (by rw [World.cell?_alloc_lt _ _ ⟨w.heap.size, 0, none⟩ (by simp; omega)]; simp)
 have st := rl_set25 t ⟨w.heap.size + 1 + 1 + 1, 0, none⟩ e old ((((w.alloc (.cells #[.pointer (some t)] 92)).alloc (.cells #[.pointer (some ⟨5, 92, none⟩), .pointer (some ⟨w.heap.size, 0, none⟩), .int .u64 150] 135)).alloc (.cells #[.pointer (some ⟨5, 92, none⟩), .pointer (some ⟨w.heap.size, 0, none⟩), .int .u64 150] 135)).alloc (.cells #[.pointer (some e)] 90))
  (by rw [World.cell?_alloc_at _ _ _ _ (by simp)]; rfl)
  (by rw [World.cell?_alloc_lt _ _ t (by simp; omega), World.cell?_alloc_lt _ _ t (by simp; omega), World.cell?_alloc_lt _ _ t (by simp; omega), World.cell?_alloc_lt _ _ t htl]; exact ht0)
  (by rw [World.frozen?_alloc_old _ _ t (by simp; omega), World.frozen?_alloc_old _ _ t (by simp; omega), World.frozen?_alloc_old _ _ t (by simp; omega), World.frozen?_alloc_old _ _ t (Nat.ne_of_lt htl)]; exact hf0)
 have tO9 := rl_typeOf91
 have a9 := rl_assignable91
 have ta1 := rl_ta1
 have ta2 := rl_ta2
 have mU := rl_mU
 have hu3 : (((w.alloc (.cells #[.pointer (some t)] 92)).alloc (.cells #[.pointer (some ⟨5, 92, none⟩), .pointer (some ⟨w.heap.size, 0, none⟩), .int .u64 150] 135)).alloc (.cells #[.pointer (some ⟨5, 92, none⟩), .pointer (some ⟨w.heap.size, 0, none⟩), .int .u64 150] 135)).cell? ⟨b1, 1, none⟩ = some (.iface 90 (.pointer (some e))) := by
  rw [World.cell?_alloc_lt _ _ ⟨b1, 1, none⟩ (by simp; omega), World.cell?_alloc_lt _ _ ⟨b1, 1, none⟩ (by simp; omega), World.cell?_alloc_lt _ _ ⟨b1, 1, none⟩ hb1]; exact hu
 go_enter Tryz.func40, Tryz.ntmps40
 go_wp2
 refine wp_loop_rounds 2 ?_
 rw [rounds_succ]
 go_wp2
 rw [rounds_succ]
 go_wp2
 go_ret
 exact ⟨rfl, _, ((((Ext.refl w).alloc _).alloc _).alloc _).alloc _, rfl⟩
def GlobE (w : World) : Prop := w.cell? ⟨0, 0, none⟩ = some (.iface 175 (.agg #[.pointer (some ⟨5, 39, none⟩)])) ∧ 0 < w.heap.size
theorem GlobE.ext {w w' : World} (h : GlobE w) (hB : Ext w w') : GlobE w' := ⟨hB.keep h.2 h.1, Nat.lt_of_lt_of_le h.2 hB.size⟩
def ErrV (w : World) (lo : Nat) (code at' : Int) (v : Value) : Prop := ∃ b1 b2, v = .iface 191 (.pointer (some ⟨b1, 0, none⟩)) ∧ b1 < w.heap.size ∧ b2 < w.heap.size ∧ w.cell? ⟨b1, 1, none⟩ = some (.iface 90 (.pointer (some ⟨b2, 0, none⟩))) ∧ w.cell? ⟨b2, 0, none⟩ = some (.int .i64 code) ∧ w.cell? ⟨b2, 1, none⟩ = some (.int .i64 at') ∧ lo ≤ b1 ∧ lo ≤ b2
theorem ErrV.ext {w w' : World} {lo : Nat} {code at' : Int} {v : Value} (h : ErrV w lo code at' v) (hB : Ext w w') : ErrV w' lo code at' v := by
 obtain ⟨b1, b2, h0, h1, h2, h3, h4, h5, h6⟩ := h
 exact ⟨b1, b2, h0, Nat.lt_of_lt_of_le h1 hB.size, Nat.lt_of_lt_of_le h2 hB.size, hB.keep h1 h3, hB.keep h2 h4, hB.keep h2 h5, h6⟩
theorem ErrV.exc {w w' : World} {g lo : Nat} {code at' : Int} {v : Value} (h : ErrV w lo code at' v) (hg : g < lo) (hB : Exc g w w') : ErrV w' lo code at' v := by
 obtain ⟨b1, b2, h0, h1, h2, h3, h4, h5, h6, h7⟩ := h
 have k1 := World.cell?_of_block (a := ⟨b1, 1, none⟩) (hB.2 b1 (by omega) h1)
 have k2 := World.cell?_of_block (a := ⟨b2, 0, none⟩) (hB.2 b2 (by omega) h2)
 have k3 := World.cell?_of_block (a := ⟨b2, 1, none⟩) (hB.2 b2 (by omega) h2)
 exact ⟨b1, b2, h0, Nat.lt_of_lt_of_le h1 hB.1, Nat.lt_of_lt_of_le h2 hB.1, k1.trans h3, k2.trans h4, k3.trans h5, h6, h7⟩
theorem new_any (code at' : Int) (hc : code ≠ 0) (w : World) : Calls Tryz.prog 89 #[.int .i64 code, .int .i64 at'] w fun e w' => e = .returned (.iface 90 (.pointer (some ⟨w.heap.size, 0, none⟩))) ∧ w' = w.alloc (.cells #[.int .i64 code, .int .i64 at'] 94) := by
 have q : (code == 0) = false := by rw [beq_eq_false_iff_ne]; exact hc
 clear hc
 go_enter Tryz.func89, Tryz.ntmps89
 go_wp2_with fail
 go_ret
 exact ⟨rfl, rfl⟩
theorem wrap_any (s : ByteArray) (v : Value) (w : World) : Calls Tryz.prog 88 #[.string s, .iface 90 v] w fun e w' => e = .returned (.iface 191 (.pointer (some ⟨w.heap.size, 0, none⟩))) ∧ w' = w.alloc (.cells #[.string s, .iface 90 v] 193) := by
 go_enter Tryz.func88, Tryz.ntmps88
 go_wp2_with fail
 go_ret
 exact ⟨rfl, rfl⟩
theorem pfail_any (code at' : Int) (hc : code ≠ 0) (w : World) : Calls Tryz.prog 56 #[.int .i64 code, .int .i64 at'] w fun e w' => (∃ v, e = .returned v ∧ ErrV w' w.heap.size code at' v) ∧ Ext w w' := by
 go_enter Tryz.func56, Tryz.ntmps56
 go_wp2_with fail
 refine (new_any code at' hc _).mono ?_
 rintro e w1 ⟨rfl, hw1⟩
 go_wp2_with fail
 refine (wrap_any _ _ _).mono ?_
 rintro e w2 ⟨rfl, hw2⟩
 go_wp2_with fail
 go_ret
 subst hw1
 subst hw2
 refine ⟨⟨_, rfl, _, w.heap.size, rfl, by simp, by simp <;> omega, by simp [go_sem], ?_, ?_, by simp, Nat.le_refl _⟩, ((Ext.refl w).alloc _).alloc _⟩
 ·
  exact ((Ext.refl _).alloc _).keep (by simp) (by simp [go_sem])
 ·
  exact ((Ext.refl _).alloc _).keep (by simp) (by simp [go_sem])
theorem code_nil (w : World) : Calls Tryz.prog 14 #[.nilIface] w fun e w' => e = .returned (.int .i64 0) ∧ Ext w w' := by
 go_enter Tryz.func14, Tryz.ntmps14
 go_wp2_with fail
 go_ret
 exact ⟨rfl, (Ext.refl w).alloc _⟩
theorem code_any (code at' : Int) (lo : Nat) (v : Value) (w : World) (hg : GlobE w) (h : ErrV w lo code at' v) : Calls Tryz.prog 14 #[v] w fun e w' => e = .returned (.int .i64 code) ∧ Ext w w' := by
 obtain ⟨b1, b2, rfl, l1, l2, h3, h4, h5, _⟩ := h
 obtain ⟨w1, hw1⟩ : ∃ w1, w.alloc (.cells #[.pointer none] 90) = w1 := ⟨_, rfl⟩
 have hE1 : Ext w w1 := by rw [← hw1]; exact (Ext.refl w).alloc _
 have lt0 : w.heap.size < w1.heap.size := by rw [← hw1]; simp
 have t0 : w1.cell? ⟨w.heap.size, 0, none⟩ = some (.pointer none) := by rw [← hw1]; simp [go_sem]
 have f0 : w1.frozen? ⟨w.heap.size, 0, none⟩ = false := by rw [← hw1]; simp [go_sem]
 have HC := Lh (as_wrapped b1 b2 ⟨w.heap.size, 0, none⟩ _ w1 (hg.ext hE1).1 t0 f0 (Nat.lt_of_lt_of_le l1 hE1.size) (hE1.keep l1 h3))
 have HW := Lh hw1
 clear hw1
 go_enter Tryz.func14, Tryz.ntmps14
 go_wp2_with fail
 rw [HW.out]
 refine HC.out.mono ?_
 rintro e w2 ⟨rfl, W, hEW, hw2⟩
 have hX := hE1.trans hEW
 have ct : w2.cell? ⟨w.heap.size, 0, none⟩ = some (.pointer (some ⟨b2, 0, none⟩)) := by
  have := hEW.keep lt0 t0
  rw [hw2]; simp [go_sem, this]
 have c0 : w2.cell? ⟨b2, 0, none⟩ = some (.int .i64 code) := by
  rw [hw2, World.cell?_setCell_far _ _ _ _ (by simp only; omega)]
  exact hX.keep l2 h4
 have hE2 : Ext w w2 := by rw [hw2]; exact hX.set (Nat.le_refl _) _
 clear hw2 HC
 go_wp2_with fail
 go_ret
 exact ⟨rfl, hE2⟩
theorem at_any (code at' : Int) (lo : Nat) (v : Value) (w : World) (hg : GlobE w) (h : ErrV w lo code at' v) : Calls Tryz.prog 15 #[v] w fun e w' => e = .returned (.int .i64 at') ∧ Ext w w' := by
 obtain ⟨b1, b2, rfl, l1, l2, h3, h4, h5, _⟩ := h
 obtain ⟨w1, hw1⟩ : ∃ w1, w.alloc (.cells #[.pointer none] 90) = w1 := ⟨_, rfl⟩
 have hE1 : Ext w w1 := by rw [← hw1]; exact (Ext.refl w).alloc _
 have lt0 : w.heap.size < w1.heap.size := by rw [← hw1]; simp
 have t0 : w1.cell? ⟨w.heap.size, 0, none⟩ = some (.pointer none) := by rw [← hw1]; simp [go_sem]
 have f0 : w1.frozen? ⟨w.heap.size, 0, none⟩ = false := by rw [← hw1]; simp [go_sem]
 have HC := Lh (as_wrapped b1 b2 ⟨w.heap.size, 0, none⟩ _ w1 (hg.ext hE1).1 t0 f0 (Nat.lt_of_lt_of_le l1 hE1.size) (hE1.keep l1 h3))
 have HW := Lh hw1
 clear hw1
 go_enter Tryz.func15, Tryz.ntmps15
 go_wp2_with fail
 rw [HW.out]
 refine HC.out.mono ?_
 rintro e w2 ⟨rfl, W, hEW, hw2⟩
 have hX := hE1.trans hEW
 have ct : w2.cell? ⟨w.heap.size, 0, none⟩ = some (.pointer (some ⟨b2, 0, none⟩)) := by
  have := hEW.keep lt0 t0
  rw [hw2]; simp [go_sem, this]
 have c0 : w2.cell? ⟨b2, 1, none⟩ = some (.int .i64 at') := by
  rw [hw2, World.cell?_setCell_far _ _ _ _ (by simp only; omega)]
  exact hX.keep l2 h5
 have hE2 : Ext w w2 := by rw [hw2]; exact hX.set (Nat.le_refl _) _
 clear hw2 HC
 go_wp2_with fail
 go_ret
 exact ⟨rfl, hE2⟩
structure A5 (W : World) (b : Nat) (n : ANode) (xk xv xp xc : Value) : Prop where
  lt : b < W.heap.size
  c0 : W.cell? ⟨b, 0, none⟩ = some (.string (bs n.name))
  c1 : W.cell? ⟨b, 1, none⟩ = some xk
  c2 : W.cell? ⟨b, 2, none⟩ = some xv
  c3 : W.cell? ⟨b, 3, none⟩ = some xp
  c4 : W.cell? ⟨b, 4, none⟩ = some xc
  f0 : W.frozen? ⟨b, 0, none⟩ = false
  f1 : W.frozen? ⟨b, 1, none⟩ = false
  f2 : W.frozen? ⟨b, 2, none⟩ = false
  f3 : W.frozen? ⟨b, 3, none⟩ = false
  f4 : W.frozen? ⟨b, 4, none⟩ = false
theorem A5.ext {W W' : World} {b : Nat} {n : ANode} {xk xv xp xc : Value} (h : A5 W b n xk xv xp xc) (hB : Ext W W') : A5 W' b n xk xv xp xc :=
  ⟨Nat.lt_of_lt_of_le h.lt hB.size, hB.keep h.lt h.c0, hB.keep h.lt h.c1, hB.keep h.lt h.c2, hB.keep h.lt h.c3, hB.keep h.lt h.c4, hB.free h.lt h.f0, hB.free h.lt h.f1, hB.free h.lt h.f2, hB.free h.lt h.f3, hB.free h.lt h.f4⟩
theorem A5.block {W W' : World} {b : Nat} {n : ANode} {xk xv xp xc : Value} (h : A5 W b n xk xv xp xc) (hl : W.heap.size ≤ W'.heap.size) (hb : W'.heap[b]? = W.heap[b]?) : A5 W' b n xk xv xp xc :=
  ⟨Nat.lt_of_lt_of_le h.lt hl, (World.cell?_of_block hb).trans h.c0, (World.cell?_of_block hb).trans h.c1, (World.cell?_of_block hb).trans h.c2, (World.cell?_of_block hb).trans h.c3, (World.cell?_of_block hb).trans h.c4,
   (World.frozen?_of_block hb).trans h.f0, (World.frozen?_of_block hb).trans h.f1, (World.frozen?_of_block hb).trans h.f2, (World.frozen?_of_block hb).trans h.f3, (World.frozen?_of_block hb).trans h.f4⟩
def sa5 (W : World) (b : Nat) (n : ANode) (xk xv xp xc : Value) : World := (((((W.setCell ⟨b, 0, none⟩ (.string (bs n.name))).setCell ⟨b, 1, none⟩ xk).setCell ⟨b, 2, none⟩ xv).setCell ⟨b, 3, none⟩ xp).setCell ⟨b, 4, none⟩ xc)
theorem sa5_size (W : World) (b : Nat) (n : ANode) (xk xv xp xc : Value) : (sa5 W b n xk xv xp xc).heap.size = W.heap.size := by unfold sa5; simp
theorem sa5_block (W : World) (b : Nat) (n : ANode) (xk xv xp xc : Value) {k : Nat} (h : k ≠ b) : (sa5 W b n xk xv xp xc).heap[k]? = W.heap[k]? := by
  unfold sa5
  rw [Below.heap_setCell _ _ _ _ (by simpa using h), Below.heap_setCell _ _ _ _ (by simpa using h), Below.heap_setCell _ _ _ _ (by simpa using h), Below.heap_setCell _ _ _ _ (by simpa using h), Below.heap_setCell _ _ _ _ (by simpa using h)]
theorem A5.put {W : World} {b : Nat} {m n : ANode} {yk yv yp yc xk xv xp xc : Value} (h : A5 W b m yk yv yp yc) : A5 (sa5 W b n xk xv xp xc) b n xk xv xp xc := by
  have hlt := h.lt
  have c0 := h.c0; have c1 := h.c1; have c2 := h.c2; have c3 := h.c3; have c4 := h.c4
  have f0 := h.f0; have f1 := h.f1; have f2 := h.f2; have f3 := h.f3; have f4 := h.f4
  unfold sa5
  exact ⟨by simpa using hlt, by simp [go_sem, *], by simp [go_sem, *], by simp [go_sem, *], by simp [go_sem, *], by simp [go_sem, *], by simp [go_sem, *], by simp [go_sem, *], by simp [go_sem, *], by simp [go_sem, *], by simp [go_sem, *]⟩
theorem Ext.sa5 {a w : World} (h : Ext a w) {b : Nat} (hb : a.heap.size ≤ b) (n : ANode) (xk xv xp xc : Value) : Ext a (sa5 w b n xk xv xp xc) :=
  ((((h.set (p := ⟨b, 0, none⟩) hb _).set (p := ⟨b, 1, none⟩) hb _).set (p := ⟨b, 2, none⟩) hb _).set (p := ⟨b, 3, none⟩) hb _).set (p := ⟨b, 4, none⟩) hb _
theorem Exc.sa5 {a w : World} {b : Nat} (h : Exc b a w) (n : ANode) (xk xv xp xc : Value) : Exc b a (sa5 w b n xk xv xp xc) := ((((h.set (p := ⟨b, 0, none⟩) rfl _).set (p := ⟨b, 1, none⟩) rfl _).set (p := ⟨b, 2, none⟩) rfl _).set (p := ⟨b, 3, none⟩) rfl _).set (p := ⟨b, 4, none⟩) rfl _
theorem load_anode {W : World} {b : Nat} {n : ANode} {xk xv xp xc : Value} (h : A5 W b n xk xv xp xc) : (loadVar 34 ⟨b, 0, none⟩).run Tryz.prog W = .ok (.agg #[.string (bs n.name), xk, xv, xp, xc]) W := by
  have c0 := h.c0; have c1 := h.c1; have c2 := h.c2; have c3 := h.c3; have c4 := h.c4
  go_simp
theorem store_anodeS {W : World} {b : Nat} {n m : ANode} {yk yv yp yc : Value} (h : A5 W b n yk yv yp yc) (k v p c : Option Addr) (kl kc vl vc pl pc cl cc : Nat) :
    (Instr.storeAt 34 (.pointer (some ⟨b, 0, none⟩)) (.agg #[.string (bs m.name), .slice k kl kc, .slice v vl vc, .slice p pl pc, .slice c cl cc])).run Tryz.prog W = .ok () (sa5 W b m (.slice k kl kc) (.slice v vl vc) (.slice p pl pc) (.slice c cl cc)) := by
  have c0 := h.c0; have c1 := h.c1; have c2 := h.c2; have c3 := h.c3; have c4 := h.c4
  have f0 := h.f0; have f1 := h.f1; have f2 := h.f2; have f3 := h.f3; have f4 := h.f4
  unfold sa5
  go_simp
def zeroA : ANode := .mk [] [] [] [] []
def walkA : ANode → List Span → List Step → Nat → Option (ANode × List Span) × Nat
  | n, vs, [], i => (some (n, vs), i)
  | n, vs, s :: r, i => if idxA s n.kids 0 < 0 then (none, i) else walkA (n.kids.getD (idxA s n.kids 0).toNat zeroA) (eitherS (n.kids.getD (idxA s n.kids 0).toNat zeroA).vers vs) r (i + 1)
def findA (last : Int) (root : ANode) : List Step → Option (ANode × List Span) × Nat
  | [] => (none, 0)
  | s :: r => if last < 1 ∨ isB root s = false then (none, 0) else walkA root (eitherS root.vers []) r 1
end Go.Proofs.YtkelpbbekeelcaaGreatDoor
