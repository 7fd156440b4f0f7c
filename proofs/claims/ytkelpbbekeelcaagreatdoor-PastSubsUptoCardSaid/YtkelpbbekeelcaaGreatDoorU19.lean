/-
 arch.at. Helper lemmas; no statement of the seat is proved here.
-/
import Derived.Test.YtkelpbbekeelcaaGreatDoorU18
import Derived.Test.YtkelpbbekeelcaaGreatDoorU10
import Derived.Test.YtkelpbbekeelcaaGreatDoorU13
namespace Go.Proofs.YtkelpbbekeelcaaGreatDoor
open Go.RowKit
set_option maxHeartbeats 32000000
set_option maxRecDepth 100000
set_option linter.unusedVariables false
set_option linter.unusedSimpArgs false
def outN1 (nm : Bytes) : Node := .mk 1 nm [] [] []
structure AtSt (w wd W : World) (gO : Nat) (nm : Bytes) (xa dv : Value) (A : List Attr) (K : List Node) : Prop where
 e : Ext w W
 x : Exc gO wd W
 b : B5 W gO (outN1 nm) xa dv
 own : Own W (fun b => wd.heap.size ≤ b) wd.heap.size 60 5 dv K.length (K.flatMap nodeC)
 a : Rep W (fun b => wd.heap.size ≤ b ∧ some b ≠ dv.ownBlock ∧ b < W.heap.size) xa (attrsD A)
theorem AtSt.ext {w wd W W' : World} {gO : Nat} {nm : Bytes} {xa dv : Value} {A : List Attr} {K : List Node} (h : AtSt w wd W gO nm xa dv A K) (hE : Ext W W') : AtSt w wd W' gO nm xa dv A K :=
 ⟨h.e.trans hE, h.x.ext hE, h.b.ext hE, h.own.ext hE, (h.a.ext hE).ok fun b hb => ⟨hb.1, hb.2.1, Nat.lt_of_lt_of_le hb.2.2 hE.size⟩⟩
theorem heap_set5 {w : World} {b g : Nat} (h : b ≠ g) (u0 u1 u2 u3 u4 : Value) : (((((w.setCell ⟨g, 0, none⟩ u0).setCell ⟨g, 1, none⟩ u1).setCell ⟨g, 2, none⟩ u2).setCell ⟨g, 3, none⟩ u3).setCell ⟨g, 4, none⟩ u4).heap[b]? = w.heap[b]? := by
 rw [Below.heap_setCell _ _ _ _ (by simpa using h), Below.heap_setCell _ _ _ _ (by simpa using h), Below.heap_setCell _ _ _ _ (by simpa using h), Below.heap_setCell _ _ _ _ (by simpa using h), Below.heap_setCell _ _ _ _ (by simpa using h)]
theorem res_cell {fn : Func} {t : Tmp} {T : TypeId} (h : fn.results = #[.cell t T]) (tmps : Array Value) (P : Program) (w : World) (ad : Addr) {v : Value} (ha : tmps.getD t undef = .pointer (some ad)) (hl : (loadVar T ad).run P w = .ok v w) :
  (results fn tmps).run P w = .ok v w := by
 have ha' : tmps[t]?.getD undef = .pointer (some ad) := by simpa using ha
 simp [results, h, ha', asAddr, hl]
mutual
def tsz : ANode → Nat
 | .mk _ _ _ _ ks => 1 + tszL ks
def tszL : List ANode → Nat
 | [] => 0
 | n :: r => tsz n + tszL r
end
theorem tsz_kid (n : ANode) (i : Nat) (h : i < n.kids.length) : tsz n.kids[i] < tsz n := by
 have hL : ∀ (K : List ANode) (i : Nat) (h : i < K.length), tsz K[i] ≤ tszL K := by
  intro K
  induction K with
  | nil => intro i h; exact absurd h (Nat.not_lt_zero _)
  | cons a K ih =>
   intro i h
   rw [tszL]
   cases i with
   | zero => simp
   | succ i => have := ih i (by simpa using h); rw [List.getElem_cons_succ]; omega
 cases n with
 | mk nm key v pa ks => have := hL ks i h; show tsz ks[i] < _; rw [tsz]; omega
theorem kname_len {w : World} {p : Nat → Prop} {v : Value} {l : List ANode} (h : Rep w p v (anodesD l)) (i : Nat) (hi : i < l.length) : l[i].name.length ≤ 9223372036854775807 := by
 obtain ⟨a, c, rfl, _, _⟩ := h.count z_anode (by omega)
 obtain ⟨b, off, ha, hb, hp, hc⟩ := elem_at z_anode h (by omega) i hi
 rw [anodeC_eq] at hc
 obtain ⟨u, hu, hr⟩ := hc 0 _ rfl
 exact hr.len
theorem aat_any : ∀ (N : Nat) (n : ANode) (v : Int) (p : Nat → Prop) (vk vv vp vc : Value) (w : World), tsz n ≤ N → aB n = true → n.name.length ≤ 9223372036854775807 → Rep w p vk (strsD n.key) → Rep w p vv (spansD n.vers) → Rep w p vp (partsD n.parts) → Rep w p vc (anodesD n.kids) →
  Calls Tryz.prog 92 #[.agg #[.string (bs n.name), vk, vv, vp, vc], .int .i64 v] w fun e w' => (∃ xa xk, e = .returned (.agg #[.int .i64 1, .string (bs n.name), .string ⟨#[]⟩, xa, xk]) ∧ Rep w' (fun b => w.heap.size ≤ b) xa (attrsD (atN v n).attrs) ∧ Rep w' (fun b => w.heap.size ≤ b) xk (nodesD (atN v n).kids)) ∧ Ext w w' := by
 intro N
 induction N with
 | zero => intro n v p vk vv vp vc w hN; cases n; rw [tsz] at hN; omega
 | succ N ih =>
  intro n v p vk vv vp vc w hN hB hnm hvk hvv hvp hvc
  obtain ⟨ka, kc, rfl, _, _⟩ := hvk.count z_str (by omega)
  obtain ⟨sa, sc, rfl, _, _⟩ := hvv.count z_span (by omega)
  obtain ⟨pa, pc, rfl, _, _⟩ := hvp.count z_part (by omega)
  obtain ⟨ca, cc, rfl, _, _⟩ := hvc.count z_anode (by omega)
  obtain ⟨i0, hi, hz0, hz1, hz2⟩ := info_parts infoNode
  obtain ⟨wa, hwa⟩ : ∃ W, w.alloc (.cells #[.string (bs n.name), .slice ka n.key.length kc, .slice sa n.vers.length sc, .slice pa n.parts.length pc, .slice ca n.kids.length cc] 34) = W := ⟨_, rfl⟩
  obtain ⟨wb, hwb⟩ : ∃ W, wa.alloc (.cells #[.int .i64 v] 3) = W := ⟨_, rfl⟩
  obtain ⟨wc, hwc⟩ : ∃ W, wb.alloc (.cells #[.int .i64 0, .string ⟨#[]⟩, .string ⟨#[]⟩, .slice none 0 0, .slice none 0 0] 60) = W := ⟨_, rfl⟩
  obtain ⟨wd, hwd⟩ : ∃ W, wc.alloc (.cells #[.int .i64 1, .string (bs n.name), .string ⟨#[]⟩, .slice none 0 0, .slice none 0 0] 60) = W := ⟨_, rfl⟩
  have hEa : Ext w wa := by rw [← hwa]; exact (Ext.refl w).alloc _
  have hEb : Ext wa wb := by rw [← hwb]; exact (Ext.refl wa).alloc _
  have hEc : Ext wb wc := by rw [← hwc]; exact (Ext.refl wb).alloc _
  have hEd : Ext wc wd := by rw [← hwd]; exact (Ext.refl wc).alloc _
  have hza : wa.heap.size = w.heap.size + 1 := by rw [← hwa]; simp
  have hzb : wb.heap.size = wa.heap.size + 1 := by rw [← hwb]; simp
  have hzc : wc.heap.size = wb.heap.size + 1 := by rw [← hwc]; simp
  have hzd : wd.heap.size = wc.heap.size + 1 := by rw [← hwd]; simp
  have hba : wa.heap[w.heap.size]? = some (.cells [.string (bs n.name), .slice ka n.key.length kc, .slice sa n.vers.length sc, .slice pa n.parts.length pc, .slice ca n.kids.length cc].toArray 34 (0, 0)) := by rw [← hwa]; exact Array.getElem?_push_size
  have hbb : wb.heap[wa.heap.size]? = some (.cells [.int .i64 v].toArray 3 (0, 0)) := by rw [← hwb]; exact Array.getElem?_push_size
  have hbR : B5 wc wb.heap.size zeroN (.slice none 0 0) (.slice none 0 0) := by
   rw [← hwc]
   exact ⟨by simp, by simp [go_sem, zeroN, Node.kind], by simp [go_sem, zeroN, Node.name]; rfl, by simp [go_sem, zeroN, Node.text]; rfl, by simp [go_sem], by simp [go_sem], by simp [go_sem], by simp [go_sem], by simp [go_sem], by simp [go_sem], by simp [go_sem]⟩
  have hbO : B5 wd wc.heap.size (outN1 n.name) (.slice none 0 0) (.slice none 0 0) := by
   rw [← hwd]
   exact ⟨by simp, by simp [go_sem, outN1, Node.kind], by simp [go_sem, outN1, Node.name], by simp [go_sem, outN1, Node.text]; rfl, by simp [go_sem], by simp [go_sem], by simp [go_sem], by simp [go_sem], by simp [go_sem], by simp [go_sem], by simp [go_sem]⟩
  have hEbd := hEb.trans (hEc.trans hEd)
  have hEd0 := hEa.trans hEbd
  have a0 := (hEb.trans hEc).keep (blk_lt hba) (blk_cells hba 0 rfl)
  have a3 := hEbd.keep (blk_lt hba) (blk_cells hba 3 rfl)
  have a4 := hEbd.keep (blk_lt hba) (blk_cells hba 4 rfl)
  have v0 := (hEc.trans hEd).keep (blk_lt hbb) (blk_cells hbb 0 rfl)
  have lA : w.heap.size < wd.heap.size := by omega
  have lV : wa.heap.size < wd.heap.size := by omega
  have HI := Lh fun W (hE : Ext wd W) => indexpt_any p n.parts v (.slice pa n.parts.length pc) wa.heap.size W ((hvp.ext hEd0).ext hE) (Nat.lt_of_lt_of_le lV hE.size) (hE.keep lV v0)
  have HSZ := Lh (And.intro hza (And.intro hzb (And.intro hzc (And.intro hzd hEd0))))
  have HBB := Lh (And.intro (hbR.ext hEd) hbO)
  have HIH := Lh ih
  have HREP := Lh (And.intro hvp hvc)
  have HBD := Lh (And.intro hN hB)
  have HWD := Lh hwd
  rw [← hwd] at a3
  clear hwd hza hzb hzc hzd hba hbb hbR hbO hEa hEb hEc hEd hEbd hvk hvv hvp hvc ih hN hB
  go_enter Tryz.func92, Tryz.ntmps92
  go_wp2_with fail
  rw [HWD.out] at a3 ⊢
  obtain ⟨gA, hgA⟩ : ∃ g, w.heap.size = g := ⟨_, rfl⟩
  obtain ⟨gV, hgV⟩ : ∃ g, wa.heap.size = g := ⟨_, rfl⟩
  obtain ⟨gR, hgR⟩ : ∃ g, wb.heap.size = g := ⟨_, rfl⟩
  obtain ⟨gO, hgO⟩ : ∃ g, wc.heap.size = g := ⟨_, rfl⟩
  have HG := Lh (And.intro hgA (And.intro hgV (And.intro hgR hgO)))
  have HB2 : Hid (B5 wd gR zeroN (.slice none 0 0) (.slice none 0 0) ∧ B5 wd gO (outN1 n.name) (.slice none 0 0) (.slice none 0 0)) := Lh (by rw [← hgR, ← hgO]; exact HBB.out)
  rw [hgV] at HI v0 lV
  rw [hgA] at a0 a3 a4 lA
  rw [hgA, hgV, hgR, hgO]
  clear hgA hgV hgR hgO HBB hwa hwb hwc HWD a0
  refine (HI.out _ (Ext.refl _)).mono ?_
  rintro e wq ⟨rfl, hBq⟩
  clear HI
  have hbq := HB2.out.2.ext hBq
  rcases idxF_find (atP v) n.parts 0 with ⟨hR, hF⟩ | ⟨i, hip, hR, hF⟩
  ·
   rw [hR]
   have HK : Hid (partA v n.parts = [] ∧ partK v n.parts = []) := Lh (by unfold partA partK; rw [hF]; exact ⟨rfl, rfl⟩)
   have HS : Hid (AtSt w wd wq gO n.name (.slice none 0 0) (.slice none 0 0) [] []) := Lh ⟨HSZ.out.2.2.2.2.trans hBq, (Exc.refl _ _).ext hBq, hbq, Own.nil _ _ _ _ _, .nil 2⟩
   obtain ⟨A, hA⟩ : ∃ A, A = ([] : List Attr) := ⟨_, rfl⟩
   obtain ⟨K, hKe⟩ : ∃ K, K = ([] : List Node) := ⟨_, rfl⟩
   obtain ⟨xa, hxa⟩ : ∃ x, x = Value.slice none 0 0 := ⟨_, rfl⟩
   rw [← hxa, ← hA, ← hKe] at HS
   have HKK : Hid (K.length ≤ 1048576) := Lh (by rw [hKe]; simp)
   rw [← hA, ← hKe] at HK
   clear hR hF hbq hBq hA hKe hxa
   have HSA := HS.out
   have hgOA : gA ≠ gO := by have := HG.out; have := HSZ.out; omega
   have hgOV : gV ≠ gO := by have := HG.out; have := HSZ.out; omega
   have hgOR : gR ≠ gO := by have := HG.out; have := HSZ.out; omega
   have hgOl : gO < wd.heap.size := HB2.out.2.lt
   have a4S := (World.cell?_of_block (HSA.x.2 gA hgOA lA)).trans a4
   have HKL : Hid (∀ i, (K ++ atL v (n.kids.take i)).length ≤ 33554432) := Lh fun i => by
    have h1 := atL_len v (n.kids.take i)
    have h2 := (aB_own n HBD.out.2).1
    have h3 := HKK.out
    have h4 : (n.kids.take i).length ≤ n.kids.length := by rw [List.length_take]; omega
    rw [List.length_append]; omega
   have HS0 : Hid (AtSt w wd wq gO n.name xa xa A (K ++ atL v (n.kids.take 0))) := Lh (by rw [List.take_zero, atL, List.append_nil]; exact HSA)
   have HLT := Lh (And.intro lA (And.intro lV hgOl))
   clear HSA HS lA lV hgOl
   go_wp2_with fail
   clear a4S
   go_loopw [8, 37] (fun _ t wr => ∃ (i : Nat) (dv : Value), t = .int .i64 i ∧ i ≤ n.kids.length ∧ Hid (AtSt w wd wr gO n.name xa dv A (K ++ atL v (n.kids.take i)))) (fun _ t _ => downV n.kids.length t)
   case atStart => exact ⟨0, xa, rfl, Nat.zero_le _, HS0⟩
   case round =>
    clear HS0
    obtain ⟨i, dv, rfl, hi9, HI⟩ := hrel
    have hi0 : (0 : Int) ≤ (i : Int) := by omega
    by_cases hlt : i < n.kids.length
    ·
     have hlI : (i : Int) < (n.kids.length : Int) := by omega
     have hcr := HREP.out.2.ext HI.out.e
     obtain ⟨gk, ok, xk, xv, xp, xc2, rfl, lgk, _, k0, k1, k2, k3, k4, rk, rv, rp, rc⟩ := anode_at hcr i hlt
     have hkn := kname_len hcr i hlt
     have hak := tsz_kid n i hlt
     have hkB := (aB_own n HBD.out.2).2.2 _ (List.getElem_mem hlt)
     have htk := atL_take v n.kids i hlt
     have hN := HBD.out.1
     obtain ⟨q, hq⟩ : ∃ q, n.kids[i] = q := ⟨_, rfl⟩
     rw [hq] at k0 rk rv rp rc hkn hak hkB htk
     obtain ⟨ka2, kc2, rfl, _, _⟩ := rk.count z_str (by omega)
     obtain ⟨va2, vc2, rfl, _, _⟩ := rv.count z_span (by omega)
     obtain ⟨pa2, pc2, rfl, _, _⟩ := rp.count z_part (by omega)
     obtain ⟨ca2, cc2, rfl, _, _⟩ := rc.count z_anode (by omega)
     obtain ⟨wo, hwo⟩ : ∃ wo, wo = wr := ⟨_, rfl⟩
     subst hwo
     obtain ⟨w2, hw2⟩ : ∃ W, wo.alloc (.cells #[.string (bs q.name), .slice ka2 q.key.length kc2, .slice va2 q.vers.length vc2, .slice pa2 q.parts.length pc2, .slice ca2 q.kids.length cc2] 34) = W := ⟨_, rfl⟩
     have hE2 : Ext wo w2 := by rw [← hw2]; exact (Ext.refl wo).alloc _
     have hblk : w2.heap[wo.heap.size]? = some (.cells [.string (bs q.name), .slice ka2 q.key.length kc2, .slice va2 q.vers.length vc2, .slice pa2 q.parts.length pc2, .slice ca2 q.kids.length cc2].toArray 34 (0, 0)) := by rw [← hw2]; exact Array.getElem?_push_size
     have HC := Lh (ahas_any q.vers v _ (.slice va2 q.vers.length vc2) w2 (rv.ext hE2))
     have HST := Lh (HI.out.ext hE2)
     have HDV : Hid (∀ {g : Nat}, wo.heap.size = g → ∀ b, some b = dv.ownBlock → wd.heap.size ≤ b ∧ b < g) := Lh fun hg b e => by
      obtain ⟨us, hr, _⟩ := HI.out.own.rows
      rw [← hg]; exact own_lt hr e
     have HC9 : Hid (∀ W, Ext w2 W → Calls Tryz.prog 92 #[.agg #[.string (bs q.name), .slice ka2 q.key.length kc2, .slice va2 q.vers.length vc2, .slice pa2 q.parts.length pc2, .slice ca2 q.kids.length cc2], .int .i64 v] W fun e w' => (∃ xa xk, e = .returned (.agg #[.int .i64 1, .string (bs q.name), .string ⟨#[]⟩, xa, xk]) ∧ Rep w' (fun b => W.heap.size ≤ b) xa (attrsD (atN v q).attrs) ∧ Rep w' (fun b => W.heap.size ≤ b) xk (nodesD (atN v q).kids)) ∧ Ext W w') := Lh fun W hE => HIH.out q v _ _ _ _ _ W (by omega) hkB hkn ((rk.ext hE2).ext hE) ((rv.ext hE2).ext hE) ((rp.ext hE2).ext hE) ((rc.ext hE2).ext hE)
     have v0w : w2.cell? ⟨gV, 0, none⟩ = some (.int .i64 v) := (World.cell?_of_block (HST.out.x.2 gV hgOV HLT.out.2.1)).trans v0
     have b2 := blk_cells hblk 2 rfl
     have HTK := Lh htk
     obtain ⟨B, hB⟩ : ∃ B, ahas q.vers v = B := ⟨_, rfl⟩
     rw [hB] at HC htk
     have HTK := Lh htk
     have HBLK := Lh (And.intro hblk hkn)
     clear hq hB htk hkn hak hkB rk rv rp rc hcr hN hblk HI
     go_wp2_with fail
     refine HC.out.mono ?_
     rintro e w3 ⟨rfl, hB3⟩
     have HS3 := Lh (HST.out.ext hB3)
     clear HC HST k0 k1 k2 k3 k4 b2 v0w
     cases B with
     | true =>
      have hsz2 := hE2.size
      have hHS := HS3.out
      obtain ⟨us, hrow, hreps⟩ := hHS.own.rows
      obtain ⟨g8, hg8⟩ : ∃ g, wo.heap.size = g := ⟨_, rfl⟩
      have hblk := HBLK.out.1
      have l8w := blk_lt hblk
      rw [hg8] at hblk l8w ⊢
      have hdv : ∀ b, some b = dv.ownBlock → wd.heap.size ≤ b ∧ b < g8 := HDV.out hg8
      have l8 : g8 < w3.heap.size ∧ some g8 ≠ dv.ownBlock := ⟨Nat.lt_of_lt_of_le l8w hB3.size, fun e => by have := (hdv _ e).2; omega⟩
      have lO : gO < w3.heap.size ∧ some gO ≠ dv.ownBlock := ⟨Nat.lt_of_lt_of_le HLT.out.2.2 hHS.x.1, fun e => by have := (hdv _ e).1; have := HLT.out.2.2; omega⟩
      have lV3 : gV < w3.heap.size ∧ some gV ≠ dv.ownBlock := ⟨Nat.lt_of_lt_of_le HLT.out.2.1 hHS.x.1, fun e => by have := (hdv _ e).1; have := HLT.out.2.1; omega⟩
      have k0 := hB3.keep l8w (blk_cells hblk 0 rfl); have k1 := hB3.keep l8w (blk_cells hblk 1 rfl); have k2 := hB3.keep l8w (blk_cells hblk 2 rfl); have k3 := hB3.keep l8w (blk_cells hblk 3 rfl); have k4 := hB3.keep l8w (blk_cells hblk 4 rfl)
      have v3 : w3.cell? ⟨gV, 0, none⟩ = some (.int .i64 v) := (World.cell?_of_block (hHS.x.2 gV hgOV HLT.out.2.1)).trans v0
      have o4 := hHS.b.c4
      have fo4 := hHS.b.f4
      have hwd3 : wd.heap.size ≤ w3.heap.size := hHS.x.1
      obtain ⟨qa, hqa⟩ : ∃ x, (atN v q).attrs = x := ⟨_, rfl⟩
      obtain ⟨qk, hqk⟩ : ∃ x, (atN v q).kids = x := ⟨_, rfl⟩
      have HQ := Lh (And.intro hqa hqk)
      rw [hqa, hqk] at HC9
      have HC8 : Hid (∀ W, Ext w3 W → Calls Tryz.prog 92 #[.agg #[.string (bs q.name), .slice ka2 q.key.length kc2, .slice va2 q.vers.length vc2, .slice pa2 q.parts.length pc2, .slice ca2 q.kids.length cc2], .int .i64 v] W fun e w' => ∃ (ua : Option Addr) (uc : Nat) (ub : Option Addr) (ud : Nat), e = .returned (.agg #[.int .i64 1, .string (bs q.name), .string ⟨#[]⟩, .slice ua qa.length uc, .slice ub qk.length ud]) ∧ Rep w' (fun b => w3.heap.size ≤ b) (.slice ua qa.length uc) (attrsD qa) ∧ Rep w' (fun b => w3.heap.size ≤ b) (.slice ub qk.length ud) (nodesD qk) ∧ Ext W w') := Lh fun W hE => (HC9.out W (hB3.trans hE)).mono fun e w' ⟨⟨xa, xk, he, h1, h2⟩, h3⟩ => by
       obtain ⟨ua, uc, rfl, _, _⟩ := h1.count z_attr (by omega)
       obtain ⟨ub, ud, rfl, _, _⟩ := h2.count z_node (by omega)
       exact ⟨ua, uc, ub, ud, he, h1.ok fun b hb => Nat.le_trans hE.size hb, h2.ok fun b hb => Nat.le_trans hE.size hb, h3⟩
      obtain ⟨KS, hKS⟩ : ∃ x, K ++ atL v (n.kids.take i) = x := ⟨_, rfl⟩
      rw [hKS] at hrow hreps
      have HKS := Lh hKS
      have hKl : KS.length ≤ 33554432 := by rw [← hKS]; exact HKL.out i
      have HRP := Lh hreps
      clear hHS hblk hqa hqk hKS hreps hdv HC9
      go_wp2_with fail
      refine rg_cut (S := Sr dv w3) 8 (by kernel_rfl) (by kernel_rfl) (by kernel_rfl) (by kernel_rfl) (Sr.begin _ _) ?_
      have hSr : Sr dv w3 (World.drew w3) := (Sr.begin _ _)
      refine rg_t 0 (some 45) (.pointer (some ⟨gO, 4, none⟩)) rfl hSr (fun w' hs => by first | rfl | go_simp) ?_
      simp only [Act.put, sA, sZ, sS]
      refine rg_t 1 (some 46) (dv) rfl hSr (fun w' hs => by (have h0 := hs.cell lO o4; go_simp)) ?_
      simp only [Act.put, sA, sZ, sS]
      refine rg_t 2 (some 47) (.agg #[.string (bs q.name), .slice ka2 q.key.length kc2, .slice va2 q.vers.length vc2, .slice pa2 q.parts.length pc2, .slice ca2 q.kids.length cc2]) rfl hSr (fun w' hs => by (have h0 := hs.cell l8 k0; have h1 := hs.cell l8 k1; have h2 := hs.cell l8 k2; have h3 := hs.cell l8 k3; have h4 := hs.cell l8 k4; go_simp)) ?_
      simp only [Act.put, sA, sZ, sS]
      refine rg_t 3 (some 48) (.int .i64 v) rfl hSr (fun w' hs => by (have h0 := hs.cell lV3 v3; go_simp)) ?_
      simp only [Act.put, sA, sZ, sS]
      refine rg_one 4 (by kernel_rfl) ?_
      refine tk_call 4 (some 49) 92 #[.agg #[.string (bs q.name), .slice ka2 q.key.length kc2, .slice va2 q.vers.length vc2, .slice pa2 q.parts.length pc2, .slice ca2 q.kids.length cc2], .int .i64 v] rfl rfl (by rfl) (fun w' => by first | rfl | go_simp) (R := fun v' w' => ∃ (ua : Option Addr) (uc : Nat) (ub : Option Addr) (ud : Nat), v' = .agg #[.int .i64 1, .string (bs q.name), .string ⟨#[]⟩, .slice ua qa.length uc, .slice ub qk.length ud] ∧ Rep w' (fun b => w3.heap.size ≤ b) (.slice ua qa.length uc) (attrsD qa) ∧ Rep w' (fun b => w3.heap.size ≤ b) (.slice ub qk.length ud) (nodesD qk) ∧ Ext w3 w') ?_ ?_
      ·
       refine (HC8.out (World.drew w3) ((Ext.refl w3).drew)).mono ?_
       rintro e w' ⟨ua, uc, ub, ud, rfl, h1, h2, h3⟩
       exact ⟨_, rfl, ua, uc, ub, ud, rfl, h1, h2, ((Ext.refl w3).drew).trans h3⟩
      rintro _ wx ⟨ua, uc, ub, ud, rfl, hra, hrk, hBwx⟩
      have hSwx : Sr dv w3 wx := ⟨hBwx.size, fun b _ h2 => Below.block hBwx b h2⟩
      refine ⟨hSwx, ?_⟩
      simp only [Act.put, sA, sZ, sS]
      refine rg_one 5 (by kernel_rfl) ?_
      refine tk_new 5 (some 50) (.cells #[.int .i64 1, .string (bs q.name), .string ⟨#[]⟩, .slice ua qa.length uc, .slice ub qk.length ud] 60) (fun n => .slice (some ⟨n, 0, none⟩) 1 1) rfl rfl (by rfl) (by first | rfl | go_simp) ?_
      intro gb wy egb hBwy _ hgb
      have hSwy := hSwx.ext hBwy
      refine ⟨hSwy, ?_⟩
      simp only [Act.put, sA, sZ, sS]
      have hEy := hBwx.trans hBwy
      have hrowy := rows_ext hrow hEy
      refine rg_one 6 (by kernel_rfl) ?_
      refine tk_src 6 (some 51) rfl rfl (by rfl) (.tmp 46) (.tmp 50) 23 rfl wd.heap.size 60 i0 (.agg #[.int .i64 0, .string ⟨#[]⟩, .string ⟨#[]⟩, .slice none 0 0, .slice none 0 0]) 5 88 Tryz.underlying23 hi hz0 hz1 hz2 rfl (by decide) dv KS.length us rfl hrowy (.slice (some ⟨gb, 0, none⟩) 1 1) 1 [.int .i64 1, .string (bs q.name), .string ⟨#[]⟩, .slice ua qa.length uc, .slice ub qk.length ud] rfl (Src.block hgb rfl) (by intro u hu; simp at hu; rcases hu with rfl | rfl | rfl | rfl | rfl <;> rfl) (by unfold maxLen; omega) (by omega) (Nat.le_trans hwd3 hEy.size) ?_
      intro v4 w4 hr4 hg4 ha4
      have hS4 := hSwy.grown hg4
      refine ⟨hS4, ?_⟩
      simp only [Act.put, sA, sZ, sS]
      refine rg_t 7 (some 52) (.pointer (some ⟨gO, 4, none⟩)) rfl hS4 (fun w' hs => by first | rfl | go_simp) ?_
      simp only [Act.put, sA, sZ, sS]
      obtain ⟨o6, o6c, hv4⟩ := own_form hr4
      have o4' := hS4.cell lO o4
      have fo4' := hS4.free lO fo4
      refine rg_done (by kernel_rfl) ?_
      refine rg_go 1 #[true, true, true, true, true, true, true, true, false] (by kernel_rfl) (by kernel_rfl) fun m => ?_
      subst hv4
      refine rg_write 8 none (w4.setCell ⟨gO, 4, none⟩ (.slice o6 (KS.length + 1) o6c)) rfl rfl (by kernel_rfl) (by rfl) (exec_store rfl (store_slice _ s1Node o4' fo4' _ _ _)) trivial ?_
      simp only [Act.put, sA, sZ, sS]
      refine rg_done (by kernel_rfl) ?_
      have hHS := HS3.out
      have HFIN : Hid (AtSt w wd (w4.setCell ⟨gO, 4, none⟩ (.slice o6 (KS.length + 1) o6c)) gO n.name xa (.slice o6 (KS.length + 1) o6c) A (K ++ atL v (n.kids.take (i + 1)))) := by
       have hlow : w.heap.size ≤ wd.heap.size := HSZ.out.2.2.2.2.size
       have hgo : w.heap.size ≤ gO := by have := HG.out; have := HSZ.out; omega
       have hob : ∀ b, some b = dv.ownBlock → wd.heap.size ≤ b ∧ b < w3.heap.size := fun b e => own_lt hrow e
       have hk4 : ∀ b, b < w3.heap.size → some b ≠ dv.ownBlock → w4.heap[b]? = w3.heap[b]? := fun b hb hn => (hg4.block b (Nat.lt_of_lt_of_le hb hEy.size) hn).trans (Below.block hEy b hb)
       have hs34 : w3.heap.size ≤ w4.heap.size := Nat.le_trans hEy.size hg4.size
       have h6 : ∀ b, b < w3.heap.size → some b ≠ dv.ownBlock → some b ≠ (Value.slice o6 (KS.length + 1) o6c).ownBlock := fun b hb hn => by
        rcases ha4 with e | e
        ·
         rw [e]; exact hn
        ·
         rw [e]; intro e2; have := Option.some.inj e2; have := hEy.size; omega
       have hO4 : Own w4 (fun b => wd.heap.size ≤ b) wd.heap.size 60 5 (.slice o6 (KS.length + 1) o6c) (KS.length + 1) (KS.flatMap nodeC ++ nodeC (atN v q)) := by
        have e5 : nodeC (atN v q) = [intD 1, strD q.name, strD [], attrsD qa, nodesD qk] := by rw [nodeC_eq, HQ.out.1, HQ.out.2, atN_eq]; rfl
        rw [e5]
        refine Own.push (w := wy) ((HRP.out.ext hEy).ok fun b hb => ⟨hb.1, hb.2.1, Nat.lt_of_lt_of_le hb.2.2 hEy.size⟩) (Reps.cons (Rep.int _ _ _ _) (Reps.cons (Rep.string _ _ _ (by rw [bs_size]; exact HBLK.out.2)) (Reps.cons (Rep.string _ _ ⟨#[]⟩ (by decide)) (Reps.cons ((hra.lt.ext hBwy).ok fun b hb => ?_) (Reps.cons ((hrk.lt.ext hBwy).ok fun b hb => ?_) (Reps.nil _ _)))))) hr4 hg4 ha4
        ·
         exact ⟨Nat.le_trans hwd3 hb.1, fun e => by have := (hob b e).2; have := hb.1; omega, Nat.lt_of_lt_of_le hb.2 hBwy.size⟩
        ·
         exact ⟨Nat.le_trans hwd3 hb.1, fun e => by have := (hob b e).2; have := hb.1; omega, Nat.lt_of_lt_of_le hb.2 hBwy.size⟩
       have hb4 : B5 w4 gO (outN1 n.name) xa dv := hHS.b.block hs34 (hk4 gO lO.1 lO.2)
       refine Lh ⟨?_, ?_, hb4.set4 _ rfl rfl rfl, ?_, ?_⟩
       ·
        exact Ext.set (show Ext w w4 from Below.grown (hHS.e.trans hEy) hg4 (hHS.e.trans hEy).size fun b e => Nat.le_trans hlow (hob b e.symm).1) hgo _
       ·
        refine Exc.set ⟨Nat.le_trans hHS.x.1 hs34, fun b h1 h2 => ?_⟩ rfl _
        exact (hk4 b (Nat.lt_of_lt_of_le h2 hHS.x.1) fun e => by have := (hob b e).1; omega).trans (hHS.x.2 b h1 h2)
       ·
        have hT := HTK.out
        rw [if_pos trivial] at hT
        rw [hT, ← List.append_assoc, HKS.out, List.length_append, List.flatMap_append, List.flatMap_singleton]
        obtain ⟨us4, hr5, hp5⟩ := hO4
        have hne : some gO ≠ (Value.slice o6 (KS.length + 1) o6c).ownBlock := h6 gO lO.1 lO.2
        exact ⟨us4, rows_set hr5 (p := ⟨gO, 4, none⟩) hne _, (hp5.kept fun b hb hlt => Below.heap_setCell _ _ _ _ (by have h1 : wd.heap.size ≤ b := hb.1; have := HLT.out.2.2; simp only; omega)).ok fun b hb => ⟨hb.1, hb.2.1, by simpa using hb.2.2⟩⟩
       ·
        have h1 : Rep w4 (fun b => wd.heap.size ≤ b ∧ some b ≠ (Value.slice o6 (KS.length + 1) o6c).ownBlock ∧ b < w4.heap.size) xa (attrsD A) := (hHS.a.kept fun b hb hlt => hk4 b hlt hb.2.1).ok fun b hb => ⟨hb.1, h6 b hb.2.2 hb.2.1, Nat.lt_of_lt_of_le hb.2.2 hs34⟩
        exact (h1.kept fun b hb hlt => Below.heap_setCell _ _ _ _ (by have := hb.1; have := HLT.out.2.2; simp only; omega)).ok fun b hb => ⟨hb.1, hb.2.1, by simpa using hb.2.2⟩
      clear hHS hr4 hg4 ha4 hrow hrowy hra hrk HC8 hgb k0 k1 k2 k3 k4 v3 o4 fo4 o4' fo4' hS4 hSwy hSwx HQ HRP HKS HS3 HTK HBLK
      try simp only [Exit.inBlock, Exit.then]
      go_wp2_with fail
      go_roundw
      case rel => exact ⟨i + 1, _, by go_num, by omega, HFIN⟩
      case measure => simp only [downV]; omega
     | false =>
      have HN : Hid (AtSt w wd w3 gO n.name xa dv A (K ++ atL v (n.kids.take (i + 1)))) := Lh (by have := HTK.out; rw [if_neg (by decide), List.append_nil] at this; rw [this]; exact HS3.out)
      clear HS3 HTK HC9 HBLK hE2
      go_wp2_with fail
      go_roundw
      case rel => exact ⟨i + 1, dv, by go_num, by omega, HN⟩
      case measure => simp only [downV]; omega
    ·
     have hlI : ¬ (i : Int) < (n.kids.length : Int) := by omega
     have hHI := HI.out
     rw [List.take_of_length_le (by omega)] at hHI
     obtain ⟨ya, yc, hya, _, _⟩ := hHI.a.count z_attr (by omega)
     obtain ⟨da, dc, hda, _, _⟩ := hHI.own.form
     subst hya; subst hda
     rw [List.length_append] at hHI
     have hRr := HB2.out.1.exc hgOR hHI.x
     have o0 : wr.cell? ⟨gO, 0, none⟩ = some (.int .i64 1) := hHI.b.c0
     have o1 : wr.cell? ⟨gO, 1, none⟩ = some (.string (bs n.name)) := hHI.b.c1
     have o2 : wr.cell? ⟨gO, 2, none⟩ = some (.string ⟨#[]⟩) := hHI.b.c2
     have o3 := hHI.b.c3; have o4 := hHI.b.c4
     have r0 := hRr.c0; have r1 := hRr.c1; have r2 := hRr.c2; have r3 := hRr.c3; have r4 := hRr.c4
     have rf0 := hRr.f0; have rf1 := hRr.f1; have rf2 := hRr.f2; have rf3 := hRr.f3; have rf4 := hRr.f4
     have HRR := Lh (And.intro hRr hHI)
     clear hRr hHI HI
     go_wp2_with fail
     have e5 : bs (outN1 n.name).text = ⟨#[]⟩ := rfl
     have hput := B5.put (n := outN1 n.name) (xa := .slice ya A.length yc) (xk := .slice da (K.length + (atL v n.kids).length) dc) HRR.out.1
     unfold st5 at hput
     rw [e5] at hput
     refine bodyPost_ret (res_cell rfl _ _ _ ⟨gR, 0, none⟩ ?_ (load_node hput)) rfl ?_
     ·
      rfl
     have hlR : gR < wd.heap.size := HB2.out.1.lt
     have hgr : w.heap.size ≤ gR := by have := HG.out; have := HSZ.out; omega
     have hlow : w.heap.size ≤ wd.heap.size := HSZ.out.2.2.2.2.size
     have hne : ∀ b, wd.heap.size ≤ b → b ≠ gR := fun b hb => by omega
     refine ⟨⟨_, _, rfl, ?_, ?_⟩, ((((HRR.out.2.e.set (p := ⟨gR, 0, none⟩) hgr _).set (p := ⟨gR, 1, none⟩) hgr _).set (p := ⟨gR, 2, none⟩) hgr _).set (p := ⟨gR, 3, none⟩) hgr _).set (p := ⟨gR, 4, none⟩) hgr _⟩
     ·
      rw [atN_eq]; show Rep _ _ _ (attrsD (partA v n.parts)); rw [HK.out.1]
      exact (HRR.out.2.a.kept fun b hb hlt => heap_set5 (hne b hb.1) _ _ _ _ _).ok fun b hb => Nat.le_trans hlow hb.1
     ·
      rw [atN_eq]; show Rep _ _ _ (nodesD (partK v n.parts ++ atL v n.kids)); rw [HK.out.2]
      have h9 := HRR.out.2.own.rep
      exact (h9.kept fun b hb hlt => heap_set5 (hne b (by rcases hb with h | h <;> exact h)) _ _ _ _ _).ok fun b hb => Nat.le_trans hlow (by rcases hb with h | h <;> exact h)
  ·
   rw [hR]
   have hpa := part_at ((HREP.out.1.ext HSZ.out.2.2.2.2).ext hBq) i hip
   obtain ⟨gp, op, xs0, xa0, xk0, rfl, lgp, _, x0, x1, x2, hxs, hxa, hxk⟩ := hpa
   have hbx := (aB_own n HBD.out.2).2.1 _ (List.getElem_mem hip)
   have HK : Hid (partA v n.parts = n.parts[i].attrs ∧ partK v n.parts = n.parts[i].kids) := Lh (by unfold partA partK; rw [hF]; exact ⟨rfl, rfl⟩)
   obtain ⟨x, hx⟩ : ∃ x, n.parts[i] = x := ⟨_, rfl⟩
   rw [hx] at hxs hxa hxk hbx HK
   obtain ⟨qxa, xac, rfl, _, _⟩ := hxa.count z_attr (by omega)
   obtain ⟨xk, xkc, rfl, _, _⟩ := hxk.count z_node (by omega)
   have a3q := hBq.keep lA a3
   have lAq : gA < wq.heap.size := Nat.lt_of_lt_of_le lA hBq.size
   have HA : Hid (∀ W, Ext wq W → Calls Tryz.prog 121 #[.slice qxa x.attrs.length xac] W fun e w' => ∃ (ua : Option Addr) (uc : Nat), e = .returned (.slice ua x.attrs.length uc) ∧ Rep w' (fun b => W.heap.size ≤ b ∧ b < w'.heap.size) (.slice ua x.attrs.length uc) (attrsD x.attrs) ∧ Ext W w') := Lh fun W hE => (cloneat_any x.attrs _ _ W (by omega) (hxa.ext hE)).mono fun e w' ⟨⟨u, he, hu⟩, hB⟩ => by
    obtain ⟨ua, uc, rfl, _, _⟩ := hu.count z_attr (by omega)
    exact ⟨ua, uc, he, hu.lt, hB⟩
   have HC : Hid (∀ W, Ext wq W → Calls Tryz.prog 122 #[.slice xk x.kids.length xkc] W fun e w' => ∃ (ua : Option Addr) (uc : Nat), e = .returned (.slice ua x.kids.length uc) ∧ Own w' (fun b => W.heap.size ≤ b) W.heap.size 60 5 (.slice ua x.kids.length uc) x.kids.length (x.kids.flatMap nodeC) ∧ Ext W w') := Lh fun W hE => (acopies_own (cntL x.kids + nszL x.kids) x.kids _ _ W (fun j h => by have := nszL_get x.kids j h; omega) hbx.2 (hxk.ext hE)).mono fun e w' ⟨⟨u, he, hO⟩, hB⟩ => by
    obtain ⟨ua, uc, rfl, _, _⟩ := hO.form
    exact ⟨ua, uc, he, hO, hB⟩
   have hi0 : (0 : Int) ≤ (i : Int) := by omega
   have hipI : (i : Int) < (n.parts.length : Int) := by omega
   simp only [Nat.zero_add]
   clear hR hF hx hxs hxa hxk
   go_wp2_with fail
   refine rg_cut (S := Sx wq) 15 (by kernel_rfl) (by kernel_rfl) (by kernel_rfl) (by kernel_rfl) (Sx.begin _) ?_
   have hSc : Sx wq (World.drew wq) := (Sx.begin _)
   refine rg_t 0 (some 18) (.pointer (some ⟨gA, 3, none⟩)) rfl hSc (fun w' hs => by first | rfl | go_simp) ?_
   simp only [Act.put, sA, sZ, sS]
   refine rg_t 1 (some 19) (.slice (some ⟨gp, op, none⟩) n.parts.length pc) rfl hSc (fun w' hs => by (have h0 := hs.cell lAq a3q; go_simp)) ?_
   simp only [Act.put, sA, sZ, sS]
   refine rg_t 2 (some 20) (.int .i64 i) rfl hSc (fun w' hs => by rfl) ?_
   simp only [Act.put, sA, sZ, sS]
   refine rg_t 3 (some 21) (.pointer (some ⟨gp, op + i * 3, none⟩)) rfl hSc (fun w' hs => by first | rfl | go_simp) ?_
   simp only [Act.put, sA, sZ, sS]
   refine rg_t 4 (some 22) (.pointer (some ⟨gp, op + i * 3 + 1, none⟩)) rfl hSc (fun w' hs => by first | rfl | go_simp) ?_
   simp only [Act.put, sA, sZ, sS]
   refine rg_t 5 (some 23) (.slice qxa x.attrs.length xac) rfl hSc (fun w' hs => by (have h0 := hs.cell lgp x1; go_simp)) ?_
   simp only [Act.put, sA, sZ, sS]
   refine rg_t 7 (some 25) (.pointer (some ⟨gA, 3, none⟩)) rfl hSc (fun w' hs => by first | rfl | go_simp) ?_
   simp only [Act.put, sA, sZ, sS]
   refine rg_t 8 (some 26) (.slice (some ⟨gp, op, none⟩) n.parts.length pc) rfl hSc (fun w' hs => by (have h0 := hs.cell lAq a3q; go_simp)) ?_
   simp only [Act.put, sA, sZ, sS]
   refine rg_t 9 (some 27) (.int .i64 i) rfl hSc (fun w' hs => by rfl) ?_
   simp only [Act.put, sA, sZ, sS]
   refine rg_t 10 (some 28) (.pointer (some ⟨gp, op + i * 3, none⟩)) rfl hSc (fun w' hs => by first | rfl | go_simp) ?_
   simp only [Act.put, sA, sZ, sS]
   refine rg_t 11 (some 29) (.pointer (some ⟨gp, op + i * 3 + 2, none⟩)) rfl hSc (fun w' hs => by first | rfl | go_simp) ?_
   simp only [Act.put, sA, sZ, sS]
   refine rg_t 12 (some 30) (.slice xk x.kids.length xkc) rfl hSc (fun w' hs => by (have h0 := hs.cell lgp x2; go_simp)) ?_
   simp only [Act.put, sA, sZ, sS]
   refine rg_call 6 (some 24) 121 #[.slice qxa x.attrs.length xac] rfl rfl (by kernel_rfl) (by rfl) (fun w' => by first | rfl | go_simp) (R := fun v w' => ∃ (ua : Option Addr) (uc : Nat), v = .slice ua x.attrs.length uc ∧ Rep w' (fun b => (World.drew wq).heap.size ≤ b ∧ b < w'.heap.size) (.slice ua x.attrs.length uc) (attrsD x.attrs) ∧ Ext (World.drew wq) w') ?_ ?_
   ·
    refine (HA.out (World.drew wq) hSc).mono ?_
    rintro e w' ⟨ua, uc, rfl, hu, hB⟩
    exact ⟨_, rfl, ua, uc, rfl, hu, hB⟩
   rintro _ wrc1 ⟨uaa, uac, rfl, hua, hBrc1⟩
   have hSc1 := hSc.ext hBrc1
   refine ⟨hSc1, ?_⟩
   simp only [Act.put, sA, sZ, sS]
   refine rg_t 14 (some 32) (.pointer (some ⟨gO, 3, none⟩)) rfl hSc1 (fun w' hs => by first | rfl | go_simp) ?_
   simp only [Act.put, sA, sZ, sS]
   refine rg_call 13 (some 31) 122 #[.slice xk x.kids.length xkc] rfl rfl (by kernel_rfl) (by rfl) (fun w' => by first | rfl | go_simp) (R := fun v w' => ∃ (ua : Option Addr) (uc : Nat), v = .slice ua x.kids.length uc ∧ Own w' (fun b => wrc1.heap.size ≤ b) wrc1.heap.size 60 5 (.slice ua x.kids.length uc) x.kids.length (x.kids.flatMap nodeC) ∧ Ext wrc1 w') ?_ ?_
   ·
    refine (HC.out wrc1 hSc1).mono ?_
    rintro e w' ⟨ua, uc, rfl, hu, hB⟩
    exact ⟨_, rfl, ua, uc, rfl, hu, hB⟩
   rintro _ wrc2 ⟨uka, ukc, rfl, huk, hBrc2⟩
   have hSc2 := hSc1.ext hBrc2
   refine ⟨hSc2, ?_⟩
   simp only [Act.put, sA, sZ, sS]
   have hua2 := hua.ext hBrc2
   have hb3 := hbq.ext hSc2
   have c3 := hb3.c3
   have f3 := hb3.f3
   have hE3 : Ext wq wrc2 := hSc2
   refine rg_done (by kernel_rfl) ?_
   refine rg_go 3 #[true, true, true, true, true, true, true, true, true, true, true, true, true, true, true, false, false, false] (by kernel_rfl) (by kernel_rfl) fun m => ?_
   refine rg_write 15 none (wrc2.setCell ⟨gO, 3, none⟩ (.slice uaa x.attrs.length uac)) rfl rfl (by kernel_rfl) (by rfl) (exec_store rfl (store_slice _ s1Attr c3 f3 _ _ _)) trivial ?_
   simp only [Act.put, sA, sZ, sS]
   have hb4 : B5 (wrc2.setCell ⟨gO, 3, none⟩ (.slice uaa x.attrs.length uac)) gO (outN1 n.name) (.slice uaa x.attrs.length uac) (.slice none 0 0) := hb3.set3 _ rfl rfl rfl
   have c4' := hb4.c4
   have f4' := hb4.f4
   refine rg_t 16 (some 33) (.pointer (some ⟨gO, 4, none⟩)) rfl trivial (fun w' hs => by first | rfl | go_simp) ?_
   simp only [Act.put, sA, sZ, sS]
   refine rg_write 17 none ((wrc2.setCell ⟨gO, 3, none⟩ (.slice uaa x.attrs.length uac)).setCell ⟨gO, 4, none⟩ (.slice uka x.kids.length ukc)) rfl rfl (by kernel_rfl) (by rfl) (exec_store rfl (store_slice _ s1Node c4' f4' _ _ _)) trivial ?_
   simp only [Act.put, sA, sZ, sS]
   refine rg_done (by kernel_rfl) ?_
   obtain ⟨wS, hwS⟩ : ∃ W, (wrc2.setCell ⟨gO, 3, none⟩ (.slice uaa x.attrs.length uac)).setCell ⟨gO, 4, none⟩ (.slice uka x.kids.length ukc) = W := ⟨_, rfl⟩
   have HS : Hid (AtSt w wd wS gO n.name (.slice uaa x.attrs.length uac) (.slice uka x.kids.length ukc) x.attrs x.kids) := Lh (by
    have hgo : w.heap.size ≤ gO := by have := HG.out; have := HSZ.out; omega
    have hlO : gO < wd.heap.size := HB2.out.2.lt
    have hq1 : wq.heap.size ≤ wrc1.heap.size := hBrc1.size
    have hq2 := hBrc2.size
    have hdq := hBq.size
    have hset : ∀ b, wd.heap.size ≤ b → ((wrc2.setCell ⟨gO, 3, none⟩ (.slice uaa x.attrs.length uac)).setCell ⟨gO, 4, none⟩ (.slice uka x.kids.length ukc)).heap[b]? = wrc2.heap[b]? := fun b hb => by rw [Below.heap_setCell _ _ _ _ (by simp only; omega), Below.heap_setCell _ _ _ _ (by simp only; omega)]
    have hob : ∀ b, some b = (Value.slice uka x.kids.length ukc).ownBlock → wrc1.heap.size ≤ b := fun b e => by
     obtain ⟨us, hr, _⟩ := huk.rows
     exact (own_lt hr e).1
    rw [← hwS]
    refine ⟨Ext.set (Ext.set ((HSZ.out.2.2.2.2.trans hBq).trans hE3) hgo _) hgo _, Exc.set (p := ⟨gO, 4, none⟩) (Exc.set (p := ⟨gO, 3, none⟩) (((Exc.refl gO wd).ext hBq).ext hE3) rfl _) rfl _, hb4.set4 _ rfl rfl rfl, ?_, ?_⟩
    ·
     obtain ⟨us, hr, hp⟩ := huk.low (q := fun b => wd.heap.size ≤ b) (base' := wd.heap.size) (by omega) (fun b hb => by omega)
     have hne : some gO ≠ (Value.slice uka x.kids.length ukc).ownBlock := fun e => by have := hob _ e; omega
     exact ⟨us, rows_set (rows_set hr (p := ⟨gO, 3, none⟩) hne _) (p := ⟨gO, 4, none⟩) hne _, (hp.kept fun b hb hlt => hset b hb.1).ok fun b hb => ⟨hb.1, hb.2.1, by simpa using hb.2.2⟩⟩
    ·
     refine (hua2.kept fun b hb hlt => hset b (Nat.le_trans hdq hb.1)).ok fun b hb => ⟨Nat.le_trans hdq hb.1, fun e => by have := hob _ e; have := hb.2; omega, by have := hb.2; simp; omega⟩)
   have HKK : Hid (x.kids.length ≤ 1048576) := Lh (Nat.le_trans (cntL_len _) hbx.2)
   rw [hwS]
   obtain ⟨A, hA⟩ : ∃ A, x.attrs = A := ⟨_, rfl⟩
   obtain ⟨K, hKe⟩ : ∃ K, x.kids = K := ⟨_, rfl⟩
   rw [hA, hKe] at HS HK
   rw [hKe] at HKK
   obtain ⟨xa, hxa9⟩ : ∃ y, Value.slice uaa A.length uac = y := ⟨_, rfl⟩
   obtain ⟨dv0, hdv0⟩ : ∃ y, Value.slice uka K.length ukc = y := ⟨_, rfl⟩
   rw [hxa9, hdv0] at HS
   clear hA hKe hxa9 hdv0 hwS hua hua2 huk hBrc1 hBrc2 hSc hSc1 hSc2 hb3 hb4 c3 f3 c4' f4' hE3 HA HC hbx lgp x0 x1 x2 a3q lAq hbq hBq hip hipI hi0
   try simp only [Exit.inBlock, Exit.then]
   have HSA := HS.out
   have hgOA : gA ≠ gO := by have := HG.out; have := HSZ.out; omega
   have hgOV : gV ≠ gO := by have := HG.out; have := HSZ.out; omega
   have hgOR : gR ≠ gO := by have := HG.out; have := HSZ.out; omega
   have hgOl : gO < wd.heap.size := HB2.out.2.lt
   have a4S := (World.cell?_of_block (HSA.x.2 gA hgOA lA)).trans a4
   have HKL : Hid (∀ i, (K ++ atL v (n.kids.take i)).length ≤ 33554432) := Lh fun i => by
    have h1 := atL_len v (n.kids.take i)
    have h2 := (aB_own n HBD.out.2).1
    have h3 := HKK.out
    have h4 : (n.kids.take i).length ≤ n.kids.length := by rw [List.length_take]; omega
    rw [List.length_append]; omega
   have HS0 : Hid (AtSt w wd wS gO n.name xa dv0 A (K ++ atL v (n.kids.take 0))) := Lh (by rw [List.take_zero, atL, List.append_nil]; exact HSA)
   have HLT := Lh (And.intro lA (And.intro lV hgOl))
   clear HSA HS lA lV hgOl
   go_wp2_with fail
   clear a4S
   go_loopw [8, 37] (fun _ t wr => ∃ (i : Nat) (dv : Value), t = .int .i64 i ∧ i ≤ n.kids.length ∧ Hid (AtSt w wd wr gO n.name xa dv A (K ++ atL v (n.kids.take i)))) (fun _ t _ => downV n.kids.length t)
   case atStart => exact ⟨0, dv0, rfl, Nat.zero_le _, HS0⟩
   case round =>
    clear HS0
    obtain ⟨i, dv, rfl, hi9, HI⟩ := hrel
    have hi0 : (0 : Int) ≤ (i : Int) := by omega
    by_cases hlt : i < n.kids.length
    ·
     have hlI : (i : Int) < (n.kids.length : Int) := by omega
     have hcr := HREP.out.2.ext HI.out.e
     obtain ⟨gk, ok, xk, xv, xp, xc2, rfl, lgk, _, k0, k1, k2, k3, k4, rk, rv, rp, rc⟩ := anode_at hcr i hlt
     have hkn := kname_len hcr i hlt
     have hak := tsz_kid n i hlt
     have hkB := (aB_own n HBD.out.2).2.2 _ (List.getElem_mem hlt)
     have htk := atL_take v n.kids i hlt
     have hN := HBD.out.1
     obtain ⟨q, hq⟩ : ∃ q, n.kids[i] = q := ⟨_, rfl⟩
     rw [hq] at k0 rk rv rp rc hkn hak hkB htk
     obtain ⟨ka2, kc2, rfl, _, _⟩ := rk.count z_str (by omega)
     obtain ⟨va2, vc2, rfl, _, _⟩ := rv.count z_span (by omega)
     obtain ⟨pa2, pc2, rfl, _, _⟩ := rp.count z_part (by omega)
     obtain ⟨ca2, cc2, rfl, _, _⟩ := rc.count z_anode (by omega)
     obtain ⟨wo, hwo⟩ : ∃ wo, wo = wr := ⟨_, rfl⟩
     subst hwo
     obtain ⟨w2, hw2⟩ : ∃ W, wo.alloc (.cells #[.string (bs q.name), .slice ka2 q.key.length kc2, .slice va2 q.vers.length vc2, .slice pa2 q.parts.length pc2, .slice ca2 q.kids.length cc2] 34) = W := ⟨_, rfl⟩
     have hE2 : Ext wo w2 := by rw [← hw2]; exact (Ext.refl wo).alloc _
     have hblk : w2.heap[wo.heap.size]? = some (.cells [.string (bs q.name), .slice ka2 q.key.length kc2, .slice va2 q.vers.length vc2, .slice pa2 q.parts.length pc2, .slice ca2 q.kids.length cc2].toArray 34 (0, 0)) := by rw [← hw2]; exact Array.getElem?_push_size
     have HC := Lh (ahas_any q.vers v _ (.slice va2 q.vers.length vc2) w2 (rv.ext hE2))
     have HST := Lh (HI.out.ext hE2)
     have HDV : Hid (∀ {g : Nat}, wo.heap.size = g → ∀ b, some b = dv.ownBlock → wd.heap.size ≤ b ∧ b < g) := Lh fun hg b e => by
      obtain ⟨us, hr, _⟩ := HI.out.own.rows
      rw [← hg]; exact own_lt hr e
     have HC9 : Hid (∀ W, Ext w2 W → Calls Tryz.prog 92 #[.agg #[.string (bs q.name), .slice ka2 q.key.length kc2, .slice va2 q.vers.length vc2, .slice pa2 q.parts.length pc2, .slice ca2 q.kids.length cc2], .int .i64 v] W fun e w' => (∃ xa xk, e = .returned (.agg #[.int .i64 1, .string (bs q.name), .string ⟨#[]⟩, xa, xk]) ∧ Rep w' (fun b => W.heap.size ≤ b) xa (attrsD (atN v q).attrs) ∧ Rep w' (fun b => W.heap.size ≤ b) xk (nodesD (atN v q).kids)) ∧ Ext W w') := Lh fun W hE => HIH.out q v _ _ _ _ _ W (by omega) hkB hkn ((rk.ext hE2).ext hE) ((rv.ext hE2).ext hE) ((rp.ext hE2).ext hE) ((rc.ext hE2).ext hE)
     have v0w : w2.cell? ⟨gV, 0, none⟩ = some (.int .i64 v) := (World.cell?_of_block (HST.out.x.2 gV hgOV HLT.out.2.1)).trans v0
     have b2 := blk_cells hblk 2 rfl
     have HTK := Lh htk
     obtain ⟨B, hB⟩ : ∃ B, ahas q.vers v = B := ⟨_, rfl⟩
     rw [hB] at HC htk
     have HTK := Lh htk
     have HBLK := Lh (And.intro hblk hkn)
     clear hq hB htk hkn hak hkB rk rv rp rc hcr hN hblk HI
     go_wp2_with fail
     refine HC.out.mono ?_
     rintro e w3 ⟨rfl, hB3⟩
     have HS3 := Lh (HST.out.ext hB3)
     clear HC HST k0 k1 k2 k3 k4 b2 v0w
     cases B with
     | true =>
      have hsz2 := hE2.size
      have hHS := HS3.out
      obtain ⟨us, hrow, hreps⟩ := hHS.own.rows
      obtain ⟨g8, hg8⟩ : ∃ g, wo.heap.size = g := ⟨_, rfl⟩
      have hblk := HBLK.out.1
      have l8w := blk_lt hblk
      rw [hg8] at hblk l8w ⊢
      have hdv : ∀ b, some b = dv.ownBlock → wd.heap.size ≤ b ∧ b < g8 := HDV.out hg8
      have l8 : g8 < w3.heap.size ∧ some g8 ≠ dv.ownBlock := ⟨Nat.lt_of_lt_of_le l8w hB3.size, fun e => by have := (hdv _ e).2; omega⟩
      have lO : gO < w3.heap.size ∧ some gO ≠ dv.ownBlock := ⟨Nat.lt_of_lt_of_le HLT.out.2.2 hHS.x.1, fun e => by have := (hdv _ e).1; have := HLT.out.2.2; omega⟩
      have lV3 : gV < w3.heap.size ∧ some gV ≠ dv.ownBlock := ⟨Nat.lt_of_lt_of_le HLT.out.2.1 hHS.x.1, fun e => by have := (hdv _ e).1; have := HLT.out.2.1; omega⟩
      have k0 := hB3.keep l8w (blk_cells hblk 0 rfl); have k1 := hB3.keep l8w (blk_cells hblk 1 rfl); have k2 := hB3.keep l8w (blk_cells hblk 2 rfl); have k3 := hB3.keep l8w (blk_cells hblk 3 rfl); have k4 := hB3.keep l8w (blk_cells hblk 4 rfl)
      have v3 : w3.cell? ⟨gV, 0, none⟩ = some (.int .i64 v) := (World.cell?_of_block (hHS.x.2 gV hgOV HLT.out.2.1)).trans v0
      have o4 := hHS.b.c4
      have fo4 := hHS.b.f4
      have hwd3 : wd.heap.size ≤ w3.heap.size := hHS.x.1
      obtain ⟨qa, hqa⟩ : ∃ x, (atN v q).attrs = x := ⟨_, rfl⟩
      obtain ⟨qk, hqk⟩ : ∃ x, (atN v q).kids = x := ⟨_, rfl⟩
      have HQ := Lh (And.intro hqa hqk)
      rw [hqa, hqk] at HC9
      have HC8 : Hid (∀ W, Ext w3 W → Calls Tryz.prog 92 #[.agg #[.string (bs q.name), .slice ka2 q.key.length kc2, .slice va2 q.vers.length vc2, .slice pa2 q.parts.length pc2, .slice ca2 q.kids.length cc2], .int .i64 v] W fun e w' => ∃ (ua : Option Addr) (uc : Nat) (ub : Option Addr) (ud : Nat), e = .returned (.agg #[.int .i64 1, .string (bs q.name), .string ⟨#[]⟩, .slice ua qa.length uc, .slice ub qk.length ud]) ∧ Rep w' (fun b => w3.heap.size ≤ b) (.slice ua qa.length uc) (attrsD qa) ∧ Rep w' (fun b => w3.heap.size ≤ b) (.slice ub qk.length ud) (nodesD qk) ∧ Ext W w') := Lh fun W hE => (HC9.out W (hB3.trans hE)).mono fun e w' ⟨⟨xa, xk, he, h1, h2⟩, h3⟩ => by
       obtain ⟨ua, uc, rfl, _, _⟩ := h1.count z_attr (by omega)
       obtain ⟨ub, ud, rfl, _, _⟩ := h2.count z_node (by omega)
       exact ⟨ua, uc, ub, ud, he, h1.ok fun b hb => Nat.le_trans hE.size hb, h2.ok fun b hb => Nat.le_trans hE.size hb, h3⟩
      obtain ⟨KS, hKS⟩ : ∃ x, K ++ atL v (n.kids.take i) = x := ⟨_, rfl⟩
      rw [hKS] at hrow hreps
      have HKS := Lh hKS
      have hKl : KS.length ≤ 33554432 := by rw [← hKS]; exact HKL.out i
      have HRP := Lh hreps
      clear hHS hblk hqa hqk hKS hreps hdv HC9
      go_wp2_with fail
      refine rg_cut (S := Sr dv w3) 8 (by kernel_rfl) (by kernel_rfl) (by kernel_rfl) (by kernel_rfl) (Sr.begin _ _) ?_
      have hSr : Sr dv w3 (World.drew w3) := (Sr.begin _ _)
      refine rg_t 0 (some 45) (.pointer (some ⟨gO, 4, none⟩)) rfl hSr (fun w' hs => by first | rfl | go_simp) ?_
      simp only [Act.put, sA, sZ, sS]
      refine rg_t 1 (some 46) (dv) rfl hSr (fun w' hs => by (have h0 := hs.cell lO o4; go_simp)) ?_
      simp only [Act.put, sA, sZ, sS]
      refine rg_t 2 (some 47) (.agg #[.string (bs q.name), .slice ka2 q.key.length kc2, .slice va2 q.vers.length vc2, .slice pa2 q.parts.length pc2, .slice ca2 q.kids.length cc2]) rfl hSr (fun w' hs => by (have h0 := hs.cell l8 k0; have h1 := hs.cell l8 k1; have h2 := hs.cell l8 k2; have h3 := hs.cell l8 k3; have h4 := hs.cell l8 k4; go_simp)) ?_
      simp only [Act.put, sA, sZ, sS]
      refine rg_t 3 (some 48) (.int .i64 v) rfl hSr (fun w' hs => by (have h0 := hs.cell lV3 v3; go_simp)) ?_
      simp only [Act.put, sA, sZ, sS]
      refine rg_one 4 (by kernel_rfl) ?_
      refine tk_call 4 (some 49) 92 #[.agg #[.string (bs q.name), .slice ka2 q.key.length kc2, .slice va2 q.vers.length vc2, .slice pa2 q.parts.length pc2, .slice ca2 q.kids.length cc2], .int .i64 v] rfl rfl (by rfl) (fun w' => by first | rfl | go_simp) (R := fun v' w' => ∃ (ua : Option Addr) (uc : Nat) (ub : Option Addr) (ud : Nat), v' = .agg #[.int .i64 1, .string (bs q.name), .string ⟨#[]⟩, .slice ua qa.length uc, .slice ub qk.length ud] ∧ Rep w' (fun b => w3.heap.size ≤ b) (.slice ua qa.length uc) (attrsD qa) ∧ Rep w' (fun b => w3.heap.size ≤ b) (.slice ub qk.length ud) (nodesD qk) ∧ Ext w3 w') ?_ ?_
      ·
       refine (HC8.out (World.drew w3) ((Ext.refl w3).drew)).mono ?_
       rintro e w' ⟨ua, uc, ub, ud, rfl, h1, h2, h3⟩
       exact ⟨_, rfl, ua, uc, ub, ud, rfl, h1, h2, ((Ext.refl w3).drew).trans h3⟩
      rintro _ wx ⟨ua, uc, ub, ud, rfl, hra, hrk, hBwx⟩
      have hSwx : Sr dv w3 wx := ⟨hBwx.size, fun b _ h2 => Below.block hBwx b h2⟩
      refine ⟨hSwx, ?_⟩
      simp only [Act.put, sA, sZ, sS]
      refine rg_one 5 (by kernel_rfl) ?_
      refine tk_new 5 (some 50) (.cells #[.int .i64 1, .string (bs q.name), .string ⟨#[]⟩, .slice ua qa.length uc, .slice ub qk.length ud] 60) (fun n => .slice (some ⟨n, 0, none⟩) 1 1) rfl rfl (by rfl) (by first | rfl | go_simp) ?_
      intro gb wy egb hBwy _ hgb
      have hSwy := hSwx.ext hBwy
      refine ⟨hSwy, ?_⟩
      simp only [Act.put, sA, sZ, sS]
      have hEy := hBwx.trans hBwy
      have hrowy := rows_ext hrow hEy
      refine rg_one 6 (by kernel_rfl) ?_
      refine tk_src 6 (some 51) rfl rfl (by rfl) (.tmp 46) (.tmp 50) 23 rfl wd.heap.size 60 i0 (.agg #[.int .i64 0, .string ⟨#[]⟩, .string ⟨#[]⟩, .slice none 0 0, .slice none 0 0]) 5 88 Tryz.underlying23 hi hz0 hz1 hz2 rfl (by decide) dv KS.length us rfl hrowy (.slice (some ⟨gb, 0, none⟩) 1 1) 1 [.int .i64 1, .string (bs q.name), .string ⟨#[]⟩, .slice ua qa.length uc, .slice ub qk.length ud] rfl (Src.block hgb rfl) (by intro u hu; simp at hu; rcases hu with rfl | rfl | rfl | rfl | rfl <;> rfl) (by unfold maxLen; omega) (by omega) (Nat.le_trans hwd3 hEy.size) ?_
      intro v4 w4 hr4 hg4 ha4
      have hS4 := hSwy.grown hg4
      refine ⟨hS4, ?_⟩
      simp only [Act.put, sA, sZ, sS]
      refine rg_t 7 (some 52) (.pointer (some ⟨gO, 4, none⟩)) rfl hS4 (fun w' hs => by first | rfl | go_simp) ?_
      simp only [Act.put, sA, sZ, sS]
      obtain ⟨o6, o6c, hv4⟩ := own_form hr4
      have o4' := hS4.cell lO o4
      have fo4' := hS4.free lO fo4
      refine rg_done (by kernel_rfl) ?_
      refine rg_go 1 #[true, true, true, true, true, true, true, true, false] (by kernel_rfl) (by kernel_rfl) fun m => ?_
      subst hv4
      refine rg_write 8 none (w4.setCell ⟨gO, 4, none⟩ (.slice o6 (KS.length + 1) o6c)) rfl rfl (by kernel_rfl) (by rfl) (exec_store rfl (store_slice _ s1Node o4' fo4' _ _ _)) trivial ?_
      simp only [Act.put, sA, sZ, sS]
      refine rg_done (by kernel_rfl) ?_
      have hHS := HS3.out
      have HFIN : Hid (AtSt w wd (w4.setCell ⟨gO, 4, none⟩ (.slice o6 (KS.length + 1) o6c)) gO n.name xa (.slice o6 (KS.length + 1) o6c) A (K ++ atL v (n.kids.take (i + 1)))) := by
       have hlow : w.heap.size ≤ wd.heap.size := HSZ.out.2.2.2.2.size
       have hgo : w.heap.size ≤ gO := by have := HG.out; have := HSZ.out; omega
       have hob : ∀ b, some b = dv.ownBlock → wd.heap.size ≤ b ∧ b < w3.heap.size := fun b e => own_lt hrow e
       have hk4 : ∀ b, b < w3.heap.size → some b ≠ dv.ownBlock → w4.heap[b]? = w3.heap[b]? := fun b hb hn => (hg4.block b (Nat.lt_of_lt_of_le hb hEy.size) hn).trans (Below.block hEy b hb)
       have hs34 : w3.heap.size ≤ w4.heap.size := Nat.le_trans hEy.size hg4.size
       have h6 : ∀ b, b < w3.heap.size → some b ≠ dv.ownBlock → some b ≠ (Value.slice o6 (KS.length + 1) o6c).ownBlock := fun b hb hn => by
        rcases ha4 with e | e
        ·
         rw [e]; exact hn
        ·
         rw [e]; intro e2; have := Option.some.inj e2; have := hEy.size; omega
       have hO4 : Own w4 (fun b => wd.heap.size ≤ b) wd.heap.size 60 5 (.slice o6 (KS.length + 1) o6c) (KS.length + 1) (KS.flatMap nodeC ++ nodeC (atN v q)) := by
        have e5 : nodeC (atN v q) = [intD 1, strD q.name, strD [], attrsD qa, nodesD qk] := by rw [nodeC_eq, HQ.out.1, HQ.out.2, atN_eq]; rfl
        rw [e5]
        refine Own.push (w := wy) ((HRP.out.ext hEy).ok fun b hb => ⟨hb.1, hb.2.1, Nat.lt_of_lt_of_le hb.2.2 hEy.size⟩) (Reps.cons (Rep.int _ _ _ _) (Reps.cons (Rep.string _ _ _ (by rw [bs_size]; exact HBLK.out.2)) (Reps.cons (Rep.string _ _ ⟨#[]⟩ (by decide)) (Reps.cons ((hra.lt.ext hBwy).ok fun b hb => ?_) (Reps.cons ((hrk.lt.ext hBwy).ok fun b hb => ?_) (Reps.nil _ _)))))) hr4 hg4 ha4
        ·
         exact ⟨Nat.le_trans hwd3 hb.1, fun e => by have := (hob b e).2; have := hb.1; omega, Nat.lt_of_lt_of_le hb.2 hBwy.size⟩
        ·
         exact ⟨Nat.le_trans hwd3 hb.1, fun e => by have := (hob b e).2; have := hb.1; omega, Nat.lt_of_lt_of_le hb.2 hBwy.size⟩
       have hb4 : B5 w4 gO (outN1 n.name) xa dv := hHS.b.block hs34 (hk4 gO lO.1 lO.2)
       refine Lh ⟨?_, ?_, hb4.set4 _ rfl rfl rfl, ?_, ?_⟩
       ·
        exact Ext.set (show Ext w w4 from Below.grown (hHS.e.trans hEy) hg4 (hHS.e.trans hEy).size fun b e => Nat.le_trans hlow (hob b e.symm).1) hgo _
       ·
        refine Exc.set ⟨Nat.le_trans hHS.x.1 hs34, fun b h1 h2 => ?_⟩ rfl _
        exact (hk4 b (Nat.lt_of_lt_of_le h2 hHS.x.1) fun e => by have := (hob b e).1; omega).trans (hHS.x.2 b h1 h2)
       ·
        have hT := HTK.out
        rw [if_pos trivial] at hT
        rw [hT, ← List.append_assoc, HKS.out, List.length_append, List.flatMap_append, List.flatMap_singleton]
        obtain ⟨us4, hr5, hp5⟩ := hO4
        have hne : some gO ≠ (Value.slice o6 (KS.length + 1) o6c).ownBlock := h6 gO lO.1 lO.2
        exact ⟨us4, rows_set hr5 (p := ⟨gO, 4, none⟩) hne _, (hp5.kept fun b hb hlt => Below.heap_setCell _ _ _ _ (by have h1 : wd.heap.size ≤ b := hb.1; have := HLT.out.2.2; simp only; omega)).ok fun b hb => ⟨hb.1, hb.2.1, by simpa using hb.2.2⟩⟩
       ·
        have h1 : Rep w4 (fun b => wd.heap.size ≤ b ∧ some b ≠ (Value.slice o6 (KS.length + 1) o6c).ownBlock ∧ b < w4.heap.size) xa (attrsD A) := (hHS.a.kept fun b hb hlt => hk4 b hlt hb.2.1).ok fun b hb => ⟨hb.1, h6 b hb.2.2 hb.2.1, Nat.lt_of_lt_of_le hb.2.2 hs34⟩
        exact (h1.kept fun b hb hlt => Below.heap_setCell _ _ _ _ (by have := hb.1; have := HLT.out.2.2; simp only; omega)).ok fun b hb => ⟨hb.1, hb.2.1, by simpa using hb.2.2⟩
      clear hHS hr4 hg4 ha4 hrow hrowy hra hrk HC8 hgb k0 k1 k2 k3 k4 v3 o4 fo4 o4' fo4' hS4 hSwy hSwx HQ HRP HKS HS3 HTK HBLK
      try simp only [Exit.inBlock, Exit.then]
      go_wp2_with fail
      go_roundw
      case rel => exact ⟨i + 1, _, by go_num, by omega, HFIN⟩
      case measure => simp only [downV]; omega
     | false =>
      have HN : Hid (AtSt w wd w3 gO n.name xa dv A (K ++ atL v (n.kids.take (i + 1)))) := Lh (by have := HTK.out; rw [if_neg (by decide), List.append_nil] at this; rw [this]; exact HS3.out)
      clear HS3 HTK HC9 HBLK hE2
      go_wp2_with fail
      go_roundw
      case rel => exact ⟨i + 1, dv, by go_num, by omega, HN⟩
      case measure => simp only [downV]; omega
    ·
     have hlI : ¬ (i : Int) < (n.kids.length : Int) := by omega
     have hHI := HI.out
     rw [List.take_of_length_le (by omega)] at hHI
     obtain ⟨ya, yc, hya, _, _⟩ := hHI.a.count z_attr (by omega)
     obtain ⟨da, dc, hda, _, _⟩ := hHI.own.form
     subst hya; subst hda
     rw [List.length_append] at hHI
     have hRr := HB2.out.1.exc hgOR hHI.x
     have o0 : wr.cell? ⟨gO, 0, none⟩ = some (.int .i64 1) := hHI.b.c0
     have o1 : wr.cell? ⟨gO, 1, none⟩ = some (.string (bs n.name)) := hHI.b.c1
     have o2 : wr.cell? ⟨gO, 2, none⟩ = some (.string ⟨#[]⟩) := hHI.b.c2
     have o3 := hHI.b.c3; have o4 := hHI.b.c4
     have r0 := hRr.c0; have r1 := hRr.c1; have r2 := hRr.c2; have r3 := hRr.c3; have r4 := hRr.c4
     have rf0 := hRr.f0; have rf1 := hRr.f1; have rf2 := hRr.f2; have rf3 := hRr.f3; have rf4 := hRr.f4
     have HRR := Lh (And.intro hRr hHI)
     clear hRr hHI HI
     go_wp2_with fail
     have e5 : bs (outN1 n.name).text = ⟨#[]⟩ := rfl
     have hput := B5.put (n := outN1 n.name) (xa := .slice ya A.length yc) (xk := .slice da (K.length + (atL v n.kids).length) dc) HRR.out.1
     unfold st5 at hput
     rw [e5] at hput
     refine bodyPost_ret (res_cell rfl _ _ _ ⟨gR, 0, none⟩ ?_ (load_node hput)) rfl ?_
     ·
      rfl
     have hlR : gR < wd.heap.size := HB2.out.1.lt
     have hgr : w.heap.size ≤ gR := by have := HG.out; have := HSZ.out; omega
     have hlow : w.heap.size ≤ wd.heap.size := HSZ.out.2.2.2.2.size
     have hne : ∀ b, wd.heap.size ≤ b → b ≠ gR := fun b hb => by omega
     refine ⟨⟨_, _, rfl, ?_, ?_⟩, ((((HRR.out.2.e.set (p := ⟨gR, 0, none⟩) hgr _).set (p := ⟨gR, 1, none⟩) hgr _).set (p := ⟨gR, 2, none⟩) hgr _).set (p := ⟨gR, 3, none⟩) hgr _).set (p := ⟨gR, 4, none⟩) hgr _⟩
     ·
      rw [atN_eq]; show Rep _ _ _ (attrsD (partA v n.parts)); rw [HK.out.1]
      exact (HRR.out.2.a.kept fun b hb hlt => heap_set5 (hne b hb.1) _ _ _ _ _).ok fun b hb => Nat.le_trans hlow hb.1
     ·
      rw [atN_eq]; show Rep _ _ _ (nodesD (partK v n.parts ++ atL v n.kids)); rw [HK.out.2]
      have h9 := HRR.out.2.own.rep
      exact (h9.kept fun b hb hlt => heap_set5 (hne b (by rcases hb with h | h <;> exact h)) _ _ _ _ _).ok fun b hb => Nat.le_trans hlow (by rcases hb with h | h <;> exact h)
theorem new_zero {W Wb : World} (h : W.alloc (.cells #[.int .i64 0, .string ⟨#[]⟩, .string ⟨#[]⟩, .slice none 0 0, .slice none 0 0] 60) = Wb) : B5 Wb W.heap.size zeroN (.slice none 0 0) (.slice none 0 0) := by
 rw [← h]
 exact ⟨by simp, by simp [go_sem, zeroN, Node.kind], by simp [go_sem, zeroN, Node.name]; rfl, by simp [go_sem, zeroN, Node.text]; rfl, by simp [go_sem], by simp [go_sem], by simp [go_sem], by simp [go_sem], by simp [go_sem], by simp [go_sem], by simp [go_sem]⟩
theorem archat_ok (last v : Int) (n : ANode) (p : Nat → Prop) (vk vv vp vc : Value) (w : World) (h1 : 1 ≤ v) (h2 : v ≤ last) (ha : ahas n.vers v = true) (hB : aB n = true) (hnm : n.name.length ≤ 9223372036854775807)
  (hvk : Rep w p vk (strsD n.key)) (hvv : Rep w p vv (spansD n.vers)) (hvp : Rep w p vp (partsD n.parts)) (hvc : Rep w p vc (anodesD n.kids)) :
  Calls Tryz.prog 57 #[.agg #[.int .i64 last, .string (bs n.name), vk, vv, vp, vc], .int .i64 v] w fun e w' => (∃ xa xk, e = .returned (.tuple #[.agg #[.int .i64 1, .string (bs n.name), .string ⟨#[]⟩, xa, xk], .nilIface]) ∧ Rep w' (fun b => w.heap.size ≤ b) xa (attrsD (atN v n).attrs) ∧ Rep w' (fun b => w.heap.size ≤ b) xk (nodesD (atN v n).kids)) ∧ Ext w w' := by
 obtain ⟨ka, kc, rfl, _, _⟩ := hvk.count z_str (by omega)
 obtain ⟨sa, sc, rfl, _, _⟩ := hvv.count z_span (by omega)
 obtain ⟨pa, pc, rfl, _, _⟩ := hvp.count z_part (by omega)
 obtain ⟨ca, cc, rfl, _, _⟩ := hvc.count z_anode (by omega)
 obtain ⟨wa, hwa⟩ : ∃ W, w.alloc (.cells #[.int .i64 last, .string (bs n.name), .slice ka n.key.length kc, .slice sa n.vers.length sc, .slice pa n.parts.length pc, .slice ca n.kids.length cc] 36) = W := ⟨_, rfl⟩
 obtain ⟨wb, hwb⟩ : ∃ W, wa.alloc (.cells #[.int .i64 0, .string ⟨#[]⟩, .string ⟨#[]⟩, .slice none 0 0, .slice none 0 0] 60) = W := ⟨_, rfl⟩
 have hEa : Ext w wa := by rw [← hwa]; exact (Ext.refl w).alloc _
 have hEb : Ext wa wb := by rw [← hwb]; exact (Ext.refl wa).alloc _
 have hba : wa.heap[w.heap.size]? = some (.cells [.int .i64 last, .string (bs n.name), .slice ka n.key.length kc, .slice sa n.vers.length sc, .slice pa n.parts.length pc, .slice ca n.kids.length cc].toArray 36 (0, 0)) := by rw [← hwa]; exact Array.getElem?_push_size
 have hbR := new_zero hwb
 have lA : w.heap.size < wb.heap.size := Nat.lt_of_lt_of_le (blk_lt hba) hEb.size
 have a0 := hEb.keep (blk_lt hba) (blk_cells hba 0 rfl)
 have a1 := hEb.keep (blk_lt hba) (blk_cells hba 1 rfl)
 have a2 := hEb.keep (blk_lt hba) (blk_cells hba 2 rfl)
 have a3 := hEb.keep (blk_lt hba) (blk_cells hba 3 rfl)
 have a4 := hEb.keep (blk_lt hba) (blk_cells hba 4 rfl)
 have a5 := hEb.keep (blk_lt hba) (blk_cells hba 5 rfl)
 have hE0 := hEa.trans hEb
 have HC := Lh (ahas_any n.vers v p _ wb (hvv.ext hE0))
 have HAT := Lh fun W (hE : Ext wb W) => aat_any (tsz n) n v p _ _ _ _ W (Nat.le_refl _) hB hnm ((hvk.ext hE0).ext hE) ((hvv.ext hE0).ext hE) ((hvp.ext hE0).ext hE) ((hvc.ext hE0).ext hE)
 rw [ha] at HC
 have HE := Lh (And.intro hEa hE0)
 have HBR := Lh hbR
 have n1 : ¬ v < 1 := by omega
 have n2 : ¬ last < v := by omega
 clear hvk hvv hvp hvc hE0 hEa hEb hba hbR ha hB hnm h1 h2
 go_enter Tryz.func57, Tryz.ntmps57
 go_wp2_with fail
 refine HC.out.mono ?_
 rintro e w1 ⟨rfl, hB1⟩
 have k1 := hB1.keep lA a1
 have k2 := hB1.keep lA a2
 have k3 := hB1.keep lA a3
 have k4 := hB1.keep lA a4
 have k5 := hB1.keep lA a5
 clear HC a0 a1 a2 a3 a4 a5
 go_wp2_with fail
 refine (HAT.out w1 hB1).mono ?_
 rintro e w2 ⟨⟨xa, xk, rfl, hxa, hxk⟩, hB2⟩
 obtain ⟨ya, yc, rfl, _, _⟩ := hxa.count z_attr (by omega)
 obtain ⟨yk, ykc, rfl, _, _⟩ := hxk.count z_node (by omega)
 have hR2 := (HBR.out.ext hB1).ext hB2
 have c0 := hR2.c0; have c1 := hR2.c1; have c2 := hR2.c2; have c3 := hR2.c3; have c4 := hR2.c4
 have f0 := hR2.f0; have f1 := hR2.f1; have f2 := hR2.f2; have f3 := hR2.f3; have f4 := hR2.f4
 have HX := Lh (And.intro hxa (And.intro hxk (And.intro hB1 (And.intro hB2 hR2))))
 clear hxa hxk hB1 hB2 hR2 k1 k2 k3 k4 k5 HAT lA
 go_wp2_with fail
 have e5 : bs (outN1 n.name).text = ⟨#[]⟩ := rfl
 have hput := B5.put (n := outN1 n.name) (xa := .slice ya (atN v n).attrs.length yc) (xk := .slice yk (atN v n).kids.length ykc) HX.out.2.2.2.2
 unfold st5 at hput
 rw [e5] at hput
 refine bodyPost_ret (res_node rfl _ _ _ ⟨wa.heap.size, 0, none⟩ ?_ (load_node hput)) rfl ?_
 ·
  rfl
 obtain ⟨hxa, hxk, hB1, hB2, hR2⟩ := HX.out
 obtain ⟨hEa, hE0⟩ := HE.out
 have hlR : wa.heap.size < w1.heap.size := Nat.lt_of_lt_of_le HBR.out.lt hB1.size
 have hgr : w.heap.size ≤ wa.heap.size := hEa.size
 have hne : ∀ b, w1.heap.size ≤ b → b ≠ wa.heap.size := fun b hb => by omega
 refine ⟨⟨_, _, rfl, ?_, ?_⟩, (((((hE0.trans (hB1.trans hB2)).set (p := ⟨wa.heap.size, 0, none⟩) hgr _).set (p := ⟨wa.heap.size, 1, none⟩) hgr _).set (p := ⟨wa.heap.size, 2, none⟩) hgr _).set (p := ⟨wa.heap.size, 3, none⟩) hgr _).set (p := ⟨wa.heap.size, 4, none⟩) hgr _⟩
 ·
  exact (hxa.kept fun b hb hlt => heap_set5 (hne b hb) _ _ _ _ _).ok fun b hb => Nat.le_trans (Nat.le_trans hE0.size hB1.size) hb
 ·
  exact (hxk.kept fun b hb hlt => heap_set5 (hne b hb) _ _ _ _ _).ok fun b hb => Nat.le_trans (Nat.le_trans hE0.size hB1.size) hb
theorem ErrV.set5 {W : World} {g lo : Nat} {n : Node} {xa xk v : Value} {code at' : Int} (hb : B5 W g n xa xk) (h : ErrV W lo code at' v) (u0 u1 u2 u3 u4 : Value) :
  ErrV (((((W.setCell ⟨g, 0, none⟩ u0).setCell ⟨g, 1, none⟩ u1).setCell ⟨g, 2, none⟩ u2).setCell ⟨g, 3, none⟩ u3).setCell ⟨g, 4, none⟩ u4) lo code at' v := by
 obtain ⟨b1, b2, h0, h1, h2, h3, h4, h5, h6, h7⟩ := h
 have n1 : b1 ≠ g := by intro e; subst e; rw [hb.c1] at h3; cases h3
 have n2 : b2 ≠ g := by intro e; subst e; rw [hb.c1] at h5; cases h5
 have e1 := heap_set5 (w := W) n1 u0 u1 u2 u3 u4
 have e2 := heap_set5 (w := W) n2 u0 u1 u2 u3 u4
 have e3 : (((((W.setCell ⟨g, 0, none⟩ u0).setCell ⟨g, 1, none⟩ u1).setCell ⟨g, 2, none⟩ u2).setCell ⟨g, 3, none⟩ u3).setCell ⟨g, 4, none⟩ u4).heap.size = W.heap.size := by simp
 obtain ⟨W', hW'⟩ : ∃ W', (((((W.setCell ⟨g, 0, none⟩ u0).setCell ⟨g, 1, none⟩ u1).setCell ⟨g, 2, none⟩ u2).setCell ⟨g, 3, none⟩ u3).setCell ⟨g, 4, none⟩ u4) = W' := ⟨_, rfl⟩
 rw [hW'] at e1 e2 e3 ⊢
 exact ⟨b1, b2, h0, by omega, by omega, (World.cell?_of_block e1).trans h3, (World.cell?_of_block e2).trans h4, (World.cell?_of_block e2).trans h5, h6, h7⟩
def RetU (q : Nat → Prop) (r : Option (ANode × List Span) × Nat) (v : Int) (e : Ending) (w : World) : Prop :=
 match r.1 with
 | none => ∃ ev, e = .returned (.tuple #[.agg #[.int .i64 0, .string ⟨#[]⟩, .string ⟨#[]⟩, .slice none 0 0, .slice none 0 0], ev]) ∧ ∃ lo, ErrV w lo 32 r.2 ev
 | some (n, vs) => if hasV vs v = true then ∃ xa xk, e = .returned (.tuple #[.agg #[.int .i64 1, .string (bs n.name), .string ⟨#[]⟩, xa, xk], .nilIface]) ∧ Rep w q xa (attrsD (atN v n).attrs) ∧ Rep w q xk (nodesD (atN v n).kids)
  else ∃ ev, e = .returned (.tuple #[.agg #[.int .i64 0, .string ⟨#[]⟩, .string ⟨#[]⟩, .slice none 0 0, .slice none 0 0], ev]) ∧ ∃ lo, ErrV w lo 30 v ev
def setVers (n : ANode) (vs : List Span) : ANode := .mk n.name n.key vs n.parts n.kids
theorem setVers_at (n : ANode) (vs : List Span) (v : Int) : atN v (setVers n vs) = atN v n := by rw [atN_eq, atN_eq]; rfl
theorem setVers_B (n : ANode) (vs : List Span) : aB (setVers n vs) = aB n := by cases n; rfl
theorem psub_any (last v : Int) (root : ANode) (x : List Step) (p : Nat → Prop) (vk vv vp vc vx : Value) (w : World) (hb : vB root = true) (hxl : x.length ≤ 1048576)
  (hok : ∀ n vs, (findA last root x).1 = some (n, vs) → aB n = true ∧ n.name.length ≤ 9223372036854775807 ∧ (hasV vs v = true → 1 ≤ v ∧ v ≤ last))
  (hvk : Rep w p vk (strsD root.key)) (hvv : Rep w p vv (spansD root.vers)) (hvp : Rep w p vp (partsD root.parts)) (hvc : Rep w p vc (anodesD root.kids)) (hvx : Rep w p vx (stepsD x)) :
  Calls Tryz.prog 28 #[.agg #[.int .i64 last, .string (bs root.name), vk, vv, vp, vc], vx, .int .i64 v] w fun e w' => RetU (fun b => w.heap.size ≤ b) (findA last root x) v e w' ∧ Ext w w' := by
 obtain ⟨rk, rkc, rfl, _, _⟩ := hvk.count z_str (by omega)
 obtain ⟨rv, rvc, rfl, _, _⟩ := hvv.count z_span (by omega)
 obtain ⟨rp, rpc, rfl, _, _⟩ := hvp.count z_part (by omega)
 obtain ⟨rc, rcc, rfl, _, _⟩ := hvc.count z_anode (by omega)
 obtain ⟨xa, xc, rfl, hx1, hx2⟩ := hvx.count z_step (by omega)
 obtain ⟨wa, hwa⟩ : ∃ W, w.alloc (.cells #[.int .i64 last, .string (bs root.name), .slice rk root.key.length rkc, .slice rv root.vers.length rvc, .slice rp root.parts.length rpc, .slice rc root.kids.length rcc] 36) = W := ⟨_, rfl⟩
 obtain ⟨wb, hwb⟩ : ∃ W, wa.alloc (.cells #[.int .i64 0, .string ⟨#[]⟩, .string ⟨#[]⟩, .slice none 0 0, .slice none 0 0] 60) = W := ⟨_, rfl⟩
 have hEa : Ext w wa := by rw [← hwa]; exact (Ext.refl w).alloc _
 have hEb : Ext wa wb := by rw [← hwb]; exact (Ext.refl wa).alloc _
 have hba : wa.heap[w.heap.size]? = some (.cells [.int .i64 last, .string (bs root.name), .slice rk root.key.length rkc, .slice rv root.vers.length rvc, .slice rp root.parts.length rpc, .slice rc root.kids.length rcc].toArray 36 (0, 0)) := by rw [← hwa]; exact Array.getElem?_push_size
 have hbR := new_zero hwb
 have lA : w.heap.size < wb.heap.size := Nat.lt_of_lt_of_le (blk_lt hba) hEb.size
 have a0 := hEb.keep (blk_lt hba) (blk_cells hba 0 rfl)
 have a1 := hEb.keep (blk_lt hba) (blk_cells hba 1 rfl)
 have a2 := hEb.keep (blk_lt hba) (blk_cells hba 2 rfl)
 have a3 := hEb.keep (blk_lt hba) (blk_cells hba 3 rfl)
 have a4 := hEb.keep (blk_lt hba) (blk_cells hba 4 rfl)
 have a5 := hEb.keep (blk_lt hba) (blk_cells hba 5 rfl)
 have hE0 := hEa.trans hEb
 have HC := Lh (find_any last root x p _ _ _ _ _ wb hb hxl (hvk.ext hE0) (hvv.ext hE0) (hvp.ext hE0) (hvc.ext hE0) (hvx.ext hE0))
 obtain ⟨R, hR⟩ : ∃ R, findA last root x = R := ⟨_, rfl⟩
 rw [hR] at HC hok ⊢
 have HE := Lh (And.intro hEa hE0)
 have HBR := Lh hbR
 have HOK := Lh hok
 clear hR hb hvk hvv hvp hvc hvx hEa hEb hE0 hba hbR hok
 go_enter Tryz.func28, Tryz.ntmps28
 go_wp2_with fail
 refine HC.out.mono ?_
 rintro e w2 ⟨hr, hB2⟩
 clear HC a1 a2 a3 a4 a5
 obtain ⟨o, j⟩ := R
 have hgr : w.heap.size ≤ wa.heap.size := HE.out.1.size
 cases o with
 | none =>
  obtain ⟨ev, rfl, lo, hev⟩ := hr
  have HEV := Lh hev
  obtain ⟨eb1, eb2, rfl, _⟩ := hev
  obtain ⟨w3, hw3⟩ : ∃ W, w2.alloc (.cells #[.string ⟨#[]⟩, .slice none 0 0, .slice none 0 0, .slice none 0 0, .slice none 0 0] 34) = W := ⟨_, rfl⟩
  have hE3 : Ext w2 w3 := by rw [← hw3]; exact (Ext.refl w2).alloc _
  have hR3 := (HBR.out.ext hB2).ext hE3
  have c0 := hR3.c0; have c1 := hR3.c1; have c2 := hR3.c2; have c3 := hR3.c3; have c4 := hR3.c4
  have f0 := hR3.f0; have f1 := hR3.f1; have f2 := hR3.f2; have f3 := hR3.f3; have f4 := hR3.f4
  have HX := Lh (And.intro hB2 (And.intro hE3 hR3))
  clear hB2 hE3 hR3
  subst hw3
  go_wp2_with fail
  have hput := B5.put (n := zeroN) (xa := .slice none 0 0) (xk := .slice none 0 0) HX.out.2.2
  unfold st5 at hput
  refine bodyPost_ret (res_node rfl _ _ _ ⟨wa.heap.size, 0, none⟩ ?_ (load_node hput)) rfl ?_
  ·
   rfl
  obtain ⟨hB2, hE3, hR3⟩ := HX.out
  have hX := (HE.out.2.trans (hB2.trans hE3))
  refine ⟨⟨_, rfl, lo, ?_⟩, (((((hX.set (p := ⟨wa.heap.size, 0, none⟩) hgr _).set (p := ⟨wa.heap.size, 1, none⟩) hgr _).set (p := ⟨wa.heap.size, 2, none⟩) hgr _).set (p := ⟨wa.heap.size, 3, none⟩) hgr _).set (p := ⟨wa.heap.size, 4, none⟩) hgr _)⟩
  exact ErrV.set5 hR3 (HEV.out.ext hE3) _ _ _ _ _
 | some nv =>
  obtain ⟨n, vs⟩ := nv
  obtain ⟨k, vv2, pa, c, kc, vc', pc, cc, sv, rfl, hk, hv, hpa, hc, hsv⟩ := hr
  obtain ⟨sa, sc, rfl, _, _⟩ := hsv.count z_span (by omega)
  have hsl : vs.length ≤ 9223372036854775807 := by obtain ⟨_, _, e, h1, h2⟩ := hsv.count z_span (by omega); omega
  obtain ⟨w3, hw3⟩ : ∃ W, w2.alloc (.cells #[.string (bs n.name), .slice k n.key.length kc, .slice vv2 n.vers.length vc', .slice pa n.parts.length pc, .slice c n.kids.length cc] 34) = W := ⟨_, rfl⟩
  have hE3 : Ext w2 w3 := by rw [← hw3]; exact (Ext.refl w2).alloc _
  have hblk : w3.heap[w2.heap.size]? = some (.cells [.string (bs n.name), .slice k n.key.length kc, .slice vv2 n.vers.length vc', .slice pa n.parts.length pc, .slice c n.kids.length cc].toArray 34 (0, 0)) := by rw [← hw3]; exact Array.getElem?_push_size
  have HHS := Lh fun W (hE : Ext w3 W) => ihas_any vs v _ (.slice sa vs.length sc) W ((hsv.ext hE3).ext hE)
  obtain ⟨B, hBv⟩ : ∃ B, hasV vs v = B := ⟨_, rfl⟩
  have HX := Lh (And.intro hB2 (And.intro hE3 (And.intro hblk (And.intro hk (And.intro hv (And.intro hpa (And.intro hc (And.intro hsv hBv))))))))
  rw [hBv] at HHS
  clear hB2 hE3 hblk hk hv hpa hc hsv hBv
  subst hw3
  go_wp2_with fail
  refine (HHS.out _ (Ext.refl _)).mono ?_
  rintro e w4 ⟨rfl, hB4⟩
  obtain ⟨hB2, hE3, hblk, hk, hv, hpa, hc, hsv, hBv⟩ := HX.out
  cases B with
  | false =>
   have hR4 := ((HBR.out.ext hB2).ext hE3).ext hB4
   have HX4 := Lh (And.intro (HE.out.2.trans (hB2.trans (hE3.trans hB4))) (And.intro hR4 hBv))
   clear hB2 hE3 hblk hk hv hpa hc hsv hBv HX HHS hB4
   go_wp2_with fail
   refine (pfail_any 30 v (by decide) _).mono ?_
   rintro e w5 ⟨⟨ev, rfl, hev⟩, hB5⟩
   have HEV := Lh hev
   obtain ⟨eb1, eb2, rfl, _⟩ := hev
   have hR5 := hR4.ext hB5
   have c0 := hR5.c0; have c1 := hR5.c1; have c2 := hR5.c2; have c3 := hR5.c3; have c4 := hR5.c4
   have f0 := hR5.f0; have f1 := hR5.f1; have f2 := hR5.f2; have f3 := hR5.f3; have f4 := hR5.f4
   have HX := Lh (And.intro hB5 hR5)
   clear hB5 hR5 hR4
   go_wp2_with fail
   have hput := B5.put (n := zeroN) (xa := .slice none 0 0) (xk := .slice none 0 0) HX.out.2
   unfold st5 at hput
   refine bodyPost_ret (res_node rfl _ _ _ ⟨wa.heap.size, 0, none⟩ ?_ (load_node hput)) rfl ?_
   ·
    rfl
   have hX := HX4.out.1.trans HX.out.1
   unfold RetU
   simp only
   rw [if_neg (by rw [HX4.out.2.2]; decide)]
   exact ⟨⟨_, rfl, _, ErrV.set5 HX.out.2 HEV.out _ _ _ _ _⟩, (((((hX.set (p := ⟨wa.heap.size, 0, none⟩) hgr _).set (p := ⟨wa.heap.size, 1, none⟩) hgr _).set (p := ⟨wa.heap.size, 2, none⟩) hgr _).set (p := ⟨wa.heap.size, 3, none⟩) hgr _).set (p := ⟨wa.heap.size, 4, none⟩) hgr _)⟩
  | true =>
   obtain ⟨hok1, hok2, hok3⟩ := HOK.out n vs rfl
   have hvl := hok3 hBv
   have hBv9 := Lh hBv
   have hR4 := ((HBR.out.ext hB2).ext hE3).ext hB4
   have g8 := blk_lt hblk
   have hblk4 := (Below.block hB4 _ g8).trans hblk
   have l8 := blk_lt hblk4
   have b0 := blk_cells hblk4 0 rfl; have b1 := blk_cells hblk4 1 rfl; have b2 := blk_cells hblk4 2 rfl; have b3 := blk_cells hblk4 3 rfl; have b4 := blk_cells hblk4 4 rfl
   have z2 := blk_free hblk4 (k := 2)
   have hE24 := hE3.trans hB4
   have a04 := (hB2.trans hE24).keep lA a0
   have HX4 := Lh (And.intro hB2 (And.intro hE24 (And.intro hR4 (And.intro hBv (And.intro hvl (And.intro hok1 hok2))))))
   have HXR := Lh (And.intro hk (And.intro hpa (And.intro hc (And.intro hsv hsl))))
   clear hB2 hE3 hblk hk hv hpa hc hsv hBv HX HHS hB4 hR4 hblk4 hE24 hok1 hok2 hok3 hvl g8 hsl a0
   go_wp2_with fail
   obtain ⟨hB2, hE24, hR4, hBv, hvl, hok1, hok2⟩ := HX4.out
   obtain ⟨hk, hpa, hc, hsv, hsl⟩ := HXR.out
   have hE5 : Ext w2 (w4.setCell ⟨w2.heap.size, 2, none⟩ (.slice sa vs.length sc)) := hE24.set (p := ⟨w2.heap.size, 2, none⟩) (Nat.le_refl _) _
   have hR5 : B5 (w4.setCell ⟨w2.heap.size, 2, none⟩ (.slice sa vs.length sc)) wa.heap.size zeroN (.slice none 0 0) (.slice none 0 0) := hR4.block (by simp) (Below.heap_setCell _ _ _ _ (by have := HBR.out.lt; have := hB2.size; simp only; omega))
   obtain ⟨w5, hw5⟩ : ∃ W, w4.setCell ⟨w2.heap.size, 2, none⟩ (.slice sa vs.length sc) = W := ⟨_, rfl⟩
   rw [hw5] at hE5 hR5 ⊢
   have HAT : Hid (Calls Tryz.prog 57 #[.agg #[.int .i64 last, .string (bs n.name), .slice k n.key.length kc, .slice sa vs.length sc, .slice pa n.parts.length pc, .slice c n.kids.length cc], .int .i64 v] w5 fun e w' => (∃ xa xk, e = .returned (.tuple #[.agg #[.int .i64 1, .string (bs n.name), .string ⟨#[]⟩, xa, xk], .nilIface]) ∧ Rep w' (fun b => w5.heap.size ≤ b) xa (attrsD (atN v n).attrs) ∧ Rep w' (fun b => w5.heap.size ≤ b) xk (nodesD (atN v n).kids)) ∧ Ext w5 w') := Lh (by
    have h := archat_ok last v (setVers n vs) (fun _ => True) (.slice k n.key.length kc) (.slice sa vs.length sc) (.slice pa n.parts.length pc) (.slice c n.kids.length cc) w5 hvl.1 hvl.2 (by show ahas vs v = true; unfold ahas; rw [hBv]; split <;> rfl) (by rw [setVers_B]; exact hok1) hok2 ((hk.ext hE5).ok fun _ _ => trivial) ((hsv.ext hE5).ok fun _ _ => trivial) ((hpa.ext hE5).ok fun _ _ => trivial) ((hc.ext hE5).ok fun _ _ => trivial)
    rw [setVers_at] at h
    exact h)
   have HZ := Lh (And.intro (HE.out.2.trans (hB2.trans hE5)) hR5)
   clear hw5 hB2 hE24 hR4 hBv hvl hok1 hok2 hk hpa hc hsv hsl hE5 hR5 HX4 HXR b0 b1 b2 b3 b4 z2 a04 l8
   refine HAT.out.mono ?_
   rintro e w6 ⟨⟨ua, uk, rfl, hua, huk⟩, hB6⟩
   clear HAT
   obtain ⟨ya, yc, rfl, _, _⟩ := hua.count z_attr (by omega)
   obtain ⟨yk, ykc, rfl, _, _⟩ := huk.count z_node (by omega)
   obtain ⟨w7, hw7⟩ : ∃ W, w6.alloc (.cells #[.int .i64 1, .string (bs n.name), .string ⟨#[]⟩, .slice ya (atN v n).attrs.length yc, .slice yk (atN v n).kids.length ykc] 60) = W := ⟨_, rfl⟩
   have hE7 : Ext w6 w7 := by rw [← hw7]; exact (Ext.refl w6).alloc _
   have hR7 := (HZ.out.2.ext hB6).ext hE7
   have c0 := hR7.c0; have c1 := hR7.c1; have c2 := hR7.c2; have c3 := hR7.c3; have c4 := hR7.c4
   have f0 := hR7.f0; have f1 := hR7.f1; have f2 := hR7.f2; have f3 := hR7.f3; have f4 := hR7.f4
   have HX := Lh (And.intro hua (And.intro huk (And.intro hB6 (And.intro hE7 hR7))))
   clear hua huk hB6 hE7 hR7
   subst hw7
   go_wp2_with fail
   have e5 : bs (outN1 n.name).text = ⟨#[]⟩ := rfl
   have hput := B5.put (n := outN1 n.name) (xa := .slice ya (atN v n).attrs.length yc) (xk := .slice yk (atN v n).kids.length ykc) HX.out.2.2.2.2
   unfold st5 at hput
   rw [e5] at hput
   refine bodyPost_ret (res_node rfl _ _ _ ⟨wa.heap.size, 0, none⟩ ?_ (load_node hput)) rfl ?_
   ·
    rfl
   obtain ⟨hua, huk, hB6, hE7, hR7⟩ := HX.out
   have hX := HZ.out.1.trans (hB6.trans hE7)
   have hlR := HZ.out.2.lt
   have hz := HZ.out.1.size
   have hne : ∀ b, w5.heap.size ≤ b → b ≠ wa.heap.size := fun b hb => by omega
   unfold RetU
   simp only
   rw [if_pos hBv9.out]
   refine ⟨⟨_, _, rfl, ?_, ?_⟩, (((((hX.set (p := ⟨wa.heap.size, 0, none⟩) hgr _).set (p := ⟨wa.heap.size, 1, none⟩) hgr _).set (p := ⟨wa.heap.size, 2, none⟩) hgr _).set (p := ⟨wa.heap.size, 3, none⟩) hgr _).set (p := ⟨wa.heap.size, 4, none⟩) hgr _)⟩
   ·
    exact ((hua.ext hE7).kept fun b hb hlt => heap_set5 (hne b hb) _ _ _ _ _).ok fun b hb => Nat.le_trans hz hb
   ·
    exact ((huk.ext hE7).kept fun b hb hlt => heap_set5 (hne b hb) _ _ _ _ _).ok fun b hb => Nat.le_trans hz hb
end Go.Proofs.YtkelpbbekeelcaaGreatDoor
