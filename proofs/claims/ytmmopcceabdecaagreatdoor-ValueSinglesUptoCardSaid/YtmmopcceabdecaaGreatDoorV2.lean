/-
  Tables: recensionref22.Doc, recensionlaw23.table. Helper lemmas; no statement of the seat is proved here.
-/
import Derived.Test.YtmmopcceabdecaaGreatDoorV1
namespace Go.Proofs.YtmmopcceabdecaaGreatDoor
open Go.RowKit
set_option maxRecDepth 100000
set_option linter.unusedVariables false
set_option linter.unusedSimpArgs false

/-- A table, as it comes. -/
def DocRet (w : World) (e : Ending) (w' : World) : Prop := ∃ (L : List QN) (rv : Value), e = .returned rv ∧ 0 < L.length ∧ L.length ≤ 1048577 ∧ w'.ownsRow w.heap.size 66 6 rv L.length (L.flatMap qnV) ∧ TOk 0 L.length L ∧ Ext w w' ∧ totT L ≤ 1048576
theorem front_self (nm : Bytes) : frontS [⟨[nm], []⟩] [nm] = true := by simp [frontS, aboveS, findS, textsS]
theorem TOk.root {L : List QN} (h : TOk 1 (1 + L.length) L) {q : QN} (hq : qnF q) (hf : q.fin = L.length + 1) : TOk 0 ((q :: L).length) (q :: L) := fun j x hj => by
  match j, hj with
  | 0, hj => cases hj; exact ⟨hq, by omega, by simp only [List.length_cons]; omega⟩
  | j + 1, hj =>
    obtain ⟨h1, h2, h3⟩ := h j x hj
    exact ⟨h1, by omega, by simp only [List.length_cons]; omega⟩
mutual
theorem nsz_cnt : ∀ x : Node, nsz x ≤ cntN x
  | .mk k n t la ks => by have := nszL_cnt ks; rw [nsz, cntN]; omega
theorem nszL_cnt : ∀ l : List Node, nszL l ≤ cntL l
  | [] => by rw [nszL, cntL]; omega
  | a :: r => by have := nsz_cnt a; have := nszL_cnt r; rw [nszL, cntL]; omega
end
set_option maxHeartbeats 16000000 in
theorem doc_any (n : Node) (p q : Nat → Prop) (rv va vk : Value) (w : World) (hcnt : cntN n ≤ 1048576) (hrv : Rep w q rv (rulesD [⟨[n.name], []⟩])) (hva : Rep w p va (attrsD n.attrs)) (hvk : Rep w p vk (nodesD n.kids)) :
    Calls Tryz.prog 13 #[rv, .agg #[.int .i64 n.kind, .string (bs n.name), .string (bs n.text), va, vk]] w (DocRet w) := by
  obtain ⟨ba, ca, rfl, _, _⟩ := hva.count z_attr (by omega)
  obtain ⟨bk, ck, rfl, _, _⟩ := hvk.count z_node (by omega)
  have hown := cntN_own n
  have hnl : n.name.length ≤ 1048576 := by omega
  have hns := nsz_cnt n
  obtain ⟨i0, hin0, hq0, hq1, hq2⟩ := info_parts infoQN
  obtain ⟨wz, hwz⟩ : ∃ W', w.alloc (.cells #[.int .i64 n.kind, .string (bs n.name), .string (bs n.text), .slice ba n.attrs.length ca, .slice bk n.kids.length ck] 25) = W' := ⟨_, rfl⟩
  have hE : Ext w wz := by rw [← hwz]; exact (Ext.refl w).alloc _
  have hblk : wz.heap[w.heap.size]? = some (.cells [.int .i64 n.kind, .string (bs n.name), .string (bs n.text), .slice ba n.attrs.length ca, .slice bk n.kids.length ck].toArray 25 (0, 0)) := by rw [← hwz]; exact Array.getElem?_push_size
  have hbl := blk_lt hblk
  have b0 := blk_cells hblk 0 rfl; have b1 := blk_cells hblk 1 rfl; have b2 := blk_cells hblk 2 rfl; have b3 := blk_cells hblk 3 rfl; have b4 := blk_cells hblk 4 rfl
  obtain ⟨wy, hwy⟩ : ∃ W', wz.alloc (.cells #[.string (bs n.name)] 9) = W' := ⟨_, rfl⟩
  have hE2 : Ext wz wy := by rw [← hwy]; exact (Ext.refl wz).alloc _
  have hrs : Rep wy (fun _ => True) (.slice (some ⟨wz.heap.size, 0, none⟩) 1 1) (strsD [n.name]) := by
    rw [← hwy]
    exact rep_lit (n := 1) (z := 1) rfl rfl (by decide) (Reps.cons (Rep.string _ _ _ (by rw [bs_size]; omega)) (Reps.nil _ _))
  have hNX := tnodes_any rv _ n p 1 0 ([47] ++ n.name) (.slice ba n.attrs.length ca) (.slice bk n.kids.length ck) (.slice (some ⟨wz.heap.size, 0, none⟩) 1 1) wy (Nat.le_refl _) hcnt ((hva.ext hE).ext hE2) ((hvk.ext hE).ext hE2) (by omega) (by omega) (by simp only [List.length_append, List.length_cons, List.length_nil]; omega) (.inr ⟨_, _, rfl, fun W hX => by
    have h := front_q q (fun _ => True) [⟨[n.name], []⟩] [n.name] rv _ W (((hrv.ext hE).ext hE2).ext hX) (hrs.ext hX)
    rw [front_self] at h
    exact h.mono fun e w' ⟨h1, h2⟩ => ⟨h1, h2.ext⟩⟩)
  rw [← bs_append, show bs [47] = ⟨#[47]⟩ from rfl] at hNX
  have HNX := Lib.hid hNX
  have HE := Lib.hid (hE.trans hE2)
  have r1 : ¬ 9223372036854775807 < 1 + (bs n.name).size := by rw [bs_size]; omega
  have HC := Lib.hid hcnt
  clear hNX hrs hva hvk hrv hE hE2 hown hns hblk
  go_enter Tryz.func13, Tryz.ntmps13
  go_wp2_with fail
  refine HNX.out.mono ?_
  rintro e w1 ⟨L, lv, rfl, h0, hc, ho, ht, hX, hS⟩
  have HS := Lib.hid hS
  obtain ⟨g, c, rfl, _, _⟩ := own_pos ho h0
  have hl : (L.length : Int) ≤ 1048576 := by have := HC.out; omega
  have hl8 : L.length ≤ 1048576 := by have := HC.out; omega
  have HO := Lib.hid (And.intro ho (And.intro ht (HE.out.trans hX)))
  have hrow := World.ownsRow_lit (base := w.heap.size) (e := 66) (size := 6) w1 #[.int .i64 6, .string ⟨#[]⟩, .string ⟨#[]⟩, .int .i64 (-1), .int .i64 (L.length + 1), .string ⟨#[47]⟩] 1 HO.out.2.2.size (by unfold maxLen; decide) rfl
  obtain ⟨w2, hw2⟩ : ∃ W', w1.alloc (.cells #[.int .i64 6, .string ⟨#[]⟩, .string ⟨#[]⟩, .int .i64 (-1), .int .i64 (L.length + 1), .string ⟨#[47]⟩] 66) = W' := ⟨_, rfl⟩
  have hE3 : Ext w1 w2 := by rw [← hw2]; exact (Ext.refl w1).alloc _
  rw [hw2] at hrow
  have HR := Lib.hid (And.intro hrow (And.intro (rows_ext ho hE3) (HO.out.2.2.trans hE3)))
  clear HNX ho ht hX hrow hE3 hS
  go_wp2_with (at_builtin; refine wpList_append_own_at _ rfl (.tmp 19) (.tmp 20) _ rfl w.heap.size 66 i0 (.agg #[.int .i64 0, .string ⟨#[]⟩, .string ⟨#[]⟩, .int .i64 0, .int .i64 0, .string ⟨#[]⟩]) 6 72 Tryz.underlying34 hin0 hq0 hq1 hq2 rfl (by decide) (.slice (some ⟨w1.heap.size, 0, none⟩) 1 1) 1 _ rfl HR.out.1 ⟨g, 0, none⟩ L.length c (L.flatMap qnV) rfl (qnV_len L) (HR.out.2.1.cells (g := g) rfl) (one_qns L) (by unfold maxLen; omega) (by omega) HR.out.2.2.size ?_; intro v7 w7 hown7 hgrow7 _ hat7; have HO7 := Lib.hid (And.intro hown7 hgrow7); clear hown7 hgrow7 hat7)
  go_ret
  refine ⟨⟨6, [], [], -1, L.length + 1, [47]⟩ :: L, _, rfl, by simp, by simp only [List.length_cons]; omega, ?_, HO.out.2.1.root ⟨Nat.zero_le _, Nat.zero_le _, by show 1 ≤ _; omega⟩ rfl, Below.grown HR.out.2.2 HO7.out.2 (Below.size HR.out.2.2) fun k hk => (HR.out.1.lt k hk).1, by have h1 := HS.out; have h2 := HC.out; show 0 + totT L ≤ _; omega⟩
  have h1 := HO7.out.1
  rw [show (⟨6, [], [], -1, L.length + 1, [47]⟩ :: L : List QN).length = 1 + L.length by simp only [List.length_cons]; omega]
  exact h1
set_option maxHeartbeats 16000000 in
theorem table_any (n : Node) (p : Nat → Prop) (va vk : Value) (w : World) (hcnt : cntN n ≤ 1048576) (hva : Rep w p va (attrsD n.attrs)) (hvk : Rep w p vk (nodesD n.kids)) :
    Calls Tryz.prog 6 #[.agg #[.int .i64 n.kind, .string (bs n.name), .string (bs n.text), va, vk]] w fun e w' => ∃ (L : List QN) (rv : Value), e = .returned rv ∧ L.length ≤ 1048577 ∧ Rep w' (fun _ => True) rv (qnsD L) ∧ TOk 0 L.length L ∧ Ext w w' ∧ totT L ≤ 1048576 := by
  obtain ⟨ba, ca, rfl, _, _⟩ := hva.count z_attr (by omega)
  obtain ⟨bk, ck, rfl, _, _⟩ := hvk.count z_node (by omega)
  have hown := cntN_own n
  have hnl : n.name.length ≤ 1048576 := by omega
  obtain ⟨wz, hwz⟩ : ∃ W', w.alloc (.cells #[.int .i64 n.kind, .string (bs n.name), .string (bs n.text), .slice ba n.attrs.length ca, .slice bk n.kids.length ck] 25) = W' := ⟨_, rfl⟩
  have hE : Ext w wz := by rw [← hwz]; exact (Ext.refl w).alloc _
  have hblk : wz.heap[w.heap.size]? = some (.cells [.int .i64 n.kind, .string (bs n.name), .string (bs n.text), .slice ba n.attrs.length ca, .slice bk n.kids.length ck].toArray 25 (0, 0)) := by rw [← hwz]; exact Array.getElem?_push_size
  have hbl := blk_lt hblk
  obtain ⟨wy, hwy⟩ : ∃ W', wz.alloc (.cells #[.string (bs n.name)] 9) = W' := ⟨_, rfl⟩
  have hE2 : Ext wz wy := by rw [← hwy]; exact (Ext.refl wz).alloc _
  have hrs : Rep wy (fun _ => True) (.slice (some ⟨wz.heap.size, 0, none⟩) 1 1) (strsD [n.name]) := by
    rw [← hwy]
    exact rep_lit (n := 1) (z := 1) rfl rfl (by decide) (Reps.cons (Rep.string _ _ _ (by rw [bs_size]; omega)) (Reps.nil _ _))
  obtain ⟨wx, hwx⟩ : ∃ W', wy.alloc (.cells #[.slice (some ⟨wz.heap.size, 0, none⟩) 1 1, .slice none 0 0] 49) = W' := ⟨_, rfl⟩
  have hE3 : Ext wy wx := by rw [← hwx]; exact (Ext.refl wy).alloc _
  have hrr : Rep wx (fun _ => True) (.slice (some ⟨wy.heap.size, 0, none⟩) 1 1) (rulesD [⟨[n.name], []⟩]) := by
    rw [← hwx]
    exact rep_lit (n := 1) (z := 2) rfl rfl (by decide) (Reps.cons hrs (Reps.cons (.nil 1) (Reps.nil _ _)))
  have hX := hE.trans (hE2.trans hE3)
  have HD := Lib.hid (doc_any n p _ _ _ _ wx hcnt hrr (hva.ext hX) (hvk.ext hX))
  have HX := Lib.hid hX
  have b1 := blk_cells hblk 1 rfl
  have hX3 := hE2.trans hE3
  have c0 := hX3.keep hbl (blk_cells hblk 0 rfl); have c1 := hX3.keep hbl (blk_cells hblk 1 rfl); have c2 := hX3.keep hbl (blk_cells hblk 2 rfl); have c3 := hX3.keep hbl (blk_cells hblk 3 rfl); have c4 := hX3.keep hbl (blk_cells hblk 4 rfl)
  clear hva hvk hE hE2 hE3 hrs hrr hX hX3 hown hblk
  go_enter Tryz.func6, Tryz.ntmps6
  go_wp2_with fail
  refine HD.out.mono ?_
  rintro e w1 ⟨L, lv, rfl, h0, hc, ho, ht, hX, hS⟩
  obtain ⟨g, c, rfl, hbg, hlg⟩ := own_pos ho h0
  have hR : Rep w1 (fun _ => True) (.slice (some ⟨g, 0, none⟩) L.length c) (qnsD L) := by
    have h2 : Own w1 (fun _ => False) wx.heap.size 66 6 (.slice (some ⟨g, 0, none⟩) L.length c) L.length (L.flatMap qnC) := ⟨_, ho, (qnV_reps w1 _ L fun q hq => by
      obtain ⟨j, hj, e⟩ := List.getElem_of_mem hq
      exact (ht j q (by rw [List.getElem?_eq_getElem hj, e])).1)⟩
    exact h2.rep.ok fun _ _ => trivial
  have HF := Lib.hid (And.intro hc (And.intro hR (And.intro ht (And.intro (HX.out.trans hX) hS))))
  clear HD hS ho ht hX hR h0
  go_wp2_with fail
  go_ret
  exact ⟨L, _, rfl, HF.out.1, HF.out.2.1, HF.out.2.2.1, HF.out.2.2.2.1, HF.out.2.2.2.2⟩
end Go.Proofs.YtmmopcceabdecaaGreatDoor
