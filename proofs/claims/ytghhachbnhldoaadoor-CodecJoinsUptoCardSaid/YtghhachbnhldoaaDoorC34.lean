/-
  law18's awake. Helper lemmas; no statement of the seat is proved here.
-/
import Derived.Test.YtghhachbnhldoaaDoorC33
namespace Go.Proofs.YtghhachbnhldoaaDoor
open Go.RowKit
set_option maxRecDepth 100000
set_option linter.unusedVariables false
set_option linter.unusedSimpArgs false

theorem awE_len : (editsB [awE]).length = 14 := by kernel_rfl
theorem lit_rep (w : World) (L : Bytes) (cs : Array Value) (h : cs = (rowB L).toArray) (n : Nat) (hn : n = L.length) (hl : n ≤ 9223372036854775807) : Rep (w.alloc (.cells cs 5)) (fun _ => True) (.slice (some ⟨w.heap.size, 0, none⟩) n n) (numsD .u8 (byI L)) := by
  subst h hn
  exact rep_lit (by simp [rowB_len]) (by rw [flat_len _ 1 (z_num .u8), byI_len]) hl (nums_reps w _ .u8 (byI L))
set_option maxHeartbeats 16000000 in
theorem awake18_any (w : World) (hg : GlobE w) : Calls Tryd.prog 4 #[] w fun e w' => e = .returned (.bool true) ∧ Ext w w' := by
  have HC := Lib.hid (carch0_any w)
  have HG := Lib.hid hg
  clear hg
  go_enter Tryd.func4, Tryd.ntmps4
  go_wp2_with fail
  refine HC.out.mono ?_
  rintro e w1 ⟨⟨rv, rfl, hr⟩, hX1⟩
  obtain ⟨g1, c1, rfl, hb1, hl1, hc1⟩ := own_some hr (by decide)
  have hcell := hc1 0 _ rfl
  rw [addr0] at hcell
  obtain ⟨x1, hx1⟩ : ∃ W, w1.alloc (.cells #[.int .u8 0] 5) = W := ⟨_, rfl⟩
  have hE1 : Ext w1 x1 := by rw [← hx1]; exact (Ext.refl w1).alloc _
  have hr1 : Rep x1 (fun _ => True) (.slice (some ⟨w1.heap.size, 0, none⟩) 1 1) (numsD .u8 (byI (editsB [] ++ []))) := by rw [← hx1]; exact lit_rep w1 [0] _ rfl 1 rfl (by decide)
  have HC2 := Lib.hid (readedits_any [] [] _ _ x1 (by decide) (fun x hx => by cases hx) hr1)
  have H1 := Lib.hid (And.intro hX1 (And.intro hl1 (And.intro hcell hE1)))
  clear HC hX1 hl1 hc1 hr hb1 hcell hE1 hr1
  go_wp2_with fail
  refine HC2.out.mono ?_
  rintro e w2 ⟨hr2, hX2⟩
  obtain ⟨l2, rfl, hl2⟩ := hr2.1 rfl
  obtain ⟨a2, cc2, rfl, _, _⟩ := hl2.count z_edit (by omega)
  obtain ⟨x2, hx2⟩ : ∃ W, w2.alloc (.cells #[.int .u8 0, .int .u8 0] 5) = W := ⟨_, rfl⟩
  have hE2 : Ext w2 x2 := by rw [← hx2]; exact (Ext.refl w2).alloc _
  have hr3 : Rep x2 (fun _ => True) (.slice (some ⟨w2.heap.size, 0, none⟩) 2 2) (numsD .u8 (byI (editsB [] ++ [0]))) := by rw [← hx2]; exact lit_rep w2 [0, 0] _ rfl 2 rfl (by decide)
  have HC3 := Lib.hid (readedits_any [] [0] _ _ x2 (by decide) (fun x hx => by cases hx) hr3)
  have H2 := Lib.hid ((H1.out.2.2.2.trans hX2).trans hE2)
  clear HC2 hr2 hl2 hX2 hE2 hr3 hx1
  simp only [List.length_nil] at *
  go_wp2_with fail
  refine HC3.out.mono ?_
  rintro e w3 ⟨hr4, hX3⟩
  obtain ⟨ev, rfl, lo, hev⟩ := hr4.2 rfl
  have HEV := Lib.hid hev
  obtain ⟨eb1, eb2, rfl, _⟩ := hev
  obtain ⟨x3, hx3⟩ : ∃ W, w3.alloc (.cells #[.string ⟨#[100, 98]⟩, .slice none 0 0] 47) = W := ⟨_, rfl⟩
  have hE3 : Ext w3 x3 := by rw [← hx3]; exact (Ext.refl w3).alloc _
  have hs3 : Rep x3 (fun _ => True) (.slice (some ⟨w3.heap.size, 0, none⟩) 1 1) (stepsD [⟨[100, 98], []⟩]) := by rw [← hx3]; exact rep_lit rfl rfl (by decide) (Reps.cons (Rep.string _ _ (bs [100, 98]) (by decide)) (Reps.cons (.nil 1) (Reps.nil _ _)))
  obtain ⟨x4, hx4⟩ : ∃ W, x3.alloc (.cells #[.int .i64 1, .slice (some ⟨w3.heap.size, 0, none⟩) 1 1, .slice none 0 0, .slice none 0 0, .int .i64 0, .string ⟨#[]⟩, .string ⟨#[]⟩, .slice none 0 0, .slice none 0 0] 54) = W := ⟨_, rfl⟩
  have hE4 : Ext x3 x4 := by rw [← hx4]; exact (Ext.refl x3).alloc _
  have hs4 : Rep x4 (fun _ => True) (.slice (some ⟨x3.heap.size, 0, none⟩) 1 1) (editsD [awE]) := by
    rw [← hx4]
    exact rep_lit rfl rfl (by decide) (Reps.cons (Rep.int _ _ _ _) (Reps.cons hs3 (Reps.cons (.nil 2) (Reps.cons (.nil 5) (Reps.cons (Rep.int _ _ _ _) (Reps.cons (Rep.string _ _ (bs []) (by decide)) (Reps.cons (Rep.string _ _ (bs []) (by decide)) (Reps.cons (.nil 2) (Reps.cons (.nil 5) (Reps.nil _ _))))))))))
  have HC4 := Lib.hid (edits_any [awE] _ _ x4 hs4 (by rw [awE_len]; decide))
  rw [awE_enc] at HC4
  have H3 := Lib.hid (And.intro (H2.out.trans hX3) (hE3.trans hE4))
  clear HC3 hr4 hX3 hE3 hE4 hs3 hs4 hx2
  go_wp2_with fail
  refine HC4.out.mono ?_
  rintro e w4 ⟨⟨rv, rfl, hr5⟩, hX4⟩
  have hX14 := (H3.out.1.trans H3.out.2).trans hX4
  have k1 := hX14.keep H1.out.2.1 H1.out.2.2.1
  have hW4 := H1.out.1.trans hX14
  have HCO := Lib.hid (code_any 52 0 lo _ w4 (HG.out.ext hW4) ((HEV.out.ext H3.out.2).ext hX4))
  have hrb := rowB_rep hr5
  have HRB := Lib.hid hrb
  obtain ⟨a5, cc5, rfl, _, _⟩ := by_count hrb
  have HF := Lib.hid hW4
  clear HC4 hr5 hrb hX14 hW4 hX4 hx3 hx4
  go_wp2_with fail
  refine HCO.out.mono ?_
  rintro e w5 ⟨rfl, hX5⟩
  have HBY := Lib.hid (bytes_any [1, 1, 1, 2, 100, 98, 0, 0, 0, 0, 0, 0, 0, 0] [1, 1, 1, 2, 100, 98, 0, 0, 0, 0, 0, 0, 0, 0] _ _ _ _ (w5.alloc (.cells #[.int .u8 1, .int .u8 1, .int .u8 1, .int .u8 2, .int .u8 100, .int .u8 98, .int .u8 0, .int .u8 0, .int .u8 0, .int .u8 0, .int .u8 0, .int .u8 0, .int .u8 0, .int .u8 0] 5)) ((HRB.out.ext hX5).ext ((Ext.refl w5).alloc _)) (lit_rep w5 [1, 1, 1, 2, 100, 98, 0, 0, 0, 0, 0, 0, 0, 0] #[.int .u8 1, .int .u8 1, .int .u8 1, .int .u8 2, .int .u8 100, .int .u8 98, .int .u8 0, .int .u8 0, .int .u8 0, .int .u8 0, .int .u8 0, .int .u8 0, .int .u8 0, .int .u8 0] rfl 14 rfl (by decide)))
  rw [decide_eq_true rfl] at HBY
  have HF2 := Lib.hid ((HF.out.trans hX5).alloc (.cells #[.int .u8 1, .int .u8 1, .int .u8 1, .int .u8 2, .int .u8 100, .int .u8 98, .int .u8 0, .int .u8 0, .int .u8 0, .int .u8 0, .int .u8 0, .int .u8 0, .int .u8 0, .int .u8 0] 5))
  clear HCO hX5 HRB
  go_wp2_with fail
  refine HBY.out.mono ?_
  rintro e w6 ⟨rfl, hX6⟩
  go_wp2_with fail
  go_ret
  exact ⟨rfl, HF2.out.trans hX6⟩

end Go.Proofs.YtghhachbnhldoaaDoor
