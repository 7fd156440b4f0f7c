/-
  QparseSame's walk. Helper lemmas; no statement of the seat is proved here.
-/
import Derived.Test.YtfoclfefjcnllaaGreatDoorZ52
import Derived.Test.YtfoclfefjcnllaaGreatDoorZ53
namespace Go.Proofs.YtfoclfefjcnllaaGreatDoor
open Go.RowKit
set_option maxRecDepth 100000
set_option linter.unusedVariables false
set_option linter.unusedSimpArgs false

set_option maxHeartbeats 16000000 in
theorem qsame_e1e (S T0 : List UInt8) (hS : S.length ≤ 1000) (hT : T0.length ≤ 1000) (W : World) (HV : QEnv W) (HG : GlobE W) {c1 a1 : Int} (e1 : parseP S = .error (c1, a1)) {c2 a2 : Int} (e2 : parseP T0 = .error (c2, a2)) :
    Calls Tryz.prog 5 #[.string (bs S), .string (bs T0)] W fun e w' => e = .returned (.bool true) ∧ Ext W w' := by
  have HA := Lib.hid (awake_any W HV HG)
  have P1 := fun w (h : Ext W w) => parse_qany S w hS (HV.ext h)
  have P2 := fun w (h : Ext W w) => parse_qany T0 w hT (HV.ext h)
  simp only [e1, e2] at P1 P2
  have H1 := Lib.hid P1
  have H2 := Lib.hid P2
  have hz1 : (bs S).size = S.length := bs_size S
  have hz2 : (bs T0).size = T0.length := bs_size T0
  have hi1 : ¬ (1000 : Int) < (S.length : Int) := by omega
  have hi2 : ¬ (1000 : Int) < (T0.length : Int) := by omega
  have HVG := Lib.hid (And.intro HV HG)
  have hnz := parse_nz S hS W HV e1
  have hq1 : (c1 != 0) = true := by rw [bne_iff_ne]; exact hnz
  clear hnz
  clear P1 P2 HV HG
  go_enter Tryz.func5, Tryz.ntmps5
  go_wp2_with fail
  refine HA.out.mono ?_
  rintro e w1 ⟨rfl, hX1⟩
  clear HA
  have HE1 := Lib.hid hX1
  clear hX1
  go_wp2_with fail
  refine (H1.out w1 HE1.out).mono ?_
  rintro e w2 ⟨hX, v1, rfl, hev⟩
  obtain ⟨w3, hw3⟩ : ∃ w, w2.alloc (.cells #[.string ⟨#[]⟩, .string ⟨#[]⟩, .bool false, .int .i64 0, .slice none 0 0, .bool false, .slice none 0 0] 29) = w := ⟨_, rfl⟩
  have Ew3 : Ext w2 w3 := by rw [← hw3]; exact (Ext.refl w2).alloc _
  have hbw3 : w3.heap[w2.heap.size]? = some (.cells #[.string ⟨#[]⟩, .string ⟨#[]⟩, .bool false, .int .i64 0, .slice none 0 0, .bool false, .slice none 0 0] 29) := by rw [← hw3]; exact Array.getElem?_push_size
  have HR1 := Lib.hid (And.intro (hev.ext Ew3) (And.intro (HE1.out.trans (hX.trans Ew3)) (hX.trans Ew3)))
  clear hev hX Ew3

  have HW3 := Lib.hid hw3
  clear H1 hw3
  go_wp2_with fail
  rw [HW3.out]
  clear HW3
  refine (H2.out w3 HR1.out.2.1).mono ?_
  rintro e w4 ⟨hX, v2, rfl, hev⟩
  obtain ⟨w5, hw5⟩ : ∃ w, w4.alloc (.cells #[.string ⟨#[]⟩, .string ⟨#[]⟩, .bool false, .int .i64 0, .slice none 0 0, .bool false, .slice none 0 0] 29) = w := ⟨_, rfl⟩
  have Ew5 : Ext w4 w5 := by rw [← hw5]; exact (Ext.refl w4).alloc _
  have hbw5 : w5.heap[w4.heap.size]? = some (.cells #[.string ⟨#[]⟩, .string ⟨#[]⟩, .bool false, .int .i64 0, .slice none 0 0, .bool false, .slice none 0 0] 29) := by rw [← hw5]; exact Array.getElem?_push_size
  have HR2 := Lib.hid (And.intro (hev.ext Ew5) (And.intro (HR1.out.2.1.trans (hX.trans Ew5)) (hX.trans Ew5)))
  clear hev hX Ew5

  have HC := Lib.hid (code_any c1 a1 _ v1 w5 (HVG.out.2.ext HR2.out.2.1) (HR1.out.1.ext HR2.out.2.2))
  have HF := Lib.hid HR2.out.2.1
  clear HR1 HR2 H2 HE1
  subst hw5
  go_wp2_with fail
  refine HC.out.mono ?_
  rintro e w6 ⟨rfl, hX6⟩
  clear HC
  go_wp2_with fail
  go_ret
  exact ⟨rfl, HF.out.trans hX6⟩
set_option maxHeartbeats 16000000 in
theorem qsame_e1o (S T0 : List UInt8) (hS : S.length ≤ 1000) (hT : T0.length ≤ 1000) (W : World) (HV : QEnv W) (HG : GlobE W) {c1 a1 : Int} (e1 : parseP S = .error (c1, a1)) {y : Ex} (e2 : parseP T0 = .ok y) :
    Calls Tryz.prog 5 #[.string (bs S), .string (bs T0)] W fun e w' => e = .returned (.bool true) ∧ Ext W w' := by
  have HA := Lib.hid (awake_any W HV HG)
  have P1 := fun w (h : Ext W w) => parse_qany S w hS (HV.ext h)
  have P2 := fun w (h : Ext W w) => parse_qany T0 w hT (HV.ext h)
  simp only [e1, e2] at P1 P2
  have H1 := Lib.hid P1
  have H2 := Lib.hid P2
  have hz1 : (bs S).size = S.length := bs_size S
  have hz2 : (bs T0).size = T0.length := bs_size T0
  have hi1 : ¬ (1000 : Int) < (S.length : Int) := by omega
  have hi2 : ¬ (1000 : Int) < (T0.length : Int) := by omega
  have HVG := Lib.hid (And.intro HV HG)
  have hnz := parse_nz S hS W HV e1
  have hq1 : (c1 != 0) = true := by rw [bne_iff_ne]; exact hnz
  clear hnz
  clear P1 P2 HV HG
  go_enter Tryz.func5, Tryz.ntmps5
  go_wp2_with fail
  refine HA.out.mono ?_
  rintro e w1 ⟨rfl, hX1⟩
  clear HA
  have HE1 := Lib.hid hX1
  clear hX1
  go_wp2_with fail
  refine (H1.out w1 HE1.out).mono ?_
  rintro e w2 ⟨hX, v1, rfl, hev⟩
  obtain ⟨w3, hw3⟩ : ∃ w, w2.alloc (.cells #[.string ⟨#[]⟩, .string ⟨#[]⟩, .bool false, .int .i64 0, .slice none 0 0, .bool false, .slice none 0 0] 29) = w := ⟨_, rfl⟩
  have Ew3 : Ext w2 w3 := by rw [← hw3]; exact (Ext.refl w2).alloc _
  have hbw3 : w3.heap[w2.heap.size]? = some (.cells #[.string ⟨#[]⟩, .string ⟨#[]⟩, .bool false, .int .i64 0, .slice none 0 0, .bool false, .slice none 0 0] 29) := by rw [← hw3]; exact Array.getElem?_push_size
  have HR1 := Lib.hid (And.intro (hev.ext Ew3) (And.intro (HE1.out.trans (hX.trans Ew3)) (hX.trans Ew3)))
  clear hev hX Ew3

  have HW3 := Lib.hid hw3
  clear H1 hw3
  go_wp2_with fail
  rw [HW3.out]
  clear HW3
  refine (H2.out w3 HR1.out.2.1).mono ?_
  rintro e w4 ⟨hX, v, rfl, ga, gc, gd, ge, rfl, hra, hrs, ho, ht⟩
  obtain ⟨w5, hw5⟩ : ∃ w, w4.alloc (.cells #[.string (bs y.op), .string (bs y.text), .bool y.nan, .int .i64 y.val, .slice ga y.args.length gc, .bool y.abs, .slice gd y.steps.length ge] 29) = w := ⟨_, rfl⟩
  have Ew5 : Ext w4 w5 := by rw [← hw5]; exact (Ext.refl w4).alloc _
  have hbw5 : w5.heap[w4.heap.size]? = some (.cells #[.string (bs y.op), .string (bs y.text), .bool y.nan, .int .i64 y.val, .slice ga y.args.length gc, .bool y.abs, .slice gd y.steps.length ge] 29) := by rw [← hw5]; exact Array.getElem?_push_size
  obtain ⟨yb, hyb⟩ : ∃ r, w4.heap.size = r := ⟨_, rfl⟩
  rw [hyb] at hbw5
  have hlyb := blk_lt hbw5
  have HR2 := Lib.hid (And.intro (hra.ext Ew5) (And.intro (hrs.ext Ew5) (And.intro hbw5 (And.intro (HR1.out.2.1.trans (hX.trans Ew5)) (hX.trans Ew5)))))
  clear hra hrs Ew5 hbw5 hX ho ht

  have HC := Lib.hid (code_any c1 a1 _ v1 w5 (HVG.out.2.ext HR2.out.2.2.2.1) (HR1.out.1.ext HR2.out.2.2.2.2))
  have HF := Lib.hid HR2.out.2.2.2.1
  clear HR1 HR2 H2 HE1
  go_wp2_with fail
  refine HC.out.mono ?_
  rintro e w6 ⟨rfl, hX6⟩
  clear HC hw5
  go_wp2_with fail
  go_ret
  exact ⟨rfl, HF.out.trans hX6⟩
set_option maxHeartbeats 16000000 in
theorem qsame_oe (S T0 : List UInt8) (hS : S.length ≤ 1000) (hT : T0.length ≤ 1000) (W : World) (HV : QEnv W) (HG : GlobE W) {x : Ex} (e1 : parseP S = .ok x) {c2 a2 : Int} (e2 : parseP T0 = .error (c2, a2)) :
    Calls Tryz.prog 5 #[.string (bs S), .string (bs T0)] W fun e w' => e = .returned (.bool true) ∧ Ext W w' := by
  have HA := Lib.hid (awake_any W HV HG)
  have P1 := fun w (h : Ext W w) => parse_qany S w hS (HV.ext h)
  have P2 := fun w (h : Ext W w) => parse_qany T0 w hT (HV.ext h)
  simp only [e1, e2] at P1 P2
  have H1 := Lib.hid P1
  have H2 := Lib.hid P2
  have hz1 : (bs S).size = S.length := bs_size S
  have hz2 : (bs T0).size = T0.length := bs_size T0
  have hi1 : ¬ (1000 : Int) < (S.length : Int) := by omega
  have hi2 : ¬ (1000 : Int) < (T0.length : Int) := by omega
  have HVG := Lib.hid (And.intro HV HG)
  have hnz := parse_nz T0 hT W HV e2
  have hq2 : (c2 != 0) = true := by rw [bne_iff_ne]; exact hnz
  clear hnz
  clear P1 P2 HV HG
  go_enter Tryz.func5, Tryz.ntmps5
  go_wp2_with fail
  refine HA.out.mono ?_
  rintro e w1 ⟨rfl, hX1⟩
  clear HA
  have HE1 := Lib.hid hX1
  clear hX1
  go_wp2_with fail
  refine (H1.out w1 HE1.out).mono ?_
  rintro e w2 ⟨hX, v, rfl, aa, ac, ad, ae, rfl, hra, hrs, ho, ht⟩
  obtain ⟨w3, hw3⟩ : ∃ w, w2.alloc (.cells #[.string (bs x.op), .string (bs x.text), .bool x.nan, .int .i64 x.val, .slice aa x.args.length ac, .bool x.abs, .slice ad x.steps.length ae] 29) = w := ⟨_, rfl⟩
  have Ew3 : Ext w2 w3 := by rw [← hw3]; exact (Ext.refl w2).alloc _
  have hbw3 : w3.heap[w2.heap.size]? = some (.cells #[.string (bs x.op), .string (bs x.text), .bool x.nan, .int .i64 x.val, .slice aa x.args.length ac, .bool x.abs, .slice ad x.steps.length ae] 29) := by rw [← hw3]; exact Array.getElem?_push_size
  obtain ⟨xb, hxb⟩ : ∃ r, w2.heap.size = r := ⟨_, rfl⟩
  rw [hxb] at hbw3
  have hlxb := blk_lt hbw3
  have HR1 := Lib.hid (And.intro (hra.ext Ew3) (And.intro (hrs.ext Ew3) (And.intro hbw3 (And.intro (HE1.out.trans (hX.trans Ew3)) (hX.trans Ew3)))))
  clear hra hrs Ew3 hbw3 hX ho ht

  clear H1
  go_wp2_with fail
  refine (H2.out w3 HR1.out.2.2.2.1).mono ?_
  rintro e w4 ⟨hX, v2, rfl, hev⟩
  obtain ⟨w5, hw5⟩ : ∃ w, w4.alloc (.cells #[.string ⟨#[]⟩, .string ⟨#[]⟩, .bool false, .int .i64 0, .slice none 0 0, .bool false, .slice none 0 0] 29) = w := ⟨_, rfl⟩
  have Ew5 : Ext w4 w5 := by rw [← hw5]; exact (Ext.refl w4).alloc _
  have hbw5 : w5.heap[w4.heap.size]? = some (.cells #[.string ⟨#[]⟩, .string ⟨#[]⟩, .bool false, .int .i64 0, .slice none 0 0, .bool false, .slice none 0 0] 29) := by rw [← hw5]; exact Array.getElem?_push_size
  have HR2 := Lib.hid (And.intro (hev.ext Ew5) (And.intro (HR1.out.2.2.2.1.trans (hX.trans Ew5)) (hX.trans Ew5)))
  clear hev hX Ew5

  have HC1 := Lib.hid (code_nil w5)
  have HEV := Lib.hid HR2.out.1
  have HF := Lib.hid HR2.out.2.1
  clear HR1 HR2 H2 HE1 hw3
  subst hw5
  go_wp2_with fail
  refine HC1.out.mono ?_
  rintro e w6 ⟨rfl, hX6⟩
  clear HC1
  have HC := Lib.hid (code_any c2 a2 _ v2 w6 (HVG.out.2.ext (HF.out.trans hX6)) (HEV.out.ext hX6))
  replace HF := Lib.hid (HF.out.trans hX6)
  clear hX6 HEV
  go_wp2_with fail
  refine HC.out.mono ?_
  rintro e w7 ⟨rfl, hX7⟩
  clear HC
  go_wp2_with fail
  go_ret
  exact ⟨rfl, HF.out.trans hX7⟩
set_option maxHeartbeats 16000000 in
theorem qsame_oo (S T0 : List UInt8) (hS : S.length ≤ 1000) (hT : T0.length ≤ 1000) (W : World) (HV : QEnv W) (HG : GlobE W) {x : Ex} (e1 : parseP S = .ok x) {y : Ex} (e2 : parseP T0 = .ok y) :
    Calls Tryz.prog 5 #[.string (bs S), .string (bs T0)] W fun e w' => e = .returned (.bool true) ∧ Ext W w' := by
  have HA := Lib.hid (awake_any W HV HG)
  have P1 := fun w (h : Ext W w) => parse_qany S w hS (HV.ext h)
  have P2 := fun w (h : Ext W w) => parse_qany T0 w hT (HV.ext h)
  simp only [e1, e2] at P1 P2
  have H1 := Lib.hid P1
  have H2 := Lib.hid P2
  have hz1 : (bs S).size = S.length := bs_size S
  have hz2 : (bs T0).size = T0.length := bs_size T0
  have hi1 : ¬ (1000 : Int) < (S.length : Int) := by omega
  have hi2 : ¬ (1000 : Int) < (T0.length : Int) := by omega
  have HVG := Lib.hid (And.intro HV HG)
  have HTT := Lib.hid (And.intro (parse_tx S hS W HV e1) (parse_tx T0 hT W HV e2))
  clear P1 P2 HV HG
  go_enter Tryz.func5, Tryz.ntmps5
  go_wp2_with fail
  refine HA.out.mono ?_
  rintro e w1 ⟨rfl, hX1⟩
  clear HA
  have HE1 := Lib.hid hX1
  clear hX1
  go_wp2_with fail
  refine (H1.out w1 HE1.out).mono ?_
  rintro e w2 ⟨hX, v, rfl, aa, ac, ad, ae, rfl, hra, hrs, ho, ht⟩
  obtain ⟨w3, hw3⟩ : ∃ w, w2.alloc (.cells #[.string (bs x.op), .string (bs x.text), .bool x.nan, .int .i64 x.val, .slice aa x.args.length ac, .bool x.abs, .slice ad x.steps.length ae] 29) = w := ⟨_, rfl⟩
  have Ew3 : Ext w2 w3 := by rw [← hw3]; exact (Ext.refl w2).alloc _
  have hbw3 : w3.heap[w2.heap.size]? = some (.cells #[.string (bs x.op), .string (bs x.text), .bool x.nan, .int .i64 x.val, .slice aa x.args.length ac, .bool x.abs, .slice ad x.steps.length ae] 29) := by rw [← hw3]; exact Array.getElem?_push_size
  obtain ⟨xb, hxb⟩ : ∃ r, w2.heap.size = r := ⟨_, rfl⟩
  rw [hxb] at hbw3
  have hlxb := blk_lt hbw3
  have HR1 := Lib.hid (And.intro (hra.ext Ew3) (And.intro (hrs.ext Ew3) (And.intro hbw3 (And.intro (HE1.out.trans (hX.trans Ew3)) (hX.trans Ew3)))))
  clear hra hrs Ew3 hbw3 hX ho ht

  clear H1
  go_wp2_with fail
  refine (H2.out w3 HR1.out.2.2.2.1).mono ?_
  rintro e w4 ⟨hX, v, rfl, ga, gc, gd, ge, rfl, hra, hrs, ho, ht⟩
  obtain ⟨w5, hw5⟩ : ∃ w, w4.alloc (.cells #[.string (bs y.op), .string (bs y.text), .bool y.nan, .int .i64 y.val, .slice ga y.args.length gc, .bool y.abs, .slice gd y.steps.length ge] 29) = w := ⟨_, rfl⟩
  have Ew5 : Ext w4 w5 := by rw [← hw5]; exact (Ext.refl w4).alloc _
  have hbw5 : w5.heap[w4.heap.size]? = some (.cells #[.string (bs y.op), .string (bs y.text), .bool y.nan, .int .i64 y.val, .slice ga y.args.length gc, .bool y.abs, .slice gd y.steps.length ge] 29) := by rw [← hw5]; exact Array.getElem?_push_size
  obtain ⟨yb, hyb⟩ : ∃ r, w4.heap.size = r := ⟨_, rfl⟩
  rw [hyb] at hbw5
  have hlyb := blk_lt hbw5
  have HR2 := Lib.hid (And.intro (hra.ext Ew5) (And.intro (hrs.ext Ew5) (And.intro hbw5 (And.intro (HR1.out.2.2.2.1.trans (hX.trans Ew5)) (hX.trans Ew5)))))
  clear hra hrs Ew5 hbw5 hX ho ht

  have HC1 := Lib.hid (code_nil w5)
  clear H2 HE1 hw3
  go_wp2_with fail
  refine HC1.out.mono ?_
  rintro e w6 ⟨rfl, hX6⟩
  clear HC1 hw5
  have HC2 := Lib.hid (code_nil w6)
  go_wp2_with fail
  refine HC2.out.mono ?_
  rintro e w7 ⟨rfl, hX7⟩
  clear HC2
  have hE57 := hX6.trans hX7
  have hE37 := HR2.out.2.2.2.2.trans hE57
  have hbx := (Below.block hE37 _ hlxb).trans HR1.out.2.2.1
  have hby := (Below.block hE57 _ hlyb).trans HR2.out.2.2.1
  have hE07 := HR2.out.2.2.2.1.trans hE57
  have HX1 := Lib.hid (And.intro (HR1.out.1.ext hE37) (HR1.out.2.1.ext hE37))
  have HY1 := Lib.hid (And.intro (HR2.out.1.ext hE57) (HR2.out.2.1.ext hE57))
  replace hlxb := blk_lt hbx
  replace hlyb := blk_lt hby
  obtain ⟨k0, k1, k2, k3, k4, k5, k6⟩ := cells7 hbx
  obtain ⟨j0, j1, j2, j3, j4, j5, j6⟩ := cells7 hby
  obtain ⟨wz, hwz⟩ : ∃ w, w7 = w := ⟨_, rfl⟩
  rw [hwz] at HX1 HY1 hE07 k0 k1 k2 k3 k4 k5 k6 j0 j1 j2 j3 j4 j5 j6 hlxb hlyb ⊢
  have HF := Lib.hid hE07
  have HXX := Lib.hid fun w (h : Sx wz w) => same_any x x _ _ _ _ w ⟨aa, ac, ad, ae, rfl, HX1.out.1.ext h, HX1.out.2.ext h⟩ ⟨aa, ac, ad, ae, rfl, HX1.out.1.ext h, HX1.out.2.ext h⟩
  have HXY := Lib.hid fun w (h : Sx wz w) => same_any x y _ _ _ _ w ⟨aa, ac, ad, ae, rfl, HX1.out.1.ext h, HX1.out.2.ext h⟩ ⟨ga, gc, gd, ge, rfl, HY1.out.1.ext h, HY1.out.2.ext h⟩
  have HRXY := Lib.hid fun w (h : Sx wz w) => rsame_any x y _ _ _ _ w ⟨aa, ac, ad, ae, rfl, HX1.out.1.ext h, HX1.out.2.ext h⟩ ⟨ga, gc, gd, ge, rfl, HY1.out.1.ext h, HY1.out.2.ext h⟩
  have HTX := Lib.hid fun w (h : Sx wz w) => HTT.out.1 w _ _ (HVG.out.1.ext (HF.out.trans h)).gl ⟨aa, ac, ad, ae, rfl, HX1.out.1.ext h, HX1.out.2.ext h⟩
  have HTY := Lib.hid fun w (h : Sx wz w) => HTT.out.2 w _ _ (HVG.out.1.ext (HF.out.trans h)).gl ⟨ga, gc, gd, ge, rfl, HY1.out.1.ext h, HY1.out.2.ext h⟩
  rw [same_refl] at HXX
  have HSM : Hid (sameE x y = true → txE y = txE x) := Lib.hid fun h => (same_text h).symm
  obtain ⟨B, hB⟩ : ∃ B, sameE x y = B := ⟨_, rfl⟩
  rw [hB] at HXY HRXY HSM
  clear hB hbx hby hX6 hX7 hE57 hE37 hE07 HR1 HR2 HTT HVG HX1 HY1 hwz
  cases B with
  | true =>
    rw [HSM.out rfl] at HTY
    obtain ⟨T, hT9⟩ : ∃ T, txE x = T := ⟨_, rfl⟩
    rw [hT9] at HTX HTY
    clear hT9 HSM
    go_wp2_with fail
    refine rg_begin (S := Sx wz) (by kernel_rfl) (Sx.begin _) ?_
    have hSp : Sx wz (World.drew wz) := (Sx.begin _)
    refine rg_take 0 (some 37) (.agg #[.string (bs x.op), .string (bs x.text), .bool x.nan, .int .i64 x.val, .slice aa x.args.length ac, .bool x.abs, .slice ad x.steps.length ae]) (oi := { dst := some 37, op := Go.Op.load 29 (Go.Operand.tmp 5), type := 29, pos := "law.go:68", after := #[], guard := none }) rfl rfl (by kernel_rfl) (by kernel_rfl) (by kernel_rfl) (fun _ _ _ h => h) hSp (by rfl) (fun w' hs => by (have h0 := hs.cell hlxb k0; have h1 := hs.cell hlxb k1; have h2 := hs.cell hlxb k2; have h3 := hs.cell hlxb k3; have h4 := hs.cell hlxb k4; have h5 := hs.cell hlxb k5; have h6 := hs.cell hlxb k6; go_simp)) ?_
    simp only [Act.put, List.setIfInBounds_toArray, List.set_cons_zero, List.set_cons_succ]
    refine rg_take 1 (some 38) (.agg #[.string (bs x.op), .string (bs x.text), .bool x.nan, .int .i64 x.val, .slice aa x.args.length ac, .bool x.abs, .slice ad x.steps.length ae]) (oi := { dst := some 38, op := Go.Op.load 29 (Go.Operand.tmp 5), type := 29, pos := "law.go:68", after := #[], guard := none }) rfl rfl (by kernel_rfl) (by kernel_rfl) (by kernel_rfl) (fun _ _ _ h => h) hSp (by rfl) (fun w' hs => by (have h0 := hs.cell hlxb k0; have h1 := hs.cell hlxb k1; have h2 := hs.cell hlxb k2; have h3 := hs.cell hlxb k3; have h4 := hs.cell hlxb k4; have h5 := hs.cell hlxb k5; have h6 := hs.cell hlxb k6; go_simp)) ?_
    simp only [Act.put, List.setIfInBounds_toArray, List.set_cons_zero, List.set_cons_succ]
    refine rg_call 2 (some 39) 12 #[.agg #[.string (bs x.op), .string (bs x.text), .bool x.nan, .int .i64 x.val, .slice aa x.args.length ac, .bool x.abs, .slice ad x.steps.length ae], .agg #[.string (bs x.op), .string (bs x.text), .bool x.nan, .int .i64 x.val, .slice aa x.args.length ac, .bool x.abs, .slice ad x.steps.length ae]] (oi := { dst := some 39, op := Go.Op.call { callee := Go.Callee.value (Go.Operand.func 12), args := #[Go.Operand.tmp 37, Go.Operand.tmp 38], argTypes := #[29, 29] }, type := 4, pos := "law.go:68", after := #[{ on := 0, ground := Go.Ground.data }, { on := 1, ground := Go.Ground.data }], guard := none }) rfl rfl (by kernel_rfl) (by rfl) (fun w' => by first | rfl | go_simp) (R := fun v w' => v = .bool true ∧ Ext (World.drew wz) w') ?_ ?_
    · refine (HXX.out (World.drew wz) hSp).mono ?_
      rintro e w' ⟨rfl, h⟩
      exact ⟨_, rfl, rfl, h⟩
    rintro _ wrp1 ⟨rfl, hBrp1⟩
    have hSp1 := hSp.ext hBrp1
    refine ⟨hSp1, ?_⟩
    simp only [Act.put, List.setIfInBounds_toArray, List.set_cons_zero, List.set_cons_succ]
    refine rg_take 3 (some 40) (.bool true) (oi := { dst := some 40, op := Go.Op.move (Go.Operand.tmp 39), type := 4, pos := "law.go:68", after := #[{ on := 2, ground := Go.Ground.data }, { on := 2, ground := Go.Ground.chain }], guard := none }) rfl rfl (by kernel_rfl) (by kernel_rfl) (by kernel_rfl) (fun _ _ _ h => h) hSp1 (by rfl) (fun w' hs => by rfl) ?_
    simp only [Act.put, List.setIfInBounds_toArray, List.set_cons_zero, List.set_cons_succ]
    refine rg_take 4 (some 41) (.agg #[.string (bs x.op), .string (bs x.text), .bool x.nan, .int .i64 x.val, .slice aa x.args.length ac, .bool x.abs, .slice ad x.steps.length ae]) (oi := { dst := some 41, op := Go.Op.load 29 (Go.Operand.tmp 5), type := 29, pos := "law.go:68", after := #[{ on := 3, ground := Go.Ground.guard }], guard := some (3, true) }) rfl rfl (by kernel_rfl) (by kernel_rfl) (by kernel_rfl) (fun _ _ _ h => h) hSp1 (by rfl) (fun w' hs => by (have h0 := hs.cell hlxb k0; have h1 := hs.cell hlxb k1; have h2 := hs.cell hlxb k2; have h3 := hs.cell hlxb k3; have h4 := hs.cell hlxb k4; have h5 := hs.cell hlxb k5; have h6 := hs.cell hlxb k6; go_simp)) ?_
    simp only [Act.put, List.setIfInBounds_toArray, List.set_cons_zero, List.set_cons_succ]
    refine rg_take 5 (some 42) (.agg #[.string (bs y.op), .string (bs y.text), .bool y.nan, .int .i64 y.val, .slice ga y.args.length gc, .bool y.abs, .slice gd y.steps.length ge]) (oi := { dst := some 42, op := Go.Op.load 29 (Go.Operand.tmp 7), type := 29, pos := "law.go:68", after := #[{ on := 3, ground := Go.Ground.guard }], guard := some (3, true) }) rfl rfl (by kernel_rfl) (by kernel_rfl) (by kernel_rfl) (fun _ _ _ h => h) hSp1 (by rfl) (fun w' hs => by (have h0 := hs.cell hlyb j0; have h1 := hs.cell hlyb j1; have h2 := hs.cell hlyb j2; have h3 := hs.cell hlyb j3; have h4 := hs.cell hlyb j4; have h5 := hs.cell hlyb j5; have h6 := hs.cell hlyb j6; go_simp)) ?_
    simp only [Act.put, List.setIfInBounds_toArray, List.set_cons_zero, List.set_cons_succ]
    refine rg_take 7 (some 44) (.agg #[.string (bs x.op), .string (bs x.text), .bool x.nan, .int .i64 x.val, .slice aa x.args.length ac, .bool x.abs, .slice ad x.steps.length ae]) (oi := { dst := some 44, op := Go.Op.load 29 (Go.Operand.tmp 5), type := 29, pos := "law.go:68", after := #[{ on := 3, ground := Go.Ground.guard }], guard := some (3, true) }) rfl rfl (by kernel_rfl) (by kernel_rfl) (by kernel_rfl) (fun _ _ _ h => h) hSp1 (by rfl) (fun w' hs => by (have h0 := hs.cell hlxb k0; have h1 := hs.cell hlxb k1; have h2 := hs.cell hlxb k2; have h3 := hs.cell hlxb k3; have h4 := hs.cell hlxb k4; have h5 := hs.cell hlxb k5; have h6 := hs.cell hlxb k6; go_simp)) ?_
    simp only [Act.put, List.setIfInBounds_toArray, List.set_cons_zero, List.set_cons_succ]
    refine rg_take 8 (some 45) (.agg #[.string (bs y.op), .string (bs y.text), .bool y.nan, .int .i64 y.val, .slice ga y.args.length gc, .bool y.abs, .slice gd y.steps.length ge]) (oi := { dst := some 45, op := Go.Op.load 29 (Go.Operand.tmp 7), type := 29, pos := "law.go:68", after := #[{ on := 3, ground := Go.Ground.guard }], guard := some (3, true) }) rfl rfl (by kernel_rfl) (by kernel_rfl) (by kernel_rfl) (fun _ _ _ h => h) hSp1 (by rfl) (fun w' hs => by (have h0 := hs.cell hlyb j0; have h1 := hs.cell hlyb j1; have h2 := hs.cell hlyb j2; have h3 := hs.cell hlyb j3; have h4 := hs.cell hlyb j4; have h5 := hs.cell hlyb j5; have h6 := hs.cell hlyb j6; go_simp)) ?_
    simp only [Act.put, List.setIfInBounds_toArray, List.set_cons_zero, List.set_cons_succ]
    refine rg_call 6 (some 43) 12 #[.agg #[.string (bs x.op), .string (bs x.text), .bool x.nan, .int .i64 x.val, .slice aa x.args.length ac, .bool x.abs, .slice ad x.steps.length ae], .agg #[.string (bs y.op), .string (bs y.text), .bool y.nan, .int .i64 y.val, .slice ga y.args.length gc, .bool y.abs, .slice gd y.steps.length ge]] (oi := { dst := some 43, op := Go.Op.call { callee := Go.Callee.value (Go.Operand.func 12), args := #[Go.Operand.tmp 41, Go.Operand.tmp 42], argTypes := #[29, 29] }, type := 4, pos := "law.go:68", after := #[{ on := 4, ground := Go.Ground.data }, { on := 5, ground := Go.Ground.data }, { on := 3, ground := Go.Ground.chain }, { on := 3, ground := Go.Ground.guard }], guard := some (3, true) }) rfl rfl (by kernel_rfl) (by rfl) (fun w' => by first | rfl | go_simp) (R := fun v w' => v = .bool true ∧ Ext wrp1 w') ?_ ?_
    · refine (HXY.out wrp1 hSp1).mono ?_
      rintro e w' ⟨rfl, h⟩
      exact ⟨_, rfl, rfl, h⟩
    rintro _ wrp2 ⟨rfl, hBrp2⟩
    have hSp2 := hSp1.ext hBrp2
    refine ⟨hSp2, ?_⟩
    simp only [Act.put, List.setIfInBounds_toArray, List.set_cons_zero, List.set_cons_succ]
    refine rg_call 9 (some 46) 11 #[.agg #[.string (bs x.op), .string (bs x.text), .bool x.nan, .int .i64 x.val, .slice aa x.args.length ac, .bool x.abs, .slice ad x.steps.length ae], .agg #[.string (bs y.op), .string (bs y.text), .bool y.nan, .int .i64 y.val, .slice ga y.args.length gc, .bool y.abs, .slice gd y.steps.length ge]] (oi := { dst := some 46, op := Go.Op.call { callee := Go.Callee.value (Go.Operand.func 11), args := #[Go.Operand.tmp 44, Go.Operand.tmp 45], argTypes := #[29, 29] }, type := 4, pos := "law.go:68", after := #[{ on := 7, ground := Go.Ground.data }, { on := 8, ground := Go.Ground.data }, { on := 6, ground := Go.Ground.chain }, { on := 3, ground := Go.Ground.guard }], guard := some (3, true) }) rfl rfl (by kernel_rfl) (by rfl) (fun w' => by first | rfl | go_simp) (R := fun v w' => v = .bool true ∧ Ext wrp2 w') ?_ ?_
    · refine (HRXY.out wrp2 hSp2).mono ?_
      rintro e w' ⟨rfl, h⟩
      exact ⟨_, rfl, rfl, h⟩
    rintro _ wrp3 ⟨rfl, hBrp3⟩
    have hSp3 := hSp2.ext hBrp3
    refine ⟨hSp3, ?_⟩
    simp only [Act.put, List.setIfInBounds_toArray, List.set_cons_zero, List.set_cons_succ]
    refine rg_take 10 (some 47) (.bool true) (oi := { dst := some 47, op := Go.Op.binOp Go.BinOp.eql 4 (Go.Operand.tmp 43) (Go.Operand.tmp 46) 4, type := 4, pos := "law.go:68", after := #[{ on := 6, ground := Go.Ground.data }, { on := 9, ground := Go.Ground.data }, { on := 3, ground := Go.Ground.guard }], guard := some (3, true) }) rfl rfl (by kernel_rfl) (by kernel_rfl) (by kernel_rfl) (fun _ _ _ h => h) hSp3 (by rfl) (fun w' hs => by first | rfl | go_simp) ?_
    simp only [Act.put, List.setIfInBounds_toArray, List.set_cons_zero, List.set_cons_succ]
    refine rg_take 11 (some 48) (.bool true) (oi := { dst := some 48, op := Go.Op.pick (Go.Operand.tmp 40) (Go.Operand.tmp 47) (Go.Operand.const (Go.Value.bool false)), type := 4, pos := "law.go:68", after := #[{ on := 3, ground := Go.Ground.data }, { on := 10, ground := Go.Ground.data }], guard := none }) rfl rfl (by kernel_rfl) (by kernel_rfl) (by kernel_rfl) (fun _ _ _ h => h) hSp3 (by rfl) (fun w' hs => by rfl) ?_
    simp only [Act.put, List.setIfInBounds_toArray, List.set_cons_zero, List.set_cons_succ]
    refine rg_take 12 (some 49) (.bool true) (oi := { dst := some 49, op := Go.Op.move (Go.Operand.tmp 48), type := 4, pos := "law.go:68", after := #[{ on := 11, ground := Go.Ground.data }, { on := 9, ground := Go.Ground.chain }], guard := none }) rfl rfl (by kernel_rfl) (by kernel_rfl) (by kernel_rfl) (fun _ _ _ h => h) hSp3 (by rfl) (fun w' hs => by rfl) ?_
    simp only [Act.put, List.setIfInBounds_toArray, List.set_cons_zero, List.set_cons_succ]
    refine rg_take 13 (some 50) (.agg #[.string (bs x.op), .string (bs x.text), .bool x.nan, .int .i64 x.val, .slice aa x.args.length ac, .bool x.abs, .slice ad x.steps.length ae]) (oi := { dst := some 50, op := Go.Op.load 29 (Go.Operand.tmp 5), type := 29, pos := "law.go:68", after := #[{ on := 12, ground := Go.Ground.guard }], guard := some (12, true) }) rfl rfl (by kernel_rfl) (by kernel_rfl) (by kernel_rfl) (fun _ _ _ h => h) hSp3 (by rfl) (fun w' hs => by (have h0 := hs.cell hlxb k0; have h1 := hs.cell hlxb k1; have h2 := hs.cell hlxb k2; have h3 := hs.cell hlxb k3; have h4 := hs.cell hlxb k4; have h5 := hs.cell hlxb k5; have h6 := hs.cell hlxb k6; go_simp)) ?_
    simp only [Act.put, List.setIfInBounds_toArray, List.set_cons_zero, List.set_cons_succ]
    refine rg_take 14 (some 51) (.agg #[.string (bs y.op), .string (bs y.text), .bool y.nan, .int .i64 y.val, .slice ga y.args.length gc, .bool y.abs, .slice gd y.steps.length ge]) (oi := { dst := some 51, op := Go.Op.load 29 (Go.Operand.tmp 7), type := 29, pos := "law.go:68", after := #[{ on := 12, ground := Go.Ground.guard }], guard := some (12, true) }) rfl rfl (by kernel_rfl) (by kernel_rfl) (by kernel_rfl) (fun _ _ _ h => h) hSp3 (by rfl) (fun w' hs => by (have h0 := hs.cell hlyb j0; have h1 := hs.cell hlyb j1; have h2 := hs.cell hlyb j2; have h3 := hs.cell hlyb j3; have h4 := hs.cell hlyb j4; have h5 := hs.cell hlyb j5; have h6 := hs.cell hlyb j6; go_simp)) ?_
    simp only [Act.put, List.setIfInBounds_toArray, List.set_cons_zero, List.set_cons_succ]
    refine rg_call 15 (some 52) 11 #[.agg #[.string (bs x.op), .string (bs x.text), .bool x.nan, .int .i64 x.val, .slice aa x.args.length ac, .bool x.abs, .slice ad x.steps.length ae], .agg #[.string (bs y.op), .string (bs y.text), .bool y.nan, .int .i64 y.val, .slice ga y.args.length gc, .bool y.abs, .slice gd y.steps.length ge]] (oi := { dst := some 52, op := Go.Op.call { callee := Go.Callee.value (Go.Operand.func 11), args := #[Go.Operand.tmp 50, Go.Operand.tmp 51], argTypes := #[29, 29] }, type := 4, pos := "law.go:68", after := #[{ on := 13, ground := Go.Ground.data }, { on := 14, ground := Go.Ground.data }, { on := 12, ground := Go.Ground.chain }, { on := 12, ground := Go.Ground.guard }], guard := some (12, true) }) rfl rfl (by kernel_rfl) (by rfl) (fun w' => by first | rfl | go_simp) (R := fun v w' => v = .bool true ∧ Ext wrp3 w') ?_ ?_
    · refine (HRXY.out wrp3 hSp3).mono ?_
      rintro e w' ⟨rfl, h⟩
      exact ⟨_, rfl, rfl, h⟩
    rintro _ wrp4 ⟨rfl, hBrp4⟩
    have hSp4 := hSp3.ext hBrp4
    refine ⟨hSp4, ?_⟩
    simp only [Act.put, List.setIfInBounds_toArray, List.set_cons_zero, List.set_cons_succ]
    refine rg_take 16 (some 53) (.bool false) (oi := { dst := some 53, op := Go.Op.unOp Go.UnOp.not 4 (Go.Operand.tmp 52), type := 4, pos := "law.go:68", after := #[{ on := 15, ground := Go.Ground.data }, { on := 12, ground := Go.Ground.guard }], guard := some (12, true) }) rfl rfl (by kernel_rfl) (by kernel_rfl) (by kernel_rfl) (fun _ _ _ h => h) hSp4 (by rfl) (fun w' hs => by first | rfl | go_simp) ?_
    simp only [Act.put, List.setIfInBounds_toArray, List.set_cons_zero, List.set_cons_succ]
    refine rg_take 17 (some 54) (.bool false) (oi := { dst := some 54, op := Go.Op.move (Go.Operand.tmp 53), type := 4, pos := "law.go:68", after := #[{ on := 16, ground := Go.Ground.data }, { on := 15, ground := Go.Ground.chain }, { on := 12, ground := Go.Ground.guard }], guard := some (12, true) }) rfl rfl (by kernel_rfl) (by kernel_rfl) (by kernel_rfl) (fun _ _ _ h => h) hSp4 (by rfl) (fun w' hs => by rfl) ?_
    simp only [Act.put, List.setIfInBounds_toArray, List.set_cons_zero, List.set_cons_succ]
    refine rg_take 18 (some 55) (.agg #[.string (bs x.op), .string (bs x.text), .bool x.nan, .int .i64 x.val, .slice aa x.args.length ac, .bool x.abs, .slice ad x.steps.length ae]) (oi := { dst := some 55, op := Go.Op.load 29 (Go.Operand.tmp 5), type := 29, pos := "law.go:68", after := #[{ on := 17, ground := Go.Ground.guard }], guard := some (17, false) }) rfl rfl (by kernel_rfl) (by kernel_rfl) (by kernel_rfl) (fun _ _ _ h => h) hSp4 (by rfl) (fun w' hs => by (have h0 := hs.cell hlxb k0; have h1 := hs.cell hlxb k1; have h2 := hs.cell hlxb k2; have h3 := hs.cell hlxb k3; have h4 := hs.cell hlxb k4; have h5 := hs.cell hlxb k5; have h6 := hs.cell hlxb k6; go_simp)) ?_
    simp only [Act.put, List.setIfInBounds_toArray, List.set_cons_zero, List.set_cons_succ]
    refine rg_take 20 (some 57) (.agg #[.string (bs y.op), .string (bs y.text), .bool y.nan, .int .i64 y.val, .slice ga y.args.length gc, .bool y.abs, .slice gd y.steps.length ge]) (oi := { dst := some 57, op := Go.Op.load 29 (Go.Operand.tmp 7), type := 29, pos := "law.go:68", after := #[{ on := 17, ground := Go.Ground.guard }], guard := some (17, false) }) rfl rfl (by kernel_rfl) (by kernel_rfl) (by kernel_rfl) (fun _ _ _ h => h) hSp4 (by rfl) (fun w' hs => by (have h0 := hs.cell hlyb j0; have h1 := hs.cell hlyb j1; have h2 := hs.cell hlyb j2; have h3 := hs.cell hlyb j3; have h4 := hs.cell hlyb j4; have h5 := hs.cell hlyb j5; have h6 := hs.cell hlyb j6; go_simp)) ?_
    simp only [Act.put, List.setIfInBounds_toArray, List.set_cons_zero, List.set_cons_succ]
    refine rg_call 19 (some 56) 10 #[.agg #[.string (bs x.op), .string (bs x.text), .bool x.nan, .int .i64 x.val, .slice aa x.args.length ac, .bool x.abs, .slice ad x.steps.length ae]] (oi := { dst := some 56, op := Go.Op.call { callee := Go.Callee.value (Go.Operand.func 10), args := #[Go.Operand.tmp 55], argTypes := #[29] }, type := 9, pos := "law.go:68", after := #[{ on := 18, ground := Go.Ground.data }, { on := 17, ground := Go.Ground.chain }, { on := 17, ground := Go.Ground.guard }], guard := some (17, false) }) rfl rfl (by kernel_rfl) (by rfl) (fun w' => by first | rfl | go_simp) (R := fun v w' => v = .string (bs T) ∧ Ext wrp4 w') ?_ ?_
    · refine (HTX.out wrp4 hSp4).mono ?_
      rintro e w' ⟨rfl, h⟩
      exact ⟨_, rfl, rfl, h⟩
    rintro _ wrp5 ⟨rfl, hBrp5⟩
    have hSp5 := hSp4.ext hBrp5
    refine ⟨hSp5, ?_⟩
    simp only [Act.put, List.setIfInBounds_toArray, List.set_cons_zero, List.set_cons_succ]
    refine rg_call 21 (some 58) 10 #[.agg #[.string (bs y.op), .string (bs y.text), .bool y.nan, .int .i64 y.val, .slice ga y.args.length gc, .bool y.abs, .slice gd y.steps.length ge]] (oi := { dst := some 58, op := Go.Op.call { callee := Go.Callee.value (Go.Operand.func 10), args := #[Go.Operand.tmp 57], argTypes := #[29] }, type := 9, pos := "law.go:68", after := #[{ on := 20, ground := Go.Ground.data }, { on := 19, ground := Go.Ground.chain }, { on := 17, ground := Go.Ground.guard }], guard := some (17, false) }) rfl rfl (by kernel_rfl) (by rfl) (fun w' => by first | rfl | go_simp) (R := fun v w' => v = .string (bs T) ∧ Ext wrp5 w') ?_ ?_
    · refine (HTY.out wrp5 hSp5).mono ?_
      rintro e w' ⟨rfl, h⟩
      exact ⟨_, rfl, rfl, h⟩
    rintro _ wrp6 ⟨rfl, hBrp6⟩
    have hSp6 := hSp5.ext hBrp6
    refine ⟨hSp6, ?_⟩
    simp only [Act.put, List.setIfInBounds_toArray, List.set_cons_zero, List.set_cons_succ]
    refine rg_take 22 (some 59) (.bool true) (oi := { dst := some 59, op := Go.Op.binOp Go.BinOp.eql 9 (Go.Operand.tmp 56) (Go.Operand.tmp 58) 9, type := 4, pos := "law.go:68", after := #[{ on := 19, ground := Go.Ground.data }, { on := 21, ground := Go.Ground.data }, { on := 17, ground := Go.Ground.guard }], guard := some (17, false) }) rfl rfl (by kernel_rfl) (by kernel_rfl) (by kernel_rfl) (fun _ _ _ h => h) hSp6 (by rfl) (fun w' hs => by exact exec_seql rfl rfl rfl (beq_self_eq_true _) _) ?_
    simp only [Act.put, List.setIfInBounds_toArray, List.set_cons_zero, List.set_cons_succ]
    refine rg_take 23 (some 60) (.bool true) (oi := { dst := some 60, op := Go.Op.pick (Go.Operand.tmp 54) (Go.Operand.const (Go.Value.bool true)) (Go.Operand.tmp 59), type := 4, pos := "law.go:68", after := #[{ on := 17, ground := Go.Ground.data }, { on := 22, ground := Go.Ground.data }, { on := 12, ground := Go.Ground.guard }], guard := some (12, true) }) rfl rfl (by kernel_rfl) (by kernel_rfl) (by kernel_rfl) (fun _ _ _ h => h) hSp6 (by rfl) (fun w' hs => by rfl) ?_
    simp only [Act.put, List.setIfInBounds_toArray, List.set_cons_zero, List.set_cons_succ]
    refine rg_take 24 (some 61) (.bool true) (oi := { dst := some 61, op := Go.Op.pick (Go.Operand.tmp 49) (Go.Operand.tmp 60) (Go.Operand.const (Go.Value.bool false)), type := 4, pos := "law.go:68", after := #[{ on := 12, ground := Go.Ground.data }, { on := 23, ground := Go.Ground.data }], guard := none }) rfl rfl (by kernel_rfl) (by kernel_rfl) (by kernel_rfl) (fun _ _ _ h => h) hSp6 (by rfl) (fun w' hs => by rfl) ?_
    simp only [Act.put, List.setIfInBounds_toArray, List.set_cons_zero, List.set_cons_succ]
    refine rg_take 25 (some 4) (.bool true) (oi := { dst := some 4, op := Go.Op.assign (Go.Operand.tmp 61), type := 4, pos := "law.go:68", after := #[{ on := 24, ground := Go.Ground.data }, { on := 21, ground := Go.Ground.chain }, { on := 0, ground := Go.Ground.phase }, { on := 1, ground := Go.Ground.phase }, { on := 2, ground := Go.Ground.phase }, { on := 3, ground := Go.Ground.phase }, { on := 4, ground := Go.Ground.phase }, { on := 5, ground := Go.Ground.phase }, { on := 6, ground := Go.Ground.phase }, { on := 7, ground := Go.Ground.phase }, { on := 8, ground := Go.Ground.phase }, { on := 9, ground := Go.Ground.phase }, { on := 10, ground := Go.Ground.phase }, { on := 11, ground := Go.Ground.phase }, { on := 12, ground := Go.Ground.phase }, { on := 13, ground := Go.Ground.phase }, { on := 14, ground := Go.Ground.phase }, { on := 15, ground := Go.Ground.phase }, { on := 16, ground := Go.Ground.phase }, { on := 17, ground := Go.Ground.phase }, { on := 18, ground := Go.Ground.phase }, { on := 19, ground := Go.Ground.phase }, { on := 20, ground := Go.Ground.phase }, { on := 21, ground := Go.Ground.phase }, { on := 22, ground := Go.Ground.phase }, { on := 23, ground := Go.Ground.phase }, { on := 24, ground := Go.Ground.phase }], guard := none }) rfl rfl (by kernel_rfl) (by kernel_rfl) (by kernel_rfl) (fun _ _ _ h => h) hSp6 (by rfl) (fun w' hs => by rfl) ?_
    simp only [Act.put, List.setIfInBounds_toArray, List.set_cons_zero, List.set_cons_succ]
    refine rg_done (by kernel_rfl) ?_
    go_wp2_with fail
    go_ret
    exact ⟨rfl, HF.out.trans hSp6⟩
  | false =>
    clear HSM HTX HTY
    go_wp2_with fail
    refine rg_begin (S := Sx wz) (by kernel_rfl) (Sx.begin _) ?_
    have hSp : Sx wz (World.drew wz) := (Sx.begin _)
    refine rg_take 0 (some 37) (.agg #[.string (bs x.op), .string (bs x.text), .bool x.nan, .int .i64 x.val, .slice aa x.args.length ac, .bool x.abs, .slice ad x.steps.length ae]) (oi := { dst := some 37, op := Go.Op.load 29 (Go.Operand.tmp 5), type := 29, pos := "law.go:68", after := #[], guard := none }) rfl rfl (by kernel_rfl) (by kernel_rfl) (by kernel_rfl) (fun _ _ _ h => h) hSp (by rfl) (fun w' hs => by (have h0 := hs.cell hlxb k0; have h1 := hs.cell hlxb k1; have h2 := hs.cell hlxb k2; have h3 := hs.cell hlxb k3; have h4 := hs.cell hlxb k4; have h5 := hs.cell hlxb k5; have h6 := hs.cell hlxb k6; go_simp)) ?_
    simp only [Act.put, List.setIfInBounds_toArray, List.set_cons_zero, List.set_cons_succ]
    refine rg_take 1 (some 38) (.agg #[.string (bs x.op), .string (bs x.text), .bool x.nan, .int .i64 x.val, .slice aa x.args.length ac, .bool x.abs, .slice ad x.steps.length ae]) (oi := { dst := some 38, op := Go.Op.load 29 (Go.Operand.tmp 5), type := 29, pos := "law.go:68", after := #[], guard := none }) rfl rfl (by kernel_rfl) (by kernel_rfl) (by kernel_rfl) (fun _ _ _ h => h) hSp (by rfl) (fun w' hs => by (have h0 := hs.cell hlxb k0; have h1 := hs.cell hlxb k1; have h2 := hs.cell hlxb k2; have h3 := hs.cell hlxb k3; have h4 := hs.cell hlxb k4; have h5 := hs.cell hlxb k5; have h6 := hs.cell hlxb k6; go_simp)) ?_
    simp only [Act.put, List.setIfInBounds_toArray, List.set_cons_zero, List.set_cons_succ]
    refine rg_call 2 (some 39) 12 #[.agg #[.string (bs x.op), .string (bs x.text), .bool x.nan, .int .i64 x.val, .slice aa x.args.length ac, .bool x.abs, .slice ad x.steps.length ae], .agg #[.string (bs x.op), .string (bs x.text), .bool x.nan, .int .i64 x.val, .slice aa x.args.length ac, .bool x.abs, .slice ad x.steps.length ae]] (oi := { dst := some 39, op := Go.Op.call { callee := Go.Callee.value (Go.Operand.func 12), args := #[Go.Operand.tmp 37, Go.Operand.tmp 38], argTypes := #[29, 29] }, type := 4, pos := "law.go:68", after := #[{ on := 0, ground := Go.Ground.data }, { on := 1, ground := Go.Ground.data }], guard := none }) rfl rfl (by kernel_rfl) (by rfl) (fun w' => by first | rfl | go_simp) (R := fun v w' => v = .bool true ∧ Ext (World.drew wz) w') ?_ ?_
    · refine (HXX.out (World.drew wz) hSp).mono ?_
      rintro e w' ⟨rfl, h⟩
      exact ⟨_, rfl, rfl, h⟩
    rintro _ wrp1 ⟨rfl, hBrp1⟩
    have hSp1 := hSp.ext hBrp1
    refine ⟨hSp1, ?_⟩
    simp only [Act.put, List.setIfInBounds_toArray, List.set_cons_zero, List.set_cons_succ]
    refine rg_take 3 (some 40) (.bool true) (oi := { dst := some 40, op := Go.Op.move (Go.Operand.tmp 39), type := 4, pos := "law.go:68", after := #[{ on := 2, ground := Go.Ground.data }, { on := 2, ground := Go.Ground.chain }], guard := none }) rfl rfl (by kernel_rfl) (by kernel_rfl) (by kernel_rfl) (fun _ _ _ h => h) hSp1 (by rfl) (fun w' hs => by rfl) ?_
    simp only [Act.put, List.setIfInBounds_toArray, List.set_cons_zero, List.set_cons_succ]
    refine rg_take 4 (some 41) (.agg #[.string (bs x.op), .string (bs x.text), .bool x.nan, .int .i64 x.val, .slice aa x.args.length ac, .bool x.abs, .slice ad x.steps.length ae]) (oi := { dst := some 41, op := Go.Op.load 29 (Go.Operand.tmp 5), type := 29, pos := "law.go:68", after := #[{ on := 3, ground := Go.Ground.guard }], guard := some (3, true) }) rfl rfl (by kernel_rfl) (by kernel_rfl) (by kernel_rfl) (fun _ _ _ h => h) hSp1 (by rfl) (fun w' hs => by (have h0 := hs.cell hlxb k0; have h1 := hs.cell hlxb k1; have h2 := hs.cell hlxb k2; have h3 := hs.cell hlxb k3; have h4 := hs.cell hlxb k4; have h5 := hs.cell hlxb k5; have h6 := hs.cell hlxb k6; go_simp)) ?_
    simp only [Act.put, List.setIfInBounds_toArray, List.set_cons_zero, List.set_cons_succ]
    refine rg_take 5 (some 42) (.agg #[.string (bs y.op), .string (bs y.text), .bool y.nan, .int .i64 y.val, .slice ga y.args.length gc, .bool y.abs, .slice gd y.steps.length ge]) (oi := { dst := some 42, op := Go.Op.load 29 (Go.Operand.tmp 7), type := 29, pos := "law.go:68", after := #[{ on := 3, ground := Go.Ground.guard }], guard := some (3, true) }) rfl rfl (by kernel_rfl) (by kernel_rfl) (by kernel_rfl) (fun _ _ _ h => h) hSp1 (by rfl) (fun w' hs => by (have h0 := hs.cell hlyb j0; have h1 := hs.cell hlyb j1; have h2 := hs.cell hlyb j2; have h3 := hs.cell hlyb j3; have h4 := hs.cell hlyb j4; have h5 := hs.cell hlyb j5; have h6 := hs.cell hlyb j6; go_simp)) ?_
    simp only [Act.put, List.setIfInBounds_toArray, List.set_cons_zero, List.set_cons_succ]
    refine rg_take 7 (some 44) (.agg #[.string (bs x.op), .string (bs x.text), .bool x.nan, .int .i64 x.val, .slice aa x.args.length ac, .bool x.abs, .slice ad x.steps.length ae]) (oi := { dst := some 44, op := Go.Op.load 29 (Go.Operand.tmp 5), type := 29, pos := "law.go:68", after := #[{ on := 3, ground := Go.Ground.guard }], guard := some (3, true) }) rfl rfl (by kernel_rfl) (by kernel_rfl) (by kernel_rfl) (fun _ _ _ h => h) hSp1 (by rfl) (fun w' hs => by (have h0 := hs.cell hlxb k0; have h1 := hs.cell hlxb k1; have h2 := hs.cell hlxb k2; have h3 := hs.cell hlxb k3; have h4 := hs.cell hlxb k4; have h5 := hs.cell hlxb k5; have h6 := hs.cell hlxb k6; go_simp)) ?_
    simp only [Act.put, List.setIfInBounds_toArray, List.set_cons_zero, List.set_cons_succ]
    refine rg_take 8 (some 45) (.agg #[.string (bs y.op), .string (bs y.text), .bool y.nan, .int .i64 y.val, .slice ga y.args.length gc, .bool y.abs, .slice gd y.steps.length ge]) (oi := { dst := some 45, op := Go.Op.load 29 (Go.Operand.tmp 7), type := 29, pos := "law.go:68", after := #[{ on := 3, ground := Go.Ground.guard }], guard := some (3, true) }) rfl rfl (by kernel_rfl) (by kernel_rfl) (by kernel_rfl) (fun _ _ _ h => h) hSp1 (by rfl) (fun w' hs => by (have h0 := hs.cell hlyb j0; have h1 := hs.cell hlyb j1; have h2 := hs.cell hlyb j2; have h3 := hs.cell hlyb j3; have h4 := hs.cell hlyb j4; have h5 := hs.cell hlyb j5; have h6 := hs.cell hlyb j6; go_simp)) ?_
    simp only [Act.put, List.setIfInBounds_toArray, List.set_cons_zero, List.set_cons_succ]
    refine rg_call 6 (some 43) 12 #[.agg #[.string (bs x.op), .string (bs x.text), .bool x.nan, .int .i64 x.val, .slice aa x.args.length ac, .bool x.abs, .slice ad x.steps.length ae], .agg #[.string (bs y.op), .string (bs y.text), .bool y.nan, .int .i64 y.val, .slice ga y.args.length gc, .bool y.abs, .slice gd y.steps.length ge]] (oi := { dst := some 43, op := Go.Op.call { callee := Go.Callee.value (Go.Operand.func 12), args := #[Go.Operand.tmp 41, Go.Operand.tmp 42], argTypes := #[29, 29] }, type := 4, pos := "law.go:68", after := #[{ on := 4, ground := Go.Ground.data }, { on := 5, ground := Go.Ground.data }, { on := 3, ground := Go.Ground.chain }, { on := 3, ground := Go.Ground.guard }], guard := some (3, true) }) rfl rfl (by kernel_rfl) (by rfl) (fun w' => by first | rfl | go_simp) (R := fun v w' => v = .bool false ∧ Ext wrp1 w') ?_ ?_
    · refine (HXY.out wrp1 hSp1).mono ?_
      rintro e w' ⟨rfl, h⟩
      exact ⟨_, rfl, rfl, h⟩
    rintro _ wrp2 ⟨rfl, hBrp2⟩
    have hSp2 := hSp1.ext hBrp2
    refine ⟨hSp2, ?_⟩
    simp only [Act.put, List.setIfInBounds_toArray, List.set_cons_zero, List.set_cons_succ]
    refine rg_call 9 (some 46) 11 #[.agg #[.string (bs x.op), .string (bs x.text), .bool x.nan, .int .i64 x.val, .slice aa x.args.length ac, .bool x.abs, .slice ad x.steps.length ae], .agg #[.string (bs y.op), .string (bs y.text), .bool y.nan, .int .i64 y.val, .slice ga y.args.length gc, .bool y.abs, .slice gd y.steps.length ge]] (oi := { dst := some 46, op := Go.Op.call { callee := Go.Callee.value (Go.Operand.func 11), args := #[Go.Operand.tmp 44, Go.Operand.tmp 45], argTypes := #[29, 29] }, type := 4, pos := "law.go:68", after := #[{ on := 7, ground := Go.Ground.data }, { on := 8, ground := Go.Ground.data }, { on := 6, ground := Go.Ground.chain }, { on := 3, ground := Go.Ground.guard }], guard := some (3, true) }) rfl rfl (by kernel_rfl) (by rfl) (fun w' => by first | rfl | go_simp) (R := fun v w' => v = .bool false ∧ Ext wrp2 w') ?_ ?_
    · refine (HRXY.out wrp2 hSp2).mono ?_
      rintro e w' ⟨rfl, h⟩
      exact ⟨_, rfl, rfl, h⟩
    rintro _ wrp3 ⟨rfl, hBrp3⟩
    have hSp3 := hSp2.ext hBrp3
    refine ⟨hSp3, ?_⟩
    simp only [Act.put, List.setIfInBounds_toArray, List.set_cons_zero, List.set_cons_succ]
    refine rg_take 10 (some 47) (.bool true) (oi := { dst := some 47, op := Go.Op.binOp Go.BinOp.eql 4 (Go.Operand.tmp 43) (Go.Operand.tmp 46) 4, type := 4, pos := "law.go:68", after := #[{ on := 6, ground := Go.Ground.data }, { on := 9, ground := Go.Ground.data }, { on := 3, ground := Go.Ground.guard }], guard := some (3, true) }) rfl rfl (by kernel_rfl) (by kernel_rfl) (by kernel_rfl) (fun _ _ _ h => h) hSp3 (by rfl) (fun w' hs => by first | rfl | go_simp) ?_
    simp only [Act.put, List.setIfInBounds_toArray, List.set_cons_zero, List.set_cons_succ]
    refine rg_take 11 (some 48) (.bool true) (oi := { dst := some 48, op := Go.Op.pick (Go.Operand.tmp 40) (Go.Operand.tmp 47) (Go.Operand.const (Go.Value.bool false)), type := 4, pos := "law.go:68", after := #[{ on := 3, ground := Go.Ground.data }, { on := 10, ground := Go.Ground.data }], guard := none }) rfl rfl (by kernel_rfl) (by kernel_rfl) (by kernel_rfl) (fun _ _ _ h => h) hSp3 (by rfl) (fun w' hs => by rfl) ?_
    simp only [Act.put, List.setIfInBounds_toArray, List.set_cons_zero, List.set_cons_succ]
    refine rg_take 12 (some 49) (.bool true) (oi := { dst := some 49, op := Go.Op.move (Go.Operand.tmp 48), type := 4, pos := "law.go:68", after := #[{ on := 11, ground := Go.Ground.data }, { on := 9, ground := Go.Ground.chain }], guard := none }) rfl rfl (by kernel_rfl) (by kernel_rfl) (by kernel_rfl) (fun _ _ _ h => h) hSp3 (by rfl) (fun w' hs => by rfl) ?_
    simp only [Act.put, List.setIfInBounds_toArray, List.set_cons_zero, List.set_cons_succ]
    refine rg_take 13 (some 50) (.agg #[.string (bs x.op), .string (bs x.text), .bool x.nan, .int .i64 x.val, .slice aa x.args.length ac, .bool x.abs, .slice ad x.steps.length ae]) (oi := { dst := some 50, op := Go.Op.load 29 (Go.Operand.tmp 5), type := 29, pos := "law.go:68", after := #[{ on := 12, ground := Go.Ground.guard }], guard := some (12, true) }) rfl rfl (by kernel_rfl) (by kernel_rfl) (by kernel_rfl) (fun _ _ _ h => h) hSp3 (by rfl) (fun w' hs => by (have h0 := hs.cell hlxb k0; have h1 := hs.cell hlxb k1; have h2 := hs.cell hlxb k2; have h3 := hs.cell hlxb k3; have h4 := hs.cell hlxb k4; have h5 := hs.cell hlxb k5; have h6 := hs.cell hlxb k6; go_simp)) ?_
    simp only [Act.put, List.setIfInBounds_toArray, List.set_cons_zero, List.set_cons_succ]
    refine rg_take 14 (some 51) (.agg #[.string (bs y.op), .string (bs y.text), .bool y.nan, .int .i64 y.val, .slice ga y.args.length gc, .bool y.abs, .slice gd y.steps.length ge]) (oi := { dst := some 51, op := Go.Op.load 29 (Go.Operand.tmp 7), type := 29, pos := "law.go:68", after := #[{ on := 12, ground := Go.Ground.guard }], guard := some (12, true) }) rfl rfl (by kernel_rfl) (by kernel_rfl) (by kernel_rfl) (fun _ _ _ h => h) hSp3 (by rfl) (fun w' hs => by (have h0 := hs.cell hlyb j0; have h1 := hs.cell hlyb j1; have h2 := hs.cell hlyb j2; have h3 := hs.cell hlyb j3; have h4 := hs.cell hlyb j4; have h5 := hs.cell hlyb j5; have h6 := hs.cell hlyb j6; go_simp)) ?_
    simp only [Act.put, List.setIfInBounds_toArray, List.set_cons_zero, List.set_cons_succ]
    refine rg_call 15 (some 52) 11 #[.agg #[.string (bs x.op), .string (bs x.text), .bool x.nan, .int .i64 x.val, .slice aa x.args.length ac, .bool x.abs, .slice ad x.steps.length ae], .agg #[.string (bs y.op), .string (bs y.text), .bool y.nan, .int .i64 y.val, .slice ga y.args.length gc, .bool y.abs, .slice gd y.steps.length ge]] (oi := { dst := some 52, op := Go.Op.call { callee := Go.Callee.value (Go.Operand.func 11), args := #[Go.Operand.tmp 50, Go.Operand.tmp 51], argTypes := #[29, 29] }, type := 4, pos := "law.go:68", after := #[{ on := 13, ground := Go.Ground.data }, { on := 14, ground := Go.Ground.data }, { on := 12, ground := Go.Ground.chain }, { on := 12, ground := Go.Ground.guard }], guard := some (12, true) }) rfl rfl (by kernel_rfl) (by rfl) (fun w' => by first | rfl | go_simp) (R := fun v w' => v = .bool false ∧ Ext wrp3 w') ?_ ?_
    · refine (HRXY.out wrp3 hSp3).mono ?_
      rintro e w' ⟨rfl, h⟩
      exact ⟨_, rfl, rfl, h⟩
    rintro _ wrp4 ⟨rfl, hBrp4⟩
    have hSp4 := hSp3.ext hBrp4
    refine ⟨hSp4, ?_⟩
    simp only [Act.put, List.setIfInBounds_toArray, List.set_cons_zero, List.set_cons_succ]
    refine rg_take 16 (some 53) (.bool true) (oi := { dst := some 53, op := Go.Op.unOp Go.UnOp.not 4 (Go.Operand.tmp 52), type := 4, pos := "law.go:68", after := #[{ on := 15, ground := Go.Ground.data }, { on := 12, ground := Go.Ground.guard }], guard := some (12, true) }) rfl rfl (by kernel_rfl) (by kernel_rfl) (by kernel_rfl) (fun _ _ _ h => h) hSp4 (by rfl) (fun w' hs => by first | rfl | go_simp) ?_
    simp only [Act.put, List.setIfInBounds_toArray, List.set_cons_zero, List.set_cons_succ]
    refine rg_take 17 (some 54) (.bool true) (oi := { dst := some 54, op := Go.Op.move (Go.Operand.tmp 53), type := 4, pos := "law.go:68", after := #[{ on := 16, ground := Go.Ground.data }, { on := 15, ground := Go.Ground.chain }, { on := 12, ground := Go.Ground.guard }], guard := some (12, true) }) rfl rfl (by kernel_rfl) (by kernel_rfl) (by kernel_rfl) (fun _ _ _ h => h) hSp4 (by rfl) (fun w' hs => by rfl) ?_
    simp only [Act.put, List.setIfInBounds_toArray, List.set_cons_zero, List.set_cons_succ]
    refine rg_skip 18 (some 55) (oi := { dst := some 55, op := Go.Op.load 29 (Go.Operand.tmp 5), type := 29, pos := "law.go:68", after := #[{ on := 17, ground := Go.Ground.guard }], guard := some (17, false) }) rfl rfl (by kernel_rfl) (by kernel_rfl) (by kernel_rfl) (fun _ _ _ h => h) hSp4 (by rfl) ?_
    simp only [Act.put, List.setIfInBounds_toArray, List.set_cons_zero, List.set_cons_succ]
    refine rg_skip 19 (some 56) (oi := { dst := some 56, op := Go.Op.call { callee := Go.Callee.value (Go.Operand.func 10), args := #[Go.Operand.tmp 55], argTypes := #[29] }, type := 9, pos := "law.go:68", after := #[{ on := 18, ground := Go.Ground.data }, { on := 17, ground := Go.Ground.chain }, { on := 17, ground := Go.Ground.guard }], guard := some (17, false) }) rfl rfl (by kernel_rfl) (by kernel_rfl) (by kernel_rfl) (fun _ _ _ h => h) hSp4 (by rfl) ?_
    simp only [Act.put, List.setIfInBounds_toArray, List.set_cons_zero, List.set_cons_succ]
    refine rg_skip 20 (some 57) (oi := { dst := some 57, op := Go.Op.load 29 (Go.Operand.tmp 7), type := 29, pos := "law.go:68", after := #[{ on := 17, ground := Go.Ground.guard }], guard := some (17, false) }) rfl rfl (by kernel_rfl) (by kernel_rfl) (by kernel_rfl) (fun _ _ _ h => h) hSp4 (by rfl) ?_
    simp only [Act.put, List.setIfInBounds_toArray, List.set_cons_zero, List.set_cons_succ]
    refine rg_skip 21 (some 58) (oi := { dst := some 58, op := Go.Op.call { callee := Go.Callee.value (Go.Operand.func 10), args := #[Go.Operand.tmp 57], argTypes := #[29] }, type := 9, pos := "law.go:68", after := #[{ on := 20, ground := Go.Ground.data }, { on := 19, ground := Go.Ground.chain }, { on := 17, ground := Go.Ground.guard }], guard := some (17, false) }) rfl rfl (by kernel_rfl) (by kernel_rfl) (by kernel_rfl) (fun _ _ _ h => h) hSp4 (by rfl) ?_
    simp only [Act.put, List.setIfInBounds_toArray, List.set_cons_zero, List.set_cons_succ]
    refine rg_skip 22 (some 59) (oi := { dst := some 59, op := Go.Op.binOp Go.BinOp.eql 9 (Go.Operand.tmp 56) (Go.Operand.tmp 58) 9, type := 4, pos := "law.go:68", after := #[{ on := 19, ground := Go.Ground.data }, { on := 21, ground := Go.Ground.data }, { on := 17, ground := Go.Ground.guard }], guard := some (17, false) }) rfl rfl (by kernel_rfl) (by kernel_rfl) (by kernel_rfl) (fun _ _ _ h => h) hSp4 (by rfl) ?_
    simp only [Act.put, List.setIfInBounds_toArray, List.set_cons_zero, List.set_cons_succ]
    refine rg_take 23 (some 60) (.bool true) (oi := { dst := some 60, op := Go.Op.pick (Go.Operand.tmp 54) (Go.Operand.const (Go.Value.bool true)) (Go.Operand.tmp 59), type := 4, pos := "law.go:68", after := #[{ on := 17, ground := Go.Ground.data }, { on := 22, ground := Go.Ground.data }, { on := 12, ground := Go.Ground.guard }], guard := some (12, true) }) rfl rfl (by kernel_rfl) (by kernel_rfl) (by kernel_rfl) (fun _ _ _ h => h) hSp4 (by rfl) (fun w' hs => by rfl) ?_
    simp only [Act.put, List.setIfInBounds_toArray, List.set_cons_zero, List.set_cons_succ]
    refine rg_take 24 (some 61) (.bool true) (oi := { dst := some 61, op := Go.Op.pick (Go.Operand.tmp 49) (Go.Operand.tmp 60) (Go.Operand.const (Go.Value.bool false)), type := 4, pos := "law.go:68", after := #[{ on := 12, ground := Go.Ground.data }, { on := 23, ground := Go.Ground.data }], guard := none }) rfl rfl (by kernel_rfl) (by kernel_rfl) (by kernel_rfl) (fun _ _ _ h => h) hSp4 (by rfl) (fun w' hs => by rfl) ?_
    simp only [Act.put, List.setIfInBounds_toArray, List.set_cons_zero, List.set_cons_succ]
    refine rg_take 25 (some 4) (.bool true) (oi := { dst := some 4, op := Go.Op.assign (Go.Operand.tmp 61), type := 4, pos := "law.go:68", after := #[{ on := 24, ground := Go.Ground.data }, { on := 21, ground := Go.Ground.chain }, { on := 0, ground := Go.Ground.phase }, { on := 1, ground := Go.Ground.phase }, { on := 2, ground := Go.Ground.phase }, { on := 3, ground := Go.Ground.phase }, { on := 4, ground := Go.Ground.phase }, { on := 5, ground := Go.Ground.phase }, { on := 6, ground := Go.Ground.phase }, { on := 7, ground := Go.Ground.phase }, { on := 8, ground := Go.Ground.phase }, { on := 9, ground := Go.Ground.phase }, { on := 10, ground := Go.Ground.phase }, { on := 11, ground := Go.Ground.phase }, { on := 12, ground := Go.Ground.phase }, { on := 13, ground := Go.Ground.phase }, { on := 14, ground := Go.Ground.phase }, { on := 15, ground := Go.Ground.phase }, { on := 16, ground := Go.Ground.phase }, { on := 17, ground := Go.Ground.phase }, { on := 18, ground := Go.Ground.phase }, { on := 19, ground := Go.Ground.phase }, { on := 20, ground := Go.Ground.phase }, { on := 21, ground := Go.Ground.phase }, { on := 22, ground := Go.Ground.phase }, { on := 23, ground := Go.Ground.phase }, { on := 24, ground := Go.Ground.phase }], guard := none }) rfl rfl (by kernel_rfl) (by kernel_rfl) (by kernel_rfl) (fun _ _ _ h => h) hSp4 (by rfl) (fun w' hs => by rfl) ?_
    simp only [Act.put, List.setIfInBounds_toArray, List.set_cons_zero, List.set_cons_succ]
    refine rg_done (by kernel_rfl) ?_
    go_wp2_with fail
    go_ret
    exact ⟨rfl, HF.out.trans hSp4⟩
set_option maxHeartbeats 4000000 in
theorem qsame_long (s t : ByteArray) (hl : ¬ (s.size ≤ 1000 ∧ t.size ≤ 1000)) (W : World) (HV : QEnv W) (HG : GlobE W) :
    Calls Tryz.prog 5 #[.string s, .string t] W fun e w' => e = .returned (.bool true) ∧ Ext W w' := by
  have HA := Lib.hid (awake_any W HV HG)
  clear HV HG
  by_cases h1 : s.size ≤ 1000
  · have hi1 : ¬ (1000 : Int) < (s.size : Int) := by omega
    have hi2 : (1000 : Int) < (t.size : Int) := by omega
    go_enter Tryz.func5, Tryz.ntmps5
    go_wp2_with fail
    refine HA.out.mono ?_
    rintro e w1 ⟨rfl, hX1⟩
    clear HA
    go_wp2_with fail
    go_ret
    exact ⟨rfl, hX1⟩
  · have hi1 : (1000 : Int) < (s.size : Int) := by omega
    go_enter Tryz.func5, Tryz.ntmps5
    go_wp2_with fail
    refine HA.out.mono ?_
    rintro e w1 ⟨rfl, hX1⟩
    clear HA
    go_wp2_with fail
    go_ret
    exact ⟨rfl, hX1⟩
theorem bs_data (s : ByteArray) : bs s.data.toList = s := by cases s; simp [bs]
theorem qsame_walk (s t : ByteArray) (W : World) (HV : QEnv W) (HG : GlobE W) :
    Calls Tryz.prog 5 #[.string s, .string t] W fun e w' => e = .returned (.bool true) ∧ Ext W w' := by
  by_cases hl : s.size ≤ 1000 ∧ t.size ≤ 1000
  · rw [← bs_data s, ← bs_data t] at hl ⊢
    obtain ⟨S, hS⟩ : ∃ S, s.data.toList = S := ⟨_, rfl⟩
    obtain ⟨T, hT⟩ : ∃ T, t.data.toList = T := ⟨_, rfl⟩
    rw [hS, hT] at hl ⊢
    rw [bs_size, bs_size] at hl
    cases e1 : parseP S with
    | error e =>
      obtain ⟨c1, a1⟩ := e
      cases e2 : parseP T with
      | error e => obtain ⟨c2, a2⟩ := e; exact qsame_e1e S T hl.1 hl.2 W HV HG e1 e2
      | ok y => exact qsame_e1o S T hl.1 hl.2 W HV HG e1 e2
    | ok x =>
      cases e2 : parseP T with
      | error e => obtain ⟨c2, a2⟩ := e; exact qsame_oe S T hl.1 hl.2 W HV HG e1 e2
      | ok y => exact qsame_oo S T hl.1 hl.2 W HV HG e1 e2
  · exact qsame_long s t hl W HV HG

end Go.Proofs.YtfoclfefjcnllaaGreatDoor
