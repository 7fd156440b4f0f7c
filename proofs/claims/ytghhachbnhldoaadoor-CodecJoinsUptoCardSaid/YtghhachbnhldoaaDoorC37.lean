/-
  CodecJoins: the law's walk. Helper lemmas; no statement of the seat is proved here.
-/
import Derived.Test.YtghhachbnhldoaaDoorC36
namespace Go.Proofs.YtghhachbnhldoaaDoor
open Go.RowKit
set_option maxRecDepth 100000
set_option linter.unusedVariables false
set_option linter.unusedSimpArgs false

theorem encE_bad {l : List Edit} (h : l.any negE = true) : encE l = [] := by unfold encE; rw [if_pos h]
theorem encE_good {l : List Edit} (h : l.any negE = false) : encE l = editsB l := by unfold encE; rw [h]; rfl
theorem editsB_pos (l : List Edit) : 0 < (editsB l).length := by unfold editsB; rw [List.length_append]; have := numB_pos l.length; omega
set_option maxHeartbeats 32000000 in
theorem codecjoins_walk (a b : List Edit) (p : Nat → Prop) (v u : Value) (w : World) (hg : GlobE w) (ha : EOK a) (hb : EOK b) (hv : Rep w p v (editsD a)) (hu : Rep w p u (editsD b)) :
    Calls Tryd.prog 3 #[v, u] w fun e w' => e = .returned (.bool true) ∧ Ext w w' := by
  have hpa := editsB_pos a
  have hpb := editsB_pos b
  obtain ⟨ha1, ha2, ha3, ha4⟩ := ha
  obtain ⟨hb1, hb2, hb3, hb4⟩ := hb
  have HAW := Lib.hid (awake18_any w hg)
  have HSA := Lib.hid fun W (hE : Ext w W) => esmall_any a p _ W (hv.ext hE) (by omega) ha4
  have HSB := Lib.hid fun W (hE : Ext w W) => esmall_any b p _ W (hu.ext hE) (by omega) hb4
  have HEA := Lib.hid fun W (hE : Ext w W) => edits_any a p _ W (hv.ext hE) (by omega)
  have HEB := Lib.hid fun W (hE : Ext w W) => edits_any b p _ W (hu.ext hE) (by omega)
  have HBA := Lib.hid fun W (hE : Ext w W) => bedits_any W a p _ (hv.ext hE) (by omega) ha3
  have HBB := Lib.hid fun W (hE : Ext w W) => bedits_any W b p _ (hu.ext hE) (by omega) hb3
  have HRR := Lib.hid (fun W (hE : Ext w W) => And.intro (hv.ext hE) (hu.ext hE))
  have HRG := Lib.hid (And.intro ha3 (And.intro hb3 hg))
  obtain ⟨aa, ac, rfl, _, _⟩ := hv.count z_edit (by omega)
  obtain ⟨ba, bc, rfl, _, _⟩ := hu.count z_edit (by omega)
  clear hv hu ha3 ha4 hb3 hb4 hg
  go_enter Tryd.func3, Tryd.ntmps3
  go_wp2_with fail
  refine HAW.out.mono ?_
  rintro e w1 ⟨rfl, hX1⟩
  clear HAW
  go_wp2_with fail
  refine (HSA.out _ hX1).mono ?_
  rintro e w2 ⟨⟨b1, rfl, hs1⟩, hB2⟩
  have hX2 := hX1.trans hB2
  have HS1 := Lib.hid hs1
  clear HSA hs1 hB2 hX1
  cases b1 with
  | false =>
    go_wp2_with fail
    go_ret
    exact ⟨rfl, hX2⟩
  | true =>
    go_wp2_with fail
    refine (HSB.out _ hX2).mono ?_
    rintro e w3 ⟨⟨b2, rfl, hs2⟩, hB3⟩
    have hX3 := hX2.trans hB3
    have HS2 := Lib.hid hs2
    clear HSB hs2 hB3 hX2
    cases b2 with
    | false =>
      go_wp2_with fail
      go_ret
      exact ⟨rfl, hX3⟩
    | true =>
      have la : a.length ≤ 41 := HS1.out trivial
      have lb : b.length ≤ 41 := HS2.out rfl
      have laI : (a.length : Int) ≤ 41 := by omega
      have lbI : (b.length : Int) ≤ 41 := by omega
      have labI : (a.length : Int) + (b.length : Int) ≤ 82 := by omega
      clear HS1 HS2
      go_wp2_with fail
      refine (HEA.out _ hX3).mono ?_
      rintro e w4 ⟨⟨x, rfl, hr4⟩, hB4⟩
      obtain ⟨xa, xc, rfl⟩ := own_slice hr4
      have hX4 := hX3.trans hB4
      have HR4 := Lib.hid (And.intro hr4 hB4.size)
      clear HEA hr4 hB4 hX3
      go_wp2_with fail
      refine (HEB.out _ hX4).mono ?_
      rintro e w5 ⟨⟨y, rfl, hr5⟩, hB5⟩
      obtain ⟨ya, yc, rfl⟩ := own_slice hr5
      have hX5 := hX4.trans hB5
      have HR5 := Lib.hid (And.intro (rows_ext HR4.out.1 hB5) hr5)
      clear HEB hr5 hB5 HR4 hX4
      obtain ⟨na, hna⟩ : ∃ n, a.any negE = n := ⟨_, rfl⟩
      cases na with
      | true =>
        rw [encE_bad hna] at HR5 HBA ⊢
        simp only [List.length_nil] at *
        clear hna
        go_wp2_with fail
        refine (HBA.out _ hX5).mono ?_
        rintro e w6 ⟨x6, rfl, hr6, hB6⟩
        obtain ⟨ra, rc, rfl⟩ := own_slice hr6
        have hX6 := hX5.trans hB6
        clear hr6 hB6
        simp only [List.length_nil] at *
        go_wp2_with fail
        go_ret
        exact ⟨rfl, hX6⟩
      | false =>
        rw [encE_good hna] at HR5 HBA ⊢
        obtain ⟨ea, hea⟩ : ∃ n, (editsB a).length = n := ⟨_, rfl⟩
        rw [hea] at hpa ha2 HR5 ⊢
        have qa : ((ea : Int) == 0) = false := by rw [beq_eq_false_iff_ne]; omega
        have HEA := Lib.hid hea
        have HNA := Lib.hid hna
        clear hea hna
        obtain ⟨nb, hnb⟩ : ∃ n, b.any negE = n := ⟨_, rfl⟩
        cases nb with
        | true =>
          rw [encE_bad hnb] at HR5 HBB ⊢
          simp only [List.length_nil] at *
          clear hnb
          go_wp2_with fail
          refine (HBA.out _ hX5).mono ?_
          rintro e w6 ⟨x6, rfl, hr6, hB6⟩
          obtain ⟨ra, rc, rfl⟩ := own_slice hr6
          have hX6 := hX5.trans hB6
          have q6 : (((editsB a).length : Int) == 0) = false := by rw [HEA.out]; exact qa
          clear hr6 hB6
          go_wp2_with fail
          refine (HBB.out _ hX6).mono ?_
          rintro e w7 ⟨x7, rfl, hr7, hB7⟩
          obtain ⟨sa, sc, rfl⟩ := own_slice hr7
          have hX7 := hX6.trans hB7
          clear hr7 hB7
          simp only [List.length_nil] at *
          go_wp2_with fail
          go_ret
          exact ⟨rfl, hX7⟩
        | false =>
          rw [encE_good hnb] at HR5 HBB ⊢
          obtain ⟨eb, heb⟩ : ∃ n, (editsB b).length = n := ⟨_, rfl⟩
          rw [heb] at hpb hb2 HR5 ⊢
          have qb : ((eb : Int) == 0) = false := by rw [beq_eq_false_iff_ne]; omega
          have HEB := Lib.hid heb
          have HNB := Lib.hid hnb
          clear heb hnb HBA HBB
          have H5 := Lib.hid hX5
          have HEB2 := Lib.hid (And.intro (joins_row a b (by omega)) (editsB_len a b (by omega)))
          obtain ⟨ab, hab⟩ : ∃ l, a ++ b = l := ⟨_, rfl⟩
          have hlab2 : ab.length = a.length + b.length := by rw [← hab, List.length_append]
          have hrg : ∀ x ∈ ab, rngE x = true := fun x hx => by
            rw [← hab] at hx
            rcases List.mem_append.1 hx with h | h
            · exact HRG.out.1 x h
            · exact HRG.out.2.1 x h
          have hng : ab.any negE = false := by rw [← hab, List.any_append, HNA.out, HNB.out]; rfl
          rw [hab] at HEB2
          have HRB := Lib.hid (And.intro hrg hng)
          have HLL := Lib.hid hlab2
          have HAB := Lib.hid hab
          obtain ⟨nl, hnl⟩ : ∃ n, ab.length = n := ⟨_, rfl⟩
          rw [hnl] at HLL
          have HNL := Lib.hid hnl
          have hn82 : nl ≤ 82 := by have := HLL.out; omega
          have hn0 : (0 : Int) ≤ (nl : Int) := by omega
          have hnI : (nl : Int) ≤ 82 := by omega
          have hw8 : IntKind.u8.wrap (nl : Int) = (nl : Int) := IntWalk.u8_in _ (by omega)
          clear hab hlab2 hrg hng hnl
          go_wp2_with (first
            | (at_builtin; refine wpList_appE (w0 := w5) (L := []) (M := a) rfl (.tmp 53) (.tmp 54) rfl ((Ext.refl w5).alloc _) rfl ⟨[], own_empty' (Nat.le_refl _) Array.getElem?_push_size, Reps.nil _ _⟩ rfl (HRR.out w5 H5.out).1 (by simp; omega) ?_; intro v7 w7 hX7 hO7; obtain ⟨o7, c7, rfl, _, _⟩ := hO7.form; have H7 := Lib.hid (And.intro hX7 hO7); clear hX7 hO7)
            | (at_builtin; refine wpList_appE (w0 := w5) (L := a) (M := b) rfl (.tmp 55) (.tmp 56) rfl H7.out.1 rfl H7.out.2 rfl (HRR.out w5 H5.out).2 (by omega) ?_; intro v8 w8 hX8 hO8; rw [HAB.out, HNL.out] at hO8; obtain ⟨o8, c8, rfl, _, _⟩ := hO8.form; have H8 := Lib.hid (And.intro hX8 hO8); clear hX8 hO8))
          have hR5a := rows_ext HR5.out.1 H8.out.1
          have hR5b := rows_ext HR5.out.2 H8.out.1
          obtain ⟨i1, hi1, hq0, hq1, hq2⟩ := info_parts infoU8
          obtain ⟨sx, hsx, esx⟩ := src_drop hR5a unU8 szU8 1 (by omega)
          obtain ⟨sy, hsy, esy⟩ := src_drop hR5b unU8 szU8 1 (by omega)
          have HE8 := Lib.hid H8.out.1
          clear hR5a hR5b
          refine rg_begin (S := Sx w8) (by kernel_rfl) (Sx.begin _) ?_
          have hSa : Sx w8 (World.drew w8) := Sx.begin _
          refine rg_t 0 (some 58) (.slice o8 nl c8) rfl hSa (fun w' hs => by rfl) ?_
          simp only [Act.put, sA, sZ, sS]
          refine rg_t 1 (some 59) (.int .i64 nl) rfl hSa (fun w' hs => by first | rfl | go_simp) ?_
          simp only [Act.put, sA, sZ, sS]
          refine rg_t 2 (some 60) (.int .u8 nl) rfl hSa (fun w' hs => by first | rfl | go_simp) ?_
          simp only [Act.put, sA, sZ, sS]
          refine rg_t 4 (some 62) (.slice xa ea xc) rfl hSa (fun w' hs => by rfl) ?_
          simp only [Act.put, sA, sZ, sS]
          refine rg_t 5 (some 63) sx rfl hSa (fun w' hs => by exact exec_slice rfl (esx w')) ?_
          simp only [Act.put, sA, sZ, sS]
          refine rg_t 7 (some 65) (.slice ya eb yc) rfl hSa (fun w' hs => by rfl) ?_
          simp only [Act.put, sA, sZ, sS]
          refine rg_t 8 (some 66) sy rfl hSa (fun w' hs => by exact exec_slice rfl (esy w')) ?_
          simp only [Act.put, sA, sZ, sS]
          refine rg_one 3 (by kernel_rfl) ?_
          refine tk_new 3 (some 61) (.cells #[.int .u8 nl] 5) (fun n => .slice (some ⟨n, 0, none⟩) 1 1) rfl rfl (by rfl) (by first | rfl | go_simp) ?_
          intro g xg eg hxg hzg hC
          have hSg : Sx w8 xg := hSa.ext hxg
          refine ⟨hSg, ?_⟩
          simp only [Act.put, sA, sZ, sS]
          have own0 : xg.ownsRow w8.heap.size 5 1 (.slice (some ⟨g, 0, none⟩) 1 1) 1 [.int .u8 nl] := own_one (by rw [eg]; exact (show Ext w8 _ from hSa).size) hC
          refine rg_one 6 (by kernel_rfl) ?_
          refine tk_src 6 (some 64) rfl rfl (by rfl) (.tmp 61) (.tmp 63) 25 rfl w8.heap.size 5 i1 (.int .u8 0) 1 1 Tryd.underlying25 hi1 hq0 hq1 hq2 rfl (by decide) _ 1 _ rfl own0 sx (ea - 1) _ rfl (hsx.ext (show Ext w8 xg from hSg)) (fun u hu => rowB_one _ u (List.mem_of_mem_drop hu)) (by unfold maxLen; omega) (by omega) (show Ext w8 xg from hSg).size ?_
          intro v9 x9 own9 hg9 _
          have hS9 : Sx w8 x9 := sx_grown hSg own0 hg9
          refine ⟨hS9, ?_⟩
          simp only [Act.put, sA, sZ, sS]
          refine rg_one 9 (by kernel_rfl) ?_
          refine tk_src 9 (some 67) rfl rfl (by rfl) (.tmp 64) (.tmp 66) 25 rfl w8.heap.size 5 i1 (.int .u8 0) 1 1 Tryd.underlying25 hi1 hq0 hq1 hq2 rfl (by decide) _ _ _ rfl own9 sy (eb - 1) _ rfl (hsy.ext (show Ext w8 x9 from hS9)) (fun u hu => rowB_one _ u (List.mem_of_mem_drop hu)) (by unfold maxLen; omega) (by omega) (show Ext w8 x9 from hS9).size ?_
          intro v10 x10 own10 hg10 _
          have hS10 : Sx w8 x10 := sx_grown hS9 own9 hg10
          refine ⟨hS10, ?_⟩
          simp only [Act.put, sA, sZ, sS]
          refine rg_t 10 (some 8) v10 rfl hS10 (fun w' hs => by rfl) ?_
          simp only [Act.put, sA, sZ, sS]
          refine rg_done (by kernel_rfl) ?_
          have hX10 : Ext w5 x10 := HE8.out.trans hS10
          have hz : x10.ownsRow w8.heap.size 5 1 v10 (editsB ab).length (rowB (editsB ab)) := by
            have h1 := HEB2.out.1
            rw [← HLL.out] at h1
            rw [HEB2.out.2, HEA.out, HEB.out, ← h1]
            exact own10
          clear own0 own9 own10 hg9 hg10 hSa hSg hS9 hsx hsy esx esy hC hxg hzg eg hi1 hq0 hq1 hq2 hw8
          have hlen : (editsB ab).length ≤ 1000000000000 := by rw [HEB2.out.2, HEA.out, HEB.out]; omega
          have hab : Rep x10 (fun _ => True) (.slice o8 nl c8) (editsD ab) := ((H8.out.2.rep).ext hS10).ok fun _ _ => trivial
          have hgx := HRG.out.2.2.ext (H5.out.trans hX10)
          have HZ := Lib.hid (And.intro (rowB_rep hz) (And.intro hab (And.intro hlen (And.intro hgx (H5.out.trans hX10)))))
          obtain ⟨za, zc, rfl⟩ := own_slice hz
          clear hz hab hlen hgx hX10 hS10 H7 H8 HE8 HEB2
          have HED := Lib.hid fun W (hE : Ext x10 W) => edits_any ab (fun _ => True) _ W (HZ.out.2.1.ext hE) HZ.out.2.2.1
          rw [encE_good HRB.out.2] at HED
          go_wp2_with fail
          refine (HED.out _ (Ext.refl _)).mono ?_
          rintro e w11 ⟨⟨x11, rfl, hr11⟩, hB11⟩
          have HRE := Lib.hid (readedits_any ab [] (fun _ => True) x11 w11 (by have := HNL.out; omega) (fun x hx => okE_of (HRB.out.1 x hx) (by
            cases h : negE x with
            | false => rfl
            | true => have := HRB.out.2; rw [List.any_eq_true.2 ⟨x, hx, h⟩] at this; cases this)) (by rw [List.append_nil]; exact (rowB_rep hr11).ok fun _ _ => trivial))
          obtain ⟨ra, rc, rfl⟩ := own_slice hr11
          clear hr11
          go_wp2_with fail
          refine HRE.out.mono ?_
          rintro e w12 ⟨hr12, hB12⟩
          have hX12 := hB11.trans hB12
          have HQR := Lib.hid (qreadedits_any ab (fun b => w8.heap.size ≤ b) (.slice za (editsB ab).length zc) w12 (by have := HNL.out; omega) HRB.out.1 HRB.out.2 HZ.out.2.2.1 (HZ.out.1.ext hX12))
          have HE2 := Lib.hid fun W (hE : Ext w12 W) => HED.out W (hX12.trans hE)
          have HBY := Lib.hid fun W (hE : Ext w12 W) t (ht : Rep W (fun _ => True) t (numsD .u8 (byI (editsB ab)))) => bytes_any (editsB ab) (editsB ab) _ _ t _ W ht (HZ.out.1.ext (hX12.trans hE))
          have HF := Lib.hid (HZ.out.2.2.2.2.trans hX12)
          have HG := Lib.hid (HZ.out.2.2.2.1.ext hX12)
          have HZ2 := Lib.hid fun W (hE : Ext w12 W) => HZ.out.2.1.ext (hX12.trans hE)
          obtain ⟨B, hB⟩ : ∃ B, ab.all fitE = B := ⟨_, rfl⟩
          rw [hB] at hr12 HQR
          rw [show ([] : Bytes).isEmpty = true from rfl, Bool.and_true] at hr12
          have hr := Lib.hid hr12
          clear hB hr12 HRE HED hB11 hB12 hX12
          cases B with
          | true =>
            obtain ⟨rv, rfl, hrv⟩ := hr.out.1 rfl
            have HRV := Lib.hid hrv
            obtain ⟨ga, gc, rfl, _, _⟩ := hrv.count z_edit (by have := HNL.out; omega)
            clear hr hrv
            go_wp2_with fail
            refine HQR.out.mono ?_
            rintro e w13 ⟨hr13, hB13⟩
            obtain ⟨qv, rfl, hqv⟩ := hr13.1 rfl
            obtain ⟨ka, kc, rfl, _, _⟩ := hqv.count z_edit (by have := HNL.out; omega)
            have H13 := Lib.hid hB13
            clear hr13 hqv HQR hB13
            go_wp2_with fail
            refine (HE2.out w13 H13.out).mono ?_
            rintro e w14 ⟨⟨x14, rfl, hr14⟩, hB14⟩
            have hX14 := H13.out.trans hB14
            have HBC := Lib.hid (HBY.out w14 hX14 x14 ((rowB_rep hr14).ok fun _ _ => trivial))
            simp only [decide_true] at HBC
            obtain ⟨xa14, xc14, rfl⟩ := own_slice hr14
            clear hr14 hB14
            go_wp2_with fail
            refine HBC.out.mono ?_
            rintro e w15 ⟨rfl, hB15⟩
            have HCO := Lib.hid (code_nil w15)
            clear HBC
            go_wp2_with fail
            refine HCO.out.mono ?_
            rintro e w16 ⟨rfl, hB16⟩
            have hX16 := (hX14.trans hB15).trans hB16
            have HSM := Lib.hid (esame_any _ _ ab _ _ w16 (HRV.out.ext hX16) (HZ2.out w16 hX16) (by have := HNL.out; omega))
            clear HCO
            go_wp2_with fail
            refine HSM.out.mono ?_
            rintro e w17 ⟨rfl, hB17⟩
            go_wp2_with fail
            go_ret
            exact ⟨rfl, (HF.out.trans hX16).trans hB17⟩
          | false =>
            obtain ⟨ev, rfl, lo, hev⟩ := hr.out.2 rfl
            have HEV := Lib.hid hev
            obtain ⟨eb1, eb2, rfl, _⟩ := hev
            clear hr
            go_wp2_with fail
            refine HQR.out.mono ?_
            rintro e w13 ⟨hr13, hB13⟩
            obtain rfl := hr13.2 rfl
            have H13 := Lib.hid hB13
            clear hr13 HQR hB13
            go_wp2_with fail
            refine (HE2.out w13 H13.out).mono ?_
            rintro e w14 ⟨⟨x14, rfl, hr14⟩, hB14⟩
            have hX14 := H13.out.trans hB14
            have HBC := Lib.hid (HBY.out w14 hX14 x14 ((rowB_rep hr14).ok fun _ _ => trivial))
            simp only [decide_true] at HBC
            obtain ⟨xa14, xc14, rfl⟩ := own_slice hr14
            clear hr14 hB14
            go_wp2_with fail
            refine HBC.out.mono ?_
            rintro e w15 ⟨rfl, hB15⟩
            have hX15 := hX14.trans hB15
            have HCO := Lib.hid (code_any 52 0 lo _ w15 (HG.out.ext hX15) (HEV.out.ext hX15))
            clear HBC
            go_wp2_with fail
            refine HCO.out.mono ?_
            rintro e w16 ⟨rfl, hB16⟩
            go_wp2_with fail
            go_ret
            exact ⟨rfl, (HF.out.trans hX15).trans hB16⟩

end Go.Proofs.YtghhachbnhldoaaDoor
