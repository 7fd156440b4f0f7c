/-
 PastSubs: the law's walk. Helper lemmas; no statement of the seat is proved here.
-/
import Derived.Test.YtkelpbbekeelcaaGreatDoorU21
import Derived.Test.YtkelpbbekeelcaaGreatDoorU17
namespace Go.Proofs.YtkelpbbekeelcaaGreatDoor
open Go.RowKit
set_option maxHeartbeats 32000000
set_option maxRecDepth 100000
set_option linter.unusedVariables false
set_option linter.unusedSimpArgs false
theorem pastsubs_walk (l : List Rule) (ds : List Node) (x : List Step) (p : Nat → Prop) (vl vd vx : Value) (w : World) (hg : GlobE w) (hb : RulesB l) (hll : l.length ≤ 1048576) (hcnt : ∀ d ∈ ds, cntN d ≤ 1048576) (hxl : x.length ≤ 1048576)
  (hvl : Rep w p vl (rulesD l)) (hvd : Rep w p vd (nodesD ds)) (hvx : Rep w p vx (stepsD x)) :
  Calls Tryz.prog 6 #[vl, vd, vx] w fun e w' => e = .returned (.bool true) ∧ Ext w w' := by
 have HAW := Lh (awake_any w hg)
 have HFI := Lh fun W (hE : Ext w W) => fits_any l hb hll ds p vl vd W hcnt (hvl.ext hE) (hvd.ext hE)
 have HSM := Lh fun W (hE : Ext w W) => psmall_any p x vx W (hvx.ext hE)
 have HVS := Lh (And.intro hvl (And.intro hvd (And.intro hvx (And.intro hb (And.intro hcnt hg)))))
 have HSL := Lh fun t (ht : t ∈ x) => (show t.n.length ≤ 9223372036854775807 by obtain ⟨i, hi, e⟩ := List.getElem_of_mem ht; rw [← e]; exact step_len hvx i hi)
 obtain ⟨la, lc, rfl, _, _⟩ := hvl.count z_rule (by omega)
 obtain ⟨da, dc, rfl, _, _⟩ := hvd.count z_node (by omega)
 obtain ⟨xa, xc, rfl, _, _⟩ := hvx.count z_step (by omega)
 clear hvl hvd hvx hb hcnt hg
 go_enter Tryz.func6, Tryz.ntmps6
 go_wp2_with fail
 refine HAW.out.mono ?_
 rintro e w1 ⟨rfl, hX1⟩
 clear HAW
 go_wp2_with fail
 refine (HFI.out _ hX1).mono ?_
 rintro e w2 ⟨⟨b1, rfl, hf⟩, hB2⟩
 have hX2 := hX1.trans hB2
 have HF := Lh hf
 clear HFI hf
 cases b1 with
 | false =>
  go_wp2_with fail
  go_ret
  exact ⟨rfl, hX2⟩
 | true =>
  go_wp2_with fail
  refine (HSM.out _ hX2).mono ?_
  rintro e w3 ⟨⟨b2, rfl, _⟩, hB3⟩
  have hX3 := hX2.trans hB3
  clear HSM
  cases b2 with
  | false =>
   go_wp2_with fail
   go_ret
   exact ⟨rfl, hX3⟩
  | true =>
   obtain ⟨hd12, hmay⟩ := HF.out trivial
   obtain ⟨nm, ks, rs, hl⟩ := hmay.root
   have HL := Lh (And.intro hl hmay)
   obtain ⟨hvl, hvd, hvx, hb, hcnt, hg⟩ := HVS.out
   have HNO := Lh (normals_any l hb hll ds p _ _ w3 hcnt (by omega) (hvl.ext hX3) (hvd.ext hX3))
   clear hl hmay hvl hvd hvx hb hcnt hg HF hB2 hB3
   go_wp2_with fail
   refine HNO.out.mono ?_
   rintro e w4 ⟨⟨L, ⟨nv, rfl, hnv⟩, hLl, hLn⟩, hB4⟩
   have hX4 := hX3.trans hB4
   have HNV := Lh fun W (hE : Ext w4 W) => (hnv.ext hE).ok (q := fun _ => True) fun _ _ => trivial
   obtain ⟨na, nc, rfl, _, _⟩ := hnv.count z_node (by omega)
   obtain ⟨hvl, hvd, hvx, hb, hcnt, hg⟩ := HVS.out
   have hok : RulesOk l := HL.out.2.rules hb
   have hwf := fun d (hd : d ∈ L) => nform_wf HL.out.1 (hLn d hd)
   have HBU := Lh (build_any l nm hok ⟨ks, rs, HL.out.1⟩ L (fun _ => True) _ _ w4 (fun d hd => ⟨(hwf d hd).1, (hwf d hd).2.2⟩) (by omega) ((hvl.ext hX4).ok fun _ _ => trivial) (HNV.out w4 (Ext.refl _)))
   have hlaw := subs_law (l := l) (nm := nm) (ds := L) (x := x) (fun d hd => ⟨(hwf d hd).1, nform_wt HL.out.1 (hLn d hd), (hwf d hd).2.1⟩) (by omega) (fun d hd => (hwf d hd).2.2)
   have hmay := spansOf_may (flOf (histV l x L 0 [] 0).1)
   have hvb := vB_root l nm L
   have HHI := Lh fun W (hE : Ext w4 W) => history_any l L x (fun _ => True) _ _ _ W (fun d hd => (hwf d hd).2.2) hok hxl (by omega) ((hvl.ext (hX4.trans hE)).ok fun _ _ => trivial) (HNV.out W hE) ((hvx.ext (hX4.trans hE)).ok fun _ _ => trivial)
   have HRC := Lh fun W (hE : Ext w4 W) => rchanged_any l L x (fun _ => True) _ _ _ W (fun d hd => (hwf d hd).2.2) hok hxl (by omega) ((hvl.ext (hX4.trans hE)).ok fun _ _ => trivial) (HNV.out W hE) ((hvx.ext (hX4.trans hE)).ok fun _ _ => trivial)
   have HFF := Lh fun (k : Nat) (hk : k < L.length) xa xk W (hE : Ext w4 W) (h1 : Rep W (fun _ => True) xa (attrsD L[k].attrs)) (h2 : Rep W (fun _ => True) xk (nodesD L[k].kids)) => findf_any l L[k] x (fun _ => True) _ xa xk _ W (hwf _ (List.getElem_mem hk)).2.2 hok hxl ((hvl.ext (hX4.trans hE)).ok fun _ _ => trivial) h1 h2 ((hvx.ext (hX4.trans hE)).ok fun _ _ => trivial) (node_len hnv k hk).1
   obtain ⟨RT, hRT⟩ : ∃ R, rootP l nm L = R := ⟨_, rfl⟩
   rw [hRT] at HBU hlaw hvb
   have HSU := Lh fun (i : Int) W (hE : Ext w4 W) k v pa c (hok : ∀ n vs, (findA L.length RT x).1 = some (n, vs) → aB n = true ∧ n.name.length ≤ 9223372036854775807 ∧ (hasV vs i = true → 1 ≤ i ∧ i ≤ L.length)) h1 h2 h3 h4 => psub_any L.length i RT x (fun _ => True) k v pa c _ W hvb hxl hok h1 h2 h3 h4 ((hvx.ext (hX4.trans hE)).ok fun _ _ => trivial)
   have HPC := Lh fun W (hE : Ext w4 W) k v pa c (hok : ∀ n vs, (findA L.length RT x).1 = some (n, vs) → aB n = true ∧ n.name.length ≤ 9223372036854775807 ∧ ∀ i, hasV vs i = true → 1 ≤ i ∧ i ≤ L.length) h1 h2 h3 h4 => pchanged_any L.length RT x (fun _ => True) k v pa c _ W hvb hxl (by omega) hok h1 h2 h3 h4 ((hvx.ext (hX4.trans hE)).ok fun _ _ => trivial)
   obtain ⟨SP, hSP⟩ : ∃ S, spansOf (flOf (histV l x L 0 [] 0).1) = S := ⟨_, rfl⟩
   obtain ⟨HM, hHM⟩ : ∃ S, (histV l x L 0 [] 0).2 = S := ⟨_, rfl⟩
   obtain ⟨C, hC⟩ : ∃ C, chgV l x none L 0 [] = C := ⟨_, rfl⟩
   rw [hSP, hHM, hC] at hlaw
   rw [hSP, hHM] at HHI
   rw [hSP] at hmay
   rw [hC] at HRC
   have HG := Lh hg
   have HLW := Lh hlaw
   have HMY := Lh (And.intro hmay (may_len hmay))
   have hLi : (L.length : Int) ≤ 12 := by omega
   clear hRT hSP hHM hC hlaw hmay hvb hwf hok hvl hvd hvx hb hcnt hg hLn HNO
   go_wp2_with fail
   refine HBU.out.mono ?_
   rintro e w5 ⟨⟨k, v, pa, c, kc, vc, pc, cc, rfl, hk, hv, hpa, hc⟩, hB5⟩
   obtain ⟨wa, hwa⟩ : ∃ W, w5.alloc (.cells #[.int .i64 L.length, .string (bs RT.name), .slice k RT.key.length kc, .slice v RT.vers.length vc, .slice pa RT.parts.length pc, .slice c RT.kids.length cc] 36) = W := ⟨_, rfl⟩
   have hEa : Ext w5 wa := by rw [← hwa]; exact (Ext.refl _).alloc _
   have hba : wa.heap[w5.heap.size]? = some (.cells [.int .i64 L.length, .string (bs RT.name), .slice k RT.key.length kc, .slice v RT.vers.length vc, .slice pa RT.parts.length pc, .slice c RT.kids.length cc].toArray 36 (0, 0)) := by rw [← hwa]; exact Array.getElem?_push_size
   have HA : Hid (∀ W, Ext wa W → W.cell? ⟨w5.heap.size, 0, none⟩ = some (.int .i64 L.length) ∧ W.cell? ⟨w5.heap.size, 1, none⟩ = some (.string (bs RT.name)) ∧ W.cell? ⟨w5.heap.size, 2, none⟩ = some (.slice k RT.key.length kc) ∧ W.cell? ⟨w5.heap.size, 3, none⟩ = some (.slice v RT.vers.length vc) ∧ W.cell? ⟨w5.heap.size, 4, none⟩ = some (.slice pa RT.parts.length pc) ∧ W.cell? ⟨w5.heap.size, 5, none⟩ = some (.slice c RT.kids.length cc)) := Lh fun W hE =>
    ⟨hE.keep (blk_lt hba) (blk_cells hba 0 rfl), hE.keep (blk_lt hba) (blk_cells hba 1 rfl), hE.keep (blk_lt hba) (blk_cells hba 2 rfl), hE.keep (blk_lt hba) (blk_cells hba 3 rfl), hE.keep (blk_lt hba) (blk_cells hba 4 rfl), hE.keep (blk_lt hba) (blk_cells hba 5 rfl)⟩
   have hE4a := hB5.trans hEa
   have HS1 := Lh fun (i : Int) W (hE : Ext wa W) hok => HSU.out i W (hE4a.trans hE) _ _ _ _ hok (((hk.ext hEa).ext hE).ok fun _ _ => trivial) (((hv.ext hEa).ext hE).ok fun _ _ => trivial) (((hpa.ext hEa).ext hE).ok fun _ _ => trivial) (((hc.ext hEa).ext hE).ok fun _ _ => trivial)
   have HP1 := Lh fun W (hE : Ext wa W) hok => HPC.out W (hE4a.trans hE) _ _ _ _ hok (((hk.ext hEa).ext hE).ok fun _ _ => trivial) (((hv.ext hEa).ext hE).ok fun _ _ => trivial) (((hpa.ext hEa).ext hE).ok fun _ _ => trivial) (((hc.ext hEa).ext hE).ok fun _ _ => trivial)
   have HE := Lh (And.intro hE4a (hX4.trans hE4a))
   have HB := Lh hnv
   clear HBU HSU HPC hk hv hpa hc hB5 hEa hE4a hba hX1 hX2 hX3 hX4 hB4
   rcases HLW.out with ⟨rfl, hfa⟩ | ⟨hsp, n, j, hfa, hn1, hn2, hn3, hn4, hn5, hn6⟩
   ·
    rw [hfa] at HS1 HP1
    clear HLW hfa HB HFF HNV HRC
    go_wp2_with fail
    refine (HHI.out wa HE.out.1).mono ?_
    rintro e w7 ⟨⟨sv, rfl, hsv⟩, hB7⟩
    have HRH := Lh fun i W (hE : Ext w7 W) => rhas_any [] i HMY.out.1 _ _ W HMY.out.2 (hsv.ext hE)
    obtain ⟨sa, sc, rfl, _, _⟩ := hsv.count z_span (by omega)
    have HX7 := Lh (And.intro hB7 (HE.out.2.trans hB7))
    clear HHI hsv hB7 hwa
    simp only [List.length_nil] at *
    go_wp2_with fail
    go_loopw [11, 12, 13, 14, 15] (fun t _ _ _ _ wr => ∃ i : Nat, t = .int .i64 i ∧ i ≤ L.length + 2 ∧ Ext w7 wr) (fun t _ _ _ _ _ => downV (L.length + 2) t)
    case atStart => exact ⟨0, rfl, Nat.zero_le _, Ext.refl _⟩
    case round =>
     obtain ⟨i, rfl, hi, hX⟩ := hrel
     have hi0 : (0 : Int) ≤ (i : Int) := by omega
     have hi14 : (i : Int) ≤ 14 := by omega
     obtain ⟨n0, n1, n2, n3, n4, n5⟩ := HA.out wr (HX7.out.1.trans hX)
     by_cases hlt : i ≤ L.length + 1
     ·
      have hlI : (i : Int) ≤ (L.length : Int) + 1 := by omega
      have HSB := Lh (HS1.out i wr (HX7.out.1.trans hX) (fun n vs e => by cases e))
      go_wp2_with fail
      refine HSB.out.mono ?_
      rintro e w8 ⟨hr, hB8⟩
      obtain ⟨ev, rfl, lo, hev⟩ := hr
      have hE89 : Ext w8 (w8.alloc (.cells #[.int .i64 0, .string ⟨#[]⟩, .string ⟨#[]⟩, .slice none 0 0, .slice none 0 0] 60)) := (Ext.refl w8).alloc _
      have hX9 := (hX.trans hB8).trans hE89
      have HHH := Lh (HRH.out i _ hX9)
      rw [inS_nil] at HHH
      have HCO := Lh fun W (hE : Ext (w8.alloc (.cells #[.int .i64 0, .string ⟨#[]⟩, .string ⟨#[]⟩, .slice none 0 0, .slice none 0 0] 60)) W) => code_any 32 HM lo ev W (HG.out.ext (HX7.out.2.trans (hX9.trans hE))) ((hev.ext hE89).ext hE)
      obtain ⟨eb1, eb2, rfl, _⟩ := hev
      clear n0 n1 n2 n3 n4 n5 HSB hX hB8 hE89
      go_wp2_with fail
      refine HHH.out.mono ?_
      rintro e w10 ⟨rfl, hB10⟩
      go_wp2_with fail
      refine (HCO.out w10 hB10).mono ?_
      rintro e w11 ⟨rfl, hB11⟩
      have HO := Lh ((hX9.trans hB10).trans hB11)
      clear HHH HCO hX9 hB10 hB11
      go_wp2_with fail
      go_roundw
      case rel => exact ⟨i + 1, by go_num, by omega, HO.out⟩
      case measure => simp only [downV]; omega
     ·
      have hlI : ¬ (i : Int) ≤ (L.length : Int) + 1 := by omega
      have HPB := Lh (HP1.out wr (HX7.out.1.trans hX) (fun n vs e => by cases e))
      go_wp2_with fail
      refine HPB.out.mono ?_
      rintro e w8 ⟨hr, hB8⟩
      obtain ⟨ev, rfl, lo, hev⟩ := hr
      have hX8 := HX7.out.2.trans (hX.trans hB8)
      have HCO := Lh (code_any 32 HM lo ev w8 (HG.out.ext hX8) hev)
      obtain ⟨eb1, eb2, rfl, _⟩ := hev
      clear n0 n1 n2 n3 n4 n5 HPB hX hB8
      go_wp2_with fail
      refine HCO.out.mono ?_
      rintro e w9 ⟨rfl, hB9⟩
      go_wp2_with fail
      go_ret
      exact ⟨rfl, hX8.trans hB9⟩
   ·
    have hspl : 0 < SP.length := List.length_pos_iff.2 hsp
    have hsI : (0 : Int) < (SP.length : Int) := by omega
    have q0 : ((SP.length : Int) == 0) = false := by rw [beq_eq_false_iff_ne]; omega
    rw [hfa] at HS1 HP1
    have hnl : n.name.length ≤ 9223372036854775807 := by obtain ⟨t, ht, e⟩ := hn2; rw [e]; exact HSL.out t ht
    have HN := Lh (And.intro hn1 (And.intro hnl (And.intro hn3 (And.intro hn4 (And.intro hn5 hn6)))))
    clear HLW hfa hn1 hn2 hn3 hn4 hn5 hn6 hnl hsp hspl HSL
    go_wp2_with fail
    refine (HHI.out wa HE.out.1).mono ?_
    rintro e w7 ⟨⟨sv, rfl, hsv⟩, hB7⟩
    have HRH := Lh fun i W (hE : Ext w7 W) => rhas_any SP i HMY.out.1 _ _ W HMY.out.2 (hsv.ext hE)
    obtain ⟨sa, sc, rfl, _, _⟩ := hsv.count z_span (by omega)
    have HX7 := Lh (And.intro hB7 (And.intro (HE.out.2.trans hB7) (HE.out.1.trans hB7)))
    clear HHI hsv hB7 hwa
    go_wp2_with fail
    go_loopw [11, 12, 13, 14, 15] (fun t _ _ _ _ wr => ∃ i : Nat, t = .int .i64 i ∧ i ≤ L.length + 2 ∧ Ext w7 wr) (fun t _ _ _ _ _ => downV (L.length + 2) t)
    case atStart => exact ⟨0, rfl, Nat.zero_le _, Ext.refl _⟩
    case round =>
     obtain ⟨i, rfl, hi, hX⟩ := hrel
     have hi0 : (0 : Int) ≤ (i : Int) := by omega
     have hi14 : (i : Int) ≤ 14 := by omega
     obtain ⟨n0, n1, n2, n3, n4, n5⟩ := HA.out wr (HX7.out.1.trans hX)
     by_cases hlt : i ≤ L.length + 1
     ·
      have hlI : (i : Int) ≤ (L.length : Int) + 1 := by omega
      have HSB := Lh (HS1.out i wr (HX7.out.1.trans hX) (fun n' vs e => by
       injection e with e
       injection e with e1 e2
       subst e1 e2
       exact ⟨HN.out.1, HN.out.2.1, HN.out.2.2.1 i⟩))
      by_cases hhv : hasV SP i = true
      ·
       obtain ⟨hi1, hi2⟩ := HN.out.2.2.1 i hhv
       obtain ⟨m, hm⟩ : ∃ m, m + 1 = i := ⟨i - 1, by omega⟩
       have hmL : m < L.length := by omega
       have hmI : (i : Int) - 1 = (m : Int) := by omega
       have hm0 : (0 : Int) ≤ (m : Int) := by omega
       have hmlt : (m : Int) < (L.length : Int) := by omega
       have hff := HN.out.2.2.2.2.1 m hmL (by rw [show (m : Int) + 1 = i by omega]; exact hhv)
       rw [show (m : Int) + 1 = i by omega] at hff
       have HHV := Lh hhv
       obtain ⟨gd, od, ya', yk', hna, lgd, _, d0, d1, d2, d3, d4, hya, hyk⟩ := node_at HB.out m hmL
       subst hna
       have HFM := Lh fun W (hE : Ext w4 W) => HFF.out m hmL _ _ W hE ((hya.ext hE).ok fun _ _ => trivial) ((hyk.ext hE).ok fun _ _ => trivial)
       obtain ⟨d, hd⟩ : ∃ d, L[m] = d := ⟨_, rfl⟩
       rw [hd] at d0 d1 d2 hya hyk
       simp only [hd] at HFM
       rw [hd] at hff
       rw [hff] at HFM
       obtain ⟨yab, yac, rfl, _, _⟩ := hya.count z_attr (by omega)
       obtain ⟨ykb, ykc, rfl, _, _⟩ := hyk.count z_node (by omega)
       have HDC := Lh fun W (hE : Ext w4 W) => And.intro (hE.keep lgd d0) (And.intro (hE.keep lgd d1) (And.intro (hE.keep lgd d2) (And.intro (hE.keep lgd d3) (hE.keep lgd d4))))
       clear hya hyk hff hhv hi1 hi2 hm hmL hd d0 d1 d2 d3 d4 lgd
       go_wp2_with fail
       refine HSB.out.mono ?_
       rintro e w8 ⟨hr, hB8⟩
       obtain ⟨xa', xk', rfl, hxa, hxk⟩ := retU_yes hr HHV.out
       have HR5 := Lh fun xa xk => new_one5 w8 n i xa xk
       have ek : (atN i n).kind = 1 := by rw [atN_eq]; rfl
       have en : (atN i n).name = n.name := by rw [atN_eq]; rfl
       have et : (atN i n).text = [] := by rw [atN_eq]; rfl
       obtain ⟨A, hA⟩ : ∃ A, atN i n = A := ⟨_, rfl⟩
       rw [hA] at hxa hxk HR5 ek en et HFM
       obtain ⟨ya, yac', rfl, _, _⟩ := hxa.count z_attr (by omega)
       obtain ⟨yk, ykc', rfl, _, _⟩ := hxk.count z_node (by omega)
       have hE89 : Ext w8 (w8.alloc (.cells #[.int .i64 1, .string (bs n.name), .string ⟨#[]⟩, .slice ya A.attrs.length yac', .slice yk A.kids.length ykc'] 60)) := (Ext.refl w8).alloc _
       have hX9 := (hX.trans hB8).trans hE89
       have HHH := Lh (HRH.out i _ hX9)
       rw [HN.out.2.2.2.1, HHV.out] at HHH
       have HX9 := Lh (And.intro (HR5.out (.slice ya A.attrs.length yac') (.slice yk A.kids.length ykc')) (And.intro (hxa.ext hE89) (And.intro (hxk.ext hE89) (And.intro hX9 (And.intro ek (And.intro en et))))))
       clear n0 n1 n2 n3 n4 n5 hr hxa hxk HR5 ek en et hA hE89 hX9 hX hB8 HSB
       go_wp2_with fail
       refine HHH.out.mono ?_
       rintro e w10 ⟨rfl, hB10⟩
       obtain ⟨hRA, hxa, hxk, hX9, ek, en, et⟩ := HX9.out
       have hX10 := hX9.trans hB10
       have hEL := HX7.out.2.2.trans hX10
       obtain ⟨d0, d1, d2, d3, d4⟩ := HDC.out w10 hEL
       have HFK := Lh (HFM.out w10 hEL)
       have HX10 := Lh (And.intro (hRA.ext hB10) (And.intro (hxa.ext hB10) (And.intro (hxk.ext hB10) hX10)))
       clear HX9 HHH hRA hxa hxk hX9 ek en et hX10 hEL HDC HFM hB10
       go_wp2_with fail
       refine HFK.out.mono ?_
       rintro e w11 ⟨⟨za', zk', rfl, hza, hzk⟩, hB11⟩
       simp only at hza hzk
       obtain ⟨za, zac, rfl, _, _⟩ := hza.count z_attr (by omega)
       obtain ⟨zk, zkc, rfl, _, _⟩ := hzk.count z_node (by omega)
       obtain ⟨w12, hw12⟩ : ∃ W, w11.alloc (.cells #[.int .i64 A.kind, .string (bs A.name), .string (bs A.text), .slice za A.attrs.length zac, .slice zk A.kids.length zkc] 60) = W := ⟨_, rfl⟩
       have hE12 : Ext w11 w12 := by rw [← hw12]; exact (Ext.refl w11).alloc _
       obtain ⟨hRA, hxa, hxk, hX10⟩ := HX10.out
       have hX12 := (hX10.trans hB11).trans hE12
       have hRZ : B5 w12 w11.heap.size A (.slice za A.attrs.length zac) (.slice zk A.kids.length zkc) := by rw [← hw12]; exact B5.new w11 A _ _
       have HX12 := Lh (And.intro ((hRA.ext hB11).ext hE12) (And.intro hRZ (And.intro hX12 (And.intro ((hxa.ext hB11).ext hE12) (And.intro ((hxk.ext hB11).ext hE12) (And.intro (hza.ext hE12) (hzk.ext hE12)))))))
       clear hRA hxa hxk hX10 hX12 hRZ hE12 hB11 hza hzk HX10 HFK d0 d1 d2 d3 d4
       go_wp2_with fail
       clear hw12
       refine (code_nil _).mono ?_
       rintro e w13 ⟨rfl, hB13⟩
       obtain ⟨hRA, hRZ, hX12, hxa, hxk, hza, hzk⟩ := HX12.out
       have hRA8 := hRA.ext hB13
       have hRZ8 := hRZ.ext hB13
       have r0 := hRA8.c0; have r1 := hRA8.c1; have r2 := hRA8.c2; have r3 := hRA8.c3; have r4 := hRA8.c4
       have s0 := hRZ8.c0; have s1 := hRZ8.c1; have s2 := hRZ8.c2; have s3 := hRZ8.c3; have s4 := hRZ8.c4
       have HSA := Lh (same_any (nsz A) A A _ _ _ _ _ _ w13 (Nat.le_refl _) (hxa.ext hB13) (hxk.ext hB13) (hza.ext hB13) (hzk.ext hB13))
       rw [(sameN_iff A A).2 rfl] at HSA
       have HX13 := Lh (hX12.trans hB13)
       clear hRA hRZ hX12 hxa hxk hza hzk hRA8 hRZ8 HX12 hB13
       go_wp2_with fail
       refine HSA.out.mono ?_
       rintro e w14 ⟨rfl, hB14⟩
       have HO := Lh (HX13.out.trans hB14)
       clear HSA HX13 hB14 r0 r1 r2 r3 r4 s0 s1 s2 s3 s4
       go_wp2_with fail
       go_roundw
       case rel => exact ⟨i + 1, by go_num, by omega, HO.out⟩
       case measure => simp only [downV]; omega
      ·
       have hhv' : hasV SP i = false := by cases h : hasV SP i with | true => exact absurd h hhv | false => rfl
       have HHV := Lh hhv'
       clear hhv hhv'
       go_wp2_with fail
       refine HSB.out.mono ?_
       rintro e w8 ⟨hr, hB8⟩
       obtain ⟨ev, rfl, lo, hev⟩ := retU_no hr HHV.out
       have hE89 : Ext w8 (w8.alloc (.cells #[.int .i64 0, .string ⟨#[]⟩, .string ⟨#[]⟩, .slice none 0 0, .slice none 0 0] 60)) := (Ext.refl w8).alloc _
       have hX9 := (hX.trans hB8).trans hE89
       have HHH := Lh (HRH.out i _ hX9)
       rw [HN.out.2.2.2.1, HHV.out] at HHH
       have HCO := Lh fun W (hE : Ext (w8.alloc (.cells #[.int .i64 0, .string ⟨#[]⟩, .string ⟨#[]⟩, .slice none 0 0, .slice none 0 0] 60)) W) => code_any 30 i lo ev W (HG.out.ext (HX7.out.2.1.trans (hX9.trans hE))) ((hev.ext hE89).ext hE)
       have HAT := Lh fun W (hE : Ext (w8.alloc (.cells #[.int .i64 0, .string ⟨#[]⟩, .string ⟨#[]⟩, .slice none 0 0, .slice none 0 0] 60)) W) => at_any 30 i lo ev W (HG.out.ext (HX7.out.2.1.trans (hX9.trans hE))) ((hev.ext hE89).ext hE)
       obtain ⟨eb1, eb2, rfl, _⟩ := hev
       clear n0 n1 n2 n3 n4 n5 HSB hX hB8 hE89 hr
       go_wp2_with fail
       refine HHH.out.mono ?_
       rintro e w10 ⟨rfl, hB10⟩
       go_wp2_with fail
       refine (HCO.out w10 hB10).mono ?_
       rintro e w11 ⟨rfl, hB11⟩
       go_wp2_with fail
       refine (HAT.out w11 (hB10.trans hB11)).mono ?_
       rintro e w12 ⟨rfl, hB12⟩
       have x1 : ((i : Int) != (i : Int)) = false := bne_self_eq_false _
       have HO := Lh (((hX9.trans hB10).trans hB11).trans hB12)
       clear HHH HCO HAT hX9 hB10 hB11 hB12
       go_wp2_with fail
       go_roundw
       case rel => exact ⟨i + 1, by go_num, by omega, HO.out⟩
       case measure => simp only [downV]; omega
     ·
      have hlI : ¬ (i : Int) ≤ (L.length : Int) + 1 := by omega
      have HPB := Lh (HP1.out wr (HX7.out.1.trans hX) (fun n' vs e => by
       injection e with e
       injection e with e1 e2
       subst e1 e2
       exact ⟨HN.out.1, HN.out.2.1, HN.out.2.2.1⟩))
      go_wp2_with fail
      refine HPB.out.mono ?_
      rintro e w8 ⟨hr, hB8⟩
      obtain ⟨xv, rfl, hxv⟩ := hr
      rw [HN.out.2.2.2.2.2] at hxv
      have hX8 := hX.trans hB8
      have HRV := Lh fun W (hE : Ext w8 W) => hxv.ext hE
      obtain ⟨cva, cvc, rfl, _, _⟩ := hxv.count z_span (by omega)
      clear n0 n1 n2 n3 n4 n5 HPB hX hB8 hxv
      go_wp2_with fail
      refine (code_nil _).mono ?_
      rintro e w9 ⟨rfl, hB9⟩
      have HCH := Lh (HRC.out w9 (HX7.out.2.2.trans (hX8.trans hB9)))
      go_wp2_with fail
      refine HCH.out.mono ?_
      rintro e w10 ⟨⟨rv, rfl, hrv⟩, hB10⟩
      have HSS := Lh (spans_any _ _ _ _ _ _ w10 (HRV.out w10 (hB9.trans hB10)) hrv)
      rw [(spansS_iff _ _).2 rfl] at HSS
      obtain ⟨ra, rc, rfl, _, _⟩ := hrv.count z_span (by omega)
      have hXf := HX7.out.2.1.trans ((hX8.trans hB9).trans hB10)
      clear HCH hrv HRV
      go_wp2_with fail
      refine HSS.out.mono ?_
      rintro e w11 ⟨rfl, hB11⟩
      go_wp2_with fail
      go_ret
      exact ⟨rfl, hXf.trans hB11⟩
end Go.Proofs.YtkelpbbekeelcaaGreatDoor
