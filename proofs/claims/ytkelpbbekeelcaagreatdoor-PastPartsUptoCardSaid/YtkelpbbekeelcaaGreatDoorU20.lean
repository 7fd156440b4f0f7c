/-
 recensionlaw16.PastParts: the walk. Helper lemmas; no statement of the seat is proved here.
-/
import Derived.Test.YtkelpbbekeelcaaGreatDoorU19
import Derived.Test.YtkelpbbekeelcaaGreatDoorU18
import Derived.Test.YtkelpbbekeelcaaGreatDoorU17
namespace Go.Proofs.YtkelpbbekeelcaaGreatDoor
open Go.RowKit
set_option maxRecDepth 100000
set_option linter.unusedVariables false
set_option linter.unusedSimpArgs false

theorem b5_new {W : World} {g : Nat} (h : W.heap[g]? = some (.cells #[.int .i64 0, .string ⟨#[]⟩, .string ⟨#[]⟩, .slice none 0 0, .slice none 0 0] 60 (0, 0))) : B5 W g zeroN (.slice none 0 0) (.slice none 0 0) :=
 ⟨blk_lt h, blk_cell h rfl, blk_cell h rfl, blk_cell h rfl, blk_cell h rfl, blk_cell h rfl, blk_free h, blk_free h, blk_free h, blk_free h, blk_free h⟩
set_option maxHeartbeats 32000000 in
theorem pastparts_walk (l : List Rule) (ds : List Node) (p : Nat → Prop) (vl vd : Value) (w : World) (hg : GlobE w) (hb : RulesB l) (hll : l.length ≤ 1048576) (hcnt : ∀ d ∈ ds, cntN d ≤ 1048576)
  (hvl : Rep w p vl (rulesD l)) (hvd : Rep w p vd (nodesD ds)) :
  Calls Tryz.prog 4 #[vl, vd] w fun e w' => e = .returned (.bool true) ∧ Ext w w' := by
 have HAW := Lib.hid (awake_any w hg)
 have HFI := Lib.hid fun W (hE : Ext w W) => fits_any l hb hll ds p vl vd W hcnt (hvl.ext hE) (hvd.ext hE)
 have HVS := Lib.hid (And.intro hvl (And.intro hvd (And.intro hb (And.intro hcnt hg))))
 obtain ⟨la, lc, rfl, _, _⟩ := hvl.count z_rule (by omega)
 obtain ⟨da, dc, rfl, _, _⟩ := hvd.count z_node (by omega)
 clear hvl hvd hb hcnt hg
 go_enter Tryz.func4, Tryz.ntmps4
 go_wp2_with fail
 refine HAW.out.mono ?_
 rintro e w1 ⟨rfl, hX1⟩
 clear HAW
 go_wp2_with fail
 refine (HFI.out _ hX1).mono ?_
 rintro e w3 ⟨⟨b1, rfl, hf⟩, hB3⟩
 have hX3 := hX1.trans hB3
 have HF := Lib.hid hf
 clear HFI hf
 cases b1 with
 | false =>
  go_wp2_with fail
  go_ret
  exact ⟨rfl, hX3⟩
 | true =>
  obtain ⟨hd12, hmay⟩ := HF.out rfl
  obtain ⟨nm, ks, rs, hl⟩ := hmay.root
  have HL := Lib.hid (And.intro hl hmay)
  obtain ⟨hvl, hvd, hb, hcnt, hg⟩ := HVS.out
  have HNO := Lib.hid (normals_any l hb hll ds p _ _ w3 hcnt (by omega) (hvl.ext hX3) (hvd.ext hX3))
  clear hl hmay hvl hvd hb hcnt hg HF hB3
  go_wp2_with fail
  refine HNO.out.mono ?_
  rintro e w4 ⟨⟨L, ⟨nv, rfl, hnv⟩, hLl, hLn⟩, hB4⟩
  have hX4 := hX3.trans hB4
  obtain ⟨na, nc, rfl, _, _⟩ := hnv.count z_node (by omega)
  obtain ⟨hvl, hvd, hb, hcnt, hg⟩ := HVS.out
  have hok : RulesOk l := HL.out.2.rules hb
  have hwf := fun d (hd : d ∈ L) => nform_wf HL.out.1 (hLn d hd)
  have HBU := Lib.hid (build_any l nm hok ⟨ks, rs, HL.out.1⟩ L (fun _ => True) _ _ w4 (fun d hd => ⟨(hwf d hd).1, (hwf d hd).2.2⟩) (by omega) ((hvl.ext hX4).ok fun _ _ => trivial) (hnv.ok fun _ _ => trivial))
  have hlaw := Lib.hid fun x => life_law l nm L x (fun d hd => ⟨(hwf d hd).1, (hwf d hd).2.1⟩) (by omega)
  have hvb := vB_root l nm L
  have HNC : Hid (∀ d ∈ L, cntN d ≤ 1048576) := Lib.hid fun d hd => (hwf d hd).2.2
  have HLV := Lib.hid fun W (hE : Ext w4 W) => lives_any l hok L (fun _ => True) (.slice la l.length lc) (.slice na L.length nc) W (by omega) (fun d hd => ⟨(hwf d hd).2.2, Nat.le_trans (nsz_cnt d) (hwf d hd).2.2⟩) ((hvl.ext (hX4.trans hE)).ok fun _ _ => trivial) ((hnv.ext hE).ok fun _ _ => trivial)
  have HLI := Lib.hid (livesI_inv l L (fun d hd => ⟨by rw [(hwf d hd).2.1]; exact (hwf d hd).1, Nat.le_trans (nsz_cnt d) (hwf d hd).2.2⟩) L [] (fun d hd => hd) (fun y hy => by cases hy))
  obtain ⟨RT, hRT⟩ : ∃ R, rootP l nm L = R := ⟨_, rfl⟩
  obtain ⟨LV, hLV⟩ : ∃ V, livesI l L L [] = V := ⟨_, rfl⟩
  rw [hRT] at HBU hlaw hvb
  rw [hLV] at HLV HLI
  have HVB := Lib.hid hvb
  have HOKR := Lib.hid hok
  have hLi : (L.length : Int) ≤ 12 := by omega
  clear hRT hLV hvb hwf hok hvl hvd hb hcnt hg hLn HNO hB4
  go_wp2_with fail
  refine HBU.out.mono ?_
  rintro e w5 ⟨⟨rk, rv, rp, rc, rkc, rvc, rpc, rcc, rfl, hk, hv, hpa, hc⟩, hB5⟩
  clear HBU
  go_wp2_with fail
  obtain ⟨w6, hw6⟩ : ∃ w6, (w5.alloc (.cells #[.int .i64 L.length, .string (bs RT.name), .slice rk RT.key.length rkc, .slice rv RT.vers.length rvc, .slice rp RT.parts.length rpc, .slice rc RT.kids.length rcc] 36)) = w6 := ⟨_, rfl⟩
  have hE56 : Ext w5 w6 := by rw [← hw6]; exact (Ext.refl w5).alloc _
  obtain ⟨ga, hga⟩ : ∃ g, w5.heap.size = g := ⟨_, rfl⟩
  have hblk : w6.heap[ga]? = some (.cells [.int .i64 L.length, .string (bs RT.name), .slice rk RT.key.length rkc, .slice rv RT.vers.length rvc, .slice rp RT.parts.length rpc, .slice rc RT.kids.length rcc].toArray 36 (0, 0)) := by rw [← hw6, ← hga]; exact Array.getElem?_push_size
  rw [hw6, hga]
  have hX46 := hB5.trans hE56
  have HAR := Lib.hid (And.intro (hk.ext hE56) (And.intro (hv.ext hE56) (And.intro (hpa.ext hE56) (hc.ext hE56))))
  have hX6 := hX4.trans hX46
  clear hw6 hga hk hv hpa hc hB5 hE56
  refine (HLV.out _ hX46).mono ?_
  rintro e w7 ⟨⟨lv, rfl, hlv⟩, hB7⟩
  obtain ⟨lva, lvc, rfl, _, _⟩ := hlv.count z_life (by omega)
  have hX7 := hX6.trans hB7
  have hX46 := hX46.trans hB7
  have hblk := (Below.block hB7 ga (blk_lt hblk)).trans hblk
  have HAR := Lib.hid (And.intro (HAR.out.1.ext hB7) (And.intro (HAR.out.2.1.ext hB7) (And.intro (HAR.out.2.2.1.ext hB7) (HAR.out.2.2.2.ext hB7))))
  have lga7 := blk_lt hblk
  have b0 := blk_cells hblk 0 rfl; have b1 := blk_cells hblk 1 rfl; have b2 := blk_cells hblk 2 rfl; have b3 := blk_cells hblk 3 rfl; have b4 := blk_cells hblk 4 rfl; have b5 := blk_cells hblk 5 rfl
  clear HLV hB7 hblk
  go_wp2_with fail
  go_loopw [8, 9, 10, 11, 12, 13, 14, 15, 16] (fun t _ _ _ _ _ _ _ _ wr => ∃ i : Nat, t = .int .i64 i ∧ i ≤ LV.length ∧ Ext w7 wr) (fun t _ _ _ _ _ _ _ _ _ => downV LV.length t)
  case atStart => exact ⟨0, rfl, Nat.zero_le _, Ext.refl _⟩
  case round =>
   obtain ⟨i, rfl, hi, hX⟩ := hrel
   have hi0 : (0 : Int) ≤ (i : Int) := by omega
   by_cases hlt : i < LV.length
   ·
    have hlI : (i : Int) < (LV.length : Int) := by omega
    obtain ⟨gl, ol, xv, yv, rfl, lgl7, _, x07, y07, hxr, hyr⟩ := life_at hlv i hlt
    obtain ⟨hyv, hxl, hfnd⟩ := HLI.out _ (List.getElem_mem hlt)
    obtain ⟨n, vs, j, Q, A, hfind, hvs, hpm, hQ, hnp, hvsl, hpv⟩ := hlaw.out _ (hist_ne l L _ hfnd)
    have hsum := hQ.sum
    rw [← hyv] at hsum
    obtain ⟨y, hy⟩ : ∃ y, LV[i] = y := ⟨_, rfl⟩
    rw [hy] at hxr hyr hxl hfind hQ hsum
    obtain ⟨x, hx⟩ : ∃ x, y.path = x := ⟨_, rfl⟩
    rw [hx] at hxr hxl hfind hQ
    obtain ⟨xa, xc, rfl, _, _⟩ := hxr.count z_step (by omega)
    obtain ⟨ya, yc, rfl, _, _⟩ := hyr.count z_span (by omega)
    obtain ⟨wi, hwi⟩ : ∃ wi, wi = wr := ⟨_, rfl⟩
    subst hwi
    obtain ⟨P, hP⟩ : ∃ P, Q.map (fun L => spansOf (flOf L)) = P := ⟨_, rfl⟩
    rw [hP] at hpm
    have HPP := Lib.hid fun W (hE : Ext wi W) => pparts_any L.length RT x (fun _ => True) (.slice rk RT.key.length rkc) (.slice rv RT.vers.length rvc) (.slice rp RT.parts.length rpc) (.slice rc RT.kids.length rcc) (.slice xa x.length xc) W HVB.out hxl (fun n' vs' e => by rw [hfind] at e; cases e; exact ⟨by omega, hvsl, hpv⟩) ((HAR.out.1.ext (hX.trans hE)).ok fun _ _ => trivial) ((HAR.out.2.1.ext (hX.trans hE)).ok fun _ _ => trivial) ((HAR.out.2.2.1.ext (hX.trans hE)).ok fun _ _ => trivial) ((HAR.out.2.2.2.ext (hX.trans hE)).ok fun _ _ => trivial) (hxr.ext (hX.trans hE))
    rw [hfind] at HPP
    unfold RetPs at HPP
    dsimp only at HPP
    rw [hpm] at HPP
    have hPQ : P.length = Q.length := by rw [← hP, List.length_map]
    have hPk : ∀ (k : Nat) (h : k < P.length) (h' : k < Q.length), P[k] = spansOf (flOf Q[k]) := fun k h h' => by subst hP; rw [List.getElem_map]
    have hP0 : 0 < P.length := by rw [hPQ]; exact List.length_pos_iff.2 hQ.some
    have HOK := Lib.hid hQ
    have HPQ := Lib.hid (And.intro hPQ hPk)
    have hQl : P.length ≤ 1048576 := by have := congrArg List.length hpm; rw [List.length_map] at this; omega
    have HSUM := Lib.hid hsum
    have q0 : ((P.length : Int) == 0) = false := by rw [beq_eq_false_iff_ne]; omega
    have a0 := hX.keep lga7 b0; have a1 := hX.keep lga7 b1; have a2 := hX.keep lga7 b2; have a3 := hX.keep lga7 b3; have a4 := hX.keep lga7 b4; have a5 := hX.keep lga7 b5
    have lga : ga < wi.heap.size := Nat.lt_of_lt_of_le lga7 hX.size
    have x0 := hX.keep lgl7 x07
    have lgl : gl < wi.heap.size := Nat.lt_of_lt_of_le lgl7 hX.size
    clear hyv hfnd hfind hvs hpm hQ hnp hvsl hpv hy hx hP hPQ hPk hsum
    go_wp2_with fail
    refine rg_begin (S := Sx wi) (by kernel_rfl) (Sx.begin _) ?_
    have hSp : Sx wi (World.drew wi) := (Sx.begin _)
    refine rg_t 0 (some 41) (.agg #[.int .i64 L.length, .string (bs RT.name), .slice rk RT.key.length rkc, .slice rv RT.vers.length rvc, .slice rp RT.parts.length rpc, .slice rc RT.kids.length rcc]) rfl hSp (fun w' hs => by (have h0 := hs.cell lga a0; have h1 := hs.cell lga a1; have h2 := hs.cell lga a2; have h3 := hs.cell lga a3; have h4 := hs.cell lga a4; have h5 := hs.cell lga a5; go_simp)) ?_
    simp only [Act.put, sA, sZ, sS]
    refine rg_t 1 (some 42) (.slice (some ⟨gl, ol, none⟩) LV.length lvc) rfl hSp (fun w' hs => by rfl) ?_
    simp only [Act.put, sA, sZ, sS]
    refine rg_t 2 (some 43) (.int .i64 i) rfl hSp (fun w' hs => by rfl) ?_
    simp only [Act.put, sA, sZ, sS]
    refine rg_t 3 (some 44) (.pointer (some ⟨gl, ol + i * 2, none⟩)) rfl hSp (fun w' hs => by first | rfl | go_simp) ?_
    simp only [Act.put, sA, sZ, sS]
    refine rg_t 4 (some 45) (.pointer (some ⟨gl, ol + i * 2, none⟩)) rfl hSp (fun w' hs => by first | rfl | go_simp) ?_
    simp only [Act.put, sA, sZ, sS]
    refine rg_t 5 (some 46) (.slice xa x.length xc) rfl hSp (fun w' hs => by (have h0 := hs.cell lgl x0; go_simp)) ?_
    simp only [Act.put, sA, sZ, sS]
    refine rg_call 6 (some 47) 18 #[.agg #[.int .i64 L.length, .string (bs RT.name), .slice rk RT.key.length rkc, .slice rv RT.vers.length rvc, .slice rp RT.parts.length rpc, .slice rc RT.kids.length rcc], .slice xa x.length xc] rfl rfl (by kernel_rfl) (by rfl) (fun w' => by first | rfl | go_simp) (R := fun v w' => ∃ (pa : Option Addr) (pc : Nat), v = .tuple #[.slice pa P.length pc, .nilIface] ∧ Rep w' (fun _ => True) (.slice pa P.length pc) (setsD P) ∧ Ext (World.drew wi) w') ?_ ?_
    ·
     refine (HPP.out (World.drew wi) hSp).mono ?_
     rintro e w' ⟨⟨sv, rfl, hsv⟩, hB⟩
     exact ⟨_, rfl, by obtain ⟨qa, qc, rfl, _, _⟩ := hsv.count z_spans (by omega); exact ⟨qa, qc, rfl, hsv, hB⟩⟩
    rintro _ wrp1 ⟨pa, pc, rfl, hpv, hBrp1⟩
    have hSp1 := hSp.ext hBrp1
    refine ⟨hSp1, ?_⟩
    simp only [Act.put, sA, sZ, sS]
    refine rg_t 7 (some 40) (.tuple #[.slice pa P.length pc, .nilIface]) rfl hSp1 (fun w' hs => by rfl) ?_
    simp only [Act.put, sA, sZ, sS]
    refine rg_t 8 (some 48) (.slice pa P.length pc) rfl hSp1 (fun w' hs => by first | rfl | go_simp) ?_
    simp only [Act.put, sA, sZ, sS]
    refine rg_t 9 (some 49) (.nilIface) rfl hSp1 (fun w' hs => by first | rfl | go_simp) ?_
    simp only [Act.put, sA, sZ, sS]
    refine rg_t 10 (some 9) (.slice pa P.length pc) rfl hSp1 (fun w' hs => by rfl) ?_
    simp only [Act.put, sA, sZ, sS]
    refine rg_t 11 (some 10) (.nilIface) rfl hSp1 (fun w' hs => by rfl) ?_
    simp only [Act.put, sA, sZ, sS]
    refine rg_done (by kernel_rfl) ?_
    have hE8 : Ext wi wrp1 := hSp1
    have hX8 := hX.trans hE8
    clear a0 a1 a2 a3 a4 a5 lga x0 lgl HPP hSp hSp1 hBrp1
    obtain ⟨w8, hw8⟩ : ∃ w8, w8 = wrp1 := ⟨_, rfl⟩
    subst hw8
    go_wp2_with fail
    refine (code_nil _).mono ?_
    rintro e w9 ⟨rfl, hB9⟩
    have hX9 := hX8.trans hB9
    have hpv := hpv.ext hB9
    go_wp2_with fail
    go_loopw [11, 12, 13, 14, 15, 16] (fun o t _ _ _ _ wr => ∃ (k : Nat) (sm : List Span) (sa : Option Addr) (sc : Nat), t = .int .i64 k ∧ o = .slice sa sm.length sc ∧ k ≤ P.length ∧ Ext w9 wr ∧ Hid (sm = spansOf (uptoU Q k) ∧ Rep wr (fun _ => True) (.slice sa sm.length sc) (spansD sm))) (fun _ t _ _ _ _ _ => downV P.length t)
    case atStart => exact ⟨0, [], none, 0, rfl, rfl, Nat.zero_le _, Ext.refl _, Lib.hid ⟨(uptoU_zero Q).symm, .nil 2⟩⟩
    case round =>
     obtain ⟨k, sm, sa, sc, rfl, rfl, hk, hW8, HS⟩ := hrel
     have hk0 : (0 : Int) ≤ (k : Int) := by omega
     by_cases hkl : k < P.length
     ·
      have hkI : (k : Int) < (P.length : Int) := by omega
      obtain ⟨gp, op, qv, rfl, lgp', _, z0', hpr'⟩ := spans_at hpv k hkl
      have hkQ : k < Q.length := by rw [← HPQ.out.1]; exact hkl
      have hpk : P[k] = spansOf (flOf Q[k]) := HPQ.out.2 k hkl hkQ
      have HPM : Hid (∀ (m : Nat) (h : m < P.length), mayG 1 P[m] ∧ P[m] ≠ []) := Lib.hid fun m h => by
       have hm : m < Q.length := by rw [← HPQ.out.1]; exact h
       rw [HPQ.out.2 m h hm]; exact ⟨spansOf_may _, HOK.out.set_ne m hm⟩
      have hpkm := HPM.out k hkl
      have HLT : Hid (∀ (m : Nat) (h : m < P.length), k = m + 1 → firstS P[m] < firstS P[k]) := Lib.hid fun m h e => by
       subst e
       rw [HPQ.out.2 m h (by rw [← HPQ.out.1]; exact h), hpk]; exact HOK.out.lt m hkQ
      have hsm := HS.out.1
      have hsmr := HS.out.2
      have ht1 := HOK.out.two1 k hkQ
      have ht0 := PartsOK.two0 (Q := Q) k hkQ
      rw [← hsm, ← hpk] at ht1 ht0
      have hsmm : mayG 1 sm := by rw [hsm]; exact spansOf_may _
      have hsml : sm.length ≤ 1048576 := by rw [hsm]; exact Nat.le_trans (spansV_len _ 200 1) (by omega)
      have hpkl : P[k].length ≤ 1048576 := by rw [hpk]; exact Nat.le_trans (spansV_len _ 200 1) (by omega)
      obtain ⟨pk, hpke⟩ : ∃ y, P[k] = y := ⟨_, rfl⟩
      rw [hpke] at hpr' hpk hpkm HLT ht1 ht0 hpkl
      obtain ⟨qa, qc, rfl, _, _⟩ := hpr'.count z_span (by omega)
      obtain ⟨wk, hwk⟩ : ∃ wk, wk = wr := ⟨_, rfl⟩
      subst hwk
      have hWk := hX9.trans hW8
      have hpr := hpr'.ext hW8
      have z0 := hW8.keep lgp' z0'
      have lgp : gp < wk.heap.size := Nat.lt_of_lt_of_le lgp' hW8.size
      have lgpK := And.intro lgp' z0'
      have HT1 := Lib.hid fun W (hE : Ext wk W) => two_any 1 (.inr rfl) sm pk hsmm hpkm.1 (fun _ => True) (.slice sa sm.length sc) (.slice qa pk.length qc) W hsml hpkl (hsmr.ext hE) (hpr.ext hE)
      rw [ht1] at HT1
      have HT0 := Lib.hid fun W (hE : Ext wk W) => two_any 0 (.inl rfl) sm pk hsmm hpkm.1 (fun _ => True) (.slice sa sm.length sc) (.slice qa pk.length qc) W hsml hpkl (hsmr.ext hE) (hpr.ext hE)
      rw [ht0] at HT0
      have HF1 := Lib.hid fun W (hE : Ext wk W) => first_any pk hpkm.1 hpkm.2 _ (.slice qa pk.length qc) W (hpr.ext hE)
      have hpk0 : 0 < pk.length := List.length_pos_iff.2 hpkm.2
      have q1 : ((pk.length : Int) == 0) = false := by rw [beq_eq_false_iff_ne]; omega
      have x0 := hWk.keep lgl7 x07
      have lgl : gl < wk.heap.size := Nat.lt_of_lt_of_le lgl7 hWk.size
      have HPKE := Lib.hid hpk
      have hpkne : ¬ pk = [] := hpkm.2
      clear hsm hsmr ht1 ht0 hsmm hsml hpkl hpke z0' lgp' hpr' hpk
      go_wp2_with fail
      refine region_merge (fun ac ac' w' => ∃ (bc : Bool) (x76c : Value) (x82c : Value) (x83c : Value) (x84c : Value) (x85c : Value) (x86c : Value) (x87c : Value) (x88c : Value) (x89c : Value) (x90c : Value) (x91c : Value) (x92c : Value) (x93c : Value) (x94c : Value) (x95c : Value), ac' = ((((((((((((((((((((((((((((((((((ac.put (some 64) (.slice (some ⟨gp, op, none⟩) P.length pc)).put (some 65) (.int .i64 k)).put (some 66) (.pointer (some ⟨gp, op + k, none⟩))).put (some 67) (.slice qa pk.length qc)).put (some 68) (.int .i64 pk.length)).put (some 69) (.bool false)).put (some 70) (.bool false)).put (some 71) (.slice sa sm.length sc)).put (some 72) (.slice (some ⟨gp, op, none⟩) P.length pc)).put (some 73) (.int .i64 k)).put (some 74) (.pointer (some ⟨gp, op + k, none⟩))).put (some 75) (.slice qa pk.length qc)).put (some 76) (x76c)).put (some 77) (.int .i64 0)).put (some 78) (.bool false)).put (some 79) (.bool false)).put (some 80) (.bool false)).put (some 81) (.int .i64 k)).put (some 82) (x82c)).put (some 83) (x83c)).put (some 84) (x84c)).put (some 85) (x85c)).put (some 86) (x86c)).put (some 87) (x87c)).put (some 88) (x88c)).put (some 89) (x89c)).put (some 90) (x90c)).put (some 91) (x91c)).put (some 92) (x92c)).put (some 93) (x93c)).put (some 94) (x94c)).put (some 95) (x95c)).put (some 96) (.bool false)).put (some 97) (.bool bc)) ∧ Sx wk w' ∧ bc = false) ?_ ?_
      ·
       by_cases hk1 : 0 < k
       ·
        obtain ⟨km, hkm⟩ : ∃ m, k = m + 1 := ⟨k - 1, by omega⟩
        have kmI : (km : Int) < (P.length : Int) := by omega
        have km0 : (0 : Int) ≤ (km : Int) := by omega
        have kI : (0 : Int) < (k : Int) := by omega
        have q5 : IntKind.i64.wrap ((k : Int) - 1) = (km : Int) := by rw [show (k : Int) - 1 = (km : Int) by omega]; exact IntWalk.i64_in _ (by omega)
        obtain ⟨gp', op', jv, egp, _, _, zj, hjr⟩ := spans_at (hpv.ext hW8) km (by omega)
        cases egp
        have hlt := HLT.out km (by omega) (by omega)
        obtain ⟨pj, hpj⟩ : ∃ y, P[km] = y := ⟨_, rfl⟩
        have hpjm := HPM.out km (by omega)
        rw [hpj] at hjr hlt hpjm
        obtain ⟨ja, jc, rfl, _, _⟩ := hjr.count z_span (by omega)
        have HF0 := Lib.hid fun W (hE : Ext wk W) => first_any pj hpjm.1 hpjm.2 _ (.slice ja pj.length jc) W (hjr.ext hE)
        have q7 : decide (firstS pk ≤ firstS pj) = false := decide_eq_false (by omega)
        have q8 : ¬ firstS pk ≤ firstS pj := by omega
        clear hjr hpj hlt hpjm hkm
        refine rg_begin (S := Sx wk) (by kernel_rfl) (Sx.begin _) ?_
        have hSx : Sx wk (World.drew wk) := (Sx.begin _)
        refine rg_t 0 (some 64) (.slice (some ⟨gp, op, none⟩) P.length pc) rfl hSx (fun w' hs => by rfl) ?_
        simp only [Act.put, sA, sZ, sS]
        refine rg_t 1 (some 65) (.int .i64 k) rfl hSx (fun w' hs => by rfl) ?_
        simp only [Act.put, sA, sZ, sS]
        refine rg_t 2 (some 66) (.pointer (some ⟨gp, op + k, none⟩)) rfl hSx (fun w' hs => by first | rfl | go_simp) ?_
        simp only [Act.put, sA, sZ, sS]
        refine rg_t 3 (some 67) (.slice qa pk.length qc) rfl hSx (fun w' hs => by (have h0 := hs.cell lgp z0; go_simp)) ?_
        simp only [Act.put, sA, sZ, sS]
        refine rg_t 4 (some 68) (.int .i64 pk.length) rfl hSx (fun w' hs => by first | rfl | go_simp) ?_
        simp only [Act.put, sA, sZ, sS]
        refine rg_t 5 (some 69) (.bool false) rfl hSx (fun w' hs => by first | rfl | go_simp) ?_
        simp only [Act.put, sA, sZ, sS]
        refine rg_t 6 (some 70) (.bool false) rfl hSx (fun w' hs => by rfl) ?_
        simp only [Act.put, sA, sZ, sS]
        refine rg_t 7 (some 71) (.slice sa sm.length sc) rfl hSx (fun w' hs => by rfl) ?_
        simp only [Act.put, sA, sZ, sS]
        refine rg_t 8 (some 72) (.slice (some ⟨gp, op, none⟩) P.length pc) rfl hSx (fun w' hs => by rfl) ?_
        simp only [Act.put, sA, sZ, sS]
        refine rg_t 9 (some 73) (.int .i64 k) rfl hSx (fun w' hs => by rfl) ?_
        simp only [Act.put, sA, sZ, sS]
        refine rg_t 10 (some 74) (.pointer (some ⟨gp, op + k, none⟩)) rfl hSx (fun w' hs => by first | rfl | go_simp) ?_
        simp only [Act.put, sA, sZ, sS]
        refine rg_t 11 (some 75) (.slice qa pk.length qc) rfl hSx (fun w' hs => by (have h0 := hs.cell lgp z0; go_simp)) ?_
        simp only [Act.put, sA, sZ, sS]
        refine rg_call 12 (some 76) 19 #[.int .i64 1, .slice sa sm.length sc, .slice qa pk.length qc] rfl rfl (by kernel_rfl) (by rfl) (fun w' => by first | rfl | go_simp) (R := fun v w' => ∃ (ta : Option Addr) (tc : Nat), v = .slice ta 0 tc ∧ Ext (World.drew wk) w') ?_ ?_
        ·
         refine (HT1.out (World.drew wk) hSx).mono ?_
         rintro e w' ⟨⟨sv, rfl, hsv⟩, hB⟩
         exact ⟨_, rfl, by obtain ⟨qa, qc, rfl, _, _⟩ := hsv.count z_span (by omega); exact ⟨qa, qc, rfl, hB⟩⟩
        rintro _ wrx1 ⟨ta, tc, rfl, hBrx1⟩
        have hSx1 := hSx.ext hBrx1
        refine ⟨hSx1, ?_⟩
        simp only [Act.put, sA, sZ, sS]
        refine rg_t 13 (some 77) (.int .i64 0) rfl hSx1 (fun w' hs => by first | rfl | go_simp) ?_
        simp only [Act.put, sA, sZ, sS]
        refine rg_t 14 (some 78) (.bool false) rfl hSx1 (fun w' hs => by first | rfl | go_simp) ?_
        simp only [Act.put, sA, sZ, sS]
        refine rg_t 15 (some 79) (.bool false) rfl hSx1 (fun w' hs => by rfl) ?_
        simp only [Act.put, sA, sZ, sS]
        refine rg_t 16 (some 80) (.bool false) rfl hSx1 (fun w' hs => by rfl) ?_
        simp only [Act.put, sA, sZ, sS]
        refine rg_t 17 (some 81) (.int .i64 k) rfl hSx1 (fun w' hs => by rfl) ?_
        simp only [Act.put, sA, sZ, sS]
        refine rg_t 18 (some 82) (.bool true) rfl hSx1 (fun w' hs => by first | rfl | go_simp) ?_
        simp only [Act.put, sA, sZ, sS]
        refine rg_t 19 (some 83) (.bool true) rfl hSx1 (fun w' hs => by rfl) ?_
        simp only [Act.put, sA, sZ, sS]
        refine rg_t 20 (some 84) (.slice (some ⟨gp, op, none⟩) P.length pc) rfl hSx1 (fun w' hs => by rfl) ?_
        simp only [Act.put, sA, sZ, sS]
        refine rg_t 21 (some 85) (.int .i64 k) rfl hSx1 (fun w' hs => by rfl) ?_
        simp only [Act.put, sA, sZ, sS]
        refine rg_t 22 (some 86) (.int .i64 km) rfl hSx1 (fun w' hs => by first | rfl | go_simp) ?_
        simp only [Act.put, sA, sZ, sS]
        refine rg_t 23 (some 87) (.pointer (some ⟨gp, op + km, none⟩)) rfl hSx1 (fun w' hs => by first | rfl | go_simp) ?_
        simp only [Act.put, sA, sZ, sS]
        refine rg_t 24 (some 88) (.slice ja pj.length jc) rfl hSx1 (fun w' hs => by (have h0 := hs.cell lgp zj; go_simp)) ?_
        simp only [Act.put, sA, sZ, sS]
        refine rg_t 26 (some 90) (.slice (some ⟨gp, op, none⟩) P.length pc) rfl hSx1 (fun w' hs => by rfl) ?_
        simp only [Act.put, sA, sZ, sS]
        refine rg_t 27 (some 91) (.int .i64 k) rfl hSx1 (fun w' hs => by rfl) ?_
        simp only [Act.put, sA, sZ, sS]
        refine rg_t 28 (some 92) (.pointer (some ⟨gp, op + k, none⟩)) rfl hSx1 (fun w' hs => by first | rfl | go_simp) ?_
        simp only [Act.put, sA, sZ, sS]
        refine rg_t 29 (some 93) (.slice qa pk.length qc) rfl hSx1 (fun w' hs => by (have h0 := hs.cell lgp z0; go_simp)) ?_
        simp only [Act.put, sA, sZ, sS]
        refine rg_call 25 (some 89) 20 #[.slice ja pj.length jc] rfl rfl (by kernel_rfl) (by rfl) (fun w' => by first | rfl | go_simp) (R := fun v w' => v = .int .i64 (firstS pj) ∧ Ext wrx1 w') ?_ ?_
        ·
         refine (HF0.out wrx1 hSx1).mono ?_
         rintro e w' ⟨rfl, h⟩
         exact ⟨_, rfl, rfl, h⟩
        rintro _ wrx2 ⟨rfl, hBrx2⟩
        have hSx2 := hSx1.ext hBrx2
        refine ⟨hSx2, ?_⟩
        simp only [Act.put, sA, sZ, sS]
        refine rg_call 30 (some 94) 20 #[.slice qa pk.length qc] rfl rfl (by kernel_rfl) (by rfl) (fun w' => by first | rfl | go_simp) (R := fun v w' => v = .int .i64 (firstS pk) ∧ Ext wrx2 w') ?_ ?_
        ·
         refine (HF1.out wrx2 hSx2).mono ?_
         rintro e w' ⟨rfl, h⟩
         exact ⟨_, rfl, rfl, h⟩
        rintro _ wrx3 ⟨rfl, hBrx3⟩
        have hSx3 := hSx2.ext hBrx3
        refine ⟨hSx3, ?_⟩
        simp only [Act.put, sA, sZ, sS]
        refine rg_t 31 (some 95) (.bool false) rfl hSx3 (fun w' hs => by first | rfl | go_simp) ?_
        simp only [Act.put, sA, sZ, sS]
        refine rg_t 32 (some 96) (.bool false) rfl hSx3 (fun w' hs => by rfl) ?_
        simp only [Act.put, sA, sZ, sS]
        refine rg_t 33 (some 97) (.bool false) rfl hSx3 (fun w' hs => by rfl) ?_
        simp only [Act.put, sA, sZ, sS]
        refine rg_done (by kernel_rfl) ?_
        exact ⟨false, (.slice ta 0 tc), (.bool true), (.bool true), (.slice (some ⟨gp, op, none⟩) P.length pc), (.int .i64 k), (.int .i64 km), (.pointer (some ⟨gp, op + km, none⟩)), (.slice ja pj.length jc), (.int .i64 (firstS pj)), (.slice (some ⟨gp, op, none⟩) P.length pc), (.int .i64 k), (.pointer (some ⟨gp, op + k, none⟩)), (.slice qa pk.length qc), (.int .i64 (firstS pk)), (.bool false), (by simp only [Act.put, sA, sZ, sS]), hSx3, rfl⟩
       ·
        have kI : ¬ (0 : Int) < (k : Int) := by omega
        refine rg_begin (S := Sx wk) (by kernel_rfl) (Sx.begin _) ?_
        have hSx : Sx wk (World.drew wk) := (Sx.begin _)
        refine rg_t 0 (some 64) (.slice (some ⟨gp, op, none⟩) P.length pc) rfl hSx (fun w' hs => by rfl) ?_
        simp only [Act.put, sA, sZ, sS]
        refine rg_t 1 (some 65) (.int .i64 k) rfl hSx (fun w' hs => by rfl) ?_
        simp only [Act.put, sA, sZ, sS]
        refine rg_t 2 (some 66) (.pointer (some ⟨gp, op + k, none⟩)) rfl hSx (fun w' hs => by first | rfl | go_simp) ?_
        simp only [Act.put, sA, sZ, sS]
        refine rg_t 3 (some 67) (.slice qa pk.length qc) rfl hSx (fun w' hs => by (have h0 := hs.cell lgp z0; go_simp)) ?_
        simp only [Act.put, sA, sZ, sS]
        refine rg_t 4 (some 68) (.int .i64 pk.length) rfl hSx (fun w' hs => by first | rfl | go_simp) ?_
        simp only [Act.put, sA, sZ, sS]
        refine rg_t 5 (some 69) (.bool false) rfl hSx (fun w' hs => by first | rfl | go_simp) ?_
        simp only [Act.put, sA, sZ, sS]
        refine rg_t 6 (some 70) (.bool false) rfl hSx (fun w' hs => by rfl) ?_
        simp only [Act.put, sA, sZ, sS]
        refine rg_t 7 (some 71) (.slice sa sm.length sc) rfl hSx (fun w' hs => by rfl) ?_
        simp only [Act.put, sA, sZ, sS]
        refine rg_t 8 (some 72) (.slice (some ⟨gp, op, none⟩) P.length pc) rfl hSx (fun w' hs => by rfl) ?_
        simp only [Act.put, sA, sZ, sS]
        refine rg_t 9 (some 73) (.int .i64 k) rfl hSx (fun w' hs => by rfl) ?_
        simp only [Act.put, sA, sZ, sS]
        refine rg_t 10 (some 74) (.pointer (some ⟨gp, op + k, none⟩)) rfl hSx (fun w' hs => by first | rfl | go_simp) ?_
        simp only [Act.put, sA, sZ, sS]
        refine rg_t 11 (some 75) (.slice qa pk.length qc) rfl hSx (fun w' hs => by (have h0 := hs.cell lgp z0; go_simp)) ?_
        simp only [Act.put, sA, sZ, sS]
        refine rg_call 12 (some 76) 19 #[.int .i64 1, .slice sa sm.length sc, .slice qa pk.length qc] rfl rfl (by kernel_rfl) (by rfl) (fun w' => by first | rfl | go_simp) (R := fun v w' => ∃ (ta : Option Addr) (tc : Nat), v = .slice ta 0 tc ∧ Ext (World.drew wk) w') ?_ ?_
        ·
         refine (HT1.out (World.drew wk) hSx).mono ?_
         rintro e w' ⟨⟨sv, rfl, hsv⟩, hB⟩
         exact ⟨_, rfl, by obtain ⟨qa, qc, rfl, _, _⟩ := hsv.count z_span (by omega); exact ⟨qa, qc, rfl, hB⟩⟩
        rintro _ wrx1 ⟨ta, tc, rfl, hBrx1⟩
        have hSx1 := hSx.ext hBrx1
        refine ⟨hSx1, ?_⟩
        simp only [Act.put, sA, sZ, sS]
        refine rg_t 13 (some 77) (.int .i64 0) rfl hSx1 (fun w' hs => by first | rfl | go_simp) ?_
        simp only [Act.put, sA, sZ, sS]
        refine rg_t 14 (some 78) (.bool false) rfl hSx1 (fun w' hs => by first | rfl | go_simp) ?_
        simp only [Act.put, sA, sZ, sS]
        refine rg_t 15 (some 79) (.bool false) rfl hSx1 (fun w' hs => by rfl) ?_
        simp only [Act.put, sA, sZ, sS]
        refine rg_t 16 (some 80) (.bool false) rfl hSx1 (fun w' hs => by rfl) ?_
        simp only [Act.put, sA, sZ, sS]
        refine rg_t 17 (some 81) (.int .i64 k) rfl hSx1 (fun w' hs => by rfl) ?_
        simp only [Act.put, sA, sZ, sS]
        refine rg_t 18 (some 82) (.bool false) rfl hSx1 (fun w' hs => by first | rfl | go_simp) ?_
        simp only [Act.put, sA, sZ, sS]
        refine rg_t 19 (some 83) (.bool false) rfl hSx1 (fun w' hs => by rfl) ?_
        simp only [Act.put, sA, sZ, sS]
        refine rg_s 20 (some 84) rfl hSx1 ?_
        simp only [Act.put, sA, sZ, sS]
        refine rg_s 21 (some 85) rfl hSx1 ?_
        simp only [Act.put, sA, sZ, sS]
        refine rg_s 22 (some 86) rfl hSx1 ?_
        simp only [Act.put, sA, sZ, sS]
        refine rg_s 23 (some 87) rfl hSx1 ?_
        simp only [Act.put, sA, sZ, sS]
        refine rg_s 24 (some 88) rfl hSx1 ?_
        simp only [Act.put, sA, sZ, sS]
        refine rg_s 25 (some 89) rfl hSx1 ?_
        simp only [Act.put, sA, sZ, sS]
        refine rg_s 26 (some 90) rfl hSx1 ?_
        simp only [Act.put, sA, sZ, sS]
        refine rg_s 27 (some 91) rfl hSx1 ?_
        simp only [Act.put, sA, sZ, sS]
        refine rg_s 28 (some 92) rfl hSx1 ?_
        simp only [Act.put, sA, sZ, sS]
        refine rg_s 29 (some 93) rfl hSx1 ?_
        simp only [Act.put, sA, sZ, sS]
        refine rg_s 30 (some 94) rfl hSx1 ?_
        simp only [Act.put, sA, sZ, sS]
        refine rg_s 31 (some 95) rfl hSx1 ?_
        simp only [Act.put, sA, sZ, sS]
        refine rg_t 32 (some 96) (.bool false) rfl hSx1 (fun w' hs => by rfl) ?_
        simp only [Act.put, sA, sZ, sS]
        refine rg_t 33 (some 97) (.bool false) rfl hSx1 (fun w' hs => by rfl) ?_
        simp only [Act.put, sA, sZ, sS]
        refine rg_done (by kernel_rfl) ?_
        exact ⟨false, (.slice ta 0 tc), (.bool false), (.bool false), (undef), (undef), (undef), (undef), (undef), (undef), (undef), (undef), (undef), (undef), (undef), (undef), (by simp only [Act.put, sA, sZ, sS]), hSx1, rfl⟩
      rintro _ wm ⟨bc, x76c, x82c, x83c, x84c, x85c, x86c, x87c, x88c, x89c, x90c, x91c, x92c, x93c, x94c, x95c, rfl, hSm, rfl⟩
      simp only [Act.put, sA, sZ, sS]
      have hEkm : Ext wk wm := hSm
      clear hSm HT1 HF1 z0 lgp x0 lgl HLT HPM
      have z0 := (hW8.trans hEkm).keep lgpK.1 lgpK.2
      go_wp2_with fail
      refine (HT0.out _ hEkm).mono ?_
      rintro e wn ⟨⟨nv2, rfl, hn2⟩, hBn⟩
      obtain ⟨s2, hs2⟩ : ∃ s, spansOf (uptoU Q (k + 1)) = s := ⟨_, rfl⟩
      rw [hs2] at hn2
      obtain ⟨n2a, n2c, rfl, _, _⟩ := hn2.count z_span (by omega)
      have hEkm := hEkm.trans hBn
      have hWwn := hWk.trans hEkm
      have z0 := (hW8.trans hEkm).keep lgpK.1 lgpK.2
      have lgp : gp < wn.heap.size := Nat.lt_of_lt_of_le lgpK.1 (hW8.trans hEkm).size
      have x0 := hWwn.keep lgl7 x07
      have lgl : gl < wn.heap.size := Nat.lt_of_lt_of_le lgl7 hWwn.size
      clear HT0 hBn
      go_wp2_with fail
      obtain ⟨jy, hjy, evy, haty0⟩ := HOK.out.same k hkQ _ (HOK.out.first k hkQ).1
      rw [← HPKE.out] at evy
      obtain ⟨gn, on, da, dk, ena, lgn', _, n0, n1, n2, n3, n4, hda, hdk⟩ := node_at (hnv.ext (hX46.trans hWwn)) jy hjy
      cases ena
      have hdc := HNC.out _ (List.getElem_mem hjy)
      have hdn := (node_len hnv jy hjy).1
      obtain ⟨dy, hdy⟩ : ∃ d, L[jy] = d := ⟨_, rfl⟩
      rw [hdy] at n0 n1 n2 hda hdk hdc hdn haty0
      obtain ⟨day, dacy, rfl, _, _⟩ := hda.count z_attr (by omega)
      obtain ⟨dky, dkcy, rfl, _, _⟩ := hdk.count z_node (by omega)
      have n0y := n0; have n1y := n1; have n2y := n2; have n3y := n3; have n4y := n4
      have lgn := lgn'
      have hjyI : (jy : Int) < (L.length : Int) := by omega
      have hjy0 : (0 : Int) ≤ (jy : Int) := by omega
      have qy : IntKind.i64.wrap (jy : Int) = (jy : Int) := IntWalk.i64_in _ (by omega)
      have HVy : Hid (∀ W, Ext wn W → Calls Tryz.prog 20 #[.slice qa pk.length qc] W fun e w' => e = .returned (.int .i64 ((jy : Int) + 1)) ∧ Ext W w') := Lib.hid fun W hE => by
       have := first_any pk hpkm.1 hpkm.2 _ (.slice qa pk.length qc) W (hpr.ext (hEkm.trans hE))
       rw [evy] at this
       exact this
      have HDy := Lib.hid fun W (hE : Ext wn W) => findf_any l dy x (fun b => b < wn.heap.size) (.slice la l.length lc) _ _ (.slice xa x.length xc) W hdc HOKR.out hxl (((HVS.out.1.ext (hX7.trans hWwn)).lt.ok fun b hb => hb.2).ext hE) ((hda.lt.ok fun b hb => hb.2).ext hE) ((hdk.lt.ok fun b hb => hb.2).ext hE) (((hxr.ext hWwn).lt.ok fun b hb => hb.2).ext hE) hdn
      obtain ⟨Fy, hFy⟩ : ∃ r, findF l dy x = r := ⟨_, rfl⟩
      rw [hFy] at HDy haty0
      obtain ⟨my, iy⟩ := Fy
      have HATy := Lib.hid haty0
      clear hFy hdy hda hdk hdc hdn haty0 n0 n1 n2 n3 n4 evy lgn'
      clear hpk0 q1
      refine region_merge (fun ac ac' w' => ∃ (gy : Nat) (ay : Option Addr) (cy : Nat) (ky : Option Addr) (ey : Nat), ac' = (((((((((((((((((((((ac.put (some 105) (.slice la l.length lc)).put (some 106) (.slice (some ⟨gn, on, none⟩) L.length nc)).put (some 107) (.slice (some ⟨gp, op, none⟩) P.length pc)).put (some 108) (.int .i64 k)).put (some 109) (.pointer (some ⟨gp, op + k, none⟩))).put (some 110) (.slice qa pk.length qc)).put (some 111) (.int .i64 ((jy : Int) + 1))).put (some 112) (.int .i64 jy)).put (some 113) (.pointer (some ⟨gn, on + jy * 5, none⟩))).put (some 114) (.agg #[.int .i64 dy.kind, .string (bs dy.name), .string (bs dy.text), .slice day dy.attrs.length dacy, .slice dky dy.kids.length dkcy])).put (some 115) (.slice (some ⟨gl, ol, none⟩) LV.length lvc)).put (some 116) (.int .i64 i)).put (some 117) (.pointer (some ⟨gl, ol + i * 2, none⟩))).put (some 118) (.pointer (some ⟨gl, ol + i * 2, none⟩))).put (some 119) (.slice xa x.length xc)).put (some 120) (.tuple #[.agg #[.int .i64 my.kind, .string (bs my.name), .string (bs my.text), .slice ay my.attrs.length cy, .slice ky my.kids.length ey], .int .i64 iy])).put (some 104) (.tuple #[.agg #[.int .i64 my.kind, .string (bs my.name), .string (bs my.text), .slice ay my.attrs.length cy, .slice ky my.kids.length ey], .int .i64 iy])).put (some 121) (.agg #[.int .i64 my.kind, .string (bs my.name), .string (bs my.text), .slice ay my.attrs.length cy, .slice ky my.kids.length ey])).put (some 122) (.int .i64 iy)).put (some 13) (.pointer (some ⟨gy, 0, none⟩))).put (some 14) (.int .i64 iy)) ∧ Sx wn w' ∧ B5 w' gy my (.slice ay my.attrs.length cy) (.slice ky my.kids.length ey) ∧ Rep w' (fun b => b < wn.heap.size) (.slice ay my.attrs.length cy) (attrsD my.attrs)) ?_ ?_
      ·
       refine rg_begin (S := Sx wn) (by kernel_rfl) (Sx.begin _) ?_
       have hSy : Sx wn (World.drew wn) := (Sx.begin _)
       refine rg_t 0 (some 105) (.slice la l.length lc) rfl hSy (fun w' hs => by rfl) ?_
       simp only [Act.put, sA, sZ, sS]
       refine rg_t 1 (some 106) (.slice (some ⟨gn, on, none⟩) L.length nc) rfl hSy (fun w' hs => by rfl) ?_
       simp only [Act.put, sA, sZ, sS]
       refine rg_t 2 (some 107) (.slice (some ⟨gp, op, none⟩) P.length pc) rfl hSy (fun w' hs => by rfl) ?_
       simp only [Act.put, sA, sZ, sS]
       refine rg_t 3 (some 108) (.int .i64 k) rfl hSy (fun w' hs => by rfl) ?_
       simp only [Act.put, sA, sZ, sS]
       refine rg_t 4 (some 109) (.pointer (some ⟨gp, op + k, none⟩)) rfl hSy (fun w' hs => by first | rfl | go_simp) ?_
       simp only [Act.put, sA, sZ, sS]
       refine rg_t 5 (some 110) (.slice qa pk.length qc) rfl hSy (fun w' hs => by (have h0 := hs.cell lgp z0; go_simp)) ?_
       simp only [Act.put, sA, sZ, sS]
       refine rg_t 10 (some 115) (.slice (some ⟨gl, ol, none⟩) LV.length lvc) rfl hSy (fun w' hs => by rfl) ?_
       simp only [Act.put, sA, sZ, sS]
       refine rg_t 11 (some 116) (.int .i64 i) rfl hSy (fun w' hs => by rfl) ?_
       simp only [Act.put, sA, sZ, sS]
       refine rg_t 12 (some 117) (.pointer (some ⟨gl, ol + i * 2, none⟩)) rfl hSy (fun w' hs => by first | rfl | go_simp) ?_
       simp only [Act.put, sA, sZ, sS]
       refine rg_t 13 (some 118) (.pointer (some ⟨gl, ol + i * 2, none⟩)) rfl hSy (fun w' hs => by first | rfl | go_simp) ?_
       simp only [Act.put, sA, sZ, sS]
       refine rg_t 14 (some 119) (.slice xa x.length xc) rfl hSy (fun w' hs => by (have h0 := hs.cell lgl x0; go_simp)) ?_
       simp only [Act.put, sA, sZ, sS]
       refine rg_two 6 19 (by kernel_rfl) ?_ ?_
       ·
        refine tk_call 6 (some 111) 20 #[.slice qa pk.length qc] rfl rfl (by rfl) (fun w' => by first | rfl | go_simp) (R := fun v w' => v = .int .i64 ((jy : Int) + 1) ∧ Ext (World.drew wn) w') ?_ ?_
        ·
         refine (HVy.out (World.drew wn) hSy).mono ?_
         rintro e w' ⟨rfl, h⟩
         exact ⟨_, rfl, rfl, h⟩
        rintro _ way ⟨rfl, hBay⟩
        have hSay := hSy.ext hBay
        refine ⟨hSay, ?_⟩
        simp only [Act.put, sA, sZ, sS]
        refine rg_t 7 (some 112) (.int .i64 jy) rfl hSay (fun w' hs => by first | rfl | go_simp) ?_
        simp only [Act.put, sA, sZ, sS]
        refine rg_t 8 (some 113) (.pointer (some ⟨gn, on + jy * 5, none⟩)) rfl hSay (fun w' hs => by first | rfl | go_simp) ?_
        simp only [Act.put, sA, sZ, sS]
        refine rg_t 9 (some 114) (.agg #[.int .i64 dy.kind, .string (bs dy.name), .string (bs dy.text), .slice day dy.attrs.length dacy, .slice dky dy.kids.length dkcy]) rfl hSay (fun w' hs => by (have h0 := hs.cell lgn n0y; have h1 := hs.cell lgn n1y; have h2 := hs.cell lgn n2y; have h3 := hs.cell lgn n3y; have h4 := hs.cell lgn n4y; go_simp)) ?_
        simp only [Act.put, sA, sZ, sS]
        refine rg_two 15 19 (by kernel_rfl) ?_ ?_
        ·
         refine tk_call 15 (some 120) 21 #[.slice la l.length lc, .agg #[.int .i64 dy.kind, .string (bs dy.name), .string (bs dy.text), .slice day dy.attrs.length dacy, .slice dky dy.kids.length dkcy], .slice xa x.length xc] rfl rfl (by rfl) (fun w' => by first | rfl | go_simp) (R := fun v w' => ∃ (ay : Option Addr) (cy : Nat) (ky : Option Addr) (ey : Nat), v = .tuple #[.agg #[.int .i64 my.kind, .string (bs my.name), .string (bs my.text), .slice ay my.attrs.length cy, .slice ky my.kids.length ey], .int .i64 iy] ∧ Rep w' (fun b => b < wn.heap.size) (.slice ay my.attrs.length cy) (attrsD my.attrs) ∧ Ext way w') ?_ ?_
         ·
          refine (HDy.out way hSay).mono ?_
          rintro e w' ⟨⟨xa', xk', rfl, hxa', hxk'⟩, h⟩
          obtain ⟨ay, cy, rfl, _, _⟩ := hxa'.count z_attr (by omega)
          obtain ⟨ky, ey, rfl, _, _⟩ := hxk'.count z_node (by omega)
          exact ⟨_, rfl, ay, cy, ky, ey, rfl, hxa', h⟩
         rintro _ wby ⟨ay, cy, ky, ey, rfl, haty, hBby⟩
         have hSby := hSay.ext hBby
         refine ⟨hSby, ?_⟩
         simp only [Act.put, sA, sZ, sS]
         refine rg_t 16 (some 104) (.tuple #[.agg #[.int .i64 my.kind, .string (bs my.name), .string (bs my.text), .slice ay my.attrs.length cy, .slice ky my.kids.length ey], .int .i64 iy]) rfl hSby (fun w' hs => by rfl) ?_
         simp only [Act.put, sA, sZ, sS]
         refine rg_t 17 (some 121) (.agg #[.int .i64 my.kind, .string (bs my.name), .string (bs my.text), .slice ay my.attrs.length cy, .slice ky my.kids.length ey]) rfl hSby (fun w' hs => by first | rfl | go_simp) ?_
         simp only [Act.put, sA, sZ, sS]
         refine rg_t 18 (some 122) (.int .i64 iy) rfl hSby (fun w' hs => by first | rfl | go_simp) ?_
         simp only [Act.put, sA, sZ, sS]
         refine rg_one 19 (by kernel_rfl) ?_
         refine tk_new 19 (some 13) (.cells #[.int .i64 0, .string ⟨#[]⟩, .string ⟨#[]⟩, .slice none 0 0, .slice none 0 0] 60) (fun n => .pointer (some ⟨n, 0, none⟩)) rfl rfl (by rfl) (by first | rfl | go_simp) ?_
         intro gy wcy egy hBcy _ hgy
         have hScy := hSby.ext hBcy
         refine ⟨hScy, ?_⟩
         simp only [Act.put, sA, sZ, sS]
         have hzy := b5_new hgy
         have hgey : wn.heap.size ≤ gy := by rw [egy]; exact (show Ext wn wby from hSby).size
         have ha' := haty.ext hBcy
         clear haty
         have haty := ha'
         clear ha'
         refine rg_one 20 (by kernel_rfl) ?_
         have hSdy : Sx wn (st5 wcy gy my (.slice ay my.attrs.length cy) (.slice ky my.kids.length ey)) := Ext.st5 (show Ext wn wcy from hScy) hgey _ _ _
         have hzdy := B5.put (n := my) (xa := .slice ay my.attrs.length cy) (xk := .slice ky my.kids.length ey) hzy
         have hady : Rep (st5 wcy gy my (.slice ay my.attrs.length cy) (.slice ky my.kids.length ey)) (fun b => b < wn.heap.size) (.slice ay my.attrs.length cy) (attrsD my.attrs) := haty.kept fun b hb _ => st5_block _ _ _ _ _ (by omega)
         refine tk_write 20 none (st5 wcy gy my (.slice ay my.attrs.length cy) (.slice ky my.kids.length ey)) rfl rfl (by rfl) (exec_store rfl (store_nodeS hzy _ _ _ _ _ _)) ?_
         refine ⟨hSdy, ?_⟩
         simp only [Act.put, sA, sZ, sS]
         refine rg_t 21 (some 14) (.int .i64 iy) rfl hSdy (fun w' hs => by rfl) ?_
         simp only [Act.put, sA, sZ, sS]
         refine rg_done (by kernel_rfl) ?_
         exact ⟨gy, ay, cy, ky, ey, (by simp only [Act.put, sA, sZ, sS]), hSdy, hzdy, hady⟩
        ·
         refine tk_new 19 (some 13) (.cells #[.int .i64 0, .string ⟨#[]⟩, .string ⟨#[]⟩, .slice none 0 0, .slice none 0 0] 60) (fun n => .pointer (some ⟨n, 0, none⟩)) rfl rfl (by rfl) (by first | rfl | go_simp) ?_
         intro gy wcy egy hBcy _ hgy
         have hScy := hSay.ext hBcy
         refine ⟨hScy, ?_⟩
         simp only [Act.put, sA, sZ, sS]
         have hzy := b5_new hgy
         have hgey : wn.heap.size ≤ gy := by rw [egy]; exact (show Ext wn way from hSay).size
         refine rg_one 15 (by kernel_rfl) ?_
         refine tk_call 15 (some 120) 21 #[.slice la l.length lc, .agg #[.int .i64 dy.kind, .string (bs dy.name), .string (bs dy.text), .slice day dy.attrs.length dacy, .slice dky dy.kids.length dkcy], .slice xa x.length xc] rfl rfl (by rfl) (fun w' => by first | rfl | go_simp) (R := fun v w' => ∃ (ay : Option Addr) (cy : Nat) (ky : Option Addr) (ey : Nat), v = .tuple #[.agg #[.int .i64 my.kind, .string (bs my.name), .string (bs my.text), .slice ay my.attrs.length cy, .slice ky my.kids.length ey], .int .i64 iy] ∧ Rep w' (fun b => b < wn.heap.size) (.slice ay my.attrs.length cy) (attrsD my.attrs) ∧ Ext wcy w') ?_ ?_
         ·
          refine (HDy.out wcy hScy).mono ?_
          rintro e w' ⟨⟨xa', xk', rfl, hxa', hxk'⟩, h⟩
          obtain ⟨ay, cy, rfl, _, _⟩ := hxa'.count z_attr (by omega)
          obtain ⟨ky, ey, rfl, _, _⟩ := hxk'.count z_node (by omega)
          exact ⟨_, rfl, ay, cy, ky, ey, rfl, hxa', h⟩
         rintro _ wby ⟨ay, cy, ky, ey, rfl, haty, hBby⟩
         have hSby := hScy.ext hBby
         refine ⟨hSby, ?_⟩
         simp only [Act.put, sA, sZ, sS]
         have hz' := hzy.ext hBby
         clear hzy
         have hzy := hz'
         clear hz'
         refine rg_t 16 (some 104) (.tuple #[.agg #[.int .i64 my.kind, .string (bs my.name), .string (bs my.text), .slice ay my.attrs.length cy, .slice ky my.kids.length ey], .int .i64 iy]) rfl hSby (fun w' hs => by rfl) ?_
         simp only [Act.put, sA, sZ, sS]
         refine rg_t 17 (some 121) (.agg #[.int .i64 my.kind, .string (bs my.name), .string (bs my.text), .slice ay my.attrs.length cy, .slice ky my.kids.length ey]) rfl hSby (fun w' hs => by first | rfl | go_simp) ?_
         simp only [Act.put, sA, sZ, sS]
         refine rg_t 18 (some 122) (.int .i64 iy) rfl hSby (fun w' hs => by first | rfl | go_simp) ?_
         simp only [Act.put, sA, sZ, sS]
         refine rg_one 20 (by kernel_rfl) ?_
         have hSdy : Sx wn (st5 wby gy my (.slice ay my.attrs.length cy) (.slice ky my.kids.length ey)) := Ext.st5 (show Ext wn wby from hSby) hgey _ _ _
         have hzdy := B5.put (n := my) (xa := .slice ay my.attrs.length cy) (xk := .slice ky my.kids.length ey) hzy
         have hady : Rep (st5 wby gy my (.slice ay my.attrs.length cy) (.slice ky my.kids.length ey)) (fun b => b < wn.heap.size) (.slice ay my.attrs.length cy) (attrsD my.attrs) := haty.kept fun b hb _ => st5_block _ _ _ _ _ (by omega)
         refine tk_write 20 none (st5 wby gy my (.slice ay my.attrs.length cy) (.slice ky my.kids.length ey)) rfl rfl (by rfl) (exec_store rfl (store_nodeS hzy _ _ _ _ _ _)) ?_
         refine ⟨hSdy, ?_⟩
         simp only [Act.put, sA, sZ, sS]
         refine rg_t 21 (some 14) (.int .i64 iy) rfl hSdy (fun w' hs => by rfl) ?_
         simp only [Act.put, sA, sZ, sS]
         refine rg_done (by kernel_rfl) ?_
         exact ⟨gy, ay, cy, ky, ey, (by simp only [Act.put, sA, sZ, sS]), hSdy, hzdy, hady⟩
       ·
        refine tk_new 19 (some 13) (.cells #[.int .i64 0, .string ⟨#[]⟩, .string ⟨#[]⟩, .slice none 0 0, .slice none 0 0] 60) (fun n => .pointer (some ⟨n, 0, none⟩)) rfl rfl (by rfl) (by first | rfl | go_simp) ?_
        intro gy wcy egy hBcy _ hgy
        have hScy := hSy.ext hBcy
        refine ⟨hScy, ?_⟩
        simp only [Act.put, sA, sZ, sS]
        have hzy := b5_new hgy
        have hgey : wn.heap.size ≤ gy := by rw [egy]; exact (show Ext wn (World.drew wn) from hSy).size
        refine rg_one 6 (by kernel_rfl) ?_
        refine tk_call 6 (some 111) 20 #[.slice qa pk.length qc] rfl rfl (by rfl) (fun w' => by first | rfl | go_simp) (R := fun v w' => v = .int .i64 ((jy : Int) + 1) ∧ Ext wcy w') ?_ ?_
        ·
         refine (HVy.out wcy hScy).mono ?_
         rintro e w' ⟨rfl, h⟩
         exact ⟨_, rfl, rfl, h⟩
        rintro _ way ⟨rfl, hBay⟩
        have hSay := hScy.ext hBay
        refine ⟨hSay, ?_⟩
        simp only [Act.put, sA, sZ, sS]
        have hz' := hzy.ext hBay
        clear hzy
        have hzy := hz'
        clear hz'
        refine rg_t 7 (some 112) (.int .i64 jy) rfl hSay (fun w' hs => by first | rfl | go_simp) ?_
        simp only [Act.put, sA, sZ, sS]
        refine rg_t 8 (some 113) (.pointer (some ⟨gn, on + jy * 5, none⟩)) rfl hSay (fun w' hs => by first | rfl | go_simp) ?_
        simp only [Act.put, sA, sZ, sS]
        refine rg_t 9 (some 114) (.agg #[.int .i64 dy.kind, .string (bs dy.name), .string (bs dy.text), .slice day dy.attrs.length dacy, .slice dky dy.kids.length dkcy]) rfl hSay (fun w' hs => by (have h0 := hs.cell lgn n0y; have h1 := hs.cell lgn n1y; have h2 := hs.cell lgn n2y; have h3 := hs.cell lgn n3y; have h4 := hs.cell lgn n4y; go_simp)) ?_
        simp only [Act.put, sA, sZ, sS]
        refine rg_one 15 (by kernel_rfl) ?_
        refine tk_call 15 (some 120) 21 #[.slice la l.length lc, .agg #[.int .i64 dy.kind, .string (bs dy.name), .string (bs dy.text), .slice day dy.attrs.length dacy, .slice dky dy.kids.length dkcy], .slice xa x.length xc] rfl rfl (by rfl) (fun w' => by first | rfl | go_simp) (R := fun v w' => ∃ (ay : Option Addr) (cy : Nat) (ky : Option Addr) (ey : Nat), v = .tuple #[.agg #[.int .i64 my.kind, .string (bs my.name), .string (bs my.text), .slice ay my.attrs.length cy, .slice ky my.kids.length ey], .int .i64 iy] ∧ Rep w' (fun b => b < wn.heap.size) (.slice ay my.attrs.length cy) (attrsD my.attrs) ∧ Ext way w') ?_ ?_
        ·
         refine (HDy.out way hSay).mono ?_
         rintro e w' ⟨⟨xa', xk', rfl, hxa', hxk'⟩, h⟩
         obtain ⟨ay, cy, rfl, _, _⟩ := hxa'.count z_attr (by omega)
         obtain ⟨ky, ey, rfl, _, _⟩ := hxk'.count z_node (by omega)
         exact ⟨_, rfl, ay, cy, ky, ey, rfl, hxa', h⟩
        rintro _ wby ⟨ay, cy, ky, ey, rfl, haty, hBby⟩
        have hSby := hSay.ext hBby
        refine ⟨hSby, ?_⟩
        simp only [Act.put, sA, sZ, sS]
        have hz' := hzy.ext hBby
        clear hzy
        have hzy := hz'
        clear hz'
        refine rg_t 16 (some 104) (.tuple #[.agg #[.int .i64 my.kind, .string (bs my.name), .string (bs my.text), .slice ay my.attrs.length cy, .slice ky my.kids.length ey], .int .i64 iy]) rfl hSby (fun w' hs => by rfl) ?_
        simp only [Act.put, sA, sZ, sS]
        refine rg_t 17 (some 121) (.agg #[.int .i64 my.kind, .string (bs my.name), .string (bs my.text), .slice ay my.attrs.length cy, .slice ky my.kids.length ey]) rfl hSby (fun w' hs => by first | rfl | go_simp) ?_
        simp only [Act.put, sA, sZ, sS]
        refine rg_t 18 (some 122) (.int .i64 iy) rfl hSby (fun w' hs => by first | rfl | go_simp) ?_
        simp only [Act.put, sA, sZ, sS]
        refine rg_one 20 (by kernel_rfl) ?_
        have hSdy : Sx wn (st5 wby gy my (.slice ay my.attrs.length cy) (.slice ky my.kids.length ey)) := Ext.st5 (show Ext wn wby from hSby) hgey _ _ _
        have hzdy := B5.put (n := my) (xa := .slice ay my.attrs.length cy) (xk := .slice ky my.kids.length ey) hzy
        have hady : Rep (st5 wby gy my (.slice ay my.attrs.length cy) (.slice ky my.kids.length ey)) (fun b => b < wn.heap.size) (.slice ay my.attrs.length cy) (attrsD my.attrs) := haty.kept fun b hb _ => st5_block _ _ _ _ _ (by omega)
        refine tk_write 20 none (st5 wby gy my (.slice ay my.attrs.length cy) (.slice ky my.kids.length ey)) rfl rfl (by rfl) (exec_store rfl (store_nodeS hzy _ _ _ _ _ _)) ?_
        refine ⟨hSdy, ?_⟩
        simp only [Act.put, sA, sZ, sS]
        refine rg_t 21 (some 14) (.int .i64 iy) rfl hSdy (fun w' hs => by rfl) ?_
        simp only [Act.put, sA, sZ, sS]
        refine rg_done (by kernel_rfl) ?_
        exact ⟨gy, ay, cy, ky, ey, (by simp only [Act.put, sA, sZ, sS]), hSdy, hzdy, hady⟩
      rintro _ wy ⟨gy, ay, cy, ky, ey, rfl, hSy2, hzy, haty⟩
      simp only [Act.put, sA, sZ, sS]
      have hEy : Ext wn wy := hSy2
      clear HVy HDy qy z0 lgp x0 lgl n0y n1y n2y n3y n4y lgn hSy2
      have hEkm := hEkm.trans hEy
      have hWwy := hWk.trans hEkm
      have z0 := (hW8.trans hEkm).keep lgpK.1 lgpK.2
      have lgp : gp < wy.heap.size := Nat.lt_of_lt_of_le lgpK.1 (hW8.trans hEkm).size
      have x0 := hWwy.keep lgl7 x07
      have lgl : gl < wy.heap.size := Nat.lt_of_lt_of_le lgl7 hWwy.size
      go_wp2_with fail
      obtain ⟨jz, hjz, evz, hatz0⟩ := HOK.out.same k hkQ _ (HOK.out.last k hkQ)
      rw [← HPKE.out] at evz
      obtain ⟨gn2, on2, da, dk, ena, lgn', _, n0, n1, n2, n3, n4, hda, hdk⟩ := node_at (hnv.ext (hX46.trans hWwy)) jz hjz
      cases ena
      have hdc := HNC.out _ (List.getElem_mem hjz)
      have hdn := (node_len hnv jz hjz).1
      obtain ⟨dz, hdz⟩ : ∃ d, L[jz] = d := ⟨_, rfl⟩
      rw [hdz] at n0 n1 n2 hda hdk hdc hdn hatz0
      obtain ⟨daz, dacz, rfl, _, _⟩ := hda.count z_attr (by omega)
      obtain ⟨dkz, dkcz, rfl, _, _⟩ := hdk.count z_node (by omega)
      have n0z := n0; have n1z := n1; have n2z := n2; have n3z := n3; have n4z := n4
      have lgn := lgn'
      have hjzI : (jz : Int) < (L.length : Int) := by omega
      have hjz0 : (0 : Int) ≤ (jz : Int) := by omega
      have qz : IntKind.i64.wrap (jz : Int) = (jz : Int) := IntWalk.i64_in _ (by omega)
      have HVz : Hid (∀ W, Ext wy W → Calls Tryz.prog 22 #[.slice qa pk.length qc] W fun e w' => e = .returned (.int .i64 ((jz : Int) + 1)) ∧ Ext W w') := Lib.hid fun W hE => by
       have := last_any pk hpkm.1 hpkm.2 _ (.slice qa pk.length qc) W (hpr.ext (hEkm.trans hE))
       rw [evz] at this
       exact this
      have HDz := Lib.hid fun W (hE : Ext wy W) => findf_any l dz x (fun b => b < wy.heap.size) (.slice la l.length lc) _ _ (.slice xa x.length xc) W hdc HOKR.out hxl (((HVS.out.1.ext (hX7.trans hWwy)).lt.ok fun b hb => hb.2).ext hE) ((hda.lt.ok fun b hb => hb.2).ext hE) ((hdk.lt.ok fun b hb => hb.2).ext hE) (((hxr.ext hWwy).lt.ok fun b hb => hb.2).ext hE) hdn
      obtain ⟨Fz, hFz⟩ : ∃ r, findF l dz x = r := ⟨_, rfl⟩
      rw [hFz] at HDz hatz0
      obtain ⟨mz, iz⟩ := Fz
      have HATz := Lib.hid hatz0
      clear hFz hdz hda hdk hdc hdn hatz0 n0 n1 n2 n3 n4 evz lgn'
      refine region_merge (fun ac ac' w' => ∃ (gz : Nat) (az : Option Addr) (cz : Nat) (kz : Option Addr) (ez : Nat), ac' = (((((((((((((((((((((ac.put (some 124) (.slice la l.length lc)).put (some 125) (.slice (some ⟨gn, on, none⟩) L.length nc)).put (some 126) (.slice (some ⟨gp, op, none⟩) P.length pc)).put (some 127) (.int .i64 k)).put (some 128) (.pointer (some ⟨gp, op + k, none⟩))).put (some 129) (.slice qa pk.length qc)).put (some 130) (.int .i64 ((jz : Int) + 1))).put (some 131) (.int .i64 jz)).put (some 132) (.pointer (some ⟨gn, on + jz * 5, none⟩))).put (some 133) (.agg #[.int .i64 dz.kind, .string (bs dz.name), .string (bs dz.text), .slice daz dz.attrs.length dacz, .slice dkz dz.kids.length dkcz])).put (some 134) (.slice (some ⟨gl, ol, none⟩) LV.length lvc)).put (some 135) (.int .i64 i)).put (some 136) (.pointer (some ⟨gl, ol + i * 2, none⟩))).put (some 137) (.pointer (some ⟨gl, ol + i * 2, none⟩))).put (some 138) (.slice xa x.length xc)).put (some 139) (.tuple #[.agg #[.int .i64 mz.kind, .string (bs mz.name), .string (bs mz.text), .slice az mz.attrs.length cz, .slice kz mz.kids.length ez], .int .i64 iz])).put (some 123) (.tuple #[.agg #[.int .i64 mz.kind, .string (bs mz.name), .string (bs mz.text), .slice az mz.attrs.length cz, .slice kz mz.kids.length ez], .int .i64 iz])).put (some 140) (.agg #[.int .i64 mz.kind, .string (bs mz.name), .string (bs mz.text), .slice az mz.attrs.length cz, .slice kz mz.kids.length ez])).put (some 141) (.int .i64 iz)).put (some 15) (.pointer (some ⟨gz, 0, none⟩))).put (some 16) (.int .i64 iz)) ∧ Sx wy w' ∧ B5 w' gz mz (.slice az mz.attrs.length cz) (.slice kz mz.kids.length ez) ∧ Rep w' (fun b => b < wy.heap.size) (.slice az mz.attrs.length cz) (attrsD mz.attrs)) ?_ ?_
      ·
       refine rg_begin (S := Sx wy) (by kernel_rfl) (Sx.begin _) ?_
       have hSz : Sx wy (World.drew wy) := (Sx.begin _)
       refine rg_t 0 (some 124) (.slice la l.length lc) rfl hSz (fun w' hs => by rfl) ?_
       simp only [Act.put, sA, sZ, sS]
       refine rg_t 1 (some 125) (.slice (some ⟨gn, on, none⟩) L.length nc) rfl hSz (fun w' hs => by rfl) ?_
       simp only [Act.put, sA, sZ, sS]
       refine rg_t 2 (some 126) (.slice (some ⟨gp, op, none⟩) P.length pc) rfl hSz (fun w' hs => by rfl) ?_
       simp only [Act.put, sA, sZ, sS]
       refine rg_t 3 (some 127) (.int .i64 k) rfl hSz (fun w' hs => by rfl) ?_
       simp only [Act.put, sA, sZ, sS]
       refine rg_t 4 (some 128) (.pointer (some ⟨gp, op + k, none⟩)) rfl hSz (fun w' hs => by first | rfl | go_simp) ?_
       simp only [Act.put, sA, sZ, sS]
       refine rg_t 5 (some 129) (.slice qa pk.length qc) rfl hSz (fun w' hs => by (have h0 := hs.cell lgp z0; go_simp)) ?_
       simp only [Act.put, sA, sZ, sS]
       refine rg_t 10 (some 134) (.slice (some ⟨gl, ol, none⟩) LV.length lvc) rfl hSz (fun w' hs => by rfl) ?_
       simp only [Act.put, sA, sZ, sS]
       refine rg_t 11 (some 135) (.int .i64 i) rfl hSz (fun w' hs => by rfl) ?_
       simp only [Act.put, sA, sZ, sS]
       refine rg_t 12 (some 136) (.pointer (some ⟨gl, ol + i * 2, none⟩)) rfl hSz (fun w' hs => by first | rfl | go_simp) ?_
       simp only [Act.put, sA, sZ, sS]
       refine rg_t 13 (some 137) (.pointer (some ⟨gl, ol + i * 2, none⟩)) rfl hSz (fun w' hs => by first | rfl | go_simp) ?_
       simp only [Act.put, sA, sZ, sS]
       refine rg_t 14 (some 138) (.slice xa x.length xc) rfl hSz (fun w' hs => by (have h0 := hs.cell lgl x0; go_simp)) ?_
       simp only [Act.put, sA, sZ, sS]
       refine rg_two 6 19 (by kernel_rfl) ?_ ?_
       ·
        refine tk_call 6 (some 130) 22 #[.slice qa pk.length qc] rfl rfl (by rfl) (fun w' => by first | rfl | go_simp) (R := fun v w' => v = .int .i64 ((jz : Int) + 1) ∧ Ext (World.drew wy) w') ?_ ?_
        ·
         refine (HVz.out (World.drew wy) hSz).mono ?_
         rintro e w' ⟨rfl, h⟩
         exact ⟨_, rfl, rfl, h⟩
        rintro _ waz ⟨rfl, hBaz⟩
        have hSaz := hSz.ext hBaz
        refine ⟨hSaz, ?_⟩
        simp only [Act.put, sA, sZ, sS]
        refine rg_t 7 (some 131) (.int .i64 jz) rfl hSaz (fun w' hs => by first | rfl | go_simp) ?_
        simp only [Act.put, sA, sZ, sS]
        refine rg_t 8 (some 132) (.pointer (some ⟨gn, on + jz * 5, none⟩)) rfl hSaz (fun w' hs => by first | rfl | go_simp) ?_
        simp only [Act.put, sA, sZ, sS]
        refine rg_t 9 (some 133) (.agg #[.int .i64 dz.kind, .string (bs dz.name), .string (bs dz.text), .slice daz dz.attrs.length dacz, .slice dkz dz.kids.length dkcz]) rfl hSaz (fun w' hs => by (have h0 := hs.cell lgn n0z; have h1 := hs.cell lgn n1z; have h2 := hs.cell lgn n2z; have h3 := hs.cell lgn n3z; have h4 := hs.cell lgn n4z; go_simp)) ?_
        simp only [Act.put, sA, sZ, sS]
        refine rg_two 15 19 (by kernel_rfl) ?_ ?_
        ·
         refine tk_call 15 (some 139) 21 #[.slice la l.length lc, .agg #[.int .i64 dz.kind, .string (bs dz.name), .string (bs dz.text), .slice daz dz.attrs.length dacz, .slice dkz dz.kids.length dkcz], .slice xa x.length xc] rfl rfl (by rfl) (fun w' => by first | rfl | go_simp) (R := fun v w' => ∃ (az : Option Addr) (cz : Nat) (kz : Option Addr) (ez : Nat), v = .tuple #[.agg #[.int .i64 mz.kind, .string (bs mz.name), .string (bs mz.text), .slice az mz.attrs.length cz, .slice kz mz.kids.length ez], .int .i64 iz] ∧ Rep w' (fun b => b < wy.heap.size) (.slice az mz.attrs.length cz) (attrsD mz.attrs) ∧ Ext waz w') ?_ ?_
         ·
          refine (HDz.out waz hSaz).mono ?_
          rintro e w' ⟨⟨xa', xk', rfl, hxa', hxk'⟩, h⟩
          obtain ⟨az, cz, rfl, _, _⟩ := hxa'.count z_attr (by omega)
          obtain ⟨kz, ez, rfl, _, _⟩ := hxk'.count z_node (by omega)
          exact ⟨_, rfl, az, cz, kz, ez, rfl, hxa', h⟩
         rintro _ wbz ⟨az, cz, kz, ez, rfl, hatz, hBbz⟩
         have hSbz := hSaz.ext hBbz
         refine ⟨hSbz, ?_⟩
         simp only [Act.put, sA, sZ, sS]
         refine rg_t 16 (some 123) (.tuple #[.agg #[.int .i64 mz.kind, .string (bs mz.name), .string (bs mz.text), .slice az mz.attrs.length cz, .slice kz mz.kids.length ez], .int .i64 iz]) rfl hSbz (fun w' hs => by rfl) ?_
         simp only [Act.put, sA, sZ, sS]
         refine rg_t 17 (some 140) (.agg #[.int .i64 mz.kind, .string (bs mz.name), .string (bs mz.text), .slice az mz.attrs.length cz, .slice kz mz.kids.length ez]) rfl hSbz (fun w' hs => by first | rfl | go_simp) ?_
         simp only [Act.put, sA, sZ, sS]
         refine rg_t 18 (some 141) (.int .i64 iz) rfl hSbz (fun w' hs => by first | rfl | go_simp) ?_
         simp only [Act.put, sA, sZ, sS]
         refine rg_one 19 (by kernel_rfl) ?_
         refine tk_new 19 (some 15) (.cells #[.int .i64 0, .string ⟨#[]⟩, .string ⟨#[]⟩, .slice none 0 0, .slice none 0 0] 60) (fun n => .pointer (some ⟨n, 0, none⟩)) rfl rfl (by rfl) (by first | rfl | go_simp) ?_
         intro gz wcz egz hBcz _ hgz
         have hScz := hSbz.ext hBcz
         refine ⟨hScz, ?_⟩
         simp only [Act.put, sA, sZ, sS]
         have hzz := b5_new hgz
         have hgez : wy.heap.size ≤ gz := by rw [egz]; exact (show Ext wy wbz from hSbz).size
         have ha' := hatz.ext hBcz
         clear hatz
         have hatz := ha'
         clear ha'
         refine rg_one 20 (by kernel_rfl) ?_
         have hSdz : Sx wy (st5 wcz gz mz (.slice az mz.attrs.length cz) (.slice kz mz.kids.length ez)) := Ext.st5 (show Ext wy wcz from hScz) hgez _ _ _
         have hzdz := B5.put (n := mz) (xa := .slice az mz.attrs.length cz) (xk := .slice kz mz.kids.length ez) hzz
         have hadz : Rep (st5 wcz gz mz (.slice az mz.attrs.length cz) (.slice kz mz.kids.length ez)) (fun b => b < wy.heap.size) (.slice az mz.attrs.length cz) (attrsD mz.attrs) := hatz.kept fun b hb _ => st5_block _ _ _ _ _ (by omega)
         refine tk_write 20 none (st5 wcz gz mz (.slice az mz.attrs.length cz) (.slice kz mz.kids.length ez)) rfl rfl (by rfl) (exec_store rfl (store_nodeS hzz _ _ _ _ _ _)) ?_
         refine ⟨hSdz, ?_⟩
         simp only [Act.put, sA, sZ, sS]
         refine rg_t 21 (some 16) (.int .i64 iz) rfl hSdz (fun w' hs => by rfl) ?_
         simp only [Act.put, sA, sZ, sS]
         refine rg_done (by kernel_rfl) ?_
         exact ⟨gz, az, cz, kz, ez, (by simp only [Act.put, sA, sZ, sS]), hSdz, hzdz, hadz⟩
        ·
         refine tk_new 19 (some 15) (.cells #[.int .i64 0, .string ⟨#[]⟩, .string ⟨#[]⟩, .slice none 0 0, .slice none 0 0] 60) (fun n => .pointer (some ⟨n, 0, none⟩)) rfl rfl (by rfl) (by first | rfl | go_simp) ?_
         intro gz wcz egz hBcz _ hgz
         have hScz := hSaz.ext hBcz
         refine ⟨hScz, ?_⟩
         simp only [Act.put, sA, sZ, sS]
         have hzz := b5_new hgz
         have hgez : wy.heap.size ≤ gz := by rw [egz]; exact (show Ext wy waz from hSaz).size
         refine rg_one 15 (by kernel_rfl) ?_
         refine tk_call 15 (some 139) 21 #[.slice la l.length lc, .agg #[.int .i64 dz.kind, .string (bs dz.name), .string (bs dz.text), .slice daz dz.attrs.length dacz, .slice dkz dz.kids.length dkcz], .slice xa x.length xc] rfl rfl (by rfl) (fun w' => by first | rfl | go_simp) (R := fun v w' => ∃ (az : Option Addr) (cz : Nat) (kz : Option Addr) (ez : Nat), v = .tuple #[.agg #[.int .i64 mz.kind, .string (bs mz.name), .string (bs mz.text), .slice az mz.attrs.length cz, .slice kz mz.kids.length ez], .int .i64 iz] ∧ Rep w' (fun b => b < wy.heap.size) (.slice az mz.attrs.length cz) (attrsD mz.attrs) ∧ Ext wcz w') ?_ ?_
         ·
          refine (HDz.out wcz hScz).mono ?_
          rintro e w' ⟨⟨xa', xk', rfl, hxa', hxk'⟩, h⟩
          obtain ⟨az, cz, rfl, _, _⟩ := hxa'.count z_attr (by omega)
          obtain ⟨kz, ez, rfl, _, _⟩ := hxk'.count z_node (by omega)
          exact ⟨_, rfl, az, cz, kz, ez, rfl, hxa', h⟩
         rintro _ wbz ⟨az, cz, kz, ez, rfl, hatz, hBbz⟩
         have hSbz := hScz.ext hBbz
         refine ⟨hSbz, ?_⟩
         simp only [Act.put, sA, sZ, sS]
         have hz' := hzz.ext hBbz
         clear hzz
         have hzz := hz'
         clear hz'
         refine rg_t 16 (some 123) (.tuple #[.agg #[.int .i64 mz.kind, .string (bs mz.name), .string (bs mz.text), .slice az mz.attrs.length cz, .slice kz mz.kids.length ez], .int .i64 iz]) rfl hSbz (fun w' hs => by rfl) ?_
         simp only [Act.put, sA, sZ, sS]
         refine rg_t 17 (some 140) (.agg #[.int .i64 mz.kind, .string (bs mz.name), .string (bs mz.text), .slice az mz.attrs.length cz, .slice kz mz.kids.length ez]) rfl hSbz (fun w' hs => by first | rfl | go_simp) ?_
         simp only [Act.put, sA, sZ, sS]
         refine rg_t 18 (some 141) (.int .i64 iz) rfl hSbz (fun w' hs => by first | rfl | go_simp) ?_
         simp only [Act.put, sA, sZ, sS]
         refine rg_one 20 (by kernel_rfl) ?_
         have hSdz : Sx wy (st5 wbz gz mz (.slice az mz.attrs.length cz) (.slice kz mz.kids.length ez)) := Ext.st5 (show Ext wy wbz from hSbz) hgez _ _ _
         have hzdz := B5.put (n := mz) (xa := .slice az mz.attrs.length cz) (xk := .slice kz mz.kids.length ez) hzz
         have hadz : Rep (st5 wbz gz mz (.slice az mz.attrs.length cz) (.slice kz mz.kids.length ez)) (fun b => b < wy.heap.size) (.slice az mz.attrs.length cz) (attrsD mz.attrs) := hatz.kept fun b hb _ => st5_block _ _ _ _ _ (by omega)
         refine tk_write 20 none (st5 wbz gz mz (.slice az mz.attrs.length cz) (.slice kz mz.kids.length ez)) rfl rfl (by rfl) (exec_store rfl (store_nodeS hzz _ _ _ _ _ _)) ?_
         refine ⟨hSdz, ?_⟩
         simp only [Act.put, sA, sZ, sS]
         refine rg_t 21 (some 16) (.int .i64 iz) rfl hSdz (fun w' hs => by rfl) ?_
         simp only [Act.put, sA, sZ, sS]
         refine rg_done (by kernel_rfl) ?_
         exact ⟨gz, az, cz, kz, ez, (by simp only [Act.put, sA, sZ, sS]), hSdz, hzdz, hadz⟩
       ·
        refine tk_new 19 (some 15) (.cells #[.int .i64 0, .string ⟨#[]⟩, .string ⟨#[]⟩, .slice none 0 0, .slice none 0 0] 60) (fun n => .pointer (some ⟨n, 0, none⟩)) rfl rfl (by rfl) (by first | rfl | go_simp) ?_
        intro gz wcz egz hBcz _ hgz
        have hScz := hSz.ext hBcz
        refine ⟨hScz, ?_⟩
        simp only [Act.put, sA, sZ, sS]
        have hzz := b5_new hgz
        have hgez : wy.heap.size ≤ gz := by rw [egz]; exact (show Ext wy (World.drew wy) from hSz).size
        refine rg_one 6 (by kernel_rfl) ?_
        refine tk_call 6 (some 130) 22 #[.slice qa pk.length qc] rfl rfl (by rfl) (fun w' => by first | rfl | go_simp) (R := fun v w' => v = .int .i64 ((jz : Int) + 1) ∧ Ext wcz w') ?_ ?_
        ·
         refine (HVz.out wcz hScz).mono ?_
         rintro e w' ⟨rfl, h⟩
         exact ⟨_, rfl, rfl, h⟩
        rintro _ waz ⟨rfl, hBaz⟩
        have hSaz := hScz.ext hBaz
        refine ⟨hSaz, ?_⟩
        simp only [Act.put, sA, sZ, sS]
        have hz' := hzz.ext hBaz
        clear hzz
        have hzz := hz'
        clear hz'
        refine rg_t 7 (some 131) (.int .i64 jz) rfl hSaz (fun w' hs => by first | rfl | go_simp) ?_
        simp only [Act.put, sA, sZ, sS]
        refine rg_t 8 (some 132) (.pointer (some ⟨gn, on + jz * 5, none⟩)) rfl hSaz (fun w' hs => by first | rfl | go_simp) ?_
        simp only [Act.put, sA, sZ, sS]
        refine rg_t 9 (some 133) (.agg #[.int .i64 dz.kind, .string (bs dz.name), .string (bs dz.text), .slice daz dz.attrs.length dacz, .slice dkz dz.kids.length dkcz]) rfl hSaz (fun w' hs => by (have h0 := hs.cell lgn n0z; have h1 := hs.cell lgn n1z; have h2 := hs.cell lgn n2z; have h3 := hs.cell lgn n3z; have h4 := hs.cell lgn n4z; go_simp)) ?_
        simp only [Act.put, sA, sZ, sS]
        refine rg_one 15 (by kernel_rfl) ?_
        refine tk_call 15 (some 139) 21 #[.slice la l.length lc, .agg #[.int .i64 dz.kind, .string (bs dz.name), .string (bs dz.text), .slice daz dz.attrs.length dacz, .slice dkz dz.kids.length dkcz], .slice xa x.length xc] rfl rfl (by rfl) (fun w' => by first | rfl | go_simp) (R := fun v w' => ∃ (az : Option Addr) (cz : Nat) (kz : Option Addr) (ez : Nat), v = .tuple #[.agg #[.int .i64 mz.kind, .string (bs mz.name), .string (bs mz.text), .slice az mz.attrs.length cz, .slice kz mz.kids.length ez], .int .i64 iz] ∧ Rep w' (fun b => b < wy.heap.size) (.slice az mz.attrs.length cz) (attrsD mz.attrs) ∧ Ext waz w') ?_ ?_
        ·
         refine (HDz.out waz hSaz).mono ?_
         rintro e w' ⟨⟨xa', xk', rfl, hxa', hxk'⟩, h⟩
         obtain ⟨az, cz, rfl, _, _⟩ := hxa'.count z_attr (by omega)
         obtain ⟨kz, ez, rfl, _, _⟩ := hxk'.count z_node (by omega)
         exact ⟨_, rfl, az, cz, kz, ez, rfl, hxa', h⟩
        rintro _ wbz ⟨az, cz, kz, ez, rfl, hatz, hBbz⟩
        have hSbz := hSaz.ext hBbz
        refine ⟨hSbz, ?_⟩
        simp only [Act.put, sA, sZ, sS]
        have hz' := hzz.ext hBbz
        clear hzz
        have hzz := hz'
        clear hz'
        refine rg_t 16 (some 123) (.tuple #[.agg #[.int .i64 mz.kind, .string (bs mz.name), .string (bs mz.text), .slice az mz.attrs.length cz, .slice kz mz.kids.length ez], .int .i64 iz]) rfl hSbz (fun w' hs => by rfl) ?_
        simp only [Act.put, sA, sZ, sS]
        refine rg_t 17 (some 140) (.agg #[.int .i64 mz.kind, .string (bs mz.name), .string (bs mz.text), .slice az mz.attrs.length cz, .slice kz mz.kids.length ez]) rfl hSbz (fun w' hs => by first | rfl | go_simp) ?_
        simp only [Act.put, sA, sZ, sS]
        refine rg_t 18 (some 141) (.int .i64 iz) rfl hSbz (fun w' hs => by first | rfl | go_simp) ?_
        simp only [Act.put, sA, sZ, sS]
        refine rg_one 20 (by kernel_rfl) ?_
        have hSdz : Sx wy (st5 wbz gz mz (.slice az mz.attrs.length cz) (.slice kz mz.kids.length ez)) := Ext.st5 (show Ext wy wbz from hSbz) hgez _ _ _
        have hzdz := B5.put (n := mz) (xa := .slice az mz.attrs.length cz) (xk := .slice kz mz.kids.length ez) hzz
        have hadz : Rep (st5 wbz gz mz (.slice az mz.attrs.length cz) (.slice kz mz.kids.length ez)) (fun b => b < wy.heap.size) (.slice az mz.attrs.length cz) (attrsD mz.attrs) := hatz.kept fun b hb _ => st5_block _ _ _ _ _ (by omega)
        refine tk_write 20 none (st5 wbz gz mz (.slice az mz.attrs.length cz) (.slice kz mz.kids.length ez)) rfl rfl (by rfl) (exec_store rfl (store_nodeS hzz _ _ _ _ _ _)) ?_
        refine ⟨hSdz, ?_⟩
        simp only [Act.put, sA, sZ, sS]
        refine rg_t 21 (some 16) (.int .i64 iz) rfl hSdz (fun w' hs => by rfl) ?_
        simp only [Act.put, sA, sZ, sS]
        refine rg_done (by kernel_rfl) ?_
        exact ⟨gz, az, cz, kz, ez, (by simp only [Act.put, sA, sZ, sS]), hSdz, hzdz, hadz⟩
      rintro _ wz ⟨gz, az, cz, kz, ez, rfl, hSz2, hzz, hatz⟩
      simp only [Act.put, sA, sZ, sS]
      have hEz : Ext wy wz := hSz2
      have hzy2 := hzy.ext hEz
      have haty2 := (haty.ext hEz)
      have hEkm := hEkm.trans hEz
      have c3y := hzy2.c3
      have c3z := hzz.c3
      have hAA : my.attrs = mz.attrs := by rw [HATy.out, HATz.out]
      have HSA := Lib.hid fun W (hE : Ext wz W) => same_any 1 (.mk 0 [] [] my.attrs []) (.mk 0 [] [] mz.attrs []) (fun _ => True) (fun _ => True) (.slice ay my.attrs.length cy) (.slice none 0 0) (.slice az mz.attrs.length cz) (.slice none 0 0) W (by simp [nsz, nszL]) ((haty2.ext hE).ok fun _ _ => trivial) (.nil 5) ((hatz.ext hE).ok fun _ _ => trivial) (.nil 5)
      rw [show sameN (.mk 0 [] [] my.attrs []) (.mk 0 [] [] mz.attrs []) = true by rw [hAA]; exact same_attrs _] at HSA
      simp only [Node.kind, Node.name, Node.text] at HSA
      have hN2 : Hid (s2 = spansOf (uptoU Q (k + 1)) ∧ Rep wz (fun _ => True) (.slice n2a s2.length n2c) (spansD s2)) := Lib.hid ⟨hs2.symm, ((hn2.ext hEy).ext hEz).ok fun _ _ => trivial⟩
      have hW9 := hW8.trans hEkm
      clear HVz HDz qz z0 lgp x0 lgl n0z n1z n2z n3z n4z lgn hSz2 hzy haty hzy2 haty2 hatz hzz hAA HATy HATz hn2 hs2 hEy hEz hpr HS
      go_wp2_with fail
      refine (HSA.out _ (Ext.refl _)).mono ?_
      rintro e wv ⟨rfl, hBv⟩
      go_wp2_with fail
      go_roundw
      case rel => exact ⟨k + 1, s2, n2a, n2c, by go_num, rfl, by omega, hW9.trans hBv, Lib.hid ⟨hN2.out.1, hN2.out.2.ext hBv⟩⟩
      case measure => simp only [downV]; omega
     ·
      have hkI : ¬ (k : Int) < (P.length : Int) := by omega
      have hkQ : k = Q.length := by rw [← HPQ.out.1]; omega
      have hWr := hX9.trans hW8
      have hss : sm = y.vers := by rw [HS.out.1, hkQ]; exact HSUM.out
      have HSC := Lib.hid fun W (hE : Ext wr W) => spans_any (fun _ => True) (fun _ => True) sm y.vers (.slice sa sm.length sc) (.slice ya y.vers.length yc) W (HS.out.2.ext hE) (hyr.ext (hWr.trans hE))
      rw [(spansS_iff sm y.vers).2 hss] at HSC
      have y0 := hWr.keep lgl7 y07
      clear HS hss hkQ
      go_wp2_with fail
      refine (HSC.out _ (Ext.refl _)).mono ?_
      rintro e wv ⟨rfl, hBv⟩
      go_wp2_with fail
      go_roundw
      case rel => exact ⟨i + 1, by go_num, by omega, hWr.trans hBv⟩
      case measure => simp only [downV]; omega
   ·
    have hlI : ¬ (i : Int) < (LV.length : Int) := by omega
    have a0 := hX.keep lga7 b0; have a1 := hX.keep lga7 b1; have a2 := hX.keep lga7 b2; have a3 := hX.keep lga7 b3; have a4 := hX.keep lga7 b4; have a5 := hX.keep lga7 b5
    have HPP := Lib.hid (pparts_any L.length RT [] (fun _ => True) (.slice rk RT.key.length rkc) (.slice rv RT.vers.length rvc) (.slice rp RT.parts.length rpc) (.slice rc RT.kids.length rcc) (.slice none 0 0) wr HVB.out (by simp) (fun n' vs' e => by cases e) ((HAR.out.1.ext hX).ok fun _ _ => trivial) ((HAR.out.2.1.ext hX).ok fun _ _ => trivial) ((HAR.out.2.2.1.ext hX).ok fun _ _ => trivial) ((HAR.out.2.2.2.ext hX).ok fun _ _ => trivial) (.nil 2))
    go_wp2_with fail
    refine HPP.out.mono ?_
    rintro e w8 ⟨⟨ev, rfl, lo, hev⟩, hB8⟩
    have HEV := Lib.hid hev
    obtain ⟨eb1, eb2, rfl, _⟩ := hev
    have hX8 := (hX7.trans hX).trans hB8
    have HCO := Lib.hid (code_any 32 0 lo _ w8 (HVS.out.2.2.2.2.ext hX8) HEV.out)
    clear HPP a0 a1 a2 a3 a4 a5 HEV
    go_wp2_with fail
    refine HCO.out.mono ?_
    rintro e w9 ⟨rfl, hB9⟩
    go_wp2_with fail
    go_ret
    exact ⟨rfl, hX8.trans hB9⟩

end Go.Proofs.YtkelpbbekeelcaaGreatDoor
