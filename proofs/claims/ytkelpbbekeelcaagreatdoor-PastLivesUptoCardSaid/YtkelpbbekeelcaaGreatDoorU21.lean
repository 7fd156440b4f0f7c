/-
 recensionlaw16.PastLives: the walk. Helper lemmas; no statement of the seat is proved here.
-/
import Derived.Test.YtkelpbbekeelcaaGreatDoorU20
import Derived.Test.YtkelpbbekeelcaaGreatDoorU19
import Derived.Test.YtkelpbbekeelcaaGreatDoorU17
namespace Go.Proofs.YtkelpbbekeelcaaGreatDoor
open Go.RowKit
set_option maxRecDepth 100000
set_option linter.unusedVariables false
set_option linter.unusedSimpArgs false

/-- The first ones of a slice, as a slice. -/
theorem rep_take {P : Program} {α : Type} {f : α → List DV} {z : Nat} (hz : ∀ x, (f x).length = z) (h0 : 0 < z) {w : World} {p : Nat → Prop} {t : TypeId} {a : Option Addr} {cap : Nat} {l : List α} (h : Rep w p (.slice a l.length cap) (.s z (l.flatMap f))) (ht : P.underlying t = some (.slice (P.elem t))) (hs : ∀ W, (sizeOf (P.elem t)).run P W = .ok z W) (hl : l ≠ []) (k : Nat) (hk : k ≤ l.length) :
  ∃ sv, Rep w p sv (.s z ((l.take k).flatMap f)) ∧ ∀ W, (Instr.sliceAt t (.slice a l.length cap) none (some (.int .i64 k)) none).run P W = .ok sv W := by
 obtain ⟨_, _, _, e, _, hc, hm, hn⟩ := h.slice
 cases e
 obtain ⟨b', off', _, rfl, _⟩ := h.at 0 (by rw [flat_len f z hz]; exact Nat.mul_pos (List.length_pos_iff.2 hl) h0)
 refine ⟨.slice (some ⟨b', off', none⟩) k cap, by have := h.take k hk; rw [flat_take f z hz] at this; exact this, fun W => ?_⟩
 rw [run_sliceAt_slice W t _ _ _ _ ht, run_slice_h W t _ _ cap ht .i64 _ (by omega) (by omega), hs]
 simp only [Result.andThen, sliced, Int.toNat_natCast, Nat.sub_zero, Option.map_some, Nat.zero_mul]
 by_cases hc0 : cap = 0
 ·
  rw [if_pos hc0]
 ·
  rw [if_neg hc0, add_offs', Nat.add_zero]
set_option maxHeartbeats 32000000 in
theorem pastlives_walk (l : List Rule) (ds : List Node) (p : Nat → Prop) (vl vd : Value) (w : World) (hg : GlobE w) (hb : RulesB l) (hll : l.length ≤ 1048576) (hcnt : ∀ d ∈ ds, cntN d ≤ 1048576)
  (hvl : Rep w p vl (rulesD l)) (hvd : Rep w p vd (nodesD ds)) :
  Calls Tryz.prog 5 #[vl, vd] w fun e w' => e = .returned (.bool true) ∧ Ext w w' := by
 have HAW := Lib.hid (awake_any w hg)
 have HFI := Lib.hid fun W (hE : Ext w W) => fits_any l hb hll ds p vl vd W hcnt (hvl.ext hE) (hvd.ext hE)
 have HVS := Lib.hid (And.intro hvl (And.intro hvd (And.intro hb (And.intro hcnt hg))))
 obtain ⟨la, lc, rfl, _, _⟩ := hvl.count z_rule (by omega)
 obtain ⟨da, dc, rfl, _, _⟩ := hvd.count z_node (by omega)
 clear hvl hvd hb hcnt hg
 go_enter Tryz.func5, Tryz.ntmps5
 go_wp2_with fail
 refine HAW.out.mono ?_
 rintro e w1 ⟨rfl, hX1⟩
 clear HAW
 go_wp2_with fail
 refine (HFI.out _ hX1).mono ?_
 rintro e w3 ⟨⟨b1, rfl, hf⟩, hB3⟩
 have hX3 := hX1.trans hB3
 have HF := Lib.hid hf
 clear HFI hf
 cases b1 with
 | false =>
  go_wp2_with fail
  go_ret
  exact ⟨rfl, hX3⟩
 | true =>
  obtain ⟨hd12, hmay⟩ := HF.out rfl
  obtain ⟨nm, ks, rs, hl⟩ := hmay.root
  have HL := Lib.hid (And.intro hl hmay)
  obtain ⟨hvl, hvd, hb, hcnt, hg⟩ := HVS.out
  have HNO := Lib.hid (normals_any l hb hll ds p _ _ w3 hcnt (by omega) (hvl.ext hX3) (hvd.ext hX3))
  clear hl hmay hvl hvd hb hcnt hg HF hB3
  go_wp2_with fail
  refine HNO.out.mono ?_
  rintro e w4 ⟨⟨L, ⟨nv, rfl, hnv⟩, hLl, hLn⟩, hB4⟩
  have hX4 := hX3.trans hB4
  obtain ⟨na, nc, rfl, _, _⟩ := hnv.count z_node (by omega)
  obtain ⟨hvl, hvd, hb, hcnt, hg⟩ := HVS.out
  have hok : RulesOk l := HL.out.2.rules hb
  have hwf := fun d (hd : d ∈ L) => nform_wf HL.out.1 (hLn d hd)
  have HBU := Lib.hid (build_any l nm hok ⟨ks, rs, HL.out.1⟩ L (fun _ => True) _ _ w4 (fun d hd => ⟨(hwf d hd).1, (hwf d hd).2.2⟩) (by omega) ((hvl.ext hX4).ok fun _ _ => trivial) (hnv.ok fun _ _ => trivial))
  have hvb := vB_root l nm L
  have hkb := kB_root l hok nm L
  have hwl : ∀ d ∈ L, wfN l d [nm] ∧ d.name = nm := fun d hd => ⟨(hwf d hd).1, (hwf d hd).2.1⟩
  have HLV := Lib.hid fun W (hE : Ext w4 W) => lives_any l hok L (fun _ => True) (.slice la l.length lc) (.slice na L.length nc) W (by omega) (fun d hd => ⟨(hwf d hd).2.2, Nat.le_trans (nsz_cnt d) (hwf d hd).2.2⟩) ((hvl.ext (hX4.trans hE)).ok fun _ _ => trivial) ((hnv.ext hE).ok fun _ _ => trivial)
  have hlen := livesI_len l L L [] fun d hd => (hwf d hd).2.2
  have habove := fun i hi hl => lives_above (l := l) (nm := nm) (ds := L) hwl i hi hl
  have hmem := fun y => (lives_mem (l := l) (nm := nm) (ds := L) hwl y).1
  have heq : (if (0 : Int) < (L.length : Int) then preA (rootP l nm L) [] [] else []) = livesI l L L [] := by
   by_cases h0 : L = []
   ·
    subst h0; rfl
   ·
    rw [if_pos (by have := List.length_pos_iff.2 h0; omega)]
    exact lives_eq hwl (by omega) h0
  have hasz : asz (rootP l nm L) ≤ 16777216 := by
   by_cases h0 : L = []
   ·
    subst h0; show asz (ANode.mk _ _ _ _ _) ≤ 16777216; rw [asz, aszL]; omega
   ·
    have e := congrArg List.length (lives_eq hwl (by omega) h0)
    rw [preA_len] at e
    simp only [List.length_nil] at hlen
    omega
  have hnm : (rootP l nm L).name.length ≤ 9223372036854775807 := by
   unfold rootP
   split
   ·
    exact Nat.zero_le _
   ·
    obtain ⟨d, hd⟩ := List.exists_mem_of_ne_nil L ‹_›
    obtain ⟨i, hi, e⟩ := List.getElem_of_mem hd
    have h1 := (node_len hnv i hi).1
    rw [e, (hwl d hd).2] at h1
    exact h1
  obtain ⟨RT, hRT⟩ : ∃ R, rootP l nm L = R := ⟨_, rfl⟩
  obtain ⟨LV, hLV⟩ : ∃ V, livesI l L L [] = V := ⟨_, rfl⟩
  rw [hRT] at HBU hvb hkb heq hasz hnm
  rw [hLV] at HLV heq hlen
  rw [hLV] at habove hmem
  have HA := Lib.hid habove
  have HM := Lib.hid (fun (i : Nat) (hi : i < LV.length) => hmem LV[i] (List.getElem_mem hi))
  have HEQ := Lib.hid heq
  have HVB := Lib.hid (And.intro hvb (And.intro hkb (And.intro hasz hnm)))
  have hLVl : LV.length ≤ 16777216 := by simp only [List.length_nil] at hlen; omega
  clear hRT hLV hvb hkb hwf hwl hok hvl hvd hb hcnt hg hLn HNO hB4 habove hmem heq hlen hasz hnm
  go_wp2_with fail
  refine HBU.out.mono ?_
  rintro e w5 ⟨⟨rk, rv, rp, rc, rkc, rvc, rpc, rcc, rfl, hk, hv, hpa, hc⟩, hB5⟩
  have HPL := Lib.hid (plives_any L.length RT _ _ _ _ _ w5 HVB.out.1 HVB.out.2.1 HVB.out.2.2.1 HVB.out.2.2.2 hk hv hpa hc)
  rw [HEQ.out] at HPL
  clear HBU hk hv hpa hc
  go_wp2_with fail
  refine HPL.out.mono ?_
  rintro e w6 ⟨⟨xv, rfl, hxv⟩, hB6⟩
  obtain ⟨xva, xvc, rfl, _, _⟩ := hxv.count z_life (by omega)
  clear HPL
  go_wp2_with fail
  refine (HLV.out _ (hB5.trans hB6)).mono ?_
  rintro e w7 ⟨⟨lv, rfl, hlv⟩, hB7⟩
  have hxv7 := hxv.ext hB7
  have HSA := Lib.hid (lsame_any _ _ LV _ lv w7 hxv7 hlv)
  have hX7 := hX4.trans (hB5.trans (hB6.trans hB7))
  clear HLV hxv hB5 hB6 hB7
  go_wp2_with fail
  refine HSA.out.mono ?_
  rintro e w8 ⟨rfl, hB8⟩
  have hX8 := hX7.trans hB8
  have hxv := hxv7.ext hB8
  clear HSA hxv7 hlv hB8 hX7
  go_wp2_with fail
  go_loopw [7, 8, 9] (fun t _ _ wr => ∃ i : Nat, t = .int .i64 i ∧ i ≤ LV.length ∧ Ext w8 wr) (fun t _ _ _ => downV LV.length t)
  case atStart => exact ⟨0, rfl, Nat.zero_le _, Ext.refl _⟩
  case round =>
   obtain ⟨i, rfl, hi, hX⟩ := hrel
   have hi0 : (0 : Int) ≤ (i : Int) := by omega
   by_cases hlt : i < LV.length
   ·
    have hlI : (i : Int) < (LV.length : Int) := by omega
    obtain ⟨gx, ox, ypv, yvv, rfl, lgx8, _, y08, y18, hyp, hyv⟩ := life_at hxv i hlt
    obtain ⟨yr, hyr, hyn, hyvs⟩ := HM.out i hlt
    have hab := HA.out i hlt
    obtain ⟨y, hy⟩ : ∃ y, LV[i] = y := ⟨_, rfl⟩
    simp only [hy] at hyp hyv hyr hyvs hab
    obtain ⟨ya, yac, rfl, _, _⟩ := hyp.count z_step (by omega)
    obtain ⟨yb, ybc, rfl, _, _⟩ := hyv.count z_span (by omega)
    obtain ⟨m, hm⟩ : ∃ m, y.path.length = m + 1 := ⟨yr.length, by rw [hyr]; simp⟩
    obtain ⟨vt, hvt, evt⟩ := rep_take z_step (by omega) hyp unStep szStep (by intro e; rw [e] at hm; simp at hm) m (by omega)
    have hml : y.path.length - 1 = m := by omega
    rw [hml] at hab
    obtain ⟨pre, hpre⟩ : ∃ q, y.path.take m = q := ⟨_, rfl⟩
    rw [hpre] at hab hvt
    have hymay : mayG 1 y.vers := by rw [hyvs]; exact spansOf_may _
    have hyvl : y.vers.length ≤ 1048576 := by rw [hyvs]; exact ownV_len _
    have HAB := Lib.hid hab
    obtain ⟨B, hB⟩ : ∃ B, ((y.path.length : Int) == 1) = B := ⟨_, rfl⟩
    have HB : Hid (B = false → y.path.length ≠ 1) := Lib.hid fun e h => by rw [← hB, h] at e; revert e; decide
    have HPN : Hid (y.path.length = 1 → pre = []) := Lib.hid fun e => by rw [← hpre, show m = 0 by omega]; rfl
    have HBT : Hid (B = true → y.path.length = 1) := Lib.hid fun e => by rw [← hB, beq_iff_eq] at e; omega
    have q5 : IntKind.i64.wrap ((y.path.length : Int) - 1) = (m : Int) := by rw [show (y.path.length : Int) - 1 = (m : Int) by omega]; exact IntWalk.i64_in _ (by omega)
    have y0i := hX.keep lgx8 y08
    clear hy hyr hyvs hyn hpre hab hm hml
    go_wp2_with fail
    clear y0i
    go_loopw [8, 9] (fun tb t wr => ∃ (k : Nat) (A : Bool), t = .int .i64 k ∧ tb = .bool A ∧ k ≤ i ∧ Ext w8 wr ∧ Hid (A = true ∨ (B = false ∧ ∀ (j : Nat) (h : j < LV.length), j < k → LV[j].path ≠ pre))) (fun _ t _ => downV i t)
    case atStart =>
     refine ⟨0, B, rfl, rfl, Nat.zero_le _, hX, Lib.hid ?_⟩
     cases B with
     | true => exact .inl rfl
     | false => exact .inr ⟨rfl, fun j _ h => absurd h (Nat.not_lt_zero _)⟩
    case round =>
     obtain ⟨k, A, rfl, rfl, hk, hW, HI⟩ := hrel
     have hk0 : (0 : Int) ≤ (k : Int) := by omega
     by_cases hkt : k < i
     ·
      have hkI : (k : Int) < (i : Int) := by omega
      have hkL : k < LV.length := by omega
      have hkLI : (k : Int) < (LV.length : Int) := by omega
      obtain ⟨gx', ox', zpv, zvv, ex, _, _, z08, z18, hzp, hzv⟩ := life_at hxv k hkL
      cases ex
      obtain ⟨zr, hzr, _, hzvs⟩ := HM.out k hkL
      have hz3 := fun h1 => (HAB.out h1).2 k hkL
      have HK : Hid (∀ j, ∀ (h : j < LV.length), j < k + 1 → j < k ∨ LV[j] = LV[k]) := Lib.hid fun j h hj => by
       by_cases e : j = k
       ·
        subst e; exact .inr rfl
       ·
        exact .inl (by omega)
      obtain ⟨z, hz⟩ : ∃ z, LV[k] = z := ⟨_, rfl⟩
      simp only [hz] at hzp hzv hzr hzvs hz3 HK
      obtain ⟨za, zac, rfl, _, _⟩ := hzp.count z_step (by omega)
      obtain ⟨zb, zbc, rfl, _, _⟩ := hzv.count z_span (by omega)
      have hzmay : mayG 1 z.vers := by rw [hzvs]; exact spansOf_may _
      have hzvl : z.vers.length ≤ 1048576 := by rw [hzvs]; exact ownV_len _
      have hzne : z.path ≠ [] := by rw [hzr]; simp
      obtain ⟨wk, hwk⟩ : ∃ wk, wk = wr := ⟨_, rfl⟩
      subst hwk
      have y0 := hW.keep lgx8 y08; have y1 := hW.keep lgx8 y18; have z0 := hW.keep lgx8 z08; have z1 := hW.keep lgx8 z18
      have lgx : gx < wk.heap.size := Nat.lt_of_lt_of_le lgx8 hW.size
      have m0 : (0 : Int) ≤ (m : Int) := by omega
      have HP := Lib.hid fun W (hE : Ext wk W) => path_any _ _ z.path pre (.slice za z.path.length zac) vt W ((hzp.ext hW).ext hE) ((hvt.ext hW).ext hE)
      obtain ⟨B2, hB2⟩ : ∃ B, pathB z.path pre = B := ⟨_, rfl⟩
      rw [hB2] at HP
      have HB2 : Hid (pathB z.path pre = B2) := Lib.hid hB2
      have HZ := Lib.hid (And.intro hzmay (And.intro hz3 hzne))
      clear hz hzr hzvs hB2 hz3 hzmay hzne
      go_wp2_with fail
      refine rg_begin (S := Sx wk) (by kernel_rfl) (Sx.begin _) ?_
      have hSx : Sx wk (World.drew wk) := (Sx.begin _)
      refine rg_t 0 (some 47) (.slice (some ⟨gx, ox, none⟩) LV.length xvc) rfl hSx (fun w' hs => by rfl) ?_
      simp only [Act.put, sA, sZ, sS]
      refine rg_t 1 (some 48) (.int .i64 k) rfl hSx (fun w' hs => by rfl) ?_
      simp only [Act.put, sA, sZ, sS]
      refine rg_t 2 (some 49) (.pointer (some ⟨gx, ox + k * 2, none⟩)) rfl hSx (fun w' hs => by first | rfl | go_simp) ?_
      simp only [Act.put, sA, sZ, sS]
      refine rg_t 3 (some 50) (.pointer (some ⟨gx, ox + k * 2, none⟩)) rfl hSx (fun w' hs => by first | rfl | go_simp) ?_
      simp only [Act.put, sA, sZ, sS]
      refine rg_t 4 (some 51) (.slice za z.path.length zac) rfl hSx (fun w' hs => by (have h0 := hs.cell lgx z0; go_simp)) ?_
      simp only [Act.put, sA, sZ, sS]
      refine rg_t 5 (some 52) (.slice (some ⟨gx, ox, none⟩) LV.length xvc) rfl hSx (fun w' hs => by rfl) ?_
      simp only [Act.put, sA, sZ, sS]
      refine rg_t 6 (some 53) (.int .i64 i) rfl hSx (fun w' hs => by rfl) ?_
      simp only [Act.put, sA, sZ, sS]
      refine rg_t 7 (some 54) (.pointer (some ⟨gx, ox + i * 2, none⟩)) rfl hSx (fun w' hs => by first | rfl | go_simp) ?_
      simp only [Act.put, sA, sZ, sS]
      refine rg_t 8 (some 55) (.pointer (some ⟨gx, ox + i * 2, none⟩)) rfl hSx (fun w' hs => by first | rfl | go_simp) ?_
      simp only [Act.put, sA, sZ, sS]
      refine rg_t 9 (some 56) (.slice ya y.path.length yac) rfl hSx (fun w' hs => by (have h0 := hs.cell lgx y0; go_simp)) ?_
      simp only [Act.put, sA, sZ, sS]
      refine rg_t 10 (some 57) (.slice (some ⟨gx, ox, none⟩) LV.length xvc) rfl hSx (fun w' hs => by rfl) ?_
      simp only [Act.put, sA, sZ, sS]
      refine rg_t 11 (some 58) (.int .i64 i) rfl hSx (fun w' hs => by rfl) ?_
      simp only [Act.put, sA, sZ, sS]
      refine rg_t 12 (some 59) (.pointer (some ⟨gx, ox + i * 2, none⟩)) rfl hSx (fun w' hs => by first | rfl | go_simp) ?_
      simp only [Act.put, sA, sZ, sS]
      refine rg_t 13 (some 60) (.pointer (some ⟨gx, ox + i * 2, none⟩)) rfl hSx (fun w' hs => by first | rfl | go_simp) ?_
      simp only [Act.put, sA, sZ, sS]
      refine rg_t 14 (some 61) (.slice ya y.path.length yac) rfl hSx (fun w' hs => by (have h0 := hs.cell lgx y0; go_simp)) ?_
      simp only [Act.put, sA, sZ, sS]
      refine rg_t 15 (some 62) (.int .i64 y.path.length) rfl hSx (fun w' hs => by first | rfl | go_simp) ?_
      simp only [Act.put, sA, sZ, sS]
      refine rg_t 16 (some 63) (.int .i64 m) rfl hSx (fun w' hs => by first | rfl | go_simp) ?_
      simp only [Act.put, sA, sZ, sS]
      refine rg_t 17 (some 64) (vt) rfl hSx (fun w' hs => by exact exec_slice rfl (evt w')) ?_
      simp only [Act.put, sA, sZ, sS]
      refine rg_call 18 (some 65) 26 #[.slice za z.path.length zac, vt] rfl rfl (by kernel_rfl) (by rfl) (fun w' => by first | rfl | go_simp) (R := fun v w' => v = .bool B2 ∧ Ext (World.drew wk) w') ?_ ?_
      ·
       refine (HP.out (World.drew wk) hSx).mono ?_
       rintro e w' ⟨rfl, h⟩
       exact ⟨_, rfl, rfl, h⟩
      rintro _ wrx1 ⟨rfl, hBrx1⟩
      have hSx1 := hSx.ext hBrx1
      refine ⟨hSx1, ?_⟩
      simp only [Act.put, sA, sZ, sS]
      refine rg_done (by kernel_rfl) ?_
      have hEm : Ext wk wrx1 := hSx1
      obtain ⟨wm, hwm⟩ : ∃ wm, wm = wrx1 := ⟨_, rfl⟩
      subst hwm
      have hWm := hW.trans hEm
      clear y0 y1 z0 z1 lgx HP hSx hSx1 hBrx1
      cases B2 with
      | true =>
       have hzp2 := (pathB_iff _ _).1 HB2.out
       have hB1 : y.path.length ≠ 1 := fun e => HZ.out.2.2 (by rw [hzp2]; exact HPN.out e)
       have hsub := HZ.out.2.1 hB1 hzp2
       have y0 := hWm.keep lgx8 y08; have y1 := hWm.keep lgx8 y18; have z0 := hWm.keep lgx8 z08; have z1 := hWm.keep lgx8 z18
       have lgx : gx < wm.heap.size := Nat.lt_of_lt_of_le lgx8 hWm.size
       have HW := Lib.hid fun W (hE : Ext wm W) => within_any y.vers z.vers hymay HZ.out.1 hsub _ _ (.slice yb y.vers.length ybc) (.slice zb z.vers.length zbc) W hzvl ((hyv.ext hWm).ext hE) ((hzv.ext hWm).ext hE)
       clear hzp2 hB1 hsub HZ HB2 HI
       go_wp2_with fail
       refine rg_begin (S := Sx wm) (by kernel_rfl) (Sx.begin _) ?_
       have hSy : Sx wm (World.drew wm) := (Sx.begin _)
       refine rg_t 0 (some 66) (.slice (some ⟨gx, ox, none⟩) LV.length xvc) rfl hSy (fun w' hs => by rfl) ?_
       simp only [Act.put, sA, sZ, sS]
       refine rg_t 1 (some 67) (.int .i64 i) rfl hSy (fun w' hs => by rfl) ?_
       simp only [Act.put, sA, sZ, sS]
       refine rg_t 2 (some 68) (.pointer (some ⟨gx, ox + i * 2, none⟩)) rfl hSy (fun w' hs => by first | rfl | go_simp) ?_
       simp only [Act.put, sA, sZ, sS]
       refine rg_t 3 (some 69) (.pointer (some ⟨gx, ox + i * 2 + 1, none⟩)) rfl hSy (fun w' hs => by first | rfl | go_simp) ?_
       simp only [Act.put, sA, sZ, sS]
       refine rg_t 4 (some 70) (.slice yb y.vers.length ybc) rfl hSy (fun w' hs => by (have h0 := hs.cell lgx y1; go_simp)) ?_
       simp only [Act.put, sA, sZ, sS]
       refine rg_t 5 (some 71) (.slice (some ⟨gx, ox, none⟩) LV.length xvc) rfl hSy (fun w' hs => by rfl) ?_
       simp only [Act.put, sA, sZ, sS]
       refine rg_t 6 (some 72) (.int .i64 k) rfl hSy (fun w' hs => by rfl) ?_
       simp only [Act.put, sA, sZ, sS]
       refine rg_t 7 (some 73) (.pointer (some ⟨gx, ox + k * 2, none⟩)) rfl hSy (fun w' hs => by first | rfl | go_simp) ?_
       simp only [Act.put, sA, sZ, sS]
       refine rg_t 8 (some 74) (.pointer (some ⟨gx, ox + k * 2 + 1, none⟩)) rfl hSy (fun w' hs => by first | rfl | go_simp) ?_
       simp only [Act.put, sA, sZ, sS]
       refine rg_t 9 (some 75) (.slice zb z.vers.length zbc) rfl hSy (fun w' hs => by (have h0 := hs.cell lgx z1; go_simp)) ?_
       simp only [Act.put, sA, sZ, sS]
       refine rg_call 10 (some 76) 27 #[.slice yb y.vers.length ybc, .slice zb z.vers.length zbc] rfl rfl (by kernel_rfl) (by rfl) (fun w' => by first | rfl | go_simp) (R := fun v w' => v = .bool true ∧ Ext (World.drew wm) w') ?_ ?_
       ·
        refine (HW.out (World.drew wm) hSy).mono ?_
        rintro e w' ⟨rfl, h⟩
        exact ⟨_, rfl, rfl, h⟩
       rintro _ wry1 ⟨rfl, hBry1⟩
       have hSy1 := hSy.ext hBry1
       refine ⟨hSy1, ?_⟩
       simp only [Act.put, sA, sZ, sS]
       refine rg_t 11 (some 8) (.bool true) rfl hSy1 (fun w' hs => by rfl) ?_
       simp only [Act.put, sA, sZ, sS]
       refine rg_done (by kernel_rfl) ?_
       have hWn := hWm.trans (show Ext wm wry1 from hSy1)
       clear y0 y1 z0 z1 HW
       go_wp2_with fail
       go_roundw
       case rel => exact ⟨k + 1, true, by go_num, rfl, by omega, hWn, Lib.hid (.inl rfl)⟩
       case measure => simp only [downV]; omega
      | false =>
       have HN : Hid (A = true ∨ (B = false ∧ ∀ (j : Nat) (h : j < LV.length), j < k + 1 → LV[j].path ≠ pre)) := Lib.hid (by
        rcases HI.out with h | ⟨h1, h2⟩
        ·
         exact .inl h
        ·
         refine .inr ⟨h1, fun j h hj => ?_⟩
         rcases HK.out j h hj with h3 | h3
         ·
          exact h2 j h h3
         ·
          rw [h3]; intro e
          have := (pathB_iff _ _).2 e
          rw [HB2.out] at this; cases this)
       clear HZ HB2 HI HK
       go_wp2_with fail
       go_roundw
       case rel => exact ⟨k + 1, A, by go_num, rfl, by omega, hWm, HN⟩
       case measure => simp only [downV]; omega
     ·
      have hkI : ¬ (k : Int) < (i : Int) := by omega
      have hA : A = true := by
       rcases HI.out with h | ⟨h1, h2⟩
       ·
        exact h
       ·
        obtain ⟨j, hj, hji, e⟩ := (HAB.out (HB.out h1)).1
        exact absurd e (h2 j hj (by omega))
      subst hA
      clear HI
      go_wp2_with fail
      go_roundw
      case rel => exact ⟨i + 1, by go_num, by omega, hW⟩
      case measure => simp only [downV]; omega
   ·
    have hlI : ¬ (i : Int) < (LV.length : Int) := by omega
    go_wp2_with fail
    go_ret
    exact ⟨rfl, hX8.trans hX⟩

end Go.Proofs.YtkelpbbekeelcaaGreatDoor
