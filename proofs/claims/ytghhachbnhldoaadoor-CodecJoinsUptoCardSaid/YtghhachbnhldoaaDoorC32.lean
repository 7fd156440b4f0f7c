/-
  ref18.ReadEdits. Helper lemmas; no statement of the seat is proved here.
-/
import Derived.Test.YtghhachbnhldoaaDoorC31
namespace Go.Proofs.YtghhachbnhldoaaDoor
open Go.RowKit
set_option maxRecDepth 100000
set_option linter.unusedVariables false
set_option linter.unusedSimpArgs false

theorem NQ.grown {w0 wa u W' : World} {T : TypeId} {inp : Bytes} {f : Bool} {vals : List Value} {row : Option Nat} (h : NQ w0 wa T u inp f vals) (hg : u.grownBy W' row) (hr : ∀ k, row = some k → wa.heap.size < k) : NQ w0 wa T W' inp f vals :=
  ⟨h.S.grown hg fun k hk => by have := hr k hk; have := h.ne; omega, h.X.grown hg fun k hk => by have := hr k hk; omega, (hg.block _ h.low fun e => by have := hr _ e.symm; omega).trans h.N, h.ne⟩
/-- What ref18.ReadEdits tells. -/
def RetQ (ok : Bool) (l : List Edit) (e : Ending) (w : World) : Prop :=
  (ok = true → ∃ rv, e = .returned (.tuple #[rv, .bool true]) ∧ Rep w (fun _ => True) rv (editsD l)) ∧ (ok = false → e = .returned (.tuple #[.slice none 0 0, .bool false]))
set_option maxHeartbeats 64000000 in
theorem qreadedits_any (l : List Edit) (p : Nat → Prop) (v : Value) (w0 : World) (hl : l.length ≤ 1000000000) (hrng : ∀ x ∈ l, rngE x = true) (hneg : l.any negE = false) (hR : (editsB l).length ≤ 1000000000000) (hv : Rep w0 p v (numsD .u8 (byI (editsB l)))) :
    Calls Tryd.prog 9 #[v] w0 fun e w' => RetQ (l.all fitE) l e w' ∧ Ext w0 w' := by
  obtain ⟨inp, hinp⟩ : ∃ x, editsB l = x := ⟨_, rfl⟩
  have henc : encE l = inp := by unfold encE; rw [hneg, if_neg (by decide)]; exact hinp
  have hok : ∀ x ∈ l, okE x = true := fun x hx => okE_of (hrng x hx) (by
    cases h : negE x with
    | false => rfl
    | true => rw [List.any_eq_true.2 ⟨x, hx, h⟩] at hneg; cases hneg)
  rw [hinp] at hv
  have hpos : 0 < inp.length := by rw [← hinp]; unfold editsB; rw [List.length_append]; have := numB_pos l.length; omega
  obtain ⟨a, c, rfl, hc1, hc2⟩ := by_count hv
  obtain ⟨bb, off, rfl, hb0, hc0⟩ := by_at hv 0 hpos
  obtain ⟨wx, hwx⟩ : ∃ W, w0.alloc (.cells #[.slice (some ⟨bb, off, none⟩) inp.length c, .int .i64 0, .bool false] 78) = W := ⟨_, rfl⟩
  have hE : Ext w0 wx := by rw [← hwx]; exact (Ext.refl w0).alloc _
  have hblk : wx.heap[w0.heap.size]? = some (.cells [.slice (some ⟨bb, off, none⟩) inp.length c, .int .i64 0, .bool false].toArray 78 (0, 0)) := by rw [← hwx]; exact Array.getElem?_push_size
  have hS : QS w0 wx inp false := ⟨hE, ⟨inp, 0, bb, off, c, blk_cells hblk 0 rfl, hv.ok fun _ _ => trivial, blk_cells hblk 1 rfl, Nat.zero_le _, rfl, hc1, hc2⟩, blk_cells hblk 2 rfl, blk_free hblk, blk_free hblk, blk_free hblk⟩
  obtain ⟨B, hB⟩ : ∃ B, l.all fitE = B := ⟨_, rfl⟩
  rw [hB]
  have hc := qmany_any w0 wx inp false l.length (l.flatMap editB) (by omega) (flat_le editB editB_pos l) (fun _ => hinp.symm) hS
  have HC := Lib.hid hc
  have HB := Lib.hid hB
  have HV := Lib.hid (And.intro hv (And.intro henc (And.intro hR hrng)))
  have HOK := Lib.hid hok
  obtain ⟨Gb, hGb⟩ : ∃ k, k = w0.heap.size + 1 := ⟨_, rfl⟩
  have HGb := Lib.hid hGb
  obtain ⟨i0, hi0', hz0, hz1, hz2⟩ := info_parts infoEdit
  obtain ⟨i1, hi1', hy0, hy1, hy2⟩ := info_parts infoStep
  clear hv hc0 hblk hS hc hE hok hB hinp hpos henc hR hrng hneg hGb
  go_enter Tryd.func9, Tryd.ntmps9
  go_wp2_with fail
  refine HC.out.mono ?_
  rintro e w1 ⟨v, rfl, rfl, ⟨inp1, hS, hin⟩, hXc⟩
  obtain rfl := hin rfl
  have H1 := Lib.hid hS
  clear HC hS hin hXc hwx
  go_wp2_with fail
  go_loopw [5, 7, 8, 9, 10, 11] (fun nv t _ _ _ _ wr => ∃ (i : Nat) (f : Bool), t = .int .i64 i ∧ ∃ dv : Value, dv = nv ∧ i ≤ l.length ∧ Hid ((∃ inp', QS w0 wr inp' f ∧ (f = false → inp' = (l.drop i).flatMap editB)) ∧ (f = false → Own wr (fun k => Gb ≤ k) Gb 54 9 dv i ((l.take i).flatMap editC)) ∧ (f = false → (l.take i).all fitE = true) ∧ (f = true → B = false) ∧ ∃ a n c, dv = .slice a n c)) (fun _ t _ _ _ _ _ => downV l.length t)
  case atStart => exact ⟨0, false, rfl, _, rfl, Nat.zero_le _, Lib.hid ⟨⟨_, H1.out, fun _ => rfl⟩, fun _ => Own.nil _ _ _ _ _, fun _ => rfl, fun h => (by cases h), _, _, _, rfl⟩⟩
  case round =>
    obtain ⟨i, f, rfl, dv, rfl, hi, HH⟩ := hrel
    obtain ⟨wo, hwo⟩ : ∃ wo, wo = wr := ⟨_, rfl⟩
    subst hwo
    clear H1
    have hi0 : (0 : Int) ≤ (i : Int) := by omega
    have hi12 : (i : Int) ≤ 1000000000000 := by omega
    obtain ⟨inp', hS', hin'⟩ := HH.out.1
    have c2 := hS'.c2
    cases f with
    | true =>
      obtain rfl := HH.out.2.2.2.1 (by trivial)
      have HR := Lib.hid hS'.ext
      clear HH hS' hin'
      by_cases hil : i < l.length
      · have hlI : (i : Int) < (l.length : Int) := by omega
        go_wp2_with fail
        go_ret2
        exact ⟨⟨fun h => (by cases h), fun _ => rfl⟩, HR.out⟩
      · have hlI : ¬ (i : Int) < (l.length : Int) := by omega
        go_wp2_with fail
        go_ret2
        exact ⟨⟨fun h => (by cases h), fun _ => rfl⟩, HR.out⟩
    | false =>
      obtain rfl := hin' rfl
      clear hin'
      by_cases hil : i < l.length
      · have hlI : (i : Int) < (l.length : Int) := by omega
        have HT := Lib.hid (show l.take (i + 1) = l.take i ++ [l[i]] from List.take_succ_eq_append_getElem hil)
        have HA := Lib.hid (show l.all fitE = true → fitE l[i] = true from fun h => List.all_eq_true.1 h _ (List.getElem_mem hil))
        have hdr : (l.drop i).flatMap editB = editB l[i] ++ ((l.drop (i + 1)).flatMap editB) := by rw [drop_one l i hil, List.flatMap_cons]
        have HOKS := Lib.hid (okE_own (HOK.out l[i] (List.getElem_mem hil)))
        obtain ⟨REST, hRE⟩ : ∃ x, (l.drop (i + 1)).flatMap editB = x := ⟨_, rfl⟩
        rw [hRE] at hdr
        obtain ⟨x, hx⟩ : ∃ x, l[i] = x := ⟨_, rfl⟩
        rw [hx] at HT HA HOKS hdr
        have HRE := Lib.hid hRE
        obtain ⟨A, hA⟩ : ∃ A, x.kids.all (fitN 0) = A := ⟨_, rfl⟩
        obtain ⟨G, hG⟩ : ∃ A, fitN 0 x.node = A := ⟨_, rfl⟩
        obtain ⟨FX, hFX⟩ : ∃ A, fitE x = A := ⟨_, rfl⟩
        have hnz : numZ x.kind = numB x.kind.toNat := by unfold numZ; have := HOKS.out.1; congr 1; omega
        have hkb : x.kind.toNat < 9223372036854775808 := by have := HOKS.out.1; omega
        have h1 := qnum_any w0 wo _ false x.kind.toNat (stepsB' x.path ++ (attrsB x.attrs ++ (nodesB x.kids ++ (nodeB x.node ++ REST)))) hkb (fun _ => by rw [hdr]; unfold editB; rw [hnz]; simp only [List.append_assoc]) hS'
        rw [Bool.false_or] at h1
        obtain ⟨F, hF⟩ : ∃ F, decide (4611686018427387904 < x.kind.toNat) = F := ⟨_, rfl⟩
        rw [hF] at h1
        have HFX : Hid (FX = false ↔ ((F || !A) || !G) = true) := Lib.hid (by
          rw [← hFX, ← hF, ← hA, ← hG]
          unfold fitE
          have := HOKS.out.1
          by_cases c : x.kind ≤ 4611686018427387904
          · rw [decide_eq_true c, decide_eq_false (by omega)]; cases x.kids.all (fitN 0) <;> cases fitN 0 x.node <;> simp
          · rw [decide_eq_false c, decide_eq_true (by omega)]; simp)
        rw [hFX] at HA
        have HFE := Lib.hid hFX
        obtain ⟨K, hK⟩ : ∃ K : Nat, (if F = true then 0 else x.path.length) = K := ⟨_, rfl⟩
        have hKI : (if F = true then (0 : Int) else (x.path.length : Int)) = (K : Int) := by rw [← hK]; split <;> rfl
        have HK : Hid ((F = false → K = x.path.length) ∧ (F = true → K = 0)) := Lib.hid ⟨fun e => by rw [← hK, e]; rfl, fun e => by rw [← hK, e]; rfl⟩
        have hK12 : K ≤ 1000000000000 := by rw [← hK]; have := HOKS.out.1; split <;> omega
        have HKI := Lib.hid hKI
        have HC := Lib.hid h1
        have hlt := hS'.lt
        have HHA := Lib.hid hA
        have HHG := Lib.hid hG
        clear hx hdr hRE hS' hFX hnz hkb h1 hF hK hKI hA hG
        go_wp2_with fail
        refine HC.out.mono ?_
        rintro e wa ⟨v, rfl, ⟨k0, rfl, kr1, kr2, ek⟩, ⟨inp0, hS0, hin0⟩, hX0⟩
        have HEK := Lib.hid (show F = false → k0 = x.kind from fun hf => by have := ek hf; have := HOKS.out.1; omega)
        obtain ⟨x0, hx0⟩ : ∃ W', wa.alloc (.cells #[.int .i64 k0, .slice none 0 0, .slice none 0 0, .slice none 0 0, .int .i64 0, .string ⟨#[]⟩, .string ⟨#[]⟩, .slice none 0 0, .slice none 0 0] 54) = W' := ⟨_, rfl⟩
        have hE0 : Ext wa x0 := by rw [← hx0]; exact (Ext.refl wa).alloc _
        have hN0 : NQ w0 wa 54 x0 inp0 F [.int .i64 k0, .slice none 0 0, .slice none 0 0, .slice none 0 0, .int .i64 0, .string ⟨#[]⟩, .string ⟨#[]⟩, .slice none 0 0, .slice none 0 0] := ⟨hS0.step hE0, Exc.of _ hE0, by rw [← hx0]; exact Array.getElem?_push_size, hS0.lt⟩
        have hc := qmany_any w0 x0 inp0 F x.path.length (x.path.flatMap stepB' ++ (attrsB x.attrs ++ (nodesB x.kids ++ (nodeB x.node ++ REST)))) HOKS.out.1.2.2.1 (by rw [List.length_append]; have := flat_le stepB' stepB'_pos x.path; omega) (fun hb => by rw [hin0 hb]; unfold stepsB'; simp only [List.append_assoc]) hN0.S
        rw [HKI.out] at hc
        have HN := Lib.hid hN0
        have HX0 := Lib.hid hX0
        have hwa := hS0.lt
        clear HC hS0 hin0 hX0 ek hE0 hN0
        have HC := Lib.hid hc
        clear hc
        subst hx0
        go_wp2_with fail
        refine HC.out.mono ?_
        rintro e u1 ⟨v, rfl, rfl, ⟨inp1, hS, hin⟩, hX⟩
        have HI0 := Lib.hid (And.intro (HN.out.call hS hX) hin)
        clear HC HN hS hX hin
        go_wp2_with fail
        go_loopw [10, 11] (fun t _ wr => ∃ (j : Nat) (inp' : Bytes) (dp : Value), t = .int .i64 j ∧ j ≤ K ∧ Hid (NQ w0 wa 54 wr inp' F [.int .i64 k0, dp, .slice none 0 0, .slice none 0 0, .int .i64 0, .string ⟨#[]⟩, .string ⟨#[]⟩, .slice none 0 0, .slice none 0 0] ∧ (F = false → inp' = (x.path.drop j).flatMap stepB' ++ (attrsB x.attrs ++ (nodesB x.kids ++ (nodeB x.node ++ REST)))) ∧ (F = false → Own wr (fun k => wa.heap.size < k) (wa.heap.size + 1) 47 2 dp j ((x.path.take j).flatMap stepC)) ∧ ∃ a n c, dp = .slice a n c)) (fun t _ _ => downV K t)
        case atStart => exact ⟨0, _, _, rfl, Nat.zero_le _, Lib.hid ⟨HI0.out.1, HI0.out.2, fun _ => Own.nil _ _ _ _ _, _, _, _, rfl⟩⟩
        case round =>
          obtain ⟨j, inp2, dp, rfl, hj, HI⟩ := hrel
          obtain ⟨x2, hx2⟩ : ∃ W, W = wr := ⟨_, rfl⟩
          subst hx2
          clear HI0
          have hj0 : (0 : Int) ≤ (j : Int) := by omega
          have hj12 : (j : Int) ≤ 1000000000000 := by omega
          have c2 := HI.out.1.S.c2
          by_cases hjl : j < K
          · have hjI : (j : Int) < (K : Int) := by omega
            cases F with
            | true => exfalso; have := HK.out.2 rfl; omega
            | false =>
              have hjp : j < x.path.length := by have := HK.out.1 rfl; omega
              have HTP := Lib.hid (show x.path.take (j + 1) = x.path.take j ++ [x.path[j]] from List.take_succ_eq_append_getElem hjp)
              have HYS := Lib.hid (HOKS.out.2.1 _ (List.getElem_mem hjp))
              have hdp : (x.path.drop j).flatMap stepB' ++ (attrsB x.attrs ++ (nodesB x.kids ++ (nodeB x.node ++ REST))) = stepB' x.path[j] ++ ((x.path.drop (j + 1)).flatMap stepB' ++ (attrsB x.attrs ++ (nodesB x.kids ++ (nodeB x.node ++ REST)))) := by rw [drop_one x.path j hjp, List.flatMap_cons, List.append_assoc]
              obtain ⟨y, hy⟩ : ∃ y, x.path[j] = y := ⟨_, rfl⟩
              rw [hy] at HTP HYS hdp
              obtain ⟨RS, hRS⟩ : ∃ r, (x.path.drop (j + 1)).flatMap stepB' ++ (attrsB x.attrs ++ (nodesB x.kids ++ (nodeB x.node ++ REST))) = r := ⟨_, rfl⟩
              rw [hRS] at hdp
              have HRS := Lib.hid hRS
              have HC := Lib.hid (qtext_any w0 x2 inp2 false y.n (txtsB y.key ++ RS) HYS.out.1 (fun hb => by rw [HI.out.2.1 hb, hdp]; unfold stepB'; rw [List.append_assoc]) HI.out.1.S)
              clear hy hdp hRS
              go_wp2_with fail
              refine HC.out.mono ?_
              rintro e v0 ⟨v, rfl, ⟨s', rfl, hv1, hv2⟩, ⟨inp3, hS3, hin3⟩, hX3⟩
              obtain rfl := hv2 rfl
              obtain ⟨v1, hv1e⟩ : ∃ W', v0.alloc (.cells #[.string (bs y.n), .slice none 0 0] 47) = W' := ⟨_, rfl⟩
              have hE1 : Ext v0 v1 := by rw [← hv1e]; exact (Ext.refl v0).alloc _
              have hN1 : NQ w0 v0 47 v1 inp3 false [.string (bs y.n), .slice none 0 0] := ⟨hS3.step hE1, Exc.of _ hE1, by rw [← hv1e]; exact Array.getElem?_push_size, hS3.lt⟩
              have HN := Lib.hid hN1
              have HX3 := Lib.hid hX3
              clear HC hS3 hX3 hE1 hN1 hv2
              have HC := Lib.hid (show Calls Tryd.prog 32 #[.pointer (some ⟨w0.heap.size, 0, none⟩)] v1 (QPost w0 v1 false RS fun v w => SlV v1.heap.size false (strsD y.key) v w) from by have h := qtexts_any w0 v1 inp3 false y.key RS HYS.out.2.1 hin3 HN.out.S HYS.out.2.2; rw [yes_all] at h; exact h)
              clear hin3
              subst hv1e
              go_wp2_with fail
              refine HC.out.mono ?_
              rintro e u2 ⟨v, rfl, ⟨ya, yn, yc, rfl, e3⟩, ⟨inp4, hS4, hin4⟩, hX4⟩
              have hb := HN.out.cell hX4
              have k1 := blk_cells hb 1 rfl
              have g1 := blk_free hb (k := 1)
              obtain ⟨v2, hv2e⟩ : ∃ W', u2.setCell ⟨v0.heap.size, 1, none⟩ (.slice ya yn yc) = W' := ⟨_, rfl⟩
              have hN2 : NQ w0 v0 47 v2 inp4 false [.string (bs y.n), .slice ya yn yc] := by rw [← hv2e]; exact (HN.out.call hS4 hX4).put 1 _
              have hlo := HN.out.low
              have HRY : Hid (Rep v2 (fun k => v0.heap.size < k) (.slice ya yn yc) (strsD y.key)) := Lib.hid (by rw [← hv2e]; exact rep_put ((e3 rfl).ok fun k hk => by omega) 1 _)
              have hXE : Exc w0.heap.size x2 v2 := HX3.out.trans hN2.X
              have hIe : NQ w0 wa 54 v2 inp4 false [.int .i64 k0, dp, .slice none 0 0, .slice none 0 0, .int .i64 0, .string ⟨#[]⟩, .string ⟨#[]⟩, .slice none 0 0, .slice none 0 0] := HI.out.1.call hN2.S hXE
              have m0 := blk_cells hN2.N 0 rfl
              have m1 := blk_cells hN2.N 1 rfl
              have r1 := blk_cells hIe.N 1 rfl
              have z1 := blk_free hIe.N (k := 1)
              have hE4 : Ext v2 (v2.alloc (.cells #[.string (bs y.n), .slice ya yn yc] 47)) := (Ext.refl v2).alloc _
              have hlw := HI.out.1.ne
              have how0 := HI.out.2.2.1 (by trivial)
              have how := how0.exc hXE (by omega) (fun _ h => by omega)
              obtain ⟨us, hr, hu⟩ := how.ext hE4
              have hlv : x2.heap.size ≤ v0.heap.size := HX3.out.1
              have hbl : ∀ k, dp.ownBlock = some k → wa.heap.size < k ∧ k < x2.heap.size := fun k hk => by
                obtain ⟨us', hr', _⟩ := how0
                have := hr'.lt k hk
                omega
              have hv0w : wa.heap.size < v0.heap.size := by have := HI.out.1.low; omega
              have hn : Reps (v2.alloc (.cells #[.string (bs y.n), .slice ya yn yc] 47)) (fun k => wa.heap.size < k ∧ some k ≠ dp.ownBlock ∧ k < (v2.alloc (.cells #[.string (bs y.n), .slice ya yn yc] 47)).heap.size) [.string (bs y.n), .slice ya yn yc] (stepC y) :=
                (((Reps.cons (Rep.string _ _ _ (by rw [bs_size]; exact hv1)) (Reps.cons (HRY.out.ok fun k hk => (show wa.heap.size < k ∧ some k ≠ dp.ownBlock from ⟨by omega, fun e => by have := (hbl k e.symm).2; omega⟩)) (Reps.nil _ _)) : Reps v2 (fun k => wa.heap.size < k ∧ some k ≠ dp.ownBlock) [.string (bs y.n), .slice ya yn yc] (stepC y)).ext hE4).lt).ok fun k hk => ⟨hk.1.1, hk.1.2, hk.2⟩
              have HO := Lib.hid (And.intro hr (And.intro hu (And.intro hn hbl)))
              have HG5 : Hid (∀ W', (v2.alloc (.cells #[.string (bs y.n), .slice ya yn yc] 47)).grownBy W' dp.ownBlock → NQ w0 wa 54 W' inp4 false [.int .i64 k0, dp, .slice none 0 0, .slice none 0 0, .int .i64 0, .string ⟨#[]⟩, .string ⟨#[]⟩, .slice none 0 0, .slice none 0 0]) := Lib.hid fun W' hg => (hIe.call (hIe.S.step hE4) (Exc.of _ hE4)).grown hg fun k hk => (hbl k hk).1
              have HIN4 := Lib.hid hin4
              have y3 : ¬ wa.heap.size = v0.heap.size := by omega
              have y4 : ¬ v0.heap.size = wa.heap.size := by omega
              have hj9 : j ≤ 1000000000000 := by omega
              have hszW : wa.heap.size + 1 ≤ v2.heap.size := by have := hN2.low; omega
              clear HC HN hS4 hX4 hin4 hb e3 hN2 hIe hXE how0 how hr hu hn hbl hlo hE4 HX3 HRY hv1 hlv
              go_wp2_with (at_builtin; refine wpList_append_own_at _ rfl (.tmp 53) (.tmp 55) _ rfl (wa.heap.size + 1) 47 i1 (.agg #[.string ⟨#[]⟩, .slice none 0 0]) 2 40 Tryd.underlying48 hi1' hy0 hy1 hy2 rfl (by decide) dp j us rfl HO.out.1 ⟨v2.heap.size, 0, none⟩ 1 1 [.string (bs y.n), .slice ya yn yc] rfl rfl (by intro j u hj; match j, hj with | 0, hj => simp at hj; subst hj; simp [go_sem] | 1, hj => simp at hj; subst hj; simp [go_sem] | j + 2, hj => simp at hj) (by intro u hu; simp at hu; rcases hu with rfl | rfl <;> rfl) (by unfold maxLen; omega) (by omega) (by simp; omega) ?_; intro v3 w5 hown5 hgrow5 _ hat5; obtain ⟨va, vc, rfl⟩ := own_slice hown5; have hn5 := HG5.out w5 hgrow5; have k5 := blk_cells hn5.N 1 rfl; have g5 := blk_free hn5.N (k := 1); have HO5 := Lib.hid (And.intro hown5 (And.intro hgrow5 (And.intro hat5 hn5))); clear hown5 hgrow5 hat5 hn5)
              go_roundw
              case rel =>
                obtain ⟨hr, hu, hn, hbl⟩ := HO.out
                obtain ⟨hown5, hgrow5, hat5, hn5⟩ := HO5.out
                refine ⟨j + 1, inp4, _, by go_num, by omega, Lib.hid ⟨hn5.put 1 _, fun _ => by rw [HRS.out]; exact HIN4.out (by trivial), fun _ => ?_, _, _, _, rfl⟩⟩
                rw [HTP.out, List.flatMap_append, show [y].flatMap stepC = stepC y by simp]
                exact (Own.push hu hn hown5 hgrow5 hat5).exc ((Exc.refl wa.heap.size w5).set (p := ⟨wa.heap.size, 1, none⟩) rfl _) (by omega) (fun _ h => by omega)
              case measure => simp only [downV]; omega
          · have hjI : ¬ (j : Int) < (K : Int) := by omega
            obtain ⟨a1, n1, c1, rfl⟩ := HI.out.2.2.2
            have HRP : Hid (F = false → Rep x2 (fun k => wa.heap.size < k) (.slice a1 n1 c1) (stepsD x.path)) := Lib.hid fun hf => by
              have h := HI.out.2.2.1 hf
              rw [List.take_of_length_le (by have := HK.out.1 hf; omega)] at h
              exact h.rep.ok fun k hk => by omega
            have HIN : Hid (F = false → inp2 = attrsB x.attrs ++ (nodesB x.kids ++ (nodeB x.node ++ REST))) := Lib.hid fun hf => by
              have h := HI.out.2.1 hf
              rw [List.drop_of_length_le (by have := HK.out.1 hf; omega), List.flatMap_nil, List.nil_append] at h
              exact h
            have HN := Lib.hid HI.out.1
            have hA := HHA.out
            have hG := HHG.out
            clear HI HK HKI
            have HC := Lib.hid ((by have h := qattrs_any w0 x2 inp2 F x.attrs (nodesB x.kids ++ (nodeB x.node ++ REST)) HOKS.out.1.2.2.2.1 HIN.out HN.out.S HOKS.out.2.2.1; rw [yes_all] at h; exact h))
            go_wp2_with fail
            refine HC.out.mono ?_
            rintro e u3 ⟨v, rfl, ⟨a2, n2, c2, rfl, e2⟩, ⟨inp3, hS, hin⟩, hX⟩
            have hb := HN.out.cell hX
            have k3_0 := blk_cells hb 2 rfl
            have g3_0 := blk_free hb (k := 2)
            obtain ⟨x3, hx3⟩ : ∃ W', (u3.setCell ⟨wa.heap.size, 2, none⟩ (.slice a2 n2 c2)) = W' := ⟨_, rfl⟩
            have hN2 : NQ w0 wa 54 x3 inp3  (F) [.int .i64 k0, .slice a1 n1 c1, .slice a2 n2 c2, .slice none 0 0, .int .i64 0, .string ⟨#[]⟩, .string ⟨#[]⟩, .slice none 0 0, .slice none 0 0] := by rw [← hx3]; exact ((HN.out.call hS hX).put 2 _)
            have HRP2 : Hid ((F) = false → Rep x3 (fun k => wa.heap.size < k) (.slice a1 n1 c1) (stepsD x.path)) := Lib.hid fun hf => by rw [← hx3]; exact (rep_put (HN.out.rep (HRP.out (by first | exact hf | exact (Bool.or_eq_false_iff.1 hf).1)) hX) 2 _)
            clear HRP
            have HRP := HRP2
            clear HRP2
            have hlo := HN.out.low
            have HRA : Hid ((F) = false → Rep x3 (fun k => wa.heap.size < k) (.slice a2 n2 c2) (attrsD x.attrs)) := Lib.hid fun hf => by rw [← hx3]; exact (rep_put ((e2 hf).ok fun k hk => by omega) 2 _)
            clear hlo e2
            have HIN := Lib.hid hin
            clear HN HC hS hX hin hb
            have HN := Lib.hid hN2
            clear hN2
            have HC := Lib.hid ((by have h := qnodes_any w0 x3 inp3 F x.kids (nodeB x.node ++ REST) 0 0 HOKS.out.1.2.2.2.2 HIN.out HN.out.S (fun y hy => qnode_any w0 (nsz y) 0 y (Nat.le_refl _) (by have := (HOKS.out.2.2.2.1 y hy).1; omega) (HOKS.out.2.2.2.1 y hy).2); rw [hA] at h; exact h))
            go_wp2_with fail
            refine HC.out.mono ?_
            rintro e u4 ⟨v, rfl, ⟨a3, n3, c3, rfl, e3⟩, ⟨inp4, hS, hin⟩, hX⟩
            have hb := HN.out.cell hX
            have k4_0 := blk_cells hb 3 rfl
            have g4_0 := blk_free hb (k := 3)
            obtain ⟨x4, hx4⟩ : ∃ W', (u4.setCell ⟨wa.heap.size, 3, none⟩ (.slice a3 n3 c3)) = W' := ⟨_, rfl⟩
            have hN2 : NQ w0 wa 54 x4 inp4  (F || !A) [.int .i64 k0, .slice a1 n1 c1, .slice a2 n2 c2, .slice a3 n3 c3, .int .i64 0, .string ⟨#[]⟩, .string ⟨#[]⟩, .slice none 0 0, .slice none 0 0] := by rw [← hx4]; exact ((HN.out.call hS hX).put 3 _)
            have HRP2 : Hid ((F || !A) = false → Rep x4 (fun k => wa.heap.size < k) (.slice a1 n1 c1) (stepsD x.path)) := Lib.hid fun hf => by rw [← hx4]; exact (rep_put (HN.out.rep (HRP.out (by first | exact hf | exact (Bool.or_eq_false_iff.1 hf).1)) hX) 3 _)
            clear HRP
            have HRP := HRP2
            clear HRP2
            have HRA2 : Hid ((F || !A) = false → Rep x4 (fun k => wa.heap.size < k) (.slice a2 n2 c2) (attrsD x.attrs)) := Lib.hid fun hf => by rw [← hx4]; exact (rep_put (HN.out.rep (HRA.out (by first | exact hf | exact (Bool.or_eq_false_iff.1 hf).1)) hX) 3 _)
            clear HRA
            have HRA := HRA2
            clear HRA2
            have hlo := HN.out.low
            have HRK : Hid ((F || !A) = false → Rep x4 (fun k => wa.heap.size < k) (.slice a3 n3 c3) (nodesD x.kids)) := Lib.hid fun hf => by rw [← hx4]; exact (rep_put ((e3 hf).ok fun k hk => by omega) 3 _)
            clear hlo e3
            have HIN := Lib.hid hin
            clear HN HC hS hX hin hb
            have HN := Lib.hid hN2
            clear hN2
            have HC := Lib.hid ((by have h := qnode_any w0 (nsz x.node) 0 x.node (Nat.le_refl _) (by have := HOKS.out.2.2.2.2.1; omega) HOKS.out.2.2.2.2.2 x4 inp4 (F || !A) REST HIN.out HN.out.S; rw [hG] at h; rw [show ((0 : Nat) : Int) = 0 from rfl] at h; exact h))
            go_wp2_with fail
            refine HC.out.mono ?_
            rintro e u5 ⟨v, rfl, ⟨k4, s, t, a7, n7, c7, a8, n8, c8, rfl, l1, l2, e4⟩, ⟨inp5, hS, hin⟩, hX⟩
            have e7 := fun hf => (e4 hf).2.2.2.1
            have e8 := fun hf => (e4 hf).2.2.2.2
            have hb := HN.out.cell hX
            have k5_0 := blk_cells hb 4 rfl
            have g5_0 := blk_free hb (k := 4)
            have k5_1 := blk_cells hb 5 rfl
            have g5_1 := blk_free hb (k := 5)
            have k5_2 := blk_cells hb 6 rfl
            have g5_2 := blk_free hb (k := 6)
            have k5_3 := blk_cells hb 7 rfl
            have g5_3 := blk_free hb (k := 7)
            have k5_4 := blk_cells hb 8 rfl
            have g5_4 := blk_free hb (k := 8)
            obtain ⟨x5, hx5⟩ : ∃ W', (((((u5.setCell ⟨wa.heap.size, 4, none⟩ (.int .i64 k4)).setCell ⟨wa.heap.size, 5, none⟩ (.string (bs s))).setCell ⟨wa.heap.size, 6, none⟩ (.string (bs t))).setCell ⟨wa.heap.size, 7, none⟩ (.slice a7 n7 c7)).setCell ⟨wa.heap.size, 8, none⟩ (.slice a8 n8 c8)) = W' := ⟨_, rfl⟩
            have hN2 : NQ w0 wa 54 x5 inp5  ((F || !A) || !G) [.int .i64 k0, .slice a1 n1 c1, .slice a2 n2 c2, .slice a3 n3 c3, .int .i64 k4, .string (bs s), .string (bs t), .slice a7 n7 c7, .slice a8 n8 c8] := by rw [← hx5]; exact ((((((HN.out.call hS hX).put 4 _).put 5 _).put 6 _).put 7 _).put 8 _)
            have HRP2 : Hid (((F || !A) || !G) = false → Rep x5 (fun k => wa.heap.size < k) (.slice a1 n1 c1) (stepsD x.path)) := Lib.hid fun hf => by rw [← hx5]; exact (rep_put (rep_put (rep_put (rep_put (rep_put (HN.out.rep (HRP.out (by first | exact hf | exact (Bool.or_eq_false_iff.1 hf).1)) hX) 4 _) 5 _) 6 _) 7 _) 8 _)
            clear HRP
            have HRP := HRP2
            clear HRP2
            have HRA2 : Hid (((F || !A) || !G) = false → Rep x5 (fun k => wa.heap.size < k) (.slice a2 n2 c2) (attrsD x.attrs)) := Lib.hid fun hf => by rw [← hx5]; exact (rep_put (rep_put (rep_put (rep_put (rep_put (HN.out.rep (HRA.out (by first | exact hf | exact (Bool.or_eq_false_iff.1 hf).1)) hX) 4 _) 5 _) 6 _) 7 _) 8 _)
            clear HRA
            have HRA := HRA2
            clear HRA2
            have HRK2 : Hid (((F || !A) || !G) = false → Rep x5 (fun k => wa.heap.size < k) (.slice a3 n3 c3) (nodesD x.kids)) := Lib.hid fun hf => by rw [← hx5]; exact (rep_put (rep_put (rep_put (rep_put (rep_put (HN.out.rep (HRK.out (by first | exact hf | exact (Bool.or_eq_false_iff.1 hf).1)) hX) 4 _) 5 _) 6 _) 7 _) 8 _)
            clear HRK
            have HRK := HRK2
            clear HRK2
            have hlo := HN.out.low
            have HRM : Hid (((F || !A) || !G) = false → Rep x5 (fun k => wa.heap.size < k) (.slice a7 n7 c7) (attrsD x.node.attrs)) := Lib.hid fun hf => by rw [← hx5]; exact (rep_put (rep_put (rep_put (rep_put (rep_put ((e7 hf).ok fun k hk => by omega) 4 _) 5 _) 6 _) 7 _) 8 _)
            have HRQ : Hid (((F || !A) || !G) = false → Rep x5 (fun k => wa.heap.size < k) (.slice a8 n8 c8) (nodesD x.node.kids)) := Lib.hid fun hf => by rw [← hx5]; exact (rep_put (rep_put (rep_put (rep_put (rep_put ((e8 hf).ok fun k hk => by omega) 4 _) 5 _) 6 _) 7 _) 8 _)
            clear hlo e7 e8
            have HIN := Lib.hid hin
            clear HN HC hS hX hin hb
            have HN := Lib.hid hN2
            clear hN2
            have hba := HN.out.N
            have m0 := blk_cells hba 0 rfl; have m1 := blk_cells hba 1 rfl; have m2 := blk_cells hba 2 rfl; have m3 := blk_cells hba 3 rfl; have m4 := blk_cells hba 4 rfl; have m5 := blk_cells hba 5 rfl; have m6 := blk_cells hba 6 rfl; have m7 := blk_cells hba 7 rfl; have m8 := blk_cells hba 8 rfl
            have hXE : Exc w0.heap.size wo x5 := HX0.out.trans HN.out.X
            have how0 := HH.out.2.1 (by trivial)
            have hgb := HGb.out
            have how := how0.exc hXE (by omega) (fun _ h => by omega)
            have hE4 : Ext x5 (x5.alloc (.cells #[.int .i64 k0, .slice a1 n1 c1, .slice a2 n2 c2, .slice a3 n3 c3, .int .i64 k4, .string (bs s), .string (bs t), .slice a7 n7 c7, .slice a8 n8 c8] 54)) := (Ext.refl x5).alloc _
            obtain ⟨us, hr, hu⟩ := how.ext hE4
            have hbl : ∀ k, dv.ownBlock = some k → Gb ≤ k ∧ k < wo.heap.size := fun k hk => by
              obtain ⟨us', hr', _⟩ := how0
              exact hr'.lt k hk
            have hlv : wo.heap.size ≤ wa.heap.size := HX0.out.1
            have hwl := HN.out.ne
            have hok : ∀ k, wa.heap.size < k → Gb ≤ k ∧ some k ≠ dv.ownBlock := fun k hk => ⟨by omega, fun e => by have := (hbl k e.symm).2; omega⟩
            have hn : FX = true → Reps (x5.alloc (.cells #[.int .i64 k0, .slice a1 n1 c1, .slice a2 n2 c2, .slice a3 n3 c3, .int .i64 k4, .string (bs s), .string (bs t), .slice a7 n7 c7, .slice a8 n8 c8] 54)) (fun k => Gb ≤ k ∧ some k ≠ dv.ownBlock ∧ k < (x5.alloc (.cells #[.int .i64 k0, .slice a1 n1 c1, .slice a2 n2 c2, .slice a3 n3 c3, .int .i64 k4, .string (bs s), .string (bs t), .slice a7 n7 c7, .slice a8 n8 c8] 54)).heap.size) [.int .i64 k0, .slice a1 n1 c1, .slice a2 n2 c2, .slice a3 n3 c3, .int .i64 k4, .string (bs s), .string (bs t), .slice a7 n7 c7, .slice a8 n8 c8] (editC x) := fun hfx => by
              have hf : ((F || !A) || !G) = false := by
                cases hq : ((F || !A) || !G) with
                | false => rfl
                | true => have := HFX.out.2 hq; rw [hfx] at this; cases this
              have hf0 := (Bool.or_eq_false_iff.1 (Bool.or_eq_false_iff.1 hf).1).1
              obtain ⟨q1, q2, q3, _, _⟩ := e4 hf
              rw [HEK.out hf0, q1, q2, q3]
              rw [q2] at l1
              rw [q3] at l2
              refine (((?_ : Reps x5 (fun k => Gb ≤ k ∧ some k ≠ dv.ownBlock) _ _).ext (by rw [HEK.out hf0, q1, q2, q3] at hE4; exact hE4)).lt).ok fun k hk => ⟨hk.1.1, hk.1.2, hk.2⟩
              exact Reps.cons (Rep.int _ _ _ _) (Reps.cons ((HRP.out hf).ok hok) (Reps.cons ((HRA.out hf).ok hok) (Reps.cons ((HRK.out hf).ok hok) (Reps.cons (Rep.int _ _ _ _) (Reps.cons (Rep.string _ _ _ (by rw [bs_size]; exact l1)) (Reps.cons (Rep.string _ _ _ (by rw [bs_size]; exact l2)) (Reps.cons ((HRM.out hf).ok hok) (Reps.cons ((HRQ.out hf).ok hok) (Reps.nil _ _)))))))))
            have HO := Lib.hid (And.intro hr (And.intro hu (And.intro hn (And.intro hbl (HN.out.S.step hE4)))))
            have HIN5 := Lib.hid HIN.out
            have hi9 : i ≤ 1000000000 := by omega
            have hszW : Gb ≤ x5.heap.size := by have := hXE.1; omega
            obtain ⟨ND, hND⟩ : ∃ q, ((F || !A) || !G) = q := ⟨_, rfl⟩
            rw [hND] at HO HIN5 HFX
            clear HN HIN HRP HRA HRK HRM HRQ e4 hba hXE how0 how hE4 hr hu hbl hn hok hND HHA HHG hA hG l1 l2 HX0
            go_wp2_with (at_builtin; refine wpList_append_own_at _ rfl (.tmp 67) (.tmp 69) _ rfl Gb 54 i0 (.agg #[.int .i64 0, .slice none 0 0, .slice none 0 0, .slice none 0 0, .int .i64 0, .string ⟨#[]⟩, .string ⟨#[]⟩, .slice none 0 0, .slice none 0 0]) 9 168 Tryd.underlying22 hi0' hz0 hz1 hz2 rfl (by decide) dv i us rfl HO.out.1 ⟨x5.heap.size, 0, none⟩ 1 1 [.int .i64 k0, .slice a1 n1 c1, .slice a2 n2 c2, .slice a3 n3 c3, .int .i64 k4, .string (bs s), .string (bs t), .slice a7 n7 c7, .slice a8 n8 c8] rfl rfl (by intro j u hj; match j, hj with | 0, hj => simp at hj; subst hj; simp [go_sem] | 1, hj => simp at hj; subst hj; simp [go_sem] | 2, hj => simp at hj; subst hj; simp [go_sem] | 3, hj => simp at hj; subst hj; simp [go_sem] | 4, hj => simp at hj; subst hj; simp [go_sem] | 5, hj => simp at hj; subst hj; simp [go_sem] | 6, hj => simp at hj; subst hj; simp [go_sem] | 7, hj => simp at hj; subst hj; simp [go_sem] | 8, hj => simp at hj; subst hj; simp [go_sem] | j + 9, hj => simp at hj) (by intro u hu; simp at hu; rcases hu with rfl | rfl | rfl | rfl | rfl | rfl | rfl | rfl | rfl <;> rfl) (by unfold maxLen; omega) (by omega) (by simp; omega) ?_; intro v3 w5 hown5 hgrow5 _ hat5)
            have HO5 := Lib.hid (And.intro hown5 (And.intro hgrow5 hat5))
            clear hown5 hgrow5 hat5
            go_roundw
            case rel =>
              obtain ⟨hr, hu, hn, hbl, hS5⟩ := HO.out
              obtain ⟨hown5, hgrow5, hat5⟩ := HO5.out
              have hfx : ND = false → FX = true := fun h => by
                cases hq : FX with
                | true => rfl
                | false => have := HFX.out.1 hq; rw [h] at this; cases this
              refine ⟨i + 1, ND, by go_num, v3, rfl, by omega, Lib.hid ⟨⟨_, hS5.grown hgrow5 fun k hk => (by have := (hbl k hk).1; have := HGb.out; omega), fun hf => by rw [HRE.out]; exact HIN5.out hf⟩, fun hf => ?_, fun hf => ?_, fun hf => ?_, ?_⟩⟩
              · rw [HT.out, List.flatMap_append, show [x].flatMap editC = editC x by simp]
                exact Own.push hu (hn (hfx hf)) hown5 hgrow5 hat5
              · rw [HT.out, List.all_append, HH.out.2.2.1 (by trivial), List.all_cons, HFE.out, hfx hf]; rfl
              · cases hB : B with
                | false => rfl
                | true => have := HA.out (HB.out.trans hB); have := HFX.out.2 hf; simp_all
              · obtain ⟨a, c, e⟩ := own_slice hown5
                exact ⟨a, _, c, e⟩
            case measure => simp only [downV]; omega
      · have hlI : ¬ (i : Int) < (l.length : Int) := by omega
        have hie : i = l.length := by omega
        have h2 := HH.out.2.1 (by trivial)
        have h4 := HH.out.2.2.1 (by trivial)
        rw [hie, List.take_length] at h2 h4
        obtain rfl : B = true := by rw [← HB.out, h4]
        obtain ⟨da, dc, rfl, _, _⟩ := h2.form
        have hrep : Rep wo (fun _ => True) _ (editsD l) := h2.rep.ok fun _ _ => trivial
        have hc := bedits_any wo l _ _ hrep HV.out.2.2.1 HV.out.2.2.2
        rw [HV.out.2.1] at hc
        have HC := Lib.hid hc
        have HR := Lib.hid (And.intro hrep hS'.ext)
        clear HH h2 h4 hrep hc hS'
        go_wp2_with fail
        refine HC.out.mono ?_
        rintro e w3 ⟨rv, rfl, hown3, hX3⟩
        have hrb := rowB_rep hown3
        have hb2 := bytes_any inp inp _ _ _ _ w3 hrb (HV.out.1.ext (HR.out.2.trans hX3))
        rw [decide_eq_true rfl] at hb2
        have HBY := Lib.hid hb2
        have HR3 := Lib.hid hX3
        obtain ⟨a5, cc5, rfl, _, _⟩ := by_count hrb
        clear HC hown3 hX3 hrb hb2
        go_wp2_with fail
        refine HBY.out.mono ?_
        rintro e w4 ⟨rfl, hX4⟩
        have HX4 := Lib.hid (HR3.out.trans hX4)
        clear HBY hX4
        go_wp2_with fail
        go_ret2
        exact ⟨⟨fun _ => ⟨_, rfl, HR.out.1.ext HX4.out⟩, fun h => (by cases h)⟩, HR.out.2.trans HX4.out⟩

end Go.Proofs.YtghhachbnhldoaaDoor
