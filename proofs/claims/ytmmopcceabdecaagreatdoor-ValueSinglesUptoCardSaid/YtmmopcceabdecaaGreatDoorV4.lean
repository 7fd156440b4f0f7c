/-
  view.Value. Helper lemmas; no statement of the seat is proved here.
-/
import Derived.Test.YtmmopcceabdecaaGreatDoorV3
import Derived.Shelf.Strings.BuilderK
namespace Go.Proofs.YtmmopcceabdecaaGreatDoor
open Go.RowKit Go.Shelf
set_option maxRecDepth 100000
set_option linter.unusedVariables false
set_option linter.unusedSimpArgs false

theorem builder_WS (B b : Nat) (bs : List Value) (s : ByteArray) (w : World) (h : Lib.IsBuilderF 105 5 B b bs w) (hlen : bs.length + s.size ≤ 140737488355328) (hBw : B ≤ w.heap.size) :
    Calls Tryz.prog 52 #[.pointer (some ⟨b, 0, none⟩), .string s] w fun e w' => e = .returned (.tuple #[.int .i64 s.size, .nilIface]) ∧ Lib.IsBuilderF 105 5 B b (bs ++ Lib.strCells s) w' ∧ Below B w w' :=
  (Any.Builder_WriteString_k Tryz.lays166 Tryz.Builder_Extra_166 B b bs s w h hlen hBw).mono fun e w' ⟨he, h1, h2, _⟩ => ⟨he, Or.inr h1, h2⟩
theorem builder_S (B b : Nat) (l : List UInt8) (w : World) (h : Lib.IsBuilderF 105 5 B b (Lib.byteCells l) w) (hBw : B ≤ w.heap.size) :
    Calls Tryz.prog 53 #[.pointer (some ⟨b, 0, none⟩)] w fun e w' => e = .returned (.string (bs l)) ∧ Below B w w' :=
  (Any.Builder_String_any_k Tryz.lays169 Tryz.Builder_Extra_169 B b l w h hBw).mono fun e w' ⟨he, h1, h2, h3⟩ => ⟨he, h2⟩
theorem byteCells_append (a b : List UInt8) : Lib.byteCells (a ++ b) = Lib.byteCells a ++ Lib.byteCells b := by unfold Lib.byteCells; simp
theorem take_one {α : Type} (L : List α) (j : Nat) (h : j < L.length) : L.take (j + 1) = L.take j ++ [L[j]] := by
  rw [List.take_add_one, List.getElem?_eq_getElem h]; rfl
def textOne (q : QN) : Bytes := if q.kind = 2 then q.text else []
def textsV (L : List QN) : Bytes := L.flatMap textOne
/-- A node's string-value. -/
def valV (L : List QN) (i : Int) : Bytes :=
  if 0 ≤ i then (match L[i.toNat]? with
    | some q => if q.kind ≠ 6 ∧ q.kind ≠ 1 then q.text else textsV ((L.drop i.toNat).take (q.fin - i).toNat)
    | none => []) else []
theorem textsV_len : ∀ L : List QN, (textsV L).length ≤ totT L
  | [] => by simp [textsV, totT]
  | q :: L => by
    have := textsV_len L
    unfold textsV at *
    rw [List.flatMap_cons, List.length_append]
    have h : (textOne q).length ≤ q.text.length := by unfold textOne; split <;> simp
    simp only [totT, List.map_cons, List.sum_cons] at *
    omega
theorem totT_sub {L M : List QN} (h : L.Sublist M) : totT L ≤ totT M := by
  induction h with
  | slnil => exact Nat.le_refl _
  | cons a _ ih => simp only [totT, List.map_cons, List.sum_cons] at *; omega
  | cons_cons a _ ih => simp only [totT, List.map_cons, List.sum_cons] at *; omega
theorem totT_get {L : List QN} {j : Nat} {q : QN} (h : L[j]? = some q) : q.text.length ≤ totT L := by
  have h1 : ([q] : List QN).Sublist L := List.singleton_sublist.2 (List.mem_of_getElem? h)
  have := totT_sub h1
  simpa [totT] using this
theorem valV_len (L : List QN) (i : Int) : (valV L i).length ≤ totT L := by
  unfold valV
  split
  · split
    · rename_i q hq
      split
      · exact totT_get hq
      · exact Nat.le_trans (textsV_len _) (totT_sub ((List.take_sublist _ _).trans (List.drop_sublist _ _)))
    · simp
  · simp
theorem qn_at {w : World} {p : Nat → Prop} {a : Option Addr} {len cap : Nat} {l : List QN} (h : Rep w p (.slice a len cap) (qnsD l)) (i : Nat) (hi : i < l.length) :
    ∃ b off, a = some ⟨b, off, none⟩ ∧ b < w.heap.size ∧ w.cell? ⟨b, off + i * 6, none⟩ = some (.int .i64 l[i].kind) ∧ w.cell? ⟨b, off + i * 6 + 1, none⟩ = some (.string (bs l[i].name)) ∧ w.cell? ⟨b, off + i * 6 + 2, none⟩ = some (.string (bs l[i].text)) ∧
      w.cell? ⟨b, off + i * 6 + 3, none⟩ = some (.int .i64 l[i].par) ∧ w.cell? ⟨b, off + i * 6 + 4, none⟩ = some (.int .i64 l[i].fin) ∧ w.cell? ⟨b, off + i * 6 + 5, none⟩ = some (.string (bs l[i].path)) := by
  obtain ⟨b, off, ha, hb, hp, hc⟩ := elem_at z_qn h (by omega) i hi
  obtain ⟨u0, hu0, hr0⟩ := hc 0 _ rfl
  obtain ⟨u1, hu1, hr1⟩ := hc 1 _ rfl
  obtain ⟨u2, hu2, hr2⟩ := hc 2 _ rfl
  obtain ⟨u3, hu3, hr3⟩ := hc 3 _ rfl
  obtain ⟨u4, hu4, hr4⟩ := hc 4 _ rfl
  obtain ⟨u5, hu5, hr5⟩ := hc 5 _ rfl
  exact ⟨b, off, ha, hb, by rw [← hr0.is]; exact hu0, by rw [← hr1.is]; exact hu1, by rw [← hr2.is]; exact hu2, by rw [← hr3.is]; exact hu3, by rw [← hr4.is]; exact hu4, by rw [← hr5.is]; exact hu5⟩
set_option maxHeartbeats 16000000 in
theorem value_any (L : List QN) (hT : TOk 0 L.length L) (hL : L.length ≤ 1048577) (hS : totT L ≤ 1048576) (i : Int) (p : Nat → Prop) (tv : Value) (w : World) (hv : Rep w p tv (qnsD L)) :
    Calls Tryz.prog 33 #[tv, .int .i64 i] w fun e w' => e = .returned (.string (bs (valV L i))) ∧ Ext w w' := by
  obtain ⟨ba, ca, rfl, hca1, hca2⟩ := hv.count z_qn (by omega)
  by_cases h0 : i < 0
  · have hR : valV L i = [] := by unfold valV; rw [if_neg (show ¬ (0 : Int) ≤ i by omega)]
    rw [hR]
    clear hR hT hv
    go_enter Tryz.func33, Tryz.ntmps33
    go_wp2_with fail
    go_ret
    exact ⟨rfl, Ext.refl _⟩
  · by_cases h1 : (L.length : Int) ≤ i
    · have hR : valV L i = [] := by unfold valV; rw [if_pos (show (0 : Int) ≤ i by omega), List.getElem?_eq_none (by omega)]
      rw [hR]
      clear hR hT hv
      go_enter Tryz.func33, Tryz.ntmps33
      go_wp2_with fail
      go_ret
      exact ⟨rfl, Ext.refl _⟩
    · obtain ⟨m, rfl⟩ : ∃ m : Nat, i = m := ⟨i.toNat, by omega⟩
      have hm : m < L.length := by omega
      have hmI : (m : Int) < (L.length : Int) := by omega
      have hm0 : (0 : Int) ≤ (m : Int) := by omega
      have hv_at := fun j (hj : j < L.length) => qn_at hv j hj
      obtain ⟨b, off, rfl, hb, c0, c1, c2, c3, c4, c5⟩ := hv_at m hm
      obtain ⟨hqf, hf1, hf2⟩ := hT m L[m] (List.getElem?_eq_getElem hm)
      obtain ⟨R, hR⟩ : ∃ R, valV L (m : Int) = R := ⟨_, rfl⟩
      rw [hR]
      have hR' : (if L[m].kind ≠ 6 ∧ L[m].kind ≠ 1 then L[m].text else textsV ((L.drop m).take (L[m].fin - m).toNat)) = R := by
        rw [← hR]; unfold valV
        rw [if_pos (show (0 : Int) ≤ (m : Int) by omega), Int.toNat_natCast, List.getElem?_eq_getElem hm]
      obtain ⟨q, hq⟩ : ∃ q, L[m] = q := ⟨_, rfl⟩
      rw [hq] at c0 c1 c2 c3 c4 c5 hqf hf1 hf2 hR'
      obtain ⟨f, hf⟩ : ∃ f : Nat, q.fin = f := ⟨q.fin.toNat, by omega⟩
      rw [hf] at c4 hf1 hf2 hR'
      have HA := Lib.hid hv_at
      clear hv_at hv hT hR hq
      by_cases hk : q.kind ≠ 6 ∧ q.kind ≠ 1
      · have k1 : (q.kind != 6) = true := by rw [bne_iff_ne]; exact hk.1
        have k2 : (q.kind != 1) = true := by rw [bne_iff_ne]; exact hk.2
        have HR : Hid (q.text = R) := Lib.hid (by rw [if_pos hk] at hR'; exact hR')
        clear hR' hk HA
        go_enter Tryz.func33, Tryz.ntmps33
        go_wp2_with fail
        rw [← HR.out]
        go_ret
        exact ⟨rfl, Ext.refl _⟩
      · have hkk : ((q.kind != 6) = false) ∨ ((q.kind != 6) = true ∧ (q.kind != 1) = false) := by
          by_cases e : q.kind = 6
          · left; rw [e]; rfl
          · right
            refine ⟨by rw [bne_iff_ne]; exact e, ?_⟩
            have : q.kind = 1 := by
              by_cases e1 : q.kind = 1
              · exact e1
              · exact absurd ⟨e, e1⟩ hk
            rw [this]; rfl
        obtain ⟨M, hM⟩ : ∃ M, (L.drop m).take (f - m) = M := ⟨_, rfl⟩
        have hML : M.length = f - m := by rw [← hM, List.length_take, List.length_drop]; omega
        have HR : Hid (textsV M = R) := Lib.hid (by rw [if_neg hk, show ((f : Int) - m).toNat = f - m by omega, hM] at hR'; exact hR')
        have HM := Lib.hid fun j (hj : j < M.length) => (show ∃ hx : m + j < L.length, M[j] = L[m + j] by
          refine ⟨by omega, ?_⟩
          subst hM
          rw [List.getElem_take, List.getElem_drop])
        have hMt : totT M ≤ 1048576 := by rw [← hM]; exact Nat.le_trans (totT_sub ((List.take_sublist _ _).trans (List.drop_sublist _ _))) hS
        have HMT := Lib.hid hMt
        have hmf : m < f := by omega
        have hfL : f ≤ L.length := by omega
        have hmfI : (m : Int) ≤ (f : Int) := by omega
        have hfI : (f : Int) ≤ (ca : Int) := by omega
        have hcaI : (ca : Int) ≤ 9223372036854775807 := by omega
        have hsub : (f : Int) - (m : Int) = ((f - m : Nat) : Int) := by omega
        have hdn : f - m ≤ 1048577 := by omega
        have HML := Lib.hid hML
        have hcm : ¬ ca = m := by omega
        clear hR' hk hM hML hMt hqf
        go_enter Tryz.func33, Tryz.ntmps33
        rcases hkk with hk1 | ⟨hk1, hk2⟩
        all_goals
          go_wp2_with fail
          have hb3 : (w.alloc (.cells #[.pointer none, .slice none 0 0] 105)).heap[w.heap.size]? = some (.cells #[.pointer none, .slice none 0 0] 105 (0, 0)) := Array.getElem?_push_size
          have HI := Lib.hid (show Lib.IsBuilderF 105 5 w.heap.size w.heap.size (Lib.byteCells (textsV (M.take 0))) (w.alloc (.cells #[.pointer none, .slice none 0 0] 105)) from Lib.IsBuilderF.of (Or.inl ⟨Nat.le_refl _, _, hb3, World.ownsRow_nil _ _ _ _, by simp [Value.ownBlock]⟩))
          clear hb3 c0 c1 c2 c3 c4 c5
          go_loopw [7, 44] (fun _ t wr => ∃ j : Nat, t = .int .i64 j ∧ j ≤ f - m ∧ Hid (Lib.IsBuilderF 105 5 w.heap.size w.heap.size (Lib.byteCells (textsV (M.take j))) wr) ∧ Hid (Ext w wr)) (fun _ t _ => downV (f - m) t)
          case atStart => exact ⟨0, rfl, Nat.zero_le _, HI, Lib.hid ((Ext.refl w).alloc _)⟩
          case round =>
            obtain ⟨j, rfl, hj, HI2, HX⟩ := hrel
            clear HI
            have hj0 : (0 : Int) ≤ (j : Int) := by omega
            have hj8 : (j : Int) ≤ 1048577 := by omega
            by_cases hlt : j < f - m
            · have hjI : (j : Int) < ((f - m : Nat) : Int) := by omega
              have hlM : j < M.length := by rw [HML.out]; exact hlt
              obtain ⟨hx, hMj⟩ := HM.out j hlM
              obtain ⟨b', off', hbb, _, d0, d1, d2, d3, d4, d5⟩ := HA.out (m + j) hx
              cases hbb
              rw [show off + (m + j) * 6 = off + m * 6 + j * 6 by omega] at d0 d1 d2 d3 d4 d5
              have hyt := totT_get (List.getElem?_eq_getElem hlM)
              have htk : textsV (M.take (j + 1)) = textsV (M.take j) ++ textOne M[j] := by rw [take_one M j hlM]; unfold textsV; rw [List.flatMap_append]; simp
              have hln : (textsV (M.take j)).length ≤ totT M := Nat.le_trans (textsV_len _) (totT_sub (List.take_sublist _ _))
              rw [← hMj] at d0 d1 d2 d3 d4 d5
              obtain ⟨y, hy⟩ : ∃ y, M[j] = y := ⟨_, rfl⟩
              rw [hy] at d0 d1 d2 d3 d4 d5 hyt htk
              have n0 := HX.out.keep hb d0
              have n1 := HX.out.keep hb d1
              have n2 := HX.out.keep hb d2
              have n3 := HX.out.keep hb d3
              have n4 := HX.out.keep hb d4
              have n5 := HX.out.keep hb d5
              have HTK := Lib.hid (And.intro htk (And.intro hln hyt))
              clear d0 d1 d2 d3 d4 d5 hy hMj htk hln hyt hx hlM
              by_cases hk2 : y.kind = 2
              · have k2 : (y.kind == 2) = true := by rw [hk2]; rfl
                have HT : Hid (textOne y = y.text) := Lib.hid (by unfold textOne; rw [if_pos hk2])
                have HWS := Lib.hid (builder_WS w.heap.size w.heap.size _ (bs y.text) (wr.alloc (.cells #[.int .i64 y.kind, .string (bs y.name), .string (bs y.text), .int .i64 y.par, .int .i64 y.fin, .string (bs y.path)] 66)) (HI2.out.alloc _) (by rw [Lib.byteCells_length, bs_size]; have := HTK.out.2.1; have := HTK.out.2.2; have := HMT.out; omega) (by have := HX.out.size; simp; omega))
                clear hk2
                go_wp2_with fail
                refine HWS.out.mono ?_
                rintro e w5 ⟨rfl, hI5, hB5⟩
                have HI5 := Lib.hid (show Lib.IsBuilderF 105 5 w.heap.size w.heap.size (Lib.byteCells (textsV (M.take (j + 1)))) w5 by rw [HTK.out.1, HT.out, byteCells_append]; exact hI5)
                have HX5 := Lib.hid (show Ext w w5 from Below.trans (HX.out.alloc _) hB5)
                clear hI5 hB5 HWS HI2 HX n0 n1 n2 n3 n4 n5
                go_wp2_with fail
                go_roundw
                case rel => exact ⟨j + 1, by go_num, by omega, HI5, HX5⟩
                case measure => simp only [downV]; omega
              · have k2 : (y.kind == 2) = false := by rw [beq_eq_false_iff_ne]; exact hk2
                have HI5 := Lib.hid (show Lib.IsBuilderF 105 5 w.heap.size w.heap.size (Lib.byteCells (textsV (M.take (j + 1)))) (wr.alloc (.cells #[.int .i64 y.kind, .string (bs y.name), .string (bs y.text), .int .i64 y.par, .int .i64 y.fin, .string (bs y.path)] 66)) by
                  rw [HTK.out.1, show textOne y = [] by unfold textOne; rw [if_neg hk2], List.append_nil]; exact HI2.out.alloc _)
                clear hk2 HI2
                go_wp2_with fail
                go_roundw
                case rel => exact ⟨j + 1, by go_num, by omega, HI5, Lib.hid (HX.out.alloc _)⟩
                case measure => simp only [downV]; omega
            · have hjI : ¬ (j : Int) < ((f - m : Nat) : Int) := by omega
              have HI6 := Lib.hid (show Lib.IsBuilderF 105 5 w.heap.size w.heap.size (Lib.byteCells (textsV M)) wr by
                have h := HI2.out
                rw [List.take_of_length_le (by rw [HML.out]; omega)] at h; exact h)
              have HSS := Lib.hid (builder_S w.heap.size w.heap.size _ wr HI6.out HX.out.size)
              clear HI2 HI6
              go_wp2_with fail
              refine HSS.out.mono ?_
              rintro e w5 ⟨rfl, hB5⟩
              have HX5 := Lib.hid (show Ext w w5 from Below.trans HX.out hB5)
              clear hB5 HSS HX
              go_wp2_with fail
              rw [← HR.out]
              go_ret
              exact ⟨rfl, HX5.out⟩
end Go.Proofs.YtmmopcceabdecaaGreatDoor
