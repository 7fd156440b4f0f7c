/-
  recensionlaw24.FuncsSteady tells true. Helper lemmas; no statement of the seat is proved here.
-/
import Derived.Test.YtcdehcclkhmbiaaGreatDoorFAwake
import Derived.Test.YtcdehcclkhmbiaaGreatDoorFRefS
import Derived.Deep.QuietTactic
import Derived.BigQuiet
namespace Go.Proofs.YtcdehcclkhmbiaaGreatDoor
open Go.RowKit
set_option maxRecDepth 100000
set_option linter.unusedVariables false
set_option linter.unusedSimpArgs false

theorem ct_space (s X : List UInt8) (h0 : s.length ≤ 10000) (hX : spacesL (bs s) = X) (W : World) : Hid (CallTexts W ⟨#[110, 111, 114, 109, 97, 108, 105, 122, 101, 45, 115, 112, 97, 99, 101]⟩ [s] (bs X)) :=
  Lib.hid fun W' ab cp hX' hA' => by
    have hl := spaces_len s
    have := c_space s (by omega) (by omega) (by omega) ab cp W' (hA' 0 (by simp)); rw [hX] at this; exact this
theorem ct_trans (a b c X : List UInt8) (ha : a.length ≤ 10000) (hb : b.length ≤ 10000) (hc : c.length ≤ 10000) (hX : trL (Pc.pieces a) (Pc.pieces b) (Pc.pieces c) = X) (W : World) (U : GlobU W) : Hid (CallTexts W ⟨#[116, 114, 97, 110, 115, 108, 97, 116, 101]⟩ [a, b, c] (bs X)) :=
  Lib.hid fun W' ab cp hX' hA' => by
    have := c_translate a b c (by omega) (by omega) (by omega) ab cp W' (U.ext hX') (hA' 0 (by simp)) (hA' 1 (by simp)) (hA' 2 (by simp)); rw [hX] at this; exact this
def wA (L : List (List UInt8)) : Bool := L.all wholeP
theorem wA_step (L : List (List UInt8)) (j : Nat) (h : j < L.length) : wA (L.take (j + 1)) = (wA (L.take j) && wholeP L[j]) := by
  unfold wA; rw [take_one L j h, List.all_append]; simp
theorem one_piece (p : List UInt8) (hp : p ≠ []) : 0 < p.length := List.length_pos_iff.2 hp
theorem steady_long (s a : List UInt8) (w : World) (G : Glob w) (U : GlobU w) (hl : (2000 : Int) < ((bs s).size : Int) + ((bs a).size : Int))
    (h1 : (bs s).size ≤ 140737488351232) (h2 : (bs a).size ≤ 140737488351232) :
    Calls Tryz.prog 4 #[.string (bs s), .string (bs a)] w fun e w' => e = .returned (.bool true) ∧ Ext w w' := by
  have HA := Lib.hid (awake_any w G U)
  clear G U
  go_enter Tryz.func4, Tryz.ntmps4
  go_wp2_with fail
  refine HA.out.mono ?_
  rintro e w1 ⟨rfl, hE1⟩
  go_wp2_with fail
  go_ret
  exact ⟨rfl, hE1⟩
set_option maxHeartbeats 8000000 in
theorem steady_ok (s a X T : List UInt8) (w : World) (G : Glob w) (U : GlobU w) (hl : ¬ (2000 : Int) < ((bs s).size : Int) + ((bs a).size : Int))
    (hX : spacesL (bs s) = X) (hXX : spacesL (bs X) = X) (hT : trL (Pc.pieces s) (Pc.pieces a) (Pc.pieces []) = T) (hTl : T.length ≤ 1000000) (hS : trL (Pc.pieces s) (Pc.pieces a) (Pc.pieces a) = s)
    (hnone : wA (Pc.pieces s) = true → ∀ p ∈ Pc.pieces T, p ∉ Pc.pieces a) :
    Calls Tryz.prog 4 #[.string (bs s), .string (bs a)] w fun e w' => e = .returned (.bool true) ∧ Ext w w' := by
  have hl2 : s.length + a.length ≤ 2000 := by simp only [bs_size] at hl; omega
  have hXl : X.length ≤ 5000 := by have := (spaces_len s).1; rw [hX] at this; omega
  have HS1 := Lib.hid fun W => ct_space s X (by omega) hX W
  have HS2 := Lib.hid fun W => ct_space X X (by omega) hXX W
  have HT1 := Lib.hid fun W => ct_trans s a a s (by omega) (by omega) (by omega) hS W
  have HT2 := Lib.hid fun W => ct_trans s a [] T (by omega) (by omega) (by simp) hT W
  have HP1 := Lib.hid fun W => rpieces_any T W hTl
  have HP2 := Lib.hid fun W => rpieces_any a W (by omega)
  have HP3 := Lib.hid fun W => rpieces_any s W (by omega)
  have HNE1 := Lib.hid (Pc.pieces_ne s)
  have HNE2 := Lib.hid (Pc.pieces_ne a)
  have hp1 := Pc.pieces_len s
  have hp2 := Pc.pieces_len a
  have hp3 := Pc.pieces_len T
  obtain ⟨Z, hZ⟩ : ∃ Z, Pc.pieces s = Z := ⟨_, rfl⟩
  obtain ⟨A, hA⟩ : ∃ A, Pc.pieces a = A := ⟨_, rfl⟩
  obtain ⟨L, hL⟩ : ∃ L, Pc.pieces T = L := ⟨_, rfl⟩
  rw [hZ] at HP3 hp1 hnone HNE1
  rw [hA] at HP2 hp2 hnone HNE2
  rw [hL] at HP1 hp3 hnone
  have zl : Z.length ≤ 1000000 := by omega
  have al : A.length ≤ 1000000 := by omega
  have ll : L.length ≤ 1000000 := by omega
  have HN := Lib.hid hnone
  have U := Lib.hid U
  have G := Lib.hid G
  clear hX hXX hT hS hnone hl2 hXl hp1 hp2 hp3 hZ hA hL hTl
  go_enter Tryz.func4, Tryz.ntmps4
  go_wp2_with fail
  refine (awake_any w G.out U.out).mono ?_
  rintro e w1 ⟨rfl, hB1⟩
  go_wp2_with fail
  refine (told_any_texts _ [s] _ _ _ (by simp) (by simp) (strRow_at [s] (by simp) 1 _ rfl (by first | rfl | simp) rfl) (HS1.out _)).mono ?_
  rintro e w2 ⟨rfl, hB2⟩
  have hE2 : Ext w w2 := (hB1.alloc _).trans hB2
  clear hB1 hB2
  go_wp2_with fail
  refine (told_any_texts _ [X] _ _ _ (by simp) (by simp) (strRow_at [X] (by simp) 1 _ rfl (by first | rfl | simp) rfl) (HS2.out _)).mono ?_
  rintro e w3 ⟨rfl, hB3⟩
  have hE3 : Ext w w3 := (hE2.alloc _).trans hB3
  clear hE2 hB3
  go_wp2_with fail
  refine (told_any_texts _ [s, a, a] _ _ _ (by simp) (by simp) (strRow_at [s, a, a] (by simp) 3 _ rfl (by first | rfl | simp) rfl) (HT1.out _ (U.out.ext (hE3.alloc _)))).mono ?_
  rintro e w4 ⟨rfl, hB4⟩
  have hE4 : Ext w w4 := (hE3.alloc _).trans hB4
  clear hE3 hB4
  go_wp2_with fail
  refine (told_any_texts _ [s, a, []] _ _ _ (by simp) (by simp) (strRow_at [s, a, []] (by simp) 3 _ rfl (by first | rfl | simp) rfl) (HT2.out _ (U.out.ext (hE4.alloc _)))).mono ?_
  rintro e w5 ⟨rfl, hB5⟩
  have hE5 : Ext w w5 := (hE4.alloc _).trans hB5
  clear hE4 hB5
  go_wp2_with fail
  refine (HP1.out _).mono ?_
  rintro e w6 ⟨v1, rfl, R1, hB6⟩
  go_wp2_with fail
  refine (HP2.out _).mono ?_
  rintro e w7 ⟨v2, rfl, R2, hB7⟩
  go_wp2_with fail
  refine (HP3.out _).mono ?_
  rintro e w8 ⟨v3, rfl, R3, hB8⟩
  have R1' := R1.ext (hB7.trans hB8)
  have R2' := R2.ext hB8
  have hE8 := ((hE5.trans hB6).trans hB7).trans hB8
  clear hE5 hB6 hB7 hB8 R1 R2 HS1 HS2 HT1 HT2 HP1 HP2 HP3
  obtain ⟨sa1, sc1, rfl⟩ := R1'.slice
  obtain ⟨sa2, sc2, rfl⟩ := R2'.slice
  obtain ⟨sa3, sc3, rfl⟩ := R3.slice
  go_wp2_with fail
  -- loops
  go_loop [8, 10] (fun b t => ∃ (j : Nat) (B : Bool), t = .int .i64 j ∧ b = .bool B ∧ j ≤ Z.length ∧ Hid (B = wA (Z.take j))) (fun _ t => downV Z.length t)
  case atStart => exact ⟨0, _, rfl, rfl, Nat.zero_le _, Lib.hid (by simp [wA])⟩
  case round =>
    obtain ⟨j, B, rfl, rfl, hj, HB⟩ := hrel
    by_cases hlt : j < Z.length
    · have hI : (j : Int) < (Z.length : Int) := by omega
      have hj0 : (0 : Int) ≤ (j : Int) := by omega
      obtain ⟨g, rfl, hc⟩ := R3.at j hlt
      have hpn : (Z[j]) ≠ [] := (HNE1.out _ (List.getElem_mem hlt)).1
      have HW : Hid (wA (Z.take (j + 1)) = (wA (Z.take j) && wholeP Z[j])) := Lib.hid (wA_step _ j hlt)
      obtain ⟨p, hp⟩ : ∃ p, Z[j] = p := ⟨_, rfl⟩
      rw [hp] at hc hpn HW
      have hp0 : 0 < (bs p).size := by rw [bs_size]; exact one_piece p hpn
      have hx0 : (bs p)[0] = p.getD 0 0 := by
        rw [bs_get, List.getD_eq_getElem?_getD, List.getElem?_eq_getElem (by rw [bs_size] at hp0; exact hp0)]; rfl
      have HX0 := Lib.hid hx0
      clear hp hpn hx0
      cases B with
      | false =>
        have HF : Hid (false = wA (Z.take (j + 1))) := Lib.hid (by
          have h1 := HB.out; have h2 := HW.out
          rw [h2]
          first | (rw [← Bool.and_assoc, ← h1]; rfl) | (rw [← h1]; rfl))
        clear HB HW
        go_wp2_with fail
        go_round
        case rel => exact ⟨j + 1, false, by go_num, rfl, by omega, HF⟩
        case measure => simp only [downV]; omega
      | true =>
        by_cases h1 : 1 < (bs p).size
        · have h1' : (1 : Int) < ((bs p).size : Int) := by omega
          have HF : Hid (true = wA (Z.take (j + 1))) := Lib.hid (by
            have e1 := HB.out; have e2 := HW.out
            have e3 : wholeP p = true := by unfold wholeP; rw [decide_eq_true (by rw [← bs_size]; exact h1)]; rfl
            rw [e2, e3]
            first | (rw [← Bool.and_assoc, ← e1]; rfl) | (rw [← e1]; rfl))
          clear HB HW
          go_wp2_with fail
          go_round
          case rel => exact ⟨j + 1, true, by go_num, rfl, by omega, HF⟩
          case measure => simp only [downV]; omega
        · have h1' : ¬ (1 : Int) < ((bs p).size : Int) := by omega
          obtain ⟨b0, hb0⟩ : ∃ b0 : Bool, decide (((bs p)[0].toNat : Int) < 128) = b0 := ⟨_, rfl⟩
          have HF : Hid (b0 = wA (Z.take (j + 1))) := Lib.hid (by
            have e1 := HB.out; have e2 := HW.out
            have e3 : wholeP p = b0 := by
              unfold wholeP
              rw [decide_eq_false (by rw [← bs_size]; exact h1), Bool.false_or, ← HX0.out, ← hb0]
              exact decide_eq_decide.2 (by omega)
            rw [e2, e3]
            first | (rw [← Bool.and_assoc, ← e1, Bool.true_and]) | (rw [← e1, Bool.true_and]))
          clear HB HW
          go_wp2_with fail
          go_round
          case rel => exact ⟨j + 1, b0, by go_num, rfl, by omega, HF⟩
          case measure => simp only [downV]; omega
    · have hI : ¬ ((j : Int) < (Z.length : Int)) := by omega
      have hjl : Z.length ≤ j := by omega
      rw [List.take_of_length_le hjl] at HB
      clear hlt hj hjl
      have HB1 := HB; clear HB
      obtain ⟨j1, hj1⟩ : ∃ j1 : Nat, j1 = j := ⟨_, rfl⟩
      subst hj1
      obtain ⟨B1, hB1⟩ : ∃ B1, B1 = B := ⟨_, rfl⟩
      subst hB1
      go_wp2_with fail
      go_loop [8, 11] (fun b t => ∃ (j : Nat) (B : Bool), t = .int .i64 j ∧ b = .bool B ∧ j ≤ A.length ∧ Hid (B = (B1 && wA (A.take j)))) (fun _ t => downV A.length t)
      case atStart => exact ⟨0, _, rfl, rfl, Nat.zero_le _, Lib.hid (by simp [wA])⟩
      case round =>
        obtain ⟨j, B, rfl, rfl, hj, HB⟩ := hrel
        by_cases hlt : j < A.length
        · have hI : (j : Int) < (A.length : Int) := by omega
          have hj0 : (0 : Int) ≤ (j : Int) := by omega
          obtain ⟨g, rfl, hc⟩ := R2'.at j hlt
          have hpn : (A[j]) ≠ [] := (HNE2.out _ (List.getElem_mem hlt)).1
          have HW : Hid (wA (A.take (j + 1)) = (wA (A.take j) && wholeP A[j])) := Lib.hid (wA_step _ j hlt)
          obtain ⟨p, hp⟩ : ∃ p, A[j] = p := ⟨_, rfl⟩
          rw [hp] at hc hpn HW
          have hp0 : 0 < (bs p).size := by rw [bs_size]; exact one_piece p hpn
          have hx0 : (bs p)[0] = p.getD 0 0 := by
            rw [bs_get, List.getD_eq_getElem?_getD, List.getElem?_eq_getElem (by rw [bs_size] at hp0; exact hp0)]; rfl
          have HX0 := Lib.hid hx0
          clear hp hpn hx0
          cases B with
          | false =>
            have HF : Hid (false = (B1 && wA (A.take (j + 1)))) := Lib.hid (by
              have h1 := HB.out; have h2 := HW.out
              rw [h2]
              first | (rw [← Bool.and_assoc, ← h1]; rfl) | (rw [← h1]; rfl))
            clear HB HW
            go_wp2_with fail
            go_round
            case rel => exact ⟨j + 1, false, by go_num, rfl, by omega, HF⟩
            case measure => simp only [downV]; omega
          | true =>
            by_cases h1 : 1 < (bs p).size
            · have h1' : (1 : Int) < ((bs p).size : Int) := by omega
              have HF : Hid (true = (B1 && wA (A.take (j + 1)))) := Lib.hid (by
                have e1 := HB.out; have e2 := HW.out
                have e3 : wholeP p = true := by unfold wholeP; rw [decide_eq_true (by rw [← bs_size]; exact h1)]; rfl
                rw [e2, e3]
                first | (rw [← Bool.and_assoc, ← e1]; rfl) | (rw [← e1]; rfl))
              clear HB HW
              go_wp2_with fail
              go_round
              case rel => exact ⟨j + 1, true, by go_num, rfl, by omega, HF⟩
              case measure => simp only [downV]; omega
            · have h1' : ¬ (1 : Int) < ((bs p).size : Int) := by omega
              obtain ⟨b0, hb0⟩ : ∃ b0 : Bool, decide (((bs p)[0].toNat : Int) < 128) = b0 := ⟨_, rfl⟩
              have HF : Hid (b0 = (B1 && wA (A.take (j + 1)))) := Lib.hid (by
                have e1 := HB.out; have e2 := HW.out
                have e3 : wholeP p = b0 := by
                  unfold wholeP
                  rw [decide_eq_false (by rw [← bs_size]; exact h1), Bool.false_or, ← HX0.out, ← hb0]
                  exact decide_eq_decide.2 (by omega)
                rw [e2, e3]
                first | (rw [← Bool.and_assoc, ← e1, Bool.true_and]) | (rw [← e1, Bool.true_and]))
              clear HB HW
              go_wp2_with fail
              go_round
              case rel => exact ⟨j + 1, b0, by go_num, rfl, by omega, HF⟩
              case measure => simp only [downV]; omega
        · have hI : ¬ ((j : Int) < (A.length : Int)) := by omega
          have hjl : A.length ≤ j := by omega
          rw [List.take_of_length_le hjl] at HB
          clear hlt hj hjl
          have HB2 : Hid (B = true → wA Z = true) := Lib.hid (fun e => by have h1 := HB.out; have h2 := HB1.out; rw [e] at h1; rw [← h2]; revert h1; cases B1 <;> simp)
          clear HB HB1 HNE1 HNE2 R3
          cases B with
          | false =>
            clear HB2
            go_wp2_with fail
            go_loop [12] (fun t => t = .int .i64 0) (fun _ => 0)
            case atStart => exact rfl
            case round =>
              obtain rfl := hrel
              by_cases hlL : 0 < L.length
              · have hlI : (0 : Int) < (L.length : Int) := by omega
                go_wp2_with fail
                go_ret
                exact ⟨rfl, hE8⟩
              · have hlI : ¬ (0 : Int) < (L.length : Int) := by omega
                go_wp2_with fail
                go_ret
                exact ⟨rfl, hE8⟩
          | true =>
            have HNN := Lib.hid (HN.out (HB2.out rfl))
            clear HB2 HN
            go_wp2_with fail
            go_loopw [12, 13] (fun t _ wr => ∃ i : Nat, t = .int .i64 i ∧ i ≤ L.length ∧ Ext w8 wr) (fun t _ _ => downV L.length t)
            case atStart => exact ⟨0, rfl, Nat.zero_le _, Ext.refl _⟩
            case round =>
              obtain ⟨i, rfl, hi, hQ⟩ := hrel
              by_cases hli : i < L.length
              · have hiI : (i : Int) < (L.length : Int) := by omega
                have hi0 : (0 : Int) ≤ (i : Int) := by omega
                obtain ⟨g1, rfl, hc1⟩ := (R1'.ext hQ).at i hli
                have HP : Hid (∀ q ∈ A, L[i] ≠ q) := Lib.hid (fun q hq e => HNN.out _ (List.getElem_mem hli) (by rw [e]; exact hq))
                obtain ⟨pl, hpl⟩ : ∃ pl, L[i] = pl := ⟨_, rfl⟩
                rw [hpl] at hc1 HP
                have l1 : g1 < wr.heap.size := World.block_lt_of_cell? wr _ hc1
                clear hpl
                obtain ⟨w0, hw0⟩ : ∃ w0, w0 = wr := ⟨_, rfl⟩
                subst hw0
                go_wp2_with fail
                go_loopw [13] (fun t wq => ∃ k : Nat, t = .int .i64 k ∧ k ≤ A.length ∧ Ext w0 wq) (fun t _ => downV A.length t)
                case atStart => exact ⟨0, rfl, Nat.zero_le _, Ext.refl _⟩
                case round =>
                  obtain ⟨k, rfl, hk, hR⟩ := hrel
                  by_cases hlk : k < A.length
                  · have hkI : (k : Int) < (A.length : Int) := by omega
                    have hk0 : (0 : Int) ≤ (k : Int) := by omega
                    obtain ⟨g2, rfl, hc2⟩ := (R2'.ext (hQ.trans hR)).at k hlk
                    have hd := hR.keep l1 hc1
                    have hne : pl ≠ A[k] := HP.out _ (List.getElem_mem hlk)
                    obtain ⟨pa, hpa⟩ : ∃ pa, A[k] = pa := ⟨_, rfl⟩
                    rw [hpa] at hc2 hne
                    have e1 : ((bs pl).toList == (bs pa).toList) = false := by rw [bs_toList, bs_toList, beq_eq_false_iff_ne]; exact hne
                    have HRR := Lib.hid hR
                    clear hpa hne hR
                    go_wp2_with fail
                    go_quiet (fail)
                    go_wp2_with fail
                    go_roundw
                    case rel => exact ⟨k + 1, by go_num, by omega, HRR.out.drewN _⟩
                    case measure => simp only [downV]; omega
                  · have hkI : ¬ (k : Int) < (A.length : Int) := by omega
                    go_wp2_with fail
                    go_roundw
                    case rel => exact ⟨i + 1, by go_num, by omega, hQ.trans hR⟩
                    case measure => simp only [downV]; omega
              · have hiI : ¬ (i : Int) < (L.length : Int) := by omega
                go_wp2_with fail
                go_ret
                exact ⟨rfl, hE8.trans hQ⟩
theorem trL_len (s a : List UInt8) : (trL (Pc.pieces s) (Pc.pieces a) []).length ≤ s.length := by
  rw [trL_none]
  have h : ∀ Z : List (List UInt8), (Z.filter fun p => decide (p ∉ Pc.pieces a)).flatten.length ≤ Z.flatten.length := by
    intro Z
    induction Z with
    | nil => simp
    | cons p Z ih =>
      rw [List.filter_cons]
      split
      · rw [List.flatten_cons, List.flatten_cons, List.length_append, List.length_append]; omega
      · rw [List.flatten_cons, List.length_append]; omega
  have := h (Pc.pieces s)
  rw [Pc.pieces_join] at this
  exact this
/-- The law, of whatever texts. -/
theorem steady_walk (s a : ByteArray) (w : World) (G : Glob w) (U : GlobU w) (h1 : s.size ≤ 140737488351232) (h2 : a.size ≤ 140737488351232) : Calls Tryz.prog 4 #[.string s, .string a] w fun e w' => e = .returned (.bool true) ∧ Ext w w' := by
  rw [str_ext s, str_ext a]
  by_cases hl : (2000 : Int) < ((bs s.data.toList).size : Int) + ((bs a.data.toList).size : Int)
  · exact steady_long _ _ w G U hl (by rw [← str_ext]; exact h1) (by rw [← str_ext]; exact h2)
  · have hl2 : s.data.toList.length ≤ 2000 := by simp only [bs_size] at hl; omega
    exact steady_ok _ _ _ _ w G U hl rfl (spaces_again _) rfl (by rw [Pc.pieces_nil]; have := trL_len s.data.toList a.data.toList; omega) (by rw [trL_self, Pc.pieces_join])
      (fun hw => by
        rw [Pc.pieces_nil]
        exact none_left _ _ (fun p hp => List.all_eq_true.1 hw p hp))
end Go.Proofs.YtcdehcclkhmbiaaGreatDoor
