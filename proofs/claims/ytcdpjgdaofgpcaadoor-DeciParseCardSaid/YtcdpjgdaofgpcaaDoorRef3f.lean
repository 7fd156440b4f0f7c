/-
  The contract of the reference's Parse (layer 3). Helper lemmas; no statement of the seat is proved here.
-/
import Derived.Test.YtcdpjgdaofgpcaaDoorRef3e
namespace Go.Proofs.YtcdpjgdaofgpcaaDoor
open Go.RowKit
open KText
set_option maxRecDepth 100000
set_option linter.unusedVariables false

theorem scan_at (s : ByteArray) (k : Nat) (h : k < s.size) : s.data.toList.drop k = s[k] :: s.data.toList.drop (k + 1) := by
  rw [List.drop_eq_getElem_cons (by simpa using h)]; rfl
theorem scan_end (s : ByteArray) : s.data.toList.drop s.size = [] := List.drop_eq_nil_of_le (by rw [str_len]; exact Nat.le_refl _)
theorem byte_ne46 (c : UInt8) (h : ¬ c = 46) : ((c.toNat : Int) == 46) = false := by
  rw [beq_eq_false_iff_ne]; intro e; exact h (UInt8.toNat_inj.1 (by rw [show (46 : UInt8).toNat = 46 from rfl]; omega))
theorem byte_ne45 (c : UInt8) (h : ¬ c = 45) : ((c.toNat : Int) == 45) = false := by
  rw [beq_eq_false_iff_ne]; intro e; exact h (UInt8.toNat_inj.1 (by rw [show (45 : UInt8).toNat = 45 from rfl]; omega))

set_option maxHeartbeats 4000000 in
theorem rparse_neg (s t : ByteArray) (w : World) (hs : t.size ≤ 4294967296) (H0 : Hid (∀ w, Calls Tryd.prog 85 #[.string s] w fun e w' => e = .returned (.string t) ∧ w = w')) (h0 : 0 < t.size) (hc : ((t[0].toNat : Int) == 45) = true) (r1 : Bool) (r2 r3 : Int) (HR : Hid (rparseT true (scan (t.data.toList.drop 1) 0 0 false 0 false) = ((r1, r2), r3))) :
    Calls Tryd.prog 22 #[.string s] w fun e w' => e = .returned (.tuple #[.agg #[.bool r1, .int .i64 r2], .int .i64 r3]) ∧ Ext w w' := by
  go_enter Tryd.func22, Tryd.ntmps22
  go_wp2_with (go_at_call 85; refine (H0.out _).mono ?_; rintro e w' ⟨rfl, rfl⟩)
  go_loop [5, 7, 8, 9, 10, 11] (fun i v p b d o => ∃ (k : Nat) (v1 : Int) (p1 d1 : Nat) (b1 o1 : Bool), k ≤ t.size ∧ i = .int .i64 k ∧ v = .int .i64 v1 ∧ p = .int .i64 p1 ∧ b = .bool b1 ∧ d = .int .i64 d1 ∧ o = .bool o1 ∧ 0 ≤ v1 ∧ v1 ≤ 1000000000000000 ∧ p1 ≤ 6 ∧ d1 ≤ k ∧ Hid (rparseT true (scan (t.data.toList.drop k) v1 p1 b1 d1 o1) = ((r1, r2), r3))) (fun i _ _ _ _ _ => t.size - (intOf i).toNat)
  case atStart => exact ⟨1, 0, 0, 0, false, false, by omega, rfl, rfl, rfl, rfl, rfl, rfl, by decide, by decide, by decide, by decide, HR⟩
  case round =>
    obtain ⟨k, v, p, d, b, o, hk, rfl, rfl, rfl, rfl, rfl, rfl, hv0, hv1, hp, hd, HS⟩ := hrel
    by_cases hlt : k < t.size
    · have hsc := HS.out
      rw [scan_at t k hlt, scan] at hsc
      by_cases h46 : t[k] = 46 ∧ b = false
      · obtain ⟨hc, rfl⟩ := h46
        rw [if_pos ⟨hc, rfl⟩] at hsc
        have HS2 := Lib.hid hsc
        have e46 : ((t[k].toNat : Int) == 46) = true := by rw [hc]; rfl
        clear hsc hc HS
        go_wp2
        go_round
        case rel => exact ⟨k + 1, v, p, d, true, o, by omega, by go_num, rfl, rfl, rfl, rfl, rfl, hv0, hv1, hp, by omega, HS2⟩
        case measure => simp [intOf]; omega
      · rw [if_neg h46] at hsc
        by_cases hdg : isDig t[k] = false
        · rw [if_pos hdg] at hsc
          obtain ⟨⟨rfl, rfl⟩, rfl⟩ : (true = r1 ∧ 0 = r2) ∧ 0 = r3 := by simpa [rparseT, noneS] using hsc
          have hnd : (t[k].toNat : Int) < 48 ∨ (57 : Int) < (t[k].toNat : Int) := by unfold isDig at hdg; simp at hdg; omega
          clear hsc hdg HS
          cases b with
          | false =>
            have e46 := byte_ne46 t[k] (fun e => h46 ⟨e, rfl⟩)
            clear h46
            rcases hnd with hnd | hnd
            · have hnd1 := hnd
              go_wp2_with fail
              refine (rnone_any _).mono ?_
              rintro e w2 ⟨rfl, hB2⟩
              have hz2 := hB2.size
              simp at hz2
              have l2 : w.heap.size < w2.heap.size := by omega
              have c20 : w2.cell? ⟨w.heap.size, 0, none⟩ = some (.bool false) := hB2.keep (by simp) (by simp [go_sem])
              have c21 : w2.cell? ⟨w.heap.size, 1, none⟩ = some (.int .i64 0) := hB2.keep (by simp) (by simp [go_sem])
              have f20 : w2.frozen? ⟨w.heap.size, 0, none⟩ = false := hB2.free (by simp) (by simp [go_sem])
              have f21 : w2.frozen? ⟨w.heap.size, 1, none⟩ = false := hB2.free (by simp) (by simp [go_sem])
              go_wp2_with fail
              refine bodyPost_ret (v := .tuple #[.agg #[.bool true, .int .i64 0], .int .i64 0]) (by simp [results, Tryd.results22, go_sem, c20, c21]) rfl ⟨rfl, ?_⟩
              repeat (first | exact Ext.refl _ | refine Ext.set ?_ (by dsimp only; omega) _ | refine Ext.alloc ?_ _ | refine Ext.drew ?_ | refine (Ext.trans ?_ (by assumption)))
            · have hnd1 := hnd
              have hnd0 : ¬ (t[k].toNat : Int) < 48 := by omega
              go_wp2_with fail
              refine (rnone_any _).mono ?_
              rintro e w2 ⟨rfl, hB2⟩
              have hz2 := hB2.size
              simp at hz2
              have l2 : w.heap.size < w2.heap.size := by omega
              have c20 : w2.cell? ⟨w.heap.size, 0, none⟩ = some (.bool false) := hB2.keep (by simp) (by simp [go_sem])
              have c21 : w2.cell? ⟨w.heap.size, 1, none⟩ = some (.int .i64 0) := hB2.keep (by simp) (by simp [go_sem])
              have f20 : w2.frozen? ⟨w.heap.size, 0, none⟩ = false := hB2.free (by simp) (by simp [go_sem])
              have f21 : w2.frozen? ⟨w.heap.size, 1, none⟩ = false := hB2.free (by simp) (by simp [go_sem])
              go_wp2_with fail
              refine bodyPost_ret (v := .tuple #[.agg #[.bool true, .int .i64 0], .int .i64 0]) (by simp [results, Tryd.results22, go_sem, c20, c21]) rfl ⟨rfl, ?_⟩
              repeat (first | exact Ext.refl _ | refine Ext.set ?_ (by dsimp only; omega) _ | refine Ext.alloc ?_ _ | refine Ext.drew ?_ | refine (Ext.trans ?_ (by assumption)))
          | true =>
            clear h46
            by_cases e46 : ((t[k].toNat : Int) == 46) = true
            · rcases hnd with hnd | hnd
              · have hnd1 := hnd
                go_wp2_with fail
                refine (rnone_any _).mono ?_
                rintro e w2 ⟨rfl, hB2⟩
                have hz2 := hB2.size
                simp at hz2
                have l2 : w.heap.size < w2.heap.size := by omega
                have c20 : w2.cell? ⟨w.heap.size, 0, none⟩ = some (.bool false) := hB2.keep (by simp) (by simp [go_sem])
                have c21 : w2.cell? ⟨w.heap.size, 1, none⟩ = some (.int .i64 0) := hB2.keep (by simp) (by simp [go_sem])
                have f20 : w2.frozen? ⟨w.heap.size, 0, none⟩ = false := hB2.free (by simp) (by simp [go_sem])
                have f21 : w2.frozen? ⟨w.heap.size, 1, none⟩ = false := hB2.free (by simp) (by simp [go_sem])
                go_wp2_with fail
                refine bodyPost_ret (v := .tuple #[.agg #[.bool true, .int .i64 0], .int .i64 0]) (by simp [results, Tryd.results22, go_sem, c20, c21]) rfl ⟨rfl, ?_⟩
                repeat (first | exact Ext.refl _ | refine Ext.set ?_ (by dsimp only; omega) _ | refine Ext.alloc ?_ _ | refine Ext.drew ?_ | refine (Ext.trans ?_ (by assumption)))
              · have hnd1 := hnd
                have hnd0 : ¬ (t[k].toNat : Int) < 48 := by omega
                go_wp2_with fail
                refine (rnone_any _).mono ?_
                rintro e w2 ⟨rfl, hB2⟩
                have hz2 := hB2.size
                simp at hz2
                have l2 : w.heap.size < w2.heap.size := by omega
                have c20 : w2.cell? ⟨w.heap.size, 0, none⟩ = some (.bool false) := hB2.keep (by simp) (by simp [go_sem])
                have c21 : w2.cell? ⟨w.heap.size, 1, none⟩ = some (.int .i64 0) := hB2.keep (by simp) (by simp [go_sem])
                have f20 : w2.frozen? ⟨w.heap.size, 0, none⟩ = false := hB2.free (by simp) (by simp [go_sem])
                have f21 : w2.frozen? ⟨w.heap.size, 1, none⟩ = false := hB2.free (by simp) (by simp [go_sem])
                go_wp2_with fail
                refine bodyPost_ret (v := .tuple #[.agg #[.bool true, .int .i64 0], .int .i64 0]) (by simp [results, Tryd.results22, go_sem, c20, c21]) rfl ⟨rfl, ?_⟩
                repeat (first | exact Ext.refl _ | refine Ext.set ?_ (by dsimp only; omega) _ | refine Ext.alloc ?_ _ | refine Ext.drew ?_ | refine (Ext.trans ?_ (by assumption)))
            · have e46 : ((t[k].toNat : Int) == 46) = false := by simpa using e46
              rcases hnd with hnd | hnd
              · have hnd1 := hnd
                go_wp2_with fail
                refine (rnone_any _).mono ?_
                rintro e w2 ⟨rfl, hB2⟩
                have hz2 := hB2.size
                simp at hz2
                have l2 : w.heap.size < w2.heap.size := by omega
                have c20 : w2.cell? ⟨w.heap.size, 0, none⟩ = some (.bool false) := hB2.keep (by simp) (by simp [go_sem])
                have c21 : w2.cell? ⟨w.heap.size, 1, none⟩ = some (.int .i64 0) := hB2.keep (by simp) (by simp [go_sem])
                have f20 : w2.frozen? ⟨w.heap.size, 0, none⟩ = false := hB2.free (by simp) (by simp [go_sem])
                have f21 : w2.frozen? ⟨w.heap.size, 1, none⟩ = false := hB2.free (by simp) (by simp [go_sem])
                go_wp2_with fail
                refine bodyPost_ret (v := .tuple #[.agg #[.bool true, .int .i64 0], .int .i64 0]) (by simp [results, Tryd.results22, go_sem, c20, c21]) rfl ⟨rfl, ?_⟩
                repeat (first | exact Ext.refl _ | refine Ext.set ?_ (by dsimp only; omega) _ | refine Ext.alloc ?_ _ | refine Ext.drew ?_ | refine (Ext.trans ?_ (by assumption)))
              · have hnd1 := hnd
                have hnd0 : ¬ (t[k].toNat : Int) < 48 := by omega
                go_wp2_with fail
                refine (rnone_any _).mono ?_
                rintro e w2 ⟨rfl, hB2⟩
                have hz2 := hB2.size
                simp at hz2
                have l2 : w.heap.size < w2.heap.size := by omega
                have c20 : w2.cell? ⟨w.heap.size, 0, none⟩ = some (.bool false) := hB2.keep (by simp) (by simp [go_sem])
                have c21 : w2.cell? ⟨w.heap.size, 1, none⟩ = some (.int .i64 0) := hB2.keep (by simp) (by simp [go_sem])
                have f20 : w2.frozen? ⟨w.heap.size, 0, none⟩ = false := hB2.free (by simp) (by simp [go_sem])
                have f21 : w2.frozen? ⟨w.heap.size, 1, none⟩ = false := hB2.free (by simp) (by simp [go_sem])
                go_wp2_with fail
                refine bodyPost_ret (v := .tuple #[.agg #[.bool true, .int .i64 0], .int .i64 0]) (by simp [results, Tryd.results22, go_sem, c20, c21]) rfl ⟨rfl, ?_⟩
                repeat (first | exact Ext.refl _ | refine Ext.set ?_ (by dsimp only; omega) _ | refine Ext.alloc ?_ _ | refine Ext.drew ?_ | refine (Ext.trans ?_ (by assumption)))
        · rw [if_neg hdg] at hsc
          have hdig : (48 : Int) ≤ (t[k].toNat : Int) ∧ (t[k].toNat : Int) ≤ 57 := by unfold isDig at hdg; simp at hdg; omega
          obtain ⟨g1, g2⟩ := hdig
          have e46 : ((t[k].toNat : Int) == 46) = false := by rw [beq_eq_false_iff_ne]; intro e; have := g1; omega
          have gV := stepV_in t[k] hv0 hv1 (by simpa using hdg)
          clear hdg h46 HS
          by_cases h6 : b = true ∧ p = 6
          · obtain ⟨rfl, rfl⟩ := h6
            rw [if_pos ⟨rfl, rfl⟩] at hsc
            have HS2 := Lib.hid hsc
            clear hsc gV
            go_wp2
            go_round
            case rel => exact ⟨k + 1, v, 6, d + 1, true, o, by omega, by go_num, rfl, rfl, rfl, by go_num, rfl, hv0, hv1, by decide, by omega, HS2⟩
            case measure => simp [intOf]; omega
          · rw [if_neg h6] at hsc
            have HS2 := Lib.hid hsc
            clear hsc
            by_cases hb : 1000000000000000 < v * 10 + ((t[k].toNat : Int) - 48)
            · have HV : Hid (stepV v t[k] = 1000000000000000) := by refine Lib.hid ?_; rw [stepV, if_pos hb]
              have HO : Hid (stepO v t[k] o = true) := by refine Lib.hid ?_; rw [stepO, if_pos hb]
              rw [HV.out, HO.out] at HS2
              rw [HV.out] at gV
              cases b with
              | false =>
                clear h6
                go_wp2
                go_round
                case rel => exact ⟨k + 1, _, p, d + 1, false, _, by omega, by go_num, rfl, rfl, rfl, by go_num, rfl, gV.1, gV.2, hp, by omega, HS2⟩
                case measure => simp [intOf]; omega
              | true =>
                have hp6 : p < 6 := by rcases Nat.lt_or_eq_of_le hp with h | h; exact h; exact absurd ⟨rfl, h⟩ h6
                have ep6 : ((p : Int) == 6) = false := by rw [beq_eq_false_iff_ne]; omega
                clear h6
                go_wp2
                go_round
                case rel => exact ⟨k + 1, _, p + 1, d + 1, true, _, by omega, by go_num, rfl, by go_num, rfl, by go_num, rfl, gV.1, gV.2, by omega, by omega, HS2⟩
                case measure => simp [intOf]; omega
            · have HV : Hid (stepV v t[k] = v * 10 + ((t[k].toNat : Int) - 48)) := by refine Lib.hid ?_; rw [stepV, if_neg hb]
              have HO : Hid (stepO v t[k] o = o) := by refine Lib.hid ?_; rw [stepO, if_neg hb]
              rw [HV.out, HO.out] at HS2
              rw [HV.out] at gV
              have hb2 : v * 10 + ((t[k].toNat : Int) - 48) ≤ 1000000000000000 := by omega
              cases b with
              | false =>
                clear h6
                go_wp2
                go_round
                case rel => exact ⟨k + 1, _, p, d + 1, false, _, by omega, by go_num, rfl, rfl, rfl, by go_num, rfl, gV.1, gV.2, hp, by omega, HS2⟩
                case measure => simp [intOf]; omega
              | true =>
                have hp6 : p < 6 := by rcases Nat.lt_or_eq_of_le hp with h | h; exact h; exact absurd ⟨rfl, h⟩ h6
                have ep6 : ((p : Int) == 6) = false := by rw [beq_eq_false_iff_ne]; omega
                clear h6
                go_wp2
                go_round
                case rel => exact ⟨k + 1, _, p + 1, d + 1, true, _, by omega, by go_num, rfl, by go_num, rfl, by go_num, rfl, gV.1, gV.2, by omega, by omega, HS2⟩
                case measure => simp [intOf]; omega
    · have hke : k = t.size := by omega
      have hsc := HS.out
      rw [hke, scan_end, scan, rparseT] at hsc
      clear HS hke
      by_cases hd0 : d = 0
      · rw [if_pos hd0] at hsc
        obtain ⟨⟨rfl, rfl⟩, rfl⟩ : (true = r1 ∧ 0 = r2) ∧ 0 = r3 := by simpa [noneS] using hsc
        subst hd0
        clear hsc
        go_wp2_with fail
        refine (rnone_any _).mono ?_
        rintro e w2 ⟨rfl, hB2⟩
        have hz2 := hB2.size
        simp at hz2
        have l2 : w.heap.size < w2.heap.size := by omega
        have c20 : w2.cell? ⟨w.heap.size, 0, none⟩ = some (.bool false) := hB2.keep (by simp) (by simp [go_sem])
        have c21 : w2.cell? ⟨w.heap.size, 1, none⟩ = some (.int .i64 0) := hB2.keep (by simp) (by simp [go_sem])
        have f20 : w2.frozen? ⟨w.heap.size, 0, none⟩ = false := hB2.free (by simp) (by simp [go_sem])
        have f21 : w2.frozen? ⟨w.heap.size, 1, none⟩ = false := hB2.free (by simp) (by simp [go_sem])
        go_wp2_with fail
        refine bodyPost_ret (v := .tuple #[.agg #[.bool true, .int .i64 0], .int .i64 0]) (by simp [results, Tryd.results22, go_sem, c20, c21]) rfl ⟨rfl, ?_⟩
        repeat (first | exact Ext.refl _ | refine Ext.set ?_ (by dsimp only; omega) _ | refine Ext.alloc ?_ _ | refine Ext.drew ?_ | refine (Ext.trans ?_ (by assumption)))
      · rw [if_neg hd0] at hsc
        have HS2 := Lib.hid hsc
        have ed0 : ((d : Int) == 0) = false := by rw [beq_eq_false_iff_ne]; omega
        clear hsc hd0
        go_wp2
        go_loop [7, 8, 11] (fun v p o => ∃ (v1 : Int) (p1 : Nat) (o1 : Bool), v = .int .i64 v1 ∧ p = .int .i64 p1 ∧ o = .bool o1 ∧ 0 ≤ v1 ∧ v1 ≤ 1000000000000000 ∧ p1 ≤ 6 ∧ Hid (endS true (fillS (6 - p1) v1 o1).1 (fillS (6 - p1) v1 o1).2 = ((r1, r2), r3))) (fun _ p _ => 6 - (intOf p).toNat)
        case atStart => exact ⟨v, p, o, rfl, rfl, rfl, hv0, hv1, hp, HS2⟩
        case round =>
          obtain ⟨x, q, o2, rfl, rfl, rfl, hx0, hx1, hq, HF⟩ := hrel
          by_cases hq6 : q < 6
          · have hf := HF.out
            rw [show 6 - q = (6 - (q + 1)) + 1 by omega, fillS] at hf
            clear HF
            by_cases hb : 1000000000000000 < x * 10
            · rw [if_pos hb] at hf
              have HF2 := Lib.hid hf
              clear hf
              go_wp2
              go_round
              case rel => exact ⟨_, q + 1, true, rfl, by go_num, rfl, by decide, by decide, by omega, HF2⟩
              case measure => simp [intOf]; omega
            · rw [if_neg hb] at hf
              have HF2 := Lib.hid hf
              clear hf
              go_wp2
              go_round
              case rel => exact ⟨_, q + 1, o2, rfl, by go_num, rfl, by omega, by omega, by omega, HF2⟩
              case measure => simp [intOf]; omega
          · have hq7 : q = 6 := by omega
            have hf := HF.out
            rw [hq7, Nat.sub_self, fillS] at hf
            clear HF hq7
            cases o2 with
            | true =>
              obtain ⟨⟨rfl, rfl⟩, rfl⟩ : (false = r1 ∧ 0 = r2) ∧ 66 = r3 := by simpa [endS] using hf
              clear hf
              go_wp2_with fail
              refine bodyPost_ret (v := .tuple #[.agg #[.bool false, .int .i64 0], .int .i64 66]) (by simp [results, Tryd.results22, go_sem]) rfl ⟨rfl, ?_⟩
              repeat (first | exact Ext.refl _ | refine Ext.set ?_ (by dsimp only; omega) _ | refine Ext.alloc ?_ _ | refine Ext.drew ?_ | refine (Ext.trans ?_ (by assumption)))
            | false =>
              obtain ⟨⟨rfl, rfl⟩, rfl⟩ : (false = r1 ∧ -x = r2) ∧ 0 = r3 := by simpa [endS] using hf
              clear hf
              go_wp2_with fail
              refine bodyPost_ret (v := .tuple #[.agg #[.bool false, .int .i64 (-x)], .int .i64 0]) (by simp [results, Tryd.results22, go_sem]) rfl ⟨rfl, ?_⟩
              repeat (first | exact Ext.refl _ | refine Ext.set ?_ (by dsimp only; omega) _ | refine Ext.alloc ?_ _ | refine Ext.drew ?_ | refine (Ext.trans ?_ (by assumption)))
set_option maxHeartbeats 4000000 in
theorem rparse_empty (s t : ByteArray) (w : World) (hs : t.size ≤ 4294967296) (H0 : Hid (∀ w, Calls Tryd.prog 85 #[.string s] w fun e w' => e = .returned (.string t) ∧ w = w')) (h0 : ¬ 0 < t.size) (r1 : Bool) (r2 r3 : Int) (HR : Hid (rparseT false (scan (t.data.toList.drop 0) 0 0 false 0 false) = ((r1, r2), r3))) :
    Calls Tryd.prog 22 #[.string s] w fun e w' => e = .returned (.tuple #[.agg #[.bool r1, .int .i64 r2], .int .i64 r3]) ∧ Ext w w' := by
  go_enter Tryd.func22, Tryd.ntmps22
  go_wp2_with (go_at_call 85; refine (H0.out _).mono ?_; rintro e w' ⟨rfl, rfl⟩)
  go_loop [5, 7, 8, 9, 10, 11] (fun i v p b d o => ∃ (k : Nat) (v1 : Int) (p1 d1 : Nat) (b1 o1 : Bool), k ≤ t.size ∧ i = .int .i64 k ∧ v = .int .i64 v1 ∧ p = .int .i64 p1 ∧ b = .bool b1 ∧ d = .int .i64 d1 ∧ o = .bool o1 ∧ 0 ≤ v1 ∧ v1 ≤ 1000000000000000 ∧ p1 ≤ 6 ∧ d1 ≤ k ∧ Hid (rparseT false (scan (t.data.toList.drop k) v1 p1 b1 d1 o1) = ((r1, r2), r3))) (fun i _ _ _ _ _ => t.size - (intOf i).toNat)
  case atStart => exact ⟨0, 0, 0, 0, false, false, by omega, rfl, rfl, rfl, rfl, rfl, rfl, by decide, by decide, by decide, by decide, HR⟩
  case round =>
    obtain ⟨k, v, p, d, b, o, hk, rfl, rfl, rfl, rfl, rfl, rfl, hv0, hv1, hp, hd, HS⟩ := hrel
    by_cases hlt : k < t.size
    · exact absurd hlt (by omega)
    · have hke : k = t.size := by omega
      have hsc := HS.out
      rw [hke, scan_end, scan, rparseT] at hsc
      clear HS hke
      by_cases hd0 : d = 0
      · rw [if_pos hd0] at hsc
        obtain ⟨⟨rfl, rfl⟩, rfl⟩ : (true = r1 ∧ 0 = r2) ∧ 0 = r3 := by simpa [noneS] using hsc
        subst hd0
        clear hsc
        go_wp2_with fail
        refine (rnone_any _).mono ?_
        rintro e w2 ⟨rfl, hB2⟩
        have hz2 := hB2.size
        simp at hz2
        have l2 : w.heap.size < w2.heap.size := by omega
        have c20 : w2.cell? ⟨w.heap.size, 0, none⟩ = some (.bool false) := hB2.keep (by simp) (by simp [go_sem])
        have c21 : w2.cell? ⟨w.heap.size, 1, none⟩ = some (.int .i64 0) := hB2.keep (by simp) (by simp [go_sem])
        have f20 : w2.frozen? ⟨w.heap.size, 0, none⟩ = false := hB2.free (by simp) (by simp [go_sem])
        have f21 : w2.frozen? ⟨w.heap.size, 1, none⟩ = false := hB2.free (by simp) (by simp [go_sem])
        go_wp2_with fail
        refine bodyPost_ret (v := .tuple #[.agg #[.bool true, .int .i64 0], .int .i64 0]) (by simp [results, Tryd.results22, go_sem, c20, c21]) rfl ⟨rfl, ?_⟩
        repeat (first | exact Ext.refl _ | refine Ext.set ?_ (by dsimp only; omega) _ | refine Ext.alloc ?_ _ | refine Ext.drew ?_ | refine (Ext.trans ?_ (by assumption)))
      · rw [if_neg hd0] at hsc
        have HS2 := Lib.hid hsc
        have ed0 : ((d : Int) == 0) = false := by rw [beq_eq_false_iff_ne]; omega
        clear hsc hd0
        go_wp2
        go_loop [7, 8, 11] (fun v p o => ∃ (v1 : Int) (p1 : Nat) (o1 : Bool), v = .int .i64 v1 ∧ p = .int .i64 p1 ∧ o = .bool o1 ∧ 0 ≤ v1 ∧ v1 ≤ 1000000000000000 ∧ p1 ≤ 6 ∧ Hid (endS false (fillS (6 - p1) v1 o1).1 (fillS (6 - p1) v1 o1).2 = ((r1, r2), r3))) (fun _ p _ => 6 - (intOf p).toNat)
        case atStart => exact ⟨v, p, o, rfl, rfl, rfl, hv0, hv1, hp, HS2⟩
        case round =>
          obtain ⟨x, q, o2, rfl, rfl, rfl, hx0, hx1, hq, HF⟩ := hrel
          by_cases hq6 : q < 6
          · have hf := HF.out
            rw [show 6 - q = (6 - (q + 1)) + 1 by omega, fillS] at hf
            clear HF
            by_cases hb : 1000000000000000 < x * 10
            · rw [if_pos hb] at hf
              have HF2 := Lib.hid hf
              clear hf
              go_wp2
              go_round
              case rel => exact ⟨_, q + 1, true, rfl, by go_num, rfl, by decide, by decide, by omega, HF2⟩
              case measure => simp [intOf]; omega
            · rw [if_neg hb] at hf
              have HF2 := Lib.hid hf
              clear hf
              go_wp2
              go_round
              case rel => exact ⟨_, q + 1, o2, rfl, by go_num, rfl, by omega, by omega, by omega, HF2⟩
              case measure => simp [intOf]; omega
          · have hq7 : q = 6 := by omega
            have hf := HF.out
            rw [hq7, Nat.sub_self, fillS] at hf
            clear HF hq7
            cases o2 with
            | true =>
              obtain ⟨⟨rfl, rfl⟩, rfl⟩ : (false = r1 ∧ 0 = r2) ∧ 66 = r3 := by simpa [endS] using hf
              clear hf
              go_wp2_with fail
              refine bodyPost_ret (v := .tuple #[.agg #[.bool false, .int .i64 0], .int .i64 66]) (by simp [results, Tryd.results22, go_sem]) rfl ⟨rfl, ?_⟩
              repeat (first | exact Ext.refl _ | refine Ext.set ?_ (by dsimp only; omega) _ | refine Ext.alloc ?_ _ | refine Ext.drew ?_ | refine (Ext.trans ?_ (by assumption)))
            | false =>
              obtain ⟨⟨rfl, rfl⟩, rfl⟩ : (false = r1 ∧ x = r2) ∧ 0 = r3 := by simpa [endS] using hf
              clear hf
              go_wp2_with fail
              refine bodyPost_ret (v := .tuple #[.agg #[.bool false, .int .i64 (x)], .int .i64 0]) (by simp [results, Tryd.results22, go_sem]) rfl ⟨rfl, ?_⟩
              repeat (first | exact Ext.refl _ | refine Ext.set ?_ (by dsimp only; omega) _ | refine Ext.alloc ?_ _ | refine Ext.drew ?_ | refine (Ext.trans ?_ (by assumption)))
set_option maxHeartbeats 4000000 in
theorem rparse_plain (s t : ByteArray) (w : World) (hs : t.size ≤ 4294967296) (H0 : Hid (∀ w, Calls Tryd.prog 85 #[.string s] w fun e w' => e = .returned (.string t) ∧ w = w')) (h0 : 0 < t.size) (hc : ((t[0].toNat : Int) == 45) = false) (r1 : Bool) (r2 r3 : Int) (HR : Hid (rparseT false (scan (t.data.toList.drop 0) 0 0 false 0 false) = ((r1, r2), r3))) :
    Calls Tryd.prog 22 #[.string s] w fun e w' => e = .returned (.tuple #[.agg #[.bool r1, .int .i64 r2], .int .i64 r3]) ∧ Ext w w' := by
  go_enter Tryd.func22, Tryd.ntmps22
  go_wp2_with (go_at_call 85; refine (H0.out _).mono ?_; rintro e w' ⟨rfl, rfl⟩)
  go_loop [5, 7, 8, 9, 10, 11] (fun i v p b d o => ∃ (k : Nat) (v1 : Int) (p1 d1 : Nat) (b1 o1 : Bool), k ≤ t.size ∧ i = .int .i64 k ∧ v = .int .i64 v1 ∧ p = .int .i64 p1 ∧ b = .bool b1 ∧ d = .int .i64 d1 ∧ o = .bool o1 ∧ 0 ≤ v1 ∧ v1 ≤ 1000000000000000 ∧ p1 ≤ 6 ∧ d1 ≤ k ∧ Hid (rparseT false (scan (t.data.toList.drop k) v1 p1 b1 d1 o1) = ((r1, r2), r3))) (fun i _ _ _ _ _ => t.size - (intOf i).toNat)
  case atStart => exact ⟨0, 0, 0, 0, false, false, by omega, rfl, rfl, rfl, rfl, rfl, rfl, by decide, by decide, by decide, by decide, HR⟩
  case round =>
    obtain ⟨k, v, p, d, b, o, hk, rfl, rfl, rfl, rfl, rfl, rfl, hv0, hv1, hp, hd, HS⟩ := hrel
    by_cases hlt : k < t.size
    · have hsc := HS.out
      rw [scan_at t k hlt, scan] at hsc
      by_cases h46 : t[k] = 46 ∧ b = false
      · obtain ⟨hc, rfl⟩ := h46
        rw [if_pos ⟨hc, rfl⟩] at hsc
        have HS2 := Lib.hid hsc
        have e46 : ((t[k].toNat : Int) == 46) = true := by rw [hc]; rfl
        clear hsc hc HS
        go_wp2
        go_round
        case rel => exact ⟨k + 1, v, p, d, true, o, by omega, by go_num, rfl, rfl, rfl, rfl, rfl, hv0, hv1, hp, by omega, HS2⟩
        case measure => simp [intOf]; omega
      · rw [if_neg h46] at hsc
        by_cases hdg : isDig t[k] = false
        · rw [if_pos hdg] at hsc
          obtain ⟨⟨rfl, rfl⟩, rfl⟩ : (true = r1 ∧ 0 = r2) ∧ 0 = r3 := by simpa [rparseT, noneS] using hsc
          have hnd : (t[k].toNat : Int) < 48 ∨ (57 : Int) < (t[k].toNat : Int) := by unfold isDig at hdg; simp at hdg; omega
          clear hsc hdg HS
          cases b with
          | false =>
            have e46 := byte_ne46 t[k] (fun e => h46 ⟨e, rfl⟩)
            clear h46
            rcases hnd with hnd | hnd
            · have hnd1 := hnd
              go_wp2_with fail
              refine (rnone_any _).mono ?_
              rintro e w2 ⟨rfl, hB2⟩
              have hz2 := hB2.size
              simp at hz2
              have l2 : w.heap.size < w2.heap.size := by omega
              have c20 : w2.cell? ⟨w.heap.size, 0, none⟩ = some (.bool false) := hB2.keep (by simp) (by simp [go_sem])
              have c21 : w2.cell? ⟨w.heap.size, 1, none⟩ = some (.int .i64 0) := hB2.keep (by simp) (by simp [go_sem])
              have f20 : w2.frozen? ⟨w.heap.size, 0, none⟩ = false := hB2.free (by simp) (by simp [go_sem])
              have f21 : w2.frozen? ⟨w.heap.size, 1, none⟩ = false := hB2.free (by simp) (by simp [go_sem])
              go_wp2_with fail
              refine bodyPost_ret (v := .tuple #[.agg #[.bool true, .int .i64 0], .int .i64 0]) (by simp [results, Tryd.results22, go_sem, c20, c21]) rfl ⟨rfl, ?_⟩
              repeat (first | exact Ext.refl _ | refine Ext.set ?_ (by dsimp only; omega) _ | refine Ext.alloc ?_ _ | refine Ext.drew ?_ | refine (Ext.trans ?_ (by assumption)))
            · have hnd1 := hnd
              have hnd0 : ¬ (t[k].toNat : Int) < 48 := by omega
              go_wp2_with fail
              refine (rnone_any _).mono ?_
              rintro e w2 ⟨rfl, hB2⟩
              have hz2 := hB2.size
              simp at hz2
              have l2 : w.heap.size < w2.heap.size := by omega
              have c20 : w2.cell? ⟨w.heap.size, 0, none⟩ = some (.bool false) := hB2.keep (by simp) (by simp [go_sem])
              have c21 : w2.cell? ⟨w.heap.size, 1, none⟩ = some (.int .i64 0) := hB2.keep (by simp) (by simp [go_sem])
              have f20 : w2.frozen? ⟨w.heap.size, 0, none⟩ = false := hB2.free (by simp) (by simp [go_sem])
              have f21 : w2.frozen? ⟨w.heap.size, 1, none⟩ = false := hB2.free (by simp) (by simp [go_sem])
              go_wp2_with fail
              refine bodyPost_ret (v := .tuple #[.agg #[.bool true, .int .i64 0], .int .i64 0]) (by simp [results, Tryd.results22, go_sem, c20, c21]) rfl ⟨rfl, ?_⟩
              repeat (first | exact Ext.refl _ | refine Ext.set ?_ (by dsimp only; omega) _ | refine Ext.alloc ?_ _ | refine Ext.drew ?_ | refine (Ext.trans ?_ (by assumption)))
          | true =>
            clear h46
            by_cases e46 : ((t[k].toNat : Int) == 46) = true
            · rcases hnd with hnd | hnd
              · have hnd1 := hnd
                go_wp2_with fail
                refine (rnone_any _).mono ?_
                rintro e w2 ⟨rfl, hB2⟩
                have hz2 := hB2.size
                simp at hz2
                have l2 : w.heap.size < w2.heap.size := by omega
                have c20 : w2.cell? ⟨w.heap.size, 0, none⟩ = some (.bool false) := hB2.keep (by simp) (by simp [go_sem])
                have c21 : w2.cell? ⟨w.heap.size, 1, none⟩ = some (.int .i64 0) := hB2.keep (by simp) (by simp [go_sem])
                have f20 : w2.frozen? ⟨w.heap.size, 0, none⟩ = false := hB2.free (by simp) (by simp [go_sem])
                have f21 : w2.frozen? ⟨w.heap.size, 1, none⟩ = false := hB2.free (by simp) (by simp [go_sem])
                go_wp2_with fail
                refine bodyPost_ret (v := .tuple #[.agg #[.bool true, .int .i64 0], .int .i64 0]) (by simp [results, Tryd.results22, go_sem, c20, c21]) rfl ⟨rfl, ?_⟩
                repeat (first | exact Ext.refl _ | refine Ext.set ?_ (by dsimp only; omega) _ | refine Ext.alloc ?_ _ | refine Ext.drew ?_ | refine (Ext.trans ?_ (by assumption)))
              · have hnd1 := hnd
                have hnd0 : ¬ (t[k].toNat : Int) < 48 := by omega
                go_wp2_with fail
                refine (rnone_any _).mono ?_
                rintro e w2 ⟨rfl, hB2⟩
                have hz2 := hB2.size
                simp at hz2
                have l2 : w.heap.size < w2.heap.size := by omega
                have c20 : w2.cell? ⟨w.heap.size, 0, none⟩ = some (.bool false) := hB2.keep (by simp) (by simp [go_sem])
                have c21 : w2.cell? ⟨w.heap.size, 1, none⟩ = some (.int .i64 0) := hB2.keep (by simp) (by simp [go_sem])
                have f20 : w2.frozen? ⟨w.heap.size, 0, none⟩ = false := hB2.free (by simp) (by simp [go_sem])
                have f21 : w2.frozen? ⟨w.heap.size, 1, none⟩ = false := hB2.free (by simp) (by simp [go_sem])
                go_wp2_with fail
                refine bodyPost_ret (v := .tuple #[.agg #[.bool true, .int .i64 0], .int .i64 0]) (by simp [results, Tryd.results22, go_sem, c20, c21]) rfl ⟨rfl, ?_⟩
                repeat (first | exact Ext.refl _ | refine Ext.set ?_ (by dsimp only; omega) _ | refine Ext.alloc ?_ _ | refine Ext.drew ?_ | refine (Ext.trans ?_ (by assumption)))
            · have e46 : ((t[k].toNat : Int) == 46) = false := by simpa using e46
              rcases hnd with hnd | hnd
              · have hnd1 := hnd
                go_wp2_with fail
                refine (rnone_any _).mono ?_
                rintro e w2 ⟨rfl, hB2⟩
                have hz2 := hB2.size
                simp at hz2
                have l2 : w.heap.size < w2.heap.size := by omega
                have c20 : w2.cell? ⟨w.heap.size, 0, none⟩ = some (.bool false) := hB2.keep (by simp) (by simp [go_sem])
                have c21 : w2.cell? ⟨w.heap.size, 1, none⟩ = some (.int .i64 0) := hB2.keep (by simp) (by simp [go_sem])
                have f20 : w2.frozen? ⟨w.heap.size, 0, none⟩ = false := hB2.free (by simp) (by simp [go_sem])
                have f21 : w2.frozen? ⟨w.heap.size, 1, none⟩ = false := hB2.free (by simp) (by simp [go_sem])
                go_wp2_with fail
                refine bodyPost_ret (v := .tuple #[.agg #[.bool true, .int .i64 0], .int .i64 0]) (by simp [results, Tryd.results22, go_sem, c20, c21]) rfl ⟨rfl, ?_⟩
                repeat (first | exact Ext.refl _ | refine Ext.set ?_ (by dsimp only; omega) _ | refine Ext.alloc ?_ _ | refine Ext.drew ?_ | refine (Ext.trans ?_ (by assumption)))
              · have hnd1 := hnd
                have hnd0 : ¬ (t[k].toNat : Int) < 48 := by omega
                go_wp2_with fail
                refine (rnone_any _).mono ?_
                rintro e w2 ⟨rfl, hB2⟩
                have hz2 := hB2.size
                simp at hz2
                have l2 : w.heap.size < w2.heap.size := by omega
                have c20 : w2.cell? ⟨w.heap.size, 0, none⟩ = some (.bool false) := hB2.keep (by simp) (by simp [go_sem])
                have c21 : w2.cell? ⟨w.heap.size, 1, none⟩ = some (.int .i64 0) := hB2.keep (by simp) (by simp [go_sem])
                have f20 : w2.frozen? ⟨w.heap.size, 0, none⟩ = false := hB2.free (by simp) (by simp [go_sem])
                have f21 : w2.frozen? ⟨w.heap.size, 1, none⟩ = false := hB2.free (by simp) (by simp [go_sem])
                go_wp2_with fail
                refine bodyPost_ret (v := .tuple #[.agg #[.bool true, .int .i64 0], .int .i64 0]) (by simp [results, Tryd.results22, go_sem, c20, c21]) rfl ⟨rfl, ?_⟩
                repeat (first | exact Ext.refl _ | refine Ext.set ?_ (by dsimp only; omega) _ | refine Ext.alloc ?_ _ | refine Ext.drew ?_ | refine (Ext.trans ?_ (by assumption)))
        · rw [if_neg hdg] at hsc
          have hdig : (48 : Int) ≤ (t[k].toNat : Int) ∧ (t[k].toNat : Int) ≤ 57 := by unfold isDig at hdg; simp at hdg; omega
          obtain ⟨g1, g2⟩ := hdig
          have e46 : ((t[k].toNat : Int) == 46) = false := by rw [beq_eq_false_iff_ne]; intro e; have := g1; omega
          have gV := stepV_in t[k] hv0 hv1 (by simpa using hdg)
          clear hdg h46 HS
          by_cases h6 : b = true ∧ p = 6
          · obtain ⟨rfl, rfl⟩ := h6
            rw [if_pos ⟨rfl, rfl⟩] at hsc
            have HS2 := Lib.hid hsc
            clear hsc gV
            go_wp2
            go_round
            case rel => exact ⟨k + 1, v, 6, d + 1, true, o, by omega, by go_num, rfl, rfl, rfl, by go_num, rfl, hv0, hv1, by decide, by omega, HS2⟩
            case measure => simp [intOf]; omega
          · rw [if_neg h6] at hsc
            have HS2 := Lib.hid hsc
            clear hsc
            by_cases hb : 1000000000000000 < v * 10 + ((t[k].toNat : Int) - 48)
            · have HV : Hid (stepV v t[k] = 1000000000000000) := by refine Lib.hid ?_; rw [stepV, if_pos hb]
              have HO : Hid (stepO v t[k] o = true) := by refine Lib.hid ?_; rw [stepO, if_pos hb]
              rw [HV.out, HO.out] at HS2
              rw [HV.out] at gV
              cases b with
              | false =>
                clear h6
                go_wp2
                go_round
                case rel => exact ⟨k + 1, _, p, d + 1, false, _, by omega, by go_num, rfl, rfl, rfl, by go_num, rfl, gV.1, gV.2, hp, by omega, HS2⟩
                case measure => simp [intOf]; omega
              | true =>
                have hp6 : p < 6 := by rcases Nat.lt_or_eq_of_le hp with h | h; exact h; exact absurd ⟨rfl, h⟩ h6
                have ep6 : ((p : Int) == 6) = false := by rw [beq_eq_false_iff_ne]; omega
                clear h6
                go_wp2
                go_round
                case rel => exact ⟨k + 1, _, p + 1, d + 1, true, _, by omega, by go_num, rfl, by go_num, rfl, by go_num, rfl, gV.1, gV.2, by omega, by omega, HS2⟩
                case measure => simp [intOf]; omega
            · have HV : Hid (stepV v t[k] = v * 10 + ((t[k].toNat : Int) - 48)) := by refine Lib.hid ?_; rw [stepV, if_neg hb]
              have HO : Hid (stepO v t[k] o = o) := by refine Lib.hid ?_; rw [stepO, if_neg hb]
              rw [HV.out, HO.out] at HS2
              rw [HV.out] at gV
              have hb2 : v * 10 + ((t[k].toNat : Int) - 48) ≤ 1000000000000000 := by omega
              cases b with
              | false =>
                clear h6
                go_wp2
                go_round
                case rel => exact ⟨k + 1, _, p, d + 1, false, _, by omega, by go_num, rfl, rfl, rfl, by go_num, rfl, gV.1, gV.2, hp, by omega, HS2⟩
                case measure => simp [intOf]; omega
              | true =>
                have hp6 : p < 6 := by rcases Nat.lt_or_eq_of_le hp with h | h; exact h; exact absurd ⟨rfl, h⟩ h6
                have ep6 : ((p : Int) == 6) = false := by rw [beq_eq_false_iff_ne]; omega
                clear h6
                go_wp2
                go_round
                case rel => exact ⟨k + 1, _, p + 1, d + 1, true, _, by omega, by go_num, rfl, by go_num, rfl, by go_num, rfl, gV.1, gV.2, by omega, by omega, HS2⟩
                case measure => simp [intOf]; omega
    · have hke : k = t.size := by omega
      have hsc := HS.out
      rw [hke, scan_end, scan, rparseT] at hsc
      clear HS hke
      by_cases hd0 : d = 0
      · rw [if_pos hd0] at hsc
        obtain ⟨⟨rfl, rfl⟩, rfl⟩ : (true = r1 ∧ 0 = r2) ∧ 0 = r3 := by simpa [noneS] using hsc
        subst hd0
        clear hsc
        go_wp2_with fail
        refine (rnone_any _).mono ?_
        rintro e w2 ⟨rfl, hB2⟩
        have hz2 := hB2.size
        simp at hz2
        have l2 : w.heap.size < w2.heap.size := by omega
        have c20 : w2.cell? ⟨w.heap.size, 0, none⟩ = some (.bool false) := hB2.keep (by simp) (by simp [go_sem])
        have c21 : w2.cell? ⟨w.heap.size, 1, none⟩ = some (.int .i64 0) := hB2.keep (by simp) (by simp [go_sem])
        have f20 : w2.frozen? ⟨w.heap.size, 0, none⟩ = false := hB2.free (by simp) (by simp [go_sem])
        have f21 : w2.frozen? ⟨w.heap.size, 1, none⟩ = false := hB2.free (by simp) (by simp [go_sem])
        go_wp2_with fail
        refine bodyPost_ret (v := .tuple #[.agg #[.bool true, .int .i64 0], .int .i64 0]) (by simp [results, Tryd.results22, go_sem, c20, c21]) rfl ⟨rfl, ?_⟩
        repeat (first | exact Ext.refl _ | refine Ext.set ?_ (by dsimp only; omega) _ | refine Ext.alloc ?_ _ | refine Ext.drew ?_ | refine (Ext.trans ?_ (by assumption)))
      · rw [if_neg hd0] at hsc
        have HS2 := Lib.hid hsc
        have ed0 : ((d : Int) == 0) = false := by rw [beq_eq_false_iff_ne]; omega
        clear hsc hd0
        go_wp2
        go_loop [7, 8, 11] (fun v p o => ∃ (v1 : Int) (p1 : Nat) (o1 : Bool), v = .int .i64 v1 ∧ p = .int .i64 p1 ∧ o = .bool o1 ∧ 0 ≤ v1 ∧ v1 ≤ 1000000000000000 ∧ p1 ≤ 6 ∧ Hid (endS false (fillS (6 - p1) v1 o1).1 (fillS (6 - p1) v1 o1).2 = ((r1, r2), r3))) (fun _ p _ => 6 - (intOf p).toNat)
        case atStart => exact ⟨v, p, o, rfl, rfl, rfl, hv0, hv1, hp, HS2⟩
        case round =>
          obtain ⟨x, q, o2, rfl, rfl, rfl, hx0, hx1, hq, HF⟩ := hrel
          by_cases hq6 : q < 6
          · have hf := HF.out
            rw [show 6 - q = (6 - (q + 1)) + 1 by omega, fillS] at hf
            clear HF
            by_cases hb : 1000000000000000 < x * 10
            · rw [if_pos hb] at hf
              have HF2 := Lib.hid hf
              clear hf
              go_wp2
              go_round
              case rel => exact ⟨_, q + 1, true, rfl, by go_num, rfl, by decide, by decide, by omega, HF2⟩
              case measure => simp [intOf]; omega
            · rw [if_neg hb] at hf
              have HF2 := Lib.hid hf
              clear hf
              go_wp2
              go_round
              case rel => exact ⟨_, q + 1, o2, rfl, by go_num, rfl, by omega, by omega, by omega, HF2⟩
              case measure => simp [intOf]; omega
          · have hq7 : q = 6 := by omega
            have hf := HF.out
            rw [hq7, Nat.sub_self, fillS] at hf
            clear HF hq7
            cases o2 with
            | true =>
              obtain ⟨⟨rfl, rfl⟩, rfl⟩ : (false = r1 ∧ 0 = r2) ∧ 66 = r3 := by simpa [endS] using hf
              clear hf
              go_wp2_with fail
              refine bodyPost_ret (v := .tuple #[.agg #[.bool false, .int .i64 0], .int .i64 66]) (by simp [results, Tryd.results22, go_sem]) rfl ⟨rfl, ?_⟩
              repeat (first | exact Ext.refl _ | refine Ext.set ?_ (by dsimp only; omega) _ | refine Ext.alloc ?_ _ | refine Ext.drew ?_ | refine (Ext.trans ?_ (by assumption)))
            | false =>
              obtain ⟨⟨rfl, rfl⟩, rfl⟩ : (false = r1 ∧ x = r2) ∧ 0 = r3 := by simpa [endS] using hf
              clear hf
              go_wp2_with fail
              refine bodyPost_ret (v := .tuple #[.agg #[.bool false, .int .i64 (x)], .int .i64 0]) (by simp [results, Tryd.results22, go_sem]) rfl ⟨rfl, ?_⟩
              repeat (first | exact Ext.refl _ | refine Ext.set ?_ (by dsimp only; omega) _ | refine Ext.alloc ?_ _ | refine Ext.drew ?_ | refine (Ext.trans ?_ (by assumption)))
theorem rparse_any (s : ByteArray) (w : World) (hs : s.size ≤ 4294967280) :
    Calls Tryd.prog 22 #[.string s] w fun e w' => e = .returned (.tuple #[.agg #[.bool (parseS s.data.toList).1.1, .int .i64 (parseS s.data.toList).1.2], .int .i64 (parseS s.data.toList).2]) ∧ Ext w w' := by
  rw [← rparse_eq]
  unfold rparseS
  have H0 : Hid (∀ w, Calls Tryd.prog 85 #[.string s] w fun e w' => e = .returned (.string (bs (Lib.trimS s.data.toList [9, 10, 13, 32]))) ∧ w = w') := fun w => rtrim_any s w (by omega)
  have hl := trimS_len s.data.toList [9, 10, 13, 32]
  generalize Lib.trimS s.data.toList [9, 10, 13, 32] = l at H0 hl ⊢
  rw [str_len] at hl
  have hsz : (bs l).size = l.length := bs_size l
  have hbl : (bs l).data.toList = l := rfl
  cases l with
  | nil => exact rparse_empty s (bs []) w (by omega) H0 (by rw [hsz]; decide) _ _ _ (Lib.hid rfl)
  | cons c r =>
    have hpos : 0 < (bs (c :: r)).size := by rw [hsz]; simp
    have hget : (bs (c :: r))[0] = c := rfl
    by_cases hc : c = 45
    · subst hc
      exact rparse_neg s (bs (45 :: r)) w (by omega) H0 hpos (by rw [hget]; rfl) _ _ _ (Lib.hid rfl)
    · have e1 : Lib.hasPrefix (c :: r) [45] = false := by
        unfold Lib.hasPrefix
        have : ¬ 45 = c := fun e => hc e.symm
        simp [List.isPrefixOf, this]
      have e2 : Lib.trimPrefix (c :: r) [45] = c :: r := by unfold Lib.trimPrefix; rw [if_neg (by rw [e1]; decide)]
      rw [e1, e2]
      exact rparse_plain s (bs (c :: r)) w (by omega) H0 hpos (by rw [hget]; exact byte_ne45 c hc) _ _ _ (Lib.hid rfl)
end Go.Proofs.YtcdpjgdaofgpcaaDoor
