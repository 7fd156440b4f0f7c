/-
  QparseDeep's walk. Helper lemmas; no statement of the seat is proved here.
-/
import Derived.Test.YtfoclfefjcnllaaGreatDoorD16
namespace Go.Proofs.YtfoclfefjcnllaaGreatDoor
open Go.RowKit
set_option maxRecDepth 100000
set_option linter.unusedVariables false
set_option linter.unusedSimpArgs false

/-- Opened i times, a number, shut j times. -/
def deepP (i j : Nat) (o s : List UInt8) : List UInt8 := repQ i o ++ [49] ++ repQ j s
theorem repQ_zero (t : List UInt8) : repQ 0 t = [] := rfl
theorem repQ_succ (k : Nat) (t : List UInt8) : repQ (k + 1) t = repQ k t ++ t := by
  unfold repQ; rw [List.replicate_succ', List.flatten_append]; simp
theorem repQ_len (k : Nat) (t : List UInt8) : (repQ k t).length = k * t.length := by
  unfold repQ; simp
theorem parse_nz (s : List UInt8) (hl : s.length ≤ 1000) (W : World) (HV : QEnv W) {c a : Int} (h : parseP s = .error (c, a)) : c ≠ 0 := by
  obtain ⟨e, w', fr, hA, _⟩ := all_any s W hl HV.tb []
  rw [parseP_eq] at h
  revert h hA
  cases allS s with
  | error e =>
    intro h hA
    obtain ⟨c', a'⟩ := e
    cases h
    exact hA.2.choose_spec.2.2
  | ok ts => intro h hA; exact allR_nz ts s.length h
theorem deep_cases {k m : Nat} (h : deepOk k m = true) : (24 < k ∧ parseP (deepT k m) = .error (7, ((25 * (openQ m).length : Nat) : Int))) ∨ (k ≤ 24 ∧ ∃ x, parseP (deepT k m) = .ok x) := by
  unfold deepOk at h
  revert h
  cases parseP (deepT k m) with
  | error e =>
    obtain ⟨c, a⟩ := e
    intro h
    simp only [Bool.and_eq_true, decide_eq_true_eq] at h
    obtain ⟨⟨h1, rfl⟩, rfl⟩ := h
    exact .inl ⟨h1, rfl⟩
  | ok x => intro h; exact .inr ⟨of_decide_eq_true h, x, rfl⟩
set_option maxHeartbeats 16000000 in
theorem deep_walk (N M : Nat) (hN : N < 256) (hM : M < 256) (W : World) (HV : QEnv W) (HG : GlobE W) :
    Calls Tryz.prog 3 #[.int .u8 (N : Int), .int .u8 (M : Int)] W fun e w' => e = .returned (.bool true) ∧ Ext W w' := by
  have HA := Lib.hid (awake_any W HV HG)
  obtain ⟨k, hk⟩ : ∃ k, N % 40 = k := ⟨_, rfl⟩
  obtain ⟨m, hm⟩ : ∃ m, M % 3 = m := ⟨_, rfl⟩
  have hk40 : k < 40 := by omega
  have hm3 : m < 3 := by omega
  have c1 : Int.tmod (N : Int) 40 = (k : Int) := by rw [← hk]; exact Int.ofNat_tmod N 40
  have c2 : Int.tmod (M : Int) 3 = (m : Int) := by rw [← hm]; exact Int.ofNat_tmod M 3
  have HD := Lib.hid (And.intro (deep_ok k m hk40 hm3) (And.intro HV HG))
  have hN' : (0 : Int) ≤ (N : Int) ∧ (N : Int) < 256 := by omega
  have hM' : (0 : Int) ≤ (M : Int) ∧ (M : Int) < 256 := by omega
  have hkI : (k : Int) < 40 := by omega
  clear hk hm HV HG
  go_enter Tryz.func3, Tryz.ntmps3
  go_wp2_with fail
  refine HA.out.mono ?_
  rintro e w1 ⟨rfl, hX1⟩
  clear HA
  have HE1 := Lib.hid hX1
  clear hX1
  rcases (by omega : m = 0 ∨ m = 1 ∨ m = 2) with rfl | rfl | rfl
  · go_wp2_with fail
    go_loopw [8, 9] (fun sv t wr => ∃ i : Nat, sv = .string (bs (repQ i [40])) ∧ t = .int .i64 i ∧ i ≤ k ∧ Hid (Ext W wr)) (fun _ t _ => downQ k t)
    case atStart => exact ⟨0, rfl, rfl, Nat.zero_le _, Lib.hid ((HE1.out.alloc _).alloc _)⟩
    case round =>
      obtain ⟨i, rfl, rfl, hi, HE⟩ := hrel
      have hil := repQ_len i [40]
      simp only [List.length_cons, List.length_nil] at hil
      have hz1 : ¬ 9223372036854775807 < (bs (repQ i [40])).size + 1 := by rw [bs_size]; omega
      by_cases hlt : i < k
      · have hlI : (i : Int) < (k : Int) := by omega
        have hcat : bs (repQ i [40]) ++ (⟨#[40]⟩ : ByteArray) = bs (repQ (i + 1) [40]) := by rw [repQ_succ, ← bs_append]; rfl
        clear hil
        go_wp2_with fail
        go_roundw
        case rel => exact ⟨i + 1, by first | rfl | exact congrArg Value.string hcat, by simp, hlt, HE⟩
        case measure => simp only [downQ]; omega
      · have hlI : ¬ (i : Int) < (k : Int) := by omega
        obtain rfl : i = k := by omega
        have hz2 : ¬ 9223372036854775807 < (bs (repQ i [40])).size + 1 := by rw [bs_size]; omega
        have hcat0 : bs (repQ i [40]) ++ (⟨#[49]⟩ : ByteArray) = bs (deepP i 0 [40] [41]) := by rw [deepP, repQ_zero, List.append_nil, ← bs_append]; rfl
        clear hil hz1
        go_wp2_with fail
        go_loopw [8, 10] (fun sv t wr => ∃ j : Nat, sv = .string (bs (deepP i j [40] [41])) ∧ t = .int .i64 j ∧ j ≤ i ∧ Hid (Ext W wr)) (fun _ t _ => downQ i t)
        case atStart => exact ⟨0, by first | rfl | exact congrArg Value.string hcat0, rfl, Nat.zero_le _, HE⟩
        case round =>
          clear HE hz2 hcat0 hlt hlI
          obtain ⟨j, rfl, rfl, hj, HE⟩ := hrel
          have hil := repQ_len i [40]
          have hjl := repQ_len j [41]
          simp only [List.length_cons, List.length_nil] at hil hjl
          have hz1 : ¬ 9223372036854775807 < (bs (deepP i j [40] [41])).size + 1 := by rw [bs_size, deepP]; simp only [List.length_append, List.length_cons, List.length_nil]; omega
          by_cases hlt : j < i
          · have hlI : (j : Int) < (i : Int) := by omega
            have hcat : bs (deepP i j [40] [41]) ++ (⟨#[41]⟩ : ByteArray) = bs (deepP i (j + 1) [40] [41]) := by rw [deepP, deepP, repQ_succ, ← List.append_assoc, ← bs_append _ [41]]; rfl
            clear hil hjl
            go_wp2_with fail
            go_roundw
            case rel => exact ⟨j + 1, by first | rfl | exact congrArg Value.string hcat, by simp, hlt, HE⟩
            case measure => simp only [downQ]; omega
          · have hlI : ¬ (j : Int) < (i : Int) := by omega
            obtain rfl : j = i := by omega
            have hln : (deepT j 0).length ≤ 1000 := by
              show (repQ j [40] ++ [49] ++ repQ j [41]).length ≤ 1000
              simp only [List.length_append, List.length_cons, List.length_nil]; omega
            obtain ⟨wo, hwo⟩ : ∃ w, w = wr := ⟨_, rfl⟩
            subst hwo
            have P := parse_qany (deepT j 0) wo hln (HD.out.2.1.ext HE.out)
            clear hil hjl hz1 hln
            rcases deep_cases HD.out.1 with ⟨h24, hP⟩ | ⟨h24, x, hP⟩
            · rw [hP] at P
              have HP : Hid (Calls Tryz.prog 7 #[.string (bs (deepP j j [40] [41]))] wo (ParseX wo (.error (7, 25)))) := Lib.hid P
              have h24I : (24 : Int) < (j : Int) := by omega
              clear P hP h24
              go_wp2_with fail
              refine (HP.out).mono ?_
              rintro e w2 ⟨hX, v1, rfl, hev⟩
              obtain ⟨w3, hw3⟩ : ∃ w, w2.alloc (.cells #[.string ⟨#[]⟩, .string ⟨#[]⟩, .bool false, .int .i64 0, .slice none 0 0, .bool false, .slice none 0 0] 29) = w := ⟨_, rfl⟩
              have Ew3 : Ext w2 w3 := by rw [← hw3]; exact (Ext.refl w2).alloc _
              have hbw3 : w3.heap[w2.heap.size]? = some (.cells #[.string ⟨#[]⟩, .string ⟨#[]⟩, .bool false, .int .i64 0, .slice none 0 0, .bool false, .slice none 0 0] 29) := by rw [← hw3]; exact Array.getElem?_push_size
              have HR := Lib.hid (And.intro (hev.ext Ew3) (And.intro (HE.out.trans (hX.trans Ew3)) (hX.trans Ew3)))
              clear hev hX Ew3

              have HC := Lib.hid (code_any 7 25 _ v1 w3 (HD.out.2.2.ext HR.out.2.1) HR.out.1)
              have HB := Lib.hid HR.out
              clear HP HR
              subst hw3
              go_wp2_with fail
              refine HC.out.mono ?_
              rintro e w4 ⟨rfl, hX4⟩
              have HC2 := Lib.hid (at_any 7 25 _ v1 w4 (HD.out.2.2.ext (HB.out.2.1.trans hX4)) (HB.out.1.ext hX4))
              have HF := Lib.hid (HB.out.2.1.trans hX4)
              clear HC HB hX4
              go_wp2_with fail
              refine HC2.out.mono ?_
              rintro e w5 ⟨rfl, hX5⟩
              clear HC2
              go_wp2_with fail
              go_ret
              exact ⟨rfl, HF.out.trans hX5⟩
            · rw [hP] at P
              have HP : Hid (Calls Tryz.prog 7 #[.string (bs (deepP j j [40] [41]))] wo (ParseX wo (.ok x))) := Lib.hid P
              have h24I : ¬ (24 : Int) < (j : Int) := by omega
              clear P hP h24
              go_wp2_with fail
              refine (HP.out).mono ?_
              rintro e w2 ⟨hX, v, rfl, aa, ac, ad, ae, rfl, hra, hrs, ho, ht⟩
              obtain ⟨w3, hw3⟩ : ∃ w, w2.alloc (.cells #[.string (bs x.op), .string (bs x.text), .bool x.nan, .int .i64 x.val, .slice aa x.args.length ac, .bool x.abs, .slice ad x.steps.length ae] 29) = w := ⟨_, rfl⟩
              have Ew3 : Ext w2 w3 := by rw [← hw3]; exact (Ext.refl w2).alloc _
              have hbw3 : w3.heap[w2.heap.size]? = some (.cells #[.string (bs x.op), .string (bs x.text), .bool x.nan, .int .i64 x.val, .slice aa x.args.length ac, .bool x.abs, .slice ad x.steps.length ae] 29) := by rw [← hw3]; exact Array.getElem?_push_size
              obtain ⟨xb, hxb⟩ : ∃ r, w2.heap.size = r := ⟨_, rfl⟩
              rw [hxb] at hbw3
              have hlxb := blk_lt hbw3
              have HR := Lib.hid (And.intro (hra.ext Ew3) (And.intro (hrs.ext Ew3) (And.intro hbw3 (And.intro (HE.out.trans (hX.trans Ew3)) (hX.trans Ew3)))))
              clear hra hrs Ew3 hbw3 hX ho ht

              have HC := Lib.hid (code_nil w3)
              have HF := Lib.hid HR.out.2.2.2.1
              clear HP HR
              go_wp2_with fail
              refine HC.out.mono ?_
              rintro e w4 ⟨rfl, hX4⟩
              clear HC hw3
              go_wp2_with fail
              go_ret
              exact ⟨rfl, HF.out.trans hX4⟩

  · go_wp2_with fail
    go_loopw [8, 9] (fun sv t wr => ∃ i : Nat, sv = .string (bs (repQ i [110, 111, 116, 40])) ∧ t = .int .i64 i ∧ i ≤ k ∧ Hid (Ext W wr)) (fun _ t _ => downQ k t)
    case atStart => exact ⟨0, rfl, rfl, Nat.zero_le _, Lib.hid ((HE1.out.alloc _).alloc _)⟩
    case round =>
      obtain ⟨i, rfl, rfl, hi, HE⟩ := hrel
      have hil := repQ_len i [110, 111, 116, 40]
      simp only [List.length_cons, List.length_nil] at hil
      have hz1 : ¬ 9223372036854775807 < (bs (repQ i [110, 111, 116, 40])).size + 4 := by rw [bs_size]; omega
      by_cases hlt : i < k
      · have hlI : (i : Int) < (k : Int) := by omega
        have hcat : bs (repQ i [110, 111, 116, 40]) ++ (⟨#[110, 111, 116, 40]⟩ : ByteArray) = bs (repQ (i + 1) [110, 111, 116, 40]) := by rw [repQ_succ, ← bs_append]; rfl
        clear hil
        go_wp2_with fail
        go_roundw
        case rel => exact ⟨i + 1, by first | rfl | exact congrArg Value.string hcat, by simp, hlt, HE⟩
        case measure => simp only [downQ]; omega
      · have hlI : ¬ (i : Int) < (k : Int) := by omega
        obtain rfl : i = k := by omega
        have hz2 : ¬ 9223372036854775807 < (bs (repQ i [110, 111, 116, 40])).size + 1 := by rw [bs_size]; omega
        have hcat0 : bs (repQ i [110, 111, 116, 40]) ++ (⟨#[49]⟩ : ByteArray) = bs (deepP i 0 [110, 111, 116, 40] [41]) := by rw [deepP, repQ_zero, List.append_nil, ← bs_append]; rfl
        clear hil hz1
        go_wp2_with fail
        go_loopw [8, 10] (fun sv t wr => ∃ j : Nat, sv = .string (bs (deepP i j [110, 111, 116, 40] [41])) ∧ t = .int .i64 j ∧ j ≤ i ∧ Hid (Ext W wr)) (fun _ t _ => downQ i t)
        case atStart => exact ⟨0, by first | rfl | exact congrArg Value.string hcat0, rfl, Nat.zero_le _, HE⟩
        case round =>
          clear HE hz2 hcat0 hlt hlI
          obtain ⟨j, rfl, rfl, hj, HE⟩ := hrel
          have hil := repQ_len i [110, 111, 116, 40]
          have hjl := repQ_len j [41]
          simp only [List.length_cons, List.length_nil] at hil hjl
          have hz1 : ¬ 9223372036854775807 < (bs (deepP i j [110, 111, 116, 40] [41])).size + 1 := by rw [bs_size, deepP]; simp only [List.length_append, List.length_cons, List.length_nil]; omega
          by_cases hlt : j < i
          · have hlI : (j : Int) < (i : Int) := by omega
            have hcat : bs (deepP i j [110, 111, 116, 40] [41]) ++ (⟨#[41]⟩ : ByteArray) = bs (deepP i (j + 1) [110, 111, 116, 40] [41]) := by rw [deepP, deepP, repQ_succ, ← List.append_assoc, ← bs_append _ [41]]; rfl
            clear hil hjl
            go_wp2_with fail
            go_roundw
            case rel => exact ⟨j + 1, by first | rfl | exact congrArg Value.string hcat, by simp, hlt, HE⟩
            case measure => simp only [downQ]; omega
          · have hlI : ¬ (j : Int) < (i : Int) := by omega
            obtain rfl : j = i := by omega
            have hln : (deepT j 1).length ≤ 1000 := by
              show (repQ j [110, 111, 116, 40] ++ [49] ++ repQ j [41]).length ≤ 1000
              simp only [List.length_append, List.length_cons, List.length_nil]; omega
            obtain ⟨wo, hwo⟩ : ∃ w, w = wr := ⟨_, rfl⟩
            subst hwo
            have P := parse_qany (deepT j 1) wo hln (HD.out.2.1.ext HE.out)
            clear hil hjl hz1 hln
            rcases deep_cases HD.out.1 with ⟨h24, hP⟩ | ⟨h24, x, hP⟩
            · rw [hP] at P
              have HP : Hid (Calls Tryz.prog 7 #[.string (bs (deepP j j [110, 111, 116, 40] [41]))] wo (ParseX wo (.error (7, 100)))) := Lib.hid P
              have h24I : (24 : Int) < (j : Int) := by omega
              clear P hP h24
              go_wp2_with fail
              refine (HP.out).mono ?_
              rintro e w2 ⟨hX, v1, rfl, hev⟩
              obtain ⟨w3, hw3⟩ : ∃ w, w2.alloc (.cells #[.string ⟨#[]⟩, .string ⟨#[]⟩, .bool false, .int .i64 0, .slice none 0 0, .bool false, .slice none 0 0] 29) = w := ⟨_, rfl⟩
              have Ew3 : Ext w2 w3 := by rw [← hw3]; exact (Ext.refl w2).alloc _
              have hbw3 : w3.heap[w2.heap.size]? = some (.cells #[.string ⟨#[]⟩, .string ⟨#[]⟩, .bool false, .int .i64 0, .slice none 0 0, .bool false, .slice none 0 0] 29) := by rw [← hw3]; exact Array.getElem?_push_size
              have HR := Lib.hid (And.intro (hev.ext Ew3) (And.intro (HE.out.trans (hX.trans Ew3)) (hX.trans Ew3)))
              clear hev hX Ew3

              have HC := Lib.hid (code_any 7 100 _ v1 w3 (HD.out.2.2.ext HR.out.2.1) HR.out.1)
              have HB := Lib.hid HR.out
              clear HP HR
              subst hw3
              go_wp2_with fail
              refine HC.out.mono ?_
              rintro e w4 ⟨rfl, hX4⟩
              have HC2 := Lib.hid (at_any 7 100 _ v1 w4 (HD.out.2.2.ext (HB.out.2.1.trans hX4)) (HB.out.1.ext hX4))
              have HF := Lib.hid (HB.out.2.1.trans hX4)
              clear HC HB hX4
              go_wp2_with fail
              refine HC2.out.mono ?_
              rintro e w5 ⟨rfl, hX5⟩
              clear HC2
              go_wp2_with fail
              go_ret
              exact ⟨rfl, HF.out.trans hX5⟩
            · rw [hP] at P
              have HP : Hid (Calls Tryz.prog 7 #[.string (bs (deepP j j [110, 111, 116, 40] [41]))] wo (ParseX wo (.ok x))) := Lib.hid P
              have h24I : ¬ (24 : Int) < (j : Int) := by omega
              clear P hP h24
              go_wp2_with fail
              refine (HP.out).mono ?_
              rintro e w2 ⟨hX, v, rfl, aa, ac, ad, ae, rfl, hra, hrs, ho, ht⟩
              obtain ⟨w3, hw3⟩ : ∃ w, w2.alloc (.cells #[.string (bs x.op), .string (bs x.text), .bool x.nan, .int .i64 x.val, .slice aa x.args.length ac, .bool x.abs, .slice ad x.steps.length ae] 29) = w := ⟨_, rfl⟩
              have Ew3 : Ext w2 w3 := by rw [← hw3]; exact (Ext.refl w2).alloc _
              have hbw3 : w3.heap[w2.heap.size]? = some (.cells #[.string (bs x.op), .string (bs x.text), .bool x.nan, .int .i64 x.val, .slice aa x.args.length ac, .bool x.abs, .slice ad x.steps.length ae] 29) := by rw [← hw3]; exact Array.getElem?_push_size
              obtain ⟨xb, hxb⟩ : ∃ r, w2.heap.size = r := ⟨_, rfl⟩
              rw [hxb] at hbw3
              have hlxb := blk_lt hbw3
              have HR := Lib.hid (And.intro (hra.ext Ew3) (And.intro (hrs.ext Ew3) (And.intro hbw3 (And.intro (HE.out.trans (hX.trans Ew3)) (hX.trans Ew3)))))
              clear hra hrs Ew3 hbw3 hX ho ht

              have HC := Lib.hid (code_nil w3)
              have HF := Lib.hid HR.out.2.2.2.1
              clear HP HR
              go_wp2_with fail
              refine HC.out.mono ?_
              rintro e w4 ⟨rfl, hX4⟩
              clear HC hw3
              go_wp2_with fail
              go_ret
              exact ⟨rfl, HF.out.trans hX4⟩

  · go_wp2_with fail
    go_loopw [8, 9] (fun sv t wr => ∃ i : Nat, sv = .string (bs (repQ i [97, 91])) ∧ t = .int .i64 i ∧ i ≤ k ∧ Hid (Ext W wr)) (fun _ t _ => downQ k t)
    case atStart => exact ⟨0, rfl, rfl, Nat.zero_le _, Lib.hid ((HE1.out.alloc _).alloc _)⟩
    case round =>
      obtain ⟨i, rfl, rfl, hi, HE⟩ := hrel
      have hil := repQ_len i [97, 91]
      simp only [List.length_cons, List.length_nil] at hil
      have hz1 : ¬ 9223372036854775807 < (bs (repQ i [97, 91])).size + 2 := by rw [bs_size]; omega
      by_cases hlt : i < k
      · have hlI : (i : Int) < (k : Int) := by omega
        have hcat : bs (repQ i [97, 91]) ++ (⟨#[97, 91]⟩ : ByteArray) = bs (repQ (i + 1) [97, 91]) := by rw [repQ_succ, ← bs_append]; rfl
        clear hil
        go_wp2_with fail
        go_roundw
        case rel => exact ⟨i + 1, by first | rfl | exact congrArg Value.string hcat, by simp, hlt, HE⟩
        case measure => simp only [downQ]; omega
      · have hlI : ¬ (i : Int) < (k : Int) := by omega
        obtain rfl : i = k := by omega
        have hz2 : ¬ 9223372036854775807 < (bs (repQ i [97, 91])).size + 1 := by rw [bs_size]; omega
        have hcat0 : bs (repQ i [97, 91]) ++ (⟨#[49]⟩ : ByteArray) = bs (deepP i 0 [97, 91] [93]) := by rw [deepP, repQ_zero, List.append_nil, ← bs_append]; rfl
        clear hil hz1
        go_wp2_with fail
        go_loopw [8, 10] (fun sv t wr => ∃ j : Nat, sv = .string (bs (deepP i j [97, 91] [93])) ∧ t = .int .i64 j ∧ j ≤ i ∧ Hid (Ext W wr)) (fun _ t _ => downQ i t)
        case atStart => exact ⟨0, by first | rfl | exact congrArg Value.string hcat0, rfl, Nat.zero_le _, HE⟩
        case round =>
          clear HE hz2 hcat0 hlt hlI
          obtain ⟨j, rfl, rfl, hj, HE⟩ := hrel
          have hil := repQ_len i [97, 91]
          have hjl := repQ_len j [93]
          simp only [List.length_cons, List.length_nil] at hil hjl
          have hz1 : ¬ 9223372036854775807 < (bs (deepP i j [97, 91] [93])).size + 1 := by rw [bs_size, deepP]; simp only [List.length_append, List.length_cons, List.length_nil]; omega
          by_cases hlt : j < i
          · have hlI : (j : Int) < (i : Int) := by omega
            have hcat : bs (deepP i j [97, 91] [93]) ++ (⟨#[93]⟩ : ByteArray) = bs (deepP i (j + 1) [97, 91] [93]) := by rw [deepP, deepP, repQ_succ, ← List.append_assoc, ← bs_append _ [93]]; rfl
            clear hil hjl
            go_wp2_with fail
            go_roundw
            case rel => exact ⟨j + 1, by first | rfl | exact congrArg Value.string hcat, by simp, hlt, HE⟩
            case measure => simp only [downQ]; omega
          · have hlI : ¬ (j : Int) < (i : Int) := by omega
            obtain rfl : j = i := by omega
            have hln : (deepT j 2).length ≤ 1000 := by
              show (repQ j [97, 91] ++ [49] ++ repQ j [93]).length ≤ 1000
              simp only [List.length_append, List.length_cons, List.length_nil]; omega
            obtain ⟨wo, hwo⟩ : ∃ w, w = wr := ⟨_, rfl⟩
            subst hwo
            have P := parse_qany (deepT j 2) wo hln (HD.out.2.1.ext HE.out)
            clear hil hjl hz1 hln
            rcases deep_cases HD.out.1 with ⟨h24, hP⟩ | ⟨h24, x, hP⟩
            · rw [hP] at P
              have HP : Hid (Calls Tryz.prog 7 #[.string (bs (deepP j j [97, 91] [93]))] wo (ParseX wo (.error (7, 50)))) := Lib.hid P
              have h24I : (24 : Int) < (j : Int) := by omega
              clear P hP h24
              go_wp2_with fail
              refine (HP.out).mono ?_
              rintro e w2 ⟨hX, v1, rfl, hev⟩
              obtain ⟨w3, hw3⟩ : ∃ w, w2.alloc (.cells #[.string ⟨#[]⟩, .string ⟨#[]⟩, .bool false, .int .i64 0, .slice none 0 0, .bool false, .slice none 0 0] 29) = w := ⟨_, rfl⟩
              have Ew3 : Ext w2 w3 := by rw [← hw3]; exact (Ext.refl w2).alloc _
              have hbw3 : w3.heap[w2.heap.size]? = some (.cells #[.string ⟨#[]⟩, .string ⟨#[]⟩, .bool false, .int .i64 0, .slice none 0 0, .bool false, .slice none 0 0] 29) := by rw [← hw3]; exact Array.getElem?_push_size
              have HR := Lib.hid (And.intro (hev.ext Ew3) (And.intro (HE.out.trans (hX.trans Ew3)) (hX.trans Ew3)))
              clear hev hX Ew3

              have HC := Lib.hid (code_any 7 50 _ v1 w3 (HD.out.2.2.ext HR.out.2.1) HR.out.1)
              have HB := Lib.hid HR.out
              clear HP HR
              subst hw3
              go_wp2_with fail
              refine HC.out.mono ?_
              rintro e w4 ⟨rfl, hX4⟩
              have HC2 := Lib.hid (at_any 7 50 _ v1 w4 (HD.out.2.2.ext (HB.out.2.1.trans hX4)) (HB.out.1.ext hX4))
              have HF := Lib.hid (HB.out.2.1.trans hX4)
              clear HC HB hX4
              go_wp2_with fail
              refine HC2.out.mono ?_
              rintro e w5 ⟨rfl, hX5⟩
              clear HC2
              go_wp2_with fail
              go_ret
              exact ⟨rfl, HF.out.trans hX5⟩
            · rw [hP] at P
              have HP : Hid (Calls Tryz.prog 7 #[.string (bs (deepP j j [97, 91] [93]))] wo (ParseX wo (.ok x))) := Lib.hid P
              have h24I : ¬ (24 : Int) < (j : Int) := by omega
              clear P hP h24
              go_wp2_with fail
              refine (HP.out).mono ?_
              rintro e w2 ⟨hX, v, rfl, aa, ac, ad, ae, rfl, hra, hrs, ho, ht⟩
              obtain ⟨w3, hw3⟩ : ∃ w, w2.alloc (.cells #[.string (bs x.op), .string (bs x.text), .bool x.nan, .int .i64 x.val, .slice aa x.args.length ac, .bool x.abs, .slice ad x.steps.length ae] 29) = w := ⟨_, rfl⟩
              have Ew3 : Ext w2 w3 := by rw [← hw3]; exact (Ext.refl w2).alloc _
              have hbw3 : w3.heap[w2.heap.size]? = some (.cells #[.string (bs x.op), .string (bs x.text), .bool x.nan, .int .i64 x.val, .slice aa x.args.length ac, .bool x.abs, .slice ad x.steps.length ae] 29) := by rw [← hw3]; exact Array.getElem?_push_size
              obtain ⟨xb, hxb⟩ : ∃ r, w2.heap.size = r := ⟨_, rfl⟩
              rw [hxb] at hbw3
              have hlxb := blk_lt hbw3
              have HR := Lib.hid (And.intro (hra.ext Ew3) (And.intro (hrs.ext Ew3) (And.intro hbw3 (And.intro (HE.out.trans (hX.trans Ew3)) (hX.trans Ew3)))))
              clear hra hrs Ew3 hbw3 hX ho ht

              have HC := Lib.hid (code_nil w3)
              have HF := Lib.hid HR.out.2.2.2.1
              clear HP HR
              go_wp2_with fail
              refine HC.out.mono ?_
              rintro e w4 ⟨rfl, hX4⟩
              clear HC hw3
              go_wp2_with fail
              go_ret
              exact ⟨rfl, HF.out.trans hX4⟩


end Go.Proofs.YtfoclfefjcnllaaGreatDoor
