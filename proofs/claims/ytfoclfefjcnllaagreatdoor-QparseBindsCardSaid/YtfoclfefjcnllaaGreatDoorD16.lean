/-
  A tree written out. Helper lemmas; no statement of the seat is proved here.
-/
import Derived.Test.YtfoclfefjcnllaaGreatDoorD15
import Derived.Test.YtfoclfefjcnllaaGreatDoorD8
import Derived.KernelRfl
import Derived.Test.YtfoclfefjcnllaaGreatDoorCards
import Derived.Test.YtfoclfefjcnllaaGreatDoorTie
import Derived.ReadAgain
import Derived.ChangeSame
import Derived.ProofKit
import Derived.OpenShut
import Derived.Deep.DeepHandedRow
import Derived.Deep.DeepWitnessRowRef
import Derived.Lib.LaidTab
import Derived.Lib.LaidU8
import Derived.Lib.LaidU8T
import Derived.LaidMore
import Derived.Deep.DeepLaidRun
import Derived.Shelf.Vars
namespace Go.Proofs.YtfoclfefjcnllaaGreatDoor
open Go.RowKit
set_option maxRecDepth 100000
set_option linter.unusedVariables false
set_option linter.unusedSimpArgs false

theorem txE_eq (x : Ex) : txE x = if x.op = [110, 117, 109] then textS x.nan x.val else if x.op = [108, 105, 116] then quoteT x.text else if x.op = [110, 101, 103] then [40, 45] ++ (txL x.args).headD [] ++ [41] else if x.op = [99, 97, 108, 108] then x.text ++ [40] ++ joinT [44, 32] (txL x.args) ++ [41] else if x.op = [102, 105, 108, 116, 101, 114] then [40] ++ (txL x.args).headD [] ++ [41] ++ bracketsT (txL x.args).tail else if x.op = [112, 97, 116, 104] then pathT x else [40] ++ (txL x.args).headD [] ++ [32] ++ x.op ++ [32] ++ (txL x.args).tail.headD [] ++ [41] := by
  cases x; rw [txE]; rfl
theorem wL_len : ∀ l : List Ex, l.length ≤ wL l
  | [] => Nat.zero_le _
  | a :: l => by have := wL_len l; have h := tx_w a; rw [wL, List.length_cons]; omega
theorem ar_two {x : Ex} (h : arE x = true) (h1 : ¬ x.op = [110, 117, 109]) (h2 : ¬ x.op = [108, 105, 116]) (h3 : ¬ x.op = [110, 101, 103]) (h4 : ¬ x.op = [99, 97, 108, 108]) (h5 : ¬ x.op = [102, 105, 108, 116, 101, 114]) (h6 : ¬ x.op = [112, 97, 116, 104]) : 2 ≤ x.args.length := by
  cases x
  simp only [Ex.op] at h1 h2 h3 h4 h5 h6
  simp [arE, h1, h2, h3, h4, h5, h6] at h
  exact h.1.1
theorem ar_one {x : Ex} (h : arE x = true) (h1 : x.op = [110, 101, 103] ∨ x.op = [102, 105, 108, 116, 101, 114]) : 1 ≤ x.args.length := by
  cases x with
  | mk op text nan v args abs steps =>
    cases args with
    | nil => exfalso; rcases h1 with h1 | h1 <;> (simp only [Ex.op] at h1; subst h1; simp [arE] at h)
    | cons a l => show 1 ≤ (a :: l).length; simp
theorem tail_tx (l : List Ex) : (txL l).tail = txL (l.drop 1) := by
  cases l with
  | nil => rfl
  | cons a b => rw [txL]; rfl
theorem drop1_ex {w : World} {p : Nat → Prop} {a : Option Addr} {cap : Nat} {l : List Ex} (h : Rep w p (.slice a l.length cap) (exsD l)) (hl : 0 < l.length) :
    ∃ a2 c2, Rep w p (.slice a2 (l.drop 1).length c2) (exsD (l.drop 1)) ∧ ∀ W, (Instr.sliceAt 26 (.slice a l.length cap) (some (.int .i64 1)) none none).run Tryz.prog W = .ok (.slice a2 (l.drop 1).length c2) W := by
  obtain ⟨b, off, had, _⟩ := ex_at h 0 hl
  subst had
  obtain ⟨_, _, e1, _, hc, hm⟩ : ∃ b' off', (some (⟨b', off', none⟩ : Addr)) = some ⟨b, off, none⟩ ∧ True ∧ l.length ≤ cap ∧ cap ≤ 9223372036854775807 := by
    obtain ⟨_, c', e, h1, h2⟩ := h.count (f := exC) z_ex (by omega)
    cases e
    exact ⟨_, _, rfl, trivial, h1, h2⟩
  have hs : ∀ W, (sizeOf 29).run Tryz.prog W = .ok 7 W := Tryz.sizeOf29
  have hel : Tryz.prog.elem 26 = 29 := by kernel_rfl
  have hdl : (l.drop 1).length = l.length - 1 := List.length_drop
  have hrun : ∀ W, (Instr.sliceAt 26 (.slice (some ⟨b, off, none⟩) l.length cap) (some (.int .i64 1)) none none).run Tryz.prog W = .ok (sliced (some ⟨b, off, none⟩) 1 l.length cap 7) W := by
    intro W
    rw [run_sliceAt_slice W 26 _ _ _ _ (by rw [hel]; exact Tryz.underlying26), run_slice_l W 26 _ l.length cap (by rw [hel]; exact Tryz.underlying26) .i64 1 (by omega) (by omega), hel, hs]
    rfl
  have hrep := Rep.sub h 1 l.length (cap - 1) hl (Nat.le_refl _) (by omega) (by omega)
  have e2 : ((l.flatMap exC).drop (1 * 7)).take ((l.length - 1) * 7) = (l.drop 1).flatMap exC := by
    cases l with
    | nil => exact absurd hl (by decide)
    | cons x r =>
      rw [List.flatMap_cons, List.drop_append_of_le_length (by rw [z_ex]; exact Nat.le_refl _), List.drop_of_length_le (by rw [z_ex]; exact Nat.le_refl _), List.nil_append, List.drop_one, List.tail_cons]
      exact List.take_of_length_le (by rw [flat_len exC 7 z_ex]; simp)
  by_cases h0 : cap = 1
  · have h1 : l.length = 1 := by omega
    have hnil : l.drop 1 = [] := List.eq_nil_of_length_eq_zero (by omega)
    refine ⟨some ⟨b, off, none⟩, 0, ?_, fun W => ?_⟩
    · rw [hnil]; exact Rep.emp _ 7
    · rw [hrun, hdl, h1, h0]; rfl
  · refine ⟨some ⟨b, off + 1 * 7, none⟩, cap - 1, ?_, fun W => ?_⟩
    · unfold exsD
      rw [hdl, ← e2]; exact hrep
    · rw [hrun, hdl]; unfold sliced; rw [if_neg h0, Option.map_some, add_offs']
set_option maxHeartbeats 8000000 in
theorem text_num (x0 : Ex) (HA : ∀ y ∈ x0.args, TxC y) (HS : ∀ s ∈ x0.steps, ∀ y ∈ s.preds, TxC y) (har : arE x0 = true) (hw : wE x0 ≤ 100000000) (h0 : x0.op = [110, 117, 109]) : TxC x0 := by
  intro W p0 v hG hr
  have htw := tx_w x0
  have htL := txL_w x0.args
  have hwE := wE_eq x0
  obtain ⟨R, hR⟩ : ∃ R, txE x0 = R := ⟨_, rfl⟩
  rw [hR] at htw ⊢
  rw [txE_eq] at hR
  obtain ⟨aa, ac, ad, ae, rfl, hra, hrs⟩ := hr
  obtain ⟨w1, hw1⟩ : ∃ w, W.alloc (.cells #[.string (bs x0.op), .string (bs x0.text), .bool x0.nan, .int .i64 x0.val, .slice aa x0.args.length ac, .bool x0.abs, .slice ad x0.steps.length ae] 29) = w := ⟨_, rfl⟩
  have Ew1 : Ext W w1 := by rw [← hw1]; exact (Ext.refl W).alloc _
  have hbw1 : w1.heap[W.heap.size]? = some (.cells #[.string (bs x0.op), .string (bs x0.text), .bool x0.nan, .int .i64 x0.val, .slice aa x0.args.length ac, .bool x0.abs, .slice ad x0.steps.length ae] 29) := by rw [← hw1]; exact Array.getElem?_push_size

  have hle := blk_lt hbw1
  obtain ⟨eb, heb⟩ : ∃ r, W.heap.size = r := ⟨_, rfl⟩
  rw [heb] at hbw1 hle
  obtain ⟨e0, e1, e2, e3, e4, e5, e6⟩ := cells7 hbw1
  have HG0 := Lib.hid hG
  have HQ := Lib.hid (And.intro (hra.ext Ew1) (hrs.ext Ew1))
  have HEW := Lib.hid Ew1
  have q0 : ((bs x0.op).toList == [110, 117, 109]) = true := by rw [bs_toList, beq_iff_eq]; exact h0
  replace hR := (if_pos h0).symm.trans hR
  have HC := Lib.hid (text_any x0.nan x0.val w1 (HG0.out _ HEW.out))
  have HR := Lib.hid hR
  clear h0 hR hra hrs hG Ew1 hbw1 HQ HA HS htL hwE htw har hw
  go_enter Tryz.func10, Tryz.ntmps10
  go_wp2_with fail
  refine HC.out.mono ?_
  rintro e w2 ⟨rfl, hX⟩
  rw [HR.out]
  clear HC hw1 e0 e1 e2 e3 e4 e5 e6
  go_wp2_with fail
  go_ret
  exact ⟨rfl, HEW.out.trans hX⟩
set_option maxHeartbeats 8000000 in
theorem text_lit (x0 : Ex) (HA : ∀ y ∈ x0.args, TxC y) (HS : ∀ s ∈ x0.steps, ∀ y ∈ s.preds, TxC y) (har : arE x0 = true) (hw : wE x0 ≤ 100000000) (h0 : ¬ x0.op = [110, 117, 109]) (h1 : x0.op = [108, 105, 116]) : TxC x0 := by
  intro W p0 v hG hr
  have htw := tx_w x0
  have htL := txL_w x0.args
  have hwE := wE_eq x0
  obtain ⟨R, hR⟩ : ∃ R, txE x0 = R := ⟨_, rfl⟩
  rw [hR] at htw ⊢
  rw [txE_eq] at hR
  obtain ⟨aa, ac, ad, ae, rfl, hra, hrs⟩ := hr
  obtain ⟨w1, hw1⟩ : ∃ w, W.alloc (.cells #[.string (bs x0.op), .string (bs x0.text), .bool x0.nan, .int .i64 x0.val, .slice aa x0.args.length ac, .bool x0.abs, .slice ad x0.steps.length ae] 29) = w := ⟨_, rfl⟩
  have Ew1 : Ext W w1 := by rw [← hw1]; exact (Ext.refl W).alloc _
  have hbw1 : w1.heap[W.heap.size]? = some (.cells #[.string (bs x0.op), .string (bs x0.text), .bool x0.nan, .int .i64 x0.val, .slice aa x0.args.length ac, .bool x0.abs, .slice ad x0.steps.length ae] 29) := by rw [← hw1]; exact Array.getElem?_push_size

  have hle := blk_lt hbw1
  obtain ⟨eb, heb⟩ : ∃ r, W.heap.size = r := ⟨_, rfl⟩
  rw [heb] at hbw1 hle
  obtain ⟨e0, e1, e2, e3, e4, e5, e6⟩ := cells7 hbw1
  have HG0 := Lib.hid hG
  have HQ := Lib.hid (And.intro (hra.ext Ew1) (hrs.ext Ew1))
  have HEW := Lib.hid Ew1
  have q0 : ((bs x0.op).toList == [110, 117, 109]) = false := by rw [bs_toList, beq_eq_false_iff_ne]; exact h0
  have q1 : ((bs x0.op).toList == [108, 105, 116]) = true := by rw [bs_toList, beq_iff_eq]; exact h1
  replace hR := (if_neg h0).symm.trans hR
  replace hR := (if_pos h1).symm.trans hR
  have HC := Lib.hid (quoteT_any x0.text w1 (by omega))
  have HR := Lib.hid hR
  clear h0 h1 hR hra hrs hG Ew1 hbw1 HQ HA HS htL hwE htw har hw
  go_enter Tryz.func10, Tryz.ntmps10
  go_wp2_with fail
  refine HC.out.mono ?_
  rintro e w2 ⟨rfl, rfl⟩
  rw [HR.out]
  clear HC hw1 e0 e1 e2 e3 e4 e5 e6
  go_wp2_with fail
  go_ret
  exact ⟨rfl, HEW.out⟩
set_option maxHeartbeats 8000000 in
theorem text_neg (x0 : Ex) (HA : ∀ y ∈ x0.args, TxC y) (HS : ∀ s ∈ x0.steps, ∀ y ∈ s.preds, TxC y) (har : arE x0 = true) (hw : wE x0 ≤ 100000000) (h0 : ¬ x0.op = [110, 117, 109]) (h1 : ¬ x0.op = [108, 105, 116]) (h2 : x0.op = [110, 101, 103]) : TxC x0 := by
  intro W p0 v hG hr
  have htw := tx_w x0
  have htL := txL_w x0.args
  have hwE := wE_eq x0
  obtain ⟨R, hR⟩ : ∃ R, txE x0 = R := ⟨_, rfl⟩
  rw [hR] at htw ⊢
  rw [txE_eq] at hR
  obtain ⟨aa, ac, ad, ae, rfl, hra, hrs⟩ := hr
  obtain ⟨w1, hw1⟩ : ∃ w, W.alloc (.cells #[.string (bs x0.op), .string (bs x0.text), .bool x0.nan, .int .i64 x0.val, .slice aa x0.args.length ac, .bool x0.abs, .slice ad x0.steps.length ae] 29) = w := ⟨_, rfl⟩
  have Ew1 : Ext W w1 := by rw [← hw1]; exact (Ext.refl W).alloc _
  have hbw1 : w1.heap[W.heap.size]? = some (.cells #[.string (bs x0.op), .string (bs x0.text), .bool x0.nan, .int .i64 x0.val, .slice aa x0.args.length ac, .bool x0.abs, .slice ad x0.steps.length ae] 29) := by rw [← hw1]; exact Array.getElem?_push_size

  have hle := blk_lt hbw1
  obtain ⟨eb, heb⟩ : ∃ r, W.heap.size = r := ⟨_, rfl⟩
  rw [heb] at hbw1 hle
  obtain ⟨e0, e1, e2, e3, e4, e5, e6⟩ := cells7 hbw1
  have HG0 := Lib.hid hG
  have HQ := Lib.hid (And.intro (hra.ext Ew1) (hrs.ext Ew1))
  have HEW := Lib.hid Ew1
  have q0 : ((bs x0.op).toList == [110, 117, 109]) = false := by rw [bs_toList, beq_eq_false_iff_ne]; exact h0
  have q1 : ((bs x0.op).toList == [108, 105, 116]) = false := by rw [bs_toList, beq_eq_false_iff_ne]; exact h1
  have q2 : ((bs x0.op).toList == [110, 101, 103]) = true := by rw [bs_toList, beq_iff_eq]; exact h2
  replace hR := (if_neg h0).symm.trans hR
  replace hR := (if_neg h1).symm.trans hR
  replace hR := (if_pos h2).symm.trans hR
  have ha : 0 < x0.args.length := ar_one har (.inl h2)
  obtain ⟨b, off, had, hlb, ba, bc, bd, be, ⟨s0, s1, s2, s3, s4, s5, s6⟩, hya, hys⟩ := ex_at HQ.out.1 0 ha
  subst had
  simp only [Nat.zero_mul, Nat.add_zero] at s0 s1 s2 s3 s4 s5 s6
  have hym := List.getElem_mem ha
  have hhd : (txL x0.args).headD [] = txE x0.args[0] := head_tx x0.args ha
  have hyw := wL_mem _ _ hym
  have hyt := tx_w x0.args[0]
  obtain ⟨y, hy⟩ : ∃ y, x0.args[0] = y := ⟨_, rfl⟩
  rw [hy] at s0 s1 s2 s3 s4 s5 s6 hya hys hym hhd hyw hyt
  rw [hhd] at hR
  have haI : (0 : Int) < (x0.args.length : Int) := by omega
  have hne : ¬ x0.args = [] := by intro h; rw [h] at ha; exact absurd ha (by decide)
  have HC := Lib.hid (HA y hym w1 _ _ (HG0.out.ext HEW.out) ⟨ba, bc, bd, be, rfl, hya, hys⟩)
  obtain ⟨T, hT⟩ : ∃ T, txE y = T := ⟨_, rfl⟩
  rw [hT] at hR HC hyt
  have hz1 : ¬ 9223372036854775807 < 2 + (bs T).size := by rw [bs_size]; omega
  have hz2 : ¬ 9223372036854775807 < 2 + (bs T).size + 1 := by rw [bs_size]; omega
  have HR := Lib.hid hR
  clear h0 h1 h2 hR hra hrs hG Ew1 hbw1 HQ HA HS htL hwE htw har hw hT hhd hy hya hys hym hyw hyt ha
  go_enter Tryz.func10, Tryz.ntmps10
  go_wp2_with fail
  refine HC.out.mono ?_
  rintro e w2 ⟨rfl, hX⟩
  clear HC hw1 e0 e1 e2 e3 e4 e5 e6 s0 s1 s2 s3 s4 s5 s6
  go_wp2_with fail
  go_ret
  exact ⟨by rw [← HR.out, show (⟨#[40, 45]⟩ : ByteArray) = bs [40, 45] from rfl, show (⟨#[41]⟩ : ByteArray) = bs [41] from rfl, bs_append, bs_append]; rfl, HEW.out.trans hX⟩
set_option maxHeartbeats 8000000 in
theorem text_call (x0 : Ex) (HA : ∀ y ∈ x0.args, TxC y) (HS : ∀ s ∈ x0.steps, ∀ y ∈ s.preds, TxC y) (har : arE x0 = true) (hw : wE x0 ≤ 100000000) (h0 : ¬ x0.op = [110, 117, 109]) (h1 : ¬ x0.op = [108, 105, 116]) (h2 : ¬ x0.op = [110, 101, 103]) (h3 : x0.op = [99, 97, 108, 108]) : TxC x0 := by
  intro W p0 v hG hr
  have htw := tx_w x0
  have htL := txL_w x0.args
  have hwE := wE_eq x0
  obtain ⟨R, hR⟩ : ∃ R, txE x0 = R := ⟨_, rfl⟩
  rw [hR] at htw ⊢
  rw [txE_eq] at hR
  obtain ⟨aa, ac, ad, ae, rfl, hra, hrs⟩ := hr
  obtain ⟨w1, hw1⟩ : ∃ w, W.alloc (.cells #[.string (bs x0.op), .string (bs x0.text), .bool x0.nan, .int .i64 x0.val, .slice aa x0.args.length ac, .bool x0.abs, .slice ad x0.steps.length ae] 29) = w := ⟨_, rfl⟩
  have Ew1 : Ext W w1 := by rw [← hw1]; exact (Ext.refl W).alloc _
  have hbw1 : w1.heap[W.heap.size]? = some (.cells #[.string (bs x0.op), .string (bs x0.text), .bool x0.nan, .int .i64 x0.val, .slice aa x0.args.length ac, .bool x0.abs, .slice ad x0.steps.length ae] 29) := by rw [← hw1]; exact Array.getElem?_push_size

  have hle := blk_lt hbw1
  obtain ⟨eb, heb⟩ : ∃ r, W.heap.size = r := ⟨_, rfl⟩
  rw [heb] at hbw1 hle
  obtain ⟨e0, e1, e2, e3, e4, e5, e6⟩ := cells7 hbw1
  have HG0 := Lib.hid hG
  have HQ := Lib.hid (And.intro (hra.ext Ew1) (hrs.ext Ew1))
  have HEW := Lib.hid Ew1
  have q0 : ((bs x0.op).toList == [110, 117, 109]) = false := by rw [bs_toList, beq_eq_false_iff_ne]; exact h0
  have q1 : ((bs x0.op).toList == [108, 105, 116]) = false := by rw [bs_toList, beq_eq_false_iff_ne]; exact h1
  have q2 : ((bs x0.op).toList == [110, 101, 103]) = false := by rw [bs_toList, beq_eq_false_iff_ne]; exact h2
  have q3 : ((bs x0.op).toList == [99, 97, 108, 108]) = true := by rw [bs_toList, beq_iff_eq]; exact h3
  replace hR := (if_neg h0).symm.trans hR
  replace hR := (if_neg h1).symm.trans hR
  replace hR := (if_neg h2).symm.trans hR
  replace hR := (if_pos h3).symm.trans hR
  have hlen := wL_len x0.args
  have HAL := Lib.hid (And.intro HQ.out.1 (And.intro HA (show wL x0.args ≤ 100000000 by omega)))
  have hll : x0.args.length ≤ 100000000 := by omega
  have hllI : (x0.args.length : Int) ≤ 100000000 := by omega
  have hj1 := join_sum [44, 32] (by decide) (txL x0.args)
  have HR := Lib.hid (And.intro hR (And.intro (show x0.text.length ≤ 100000000 by omega) (show (joinT [44, 32] (txL x0.args)).length ≤ 100000000 by omega)))
  clear h0 h1 h2 h3 hR hra hrs hG Ew1 hbw1 HQ HA HS htL hwE htw har hw hlen hj1
  go_enter Tryz.func10, Tryz.ntmps10
  go_wp2_with fail
  have HE1 := Lib.hid (And.intro e1 hle)
  clear e0 e2 e3 e4 e5 e6
  go_loopw [3, 5, 32] (fun dv _ t wr => ∃ (i : Nat) (d : Value), d = dv ∧ t = .int .i64 i ∧ i ≤ x0.args.length ∧ Hid (Ext w1 wr) ∧ Hid (Own wr (fun _ => False) w1.heap.size 9 1 d i ((txL (x0.args.take i)).flatMap fun t => [strD t]))) (fun _ _ t _ => downQ x0.args.length t)
  case atStart => exact ⟨0, _, rfl, rfl, Nat.zero_le _, Lib.hid (Ext.refl w1), Lib.hid (Own.nil _ _ _ _ _)⟩
  case round =>
    obtain ⟨i, d, rfl, rfl, hi, HE, HO⟩ := hrel
    by_cases hil : i < x0.args.length
    · have hiI : (i : Int) < (x0.args.length : Int) := by omega
      obtain ⟨b, off, had, hlb, ba, bc, bd, be, ⟨s0, s1, s2, s3, s4, s5, s6⟩, hya, hys⟩ := ex_at (HAL.out.1.ext HE.out) i hil
      have hym := List.getElem_mem hil
      have HTx := HAL.out.2.1 _ hym
      have hyw := wL_mem _ _ hym
      have hyt := tx_w x0.args[i]
      have hwl := HAL.out.2.2
      obtain ⟨y, hy⟩ : ∃ y, x0.args[i] = y := ⟨_, rfl⟩
      rw [hy] at s0 s1 s2 s3 s4 s5 s6 hya hys hym HTx hyw hyt
      subst had
      obtain ⟨wz, hwz⟩ : ∃ w, wr.alloc (.cells #[.string (bs y.op), .string (bs y.text), .bool y.nan, .int .i64 y.val, .slice ba y.args.length bc, .bool y.abs, .slice bd y.steps.length be] 29) = w := ⟨_, rfl⟩
      have Ewz : Ext wr wz := by rw [← hwz]; exact (Ext.refl wr).alloc _
      have hbwz : wz.heap[wr.heap.size]? = some (.cells #[.string (bs y.op), .string (bs y.text), .bool y.nan, .int .i64 y.val, .slice ba y.args.length bc, .bool y.abs, .slice bd y.steps.length be] 29) := by rw [← hwz]; exact Array.getElem?_push_size

      obtain ⟨tb, htb⟩ : ∃ r, wr.heap.size = r := ⟨_, rfl⟩
      rw [htb] at hbwz
      obtain ⟨k0, k1, k2, k3, k4, k5, k6⟩ := cells7 hbwz
      have htl := blk_lt hbwz
      have HC := Lib.hid (HTx wz (fun b => p0 b) _ (HG0.out.ext (HEW.out.trans (HE.out.trans Ewz))) ⟨ba, bc, bd, be, rfl, hya.ext Ewz, hys.ext Ewz⟩)
      obtain ⟨T, hT⟩ : ∃ T, txE y = T := ⟨_, rfl⟩
      rw [hT] at HC hyt
      have HX := Lib.hid (And.intro hy (And.intro hT (show T.length ≤ 100000000 by omega)))
      have HEz := Lib.hid (HE.out.trans Ewz)
      replace HO := Lib.hid (HO.out.ext Ewz)
      clear hy hT hyw hyt hym HTx hya hys hwl hbwz Ewz HE
      go_wp2_with fail
      refine HC.out.mono ?_
      rintro e w2 ⟨rfl, hX2⟩
      clear HC hwz k0 k1 k2 k3 k4 k5 k6 s0 s1 s2 s3 s4 s5 s6
      obtain ⟨w3, hw3⟩ : ∃ w, w2.alloc (.cells #[.string (bs T)] 9) = w := ⟨_, rfl⟩
      have Ew3 : Ext w2 w3 := by rw [← hw3]; exact (Ext.refl w2).alloc _
      have hbw3 : w3.heap[w2.heap.size]? = some (.cells #[.string (bs T)] 9) := by rw [← hw3]; exact Array.getElem?_push_size

      have hE3 := HEz.out.trans (hX2.trans Ew3)
      have HY := Lib.hid (And.intro (HO.out.ext (hX2.trans Ew3)) (And.intro (show w3.heap[w2.heap.size]? = some (.cells ([Value.string (bs T)] : List Value).toArray 9) from hbw3) (And.intro hE3 (show T.length ≤ 1000000000000 by have := HX.out.2.2; omega))))
      clear hX2 Ew3 hbw3 HEz HO
      go_wp2_with (at_builtin; refine wpList_app1k rfl (.tmp 36) (.tmp 39) rfl (hs := rfl) (hown := HY.out.1) (hx := rfl) (hc := fun j u hj => blk_cells HY.out.2.1 j hj) (hr := rep1 T HY.out.2.2.2) (h1 := one_str T) (hl := rfl) (hm := by omega) (hb := HY.out.2.2.1.size) ?_; intro d2 w4 hO4 hg4 hnb4)
      have HE2 := Lib.hid (Below.grown HY.out.2.2.1 hg4 HY.out.2.2.1.size fun k hk => (HY.out.1.blk k hk).1)
      have HO2 : Hid (Own w4 (fun _ => False) w1.heap.size 9 1 d2 (i + 1) ((txL (x0.args.take (i + 1))).flatMap fun t => [strD t])) := by
        rw [txL_eq] at hO4 ⊢
        rw [List.take_add_one, List.getElem?_eq_getElem hil, HX.out.1]
        simp only [Option.toList_some, List.map_append, List.map_cons, List.map_nil, List.flatMap_append, List.flatMap_cons, List.flatMap_nil, List.append_nil]
        rw [HX.out.2.1]
        exact Lib.hid hO4
      clear hO4 hg4 hnb4 HY hE3 hw3
      go_roundw
      case rel => exact ⟨i + 1, _, rfl, by simp, hil, HE2, HO2⟩
      case measure => simp only [downQ]; omega
    · have hiI : ¬ (i : Int) < (x0.args.length : Int) := by omega
      obtain rfl : i = x0.args.length := by omega
      rw [List.take_length] at HO
      have hlL : (txL x0.args).length = x0.args.length := by rw [txL_eq, List.length_map]
      rw [← hlL] at HO
      obtain ⟨da, dc, rfl, _, _⟩ := HO.out.form
      have HJ := Lib.hid fun W (h : Sx wr W) => join_any [44, 32] (txL x0.args) _ da dc W (HO.out.rep.ext h) (by have := HR.out.2.2; omega) (by rw [hlL]; omega)
      rw [hlL] at HJ
      obtain ⟨J, hJ⟩ : ∃ J, joinT [44, 32] (txL x0.args) = J := ⟨_, rfl⟩
      obtain ⟨hRR, htx, hjl⟩ := HR.out
      rw [hJ] at HJ hRR hjl
      obtain ⟨e1, hle⟩ := HE1.out
      replace e1 := Ext.keep HE.out hle e1
      replace hle := Nat.lt_of_lt_of_le hle HE.out.size
      have HF := Lib.hid (HEW.out.trans HE.out)
      have HRR := Lib.hid hRR
      rw [hlL]
      obtain ⟨wz, hwz⟩ : ∃ w, w = wr := ⟨_, rfl⟩
      subst hwz
      clear HE HO hJ hRR HE1 HR HAL hw1
      go_wp2_with fail
      refine rg_begin (S := Sx wz) (by kernel_rfl) (Sx.begin _) ?_
      have hSp : Sx wz (World.drew wz) := (Sx.begin _)
      refine rg_take 0 (some 42) (.pointer (some ⟨eb, 1, none⟩)) (oi := { dst := some 42, op := Go.Op.fieldAddr 29 (Go.Operand.tmp 1) 1, type := 0, pos := "qparse.go:409", after := #[], guard := none }) rfl rfl (by kernel_rfl) (by kernel_rfl) (by kernel_rfl) (fun _ _ _ h => h) hSp (by rfl) (fun w' hs => by first | rfl | go_simp) ?_
      simp only [Act.put, List.setIfInBounds_toArray, List.set_cons_zero, List.set_cons_succ]
      refine rg_take 1 (some 43) (.string (bs x0.text)) (oi := { dst := some 43, op := Go.Op.load 9 (Go.Operand.tmp 42), type := 9, pos := "qparse.go:409", after := #[{ on := 0, ground := Go.Ground.data }], guard := none }) rfl rfl (by kernel_rfl) (by kernel_rfl) (by kernel_rfl) (fun _ _ _ h => h) hSp (by rfl) (fun w' hs => by (have h0 := hs.cell hle e1; go_simp)) ?_
      simp only [Act.put, List.setIfInBounds_toArray, List.set_cons_zero, List.set_cons_succ]
      refine rg_take 2 (some 44) (.string (bs (x0.text ++ ([40] : List UInt8)))) (oi := { dst := some 44, op := Go.Op.binOp Go.BinOp.add 9 (Go.Operand.tmp 43) (Go.Operand.const (Go.Value.string { data := #[40] })) 9, type := 9, pos := "qparse.go:409", after := #[{ on := 1, ground := Go.Ground.data }], guard := none }) rfl rfl (by kernel_rfl) (by kernel_rfl) (by kernel_rfl) (fun _ _ _ h => h) hSp (by rfl) (fun w' hs => by exact exec_sadd (s := x0.text) (t := ([40] : List UInt8)) rfl rfl rfl (by (try simp only [List.length_append, List.length_cons, List.length_nil]); omega) _) ?_
      simp only [Act.put, List.setIfInBounds_toArray, List.set_cons_zero, List.set_cons_succ]
      refine rg_take 3 (some 45) (.slice da x0.args.length dc) (oi := { dst := some 45, op := Go.Op.move (Go.Operand.tmp 3), type := 23, pos := "qparse.go:409", after := #[], guard := none }) rfl rfl (by kernel_rfl) (by kernel_rfl) (by kernel_rfl) (fun _ _ _ h => h) hSp (by rfl) (fun w' hs => by rfl) ?_
      simp only [Act.put, List.setIfInBounds_toArray, List.set_cons_zero, List.set_cons_succ]
      refine rg_call 4 (some 46) 20 #[.slice da x0.args.length dc, .string { data := #[44, 32] }] (oi := { dst := some 46, op := Go.Op.call { callee := Go.Callee.value (Go.Operand.func 20), args := #[Go.Operand.tmp 45, Go.Operand.const (Go.Value.string { data := #[44, 32] })], argTypes := #[23, 9] }, type := 9, pos := "qparse.go:409", after := #[{ on := 3, ground := Go.Ground.data }], guard := none }) rfl rfl (by kernel_rfl) (by rfl) (fun w' => by first | rfl | go_simp) (R := fun v w' => v = .string (bs J) ∧ Ext (World.drew wz) w') ?_ ?_
      · refine (HJ.out (World.drew wz) hSp).mono ?_
        rintro e w' ⟨rfl, h⟩
        exact ⟨_, rfl, rfl, h⟩
      rintro _ wrp1 ⟨rfl, hBrp1⟩
      have hSp1 := hSp.ext hBrp1
      refine ⟨hSp1, ?_⟩
      simp only [Act.put, List.setIfInBounds_toArray, List.set_cons_zero, List.set_cons_succ]
      refine rg_take 5 (some 47) (.string (bs (((x0.text ++ ([40] : List UInt8))) ++ J))) (oi := { dst := some 47, op := Go.Op.binOp Go.BinOp.add 9 (Go.Operand.tmp 44) (Go.Operand.tmp 46) 9, type := 9, pos := "qparse.go:409", after := #[{ on := 2, ground := Go.Ground.data }, { on := 4, ground := Go.Ground.data }], guard := none }) rfl rfl (by kernel_rfl) (by kernel_rfl) (by kernel_rfl) (fun _ _ _ h => h) hSp1 (by rfl) (fun w' hs => by exact exec_sadd (s := (x0.text ++ ([40] : List UInt8))) (t := J) rfl rfl rfl (by (try simp only [List.length_append, List.length_cons, List.length_nil]); omega) _) ?_
      simp only [Act.put, List.setIfInBounds_toArray, List.set_cons_zero, List.set_cons_succ]
      refine rg_take 6 (some 48) (.string (bs (((((x0.text ++ ([40] : List UInt8))) ++ J)) ++ ([41] : List UInt8)))) (oi := { dst := some 48, op := Go.Op.binOp Go.BinOp.add 9 (Go.Operand.tmp 47) (Go.Operand.const (Go.Value.string { data := #[41] })) 9, type := 9, pos := "qparse.go:409", after := #[{ on := 5, ground := Go.Ground.data }], guard := none }) rfl rfl (by kernel_rfl) (by kernel_rfl) (by kernel_rfl) (fun _ _ _ h => h) hSp1 (by rfl) (fun w' hs => by exact exec_sadd (s := (((x0.text ++ ([40] : List UInt8))) ++ J)) (t := ([41] : List UInt8)) rfl rfl rfl (by (try simp only [List.length_append, List.length_cons, List.length_nil]); omega) _) ?_
      simp only [Act.put, List.setIfInBounds_toArray, List.set_cons_zero, List.set_cons_succ]
      refine rg_take 7 (some 2) (.string (bs (((((x0.text ++ ([40] : List UInt8))) ++ J)) ++ ([41] : List UInt8)))) (oi := { dst := some 2, op := Go.Op.assign (Go.Operand.tmp 48), type := 9, pos := "qparse.go:409", after := #[{ on := 6, ground := Go.Ground.data }, { on := 4, ground := Go.Ground.chain }, { on := 0, ground := Go.Ground.phase }, { on := 1, ground := Go.Ground.phase }, { on := 2, ground := Go.Ground.phase }, { on := 3, ground := Go.Ground.phase }, { on := 4, ground := Go.Ground.phase }, { on := 5, ground := Go.Ground.phase }, { on := 6, ground := Go.Ground.phase }], guard := none }) rfl rfl (by kernel_rfl) (by kernel_rfl) (by kernel_rfl) (fun _ _ _ h => h) hSp1 (by rfl) (fun w' hs => by rfl) ?_
      simp only [Act.put, List.setIfInBounds_toArray, List.set_cons_zero, List.set_cons_succ]
      refine rg_done (by kernel_rfl) ?_
      go_wp2_with fail
      go_ret
      exact ⟨by rw [← HRR.out]; simp, HF.out.trans hSp1⟩
set_option maxHeartbeats 8000000 in
theorem text_filter (x0 : Ex) (HA : ∀ y ∈ x0.args, TxC y) (HS : ∀ s ∈ x0.steps, ∀ y ∈ s.preds, TxC y) (har : arE x0 = true) (hw : wE x0 ≤ 100000000) (h0 : ¬ x0.op = [110, 117, 109]) (h1 : ¬ x0.op = [108, 105, 116]) (h2 : ¬ x0.op = [110, 101, 103]) (h3 : ¬ x0.op = [99, 97, 108, 108]) (h4 : x0.op = [102, 105, 108, 116, 101, 114]) : TxC x0 := by
  intro W p0 v hG hr
  have htw := tx_w x0
  have htL := txL_w x0.args
  have hwE := wE_eq x0
  obtain ⟨R, hR⟩ : ∃ R, txE x0 = R := ⟨_, rfl⟩
  rw [hR] at htw ⊢
  rw [txE_eq] at hR
  obtain ⟨aa, ac, ad, ae, rfl, hra, hrs⟩ := hr
  obtain ⟨w1, hw1⟩ : ∃ w, W.alloc (.cells #[.string (bs x0.op), .string (bs x0.text), .bool x0.nan, .int .i64 x0.val, .slice aa x0.args.length ac, .bool x0.abs, .slice ad x0.steps.length ae] 29) = w := ⟨_, rfl⟩
  have Ew1 : Ext W w1 := by rw [← hw1]; exact (Ext.refl W).alloc _
  have hbw1 : w1.heap[W.heap.size]? = some (.cells #[.string (bs x0.op), .string (bs x0.text), .bool x0.nan, .int .i64 x0.val, .slice aa x0.args.length ac, .bool x0.abs, .slice ad x0.steps.length ae] 29) := by rw [← hw1]; exact Array.getElem?_push_size

  have hle := blk_lt hbw1
  obtain ⟨eb, heb⟩ : ∃ r, W.heap.size = r := ⟨_, rfl⟩
  rw [heb] at hbw1 hle
  obtain ⟨e0, e1, e2, e3, e4, e5, e6⟩ := cells7 hbw1
  have HG0 := Lib.hid hG
  have HQ := Lib.hid (And.intro (hra.ext Ew1) (hrs.ext Ew1))
  have HEW := Lib.hid Ew1
  have q0 : ((bs x0.op).toList == [110, 117, 109]) = false := by rw [bs_toList, beq_eq_false_iff_ne]; exact h0
  have q1 : ((bs x0.op).toList == [108, 105, 116]) = false := by rw [bs_toList, beq_eq_false_iff_ne]; exact h1
  have q2 : ((bs x0.op).toList == [110, 101, 103]) = false := by rw [bs_toList, beq_eq_false_iff_ne]; exact h2
  have q3 : ((bs x0.op).toList == [99, 97, 108, 108]) = false := by rw [bs_toList, beq_eq_false_iff_ne]; exact h3
  have q4 : ((bs x0.op).toList == [102, 105, 108, 116, 101, 114]) = true := by rw [bs_toList, beq_iff_eq]; exact h4
  replace hR := (if_neg h0).symm.trans hR
  replace hR := (if_neg h1).symm.trans hR
  replace hR := (if_neg h2).symm.trans hR
  replace hR := (if_neg h3).symm.trans hR
  replace hR := (if_pos h4).symm.trans hR
  have ha : 0 < x0.args.length := ar_one har (.inr h4)
  obtain ⟨a2, c2, hd, hdr⟩ := drop1_ex HQ.out.1 ha
  obtain ⟨b, off, had, hlb, ba, bc, bd, be, ⟨s0, s1, s2, s3, s4, s5, s6⟩, hya, hys⟩ := ex_at HQ.out.1 0 ha
  subst had
  simp only [Nat.zero_mul, Nat.add_zero] at s0 s1 s2 s3 s4 s5 s6
  have hym := List.getElem_mem ha
  have hhd : (txL x0.args).headD [] = txE x0.args[0] := head_tx x0.args ha
  have hyw := wL_mem _ _ hym
  have hyt := tx_w x0.args[0]
  obtain ⟨y, hy⟩ : ∃ y, x0.args[0] = y := ⟨_, rfl⟩
  rw [hy] at s0 s1 s2 s3 s4 s5 s6 hya hys hym hhd hyw hyt
  rw [hhd] at hR
  have haI : (0 : Int) < (x0.args.length : Int) := by omega
  have hne : ¬ x0.args = [] := by intro h; rw [h] at ha; exact absurd ha (by decide)
  have HC := Lib.hid fun W (h : Sx w1 W) => HA y hym W (fun b => p0 b) _ (HG0.out.ext (HEW.out.trans h)) ⟨ba, bc, bd, be, rfl, hya.ext h, hys.ext h⟩
  obtain ⟨T, hT⟩ : ∃ T, txE y = T := ⟨_, rfl⟩
  rw [hT] at hR HC hyt
  rw [tail_tx] at hR
  have hwd : wL (x0.args.drop 1) ≤ wL x0.args := by
    cases h : x0.args with
    | nil => exact Nat.le_refl _
    | cons a b => rw [wL]; exact Nat.le_add_left _ _
  have hbs := brackets_sum (txL (x0.args.drop 1))
  have htd := txL_w (x0.args.drop 1)
  have HP := Lib.hid fun W (h : Sx w1 W) => preds_tx (x0.args.drop 1) (fun z hz => HA z (List.mem_of_mem_drop hz)) W (fun b => p0 b) a2 c2 (hd.ext h) (HG0.out.ext (HEW.out.trans h)) (by omega)
  obtain ⟨P, hP⟩ : ∃ P, bracketsT (txL (x0.args.drop 1)) = P := ⟨_, rfl⟩
  rw [hP] at hR HP hbs
  have hPl : P.length ≤ 100000000 := by omega
  have hTl : T.length ≤ 100000000 := by omega
  have HS := Lib.hid hdr
  have HR := Lib.hid hR
  clear h0 h1 h2 h3 h4 hR hra hrs hG Ew1 hbw1 HQ HA htL hwE htw har hw hT hhd hy hya hys hym hyw hyt ha hwd hbs htd hP hd hdr
  go_enter Tryz.func10, Tryz.ntmps10
  go_wp2_with fail
  clear hw1
  obtain ⟨wz, hwz⟩ : ∃ w, w = w1 := ⟨_, rfl⟩
  subst hwz
  refine rg_begin (S := Sx wz) (by kernel_rfl) (Sx.begin _) ?_
  have hSp : Sx wz (World.drew wz) := (Sx.begin _)
  refine rg_take 0 (some 51) (.pointer (some ⟨eb, 4, none⟩)) (oi := { dst := some 51, op := Go.Op.fieldAddr 29 (Go.Operand.tmp 1) 3, type := 0, pos := "qparse.go:411", after := #[], guard := none }) rfl rfl (by kernel_rfl) (by kernel_rfl) (by kernel_rfl) (fun _ _ _ h => h) hSp (by rfl) (fun w' hs => by first | rfl | go_simp) ?_
  simp only [Act.put, List.setIfInBounds_toArray, List.set_cons_zero, List.set_cons_succ]
  refine rg_take 1 (some 52) (.slice (some ⟨b, off, none⟩) x0.args.length ac) (oi := { dst := some 52, op := Go.Op.load 26 (Go.Operand.tmp 51), type := 26, pos := "qparse.go:411", after := #[{ on := 0, ground := Go.Ground.data }], guard := none }) rfl rfl (by kernel_rfl) (by kernel_rfl) (by kernel_rfl) (fun _ _ _ h => h) hSp (by rfl) (fun w' hs => by (have h0 := hs.cell hle e4; go_simp)) ?_
  simp only [Act.put, List.setIfInBounds_toArray, List.set_cons_zero, List.set_cons_succ]
  refine rg_take 2 (some 53) (.pointer (some ⟨b, off, none⟩)) (oi := { dst := some 53, op := Go.Op.indexAddr 26 (Go.Operand.tmp 52) (Go.Operand.const (Go.Value.int Go.IntKind.i64 0)), type := 0, pos := "qparse.go:411", after := #[{ on := 1, ground := Go.Ground.data }], guard := none }) rfl rfl (by kernel_rfl) (by kernel_rfl) (by kernel_rfl) (fun _ _ _ h => h) hSp (by rfl) (fun w' hs => by first | rfl | go_simp) ?_
  simp only [Act.put, List.setIfInBounds_toArray, List.set_cons_zero, List.set_cons_succ]
  refine rg_take 3 (some 54) (.agg #[.string (bs y.op), .string (bs y.text), .bool y.nan, .int .i64 y.val, .slice ba y.args.length bc, .bool y.abs, .slice bd y.steps.length be]) (oi := { dst := some 54, op := Go.Op.load 29 (Go.Operand.tmp 53), type := 29, pos := "qparse.go:411", after := #[{ on := 2, ground := Go.Ground.data }], guard := none }) rfl rfl (by kernel_rfl) (by kernel_rfl) (by kernel_rfl) (fun _ _ _ h => h) hSp (by rfl) (fun w' hs => by (have h0 := hs.cell hlb s0; have h1 := hs.cell hlb s1; have h2 := hs.cell hlb s2; have h3 := hs.cell hlb s3; have h4 := hs.cell hlb s4; have h5 := hs.cell hlb s5; have h6 := hs.cell hlb s6; go_simp)) ?_
  simp only [Act.put, List.setIfInBounds_toArray, List.set_cons_zero, List.set_cons_succ]
  refine rg_take 7 (some 58) (.pointer (some ⟨eb, 4, none⟩)) (oi := { dst := some 58, op := Go.Op.fieldAddr 29 (Go.Operand.tmp 1) 3, type := 0, pos := "qparse.go:411", after := #[], guard := none }) rfl rfl (by kernel_rfl) (by kernel_rfl) (by kernel_rfl) (fun _ _ _ h => h) hSp (by rfl) (fun w' hs => by first | rfl | go_simp) ?_
  simp only [Act.put, List.setIfInBounds_toArray, List.set_cons_zero, List.set_cons_succ]
  refine rg_take 8 (some 59) (.slice (some ⟨b, off, none⟩) x0.args.length ac) (oi := { dst := some 59, op := Go.Op.load 26 (Go.Operand.tmp 58), type := 26, pos := "qparse.go:411", after := #[{ on := 7, ground := Go.Ground.data }], guard := none }) rfl rfl (by kernel_rfl) (by kernel_rfl) (by kernel_rfl) (fun _ _ _ h => h) hSp (by rfl) (fun w' hs => by (have h0 := hs.cell hle e4; go_simp)) ?_
  simp only [Act.put, List.setIfInBounds_toArray, List.set_cons_zero, List.set_cons_succ]
  refine rg_take 9 (some 60) (.slice a2 (x0.args.drop 1).length c2) (oi := { dst := some 60, op := Go.Op.slice 26 (Go.Operand.tmp 59) (some (Go.Operand.const (Go.Value.int Go.IntKind.i64 1))) none none, type := 26, pos := "qparse.go:411", after := #[{ on := 8, ground := Go.Ground.data }], guard := none }) rfl rfl (by kernel_rfl) (by kernel_rfl) (by kernel_rfl) (fun _ _ _ h => h) hSp (by rfl) (fun w' hs => by exact exec_slice rfl (HS.out w')) ?_
  simp only [Act.put, List.setIfInBounds_toArray, List.set_cons_zero, List.set_cons_succ]
  refine rg_call 4 (some 55) 10 #[.agg #[.string (bs y.op), .string (bs y.text), .bool y.nan, .int .i64 y.val, .slice ba y.args.length bc, .bool y.abs, .slice bd y.steps.length be]] (oi := { dst := some 55, op := Go.Op.call { callee := Go.Callee.value (Go.Operand.func 10), args := #[Go.Operand.tmp 54], argTypes := #[29] }, type := 9, pos := "qparse.go:411", after := #[{ on := 3, ground := Go.Ground.data }], guard := none }) rfl rfl (by kernel_rfl) (by rfl) (fun w' => by first | rfl | go_simp) (R := fun v w' => v = .string (bs T) ∧ Ext (World.drew wz) w') ?_ ?_
  · refine (HC.out (World.drew wz) hSp).mono ?_
    rintro e w' ⟨rfl, h⟩
    exact ⟨_, rfl, rfl, h⟩
  rintro _ wrp1 ⟨rfl, hBrp1⟩
  have hSp1 := hSp.ext hBrp1
  refine ⟨hSp1, ?_⟩
  simp only [Act.put, List.setIfInBounds_toArray, List.set_cons_zero, List.set_cons_succ]
  refine rg_take 5 (some 56) (.string (bs (([40] : List UInt8) ++ T))) (oi := { dst := some 56, op := Go.Op.binOp Go.BinOp.add 9 (Go.Operand.const (Go.Value.string { data := #[40] })) (Go.Operand.tmp 55) 9, type := 9, pos := "qparse.go:411", after := #[{ on := 4, ground := Go.Ground.data }], guard := none }) rfl rfl (by kernel_rfl) (by kernel_rfl) (by kernel_rfl) (fun _ _ _ h => h) hSp1 (by rfl) (fun w' hs => by exact exec_sadd (s := ([40] : List UInt8)) (t := T) rfl rfl rfl (by (try simp only [List.length_append, List.length_cons, List.length_nil]); omega) _) ?_
  simp only [Act.put, List.setIfInBounds_toArray, List.set_cons_zero, List.set_cons_succ]
  refine rg_take 6 (some 57) (.string (bs (((([40] : List UInt8) ++ T)) ++ ([41] : List UInt8)))) (oi := { dst := some 57, op := Go.Op.binOp Go.BinOp.add 9 (Go.Operand.tmp 56) (Go.Operand.const (Go.Value.string { data := #[41] })) 9, type := 9, pos := "qparse.go:411", after := #[{ on := 5, ground := Go.Ground.data }], guard := none }) rfl rfl (by kernel_rfl) (by kernel_rfl) (by kernel_rfl) (fun _ _ _ h => h) hSp1 (by rfl) (fun w' hs => by exact exec_sadd (s := (([40] : List UInt8) ++ T)) (t := ([41] : List UInt8)) rfl rfl rfl (by (try simp only [List.length_append, List.length_cons, List.length_nil]); omega) _) ?_
  simp only [Act.put, List.setIfInBounds_toArray, List.set_cons_zero, List.set_cons_succ]
  refine rg_call 10 (some 61) 21 #[.slice a2 (x0.args.drop 1).length c2] (oi := { dst := some 61, op := Go.Op.call { callee := Go.Callee.value (Go.Operand.func 21), args := #[Go.Operand.tmp 60], argTypes := #[26] }, type := 9, pos := "qparse.go:411", after := #[{ on := 9, ground := Go.Ground.data }, { on := 4, ground := Go.Ground.chain }], guard := none }) rfl rfl (by kernel_rfl) (by rfl) (fun w' => by first | rfl | go_simp) (R := fun v w' => v = .string (bs P) ∧ Ext wrp1 w') ?_ ?_
  · refine (HP.out wrp1 hSp1).mono ?_
    rintro e w' ⟨rfl, h⟩
    exact ⟨_, rfl, rfl, h⟩
  rintro _ wrp2 ⟨rfl, hBrp2⟩
  have hSp2 := hSp1.ext hBrp2
  refine ⟨hSp2, ?_⟩
  simp only [Act.put, List.setIfInBounds_toArray, List.set_cons_zero, List.set_cons_succ]
  refine rg_take 11 (some 62) (.string (bs (((((([40] : List UInt8) ++ T)) ++ ([41] : List UInt8))) ++ P))) (oi := { dst := some 62, op := Go.Op.binOp Go.BinOp.add 9 (Go.Operand.tmp 57) (Go.Operand.tmp 61) 9, type := 9, pos := "qparse.go:411", after := #[{ on := 6, ground := Go.Ground.data }, { on := 10, ground := Go.Ground.data }], guard := none }) rfl rfl (by kernel_rfl) (by kernel_rfl) (by kernel_rfl) (fun _ _ _ h => h) hSp2 (by rfl) (fun w' hs => by exact exec_sadd (s := (((([40] : List UInt8) ++ T)) ++ ([41] : List UInt8))) (t := P) rfl rfl rfl (by (try simp only [List.length_append, List.length_cons, List.length_nil]); omega) _) ?_
  simp only [Act.put, List.setIfInBounds_toArray, List.set_cons_zero, List.set_cons_succ]
  refine rg_take 12 (some 2) (.string (bs (((((([40] : List UInt8) ++ T)) ++ ([41] : List UInt8))) ++ P))) (oi := { dst := some 2, op := Go.Op.assign (Go.Operand.tmp 62), type := 9, pos := "qparse.go:411", after := #[{ on := 11, ground := Go.Ground.data }, { on := 10, ground := Go.Ground.chain }, { on := 0, ground := Go.Ground.phase }, { on := 1, ground := Go.Ground.phase }, { on := 2, ground := Go.Ground.phase }, { on := 3, ground := Go.Ground.phase }, { on := 4, ground := Go.Ground.phase }, { on := 5, ground := Go.Ground.phase }, { on := 6, ground := Go.Ground.phase }, { on := 7, ground := Go.Ground.phase }, { on := 8, ground := Go.Ground.phase }, { on := 9, ground := Go.Ground.phase }, { on := 10, ground := Go.Ground.phase }, { on := 11, ground := Go.Ground.phase }], guard := none }) rfl rfl (by kernel_rfl) (by kernel_rfl) (by kernel_rfl) (fun _ _ _ h => h) hSp2 (by rfl) (fun w' hs => by rfl) ?_
  simp only [Act.put, List.setIfInBounds_toArray, List.set_cons_zero, List.set_cons_succ]
  refine rg_done (by kernel_rfl) ?_
  go_wp2_with fail
  go_ret
  exact ⟨by rw [← HR.out]; rfl, HEW.out.trans hSp2⟩
set_option maxHeartbeats 8000000 in
theorem text_path (x0 : Ex) (HA : ∀ y ∈ x0.args, TxC y) (HS : ∀ s ∈ x0.steps, ∀ y ∈ s.preds, TxC y) (har : arE x0 = true) (hw : wE x0 ≤ 100000000) (h0 : ¬ x0.op = [110, 117, 109]) (h1 : ¬ x0.op = [108, 105, 116]) (h2 : ¬ x0.op = [110, 101, 103]) (h3 : ¬ x0.op = [99, 97, 108, 108]) (h4 : ¬ x0.op = [102, 105, 108, 116, 101, 114]) (h5 : x0.op = [112, 97, 116, 104]) : TxC x0 := by
  intro W p0 v hG hr
  have htw := tx_w x0
  have htL := txL_w x0.args
  have hwE := wE_eq x0
  obtain ⟨R, hR⟩ : ∃ R, txE x0 = R := ⟨_, rfl⟩
  rw [hR] at htw ⊢
  rw [txE_eq] at hR
  obtain ⟨aa, ac, ad, ae, rfl, hra, hrs⟩ := hr
  obtain ⟨w1, hw1⟩ : ∃ w, W.alloc (.cells #[.string (bs x0.op), .string (bs x0.text), .bool x0.nan, .int .i64 x0.val, .slice aa x0.args.length ac, .bool x0.abs, .slice ad x0.steps.length ae] 29) = w := ⟨_, rfl⟩
  have Ew1 : Ext W w1 := by rw [← hw1]; exact (Ext.refl W).alloc _
  have hbw1 : w1.heap[W.heap.size]? = some (.cells #[.string (bs x0.op), .string (bs x0.text), .bool x0.nan, .int .i64 x0.val, .slice aa x0.args.length ac, .bool x0.abs, .slice ad x0.steps.length ae] 29) := by rw [← hw1]; exact Array.getElem?_push_size

  have hle := blk_lt hbw1
  obtain ⟨eb, heb⟩ : ∃ r, W.heap.size = r := ⟨_, rfl⟩
  rw [heb] at hbw1 hle
  obtain ⟨e0, e1, e2, e3, e4, e5, e6⟩ := cells7 hbw1
  have HG0 := Lib.hid hG
  have HQ := Lib.hid (And.intro (hra.ext Ew1) (hrs.ext Ew1))
  have HEW := Lib.hid Ew1
  have q0 : ((bs x0.op).toList == [110, 117, 109]) = false := by rw [bs_toList, beq_eq_false_iff_ne]; exact h0
  have q1 : ((bs x0.op).toList == [108, 105, 116]) = false := by rw [bs_toList, beq_eq_false_iff_ne]; exact h1
  have q2 : ((bs x0.op).toList == [110, 101, 103]) = false := by rw [bs_toList, beq_eq_false_iff_ne]; exact h2
  have q3 : ((bs x0.op).toList == [99, 97, 108, 108]) = false := by rw [bs_toList, beq_eq_false_iff_ne]; exact h3
  have q4 : ((bs x0.op).toList == [102, 105, 108, 116, 101, 114]) = false := by rw [bs_toList, beq_eq_false_iff_ne]; exact h4
  have q5 : ((bs x0.op).toList == [112, 97, 116, 104]) = true := by rw [bs_toList, beq_iff_eq]; exact h5
  replace hR := (if_neg h0).symm.trans hR
  replace hR := (if_neg h1).symm.trans hR
  replace hR := (if_neg h2).symm.trans hR
  replace hR := (if_neg h3).symm.trans hR
  replace hR := (if_neg h4).symm.trans hR
  replace hR := (if_pos h5).symm.trans hR
  have HC := Lib.hid (path_tx x0 HA HS (fun s hs => by have := wS_mem _ _ hs; have := wT_eq s; omega) (by rw [hR]; omega) w1 p0 _ (HG0.out.ext HEW.out) ⟨aa, ac, ad, ae, rfl, HQ.out.1, HQ.out.2⟩)
  have HR := Lib.hid hR
  clear h0 h1 h2 h3 h4 h5 hR hra hrs hG Ew1 hbw1 HQ HA HS htL hwE htw har hw
  go_enter Tryz.func10, Tryz.ntmps10
  go_wp2_with fail
  refine HC.out.mono ?_
  rintro e w2 ⟨rfl, hX⟩
  rw [HR.out]
  clear HC hw1 e0 e1 e2 e3 e4 e5 e6
  go_wp2_with fail
  go_ret
  exact ⟨rfl, HEW.out.trans hX⟩
set_option maxHeartbeats 8000000 in
theorem text_two (x0 : Ex) (HA : ∀ y ∈ x0.args, TxC y) (HS : ∀ s ∈ x0.steps, ∀ y ∈ s.preds, TxC y) (har : arE x0 = true) (hw : wE x0 ≤ 100000000) (h0 : ¬ x0.op = [110, 117, 109]) (h1 : ¬ x0.op = [108, 105, 116]) (h2 : ¬ x0.op = [110, 101, 103]) (h3 : ¬ x0.op = [99, 97, 108, 108]) (h4 : ¬ x0.op = [102, 105, 108, 116, 101, 114]) (h5 : ¬ x0.op = [112, 97, 116, 104]) : TxC x0 := by
  intro W p0 v hG hr
  have htw := tx_w x0
  have htL := txL_w x0.args
  have hwE := wE_eq x0
  obtain ⟨R, hR⟩ : ∃ R, txE x0 = R := ⟨_, rfl⟩
  rw [hR] at htw ⊢
  rw [txE_eq] at hR
  obtain ⟨aa, ac, ad, ae, rfl, hra, hrs⟩ := hr
  obtain ⟨w1, hw1⟩ : ∃ w, W.alloc (.cells #[.string (bs x0.op), .string (bs x0.text), .bool x0.nan, .int .i64 x0.val, .slice aa x0.args.length ac, .bool x0.abs, .slice ad x0.steps.length ae] 29) = w := ⟨_, rfl⟩
  have Ew1 : Ext W w1 := by rw [← hw1]; exact (Ext.refl W).alloc _
  have hbw1 : w1.heap[W.heap.size]? = some (.cells #[.string (bs x0.op), .string (bs x0.text), .bool x0.nan, .int .i64 x0.val, .slice aa x0.args.length ac, .bool x0.abs, .slice ad x0.steps.length ae] 29) := by rw [← hw1]; exact Array.getElem?_push_size

  have hle := blk_lt hbw1
  obtain ⟨eb, heb⟩ : ∃ r, W.heap.size = r := ⟨_, rfl⟩
  rw [heb] at hbw1 hle
  obtain ⟨e0, e1, e2, e3, e4, e5, e6⟩ := cells7 hbw1
  have HG0 := Lib.hid hG
  have HQ := Lib.hid (And.intro (hra.ext Ew1) (hrs.ext Ew1))
  have HEW := Lib.hid Ew1
  have q0 : ((bs x0.op).toList == [110, 117, 109]) = false := by rw [bs_toList, beq_eq_false_iff_ne]; exact h0
  have q1 : ((bs x0.op).toList == [108, 105, 116]) = false := by rw [bs_toList, beq_eq_false_iff_ne]; exact h1
  have q2 : ((bs x0.op).toList == [110, 101, 103]) = false := by rw [bs_toList, beq_eq_false_iff_ne]; exact h2
  have q3 : ((bs x0.op).toList == [99, 97, 108, 108]) = false := by rw [bs_toList, beq_eq_false_iff_ne]; exact h3
  have q4 : ((bs x0.op).toList == [102, 105, 108, 116, 101, 114]) = false := by rw [bs_toList, beq_eq_false_iff_ne]; exact h4
  have q5 : ((bs x0.op).toList == [112, 97, 116, 104]) = false := by rw [bs_toList, beq_eq_false_iff_ne]; exact h5
  replace hR := (if_neg h0).symm.trans hR
  replace hR := (if_neg h1).symm.trans hR
  replace hR := (if_neg h2).symm.trans hR
  replace hR := (if_neg h3).symm.trans hR
  replace hR := (if_neg h4).symm.trans hR
  replace hR := (if_neg h5).symm.trans hR
  have ha2 : 1 < x0.args.length := ar_two har h0 h1 h2 h3 h4 h5
  have ha : 0 < x0.args.length := by omega
  obtain ⟨b', off', had', _, ga, gc, gd, ge, ⟨k0, k1, k2, k3, k4, k5, k6⟩, hza, hzs⟩ := ex_at HQ.out.1 1 ha2
  have hzm := List.getElem_mem ha2
  have hhd2 : (txL x0.args).tail.headD [] = txE x0.args[1] := by
    rw [tail_tx, head_tx _ (by rw [List.length_drop]; omega), List.getElem_drop]
  have hzw := wL_mem _ _ hzm
  have hzt := tx_w x0.args[1]
  obtain ⟨z, hz⟩ : ∃ z, x0.args[1] = z := ⟨_, rfl⟩
  rw [hz] at k0 k1 k2 k3 k4 k5 k6 hza hzs hzm hhd2 hzw hzt
  rw [hhd2] at hR
  obtain ⟨b, off, had, hlb, ba, bc, bd, be, ⟨s0, s1, s2, s3, s4, s5, s6⟩, hya, hys⟩ := ex_at HQ.out.1 0 ha
  subst had
  simp only [Nat.zero_mul, Nat.add_zero] at s0 s1 s2 s3 s4 s5 s6
  have hym := List.getElem_mem ha
  have hhd : (txL x0.args).headD [] = txE x0.args[0] := head_tx x0.args ha
  have hyw := wL_mem _ _ hym
  have hyt := tx_w x0.args[0]
  obtain ⟨y, hy⟩ : ∃ y, x0.args[0] = y := ⟨_, rfl⟩
  rw [hy] at s0 s1 s2 s3 s4 s5 s6 hya hys hym hhd hyw hyt
  rw [hhd] at hR
  have haI : (0 : Int) < (x0.args.length : Int) := by omega
  have hne : ¬ x0.args = [] := by intro h; rw [h] at ha; exact absurd ha (by decide)
  obtain ⟨h1', h2'⟩ : b = b' ∧ off = off' := by simpa using had'
  subst h1' h2'
  simp only [Nat.one_mul] at k0 k1 k2 k3 k4 k5 k6
  have haI2 : (1 : Int) < (x0.args.length : Int) := by omega
  have HC := Lib.hid fun W (h : Sx w1 W) => HA y hym W (fun b => p0 b) _ (HG0.out.ext (HEW.out.trans h)) ⟨ba, bc, bd, be, rfl, hya.ext h, hys.ext h⟩
  have HC2 := Lib.hid fun W (h : Sx w1 W) => HA z hzm W (fun b => p0 b) _ (HG0.out.ext (HEW.out.trans h)) ⟨ga, gc, gd, ge, rfl, hza.ext h, hzs.ext h⟩
  obtain ⟨T, hT⟩ : ∃ T, txE y = T := ⟨_, rfl⟩
  rw [hT] at hR HC hyt
  obtain ⟨T2, hT2⟩ : ∃ T, txE z = T := ⟨_, rfl⟩
  rw [hT2] at hR HC2 hzt
  have hTl : T.length ≤ 100000000 := by omega
  have hTl2 : T2.length ≤ 100000000 := by omega
  have hol : x0.op.length ≤ 100000000 := by omega
  have HR := Lib.hid hR
  clear h0 h1 h2 h3 h4 h5 hR hra hrs hG Ew1 hbw1 HQ HA HS htL hwE htw har hw hT hT2 hhd hhd2 hy hya hys hym hyw hyt ha ha2 hz hza hzs hzm hzw hzt
  go_enter Tryz.func10, Tryz.ntmps10
  go_wp2_with fail
  clear hw1
  obtain ⟨wz, hwz⟩ : ∃ w, w = w1 := ⟨_, rfl⟩
  subst hwz
  refine rg_begin (S := Sx wz) (by kernel_rfl) (Sx.begin _) ?_
  have hSp : Sx wz (World.drew wz) := (Sx.begin _)
  refine rg_take 0 (some 67) (.pointer (some ⟨eb, 4, none⟩)) (oi := { dst := some 67, op := Go.Op.fieldAddr 29 (Go.Operand.tmp 1) 3, type := 0, pos := "qparse.go:415", after := #[], guard := none }) rfl rfl (by kernel_rfl) (by kernel_rfl) (by kernel_rfl) (fun _ _ _ h => h) hSp (by rfl) (fun w' hs => by first | rfl | go_simp) ?_
  simp only [Act.put, List.setIfInBounds_toArray, List.set_cons_zero, List.set_cons_succ]
  refine rg_take 1 (some 68) (.slice (some ⟨b, off, none⟩) x0.args.length ac) (oi := { dst := some 68, op := Go.Op.load 26 (Go.Operand.tmp 67), type := 26, pos := "qparse.go:415", after := #[{ on := 0, ground := Go.Ground.data }], guard := none }) rfl rfl (by kernel_rfl) (by kernel_rfl) (by kernel_rfl) (fun _ _ _ h => h) hSp (by rfl) (fun w' hs => by (have h0 := hs.cell hle e4; go_simp)) ?_
  simp only [Act.put, List.setIfInBounds_toArray, List.set_cons_zero, List.set_cons_succ]
  refine rg_take 2 (some 69) (.pointer (some ⟨b, off, none⟩)) (oi := { dst := some 69, op := Go.Op.indexAddr 26 (Go.Operand.tmp 68) (Go.Operand.const (Go.Value.int Go.IntKind.i64 0)), type := 0, pos := "qparse.go:415", after := #[{ on := 1, ground := Go.Ground.data }], guard := none }) rfl rfl (by kernel_rfl) (by kernel_rfl) (by kernel_rfl) (fun _ _ _ h => h) hSp (by rfl) (fun w' hs => by first | rfl | go_simp) ?_
  simp only [Act.put, List.setIfInBounds_toArray, List.set_cons_zero, List.set_cons_succ]
  refine rg_take 3 (some 70) (.agg #[.string (bs y.op), .string (bs y.text), .bool y.nan, .int .i64 y.val, .slice ba y.args.length bc, .bool y.abs, .slice bd y.steps.length be]) (oi := { dst := some 70, op := Go.Op.load 29 (Go.Operand.tmp 69), type := 29, pos := "qparse.go:415", after := #[{ on := 2, ground := Go.Ground.data }], guard := none }) rfl rfl (by kernel_rfl) (by kernel_rfl) (by kernel_rfl) (fun _ _ _ h => h) hSp (by rfl) (fun w' hs => by (have h0 := hs.cell hlb s0; have h1 := hs.cell hlb s1; have h2 := hs.cell hlb s2; have h3 := hs.cell hlb s3; have h4 := hs.cell hlb s4; have h5 := hs.cell hlb s5; have h6 := hs.cell hlb s6; go_simp)) ?_
  simp only [Act.put, List.setIfInBounds_toArray, List.set_cons_zero, List.set_cons_succ]
  refine rg_take 7 (some 74) (.pointer (some ⟨eb, 0, none⟩)) (oi := { dst := some 74, op := Go.Op.fieldAddr 29 (Go.Operand.tmp 1) 0, type := 0, pos := "qparse.go:415", after := #[], guard := none }) rfl rfl (by kernel_rfl) (by kernel_rfl) (by kernel_rfl) (fun _ _ _ h => h) hSp (by rfl) (fun w' hs => by first | rfl | go_simp) ?_
  simp only [Act.put, List.setIfInBounds_toArray, List.set_cons_zero, List.set_cons_succ]
  refine rg_take 8 (some 75) (.string (bs x0.op)) (oi := { dst := some 75, op := Go.Op.load 9 (Go.Operand.tmp 74), type := 9, pos := "qparse.go:415", after := #[{ on := 7, ground := Go.Ground.data }], guard := none }) rfl rfl (by kernel_rfl) (by kernel_rfl) (by kernel_rfl) (fun _ _ _ h => h) hSp (by rfl) (fun w' hs => by (have h0 := hs.cell hle e0; go_simp)) ?_
  simp only [Act.put, List.setIfInBounds_toArray, List.set_cons_zero, List.set_cons_succ]
  refine rg_take 11 (some 78) (.pointer (some ⟨eb, 4, none⟩)) (oi := { dst := some 78, op := Go.Op.fieldAddr 29 (Go.Operand.tmp 1) 3, type := 0, pos := "qparse.go:415", after := #[], guard := none }) rfl rfl (by kernel_rfl) (by kernel_rfl) (by kernel_rfl) (fun _ _ _ h => h) hSp (by rfl) (fun w' hs => by first | rfl | go_simp) ?_
  simp only [Act.put, List.setIfInBounds_toArray, List.set_cons_zero, List.set_cons_succ]
  refine rg_take 12 (some 79) (.slice (some ⟨b, off, none⟩) x0.args.length ac) (oi := { dst := some 79, op := Go.Op.load 26 (Go.Operand.tmp 78), type := 26, pos := "qparse.go:415", after := #[{ on := 11, ground := Go.Ground.data }], guard := none }) rfl rfl (by kernel_rfl) (by kernel_rfl) (by kernel_rfl) (fun _ _ _ h => h) hSp (by rfl) (fun w' hs => by (have h0 := hs.cell hle e4; go_simp)) ?_
  simp only [Act.put, List.setIfInBounds_toArray, List.set_cons_zero, List.set_cons_succ]
  refine rg_take 13 (some 80) (.pointer (some ⟨b, off + 7, none⟩)) (oi := { dst := some 80, op := Go.Op.indexAddr 26 (Go.Operand.tmp 79) (Go.Operand.const (Go.Value.int Go.IntKind.i64 1)), type := 0, pos := "qparse.go:415", after := #[{ on := 12, ground := Go.Ground.data }], guard := none }) rfl rfl (by kernel_rfl) (by kernel_rfl) (by kernel_rfl) (fun _ _ _ h => h) hSp (by rfl) (fun w' hs => by first | rfl | go_simp) ?_
  simp only [Act.put, List.setIfInBounds_toArray, List.set_cons_zero, List.set_cons_succ]
  refine rg_take 14 (some 81) (.agg #[.string (bs z.op), .string (bs z.text), .bool z.nan, .int .i64 z.val, .slice ga z.args.length gc, .bool z.abs, .slice gd z.steps.length ge]) (oi := { dst := some 81, op := Go.Op.load 29 (Go.Operand.tmp 80), type := 29, pos := "qparse.go:415", after := #[{ on := 13, ground := Go.Ground.data }], guard := none }) rfl rfl (by kernel_rfl) (by kernel_rfl) (by kernel_rfl) (fun _ _ _ h => h) hSp (by rfl) (fun w' hs => by (have h0 := hs.cell hlb k0; have h1 := hs.cell hlb k1; have h2 := hs.cell hlb k2; have h3 := hs.cell hlb k3; have h4 := hs.cell hlb k4; have h5 := hs.cell hlb k5; have h6 := hs.cell hlb k6; go_simp)) ?_
  simp only [Act.put, List.setIfInBounds_toArray, List.set_cons_zero, List.set_cons_succ]
  refine rg_call 4 (some 71) 10 #[.agg #[.string (bs y.op), .string (bs y.text), .bool y.nan, .int .i64 y.val, .slice ba y.args.length bc, .bool y.abs, .slice bd y.steps.length be]] (oi := { dst := some 71, op := Go.Op.call { callee := Go.Callee.value (Go.Operand.func 10), args := #[Go.Operand.tmp 70], argTypes := #[29] }, type := 9, pos := "qparse.go:415", after := #[{ on := 3, ground := Go.Ground.data }], guard := none }) rfl rfl (by kernel_rfl) (by rfl) (fun w' => by first | rfl | go_simp) (R := fun v w' => v = .string (bs T) ∧ Ext (World.drew wz) w') ?_ ?_
  · refine (HC.out (World.drew wz) hSp).mono ?_
    rintro e w' ⟨rfl, h⟩
    exact ⟨_, rfl, rfl, h⟩
  rintro _ wrp1 ⟨rfl, hBrp1⟩
  have hSp1 := hSp.ext hBrp1
  refine ⟨hSp1, ?_⟩
  simp only [Act.put, List.setIfInBounds_toArray, List.set_cons_zero, List.set_cons_succ]
  refine rg_take 5 (some 72) (.string (bs (([40] : List UInt8) ++ T))) (oi := { dst := some 72, op := Go.Op.binOp Go.BinOp.add 9 (Go.Operand.const (Go.Value.string { data := #[40] })) (Go.Operand.tmp 71) 9, type := 9, pos := "qparse.go:415", after := #[{ on := 4, ground := Go.Ground.data }], guard := none }) rfl rfl (by kernel_rfl) (by kernel_rfl) (by kernel_rfl) (fun _ _ _ h => h) hSp1 (by rfl) (fun w' hs => by exact exec_sadd (s := ([40] : List UInt8)) (t := T) rfl rfl rfl (by (try simp only [List.length_append, List.length_cons, List.length_nil]); omega) _) ?_
  simp only [Act.put, List.setIfInBounds_toArray, List.set_cons_zero, List.set_cons_succ]
  refine rg_take 6 (some 73) (.string (bs (((([40] : List UInt8) ++ T)) ++ ([32] : List UInt8)))) (oi := { dst := some 73, op := Go.Op.binOp Go.BinOp.add 9 (Go.Operand.tmp 72) (Go.Operand.const (Go.Value.string { data := #[32] })) 9, type := 9, pos := "qparse.go:415", after := #[{ on := 5, ground := Go.Ground.data }], guard := none }) rfl rfl (by kernel_rfl) (by kernel_rfl) (by kernel_rfl) (fun _ _ _ h => h) hSp1 (by rfl) (fun w' hs => by exact exec_sadd (s := (([40] : List UInt8) ++ T)) (t := ([32] : List UInt8)) rfl rfl rfl (by (try simp only [List.length_append, List.length_cons, List.length_nil]); omega) _) ?_
  simp only [Act.put, List.setIfInBounds_toArray, List.set_cons_zero, List.set_cons_succ]
  refine rg_take 9 (some 76) (.string (bs (((((([40] : List UInt8) ++ T)) ++ ([32] : List UInt8))) ++ x0.op))) (oi := { dst := some 76, op := Go.Op.binOp Go.BinOp.add 9 (Go.Operand.tmp 73) (Go.Operand.tmp 75) 9, type := 9, pos := "qparse.go:415", after := #[{ on := 6, ground := Go.Ground.data }, { on := 8, ground := Go.Ground.data }], guard := none }) rfl rfl (by kernel_rfl) (by kernel_rfl) (by kernel_rfl) (fun _ _ _ h => h) hSp1 (by rfl) (fun w' hs => by exact exec_sadd (s := (((([40] : List UInt8) ++ T)) ++ ([32] : List UInt8))) (t := x0.op) rfl rfl rfl (by (try simp only [List.length_append, List.length_cons, List.length_nil]); omega) _) ?_
  simp only [Act.put, List.setIfInBounds_toArray, List.set_cons_zero, List.set_cons_succ]
  refine rg_take 10 (some 77) (.string (bs (((((((([40] : List UInt8) ++ T)) ++ ([32] : List UInt8))) ++ x0.op)) ++ ([32] : List UInt8)))) (oi := { dst := some 77, op := Go.Op.binOp Go.BinOp.add 9 (Go.Operand.tmp 76) (Go.Operand.const (Go.Value.string { data := #[32] })) 9, type := 9, pos := "qparse.go:415", after := #[{ on := 9, ground := Go.Ground.data }], guard := none }) rfl rfl (by kernel_rfl) (by kernel_rfl) (by kernel_rfl) (fun _ _ _ h => h) hSp1 (by rfl) (fun w' hs => by exact exec_sadd (s := (((((([40] : List UInt8) ++ T)) ++ ([32] : List UInt8))) ++ x0.op)) (t := ([32] : List UInt8)) rfl rfl rfl (by (try simp only [List.length_append, List.length_cons, List.length_nil]); omega) _) ?_
  simp only [Act.put, List.setIfInBounds_toArray, List.set_cons_zero, List.set_cons_succ]
  refine rg_call 15 (some 82) 10 #[.agg #[.string (bs z.op), .string (bs z.text), .bool z.nan, .int .i64 z.val, .slice ga z.args.length gc, .bool z.abs, .slice gd z.steps.length ge]] (oi := { dst := some 82, op := Go.Op.call { callee := Go.Callee.value (Go.Operand.func 10), args := #[Go.Operand.tmp 81], argTypes := #[29] }, type := 9, pos := "qparse.go:415", after := #[{ on := 14, ground := Go.Ground.data }, { on := 4, ground := Go.Ground.chain }], guard := none }) rfl rfl (by kernel_rfl) (by rfl) (fun w' => by first | rfl | go_simp) (R := fun v w' => v = .string (bs T2) ∧ Ext wrp1 w') ?_ ?_
  · refine (HC2.out wrp1 hSp1).mono ?_
    rintro e w' ⟨rfl, h⟩
    exact ⟨_, rfl, rfl, h⟩
  rintro _ wrp2 ⟨rfl, hBrp2⟩
  have hSp2 := hSp1.ext hBrp2
  refine ⟨hSp2, ?_⟩
  simp only [Act.put, List.setIfInBounds_toArray, List.set_cons_zero, List.set_cons_succ]
  refine rg_take 16 (some 83) (.string (bs (((((((((([40] : List UInt8) ++ T)) ++ ([32] : List UInt8))) ++ x0.op)) ++ ([32] : List UInt8))) ++ T2))) (oi := { dst := some 83, op := Go.Op.binOp Go.BinOp.add 9 (Go.Operand.tmp 77) (Go.Operand.tmp 82) 9, type := 9, pos := "qparse.go:415", after := #[{ on := 10, ground := Go.Ground.data }, { on := 15, ground := Go.Ground.data }], guard := none }) rfl rfl (by kernel_rfl) (by kernel_rfl) (by kernel_rfl) (fun _ _ _ h => h) hSp2 (by rfl) (fun w' hs => by exact exec_sadd (s := (((((((([40] : List UInt8) ++ T)) ++ ([32] : List UInt8))) ++ x0.op)) ++ ([32] : List UInt8))) (t := T2) rfl rfl rfl (by (try simp only [List.length_append, List.length_cons, List.length_nil]); omega) _) ?_
  simp only [Act.put, List.setIfInBounds_toArray, List.set_cons_zero, List.set_cons_succ]
  refine rg_take 17 (some 84) (.string (bs (((((((((((([40] : List UInt8) ++ T)) ++ ([32] : List UInt8))) ++ x0.op)) ++ ([32] : List UInt8))) ++ T2)) ++ ([41] : List UInt8)))) (oi := { dst := some 84, op := Go.Op.binOp Go.BinOp.add 9 (Go.Operand.tmp 83) (Go.Operand.const (Go.Value.string { data := #[41] })) 9, type := 9, pos := "qparse.go:415", after := #[{ on := 16, ground := Go.Ground.data }], guard := none }) rfl rfl (by kernel_rfl) (by kernel_rfl) (by kernel_rfl) (fun _ _ _ h => h) hSp2 (by rfl) (fun w' hs => by exact exec_sadd (s := (((((((((([40] : List UInt8) ++ T)) ++ ([32] : List UInt8))) ++ x0.op)) ++ ([32] : List UInt8))) ++ T2)) (t := ([41] : List UInt8)) rfl rfl rfl (by (try simp only [List.length_append, List.length_cons, List.length_nil]); omega) _) ?_
  simp only [Act.put, List.setIfInBounds_toArray, List.set_cons_zero, List.set_cons_succ]
  refine rg_take 18 (some 2) (.string (bs (((((((((((([40] : List UInt8) ++ T)) ++ ([32] : List UInt8))) ++ x0.op)) ++ ([32] : List UInt8))) ++ T2)) ++ ([41] : List UInt8)))) (oi := { dst := some 2, op := Go.Op.assign (Go.Operand.tmp 84), type := 9, pos := "qparse.go:415", after := #[{ on := 17, ground := Go.Ground.data }, { on := 15, ground := Go.Ground.chain }, { on := 0, ground := Go.Ground.phase }, { on := 1, ground := Go.Ground.phase }, { on := 2, ground := Go.Ground.phase }, { on := 3, ground := Go.Ground.phase }, { on := 4, ground := Go.Ground.phase }, { on := 5, ground := Go.Ground.phase }, { on := 6, ground := Go.Ground.phase }, { on := 7, ground := Go.Ground.phase }, { on := 8, ground := Go.Ground.phase }, { on := 9, ground := Go.Ground.phase }, { on := 10, ground := Go.Ground.phase }, { on := 11, ground := Go.Ground.phase }, { on := 12, ground := Go.Ground.phase }, { on := 13, ground := Go.Ground.phase }, { on := 14, ground := Go.Ground.phase }, { on := 15, ground := Go.Ground.phase }, { on := 16, ground := Go.Ground.phase }, { on := 17, ground := Go.Ground.phase }], guard := none }) rfl rfl (by kernel_rfl) (by kernel_rfl) (by kernel_rfl) (fun _ _ _ h => h) hSp2 (by rfl) (fun w' hs => by rfl) ?_
  simp only [Act.put, List.setIfInBounds_toArray, List.set_cons_zero, List.set_cons_succ]
  refine rg_done (by kernel_rfl) ?_
  go_wp2_with fail
  go_ret
  exact ⟨by rw [← HR.out]; rfl, HEW.out.trans hSp2⟩
/-- A tree written out. -/
theorem text_all : ∀ (n : Nat) (x : Ex), wE x ≤ n → arE x = true → wE x ≤ 100000000 → TxC x := by
  intro n
  induction n with
  | zero => intro x h; have := wE_eq x; omega
  | succ n ih =>
    intro x hn har hw
    have he := wE_eq x
    have ha : arL x.args = true ∧ arS x.steps = true := by
      cases x
      rw [arE, Bool.and_eq_true, Bool.and_eq_true] at har
      exact ⟨har.1.2, har.2⟩
    have HA : ∀ y ∈ x.args, TxC y := fun y hy => by
      have := wL_mem _ _ hy
      exact ih y (by omega) (arL_mem _ _ ha.1 hy) (by omega)
    have HS : ∀ s ∈ x.steps, ∀ y ∈ s.preds, TxC y := fun s hs y hy => by
      have h1 := wS_mem _ _ hs
      have h2 := wT_eq s
      have h3 := wL_mem _ _ hy
      have h4 := arS_mem _ _ ha.2 hs
      exact ih y (by omega) (arL_mem _ _ (by cases s; rw [arT] at h4; exact h4) hy) (by omega)
    by_cases h0 : x.op = [110, 117, 109]
    · exact text_num x HA HS har hw h0
    by_cases h1 : x.op = [108, 105, 116]
    · exact text_lit x HA HS har hw h0 h1
    by_cases h2 : x.op = [110, 101, 103]
    · exact text_neg x HA HS har hw h0 h1 h2
    by_cases h3 : x.op = [99, 97, 108, 108]
    · exact text_call x HA HS har hw h0 h1 h2 h3
    by_cases h4 : x.op = [102, 105, 108, 116, 101, 114]
    · exact text_filter x HA HS har hw h0 h1 h2 h3 h4
    by_cases h5 : x.op = [112, 97, 116, 104]
    · exact text_path x HA HS har hw h0 h1 h2 h3 h4 h5
    exact text_two x HA HS har hw h0 h1 h2 h3 h4 h5

end Go.Proofs.YtfoclfefjcnllaaGreatDoor

/-
  What the laws Deep and Binds and their awake ask of the parser's plain function. Helper lemmas; no statement of the seat is proved here.
-/
namespace Go.Proofs.YtfoclfefjcnllaaGreatDoor
set_option linter.unusedVariables false

def repQ (k : Nat) (t : List UInt8) : List UInt8 := (List.replicate k t).flatten
def openQ (i : Nat) : List UInt8 := if i = 0 then [40] else if i = 1 then [110, 111, 116, 40] else [97, 91]
def shutQ (i : Nat) : List UInt8 := if i = 2 then [93] else [41]
def deepT (k i : Nat) : List UInt8 := repQ k (openQ i) ++ [49] ++ repQ k (shutQ i)
/-- What the law asks: the code and the place. -/
def deepOk (k i : Nat) : Bool := match parseP (deepT k i) with
  | .error (c, a) => decide (24 < k) && decide (c = 7) && decide (a = ((25 * (openQ i).length : Nat) : Int))
  | .ok _ => decide (k ≤ 24)
def OPS13 : List (List UInt8) := [[111, 114], [97, 110, 100], [61], [33, 61], [60], [60, 61], [62], [62, 61], [43], [45], [42], [100, 105, 118], [109, 111, 100]]
def tightQ : List Nat := [1, 2, 3, 3, 4, 4, 4, 4, 5, 5, 6, 6, 6]
def opQ (i : Nat) : List UInt8 := OPS13.getD i []
def bindsT (i k : Nat) : List UInt8 := [49, 32] ++ opQ i ++ [32, 50, 32] ++ opQ k ++ [32, 51]
def wantT (i k : Nat) : List UInt8 :=
  if tightQ.getD i 0 < tightQ.getD k 0 then [40, 49, 32] ++ opQ i ++ [32, 40, 50, 32] ++ opQ k ++ [32, 51, 41, 41] else [40, 40, 49, 32] ++ opQ i ++ [32, 50, 41, 32] ++ opQ k ++ [32, 51, 41]
def argsN : Ex → Nat
  | .mk _ _ _ _ l _ _ => l.length
def bindsOk (i k : Nat) : Bool := match parseP (bindsT i k) with
  | .error _ => false
  | .ok x => argsN x == 2 && txE x == wantT i k && match parseP (wantT i k) with
    | .error _ => false
    | .ok y => sameE x y
theorem deep_0_0 : ((List.range' 0 10).all fun k => deepOk k 0) = true := by kernel_rfl
theorem deep_0_1 : ((List.range' 0 10).all fun k => deepOk k 1) = true := by kernel_rfl
theorem deep_0_2 : ((List.range' 0 10).all fun k => deepOk k 2) = true := by kernel_rfl
theorem deep_10_0 : ((List.range' 10 10).all fun k => deepOk k 0) = true := by kernel_rfl
theorem deep_10_1 : ((List.range' 10 10).all fun k => deepOk k 1) = true := by kernel_rfl
theorem deep_10_2 : ((List.range' 10 10).all fun k => deepOk k 2) = true := by kernel_rfl
theorem deep_20_0 : ((List.range' 20 10).all fun k => deepOk k 0) = true := by kernel_rfl
theorem deep_20_1 : ((List.range' 20 10).all fun k => deepOk k 1) = true := by kernel_rfl
theorem deep_20_2 : ((List.range' 20 10).all fun k => deepOk k 2) = true := by kernel_rfl
theorem deep_30_0 : ((List.range' 30 10).all fun k => deepOk k 0) = true := by kernel_rfl
theorem deep_30_1 : ((List.range' 30 10).all fun k => deepOk k 1) = true := by kernel_rfl
theorem deep_30_2 : ((List.range' 30 10).all fun k => deepOk k 2) = true := by kernel_rfl
theorem binds_0 : ((List.range 13).all fun k => bindsOk 0 k) = true := by kernel_rfl
theorem binds_1 : ((List.range 13).all fun k => bindsOk 1 k) = true := by kernel_rfl
theorem binds_2 : ((List.range 13).all fun k => bindsOk 2 k) = true := by kernel_rfl
theorem binds_3 : ((List.range 13).all fun k => bindsOk 3 k) = true := by kernel_rfl
theorem binds_4 : ((List.range 13).all fun k => bindsOk 4 k) = true := by kernel_rfl
theorem binds_5 : ((List.range 13).all fun k => bindsOk 5 k) = true := by kernel_rfl
theorem binds_6 : ((List.range 13).all fun k => bindsOk 6 k) = true := by kernel_rfl
theorem binds_7 : ((List.range 13).all fun k => bindsOk 7 k) = true := by kernel_rfl
theorem binds_8 : ((List.range 13).all fun k => bindsOk 8 k) = true := by kernel_rfl
theorem binds_9 : ((List.range 13).all fun k => bindsOk 9 k) = true := by kernel_rfl
theorem binds_10 : ((List.range 13).all fun k => bindsOk 10 k) = true := by kernel_rfl
theorem binds_11 : ((List.range 13).all fun k => bindsOk 11 k) = true := by kernel_rfl
theorem binds_12 : ((List.range 13).all fun k => bindsOk 12 k) = true := by kernel_rfl
theorem in_range' {n a k : Nat} (h1 : a ≤ k) (h2 : k < a + n) : k ∈ List.range' a n := by rw [List.mem_range'_1]; exact ⟨h1, h2⟩
theorem deep_ok (k i : Nat) (hk : k < 40) (hi : i < 3) : deepOk k i = true := by
  match i, hi with
  | 0, _ =>
    rcases (by omega : k < 10 ∨ (10 ≤ k ∧ k < 20) ∨ (20 ≤ k ∧ k < 30) ∨ 30 ≤ k) with h | h | h | h
    · exact List.all_eq_true.1 deep_0_0 k (in_range' (by omega) (by omega))
    · exact List.all_eq_true.1 deep_10_0 k (in_range' (by omega) (by omega))
    · exact List.all_eq_true.1 deep_20_0 k (in_range' (by omega) (by omega))
    · exact List.all_eq_true.1 deep_30_0 k (in_range' (by omega) (by omega))
  | 1, _ =>
    rcases (by omega : k < 10 ∨ (10 ≤ k ∧ k < 20) ∨ (20 ≤ k ∧ k < 30) ∨ 30 ≤ k) with h | h | h | h
    · exact List.all_eq_true.1 deep_0_1 k (in_range' (by omega) (by omega))
    · exact List.all_eq_true.1 deep_10_1 k (in_range' (by omega) (by omega))
    · exact List.all_eq_true.1 deep_20_1 k (in_range' (by omega) (by omega))
    · exact List.all_eq_true.1 deep_30_1 k (in_range' (by omega) (by omega))
  | 2, _ =>
    rcases (by omega : k < 10 ∨ (10 ≤ k ∧ k < 20) ∨ (20 ≤ k ∧ k < 30) ∨ 30 ≤ k) with h | h | h | h
    · exact List.all_eq_true.1 deep_0_2 k (in_range' (by omega) (by omega))
    · exact List.all_eq_true.1 deep_10_2 k (in_range' (by omega) (by omega))
    · exact List.all_eq_true.1 deep_20_2 k (in_range' (by omega) (by omega))
    · exact List.all_eq_true.1 deep_30_2 k (in_range' (by omega) (by omega))
theorem binds_ok (i k : Nat) (hi : i < 13) (hk : k < 13) : bindsOk i k = true := by
  match i, hi with
  | 0, _ => exact List.all_eq_true.1 binds_0 k (List.mem_range.2 hk)
  | 1, _ => exact List.all_eq_true.1 binds_1 k (List.mem_range.2 hk)
  | 2, _ => exact List.all_eq_true.1 binds_2 k (List.mem_range.2 hk)
  | 3, _ => exact List.all_eq_true.1 binds_3 k (List.mem_range.2 hk)
  | 4, _ => exact List.all_eq_true.1 binds_4 k (List.mem_range.2 hk)
  | 5, _ => exact List.all_eq_true.1 binds_5 k (List.mem_range.2 hk)
  | 6, _ => exact List.all_eq_true.1 binds_6 k (List.mem_range.2 hk)
  | 7, _ => exact List.all_eq_true.1 binds_7 k (List.mem_range.2 hk)
  | 8, _ => exact List.all_eq_true.1 binds_8 k (List.mem_range.2 hk)
  | 9, _ => exact List.all_eq_true.1 binds_9 k (List.mem_range.2 hk)
  | 10, _ => exact List.all_eq_true.1 binds_10 k (List.mem_range.2 hk)
  | 11, _ => exact List.all_eq_true.1 binds_11 k (List.mem_range.2 hk)
  | 12, _ => exact List.all_eq_true.1 binds_12 k (List.mem_range.2 hk)
def okText (r : Except (Int × Int) Ex) : Option (List UInt8) := match r with
  | .ok e => some (txE e)
  | .error _ => none
def errOf (r : Except (Int × Int) Ex) : Int × Int := match r with
  | .ok _ => (0, 0)
  | .error e => e
theorem awake_1 : okText (parseP [45, 97, 32, 43, 32, 50]) = some [40, 40, 45, 99, 104, 105, 108, 100, 58, 58, 97, 41, 32, 43, 32, 50, 41] := by kernel_rfl
theorem awake_2 : (errOf (parseP [102, 40, 41])).1 = 63 := by kernel_rfl
theorem awake_3 : errOf (parseP [97, 91]) = (61, 2) := by kernel_rfl
end Go.Proofs.YtfoclfefjcnllaaGreatDoor

/-
  What every law of layer 21 begins with: awake. Helper lemmas; no statement of the seat is proved here.
-/
namespace Go.Proofs.YtfoclfefjcnllaaGreatDoor
open Go.RowKit
set_option maxRecDepth 100000
set_option linter.unusedVariables false
set_option linter.unusedSimpArgs false

theorem QEnv.ext {W w : World} (h : QEnv W) (k : Ext W w) : QEnv w := ⟨fun x hx => h.tb x (k.trans hx), fun x hx => h.sp x (k.trans hx), fun x hx => h.gl x (k.trans hx)⟩
theorem parse_w (s : List UInt8) (hl : s.length ≤ 1000) (W : World) (HV : QEnv W) {x : Ex} (h : parseP s = .ok x) : arE x = true ∧ wE x ≤ 4000000 := by
  obtain ⟨e, w', fr, hA, _⟩ := all_any s W hl HV.tb []
  rw [parseP_eq] at h
  revert h hA
  cases allS s with
  | error e => intro h hA; cases h
  | ok ts =>
    intro h hA
    obtain ⟨hE, v, he, hlen, hrep, htx⟩ := hA
    dsimp only at h
    unfold allR at h
    revert h
    cases hx : exprP ts s.length (fuelP ts) 0 0 with
    | error e => intro h; cases h
    | ok y =>
      obtain ⟨e2, i⟩ := y
      intro h
      dsimp only at h
      split at h
      · cases h
      · cases h
        obtain ⟨h1, h2, h3⟩ := (ok_all ts s.length htx (fuelP ts)).1 0 0 _ _ hx
        exact ⟨h1, by omega⟩
/-- What a parsed tree's text is. -/
theorem parse_tx (s : List UInt8) (hl : s.length ≤ 1000) (W : World) (HV : QEnv W) {x : Ex} (h : parseP s = .ok x) : TxC x := by
  obtain ⟨h1, h2⟩ := parse_w s hl W HV h
  exact text_all _ x (Nat.le_refl _) h1 (by omega)
theorem awake_ok : ∃ x, parseP [45, 97, 32, 43, 32, 50] = .ok x ∧ txE x = [40, 40, 45, 99, 104, 105, 108, 100, 58, 58, 97, 41, 32, 43, 32, 50, 41] := by
  have h := awake_1
  obtain ⟨r, hr⟩ : ∃ r, parseP [45, 97, 32, 43, 32, 50] = r := ⟨_, rfl⟩
  rw [hr] at h
  cases r with
  | error e => cases h
  | ok x => exact ⟨x, hr, Option.some.inj h⟩
theorem awake_er2 : ∃ a, parseP [102, 40, 41] = .error (63, a) := by
  have h := awake_2
  obtain ⟨r, hr⟩ : ∃ r, parseP [102, 40, 41] = r := ⟨_, rfl⟩
  rw [hr] at h
  cases r with
  | error e => obtain ⟨c, a⟩ := e; exact ⟨a, by rw [hr]; exact congrArg (fun z => Except.error (z, a)) h⟩
  | ok x => exact absurd h (by show ¬ (0 : Int) = 63; decide)
theorem awake_er3 : parseP [97, 91] = .error (61, 2) := by
  have h := awake_3
  obtain ⟨r, hr⟩ : ∃ r, parseP [97, 91] = r := ⟨_, rfl⟩
  rw [hr] at h
  cases r with
  | error e => rw [hr]; exact congrArg Except.error h
  | ok x => exact absurd (congrArg Prod.fst h) (by show ¬ (0 : Int) = 61; decide)
set_option maxHeartbeats 8000000 in
theorem awake_any (W : World) (HV : QEnv W) (HG : GlobE W) : Calls Tryz.prog 6 #[] W fun e w' => e = .returned (.bool true) ∧ Ext W w' := by
  obtain ⟨x, hx, htx⟩ := awake_ok
  obtain ⟨a2, he2⟩ := awake_er2
  have HT := Lib.hid (parse_tx _ (by decide) W HV hx)
  have P1 := parse_qany [45, 97, 32, 43, 32, 50] W (by decide) HV
  have P2 := fun w (h : Ext W w) => parse_qany [102, 40, 41] w (by decide) (HV.ext h)
  have P3 := fun w (h : Ext W w) => parse_qany [97, 91] w (by decide) (HV.ext h)
  rw [hx] at P1
  simp only [he2, awake_er3] at P2 P3
  have H1 := Lib.hid P1
  have H2 := Lib.hid P2
  have H3 := Lib.hid P3
  have HV0 := Lib.hid HV
  have HG0 := Lib.hid HG
  have HX := Lib.hid htx
  clear P1 P2 P3 hx he2 HV HG htx
  go_enter Tryz.func6, Tryz.ntmps6
  go_wp2_with fail
  refine H1.out.mono ?_
  rintro e w1 ⟨hX1, v, rfl, aa, ac, ad, ae, rfl, hra, hrs, ho, ht⟩
  clear H1
  obtain ⟨w2, hw2⟩ : ∃ w, w1.alloc (.cells #[.string (bs x.op), .string (bs x.text), .bool x.nan, .int .i64 x.val, .slice aa x.args.length ac, .bool x.abs, .slice ad x.steps.length ae] 29) = w := ⟨_, rfl⟩
  have Ew2 : Ext w1 w2 := by rw [← hw2]; exact (Ext.refl w1).alloc _
  have hbw2 : w2.heap[w1.heap.size]? = some (.cells #[.string (bs x.op), .string (bs x.text), .bool x.nan, .int .i64 x.val, .slice aa x.args.length ac, .bool x.abs, .slice ad x.steps.length ae] 29) := by rw [← hw2]; exact Array.getElem?_push_size
  obtain ⟨xb, hxb⟩ : ∃ r, w1.heap.size = r := ⟨_, rfl⟩
  rw [hxb] at hbw2
  have hlx := blk_lt hbw2
  have HR := Lib.hid (And.intro (hra.ext Ew2) (And.intro (hrs.ext Ew2) (And.intro hbw2 (hX1.trans Ew2))))
  clear hra hrs Ew2 hbw2 hX1 ho ht
  go_wp2_with fail
  refine (H2.out w2 HR.out.2.2.2).mono ?_
  rintro e w3 ⟨hX3, v2, rfl, hev2⟩
  clear H2 hw2
  obtain ⟨w4, hw4⟩ : ∃ w, w3.alloc (.cells #[.string ⟨#[]⟩, .string ⟨#[]⟩, .bool false, .int .i64 0, .slice none 0 0, .bool false, .slice none 0 0] 29) = w := ⟨_, rfl⟩
  have Ew4 : Ext w3 w4 := by rw [← hw4]; exact (Ext.refl w3).alloc _
  have HE2 := Lib.hid (And.intro (hev2.ext Ew4) (hX3.trans Ew4))
  have HW4 := Lib.hid hw4
  clear hev2 hX3 Ew4 hw4
  go_wp2_with fail
  rw [HW4.out]
  refine (H3.out w4 (HR.out.2.2.2.trans HE2.out.2)).mono ?_
  rintro e w5 ⟨hX5, v3, rfl, hev3⟩
  clear H3 HW4
  obtain ⟨w6, hw6⟩ : ∃ w, w5.alloc (.cells #[.string ⟨#[]⟩, .string ⟨#[]⟩, .bool false, .int .i64 0, .slice none 0 0, .bool false, .slice none 0 0] 29) = w := ⟨_, rfl⟩
  have Ew6 : Ext w5 w6 := by rw [← hw6]; exact (Ext.refl w5).alloc _
  have hE26 := HE2.out.2.trans (hX5.trans Ew6)
  have hb6 := (Below.block hE26 _ hlx).trans HR.out.2.2.1
  obtain ⟨k0, k1, k2, k3, k4, k5, k6⟩ := cells7 hb6
  have hE06 := HR.out.2.2.2.trans hE26
  have HC := Lib.hid (HT.out w6 _ _ (HV0.out.ext hE06).gl ⟨aa, ac, ad, ae, rfl, HR.out.1.ext hE26, HR.out.2.1.ext hE26⟩)
  have HE := Lib.hid (And.intro hE06 (And.intro (HE2.out.1.ext (hX5.trans Ew6)) (hev3.ext Ew6)))
  obtain ⟨T, hT⟩ : ∃ T, txE x = T := ⟨_, rfl⟩
  rw [hT] at HC HX
  have hq : ((bs T).toList == [40, 40, 45, 99, 104, 105, 108, 100, 58, 58, 97, 41, 32, 43, 32, 50, 41]) = true := by rw [bs_toList, beq_iff_eq]; exact HX.out
  clear hX5 Ew6 hE26 hb6 hE06 hev3 HE2 HR hT HX HT
  subst hw6
  go_wp2_with fail
  refine HC.out.mono ?_
  rintro e w7 ⟨rfl, hX7⟩
  have H4 := Lib.hid (code_any 63 a2 _ v2 w7 (HG0.out.ext (HE.out.1.trans hX7)) (HE.out.2.1.ext hX7))
  replace HE := Lib.hid (And.intro (HE.out.1.trans hX7) (HE.out.2.2.ext hX7))
  clear HC hX7 k0 k1 k2 k3 k4 k5 k6
  go_wp2_with fail
  refine H4.out.mono ?_
  rintro e w8 ⟨rfl, hX8⟩
  have H5 := Lib.hid (code_any 61 2 _ v3 w8 (HG0.out.ext (HE.out.1.trans hX8)) (HE.out.2.ext hX8))
  replace HE := Lib.hid (And.intro (HE.out.1.trans hX8) (HE.out.2.ext hX8))
  clear H4 hX8
  go_wp2_with fail
  refine H5.out.mono ?_
  rintro e w9 ⟨rfl, hX9⟩
  have H6 := Lib.hid (at_any 61 2 _ v3 w9 (HG0.out.ext (HE.out.1.trans hX9)) (HE.out.2.ext hX9))
  replace HE := Lib.hid (HE.out.1.trans hX9)
  clear H5 hX9
  go_wp2_with fail
  refine H6.out.mono ?_
  rintro e w10 ⟨rfl, hX10⟩
  clear H6
  go_wp2_with fail
  go_ret
  exact ⟨rfl, HE.out.trans hX10⟩
end Go.Proofs.YtfoclfefjcnllaaGreatDoor

/-
  What the rows of this seat list of package-level variables: what it gives the walks, and a world that meets it. Helper lemmas; no statement of the seat is proved here.
-/
namespace Go.Proofs.YtfoclfefjcnllaaGreatDoor
set_option linter.unusedVariables false
set_option maxRecDepth 100000
open Go.ChangeShapes Go.WideShapes Go.ChangeAt Go.RowKit

theorem typesN : Tryz.prog.types.size = 263 := by kernel_rfl
theorem own : ownKnob Tryz.prog.godebug = none := by kernel_rfl
theorem gPow : Tryz.prog.globalNamed "internal/strconv.uint64pow10" = some 1 := by kernel_rfl
theorem gPowType : (Tryz.prog.globals[1]?).map (·.type) = some 164 := by kernel_rfl
theorem cellsPow : Tryz.prog.cellsOf 164 = 20 := by kernel_rfl
theorem cellsU64 : Tryz.prog.cellsOf 93 = 1 := by kernel_rfl
theorem gSp : Tryz.prog.globalNamed "strings.asciiSpace" = some 7 := by kernel_rfl
theorem gSpType : (Tryz.prog.globals[7]?).map (·.type) = some 171 := by kernel_rfl
theorem cellsSp : Tryz.prog.cellsOf 171 = 256 := by kernel_rfl
theorem cellsU8 : Tryz.prog.cellsOf 5 = 1 := by kernel_rfl
theorem gErr : Tryz.prog.globalNamed "errors.errorType" = some 0 := by kernel_rfl
theorem cutRt : (Tryz.prog.cutTypes.find? (·.1 == "internal/reflectlite.rtype")).map (·.2) = some 114 := by kernel_rfl
theorem oneRow : ((List.range 263).filter fun t => Tryz.prog.rowNamed t [101, 114, 114, 111, 114]) = [31] := by kernel_rfl

theorem tabIs_of_reads {P : Program} {W : World} {name : String} {k : IntKind} {zs : List Int} {g : Nat} {t e : TypeId} {n : Nat}
    (hg : P.globalNamed name = some g) (hty : (P.globals[g]?).map (·.type) = some t) (ht : P.underlying t = some (.array n e)) (he : P.underlying e = some (.int k)) (hce : P.cellsOf e = 1) (hct : P.cellsOf t = n)
    (h : Lib.VarReads P W name (Lib.tabData k zs)) : Lib.TabIs P W name k zs := by
  obtain ⟨g', t', cs, fuel, p, hg', ht', hvar, hd⟩ := h
  obtain rfl := Option.some.inj (hg.symm.trans hg')
  obtain rfl := Option.some.inj (hty.symm.trans ht')
  unfold Lib.TabIs
  rw [hvar, ← Lib.cells_of_tab ht he hce hct hd]
/-- What every row of the laws lists. -/
def laidQ : List (String × DataW Unit) := Rows.qparseDeepRow.laid
theorem globE_of {W : World} (h : laidMetH Tryz.prog laidQ W) : GlobE W := by
  have h' : laidMet Tryz.prog (laidQ.filter fun x => x.2.handleName?.isNone) W ∧ handlesMet Tryz.prog [("errors.errorType", Rows.laid_errors_errorType)] W := h
  obtain ⟨name, u, ty, e1, e2, e3, e4, e5⟩ := h'.2 _ (List.mem_singleton.2 rfl)
  have en : name = [101, 114, 114, 111, 114] := (Option.some.inj e1).symm
  subst en
  obtain rfl := Option.some.inj (cutRt.symm.trans e2)
  have hm : ty ∈ (List.range 263).filter fun t => Tryz.prog.rowNamed t [101, 114, 114, 111, 114] := List.mem_filter.2 ⟨List.mem_range.2 (by rw [← typesN]; exact e3), e4⟩
  rw [oneRow] at hm
  obtain rfl := List.mem_singleton.1 hm
  have hh : typeHandle Tryz.prog 31 = .pointer (some ⟨12, 31, none⟩) := by kernel_rfl
  rw [hh] at e5
  have hc : W.cell? ⟨0, 0, none⟩ = some (.iface 114 (.agg #[.pointer (some ⟨12, 31, none⟩)])) := by simpa using World.var?_cell gErr e5 0
  exact ⟨hc, World.block_lt_of_cell? W _ hc⟩
def renU : Go.Shelf.Ren := ⟨fun n => n, fun | 5 => 5 | 119 => 171 | 138 => 173 | 139 => 174 | n => n, fun | 3 => 3 | 4 => 4 | n => n⟩
theorem u8t : U8Types Tryz.prog renU := { t5 := by kernel_rfl, t119 := by kernel_rfl, t138 := by kernel_rfl, t139 := by kernel_rfl }
theorem u8x : U8Extra Tryz.prog renU := { n3 := by kernel_rfl, n4 := by kernel_rfl, y3 := by kernel_rfl, y4 := by kernel_rfl, c5 := by kernel_rfl, c119 := by kernel_rfl, c138 := by kernel_rfl }
theorem Tabs.ext {w w' : World} (h : Tabs w) (hB : Ext w w') : Tabs w' :=
  ⟨fun c hc => hB.keep (World.block_lt_of_cell? w _ (h.1 c hc)) (h.1 c hc), fun i hi => ⟨hB.keep (World.block_lt_of_cell? w _ (h.2 i hi).1) (h.2 i hi).1, hB.keep (World.block_lt_of_cell? w _ (h.2 i hi).2) (h.2 i hi).2⟩⟩
theorem filtQ : (laidQ.filter fun x => x.2.handleName?.isNone) = [("math/bits.deBruijn32tab", Rows.laid_math_bits_deBruijn32tab), ("math/bits.deBruijn64tab", Rows.laid_math_bits_deBruijn64tab), ("internal/strconv.uint64pow10", Rows.laid_internal_strconv_uint64pow10), ("unicode/utf8.acceptRanges", Rows.laid_unicode_utf8_acceptRanges), ("strconv.ErrRange", Rows.laid_strconv_ErrRange), ("strconv.ErrSyntax", Rows.laid_strconv_ErrSyntax), ("unicode.White_Space", Rows.laid_unicode_White_Space), ("strings.asciiSpace", Rows.laid_strings_asciiSpace), ("unicode/utf8.first", Rows.laid_unicode_utf8_first)] := rfl
theorem env_of {W : World} (h : laidMetH Tryz.prog laidQ W) (hs : W.ShapedOpen Tryz.prog) : QEnv W := by
  have h' : laidMet Tryz.prog (laidQ.filter fun x => x.2.handleName?.isNone) W := h.1
  rw [filtQ] at h'
  have hr := Lib.laidMet.reads h' (n := "internal/strconv.uint64pow10") (d := Lib.tabData .u64 Lib.pow10Tab) (by simp only [List.mem_cons]; exact Or.inr (Or.inr (Or.inl rfl)))
  have hsp := Lib.laidMet.reads h' (n := "strings.asciiSpace") (d := Lib.tabData .u8 Lib.asciiSpaceTab) (by simp only [List.mem_cons]; exact Or.inr (Or.inr (Or.inr (Or.inr (Or.inr (Or.inr (Or.inr (Or.inl (by kernel_rfl)))))))))
  have h3 := Lib.laidMet.reads h' (n := "unicode/utf8.first") (d := Lib.firstData) (by simp only [List.mem_cons]; exact Or.inr (Or.inr (Or.inr (Or.inr (Or.inr (Or.inr (Or.inr (Or.inr (Or.inl (by kernel_rfl))))))))))
  have h4 := Lib.laidMet.reads h' (n := "unicode/utf8.acceptRanges") (d := Lib.acceptData) (by simp only [List.mem_cons]; exact Or.inr (Or.inr (Or.inr (Or.inl (by kernel_rfl)))))
  have hT : Tabs W := utf8Tabs_of_readsT u8t u8x h3 h4
  have hS : Lib.TabIs Tryz.prog W "strings.asciiSpace" .u8 Lib.asciiSpaceTab := tabIs_of_reads gSp gSpType Tryz.underlying171 Tryz.underlying5 cellsU8 cellsSp hsp
  have hG : Glob W := ⟨cell_of_shapedOpen_int (P := Tryz.prog) (g := 2) (t := 3) (zero := #[.int .i64 0]) hs (of_decide_eq_true (by kernel_rfl)) (by kernel_rfl) rfl (by kernel_rfl) (by kernel_rfl) Tryz.underlying3, tabIs_of_reads gPow gPowType Tryz.underlying164 Tryz.underlying93 cellsU64 cellsPow hr⟩
  exact ⟨fun w hB => hT.ext hB, fun w hB => Lib.tabBelow_of_tabIs hS w hB, fun w hB => hG.ext hB⟩
/-- A world that holds all that is listed: what the start-up code lays, and the pinned table. -/
noncomputable def laidWorld (os : Os) : World :=
  { World.doorLaid Tryz.prog 1000 os with heap := (World.doorLaid Tryz.prog 1000 os).heap.modify 3 fun
      | .cells _ t frozen => .cells (Lib.firstTab.map fun z => Value.int .u8 z).toArray t frozen
      | o => o }
theorem laid_met (os : Os) (args : Array Value) : laidMetH Tryz.prog laidQ ((laidWorld os).forCall (fun _ _ => 0) ⟨#[], args, []⟩).memory :=
  laidMetH_of_parts3 (fuel := 8) (laidMet_of_run3 8 (by kernel_rfl) (by kernel_rfl) (by kernel_rfl)) (by kernel_rfl) (by kernel_rfl)
theorem wf8 {n : Int} (h : (Lit.int .u8 n).wf = true) : 0 ≤ n ∧ n < 256 := by
  have e1 : IntKind.u8.min = 0 := by kernel_rfl
  have e2 : IntKind.u8.max = 255 := by kernel_rfl
  unfold Lit.wf at h
  rw [Bool.and_eq_true, e1, e2] at h
  have h1 := of_decide_eq_true h.1
  have h2 := of_decide_eq_true h.2
  omega
end Go.Proofs.YtfoclfefjcnllaaGreatDoor
