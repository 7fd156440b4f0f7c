/-
  Runes out of bytes. Helper lemmas; no statement of the seat is proved here.
-/
import Derived.Test.YtfoclfefjcnllaaGreatDoorD5
import Derived.Shelf.Spec.DecodeRune
namespace Go.Proofs.YtfoclfefjcnllaaGreatDoor
open Go.RowKit
set_option maxRecDepth 100000
set_option linter.unusedVariables false
set_option linter.unusedSimpArgs false

def Tryz.lays732_ren : Go.Shelf.Ren := ⟨fun | 32 => 60 | 49 => 84 | n => n, fun | 0 => 0 | 3 => 3 | 4 => 4 | 5 => 5 | 21 => 21 | 25 => 168 | 30 => 70 | 33 => 106 | 66 => 171 | 68 => 173 | 69 => 174 | n => n, fun | 2 => 3 | 3 => 4 | n => n⟩
theorem Tryz.lays732 : Go.Proofs.Lays7.n32 Tryz.prog Tryz.lays732_ren := {
  mixed := by kernel_rfl
  f32 := Tryz.func60.trans (congrArg some (by kernel_rfl))
  f49 := Tryz.func84.trans (congrArg some (by kernel_rfl))
  t0 := by kernel_rfl
  a0 := fun w => by first | exact Tryz.isAgg0 w | go_simp
  z0 := fun w => by first | exact Tryz.sizeOf0 w | go_simp
  v0 := fun w => by first | exact Tryz.zeroValue0 w | go_simp
  i0 := by kernel_rfl
  t3 := by kernel_rfl
  a3 := fun w => by first | exact Tryz.isAgg3 w | go_simp
  z3 := fun w => by first | exact Tryz.sizeOf3 w | go_simp
  v3 := fun w => by first | exact Tryz.zeroValue3 w | go_simp
  i3 := by kernel_rfl
  t4 := by kernel_rfl
  a4 := fun w => by first | exact Tryz.isAgg4 w | go_simp
  z4 := fun w => by first | exact Tryz.sizeOf4 w | go_simp
  v4 := fun w => by first | exact Tryz.zeroValue4 w | go_simp
  i4 := by kernel_rfl
  t5 := by kernel_rfl
  a5 := fun w => by first | exact Tryz.isAgg5 w | go_simp
  z5 := fun w => by first | exact Tryz.sizeOf5 w | go_simp
  v5 := fun w => by first | exact Tryz.zeroValue5 w | go_simp
  i5 := by kernel_rfl
  t21 := by kernel_rfl
  a21 := fun w => by first | exact Tryz.isAgg21 w | go_simp
  z21 := fun w => by first | exact Tryz.sizeOf21 w | go_simp
  v21 := fun w => by first | exact Tryz.zeroValue21 w | go_simp
  i21 := by kernel_rfl
  t25 := by kernel_rfl
  a25 := fun w => by first | exact Tryz.isAgg168 w | go_simp
  z25 := fun w => by first | exact Tryz.sizeOf168 w | go_simp
  v25 := fun w => by first | exact Tryz.zeroValue168 w | go_simp
  i25 := by kernel_rfl
  t30 := by kernel_rfl
  a30 := fun w => by first | exact Tryz.isAgg70 w | go_simp
  z30 := fun w => by first | exact Tryz.sizeOf70 w | go_simp
  v30 := fun w => by first | exact Tryz.zeroValue70 w | go_simp
  i30 := by kernel_rfl
  t33 := by kernel_rfl
  a33 := fun w => by first | exact Tryz.isAgg106 w | go_simp
  z33 := fun w => by first | exact Tryz.sizeOf106 w | go_simp
  v33 := fun w => by first | exact Tryz.zeroValue106 w | go_simp
  i33 := by kernel_rfl
  t66 := by kernel_rfl
  a66 := fun w => by first | exact Tryz.isAgg171 w | go_simp
  z66 := fun w => by first | exact Tryz.sizeOf171 w | go_simp
  t68 := by kernel_rfl
  a68 := fun w => by first | exact Tryz.isAgg173 w | go_simp
  z68 := fun w => by first | exact Tryz.sizeOf173 w | go_simp
  v68 := fun w => by first | exact Tryz.zeroValue173 w | go_simp
  i68 := by kernel_rfl
  t69 := by kernel_rfl
  a69 := fun w => by first | exact Tryz.isAgg174 w | go_simp
  z69 := fun w => by first | exact Tryz.sizeOf174 w | go_simp
  v69 := fun w => by first | exact Tryz.zeroValue174 w | go_simp
  i69 := by kernel_rfl
  g2 := by kernel_rfl
  g3 := by kernel_rfl }

def Tabs (w : World) : Prop := Lib.Utf8Tabs 3 4 w
theorem get_bs (l : List UInt8) (j : Nat) (h : j < l.length) : (bs l).get! j = l[j] := by
  have h2 : j < (bs l).data.size := by simpa [bs] using h
  have e : (bs l).get! j = (bs l).data[j]! := rfl
  rw [e, getElem!_pos (bs l).data j h2]; rfl
theorem decode_any (l : List UInt8) (p : Nat → Prop) (b off cap : Nat) (w : World) (hT : Tabs w) (h : Rep w p (.slice (some ⟨b, off, none⟩) l.length cap) (numsD .u8 (byI l))) :
    Calls Tryz.prog 60 #[.slice (some ⟨b, off, none⟩) l.length cap] w fun e w' => e = .returned (.tuple #[.int .i32 ((Lib.decodeGoB (bs l)).1 : Nat), .int .i64 ((Lib.decodeGoB (bs l)).2 : Nat)]) ∧ Ext w w' := by
  have h1 := Any7.utf8_DecodeRune Tryz.lays732 (bs l) b off cap w hT fun j hj => by
    rw [bs_size] at hj
    obtain ⟨b', o', e, _, hc⟩ := by_at h j hj
    cases e
    rw [hc, get_bs l j hj]
  rw [bs_size] at h1
  exact h1

theorem charZ_R (n : Nat) : charZ (n : Int) = charR n := by
  unfold charZ charR
  rw [Bool.eq_iff_iff]
  by_cases h1 : n = 9 ∨ n = 10 ∨ n = 13
  · rw [if_pos (by omega)]
    simp only [Bool.or_eq_true, decide_eq_true_eq, true_iff]
    exact .inl (by omega)
  · rw [if_neg (by omega)]
    by_cases h2 : n < 32 ∨ 1114111 < n
    · rw [if_pos (by omega)]
      simp only [Bool.or_eq_true, Bool.and_eq_true, decide_eq_true_eq]
      constructor
      · intro h; cases h
      · intro h; omega
    · rw [if_neg (by omega)]
      simp only [Bool.or_eq_true, Bool.and_eq_true, decide_eq_true_eq]
      omega
theorem inZ_R (n : Nat) : ∀ l : List (Nat × Nat), inZ (n : Int) (l.map fun p => ((p.1 : Int), (p.2 : Int))) = inR n l
  | [] => rfl
  | p :: l => by
    have ih := inZ_R n l
    unfold inZ inR at ih ⊢
    rw [List.map_cons, List.any_cons, List.any_cons, ih]
    congr 1
    rw [Bool.eq_iff_iff]; simp only [Bool.and_eq_true, decide_eq_true_eq]; omega
theorem beginsR_Z (n : Nat) : inZ (n : Int) beginsL = beginsR n := inZ_R n [(65, 90), (95, 95), (97, 122), (192, 214), (216, 246), (248, 767), (880, 893), (895, 8191), (8204, 8205), (8304, 8591), (11264, 12271), (12289, 55295), (63744, 64975), (65008, 65533), (65536, 983039)]
theorem goesR_Z (n : Nat) : (inZ (n : Int) beginsL || inZ (n : Int) goesOnL) = goesR n := by
  rw [beginsR_Z, show inZ (n : Int) goesOnL = _ from inZ_R n [(45, 46), (48, 57), (183, 183), (768, 879), (8255, 8256)]]; rfl
theorem decN_le (n b0 b1 b2 b3 : Nat) (h : 0 < n) : (Lib.decodeN n b0 b1 b2 b3).2 ≤ n := by
  unfold Lib.decodeN
  repeat' split
  all_goals (simp only; omega)
theorem decB_le (l : List UInt8) : (Lib.decodeGoB (bs l)).2 ≤ l.length := by
  unfold Lib.decodeGoB
  split
  · exact Nat.zero_le _
  · rename_i h
    rw [bs_size] at h
    rw [Lib.decode_at]
    have := decN_le ((bs l).size - 0) ((bs l).get! 0).toNat ((bs l).get! (0 + 1)).toNat ((bs l).get! (0 + 2)).toNat ((bs l).get! (0 + 3)).toNat (by rw [bs_size]; omega)
    rw [bs_size] at this ⊢
    exact this
theorem decB_ascii (c : UInt8) (r : List UInt8) (h : c < 128) : Lib.decodeGoB (bs (c :: r)) = (c.toNat, 1) := by
  have h2 : c.toNat < 128 := h
  unfold Lib.decodeGoB
  rw [if_neg (by rw [bs_size]; simp), Lib.decode_at, get_bs (c :: r) 0 (by simp)]
  unfold Lib.decodeN
  rw [if_pos (show (c :: r)[0].toNat < 128 from h2)]; rfl
theorem nextS_eq (l : List UInt8) (h : l ≠ []) : nextS l = if (Lib.decodeGoB (bs l)).1 = 65533 ∧ (Lib.decodeGoB (bs l)).2 < 2 then (0, 0) else if charR (Lib.decodeGoB (bs l)).1 = true then Lib.decodeGoB (bs l) else (0, 0) := by
  cases l with
  | nil => exact absurd rfl h
  | cons c r =>
    rw [nextS]
    split
    · rename_i hc
      have h2 : c.toNat < 128 := hc
      rw [decB_ascii c r hc]
      have hn : ¬ (c.toNat = 65533 ∧ 1 < 2) := fun h => by have := h.1; omega
      show (if charR c.toNat = true then (c.toNat, 1) else (0, 0)) = if c.toNat = 65533 ∧ 1 < 2 then (0, 0) else if charR c.toNat = true then (c.toNat, 1) else (0, 0)
      rw [if_neg hn]
    · by_cases h1 : (Lib.decodeGoB (bs (c :: r))).1 = 65533 ∧ (Lib.decodeGoB (bs (c :: r))).2 < 2
      · rw [if_pos h1, if_pos (by simp [h1.1, h1.2])]
      · rw [if_neg h1]
        have h1' : (decide ((Lib.decodeGoB (bs (c :: r))).1 = 65533) && decide ((Lib.decodeGoB (bs (c :: r))).2 < 2)) = false := by
          rw [Bool.and_eq_false_iff]
          by_cases hq : (Lib.decodeGoB (bs (c :: r))).1 = 65533
          · exact .inr (decide_eq_false fun h => h1 ⟨hq, h⟩)
          · exact .inl (decide_eq_false hq)
        rw [h1', Bool.false_or]
        cases charR (Lib.decodeGoB (bs (c :: r))).1 <;> rfl
theorem next_le (l : List UInt8) : (nextS l).2 ≤ l.length := by
  by_cases h : l = []
  · subst h; exact Nat.le_refl _
  · rw [nextS_eq l h]
    have := decB_le l
    split
    · exact Nat.zero_le _
    · split
      · exact this
      · exact Nat.zero_le _
set_option maxHeartbeats 8000000 in
theorem next_any (l : List UInt8) (i : Nat) (hi : i < l.length) (hl : l.length ≤ 1000) (p : Nat → Prop) (v : Value) (w : World) (hT : ∀ W, Ext w W → Tabs W) (h : Rep w p v (numsD .u8 (byI l))) :
    Calls Tryz.prog 44 #[v, .int .i64 i] w fun e w' => e = .returned (.tuple #[.int .i32 ((nextS (l.drop i)).1 : Nat), .int .i64 ((nextS (l.drop i)).2 : Nat)]) ∧ Ext w w' := by
  obtain ⟨a, c, rfl, hc1, hc2⟩ := by_count h
  obtain ⟨b, off, rfl, lb, _⟩ := by_at h i hi
  have hd := by_drop h i (by omega) rfl hc2 hc1
  have hlen : (l.drop i).length = l.length - i := List.length_drop
  rw [← hlen] at hd
  have HD := Lib.hid fun W hX => decode_any (l.drop i) p b (off + i) (c - i) W (hT W hX) (hd.ext hX)
  rw [nextS_eq (l.drop i) (fun e => by rw [e] at hlen; simp at hlen; omega)]
  rw [hlen] at HD
  obtain ⟨r, hr⟩ : ∃ r, (Lib.decodeGoB (bs (l.drop i))).1 = r := ⟨_, rfl⟩
  obtain ⟨n, hn⟩ : ∃ n, (Lib.decodeGoB (bs (l.drop i))).2 = n := ⟨_, rfl⟩
  have hp : Lib.decodeGoB (bs (l.drop i)) = (r, n) := by rw [← hr, ← hn]
  rw [hp] at HD ⊢
  dsimp only at HD ⊢
  have HC := Lib.hid fun W => Char_any (r : Int) W
  rw [charZ_R] at HC
  obtain ⟨R, hR⟩ : ∃ R, (if r = 65533 ∧ n < 2 then ((0 : Nat), (0 : Nat)) else if charR r = true then (r, n) else (0, 0)) = R := ⟨_, rfl⟩
  rw [hR]
  have HR := Lib.hid hR
  have hi0 : ¬ (i : Int) < 0 := by omega
  have hiI : (i : Int) < (l.length : Int) := by omega
  have hiJ : ¬ (l.length : Int) ≤ (i : Int) := by omega
  have hiK : (i : Int) ≤ (l.length : Int) := by omega
  have hiC : ¬ c ≤ i := by omega
  have hiD : ¬ c = i := by omega
  clear hd hr hn hp hR hT h hlen
  go_enter Tryz.func44, Tryz.ntmps44
  go_wp2_with fail
  refine (HD.out _ (Ext.refl _)).mono ?_
  rintro e w1 ⟨rfl, hX⟩
  clear HD
  by_cases h1 : r = 65533
  · by_cases h2 : n < 2
    · obtain rfl : (0, 0) = R := by rw [← HR.out, if_pos ⟨h1, h2⟩]
      subst h1
      have h2I : (n : Int) < 2 := by omega
      go_wp2_with fail
      go_ret2
      exact ⟨rfl, hX⟩
    · replace HR := Lib.hid ((if_neg (fun h => h2 h.2)).symm.trans HR.out)
      subst h1
      have h2I : ¬ (n : Int) < 2 := by omega
      go_wp2_with fail
      refine (HC.out _).mono ?_
      rintro e w2 ⟨rfl, rfl⟩
      have e2 : charR 65533 = true := by decide
      rw [e2] at HR ⊢
      obtain rfl : (65533, n) = R := HR.out
      go_wp2_with fail
      go_ret2
      exact ⟨rfl, hX⟩
  · replace HR := Lib.hid ((if_neg (fun h => h1 h.1)).symm.trans HR.out)
    have q1 : ((r : Int) == 65533) = false := by rw [beq_eq_false_iff_ne]; omega
    clear h1
    go_wp2_with fail
    refine (HC.out _).mono ?_
    rintro e w2 ⟨rfl, rfl⟩
    obtain ⟨B, hB⟩ : ∃ B, charR r = B := ⟨_, rfl⟩
    rw [hB] at HR ⊢
    clear hB HC
    cases B with
    | true =>
      obtain rfl : (r, n) = R := HR.out
      go_wp2_with fail
      go_ret2
      exact ⟨rfl, hX⟩
    | false =>
      obtain rfl : (0, 0) = R := HR.out
      go_wp2_with fail
      go_ret2
      exact ⟨rfl, hX⟩

end Go.Proofs.YtfoclfefjcnllaaGreatDoor

/-
  utf.Bad; the scanner's name. Helper lemmas; no statement of the seat is proved here.
-/
namespace Go.Proofs.YtfoclfefjcnllaaGreatDoor
open Go.RowKit
set_option maxRecDepth 100000
set_option linter.unusedVariables false
set_option linter.unusedSimpArgs false

theorem bad_go (f i : Nat) (l : List UInt8) (hi : i < l.length) : badGo (f + 1) i (l.drop i) = if (nextS (l.drop i)).2 = 0 then (i : Int) else badGo f (i + (nextS (l.drop i)).2) (l.drop (i + (nextS (l.drop i)).2)) := by
  rw [badGo, if_neg (fun e => by have := congrArg List.length e; rw [List.length_drop] at this; simp at this; omega), List.drop_drop]
set_option maxHeartbeats 8000000 in
theorem bad_any (l : List UInt8) (hl : l.length ≤ 1000) (p : Nat → Prop) (v : Value) (w : World) (hT : ∀ W, Ext w W → Tabs W) (h : Rep w p v (numsD .u8 (byI l))) :
    Calls Tryz.prog 26 #[v] w fun e w' => e = .returned (.int .i64 (badS l)) ∧ Ext w w' := by
  obtain ⟨a, c, rfl, hc1, hc2⟩ := by_count h
  obtain ⟨R, hR⟩ : ∃ R, badS l = R := ⟨_, rfl⟩
  rw [hR]
  have HR := Lib.hid (show l.length - 0 ≤ l.length ∧ badGo l.length 0 (l.drop 0) = R from ⟨Nat.sub_le _ _, hR⟩)
  have HH := Lib.hid (And.intro hT h)
  clear hR hT h
  go_enter Tryz.func26, Tryz.ntmps26
  go_wp2_with fail
  go_loopw [3, 4, 5] (fun t _ _ wr => ∃ i f : Nat, t = .int .i64 i ∧ i ≤ l.length ∧ Hid (Ext w wr) ∧ Hid (l.length - i ≤ f ∧ badGo f i (l.drop i) = R)) (fun t _ _ _ => downQ l.length t)
  case atStart => exact ⟨0, l.length, rfl, Nat.zero_le _, Lib.hid (Ext.refl _), HR⟩
  case round =>
    obtain ⟨i, f, rfl, hi, HX, HI⟩ := hrel
    by_cases hlt : i < l.length
    · have hiI : (i : Int) < (l.length : Int) := by omega
      obtain ⟨f', rfl⟩ : ∃ f', f = f' + 1 := ⟨f - 1, by have := HI.out.1; omega⟩
      have hb := HI.out.2
      rw [bad_go f' i l hlt] at hb
      have hn := next_le (l.drop i)
      rw [List.length_drop] at hn
      have HC := Lib.hid (next_any l i hlt hl p _ wr (fun W hW => HH.out.1 W (HX.out.trans hW)) (HH.out.2.ext HX.out))
      obtain ⟨r, hr⟩ : ∃ r, (nextS (l.drop i)).1 = r := ⟨_, rfl⟩
      obtain ⟨n, hn'⟩ : ∃ n, (nextS (l.drop i)).2 = n := ⟨_, rfl⟩
      rw [hn'] at hn hb HC
      rw [hr] at HC
      have HB := Lib.hid (And.intro HI.out.1 hb)
      clear hr hn' hb HI
      go_wp2_with fail
      refine HC.out.mono ?_
      rintro e w1 ⟨rfl, hX1⟩
      replace HX := Lib.hid (HX.out.trans hX1)
      clear HC
      by_cases h0 : n = 0
      · have q0 : ((n : Int) == 0) = true := by rw [beq_iff_eq]; omega
        have HN : Hid ((i : Int) = R) := Lib.hid (by rw [← HB.out.2, if_pos h0])
        clear h0
        go_wp2_with fail
        go_ret
        obtain rfl := HN.out
        exact ⟨rfl, HX.out⟩
      · have q0 : ((n : Int) == 0) = false := by rw [beq_eq_false_iff_ne]; omega
        have HN : Hid (badGo f' (i + n) (l.drop (i + n)) = R) := Lib.hid (by rw [← HB.out.2, if_neg h0])
        go_wp2_with fail
        go_roundw
        case rel => exact ⟨i + n, f', by go_num, by omega, HX, Lib.hid ⟨by have := HB.out.1; omega, HN.out⟩⟩
        case measure => simp only [downQ]; omega
    · have hiI : ¬ (i : Int) < (l.length : Int) := by omega
      have HN : Hid (R = -1) := Lib.hid (by
        have := HI.out.2
        rw [List.drop_of_length_le (by omega)] at this
        rw [← this]
        cases f <;> rfl)
      go_wp2_with fail
      go_ret
      obtain rfl := HN.out
      exact ⟨rfl, HX.out⟩
theorem decN_pos (n b0 b1 b2 b3 : Nat) : 0 < (Lib.decodeN n b0 b1 b2 b3).2 := by
  unfold Lib.decodeN
  repeat' split
  all_goals (simp only; omega)
theorem next_pos (l : List UInt8) (h : l ≠ []) (hg : (nextS l).2 = 0) : (nextS l).1 = 0 := by
  rw [nextS_eq l h] at hg ⊢
  split
  · rfl
  · rename_i h1
    rw [if_neg h1] at hg
    split
    · rename_i h2
      rw [if_pos h2] at hg
      exfalso
      unfold Lib.decodeGoB at hg
      have hs : ¬ (bs l).size = 0 := by rw [bs_size]; cases l with
        | nil => exact absurd rfl h
        | cons a l => simp
      rw [if_neg hs, Lib.decode_at] at hg
      have := decN_pos ((bs l).size - 0) ((bs l).get! 0).toNat ((bs l).get! (0 + 1)).toNat ((bs l).get! (0 + 2)).toNat ((bs l).get! (0 + 3)).toNat
      omega
    · rfl
theorem name_go (f : Nat) (b : Bool) (s : List UInt8) (j : Nat) (hj : j < s.length) : nameGo (f + 1) b (s.drop j) = if ((b && !beginsR (nextS (s.drop j)).1) || !goesR (nextS (s.drop j)).1) = true then 0 else (nextS (s.drop j)).2 + nameGo f false (s.drop (j + (nextS (s.drop j)).2)) := by
  rw [nameGo, if_neg (fun e => by have := congrArg List.length e; rw [List.length_drop] at this; simp at this; omega), List.drop_drop]
theorem Begins_R (n : Nat) (w : World) : Calls Tryz.prog 87 #[.int .i32 (n : Nat)] w fun e w' => e = .returned (.bool (beginsR n)) ∧ Ext w w' := by
  rw [← beginsR_Z]; exact Begins_any n w
theorem GoesOn_R (n : Nat) (w : World) : Calls Tryz.prog 88 #[.int .i32 (n : Nat)] w fun e w' => e = .returned (.bool (goesR n)) ∧ Ext w w' := by
  rw [← goesR_Z]; exact GoesOn_any n w
set_option maxHeartbeats 16000000 in
theorem name_any (w0 W : World) (s : List UInt8) (i : Nat) (out : List QT) (h : SC w0 W s i out) (hi : i ≤ s.length) (hl : s.length ≤ 1000) (hT : ∀ W, Ext w0 W → Tabs W) :
    Calls Tryz.prog 68 #[.pointer (some ⟨w0.heap.size, 0, none⟩)] W fun e w' => e = .returned (.int .i64 (nameS (s.drop i) : Nat)) ∧ Ext W w' := by
  obtain ⟨R, hR⟩ : ∃ R, nameS (s.drop i) = R := ⟨_, rfl⟩
  rw [hR]
  have HR : Hid (s.length - i ≤ (s.drop i).length ∧ i + nameGo (s.drop i).length (i == i) (s.drop i) = i + R) := Lib.hid ⟨by rw [List.length_drop]; exact Nat.le_refl _, by rw [beq_self_eq_true]; unfold nameS at hR; rw [hR]⟩
  obtain ⟨bv, Wb, hconv, hE, hrep⟩ := conv_bytes W s (by omega)
  have hlt := h.lt
  have c0 := h.c0; have c1 := h.c1
  obtain ⟨ba, bc, rfl, _, _⟩ := by_count hrep
  have k1 := hE.keep hlt c1
  have HH := Lib.hid (And.intro hT (And.intro hrep (And.intro h hE)))
  have hlt2 := Nat.lt_of_lt_of_le hlt hE.size
  clear hT hrep h hR hE
  go_enter Tryz.func68, Tryz.ntmps68
  go_wp2_with fail
  clear hconv c0 c1
  go_loopw [4, 5, 6] (fun t _ _ wr => ∃ j f : Nat, t = .int .i64 j ∧ i ≤ j ∧ j ≤ s.length ∧ Hid (Ext Wb wr) ∧ Hid (s.length - j ≤ f ∧ j + nameGo f (j == i) (s.drop j) = i + R)) (fun t _ _ _ => downQ s.length t)
  case atStart => exact ⟨i, _, rfl, Nat.le_refl _, hi, Lib.hid (Ext.refl _), HR⟩
  case round =>
    clear HR hi
    obtain ⟨j, f, rfl, hij, hj, HX, HI⟩ := hrel
    replace k1 := HX.out.keep hlt2 k1
    by_cases hjl : j < s.length
    · have hjI : (j : Int) < (s.length : Int) := by omega
      obtain ⟨f', rfl⟩ : ∃ f', f = f' + 1 := ⟨f - 1, by have := HI.out.1; omega⟩
      have hb := HI.out.2
      rw [name_go f' _ s j hjl] at hb
      have hn := next_le (s.drop j)
      rw [List.length_drop] at hn
      have hp := next_pos (s.drop j) (fun e => by have := congrArg List.length e; rw [List.length_drop] at this; simp at this; omega)
      have HC := Lib.hid (next_any s j hjl hl _ _ wr (fun W hW => HH.out.1 W (HH.out.2.2.1.ext.trans (HH.out.2.2.2.trans (HX.out.trans hW)))) (HH.out.2.1.ext HX.out))
      obtain ⟨r, hr⟩ : ∃ r, (nextS (s.drop j)).1 = r := ⟨_, rfl⟩
      obtain ⟨n, hn'⟩ : ∃ n, (nextS (s.drop j)).2 = n := ⟨_, rfl⟩
      rw [hn'] at hn hb HC hp
      rw [hr] at HC hb hp
      have hgz : goesR r = true → 0 < n := fun hg => by
        rcases Nat.eq_zero_or_pos n with e | e
        · have := hp e; subst this; exact absurd hg (by decide)
        · exact e
      have HB := Lib.hid (And.intro HI.out.1 (And.intro hb hgz))
      have HBE := Lib.hid fun W => Begins_R r W
      have HGO := Lib.hid fun W => GoesOn_R r W
      clear hr hn' hb HI hp hgz
      go_wp2_with fail
      refine HC.out.mono ?_
      rintro e w1 ⟨rfl, hX1⟩
      replace HX := Lib.hid (HX.out.trans hX1)
      replace k1 := hX1.keep (World.block_lt_of_cell? wr _ k1) k1
      have l1 := World.block_lt_of_cell? w1 _ k1
      clear HC hX1
      obtain ⟨bb, hbb⟩ : ∃ b, beginsR r = b := ⟨_, rfl⟩
      obtain ⟨bg, hbg⟩ : ∃ b, goesR r = b := ⟨_, rfl⟩
      rw [hbb] at HB HBE
      rw [hbg] at HB HGO
      clear hbb hbg
      by_cases hji : j = i
      · have qj : ((j : Int) == (i : Int)) = true := by rw [beq_iff_eq]; omega
        replace HB := Lib.hid (show _ ∧ _ ∧ _ from ⟨HB.out.1, by have := HB.out.2.1; rw [show (j == i) = true by rw [beq_iff_eq]; exact hji, Bool.true_and] at this; exact this, HB.out.2.2⟩)
        clear hji
        go_wp2_with fail
        refine (HBE.out _).mono ?_
        rintro e w2 ⟨rfl, hX2⟩
        replace HX := Lib.hid (HX.out.trans hX2)
        replace k1 := hX2.keep l1 k1
        clear HBE hX2
        cases bb with
        | false =>
          have HN : Hid (j = i + R) := Lib.hid (by have := HB.out.2.1; rw [if_pos (by simp)] at this; omega)
          have hjR : (j : Int) - (i : Int) = (R : Int) := by have := HN.out; omega
          go_wp2_with fail
          go_ret
          exact ⟨rfl, HH.out.2.2.2.trans HX.out⟩
        | true =>
          have HN : Hid ((j + if (!bg) = true then 0 else n + nameGo f' false (s.drop (j + n))) = i + R) := Lib.hid (by have := HB.out.2.1; simpa using this)
          go_wp2_with fail
          refine (HGO.out _).mono ?_
          rintro e w3 ⟨rfl, hX3⟩
          replace HX := Lib.hid (HX.out.trans hX3)
          replace k1 := hX3.keep (World.block_lt_of_cell? _ _ k1) k1
          clear HGO hX3
          cases bg with
          | false =>
            have hjR : (j : Int) - (i : Int) = (R : Int) := by have := HN.out; rw [if_pos (by decide)] at this; omega
            go_wp2_with fail
            go_ret
            exact ⟨rfl, HH.out.2.2.2.trans HX.out⟩
          | true =>
            have hn0 := HB.out.2.2 rfl
            go_wp2_with fail
            go_roundw
            case rel => exact ⟨j + n, f', by go_num, by omega, by omega, HX, Lib.hid ⟨by have := HB.out.1; omega, by
              have h1 := HN.out
              rw [if_neg (by decide)] at h1
              rw [show (j + n == i) = false by rw [beq_eq_false_iff_ne]; omega, ← h1]; omega⟩⟩
            case measure => simp only [downQ]; omega
      · have qj : ((j : Int) == (i : Int)) = false := by rw [beq_eq_false_iff_ne]; omega
        replace HB := Lib.hid (show _ ∧ _ ∧ _ from ⟨HB.out.1, by have := HB.out.2.1; rw [show (j == i) = false by rw [beq_eq_false_iff_ne]; exact hji, Bool.false_and] at this; exact this, HB.out.2.2⟩)
        clear hji HBE
        have HN : Hid ((j + if (!bg) = true then 0 else n + nameGo f' false (s.drop (j + n))) = i + R) := Lib.hid (by have := HB.out.2.1; simpa using this)
        go_wp2_with fail
        refine (HGO.out _).mono ?_
        rintro e w3 ⟨rfl, hX3⟩
        replace HX := Lib.hid (HX.out.trans hX3)
        replace k1 := hX3.keep (World.block_lt_of_cell? _ _ k1) k1
        clear HGO hX3
        cases bg with
        | false =>
          have hjR : (j : Int) - (i : Int) = (R : Int) := by have := HN.out; rw [if_pos (by decide)] at this; omega
          go_wp2_with fail
          go_ret
          exact ⟨rfl, HH.out.2.2.2.trans HX.out⟩
        | true =>
          have hn0 := HB.out.2.2 rfl
          go_wp2_with fail
          go_roundw
          case rel => exact ⟨j + n, f', by go_num, by omega, by omega, HX, Lib.hid ⟨by have := HB.out.1; omega, by
            have h1 := HN.out
            rw [if_neg (by decide)] at h1
            rw [show (j + n == i) = false by rw [beq_eq_false_iff_ne]; omega, ← h1]; omega⟩⟩
          case measure => simp only [downQ]; omega
    · have hjI : ¬ (j : Int) < (s.length : Int) := by omega
      have HN : Hid (j = i + R) := Lib.hid (by
        have := HI.out.2
        rw [List.drop_of_length_le (by omega)] at this
        rw [← this]
        cases f <;> simp [nameGo])
      have hjR : (j : Int) - (i : Int) = (R : Int) := by have := HN.out; omega
      go_wp2_with fail
      go_ret
      exact ⟨rfl, HH.out.2.2.2.trans HX.out⟩

end Go.Proofs.YtfoclfefjcnllaaGreatDoor

/-
  The scanner's variables and words. Helper lemmas; no statement of the seat is proved here.
-/
namespace Go.Proofs.YtfoclfefjcnllaaGreatDoor
open Go.RowKit
set_option maxRecDepth 100000
set_option linter.unusedVariables false
set_option linter.unusedSimpArgs false

theorem skip_le (s : List UInt8) (i : Nat) : skipS (s.drop i) ≤ s.length - i := by
  have := take_eq blankB (s.drop i); rw [List.length_drop] at this; exact this
theorem nameGo_le : ∀ (f : Nat) (b : Bool) (l : List UInt8), nameGo f b l ≤ l.length
  | 0, _, _ => Nat.zero_le _
  | f + 1, b, l => by
    rw [nameGo]
    split
    · exact Nat.zero_le _
    · split
      · exact Nat.zero_le _
      · have h1 := next_le l
        have h2 := nameGo_le f false (l.drop (nextS l).2)
        rw [List.length_drop] at h2
        omega
theorem name_le (s : List UInt8) (i : Nat) : nameS (s.drop i) ≤ s.length - i := by
  have := nameGo_le (s.drop i).length true (s.drop i); rw [List.length_drop] at this; unfold nameS; rw [List.length_drop]; exact this
set_option maxHeartbeats 16000000 in
theorem variable_any (w0 W : World) (s : List UInt8) (i : Nat) (out : List QT) (h : SC w0 W s i out) (hi : i < s.length) (hl : s.length ≤ 1000) (ho : out.length ≤ 1000) (hT : ∀ W, Ext w0 W → Tabs W) :
    Calls Tryz.prog 64 #[.pointer (some ⟨w0.heap.size, 0, none⟩)] W (TokR w0 s i out (variableS (s.drop i))) := by
  obtain ⟨R, hR⟩ : ∃ R, variableS (s.drop i) = R := ⟨_, rfl⟩
  rw [hR]
  unfold variableS at hR
  simp only [List.drop_drop] at hR
  obtain ⟨j, hj⟩ : ∃ j, i + 1 = j := ⟨_, rfl⟩
  rw [hj] at hR
  have hk := skip_le s j
  have HK := Lib.hid fun W h => skip_any w0 W s j out h (by omega) hl
  obtain ⟨k, hkk⟩ : ∃ k, skipS (s.drop j) = k := ⟨_, rfl⟩
  rw [hkk] at hR hk HK
  obtain ⟨m, hm⟩ : ∃ m, j + k = m := ⟨_, rfl⟩
  rw [hm] at hR HK
  have hn := name_le s m
  have HN := Lib.hid fun W h => name_any w0 W s m out h (by omega) hl hT
  obtain ⟨n, hnn⟩ : ∃ n, nameS (s.drop m) = n := ⟨_, rfl⟩
  rw [hnn] at hR hn HN
  have hjI : (i : Int) + 1 = (j : Int) := by omega
  have HR := Lib.hid hR
  have HS := Lib.hid h
  have hlt := h.lt
  have c1 := h.c1; have f1 := h.f1
  have hml : m ≤ s.length := by omega
  have HM := Lib.hid (And.intro hj hm)
  clear h hR hkk hnn hj hm hT
  go_enter Tryz.func64, Tryz.ntmps64
  go_wp2_with fail
  refine (HK.out _ (HS.out.setAt j)).mono ?_
  rintro e w1 ⟨rfl, hS1⟩
  clear HS c1 f1 hlt HK
  go_wp2_with fail
  refine (HN.out _ hS1).mono ?_
  rintro e w2 ⟨rfl, hX2⟩
  have HS := Lib.hid (hS1.step hX2)
  clear hS1 hX2 HN
  obtain ⟨wz, hwz⟩ : ∃ wz, wz = w2 := ⟨_, rfl⟩
  subst hwz
  have hlt := HS.out.lt
  have c0 := HS.out.c0; have c1 := HS.out.c1
  go_wp2_with fail
  refine rg_begin (S := Sx wz) (by kernel_rfl) (Sx.begin _) ?_
  have hS : Sx wz (World.drew wz) := (Sx.begin _)
  refine rg_take 0 (some 22) (.pointer (some ⟨w0.heap.size, 0, none⟩)) (oi := { dst := some 22, op := Go.Op.move (Go.Operand.tmp 0), type := 66, pos := "qlex.go:108", after := #[], guard := none }) rfl rfl (by kernel_rfl) (by kernel_rfl) (by kernel_rfl) (fun _ _ _ h => h) hS (by rfl) (fun w' hs => by rfl) ?_
  simp only [Act.put, List.setIfInBounds_toArray, List.set_cons_zero, List.set_cons_succ]
  refine rg_take 1 (some 23) (.pointer (some ⟨w0.heap.size, 0, none⟩)) (oi := { dst := some 23, op := Go.Op.nilCheck (Go.Operand.tmp 22), type := 0, pos := "qlex.go:108", after := #[{ on := 0, ground := Go.Ground.data }], guard := none }) rfl rfl (by kernel_rfl) (by kernel_rfl) (by kernel_rfl) (fun _ _ _ h => h) hS (by rfl) (fun w' hs => by first | rfl | go_simp) ?_
  simp only [Act.put, List.setIfInBounds_toArray, List.set_cons_zero, List.set_cons_succ]
  refine rg_take 2 (some 24) (.pointer (some ⟨w0.heap.size, 0, none⟩)) (oi := { dst := some 24, op := Go.Op.fieldAddr 68 (Go.Operand.tmp 23) 0, type := 0, pos := "qlex.go:108", after := #[{ on := 1, ground := Go.Ground.data }], guard := none }) rfl rfl (by kernel_rfl) (by kernel_rfl) (by kernel_rfl) (fun _ _ _ h => h) hS (by rfl) (fun w' hs => by first | rfl | go_simp) ?_
  simp only [Act.put, List.setIfInBounds_toArray, List.set_cons_zero, List.set_cons_succ]
  refine rg_take 3 (some 25) (.string (bs s)) (oi := { dst := some 25, op := Go.Op.load 9 (Go.Operand.tmp 24), type := 9, pos := "qlex.go:108", after := #[{ on := 2, ground := Go.Ground.data }], guard := none }) rfl rfl (by kernel_rfl) (by kernel_rfl) (by kernel_rfl) (fun _ _ _ h => h) hS (by rfl) (fun w' hs => by (have h0 := hs.cell hlt c0; go_simp)) ?_
  simp only [Act.put, List.setIfInBounds_toArray, List.set_cons_zero, List.set_cons_succ]
  refine rg_take 4 (some 26) (.pointer (some ⟨w0.heap.size, 0, none⟩)) (oi := { dst := some 26, op := Go.Op.move (Go.Operand.tmp 0), type := 66, pos := "qlex.go:108", after := #[], guard := none }) rfl rfl (by kernel_rfl) (by kernel_rfl) (by kernel_rfl) (fun _ _ _ h => h) hS (by rfl) (fun w' hs => by rfl) ?_
  simp only [Act.put, List.setIfInBounds_toArray, List.set_cons_zero, List.set_cons_succ]
  refine rg_take 5 (some 27) (.pointer (some ⟨w0.heap.size, 0, none⟩)) (oi := { dst := some 27, op := Go.Op.nilCheck (Go.Operand.tmp 26), type := 0, pos := "qlex.go:108", after := #[{ on := 4, ground := Go.Ground.data }], guard := none }) rfl rfl (by kernel_rfl) (by kernel_rfl) (by kernel_rfl) (fun _ _ _ h => h) hS (by rfl) (fun w' hs => by first | rfl | go_simp) ?_
  simp only [Act.put, List.setIfInBounds_toArray, List.set_cons_zero, List.set_cons_succ]
  refine rg_take 6 (some 28) (.pointer (some ⟨w0.heap.size, 1, none⟩)) (oi := { dst := some 28, op := Go.Op.fieldAddr 68 (Go.Operand.tmp 27) 1, type := 0, pos := "qlex.go:108", after := #[{ on := 5, ground := Go.Ground.data }], guard := none }) rfl rfl (by kernel_rfl) (by kernel_rfl) (by kernel_rfl) (fun _ _ _ h => h) hS (by rfl) (fun w' hs => by first | rfl | go_simp) ?_
  simp only [Act.put, List.setIfInBounds_toArray, List.set_cons_zero, List.set_cons_succ]
  refine rg_take 7 (some 29) (.int .i64 m) (oi := { dst := some 29, op := Go.Op.load 3 (Go.Operand.tmp 28), type := 3, pos := "qlex.go:108", after := #[{ on := 6, ground := Go.Ground.data }], guard := none }) rfl rfl (by kernel_rfl) (by kernel_rfl) (by kernel_rfl) (fun _ _ _ h => h) hS (by rfl) (fun w' hs => by (have h0 := hs.cell hlt c1; go_simp)) ?_
  simp only [Act.put, List.setIfInBounds_toArray, List.set_cons_zero, List.set_cons_succ]
  refine rg_take 8 (some 30) (.pointer (some ⟨w0.heap.size, 0, none⟩)) (oi := { dst := some 30, op := Go.Op.move (Go.Operand.tmp 0), type := 66, pos := "qlex.go:108", after := #[], guard := none }) rfl rfl (by kernel_rfl) (by kernel_rfl) (by kernel_rfl) (fun _ _ _ h => h) hS (by rfl) (fun w' hs => by rfl) ?_
  simp only [Act.put, List.setIfInBounds_toArray, List.set_cons_zero, List.set_cons_succ]
  refine rg_take 9 (some 31) (.pointer (some ⟨w0.heap.size, 0, none⟩)) (oi := { dst := some 31, op := Go.Op.nilCheck (Go.Operand.tmp 30), type := 0, pos := "qlex.go:108", after := #[{ on := 8, ground := Go.Ground.data }], guard := none }) rfl rfl (by kernel_rfl) (by kernel_rfl) (by kernel_rfl) (fun _ _ _ h => h) hS (by rfl) (fun w' hs => by first | rfl | go_simp) ?_
  simp only [Act.put, List.setIfInBounds_toArray, List.set_cons_zero, List.set_cons_succ]
  refine rg_take 10 (some 32) (.pointer (some ⟨w0.heap.size, 1, none⟩)) (oi := { dst := some 32, op := Go.Op.fieldAddr 68 (Go.Operand.tmp 31) 1, type := 0, pos := "qlex.go:108", after := #[{ on := 9, ground := Go.Ground.data }], guard := none }) rfl rfl (by kernel_rfl) (by kernel_rfl) (by kernel_rfl) (fun _ _ _ h => h) hS (by rfl) (fun w' hs => by first | rfl | go_simp) ?_
  simp only [Act.put, List.setIfInBounds_toArray, List.set_cons_zero, List.set_cons_succ]
  refine rg_take 11 (some 33) (.int .i64 m) (oi := { dst := some 33, op := Go.Op.load 3 (Go.Operand.tmp 32), type := 3, pos := "qlex.go:108", after := #[{ on := 10, ground := Go.Ground.data }], guard := none }) rfl rfl (by kernel_rfl) (by kernel_rfl) (by kernel_rfl) (fun _ _ _ h => h) hS (by rfl) (fun w' hs => by (have h0 := hs.cell hlt c1; go_simp)) ?_
  simp only [Act.put, List.setIfInBounds_toArray, List.set_cons_zero, List.set_cons_succ]
  refine rg_take 12 (some 34) (.int .i64 n) (oi := { dst := some 34, op := Go.Op.move (Go.Operand.tmp 4), type := 3, pos := "qlex.go:108", after := #[], guard := none }) rfl rfl (by kernel_rfl) (by kernel_rfl) (by kernel_rfl) (fun _ _ _ h => h) hS (by rfl) (fun w' hs => by rfl) ?_
  simp only [Act.put, List.setIfInBounds_toArray, List.set_cons_zero, List.set_cons_succ]
  refine rg_take 13 (some 35) (.int .i64 (m + n : Nat)) (oi := { dst := some 35, op := Go.Op.binOp Go.BinOp.add 3 (Go.Operand.tmp 33) (Go.Operand.tmp 34) 3, type := 3, pos := "qlex.go:108", after := #[{ on := 11, ground := Go.Ground.data }, { on := 12, ground := Go.Ground.data }], guard := none }) rfl rfl (by kernel_rfl) (by kernel_rfl) (by kernel_rfl) (fun _ _ _ h => h) hS (by rfl) (fun w' hs => by exact exec_add (i := m) (j := n) rfl rfl rfl (by omega) _) ?_
  simp only [Act.put, List.setIfInBounds_toArray, List.set_cons_zero, List.set_cons_succ]
  refine rg_take 14 (some 36) (.string (bs ((s.drop m).take n))) (oi := { dst := some 36, op := Go.Op.slice 9 (Go.Operand.tmp 25) (some (Go.Operand.tmp 29)) (some (Go.Operand.tmp 35)) none, type := 9, pos := "qlex.go:108", after := #[{ on := 3, ground := Go.Ground.data }, { on := 7, ground := Go.Ground.data }, { on := 13, ground := Go.Ground.data }], guard := none }) rfl rfl (by kernel_rfl) (by kernel_rfl) (by kernel_rfl) (fun _ _ _ h => h) hS (by rfl) (fun w' hs => by exact exec_stake (i := m) (n := n) rfl rfl rfl rfl (by omega) _) ?_
  simp only [Act.put, List.setIfInBounds_toArray, List.set_cons_zero, List.set_cons_succ]
  refine rg_take 15 (some 5) (.string (bs ((s.drop m).take n))) (oi := { dst := some 5, op := Go.Op.assign (Go.Operand.tmp 36), type := 9, pos := "qlex.go:108", after := #[{ on := 14, ground := Go.Ground.data }, { on := 0, ground := Go.Ground.phase }, { on := 1, ground := Go.Ground.phase }, { on := 2, ground := Go.Ground.phase }, { on := 3, ground := Go.Ground.phase }, { on := 4, ground := Go.Ground.phase }, { on := 5, ground := Go.Ground.phase }, { on := 6, ground := Go.Ground.phase }, { on := 7, ground := Go.Ground.phase }, { on := 8, ground := Go.Ground.phase }, { on := 9, ground := Go.Ground.phase }, { on := 10, ground := Go.Ground.phase }, { on := 11, ground := Go.Ground.phase }, { on := 12, ground := Go.Ground.phase }, { on := 13, ground := Go.Ground.phase }, { on := 14, ground := Go.Ground.phase }], guard := none }) rfl rfl (by kernel_rfl) (by kernel_rfl) (by kernel_rfl) (fun _ _ _ h => h) hS (by rfl) (fun w' hs => by rfl) ?_
  simp only [Act.put, List.setIfInBounds_toArray, List.set_cons_zero, List.set_cons_succ]
  refine rg_done (by kernel_rfl) ?_
  replace HS := Lib.hid (HS.out.step hS)
  clear hlt c0 c1
  obtain ⟨wy, hwy⟩ : ∃ wy, wy = World.drew wz := ⟨_, rfl⟩
  rw [← hwy] at HS ⊢
  clear hS hwy
  have hlt := HS.out.lt
  have c1 := HS.out.c1; have f1 := HS.out.f1
  obtain ⟨e, he⟩ : ∃ e, m + n = e := ⟨_, rfl⟩
  have heI : (m : Int) + (n : Int) = (e : Int) := by omega
  obtain ⟨d, hd⟩ : ∃ d, 1 + k + n = d := ⟨_, rfl⟩
  have hdI : (e : Int) - (i : Int) = (d : Int) := by have := HM.out; omega
  have hdl : i + d ≤ s.length := by have := HM.out; omega
  have hd0 : 0 < d := by omega
  rw [hd] at HR
  clear hd he hk
  by_cases h0 : n = 0
  · obtain rfl : _ = R := (if_pos h0).symm.trans HR.out
    have q0 : ((n : Int) == 0) = true := by rw [beq_iff_eq]; omega
    clear h0
    go_wp2_with fail
    go_ret
    exact ⟨rfl, HS.out.setAt i, by decide⟩
  · obtain rfl : _ = R := (if_neg h0).symm.trans HR.out
    have q0 : ((n : Int) == 0) = false := by rw [beq_eq_false_iff_ne]; omega
    clear h0
    have HP := Lib.hid (put_any w0 _ s i out 9 d ((s.drop m).take n) (HS.out.setAt i) (by omega) ho (by rw [List.length_take, List.length_drop]; omega))
    go_wp2_with fail
    refine HP.out.mono ?_
    rintro e2 w9 ⟨rfl, hS9⟩
    go_wp2_with fail
    go_ret
    exact ⟨rfl, hS9, hdl, hd0⟩
theorem tl_any (l : List UInt8) (w : World) : Calls Tryz.prog 89 #[.string (bs l), .string ⟨#[9, 10, 13, 32]⟩] w fun e w' => e = .returned (.string (bs (l.dropWhile blankB))) ∧ Ext w w' := by
  have h := Any.strings_TrimLeft_laid Tryz.lays161 (by kernel_rfl) (bs l) ⟨#[9, 10, 13, 32]⟩ w (by decide) (ascii_of_all (by decide))
  have e : Lib.trimLeftS (bs l).data.toList [9, 10, 13, 32] = l.dropWhile blankB := by
    rw [bs_list]
    unfold Lib.trimLeftS
    congr 1
    funext c
    rw [Bool.eq_iff_iff]
    simp [blankB]
    simp only [or_assoc]
  rw [show (ByteArray.mk #[9, 10, 13, 32]).data.toList = [9, 10, 13, 32] from rfl, e] at h
  exact h
set_option maxHeartbeats 16000000 in
theorem word_any (w0 W : World) (s : List UInt8) (i n : Nat) (out : List QT) (h : SC w0 W s i out) (hni : i + n ≤ s.length) (hn0 : 0 < n) (hl : s.length ≤ 1000) (ho : out.length ≤ 1000) :
    Calls Tryz.prog 69 #[.pointer (some ⟨w0.heap.size, 0, none⟩), .int .i64 n] W (TokR w0 s i out (wordS out (s.drop i) n)) := by
  obtain ⟨R, hR⟩ : ∃ R, wordS out (s.drop i) n = R := ⟨_, rfl⟩
  rw [hR]
  unfold wordS at hR
  simp only [List.drop_drop] at hR
  have HR := Lib.hid hR
  have HOP := Lib.hid fun W h => operand_any w0 W s i out h ho
  obtain ⟨op, hop⟩ : ∃ b, operandS out = b := ⟨_, rfl⟩
  rw [hop] at HR HOP
  have HS := Lib.hid h
  have hlt := h.lt
  obtain ⟨wz, hwz⟩ : ∃ wz, wz = W := ⟨_, rfl⟩
  subst hwz
  have c0 := h.c0; have c1 := h.c1
  clear h hR hop
  go_enter Tryz.func69, Tryz.ntmps69
  go_wp2_with fail
  refine rg_begin (S := Sx wz) (by kernel_rfl) (Sx.begin _) ?_
  have hS : Sx wz (World.drew wz) := (Sx.begin _)
  refine rg_take 0 (some 8) (.pointer (some ⟨w0.heap.size, 0, none⟩)) (oi := { dst := some 8, op := Go.Op.move (Go.Operand.tmp 0), type := 66, pos := "qlex.go:120", after := #[], guard := none }) rfl rfl (by kernel_rfl) (by kernel_rfl) (by kernel_rfl) (fun _ _ _ h => h) hS (by rfl) (fun w' hs => by rfl) ?_
  simp only [Act.put, List.setIfInBounds_toArray, List.set_cons_zero, List.set_cons_succ]
  refine rg_take 1 (some 9) (.pointer (some ⟨w0.heap.size, 0, none⟩)) (oi := { dst := some 9, op := Go.Op.nilCheck (Go.Operand.tmp 8), type := 0, pos := "qlex.go:120", after := #[{ on := 0, ground := Go.Ground.data }], guard := none }) rfl rfl (by kernel_rfl) (by kernel_rfl) (by kernel_rfl) (fun _ _ _ h => h) hS (by rfl) (fun w' hs => by first | rfl | go_simp) ?_
  simp only [Act.put, List.setIfInBounds_toArray, List.set_cons_zero, List.set_cons_succ]
  refine rg_take 2 (some 10) (.pointer (some ⟨w0.heap.size, 0, none⟩)) (oi := { dst := some 10, op := Go.Op.fieldAddr 68 (Go.Operand.tmp 9) 0, type := 0, pos := "qlex.go:120", after := #[{ on := 1, ground := Go.Ground.data }], guard := none }) rfl rfl (by kernel_rfl) (by kernel_rfl) (by kernel_rfl) (fun _ _ _ h => h) hS (by rfl) (fun w' hs => by first | rfl | go_simp) ?_
  simp only [Act.put, List.setIfInBounds_toArray, List.set_cons_zero, List.set_cons_succ]
  refine rg_take 3 (some 11) (.string (bs s)) (oi := { dst := some 11, op := Go.Op.load 9 (Go.Operand.tmp 10), type := 9, pos := "qlex.go:120", after := #[{ on := 2, ground := Go.Ground.data }], guard := none }) rfl rfl (by kernel_rfl) (by kernel_rfl) (by kernel_rfl) (fun _ _ _ h => h) hS (by rfl) (fun w' hs => by (have h0 := hs.cell hlt c0; go_simp)) ?_
  simp only [Act.put, List.setIfInBounds_toArray, List.set_cons_zero, List.set_cons_succ]
  refine rg_take 4 (some 12) (.pointer (some ⟨w0.heap.size, 0, none⟩)) (oi := { dst := some 12, op := Go.Op.move (Go.Operand.tmp 0), type := 66, pos := "qlex.go:120", after := #[], guard := none }) rfl rfl (by kernel_rfl) (by kernel_rfl) (by kernel_rfl) (fun _ _ _ h => h) hS (by rfl) (fun w' hs => by rfl) ?_
  simp only [Act.put, List.setIfInBounds_toArray, List.set_cons_zero, List.set_cons_succ]
  refine rg_take 5 (some 13) (.pointer (some ⟨w0.heap.size, 0, none⟩)) (oi := { dst := some 13, op := Go.Op.nilCheck (Go.Operand.tmp 12), type := 0, pos := "qlex.go:120", after := #[{ on := 4, ground := Go.Ground.data }], guard := none }) rfl rfl (by kernel_rfl) (by kernel_rfl) (by kernel_rfl) (fun _ _ _ h => h) hS (by rfl) (fun w' hs => by first | rfl | go_simp) ?_
  simp only [Act.put, List.setIfInBounds_toArray, List.set_cons_zero, List.set_cons_succ]
  refine rg_take 6 (some 14) (.pointer (some ⟨w0.heap.size, 1, none⟩)) (oi := { dst := some 14, op := Go.Op.fieldAddr 68 (Go.Operand.tmp 13) 1, type := 0, pos := "qlex.go:120", after := #[{ on := 5, ground := Go.Ground.data }], guard := none }) rfl rfl (by kernel_rfl) (by kernel_rfl) (by kernel_rfl) (fun _ _ _ h => h) hS (by rfl) (fun w' hs => by first | rfl | go_simp) ?_
  simp only [Act.put, List.setIfInBounds_toArray, List.set_cons_zero, List.set_cons_succ]
  refine rg_take 7 (some 15) (.int .i64 i) (oi := { dst := some 15, op := Go.Op.load 3 (Go.Operand.tmp 14), type := 3, pos := "qlex.go:120", after := #[{ on := 6, ground := Go.Ground.data }], guard := none }) rfl rfl (by kernel_rfl) (by kernel_rfl) (by kernel_rfl) (fun _ _ _ h => h) hS (by rfl) (fun w' hs => by (have h0 := hs.cell hlt c1; go_simp)) ?_
  simp only [Act.put, List.setIfInBounds_toArray, List.set_cons_zero, List.set_cons_succ]
  refine rg_take 8 (some 16) (.pointer (some ⟨w0.heap.size, 0, none⟩)) (oi := { dst := some 16, op := Go.Op.move (Go.Operand.tmp 0), type := 66, pos := "qlex.go:120", after := #[], guard := none }) rfl rfl (by kernel_rfl) (by kernel_rfl) (by kernel_rfl) (fun _ _ _ h => h) hS (by rfl) (fun w' hs => by rfl) ?_
  simp only [Act.put, List.setIfInBounds_toArray, List.set_cons_zero, List.set_cons_succ]
  refine rg_take 9 (some 17) (.pointer (some ⟨w0.heap.size, 0, none⟩)) (oi := { dst := some 17, op := Go.Op.nilCheck (Go.Operand.tmp 16), type := 0, pos := "qlex.go:120", after := #[{ on := 8, ground := Go.Ground.data }], guard := none }) rfl rfl (by kernel_rfl) (by kernel_rfl) (by kernel_rfl) (fun _ _ _ h => h) hS (by rfl) (fun w' hs => by first | rfl | go_simp) ?_
  simp only [Act.put, List.setIfInBounds_toArray, List.set_cons_zero, List.set_cons_succ]
  refine rg_take 10 (some 18) (.pointer (some ⟨w0.heap.size, 1, none⟩)) (oi := { dst := some 18, op := Go.Op.fieldAddr 68 (Go.Operand.tmp 17) 1, type := 0, pos := "qlex.go:120", after := #[{ on := 9, ground := Go.Ground.data }], guard := none }) rfl rfl (by kernel_rfl) (by kernel_rfl) (by kernel_rfl) (fun _ _ _ h => h) hS (by rfl) (fun w' hs => by first | rfl | go_simp) ?_
  simp only [Act.put, List.setIfInBounds_toArray, List.set_cons_zero, List.set_cons_succ]
  refine rg_take 11 (some 19) (.int .i64 i) (oi := { dst := some 19, op := Go.Op.load 3 (Go.Operand.tmp 18), type := 3, pos := "qlex.go:120", after := #[{ on := 10, ground := Go.Ground.data }], guard := none }) rfl rfl (by kernel_rfl) (by kernel_rfl) (by kernel_rfl) (fun _ _ _ h => h) hS (by rfl) (fun w' hs => by (have h0 := hs.cell hlt c1; go_simp)) ?_
  simp only [Act.put, List.setIfInBounds_toArray, List.set_cons_zero, List.set_cons_succ]
  refine rg_take 12 (some 20) (.int .i64 n) (oi := { dst := some 20, op := Go.Op.move (Go.Operand.tmp 1), type := 3, pos := "qlex.go:120", after := #[], guard := none }) rfl rfl (by kernel_rfl) (by kernel_rfl) (by kernel_rfl) (fun _ _ _ h => h) hS (by rfl) (fun w' hs => by rfl) ?_
  simp only [Act.put, List.setIfInBounds_toArray, List.set_cons_zero, List.set_cons_succ]
  refine rg_take 13 (some 21) (.int .i64 (i + n : Nat)) (oi := { dst := some 21, op := Go.Op.binOp Go.BinOp.add 3 (Go.Operand.tmp 19) (Go.Operand.tmp 20) 3, type := 3, pos := "qlex.go:120", after := #[{ on := 11, ground := Go.Ground.data }, { on := 12, ground := Go.Ground.data }], guard := none }) rfl rfl (by kernel_rfl) (by kernel_rfl) (by kernel_rfl) (fun _ _ _ h => h) hS (by rfl) (fun w' hs => by exact exec_add (i := i) (j := n) rfl rfl rfl (by omega) _) ?_
  simp only [Act.put, List.setIfInBounds_toArray, List.set_cons_zero, List.set_cons_succ]
  refine rg_take 14 (some 22) (.string (bs ((s.drop i).take n))) (oi := { dst := some 22, op := Go.Op.slice 9 (Go.Operand.tmp 11) (some (Go.Operand.tmp 15)) (some (Go.Operand.tmp 21)) none, type := 9, pos := "qlex.go:120", after := #[{ on := 3, ground := Go.Ground.data }, { on := 7, ground := Go.Ground.data }, { on := 13, ground := Go.Ground.data }], guard := none }) rfl rfl (by kernel_rfl) (by kernel_rfl) (by kernel_rfl) (fun _ _ _ h => h) hS (by rfl) (fun w' hs => by exact exec_stake (i := i) (n := n) rfl rfl rfl rfl (by omega) _) ?_
  simp only [Act.put, List.setIfInBounds_toArray, List.set_cons_zero, List.set_cons_succ]
  refine rg_take 15 (some 5) (.string (bs ((s.drop i).take n))) (oi := { dst := some 5, op := Go.Op.assign (Go.Operand.tmp 22), type := 9, pos := "qlex.go:120", after := #[{ on := 14, ground := Go.Ground.data }, { on := 0, ground := Go.Ground.phase }, { on := 1, ground := Go.Ground.phase }, { on := 2, ground := Go.Ground.phase }, { on := 3, ground := Go.Ground.phase }, { on := 4, ground := Go.Ground.phase }, { on := 5, ground := Go.Ground.phase }, { on := 6, ground := Go.Ground.phase }, { on := 7, ground := Go.Ground.phase }, { on := 8, ground := Go.Ground.phase }, { on := 9, ground := Go.Ground.phase }, { on := 10, ground := Go.Ground.phase }, { on := 11, ground := Go.Ground.phase }, { on := 12, ground := Go.Ground.phase }, { on := 13, ground := Go.Ground.phase }, { on := 14, ground := Go.Ground.phase }], guard := none }) rfl rfl (by kernel_rfl) (by kernel_rfl) (by kernel_rfl) (fun _ _ _ h => h) hS (by rfl) (fun w' hs => by rfl) ?_
  simp only [Act.put, List.setIfInBounds_toArray, List.set_cons_zero, List.set_cons_succ]
  refine rg_done (by kernel_rfl) ?_
  replace HS := Lib.hid (HS.out.step hS)
  clear hlt c0 c1
  obtain ⟨wy, hwy⟩ : ∃ wy, wy = World.drew wz := ⟨_, rfl⟩
  rw [← hwy] at HS ⊢
  clear hS hwy
  go_wp2_with fail
  refine (HOP.out _ HS.out).mono ?_
  rintro e w2 ⟨rfl, hX2⟩
  replace HS := Lib.hid (HS.out.step hX2)
  clear HOP hX2
  have HCT := Lib.hid fun l hne W p v hl h => conts_any l hne ((s.drop i).take n) p v W hl h
  cases op with
  | true =>
    replace HR := Lib.hid ((if_pos rfl).symm.trans HR.out)
    have HRL := Lib.hid (rep_strs w2 [[97, 110, 100], [111, 114], [100, 105, 118], [109, 111, 100]] #[.string ⟨#[97, 110, 100]⟩, .string ⟨#[111, 114]⟩, .string ⟨#[100, 105, 118]⟩, .string ⟨#[109, 111, 100]⟩] 9 rfl 4 rfl (by decide) (by decide))
    go_wp2_with fail
    refine (HCT.out _ (by decide) _ _ _ (by decide) HRL.out).mono ?_
    rintro e w3 ⟨rfl, hX3⟩
    replace HS := Lib.hid ((HS.out.step ((Ext.refl _).alloc _)).step hX3)
    obtain ⟨B, hB⟩ : ∃ B, ([[97, 110, 100], [111, 114], [100, 105, 118], [109, 111, 100]] : List (List UInt8)).contains ((s.drop i).take n) = B := ⟨_, rfl⟩
    rw [hB] at HR ⊢
    clear hB HCT HRL hX3
    cases B with
    | true =>
      obtain rfl : _ = R := (if_pos rfl).symm.trans HR.out
      have HP := Lib.hid (put_any w0 _ s i out 5 n ((s.drop i).take n) HS.out (by omega) ho (by rw [List.length_take, List.length_drop]; omega))
      go_wp2_with fail
      refine HP.out.mono ?_
      rintro e2 w9 ⟨rfl, hS9⟩
      go_wp2_with fail
      go_ret
      exact ⟨rfl, hS9, hni, hn0⟩
    | false =>
      obtain rfl : _ = R := (if_neg (by decide)).symm.trans HR.out
      go_wp2_with fail
      go_ret
      exact ⟨rfl, HS.out, by decide⟩
  | false =>
    replace HR := Lib.hid ((if_neg (by decide)).symm.trans HR.out)
    have HTL := Lib.hid fun W => tl_any (s.drop (i + n)) W
    obtain ⟨rest, hrest⟩ : ∃ r, (s.drop (i + n)).dropWhile blankB = r := ⟨_, rfl⟩
    rw [hrest] at HTL HR
    clear hrest
    clear wz
    obtain ⟨wz, hwz⟩ : ∃ wz, wz = w2 := ⟨_, rfl⟩
    subst hwz
    have hlt := HS.out.lt
    have c0 := HS.out.c0; have c1 := HS.out.c1
    go_wp2_with fail
    refine rg_begin (S := Sx wz) (by kernel_rfl) (Sx.begin _) ?_
    have hS : Sx wz (World.drew wz) := (Sx.begin _)
    refine rg_take 0 (some 33) (.pointer (some ⟨w0.heap.size, 0, none⟩)) (oi := { dst := some 33, op := Go.Op.move (Go.Operand.tmp 0), type := 66, pos := "qlex.go:128", after := #[], guard := none }) rfl rfl (by kernel_rfl) (by kernel_rfl) (by kernel_rfl) (fun _ _ _ h => h) hS (by rfl) (fun w' hs => by rfl) ?_
    simp only [Act.put, List.setIfInBounds_toArray, List.set_cons_zero, List.set_cons_succ]
    refine rg_take 1 (some 34) (.pointer (some ⟨w0.heap.size, 0, none⟩)) (oi := { dst := some 34, op := Go.Op.nilCheck (Go.Operand.tmp 33), type := 0, pos := "qlex.go:128", after := #[{ on := 0, ground := Go.Ground.data }], guard := none }) rfl rfl (by kernel_rfl) (by kernel_rfl) (by kernel_rfl) (fun _ _ _ h => h) hS (by rfl) (fun w' hs => by first | rfl | go_simp) ?_
    simp only [Act.put, List.setIfInBounds_toArray, List.set_cons_zero, List.set_cons_succ]
    refine rg_take 2 (some 35) (.pointer (some ⟨w0.heap.size, 0, none⟩)) (oi := { dst := some 35, op := Go.Op.fieldAddr 68 (Go.Operand.tmp 34) 0, type := 0, pos := "qlex.go:128", after := #[{ on := 1, ground := Go.Ground.data }], guard := none }) rfl rfl (by kernel_rfl) (by kernel_rfl) (by kernel_rfl) (fun _ _ _ h => h) hS (by rfl) (fun w' hs => by first | rfl | go_simp) ?_
    simp only [Act.put, List.setIfInBounds_toArray, List.set_cons_zero, List.set_cons_succ]
    refine rg_take 3 (some 36) (.string (bs s)) (oi := { dst := some 36, op := Go.Op.load 9 (Go.Operand.tmp 35), type := 9, pos := "qlex.go:128", after := #[{ on := 2, ground := Go.Ground.data }], guard := none }) rfl rfl (by kernel_rfl) (by kernel_rfl) (by kernel_rfl) (fun _ _ _ h => h) hS (by rfl) (fun w' hs => by (have h0 := hs.cell hlt c0; go_simp)) ?_
    simp only [Act.put, List.setIfInBounds_toArray, List.set_cons_zero, List.set_cons_succ]
    refine rg_take 4 (some 37) (.pointer (some ⟨w0.heap.size, 0, none⟩)) (oi := { dst := some 37, op := Go.Op.move (Go.Operand.tmp 0), type := 66, pos := "qlex.go:128", after := #[], guard := none }) rfl rfl (by kernel_rfl) (by kernel_rfl) (by kernel_rfl) (fun _ _ _ h => h) hS (by rfl) (fun w' hs => by rfl) ?_
    simp only [Act.put, List.setIfInBounds_toArray, List.set_cons_zero, List.set_cons_succ]
    refine rg_take 5 (some 38) (.pointer (some ⟨w0.heap.size, 0, none⟩)) (oi := { dst := some 38, op := Go.Op.nilCheck (Go.Operand.tmp 37), type := 0, pos := "qlex.go:128", after := #[{ on := 4, ground := Go.Ground.data }], guard := none }) rfl rfl (by kernel_rfl) (by kernel_rfl) (by kernel_rfl) (fun _ _ _ h => h) hS (by rfl) (fun w' hs => by first | rfl | go_simp) ?_
    simp only [Act.put, List.setIfInBounds_toArray, List.set_cons_zero, List.set_cons_succ]
    refine rg_take 6 (some 39) (.pointer (some ⟨w0.heap.size, 1, none⟩)) (oi := { dst := some 39, op := Go.Op.fieldAddr 68 (Go.Operand.tmp 38) 1, type := 0, pos := "qlex.go:128", after := #[{ on := 5, ground := Go.Ground.data }], guard := none }) rfl rfl (by kernel_rfl) (by kernel_rfl) (by kernel_rfl) (fun _ _ _ h => h) hS (by rfl) (fun w' hs => by first | rfl | go_simp) ?_
    simp only [Act.put, List.setIfInBounds_toArray, List.set_cons_zero, List.set_cons_succ]
    refine rg_take 7 (some 40) (.int .i64 i) (oi := { dst := some 40, op := Go.Op.load 3 (Go.Operand.tmp 39), type := 3, pos := "qlex.go:128", after := #[{ on := 6, ground := Go.Ground.data }], guard := none }) rfl rfl (by kernel_rfl) (by kernel_rfl) (by kernel_rfl) (fun _ _ _ h => h) hS (by rfl) (fun w' hs => by (have h0 := hs.cell hlt c1; go_simp)) ?_
    simp only [Act.put, List.setIfInBounds_toArray, List.set_cons_zero, List.set_cons_succ]
    refine rg_take 8 (some 41) (.int .i64 n) (oi := { dst := some 41, op := Go.Op.move (Go.Operand.tmp 1), type := 3, pos := "qlex.go:128", after := #[], guard := none }) rfl rfl (by kernel_rfl) (by kernel_rfl) (by kernel_rfl) (fun _ _ _ h => h) hS (by rfl) (fun w' hs => by rfl) ?_
    simp only [Act.put, List.setIfInBounds_toArray, List.set_cons_zero, List.set_cons_succ]
    refine rg_take 9 (some 42) (.int .i64 (i + n : Nat)) (oi := { dst := some 42, op := Go.Op.binOp Go.BinOp.add 3 (Go.Operand.tmp 40) (Go.Operand.tmp 41) 3, type := 3, pos := "qlex.go:128", after := #[{ on := 7, ground := Go.Ground.data }, { on := 8, ground := Go.Ground.data }], guard := none }) rfl rfl (by kernel_rfl) (by kernel_rfl) (by kernel_rfl) (fun _ _ _ h => h) hS (by rfl) (fun w' hs => by exact exec_add (i := i) (j := n) rfl rfl rfl (by omega) _) ?_
    simp only [Act.put, List.setIfInBounds_toArray, List.set_cons_zero, List.set_cons_succ]
    refine rg_take 10 (some 43) (.string (bs (s.drop (i + n)))) (oi := { dst := some 43, op := Go.Op.slice 9 (Go.Operand.tmp 36) (some (Go.Operand.tmp 42)) none none, type := 9, pos := "qlex.go:128", after := #[{ on := 3, ground := Go.Ground.data }, { on := 9, ground := Go.Ground.data }], guard := none }) rfl rfl (by kernel_rfl) (by kernel_rfl) (by kernel_rfl) (fun _ _ _ h => h) hS (by rfl) (fun w' hs => by exact exec_sfrom (i := i + n) rfl rfl rfl (by omega) _) ?_
    simp only [Act.put, List.setIfInBounds_toArray, List.set_cons_zero, List.set_cons_succ]
    refine rg_call 11 (some 44) 89 #[.string (bs (s.drop (i + n))), .string { data := #[9, 10, 13, 32] }] (oi := { dst := some 44, op := Go.Op.call { callee := Go.Callee.value (Go.Operand.func 89), args := #[Go.Operand.tmp 43, Go.Operand.const (Go.Value.string { data := #[9, 10, 13, 32] })], argTypes := #[9, 9] }, type := 9, pos := "qlex.go:128", after := #[{ on := 10, ground := Go.Ground.data }], guard := none }) rfl rfl (by kernel_rfl) (by rfl) (fun w' => by first | rfl | go_simp) (R := fun v w' => v = .string (bs rest) ∧ Ext (World.drew wz) w') ?_ ?_
    · refine (HTL.out (World.drew wz)).mono ?_
      rintro e w' ⟨rfl, h⟩
      exact ⟨_, rfl, rfl, h⟩
    rintro _ wr1 ⟨rfl, hBr1⟩
    have hS1 := hS.ext hBr1
    refine ⟨hS1, ?_⟩
    simp only [Act.put, List.setIfInBounds_toArray, List.set_cons_zero, List.set_cons_succ]
    refine rg_take 12 (some 6) (.string (bs rest)) (oi := { dst := some 6, op := Go.Op.assign (Go.Operand.tmp 44), type := 9, pos := "qlex.go:128", after := #[{ on := 11, ground := Go.Ground.data }, { on := 11, ground := Go.Ground.chain }, { on := 0, ground := Go.Ground.phase }, { on := 1, ground := Go.Ground.phase }, { on := 2, ground := Go.Ground.phase }, { on := 3, ground := Go.Ground.phase }, { on := 4, ground := Go.Ground.phase }, { on := 5, ground := Go.Ground.phase }, { on := 6, ground := Go.Ground.phase }, { on := 7, ground := Go.Ground.phase }, { on := 8, ground := Go.Ground.phase }, { on := 9, ground := Go.Ground.phase }, { on := 10, ground := Go.Ground.phase }, { on := 11, ground := Go.Ground.phase }], guard := none }) rfl rfl (by kernel_rfl) (by kernel_rfl) (by kernel_rfl) (fun _ _ _ h => h) hS1 (by rfl) (fun w' hs => by rfl) ?_
    simp only [Act.put, List.setIfInBounds_toArray, List.set_cons_zero, List.set_cons_succ]
    refine rg_done (by kernel_rfl) ?_
    replace HS := Lib.hid (HS.out.step hS1)
    clear hlt c0 c1 HTL hS1 hS hBr1
    have HP1 := Lib.hid fun W => hasp_any rest [58, 58] W
    have HP2 := Lib.hid fun W => hasp_any rest [40] W
    obtain ⟨b1, hb1⟩ : ∃ b, hasS rest [58, 58] = b := ⟨_, rfl⟩
    obtain ⟨b2, hb2⟩ : ∃ b, hasS rest [40] = b := ⟨_, rfl⟩
    rw [hb1] at HP1 HR
    rw [hb2] at HP2 HR
    clear hb1 hb2
    have HP1 := Lib.hid (fun W => HP1.out W)
    go_wp2_with fail
    refine (HP1.out _).mono ?_
    rintro e w4 ⟨rfl, hX4⟩
    replace HS := Lib.hid (HS.out.step hX4)
    clear HP1 hX4
    cases b1 with
    | true =>
      obtain rfl : _ = R := (if_pos rfl).symm.trans HR.out
      clear HP2 HCT
      have HP := Lib.hid (put_any w0 _ s i out 4 n ((s.drop i).take n) HS.out (by omega) ho (by rw [List.length_take, List.length_drop]; omega))
      go_wp2_with fail
      refine HP.out.mono ?_
      rintro e2 w9 ⟨rfl, hS9⟩
      go_wp2_with fail
      go_ret
      exact ⟨rfl, hS9, hni, hn0⟩
    | false =>
      replace HR := Lib.hid ((if_neg (by decide)).symm.trans HR.out)
      go_wp2_with fail
      refine (HP2.out _).mono ?_
      rintro e w5 ⟨rfl, hX5⟩
      replace HS := Lib.hid (HS.out.step hX5)
      clear HP2 hX5
      cases b2 with
      | false =>
        obtain rfl : _ = R := (if_neg (by decide)).symm.trans HR.out
        clear HCT
        have HP := Lib.hid (put_any w0 _ s i out 1 n ((s.drop i).take n) HS.out (by omega) ho (by rw [List.length_take, List.length_drop]; omega))
        go_wp2_with fail
        refine HP.out.mono ?_
        rintro e2 w9 ⟨rfl, hS9⟩
        go_wp2_with fail
        go_ret
        exact ⟨rfl, hS9, hni, hn0⟩
      | true =>
        replace HR := Lib.hid ((if_pos rfl).symm.trans HR.out)
        have HRL := Lib.hid (rep_strs w5 [[99, 111, 109, 109, 101, 110, 116], [116, 101, 120, 116], [112, 114, 111, 99, 101, 115, 115, 105, 110, 103, 45, 105, 110, 115, 116, 114, 117, 99, 116, 105, 111, 110], [110, 111, 100, 101]] #[.string ⟨#[99, 111, 109, 109, 101, 110, 116]⟩, .string ⟨#[116, 101, 120, 116]⟩, .string ⟨#[112, 114, 111, 99, 101, 115, 115, 105, 110, 103, 45, 105, 110, 115, 116, 114, 117, 99, 116, 105, 111, 110]⟩, .string ⟨#[110, 111, 100, 101]⟩] 9 rfl 4 rfl (by decide) (by decide))
        go_wp2_with fail
        refine (HCT.out _ (by decide) _ _ _ (by decide) HRL.out).mono ?_
        rintro e w6 ⟨rfl, hX6⟩
        replace HS := Lib.hid ((HS.out.step ((Ext.refl _).alloc _)).step hX6)
        obtain ⟨B, hB⟩ : ∃ B, ([[99, 111, 109, 109, 101, 110, 116], [116, 101, 120, 116], [112, 114, 111, 99, 101, 115, 115, 105, 110, 103, 45, 105, 110, 115, 116, 114, 117, 99, 116, 105, 111, 110], [110, 111, 100, 101]] : List (List UInt8)).contains ((s.drop i).take n) = B := ⟨_, rfl⟩
        rw [hB] at HR ⊢
        clear hB HCT HRL hX6
        cases B with
        | true =>
          obtain rfl : _ = R := (if_pos rfl).symm.trans HR.out
          have HP := Lib.hid (put_any w0 _ s i out 3 n ((s.drop i).take n) HS.out (by omega) ho (by rw [List.length_take, List.length_drop]; omega))
          go_wp2_with fail
          refine HP.out.mono ?_
          rintro e2 w9 ⟨rfl, hS9⟩
          go_wp2_with fail
          go_ret
          exact ⟨rfl, hS9, hni, hn0⟩
        | false =>
          obtain rfl : _ = R := (if_neg (by decide)).symm.trans HR.out
          have HP := Lib.hid (put_any w0 _ s i out 2 n ((s.drop i).take n) HS.out (by omega) ho (by rw [List.length_take, List.length_drop]; omega))
          go_wp2_with fail
          refine HP.out.mono ?_
          rintro e2 w9 ⟨rfl, hS9⟩
          go_wp2_with fail
          go_ret
          exact ⟨rfl, hS9, hni, hn0⟩

end Go.Proofs.YtfoclfefjcnllaaGreatDoor

/-
  The scanner's signs. Helper lemmas; no statement of the seat is proved here.
-/
namespace Go.Proofs.YtfoclfefjcnllaaGreatDoor
open Go.RowKit
set_option maxRecDepth 100000
set_option linter.unusedVariables false
set_option linter.unusedSimpArgs false

theorem OPSq_idx (j : Nat) (h : j < 11) : ∀ W, (Instr.index 158 (.agg #[.string ⟨#[47, 47]⟩, .string ⟨#[33, 61]⟩, .string ⟨#[60, 61]⟩, .string ⟨#[62, 61]⟩, .string ⟨#[47]⟩, .string ⟨#[124]⟩, .string ⟨#[43]⟩, .string ⟨#[45]⟩, .string ⟨#[61]⟩, .string ⟨#[60]⟩, .string ⟨#[62]⟩]) (.int .i64 (j : Nat))).run Tryz.prog W = .ok (.string (bs (OPSq[j]'(show j < OPSq.length from h)))) W := by
  intro W
  rcases (by omega : j = 0 ∨ j = 1 ∨ j = 2 ∨ j = 3 ∨ j = 4 ∨ j = 5 ∨ j = 6 ∨ j = 7 ∨ j = 8 ∨ j = 9 ∨ j = 10) with rfl | rfl | rfl | rfl | rfl | rfl | rfl | rfl | rfl | rfl | rfl <;> kernel_rfl
theorem OPSq_ok : ∀ t ∈ OPSq, 0 < t.length ∧ t.length ≤ 2 := by decide
theorem MARKSq_idx (j : Nat) (h : j < 9) : ∀ W, (Instr.index 160 (.agg #[.string ⟨#[58, 58]⟩, .string ⟨#[46, 46]⟩, .string ⟨#[40]⟩, .string ⟨#[41]⟩, .string ⟨#[91]⟩, .string ⟨#[93]⟩, .string ⟨#[64]⟩, .string ⟨#[44]⟩, .string ⟨#[46]⟩]) (.int .i64 (j : Nat))).run Tryz.prog W = .ok (.string (bs (MARKSq[j]'(show j < MARKSq.length from h)))) W := by
  intro W
  rcases (by omega : j = 0 ∨ j = 1 ∨ j = 2 ∨ j = 3 ∨ j = 4 ∨ j = 5 ∨ j = 6 ∨ j = 7 ∨ j = 8) with rfl | rfl | rfl | rfl | rfl | rfl | rfl | rfl | rfl <;> kernel_rfl
theorem MARKSq_ok : ∀ t ∈ MARKSq, 0 < t.length ∧ t.length ≤ 2 := by decide
set_option maxHeartbeats 16000000 in
theorem sign_any (w0 W : World) (s : List UInt8) (i : Nat) (out : List QT) (h : SC w0 W s i out) (hi : i < s.length) (hl : s.length ≤ 1000) (ho : out.length ≤ 1000) :
    Calls Tryz.prog 70 #[.pointer (some ⟨w0.heap.size, 0, none⟩)] W (TokR w0 s i out (signS (s.drop i))) := by
  obtain ⟨R, hR⟩ : ∃ R, signS (s.drop i) = R := ⟨_, rfl⟩
  rw [hR]
  unfold signS at hR
  have HR := Lib.hid (show (match (OPSq.drop 0).find? (hasS (s.drop i)) with | some t => (.ok (5, t.length, t) : Tok) | none => match MARKSq.find? (hasS (s.drop i)) with | some t => .ok (6, t.length, t) | none => .error 60) = R from hR)
  have HS := Lib.hid h
  clear h hR
  go_enter Tryz.func70, Tryz.ntmps70
  go_wp2_with fail
  go_loopw [4, 8] (fun _ t wr => ∃ j : Nat, t = .int .i64 j ∧ j ≤ 11 ∧ Hid (SC w0 wr s i out) ∧ Hid ((match (OPSq.drop j).find? (hasS (s.drop i)) with | some t => (.ok (5, t.length, t) : Tok) | none => match MARKSq.find? (hasS (s.drop i)) with | some t => .ok (6, t.length, t) | none => .error 60) = R)) (fun _ t _ => downQ 11 t)
  case atStart => exact ⟨0, rfl, Nat.zero_le _, HS, HR⟩
  case round =>
    clear HS HR
    obtain ⟨j, rfl, hj, HS, HI⟩ := hrel
    by_cases hjl : j < 11
    · have hjI : (j : Int) < 11 := by omega
      have hjn : j < OPSq.length := hjl
      have hix := OPSq_idx j hjl
      have hH := HI.out
      have hmem : OPSq[j]'hjn ∈ OPSq := List.getElem_mem _
      have hT1 := OPSq_ok _ hmem
      rw [List.drop_eq_getElem_cons hjn, List.find?_cons] at hH
      obtain ⟨T, hT⟩ : ∃ T, OPSq[j]'hjn = T := ⟨_, rfl⟩
      rw [hT] at hix hT1 hH
      have HHA := Lib.hid fun W h => has_any w0 W s i out T h (by omega) hl
      have hle : hasS (s.drop i) T = true → i + T.length ≤ s.length := fun h => by
        have h1 : T <+: s.drop i := List.isPrefixOf_iff_prefix.1 h
        have := h1.length_le; rw [List.length_drop] at this; omega
      obtain ⟨b, hb⟩ : ∃ b, hasS (s.drop i) T = b := ⟨_, rfl⟩
      rw [hb] at HHA hH hle
      obtain ⟨m, hm⟩ : ∃ m, T.length = m := ⟨_, rfl⟩
      have hsz : (bs T).size = m := by rw [bs_size]; exact hm
      have HHM := Lib.hid (And.intro hm (And.intro hle hT1))
      have HH := Lib.hid hH
      clear hT hmem hm hb hH hle hT1
      go_wp2_with fail
      refine (HHA.out _ HS.out).mono ?_
      rintro e w1 ⟨rfl, hX1⟩
      replace HS := Lib.hid (HS.out.step hX1)
      clear HHA hX1
      cases b with
      | true =>
        obtain ⟨hm, hle, hT1⟩ := HHM.out
        have hle := hle rfl
        have HP := Lib.hid (put_any w0 _ s i out 5 m T HS.out (by omega) ho (by omega))
        obtain rfl : _ = R := HH.out
        rw [hm] at hle
        have HHN := Lib.hid (And.intro hm hT1)
        clear hm hT1 HH HHM
        go_wp2_with fail
        refine HP.out.mono ?_
        rintro e2 w9 ⟨rfl, hS9⟩
        go_wp2_with fail
        go_ret
        obtain ⟨rfl, hT1⟩ := HHN.out
        exact ⟨rfl, hS9, hle, by omega⟩
      | false =>
        go_wp2_with fail
        go_roundw
        case rel => exact ⟨j + 1, by go_num, by omega, HS, HH⟩
        case measure => simp only [downQ]; omega
    · have hjI : ¬ (j : Int) < 11 := by omega
      have hH := HI.out
      rw [List.drop_of_length_le (show OPSq.length ≤ j by show 11 ≤ j; omega)] at hH
      have HR := Lib.hid hH
      clear HI hH
      go_wp2_with fail
      go_loopw [6, 21] (fun _ t wr => ∃ j : Nat, t = .int .i64 j ∧ j ≤ 9 ∧ Hid (SC w0 wr s i out) ∧ Hid ((match (MARKSq.drop j).find? (hasS (s.drop i)) with | some t => (.ok (6, t.length, t) : Tok) | none => .error 60) = R)) (fun _ t _ => downQ 9 t)
      case atStart => exact ⟨0, rfl, Nat.zero_le _, HS, HR⟩
      case round =>
        clear HS HR
        obtain ⟨j, rfl, hj, HS, HI⟩ := hrel
        by_cases hjl : j < 9
        · have hjI : (j : Int) < 9 := by omega
          have hjn : j < MARKSq.length := hjl
          have hix := MARKSq_idx j hjl
          have hH := HI.out
          have hmem : MARKSq[j]'hjn ∈ MARKSq := List.getElem_mem _
          have hT1 := MARKSq_ok _ hmem
          rw [List.drop_eq_getElem_cons hjn, List.find?_cons] at hH
          obtain ⟨T, hT⟩ : ∃ T, MARKSq[j]'hjn = T := ⟨_, rfl⟩
          rw [hT] at hix hT1 hH
          have HHA := Lib.hid fun W h => has_any w0 W s i out T h (by omega) hl
          have hle : hasS (s.drop i) T = true → i + T.length ≤ s.length := fun h => by
            have h1 : T <+: s.drop i := List.isPrefixOf_iff_prefix.1 h
            have := h1.length_le; rw [List.length_drop] at this; omega
          obtain ⟨b, hb⟩ : ∃ b, hasS (s.drop i) T = b := ⟨_, rfl⟩
          rw [hb] at HHA hH hle
          obtain ⟨m, hm⟩ : ∃ m, T.length = m := ⟨_, rfl⟩
          have hsz : (bs T).size = m := by rw [bs_size]; exact hm
          have HHM := Lib.hid (And.intro hm (And.intro hle hT1))
          have HH := Lib.hid hH
          clear hT hmem hm hb hH hle hT1
          go_wp2_with fail
          refine (HHA.out _ HS.out).mono ?_
          rintro e w1 ⟨rfl, hX1⟩
          replace HS := Lib.hid (HS.out.step hX1)
          clear HHA hX1
          cases b with
          | true =>
            obtain ⟨hm, hle, hT1⟩ := HHM.out
            have hle := hle rfl
            have HP := Lib.hid (put_any w0 _ s i out 6 m T HS.out (by omega) ho (by omega))
            obtain rfl : _ = R := HH.out
            rw [hm] at hle
            have HHN := Lib.hid (And.intro hm hT1)
            clear hm hT1 HH HHM
            go_wp2_with fail
            refine HP.out.mono ?_
            rintro e2 w9 ⟨rfl, hS9⟩
            go_wp2_with fail
            go_ret
            obtain ⟨rfl, hT1⟩ := HHN.out
            exact ⟨rfl, hS9, hle, by omega⟩
          | false =>
            go_wp2_with fail
            go_roundw
            case rel => exact ⟨j + 1, by go_num, by omega, HS, HH⟩
            case measure => simp only [downQ]; omega
        · have hjI : ¬ (j : Int) < 9 := by omega
          have hH := HI.out
          rw [List.drop_of_length_le (show MARKSq.length ≤ j by show 9 ≤ j; omega)] at hH
          have HR := Lib.hid hH
          clear HI hH
          go_wp2_with fail
          obtain rfl : _ = R := HR.out
          go_ret
          exact ⟨rfl, HS.out, by decide⟩

end Go.Proofs.YtfoclfefjcnllaaGreatDoor

/-
  The scanner's tokens. Helper lemmas; no statement of the seat is proved here.
-/
namespace Go.Proofs.YtfoclfefjcnllaaGreatDoor
open Go.RowKit
set_option maxRecDepth 100000
set_option linter.unusedVariables false
set_option linter.unusedSimpArgs false

theorem number_pos {l : List UInt8} {k n : Nat} {t : List UInt8} (h : numberS l = some (k, n, t)) : 0 < n := by
  unfold numberS at h
  simp only at h
  split at h
  · split at h
    · cases h
    · have := Option.some.inj h; injection this with h1 h2; injection h2 with h2 h3; omega
  · split at h
    · cases h
    · have := Option.some.inj h; injection this with h1 h2; injection h2 with h2 h3; omega
set_option maxHeartbeats 16000000 in
theorem token_any (w0 W : World) (s : List UInt8) (i : Nat) (out : List QT) (h : SC w0 W s i out) (hi : i < s.length) (hl : s.length ≤ 1000) (ho : out.length ≤ 1000) (hT : ∀ W, Ext w0 W → Tabs W) :
    Calls Tryz.prog 46 #[.pointer (some ⟨w0.heap.size, 0, none⟩)] W (TokR w0 s i out (tokenS out (s.drop i))) := by
  obtain ⟨R, hR⟩ : ∃ R, tokenS out (s.drop i) = R := ⟨_, rfl⟩
  rw [hR]
  have hd : s.drop i = s[i] :: s.drop (i + 1) := List.drop_eq_getElem_cons hi
  rw [hd, tokenS, ← hd] at hR
  have HQ := Lib.hid fun W h => quoted_any w0 W s i out h hi hl ho
  obtain ⟨c, hc⟩ : ∃ c, s[i] = c := ⟨_, rfl⟩
  rw [hc] at hR HQ
  have hcn : s[i].toNat = c.toNat := by rw [hc]
  have e34 : (c = 34) ↔ c.toNat = 34 := ⟨fun h => by rw [h]; rfl, fun h => UInt8.toNat_inj.1 h⟩
  have e39 : (c = 39) ↔ c.toNat = 39 := ⟨fun h => by rw [h]; rfl, fun h => UInt8.toNat_inj.1 h⟩
  have e36 : (c = 36) ↔ c.toNat = 36 := ⟨fun h => by rw [h]; rfl, fun h => UInt8.toNat_inj.1 h⟩
  have e42 : (c = 42) ↔ c.toNat = 42 := ⟨fun h => by rw [h]; rfl, fun h => UInt8.toNat_inj.1 h⟩
  have e46 : (c = 46) ↔ c.toNat = 46 := ⟨fun h => by rw [h]; rfl, fun h => UInt8.toNat_inj.1 h⟩
  rw [digB_nat] at hR
  simp only [e34, e39, e36, e42, e46, Bool.and_eq_true, decide_eq_true_eq] at hR
  obtain ⟨x, hx⟩ : ∃ x, c.toNat = x := ⟨_, rfl⟩
  rw [hx] at hR hcn
  have HR := Lib.hid hR
  have HS := Lib.hid h
  have hlt := h.lt
  obtain ⟨wz, hwz⟩ : ∃ wz, wz = W := ⟨_, rfl⟩
  subst hwz
  have c0 := h.c0; have c1 := h.c1
  clear h hR hd hc hx e34 e39 e36 e42 e46
  go_enter Tryz.func46, Tryz.ntmps46
  go_wp2_with fail
  refine rg_begin (S := Sx wz) (by kernel_rfl) (Sx.begin _) ?_
  have hS : Sx wz (World.drew wz) := (Sx.begin _)
  refine rg_take 0 (some 6) (.pointer (some ⟨w0.heap.size, 0, none⟩)) (oi := { dst := some 6, op := Go.Op.move (Go.Operand.tmp 0), type := 66, pos := "qlex.go:162", after := #[], guard := none }) rfl rfl (by kernel_rfl) (by kernel_rfl) (by kernel_rfl) (fun _ _ _ h => h) hS (by rfl) (fun w' hs => by rfl) ?_
  simp only [Act.put, List.setIfInBounds_toArray, List.set_cons_zero, List.set_cons_succ]
  refine rg_take 1 (some 7) (.pointer (some ⟨w0.heap.size, 0, none⟩)) (oi := { dst := some 7, op := Go.Op.nilCheck (Go.Operand.tmp 6), type := 0, pos := "qlex.go:162", after := #[{ on := 0, ground := Go.Ground.data }], guard := none }) rfl rfl (by kernel_rfl) (by kernel_rfl) (by kernel_rfl) (fun _ _ _ h => h) hS (by rfl) (fun w' hs => by first | rfl | go_simp) ?_
  simp only [Act.put, List.setIfInBounds_toArray, List.set_cons_zero, List.set_cons_succ]
  refine rg_take 2 (some 8) (.pointer (some ⟨w0.heap.size, 0, none⟩)) (oi := { dst := some 8, op := Go.Op.fieldAddr 68 (Go.Operand.tmp 7) 0, type := 0, pos := "qlex.go:162", after := #[{ on := 1, ground := Go.Ground.data }], guard := none }) rfl rfl (by kernel_rfl) (by kernel_rfl) (by kernel_rfl) (fun _ _ _ h => h) hS (by rfl) (fun w' hs => by first | rfl | go_simp) ?_
  simp only [Act.put, List.setIfInBounds_toArray, List.set_cons_zero, List.set_cons_succ]
  refine rg_take 3 (some 9) (.string (bs s)) (oi := { dst := some 9, op := Go.Op.load 9 (Go.Operand.tmp 8), type := 9, pos := "qlex.go:162", after := #[{ on := 2, ground := Go.Ground.data }], guard := none }) rfl rfl (by kernel_rfl) (by kernel_rfl) (by kernel_rfl) (fun _ _ _ h => h) hS (by rfl) (fun w' hs => by (have h0 := hs.cell hlt c0; go_simp)) ?_
  simp only [Act.put, List.setIfInBounds_toArray, List.set_cons_zero, List.set_cons_succ]
  refine rg_take 4 (some 10) (.pointer (some ⟨w0.heap.size, 0, none⟩)) (oi := { dst := some 10, op := Go.Op.move (Go.Operand.tmp 0), type := 66, pos := "qlex.go:162", after := #[], guard := none }) rfl rfl (by kernel_rfl) (by kernel_rfl) (by kernel_rfl) (fun _ _ _ h => h) hS (by rfl) (fun w' hs => by rfl) ?_
  simp only [Act.put, List.setIfInBounds_toArray, List.set_cons_zero, List.set_cons_succ]
  refine rg_take 5 (some 11) (.pointer (some ⟨w0.heap.size, 0, none⟩)) (oi := { dst := some 11, op := Go.Op.nilCheck (Go.Operand.tmp 10), type := 0, pos := "qlex.go:162", after := #[{ on := 4, ground := Go.Ground.data }], guard := none }) rfl rfl (by kernel_rfl) (by kernel_rfl) (by kernel_rfl) (fun _ _ _ h => h) hS (by rfl) (fun w' hs => by first | rfl | go_simp) ?_
  simp only [Act.put, List.setIfInBounds_toArray, List.set_cons_zero, List.set_cons_succ]
  refine rg_take 6 (some 12) (.pointer (some ⟨w0.heap.size, 1, none⟩)) (oi := { dst := some 12, op := Go.Op.fieldAddr 68 (Go.Operand.tmp 11) 1, type := 0, pos := "qlex.go:162", after := #[{ on := 5, ground := Go.Ground.data }], guard := none }) rfl rfl (by kernel_rfl) (by kernel_rfl) (by kernel_rfl) (fun _ _ _ h => h) hS (by rfl) (fun w' hs => by first | rfl | go_simp) ?_
  simp only [Act.put, List.setIfInBounds_toArray, List.set_cons_zero, List.set_cons_succ]
  refine rg_take 7 (some 13) (.int .i64 i) (oi := { dst := some 13, op := Go.Op.load 3 (Go.Operand.tmp 12), type := 3, pos := "qlex.go:162", after := #[{ on := 6, ground := Go.Ground.data }], guard := none }) rfl rfl (by kernel_rfl) (by kernel_rfl) (by kernel_rfl) (fun _ _ _ h => h) hS (by rfl) (fun w' hs => by (have h0 := hs.cell hlt c1; go_simp)) ?_
  simp only [Act.put, List.setIfInBounds_toArray, List.set_cons_zero, List.set_cons_succ]
  refine rg_take 8 (some 14) (.int .u8 (s[i].toNat : Nat)) (oi := { dst := some 14, op := Go.Op.index 9 (Go.Operand.tmp 9) (Go.Operand.tmp 13), type := 5, pos := "qlex.go:162", after := #[{ on := 3, ground := Go.Ground.data }, { on := 7, ground := Go.Ground.data }], guard := none }) rfl rfl (by kernel_rfl) (by kernel_rfl) (by kernel_rfl) (fun _ _ _ h => h) hS (by rfl) (fun w' hs => by exact exec_sidx (i := i) rfl rfl rfl (by omega) _) ?_
  simp only [Act.put, List.setIfInBounds_toArray, List.set_cons_zero, List.set_cons_succ]
  refine rg_take 9 (some 3) (.int .u8 (s[i].toNat : Nat)) (oi := { dst := some 3, op := Go.Op.assign (Go.Operand.tmp 14), type := 5, pos := "qlex.go:162", after := #[{ on := 8, ground := Go.Ground.data }, { on := 0, ground := Go.Ground.phase }, { on := 1, ground := Go.Ground.phase }, { on := 2, ground := Go.Ground.phase }, { on := 3, ground := Go.Ground.phase }, { on := 4, ground := Go.Ground.phase }, { on := 5, ground := Go.Ground.phase }, { on := 6, ground := Go.Ground.phase }, { on := 7, ground := Go.Ground.phase }, { on := 8, ground := Go.Ground.phase }], guard := none }) rfl rfl (by kernel_rfl) (by kernel_rfl) (by kernel_rfl) (fun _ _ _ h => h) hS (by rfl) (fun w' hs => by rfl) ?_
  simp only [Act.put, List.setIfInBounds_toArray, List.set_cons_zero, List.set_cons_succ]
  refine rg_done (by kernel_rfl) ?_
  replace HS := Lib.hid (HS.out.step hS)
  clear hlt c0 c1
  obtain ⟨wy, hwy⟩ : ∃ wy, wy = World.drew wz := ⟨_, rfl⟩
  rw [← hwy] at HS ⊢
  clear hS hwy
  have q34 : ((x : Int) == 34) = (x == 34) := by rw [Bool.eq_iff_iff, beq_iff_eq, beq_iff_eq]; exact Int.ofNat_inj
  have q39 : ((x : Int) == 39) = (x == 39) := by rw [Bool.eq_iff_iff, beq_iff_eq, beq_iff_eq]; exact Int.ofNat_inj
  have q36 : ((x : Int) == 36) = (x == 36) := by rw [Bool.eq_iff_iff, beq_iff_eq, beq_iff_eq]; exact Int.ofNat_inj
  have q42 : ((x : Int) == 42) = (x == 42) := by rw [Bool.eq_iff_iff, beq_iff_eq, beq_iff_eq]; exact Int.ofNat_inj
  have q46 : ((x : Int) == 46) = (x == 46) := by rw [Bool.eq_iff_iff, beq_iff_eq, beq_iff_eq]; exact Int.ofNat_inj
  by_cases hq : x = 34 ∨ x = 39
  · have hR : quotedS c (s.drop (i + 1)) = R := by have := HR.out; rw [if_pos hq] at this; exact this
    have HC := Lib.hid (HQ.out _ HS.out)
    rw [hR] at HC
    clear hR HR HQ q36 q42 q46
    rcases hq with rfl | rfl
    · rw [show ((34 : Nat) == 34) = true from rfl] at q34
      rw [show ((34 : Nat) == 39) = false from rfl] at q39
      simp only [hcn]
      go_wp2_with fail
      refine HC.out.mono ?_
      intro e w4 hP
      rcases R with c | ⟨k, m, t⟩
      · obtain ⟨rfl, h1, h2⟩ := hP
        go_wp2_with fail
        go_ret
        exact ⟨rfl, h1, h2⟩
      · obtain ⟨rfl, h1, h2, h3⟩ := hP
        go_wp2_with fail
        go_ret
        exact ⟨rfl, h1, h2, h3⟩
    · rw [show ((39 : Nat) == 34) = false from rfl] at q34
      rw [show ((39 : Nat) == 39) = true from rfl] at q39
      simp only [hcn]
      go_wp2_with fail
      refine HC.out.mono ?_
      intro e w4 hP
      rcases R with c | ⟨k, m, t⟩
      · obtain ⟨rfl, h1, h2⟩ := hP
        go_wp2_with fail
        go_ret
        exact ⟨rfl, h1, h2⟩
      · obtain ⟨rfl, h1, h2, h3⟩ := hP
        go_wp2_with fail
        go_ret
        exact ⟨rfl, h1, h2, h3⟩
  · clear HQ
    replace HR := Lib.hid ((if_neg hq).symm.trans HR.out)
    rw [show (x == 34) = false by rw [beq_eq_false_iff_ne]; omega] at q34
    rw [show (x == 39) = false by rw [beq_eq_false_iff_ne]; omega] at q39
    by_cases h36 : x = 36
    · have hR : variableS (s.drop i) = R := by have := HR.out; rw [if_pos h36] at this; exact this
      rw [show (x == 36) = true by rw [beq_iff_eq]; exact h36] at q36
      have HC := Lib.hid (variable_any w0 _ s i out HS.out hi hl ho hT)
      rw [hR] at HC
      clear hR HR h36 hq q42 q46
      simp only [hcn]
      go_wp2_with fail
      refine HC.out.mono ?_
      intro e w4 hP
      rcases R with c | ⟨k, m, t⟩
      · obtain ⟨rfl, h1, h2⟩ := hP
        go_wp2_with fail
        go_ret
        exact ⟨rfl, h1, h2⟩
      · obtain ⟨rfl, h1, h2, h3⟩ := hP
        go_wp2_with fail
        go_ret
        exact ⟨rfl, h1, h2, h3⟩
    · replace HR := Lib.hid ((if_neg h36).symm.trans HR.out)
      rw [show (x == 36) = false by rw [beq_eq_false_iff_ne]; exact h36] at q36
      by_cases h42 : x = 42
      · rw [show (x == 42) = true by rw [beq_iff_eq]; exact h42] at q42
        replace HR := Lib.hid ((if_pos h42).symm.trans HR.out)
        have HOP := Lib.hid (operand_any w0 _ s i out HS.out ho)
        obtain ⟨op, hop⟩ : ∃ b, operandS out = b := ⟨_, rfl⟩
        rw [hop] at HOP HR
        clear hop h42 h36 hq q46
        simp only [hcn]
        go_wp2_with fail
        refine HOP.out.mono ?_
        rintro e w4 ⟨rfl, hX4⟩
        replace HS := Lib.hid (HS.out.step hX4)
        clear HOP hX4
        cases op with
        | true =>
          have HP := Lib.hid (put_any w0 _ s i out 5 1 [42] HS.out (by omega) ho (by decide))
          obtain rfl : _ = R := HR.out
          go_wp2_with fail
          refine HP.out.mono ?_
          rintro e2 w9 ⟨rfl, hS9⟩
          go_wp2_with fail
          go_ret
          exact ⟨rfl, hS9, by omega, by omega⟩
        | false =>
          have HP := Lib.hid (put_any w0 _ s i out 1 1 [42] HS.out (by omega) ho (by decide))
          obtain rfl : _ = R := HR.out
          go_wp2_with fail
          refine HP.out.mono ?_
          rintro e2 w9 ⟨rfl, hS9⟩
          go_wp2_with fail
          go_ret
          exact ⟨rfl, hS9, by omega, by omega⟩
      · replace HR := Lib.hid ((if_neg h42).symm.trans HR.out)
        rw [show (x == 42) = false by rw [beq_eq_false_iff_ne]; exact h42] at q42
        by_cases h46 : x = 46 ∨ 48 ≤ x ∧ x ≤ 57
        · replace HR := Lib.hid ((if_pos h46).symm.trans HR.out)
          have HC := Lib.hid fun W h => number_any w0 W s i out h (by omega) hl ho
          have hnp := fun k n t => number_pos (l := s.drop i) (k := k) (n := n) (t := t)
          obtain ⟨N, hN⟩ : ∃ N, numberS (s.drop i) = N := ⟨_, rfl⟩
          rw [hN] at HC HR hnp
          have HNP := Lib.hid hnp
          clear hN hnp h42 h36
          rcases h46 with rfl | ⟨g48, g57⟩
          · rw [show ((46 : Nat) == 46) = true from rfl] at q46
            simp only [hcn]
            go_wp2_with fail
            refine (HC.out _ HS.out).mono ?_
            intro e w4 hP
            clear HC HS
            rcases N with _ | ⟨k, m, t⟩
            · obtain ⟨rfl, hS4⟩ := hP
              have HS := Lib.hid hS4
              clear hS4 HNP
              replace HR := Lib.hid (show restS out (s.drop i) = R from HR.out)
              have HNA := Lib.hid fun W h => name_any w0 W s i out h (by omega) hl hT
              have hn := name_le s i
              have hR := HR.out
              unfold restS at hR
              obtain ⟨n, hnn⟩ : ∃ n, nameS (s.drop i) = n := ⟨_, rfl⟩
              rw [hnn] at HNA hn hR
              clear hnn
              replace HR := Lib.hid hR
              clear hR
              go_wp2_with fail
              refine (HNA.out _ HS.out).mono ?_
              rintro e w3 ⟨rfl, hX3⟩
              replace HS := Lib.hid (HS.out.step hX3)
              clear HNA hX3
              by_cases hn0 : n = 0
              · have hn0I : ¬ (0 : Int) < (n : Int) := by omega
                have hR : signS (s.drop i) = R := by have := HR.out; rw [if_pos hn0] at this; exact this
                have HC := Lib.hid (sign_any w0 _ s i out HS.out hi hl ho)
                rw [hR] at HC
                clear hR hn0 HR
                go_wp2_with fail
                refine HC.out.mono ?_
                intro e w4 hP
                rcases R with c | ⟨k, m, t⟩
                · obtain ⟨rfl, h1, h2⟩ := hP
                  go_wp2_with fail
                  go_ret
                  exact ⟨rfl, h1, h2⟩
                · obtain ⟨rfl, h1, h2, h3⟩ := hP
                  go_wp2_with fail
                  go_ret
                  exact ⟨rfl, h1, h2, h3⟩
              · have hn0I : (0 : Int) < (n : Int) := by omega
                have hR : wordS out (s.drop i) n = R := by have := HR.out; rw [if_neg hn0] at this; exact this
                have HC := Lib.hid (word_any w0 _ s i n out HS.out (by omega) (by omega) hl ho)
                rw [hR] at HC
                clear hR hn0 HR
                go_wp2_with fail
                refine HC.out.mono ?_
                intro e w4 hP
                rcases R with c | ⟨k, m, t⟩
                · obtain ⟨rfl, h1, h2⟩ := hP
                  go_wp2_with fail
                  go_ret
                  exact ⟨rfl, h1, h2⟩
                · obtain ⟨rfl, h1, h2, h3⟩ := hP
                  go_wp2_with fail
                  go_ret
                  exact ⟨rfl, h1, h2, h3⟩
            · obtain ⟨rfl, hS4, hle⟩ := hP
              obtain rfl : _ = R := HR.out
              have hm := HNP.out _ _ _ rfl
              have HS4 := Lib.hid (And.intro hS4 (And.intro hle hm))
              clear hS4 hle hm HNP HR
              go_wp2_with fail
              go_ret
              exact ⟨rfl, HS4.out.1, HS4.out.2.1, HS4.out.2.2⟩
          · rw [show (x == 46) = false by rw [beq_eq_false_iff_ne]; omega] at q46
            have q48 : (48 : Int) ≤ (x : Int) := by omega
            have q57 : (x : Int) ≤ 57 := by omega
            clear g48 g57
            simp only [hcn]
            go_wp2_with fail
            refine (HC.out _ HS.out).mono ?_
            intro e w4 hP
            clear HC HS
            rcases N with _ | ⟨k, m, t⟩
            · obtain ⟨rfl, hS4⟩ := hP
              have HS := Lib.hid hS4
              clear hS4 HNP
              replace HR := Lib.hid (show restS out (s.drop i) = R from HR.out)
              have HNA := Lib.hid fun W h => name_any w0 W s i out h (by omega) hl hT
              have hn := name_le s i
              have hR := HR.out
              unfold restS at hR
              obtain ⟨n, hnn⟩ : ∃ n, nameS (s.drop i) = n := ⟨_, rfl⟩
              rw [hnn] at HNA hn hR
              clear hnn
              replace HR := Lib.hid hR
              clear hR
              go_wp2_with fail
              refine (HNA.out _ HS.out).mono ?_
              rintro e w3 ⟨rfl, hX3⟩
              replace HS := Lib.hid (HS.out.step hX3)
              clear HNA hX3
              by_cases hn0 : n = 0
              · have hn0I : ¬ (0 : Int) < (n : Int) := by omega
                have hR : signS (s.drop i) = R := by have := HR.out; rw [if_pos hn0] at this; exact this
                have HC := Lib.hid (sign_any w0 _ s i out HS.out hi hl ho)
                rw [hR] at HC
                clear hR hn0 HR
                go_wp2_with fail
                refine HC.out.mono ?_
                intro e w4 hP
                rcases R with c | ⟨k, m, t⟩
                · obtain ⟨rfl, h1, h2⟩ := hP
                  go_wp2_with fail
                  go_ret
                  exact ⟨rfl, h1, h2⟩
                · obtain ⟨rfl, h1, h2, h3⟩ := hP
                  go_wp2_with fail
                  go_ret
                  exact ⟨rfl, h1, h2, h3⟩
              · have hn0I : (0 : Int) < (n : Int) := by omega
                have hR : wordS out (s.drop i) n = R := by have := HR.out; rw [if_neg hn0] at this; exact this
                have HC := Lib.hid (word_any w0 _ s i n out HS.out (by omega) (by omega) hl ho)
                rw [hR] at HC
                clear hR hn0 HR
                go_wp2_with fail
                refine HC.out.mono ?_
                intro e w4 hP
                rcases R with c | ⟨k, m, t⟩
                · obtain ⟨rfl, h1, h2⟩ := hP
                  go_wp2_with fail
                  go_ret
                  exact ⟨rfl, h1, h2⟩
                · obtain ⟨rfl, h1, h2, h3⟩ := hP
                  go_wp2_with fail
                  go_ret
                  exact ⟨rfl, h1, h2, h3⟩
            · obtain ⟨rfl, hS4, hle⟩ := hP
              obtain rfl : _ = R := HR.out
              have hm := HNP.out _ _ _ rfl
              have HS4 := Lib.hid (And.intro hS4 (And.intro hle hm))
              clear hS4 hle hm HNP HR
              go_wp2_with fail
              go_ret
              exact ⟨rfl, HS4.out.1, HS4.out.2.1, HS4.out.2.2⟩
        · replace HR := Lib.hid ((if_neg h46).symm.trans HR.out)
          have h46' : ¬ x = 46 := fun h => h46 (.inl h)
          rw [show (x == 46) = false by rw [beq_eq_false_iff_ne]; exact h46'] at q46
          simp only [hcn]
          by_cases h48 : 48 ≤ x
          · have q48 : (48 : Int) ≤ (x : Int) := by omega
            have q57 : ¬ (x : Int) ≤ 57 := by omega
            clear h46 h46' h42 h36 hq
            replace HR := Lib.hid (show restS out (s.drop i) = R from HR.out)
            have HNA := Lib.hid fun W h => name_any w0 W s i out h (by omega) hl hT
            have hn := name_le s i
            have hR := HR.out
            unfold restS at hR
            obtain ⟨n, hnn⟩ : ∃ n, nameS (s.drop i) = n := ⟨_, rfl⟩
            rw [hnn] at HNA hn hR
            clear hnn
            replace HR := Lib.hid hR
            clear hR
            go_wp2_with fail
            refine (HNA.out _ HS.out).mono ?_
            rintro e w3 ⟨rfl, hX3⟩
            replace HS := Lib.hid (HS.out.step hX3)
            clear HNA hX3
            by_cases hn0 : n = 0
            · have hn0I : ¬ (0 : Int) < (n : Int) := by omega
              have hR : signS (s.drop i) = R := by have := HR.out; rw [if_pos hn0] at this; exact this
              have HC := Lib.hid (sign_any w0 _ s i out HS.out hi hl ho)
              rw [hR] at HC
              clear hR hn0 HR
              go_wp2_with fail
              refine HC.out.mono ?_
              intro e w4 hP
              rcases R with c | ⟨k, m, t⟩
              · obtain ⟨rfl, h1, h2⟩ := hP
                go_wp2_with fail
                go_ret
                exact ⟨rfl, h1, h2⟩
              · obtain ⟨rfl, h1, h2, h3⟩ := hP
                go_wp2_with fail
                go_ret
                exact ⟨rfl, h1, h2, h3⟩
            · have hn0I : (0 : Int) < (n : Int) := by omega
              have hR : wordS out (s.drop i) n = R := by have := HR.out; rw [if_neg hn0] at this; exact this
              have HC := Lib.hid (word_any w0 _ s i n out HS.out (by omega) (by omega) hl ho)
              rw [hR] at HC
              clear hR hn0 HR
              go_wp2_with fail
              refine HC.out.mono ?_
              intro e w4 hP
              rcases R with c | ⟨k, m, t⟩
              · obtain ⟨rfl, h1, h2⟩ := hP
                go_wp2_with fail
                go_ret
                exact ⟨rfl, h1, h2⟩
              · obtain ⟨rfl, h1, h2, h3⟩ := hP
                go_wp2_with fail
                go_ret
                exact ⟨rfl, h1, h2, h3⟩
          · have q48 : ¬ (48 : Int) ≤ (x : Int) := by omega
            clear h46 h46' h42 h36 hq
            replace HR := Lib.hid (show restS out (s.drop i) = R from HR.out)
            have HNA := Lib.hid fun W h => name_any w0 W s i out h (by omega) hl hT
            have hn := name_le s i
            have hR := HR.out
            unfold restS at hR
            obtain ⟨n, hnn⟩ : ∃ n, nameS (s.drop i) = n := ⟨_, rfl⟩
            rw [hnn] at HNA hn hR
            clear hnn
            replace HR := Lib.hid hR
            clear hR
            go_wp2_with fail
            refine (HNA.out _ HS.out).mono ?_
            rintro e w3 ⟨rfl, hX3⟩
            replace HS := Lib.hid (HS.out.step hX3)
            clear HNA hX3
            by_cases hn0 : n = 0
            · have hn0I : ¬ (0 : Int) < (n : Int) := by omega
              have hR : signS (s.drop i) = R := by have := HR.out; rw [if_pos hn0] at this; exact this
              have HC := Lib.hid (sign_any w0 _ s i out HS.out hi hl ho)
              rw [hR] at HC
              clear hR hn0 HR
              go_wp2_with fail
              refine HC.out.mono ?_
              intro e w4 hP
              rcases R with c | ⟨k, m, t⟩
              · obtain ⟨rfl, h1, h2⟩ := hP
                go_wp2_with fail
                go_ret
                exact ⟨rfl, h1, h2⟩
              · obtain ⟨rfl, h1, h2, h3⟩ := hP
                go_wp2_with fail
                go_ret
                exact ⟨rfl, h1, h2, h3⟩
            · have hn0I : (0 : Int) < (n : Int) := by omega
              have hR : wordS out (s.drop i) n = R := by have := HR.out; rw [if_neg hn0] at this; exact this
              have HC := Lib.hid (word_any w0 _ s i n out HS.out (by omega) (by omega) hl ho)
              rw [hR] at HC
              clear hR hn0 HR
              go_wp2_with fail
              refine HC.out.mono ?_
              intro e w4 hP
              rcases R with c | ⟨k, m, t⟩
              · obtain ⟨rfl, h1, h2⟩ := hP
                go_wp2_with fail
                go_ret
                exact ⟨rfl, h1, h2⟩
              · obtain ⟨rfl, h1, h2, h3⟩ := hP
                go_wp2_with fail
                go_ret
                exact ⟨rfl, h1, h2, h3⟩

end Go.Proofs.YtfoclfefjcnllaaGreatDoor
