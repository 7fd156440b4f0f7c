/-
  The document's pieces are the program's: recensionref24.Pieces. Helper lemmas; no statement of the seat is proved here.
-/
import Derived.Test.YtcdehcclkhmbiaaGreatDoorFRefW
namespace Go.Proofs.YtcdehcclkhmbiaaGreatDoor
open Go.RowKit
set_option maxRecDepth 100000
set_option linter.unusedVariables false
set_option linter.unusedSimpArgs false

theorem u8eq (x : Nat) (c : UInt8) (h : x < 256) : UInt8.ofNat x = c ↔ x = c.toNat := by
  constructor
  · rintro rfl; rw [UInt8.toNat_ofNat', Nat.mod_eq_of_lt (show x < 2 ^ 8 from h)]
  · rintro rfl; simp
theorem enc2 (c0 c1 : UInt8) (n : Nat) (hn : 2 ≤ n) : wholeR [c0, c1] = true ↔ D2 n c0.toNat c1.toNat := by
  have h0 := c0.toNat_lt
  have h1 := c1.toNat_lt
  have e : valR [c0, c1] = c0.toNat % 32 * 64 + c1.toNat % 64 := rfl
  unfold wholeR
  rw [e, decide_eq_true_iff]
  unfold encS D2
  rw [if_neg (by omega)]
  by_cases g1 : c0.toNat % 32 * 64 + c1.toNat % 64 < 128
  · rw [if_pos g1]
    exact ⟨fun h => by simp at h, fun h => by omega⟩
  · rw [if_neg g1, if_pos (by omega)]
    simp only [List.cons.injEq, and_true]
    rw [u8eq _ _ (by omega), u8eq _ _ (by omega)]
    omega
theorem enc3 (c0 c1 c2 : UInt8) (n : Nat) (hn : 3 ≤ n) : wholeR [c0, c1, c2] = true ↔ D3 n c0.toNat c1.toNat c2.toNat := by
  have h0 := c0.toNat_lt
  have h1 := c1.toNat_lt
  have h2 := c2.toNat_lt
  have e : valR [c0, c1, c2] = (c0.toNat % 16 * 64 + c1.toNat % 64) * 64 + c2.toNat % 64 := rfl
  have ev : V3 c0.toNat c1.toNat c2.toNat = (c0.toNat % 16 * 64 + c1.toNat % 64) * 64 + c2.toNat % 64 := by unfold V3; omega
  unfold wholeR D3
  rw [e, decide_eq_true_iff, ev]
  obtain ⟨v, hv⟩ : ∃ v, (c0.toNat % 16 * 64 + c1.toNat % 64) * 64 + c2.toNat % 64 = v := ⟨_, rfl⟩
  rw [hv]
  have v1 : v / 4096 = c0.toNat % 16 := by omega
  have v2 : v / 64 % 64 = c1.toNat % 64 := by omega
  have v3 : v % 64 = c2.toNat % 64 := by omega
  have v4 : v < 65536 := by omega
  clear e ev hv
  unfold encS
  by_cases g0 : 1114111 < v ∨ (55296 ≤ v ∧ v ≤ 57343)
  · rw [if_pos g0]
    exact ⟨fun h => by simp at h, fun h => by omega⟩
  · rw [if_neg g0]
    by_cases g1 : v < 128
    · rw [if_pos g1]
      exact ⟨fun h => by simp at h, fun h => by omega⟩
    · rw [if_neg g1]
      by_cases g2 : v < 2048
      · rw [if_pos g2]
        exact ⟨fun h => by simp at h, fun h => by omega⟩
      · rw [if_neg g2, if_pos v4]
        simp only [List.cons.injEq, and_true]
        rw [u8eq _ _ (by omega), u8eq _ _ (by omega), u8eq _ _ (by omega), v1, v2, v3]
        omega
theorem enc4 (c0 c1 c2 c3 : UInt8) (n : Nat) (hn : 4 ≤ n) : wholeR [c0, c1, c2, c3] = true ↔ D4 n c0.toNat c1.toNat c2.toNat c3.toNat := by
  have h0 := c0.toNat_lt
  have h1 := c1.toNat_lt
  have h2 := c2.toNat_lt
  have h3 := c3.toNat_lt
  have e : valR [c0, c1, c2, c3] = ((c0.toNat % 8 * 64 + c1.toNat % 64) * 64 + c2.toNat % 64) * 64 + c3.toNat % 64 := rfl
  have ev : V4 c0.toNat c1.toNat c2.toNat c3.toNat = ((c0.toNat % 8 * 64 + c1.toNat % 64) * 64 + c2.toNat % 64) * 64 + c3.toNat % 64 := by unfold V4; omega
  unfold wholeR D4
  rw [e, decide_eq_true_iff, ev]
  obtain ⟨v, hv⟩ : ∃ v, ((c0.toNat % 8 * 64 + c1.toNat % 64) * 64 + c2.toNat % 64) * 64 + c3.toNat % 64 = v := ⟨_, rfl⟩
  rw [hv]
  have v0 : v / 262144 = c0.toNat % 8 := by omega
  have v1 : v / 4096 % 64 = c1.toNat % 64 := by omega
  have v2 : v / 64 % 64 = c2.toNat % 64 := by omega
  have v3 : v % 64 = c3.toNat % 64 := by omega
  clear e ev hv
  unfold encS
  by_cases g0 : 1114111 < v ∨ (55296 ≤ v ∧ v ≤ 57343)
  · rw [if_pos g0]
    exact ⟨fun h => by simp at h, fun h => by omega⟩
  · rw [if_neg g0]
    by_cases g1 : v < 128
    · rw [if_pos g1]
      exact ⟨fun h => by simp at h, fun h => by omega⟩
    · rw [if_neg g1]
      by_cases g2 : v < 2048
      · rw [if_pos g2]
        exact ⟨fun h => by simp at h, fun h => by omega⟩
      · rw [if_neg g2]
        by_cases g3 : v < 65536
        · rw [if_pos g3]
          exact ⟨fun h => by simp at h, fun h => by omega⟩
        · rw [if_neg g3]
          simp only [List.cons.injEq, and_true]
          rw [u8eq _ _ (by omega), u8eq _ _ (by omega), u8eq _ _ (by omega), u8eq _ _ (by omega), v0, v1, v2, v3]
          omega
theorem take2 (l : List UInt8) (h : 2 ≤ l.length) : l.take 2 = [l.getD 0 0, l.getD 1 0] := by
  match l, h with
  | a :: b :: r, _ => rfl
theorem take3 (l : List UInt8) (h : 3 ≤ l.length) : l.take 3 = [l.getD 0 0, l.getD 1 0, l.getD 2 0] := by
  match l, h with
  | a :: b :: c :: r, _ => rfl
theorem take4 (l : List UInt8) (h : 4 ≤ l.length) : l.take 4 = [l.getD 0 0, l.getD 1 0, l.getD 2 0, l.getD 3 0] := by
  match l, h with
  | a :: b :: c :: d :: r, _ => rfl
/-- A row of so many bytes is one rune's just if the text's first piece has so many. -/
theorem whole_iff (l : List UInt8) (k : Nat) (h1 : 2 ≤ k) (h2 : k ≤ 4) (h3 : k ≤ l.length) : wholeR (l.take k) = true ↔ Pc.szU l = k := by
  have hw := decN_ways l.length (Pc.gb l 0) (Pc.gb l 1) (Pc.gb l 2) (Pc.gb l 3)
  have hk : k = 2 ∨ k = 3 ∨ k = 4 := by omega
  rcases hk with rfl | rfl | rfl
  · rw [take2 l h3, enc2 _ _ l.length h3]
    show D2 l.length (Pc.gb l 0) (Pc.gb l 1) ↔ _
    unfold Pc.szU
    rcases hw with ⟨e, k⟩ | ⟨e, k⟩ | ⟨e, k⟩ | ⟨e, k⟩ | ⟨e, k⟩ <;> rw [e] <;> first | exact iff_of_true k rfl | (simp only [D2, D3, D4] at k ⊢; omega)
  · rw [take3 l h3, enc3 _ _ _ l.length h3]
    show D3 l.length (Pc.gb l 0) (Pc.gb l 1) (Pc.gb l 2) ↔ _
    unfold Pc.szU
    rcases hw with ⟨e, k⟩ | ⟨e, k⟩ | ⟨e, k⟩ | ⟨e, k⟩ | ⟨e, k⟩ <;> rw [e] <;> first | exact iff_of_true k rfl | (simp only [D2, D3, D4] at k ⊢; omega)
  · rw [take4 l h3, enc4 _ _ _ _ l.length h3]
    show D4 l.length (Pc.gb l 0) (Pc.gb l 1) (Pc.gb l 2) (Pc.gb l 3) ↔ _
    unfold Pc.szU
    rcases hw with ⟨e, k⟩ | ⟨e, k⟩ | ⟨e, k⟩ | ⟨e, k⟩ | ⟨e, k⟩ <;> rw [e] <;> first | exact iff_of_true k rfl | (simp only [D2, D3, D4] at k ⊢; omega)
theorem whole_any (p : List UInt8) (h1 : 2 ≤ p.length) (h2 : p.length ≤ 4) (w : World) : Calls Tryz.prog 18 #[.string (bs p)] w fun e w' => e = .returned (.bool (wholeR p)) ∧ Ext w w' := by
  have : p.length = 2 ∨ p.length = 3 ∨ p.length = 4 := by omega
  rcases this with h | h | h
  · exact whole_2 p h w
  · exact whole_3 p h w
  · exact whole_4 p h w
set_option maxHeartbeats 4000000 in
/-- The search for a piece's size, and the pieces. -/
theorem rpieces_any (s : List UInt8) (w : World) (hs : s.length ≤ 1000000) :
    Calls Tryz.prog 11 #[.string (bs s)] w fun e w' => ∃ v, e = .returned v ∧ StrRow w' v (Pc.pieces s) ∧ Ext w w' := by
  have hpl := Pc.pieces_len s
  obtain ⟨Z, hZ⟩ : ∃ Z, Pc.pieces s = Z := ⟨_, rfl⟩
  rw [hZ] at hpl ⊢
  have HZ := Lib.hid hZ; clear hZ
  have hsz : (bs s).size ≤ 1000000 := by rw [bs_size]; exact hs
  obtain ⟨i0, hi, hz0, hz1, hz2⟩ := info_parts infoStr
  go_enter Tryz.func11, Tryz.ntmps11
  go_wp2
  go_loopw [3, 4, 5, 6] (fun o t _ _ wr => ∃ (i : Nat) (L : List (List UInt8)) (dv : Value), t = .int .i64 i ∧ dv = o ∧ i ≤ (bs s).size ∧ wr.ownsRow w.heap.size 9 1 dv L.length (strV L) ∧ Ext w wr ∧ Hid (L ++ Pc.pieces (s.drop i) = Z)) (fun _ t _ _ _ => downV (bs s).size t)
  case atStart => exact ⟨0, [], _, rfl, rfl, Nat.zero_le _, World.ownsRow_nil _ _ _ _, Ext.refl _, HZ⟩
  case round =>
    obtain ⟨i, L, dv, rfl, rfl, hi2, hown, hX, HL⟩ := hrel
    have hlen : L.length ≤ 1000000 := by
      have := congrArg List.length HL.out
      rw [List.length_append] at this; omega
    have hwz := hX.size
    by_cases hlt : i < (bs s).size
    · have hI : (i : Int) < ((bs s).size : Int) := by omega
      have hi0 : (0 : Int) ≤ (i : Int) := by omega
      obtain ⟨r, hr⟩ : ∃ r, s.drop i = r := ⟨_, rfl⟩
      rw [hr] at HL
      have hrl : r.length = (bs s).size - i := by rw [← hr, List.length_drop, bs_size]
      have hne : r ≠ [] := by intro e; rw [e] at hrl; simp at hrl; omega
      obtain ⟨a1, a2, a3⟩ := Pc.szU_le r hne
      have HN : Hid ((L ++ [r.take (Pc.szU r)]) ++ Pc.pieces (r.drop (Pc.szU r)) = Z) := by
        have := HL.out
        rw [Pc.pieces_cons r hne] at this
        rw [List.append_assoc]; exact Lib.hid this
      have hex : ∀ k, (bs s).extract i (i + k) = bs (r.take k) := fun k => by rw [bs_extract, hr, show i + k - i = k by omega]
      have HEX := Lib.hid hex
      have hdr : ∀ k, s.drop (i + k) = r.drop k := fun k => by rw [← hr, List.drop_drop]
      have HDR := Lib.hid hdr
      have hst := whole_iff r
      have hlenr := Lib.hid hrl
      obtain ⟨sz, hsz2⟩ : ∃ sz, Pc.szU r = sz := ⟨_, rfl⟩
      rw [hsz2] at a1 a2 a3 HN hst
      have HST := Lib.hid hst
      have HA2 := Lib.hid a2
      have hne' := Lib.hid hne
      clear hr hsz2 HL hex hdr hst hrl a2 hne
      obtain ⟨w0, hw0⟩ : ∃ w0, w0 = wr := ⟨_, rfl⟩
      subst hw0
      go_wp2_with fail
      go_loopw [5, 6] (fun n k wq => ∃ (m j : Nat), n = .int .i64 m ∧ k = .int .i64 j ∧ 2 ≤ j ∧ j ≤ 5 ∧ m ≤ 4 ∧ 1 ≤ m ∧ Ext w0 wq ∧ Hid (m = if sz < j then sz else 1)) (fun _ k _ => downV 5 k)
      case atStart => exact ⟨1, 2, rfl, rfl, by omega, by omega, by omega, by omega, Ext.refl _, Lib.hid (by split <;> omega)⟩
      case round =>
        obtain ⟨m, j, rfl, rfl, j1, j2, m1, m2, hQ, HM⟩ := hrel
        have hqz := hQ.size
        by_cases hk : j ≤ 4 ∧ i + j ≤ (bs s).size
        · obtain ⟨k1, k2⟩ := hk
          have k1' : (j : Int) ≤ 4 := by omega
          have k2' : (i : Int) + (j : Int) ≤ ((bs s).size : Int) := by omega
          have HW := Lib.hid (fun W => whole_any (r.take j) (by rw [List.length_take]; have := hlenr.out; omega) (by rw [List.length_take]; omega) W)
          rw [← HEX.out j] at HW
          have HS := Lib.hid (HST.out j j1 k1 (by have := hlenr.out; omega))
          cases hwh : wholeR (r.take j) with
          | true =>
            rw [hwh] at HW
            have HM2 : Hid (j = if sz < j + 1 then sz else 1) := Lib.hid (by
              have h3 := HS.out.1 hwh
              rw [if_pos (by omega)]; exact h3.symm)
            clear HS hwh HM
            go_wp2_with fail
            refine (HW.out _).mono ?_
            rintro e w1 ⟨rfl, hB1⟩
            clear HW
            go_wp2_with fail
            go_roundw
            case rel => exact ⟨j, j + 1, rfl, by go_num, by omega, by omega, by omega, by omega, hQ.trans hB1, HM2⟩
            case measure => simp only [downV]; omega
          | false =>
            rw [hwh] at HW
            have HM2 : Hid (m = if sz < j + 1 then sz else 1) := Lib.hid (by
              have h3 : sz ≠ j := fun e => by have := HS.out.2 e; rw [hwh] at this; cases this
              have h4 := HM.out
              rw [h4]
              split <;> split <;> omega)
            clear HS hwh HM
            go_wp2_with fail
            refine (HW.out _).mono ?_
            rintro e w1 ⟨rfl, hB1⟩
            clear HW
            go_wp2_with fail
            go_roundw
            case rel => exact ⟨m, j + 1, rfl, by go_num, by omega, by omega, by omega, by omega, hQ.trans hB1, HM2⟩
            case measure => simp only [downV]; omega
        · have hm : m = sz := by
            have h1 := HM.out
            have h2 := hlenr.out
            have h3 := HA2.out
            rw [h1, if_pos (by omega)]
          obtain rfl := hm
          have hX1 := hX.trans hQ
          have hsz1 := hX1.size
          have hown1 : wr.ownsRow w.heap.size 9 1 dv L.length (strV L) := hown.kept (row := none) ⟨hQ.os, hQ.tape, hQ.output, hQ.size, fun i hi _ => Below.block hQ i hi⟩ (by cases dv.ownBlock <;> simp)
          have E1 := Lib.hid (HEX.out m)
          have hsm : i + m ≤ (bs s).size := by have := hlenr.out; have := HA2.out; omega
          have hdn : s.drop (i + m) = r.drop m := HDR.out m
          have HNN : Hid ((L ++ [r.take m]) ++ Pc.pieces (s.drop (i + m)) = Z) := Lib.hid (by rw [hdn]; exact HN.out)
          have HT4 : Hid (m ≤ 4) := Lib.hid m1
          clear hown hX hQ HM HN hdn HA2 hlenr HDR HEX HST hne' hwz hqz
          by_cases hj4 : j ≤ 4
          · have q1 : (j : Int) ≤ 4 := by omega
            have q2 : ¬ (i : Int) + (j : Int) ≤ ((bs s).size : Int) := by omega
            clear hk
            go_wp2_with (at_builtin; refine wpList_append_own _ rfl (.tmp 31) (.tmp 38) _ rfl w.heap.size 9 i0 (.string ⟨#[]⟩) 1 16 Tryz.underlying37 hi hz0 hz1 hz2 rfl (by decide) dv L.length (strV L) rfl (hown1.alloc _) ⟨wr.heap.size, 0, none⟩ 1 1 [_] rfl rfl new_one one_str (by unfold maxLen; omega) (by omega) (by simp; omega) ?_; intro v2 w2 hown2 hgrow2 _)
            have hX2 := hX1.grown_own hown1 hgrow2
            have hO2 : w2.ownsRow w.heap.size 9 1 v2 (L ++ [r.take m]).length (strV (L ++ [r.take m])) := by
              rw [strV_snoc, List.length_append, ← E1.out]; exact hown2
            clear hown1 hown2 hgrow2 hX1
            go_wp2
            go_roundw
            case rel => exact ⟨i + m, L ++ [r.take m], v2, by go_num, rfl, hsm, hO2, hX2, HNN⟩
            case measure => simp only [downV]; omega
          · have q1 : ¬ (j : Int) ≤ 4 := by omega
            clear hk
            go_wp2_with (at_builtin; refine wpList_append_own _ rfl (.tmp 31) (.tmp 38) _ rfl w.heap.size 9 i0 (.string ⟨#[]⟩) 1 16 Tryz.underlying37 hi hz0 hz1 hz2 rfl (by decide) dv L.length (strV L) rfl (hown1.alloc _) ⟨wr.heap.size, 0, none⟩ 1 1 [_] rfl rfl new_one one_str (by unfold maxLen; omega) (by omega) (by simp; omega) ?_; intro v2 w2 hown2 hgrow2 _)
            have hX2 := hX1.grown_own hown1 hgrow2
            have hO2 : w2.ownsRow w.heap.size 9 1 v2 (L ++ [r.take m]).length (strV (L ++ [r.take m])) := by
              rw [strV_snoc, List.length_append, ← E1.out]; exact hown2
            clear hown1 hown2 hgrow2 hX1
            go_wp2
            go_roundw
            case rel => exact ⟨i + m, L ++ [r.take m], v2, by go_num, rfl, hsm, hO2, hX2, HNN⟩
            case measure => simp only [downV]; omega
    · have hI : ¬ ((i : Int) < ((bs s).size : Int)) := by omega
      have HT : Hid (L = Z) := by
        have := HL.out
        rw [List.drop_of_length_le (by rw [bs_size] at hlt; omega), Pc.pieces_nil, List.append_nil] at this; exact Lib.hid this
      clear HL
      go_wp2
      go_ret
      refine ⟨dv, rfl, ?_, hX⟩
      rw [← HT.out]; exact StrRow.of_own hown
end Go.Proofs.YtcdehcclkhmbiaaGreatDoor
