/-
  The contract of the reference's Text (layer 3). Helper lemmas; no statement of the seat is proved here.
-/
import Derived.Test.YtcdpjgdaofgpcaaDoorTextRef
import Derived.Test.YtcdpjgdaofgpcaaDoorRef3e
import Derived.Laws.BytesArg
namespace Go.Proofs.YtcdpjgdaofgpcaaDoor
open Go.RowKit
open KText
set_option maxRecDepth 100000
set_option linter.unusedVariables false
set_option linter.unusedSimpArgs false

theorem infoU8 : (Tryd.prog.info? 5).map (fun i => (i.zero, i.size, i.bytes)) = some (some (.int .u8 0), 1, 1) := by kernel_rfl
def bytesV (l : List UInt8) : List Value := l.map fun c => Value.int .u8 (c.toNat : Int)
theorem bytesV_snoc (l : List UInt8) (c : UInt8) : bytesV (l ++ [c]) = bytesV l ++ [Value.int .u8 (c.toNat : Int)] := by unfold bytesV; simp
theorem bytesV_at (l : List UInt8) (k : Nat) (h : k < l.length) : (bytesV l)[k]? = some (Value.int .u8 (l[k].toNat : Int)) := by unfold bytesV; simp [h]
theorem new_one {w : World} {u : Value} {e : TypeId} : ∀ (j : Nat) (v : Value), [u][j]? = some v → (w.alloc (.cells #[u] e)).cell? ((⟨w.heap.size, 0, none⟩ : Addr).add j) = some v := by
  intro j v hj
  match j, hj with
  | 0, hj => simp at hj; subst hj; simp [Addr.add, go_sem]
theorem one_cell {k : IntKind} {n : Int} : ∀ u ∈ [Value.int k n], u.oneCell' = true := by
  intro u hu; simp at hu; subst hu; rfl
theorem dgt_int (q : Nat) : ((dgt q).toNat : Int) = 48 + (q : Int) % 10 := by rw [dgt_toNat]; omega
theorem own_snoc {w : World} {B : Nat} {e : TypeId} {v : Value} {L : List UInt8} {c : UInt8} {n : Int} (hc : (c.toNat : Int) = n) (h : w.ownsRow B e 1 v (L.length + 1) (bytesV L ++ [Value.int .u8 n])) :
    w.ownsRow B e 1 v (L ++ [c]).length (bytesV (L ++ [c])) := by
  rw [bytesV_snoc, List.length_append, hc]; exact h
theorem Ext.grown {a w w' : World} {row : Option Nat} (h : Ext a w) (hg : w.grownBy w' row) (hr : ∀ k, row = some k → a.heap.size ≤ k) : Ext a w' := Below.grown h hg (Below.size h) hr
theorem Ext.grown_own {a w w' : World} {o : Obj} {e : TypeId} {n s : Nat} {v : Value} {xs : List Value} (h : Ext a w) (hown : w.ownsRow a.heap.size e s v n xs) (hg : (w.alloc o).grownBy w' v.ownBlock) : Ext a w' :=
  Ext.grown (h.alloc o) hg (fun k hk => (hown.lt k hk).1)
theorem byte48 (c : UInt8) (h : ¬ c = 48) : ((c.toNat : Int) == 48) = false := by
  rw [beq_eq_false_iff_ne]; intro e; exact h (UInt8.toNat_inj.1 (by rw [show (48 : UInt8).toNat = 48 from rfl]; omega))
theorem one_string (c : UInt8) : strOfNums [(c.toNat : Int)] = bs [c] := by
  apply ByteArray.ext; simp [strOfNums, bs]
theorem add_off (g k : Nat) : (⟨g, 0, none⟩ : Addr).add k = ⟨g, k, none⟩ := by unfold Addr.add; split <;> simp_all
theorem one_at {w : World} {g j : Nat} {n : Int} (h : w.cell? ⟨g, j, none⟩ = some (.int .u8 n)) : ∀ i, i < 1 → w.cell? ⟨g, j + i, none⟩ = some (.int .u8 ([n].getD i 0)) := by
  intro i hi
  obtain rfl : i = 0 := by omega
  exact h
theorem drop_snoc (L : List UInt8) (j : Nat) (h : j < L.length) : (L.drop j).reverse = (L.drop (j + 1)).reverse ++ [L[j]] := by
  rw [List.drop_eq_getElem_cons h, List.reverse_cons]

set_option maxHeartbeats 8000000 in
theorem rtext_pos (av : Int) (w : World) (ho : oddB false av = false) (a : Nat) (ha : a ≤ 1000000000000000) (hav : absI av = (a : Int)) (hs : 0 ≤ av) :
    Calls Tryd.prog 48 #[.agg #[.bool false, .int .i64 av]] w fun e w' => e = .returned (.string (bs (bodyS a))) ∧ Ext w w' := by
  obtain ⟨_, a1, a2⟩ := oddB_false ho
  have HO := Lib.hid ho
  have HA := Lib.hid hav
  clear ho hav
  obtain ⟨i0, hi, hz0, hz1, hz2⟩ := info_parts infoU8
  go_enter Tryd.func48, Tryd.ntmps48
  go_wp2_with fail
  refine (rodd_any false av _).mono ?_
  rw [HO.out]
  rintro e w1 ⟨rfl, hB1⟩
  have hz1' := hB1.size
  simp at hz1'
  have l0_1 : w.heap.size < w1.heap.size := by omega
  have c0 : w1.cell? ⟨w.heap.size, 0, none⟩ = some (.bool false) := hB1.keep (by simp) (by simp [go_sem])
  have c1 : w1.cell? ⟨w.heap.size, 1, none⟩ = some (.int .i64 av) := hB1.keep (by simp) (by simp [go_sem])
  go_wp2_with fail
  refine (rabs_any av _ (by omega) (by omega)).mono ?_
  rw [HA.out]
  rintro e w' ⟨rfl, rfl⟩
  go_wp2
  obtain ⟨hall8, hall40⟩ := allS_len a ha
  go_loopw [3, 4, 5] (fun v d i wr => ∃ (k q : Nat) (L : List UInt8) (dv : Value), v = .int .i64 q ∧ i = .int .i64 k ∧ dv = d ∧ wr.ownsRow w1.heap.size 5 1 dv L.length (bytesV L) ∧ Ext w1 wr ∧ k ≤ L.length ∧ q ≤ 1000000000000000 ∧ Hid (L ++ restS k q = allS a)) (fun v _ i _ => (intOf v).toNat + (7 - (intOf i).toNat))
  case atStart => exact ⟨0, a, [], _, rfl, rfl, rfl, World.ownsRow_nil _ _ _ _, Ext.refl _, Nat.le_refl _, ha, rfl⟩
  case round =>
    obtain ⟨k, q, L, dv, rfl, rfl, rfl, hown, hX, hkL, hq, HL⟩ := hrel
    have hlen : L.length ≤ 40 := by
      have := congrArg List.length HL.out
      rw [List.length_append] at this; omega
    have hsz := hX.size
    by_cases hk : k < 6
    · have HN : Hid ((L ++ [dgt q]) ++ restS (k + 1) (q / 10) = allS a) := by
        have := HL.out
        rw [restS_low k q hk] at this
        rw [List.append_assoc]; exact this
      clear HL
      go_wp2_with (at_builtin; refine wpList_append_own _ rfl (.tmp 31) (.tmp 36) _ rfl w1.heap.size 5 i0 (.int .u8 0) 1 1 Tryd.underlying25 hi hz0 hz1 hz2 rfl (by decide) dv (L).length (bytesV (L)) rfl (hown.alloc _) ⟨wr.heap.size, 0, none⟩ 1 1 [_] rfl rfl new_one one_cell (by (try simp only [List.length_append, List.length_singleton, maxLen]); omega) (by (try simp only [List.length_append, List.length_singleton]); omega) (by simp; omega) ?_; intro v2 w2 hown2 hgrow2 _)
      have hX2 := hX.grown_own hown hgrow2
      have hO2 := own_snoc (dgt_int q) hown2
      clear hown hown2 hgrow2 hX
      go_wp2
      go_roundw
      case rel => exact ⟨k + 1, q / 10, L ++ [dgt q], v2, by go_num, by go_num, rfl, hO2, hX2, by rw [List.length_append]; simp; omega, by omega, HN⟩
      case measure => simp [intOf]; omega
    · by_cases hk6 : k = 6
      · subst hk6
        by_cases hq0 : 0 < q
        · clear hk
          have HN : Hid (((L ++ [46]) ++ [dgt q]) ++ restS 7 (q / 10) = allS a) := by
            have := HL.out
            rw [restS_point] at this
            rw [List.append_assoc, List.append_assoc]; exact this
          clear HL
          go_wp2_with (first | (at_builtin; refine wpList_append_own _ rfl (.tmp 28) (.tmp 29) _ rfl w1.heap.size 5 i0 (.int .u8 0) 1 1 Tryd.underlying25 hi hz0 hz1 hz2 rfl (by decide) dv (L).length (bytesV (L)) rfl (hown.alloc _) ⟨wr.heap.size, 0, none⟩ 1 1 [_] rfl rfl new_one one_cell (by (try simp only [List.length_append, List.length_singleton, maxLen]); omega) (by (try simp only [List.length_append, List.length_singleton]); omega) (by simp; omega) ?_; intro v2 w2 hown2 hgrow2 _; have hsz2 : w1.heap.size ≤ w2.heap.size := Nat.le_trans (Nat.le_trans hsz (by simp)) hgrow2.size) | (at_builtin; refine wpList_append_own _ rfl (.tmp 31) (.tmp 36) _ rfl w1.heap.size 5 i0 (.int .u8 0) 1 1 Tryd.underlying25 hi hz0 hz1 hz2 rfl (by decide) v2 (L.length + 1) (bytesV L ++ [.int .u8 46]) rfl (hown2.alloc _) ⟨w2.heap.size, 0, none⟩ 1 1 [_] rfl rfl new_one one_cell (by simp only [maxLen]; omega) (by omega) (by simp; omega) ?_; intro v3 w3 hown3 hgrow3 _))
          have hX2 := hX.grown_own hown hgrow2
          have hO2 : w2.ownsRow w1.heap.size 5 1 v2 (L.length + 1) (bytesV L ++ [.int .u8 46]) := hown2
          have hX3 := hX2.grown_own hO2 hgrow3
          have hO3 : w3.ownsRow w1.heap.size 5 1 v3 ((L ++ [46]) ++ [dgt q]).length (bytesV ((L ++ [46]) ++ [dgt q])) := own_snoc (L := L ++ [46]) (dgt_int q) (by rw [bytesV_snoc, List.length_append]; exact hown3)
          clear hown hown2 hgrow2 hO2 hown3 hgrow3 hX hX2
          go_wp2
          go_roundw
          case rel => exact ⟨7, q / 10, (L ++ [46]) ++ [dgt q], v3, by go_num, rfl, rfl, hO3, hX3, by simp only [List.length_append, List.length_singleton]; omega, by omega, HN⟩
          case measure => simp [intOf]; omega
        · obtain rfl : q = 0 := by omega
          clear hk hq0
          have HN : Hid (((L ++ [46]) ++ [dgt 0]) ++ restS 7 (0 / 10) = allS a) := by
            have := HL.out
            rw [restS_point] at this
            rw [List.append_assoc, List.append_assoc]; exact this
          clear HL
          go_wp2_with (first | (at_builtin; refine wpList_append_own _ rfl (.tmp 28) (.tmp 29) _ rfl w1.heap.size 5 i0 (.int .u8 0) 1 1 Tryd.underlying25 hi hz0 hz1 hz2 rfl (by decide) dv (L).length (bytesV (L)) rfl (hown.alloc _) ⟨wr.heap.size, 0, none⟩ 1 1 [_] rfl rfl new_one one_cell (by (try simp only [List.length_append, List.length_singleton, maxLen]); omega) (by (try simp only [List.length_append, List.length_singleton]); omega) (by simp; omega) ?_; intro v2 w2 hown2 hgrow2 _; have hsz2 : w1.heap.size ≤ w2.heap.size := Nat.le_trans (Nat.le_trans hsz (by simp)) hgrow2.size) | (at_builtin; refine wpList_append_own _ rfl (.tmp 31) (.tmp 36) _ rfl w1.heap.size 5 i0 (.int .u8 0) 1 1 Tryd.underlying25 hi hz0 hz1 hz2 rfl (by decide) v2 (L.length + 1) (bytesV L ++ [.int .u8 46]) rfl (hown2.alloc _) ⟨w2.heap.size, 0, none⟩ 1 1 [_] rfl rfl new_one one_cell (by simp only [maxLen]; omega) (by omega) (by simp; omega) ?_; intro v3 w3 hown3 hgrow3 _))
          have hX2 := hX.grown_own hown hgrow2
          have hO2 : w2.ownsRow w1.heap.size 5 1 v2 (L.length + 1) (bytesV L ++ [.int .u8 46]) := hown2
          have hX3 := hX2.grown_own hO2 hgrow3
          have hO3 : w3.ownsRow w1.heap.size 5 1 v3 ((L ++ [46]) ++ [dgt 0]).length (bytesV ((L ++ [46]) ++ [dgt 0])) := own_snoc (L := L ++ [46]) (rfl) (by rw [bytesV_snoc, List.length_append]; exact hown3)
          clear hown hown2 hgrow2 hO2 hown3 hgrow3 hX hX2
          go_wp2
          go_roundw
          case rel => exact ⟨7, 0 / 10, (L ++ [46]) ++ [dgt 0], v3, by go_num, rfl, rfl, hO3, hX3, by simp only [List.length_append, List.length_singleton]; omega, by omega, HN⟩
          case measure => simp [intOf]
      · by_cases hq0 : 0 < q
        · have HN : Hid ((L ++ [dgt q]) ++ restS (k + 1) (q / 10) = allS a) := by
            have := HL.out
            rw [restS_high k q (by omega) hq0] at this
            rw [List.append_assoc]; exact this
          clear HL
          go_wp2_with (at_builtin; refine wpList_append_own _ rfl (.tmp 31) (.tmp 36) _ rfl w1.heap.size 5 i0 (.int .u8 0) 1 1 Tryd.underlying25 hi hz0 hz1 hz2 rfl (by decide) dv (L).length (bytesV (L)) rfl (hown.alloc _) ⟨wr.heap.size, 0, none⟩ 1 1 [_] rfl rfl new_one one_cell (by (try simp only [List.length_append, List.length_singleton, maxLen]); omega) (by (try simp only [List.length_append, List.length_singleton]); omega) (by simp; omega) ?_; intro v2 w2 hown2 hgrow2 _)
          have hX2 := hX.grown_own hown hgrow2
          have hO2 := own_snoc (dgt_int q) hown2
          clear hown hown2 hgrow2 hX
          go_wp2
          go_roundw
          case rel => exact ⟨k + 1, q / 10, L ++ [dgt q], v2, by go_num, by go_num, rfl, hO2, hX2, by rw [List.length_append]; simp; omega, by omega, HN⟩
          case measure => simp [intOf]; omega
        · have hq1 : q = 0 := by omega
          have HT : Hid (L = allS a) := by
            have := HL.out
            rw [hq1, restS_end k (by omega), List.append_nil] at this; exact this
          have hL8 : 8 ≤ L.length := by rw [HT.out]; exact hall8
          have hk7 : 7 ≤ k := by omega
          clear HL hq hq0 hk hk6 hall8 hall40
          subst hq1
          obtain ⟨g, cap, hv, hg1, hg2⟩ : ∃ g cap, dv = .slice (some ⟨g, 0, none⟩) L.length cap ∧ w1.heap.size ≤ g ∧ L.length ≤ cap ∧ cap ≤ maxLen := by
            rcases hown.2 with ⟨_, h0⟩ | ⟨g, cap, cur, hv, hb, _, hc, hm, _⟩
            · omega
            · exact ⟨g, cap, hv, hb, hc, hm⟩
          obtain ⟨hg2, hg3⟩ := hg2
          unfold maxLen at hg3
          have hcell : ∀ j (h : j < L.length), wr.cell? ⟨g, j, none⟩ = some (.int .u8 (L[j].toNat : Int)) := fun j h => by
            rw [← add_off]; exact hown.cells (g := g) (by rw [hv]; rfl) j _ (bytesV_at L j h)
          have cx1 : wr.cell? ⟨w.heap.size, 1, none⟩ = some (.int .i64 av) := hX.keep l0_1 c1
          have l0r : w.heap.size < wr.heap.size := by omega
          rw [hv]
          have HV := Lib.hid hv
          clear hv hown c0 c1
          have HC := Lib.hid hcell
          clear hcell
          go_wp2
          go_loop [6] (fun i => ∃ n : Nat, n ≤ 6 ∧ i = .int .i64 n ∧ Hid (∀ (j : Nat) c, j < n → L[j]? = some c → c = 48)) (fun i => 6 - (intOf i).toNat)
          case atStart => exact ⟨0, by decide, rfl, fun j c hj => by omega⟩
          case round =>
            obtain ⟨n, hn, rfl, HZ⟩ := hrel
            by_cases hn6 : n < 6
            · have hnL : n < L.length := by omega
              have hc := HC.out n hnL
              by_cases h48 : L[n] = 48
              · have e48 : ((L[n].toNat : Int) == 48) = true := by rw [h48]; rfl
                have HZ2 : Hid (∀ (j : Nat) c, j < n + 1 → L[j]? = some c → c = 48) := fun j c hj hjc => by
                  by_cases hjn : j = n
                  · subst hjn
                    rw [List.getElem?_eq_getElem hnL] at hjc
                    injection hjc with hjc; rw [← hjc]; exact h48
                  · exact HZ.out j c (by omega) hjc
                clear h48 HZ
                go_wp2
                go_round
                case rel => exact ⟨n + 1, by omega, by go_num, HZ2⟩
                case measure => simp [intOf]; omega
              · have e48 := byte48 L[n] h48
                have HR : Hid (bs (bodyS a) = bs (L.drop n).reverse) := by
                  have := body_of a n hn (by rw [← HT.out]; exact HZ.out) (fun _ c hc2 => by rw [← HT.out, List.getElem?_eq_getElem hnL] at hc2; injection hc2 with hc2; rw [← hc2]; exact h48)
                  rw [if_neg (by omega), ← HT.out] at this
                  rw [this]; rfl
                have en6 : ((n : Int) == 6) = false := by rw [beq_eq_false_iff_ne]; omega
                clear h48
                go_wp2
                have hcell := HC.out
                go_loop [7, 8] (fun o i => ∃ j : Nat, n ≤ j ∧ j ≤ L.length ∧ i = .int .i64 ((j : Int) - 1) ∧ o = .string (bs (L.drop j).reverse)) (fun _ i => (intOf i + 1).toNat)
                case atStart => exact ⟨L.length, by omega, Nat.le_refl _, rfl, by rw [List.drop_length]; rfl⟩
                case round =>
                  obtain ⟨j, hj1, hj2, rfl, rfl⟩ := hrel
                  by_cases hj : n < j
                  · obtain ⟨j, rfl⟩ : ∃ p, j = p + 1 := ⟨j - 1, by omega⟩
                    have hjL : j < L.length := by omega
                    have ecast : (((j + 1 : Nat) : Int) - 1) = (j : Int) := by omega
                    rw [ecast]
                    have hcv := run_convert_bytes_arg (P := Tryd.prog) wr 25 5 Tryd.underlying25 Tryd.underlying5 g j 1 (cap - j) [(L[j].toNat : Int)] rfl (one_at (hcell j hjL)) 9 Tryd.underlying9
                    rw [one_string] at hcv
                    have HD : Hid ((bs (L.drop (j + 1)).reverse : ByteArray) ++ bs [L[j]] = bs (L.drop j).reverse) := by rw [bs_append, ← drop_snoc L j hjL]; rfl
                    have hs1 : (bs (L.drop (j + 1)).reverse).size ≤ 40 := by rw [bs_size, List.length_reverse, List.length_drop]; omega
                    have hs2 : (bs [L[j]]).size ≤ 1 := by rw [bs_size]; exact Nat.le_refl _
                    have HC := Lib.hid hcell
                    clear hcell ecast
                    go_wp2
                    rw [HD.out]
                    go_round
                    case rel => exact ⟨j, by omega, by omega, rfl, rfl⟩
                    case measure => simp [intOf]
                  · have hjm : j = n := by omega
                    have hs1 : (bs (L.drop j).reverse).size ≤ 40 := by rw [bs_size, List.length_reverse, List.length_drop]; omega
                    have HJ := Lib.hid hjm
                    clear hjm hcell
                    go_wp2
                    go_ret
                    refine ⟨?_, Ext.trans (Ext.trans ((Ext.refl _).alloc _) hB1) hX⟩
                    rw [HR.out, HJ.out]; rfl
            · have hn7 : n = 6 := by omega
              have HR : Hid (bs (bodyS a) = bs (L.drop 7).reverse) := by
                have := body_of a n hn (by rw [← HT.out]; exact HZ.out) (fun h => absurd h hn6)
                rw [if_pos hn7, ← HT.out] at this
                rw [this]; rfl
              subst hn7
              go_wp2
              have hcell := HC.out
              go_loop [7, 8] (fun o i => ∃ j : Nat, 7 ≤ j ∧ j ≤ L.length ∧ i = .int .i64 ((j : Int) - 1) ∧ o = .string (bs (L.drop j).reverse)) (fun _ i => (intOf i + 1).toNat)
              case atStart => exact ⟨L.length, by omega, Nat.le_refl _, rfl, by rw [List.drop_length]; rfl⟩
              case round =>
                obtain ⟨j, hj1, hj2, rfl, rfl⟩ := hrel
                by_cases hj : 7 < j
                · obtain ⟨j, rfl⟩ : ∃ p, j = p + 1 := ⟨j - 1, by omega⟩
                  have hjL : j < L.length := by omega
                  have ecast : (((j + 1 : Nat) : Int) - 1) = (j : Int) := by omega
                  rw [ecast]
                  have hcv := run_convert_bytes_arg (P := Tryd.prog) wr 25 5 Tryd.underlying25 Tryd.underlying5 g j 1 (cap - j) [(L[j].toNat : Int)] rfl (one_at (hcell j hjL)) 9 Tryd.underlying9
                  rw [one_string] at hcv
                  have HD : Hid ((bs (L.drop (j + 1)).reverse : ByteArray) ++ bs [L[j]] = bs (L.drop j).reverse) := by rw [bs_append, ← drop_snoc L j hjL]; rfl
                  have hs1 : (bs (L.drop (j + 1)).reverse).size ≤ 40 := by rw [bs_size, List.length_reverse, List.length_drop]; omega
                  have hs2 : (bs [L[j]]).size ≤ 1 := by rw [bs_size]; exact Nat.le_refl _
                  have HC := Lib.hid hcell
                  clear hcell ecast
                  go_wp2
                  rw [HD.out]
                  go_round
                  case rel => exact ⟨j, by omega, by omega, rfl, rfl⟩
                  case measure => simp [intOf]
                · have hjm : j = 7 := by omega
                  have hs1 : (bs (L.drop j).reverse).size ≤ 40 := by rw [bs_size, List.length_reverse, List.length_drop]; omega
                  have HJ := Lib.hid hjm
                  clear hjm hcell
                  go_wp2
                  go_ret
                  refine ⟨?_, Ext.trans (Ext.trans ((Ext.refl _).alloc _) hB1) hX⟩
                  rw [HR.out, HJ.out]; rfl
set_option maxHeartbeats 8000000 in
theorem rtext_neg (av : Int) (w : World) (ho : oddB false av = false) (a : Nat) (ha : a ≤ 1000000000000000) (hav : absI av = (a : Int)) (hs : av < 0) :
    Calls Tryd.prog 48 #[.agg #[.bool false, .int .i64 av]] w fun e w' => e = .returned (.string (bs ([45] ++ bodyS a))) ∧ Ext w w' := by
  obtain ⟨_, a1, a2⟩ := oddB_false ho
  have HO := Lib.hid ho
  have HA := Lib.hid hav
  clear ho hav
  obtain ⟨i0, hi, hz0, hz1, hz2⟩ := info_parts infoU8
  go_enter Tryd.func48, Tryd.ntmps48
  go_wp2_with fail
  refine (rodd_any false av _).mono ?_
  rw [HO.out]
  rintro e w1 ⟨rfl, hB1⟩
  have hz1' := hB1.size
  simp at hz1'
  have l0_1 : w.heap.size < w1.heap.size := by omega
  have c0 : w1.cell? ⟨w.heap.size, 0, none⟩ = some (.bool false) := hB1.keep (by simp) (by simp [go_sem])
  have c1 : w1.cell? ⟨w.heap.size, 1, none⟩ = some (.int .i64 av) := hB1.keep (by simp) (by simp [go_sem])
  go_wp2_with fail
  refine (rabs_any av _ (by omega) (by omega)).mono ?_
  rw [HA.out]
  rintro e w' ⟨rfl, rfl⟩
  go_wp2
  obtain ⟨hall8, hall40⟩ := allS_len a ha
  go_loopw [3, 4, 5] (fun v d i wr => ∃ (k q : Nat) (L : List UInt8) (dv : Value), v = .int .i64 q ∧ i = .int .i64 k ∧ dv = d ∧ wr.ownsRow w1.heap.size 5 1 dv L.length (bytesV L) ∧ Ext w1 wr ∧ k ≤ L.length ∧ q ≤ 1000000000000000 ∧ Hid (L ++ restS k q = allS a)) (fun v _ i _ => (intOf v).toNat + (7 - (intOf i).toNat))
  case atStart => exact ⟨0, a, [], _, rfl, rfl, rfl, World.ownsRow_nil _ _ _ _, Ext.refl _, Nat.le_refl _, ha, rfl⟩
  case round =>
    obtain ⟨k, q, L, dv, rfl, rfl, rfl, hown, hX, hkL, hq, HL⟩ := hrel
    have hlen : L.length ≤ 40 := by
      have := congrArg List.length HL.out
      rw [List.length_append] at this; omega
    have hsz := hX.size
    by_cases hk : k < 6
    · have HN : Hid ((L ++ [dgt q]) ++ restS (k + 1) (q / 10) = allS a) := by
        have := HL.out
        rw [restS_low k q hk] at this
        rw [List.append_assoc]; exact this
      clear HL
      go_wp2_with (at_builtin; refine wpList_append_own _ rfl (.tmp 31) (.tmp 36) _ rfl w1.heap.size 5 i0 (.int .u8 0) 1 1 Tryd.underlying25 hi hz0 hz1 hz2 rfl (by decide) dv (L).length (bytesV (L)) rfl (hown.alloc _) ⟨wr.heap.size, 0, none⟩ 1 1 [_] rfl rfl new_one one_cell (by (try simp only [List.length_append, List.length_singleton, maxLen]); omega) (by (try simp only [List.length_append, List.length_singleton]); omega) (by simp; omega) ?_; intro v2 w2 hown2 hgrow2 _)
      have hX2 := hX.grown_own hown hgrow2
      have hO2 := own_snoc (dgt_int q) hown2
      clear hown hown2 hgrow2 hX
      go_wp2
      go_roundw
      case rel => exact ⟨k + 1, q / 10, L ++ [dgt q], v2, by go_num, by go_num, rfl, hO2, hX2, by rw [List.length_append]; simp; omega, by omega, HN⟩
      case measure => simp [intOf]; omega
    · by_cases hk6 : k = 6
      · subst hk6
        by_cases hq0 : 0 < q
        · clear hk
          have HN : Hid (((L ++ [46]) ++ [dgt q]) ++ restS 7 (q / 10) = allS a) := by
            have := HL.out
            rw [restS_point] at this
            rw [List.append_assoc, List.append_assoc]; exact this
          clear HL
          go_wp2_with (first | (at_builtin; refine wpList_append_own _ rfl (.tmp 28) (.tmp 29) _ rfl w1.heap.size 5 i0 (.int .u8 0) 1 1 Tryd.underlying25 hi hz0 hz1 hz2 rfl (by decide) dv (L).length (bytesV (L)) rfl (hown.alloc _) ⟨wr.heap.size, 0, none⟩ 1 1 [_] rfl rfl new_one one_cell (by (try simp only [List.length_append, List.length_singleton, maxLen]); omega) (by (try simp only [List.length_append, List.length_singleton]); omega) (by simp; omega) ?_; intro v2 w2 hown2 hgrow2 _; have hsz2 : w1.heap.size ≤ w2.heap.size := Nat.le_trans (Nat.le_trans hsz (by simp)) hgrow2.size) | (at_builtin; refine wpList_append_own _ rfl (.tmp 31) (.tmp 36) _ rfl w1.heap.size 5 i0 (.int .u8 0) 1 1 Tryd.underlying25 hi hz0 hz1 hz2 rfl (by decide) v2 (L.length + 1) (bytesV L ++ [.int .u8 46]) rfl (hown2.alloc _) ⟨w2.heap.size, 0, none⟩ 1 1 [_] rfl rfl new_one one_cell (by simp only [maxLen]; omega) (by omega) (by simp; omega) ?_; intro v3 w3 hown3 hgrow3 _))
          have hX2 := hX.grown_own hown hgrow2
          have hO2 : w2.ownsRow w1.heap.size 5 1 v2 (L.length + 1) (bytesV L ++ [.int .u8 46]) := hown2
          have hX3 := hX2.grown_own hO2 hgrow3
          have hO3 : w3.ownsRow w1.heap.size 5 1 v3 ((L ++ [46]) ++ [dgt q]).length (bytesV ((L ++ [46]) ++ [dgt q])) := own_snoc (L := L ++ [46]) (dgt_int q) (by rw [bytesV_snoc, List.length_append]; exact hown3)
          clear hown hown2 hgrow2 hO2 hown3 hgrow3 hX hX2
          go_wp2
          go_roundw
          case rel => exact ⟨7, q / 10, (L ++ [46]) ++ [dgt q], v3, by go_num, rfl, rfl, hO3, hX3, by simp only [List.length_append, List.length_singleton]; omega, by omega, HN⟩
          case measure => simp [intOf]; omega
        · obtain rfl : q = 0 := by omega
          clear hk hq0
          have HN : Hid (((L ++ [46]) ++ [dgt 0]) ++ restS 7 (0 / 10) = allS a) := by
            have := HL.out
            rw [restS_point] at this
            rw [List.append_assoc, List.append_assoc]; exact this
          clear HL
          go_wp2_with (first | (at_builtin; refine wpList_append_own _ rfl (.tmp 28) (.tmp 29) _ rfl w1.heap.size 5 i0 (.int .u8 0) 1 1 Tryd.underlying25 hi hz0 hz1 hz2 rfl (by decide) dv (L).length (bytesV (L)) rfl (hown.alloc _) ⟨wr.heap.size, 0, none⟩ 1 1 [_] rfl rfl new_one one_cell (by (try simp only [List.length_append, List.length_singleton, maxLen]); omega) (by (try simp only [List.length_append, List.length_singleton]); omega) (by simp; omega) ?_; intro v2 w2 hown2 hgrow2 _; have hsz2 : w1.heap.size ≤ w2.heap.size := Nat.le_trans (Nat.le_trans hsz (by simp)) hgrow2.size) | (at_builtin; refine wpList_append_own _ rfl (.tmp 31) (.tmp 36) _ rfl w1.heap.size 5 i0 (.int .u8 0) 1 1 Tryd.underlying25 hi hz0 hz1 hz2 rfl (by decide) v2 (L.length + 1) (bytesV L ++ [.int .u8 46]) rfl (hown2.alloc _) ⟨w2.heap.size, 0, none⟩ 1 1 [_] rfl rfl new_one one_cell (by simp only [maxLen]; omega) (by omega) (by simp; omega) ?_; intro v3 w3 hown3 hgrow3 _))
          have hX2 := hX.grown_own hown hgrow2
          have hO2 : w2.ownsRow w1.heap.size 5 1 v2 (L.length + 1) (bytesV L ++ [.int .u8 46]) := hown2
          have hX3 := hX2.grown_own hO2 hgrow3
          have hO3 : w3.ownsRow w1.heap.size 5 1 v3 ((L ++ [46]) ++ [dgt 0]).length (bytesV ((L ++ [46]) ++ [dgt 0])) := own_snoc (L := L ++ [46]) (rfl) (by rw [bytesV_snoc, List.length_append]; exact hown3)
          clear hown hown2 hgrow2 hO2 hown3 hgrow3 hX hX2
          go_wp2
          go_roundw
          case rel => exact ⟨7, 0 / 10, (L ++ [46]) ++ [dgt 0], v3, by go_num, rfl, rfl, hO3, hX3, by simp only [List.length_append, List.length_singleton]; omega, by omega, HN⟩
          case measure => simp [intOf]
      · by_cases hq0 : 0 < q
        · have HN : Hid ((L ++ [dgt q]) ++ restS (k + 1) (q / 10) = allS a) := by
            have := HL.out
            rw [restS_high k q (by omega) hq0] at this
            rw [List.append_assoc]; exact this
          clear HL
          go_wp2_with (at_builtin; refine wpList_append_own _ rfl (.tmp 31) (.tmp 36) _ rfl w1.heap.size 5 i0 (.int .u8 0) 1 1 Tryd.underlying25 hi hz0 hz1 hz2 rfl (by decide) dv (L).length (bytesV (L)) rfl (hown.alloc _) ⟨wr.heap.size, 0, none⟩ 1 1 [_] rfl rfl new_one one_cell (by (try simp only [List.length_append, List.length_singleton, maxLen]); omega) (by (try simp only [List.length_append, List.length_singleton]); omega) (by simp; omega) ?_; intro v2 w2 hown2 hgrow2 _)
          have hX2 := hX.grown_own hown hgrow2
          have hO2 := own_snoc (dgt_int q) hown2
          clear hown hown2 hgrow2 hX
          go_wp2
          go_roundw
          case rel => exact ⟨k + 1, q / 10, L ++ [dgt q], v2, by go_num, by go_num, rfl, hO2, hX2, by rw [List.length_append]; simp; omega, by omega, HN⟩
          case measure => simp [intOf]; omega
        · have hq1 : q = 0 := by omega
          have HT : Hid (L = allS a) := by
            have := HL.out
            rw [hq1, restS_end k (by omega), List.append_nil] at this; exact this
          have hL8 : 8 ≤ L.length := by rw [HT.out]; exact hall8
          have hk7 : 7 ≤ k := by omega
          clear HL hq hq0 hk hk6 hall8 hall40
          subst hq1
          obtain ⟨g, cap, hv, hg1, hg2⟩ : ∃ g cap, dv = .slice (some ⟨g, 0, none⟩) L.length cap ∧ w1.heap.size ≤ g ∧ L.length ≤ cap ∧ cap ≤ maxLen := by
            rcases hown.2 with ⟨_, h0⟩ | ⟨g, cap, cur, hv, hb, _, hc, hm, _⟩
            · omega
            · exact ⟨g, cap, hv, hb, hc, hm⟩
          obtain ⟨hg2, hg3⟩ := hg2
          unfold maxLen at hg3
          have hcell : ∀ j (h : j < L.length), wr.cell? ⟨g, j, none⟩ = some (.int .u8 (L[j].toNat : Int)) := fun j h => by
            rw [← add_off]; exact hown.cells (g := g) (by rw [hv]; rfl) j _ (bytesV_at L j h)
          have cx1 : wr.cell? ⟨w.heap.size, 1, none⟩ = some (.int .i64 av) := hX.keep l0_1 c1
          have l0r : w.heap.size < wr.heap.size := by omega
          rw [hv]
          have HV := Lib.hid hv
          clear hv hown c0 c1
          have HC := Lib.hid hcell
          clear hcell
          go_wp2
          go_loop [6] (fun i => ∃ n : Nat, n ≤ 6 ∧ i = .int .i64 n ∧ Hid (∀ (j : Nat) c, j < n → L[j]? = some c → c = 48)) (fun i => 6 - (intOf i).toNat)
          case atStart => exact ⟨0, by decide, rfl, fun j c hj => by omega⟩
          case round =>
            obtain ⟨n, hn, rfl, HZ⟩ := hrel
            by_cases hn6 : n < 6
            · have hnL : n < L.length := by omega
              have hc := HC.out n hnL
              by_cases h48 : L[n] = 48
              · have e48 : ((L[n].toNat : Int) == 48) = true := by rw [h48]; rfl
                have HZ2 : Hid (∀ (j : Nat) c, j < n + 1 → L[j]? = some c → c = 48) := fun j c hj hjc => by
                  by_cases hjn : j = n
                  · subst hjn
                    rw [List.getElem?_eq_getElem hnL] at hjc
                    injection hjc with hjc; rw [← hjc]; exact h48
                  · exact HZ.out j c (by omega) hjc
                clear h48 HZ
                go_wp2
                go_round
                case rel => exact ⟨n + 1, by omega, by go_num, HZ2⟩
                case measure => simp [intOf]; omega
              · have e48 := byte48 L[n] h48
                have HR : Hid (bs (45 :: bodyS a) = bs [45] ++ bs (L.drop n).reverse) := by
                  have := body_of a n hn (by rw [← HT.out]; exact HZ.out) (fun _ c hc2 => by rw [← HT.out, List.getElem?_eq_getElem hnL] at hc2; injection hc2 with hc2; rw [← hc2]; exact h48)
                  rw [if_neg (by omega), ← HT.out] at this
                  rw [this]; exact (bs_append [45] (bodyS a)).symm
                have en6 : ((n : Int) == 6) = false := by rw [beq_eq_false_iff_ne]; omega
                clear h48
                go_wp2
                have hcell := HC.out
                go_loop [7, 8] (fun o i => ∃ j : Nat, n ≤ j ∧ j ≤ L.length ∧ i = .int .i64 ((j : Int) - 1) ∧ o = .string (bs (L.drop j).reverse)) (fun _ i => (intOf i + 1).toNat)
                case atStart => exact ⟨L.length, by omega, Nat.le_refl _, rfl, by rw [List.drop_length]; rfl⟩
                case round =>
                  obtain ⟨j, hj1, hj2, rfl, rfl⟩ := hrel
                  by_cases hj : n < j
                  · obtain ⟨j, rfl⟩ : ∃ p, j = p + 1 := ⟨j - 1, by omega⟩
                    have hjL : j < L.length := by omega
                    have ecast : (((j + 1 : Nat) : Int) - 1) = (j : Int) := by omega
                    rw [ecast]
                    have hcv := run_convert_bytes_arg (P := Tryd.prog) wr 25 5 Tryd.underlying25 Tryd.underlying5 g j 1 (cap - j) [(L[j].toNat : Int)] rfl (one_at (hcell j hjL)) 9 Tryd.underlying9
                    rw [one_string] at hcv
                    have HD : Hid ((bs (L.drop (j + 1)).reverse : ByteArray) ++ bs [L[j]] = bs (L.drop j).reverse) := by rw [bs_append, ← drop_snoc L j hjL]; rfl
                    have hs1 : (bs (L.drop (j + 1)).reverse).size ≤ 40 := by rw [bs_size, List.length_reverse, List.length_drop]; omega
                    have hs2 : (bs [L[j]]).size ≤ 1 := by rw [bs_size]; exact Nat.le_refl _
                    have HC := Lib.hid hcell
                    clear hcell ecast
                    go_wp2
                    rw [HD.out]
                    go_round
                    case rel => exact ⟨j, by omega, by omega, rfl, rfl⟩
                    case measure => simp [intOf]
                  · have hjm : j = n := by omega
                    have hs1 : (bs (L.drop j).reverse).size ≤ 40 := by rw [bs_size, List.length_reverse, List.length_drop]; omega
                    have HJ := Lib.hid hjm
                    clear hjm hcell
                    go_wp2
                    go_ret
                    refine ⟨?_, Ext.trans (Ext.trans ((Ext.refl _).alloc _) hB1) hX⟩
                    rw [HR.out, HJ.out]; rfl
            · have hn7 : n = 6 := by omega
              have HR : Hid (bs (45 :: bodyS a) = bs [45] ++ bs (L.drop 7).reverse) := by
                have := body_of a n hn (by rw [← HT.out]; exact HZ.out) (fun h => absurd h hn6)
                rw [if_pos hn7, ← HT.out] at this
                rw [this]; exact (bs_append [45] (bodyS a)).symm
              subst hn7
              go_wp2
              have hcell := HC.out
              go_loop [7, 8] (fun o i => ∃ j : Nat, 7 ≤ j ∧ j ≤ L.length ∧ i = .int .i64 ((j : Int) - 1) ∧ o = .string (bs (L.drop j).reverse)) (fun _ i => (intOf i + 1).toNat)
              case atStart => exact ⟨L.length, by omega, Nat.le_refl _, rfl, by rw [List.drop_length]; rfl⟩
              case round =>
                obtain ⟨j, hj1, hj2, rfl, rfl⟩ := hrel
                by_cases hj : 7 < j
                · obtain ⟨j, rfl⟩ : ∃ p, j = p + 1 := ⟨j - 1, by omega⟩
                  have hjL : j < L.length := by omega
                  have ecast : (((j + 1 : Nat) : Int) - 1) = (j : Int) := by omega
                  rw [ecast]
                  have hcv := run_convert_bytes_arg (P := Tryd.prog) wr 25 5 Tryd.underlying25 Tryd.underlying5 g j 1 (cap - j) [(L[j].toNat : Int)] rfl (one_at (hcell j hjL)) 9 Tryd.underlying9
                  rw [one_string] at hcv
                  have HD : Hid ((bs (L.drop (j + 1)).reverse : ByteArray) ++ bs [L[j]] = bs (L.drop j).reverse) := by rw [bs_append, ← drop_snoc L j hjL]; rfl
                  have hs1 : (bs (L.drop (j + 1)).reverse).size ≤ 40 := by rw [bs_size, List.length_reverse, List.length_drop]; omega
                  have hs2 : (bs [L[j]]).size ≤ 1 := by rw [bs_size]; exact Nat.le_refl _
                  have HC := Lib.hid hcell
                  clear hcell ecast
                  go_wp2
                  rw [HD.out]
                  go_round
                  case rel => exact ⟨j, by omega, by omega, rfl, rfl⟩
                  case measure => simp [intOf]
                · have hjm : j = 7 := by omega
                  have hs1 : (bs (L.drop j).reverse).size ≤ 40 := by rw [bs_size, List.length_reverse, List.length_drop]; omega
                  have HJ := Lib.hid hjm
                  clear hjm hcell
                  go_wp2
                  go_ret
                  refine ⟨?_, Ext.trans (Ext.trans ((Ext.refl _).alloc _) hB1) hX⟩
                  rw [HR.out, HJ.out]; rfl
theorem rtext_odd (an : Bool) (av : Int) (w : World) (ho : oddB an av = true) :
    Calls Tryd.prog 48 #[.agg #[.bool an, .int .i64 av]] w fun e w' => e = .returned (.string (bs [78, 97, 78])) ∧ Ext w w' := by
  have HO := Lib.hid ho
  clear ho
  go_enter Tryd.func48, Tryd.ntmps48
  go_wp2_with fail
  refine (rodd_any an av _).mono ?_
  rw [HO.out]
  rintro e w1 ⟨rfl, hB1⟩
  go_wp2
  go_ret
  exact ⟨rfl, Ext.trans ((Ext.refl _).alloc _) hB1⟩
theorem rtext_any (an : Bool) (av : Int) (w : World) :
    Calls Tryd.prog 48 #[.agg #[.bool an, .int .i64 av]] w fun e w' => e = .returned (.string (bs (textS an av))) ∧ Ext w w' := by
  unfold textS
  by_cases ho : oddB an av = true
  · rw [if_pos ho]; exact rtext_odd an av w ho
  · rw [if_neg ho]
    have ho' : oddB an av = false := by simpa using ho
    obtain ⟨rfl, a1, a2⟩ := oddB_false ho'
    by_cases hs : av < 0
    · rw [if_pos hs]; exact rtext_neg av w ho' av.natAbs (by omega) rfl hs
    · rw [if_neg hs]; exact rtext_pos av w ho' av.natAbs (by omega) rfl (by omega)
end Go.Proofs.YtcdpjgdaofgpcaaDoor
