/-
  The reference's bytes: numbers, texts. Helper lemmas; no statement of the seat is proved here.
-/
import Derived.Test.YtghhachbnhldoaaDoorC23
namespace Go.Proofs.YtghhachbnhldoaaDoor
open Go.RowKit
set_option maxRecDepth 100000
set_option linter.unusedVariables false
set_option linter.unusedSimpArgs false

/-- A new row of bytes comes back. -/
def RB (w : World) (E : Bytes) (e : Ending) (w' : World) : Prop := ∃ v, e = .returned v ∧ w'.ownsRow w.heap.size 5 1 v E.length (rowB E) ∧ Ext w w'
theorem own_some {w : World} {base n : Nat} {v : Value} {us : List Value} (h : w.ownsRow base 5 1 v n us) (hn : 0 < n) : ∃ g cap, v = .slice (some ⟨g, 0, none⟩) n cap ∧ base ≤ g ∧ g < w.heap.size ∧ ∀ j u, us[j]? = some u → w.cell? ((⟨g, 0, none⟩ : Addr).add j) = some u := by
  rcases h.2 with ⟨_, h0⟩ | ⟨g, cap, cur, e, hb, hg, h3⟩
  · omega
  · refine ⟨g, cap, e, hb, blk_lt hg, ?_⟩
    subst e
    exact h.cells (g := g) rfl
theorem rowB_one (L : Bytes) : ∀ u ∈ rowB L, u.oneCell' = true := by
  intro u hu
  simp only [rowB, byI, List.map_map, List.mem_map] at hu
  obtain ⟨c, _, rfl⟩ := hu
  rfl
set_option maxHeartbeats 8000000 in
theorem num_any (n : Nat) (hn : n < 9223372036854775808) (w : World) : Calls Tryd.prog 19 #[.int .i64 n] w (RB w (numB n)) := by
  obtain ⟨R, hR⟩ : ∃ R, numB n = R := ⟨_, rfl⟩
  rw [hR]
  have HR : Hid ([] ++ numF 9 n = R) := Lib.hid hR
  obtain ⟨i0, hi0', hz0, hz1, hz2⟩ := info_parts infoU8
  have hnI : (n : Int) ≤ 9223372036854775807 := by omega
  clear hR
  go_enter Tryd.func19, Tryd.ntmps19
  go_wp2_with fail
  go_loopw [0, 3] (fun t nv wr => ∃ (v k : Nat) (L' : Bytes) (dv : Value), t = .int .i64 v ∧ dv = nv ∧ v < 9223372036854775808 ∧ L'.length + k = 9 ∧ Hid (v < 2 * 128 ^ k ∧ wr.ownsRow w.heap.size 5 1 dv L'.length (rowB L') ∧ L' ++ numF k v = R ∧ Ext w wr)) (fun t _ _ => upV t)
  case atStart => exact ⟨n, 9, [], _, rfl, rfl, hn, rfl, Lib.hid ⟨by omega, World.ownsRow_nil _ _ _ _, HR.out, Ext.refl _⟩⟩
  case round =>
    obtain ⟨v, k, L', dv, rfl, rfl, hv, hl, HH⟩ := hrel
    have hv0 : (0 : Int) ≤ (v : Int) := by omega
    have hv1 : (v : Int) ≤ 9223372036854775807 := by omega
    have hws : w.heap.size ≤ wr.heap.size := HH.out.2.2.2.size
    by_cases hge : 128 ≤ v
    · have hI : (128 : Int) ≤ (v : Int) := by omega
      have hm0 : (0 : Int) ≤ (v : Int) % 128 + 128 := by omega
      have hm1 : (v : Int) % 128 + 128 ≤ 255 := by omega
      obtain ⟨c, hc⟩ : ∃ c : Nat, v % 128 + 128 = c := ⟨_, rfl⟩
      have hcI : (v : Int) % 128 + 128 = (c : Int) := by omega
      have hc0 : (0 : Int) ≤ (c : Int) := by omega
      have hc1 : (c : Int) ≤ 255 := by omega
      have HCC := Lib.hid hc
      have hE : Ext wr (wr.alloc (.cells #[.int .u8 (c : Int)] 5)) := (Ext.refl _).alloc _
      clear hc hm0 hm1
      go_wp2_with (at_builtin; refine wpList_append_own_at _ rfl (.tmp 6) (.tmp 11) _ rfl w.heap.size 5 i0 (.int .u8 0) 1 1 Tryd.underlying25 hi0' hz0 hz1 hz2 rfl (by decide) dv L'.length (rowB L') rfl (rows_ext HH.out.2.1 hE) ⟨wr.heap.size, 0, none⟩ 1 1 [.int .u8 ((c : Int))] rfl rfl (by intro j u hj; match j, hj with | 0, hj => simp at hj; subst hj; simp [go_sem]) (by intro u hu; simp at hu; rcases hu with rfl; rfl) (by unfold maxLen; omega) (by omega) (by simp; omega) ?_; intro v2 w5 hown5 hgrow5 _ hat5)
      have hk : k ≠ 0 := by rintro rfl; have := HH.out.1; omega
      obtain ⟨m, rfl⟩ : ∃ m, k = m + 1 := ⟨k - 1, by omega⟩
      have h1 := HH.out.1
      have h2 := HH.out.2.2.1
      rw [numF, if_neg (by omega)] at h2
      rw [Nat.pow_succ] at h1
      have hX5 : Ext w w5 := Below.grown (HH.out.2.2.2.trans hE) hgrow5 (Below.size (HH.out.2.2.2.trans hE)) fun j hj => ((rows_ext HH.out.2.1 hE).lt j hj).1
      go_roundw
      case rel =>
        refine ⟨v / 128, m, L' ++ [UInt8.ofNat (v % 128 + 128)], v2, by go_num, rfl, by omega, by rw [List.length_append, List.length_singleton]; omega, Lib.hid ⟨by omega, ?_, by rw [List.append_assoc]; exact h2, hX5⟩⟩
        rw [HCC.out, List.length_append, List.length_singleton, ← rowB_snoc _ _ (by omega)]
        exact hown5
      case measure => simp only [upV]; omega
    · have hI : ¬ (128 : Int) ≤ (v : Int) := by omega
      have hE : Ext wr (wr.alloc (.cells #[.int .u8 (v : Int)] 5)) := (Ext.refl _).alloc _
      go_wp2_with (at_builtin; refine wpList_append_own_at _ rfl (.tmp 15) (.tmp 18) _ rfl w.heap.size 5 i0 (.int .u8 0) 1 1 Tryd.underlying25 hi0' hz0 hz1 hz2 rfl (by decide) dv L'.length (rowB L') rfl (rows_ext HH.out.2.1 hE) ⟨wr.heap.size, 0, none⟩ 1 1 [.int .u8 ((v : Int))] rfl rfl (by intro j u hj; match j, hj with | 0, hj => simp at hj; subst hj; simp [go_sem]) (by intro u hu; simp at hu; rcases hu with rfl; rfl) (by unfold maxLen; omega) (by omega) (by simp; omega) ?_; intro v2 w5 hown5 hgrow5 _ hat5)
      have h2 := HH.out.2.2.1
      rw [numF_lt _ _ (by omega)] at h2
      have hX5 : Ext w w5 := Below.grown (HH.out.2.2.2.trans hE) hgrow5 (Below.size (HH.out.2.2.2.trans hE)) fun j hj => ((rows_ext HH.out.2.1 hE).lt j hj).1
      go_ret
      refine ⟨_, rfl, ?_, hX5⟩
      rw [← h2, List.length_append, List.length_singleton, ← rowB_snoc _ _ (by omega)]
      exact hown5
set_option maxHeartbeats 8000000 in
theorem text_any (s : Bytes) (hs : s.length ≤ 1000000000000) (w : World) : Calls Tryd.prog 21 #[.string (bs s)] w (RB w (txtB s)) := by
  have HC := Lib.hid (num_any s.length (by omega) w)
  have hsz : (bs s).size = s.length := bs_size s
  have hnb := numB_len s.length
  go_enter Tryd.func21, Tryd.ntmps21
  go_wp2_with fail
  refine HC.out.mono ?_
  rintro e w1 ⟨dv, rfl, hown, hX⟩
  have HO := Lib.hid (And.intro hown hX)
  have hws := hX.size
  clear hown hX HC
  go_wp2_with (at_builtin; refine wpList_app_str rfl (.tmp 5) (.tmp 6) rfl w.heap.size dv (numB s.length).length (rowB (numB s.length)) rfl HO.out.1 (bs s) rfl (by omega) (by omega) ?_; intro v2 w5 hown5 hgrow5 hat5)
  go_ret
  refine ⟨_, rfl, ?_, Below.grown HO.out.2 hgrow5 (Below.size HO.out.2) fun j hj => (HO.out.1.lt j hj).1⟩
  have h := hown5
  rw [strCells_bs, ← rowB_app, hsz] at h
  rw [show (txtB s).length = (numB s.length).length + s.length by unfold txtB; rw [List.length_append]]
  exact h

end Go.Proofs.YtghhachbnhldoaaDoor
