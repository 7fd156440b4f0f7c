/-
  The reference's reader: its state, its numbers. Helper lemmas; no statement of the seat is proved here.
-/
import Derived.Test.YtghhachbnhldoaaDoorC17
namespace Go.Proofs.YtghhachbnhldoaaDoor
open Go.RowKit
set_option maxRecDepth 100000
set_option linter.unusedVariables false
set_option linter.unusedSimpArgs false

/-- The reference's reader: its block, the first behind w0's; all bytes, and the place. -/
structure QS (w0 W : World) (inp : Bytes) (bad : Bool) : Prop where
  ext : Ext w0 W
  row : ∃ (all : Bytes) (at' bb off c : Nat), W.cell? ⟨w0.heap.size, 0, none⟩ = some (.slice (some ⟨bb, off, none⟩) all.length c) ∧ Rep w0 (fun _ => True) (.slice (some ⟨bb, off, none⟩) all.length c) (numsD .u8 (byI all)) ∧ W.cell? ⟨w0.heap.size, 1, none⟩ = some (.int .i64 at') ∧ at' ≤ all.length ∧ all.drop at' = inp ∧ all.length ≤ c ∧ c ≤ 9223372036854775807
  c2 : W.cell? ⟨w0.heap.size, 2, none⟩ = some (.bool bad)
  f0 : W.frozen? ⟨w0.heap.size, 0, none⟩ = false
  f1 : W.frozen? ⟨w0.heap.size, 1, none⟩ = false
  f2 : W.frozen? ⟨w0.heap.size, 2, none⟩ = false
section
variable {w0 W : World} {inp : Bytes} {bad : Bool}
theorem QS.lt (h : QS w0 W inp bad) : w0.heap.size < W.heap.size := World.block_lt_of_cell? W _ h.c2
theorem QS.block {W' : World} (h : QS w0 W inp bad) (hX : Ext w0 W') (hb : W'.heap[w0.heap.size]? = W.heap[w0.heap.size]?) : QS w0 W' inp bad := by
  obtain ⟨all, at', bb, off, c, h1, h2, h3, h4⟩ := h.row
  exact ⟨hX, ⟨all, at', bb, off, c, (World.cell?_of_block hb).trans h1, h2, (World.cell?_of_block hb).trans h3, h4⟩, (World.cell?_of_block hb).trans h.c2, (World.frozen?_of_block hb).trans h.f0, (World.frozen?_of_block hb).trans h.f1, (World.frozen?_of_block hb).trans h.f2⟩
theorem QS.step {W' : World} (h : QS w0 W inp bad) (hE : Ext W W') : QS w0 W' inp bad := h.block (h.ext.trans hE) (Below.block hE _ h.lt)
theorem QS.other (h : QS w0 W inp bad) {p : Addr} (hp : p.block ≠ w0.heap.size) (hb : w0.heap.size ≤ p.block) (v : Value) : QS w0 (W.setCell p v) inp bad := h.block (h.ext.set hb _) (Below.heap_setCell _ _ _ _ fun e => hp e.symm)
theorem QS.grown {W' : World} {row : Option Nat} (h : QS w0 W inp bad) (hg : W.grownBy W' row) (hr : ∀ k, row = some k → w0.heap.size < k) : QS w0 W' inp bad :=
  h.block (Below.grown h.ext hg (Below.size h.ext) fun k hk => by have := hr k hk; omega) (hg.block _ h.lt fun e => by have := hr _ e.symm; omega)
theorem QS.setBad (h : QS w0 W inp bad) (b : Bool) : QS w0 (W.setCell ⟨w0.heap.size, 2, none⟩ (.bool b)) inp b := by
  obtain ⟨all, at', bb, off, c, h1, h2, h3, h4⟩ := h.row
  have c2 := h.c2; have f0 := h.f0; have f1 := h.f1; have f2 := h.f2
  exact ⟨h.ext.set (p := ⟨w0.heap.size, 2, none⟩) (Nat.le_refl _) _, ⟨all, at', bb, off, c, by simp [go_sem, h1], h2, by simp [go_sem, h3], h4⟩, by simp [go_sem, c2], by simp [go_sem, f0], by simp [go_sem, f1], by simp [go_sem, f2]⟩
/-- Some bytes are passed. -/
theorem QS.pass (h : QS w0 W inp bad) {all : Bytes} {at' bb off c : Nat} (h1 : W.cell? ⟨w0.heap.size, 0, none⟩ = some (.slice (some ⟨bb, off, none⟩) all.length c)) (h2 : Rep w0 (fun _ => True) (.slice (some ⟨bb, off, none⟩) all.length c) (numsD .u8 (byI all))) (h3 : W.cell? ⟨w0.heap.size, 1, none⟩ = some (.int .i64 at'))
    (hc : all.length ≤ c) (hc2 : c ≤ 9223372036854775807) (n : Nat) (hn : at' + n ≤ all.length) (hd : all.drop at' = inp) (m : Int) (hm : m = ((at' + n : Nat) : Int)) : QS w0 (W.setCell ⟨w0.heap.size, 1, none⟩ (.int .i64 m)) (inp.drop n) bad := by
  subst hm
  have c2 := h.c2; have f0 := h.f0; have f1 := h.f1; have f2 := h.f2
  exact ⟨h.ext.set (p := ⟨w0.heap.size, 1, none⟩) (Nat.le_refl _) _, ⟨all, at' + n, bb, off, c, by simp [go_sem, h1], h2, by simp [go_sem, h3], hn, by rw [← hd, List.drop_drop], hc, hc2⟩, by simp [go_sem, c2], by simp [go_sem, f0], by simp [go_sem, f1], by simp [go_sem, f2]⟩
end
/-- What a function of the reference's reader leaves. -/
def QPost (w0 W : World) (b' : Bool) (rest : Bytes) (V : Value → World → Prop) (e : Ending) (w' : World) : Prop :=
  ∃ v, e = .returned v ∧ V v w' ∧ (∃ inp', QS w0 w' inp' b' ∧ (b' = false → inp' = rest)) ∧ Exc w0.heap.size W w'
def NumV (b : Bool) (n : Nat) (v : Value) : Prop := ∃ k : Int, v = .int .i64 k ∧ -9223372036854775808 ≤ k ∧ k ≤ 9223372036854775807 ∧ (b = false → k = n)
set_option maxHeartbeats 16000000 in
theorem qnum_any (w0 W : World) (inp : Bytes) (b : Bool) (n : Nat) (rest : Bytes) (hn : n < 9223372036854775808) (hi : b = false → inp = numB n ++ rest) (h : QS w0 W inp b) :
    Calls Tryd.prog 30 #[.pointer (some ⟨w0.heap.size, 0, none⟩)] W (QPost w0 W (b || decide (4611686018427387904 < n)) rest fun v _ => NumV (b || decide (4611686018427387904 < n)) n v) := by
  cases b with
  | true =>
    rw [Bool.true_or]
    obtain ⟨all, at', bb, off, c, k0, hrep, k1, hat, hd, hc1, hc2⟩ := h.row
    have c2 := h.c2; have f2 := h.f2
    have HH := Lib.hid h
    clear h hi hrep
    go_enter Tryd.func30, Tryd.ntmps30
    go_wp2_with fail
    go_loopw [3, 4, 5, 6] (fun vv ff t _ wr => vv = .int .i64 0 ∧ ff = .int .i64 1 ∧ t = .int .i64 0 ∧ wr = W) (fun _ _ t _ _ => downV 9 t)
    case atStart => exact ⟨rfl, rfl, rfl, rfl⟩
    case round =>
      obtain ⟨rfl, rfl, rfl, rfl⟩ := hrel
      go_wp2_with fail
      by_cases hge : all.length ≤ at'
      · have hq : decide ((all.length : Int) ≤ (at' : Int)) = true := decide_eq_true (by omega)
        go_quiet (fail)
        go_wp2_with fail
        go_ret
        exact ⟨_, rfl, ⟨0, rfl, by decide, by decide, fun h => by cases h⟩, ⟨_, (HH.out.step ((Dr.refl _).drewN _).ext).setBad true, fun h => by cases h⟩, (Exc.of _ ((Dr.refl _).drewN _).ext).set (p := ⟨w0.heap.size, 2, none⟩) rfl _⟩
      · have hq : decide ((all.length : Int) ≤ (at' : Int)) = false := decide_eq_false (by omega)
        go_quiet (fail)
        go_wp2_with fail
        go_ret
        exact ⟨_, rfl, ⟨0, rfl, by decide, by decide, fun h => by cases h⟩, ⟨_, (HH.out.step ((Dr.refl _).drewN _).ext).setBad true, fun h => by cases h⟩, (Exc.of _ ((Dr.refl _).drewN _).ext).set (p := ⟨w0.heap.size, 2, none⟩) rfl _⟩
  | false =>
    obtain rfl := hi rfl
    rw [Bool.false_or]
    obtain ⟨Bf, hBf⟩ : ∃ B, decide (4611686018427387904 < n) = B := ⟨_, rfl⟩
    rw [hBf]
    have HBF := Lib.hid hBf
    have HH := Lib.hid h
    clear h hi hBf
    go_enter Tryd.func30, Tryd.ntmps30
    go_wp2_with fail
    go_loopw [3, 4, 5, 6] (fun vv ff t _ wr => ∃ (i k m x : Nat) (inp' : Bytes), t = .int .i64 i ∧ vv = .int .i64 x ∧ ff = .int .i64 ((128 ^ i : Nat) : Int) ∧ i ≤ 8 ∧ Hid (QS w0 wr inp' false ∧ Exc w0.heap.size W wr ∧ i + k = 9 ∧ inp' = numF k m ++ rest ∧ n = m * 128 ^ i + x ∧ x < 128 ^ i ∧ (i = 0 ∨ 1 ≤ m))) (fun _ _ t _ _ => downV 9 t)
    case atStart => exact ⟨0, 9, n, 0, _, rfl, rfl, rfl, by omega, Lib.hid ⟨HH.out, Exc.refl _ _, rfl, rfl, by simp, by simp, .inl rfl⟩⟩
    case round =>
      obtain ⟨i, k, m, x, inp', rfl, rfl, rfl, hi8, HR⟩ := hrel
      obtain ⟨hS, hX, q1, q2, q3, q4, q5⟩ := HR.out
      obtain ⟨all, at', bb, off, c, k0, hrep, k1, hat, hd, hc1, hc2⟩ := hS.row
      have c2 := hS.c2; have f1 := hS.f1; have f2 := hS.f2
      have hP : 128 ^ i ≤ 72057594037927936 := Nat.pow_le_pow_right (by decide) hi8
      have hil : at' < all.length := by
        have h := congrArg List.length hd
        rw [q2, List.length_drop, List.length_append] at h
        have := numF_pos k m
        omega
      obtain ⟨b', o', e', hbl, hcell⟩ := by_at hrep at' hil
      injection e' with e'
      injection e' with e1 e2
      subst e1 e2
      have hcell := hS.ext.keep hbl hcell
      have hhead : all[at']? = (numF k m ++ rest)[0]? := by rw [← q2, ← hd, List.getElem?_drop, Nat.add_zero]
      rw [List.getElem?_eq_getElem hil] at hhead
      have hx0 : (0 : Int) ≤ (x : Int) := by omega
      have hi0 : (0 : Int) ≤ (i : Int) := by omega
      have hiI : (i : Int) < 9 := by omega
      have ha0 : (0 : Int) ≤ (at' : Int) := by omega
      have haI : (at' : Int) < (all.length : Int) := by omega
      have hq : decide ((all.length : Int) ≤ (at' : Int)) = false := decide_eq_false (by omega)
      by_cases hm : m < 128
      · have hc : (all[at'].toNat : Int) = (m : Int) := by
          rw [numF_lt _ _ hm, List.cons_append, List.getElem?_cons_zero] at hhead
          rw [Option.some.inj hhead]; exact byte_of m (by omega)
        rw [hc] at hcell
        have hm0 : (0 : Int) ≤ (m : Int) := by omega
        have hmI : (m : Int) < 128 := by omega
        have hml : m * 128 ^ i ≤ n := by omega
        have hsum : (x : Int) + (m : Int) * ((128 ^ i : Nat) : Int) = (n : Int) := by rw [q3]; push_cast; omega
        have hmul : (m : Int) * ((128 ^ i : Nat) : Int) = ((m * 128 ^ i : Nat) : Int) := by push_cast; rfl
        obtain ⟨P, hPP⟩ : ∃ P, ((128 ^ i : Nat) : Int) = P := ⟨_, rfl⟩
        obtain ⟨Q, hQQ⟩ : ∃ P, m * 128 ^ i = P := ⟨_, rfl⟩
        rw [hPP] at hsum hmul ⊢
        rw [hQQ] at hmul hml
        have hrem : (m : Int) % 128 = (m : Int) := by omega
        have hQ0 : (0 : Int) ≤ (Q : Int) := by omega
        have hQ1 : (Q : Int) ≤ 9223372036854775807 := by omega
        have hxQ : (x : Int) + (Q : Int) = (n : Int) := by rw [← hmul]; exact hsum
        have hnI : (n : Int) ≤ 9223372036854775807 := by omega
        have HS := Lib.hid (And.intro hS (And.intro hX (And.intro k0 (And.intro hrep (And.intro k1 (And.intro hd q2))))))
        have HM := Lib.hid hm
        clear hc hhead q1 q2 q3 q4 q5 HR hm hPP hQQ hsum hP hS hX hrep
        go_wp2_with fail
        go_quiet (fail)
        go_wp2_with fail
        go_quiet (fail)
        go_wp2_with fail
        go_ret
        obtain ⟨hS, hX, k0', hrep, k1', hd, q2⟩ := HS.out
        have hb : decide ((4611686018427387904 : Int) < (n : Int)) = Bf := by rw [← HBF.out]; exact decide_eq_decide.2 (by omega)
        have hr : inp'.drop 1 = rest := by rw [q2, numF_lt _ _ HM.out]; rfl
        have hE := fun N => ((Dr.refl wr).drewN N).ext
        have hp := fun N => ((hS.step (hE N)).pass ((hE N).keep hS.lt k0') hrep ((hE N).keep hS.lt k1') hc1 hc2 1 (by omega) hd ((at' : Int) + 1) (by omega)).setBad (decide ((4611686018427387904 : Int) < (n : Int)))
        have hX2 := fun N => ((hX.ext (hE N)).set (p := ⟨w0.heap.size, 1, none⟩) rfl (.int .i64 ((at' : Int) + 1))).set (p := ⟨w0.heap.size, 2, none⟩) rfl (.bool (decide ((4611686018427387904 : Int) < (n : Int))))
        simp only [hr] at hp
        rw [← hb]
        exact ⟨_, rfl, ⟨n, rfl, by omega, by omega, fun _ => rfl⟩, ⟨_, hp _, fun _ => rfl⟩, hX2 _⟩
      · have hk : k ≠ 0 := by omega
        obtain ⟨k', rfl⟩ : ∃ k', k = k' + 1 := ⟨k - 1, by omega⟩
        have hc : (all[at'].toNat : Int) = ((m % 128 + 128 : Nat) : Int) := by
          rw [numF, if_neg hm, List.cons_append, List.getElem?_cons_zero] at hhead
          rw [Option.some.inj hhead]; exact byte_of _ (by omega)
        rw [hc] at hcell
        have hlt : m % 128 < 128 := Nat.mod_lt _ (by omega)
        have hi7 : i ≤ 7 := by
          rcases Nat.lt_or_ge i 8 with h | h
          · omega
          · exfalso
            have : i = 8 := by omega
            subst this
            have := Nat.mul_le_mul_right (128 ^ 8) (show 128 ≤ m by omega)
            omega
        have hP7 : 128 ^ i ≤ 562949953421312 := Nat.pow_le_pow_right (by decide) hi7
        have HF : Hid (i + 1 + k' = 9 ∧ inp'.drop 1 = numF k' (m / 128) ++ rest ∧ n = m / 128 * 128 ^ (i + 1) + (x + m % 128 * 128 ^ i) ∧ x + m % 128 * 128 ^ i < 128 ^ (i + 1) ∧ (i + 1 = 0 ∨ 1 ≤ m / 128)) := Lib.hid (by
          rw [numF, if_neg hm] at q2
          refine ⟨by omega, by rw [q2]; rfl, ?_, ?_, .inr (by omega)⟩
          · have h1 := Nat.div_add_mod m 128
            have h2 : m * 128 ^ i = (128 * (m / 128) + m % 128) * 128 ^ i := by rw [h1]
            rw [Nat.add_mul, Nat.mul_comm 128 (m / 128), Nat.mul_assoc] at h2
            rw [Nat.pow_succ, Nat.mul_comm (128 ^ i) 128]
            omega
          · have h1 : m % 128 * 128 ^ i ≤ 127 * 128 ^ i := Nat.mul_le_mul_right _ (by omega)
            rw [Nat.pow_succ]; omega)
        obtain ⟨cr, hcr⟩ : ∃ c, m % 128 = c := ⟨_, rfl⟩
        rw [hcr] at hcell HF hlt
        have hrem : ((cr + 128 : Nat) : Int) % 128 = (cr : Int) := by omega
        have hc1' : ¬ ((cr + 128 : Nat) : Int) < 128 := by omega
        have hmul : (cr : Int) * ((128 ^ i : Nat) : Int) = ((cr * 128 ^ i : Nat) : Int) := by push_cast; rfl
        have hQl : cr * 128 ^ i ≤ 127 * 128 ^ i := Nat.mul_le_mul_right _ (by omega)
        have hxl : x < 562949953421312 := by omega
        have hfm : ((128 ^ i : Nat) : Int) * 128 = ((128 ^ (i + 1) : Nat) : Int) := by rw [Nat.pow_succ]; push_cast; rfl
        have hP8 : ((128 ^ (i + 1) : Nat) : Int) ≤ 72057594037927936 := by rw [Nat.pow_succ]; omega
        have hP80 : (0 : Int) ≤ ((128 ^ (i + 1) : Nat) : Int) := Int.natCast_nonneg _
        have HFM := Lib.hid hfm
        obtain ⟨P2, hPP2⟩ : ∃ P, ((128 ^ (i + 1) : Nat) : Int) = P := ⟨_, rfl⟩
        rw [hPP2] at hfm hP8 hP80
        have HP2 := Lib.hid hPP2
        have HXQ := Lib.hid (show ((x + cr * 128 ^ i : Nat) : Int) = (x : Int) + ((cr * 128 ^ i : Nat) : Int) by push_cast; rfl)
        obtain ⟨Q, hQQ⟩ : ∃ P, cr * 128 ^ i = P := ⟨_, rfl⟩
        rw [hQQ] at hmul hQl HXQ HF
        obtain ⟨P, hPP⟩ : ∃ P, ((128 ^ i : Nat) : Int) = P := ⟨_, rfl⟩
        rw [hPP] at hmul hfm ⊢
        have hPb : (0 : Int) ≤ P ∧ P ≤ 562949953421312 := by omega
        obtain ⟨hPb0, hPb1⟩ := hPb
        have hQ0 : (0 : Int) ≤ (Q : Int) := by omega
        have hQ1 : (Q : Int) ≤ 71494644084506624 := by omega
        have hx1 : (x : Int) ≤ 562949953421312 := by omega
        obtain ⟨cc, hcc⟩ : ∃ c, cr + 128 = c := ⟨_, rfl⟩
        have hcb0 : (0 : Int) ≤ ((cr + 128 : Nat) : Int) := by omega
        have hcb1 : ((cr + 128 : Nat) : Int) ≤ 255 := by omega
        rw [hcc] at hcell hrem hc1' hcb0 hcb1
        have HS := Lib.hid (And.intro hS (And.intro hX (And.intro k0 (And.intro hrep (And.intro k1 hd)))))
        clear hc hhead q1 q2 q3 q4 q5 HR hm hPP hQQ hP hP7 hS hX hrep hcr hcc hQl hPP2 hxl
        go_wp2_with fail
        go_quiet (fail)
        go_wp2_with fail
        go_quiet (fail)
        go_wp2_with fail
        go_roundw
        case rel =>
          obtain ⟨hS, hX, k0', hrep, k1', hd⟩ := HS.out
          have hE := fun N => ((Dr.refl wr).drewN N).ext
          have hp := fun N => (hS.step (hE N)).pass ((hE N).keep hS.lt k0') hrep ((hE N).keep hS.lt k1') hc1 hc2 1 (by omega) hd ((at' : Int) + 1) (by omega)
          refine ⟨i + 1, k', m / 128, x + Q, _, by go_num, by rw [HXQ.out], by rw [HP2.out], by omega, Lib.hid ⟨hp _, (hX.ext (hE _)).set (p := ⟨w0.heap.size, 1, none⟩) rfl _, HF.out.1, HF.out.2.1, HF.out.2.2.1, HF.out.2.2.2.1, HF.out.2.2.2.2⟩⟩
        case measure => simp only [downV]; omega

end Go.Proofs.YtghhachbnhldoaaDoor
