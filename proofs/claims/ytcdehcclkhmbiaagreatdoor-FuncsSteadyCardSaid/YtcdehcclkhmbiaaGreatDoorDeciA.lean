/-
  Contracts of the small functions of package deci: odd, nan, made, size, Of. Helper lemmas; no statement of the seat is proved here.
-/
import Derived.Test.YtcdehcclkhmbiaaGreatDoorBase
import Derived.LoopTactic
namespace Go.Proofs.YtcdehcclkhmbiaaGreatDoor
open Go.RowKit

def oddB (n : Bool) (v : Int) : Bool := n || decide (1000000000000000 < v) || decide (v < -1000000000000000)
def oddL (xs : List (Bool × Int)) : Bool := xs.any fun p => oddB p.1 p.2
theorem oddL_take (xs : List (Bool × Int)) (k : Nat) (h : k < xs.length) (h1 : oddL (xs.take k) = false) (h2 : oddB xs[k].1 xs[k].2 = false) : oddL (xs.take (k + 1)) = false := by
  unfold oddL at *
  rw [List.take_succ_eq_append_getElem h, List.any_append, h1]; simpa using h2
theorem oddL_at (xs : List (Bool × Int)) (k : Nat) (h : k < xs.length) (h2 : oddB xs[k].1 xs[k].2 = true) : oddL xs = true := by
  unfold oddL; rw [List.any_eq_true]; exact ⟨xs[k], List.getElem_mem h, h2⟩
theorem oddB_nan (v : Int) : oddB true v = true := rfl
theorem oddB_hi (n : Bool) (v : Int) (h : 1000000000000000 < v) : oddB n v = true := by simp [oddB, h]
theorem oddB_lo (n : Bool) (v : Int) (h : v < -1000000000000000) : oddB n v = true := by simp [oddB, h]
theorem oddB_no (v : Int) (h : ¬ 1000000000000000 < v) (h' : -1000000000000000 ≤ v) : oddB false v = false := by simp [oddB]; omega
theorem oddB_false {n : Bool} {v : Int} (h : oddB n v = false) : n = false ∧ v ≤ 1000000000000000 ∧ -1000000000000000 ≤ v := by
  simp [oddB] at h; obtain ⟨⟨h1, h2⟩, h3⟩ := h; exact ⟨h1, by omega, by omega⟩
/-- A number and a code, as they are returned. -/
abbrev Out := (Bool × Int) × Int
def fitS (v : Int) : Out := if 1000000000000000 < v ∨ v < -1000000000000000 then ((false, 0), 66) else ((false, v), 0)
theorem fitS_hi {v : Int} (h : 1000000000000000 < v) : fitS v = ((false, 0), 66) := by rw [fitS, if_pos (Or.inl h)]
theorem fitS_lo {v : Int} (h : v < -1000000000000000) : fitS v = ((false, 0), 66) := by rw [fitS, if_pos (Or.inr h)]
theorem fitS_in {v : Int} (h : v ≤ 1000000000000000) (h' : -1000000000000000 ≤ v) : fitS v = ((false, v), 0) := by rw [fitS, if_neg (by omega)]
def noneS : Out := ((true, 0), 0)

set_option maxRecDepth 100000 in
theorem odd_any (xs : List (Bool × Int)) (b o : Nat) (w : World) (hb : b < w.heap.size) (hm : xs.length ≤ 2)
   (hc0 : ∀ k (h : k < xs.length), w.cell? ⟨b, o + k * 2, none⟩ = some (.bool xs[k].1))
   (hc1 : ∀ k (h : k < xs.length), w.cell? ⟨b, o + k * 2 + 1, none⟩ = some (.int .i64 xs[k].2)) :
    Calls Tryz.prog 19 #[.slice (some ⟨b, o, none⟩) xs.length xs.length] w fun e w' => e = .returned (.bool (oddL xs)) ∧ Ext w w' := by
    go_enter Tryz.func19, Tryz.ntmps19
    go_wp2_with fail
    have H0 := Lib.hid hc0; have H1 := Lib.hid hc1; clear hc0 hc1
    go_loopw [7] (fun i wr => ∃ k : Nat, k ≤ xs.length ∧ i = .int .i64 k ∧ oddL (xs.take k) = false ∧ Ext w wr) (fun i _ => xs.length - (intOf i).toNat)
    case atStart => exact ⟨0, Nat.zero_le _, rfl, rfl, Ext.refl _⟩
    case round =>
      obtain ⟨k, hk, rfl, he, hB⟩ := hrel
      have HE := Lib.hid he; clear he
      by_cases hlt : k < xs.length
      · have c0 : wr.cell? ⟨b, o + k * 2, none⟩ = some (.bool xs[k].1) := by rw [hB.cells _ _ hb]; exact H0.out k hlt
        have c1 : wr.cell? ⟨b, o + k * 2 + 1, none⟩ = some (.int .i64 xs[k].2) := by rw [hB.cells _ _ hb]; exact H1.out k hlt
        have hsz : w.heap.size ≤ wr.heap.size := hB.size
        cases hn : xs[k].1 with
        | true =>
          have hodd := Lib.hid (oddL_at xs k hlt (by rw [hn]; rfl))
          go_wp2_with fail
          go_ret
          exact ⟨by rw [hodd.out]; rfl, hB.alloc _⟩
        | false =>
          by_cases h1 : 1000000000000000 < xs[k].2
          · have hodd := Lib.hid (oddL_at xs k hlt (oddB_hi _ _ h1))
            go_wp2_with fail
            go_ret
            exact ⟨by rw [hodd.out]; rfl, hB.alloc _⟩
          · by_cases h2 : xs[k].2 < -1000000000000000
            · have hodd := Lib.hid (oddL_at xs k hlt (oddB_lo _ _ h2))
              go_wp2_with fail
              go_ret
              exact ⟨by rw [hodd.out]; rfl, hB.alloc _⟩
            · have hodd := Lib.hid (oddL_take xs k hlt HE.out (by rw [hn]; exact oddB_no _ h1 (by omega)))
              go_wp2_with fail
              go_roundw
              case rel => exact ⟨k + 1, by omega, by go_num, hodd.out, hB.alloc _⟩
              case measure => simp [intOf]; omega
      · have hk' : k = xs.length := by omega
        have hodd : Hid (oddL xs = false) := by have := HE.out; rw [hk', List.take_length] at this; exact this
        clear hk'
        go_wp2_with fail
        go_ret
        exact ⟨by rw [hodd.out]; rfl, hB⟩
theorem odd2_any (an bn : Bool) (av bv : Int) (b : Nat) (w : World) (hb : b < w.heap.size)
    (c0 : w.cell? ⟨b, 0, none⟩ = some (.bool an)) (c1 : w.cell? ⟨b, 1, none⟩ = some (.int .i64 av))
    (c2 : w.cell? ⟨b, 2, none⟩ = some (.bool bn)) (c3 : w.cell? ⟨b, 3, none⟩ = some (.int .i64 bv)) :
    Calls Tryz.prog 19 #[.slice (some ⟨b, 0, none⟩) 2 2] w fun e w' => e = .returned (.bool (oddB an av || oddB bn bv)) ∧ Ext w w' := by
  have h := odd_any [(an, av), (bn, bv)] b 0 w hb (by simp)
    (fun k h => by match k, h with | 0, _ => exact c0 | 1, _ => exact c2)
    (fun k h => by match k, h with | 0, _ => exact c1 | 1, _ => exact c3)
  refine h.mono fun e w' ⟨he, hw⟩ => ⟨?_, hw⟩
  rw [he]; simp [oddL]
theorem odd1_any (an : Bool) (av : Int) (b : Nat) (w : World) (hb : b < w.heap.size)
    (c0 : w.cell? ⟨b, 0, none⟩ = some (.bool an)) (c1 : w.cell? ⟨b, 1, none⟩ = some (.int .i64 av)) :
    Calls Tryz.prog 19 #[.slice (some ⟨b, 0, none⟩) 1 1] w fun e w' => e = .returned (.bool (oddB an av)) ∧ Ext w w' := by
  have h := odd_any [(an, av)] b 0 w hb (by simp)
    (fun k h => by match k, h with | 0, _ => exact c0)
    (fun k h => by match k, h with | 0, _ => exact c1)
  refine h.mono fun e w' ⟨he, hw⟩ => ⟨?_, hw⟩
  rw [he]; simp [oddL]
theorem nan_any (w : World) : Calls Tryz.prog 75 #[] w fun e w' => e = .returned (.agg #[.bool true, .int .i64 0]) ∧ Ext w w' := by
  go_enter Tryz.func75, Tryz.ntmps75
  go_wp2_with fail
  exact bodyPost_ret (v := .agg #[.bool true, .int .i64 0]) (by simp [results, Tryz.results75, go_sem]) rfl ⟨rfl, (Ext.refl _).alloc _⟩
theorem made_hi (s : Int) (n : Bool) (w : World) (h : 1000000000000000 < s) :
    Calls Tryz.prog 76 #[.int .u64 s, .bool n] w fun e w' => e = .returned (.tuple #[.agg #[.bool false, .int .i64 0], .int .i64 66]) ∧ Ext w w' := by
  go_enter Tryz.func76, Tryz.ntmps76
  go_wp2_with fail
  exact bodyPost_ret (v := .tuple #[.agg #[.bool false, .int .i64 0], .int .i64 66]) (by simp [results, Tryz.results76, go_sem]) rfl ⟨rfl, (Ext.refl _).alloc _⟩
theorem made_neg (s : Int) (w : World) (h0 : 0 ≤ s) (h : s ≤ 1000000000000000) :
    Calls Tryz.prog 76 #[.int .u64 s, .bool true] w fun e w' => e = .returned (.tuple #[.agg #[.bool false, .int .i64 (-s)], .int .i64 0]) ∧ Ext w w' := by
  go_enter Tryz.func76, Tryz.ntmps76
  go_wp2_with fail
  exact bodyPost_ret (v := .tuple #[.agg #[.bool false, .int .i64 (-s)], .int .i64 0]) (by simp [results, Tryz.results76, go_sem]) rfl ⟨rfl, (Ext.refl _).alloc _⟩
theorem made_pos (s : Int) (w : World) (h0 : 0 ≤ s) (h : s ≤ 1000000000000000) :
    Calls Tryz.prog 76 #[.int .u64 s, .bool false] w fun e w' => e = .returned (.tuple #[.agg #[.bool false, .int .i64 s], .int .i64 0]) ∧ Ext w w' := by
  go_enter Tryz.func76, Tryz.ntmps76
  go_wp2_with fail
  exact bodyPost_ret (v := .tuple #[.agg #[.bool false, .int .i64 s], .int .i64 0]) (by simp [results, Tryz.results76, go_sem]) rfl ⟨rfl, (Ext.refl _).alloc _⟩
/-- made, whatever the size: what fitS says of the signed size. -/
theorem made_any (s : Int) (n : Bool) (w : World) (h0 : 0 ≤ s) (v : Int) (hv : v = if n then -s else s) :
    Calls Tryz.prog 76 #[.int .u64 s, .bool n] w fun e w' => e = .returned (.tuple #[.agg #[.bool (fitS v).1.1, .int .i64 (fitS v).1.2], .int .i64 (fitS v).2]) ∧ Ext w w' := by
  by_cases h : 1000000000000000 < s
  · have e : fitS v = ((false, 0), 66) := by
      subst hv; cases n
      · exact fitS_hi h
      · exact fitS_lo (by simp; omega)
    rw [e]; exact made_hi s n w h
  · cases n
    · obtain rfl : v = s := by simpa using hv
      rw [fitS_in (by omega) (by omega)]; exact made_pos _ w h0 (by omega)
    · obtain rfl : v = -s := by simpa using hv
      rw [fitS_in (by omega) (by omega)]; exact made_neg _ w h0 (by omega)
theorem made_res (s : Int) (n : Bool) (w : World) (h0 : 0 ≤ s) (v : Int) (hv : v = if n then -s else s) {r1 : Bool} {r2 r3 : Int} (hr : fitS v = ((r1, r2), r3)) :
    Calls Tryz.prog 76 #[.int .u64 s, .bool n] w fun e w' => e = .returned (.tuple #[.agg #[.bool r1, .int .i64 r2], .int .i64 r3]) ∧ Ext w w' := by
  have h := made_any s n w h0 v hv
  rw [hr] at h
  exact h
def absI (v : Int) : Int := (v.natAbs : Int)
theorem absI_pos {v : Int} (h : 0 ≤ v) : absI v = v := by unfold absI; omega
theorem absI_neg {v : Int} (h : v < 0) : absI v = -v := by unfold absI; omega
theorem absI_nonneg (v : Int) : 0 ≤ absI v := by unfold absI; omega
theorem absI_sign (v : Int) : (if decide (v < 0) then -absI v else absI v) = v := by
  by_cases h : v < 0
  · simp [h]; rw [absI_neg h]; omega
  · simp [h]; exact absI_pos (by omega)
theorem size_any (v : Int) (w : World) (h1 : -9223372036854775807 ≤ v) (h2 : v ≤ 9223372036854775807) :
    Calls Tryz.prog 77 #[.int .i64 v] w fun e w' => e = .returned (.tuple #[.int .u64 (absI v), .bool (decide (v < 0))]) ∧ w = w' := by
  by_cases hv : v < 0
  · rw [absI_neg hv, decide_eq_true hv]
    go_enter Tryz.func77, Tryz.ntmps77
    go_wp2
    go_ret2
    exact ⟨rfl, rfl⟩
  · rw [absI_pos (by omega), decide_eq_false hv]
    go_enter Tryz.func77, Tryz.ntmps77
    go_wp2
    go_ret2
    exact ⟨rfl, rfl⟩
def ofS (n : Int) : Out := if 1000000000 < n ∨ n < -1000000000 then ((false, 0), 66) else ((false, n * 1000000), 0)
theorem of_hi (n : Int) (w : World) (h : 1000000000 < n) :
    Calls Tryz.prog 66 #[.int .i64 n] w fun e w' => e = .returned (.tuple #[.agg #[.bool false, .int .i64 0], .int .i64 66]) ∧ Ext w w' := by
  go_enter Tryz.func66, Tryz.ntmps66
  go_wp2_with fail
  exact bodyPost_ret (v := .tuple #[.agg #[.bool false, .int .i64 0], .int .i64 66]) (by simp [results, Tryz.results66, go_sem]) rfl ⟨rfl, (Ext.refl _).alloc _⟩
theorem of_lo (n : Int) (w : World) (h : n < -1000000000) :
    Calls Tryz.prog 66 #[.int .i64 n] w fun e w' => e = .returned (.tuple #[.agg #[.bool false, .int .i64 0], .int .i64 66]) ∧ Ext w w' := by
  go_enter Tryz.func66, Tryz.ntmps66
  go_wp2_with fail
  exact bodyPost_ret (v := .tuple #[.agg #[.bool false, .int .i64 0], .int .i64 66]) (by simp [results, Tryz.results66, go_sem]) rfl ⟨rfl, (Ext.refl _).alloc _⟩
theorem of_in (n : Int) (w : World) (h : n ≤ 1000000000) (h' : -1000000000 ≤ n) :
    Calls Tryz.prog 66 #[.int .i64 n] w fun e w' => e = .returned (.tuple #[.agg #[.bool false, .int .i64 (n * 1000000)], .int .i64 0]) ∧ Ext w w' := by
  go_enter Tryz.func66, Tryz.ntmps66
  go_wp2_with fail
  exact bodyPost_ret (v := .tuple #[.agg #[.bool false, .int .i64 (n * 1000000)], .int .i64 0]) (by simp [results, Tryz.results66, go_sem]) rfl ⟨rfl, (Ext.refl _).alloc _⟩
theorem of_any (n : Int) (w : World) :
    Calls Tryz.prog 66 #[.int .i64 n] w fun e w' => e = .returned (.tuple #[.agg #[.bool (ofS n).1.1, .int .i64 (ofS n).1.2], .int .i64 (ofS n).2]) ∧ Ext w w' := by
  by_cases h : 1000000000 < n
  · rw [ofS, if_pos (Or.inl h)]; exact of_hi n w h
  · by_cases h' : n < -1000000000
    · rw [ofS, if_pos (Or.inr h')]; exact of_lo n w h'
    · rw [ofS, if_neg (by omega)]; exact of_in n w (by omega) (by omega)
end Go.Proofs.YtcdehcclkhmbiaaGreatDoor
