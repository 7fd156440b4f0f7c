/-
  Laws drawn from elder texts. Helper lemmas; no statement of the seat is proved here.
-/
import Derived.Test.YtmmopcceabdecaaGreatDoorShelf
import Derived.Test.YtmmopcceabdecaaGreatDoorTextPlain
import Derived.Test.YtmmopcceabdecaaGreatDoorStr
import Derived.Lib.SmallJoins
import Derived.Lib.AppendIntMem
import Derived.LoopTactic
import Derived.Outline
import Derived.Deep.QuietTactic
import Derived.BigQuiet
import Derived.Deep.RegionHeld3
namespace Go.Proofs.YtmmopcceabdecaaGreatDoor
open Go.RowKit
set_option maxRecDepth 100000
set_option linter.unusedVariables false
set_option linter.unusedSimpArgs false

def oddB (n : Bool) (v : Int) : Bool := n || decide (1000000000000000 < v) || decide (v < -1000000000000000)
def oddL (xs : List (Bool × Int)) : Bool := xs.any fun p => oddB p.1 p.2
theorem oddL_take (xs : List (Bool × Int)) (k : Nat) (h : k < xs.length) (h1 : oddL (xs.take k) = false) (h2 : oddB xs[k].1 xs[k].2 = false) : oddL (xs.take (k + 1)) = false := by
  unfold oddL at *
  rw [List.take_succ_eq_append_getElem h, List.any_append, h1]; simpa using h2
theorem oddL_at (xs : List (Bool × Int)) (k : Nat) (h : k < xs.length) (h2 : oddB xs[k].1 xs[k].2 = true) : oddL xs = true := by
  unfold oddL; rw [List.any_eq_true]; exact ⟨xs[k], List.getElem_mem h, h2⟩
theorem oddB_hi (n : Bool) (v : Int) (h : 1000000000000000 < v) : oddB n v = true := by simp [oddB, h]
theorem oddB_lo (n : Bool) (v : Int) (h : v < -1000000000000000) : oddB n v = true := by simp [oddB, h]
theorem oddB_no (v : Int) (h : ¬ 1000000000000000 < v) (h' : -1000000000000000 ≤ v) : oddB false v = false := by simp [oddB]; omega
theorem oddB_false {n : Bool} {v : Int} (h : oddB n v = false) : n = false ∧ v ≤ 1000000000000000 ∧ -1000000000000000 ≤ v := by
  simp [oddB] at h; obtain ⟨⟨h1, h2⟩, h3⟩ := h; exact ⟨h1, by omega, by omega⟩
/-- A number and a code, as they are returned. -/
abbrev Out := (Bool × Int) × Int
def fitS (v : Int) : Out := if 1000000000000000 < v ∨ v < -1000000000000000 then ((false, 0), 66) else ((false, v), 0)
theorem fitS_hi {v : Int} (h : 1000000000000000 < v) : fitS v = ((false, 0), 66) := by rw [fitS, if_pos (Or.inl h)]
theorem fitS_lo {v : Int} (h : v < -1000000000000000) : fitS v = ((false, 0), 66) := by rw [fitS, if_pos (Or.inr h)]
theorem fitS_in {v : Int} (h : v ≤ 1000000000000000) (h' : -1000000000000000 ≤ v) : fitS v = ((false, v), 0) := by rw [fitS, if_neg (by omega)]
def noneS : Out := ((true, 0), 0)
set_option maxRecDepth 100000 in
theorem odd_any (xs : List (Bool × Int)) (b o : Nat) (w : World) (hb : b < w.heap.size) (hm : xs.length ≤ 2)
   (hc0 : ∀ k (h : k < xs.length), w.cell? ⟨b, o + k * 2, none⟩ = some (.bool xs[k].1))
   (hc1 : ∀ k (h : k < xs.length), w.cell? ⟨b, o + k * 2 + 1, none⟩ = some (.int .i64 xs[k].2)) :
    Calls Tryz.prog 47 #[.slice (some ⟨b, o, none⟩) xs.length xs.length] w fun e w' => e = .returned (.bool (oddL xs)) ∧ Ext w w' := by
    go_enter Tryz.func47, Tryz.ntmps47
    go_wp2_with fail
    have H0 := Lib.hid hc0; have H1 := Lib.hid hc1; clear hc0 hc1
    go_loopw [7] (fun i wr => ∃ k : Nat, k ≤ xs.length ∧ i = .int .i64 k ∧ oddL (xs.take k) = false ∧ Ext w wr) (fun i _ => xs.length - (intOf i).toNat)
    case atStart => exact ⟨0, Nat.zero_le _, rfl, rfl, Ext.refl _⟩
    case round =>
      obtain ⟨k, hk, rfl, he, hB⟩ := hrel
      have HE := Lib.hid he; clear he
      by_cases hlt : k < xs.length
      · have c0 : wr.cell? ⟨b, o + k * 2, none⟩ = some (.bool xs[k].1) := by rw [hB.cells _ _ hb]; exact H0.out k hlt
        have c1 : wr.cell? ⟨b, o + k * 2 + 1, none⟩ = some (.int .i64 xs[k].2) := by rw [hB.cells _ _ hb]; exact H1.out k hlt
        have hsz : w.heap.size ≤ wr.heap.size := hB.size
        cases hn : xs[k].1 with
        | true =>
          have hodd := Lib.hid (oddL_at xs k hlt (by rw [hn]; rfl))
          go_wp2_with fail
          go_ret
          exact ⟨by rw [hodd.out]; rfl, hB.alloc _⟩
        | false =>
          by_cases h1 : 1000000000000000 < xs[k].2
          · have hodd := Lib.hid (oddL_at xs k hlt (oddB_hi _ _ h1))
            go_wp2_with fail
            go_ret
            exact ⟨by rw [hodd.out]; rfl, hB.alloc _⟩
          · by_cases h2 : xs[k].2 < -1000000000000000
            · have hodd := Lib.hid (oddL_at xs k hlt (oddB_lo _ _ h2))
              go_wp2_with fail
              go_ret
              exact ⟨by rw [hodd.out]; rfl, hB.alloc _⟩
            · have hodd := Lib.hid (oddL_take xs k hlt HE.out (by rw [hn]; exact oddB_no _ h1 (by omega)))
              go_wp2_with fail
              go_roundw
              case rel => exact ⟨k + 1, by omega, by go_num, hodd.out, hB.alloc _⟩
              case measure => simp [intOf]; omega
      · have hk' : k = xs.length := by omega
        have hodd : Hid (oddL xs = false) := by have := HE.out; rw [hk', List.take_length] at this; exact this
        clear hk'
        go_wp2_with fail
        go_ret
        exact ⟨by rw [hodd.out]; rfl, hB⟩
theorem odd2_any (an bn : Bool) (av bv : Int) (b : Nat) (w : World) (hb : b < w.heap.size)
    (c0 : w.cell? ⟨b, 0, none⟩ = some (.bool an)) (c1 : w.cell? ⟨b, 1, none⟩ = some (.int .i64 av))
    (c2 : w.cell? ⟨b, 2, none⟩ = some (.bool bn)) (c3 : w.cell? ⟨b, 3, none⟩ = some (.int .i64 bv)) :
    Calls Tryz.prog 47 #[.slice (some ⟨b, 0, none⟩) 2 2] w fun e w' => e = .returned (.bool (oddB an av || oddB bn bv)) ∧ Ext w w' := by
  have h := odd_any [(an, av), (bn, bv)] b 0 w hb (by simp)
    (fun k h => by match k, h with | 0, _ => exact c0 | 1, _ => exact c2)
    (fun k h => by match k, h with | 0, _ => exact c1 | 1, _ => exact c3)
  refine h.mono fun e w' ⟨he, hw⟩ => ⟨?_, hw⟩
  rw [he]; simp [oddL]
theorem nan_any (w : World) : Calls Tryz.prog 39 #[] w fun e w' => e = .returned (.agg #[.bool true, .int .i64 0]) ∧ Ext w w' := by
  go_enter Tryz.func39, Tryz.ntmps39
  go_wp2_with fail
  exact bodyPost_ret (v := .agg #[.bool true, .int .i64 0]) (by simp [results, Tryz.results39, go_sem]) rfl ⟨rfl, (Ext.refl _).alloc _⟩
theorem made_hi (s : Int) (n : Bool) (w : World) (h : 1000000000000000 < s) :
    Calls Tryz.prog 42 #[.int .u64 s, .bool n] w fun e w' => e = .returned (.tuple #[.agg #[.bool false, .int .i64 0], .int .i64 66]) ∧ Ext w w' := by
  go_enter Tryz.func42, Tryz.ntmps42
  go_wp2_with fail
  exact bodyPost_ret (v := .tuple #[.agg #[.bool false, .int .i64 0], .int .i64 66]) (by simp [results, Tryz.results42, go_sem]) rfl ⟨rfl, (Ext.refl _).alloc _⟩
theorem made_neg (s : Int) (w : World) (h0 : 0 ≤ s) (h : s ≤ 1000000000000000) :
    Calls Tryz.prog 42 #[.int .u64 s, .bool true] w fun e w' => e = .returned (.tuple #[.agg #[.bool false, .int .i64 (-s)], .int .i64 0]) ∧ Ext w w' := by
  go_enter Tryz.func42, Tryz.ntmps42
  go_wp2_with fail
  exact bodyPost_ret (v := .tuple #[.agg #[.bool false, .int .i64 (-s)], .int .i64 0]) (by simp [results, Tryz.results42, go_sem]) rfl ⟨rfl, (Ext.refl _).alloc _⟩
theorem made_pos (s : Int) (w : World) (h0 : 0 ≤ s) (h : s ≤ 1000000000000000) :
    Calls Tryz.prog 42 #[.int .u64 s, .bool false] w fun e w' => e = .returned (.tuple #[.agg #[.bool false, .int .i64 s], .int .i64 0]) ∧ Ext w w' := by
  go_enter Tryz.func42, Tryz.ntmps42
  go_wp2_with fail
  exact bodyPost_ret (v := .tuple #[.agg #[.bool false, .int .i64 s], .int .i64 0]) (by simp [results, Tryz.results42, go_sem]) rfl ⟨rfl, (Ext.refl _).alloc _⟩
/-- made, whatever the size: what fitS says of the signed size. -/
theorem made_any (s : Int) (n : Bool) (w : World) (h0 : 0 ≤ s) (v : Int) (hv : v = if n then -s else s) :
    Calls Tryz.prog 42 #[.int .u64 s, .bool n] w fun e w' => e = .returned (.tuple #[.agg #[.bool (fitS v).1.1, .int .i64 (fitS v).1.2], .int .i64 (fitS v).2]) ∧ Ext w w' := by
  by_cases h : 1000000000000000 < s
  · have e : fitS v = ((false, 0), 66) := by
      subst hv; cases n
      · exact fitS_hi h
      · exact fitS_lo (by simp; omega)
    rw [e]; exact made_hi s n w h
  · cases n
    · obtain rfl : v = s := by simpa using hv
      rw [fitS_in (by omega) (by omega)]; exact made_pos _ w h0 (by omega)
    · obtain rfl : v = -s := by simpa using hv
      rw [fitS_in (by omega) (by omega)]; exact made_neg _ w h0 (by omega)
theorem made_res (s : Int) (n : Bool) (w : World) (h0 : 0 ≤ s) (v : Int) (hv : v = if n then -s else s) {r1 : Bool} {r2 r3 : Int} (hr : fitS v = ((r1, r2), r3)) :
    Calls Tryz.prog 42 #[.int .u64 s, .bool n] w fun e w' => e = .returned (.tuple #[.agg #[.bool r1, .int .i64 r2], .int .i64 r3]) ∧ Ext w w' := by
  have h := made_any s n w h0 v hv
  rw [hr] at h
  exact h
theorem less_odd (an bn : Bool) (av bv : Int) (w : World) (ho : (oddB an av || oddB bn bv) = true) :
    Calls Tryz.prog 74 #[.agg #[.bool an, .int .i64 av], .agg #[.bool bn, .int .i64 bv]] w fun e w' => e = .returned (.bool false) ∧ Ext w w' := by
  have HO := Lib.hid ho; clear ho
  go_enter Tryz.func74, Tryz.ntmps74
  go_wp2_with fail
  refine (odd2_any an bn av bv _ _ (by simp) (by simp [go_sem]) (by simp [go_sem]) (by simp [go_sem]) (by simp [go_sem])).mono ?_
  rw [HO.out]
  rintro e w1 ⟨rfl, hB⟩
  have hc := hB.cells; have hf := hB.frees; have hz := hB.size
  simp at hz
  go_wp2_with fail
  go_ret
  refine ⟨rfl, ?_⟩
  repeat (first | exact Ext.refl _ | refine Ext.set ?_ (by dsimp only; omega) _ | refine Ext.alloc ?_ _ | refine Ext.drew ?_ | refine (Ext.trans ?_ (by assumption)))
theorem less_ok (av bv : Int) (w : World) (ho : (oddB false av || oddB false bv) = false) :
    Calls Tryz.prog 74 #[.agg #[.bool false, .int .i64 av], .agg #[.bool false, .int .i64 bv]] w fun e w' => e = .returned (.bool (decide (av < bv))) ∧ Ext w w' := by
  have HO := Lib.hid ho; clear ho
  go_enter Tryz.func74, Tryz.ntmps74
  go_wp2_with fail
  refine (odd2_any false false av bv _ _ (by simp) (by simp [go_sem]) (by simp [go_sem]) (by simp [go_sem]) (by simp [go_sem])).mono ?_
  rw [HO.out]
  rintro e w1 ⟨rfl, hB⟩
  have hc := hB.cells; have hf := hB.frees; have hz := hB.size
  simp at hz
  go_wp2_with fail
  go_ret
  refine ⟨rfl, ?_⟩
  repeat (first | exact Ext.refl _ | refine Ext.set ?_ (by dsimp only; omega) _ | refine Ext.alloc ?_ _ | refine Ext.drew ?_ | refine (Ext.trans ?_ (by assumption)))
def lessS (an bn : Bool) (av bv : Int) : Bool := !(oddB an av || oddB bn bv) && decide (av < bv)
theorem less_any (an bn : Bool) (av bv : Int) (w : World) :
    Calls Tryz.prog 74 #[.agg #[.bool an, .int .i64 av], .agg #[.bool bn, .int .i64 bv]] w fun e w' => e = .returned (.bool (lessS an bn av bv)) ∧ Ext w w' := by
  by_cases h : (oddB an av || oddB bn bv) = true
  · rw [lessS, h]; exact less_odd an bn av bv w h
  · have h' : (oddB an av || oddB bn bv) = false := by simpa using h
    rw [lessS, h']
    have h2 := h'
    rw [Bool.or_eq_false_iff] at h2
    obtain ⟨rfl, _, _⟩ := oddB_false h2.1
    obtain ⟨rfl, _, _⟩ := oddB_false h2.2
    exact less_ok av bv w h'
theorem equal_odd (an bn : Bool) (av bv : Int) (w : World) (ho : (oddB an av || oddB bn bv) = true) :
    Calls Tryz.prog 73 #[.agg #[.bool an, .int .i64 av], .agg #[.bool bn, .int .i64 bv]] w fun e w' => e = .returned (.bool false) ∧ Ext w w' := by
  have HO := Lib.hid ho; clear ho
  go_enter Tryz.func73, Tryz.ntmps73
  go_wp2_with fail
  refine (odd2_any an bn av bv _ _ (by simp) (by simp [go_sem]) (by simp [go_sem]) (by simp [go_sem]) (by simp [go_sem])).mono ?_
  rw [HO.out]
  rintro e w1 ⟨rfl, hB⟩
  have hc := hB.cells; have hf := hB.frees; have hz := hB.size
  simp at hz
  go_wp2_with fail
  go_ret
  refine ⟨rfl, ?_⟩
  repeat (first | exact Ext.refl _ | refine Ext.set ?_ (by dsimp only; omega) _ | refine Ext.alloc ?_ _ | refine Ext.drew ?_ | refine (Ext.trans ?_ (by assumption)))
theorem equal_yes (av bv : Int) (w : World) (ho : (oddB false av || oddB false bv) = false) (h : av = bv) :
    Calls Tryz.prog 73 #[.agg #[.bool false, .int .i64 av], .agg #[.bool false, .int .i64 bv]] w fun e w' => e = .returned (.bool true) ∧ Ext w w' := by
  have HO := Lib.hid ho; clear ho
  subst h
  go_enter Tryz.func73, Tryz.ntmps73
  go_wp2_with fail
  refine (odd2_any false false av av _ _ (by simp) (by simp [go_sem]) (by simp [go_sem]) (by simp [go_sem]) (by simp [go_sem])).mono ?_
  rw [HO.out]
  rintro e w1 ⟨rfl, hB⟩
  have hc := hB.cells; have hf := hB.frees; have hz := hB.size
  simp at hz
  go_wp2_with fail
  go_ret
  refine ⟨rfl, ?_⟩
  repeat (first | exact Ext.refl _ | refine Ext.set ?_ (by dsimp only; omega) _ | refine Ext.alloc ?_ _ | refine Ext.drew ?_ | refine (Ext.trans ?_ (by assumption)))
theorem equal_no (av bv : Int) (w : World) (ho : (oddB false av || oddB false bv) = false) (h : ¬ av = bv) :
    Calls Tryz.prog 73 #[.agg #[.bool false, .int .i64 av], .agg #[.bool false, .int .i64 bv]] w fun e w' => e = .returned (.bool false) ∧ Ext w w' := by
  have HO := Lib.hid ho; clear ho
  have hne : (av == bv) = false := by simpa using h
  clear h
  go_enter Tryz.func73, Tryz.ntmps73
  go_wp2_with fail
  refine (odd2_any false false av bv _ _ (by simp) (by simp [go_sem]) (by simp [go_sem]) (by simp [go_sem]) (by simp [go_sem])).mono ?_
  rw [HO.out]
  rintro e w1 ⟨rfl, hB⟩
  have hc := hB.cells; have hf := hB.frees; have hz := hB.size
  simp at hz
  go_wp2_with fail
  go_ret
  refine ⟨rfl, ?_⟩
  repeat (first | exact Ext.refl _ | refine Ext.set ?_ (by dsimp only; omega) _ | refine Ext.alloc ?_ _ | refine Ext.drew ?_ | refine (Ext.trans ?_ (by assumption)))
theorem equal_ok (av bv : Int) (w : World) (ho : (oddB false av || oddB false bv) = false) :
    Calls Tryz.prog 73 #[.agg #[.bool false, .int .i64 av], .agg #[.bool false, .int .i64 bv]] w fun e w' => e = .returned (.bool (decide (av = bv))) ∧ Ext w w' := by
  by_cases h : av = bv
  · rw [decide_eq_true h]; exact equal_yes av bv w ho h
  · rw [decide_eq_false h]; exact equal_no av bv w ho h
def equalS (an bn : Bool) (av bv : Int) : Bool := !(oddB an av || oddB bn bv) && decide (av = bv)
theorem equal_any (an bn : Bool) (av bv : Int) (w : World) :
    Calls Tryz.prog 73 #[.agg #[.bool an, .int .i64 av], .agg #[.bool bn, .int .i64 bv]] w fun e w' => e = .returned (.bool (equalS an bn av bv)) ∧ Ext w w' := by
  by_cases h : (oddB an av || oddB bn bv) = true
  · rw [equalS, h]; exact equal_odd an bn av bv w h
  · have h' : (oddB an av || oddB bn bv) = false := by simpa using h
    rw [equalS, h']
    have h2 := h'
    rw [Bool.or_eq_false_iff] at h2
    obtain ⟨rfl, _, _⟩ := oddB_false h2.1
    obtain ⟨rfl, _, _⟩ := oddB_false h2.2
    exact equal_ok av bv w h'
def signed (neg : Bool) (q : Nat) : Int := if neg then -(q : Int) else q
/-- What the library reads of its variables. -/
structure Glob (w : World) : Prop where
  m : ∃ m, w.cell? ⟨0, 0, none⟩ = some (.int .i64 m)
  tab : Lib.TabIs Tryz.prog w "internal/strconv.uint64pow10" .u64 Lib.pow10Tab
theorem Glob.ext {w w' : World} (h : Glob w) (hB : Ext w w') : Glob w' := by
  obtain ⟨m, hm⟩ := h.m
  exact ⟨⟨m, hB.keep (World.block_lt_of_cell? w _ hm) hm⟩, Lib.tabBelow_of_tabIs h.tab w' hB⟩
theorem Glob.alloc {w : World} (h : Glob w) (o : Obj) : Glob (w.alloc o) := h.ext ((Ext.refl _).alloc _)
theorem Glob.drew {w : World} (h : Glob w) : Glob w.drew := h.ext (Ext.refl _).drew
theorem trim_any (s : ByteArray) (w : World) (hs : s.size ≤ 9223372036854775807) :
    Calls Tryz.prog 35 #[.string s] w fun e w' => e = .returned (.string ⟨(Lib.trimS s.data.toList [9, 10, 13, 32]).toArray⟩) ∧ Ext w w' := by
  have hcon := Any.strings_Trim_laid Tryz.lays160 (by kernel_rfl) s ⟨#[9, 10, 13, 32]⟩ w hs (by decide) (ascii_of_all (by decide))
  change Calls Tryz.prog 55 _ _ (fun e w' => e = .returned (.string ⟨(Lib.trimS s.data.toList [9, 10, 13, 32]).toArray⟩) ∧ Below w.heap.size w w') at hcon
  generalize (⟨(Lib.trimS s.data.toList [9, 10, 13, 32]).toArray⟩ : ByteArray) = r at hcon ⊢
  go_enter Tryz.func35, Tryz.ntmps35
  go_wp2_with (go_at_call 55; refine hcon.mono ?_; rintro e w' ⟨rfl, hB⟩)
  go_ret
  exact ⟨rfl, hB⟩
def digL (l : List UInt8) : Bool := (Lib.trimS l [48, 49, 50, 51, 52, 53, 54, 55, 56, 57]).isEmpty
theorem digits_any (s : ByteArray) (w : World) (hs : s.size ≤ 9223372036854775807) :
    Calls Tryz.prog 38 #[.string s] w fun e w' => e = .returned (.bool (digL s.data.toList)) ∧ Ext w w' := by
  have hcon := Any.strings_Trim_laid Tryz.lays160 (by kernel_rfl) s ⟨#[48, 49, 50, 51, 52, 53, 54, 55, 56, 57]⟩ w hs (by decide) (ascii_of_all (by decide))
  change Calls Tryz.prog 55 _ _ (fun e w' => e = .returned (.string ⟨(Lib.trimS s.data.toList [48, 49, 50, 51, 52, 53, 54, 55, 56, 57]).toArray⟩) ∧ Below w.heap.size w w') at hcon
  unfold digL
  generalize Lib.trimS s.data.toList [48, 49, 50, 51, 52, 53, 54, 55, 56, 57] = l at hcon ⊢
  have he : (⟨l.toArray⟩ : ByteArray).toList.isEmpty = l.isEmpty := by rw [Lib.toList_data]
  generalize (⟨l.toArray⟩ : ByteArray) = r at hcon he
  cases l with
  | nil =>
    go_enter Tryz.func38, Tryz.ntmps38
    go_wp2_with (go_at_call 55; refine hcon.mono ?_; rintro e w' ⟨rfl, hB⟩)
    go_ret
    exact ⟨rfl, hB⟩
  | cons c l =>
    go_enter Tryz.func38, Tryz.ntmps38
    go_wp2_with (go_at_call 55; refine hcon.mono ?_; rintro e w' ⟨rfl, hB⟩)
    go_ret
    exact ⟨rfl, hB⟩
theorem parse_empty (s t0 t1 wh pl : ByteArray) (neg fnd : Bool) (w : World) (G : Glob w) (b1 : wh.size ≤ 4294967296) (b2 : pl.size ≤ 4294967296)
    (H0 : Hid (∀ w, Calls Tryz.prog 35 #[.string s] w fun e w' => e = .returned (.string t0) ∧ Ext w w'))
    (H1 : Hid (∀ w, Calls Tryz.prog 36 #[.string t0, .string ⟨#[45]⟩] w fun e w' => e = .returned (.tuple #[.string t1, .bool neg]) ∧ w = w'))
    (H2 : Hid (∀ w, Glob w → Calls Tryz.prog 37 #[.string t1, .string ⟨#[46]⟩] w fun e w' => e = .returned (.tuple #[.string wh, .string pl, .bool fnd]) ∧ Ext w w'))
    (hne : (wh ++ pl).toList.isEmpty = true) :
    Calls Tryz.prog 23 #[.string s] w fun e w' => e = .returned (.tuple #[.agg #[.bool true, .int .i64 0], .int .i64 0]) ∧ Ext w w' := by
  go_enter Tryz.func23, Tryz.ntmps23
  go_wp2_with fail
  refine (H0.out _).mono ?_
  rintro e w1 ⟨rfl, hB1⟩
  go_wp2_with fail
  refine (H1.out _).mono ?_
  rintro e w' ⟨rfl, rfl⟩
  go_wp2_with fail
  refine (H2.out _ ((G.alloc _).ext hB1)).mono ?_
  rintro e w2 ⟨rfl, hB2⟩
  go_wp2_with fail
  have hc := (hB1.trans hB2).cells; have hf := (hB1.trans hB2).frees; have hz := (hB1.trans hB2).size
  simp at hz
  refine (nan_any _).mono ?_
  rintro e w9 ⟨rfl, hB9⟩
  have hc9 := hB9.cells; have hf9 := hB9.frees; have hz9 := hB9.size
  have l2 : w.heap.size < w2.heap.size := by omega
  have l9 : w.heap.size < w9.heap.size := by omega
  go_wp2_with fail
  refine bodyPost_ret (v := .tuple #[.agg #[.bool true, .int .i64 0], .int .i64 0]) (by simp [results, Tryz.results23, go_sem, hc, hc9, l2]) rfl ⟨rfl, ?_⟩
  repeat (first | exact Ext.refl _ | refine Ext.set ?_ (by dsimp only; omega) _ | refine Ext.alloc ?_ _ | refine Ext.drew ?_ | refine (Ext.trans ?_ (by assumption)))
theorem parse_bad1 (s t0 t1 wh pl : ByteArray) (neg fnd : Bool) (w : World) (G : Glob w) (b1 : wh.size ≤ 4294967296) (b2 : pl.size ≤ 4294967296)
    (H0 : Hid (∀ w, Calls Tryz.prog 35 #[.string s] w fun e w' => e = .returned (.string t0) ∧ Ext w w'))
    (H1 : Hid (∀ w, Calls Tryz.prog 36 #[.string t0, .string ⟨#[45]⟩] w fun e w' => e = .returned (.tuple #[.string t1, .bool neg]) ∧ w = w'))
    (H2 : Hid (∀ w, Glob w → Calls Tryz.prog 37 #[.string t1, .string ⟨#[46]⟩] w fun e w' => e = .returned (.tuple #[.string wh, .string pl, .bool fnd]) ∧ Ext w w'))
    (H3 : Hid (∀ w, Calls Tryz.prog 38 #[.string wh] w fun e w' => e = .returned (.bool false) ∧ Ext w w'))
    (hne : (wh ++ pl).toList.isEmpty = false) :
    Calls Tryz.prog 23 #[.string s] w fun e w' => e = .returned (.tuple #[.agg #[.bool true, .int .i64 0], .int .i64 0]) ∧ Ext w w' := by
  go_enter Tryz.func23, Tryz.ntmps23
  go_wp2_with fail
  refine (H0.out _).mono ?_
  rintro e w1 ⟨rfl, hB1⟩
  go_wp2_with fail
  refine (H1.out _).mono ?_
  rintro e w' ⟨rfl, rfl⟩
  go_wp2_with fail
  refine (H2.out _ ((G.alloc _).ext hB1)).mono ?_
  rintro e w2 ⟨rfl, hB2⟩
  go_wp2_with fail
  refine (H3.out _).mono ?_
  rintro e w3 ⟨rfl, hB3⟩
  go_wp2_with fail
  have hc := ((hB1.trans hB2).trans hB3).cells; have hf := ((hB1.trans hB2).trans hB3).frees; have hz := ((hB1.trans hB2).trans hB3).size
  simp at hz
  refine (nan_any _).mono ?_
  rintro e w9 ⟨rfl, hB9⟩
  have hc9 := hB9.cells; have hf9 := hB9.frees; have hz9 := hB9.size
  have l2 : w.heap.size < w3.heap.size := by omega
  have l9 : w.heap.size < w9.heap.size := by omega
  go_wp2_with fail
  refine bodyPost_ret (v := .tuple #[.agg #[.bool true, .int .i64 0], .int .i64 0]) (by simp [results, Tryz.results23, go_sem, hc, hc9, l2]) rfl ⟨rfl, ?_⟩
  repeat (first | exact Ext.refl _ | refine Ext.set ?_ (by dsimp only; omega) _ | refine Ext.alloc ?_ _ | refine Ext.drew ?_ | refine (Ext.trans ?_ (by assumption)))
theorem parse_bad2 (s t0 t1 wh pl : ByteArray) (neg fnd : Bool) (w : World) (G : Glob w) (b1 : wh.size ≤ 4294967296) (b2 : pl.size ≤ 4294967296)
    (H0 : Hid (∀ w, Calls Tryz.prog 35 #[.string s] w fun e w' => e = .returned (.string t0) ∧ Ext w w'))
    (H1 : Hid (∀ w, Calls Tryz.prog 36 #[.string t0, .string ⟨#[45]⟩] w fun e w' => e = .returned (.tuple #[.string t1, .bool neg]) ∧ w = w'))
    (H2 : Hid (∀ w, Glob w → Calls Tryz.prog 37 #[.string t1, .string ⟨#[46]⟩] w fun e w' => e = .returned (.tuple #[.string wh, .string pl, .bool fnd]) ∧ Ext w w'))
    (H3 : Hid (∀ w, Calls Tryz.prog 38 #[.string wh] w fun e w' => e = .returned (.bool true) ∧ Ext w w'))
    (H4 : Hid (∀ w, Calls Tryz.prog 38 #[.string pl] w fun e w' => e = .returned (.bool false) ∧ Ext w w'))
    (hne : (wh ++ pl).toList.isEmpty = false) :
    Calls Tryz.prog 23 #[.string s] w fun e w' => e = .returned (.tuple #[.agg #[.bool true, .int .i64 0], .int .i64 0]) ∧ Ext w w' := by
  go_enter Tryz.func23, Tryz.ntmps23
  go_wp2_with fail
  refine (H0.out _).mono ?_
  rintro e w1 ⟨rfl, hB1⟩
  go_wp2_with fail
  refine (H1.out _).mono ?_
  rintro e w' ⟨rfl, rfl⟩
  go_wp2_with fail
  refine (H2.out _ ((G.alloc _).ext hB1)).mono ?_
  rintro e w2 ⟨rfl, hB2⟩
  go_wp2_with fail
  refine (H3.out _).mono ?_
  rintro e w3 ⟨rfl, hB3⟩
  go_wp2_with fail
  refine (H4.out _).mono ?_
  rintro e w4 ⟨rfl, hB4⟩
  go_wp2_with fail
  have hc := (((hB1.trans hB2).trans hB3).trans hB4).cells; have hf := (((hB1.trans hB2).trans hB3).trans hB4).frees; have hz := (((hB1.trans hB2).trans hB3).trans hB4).size
  simp at hz
  refine (nan_any _).mono ?_
  rintro e w9 ⟨rfl, hB9⟩
  have hc9 := hB9.cells; have hf9 := hB9.frees; have hz9 := hB9.size
  have l2 : w.heap.size < w4.heap.size := by omega
  have l9 : w.heap.size < w9.heap.size := by omega
  go_wp2_with fail
  refine bodyPost_ret (v := .tuple #[.agg #[.bool true, .int .i64 0], .int .i64 0]) (by simp [results, Tryz.results23, go_sem, hc, hc9, l2]) rfl ⟨rfl, ?_⟩
  repeat (first | exact Ext.refl _ | refine Ext.set ?_ (by dsimp only; omega) _ | refine Ext.alloc ?_ _ | refine Ext.drew ?_ | refine (Ext.trans ?_ (by assumption)))
theorem parse_over (s t0 t1 wh pl : ByteArray) (neg fnd : Bool) (w : World) (G : Glob w) (b1 : wh.size ≤ 4294967296) (b2 : pl.size ≤ 4294967296)
    (wz : ByteArray) (hlen : 10 < wz.size) (hmax : wz.size ≤ 4294967296)
    (H0 : Hid (∀ w, Calls Tryz.prog 35 #[.string s] w fun e w' => e = .returned (.string t0) ∧ Ext w w'))
    (H1 : Hid (∀ w, Calls Tryz.prog 36 #[.string t0, .string ⟨#[45]⟩] w fun e w' => e = .returned (.tuple #[.string t1, .bool neg]) ∧ w = w'))
    (H2 : Hid (∀ w, Glob w → Calls Tryz.prog 37 #[.string t1, .string ⟨#[46]⟩] w fun e w' => e = .returned (.tuple #[.string wh, .string pl, .bool fnd]) ∧ Ext w w'))
    (H3 : Hid (∀ w, Calls Tryz.prog 38 #[.string wh] w fun e w' => e = .returned (.bool true) ∧ Ext w w'))
    (H4 : Hid (∀ w, Calls Tryz.prog 38 #[.string pl] w fun e w' => e = .returned (.bool true) ∧ Ext w w'))
    (H5 : Hid (∀ w, Calls Tryz.prog 40 #[.string wh, .string ⟨#[48]⟩] w fun e w' => e = .returned (.string wz) ∧ Ext w w'))
    (hne : (wh ++ pl).toList.isEmpty = false) :
    Calls Tryz.prog 23 #[.string s] w fun e w' => e = .returned (.tuple #[.agg #[.bool false, .int .i64 0], .int .i64 66]) ∧ Ext w w' := by
  go_enter Tryz.func23, Tryz.ntmps23
  go_wp2_with fail
  refine (H0.out _).mono ?_
  rintro e w1 ⟨rfl, hB1⟩
  go_wp2_with fail
  refine (H1.out _).mono ?_
  rintro e w' ⟨rfl, rfl⟩
  go_wp2_with fail
  refine (H2.out _ ((G.alloc _).ext hB1)).mono ?_
  rintro e w2 ⟨rfl, hB2⟩
  go_wp2_with fail
  refine (H3.out _).mono ?_
  rintro e w3 ⟨rfl, hB3⟩
  go_wp2_with fail
  refine (H4.out _).mono ?_
  rintro e w4 ⟨rfl, hB4⟩
  go_wp2_with fail
  refine (H5.out _).mono ?_
  rintro e w5 ⟨rfl, hB5⟩
  have hc := ((((hB1.trans hB2).trans hB3).trans hB4).trans hB5).cells; have hf := ((((hB1.trans hB2).trans hB3).trans hB4).trans hB5).frees; have hz := ((((hB1.trans hB2).trans hB3).trans hB4).trans hB5).size
  simp at hz
  go_wp2_with fail
  refine bodyPost_ret (v := .tuple #[.agg #[.bool false, .int .i64 0], .int .i64 66]) (by simp [results, Tryz.results23, go_sem, hc]) rfl ⟨rfl, ?_⟩
  repeat (first | exact Ext.refl _ | refine Ext.set ?_ (by dsimp only; omega) _ | refine Ext.alloc ?_ _ | refine Ext.drew ?_ | refine (Ext.trans ?_ (by assumption)))
theorem parse_ok (s t0 t1 wh pl : ByteArray) (neg fnd : Bool) (w : World) (G : Glob w) (b1 : wh.size ≤ 4294967296) (b2 : pl.size ≤ 4294967296)
    (wz : ByteArray) (hlen : wz.size ≤ 10) (q : Int) (q0 : 0 ≤ q) (v : Int) (hv : v = if neg then -q else q) (r1 : Bool) (r2 r3 : Int) (hr : Hid (fitS v = ((r1, r2), r3)))
    (H0 : Hid (∀ w, Calls Tryz.prog 35 #[.string s] w fun e w' => e = .returned (.string t0) ∧ Ext w w'))
    (H1 : Hid (∀ w, Calls Tryz.prog 36 #[.string t0, .string ⟨#[45]⟩] w fun e w' => e = .returned (.tuple #[.string t1, .bool neg]) ∧ w = w'))
    (H2 : Hid (∀ w, Glob w → Calls Tryz.prog 37 #[.string t1, .string ⟨#[46]⟩] w fun e w' => e = .returned (.tuple #[.string wh, .string pl, .bool fnd]) ∧ Ext w w'))
    (H3 : Hid (∀ w, Calls Tryz.prog 38 #[.string wh] w fun e w' => e = .returned (.bool true) ∧ Ext w w'))
    (H4 : Hid (∀ w, Calls Tryz.prog 38 #[.string pl] w fun e w' => e = .returned (.bool true) ∧ Ext w w'))
    (H5 : Hid (∀ w, Calls Tryz.prog 40 #[.string wh, .string ⟨#[48]⟩] w fun e w' => e = .returned (.string wz) ∧ Ext w w'))
    (H6 : Hid (∀ w, Calls Tryz.prog 41 #[.string ({ data := #[48] } ++ wz ++ (pl ++ { data := #[48, 48, 48, 48, 48, 48] }).extract 0 6), .int .i64 10, .int .i64 64] w fun e w' => e = .returned (.tuple #[.int .u64 q, .nilIface]) ∧ Ext w w'))
    (hne : (wh ++ pl).toList.isEmpty = false) :
    Calls Tryz.prog 23 #[.string s] w fun e w' => e = .returned (.tuple #[.agg #[.bool r1, .int .i64 r2], .int .i64 r3]) ∧ Ext w w' := by
  have HV := Lib.hid hv; clear hv
  go_enter Tryz.func23, Tryz.ntmps23
  go_wp2_with fail
  refine (H0.out _).mono ?_
  rintro e w1 ⟨rfl, hB1⟩
  go_wp2_with fail
  refine (H1.out _).mono ?_
  rintro e w' ⟨rfl, rfl⟩
  go_wp2_with fail
  refine (H2.out _ ((G.alloc _).ext hB1)).mono ?_
  rintro e w2 ⟨rfl, hB2⟩
  go_wp2_with fail
  refine (H3.out _).mono ?_
  rintro e w3 ⟨rfl, hB3⟩
  go_wp2_with fail
  refine (H4.out _).mono ?_
  rintro e w4 ⟨rfl, hB4⟩
  go_wp2_with fail
  refine (H5.out _).mono ?_
  rintro e w5 ⟨rfl, hB5⟩
  go_wp2_with fail
  refine (H6.out _).mono ?_
  rintro e w6 ⟨rfl, hB6⟩
  go_wp2_with fail
  refine (made_res q neg _ q0 v HV.out hr.out).mono ?_
  rintro e w7 ⟨rfl, hB7⟩
  have hc := ((((((hB1.trans hB2).trans hB3).trans hB4).trans hB5).trans hB6).trans hB7).cells; have hf := ((((((hB1.trans hB2).trans hB3).trans hB4).trans hB5).trans hB6).trans hB7).frees; have hz := ((((((hB1.trans hB2).trans hB3).trans hB4).trans hB5).trans hB6).trans hB7).size
  simp at hz
  go_wp2_with fail
  refine bodyPost_ret (v := .tuple #[.agg #[.bool r1, .int .i64 r2], .int .i64 r3]) (by simp [results, Tryz.results23, go_sem, hc]) rfl ⟨rfl, ?_⟩
  repeat (first | exact Ext.refl _ | refine Ext.set ?_ (by dsimp only; omega) _ | refine Ext.alloc ?_ _ | refine Ext.drew ?_ | refine (Ext.trans ?_ (by assumption)))
def six : List UInt8 := [48, 48, 48, 48, 48, 48]
def parseS (l : List UInt8) : Out :=
  if (Lib.cut (Lib.trimPrefix (Lib.trimS l [9, 10, 13, 32]) [45]) [46]).1 ++ (Lib.cut (Lib.trimPrefix (Lib.trimS l [9, 10, 13, 32]) [45]) [46]).2.1 = [] then noneS
  else if (Lib.cut (Lib.trimPrefix (Lib.trimS l [9, 10, 13, 32]) [45]) [46]).1.all KText.isDig = false then noneS
  else if (Lib.cut (Lib.trimPrefix (Lib.trimS l [9, 10, 13, 32]) [45]) [46]).2.1.all KText.isDig = false then noneS
  else if 10 < (Lib.trimLeftS (Lib.cut (Lib.trimPrefix (Lib.trimS l [9, 10, 13, 32]) [45]) [46]).1 [48]).length then ((false, 0), 66)
  else fitS (signed (Lib.hasPrefix (Lib.trimS l [9, 10, 13, 32]) [45]) (KText.val 0 ([48] ++ Lib.trimLeftS (Lib.cut (Lib.trimPrefix (Lib.trimS l [9, 10, 13, 32]) [45]) [46]).1 [48] ++ ((Lib.cut (Lib.trimPrefix (Lib.trimS l [9, 10, 13, 32]) [45]) [46]).2.1 ++ six).take 6)))
theorem trimS_len (l cs : List UInt8) : (Lib.trimS l cs).length ≤ l.length := by
  unfold Lib.trimS Lib.trimLeftS Lib.trimRightS
  refine Nat.le_trans (List.dropWhile_sublist _).length_le ?_
  rw [List.length_reverse]
  refine Nat.le_trans (List.dropWhile_sublist _).length_le ?_
  rw [List.length_reverse]; exact Nat.le_refl _
theorem trimPrefix_len (l p : List UInt8) : (Lib.trimPrefix l p).length ≤ l.length := by
  unfold Lib.trimPrefix; split
  · rw [List.length_drop]; omega
  · exact Nat.le_refl _
theorem cut_len (l p : List UInt8) : (Lib.cut l p).1.length ≤ l.length ∧ (Lib.cut l p).2.1.length ≤ l.length := by
  unfold Lib.cut; split
  · simp only [List.length_take, List.length_drop]; omega
  · simp
theorem parse_any (s : ByteArray) (w : World) (G : Glob w) (hs : s.size ≤ 4294967280) :
    Calls Tryz.prog 23 #[.string s] w fun e w' => e = .returned (.tuple #[.agg #[.bool (parseS s.data.toList).1.1, .int .i64 (parseS s.data.toList).1.2], .int .i64 (parseS s.data.toList).2]) ∧ Ext w w' := by
  have hs' : s.data.toList.length ≤ 4294967280 := by rw [Array.length_toList]; exact hs
  generalize hl : s.data.toList = l at hs' ⊢
  unfold parseS
  have k0 := trimS_len l [9, 10, 13, 32]
  generalize et0 : Lib.trimS l [9, 10, 13, 32] = t0 at k0 ⊢
  have k1 := trimPrefix_len t0 [45]
  generalize eneg : Lib.hasPrefix t0 [45] = neg
  generalize et1 : Lib.trimPrefix t0 [45] = t1 at k1 ⊢
  obtain ⟨k2, k3⟩ := cut_len t1 [46]
  generalize ef : (Lib.cut t1 [46]).2.2 = fnd
  generalize ewh : (Lib.cut t1 [46]).1 = wh at k2 ⊢
  generalize epl : (Lib.cut t1 [46]).2.1 = pl at k3 ⊢
  have H0 : Hid (∀ w, Calls Tryz.prog 35 #[.string s] w fun e w' => e = .returned (.string (bs t0)) ∧ Ext w w') := fun w => by
    have h := trim_any s w (by omega)
    rw [hl, et0] at h
    exact h
  have H1 : Hid (∀ w, Calls Tryz.prog 36 #[.string (bs t0), .string ⟨#[45]⟩] w fun e w' => e = .returned (.tuple #[.string (bs t1), .bool neg]) ∧ w = w') := fun w => by
    have h := Tryz.strings_CutPrefix (bs t0) ⟨#[45]⟩ w
    refine h.mono fun e w' ⟨he, hw⟩ => ⟨?_, hw.symm⟩
    rw [he, bs_list, show (⟨#[45]⟩ : ByteArray).data.toList = [45] from rfl, et1, eneg]; rfl
  have H2 : Hid (∀ w, Glob w → Calls Tryz.prog 37 #[.string (bs t1), .string ⟨#[46]⟩] w fun e w' => e = .returned (.tuple #[.string (bs wh), .string (bs pl), .bool fnd]) ∧ Ext w w') := fun w G => by
    obtain ⟨m, hm⟩ := G.m
    have h := Tryz.strings_Cut (bs t1) ⟨#[46]⟩ m w (by rw [bs_size]; omega) hm
    refine h.mono fun e w' ⟨he, n, hw⟩ => ⟨?_, by rw [hw]; exact (Ext.refl _).drewN n⟩
    rw [he, bs_list, show (⟨#[46]⟩ : ByteArray).data.toList = [46] from rfl, ewh, epl, ef]; rfl
  have H3 : ∀ l : List UInt8, l.length ≤ 4294967296 → Hid (∀ w, Calls Tryz.prog 38 #[.string (bs l)] w fun e w' => e = .returned (.bool (l.all KText.isDig)) ∧ Ext w w') := fun l hl w => by
    have h := digits_any (bs l) w (by rw [bs_size]; omega)
    unfold digL at h
    rw [bs_list, KText.digits_all] at h
    exact h
  have eapp : (bs wh ++ bs pl).toList = wh ++ pl := by rw [bs_append, bs_toList]
  have b1 : (bs wh).size ≤ 4294967296 := by rw [bs_size]; omega
  have b2 : (bs pl).size ≤ 4294967296 := by rw [bs_size]; omega
  have h3 := H3 wh (by omega)
  have h4 := H3 pl (by omega)
  by_cases c1 : wh ++ pl = []
  · rw [if_pos c1]
    exact parse_empty s (bs t0) (bs t1) (bs wh) (bs pl) neg fnd w G b1 b2 H0 H1 H2 (by rw [eapp, c1]; rfl)
  rw [if_neg c1]
  have hne : (bs wh ++ bs pl).toList.isEmpty = false := by rw [eapp]; simpa [List.isEmpty_iff] using c1
  by_cases c2 : wh.all KText.isDig = false
  · rw [if_pos c2]; rw [c2] at h3
    exact parse_bad1 s (bs t0) (bs t1) (bs wh) (bs pl) neg fnd w G b1 b2 H0 H1 H2 h3 hne
  rw [if_neg c2]
  have c2' : wh.all KText.isDig = true := by simpa using c2
  rw [c2'] at h3
  by_cases c3 : pl.all KText.isDig = false
  · rw [if_pos c3]; rw [c3] at h4
    exact parse_bad2 s (bs t0) (bs t1) (bs wh) (bs pl) neg fnd w G b1 b2 H0 H1 H2 h3 h4 hne
  rw [if_neg c3]
  have c3' : pl.all KText.isDig = true := by simpa using c3
  rw [c3'] at h4
  have k4 : (Lib.trimLeftS wh [48]).length ≤ wh.length := (List.dropWhile_sublist _).length_le
  generalize ewz : Lib.trimLeftS wh [48] = wz at k4 ⊢
  have H5 : Hid (∀ w, Calls Tryz.prog 40 #[.string (bs wh), .string ⟨#[48]⟩] w fun e w' => e = .returned (.string (bs wz)) ∧ Ext w w') := fun w => by
    have hcon := Any.strings_TrimLeft_laid Tryz.lays161 (by kernel_rfl) (bs wh) ⟨#[48]⟩ w (by decide) (ascii_of_all (by decide))
    change Calls Tryz.prog 40 _ _ (fun e w' => e = .returned (.string ⟨(Lib.trimLeftS wh [48]).toArray⟩) ∧ Below w.heap.size w w') at hcon
    rw [ewz] at hcon
    exact hcon
  by_cases c4 : 10 < wz.length
  · rw [if_pos c4]
    exact parse_over s (bs t0) (bs t1) (bs wh) (bs pl) neg fnd w G b1 b2 (bs wz) (by rw [bs_size]; exact c4) (by rw [bs_size]; omega) H0 H1 H2 h3 h4 H5 hne
  rw [if_neg c4]
  obtain ⟨⟨⟨r1, r2⟩, r3⟩, hr⟩ : ∃ r, fitS (signed neg (KText.val 0 ([48] ++ wz ++ (pl ++ six).take 6))) = r := ⟨_, rfl⟩
  rw [hr]
  have enum : ({ data := #[48] } ++ bs wz ++ (bs pl ++ { data := #[48, 48, 48, 48, 48, 48] }).extract 0 6 : ByteArray) = bs ([48] ++ wz ++ (pl ++ six).take 6) := by
    rw [show ({ data := #[48] } : ByteArray) = bs [48] from rfl, show ({ data := #[48, 48, 48, 48, 48, 48] } : ByteArray) = bs six from rfl, bs_append, bs_append, bs_extract, List.drop_zero, Nat.sub_zero, bs_append]
  have H6 : Hid (∀ w, Calls Tryz.prog 41 #[.string ({ data := #[48] } ++ bs wz ++ (bs pl ++ { data := #[48, 48, 48, 48, 48, 48] }).extract 0 6), .int .i64 10, .int .i64 64] w fun e w' => e = .returned (.tuple #[.int .u64 (KText.val 0 ([48] ++ wz ++ (pl ++ six).take 6)), .nilIface]) ∧ Ext w w') := fun w => by
    rw [enum]
    have hlen : ([48] ++ wz ++ (pl ++ six).take 6).length ≤ 17 := by simp only [List.length_append, List.length_take, List.length_singleton]; omega
    have hdig : ∀ c ∈ [48] ++ wz ++ (pl ++ six).take 6, KText.isDig c = true := by
      intro c hc
      rw [List.all_eq_true] at c2' c3'
      rw [List.mem_append, List.mem_append] at hc
      rcases hc with (hc | hc) | hc
      · simp at hc; subst hc; rfl
      · rw [← ewz] at hc
        exact c2' c ((List.dropWhile_sublist _).mem hc)
      · have := List.mem_of_mem_take hc
        rw [List.mem_append] at this
        rcases this with h | h
        · exact c3' c h
        · simp [six] at h; subst h; rfl
    have h := Tryz.strconv_ParseUint_10_at64_ok (bs ([48] ++ wz ++ (pl ++ six).take 6)) (by rw [bs_size]; omega) (KText.val 0 ([48] ++ wz ++ (pl ++ six).take 6)) (KText.parseB_ok ([48] ++ wz ++ (pl ++ six).take 6) (by simp) hdig (by omega)) w
    refine h.mono fun e w' ⟨he, hw⟩ => ⟨he, ?_⟩
    rcases hw with rfl | rfl
    · exact Ext.refl _
    · exact Joins.below_bytesWorld _ _ _ _ (Nat.le_refl _)
  exact parse_ok s (bs t0) (bs t1) (bs wh) (bs pl) neg fnd w G b1 b2 (bs wz) (by rw [bs_size]; omega) _ (Int.natCast_nonneg _) _ rfl r1 r2 r3 hr H0 H1 H2 h3 h4 H5 H6 hne
end Go.Proofs.YtmmopcceabdecaaGreatDoor
