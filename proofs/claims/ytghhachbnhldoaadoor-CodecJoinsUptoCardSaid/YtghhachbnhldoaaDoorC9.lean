/-
  The reader's counts and texts. Helper lemmas; no statement of the seat is proved here.
-/
import Derived.Test.YtghhachbnhldoaaDoorC8
namespace Go.Proofs.YtghhachbnhldoaaDoor
open Go.RowKit
set_option maxRecDepth 100000
set_option linter.unusedVariables false
set_option linter.unusedSimpArgs false

/-- A text that was read. -/
def TxtV (b : Bool) (s : Bytes) (v : Value) : Prop := ∃ s' : Bytes, v = .string (bs s') ∧ s'.length ≤ 9223372036854775807 ∧ (b = false → s' = s)
theorem txtV_bad (s' s : Bytes) (h : s'.length ≤ 9223372036854775807 := by decide) : TxtV true s (.string (bs s')) := ⟨s', rfl, h, fun h => by cases h⟩
theorem txtV_ok {s : Bytes} (h : s.length ≤ 9223372036854775807) : TxtV false s (.string (bs s)) := ⟨s, rfl, h, fun _ => rfl⟩
set_option maxHeartbeats 8000000 in
theorem rcount_any (w0 W : World) (inp : Bytes) (deep : Int) (b : Bool) (n : Nat) (rest : Bytes) (hn : n ≤ 1000000000000) (hle : n ≤ rest.length) (hi : b = false → inp = numB n ++ rest) (h : RS w0 W inp deep b) :
    Calls Tryd.prog 50 #[.pointer (some ⟨w0.heap.size, 0, none⟩)] W (RPost w0 W b rest deep fun v _ => v = .int .i64 (if b = true then 0 else (n : Int))) := by
  have hc := rnum_any w0 W inp deep b n rest (by omega) hi h
  rw [decide_eq_false (by omega), Bool.or_false] at hc
  have HC := Lib.hid hc
  clear h hc hi
  go_enter Tryd.func50, Tryd.ntmps50
  go_wp2_with fail
  refine HC.out.mono ?_
  rintro e w1 ⟨v, rfl, rfl, ⟨inp1, hS, hin⟩, hX⟩
  obtain ⟨bb, off, c, k0, hrep, hc1, hc2⟩ := hS.row
  have k2 := hS.c2
  have g2 := hS.f2
  clear HC
  cases b with
  | true =>
    have hl0 : ¬ (inp1.length : Int) < 0 := by omega
    go_wp2_with fail
    go_ret
    exact ⟨_, rfl, rfl, ⟨_, hS, hin⟩, hX⟩
  | false =>
    obtain rfl := hin rfl
    have hl0 : ¬ (inp1.length : Int) < (n : Int) := by omega
    go_wp2_with fail
    go_ret
    exact ⟨_, rfl, rfl, ⟨_, hS, fun _ => rfl⟩, hX⟩
set_option maxHeartbeats 8000000 in
theorem rtext_any (w0 W : World) (inp : Bytes) (deep : Int) (b : Bool) (s : Bytes) (rest : Bytes) (hs : s.length ≤ 1000000000000) (hi : b = false → inp = txtB s ++ rest) (h : RS w0 W inp deep b) :
    Calls Tryd.prog 73 #[.pointer (some ⟨w0.heap.size, 0, none⟩)] W (RPost w0 W b rest deep fun v _ => TxtV b s v) := by
  have HC := Lib.hid (rcount_any w0 W inp deep b s.length (s ++ rest) hs (by rw [List.length_append]; omega) (fun hb => by rw [hi hb]; unfold txtB; rw [List.append_assoc]) h)
  clear h hi
  go_enter Tryd.func73, Tryd.ntmps73
  go_wp2_with fail
  refine HC.out.mono ?_
  rintro e w1 ⟨v, rfl, rfl, ⟨inp1, hS, hin⟩, hX⟩
  clear HC
  cases b with
  | true =>
    obtain ⟨bb, off, c, k0, hrep, hc1, hc2⟩ := hS.row
    have g0 := hS.f0
    have hcv := by_conv hrep 0 (by omega) hS.ext c
    have hnI : ((0 : Nat) : Int) ≤ (inp1.length : Int) := by omega
    have hn0 : (0 : Int) ≤ ((0 : Nat) : Int) := by omega
    have HS := Lib.hid (And.intro hS (And.intro hrep hX))
    by_cases hcn : c = 0
    · subst hcn
      have hle : inp1.length = 0 := by omega
      clear hS hrep hX
      go_wp2_with fail
      go_ret
      exact ⟨_, rfl, txtV_bad [] s, ⟨_, by simpa using HS.out.1.passAll (bb := bb) (off := off) 0 (by omega), fun h => by cases h⟩, HS.out.2.2.set rfl _⟩
    · clear hS hrep hX
      go_wp2_with fail
      go_ret
      exact ⟨_, rfl, txtV_bad [] s, ⟨_, by simpa using HS.out.1.pass HS.out.2.1 hc1 hc2 0 (Nat.zero_le _), fun h => by cases h⟩, HS.out.2.2.set rfl _⟩
  | false =>
    obtain rfl := hin rfl
    obtain ⟨inp2, hinp⟩ : ∃ x, s ++ rest = x := ⟨_, rfl⟩
    have HT := Lib.hid (show inp2.take s.length = s ∧ inp2.drop s.length = rest by rw [← hinp]; exact ⟨List.take_left, List.drop_left⟩)
    have hsl : s.length ≤ inp2.length := by rw [← hinp, List.length_append]; omega
    rw [hinp] at hS
    clear hinp hin
    obtain ⟨bb, off, c, k0, hrep, hc1, hc2⟩ := hS.row
    have g0 := hS.f0
    have hcv := by_conv hrep s.length (by omega) hS.ext c
    have hnI : ((s.length : Nat) : Int) ≤ (inp2.length : Int) := by omega
    have hn0 : (0 : Int) ≤ ((s.length : Nat) : Int) := by omega
    have HS := Lib.hid (And.intro hS (And.intro hrep hX))
    by_cases hcn : c = s.length
    · subst hcn
      have hle : inp2.length = s.length := by omega
      clear hS hrep hX
      go_wp2_with fail
      go_ret
      exact ⟨_, rfl, by rw [HT.out.1]; exact txtV_ok (by omega), ⟨_, by simpa using HS.out.1.passAll (bb := bb) (off := off) s.length (by omega), fun _ => HT.out.2⟩, HS.out.2.2.set rfl _⟩
    · clear hS hrep hX
      go_wp2_with fail
      go_ret
      exact ⟨_, rfl, by rw [HT.out.1]; exact txtV_ok (by omega), ⟨_, HS.out.1.pass HS.out.2.1 hc1 hc2 s.length hsl, fun _ => HT.out.2⟩, HS.out.2.2.set rfl _⟩

end Go.Proofs.YtghhachbnhldoaaDoor
