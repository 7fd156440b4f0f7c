/-
  The functions' arguments. Helper lemmas; no statement of the seat is proved here.
-/
import Derived.Test.YtfoclfefjcnllaaGreatDoorD8
import Derived.Maps.AppendAt
namespace Go.Proofs.YtfoclfefjcnllaaGreatDoor
open Go.RowKit
set_option maxRecDepth 100000
set_option linter.unusedVariables false
set_option linter.unusedSimpArgs false

def argsR (n : List UInt8) : Value := match argsS n with
  | none => .tuple #[.int .i64 0, .int .i64 0, .bool false]
  | some (lo, hi) => .tuple #[.int .i64 (lo : Nat), .int .i64 (hi : Nat), .bool true]
def argNames : List (List UInt8) := [[108, 97, 115, 116], [112, 111, 115, 105, 116, 105, 111, 110], [116, 114, 117, 101], [102, 97, 108, 115, 101], [118, 101, 114, 115, 105, 111, 110], [108, 111, 99, 97, 108, 45, 110, 97, 109, 101], [110, 97, 109, 101, 115, 112, 97, 99, 101, 45, 117, 114, 105], [110, 97, 109, 101], [115, 116, 114, 105, 110, 103], [115, 116, 114, 105, 110, 103, 45, 108, 101, 110, 103, 116, 104], [110, 111, 114, 109, 97, 108, 105, 122, 101, 45, 115, 112, 97, 99, 101], [110, 117, 109, 98, 101, 114], [99, 111, 117, 110, 116], [105, 100], [98, 111, 111, 108, 101, 97, 110], [110, 111, 116], [108, 97, 110, 103], [115, 117, 109], [102, 108, 111, 111, 114], [99, 101, 105, 108, 105, 110, 103], [114, 111, 117, 110, 100], [115, 116, 97, 114, 116, 115, 45, 119, 105, 116, 104], [99, 111, 110, 116, 97, 105, 110, 115], [115, 117, 98, 115, 116, 114, 105, 110, 103, 45, 98, 101, 102, 111, 114, 101], [115, 117, 98, 115, 116, 114, 105, 110, 103, 45, 97, 102, 116, 101, 114], [115, 117, 98, 115, 116, 114, 105, 110, 103], [116, 114, 97, 110, 115, 108, 97, 116, 101], [99, 111, 110, 99, 97, 116]]
theorem argsS_none (n : List UInt8) (h : ¬ n ∈ argNames) : argsS n = none := by
  unfold argNames at h
  simp only [List.mem_cons, List.not_mem_nil, or_false, not_or] at h
  unfold argsS
  simp [h]
set_option maxHeartbeats 16000000 in
theorem arguments_any (n : List UInt8) (w : World) : Calls Tryz.prog 142 #[.string (bs n)] w fun e w' => e = .returned (argsR n) ∧ Ext w w' := by
  by_cases hn : n ∈ argNames
  · unfold argNames at hn
    simp only [List.mem_cons, List.not_mem_nil, or_false] at hn
    have hq : ∀ (t : List UInt8) (b : Bool), (n == t) = b → ((bs n).toList == t) = b := fun t b h => by rw [bs_toList]; exact h
    rcases hn with hn | hn | hn | hn | hn | hn | hn | hn | hn | hn | hn | hn | hn | hn | hn | hn | hn | hn | hn | hn | hn | hn | hn | hn | hn | hn | hn | hn
    · have hR : argsR n = .tuple #[.int .i64 0, .int .i64 0, .bool true] := by rw [hn]; rfl
      rw [hR]
      have f0 := hq [108, 97, 115, 116] true (by rw [hn]; rfl)
      clear hn hq hR
      go_enter Tryz.func142, Tryz.ntmps142
      go_wp2_with fail
      exact bodyPost_ret (results_tmp3 rfl _ _ _) rfl ⟨rfl, Ext.refl _⟩
    · have hR : argsR n = .tuple #[.int .i64 0, .int .i64 0, .bool true] := by rw [hn]; rfl
      rw [hR]
      have f0 := hq [108, 97, 115, 116] false (by rw [hn]; rfl)
      have f1 := hq [112, 111, 115, 105, 116, 105, 111, 110] true (by rw [hn]; rfl)
      clear hn hq hR
      go_enter Tryz.func142, Tryz.ntmps142
      go_wp2_with fail
      exact bodyPost_ret (results_tmp3 rfl _ _ _) rfl ⟨rfl, Ext.refl _⟩
    · have hR : argsR n = .tuple #[.int .i64 0, .int .i64 0, .bool true] := by rw [hn]; rfl
      rw [hR]
      have f0 := hq [108, 97, 115, 116] false (by rw [hn]; rfl)
      have f1 := hq [112, 111, 115, 105, 116, 105, 111, 110] false (by rw [hn]; rfl)
      have f2 := hq [116, 114, 117, 101] true (by rw [hn]; rfl)
      clear hn hq hR
      go_enter Tryz.func142, Tryz.ntmps142
      go_wp2_with fail
      exact bodyPost_ret (results_tmp3 rfl _ _ _) rfl ⟨rfl, Ext.refl _⟩
    · have hR : argsR n = .tuple #[.int .i64 0, .int .i64 0, .bool true] := by rw [hn]; rfl
      rw [hR]
      have f0 := hq [108, 97, 115, 116] false (by rw [hn]; rfl)
      have f1 := hq [112, 111, 115, 105, 116, 105, 111, 110] false (by rw [hn]; rfl)
      have f2 := hq [116, 114, 117, 101] false (by rw [hn]; rfl)
      have f3 := hq [102, 97, 108, 115, 101] true (by rw [hn]; rfl)
      clear hn hq hR
      go_enter Tryz.func142, Tryz.ntmps142
      go_wp2_with fail
      exact bodyPost_ret (results_tmp3 rfl _ _ _) rfl ⟨rfl, Ext.refl _⟩
    · have hR : argsR n = .tuple #[.int .i64 0, .int .i64 0, .bool true] := by rw [hn]; rfl
      rw [hR]
      have f0 := hq [108, 97, 115, 116] false (by rw [hn]; rfl)
      have f1 := hq [112, 111, 115, 105, 116, 105, 111, 110] false (by rw [hn]; rfl)
      have f2 := hq [116, 114, 117, 101] false (by rw [hn]; rfl)
      have f3 := hq [102, 97, 108, 115, 101] false (by rw [hn]; rfl)
      have f4 := hq [118, 101, 114, 115, 105, 111, 110] true (by rw [hn]; rfl)
      clear hn hq hR
      go_enter Tryz.func142, Tryz.ntmps142
      go_wp2_with fail
      exact bodyPost_ret (results_tmp3 rfl _ _ _) rfl ⟨rfl, Ext.refl _⟩
    · have hR : argsR n = .tuple #[.int .i64 0, .int .i64 1, .bool true] := by rw [hn]; rfl
      rw [hR]
      have f0 := hq [108, 97, 115, 116] false (by rw [hn]; rfl)
      have f1 := hq [112, 111, 115, 105, 116, 105, 111, 110] false (by rw [hn]; rfl)
      have f2 := hq [116, 114, 117, 101] false (by rw [hn]; rfl)
      have f3 := hq [102, 97, 108, 115, 101] false (by rw [hn]; rfl)
      have f4 := hq [118, 101, 114, 115, 105, 111, 110] false (by rw [hn]; rfl)
      have f5 := hq [108, 111, 99, 97, 108, 45, 110, 97, 109, 101] true (by rw [hn]; rfl)
      clear hn hq hR
      go_enter Tryz.func142, Tryz.ntmps142
      go_wp2_with fail
      exact bodyPost_ret (results_tmp3 rfl _ _ _) rfl ⟨rfl, Ext.refl _⟩
    · have hR : argsR n = .tuple #[.int .i64 0, .int .i64 1, .bool true] := by rw [hn]; rfl
      rw [hR]
      have f0 := hq [108, 97, 115, 116] false (by rw [hn]; rfl)
      have f1 := hq [112, 111, 115, 105, 116, 105, 111, 110] false (by rw [hn]; rfl)
      have f2 := hq [116, 114, 117, 101] false (by rw [hn]; rfl)
      have f3 := hq [102, 97, 108, 115, 101] false (by rw [hn]; rfl)
      have f4 := hq [118, 101, 114, 115, 105, 111, 110] false (by rw [hn]; rfl)
      have f5 := hq [108, 111, 99, 97, 108, 45, 110, 97, 109, 101] false (by rw [hn]; rfl)
      have f6 := hq [110, 97, 109, 101, 115, 112, 97, 99, 101, 45, 117, 114, 105] true (by rw [hn]; rfl)
      clear hn hq hR
      go_enter Tryz.func142, Tryz.ntmps142
      go_wp2_with fail
      exact bodyPost_ret (results_tmp3 rfl _ _ _) rfl ⟨rfl, Ext.refl _⟩
    · have hR : argsR n = .tuple #[.int .i64 0, .int .i64 1, .bool true] := by rw [hn]; rfl
      rw [hR]
      have f0 := hq [108, 97, 115, 116] false (by rw [hn]; rfl)
      have f1 := hq [112, 111, 115, 105, 116, 105, 111, 110] false (by rw [hn]; rfl)
      have f2 := hq [116, 114, 117, 101] false (by rw [hn]; rfl)
      have f3 := hq [102, 97, 108, 115, 101] false (by rw [hn]; rfl)
      have f4 := hq [118, 101, 114, 115, 105, 111, 110] false (by rw [hn]; rfl)
      have f5 := hq [108, 111, 99, 97, 108, 45, 110, 97, 109, 101] false (by rw [hn]; rfl)
      have f6 := hq [110, 97, 109, 101, 115, 112, 97, 99, 101, 45, 117, 114, 105] false (by rw [hn]; rfl)
      have f7 := hq [110, 97, 109, 101] true (by rw [hn]; rfl)
      clear hn hq hR
      go_enter Tryz.func142, Tryz.ntmps142
      go_wp2_with fail
      exact bodyPost_ret (results_tmp3 rfl _ _ _) rfl ⟨rfl, Ext.refl _⟩
    · have hR : argsR n = .tuple #[.int .i64 0, .int .i64 1, .bool true] := by rw [hn]; rfl
      rw [hR]
      have f0 := hq [108, 97, 115, 116] false (by rw [hn]; rfl)
      have f1 := hq [112, 111, 115, 105, 116, 105, 111, 110] false (by rw [hn]; rfl)
      have f2 := hq [116, 114, 117, 101] false (by rw [hn]; rfl)
      have f3 := hq [102, 97, 108, 115, 101] false (by rw [hn]; rfl)
      have f4 := hq [118, 101, 114, 115, 105, 111, 110] false (by rw [hn]; rfl)
      have f5 := hq [108, 111, 99, 97, 108, 45, 110, 97, 109, 101] false (by rw [hn]; rfl)
      have f6 := hq [110, 97, 109, 101, 115, 112, 97, 99, 101, 45, 117, 114, 105] false (by rw [hn]; rfl)
      have f7 := hq [110, 97, 109, 101] false (by rw [hn]; rfl)
      have f8 := hq [115, 116, 114, 105, 110, 103] true (by rw [hn]; rfl)
      clear hn hq hR
      go_enter Tryz.func142, Tryz.ntmps142
      go_wp2_with fail
      exact bodyPost_ret (results_tmp3 rfl _ _ _) rfl ⟨rfl, Ext.refl _⟩
    · have hR : argsR n = .tuple #[.int .i64 0, .int .i64 1, .bool true] := by rw [hn]; rfl
      rw [hR]
      have f0 := hq [108, 97, 115, 116] false (by rw [hn]; rfl)
      have f1 := hq [112, 111, 115, 105, 116, 105, 111, 110] false (by rw [hn]; rfl)
      have f2 := hq [116, 114, 117, 101] false (by rw [hn]; rfl)
      have f3 := hq [102, 97, 108, 115, 101] false (by rw [hn]; rfl)
      have f4 := hq [118, 101, 114, 115, 105, 111, 110] false (by rw [hn]; rfl)
      have f5 := hq [108, 111, 99, 97, 108, 45, 110, 97, 109, 101] false (by rw [hn]; rfl)
      have f6 := hq [110, 97, 109, 101, 115, 112, 97, 99, 101, 45, 117, 114, 105] false (by rw [hn]; rfl)
      have f7 := hq [110, 97, 109, 101] false (by rw [hn]; rfl)
      have f8 := hq [115, 116, 114, 105, 110, 103] false (by rw [hn]; rfl)
      have f9 := hq [115, 116, 114, 105, 110, 103, 45, 108, 101, 110, 103, 116, 104] true (by rw [hn]; rfl)
      clear hn hq hR
      go_enter Tryz.func142, Tryz.ntmps142
      go_wp2_with fail
      exact bodyPost_ret (results_tmp3 rfl _ _ _) rfl ⟨rfl, Ext.refl _⟩
    · have hR : argsR n = .tuple #[.int .i64 0, .int .i64 1, .bool true] := by rw [hn]; rfl
      rw [hR]
      have f0 := hq [108, 97, 115, 116] false (by rw [hn]; rfl)
      have f1 := hq [112, 111, 115, 105, 116, 105, 111, 110] false (by rw [hn]; rfl)
      have f2 := hq [116, 114, 117, 101] false (by rw [hn]; rfl)
      have f3 := hq [102, 97, 108, 115, 101] false (by rw [hn]; rfl)
      have f4 := hq [118, 101, 114, 115, 105, 111, 110] false (by rw [hn]; rfl)
      have f5 := hq [108, 111, 99, 97, 108, 45, 110, 97, 109, 101] false (by rw [hn]; rfl)
      have f6 := hq [110, 97, 109, 101, 115, 112, 97, 99, 101, 45, 117, 114, 105] false (by rw [hn]; rfl)
      have f7 := hq [110, 97, 109, 101] false (by rw [hn]; rfl)
      have f8 := hq [115, 116, 114, 105, 110, 103] false (by rw [hn]; rfl)
      have f9 := hq [115, 116, 114, 105, 110, 103, 45, 108, 101, 110, 103, 116, 104] false (by rw [hn]; rfl)
      have f10 := hq [110, 111, 114, 109, 97, 108, 105, 122, 101, 45, 115, 112, 97, 99, 101] true (by rw [hn]; rfl)
      clear hn hq hR
      go_enter Tryz.func142, Tryz.ntmps142
      go_wp2_with fail
      exact bodyPost_ret (results_tmp3 rfl _ _ _) rfl ⟨rfl, Ext.refl _⟩
    · have hR : argsR n = .tuple #[.int .i64 0, .int .i64 1, .bool true] := by rw [hn]; rfl
      rw [hR]
      have f0 := hq [108, 97, 115, 116] false (by rw [hn]; rfl)
      have f1 := hq [112, 111, 115, 105, 116, 105, 111, 110] false (by rw [hn]; rfl)
      have f2 := hq [116, 114, 117, 101] false (by rw [hn]; rfl)
      have f3 := hq [102, 97, 108, 115, 101] false (by rw [hn]; rfl)
      have f4 := hq [118, 101, 114, 115, 105, 111, 110] false (by rw [hn]; rfl)
      have f5 := hq [108, 111, 99, 97, 108, 45, 110, 97, 109, 101] false (by rw [hn]; rfl)
      have f6 := hq [110, 97, 109, 101, 115, 112, 97, 99, 101, 45, 117, 114, 105] false (by rw [hn]; rfl)
      have f7 := hq [110, 97, 109, 101] false (by rw [hn]; rfl)
      have f8 := hq [115, 116, 114, 105, 110, 103] false (by rw [hn]; rfl)
      have f9 := hq [115, 116, 114, 105, 110, 103, 45, 108, 101, 110, 103, 116, 104] false (by rw [hn]; rfl)
      have f10 := hq [110, 111, 114, 109, 97, 108, 105, 122, 101, 45, 115, 112, 97, 99, 101] false (by rw [hn]; rfl)
      have f11 := hq [110, 117, 109, 98, 101, 114] true (by rw [hn]; rfl)
      clear hn hq hR
      go_enter Tryz.func142, Tryz.ntmps142
      go_wp2_with fail
      exact bodyPost_ret (results_tmp3 rfl _ _ _) rfl ⟨rfl, Ext.refl _⟩
    · have hR : argsR n = .tuple #[.int .i64 1, .int .i64 1, .bool true] := by rw [hn]; rfl
      rw [hR]
      have f0 := hq [108, 97, 115, 116] false (by rw [hn]; rfl)
      have f1 := hq [112, 111, 115, 105, 116, 105, 111, 110] false (by rw [hn]; rfl)
      have f2 := hq [116, 114, 117, 101] false (by rw [hn]; rfl)
      have f3 := hq [102, 97, 108, 115, 101] false (by rw [hn]; rfl)
      have f4 := hq [118, 101, 114, 115, 105, 111, 110] false (by rw [hn]; rfl)
      have f5 := hq [108, 111, 99, 97, 108, 45, 110, 97, 109, 101] false (by rw [hn]; rfl)
      have f6 := hq [110, 97, 109, 101, 115, 112, 97, 99, 101, 45, 117, 114, 105] false (by rw [hn]; rfl)
      have f7 := hq [110, 97, 109, 101] false (by rw [hn]; rfl)
      have f8 := hq [115, 116, 114, 105, 110, 103] false (by rw [hn]; rfl)
      have f9 := hq [115, 116, 114, 105, 110, 103, 45, 108, 101, 110, 103, 116, 104] false (by rw [hn]; rfl)
      have f10 := hq [110, 111, 114, 109, 97, 108, 105, 122, 101, 45, 115, 112, 97, 99, 101] false (by rw [hn]; rfl)
      have f11 := hq [110, 117, 109, 98, 101, 114] false (by rw [hn]; rfl)
      have f12 := hq [99, 111, 117, 110, 116] true (by rw [hn]; rfl)
      clear hn hq hR
      go_enter Tryz.func142, Tryz.ntmps142
      go_wp2_with fail
      exact bodyPost_ret (results_tmp3 rfl _ _ _) rfl ⟨rfl, Ext.refl _⟩
    · have hR : argsR n = .tuple #[.int .i64 1, .int .i64 1, .bool true] := by rw [hn]; rfl
      rw [hR]
      have f0 := hq [108, 97, 115, 116] false (by rw [hn]; rfl)
      have f1 := hq [112, 111, 115, 105, 116, 105, 111, 110] false (by rw [hn]; rfl)
      have f2 := hq [116, 114, 117, 101] false (by rw [hn]; rfl)
      have f3 := hq [102, 97, 108, 115, 101] false (by rw [hn]; rfl)
      have f4 := hq [118, 101, 114, 115, 105, 111, 110] false (by rw [hn]; rfl)
      have f5 := hq [108, 111, 99, 97, 108, 45, 110, 97, 109, 101] false (by rw [hn]; rfl)
      have f6 := hq [110, 97, 109, 101, 115, 112, 97, 99, 101, 45, 117, 114, 105] false (by rw [hn]; rfl)
      have f7 := hq [110, 97, 109, 101] false (by rw [hn]; rfl)
      have f8 := hq [115, 116, 114, 105, 110, 103] false (by rw [hn]; rfl)
      have f9 := hq [115, 116, 114, 105, 110, 103, 45, 108, 101, 110, 103, 116, 104] false (by rw [hn]; rfl)
      have f10 := hq [110, 111, 114, 109, 97, 108, 105, 122, 101, 45, 115, 112, 97, 99, 101] false (by rw [hn]; rfl)
      have f11 := hq [110, 117, 109, 98, 101, 114] false (by rw [hn]; rfl)
      have f12 := hq [99, 111, 117, 110, 116] false (by rw [hn]; rfl)
      have f13 := hq [105, 100] true (by rw [hn]; rfl)
      clear hn hq hR
      go_enter Tryz.func142, Tryz.ntmps142
      go_wp2_with fail
      exact bodyPost_ret (results_tmp3 rfl _ _ _) rfl ⟨rfl, Ext.refl _⟩
    · have hR : argsR n = .tuple #[.int .i64 1, .int .i64 1, .bool true] := by rw [hn]; rfl
      rw [hR]
      have f0 := hq [108, 97, 115, 116] false (by rw [hn]; rfl)
      have f1 := hq [112, 111, 115, 105, 116, 105, 111, 110] false (by rw [hn]; rfl)
      have f2 := hq [116, 114, 117, 101] false (by rw [hn]; rfl)
      have f3 := hq [102, 97, 108, 115, 101] false (by rw [hn]; rfl)
      have f4 := hq [118, 101, 114, 115, 105, 111, 110] false (by rw [hn]; rfl)
      have f5 := hq [108, 111, 99, 97, 108, 45, 110, 97, 109, 101] false (by rw [hn]; rfl)
      have f6 := hq [110, 97, 109, 101, 115, 112, 97, 99, 101, 45, 117, 114, 105] false (by rw [hn]; rfl)
      have f7 := hq [110, 97, 109, 101] false (by rw [hn]; rfl)
      have f8 := hq [115, 116, 114, 105, 110, 103] false (by rw [hn]; rfl)
      have f9 := hq [115, 116, 114, 105, 110, 103, 45, 108, 101, 110, 103, 116, 104] false (by rw [hn]; rfl)
      have f10 := hq [110, 111, 114, 109, 97, 108, 105, 122, 101, 45, 115, 112, 97, 99, 101] false (by rw [hn]; rfl)
      have f11 := hq [110, 117, 109, 98, 101, 114] false (by rw [hn]; rfl)
      have f12 := hq [99, 111, 117, 110, 116] false (by rw [hn]; rfl)
      have f13 := hq [105, 100] false (by rw [hn]; rfl)
      have f14 := hq [98, 111, 111, 108, 101, 97, 110] true (by rw [hn]; rfl)
      clear hn hq hR
      go_enter Tryz.func142, Tryz.ntmps142
      go_wp2_with fail
      exact bodyPost_ret (results_tmp3 rfl _ _ _) rfl ⟨rfl, Ext.refl _⟩
    · have hR : argsR n = .tuple #[.int .i64 1, .int .i64 1, .bool true] := by rw [hn]; rfl
      rw [hR]
      have f0 := hq [108, 97, 115, 116] false (by rw [hn]; rfl)
      have f1 := hq [112, 111, 115, 105, 116, 105, 111, 110] false (by rw [hn]; rfl)
      have f2 := hq [116, 114, 117, 101] false (by rw [hn]; rfl)
      have f3 := hq [102, 97, 108, 115, 101] false (by rw [hn]; rfl)
      have f4 := hq [118, 101, 114, 115, 105, 111, 110] false (by rw [hn]; rfl)
      have f5 := hq [108, 111, 99, 97, 108, 45, 110, 97, 109, 101] false (by rw [hn]; rfl)
      have f6 := hq [110, 97, 109, 101, 115, 112, 97, 99, 101, 45, 117, 114, 105] false (by rw [hn]; rfl)
      have f7 := hq [110, 97, 109, 101] false (by rw [hn]; rfl)
      have f8 := hq [115, 116, 114, 105, 110, 103] false (by rw [hn]; rfl)
      have f9 := hq [115, 116, 114, 105, 110, 103, 45, 108, 101, 110, 103, 116, 104] false (by rw [hn]; rfl)
      have f10 := hq [110, 111, 114, 109, 97, 108, 105, 122, 101, 45, 115, 112, 97, 99, 101] false (by rw [hn]; rfl)
      have f11 := hq [110, 117, 109, 98, 101, 114] false (by rw [hn]; rfl)
      have f12 := hq [99, 111, 117, 110, 116] false (by rw [hn]; rfl)
      have f13 := hq [105, 100] false (by rw [hn]; rfl)
      have f14 := hq [98, 111, 111, 108, 101, 97, 110] false (by rw [hn]; rfl)
      have f15 := hq [110, 111, 116] true (by rw [hn]; rfl)
      clear hn hq hR
      go_enter Tryz.func142, Tryz.ntmps142
      go_wp2_with fail
      exact bodyPost_ret (results_tmp3 rfl _ _ _) rfl ⟨rfl, Ext.refl _⟩
    · have hR : argsR n = .tuple #[.int .i64 1, .int .i64 1, .bool true] := by rw [hn]; rfl
      rw [hR]
      have f0 := hq [108, 97, 115, 116] false (by rw [hn]; rfl)
      have f1 := hq [112, 111, 115, 105, 116, 105, 111, 110] false (by rw [hn]; rfl)
      have f2 := hq [116, 114, 117, 101] false (by rw [hn]; rfl)
      have f3 := hq [102, 97, 108, 115, 101] false (by rw [hn]; rfl)
      have f4 := hq [118, 101, 114, 115, 105, 111, 110] false (by rw [hn]; rfl)
      have f5 := hq [108, 111, 99, 97, 108, 45, 110, 97, 109, 101] false (by rw [hn]; rfl)
      have f6 := hq [110, 97, 109, 101, 115, 112, 97, 99, 101, 45, 117, 114, 105] false (by rw [hn]; rfl)
      have f7 := hq [110, 97, 109, 101] false (by rw [hn]; rfl)
      have f8 := hq [115, 116, 114, 105, 110, 103] false (by rw [hn]; rfl)
      have f9 := hq [115, 116, 114, 105, 110, 103, 45, 108, 101, 110, 103, 116, 104] false (by rw [hn]; rfl)
      have f10 := hq [110, 111, 114, 109, 97, 108, 105, 122, 101, 45, 115, 112, 97, 99, 101] false (by rw [hn]; rfl)
      have f11 := hq [110, 117, 109, 98, 101, 114] false (by rw [hn]; rfl)
      have f12 := hq [99, 111, 117, 110, 116] false (by rw [hn]; rfl)
      have f13 := hq [105, 100] false (by rw [hn]; rfl)
      have f14 := hq [98, 111, 111, 108, 101, 97, 110] false (by rw [hn]; rfl)
      have f15 := hq [110, 111, 116] false (by rw [hn]; rfl)
      have f16 := hq [108, 97, 110, 103] true (by rw [hn]; rfl)
      clear hn hq hR
      go_enter Tryz.func142, Tryz.ntmps142
      go_wp2_with fail
      exact bodyPost_ret (results_tmp3 rfl _ _ _) rfl ⟨rfl, Ext.refl _⟩
    · have hR : argsR n = .tuple #[.int .i64 1, .int .i64 1, .bool true] := by rw [hn]; rfl
      rw [hR]
      have f0 := hq [108, 97, 115, 116] false (by rw [hn]; rfl)
      have f1 := hq [112, 111, 115, 105, 116, 105, 111, 110] false (by rw [hn]; rfl)
      have f2 := hq [116, 114, 117, 101] false (by rw [hn]; rfl)
      have f3 := hq [102, 97, 108, 115, 101] false (by rw [hn]; rfl)
      have f4 := hq [118, 101, 114, 115, 105, 111, 110] false (by rw [hn]; rfl)
      have f5 := hq [108, 111, 99, 97, 108, 45, 110, 97, 109, 101] false (by rw [hn]; rfl)
      have f6 := hq [110, 97, 109, 101, 115, 112, 97, 99, 101, 45, 117, 114, 105] false (by rw [hn]; rfl)
      have f7 := hq [110, 97, 109, 101] false (by rw [hn]; rfl)
      have f8 := hq [115, 116, 114, 105, 110, 103] false (by rw [hn]; rfl)
      have f9 := hq [115, 116, 114, 105, 110, 103, 45, 108, 101, 110, 103, 116, 104] false (by rw [hn]; rfl)
      have f10 := hq [110, 111, 114, 109, 97, 108, 105, 122, 101, 45, 115, 112, 97, 99, 101] false (by rw [hn]; rfl)
      have f11 := hq [110, 117, 109, 98, 101, 114] false (by rw [hn]; rfl)
      have f12 := hq [99, 111, 117, 110, 116] false (by rw [hn]; rfl)
      have f13 := hq [105, 100] false (by rw [hn]; rfl)
      have f14 := hq [98, 111, 111, 108, 101, 97, 110] false (by rw [hn]; rfl)
      have f15 := hq [110, 111, 116] false (by rw [hn]; rfl)
      have f16 := hq [108, 97, 110, 103] false (by rw [hn]; rfl)
      have f17 := hq [115, 117, 109] true (by rw [hn]; rfl)
      clear hn hq hR
      go_enter Tryz.func142, Tryz.ntmps142
      go_wp2_with fail
      exact bodyPost_ret (results_tmp3 rfl _ _ _) rfl ⟨rfl, Ext.refl _⟩
    · have hR : argsR n = .tuple #[.int .i64 1, .int .i64 1, .bool true] := by rw [hn]; rfl
      rw [hR]
      have f0 := hq [108, 97, 115, 116] false (by rw [hn]; rfl)
      have f1 := hq [112, 111, 115, 105, 116, 105, 111, 110] false (by rw [hn]; rfl)
      have f2 := hq [116, 114, 117, 101] false (by rw [hn]; rfl)
      have f3 := hq [102, 97, 108, 115, 101] false (by rw [hn]; rfl)
      have f4 := hq [118, 101, 114, 115, 105, 111, 110] false (by rw [hn]; rfl)
      have f5 := hq [108, 111, 99, 97, 108, 45, 110, 97, 109, 101] false (by rw [hn]; rfl)
      have f6 := hq [110, 97, 109, 101, 115, 112, 97, 99, 101, 45, 117, 114, 105] false (by rw [hn]; rfl)
      have f7 := hq [110, 97, 109, 101] false (by rw [hn]; rfl)
      have f8 := hq [115, 116, 114, 105, 110, 103] false (by rw [hn]; rfl)
      have f9 := hq [115, 116, 114, 105, 110, 103, 45, 108, 101, 110, 103, 116, 104] false (by rw [hn]; rfl)
      have f10 := hq [110, 111, 114, 109, 97, 108, 105, 122, 101, 45, 115, 112, 97, 99, 101] false (by rw [hn]; rfl)
      have f11 := hq [110, 117, 109, 98, 101, 114] false (by rw [hn]; rfl)
      have f12 := hq [99, 111, 117, 110, 116] false (by rw [hn]; rfl)
      have f13 := hq [105, 100] false (by rw [hn]; rfl)
      have f14 := hq [98, 111, 111, 108, 101, 97, 110] false (by rw [hn]; rfl)
      have f15 := hq [110, 111, 116] false (by rw [hn]; rfl)
      have f16 := hq [108, 97, 110, 103] false (by rw [hn]; rfl)
      have f17 := hq [115, 117, 109] false (by rw [hn]; rfl)
      have f18 := hq [102, 108, 111, 111, 114] true (by rw [hn]; rfl)
      clear hn hq hR
      go_enter Tryz.func142, Tryz.ntmps142
      go_wp2_with fail
      exact bodyPost_ret (results_tmp3 rfl _ _ _) rfl ⟨rfl, Ext.refl _⟩
    · have hR : argsR n = .tuple #[.int .i64 1, .int .i64 1, .bool true] := by rw [hn]; rfl
      rw [hR]
      have f0 := hq [108, 97, 115, 116] false (by rw [hn]; rfl)
      have f1 := hq [112, 111, 115, 105, 116, 105, 111, 110] false (by rw [hn]; rfl)
      have f2 := hq [116, 114, 117, 101] false (by rw [hn]; rfl)
      have f3 := hq [102, 97, 108, 115, 101] false (by rw [hn]; rfl)
      have f4 := hq [118, 101, 114, 115, 105, 111, 110] false (by rw [hn]; rfl)
      have f5 := hq [108, 111, 99, 97, 108, 45, 110, 97, 109, 101] false (by rw [hn]; rfl)
      have f6 := hq [110, 97, 109, 101, 115, 112, 97, 99, 101, 45, 117, 114, 105] false (by rw [hn]; rfl)
      have f7 := hq [110, 97, 109, 101] false (by rw [hn]; rfl)
      have f8 := hq [115, 116, 114, 105, 110, 103] false (by rw [hn]; rfl)
      have f9 := hq [115, 116, 114, 105, 110, 103, 45, 108, 101, 110, 103, 116, 104] false (by rw [hn]; rfl)
      have f10 := hq [110, 111, 114, 109, 97, 108, 105, 122, 101, 45, 115, 112, 97, 99, 101] false (by rw [hn]; rfl)
      have f11 := hq [110, 117, 109, 98, 101, 114] false (by rw [hn]; rfl)
      have f12 := hq [99, 111, 117, 110, 116] false (by rw [hn]; rfl)
      have f13 := hq [105, 100] false (by rw [hn]; rfl)
      have f14 := hq [98, 111, 111, 108, 101, 97, 110] false (by rw [hn]; rfl)
      have f15 := hq [110, 111, 116] false (by rw [hn]; rfl)
      have f16 := hq [108, 97, 110, 103] false (by rw [hn]; rfl)
      have f17 := hq [115, 117, 109] false (by rw [hn]; rfl)
      have f18 := hq [102, 108, 111, 111, 114] false (by rw [hn]; rfl)
      have f19 := hq [99, 101, 105, 108, 105, 110, 103] true (by rw [hn]; rfl)
      clear hn hq hR
      go_enter Tryz.func142, Tryz.ntmps142
      go_wp2_with fail
      exact bodyPost_ret (results_tmp3 rfl _ _ _) rfl ⟨rfl, Ext.refl _⟩
    · have hR : argsR n = .tuple #[.int .i64 1, .int .i64 1, .bool true] := by rw [hn]; rfl
      rw [hR]
      have f0 := hq [108, 97, 115, 116] false (by rw [hn]; rfl)
      have f1 := hq [112, 111, 115, 105, 116, 105, 111, 110] false (by rw [hn]; rfl)
      have f2 := hq [116, 114, 117, 101] false (by rw [hn]; rfl)
      have f3 := hq [102, 97, 108, 115, 101] false (by rw [hn]; rfl)
      have f4 := hq [118, 101, 114, 115, 105, 111, 110] false (by rw [hn]; rfl)
      have f5 := hq [108, 111, 99, 97, 108, 45, 110, 97, 109, 101] false (by rw [hn]; rfl)
      have f6 := hq [110, 97, 109, 101, 115, 112, 97, 99, 101, 45, 117, 114, 105] false (by rw [hn]; rfl)
      have f7 := hq [110, 97, 109, 101] false (by rw [hn]; rfl)
      have f8 := hq [115, 116, 114, 105, 110, 103] false (by rw [hn]; rfl)
      have f9 := hq [115, 116, 114, 105, 110, 103, 45, 108, 101, 110, 103, 116, 104] false (by rw [hn]; rfl)
      have f10 := hq [110, 111, 114, 109, 97, 108, 105, 122, 101, 45, 115, 112, 97, 99, 101] false (by rw [hn]; rfl)
      have f11 := hq [110, 117, 109, 98, 101, 114] false (by rw [hn]; rfl)
      have f12 := hq [99, 111, 117, 110, 116] false (by rw [hn]; rfl)
      have f13 := hq [105, 100] false (by rw [hn]; rfl)
      have f14 := hq [98, 111, 111, 108, 101, 97, 110] false (by rw [hn]; rfl)
      have f15 := hq [110, 111, 116] false (by rw [hn]; rfl)
      have f16 := hq [108, 97, 110, 103] false (by rw [hn]; rfl)
      have f17 := hq [115, 117, 109] false (by rw [hn]; rfl)
      have f18 := hq [102, 108, 111, 111, 114] false (by rw [hn]; rfl)
      have f19 := hq [99, 101, 105, 108, 105, 110, 103] false (by rw [hn]; rfl)
      have f20 := hq [114, 111, 117, 110, 100] true (by rw [hn]; rfl)
      clear hn hq hR
      go_enter Tryz.func142, Tryz.ntmps142
      go_wp2_with fail
      exact bodyPost_ret (results_tmp3 rfl _ _ _) rfl ⟨rfl, Ext.refl _⟩
    · have hR : argsR n = .tuple #[.int .i64 2, .int .i64 2, .bool true] := by rw [hn]; rfl
      rw [hR]
      have f0 := hq [108, 97, 115, 116] false (by rw [hn]; rfl)
      have f1 := hq [112, 111, 115, 105, 116, 105, 111, 110] false (by rw [hn]; rfl)
      have f2 := hq [116, 114, 117, 101] false (by rw [hn]; rfl)
      have f3 := hq [102, 97, 108, 115, 101] false (by rw [hn]; rfl)
      have f4 := hq [118, 101, 114, 115, 105, 111, 110] false (by rw [hn]; rfl)
      have f5 := hq [108, 111, 99, 97, 108, 45, 110, 97, 109, 101] false (by rw [hn]; rfl)
      have f6 := hq [110, 97, 109, 101, 115, 112, 97, 99, 101, 45, 117, 114, 105] false (by rw [hn]; rfl)
      have f7 := hq [110, 97, 109, 101] false (by rw [hn]; rfl)
      have f8 := hq [115, 116, 114, 105, 110, 103] false (by rw [hn]; rfl)
      have f9 := hq [115, 116, 114, 105, 110, 103, 45, 108, 101, 110, 103, 116, 104] false (by rw [hn]; rfl)
      have f10 := hq [110, 111, 114, 109, 97, 108, 105, 122, 101, 45, 115, 112, 97, 99, 101] false (by rw [hn]; rfl)
      have f11 := hq [110, 117, 109, 98, 101, 114] false (by rw [hn]; rfl)
      have f12 := hq [99, 111, 117, 110, 116] false (by rw [hn]; rfl)
      have f13 := hq [105, 100] false (by rw [hn]; rfl)
      have f14 := hq [98, 111, 111, 108, 101, 97, 110] false (by rw [hn]; rfl)
      have f15 := hq [110, 111, 116] false (by rw [hn]; rfl)
      have f16 := hq [108, 97, 110, 103] false (by rw [hn]; rfl)
      have f17 := hq [115, 117, 109] false (by rw [hn]; rfl)
      have f18 := hq [102, 108, 111, 111, 114] false (by rw [hn]; rfl)
      have f19 := hq [99, 101, 105, 108, 105, 110, 103] false (by rw [hn]; rfl)
      have f20 := hq [114, 111, 117, 110, 100] false (by rw [hn]; rfl)
      have f21 := hq [115, 116, 97, 114, 116, 115, 45, 119, 105, 116, 104] true (by rw [hn]; rfl)
      clear hn hq hR
      go_enter Tryz.func142, Tryz.ntmps142
      go_wp2_with fail
      exact bodyPost_ret (results_tmp3 rfl _ _ _) rfl ⟨rfl, Ext.refl _⟩
    · have hR : argsR n = .tuple #[.int .i64 2, .int .i64 2, .bool true] := by rw [hn]; rfl
      rw [hR]
      have f0 := hq [108, 97, 115, 116] false (by rw [hn]; rfl)
      have f1 := hq [112, 111, 115, 105, 116, 105, 111, 110] false (by rw [hn]; rfl)
      have f2 := hq [116, 114, 117, 101] false (by rw [hn]; rfl)
      have f3 := hq [102, 97, 108, 115, 101] false (by rw [hn]; rfl)
      have f4 := hq [118, 101, 114, 115, 105, 111, 110] false (by rw [hn]; rfl)
      have f5 := hq [108, 111, 99, 97, 108, 45, 110, 97, 109, 101] false (by rw [hn]; rfl)
      have f6 := hq [110, 97, 109, 101, 115, 112, 97, 99, 101, 45, 117, 114, 105] false (by rw [hn]; rfl)
      have f7 := hq [110, 97, 109, 101] false (by rw [hn]; rfl)
      have f8 := hq [115, 116, 114, 105, 110, 103] false (by rw [hn]; rfl)
      have f9 := hq [115, 116, 114, 105, 110, 103, 45, 108, 101, 110, 103, 116, 104] false (by rw [hn]; rfl)
      have f10 := hq [110, 111, 114, 109, 97, 108, 105, 122, 101, 45, 115, 112, 97, 99, 101] false (by rw [hn]; rfl)
      have f11 := hq [110, 117, 109, 98, 101, 114] false (by rw [hn]; rfl)
      have f12 := hq [99, 111, 117, 110, 116] false (by rw [hn]; rfl)
      have f13 := hq [105, 100] false (by rw [hn]; rfl)
      have f14 := hq [98, 111, 111, 108, 101, 97, 110] false (by rw [hn]; rfl)
      have f15 := hq [110, 111, 116] false (by rw [hn]; rfl)
      have f16 := hq [108, 97, 110, 103] false (by rw [hn]; rfl)
      have f17 := hq [115, 117, 109] false (by rw [hn]; rfl)
      have f18 := hq [102, 108, 111, 111, 114] false (by rw [hn]; rfl)
      have f19 := hq [99, 101, 105, 108, 105, 110, 103] false (by rw [hn]; rfl)
      have f20 := hq [114, 111, 117, 110, 100] false (by rw [hn]; rfl)
      have f21 := hq [115, 116, 97, 114, 116, 115, 45, 119, 105, 116, 104] false (by rw [hn]; rfl)
      have f22 := hq [99, 111, 110, 116, 97, 105, 110, 115] true (by rw [hn]; rfl)
      clear hn hq hR
      go_enter Tryz.func142, Tryz.ntmps142
      go_wp2_with fail
      exact bodyPost_ret (results_tmp3 rfl _ _ _) rfl ⟨rfl, Ext.refl _⟩
    · have hR : argsR n = .tuple #[.int .i64 2, .int .i64 2, .bool true] := by rw [hn]; rfl
      rw [hR]
      have f0 := hq [108, 97, 115, 116] false (by rw [hn]; rfl)
      have f1 := hq [112, 111, 115, 105, 116, 105, 111, 110] false (by rw [hn]; rfl)
      have f2 := hq [116, 114, 117, 101] false (by rw [hn]; rfl)
      have f3 := hq [102, 97, 108, 115, 101] false (by rw [hn]; rfl)
      have f4 := hq [118, 101, 114, 115, 105, 111, 110] false (by rw [hn]; rfl)
      have f5 := hq [108, 111, 99, 97, 108, 45, 110, 97, 109, 101] false (by rw [hn]; rfl)
      have f6 := hq [110, 97, 109, 101, 115, 112, 97, 99, 101, 45, 117, 114, 105] false (by rw [hn]; rfl)
      have f7 := hq [110, 97, 109, 101] false (by rw [hn]; rfl)
      have f8 := hq [115, 116, 114, 105, 110, 103] false (by rw [hn]; rfl)
      have f9 := hq [115, 116, 114, 105, 110, 103, 45, 108, 101, 110, 103, 116, 104] false (by rw [hn]; rfl)
      have f10 := hq [110, 111, 114, 109, 97, 108, 105, 122, 101, 45, 115, 112, 97, 99, 101] false (by rw [hn]; rfl)
      have f11 := hq [110, 117, 109, 98, 101, 114] false (by rw [hn]; rfl)
      have f12 := hq [99, 111, 117, 110, 116] false (by rw [hn]; rfl)
      have f13 := hq [105, 100] false (by rw [hn]; rfl)
      have f14 := hq [98, 111, 111, 108, 101, 97, 110] false (by rw [hn]; rfl)
      have f15 := hq [110, 111, 116] false (by rw [hn]; rfl)
      have f16 := hq [108, 97, 110, 103] false (by rw [hn]; rfl)
      have f17 := hq [115, 117, 109] false (by rw [hn]; rfl)
      have f18 := hq [102, 108, 111, 111, 114] false (by rw [hn]; rfl)
      have f19 := hq [99, 101, 105, 108, 105, 110, 103] false (by rw [hn]; rfl)
      have f20 := hq [114, 111, 117, 110, 100] false (by rw [hn]; rfl)
      have f21 := hq [115, 116, 97, 114, 116, 115, 45, 119, 105, 116, 104] false (by rw [hn]; rfl)
      have f22 := hq [99, 111, 110, 116, 97, 105, 110, 115] false (by rw [hn]; rfl)
      have f23 := hq [115, 117, 98, 115, 116, 114, 105, 110, 103, 45, 98, 101, 102, 111, 114, 101] true (by rw [hn]; rfl)
      clear hn hq hR
      go_enter Tryz.func142, Tryz.ntmps142
      go_wp2_with fail
      exact bodyPost_ret (results_tmp3 rfl _ _ _) rfl ⟨rfl, Ext.refl _⟩
    · have hR : argsR n = .tuple #[.int .i64 2, .int .i64 2, .bool true] := by rw [hn]; rfl
      rw [hR]
      have f0 := hq [108, 97, 115, 116] false (by rw [hn]; rfl)
      have f1 := hq [112, 111, 115, 105, 116, 105, 111, 110] false (by rw [hn]; rfl)
      have f2 := hq [116, 114, 117, 101] false (by rw [hn]; rfl)
      have f3 := hq [102, 97, 108, 115, 101] false (by rw [hn]; rfl)
      have f4 := hq [118, 101, 114, 115, 105, 111, 110] false (by rw [hn]; rfl)
      have f5 := hq [108, 111, 99, 97, 108, 45, 110, 97, 109, 101] false (by rw [hn]; rfl)
      have f6 := hq [110, 97, 109, 101, 115, 112, 97, 99, 101, 45, 117, 114, 105] false (by rw [hn]; rfl)
      have f7 := hq [110, 97, 109, 101] false (by rw [hn]; rfl)
      have f8 := hq [115, 116, 114, 105, 110, 103] false (by rw [hn]; rfl)
      have f9 := hq [115, 116, 114, 105, 110, 103, 45, 108, 101, 110, 103, 116, 104] false (by rw [hn]; rfl)
      have f10 := hq [110, 111, 114, 109, 97, 108, 105, 122, 101, 45, 115, 112, 97, 99, 101] false (by rw [hn]; rfl)
      have f11 := hq [110, 117, 109, 98, 101, 114] false (by rw [hn]; rfl)
      have f12 := hq [99, 111, 117, 110, 116] false (by rw [hn]; rfl)
      have f13 := hq [105, 100] false (by rw [hn]; rfl)
      have f14 := hq [98, 111, 111, 108, 101, 97, 110] false (by rw [hn]; rfl)
      have f15 := hq [110, 111, 116] false (by rw [hn]; rfl)
      have f16 := hq [108, 97, 110, 103] false (by rw [hn]; rfl)
      have f17 := hq [115, 117, 109] false (by rw [hn]; rfl)
      have f18 := hq [102, 108, 111, 111, 114] false (by rw [hn]; rfl)
      have f19 := hq [99, 101, 105, 108, 105, 110, 103] false (by rw [hn]; rfl)
      have f20 := hq [114, 111, 117, 110, 100] false (by rw [hn]; rfl)
      have f21 := hq [115, 116, 97, 114, 116, 115, 45, 119, 105, 116, 104] false (by rw [hn]; rfl)
      have f22 := hq [99, 111, 110, 116, 97, 105, 110, 115] false (by rw [hn]; rfl)
      have f23 := hq [115, 117, 98, 115, 116, 114, 105, 110, 103, 45, 98, 101, 102, 111, 114, 101] false (by rw [hn]; rfl)
      have f24 := hq [115, 117, 98, 115, 116, 114, 105, 110, 103, 45, 97, 102, 116, 101, 114] true (by rw [hn]; rfl)
      clear hn hq hR
      go_enter Tryz.func142, Tryz.ntmps142
      go_wp2_with fail
      exact bodyPost_ret (results_tmp3 rfl _ _ _) rfl ⟨rfl, Ext.refl _⟩
    · have hR : argsR n = .tuple #[.int .i64 2, .int .i64 3, .bool true] := by rw [hn]; rfl
      rw [hR]
      have f0 := hq [108, 97, 115, 116] false (by rw [hn]; rfl)
      have f1 := hq [112, 111, 115, 105, 116, 105, 111, 110] false (by rw [hn]; rfl)
      have f2 := hq [116, 114, 117, 101] false (by rw [hn]; rfl)
      have f3 := hq [102, 97, 108, 115, 101] false (by rw [hn]; rfl)
      have f4 := hq [118, 101, 114, 115, 105, 111, 110] false (by rw [hn]; rfl)
      have f5 := hq [108, 111, 99, 97, 108, 45, 110, 97, 109, 101] false (by rw [hn]; rfl)
      have f6 := hq [110, 97, 109, 101, 115, 112, 97, 99, 101, 45, 117, 114, 105] false (by rw [hn]; rfl)
      have f7 := hq [110, 97, 109, 101] false (by rw [hn]; rfl)
      have f8 := hq [115, 116, 114, 105, 110, 103] false (by rw [hn]; rfl)
      have f9 := hq [115, 116, 114, 105, 110, 103, 45, 108, 101, 110, 103, 116, 104] false (by rw [hn]; rfl)
      have f10 := hq [110, 111, 114, 109, 97, 108, 105, 122, 101, 45, 115, 112, 97, 99, 101] false (by rw [hn]; rfl)
      have f11 := hq [110, 117, 109, 98, 101, 114] false (by rw [hn]; rfl)
      have f12 := hq [99, 111, 117, 110, 116] false (by rw [hn]; rfl)
      have f13 := hq [105, 100] false (by rw [hn]; rfl)
      have f14 := hq [98, 111, 111, 108, 101, 97, 110] false (by rw [hn]; rfl)
      have f15 := hq [110, 111, 116] false (by rw [hn]; rfl)
      have f16 := hq [108, 97, 110, 103] false (by rw [hn]; rfl)
      have f17 := hq [115, 117, 109] false (by rw [hn]; rfl)
      have f18 := hq [102, 108, 111, 111, 114] false (by rw [hn]; rfl)
      have f19 := hq [99, 101, 105, 108, 105, 110, 103] false (by rw [hn]; rfl)
      have f20 := hq [114, 111, 117, 110, 100] false (by rw [hn]; rfl)
      have f21 := hq [115, 116, 97, 114, 116, 115, 45, 119, 105, 116, 104] false (by rw [hn]; rfl)
      have f22 := hq [99, 111, 110, 116, 97, 105, 110, 115] false (by rw [hn]; rfl)
      have f23 := hq [115, 117, 98, 115, 116, 114, 105, 110, 103, 45, 98, 101, 102, 111, 114, 101] false (by rw [hn]; rfl)
      have f24 := hq [115, 117, 98, 115, 116, 114, 105, 110, 103, 45, 97, 102, 116, 101, 114] false (by rw [hn]; rfl)
      have f25 := hq [115, 117, 98, 115, 116, 114, 105, 110, 103] true (by rw [hn]; rfl)
      clear hn hq hR
      go_enter Tryz.func142, Tryz.ntmps142
      go_wp2_with fail
      exact bodyPost_ret (results_tmp3 rfl _ _ _) rfl ⟨rfl, Ext.refl _⟩
    · have hR : argsR n = .tuple #[.int .i64 3, .int .i64 3, .bool true] := by rw [hn]; rfl
      rw [hR]
      have f0 := hq [108, 97, 115, 116] false (by rw [hn]; rfl)
      have f1 := hq [112, 111, 115, 105, 116, 105, 111, 110] false (by rw [hn]; rfl)
      have f2 := hq [116, 114, 117, 101] false (by rw [hn]; rfl)
      have f3 := hq [102, 97, 108, 115, 101] false (by rw [hn]; rfl)
      have f4 := hq [118, 101, 114, 115, 105, 111, 110] false (by rw [hn]; rfl)
      have f5 := hq [108, 111, 99, 97, 108, 45, 110, 97, 109, 101] false (by rw [hn]; rfl)
      have f6 := hq [110, 97, 109, 101, 115, 112, 97, 99, 101, 45, 117, 114, 105] false (by rw [hn]; rfl)
      have f7 := hq [110, 97, 109, 101] false (by rw [hn]; rfl)
      have f8 := hq [115, 116, 114, 105, 110, 103] false (by rw [hn]; rfl)
      have f9 := hq [115, 116, 114, 105, 110, 103, 45, 108, 101, 110, 103, 116, 104] false (by rw [hn]; rfl)
      have f10 := hq [110, 111, 114, 109, 97, 108, 105, 122, 101, 45, 115, 112, 97, 99, 101] false (by rw [hn]; rfl)
      have f11 := hq [110, 117, 109, 98, 101, 114] false (by rw [hn]; rfl)
      have f12 := hq [99, 111, 117, 110, 116] false (by rw [hn]; rfl)
      have f13 := hq [105, 100] false (by rw [hn]; rfl)
      have f14 := hq [98, 111, 111, 108, 101, 97, 110] false (by rw [hn]; rfl)
      have f15 := hq [110, 111, 116] false (by rw [hn]; rfl)
      have f16 := hq [108, 97, 110, 103] false (by rw [hn]; rfl)
      have f17 := hq [115, 117, 109] false (by rw [hn]; rfl)
      have f18 := hq [102, 108, 111, 111, 114] false (by rw [hn]; rfl)
      have f19 := hq [99, 101, 105, 108, 105, 110, 103] false (by rw [hn]; rfl)
      have f20 := hq [114, 111, 117, 110, 100] false (by rw [hn]; rfl)
      have f21 := hq [115, 116, 97, 114, 116, 115, 45, 119, 105, 116, 104] false (by rw [hn]; rfl)
      have f22 := hq [99, 111, 110, 116, 97, 105, 110, 115] false (by rw [hn]; rfl)
      have f23 := hq [115, 117, 98, 115, 116, 114, 105, 110, 103, 45, 98, 101, 102, 111, 114, 101] false (by rw [hn]; rfl)
      have f24 := hq [115, 117, 98, 115, 116, 114, 105, 110, 103, 45, 97, 102, 116, 101, 114] false (by rw [hn]; rfl)
      have f25 := hq [115, 117, 98, 115, 116, 114, 105, 110, 103] false (by rw [hn]; rfl)
      have f26 := hq [116, 114, 97, 110, 115, 108, 97, 116, 101] true (by rw [hn]; rfl)
      clear hn hq hR
      go_enter Tryz.func142, Tryz.ntmps142
      go_wp2_with fail
      exact bodyPost_ret (results_tmp3 rfl _ _ _) rfl ⟨rfl, Ext.refl _⟩
    · have hR : argsR n = .tuple #[.int .i64 2, .int .i64 1000, .bool true] := by rw [hn]; rfl
      rw [hR]
      have f0 := hq [108, 97, 115, 116] false (by rw [hn]; rfl)
      have f1 := hq [112, 111, 115, 105, 116, 105, 111, 110] false (by rw [hn]; rfl)
      have f2 := hq [116, 114, 117, 101] false (by rw [hn]; rfl)
      have f3 := hq [102, 97, 108, 115, 101] false (by rw [hn]; rfl)
      have f4 := hq [118, 101, 114, 115, 105, 111, 110] false (by rw [hn]; rfl)
      have f5 := hq [108, 111, 99, 97, 108, 45, 110, 97, 109, 101] false (by rw [hn]; rfl)
      have f6 := hq [110, 97, 109, 101, 115, 112, 97, 99, 101, 45, 117, 114, 105] false (by rw [hn]; rfl)
      have f7 := hq [110, 97, 109, 101] false (by rw [hn]; rfl)
      have f8 := hq [115, 116, 114, 105, 110, 103] false (by rw [hn]; rfl)
      have f9 := hq [115, 116, 114, 105, 110, 103, 45, 108, 101, 110, 103, 116, 104] false (by rw [hn]; rfl)
      have f10 := hq [110, 111, 114, 109, 97, 108, 105, 122, 101, 45, 115, 112, 97, 99, 101] false (by rw [hn]; rfl)
      have f11 := hq [110, 117, 109, 98, 101, 114] false (by rw [hn]; rfl)
      have f12 := hq [99, 111, 117, 110, 116] false (by rw [hn]; rfl)
      have f13 := hq [105, 100] false (by rw [hn]; rfl)
      have f14 := hq [98, 111, 111, 108, 101, 97, 110] false (by rw [hn]; rfl)
      have f15 := hq [110, 111, 116] false (by rw [hn]; rfl)
      have f16 := hq [108, 97, 110, 103] false (by rw [hn]; rfl)
      have f17 := hq [115, 117, 109] false (by rw [hn]; rfl)
      have f18 := hq [102, 108, 111, 111, 114] false (by rw [hn]; rfl)
      have f19 := hq [99, 101, 105, 108, 105, 110, 103] false (by rw [hn]; rfl)
      have f20 := hq [114, 111, 117, 110, 100] false (by rw [hn]; rfl)
      have f21 := hq [115, 116, 97, 114, 116, 115, 45, 119, 105, 116, 104] false (by rw [hn]; rfl)
      have f22 := hq [99, 111, 110, 116, 97, 105, 110, 115] false (by rw [hn]; rfl)
      have f23 := hq [115, 117, 98, 115, 116, 114, 105, 110, 103, 45, 98, 101, 102, 111, 114, 101] false (by rw [hn]; rfl)
      have f24 := hq [115, 117, 98, 115, 116, 114, 105, 110, 103, 45, 97, 102, 116, 101, 114] false (by rw [hn]; rfl)
      have f25 := hq [115, 117, 98, 115, 116, 114, 105, 110, 103] false (by rw [hn]; rfl)
      have f26 := hq [116, 114, 97, 110, 115, 108, 97, 116, 101] false (by rw [hn]; rfl)
      have f27 := hq [99, 111, 110, 99, 97, 116] true (by rw [hn]; rfl)
      clear hn hq hR
      go_enter Tryz.func142, Tryz.ntmps142
      go_wp2_with fail
      exact bodyPost_ret (results_tmp3 rfl _ _ _) rfl ⟨rfl, Ext.refl _⟩
  · have hR : argsR n = .tuple #[.int .i64 0, .int .i64 0, .bool false] := by unfold argsR; rw [argsS_none n hn]
    rw [hR]
    unfold argNames at hn
    simp only [List.mem_cons, List.not_mem_nil, or_false, not_or] at hn
    have hq : ∀ t : List UInt8, ¬ n = t → ((bs n).toList == t) = false := fun t h => by rw [bs_toList, beq_eq_false_iff_ne]; exact h
    obtain ⟨h0, h1, h2, h3, h4, h5, h6, h7, h8, h9, h10, h11, h12, h13, h14, h15, h16, h17, h18, h19, h20, h21, h22, h23, h24, h25, h26, h27⟩ := hn
    replace h0 := hq [108, 97, 115, 116] h0
    replace h1 := hq [112, 111, 115, 105, 116, 105, 111, 110] h1
    replace h2 := hq [116, 114, 117, 101] h2
    replace h3 := hq [102, 97, 108, 115, 101] h3
    replace h4 := hq [118, 101, 114, 115, 105, 111, 110] h4
    replace h5 := hq [108, 111, 99, 97, 108, 45, 110, 97, 109, 101] h5
    replace h6 := hq [110, 97, 109, 101, 115, 112, 97, 99, 101, 45, 117, 114, 105] h6
    replace h7 := hq [110, 97, 109, 101] h7
    replace h8 := hq [115, 116, 114, 105, 110, 103] h8
    replace h9 := hq [115, 116, 114, 105, 110, 103, 45, 108, 101, 110, 103, 116, 104] h9
    replace h10 := hq [110, 111, 114, 109, 97, 108, 105, 122, 101, 45, 115, 112, 97, 99, 101] h10
    replace h11 := hq [110, 117, 109, 98, 101, 114] h11
    replace h12 := hq [99, 111, 117, 110, 116] h12
    replace h13 := hq [105, 100] h13
    replace h14 := hq [98, 111, 111, 108, 101, 97, 110] h14
    replace h15 := hq [110, 111, 116] h15
    replace h16 := hq [108, 97, 110, 103] h16
    replace h17 := hq [115, 117, 109] h17
    replace h18 := hq [102, 108, 111, 111, 114] h18
    replace h19 := hq [99, 101, 105, 108, 105, 110, 103] h19
    replace h20 := hq [114, 111, 117, 110, 100] h20
    replace h21 := hq [115, 116, 97, 114, 116, 115, 45, 119, 105, 116, 104] h21
    replace h22 := hq [99, 111, 110, 116, 97, 105, 110, 115] h22
    replace h23 := hq [115, 117, 98, 115, 116, 114, 105, 110, 103, 45, 98, 101, 102, 111, 114, 101] h23
    replace h24 := hq [115, 117, 98, 115, 116, 114, 105, 110, 103, 45, 97, 102, 116, 101, 114] h24
    replace h25 := hq [115, 117, 98, 115, 116, 114, 105, 110, 103] h25
    replace h26 := hq [116, 114, 97, 110, 115, 108, 97, 116, 101] h26
    replace h27 := hq [99, 111, 110, 99, 97, 116] h27
    clear hq hR
    go_enter Tryz.func142, Tryz.ntmps142
    go_wp2_with fail
    refine bodyPost_ret (results_tmp3 rfl _ _ _) rfl ⟨rfl, Ext.refl _⟩

end Go.Proofs.YtfoclfefjcnllaaGreatDoor

/-
  The parser's tables. Helper lemmas; no statement of the seat is proved here.
-/
namespace Go.Proofs.YtfoclfefjcnllaaGreatDoor
open Go.RowKit
set_option maxRecDepth 100000
set_option linter.unusedVariables false
set_option linter.unusedSimpArgs false

theorem deep_any (w : World) : Calls Tryz.prog 128 #[] w fun e w' => e = .returned (.agg #[.string (bs deepS.axis), .string (bs deepS.test), .string (bs []), .slice none 0 0]) ∧ Ext w w' := by
  obtain ⟨wz, hwz⟩ : ∃ W, w.alloc (.cells #[.string ⟨#[100, 101, 115, 99, 101, 110, 100, 97, 110, 116, 45, 111, 114, 45, 115, 101, 108, 102]⟩, .string ⟨#[110, 111, 100, 101]⟩, .string ⟨#[]⟩, .slice none 0 0] 62) = W := ⟨_, rfl⟩
  have hblk : wz.heap[w.heap.size]? = some (.cells #[.string ⟨#[100, 101, 115, 99, 101, 110, 100, 97, 110, 116, 45, 111, 114, 45, 115, 101, 108, 102]⟩, .string ⟨#[110, 111, 100, 101]⟩, .string ⟨#[]⟩, .slice none 0 0] 62) := by rw [← hwz]; exact Array.getElem?_push_size
  have HB := Lib.hid (show Ext w wz by rw [← hwz]; exact (Ext.refl w).alloc _)
  have HC := Lib.hid hblk
  have HW := Lib.hid hwz
  clear hblk hwz
  go_enter Tryz.func128, Tryz.ntmps128
  go_wp2_with fail
  rw [HW.out]
  exact bodyPost_ret (results_cell_row rfl _ _ w.heap.size 62 _ (0, 0) _ rfl HC.out Tryz.underlying62 rfl (by kernel_rfl)) rfl ⟨rfl, HB.out⟩
theorem axis_any (n : List UInt8) (w : World) (htab : Lib.TabIs Tryz.prog w "strings.asciiSpace" .u8 Lib.asciiSpaceTab) : Calls Tryz.prog 133 #[.string (bs n)] w fun e w' => e = .returned (.bool (axesS.contains n)) ∧ Ext w w' := by
  have HF := Lib.hid (Tryz.strings_Fields ⟨#[97, 110, 99, 101, 115, 116, 111, 114, 32, 97, 110, 99, 101, 115, 116, 111, 114, 45, 111, 114, 45, 115, 101, 108, 102, 32, 97, 116, 116, 114, 105, 98, 117, 116, 101, 32, 99, 104, 105, 108, 100, 32, 100, 101, 115, 99, 101, 110, 100, 97, 110, 116, 32, 100, 101, 115, 99, 101, 110, 100, 97, 110, 116, 45, 111, 114, 45, 115, 101, 108, 102, 32, 102, 111, 108, 108, 111, 119, 105, 110, 103, 32, 102, 111, 108, 108, 111, 119, 105, 110, 103, 45, 115, 105, 98, 108, 105, 110, 103, 32, 110, 97, 109, 101, 115, 112, 97, 99, 101, 32, 112, 97, 114, 101, 110, 116, 32, 112, 114, 101, 99, 101, 100, 105, 110, 103, 32, 112, 114, 101, 99, 101, 100, 105, 110, 103, 45, 115, 105, 98, 108, 105, 110, 103, 32, 115, 101, 108, 102]⟩ w (by decide) (ascii_of_all (by decide)) htab)
  have e : Lib.fields (ByteArray.mk #[97, 110, 99, 101, 115, 116, 111, 114, 32, 97, 110, 99, 101, 115, 116, 111, 114, 45, 111, 114, 45, 115, 101, 108, 102, 32, 97, 116, 116, 114, 105, 98, 117, 116, 101, 32, 99, 104, 105, 108, 100, 32, 100, 101, 115, 99, 101, 110, 100, 97, 110, 116, 32, 100, 101, 115, 99, 101, 110, 100, 97, 110, 116, 45, 111, 114, 45, 115, 101, 108, 102, 32, 102, 111, 108, 108, 111, 119, 105, 110, 103, 32, 102, 111, 108, 108, 111, 119, 105, 110, 103, 45, 115, 105, 98, 108, 105, 110, 103, 32, 110, 97, 109, 101, 115, 112, 97, 99, 101, 32, 112, 97, 114, 101, 110, 116, 32, 112, 114, 101, 99, 101, 100, 105, 110, 103, 32, 112, 114, 101, 99, 101, 100, 105, 110, 103, 45, 115, 105, 98, 108, 105, 110, 103, 32, 115, 101, 108, 102]).data.toList = axesS := by kernel_rfl
  rw [e] at HF
  have hR := rep_strs w axesS ((axesS.map fun l => Value.string ⟨l.toArray⟩).toArray) 9 rfl 13 rfl (by decide) (by decide)
  have HC := Lib.hid (conts_any axesS (by decide) n _ _ _ (by decide) hR)
  obtain ⟨B, hB⟩ : ∃ B, axesS.contains n = B := ⟨_, rfl⟩
  rw [hB] at HC ⊢
  clear hR hB htab e
  obtain ⟨W1, hW1⟩ : ∃ W, w.alloc (.cells ((axesS.map fun l => Value.string ⟨l.toArray⟩).toArray) 9) = W := ⟨_, rfl⟩
  rw [hW1] at HC HF
  have HE := Lib.hid (show Ext w W1 by rw [← hW1]; exact (Ext.refl w).alloc _)
  clear hW1
  go_enter Tryz.func133, Tryz.ntmps133
  go_wp2_with fail
  refine HF.out.mono ?_
  rintro e w1 ⟨rfl, rfl⟩
  go_wp2_with fail
  refine HC.out.mono ?_
  rintro e w2 ⟨rfl, hX⟩
  go_wp2_with fail
  go_ret
  exact ⟨rfl, HE.out.trans hX⟩

end Go.Proofs.YtfoclfefjcnllaaGreatDoor

/-
  The parser's looks ahead. Helper lemmas; no statement of the seat is proved here.
-/
namespace Go.Proofs.YtfoclfefjcnllaaGreatDoor
open Go.RowKit
set_option maxRecDepth 100000
set_option linter.unusedVariables false
set_option linter.unusedSimpArgs false

theorem eqI (k : Nat) (n : Nat) (b : Bool) (h : (n == k) = b) : ((n : Int) == (k : Int)) = b := by rw [← h, Bool.eq_iff_iff, beq_iff_eq, beq_iff_eq]; exact Int.ofNat_inj
set_option maxHeartbeats 4000000 in
theorem primary_any (g : Nat) (W : World) (ts : List QT) (en i nst : Nat) (hT : TsOk ts en) (h : PS g W ts en i nst) :
    Calls Tryz.prog 115 #[.pointer (some ⟨g, 0, none⟩)] W fun e w' => e = .returned (.bool (primaryP ts en i)) ∧ Ext W w' := by
  have HC := Lib.hid (tok_any g W ts en i nst hT h)
  have HI := Lib.hid fun w h => is_any g w ts en i nst hT h 6 [40]
  have HP := Lib.hid h
  unfold primaryP
  obtain ⟨B, hB⟩ : ∃ b, isP ts en i 6 [40] = b := ⟨_, rfl⟩
  rw [hB] at HI ⊢
  obtain ⟨x, hx⟩ : ∃ x, tokP ts en i = x := ⟨_, rfl⟩
  rw [hx] at HC ⊢
  obtain ⟨R, hR⟩ : ∃ R, (if x.kind = 7 ∨ x.kind = 8 ∨ x.kind = 9 ∨ x.kind = 2 then true else B) = R := ⟨_, rfl⟩
  rw [hR]
  have HR := Lib.hid hR
  unfold tokV at HC
  clear h hT hx hB hR
  obtain ⟨b7, h7⟩ : ∃ b, (x.kind == 7) = b := ⟨_, rfl⟩
  obtain ⟨b8, h8⟩ : ∃ b, (x.kind == 8) = b := ⟨_, rfl⟩
  obtain ⟨b9, h9⟩ : ∃ b, (x.kind == 9) = b := ⟨_, rfl⟩
  obtain ⟨b2, h2⟩ : ∃ b, (x.kind == 2) = b := ⟨_, rfl⟩
  have q7 : ((x.kind : Int) == 7) = b7 := eqI 7 _ _ h7
  have q8 : ((x.kind : Int) == 8) = b8 := eqI 8 _ _ h8
  have q9 : ((x.kind : Int) == 9) = b9 := eqI 9 _ _ h9
  have q2 : ((x.kind : Int) == 2) = b2 := eqI 2 _ _ h2
  have HS := Lib.hid (show (b7 || b8 || b9 || b2 || B) = R by
    rw [← HR.out, ← h7, ← h8, ← h9, ← h2]
    by_cases e7 : x.kind = 7
    · simp [e7]
    · by_cases e8 : x.kind = 8
      · simp [e8]
      · by_cases e9 : x.kind = 9
        · simp [e9]
        · by_cases e2 : x.kind = 2
          · simp [e2]
          · simp [e7, e8, e9, e2])
  clear HR h7 h8 h9 h2
  go_enter Tryz.func115, Tryz.ntmps115
  go_wp2_with fail
  refine HC.out.mono ?_
  rintro e w1 ⟨rfl, hX⟩
  have HX := Lib.hid hX
  clear hX HC
  cases b7 with
  | true =>
    obtain rfl : true = R := by rw [← HS.out]; rfl
    go_wp2_with fail
    go_ret
    exact ⟨rfl, HX.out.alloc _⟩
  | false =>
    cases b8 with
    | true =>
      obtain rfl : true = R := by rw [← HS.out]; rfl
      go_wp2_with fail
      go_ret
      exact ⟨rfl, HX.out.alloc _⟩
    | false =>
      cases b9 with
      | true =>
        obtain rfl : true = R := by rw [← HS.out]; rfl
        go_wp2_with fail
        go_ret
        exact ⟨rfl, HX.out.alloc _⟩
      | false =>
        cases b2 with
        | true =>
          obtain rfl : true = R := by rw [← HS.out]; rfl
          go_wp2_with fail
          go_ret
          exact ⟨rfl, HX.out.alloc _⟩
        | false =>
          obtain rfl : B = R := by rw [← HS.out]; rfl
          go_wp2_with fail
          refine (HI.out _ (HP.out.ext (HX.out.alloc _))).mono ?_
          rintro e w2 ⟨rfl, hX2⟩
          go_wp2_with fail
          go_ret
          exact ⟨rfl, (HX.out.alloc _).trans hX2⟩
set_option maxHeartbeats 4000000 in
theorem begins_tok_any (g : Nat) (W : World) (ts : List QT) (en i nst : Nat) (hT : TsOk ts en) (h : PS g W ts en i nst) :
    Calls Tryz.prog 119 #[.pointer (some ⟨g, 0, none⟩)] W fun e w' => e = .returned (.bool (beginsP ts en i)) ∧ Ext W w' := by
  have HC := Lib.hid (tok_any g W ts en i nst hT h)
  unfold beginsP
  obtain ⟨x, hx⟩ : ∃ x, tokP ts en i = x := ⟨_, rfl⟩
  rw [hx] at HC ⊢
  obtain ⟨R, hR⟩ : ∃ R, (if x.kind = 1 ∨ x.kind = 4 ∨ x.kind = 3 then true else if x.kind = 6 then x.text == [46] || x.text == [46, 46] || x.text == [64] else false) = R := ⟨_, rfl⟩
  rw [hR]
  have HR := Lib.hid hR
  unfold tokV at HC
  clear h hT hx hR
  obtain ⟨b1, h1⟩ : ∃ b, (x.kind == 1) = b := ⟨_, rfl⟩
  obtain ⟨b4, h4⟩ : ∃ b, (x.kind == 4) = b := ⟨_, rfl⟩
  obtain ⟨b3, h3⟩ : ∃ b, (x.kind == 3) = b := ⟨_, rfl⟩
  obtain ⟨b6, h6⟩ : ∃ b, (x.kind == 6) = b := ⟨_, rfl⟩
  obtain ⟨c1, k1⟩ : ∃ b, (x.text == [46]) = b := ⟨_, rfl⟩
  obtain ⟨c2, k2⟩ : ∃ b, (x.text == [46, 46]) = b := ⟨_, rfl⟩
  obtain ⟨c3, k3⟩ : ∃ b, (x.text == [64]) = b := ⟨_, rfl⟩
  have q1 : ((x.kind : Int) == 1) = b1 := eqI 1 _ _ h1
  have q4 : ((x.kind : Int) == 4) = b4 := eqI 4 _ _ h4
  have q3 : ((x.kind : Int) == 3) = b3 := eqI 3 _ _ h3
  have q6 : ((x.kind : Int) == 6) = b6 := eqI 6 _ _ h6
  have r1 : ((bs x.text).toList == [46]) = c1 := by rw [bs_toList]; exact k1
  have r2 : ((bs x.text).toList == [46, 46]) = c2 := by rw [bs_toList]; exact k2
  have r3 : ((bs x.text).toList == [64]) = c3 := by rw [bs_toList]; exact k3
  have HS := Lib.hid (show (b1 || b4 || b3 || (b6 && (c1 || c2 || c3))) = R by
    rw [← HR.out, ← h1, ← h4, ← h3, ← h6, ← k1, ← k2, ← k3]
    by_cases e1 : x.kind = 1
    · simp [e1]
    · by_cases e4 : x.kind = 4
      · simp [e4]
      · by_cases e3 : x.kind = 3
        · simp [e3]
        · by_cases e6 : x.kind = 6
          · simp [e6]
          · simp [e1, e4, e3, e6])
  clear HR h1 h4 h3 h6 k1 k2 k3
  go_enter Tryz.func119, Tryz.ntmps119
  go_wp2_with fail
  refine HC.out.mono ?_
  rintro e w1 ⟨rfl, hX⟩
  have HX := Lib.hid hX
  clear hX HC
  cases b1 with
  | true =>
    obtain rfl : true = R := by rw [← HS.out]; rfl
    go_wp2_with fail
    go_ret
    exact ⟨rfl, HX.out.alloc _⟩
  | false =>
    cases b4 with
    | true =>
      obtain rfl : true = R := by rw [← HS.out]; rfl
      go_wp2_with fail
      go_ret
      exact ⟨rfl, HX.out.alloc _⟩
    | false =>
      cases b3 with
      | true =>
        obtain rfl : true = R := by rw [← HS.out]; rfl
        go_wp2_with fail
        go_ret
        exact ⟨rfl, HX.out.alloc _⟩
      | false =>
        cases b6 with
        | true =>
          have HS := Lib.hid (show (c1 || c2 || c3) = R from HS.out)
          cases c1 <;> cases c2 <;> cases c3 <;> (go_wp2_with fail; go_ret; exact ⟨ret_bool HS.out, HX.out.alloc _⟩)
        | false =>
          obtain rfl : false = R := by rw [← HS.out]; rfl
          go_wp2_with fail
          go_ret
          exact ⟨rfl, HX.out.alloc _⟩
/-- What slash leaves: the steps that it is, in a row of the call's own. -/
def SlashV (base : Nat) (W : World) (o : Option (List St)) (v : Value) : Prop := ∃ sv, v = .tuple #[sv, .bool o.isSome] ∧ Own W (fun b => base ≤ b) base 62 4 sv (o.getD []).length ((o.getD []).flatMap stC)
set_option maxHeartbeats 8000000 in
theorem slash_any (g : Nat) (W : World) (ts : List QT) (en i nst : Nat) (hT : TsOk ts en) (h : PS g W ts en i nst) :
    Calls Tryz.prog 117 #[.pointer (some ⟨g, 0, none⟩)] W fun e w' => Gr g W w' ∧ PS g w' ts en (slashP ts en i).2 nst ∧ ∃ v, e = .returned v ∧ SlashV W.heap.size w' (slashP ts en i).1 v := by
  have HC := Lib.hid (take_any g W ts en i nst hT h 5 (by decide) [47])
  have HC2 := Lib.hid fun w h => take_any g w ts en i nst hT h 5 (by decide) [47, 47]
  unfold slashP
  obtain ⟨B, hB⟩ : ∃ b, isP ts en i 5 [47] = b := ⟨_, rfl⟩
  obtain ⟨B2, hB2⟩ : ∃ b, isP ts en i 5 [47, 47] = b := ⟨_, rfl⟩
  rw [hB] at HC ⊢
  rw [hB2] at HC2 ⊢
  clear h hT hB hB2
  go_enter Tryz.func117, Tryz.ntmps117
  go_wp2_with fail
  refine HC.out.mono ?_
  rintro e w1 ⟨rfl, hG, hP⟩
  have HX := Lib.hid (And.intro hG hP)
  clear hG hP HC
  cases B with
  | true =>
    go_wp2_with fail
    go_ret2
    exact ⟨HX.out.1, HX.out.2, _, rfl, _, rfl, Own.nil _ _ _ _ _⟩
  | false =>
    go_wp2_with fail
    refine (HC2.out _ HX.out.2).mono ?_
    rintro e w2 ⟨rfl, hG, hP⟩
    replace HX := Lib.hid (And.intro (HX.out.1.trans hG) hP)
    clear hG hP HC2
    cases B2 with
    | false =>
      go_wp2_with fail
      go_ret2
      exact ⟨HX.out.1, HX.out.2, _, rfl, _, rfl, Own.nil _ _ _ _ _⟩
    | true =>
      have HD := Lib.hid (deep_any w2)
      go_wp2_with fail
      refine HD.out.mono ?_
      rintro e w3 ⟨rfl, hX3⟩
      have HG := Lib.hid (And.intro (HX.out.1.ext hX3) (HX.out.2.ext hX3))
      clear HD HX hX3
      go_wp2_with fail
      go_ret2
      refine ⟨HG.out.1.ext ((Ext.refl _).alloc _), HG.out.2.ext ((Ext.refl _).alloc _), _, rfl, _, rfl, ?_⟩
      refine own_new (us := stU deepS (.slice none 0 0)) (W := w3.alloc _) Array.getElem?_push_size ((Ext.refl w3).alloc _) ?_ HG.out.1.size rfl (by decide)
      show Reps _ _ _ ([deepS].flatMap stC)
      rw [List.flatMap_cons, List.flatMap_nil, List.append_nil]
      exact st_reps (Rep.nil _) (by decide) (by decide) (by decide)

end Go.Proofs.YtfoclfefjcnllaaGreatDoor

/-
  The parser's contracts; expr. Helper lemmas; no statement of the seat is proved here.
-/
namespace Go.Proofs.YtfoclfefjcnllaaGreatDoor
open Go.RowKit
set_option maxRecDepth 100000
set_option linter.unusedVariables false
set_option linter.unusedSimpArgs false

/-- What the parser leans on, in every world that it comes to. -/
structure PEnv (g : Nat) (W0 : World) (ts : List QT) (en : Nat) : Prop where
  ok : TsOk ts en
  sp : ∀ w, Gr g W0 w → Lib.TabIs Tryz.prog w "strings.asciiSpace" .u8 Lib.asciiSpaceTab
  gl : ∀ w, Gr g W0 w → Glob w
/-- No lack of fuel. -/
def NoF {α : Type} (r : PR α) : Prop := match r with
  | .error e => e.1 ≠ 0
  | .ok _ => True
section
variable (g : Nat) (W0 : World) (ts : List QT) (en : Nat)
/-- The contract of a function that gives a tree. -/
def KE (f : FuncId) (r : Nat → Nat → PR Ex) : Prop := ∀ (W : World) (i nst : Nat), Gr g W0 W → PS g W ts en i nst → nst ≤ 25 → NoF (r nst i) →
  Calls Tryz.prog f #[.pointer (some ⟨g, 0, none⟩)] W (PX g W ts en nst (fun w' x v => XV w' (fun b => W.heap.size ≤ b) x v) (r nst i))
def KB (r : Nat → Nat → Nat → PR Ex) : Prop := ∀ (W : World) (i nst lev : Nat), lev ≤ 6 → Gr g W0 W → PS g W ts en i nst → nst ≤ 25 → NoF (r nst lev i) →
  Calls Tryz.prog 47 #[.pointer (some ⟨g, 0, none⟩), .int .i64 lev] W (PX g W ts en nst (fun w' x v => XV w' (fun b => W.heap.size ≤ b) x v) (r nst lev i))
/-- A slice of trees. -/
def XsV (p : Nat → Prop) (W : World) (l : List Ex) (v : Value) : Prop := ∃ a c, v = .slice a l.length c ∧ Rep W p (.slice a l.length c) (exsD l) ∧ l.length ≤ 1000
def SsV (p : Nat → Prop) (W : World) (l : List St) (v : Value) : Prop := ∃ a c, v = .slice a l.length c ∧ Rep W p (.slice a l.length c) (stsD l) ∧ l.length ≤ 3000
def KP (r : Nat → Nat → PR (List Ex)) : Prop := ∀ (W : World) (i nst : Nat), Gr g W0 W → PS g W ts en i nst → nst ≤ 25 → NoF (r nst i) →
  Calls Tryz.prog 127 #[.pointer (some ⟨g, 0, none⟩)] W (PX g W ts en nst (XsV (fun b => W.heap.size ≤ b)) (r nst i))
def KS (r : Nat → Nat → PR St) : Prop := ∀ (W : World) (i nst : Nat), Gr g W0 W → PS g W ts en i nst → nst ≤ 25 → NoF (r nst i) →
  Calls Tryz.prog 129 #[.pointer (some ⟨g, 0, none⟩)] W (PX g W ts en nst (fun w' x v => SV w' (fun b => W.heap.size ≤ b) x v) (r nst i))
end
def zex : Ex := .mk [] [] false 0 [] false []
section
variable {g : Nat} {W0 : World} {ts : List QT} {en : Nat}
set_option maxHeartbeats 8000000 in
theorem expr_step (HV : PEnv g W0 ts en) (f : Nat) (HB : KB g W0 ts en (binP ts en f)) : KE g W0 ts en 29 (exprP ts en (f + 1)) := by
  intro W i nst hG hP hn hF
  obtain ⟨R, hR⟩ : ∃ R, exprP ts en (f + 1) nst i = R := ⟨_, rfl⟩
  rw [hR] at hF ⊢
  rw [exprP] at hR
  obtain ⟨w1, hw1⟩ : ∃ w, W.alloc (.cells #[.string ⟨#[]⟩, .string ⟨#[]⟩, .bool false, .int .i64 0, .slice none 0 0, .bool false, .slice none 0 0] 29) = w := ⟨_, rfl⟩
  have hE1 : Ext W w1 := by rw [← hw1]; exact (Ext.refl W).alloc _
  have hr : w1.heap[W.heap.size]? = some (.cells #[.string ⟨#[]⟩, .string ⟨#[]⟩, .bool false, .int .i64 0, .slice none 0 0, .bool false, .slice none 0 0] 29) := by rw [← hw1]; exact Array.getElem?_push_size
  have hP1 := hP.ext hE1
  have hlt := hP.lt
  have hrg : W.heap.size ≠ g := by omega
  have c3 := hP1.c3; have f3 := hP1.f3
  have HX := Lib.hid (And.intro hG (And.intro hE1 (And.intro hP1 hr)))
  clear hP hE1 hP1 hr hG
  go_enter Tryz.func29, Tryz.ntmps29
  by_cases h24 : 24 < nst
  · have h24I : (24 : Int) < (nst : Int) := by omega
    obtain rfl : _ = R := (if_pos h24).symm.trans hR
    have HC := Lib.hid (fail_any g w1 ts en i nst HV.ok HX.out.2.2.1 7)
    clear h24 hF
    go_wp2_with fail
    refine HC.out.mono ?_
    rintro e w2 ⟨rfl, hX2⟩
    exact ⟨rfl, Gr.of g (HX.out.2.1.trans hX2), rfl⟩
  · have h24I : ¬ (24 : Int) < (nst : Int) := by omega
    replace hR := (if_neg h24).symm.trans hR
    obtain ⟨n1, hn1⟩ : ∃ n1, nst + 1 = n1 := ⟨_, rfl⟩
    have hn1I : (nst : Int) + 1 = (n1 : Int) := by omega
    rw [hn1] at hR
    obtain ⟨ws, hws⟩ : ∃ w, w1.setCell ⟨g, 3, none⟩ (.int .i64 n1) = w := ⟨_, rfl⟩
    have hGs : Gr g W ws := by rw [← hws]; exact (Gr.of g HX.out.2.1).set 3 _
    have HC := Lib.hid (HB ws i n1 0 (by omega) (HX.out.1.trans hGs) (by rw [← hws]; exact HX.out.2.2.1.nest n1) (by omega) (by rw [hR]; exact hF))
    rw [hR] at HC
    have hrs : ws.heap[W.heap.size]? = some (.cells #[.string ⟨#[]⟩, .string ⟨#[]⟩, .bool false, .int .i64 0, .slice none 0 0, .bool false, .slice none 0 0] 29) := by rw [← hws]; exact (Below.heap_setCell _ _ _ _ hrg).trans HX.out.2.2.2
    have HY := Lib.hid (And.intro hGs hrs)
    have HS1 := Lib.hid (show W.heap.size < ws.heap.size from blk_lt hrs)
    have hn1b : (n1 : Int) - 1 = (nst : Int) := by omega
    clear hR hF hGs hrs hn1 h24
    go_wp2_with fail
    refine HC.out.mono ?_
    rintro e w2 ⟨hG2, hV⟩
    rcases R with ⟨c, a⟩ | ⟨x, j⟩
    · obtain rfl := hV
      exact ⟨rfl, HY.out.1.trans hG2, rfl⟩
    · obtain ⟨v, rfl, ⟨aa, ac, sa, sc, rfl, hra, hrs, ho, ht⟩, hP2⟩ := hV
      obtain ⟨w3, hw3⟩ : ∃ w, w2.alloc (.cells #[.string (bs x.op), .string (bs x.text), .bool x.nan, .int .i64 x.val, .slice aa x.args.length ac, .bool x.abs, .slice sa x.steps.length sc] 29) = w := ⟨_, rfl⟩
      have hE3 : Ext w2 w3 := by rw [← hw3]; exact (Ext.refl w2).alloc _
      have he := (show w3.heap[w2.heap.size]? = some (.cells #[.string (bs x.op), .string (bs x.text), .bool x.nan, .int .i64 x.val, .slice aa x.args.length ac, .bool x.abs, .slice sa x.steps.length sc] 29) by rw [← hw3]; exact Array.getElem?_push_size)
      have hr3 := Gr.blk (Gr.of g hE3) hrg (Gr.blk hG2 hrg HY.out.2)
      have hP3 := hP2.ext hE3
      have hlt2 := hP2.lt
      have hltW : W.heap.size < w2.heap.size := blk_lt (Gr.blk hG2 hrg HY.out.2)
      have heg : w2.heap.size ≠ g := by omega
      have hre : w2.heap.size ≠ W.heap.size := by omega
      have hre' : W.heap.size ≠ w2.heap.size := by omega
      have k3 := hP3.c3; have m3 := hP3.f3
      obtain ⟨e0, e1, e2, e3, e4, e5, e6⟩ := cells7 he
      obtain ⟨r0, r1, r2, r3, r4, r5, r6⟩ := cells7 hr3
      have z0 := blk_free hr3 (k := 0); have z1 := blk_free hr3 (k := 1); have z2 := blk_free hr3 (k := 2); have z3 := blk_free hr3 (k := 3); have z4 := blk_free hr3 (k := 4); have z5 := blk_free hr3 (k := 5); have z6 := blk_free hr3 (k := 6)
      have hr4 : (w3.setCell ⟨g, 3, none⟩ (.int .i64 nst)).heap[W.heap.size]? = some (.cells #[.string ⟨#[]⟩, .string ⟨#[]⟩, .bool false, .int .i64 0, .slice none 0 0, .bool false, .slice none 0 0] 29) := (Below.heap_setCell _ _ _ _ hrg).trans hr3
      have HZ := Lib.hid (And.intro hr4 (And.intro (hG2.ext hE3) (And.intro hP3 (And.intro (hra.ext hE3) (And.intro (hrs.ext hE3) (And.intro ho ht))))))
      have hws2 := HY.out.1.size
      clear hr4 hP3 hra hrs ho ht he hr3 hP2 hE3 HC hltW c3 f3
      go_wp2_with fail
      refine fin7 rfl HZ.out.1 rfl fun W' hG' => ?_
      obtain ⟨_, hG3, hP3, hra, hrs, ho, ht⟩ := HZ.out
      have hg3 : Gr g ws (w3.setCell ⟨g, 3, none⟩ (.int .i64 nst)) := hG3.set 3 _
      have hg4 : Gr g W W' := (HY.out.1.trans hg3).new hG' (Nat.le_refl _)
      have hgg : Gr g w3 (w3.setCell ⟨g, 3, none⟩ (.int .i64 nst)) := (Gr.refl g w3).set 3 _
      have hq1 : ∀ b, ws.heap.size ≤ b → b ≠ g := fun b hb => by omega
      have hq2 : ∀ b, ws.heap.size ≤ b → b ≠ W.heap.size := fun b hb => by have := HS1.out; omega
      have hq3 : ∀ b, ws.heap.size ≤ b → W.heap.size ≤ b := fun b hb => by omega
      exact ⟨hg4, _, rfl, ⟨aa, ac, sa, sc, rfl, ((hra.gr hq1 hgg).gr hq2 hG').ok hq3, ((hrs.gr hq1 hgg).gr hq2 hG').ok hq3, ho, ht⟩, (hP3.nest nst).gr hG' hlt⟩
end

end Go.Proofs.YtfoclfefjcnllaaGreatDoor

/-
  The parser's plain functions never go back. Helper lemmas; no statement of the seat is proved here.
-/
namespace Go.Proofs.YtfoclfefjcnllaaGreatDoor
set_option linter.unusedVariables false

def Mn (i : Nat) {α : Type} (r : PR α) : Prop :=
  match r with
  | .error _ => True
  | .ok x => i ≤ x.2
theorem Mn.mn {i j : Nat} {α : Type} {r : PR α} (h : Mn j r) (hij : i ≤ j) : Mn i r := by
  cases r with
  | error e => exact h
  | ok x => exact Nat.le_trans hij h
section
variable (ts : List QT) (en : Nat)
set_option maxHeartbeats 1000000 in
theorem mono_all : ∀ f : Nat,
    (∀ nest i, Mn i (exprP ts en f nest i)) ∧
    (∀ nest lev i, Mn i (binP ts en f nest lev i)) ∧
    (∀ nest lev e i, Mn i (binLoop ts en f nest lev e i)) ∧
    (∀ nest i, Mn i (negP ts en f nest i)) ∧
    (∀ nest e i, Mn i (unionP ts en f nest e i)) ∧
    (∀ nest i, Mn i (pathP ts en f nest i)) ∧
    (∀ nest o i, Mn i (stepsP ts en f nest o i)) ∧
    (∀ nest i, Mn i (stepP ts en f nest i)) ∧
    (∀ nest o i, Mn i (predsP ts en f nest o i)) ∧
    (∀ nest i, Mn i (filterP ts en f nest i)) ∧
    (∀ nest i, Mn i (oneP ts en f nest i)) ∧
    (∀ nest b o i, Mn i (callP ts en f nest b o i)) := by
  intro f
  induction f with
  | zero =>
    refine ⟨?_, ?_, ?_, ?_, ?_, ?_, ?_, ?_, ?_, ?_, ?_, ?_⟩
    · intros; rw [exprP]; trivial
    · intros; rw [binP]; trivial
    · intros; rw [binLoop]; trivial
    · intros; rw [negP]; trivial
    · intros; rw [unionP]; trivial
    · intros; rw [pathP]; trivial
    · intros; rw [stepsP]; trivial
    · intros; rw [stepP]; trivial
    · intros; rw [predsP]; trivial
    · intros; rw [filterP]; trivial
    · intros; rw [oneP]; trivial
    · intros; rw [callP]; trivial
  | succ f ih =>
    obtain ⟨h1, h2, h3, h4, h5, h6, h7, h8, h9, h10, h11, h12⟩ := ih
    refine ⟨?_, ?_, ?_, ?_, ?_, ?_, ?_, ?_, ?_, ?_, ?_, ?_⟩
    · intro nest i
      rw [exprP]; split
      · trivial
      · exact h2 (nest + 1) 0 i
    · intro nest lev i
      rw [binP]; split
      · exact h4 nest i
      · have a := h2 nest (lev + 1) i
        split
        · trivial
        · rename_i e j q; rw [q] at a; have a' : i ≤ j := a; exact (h3 nest lev e j).mn a'
    · intro nest lev e i
      rw [binLoop]; split
      · rename_i hc
        have hl := kind_lt ts en i (by rw [hc.1]; decide)
        have a := h2 nest (lev + 1) (i + 1)
        split
        · trivial
        · rename_i r j q; rw [q] at a; have a' : i + 1 ≤ j := a; exact (h3 nest lev _ j).mn (by omega)
      · exact Nat.le_refl i
    · intro nest i
      rw [negP]
      have a := h6 nest (i + minusP ts en ts.length i)
      split
      · trivial
      · rename_i e j q; rw [q] at a; have a' : i + minusP ts en ts.length i ≤ j := a
        have b := h5 nest e j
        split
        · trivial
        · rename_i e2 k q2; rw [q2] at b; have b' : j ≤ k := b; show i ≤ k; omega
    · intro nest e i
      rw [unionP]; split
      · rename_i hc
        have hl := isP_lt ts en i 5 _ (by decide) hc
        have a := h6 nest (i + 1)
        split
        · trivial
        · rename_i r j q; rw [q] at a; have a' : i + 1 ≤ j := a; exact (h5 nest _ j).mn (by omega)
      · exact Nat.le_refl i
    · intro nest i
      rw [pathP]; split
      · have a := h10 nest i
        split
        · trivial
        · rename_i b j q; rw [q] at a; have a' : i ≤ j := a
          split
          · exact a'
          · rename_i o k q2
            obtain ⟨hk, hj⟩ := slash_some ts en q2
            have c := h7 nest o k
            split
            · trivial
            · rename_i l m q3; rw [q3] at c; have c' : k ≤ m := c; show i ≤ m; omega
      · have hs := slash_le ts en i
        split
        · exact hs
        · have c := h7 nest ((slashP ts en i).1.getD []) (slashP ts en i).2
          split
          · trivial
          · rename_i l m q3; rw [q3] at c; have c' : (slashP ts en i).2 ≤ m := c; show i ≤ m; omega
    · intro nest o i
      rw [stepsP]
      have a := h8 nest i
      split
      · trivial
      · rename_i s j q; rw [q] at a; have a' : i ≤ j := a
        split
        · exact a'
        · rename_i m k q2
          obtain ⟨hk, hj⟩ := slash_some ts en q2
          exact (h7 nest _ k).mn (by omega)
    · intro nest i
      rw [stepP]
      have a := axis_good ts en i
      split
      · trivial
      · rename_i s j q; rw [q] at a; exact a
      · rename_i x j q; rw [q] at a; have a' : i ≤ j := a
        have b := test_good ts en j
        split
        · trivial
        · rename_i t n k q2; rw [q2] at b; have b' : j ≤ k := b
          have c := h9 nest [] k
          split
          · trivial
          · rename_i l m q3; rw [q3] at c; have c' : k ≤ m := c; show i ≤ m; omega
    · intro nest o i
      rw [predsP]; split
      · rename_i hc
        have hl := isP_lt ts en i 6 _ (by decide) hc
        have a := h1 nest (i + 1)
        split
        · trivial
        · rename_i e j q; rw [q] at a; have a' : i + 1 ≤ j := a
          have b := must_good ts en j [93]
          split
          · trivial
          · rename_i u k q2
            obtain ⟨hk, hj⟩ := must_ok ts en q2
            dsimp only at hk
            exact (h9 nest _ k).mn (by omega)
      · exact Nat.le_refl i
    · intro nest i
      rw [filterP]
      have a := h11 nest i
      split
      · trivial
      · rename_i e j q; rw [q] at a; have a' : i ≤ j := a
        have c := h9 nest [] j
        split
        · trivial
        · rename_i l m q3; rw [q3] at c; have c' : j ≤ m := c; show i ≤ m; omega
    · intro nest i
      rw [oneP]; split
      · exact Nat.le_succ i
      · split
        · split
          · exact Nat.le_succ i
          · trivial
        · split
          · trivial
          · split
            · rename_i hk2
              have hl := kind_lt ts en i (by rw [hk2]; decide)
              split
              · trivial
              · rename_i lo hi q0
                have b := must_good ts en (i + 1) [40]
                split
                · trivial
                · rename_i u j q2
                  obtain ⟨hk, hj⟩ := must_ok ts en q2
                  dsimp only at hk
                  have c := h12 nest (isP ts en j 6 [41]) [] j
                  split
                  · trivial
                  · rename_i l k q3; rw [q3] at c; have c' : j ≤ k := c
                    have d := must_good ts en k [41]
                    split
                    · trivial
                    · rename_i u m q4
                      obtain ⟨hm, _⟩ := must_ok ts en q4
                      dsimp only at hm
                      split
                      · trivial
                      · show i ≤ m; omega
            · have b := must_good ts en i [40]
              split
              · trivial
              · rename_i u j q2
                obtain ⟨hk, hj⟩ := must_ok ts en q2
                dsimp only at hk
                have c := h1 nest j
                split
                · trivial
                · rename_i e k q3; rw [q3] at c; have c' : j ≤ k := c
                  have d := must_good ts en k [41]
                  split
                  · trivial
                  · rename_i u m q4
                    obtain ⟨hm, _⟩ := must_ok ts en q4
                    dsimp only at hm
                    show i ≤ m; omega
    · intro nest b o i
      rw [callP]; split
      · exact Nat.le_refl i
      · have a := h1 nest i
        split
        · trivial
        · rename_i e j q; rw [q] at a; have a' : i ≤ j := a
          split
          · rename_i hc
            have hl := isP_lt ts en j 6 _ (by decide) hc
            exact (h12 nest false _ (j + 1)).mn (by omega)
          · exact a'
end
end Go.Proofs.YtfoclfefjcnllaaGreatDoor

/-
  The parser's predicates. Helper lemmas; no statement of the seat is proved here.
-/
namespace Go.Proofs.YtfoclfefjcnllaaGreatDoor
open Go.RowKit
set_option maxRecDepth 100000
set_option linter.unusedVariables false
set_option linter.unusedSimpArgs false

theorem infoEx : (Tryz.prog.info? 29).map (fun i => (i.zero, i.size, i.bytes)) = some (some (.agg #[.string ⟨#[]⟩, .string ⟨#[]⟩, .bool false, .int .i64 0, .slice none 0 0, .bool false, .slice none 0 0]), 7, 104) := by kernel_rfl
theorem infoSt : (Tryz.prog.info? 62).map (fun i => (i.zero, i.size, i.bytes)) = some (some (.agg #[.string ⟨#[]⟩, .string ⟨#[]⟩, .string ⟨#[]⟩, .slice none 0 0]), 4, 72) := by kernel_rfl
theorem one_ex (x : Ex) : ∀ e ∈ exC x, e.one = true := by rw [exC_eq]; intro e he; simp at he; rcases he with rfl | rfl | rfl | rfl | rfl | rfl | rfl <;> rfl
theorem one_st (x : St) : ∀ e ∈ stC x, e.one = true := by rw [stC_eq]; intro e he; simp at he; rcases he with rfl | rfl | rfl | rfl <;> rfl
theorem wpList_app7 {ops : Array Oper} {Q : Exit → Act → World → Prop} {a : Act} {w : World} {rest : List Oper} {o : Oper} (hgd : o.guard = none) (s x : Operand) (ho : o.op = .call { callee := .builtin .append, args := #[s, x], argTypes := #[26, 26] })
    {p : Nat → Prop} {base n m cap gb : Nat} {d : Value} {es ds : List DV} {us : List Value} (hs : a.eval s = d) (hown : Own w p base 29 7 d n es) (hx : a.eval x = .slice (some ⟨gb, 0, none⟩) m cap)
    (hc : ∀ (j : Nat) (u : Value), us[j]? = some u → w.cell? ⟨gb, j, none⟩ = some u) (hr : Reps w (fun b => p b ∧ some b ≠ d.ownBlock ∧ b < w.heap.size) us ds) (h1 : ∀ e ∈ ds, e.one = true) (hl : us.length = m * 7) (hm : n + m ≤ 1000000) (hb : base ≤ w.heap.size)
    (h : ∀ d' w', Own w' p base 29 7 d' (n + m) (es ++ ds) → w.grownBy w' d.ownBlock → wpList Tryz.prog ops Q rest (a.put o.dst d') w') : wpList Tryz.prog ops Q (o :: rest) a w := by
  obtain ⟨i0, ii, iz0, iz1, iz2⟩ := info_parts infoEx
  obtain ⟨vs, ho1, ho2⟩ := hown
  refine wpList_append_own_at w hgd s x 26 ho base 29 i0 (.agg #[.string ⟨#[]⟩, .string ⟨#[]⟩, .bool false, .int .i64 0, .slice none 0 0, .bool false, .slice none 0 0]) 7 104 Tryz.underlying26 ii iz0 iz1 iz2 rfl (by decide) d n vs hs ho1 ⟨gb, 0, none⟩ m cap us hx hl (fun j u hj => by rw [add_offs', Nat.zero_add]; exact hc j u hj) (hr.one h1) (by unfold maxLen; omega) (by omega) hb ?_
  intro v' w' q1 q2 _ q3
  exact h v' w' (Own.push ho2 hr q1 q2 q3) q2
theorem wpList_app4 {ops : Array Oper} {Q : Exit → Act → World → Prop} {a : Act} {w : World} {rest : List Oper} {o : Oper} (hgd : o.guard = none) (s x : Operand) (ho : o.op = .call { callee := .builtin .append, args := #[s, x], argTypes := #[27, 27] })
    {p : Nat → Prop} {base n m cap gb : Nat} {d : Value} {es ds : List DV} {us : List Value} (hs : a.eval s = d) (hown : Own w p base 62 4 d n es) (hx : a.eval x = .slice (some ⟨gb, 0, none⟩) m cap)
    (hc : ∀ (j : Nat) (u : Value), us[j]? = some u → w.cell? ⟨gb, j, none⟩ = some u) (hr : Reps w (fun b => p b ∧ some b ≠ d.ownBlock ∧ b < w.heap.size) us ds) (h1 : ∀ e ∈ ds, e.one = true) (hl : us.length = m * 4) (hm : n + m ≤ 1000000) (hb : base ≤ w.heap.size)
    (h : ∀ d' w', Own w' p base 62 4 d' (n + m) (es ++ ds) → w.grownBy w' d.ownBlock → wpList Tryz.prog ops Q rest (a.put o.dst d') w') : wpList Tryz.prog ops Q (o :: rest) a w := by
  obtain ⟨i0, ii, iz0, iz1, iz2⟩ := info_parts infoSt
  obtain ⟨vs, ho1, ho2⟩ := hown
  refine wpList_append_own_at w hgd s x 27 ho base 62 i0 (.agg #[.string ⟨#[]⟩, .string ⟨#[]⟩, .string ⟨#[]⟩, .slice none 0 0]) 4 72 Tryz.underlying27 ii iz0 iz1 iz2 rfl (by decide) d n vs hs ho1 ⟨gb, 0, none⟩ m cap us hx hl (fun j u hj => by rw [add_offs', Nat.zero_add]; exact hc j u hj) (hr.one h1) (by unfold maxLen; omega) (by omega) hb ?_
  intro v' w' q1 q2 _ q3
  exact h v' w' (Own.push ho2 hr q1 q2 q3) q2
theorem Gr.grown {g : Nat} {a b c : World} {row : Option Nat} (h : Gr g a b) (k : b.grownBy c row) (hr : ∀ x, row = some x → a.heap.size ≤ x) : Gr g a c :=
  ⟨k.os.trans h.os, k.tape.trans h.tape, k.output.trans h.output, Nat.le_trans h.size k.size, fun x hx hn => (k.block x (Nat.lt_of_lt_of_le hx h.size) (fun e => by have := hr x e.symm; omega)).trans (h.block x hx hn)⟩
theorem PS.grown {g : Nat} {W W' : World} {ts : List QT} {en i nst : Nat} {row : Option Nat} (h : PS g W ts en i nst) (k : W.grownBy W' row) (hr : ∀ x, row = some x → g < x) : PS g W' ts en i nst := by
  have hl := h.lt
  have hb := k.block g hl (fun e => by have := hr g e.symm; omega)
  obtain ⟨a, c, h1, h2⟩ := h.row
  exact ⟨⟨a, c, (World.cell?_of_block (a := ⟨g, 0, none⟩) hb).trans h1, h2.kept fun b hb hlt => k.block b hlt fun e => by have := hr b e.symm; omega⟩, (World.cell?_of_block (a := ⟨g, 1, none⟩) hb).trans h.c1, (World.cell?_of_block (a := ⟨g, 2, none⟩) hb).trans h.c2, (World.cell?_of_block (a := ⟨g, 3, none⟩) hb).trans h.c3, (World.frozen?_of_block (a := ⟨g, 1, none⟩) hb).trans h.f1, (World.frozen?_of_block (a := ⟨g, 3, none⟩) hb).trans h.f3, h.hi⟩
theorem Own.gr {g : Nat} {w w' : World} {p : Nat → Prop} {base z n : Nat} {e : TypeId} {v : Value} {es : List DV} (h : Own w p base e z v n es) (hg : g < base) (hp : ∀ b, p b → b ≠ g) (k : Gr g w w') : Own w' p base e z v n es := by
  obtain ⟨us, h1, h2⟩ := h
  refine ⟨us, h1.kept (row := some g) k ?_, (h2.kept fun b hb hlt => k.block b hlt fun e => hp b hb.1 (Option.some.inj e)).ok fun b hb => ⟨hb.1, hb.2.1, Nat.lt_of_lt_of_le hb.2.2 k.size⟩⟩
  cases ho : v.ownBlock with
  | none => exact .inl rfl
  | some x => exact .inr fun e => by have := Option.some.inj e; have := (h1.lt x ho).1; omega
theorem Own.blk {w : World} {p : Nat → Prop} {base z n : Nat} {e : TypeId} {v : Value} {es : List DV} (h : Own w p base e z v n es) : ∀ x, v.ownBlock = some x → base ≤ x ∧ x < w.heap.size := by
  obtain ⟨us, h1, _⟩ := h
  intro x hx; exact h1.lt x hx
theorem mono_expr (ts : List QT) (en f nest i : Nat) : Mn i (exprP ts en f nest i) := (mono_all ts en f).1 nest i
theorem predsP_eq (ts : List QT) (en f nest : Nat) (o : List Ex) (i : Nat) : predsP ts en (f + 1) nest o i = if isP ts en i 6 [91] then
      match exprP ts en f nest (i + 1) with
      | .error e => .error e
      | .ok (e, j) => match mustP ts en j [93] with
        | .error e => .error e
        | .ok (_, k) => predsP ts en f nest (o ++ [e]) k
    else .ok (o, i) := by rw [predsP]; rfl
section
variable {g : Nat} {W0 : World} {ts : List QT} {en : Nat}
set_option maxHeartbeats 16000000 in
theorem preds_step (HV : PEnv g W0 ts en) (f : Nat) (HE : ∀ k, k < f → KE g W0 ts en 29 (exprP ts en k)) : KP g W0 ts en (fun nst i => predsP ts en f nst [] i) := by
  intro W i nst hG hP hn hF
  dsimp only at hF ⊢
  obtain ⟨R, hR⟩ : ∃ R, predsP ts en f nst [] i = R := ⟨_, rfl⟩
  rw [hR] at hF ⊢
  have hlt := hP.lt
  have HF := Lib.hid hF
  have HQ := Lib.hid (And.intro hG (And.intro HV HE))
  have HS : Hid (Gr g W W ∧ PS g W ts en i nst ∧ Own W (fun b => W.heap.size ≤ b) W.heap.size 29 7 (.slice none 0 0) ([] : List Ex).length (([] : List Ex).flatMap exC) ∧ ([] : List Ex).length ≤ i ∧ ∃ f', f' ≤ f ∧ predsP ts en f' nst [] i = R) := Lib.hid ⟨Gr.refl g W, hP, Own.nil _ _ _ _ _, Nat.zero_le _, f, Nat.le_refl _, hR⟩
  clear hR hF hG HE hP
  go_enter Tryz.func127, Tryz.ntmps127
  go_wp2_with fail
  go_loopw [3] (fun sv wr => ∃ (d : Value) (o : List Ex) (j : Nat), d = sv ∧ j ≤ ts.length ∧ Hid (Gr g W wr ∧ PS g wr ts en j nst ∧ Own wr (fun b => W.heap.size ≤ b) W.heap.size 29 7 d o.length (o.flatMap exC) ∧ o.length ≤ j ∧ ∃ f', f' ≤ f ∧ predsP ts en f' nst o j = R)) (fun _ wr => atQ ts.length wr g)
  case atStart => exact ⟨_, _, _, rfl, HS.out.2.1.hi, HS⟩
  case round =>
    clear HS
    obtain ⟨d, o, j, rfl, hj, HS⟩ := hrel
    obtain ⟨hG, hP, hO, hol, f', hf', hR⟩ := HS.out
    have hM : atQ ts.length wr g = ts.length - j := by simp [atQ, hP.c1]
    have hlen := HQ.out.2.1.ok.len
    have hnf : ∃ k, f' = k + 1 := by
      cases f' with
      | zero =>
        have h := HF.out
        rw [← hR, predsP] at h
        exact absurd rfl h
      | succ k => exact ⟨k, rfl⟩
    obtain ⟨k, rfl⟩ := hnf
    rw [predsP_eq] at hR
    have HT := Lib.hid (take_any g wr ts en j nst HQ.out.2.1.ok hP 6 (by decide) [91])
    obtain ⟨b, hb⟩ : ∃ b, isP ts en j 6 [91] = b := ⟨_, rfl⟩
    rw [hb] at HT hR
    have HX := Lib.hid (And.intro hG (And.intro hO (And.intro hol (And.intro hf' (And.intro hR hM)))))
    clear hG hP hO hol hf' hR hM HS hb
    go_wp2_with fail
    refine HT.out.mono ?_
    rintro e w1 ⟨rfl, hG1, hP1⟩
    clear HT
    cases b with
    | false =>
      obtain ⟨hG, hO, hol, hf', hR, hM⟩ := HX.out
      obtain rfl : _ = R := hR
      obtain ⟨da, dc, rfl, _, _⟩ := hO.form
      have hol2 : o.length ≤ 1000 := by omega
      have HZ := Lib.hid (And.intro (hG.trans hG1) (And.intro hP1 (hO.gr hlt (fun b hb => by omega) hG1)))
      clear hG hO hol hf' hM HX hG1 hP1
      go_wp2_with fail
      go_ret
      exact ⟨HZ.out.1, _, rfl, ⟨_, _, rfl, HZ.out.2.2.rep.ok (fun b hb => by rcases hb with h | h <;> exact h), by omega⟩, HZ.out.2.1⟩
    | true =>
      obtain ⟨hG, hO, hol, hf', hR, hM⟩ := HX.out
      have hGw := hG.trans hG1
      simp only [if_true] at hP1 hR
      have hOw := hO.gr hlt (fun b hb => by omega) hG1
      have hmn := mono_expr ts en k nst (j + 1)
      have HC := HQ.out.2.2 k (by omega) w1 (j + 1) nst (HQ.out.1.trans hGw) hP1 hn
      have hnf2 : NoF (exprP ts en k nst (j + 1)) := by
        have h := HF.out
        rw [← hR] at h
        revert h
        cases exprP ts en k nst (j + 1) with
        | error e => exact fun h => h
        | ok x => exact fun _ => trivial
      replace HC := Lib.hid (HC hnf2)
      obtain ⟨X, hX⟩ : ∃ X, exprP ts en k nst (j + 1) = X := ⟨_, rfl⟩
      rw [hX] at HC hR hmn
      have HY := Lib.hid (And.intro hGw (And.intro hOw (And.intro hol (And.intro (show k < f by omega) (And.intro hR (And.intro hM hmn))))))
      clear hG hO hol hf' hR hM HX hG1 hP1 hGw hOw hmn hnf2 hX
      go_wp2_with fail
      refine HC.out.mono ?_
      rintro e w2 ⟨hG2, hV⟩
      clear HC
      rcases X with ⟨c, a⟩ | ⟨x, j2⟩
      · obtain rfl := hV
        obtain ⟨hG, _, _, _, hR, _⟩ := HY.out
        obtain rfl : _ = R := hR
        exact ⟨rfl, hG.trans hG2, rfl⟩
      · obtain ⟨v, rfl, ⟨aa, ac, sa, sc, rfl, hra, hrs, ho, ht⟩, hP2⟩ := hV
        obtain ⟨hG, hO, hol, hkf, hR, hM, hmn⟩ := HY.out
        obtain ⟨w3, hw3⟩ : ∃ w, w2.alloc (.cells #[.string (bs x.op), .string (bs x.text), .bool x.nan, .int .i64 x.val, .slice aa x.args.length ac, .bool x.abs, .slice sa x.steps.length sc] 29) = w := ⟨_, rfl⟩
        have hE3 : Ext w2 w3 := by rw [← hw3]; exact (Ext.refl w2).alloc _
        have hb3 : w3.heap[w2.heap.size]? = some (.cells (exU x (.slice aa x.args.length ac) (.slice sa x.steps.length sc)).toArray 29) := by rw [← hw3]; exact Array.getElem?_push_size
        have hO3 := (hO.gr hlt (fun b hb => by omega) hG2).ext hE3
        have hdb := hO.blk
        have hrx := ((ex_reps hra hrs ho ht).lt.ext hE3).ok (q := fun b => W.heap.size ≤ b ∧ some b ≠ d.ownBlock ∧ b < w3.heap.size) (fun b hb => ⟨Nat.le_trans hG.size hb.1, fun e => by have := (hdb b e.symm).2; omega, Nat.lt_of_lt_of_le hb.2 hE3.size⟩)
        have hG3 := (hG.trans hG2).ext hE3
        have HMU := Lib.hid fun w h => must_any g w ts en j2 nst HQ.out.2.1.ok h [93]
        have HA := Lib.hid (And.intro hO3 (And.intro hb3 (And.intro hrx (And.intro hG3 (And.intro (hP2.ext hE3) hdb)))))
        have hol2 : o.length ≤ 1000 := by omega
        clear hra hrs ho ht hP2 hE3 hb3 hO3 hrx hG3 hG hO hol hkf hR hM hmn hdb
        go_wp2_with (at_builtin; refine wpList_app7 rfl (.tmp 6) (.tmp 9) rfl (hs := rfl) (hown := HA.out.1) (hx := rfl) (hc := fun j u hj => blk_cells HA.out.2.1 j hj) (hr := HA.out.2.2.1) (h1 := one_ex x) (hl := rfl) (hm := by omega) (hb := HA.out.2.2.2.1.size) ?_; intro d' w4 hO4 hg4)
        have hG4 := HA.out.2.2.2.1.grown hg4 fun x hx => (HA.out.2.2.2.2.2 x hx).1
        have hP4 := HA.out.2.2.2.2.1.grown hg4 fun x hx => by have := (HA.out.2.2.2.2.2 x hx).1; omega
        clear HA hg4 hw3
        refine (HMU.out _ hP4).mono ?_
        rintro e w5 ⟨hG5, hV5⟩
        clear HMU
        obtain ⟨_, _, hol, hkf, hR, hM, hmn⟩ := HY.out
        obtain ⟨M, hMu⟩ : ∃ M, mustP ts en j2 [93] = M := ⟨_, rfl⟩
        have hmk : ∀ y, M = .ok y → y.2 = j2 + 1 := fun y hy => (must_ok ts en (hMu.trans hy)).1
        rw [hMu] at hV5 hR
        rcases M with ⟨c, a⟩ | ⟨u, j3⟩
        · obtain rfl := hV5
          obtain rfl : _ = R := hR
          exact ⟨rfl, hG4.trans hG5, rfl⟩
        · obtain ⟨v5, rfl, rfl, hP5⟩ := hV5
          have h3 : j3 = j2 + 1 := hmk _ rfl
          have hjj : j + 1 ≤ j2 := hmn
          have hO5 := hO4.gr hlt (fun b hb => by omega) hG5
          have HN : Hid (Gr g W w5 ∧ PS g w5 ts en j3 nst ∧ Own w5 (fun b => W.heap.size ≤ b) W.heap.size 29 7 d' (o ++ [x]).length ((o ++ [x]).flatMap exC) ∧ (o ++ [x]).length ≤ j3 ∧ ∃ f', f' ≤ f ∧ predsP ts en f' nst (o ++ [x]) j3 = R) :=
            Lib.hid ⟨hG4.trans hG5, hP5, by rw [List.length_append, List.flatMap_append, List.flatMap_cons, List.flatMap_nil, List.append_nil]; exact hO5, by simp; omega, k, by omega, hR⟩
          have h5 := hP5.hi
          have HM := Lib.hid (show atQ ts.length w5 g < atQ ts.length wr g by rw [hM]; simp only [atQ, hP5.c1]; simp; omega)
          clear hO5 hO4 hG4 hG5 hP4 hP5 hR hM hmn hol HY
          go_wp2_with fail
          go_roundw
          case rel => exact ⟨_, _, _, rfl, h5, HN⟩
          case measure => exact HM.out
end

end Go.Proofs.YtfoclfefjcnllaaGreatDoor
