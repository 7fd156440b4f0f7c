/-
  recensionref02.Encode, recensionref24.whole and Pieces. Helper lemmas; no statement of the seat is proved here.
-/
import Derived.Test.YtcdehcclkhmbiaaGreatDoorFPlainS
import Derived.Laws.IdiomStrings
import Derived.Lib.BufferRead
namespace Go.Proofs.YtcdehcclkhmbiaaGreatDoor
open Go.RowKit
set_option maxRecDepth 100000
set_option linter.unusedVariables false
set_option linter.unusedSimpArgs false

/-- A rune's bytes, by its size. -/
def encS (n : Nat) : List UInt8 :=
  if 1114111 < n ∨ (55296 ≤ n ∧ n ≤ 57343) then []
  else if n < 128 then [UInt8.ofNat n]
  else if n < 2048 then [UInt8.ofNat (192 + n / 64), UInt8.ofNat (128 + n % 64)]
  else if n < 65536 then [UInt8.ofNat (224 + n / 4096), UInt8.ofNat (128 + n / 64 % 64), UInt8.ofNat (128 + n % 64)]
  else [UInt8.ofNat (240 + n / 262144), UInt8.ofNat (128 + n / 4096 % 64), UInt8.ofNat (128 + n / 64 % 64), UInt8.ofNat (128 + n % 64)]
theorem u8v (k : Nat) (h : k < 256) (m : Int) (hm : m = (k : Int)) : (Value.int .u8 m) = .int .u8 (((UInt8.ofNat k).toNat : Nat) : Int) := by
  rw [hm, UInt8.toNat_ofNat', Nat.mod_eq_of_lt (show k < 2 ^ 8 from h)]
theorem conv_back (W : World) (g cap : Nat) (l : List UInt8) (hc : ∀ j (hj : j < l.length), W.cell? ⟨g, j, none⟩ = some (.int .u8 (l[j].toNat : Int))) :
    (convert 73 9 (.slice (some ⟨g, 0, none⟩) l.length cap)).run Tryz.prog W = .ok (.string (bs l)) W :=
  run_convert_bytes_back W _ _ _ ⟨g, 0, none⟩ cap l Tryz.underlying73 Tryz.underlying5 Tryz.underlying9 (fun j hj => by rw [add_offs]; exact hc j hj)
set_option maxHeartbeats 4000000 in
theorem encode_int (n : Nat) (m : Int) (hm : Hid (m = (n : Int))) (n0 : 0 ≤ m) (n1 : m < 2147483648) (w : World) :
    Calls Tryz.prog 64 #[.int .i32 m] w fun e w' => ∃ v, e = .returned v ∧ (convert 73 9 v).run Tryz.prog w' = .ok (.string (bs (encS n))) w' ∧ Ext w w' := by
  by_cases h1 : 1114111 < n ∨ (55296 ≤ n ∧ n ≤ 57343)
  · have e : encS n = [] := by unfold encS; rw [if_pos h1]
    rw [e]
    have hE : ∀ W : World, (convert 73 9 (.slice none 0 0)).run Tryz.prog W = .ok (.string (bs [])) W := fun W => Lib.run_convert_nil_bytes W _ _ _ 0 Tryz.underlying73 Tryz.underlying5 Tryz.underlying9
    have hE' := Lib.hid hE
    clear hE e
    have hm1 := hm.out
    by_cases h2 : 1114111 < n
    · have h3 : (1114111 : Int) < m := by omega
      clear hm1 h1 h2
      go_enter Tryz.func64, Tryz.ntmps64
      go_wp2_with fail
      go_ret
      exact ⟨_, rfl, hE'.out _, Ext.refl _⟩
    · have h3 : ¬ (1114111 : Int) < m := by omega
      have h4 : (55296 : Int) ≤ m := by omega
      have h5 : m ≤ 57343 := by omega
      clear hm1 h1 h2
      go_enter Tryz.func64, Tryz.ntmps64
      go_wp2_with fail
      go_ret
      exact ⟨_, rfl, hE'.out _, Ext.refl _⟩
  · have hm1 := hm.out
    have a1 : m ≤ 1114111 := by omega
    by_cases h2 : n < 128
    · have e : encS n = [UInt8.ofNat n] := by unfold encS; rw [if_neg h1, if_pos h2]
      have H := Lib.hid e
      have b1 : m < 128 := by omega
      clear e h1 hm1 n1
      go_enter Tryz.func64, Tryz.ntmps64
      go_wp2_with fail
      go_ret
      refine ⟨_, rfl, ?_, (Ext.refl _).alloc _⟩
      rw [H.out]
      have hm1 := hm.out
      refine conv_back _ _ 1 [_] (fun j hj => ?_)
      match j, hj with
      | 0, _ => simp [go_sem]; omega
    · have c1 : ¬ m < 128 := by omega
      by_cases h3 : n < 2048
      · have e : encS n = [UInt8.ofNat (192 + n / 64), UInt8.ofNat (128 + n % 64)] := by unfold encS; rw [if_neg h1, if_neg h2, if_pos h3]
        have H := Lib.hid e
        have b1 : m < 2048 := by omega
        clear e h1 hm1 n1
        go_enter Tryz.func64, Tryz.ntmps64
        go_wp2_with fail
        go_ret
        refine ⟨_, rfl, ?_, (Ext.refl _).alloc _⟩
        rw [H.out]
        have hm1 := hm.out
        refine conv_back _ _ 2 [_, _] (fun j hj => ?_)
        match j, hj with
        | 0, _ => simp [go_sem]; omega
        | 1, _ => simp [go_sem]; omega
      · have c2 : ¬ m < 2048 := by omega
        by_cases h4 : n < 65536
        · by_cases h5 : n < 55296
          · have e : encS n = [UInt8.ofNat (224 + n / 4096), UInt8.ofNat (128 + n / 64 % 64), UInt8.ofNat (128 + n % 64)] := by unfold encS; rw [if_neg h1, if_neg h2, if_neg h3, if_pos h4]
            have H := Lib.hid e
            have b1 : m < 55296 := by omega
            have b2 : m < 65536 := by omega
            clear e h1 hm1 n1
            go_enter Tryz.func64, Tryz.ntmps64
            go_wp2_with fail
            go_ret
            refine ⟨_, rfl, ?_, (Ext.refl _).alloc _⟩
            rw [H.out]
            have hm1 := hm.out
            refine conv_back _ _ 3 [_, _, _] (fun j hj => ?_)
            match j, hj with
            | 0, _ => simp [go_sem]; omega
            | 1, _ => simp [go_sem]; omega
            | 2, _ => simp [go_sem]; omega
          · have e : encS n = [UInt8.ofNat (224 + n / 4096), UInt8.ofNat (128 + n / 64 % 64), UInt8.ofNat (128 + n % 64)] := by unfold encS; rw [if_neg h1, if_neg h2, if_neg h3, if_pos h4]
            have H := Lib.hid e
            have b1 : (57343 : Int) < m := by omega
            have b2 : m < 65536 := by omega
            clear e h1 hm1 n1
            go_enter Tryz.func64, Tryz.ntmps64
            go_wp2_with fail
            go_ret
            refine ⟨_, rfl, ?_, (Ext.refl _).alloc _⟩
            rw [H.out]
            have hm1 := hm.out
            refine conv_back _ _ 3 [_, _, _] (fun j hj => ?_)
            match j, hj with
            | 0, _ => simp [go_sem]; omega
            | 1, _ => simp [go_sem]; omega
            | 2, _ => simp [go_sem]; omega
        · have e : encS n = [UInt8.ofNat (240 + n / 262144), UInt8.ofNat (128 + n / 4096 % 64), UInt8.ofNat (128 + n / 64 % 64), UInt8.ofNat (128 + n % 64)] := by unfold encS; rw [if_neg h1, if_neg h2, if_neg h3, if_neg h4]
          have H := Lib.hid e
          have b1 : ¬ m < 65536 := by omega
          clear e h1 hm1 n1
          go_enter Tryz.func64, Tryz.ntmps64
          go_wp2_with fail
          go_ret
          refine ⟨_, rfl, ?_, (Ext.refl _).alloc _⟩
          rw [H.out]
          have hm1 := hm.out
          refine conv_back _ _ 4 [_, _, _, _] (fun j hj => ?_)
          match j, hj with
          | 0, _ => simp [go_sem]; omega
          | 1, _ => simp [go_sem]; omega
          | 2, _ => simp [go_sem]; omega
          | 3, _ => simp [go_sem]; omega
theorem encode_any (n : Nat) (hn : n < 2147483648) (w : World) :
    Calls Tryz.prog 64 #[.int .i32 n] w fun e w' => ∃ v, e = .returned v ∧ (convert 73 9 v).run Tryz.prog w' = .ok (.string (bs (encS n))) w' ∧ Ext w w' :=
  encode_int n n (Lib.hid rfl) (by omega) (by omega) w
end Go.Proofs.YtcdehcclkhmbiaaGreatDoor
