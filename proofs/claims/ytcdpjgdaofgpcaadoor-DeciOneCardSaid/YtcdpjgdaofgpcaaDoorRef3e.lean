/-
  Contracts of the reference's Blank, Trim (layer 2) and Parse (layer 3). Helper lemmas; no statement of the seat is proved here.
-/
import Derived.Test.YtcdpjgdaofgpcaaDoorParseLaw
import Derived.Test.YtcdpjgdaofgpcaaDoorRef3
import Derived.LoopTactic
namespace Go.Proofs.YtcdpjgdaofgpcaaDoor
open Go.RowKit
set_option maxRecDepth 100000
set_option linter.unusedVariables false

def blankI (n : Int) : Bool := n == 9 || n == 10 || n == 13 || n == 32
def blkB (c : UInt8) : Bool := ([9, 10, 13, 32] : List UInt8).contains c
theorem blk_int (c : UInt8) : blankI (c.toNat : Int) = blkB c := by
  have : ∀ n : Fin 256, blankI (((UInt8.ofNat n.val).toNat : Nat) : Int) = blkB (UInt8.ofNat n.val) := by decide +kernel
  have h := this ⟨c.toNat, c.toNat_lt⟩
  simp only [UInt8.ofNat_toNat] at h
  exact h
theorem blk_wrap (c : UInt8) : blankI (wrap32 (c.toNat : Int)) = blkB c := by
  have : ∀ n : Fin 256, blankI (wrap32 (((UInt8.ofNat n.val).toNat : Nat) : Int)) = blkB (UInt8.ofNat n.val) := by decide +kernel
  have h := this ⟨c.toNat, c.toNat_lt⟩
  simp only [UInt8.ofNat_toNat] at h
  exact h
theorem rblank_any (n : Int) (w : World) : Calls Tryd.prog 129 #[.int .i32 n] w fun e w' => e = .returned (.bool (blankI n)) ∧ w = w' := by
  by_cases h1 : n = 9
  · subst h1; go_enter Tryd.func129, Tryd.ntmps129; go_wp2; go_ret; exact ⟨rfl, rfl⟩
  · have e1 : (n == 9) = false := by simpa using h1
    by_cases h2 : n = 10
    · subst h2; go_enter Tryd.func129, Tryd.ntmps129; go_wp2; go_ret; exact ⟨rfl, rfl⟩
    · have e2 : (n == 10) = false := by simpa using h2
      by_cases h3 : n = 13
      · subst h3; go_enter Tryd.func129, Tryd.ntmps129; go_wp2; go_ret; exact ⟨rfl, rfl⟩
      · have e3 : (n == 13) = false := by simpa using h3
        have hr : blankI n = (n == 32) := by unfold blankI; rw [e1, e2, e3]; rfl
        have HR := Lib.hid hr
        clear hr h1 h2 h3
        go_enter Tryd.func129, Tryd.ntmps129
        go_wp2
        go_ret
        exact ⟨by rw [HR.out]; rfl, rfl⟩

theorem trim_none (l : List UInt8) (h : ∀ c ∈ l, blkB c = true) : Lib.trimS l [9, 10, 13, 32] = [] := (KText.trimS_nil l _).2 h
theorem trim_ends (l : List UInt8) (a b : Nat) (hab : a < b) (hb : b ≤ l.length) (h1 : ∀ (j : Nat) c, j < a → l[j]? = some c → blkB c = true) (h2 : ∀ c, l[a]? = some c → blkB c = false)
    (h3 : ∀ (j : Nat) c, b ≤ j → l[j]? = some c → blkB c = true) (h4 : ∀ c, l[b - 1]? = some c → blkB c = false) : Lib.trimS l [9, 10, 13, 32] = (l.drop a).take (b - a) := by
  unfold Lib.trimS
  rw [Lib.trimRightS_take l _ b hb h3 (fun c _ hc => h4 c hc), Lib.trimLeftS_drop (l.take b) _ a (by rw [List.length_take]; omega)]
  · rw [List.drop_take]
  · intro j c hj hc
    rw [List.getElem?_take, if_pos (by omega)] at hc
    exact h1 j c hj hc
  · intro c hc
    rw [List.getElem?_take, if_pos (by omega)] at hc
    exact h2 c hc
theorem str_at (s : ByteArray) (k : Nat) (h : k < s.size) : s.data.toList[k]? = some s[k] := by
  rw [List.getElem?_eq_getElem (by simpa using h)]; rfl
theorem str_len (s : ByteArray) : s.data.toList.length = s.size := by simp

set_option maxHeartbeats 1000000 in
theorem rtrim_any (s : ByteArray) (w : World) (hs : s.size ≤ 4294967296) :
    Calls Tryd.prog 85 #[.string s] w fun e w' => e = .returned (.string (bs (Lib.trimS s.data.toList [9, 10, 13, 32]))) ∧ w = w' := by
  go_enter Tryd.func85, Tryd.ntmps85
  go_wp2
  go_loop [3] (fun i => ∃ k : Nat, k ≤ s.size ∧ i = .int .i64 k ∧ Hid (∀ (j : Nat) c, j < k → s.data.toList[j]? = some c → blkB c = true)) (fun i => s.size - (intOf i).toNat)
  case atStart => exact ⟨0, Nat.zero_le _, rfl, fun j c hj => by omega⟩
  case round =>
    obtain ⟨a, ha, rfl, H1⟩ := hrel
    by_cases hlt : a < s.size
    · cases hb : blkB s[a] with
      | true =>
        have HB : Hid (blankI (wrap32 (s[a].toNat : Int)) = true) := by rw [blk_wrap]; exact hb
        have HB2 := Lib.hid hb
        clear hb
        go_wp2_with (go_at_call 129; refine (rblank_any _ _).mono ?_; rw [HB.out]; rintro e w' ⟨rfl, rfl⟩)
        go_round
        case rel =>
          refine ⟨a + 1, by omega, by go_num, fun j c hj hc => ?_⟩
          by_cases hja : j = a
          · subst hja
            rw [str_at s j hlt] at hc
            injection hc with hc
            rw [← hc]; exact HB2.out
          · exact H1.out j c (by omega) hc
        case measure => simp [intOf]; omega
      | false =>
        have HB : Hid (blankI (wrap32 (s[a].toNat : Int)) = false) := by rw [blk_wrap]; exact hb
        have H2 : Hid (∀ c, s.data.toList[a]? = some c → blkB c = false) := fun c hc => by
          rw [str_at s a hlt] at hc; injection hc with hc; rw [← hc]; exact hb
        clear hb
        go_wp2_with (go_at_call 129; refine (rblank_any _ _).mono ?_; rw [HB.out]; rintro e w' ⟨rfl, rfl⟩)
        go_loop [4] (fun i => ∃ k : Nat, k ≤ s.size ∧ a < k ∧ i = .int .i64 k ∧ Hid (∀ (j : Nat) c, k ≤ j → s.data.toList[j]? = some c → blkB c = true)) (fun i => (intOf i).toNat)
        case atStart => exact ⟨s.size, Nat.le_refl _, hlt, rfl, fun j c hj hc => by rw [List.getElem?_eq_none (by rw [str_len]; exact hj)] at hc; cases hc⟩
        case round =>
          obtain ⟨b, hb1, hb2, rfl, H3⟩ := hrel
          obtain ⟨m, rfl⟩ : ∃ m, b = m + 1 := ⟨b - 1, by omega⟩
          have hm : m < s.size := by omega
          have hidx : IntKind.i64.wrap (((m + 1 : Nat) : Int) - 1) = (m : Int) := by rw [show (((m + 1 : Nat) : Int) - 1) = (m : Int) by omega]; exact IntWalk.i64_in _ (by omega)
          have hd1 : decide ((a : Int) < ((m + 1 : Nat) : Int)) = true := by simp; omega
          cases hb : blkB s[m] with
          | true =>
            have HB : Hid (blankI (wrap32 (s[m].toNat : Int)) = true) := by rw [blk_wrap]; exact hb
            have HB2 := Lib.hid hb
            have ham : a < m := by
              rcases Nat.lt_or_eq_of_le (Nat.le_of_lt_succ hb2) with h | h
              · exact h
              · exfalso
                subst h
                have := H2.out _ (str_at s a hm)
                rw [hb] at this; cases this
            clear hb
            go_wp2_with (go_at_call 129; refine (rblank_any _ _).mono ?_; rw [HB.out]; rintro e w' ⟨rfl, rfl⟩)
            go_round
            case rel =>
              refine ⟨m, by omega, ham, by go_num, fun j c hj hc => ?_⟩
              by_cases hjm : j = m
              · subst hjm
                rw [str_at s j hm] at hc
                injection hc with hc
                rw [← hc]; exact HB2.out
              · exact H3.out j c (by omega) hc
            case measure => simp [intOf]
          | false =>
            have HB : Hid (blankI (wrap32 (s[m].toNat : Int)) = false) := by rw [blk_wrap]; exact hb
            have HR : Hid (Lib.trimS s.data.toList [9, 10, 13, 32] = (s.data.toList.drop a).take (m + 1 - a)) := by
              refine trim_ends _ a (m + 1) hb2 (by rw [str_len]; exact hb1) H1.out H2.out H3.out fun c hc => ?_
              rw [Nat.add_sub_cancel, str_at s m hm] at hc
              injection hc with hc
              rw [← hc]; exact hb
            clear hb
            go_wp2_with (go_at_call 129; refine (rblank_any _ _).mono ?_; rw [HB.out]; rintro e w' ⟨rfl, rfl⟩)
            go_ret
            refine ⟨?_, rfl⟩
            rw [HR.out, ← bs_extract, ← str_ext]; rfl
    · have e : a = s.size := by omega
      have HR : Hid (Lib.trimS s.data.toList [9, 10, 13, 32] = []) := by
        refine trim_none _ fun c hc => ?_
        obtain ⟨j, hj⟩ := List.getElem?_of_mem hc
        have hjl : j < s.data.toList.length := (List.getElem?_eq_some_iff.1 hj).1
        exact H1.out j c (by rw [str_len] at hjl; omega) hj
      have e2 : decide ((a : Int) < (s.size : Int)) = false := by simp; omega
      clear e
      have HE : Hid (s.extract a s.size = bs []) := by
        refine Lib.hid ?_
        have := str_len s
        rw [str_ext s, bs_extract, List.take_eq_nil_of_eq_nil (List.drop_eq_nil_of_le (by omega))]
      go_wp2
      go_loop [4] (fun i => i = .int .i64 s.size) (fun _ => 0)
      case atStart => rfl
      case round =>
        obtain rfl := hrel
        go_wp2
        go_ret
        refine ⟨?_, rfl⟩
        rw [HR.out, ← HE.out]; rfl
end Go.Proofs.YtcdpjgdaofgpcaaDoor
