/-
  The scanner's run. Helper lemmas; no statement of the seat is proved here.
-/
import Derived.Test.YtfoclfefjcnllaaGreatDoorD6
import Derived.Lib.SlTrimSet
import Derived.Lib.IndexMore
import Derived.Lib.ParseIntB
import Derived.Lib.ItoaNum
import Derived.Lib.Strings
import Derived.Test.YtfoclfefjcnllaaGreatDoorD1
import Derived.Test.YtfoclfefjcnllaaGreatDoorD3
import Derived.Lib.AppendIntMem
import Derived.BigCall
import Derived.BigGuard
import Derived.Lib.SmallJoins
import Derived.LoopTactic
import Derived.Outline
import Derived.Deep.QuietTactic
import Derived.BigQuiet
import Derived.Deep.RegionHeld3
namespace Go.Proofs.YtfoclfefjcnllaaGreatDoor
open Go.RowKit
set_option maxRecDepth 100000
set_option linter.unusedVariables false
set_option linter.unusedSimpArgs false

def scanAt (s : List UInt8) (f j : Nat) (out : List QT) : Except (Int × Int) (List QT) :=
  if s.length ≤ j then .ok out
  else match tokenS out (s.drop j) with
    | .error c => .error (c, (j : Int))
    | .ok (k, n, t) => scanGo s f (j + n) (out ++ [⟨k, j, t⟩])
theorem scanGo_eq (s : List UInt8) (f i : Nat) (out : List QT) : scanGo s (f + 1) i out = scanAt s f (i + skipS (s.drop i)) out := rfl
def ScanP (w0 : World) (s : List UInt8) (r : Except (Int × Int) (List QT)) (e : Ending) (w' : World) : Prop := match r with
  | .error (c, a) => e = .returned (.tuple #[.int .i64 c, .int .i64 a]) ∧ c ≠ 0 ∧ Ext w0 w'
  | .ok l => e = .returned (.tuple #[.int .i64 0, .int .i64 0]) ∧ l.length ≤ s.length ∧ ∃ i, SC w0 w' s i l
set_option maxHeartbeats 16000000 in
theorem scan_any (w0 W : World) (s : List UInt8) (h : SC w0 W s 0 []) (hl : s.length ≤ 1000) (hT : ∀ W, Ext w0 W → Tabs W) :
    Calls Tryz.prog 27 #[.pointer (some ⟨w0.heap.size, 0, none⟩)] W (ScanP w0 s (scanGo s (s.length + 1) 0 [])) := by
  obtain ⟨R, hR⟩ : ∃ R, scanGo s (s.length + 1) 0 [] = R := ⟨_, rfl⟩
  rw [hR]
  rw [scanGo_eq] at hR
  have HC := Lib.hid (skip_any w0 W s 0 [] h (Nat.zero_le _) hl)
  have hk := skip_le s 0
  obtain ⟨j0, hj0⟩ : ∃ j, 0 + skipS (s.drop 0) = j := ⟨_, rfl⟩
  rw [hj0] at hR HC
  have hj0l : j0 ≤ s.length := by omega
  have HR : Hid (([] : List QT).length ≤ j0 ∧ s.length - j0 ≤ s.length ∧ scanAt s s.length j0 [] = R) := Lib.hid ⟨Nat.zero_le _, by omega, hR⟩
  clear h hR hk hj0
  go_enter Tryz.func27, Tryz.ntmps27
  go_wp2_with fail
  refine HC.out.mono ?_
  rintro e w1 ⟨rfl, hS1⟩
  have HS := Lib.hid hS1
  clear HC hS1
  go_wp2_with fail
  go_loopw [4] (fun _ wr => ∃ (j f : Nat) (out : List QT), Hid (SC w0 wr s j out) ∧ j ≤ s.length ∧ Hid (out.length ≤ j ∧ s.length - j ≤ f ∧ scanAt s f j out = R)) (fun _ wr => atQ s.length wr w0.heap.size)
  case atStart => exact ⟨j0, s.length, [], HS, hj0l, HR⟩
  case round =>
    clear HS HR hj0l
    obtain ⟨j, f, out, HS, hj, HI⟩ := hrel
    have hlt := HS.out.lt
    obtain ⟨wz, hwz⟩ : ∃ wz, wz = wr := ⟨_, rfl⟩
    subst hwz
    have c0 := HS.out.c0; have c1 := HS.out.c1
    have HM := Lib.hid (show atQ s.length wz w0.heap.size = s.length - j by simp [atQ, c1])
    by_cases hlI : j < s.length
    · go_wp2_with fail
      refine rg_begin (S := Sx wz) (by kernel_rfl) (Sx.begin _) ?_
      have hS : Sx wz (World.drew wz) := (Sx.begin _)
      refine rg_take 0 (some 7) (.pointer (some ⟨w0.heap.size, 0, none⟩)) (oi := { dst := some 7, op := Go.Op.move (Go.Operand.tmp 0), type := 66, pos := "qlex.go:189", after := #[], guard := none }) rfl rfl (by kernel_rfl) (by kernel_rfl) (by kernel_rfl) (fun _ _ _ h => h) hS (by rfl) (fun w' hs => by rfl) ?_
      simp only [Act.put, List.setIfInBounds_toArray, List.set_cons_zero, List.set_cons_succ]
      refine rg_take 1 (some 8) (.pointer (some ⟨w0.heap.size, 0, none⟩)) (oi := { dst := some 8, op := Go.Op.nilCheck (Go.Operand.tmp 7), type := 0, pos := "qlex.go:189", after := #[{ on := 0, ground := Go.Ground.data }], guard := none }) rfl rfl (by kernel_rfl) (by kernel_rfl) (by kernel_rfl) (fun _ _ _ h => h) hS (by rfl) (fun w' hs => by first | rfl | go_simp) ?_
      simp only [Act.put, List.setIfInBounds_toArray, List.set_cons_zero, List.set_cons_succ]
      refine rg_take 2 (some 9) (.pointer (some ⟨w0.heap.size, 1, none⟩)) (oi := { dst := some 9, op := Go.Op.fieldAddr 68 (Go.Operand.tmp 8) 1, type := 0, pos := "qlex.go:189", after := #[{ on := 1, ground := Go.Ground.data }], guard := none }) rfl rfl (by kernel_rfl) (by kernel_rfl) (by kernel_rfl) (fun _ _ _ h => h) hS (by rfl) (fun w' hs => by first | rfl | go_simp) ?_
      simp only [Act.put, List.setIfInBounds_toArray, List.set_cons_zero, List.set_cons_succ]
      refine rg_take 3 (some 10) (.int .i64 j) (oi := { dst := some 10, op := Go.Op.load 3 (Go.Operand.tmp 9), type := 3, pos := "qlex.go:189", after := #[{ on := 2, ground := Go.Ground.data }], guard := none }) rfl rfl (by kernel_rfl) (by kernel_rfl) (by kernel_rfl) (fun _ _ _ h => h) hS (by rfl) (fun w' hs => by (have h0 := hs.cell hlt c1; go_simp)) ?_
      simp only [Act.put, List.setIfInBounds_toArray, List.set_cons_zero, List.set_cons_succ]
      refine rg_take 4 (some 11) (.pointer (some ⟨w0.heap.size, 0, none⟩)) (oi := { dst := some 11, op := Go.Op.move (Go.Operand.tmp 0), type := 66, pos := "qlex.go:189", after := #[], guard := none }) rfl rfl (by kernel_rfl) (by kernel_rfl) (by kernel_rfl) (fun _ _ _ h => h) hS (by rfl) (fun w' hs => by rfl) ?_
      simp only [Act.put, List.setIfInBounds_toArray, List.set_cons_zero, List.set_cons_succ]
      refine rg_take 5 (some 12) (.pointer (some ⟨w0.heap.size, 0, none⟩)) (oi := { dst := some 12, op := Go.Op.nilCheck (Go.Operand.tmp 11), type := 0, pos := "qlex.go:189", after := #[{ on := 4, ground := Go.Ground.data }], guard := none }) rfl rfl (by kernel_rfl) (by kernel_rfl) (by kernel_rfl) (fun _ _ _ h => h) hS (by rfl) (fun w' hs => by first | rfl | go_simp) ?_
      simp only [Act.put, List.setIfInBounds_toArray, List.set_cons_zero, List.set_cons_succ]
      refine rg_take 6 (some 13) (.pointer (some ⟨w0.heap.size, 0, none⟩)) (oi := { dst := some 13, op := Go.Op.fieldAddr 68 (Go.Operand.tmp 12) 0, type := 0, pos := "qlex.go:189", after := #[{ on := 5, ground := Go.Ground.data }], guard := none }) rfl rfl (by kernel_rfl) (by kernel_rfl) (by kernel_rfl) (fun _ _ _ h => h) hS (by rfl) (fun w' hs => by first | rfl | go_simp) ?_
      simp only [Act.put, List.setIfInBounds_toArray, List.set_cons_zero, List.set_cons_succ]
      refine rg_take 7 (some 14) (.string (bs s)) (oi := { dst := some 14, op := Go.Op.load 9 (Go.Operand.tmp 13), type := 9, pos := "qlex.go:189", after := #[{ on := 6, ground := Go.Ground.data }], guard := none }) rfl rfl (by kernel_rfl) (by kernel_rfl) (by kernel_rfl) (fun _ _ _ h => h) hS (by rfl) (fun w' hs => by (have h0 := hs.cell hlt c0; go_simp)) ?_
      simp only [Act.put, List.setIfInBounds_toArray, List.set_cons_zero, List.set_cons_succ]
      refine rg_take 8 (some 15) (.int .i64 s.length) (oi := { dst := some 15, op := Go.Op.call { callee := Go.Callee.builtin Go.Builtin.len, args := #[Go.Operand.tmp 14], argTypes := #[9] }, type := 3, pos := "qlex.go:189", after := #[{ on := 7, ground := Go.Ground.data }], guard := none }) rfl rfl (by kernel_rfl) (by kernel_rfl) (by kernel_rfl) (fun _ _ _ h => h) hS (by rfl) (fun w' hs => by exact exec_slen rfl rfl _) ?_
      simp only [Act.put, List.setIfInBounds_toArray, List.set_cons_zero, List.set_cons_succ]
      refine rg_take 9 (some 16) (.bool true) (oi := { dst := some 16, op := Go.Op.binOp Go.BinOp.lss 3 (Go.Operand.tmp 10) (Go.Operand.tmp 15) 3, type := 4, pos := "qlex.go:189", after := #[{ on := 3, ground := Go.Ground.data }, { on := 8, ground := Go.Ground.data }], guard := none }) rfl rfl (by kernel_rfl) (by kernel_rfl) (by kernel_rfl) (fun _ _ _ h => h) hS (by rfl) (fun w' hs => by exact exec_lss (i := j) (j := s.length) rfl rfl rfl (decide_eq_true (by omega)) _) ?_
      simp only [Act.put, List.setIfInBounds_toArray, List.set_cons_zero, List.set_cons_succ]
      refine rg_done (by kernel_rfl) ?_
      replace HS := Lib.hid (HS.out.step hS)
      clear hlt c0 c1
      obtain ⟨wy, hwy⟩ : ∃ wy, wy = World.drew wz := ⟨_, rfl⟩
      rw [← hwy] at HS ⊢
      clear hS hwy
      have HC := Lib.hid (token_any w0 _ s j out HS.out hlI hl (by have := HI.out.1; omega) hT)
      have hR := HI.out.2.2
      unfold scanAt at hR
      rw [if_neg (by omega)] at hR
      obtain ⟨T, hTk⟩ : ∃ T, tokenS out (s.drop j) = T := ⟨_, rfl⟩
      rw [hTk] at HC hR
      have HR := Lib.hid (And.intro HI.out.1 (And.intro HI.out.2.1 hR))
      clear hTk hR HI
      go_wp2_with fail
      refine HC.out.mono ?_
      intro e w3 hP
      clear HC HS
      rcases T with c | ⟨k, n, t⟩
      · obtain ⟨rfl, hS3, hc0⟩ := hP
        obtain rfl : _ = R := HR.out.2.2
        have q0 : (c != 0) = true := by rw [bne_iff_ne]; exact hc0
        have HS := Lib.hid (And.intro hS3 hc0)
        have hlt := hS3.lt
        obtain ⟨wv, hwv⟩ : ∃ wv, wv = w3 := ⟨_, rfl⟩
        subst hwv
        have c1 := hS3.c1
        clear hS3 HR hc0 HM
        go_wp2_with fail
        refine rg_begin (S := Sx wv) (by kernel_rfl) (Sx.begin _) ?_
        have hS : Sx wv (World.drew wv) := (Sx.begin _)
        refine rg_take 0 (some 23) (.int .i64 c) (oi := { dst := some 23, op := Go.Op.move (Go.Operand.tmp 4), type := 34, pos := "qlex.go:191", after := #[], guard := none }) rfl rfl (by kernel_rfl) (by kernel_rfl) (by kernel_rfl) (fun _ _ _ h => h) hS (by rfl) (fun w' hs => by rfl) ?_
        simp only [Act.put, List.setIfInBounds_toArray, List.set_cons_zero, List.set_cons_succ]
        refine rg_take 1 (some 24) (.pointer (some ⟨w0.heap.size, 0, none⟩)) (oi := { dst := some 24, op := Go.Op.move (Go.Operand.tmp 0), type := 66, pos := "qlex.go:191", after := #[{ on := 5, ground := Go.Ground.gcOnly Go.Departure.lateStores }], guard := none }) rfl rfl (by kernel_rfl) (by kernel_rfl) (by kernel_rfl) (fun _ _ _ h => h) hS (by rfl) (fun w' hs => by rfl) ?_
        simp only [Act.put, List.setIfInBounds_toArray, List.set_cons_zero, List.set_cons_succ]
        refine rg_take 2 (some 25) (.pointer (some ⟨w0.heap.size, 0, none⟩)) (oi := { dst := some 25, op := Go.Op.nilCheck (Go.Operand.tmp 24), type := 0, pos := "qlex.go:191", after := #[{ on := 1, ground := Go.Ground.data }, { on := 5, ground := Go.Ground.gcOnly Go.Departure.lateStores }], guard := none }) rfl rfl (by kernel_rfl) (by kernel_rfl) (by kernel_rfl) (fun _ _ _ h => h) hS (by rfl) (fun w' hs => by first | rfl | go_simp) ?_
        simp only [Act.put, List.setIfInBounds_toArray, List.set_cons_zero, List.set_cons_succ]
        refine rg_take 3 (some 26) (.pointer (some ⟨w0.heap.size, 1, none⟩)) (oi := { dst := some 26, op := Go.Op.fieldAddr 68 (Go.Operand.tmp 25) 1, type := 0, pos := "qlex.go:191", after := #[{ on := 2, ground := Go.Ground.data }, { on := 5, ground := Go.Ground.gcOnly Go.Departure.lateStores }], guard := none }) rfl rfl (by kernel_rfl) (by kernel_rfl) (by kernel_rfl) (fun _ _ _ h => h) hS (by rfl) (fun w' hs => by first | rfl | go_simp) ?_
        simp only [Act.put, List.setIfInBounds_toArray, List.set_cons_zero, List.set_cons_succ]
        refine rg_take 4 (some 27) (.int .i64 j) (oi := { dst := some 27, op := Go.Op.load 3 (Go.Operand.tmp 26), type := 3, pos := "qlex.go:191", after := #[{ on := 3, ground := Go.Ground.data }, { on := 5, ground := Go.Ground.gcOnly Go.Departure.lateStores }], guard := none }) rfl rfl (by kernel_rfl) (by kernel_rfl) (by kernel_rfl) (fun _ _ _ h => h) hS (by rfl) (fun w' hs => by (have h0 := hs.cell hlt c1; go_simp)) ?_
        simp only [Act.put, List.setIfInBounds_toArray, List.set_cons_zero, List.set_cons_succ]
        refine rg_take 5 (some 2) (.int .i64 c) (oi := { dst := some 2, op := Go.Op.assign (Go.Operand.tmp 23), type := 34, pos := "qlex.go:191", after := #[{ on := 0, ground := Go.Ground.data }, { on := 0, ground := Go.Ground.phase }, { on := 1, ground := Go.Ground.textOnly Go.Departure.lateStores }, { on := 2, ground := Go.Ground.textOnly Go.Departure.lateStores }, { on := 3, ground := Go.Ground.textOnly Go.Departure.lateStores }, { on := 4, ground := Go.Ground.textOnly Go.Departure.lateStores }], guard := none }) rfl rfl (by kernel_rfl) (by kernel_rfl) (by kernel_rfl) (fun _ _ _ h => h) hS (by rfl) (fun w' hs => by rfl) ?_
        simp only [Act.put, List.setIfInBounds_toArray, List.set_cons_zero, List.set_cons_succ]
        refine rg_take 6 (some 3) (.int .i64 j) (oi := { dst := some 3, op := Go.Op.assign (Go.Operand.tmp 27), type := 3, pos := "qlex.go:191", after := #[{ on := 4, ground := Go.Ground.data }, { on := 5, ground := Go.Ground.chain }, { on := 0, ground := Go.Ground.phase }, { on := 1, ground := Go.Ground.phase }, { on := 2, ground := Go.Ground.phase }, { on := 3, ground := Go.Ground.phase }, { on := 4, ground := Go.Ground.phase }, { on := 5, ground := Go.Ground.phase }], guard := none }) rfl rfl (by kernel_rfl) (by kernel_rfl) (by kernel_rfl) (fun _ _ _ h => h) hS (by rfl) (fun w' hs => by rfl) ?_
        simp only [Act.put, List.setIfInBounds_toArray, List.set_cons_zero, List.set_cons_succ]
        refine rg_done (by kernel_rfl) ?_
        go_wp2_with fail
        go_ret2
        exact ⟨rfl, HS.out.2, HS.out.1.ext.trans hS⟩
      · obtain ⟨rfl, hS3, hle, hn0⟩ := hP
        have hk := skip_le s (j + n)
        have HK := Lib.hid (skip_any w0 _ s (j + n) _ hS3 hle hl)
        obtain ⟨f', rfl⟩ : ∃ f', f = f' + 1 := ⟨f - 1, by have := HR.out.2.1; omega⟩
        have hR := HR.out.2.2
        dsimp only at hR
        rw [scanGo_eq] at hR
        obtain ⟨j2, hj2⟩ : ∃ j2, j + n + skipS (s.drop (j + n)) = j2 := ⟨_, rfl⟩
        rw [hj2] at HK hR
        have HN : Hid ((out ++ [(⟨k, j, t⟩ : QT)]).length ≤ j2 ∧ s.length - j2 ≤ f' ∧ scanAt s f' j2 (out ++ [⟨k, j, t⟩]) = R) := Lib.hid ⟨by have := HR.out.1; simp; omega, by have := HR.out.2.1; omega, hR⟩
        have hj2l : j2 ≤ s.length := by omega
        have HJ := Lib.hid (show j < j2 by omega)
        clear hR hj2 HR hS3 hk hle
        go_wp2_with fail
        refine HK.out.mono ?_
        rintro e w4 ⟨rfl, hS4⟩
        have HS := Lib.hid hS4
        have k1 := hS4.c1
        clear HK hS4
        go_wp2_with fail
        go_roundw
        case rel => exact ⟨j2, f', _, HS, hj2l, HN⟩
        case measure => rw [HM.out]; simp only [atQ, k1]; have := HJ.out; simp; omega
    · go_wp2_with fail
      refine rg_begin (S := Sx wz) (by kernel_rfl) (Sx.begin _) ?_
      have hS : Sx wz (World.drew wz) := (Sx.begin _)
      refine rg_take 0 (some 7) (.pointer (some ⟨w0.heap.size, 0, none⟩)) (oi := { dst := some 7, op := Go.Op.move (Go.Operand.tmp 0), type := 66, pos := "qlex.go:189", after := #[], guard := none }) rfl rfl (by kernel_rfl) (by kernel_rfl) (by kernel_rfl) (fun _ _ _ h => h) hS (by rfl) (fun w' hs => by rfl) ?_
      simp only [Act.put, List.setIfInBounds_toArray, List.set_cons_zero, List.set_cons_succ]
      refine rg_take 1 (some 8) (.pointer (some ⟨w0.heap.size, 0, none⟩)) (oi := { dst := some 8, op := Go.Op.nilCheck (Go.Operand.tmp 7), type := 0, pos := "qlex.go:189", after := #[{ on := 0, ground := Go.Ground.data }], guard := none }) rfl rfl (by kernel_rfl) (by kernel_rfl) (by kernel_rfl) (fun _ _ _ h => h) hS (by rfl) (fun w' hs => by first | rfl | go_simp) ?_
      simp only [Act.put, List.setIfInBounds_toArray, List.set_cons_zero, List.set_cons_succ]
      refine rg_take 2 (some 9) (.pointer (some ⟨w0.heap.size, 1, none⟩)) (oi := { dst := some 9, op := Go.Op.fieldAddr 68 (Go.Operand.tmp 8) 1, type := 0, pos := "qlex.go:189", after := #[{ on := 1, ground := Go.Ground.data }], guard := none }) rfl rfl (by kernel_rfl) (by kernel_rfl) (by kernel_rfl) (fun _ _ _ h => h) hS (by rfl) (fun w' hs => by first | rfl | go_simp) ?_
      simp only [Act.put, List.setIfInBounds_toArray, List.set_cons_zero, List.set_cons_succ]
      refine rg_take 3 (some 10) (.int .i64 j) (oi := { dst := some 10, op := Go.Op.load 3 (Go.Operand.tmp 9), type := 3, pos := "qlex.go:189", after := #[{ on := 2, ground := Go.Ground.data }], guard := none }) rfl rfl (by kernel_rfl) (by kernel_rfl) (by kernel_rfl) (fun _ _ _ h => h) hS (by rfl) (fun w' hs => by (have h0 := hs.cell hlt c1; go_simp)) ?_
      simp only [Act.put, List.setIfInBounds_toArray, List.set_cons_zero, List.set_cons_succ]
      refine rg_take 4 (some 11) (.pointer (some ⟨w0.heap.size, 0, none⟩)) (oi := { dst := some 11, op := Go.Op.move (Go.Operand.tmp 0), type := 66, pos := "qlex.go:189", after := #[], guard := none }) rfl rfl (by kernel_rfl) (by kernel_rfl) (by kernel_rfl) (fun _ _ _ h => h) hS (by rfl) (fun w' hs => by rfl) ?_
      simp only [Act.put, List.setIfInBounds_toArray, List.set_cons_zero, List.set_cons_succ]
      refine rg_take 5 (some 12) (.pointer (some ⟨w0.heap.size, 0, none⟩)) (oi := { dst := some 12, op := Go.Op.nilCheck (Go.Operand.tmp 11), type := 0, pos := "qlex.go:189", after := #[{ on := 4, ground := Go.Ground.data }], guard := none }) rfl rfl (by kernel_rfl) (by kernel_rfl) (by kernel_rfl) (fun _ _ _ h => h) hS (by rfl) (fun w' hs => by first | rfl | go_simp) ?_
      simp only [Act.put, List.setIfInBounds_toArray, List.set_cons_zero, List.set_cons_succ]
      refine rg_take 6 (some 13) (.pointer (some ⟨w0.heap.size, 0, none⟩)) (oi := { dst := some 13, op := Go.Op.fieldAddr 68 (Go.Operand.tmp 12) 0, type := 0, pos := "qlex.go:189", after := #[{ on := 5, ground := Go.Ground.data }], guard := none }) rfl rfl (by kernel_rfl) (by kernel_rfl) (by kernel_rfl) (fun _ _ _ h => h) hS (by rfl) (fun w' hs => by first | rfl | go_simp) ?_
      simp only [Act.put, List.setIfInBounds_toArray, List.set_cons_zero, List.set_cons_succ]
      refine rg_take 7 (some 14) (.string (bs s)) (oi := { dst := some 14, op := Go.Op.load 9 (Go.Operand.tmp 13), type := 9, pos := "qlex.go:189", after := #[{ on := 6, ground := Go.Ground.data }], guard := none }) rfl rfl (by kernel_rfl) (by kernel_rfl) (by kernel_rfl) (fun _ _ _ h => h) hS (by rfl) (fun w' hs => by (have h0 := hs.cell hlt c0; go_simp)) ?_
      simp only [Act.put, List.setIfInBounds_toArray, List.set_cons_zero, List.set_cons_succ]
      refine rg_take 8 (some 15) (.int .i64 s.length) (oi := { dst := some 15, op := Go.Op.call { callee := Go.Callee.builtin Go.Builtin.len, args := #[Go.Operand.tmp 14], argTypes := #[9] }, type := 3, pos := "qlex.go:189", after := #[{ on := 7, ground := Go.Ground.data }], guard := none }) rfl rfl (by kernel_rfl) (by kernel_rfl) (by kernel_rfl) (fun _ _ _ h => h) hS (by rfl) (fun w' hs => by exact exec_slen rfl rfl _) ?_
      simp only [Act.put, List.setIfInBounds_toArray, List.set_cons_zero, List.set_cons_succ]
      refine rg_take 9 (some 16) (.bool false) (oi := { dst := some 16, op := Go.Op.binOp Go.BinOp.lss 3 (Go.Operand.tmp 10) (Go.Operand.tmp 15) 3, type := 4, pos := "qlex.go:189", after := #[{ on := 3, ground := Go.Ground.data }, { on := 8, ground := Go.Ground.data }], guard := none }) rfl rfl (by kernel_rfl) (by kernel_rfl) (by kernel_rfl) (fun _ _ _ h => h) hS (by rfl) (fun w' hs => by exact exec_lss (i := j) (j := s.length) rfl rfl rfl (decide_eq_false (by omega)) _) ?_
      simp only [Act.put, List.setIfInBounds_toArray, List.set_cons_zero, List.set_cons_succ]
      refine rg_done (by kernel_rfl) ?_
      replace HS := Lib.hid (HS.out.step hS)
      have hR := HI.out.2.2
      unfold scanAt at hR
      rw [if_pos (by omega)] at hR
      obtain rfl : _ = R := hR
      have HL := Lib.hid (show out.length ≤ s.length by have := HI.out.1; omega)
      go_wp2_with fail
      go_ret2
      exact ⟨rfl, HL.out, j, HS.out⟩

end Go.Proofs.YtfoclfefjcnllaaGreatDoor

/-
  qlex.All. Helper lemmas; no statement of the seat is proved here.
-/
namespace Go.Proofs.YtfoclfefjcnllaaGreatDoor
open Go.RowKit
set_option maxRecDepth 100000
set_option linter.unusedVariables false
set_option linter.unusedSimpArgs false

theorem errW (code at' : Int) (s : ByteArray) (w : World) : ErrV ((w.alloc (.cells #[.int .i64 code, .int .i64 at'] 56)).alloc (.cells #[.string s, .iface 52 (.pointer (some ⟨w.heap.size, 0, none⟩))] 79)) w.heap.size code at' (.iface 77 (.pointer (some ⟨w.heap.size + 1, 0, none⟩))) := by
  refine ⟨w.heap.size + 1, w.heap.size, rfl, by simp, by simp <;> omega, ?_, ?_, ?_, by simp, Nat.le_refl _⟩
  · rw [show w.heap.size + 1 = (w.alloc (.cells #[.int .i64 code, .int .i64 at'] 56)).heap.size by simp]; simp [go_sem]
  · exact ((Ext.refl _).alloc _).keep (by simp) (by simp [go_sem])
  · exact ((Ext.refl _).alloc _).keep (by simp) (by simp [go_sem])
theorem ErrV.lo {w : World} {a b : Nat} {code at' : Int} {v : Value} (h : ErrV w b code at' v) (hab : a ≤ b) : ErrV w a code at' v := by
  obtain ⟨b1, b2, h0, h1, h2, h3, h4, h5, h6, h7⟩ := h
  exact ⟨b1, b2, h0, h1, h2, h3, h4, h5, Nat.le_trans hab h6, Nat.le_trans hab h7⟩
def AllP (w : World) (s : List UInt8) (r : Except (Int × Int) (List QT)) (e : Ending) (w' : World) : Prop := Ext w w' ∧ match r with
  | .error (c, a) => ∃ v, e = .returned (.tuple #[.slice none 0 0, v]) ∧ ErrV w' w.heap.size c a v ∧ c ≠ 0
  | .ok l => ∃ v, e = .returned (.tuple #[v, .nilIface]) ∧ l.length ≤ s.length ∧ Rep w' (fun b => w.heap.size ≤ b) v (toksD l) ∧ ∀ t ∈ l, t.text.length ≤ 1000
set_option maxHeartbeats 16000000 in
theorem all_any (s : List UInt8) (w : World) (hl : s.length ≤ 1000) (hT : ∀ W, Ext w W → Tabs W) :
    Calls Tryz.prog 13 #[.string (bs s)] w (AllP w s (allS s)) := by
  obtain ⟨R, hR⟩ : ∃ R, allS s = R := ⟨_, rfl⟩
  rw [hR]
  unfold allS at hR
  rw [if_neg (by omega)] at hR
  obtain ⟨w1, hw1⟩ : ∃ W, w.alloc (.cells #[.string (bs s), .int .i64 0, .slice none 0 0] 68) = W := ⟨_, rfl⟩
  have hE1 : Ext w w1 := by rw [← hw1]; exact (Ext.refl w).alloc _
  have hblk : w1.heap[w.heap.size]? = some (.cells [.string (bs s), .int .i64 0, .slice none 0 0].toArray 68 (0, 0)) := by rw [← hw1]; exact Array.getElem?_push_size
  have hS1 : SC w w1 s 0 [] := ⟨hE1, blk_cells hblk 0 rfl, blk_cells hblk 1 rfl, ⟨_, blk_cells hblk 2 rfl, Own.nil _ _ _ _ _⟩, blk_free hblk, blk_free hblk, fun t h => by cases h⟩
  obtain ⟨bv, Wb, hconv, hE2, hrep⟩ := conv_bytes w1 s (by omega)
  have HB := Lib.hid (bad_any s hl _ bv Wb (fun W hW => hT W (hE1.trans (hE2.trans hW))) hrep)
  have hS2 := hS1.step hE2
  obtain ⟨bd, hbd⟩ : ∃ b, badS s = b := ⟨_, rfl⟩
  rw [hbd] at HB hR
  have HR := Lib.hid hR
  have HS := Lib.hid (And.intro hS2 hT)
  have hlI : ((bs s).size : Int) ≤ 1000 := by rw [bs_size]; omega
  obtain ⟨ba, bc, rfl, _, _⟩ := by_count hrep
  clear hR hbd hE2 hrep hS2 hS1 hblk hT
  go_enter Tryz.func13, Tryz.ntmps13
  go_wp2_with fail
  refine HB.out.mono ?_
  rintro e w3 ⟨rfl, hX3⟩
  replace HS := Lib.hid (And.intro (HS.out.1.step hX3) HS.out.2)
  clear HB hX3 hconv hw1 hE1
  by_cases h0 : 0 ≤ bd
  · obtain rfl : _ = R := (if_pos h0).symm.trans HR.out
    have HX := Lib.hid HS.out.1.ext
    have hnz : (1 : Int) ≠ 0 := by decide
    clear HS
    go_wp2_with fail
    refine (new_any 1 bd hnz _).mono ?_
    rintro e w5 ⟨rfl, hw5⟩
    go_wp2_with fail
    refine (wrap_any _ _ _).mono ?_
    rintro e w6 ⟨rfl, hw6⟩
    go_wp2_with fail
    go_ret2
    subst hw5
    subst hw6
    exact ⟨HX.out.trans (((Ext.refl _).alloc _).alloc _), _, rfl, (errW _ _ _ _).lo HX.out.size, hnz⟩
  · have hR := (if_neg h0).symm.trans HR.out
    have HC := Lib.hid (scan_any w _ s HS.out.1 hl HS.out.2)
    rw [hR] at HC
    have HT := Lib.hid HS.out.2
    clear hR HR HS
    go_wp2_with fail
    refine HC.out.mono ?_
    intro e w4 hP
    clear HC
    rcases R with ⟨c, a⟩ | l
    · obtain ⟨rfl, hc0, hX⟩ := hP
      have HX := Lib.hid hX
      have q0 : (c != 0) = true := by rw [bne_iff_ne]; exact hc0
      have HNZ := Lib.hid hc0
      clear hX hc0
      go_wp2_with fail
      refine (new_any c a HNZ.out _).mono ?_
      rintro e w5 ⟨rfl, hw5⟩
      go_wp2_with fail
      refine (wrap_any _ _ _).mono ?_
      rintro e w6 ⟨rfl, hw6⟩
      go_wp2_with fail
      go_ret2
      subst hw5
      subst hw6
      exact ⟨HX.out.trans (((Ext.refl _).alloc _).alloc _), _, rfl, (errW _ _ _ _).lo HX.out.size, HNZ.out⟩
    · obtain ⟨rfl, hle, i, hS⟩ := hP
      obtain ⟨ov, c2, hown⟩ := hS.row
      have HS := Lib.hid (And.intro hS hown)
      have hlt := hS.lt
      clear hS hown
      go_wp2_with fail
      go_ret2
      exact ⟨HS.out.1.ext, ov, rfl, hle, (HS.out.2.rep).ok fun b hb => hb.elim (fun h => h.elim) fun h => by omega, HS.out.1.tx⟩

end Go.Proofs.YtfoclfefjcnllaaGreatDoor

/-
  Plain facts on texts of decimal numbers, over lists of bytes. No program in sight. Helper lemmas; no statement of the seat is proved here.
-/
namespace Go.Proofs.YtfoclfefjcnllaaGreatDoor
namespace KText

/-! ### the last digits of a number -/
def dgt (n : Nat) : UInt8 := UInt8.ofNat (48 + n % 10)
/-- The last k digits of a number, the last one first. -/
def low : Nat → Nat → List UInt8
  | 0, _ => []
  | k + 1, a => dgt a :: low k (a / 10)
theorem dec_big (u : Nat) (h : ¬ u < 10) : Lib.decDigits u = Lib.decDigits (u / 10) ++ [dgt u] := by
  rw [Lib.decDigits, dif_neg h]; rfl
theorem dec_small (u : Nat) (h : u < 10) : Lib.decDigits u = [dgt u] := by
  rw [Lib.decDigits, dif_pos h]; unfold dgt; rw [Nat.mod_eq_of_lt h]
theorem low_length : ∀ k a, (low k a).length = k
  | 0, _ => rfl
  | k + 1, a => by simp [low, low_length k]
theorem dec_low (k : Nat) : ∀ f, f < 10 ^ k → Lib.decDigits (f + 10 ^ k) = 49 :: (low k f).reverse := by
  induction k with
  | zero => intro f h; have : f = 0 := by simpa using h
            subst this; rw [dec_small _ (by decide)]; rfl
  | succ k ih =>
    intro f h
    rw [Nat.pow_succ] at h
    have hp : 1 ≤ 10 ^ k := Nat.one_le_pow _ _ (by decide)
    rw [Nat.pow_succ, dec_big _ (by omega)]
    have e : (f + 10 ^ k * 10) / 10 = f / 10 + 10 ^ k := by omega
    have e2 : dgt (f + 10 ^ k * 10) = dgt f := by unfold dgt; congr 2; omega
    rw [e, e2, ih _ (by omega)]
    simp [low]
theorem dec_million (f : Nat) (h : f < 1000000) : Lib.decDigits (f + 1000000) = 49 :: (low 6 f).reverse := dec_low 6 f h

/-! ### digits and values -/
def isDig (c : UInt8) : Bool := decide (48 ≤ c.toNat) && decide (c.toNat ≤ 57)
theorem dgt_toNat (n : Nat) : (dgt n).toNat = 48 + n % 10 := by
  unfold dgt; rw [UInt8.toNat_ofNat']; omega
theorem isDig_dgt (n : Nat) : isDig (dgt n) = true := by unfold isDig; rw [dgt_toNat]; simp; omega
theorem low_dig : ∀ k a, ∀ c ∈ low k a, isDig c = true
  | 0, _, c, h => by cases h
  | k + 1, a, c, h => by
    simp [low] at h
    rcases h with rfl | h
    · exact isDig_dgt a
    · exact low_dig k _ c h
theorem dec_dig (u : Nat) : ∀ c ∈ Lib.decDigits u, isDig c = true := by
  induction u using Nat.strongRecOn with
  | _ u ih =>
    intro c hc
    by_cases h : u < 10
    · rw [dec_small u h] at hc; simp at hc; subst hc; exact isDig_dgt u
    · rw [dec_big u h] at hc
      simp at hc
      rcases hc with hc | rfl
      · exact ih _ (by omega) c hc
      · exact isDig_dgt u
def val (acc : Nat) (l : List UInt8) : Nat := l.foldl (fun a c => a * 10 + (c.toNat - 48)) acc
theorem val_append (acc : Nat) (l m : List UInt8) : val acc (l ++ m) = val (val acc l) m := by unfold val; rw [List.foldl_append]
theorem val_acc : ∀ (l : List UInt8) (acc : Nat), val acc l = acc * 10 ^ l.length + val 0 l
  | [], acc => by simp [val]
  | c :: l, acc => by
    show val (acc * 10 + (c.toNat - 48)) l = _ + val (0 * 10 + (c.toNat - 48)) l
    rw [val_acc l (acc * 10 + (c.toNat - 48)), val_acc l (0 * 10 + (c.toNat - 48)), List.length_cons, Nat.pow_succ, Nat.zero_mul, Nat.zero_add, Nat.add_mul, Nat.mul_comm (10 ^ l.length) 10, ← Nat.mul_assoc, Nat.add_assoc]
theorem val_mono (l : List UInt8) (acc : Nat) : acc ≤ val acc l := by
  rw [val_acc]
  have := Nat.one_le_pow l.length 10 (by decide)
  have := Nat.mul_le_mul_left acc this
  omega
theorem val_dec (u : Nat) : val 0 (Lib.decDigits u) = u := by
  induction u using Nat.strongRecOn with
  | _ u ih =>
    by_cases h : u < 10
    · rw [dec_small u h]; show 0 * 10 + ((dgt u).toNat - 48) = u; rw [dgt_toNat]; omega
    · rw [dec_big u h, val_append, ih _ (by omega)]
      show u / 10 * 10 + ((dgt u).toNat - 48) = u
      rw [dgt_toNat]; omega
theorem val_low : ∀ k f, f < 10 ^ k → val 0 (low k f).reverse = f
  | 0, f, h => by have : f = 0 := by simpa using h
                  subst this; rfl
  | k + 1, f, h => by
    rw [Nat.pow_succ] at h
    rw [low, List.reverse_cons, val_append, val_low k (f / 10) (by omega)]
    show f / 10 * 10 + ((dgt f).toNat - 48) = f
    rw [dgt_toNat]; omega
theorem val_zeros (acc : Nat) : ∀ k, val acc (List.replicate k 48) = acc * 10 ^ k
  | 0 => by simp [val]
  | k + 1 => by
    rw [List.replicate_succ]
    show val (acc * 10 + (48 - 48)) (List.replicate k 48) = _
    rw [val_zeros _ k, Nat.pow_succ, Nat.sub_self, Nat.add_zero, Nat.mul_assoc, Nat.mul_comm 10]
theorem val_lead : ∀ (l : List UInt8), val 0 (Lib.trimLeftS l [48]) = val 0 l
  | [] => rfl
  | c :: l => by
    unfold Lib.trimLeftS
    rw [List.dropWhile_cons]
    by_cases h : c = 48
    · subst h
      rw [if_pos (by decide)]
      have := val_lead l
      unfold Lib.trimLeftS at this
      rw [this]; rfl
    · rw [if_neg (by simpa using h)]
theorem val_lt : ∀ (l : List UInt8), (∀ c ∈ l, isDig c = true) → val 0 l < 10 ^ l.length
  | [], _ => by simp [val]
  | c :: l, h => by
    have hc := h c (by simp)
    have ih := val_lt l (fun d hd => h d (by simp [hd]))
    rw [show val 0 (c :: l) = val (c.toNat - 48) l by show val (0 * 10 + (c.toNat - 48)) l = _; rw [Nat.zero_mul, Nat.zero_add], val_acc, List.length_cons, Nat.pow_succ]
    have h9 : c.toNat - 48 ≤ 9 := by unfold isDig at hc; simp at hc; omega
    have := Nat.mul_le_mul_right (10 ^ l.length) h9
    omega
theorem parse_ok : ∀ (l : List UInt8) (acc : Nat), (∀ c ∈ l, isDig c = true) → (acc + 1) * 10 ^ l.length ≤ 10 ^ 18 → Lib.parseUintM (2 ^ 64 - 1) acc l = .ok (val acc l)
  | [], acc, _, _ => rfl
  | c :: l, acc, h, hb => by
    have hc := h c (by simp)
    unfold isDig at hc
    simp at hc
    rw [List.length_cons, Nat.pow_succ] at hb
    have hp : 1 ≤ 10 ^ l.length := Nat.one_le_pow _ _ (by decide)
    have hb1 : (acc + 1) * 10 * 10 ^ l.length ≤ 10 ^ 18 := by rw [Nat.mul_assoc, Nat.mul_comm 10]; exact hb
    have hb2 : (acc + 1) * 10 * 1 ≤ (acc + 1) * 10 * 10 ^ l.length := Nat.mul_le_mul_left _ hp
    have e18 : (10 : Nat) ^ 18 = 1000000000000000000 := by decide
    have e64 : (2 : Nat) ^ 64 - 1 = 18446744073709551615 := by decide
    rw [Lib.parseUintM, if_pos (by omega), if_neg (by omega), if_neg (by omega)]
    rw [parse_ok l _ (fun d hd => h d (by simp [hd])) (Nat.le_trans (Nat.mul_le_mul_right _ (by omega)) hb1)]
    rfl
theorem parseB_ok (l : List UInt8) (hne : l ≠ []) (h : ∀ c ∈ l, isDig c = true) (hl : l.length ≤ 18) : Lib.parseUintB 64 l = .ok (val 0 l) := by
  rw [Lib.parseUintB, if_neg hne]
  exact parse_ok l 0 h (by rw [Nat.zero_add, Nat.one_mul]; exact Nat.pow_le_pow_right (by decide) hl)

/-! ### trimming -/
theorem dropWhile_nil {p : UInt8 → Bool} : ∀ (l : List UInt8), l.dropWhile p = [] ↔ ∀ c ∈ l, p c = true
  | [] => by simp
  | c :: l => by
    rw [List.dropWhile_cons]
    by_cases h : p c = true
    · rw [if_pos h, dropWhile_nil l]; simp [h]
    · rw [if_neg h]; simp [h]
theorem dropWhile_head {p : UInt8 → Bool} : ∀ (l : List UInt8) (c : UInt8) (r : List UInt8), l.dropWhile p = c :: r → p c = false
  | [], _, _, h => by cases h
  | d :: l, c, r, h => by
    rw [List.dropWhile_cons] at h
    by_cases hd : p d = true
    · rw [if_pos hd] at h; exact dropWhile_head l c r h
    · rw [if_neg hd] at h; injection h with h1 _; subst h1; simpa using hd
theorem trimS_nil (l cs : List UInt8) : Lib.trimS l cs = [] ↔ ∀ c ∈ l, cs.contains c = true := by
  unfold Lib.trimS Lib.trimLeftS Lib.trimRightS
  rw [dropWhile_nil]
  constructor
  · intro h
    cases hx : l.reverse.dropWhile (cs.contains ·) with
    | nil =>
      rw [dropWhile_nil] at hx
      intro c hc; exact hx c (by simpa using hc)
    | cons c r =>
      have := dropWhile_head _ _ _ hx
      rw [hx] at h
      have := h c (by simp)
      simp_all
  · intro h c hc
    have := List.dropWhile_sublist (cs.contains ·) (l := l.reverse)
    have hm := this.mem (List.mem_reverse.1 hc)
    exact h c (List.mem_reverse.1 hm)
theorem digits_mem (c : UInt8) : [48, 49, 50, 51, 52, 53, 54, 55, 56, 57].contains c = isDig c := by
  have : ∀ n : Fin 256, ([48, 49, 50, 51, 52, 53, 54, 55, 56, 57] : List UInt8).contains (UInt8.ofNat n.val) = isDig (UInt8.ofNat n.val) := by decide +kernel
  have h := this ⟨c.toNat, c.toNat_lt⟩
  simpa using h
theorem digits_all (l : List UInt8) : (Lib.trimS l [48, 49, 50, 51, 52, 53, 54, 55, 56, 57]).isEmpty = l.all isDig := by
  rw [Bool.eq_iff_iff, List.isEmpty_iff, trimS_nil, List.all_eq_true]
  constructor
  · intro h c hc; rw [← digits_mem]; exact h c hc
  · intro h c hc; rw [digits_mem]; exact h c hc
end KText
end Go.Proofs.YtfoclfefjcnllaaGreatDoor

/-
  strconv.FormatUint at base 10: the contract, over the shelf's contracts of small, numDigits, formatBase10. Helper lemmas; no statement of the seat is proved here.
-/
namespace Go.Proofs.YtfoclfefjcnllaaGreatDoor
open Go.RowKit Go.Sort Go.Lib
set_option maxRecDepth 100000

theorem fmt_small (i : Nat) (hi : i < 100) (w : World) :
    Calls Tryz.prog 52 #[.int .u64 i, .int .i64 10] w fun e w' => e = .returned (.string ⟨(Lib.decDigits i).toArray⟩) ∧ Ext w w' := by
  have hi' : (i : Int) < 100 := by omega
  go_enter Tryz.func52, Tryz.ntmps52
  go_wp2_with (go_at_call 74; refine (Tryz.internal_strconv_small i hi _).mono ?_; rintro e w' ⟨rfl, rfl⟩)
  go_ret
  exact ⟨rfl, Ext.refl _⟩

set_option maxHeartbeats 3200000 in
theorem fmt_big (u : Nat) (hu : 100 ≤ u) (hu64 : u < 18446744073709551616) (w : World) (htab : Lib.TabIs Tryz.prog w "internal/strconv.uint64pow10" .u64 Lib.pow10Tab) :
    Calls Tryz.prog 52 #[.int .u64 u, .int .i64 10] w fun e w' => e = .returned (.string ⟨(Lib.decDigits u).toArray⟩) ∧ Ext w w' := by
  have hu1 : 1 ≤ u := by omega
  have hnd20 : Lib.nDigits u ≤ 20 := by have := Lib.numDigits_eq u hu1 hu64; split at this <;> omega
  have hal : Tryz.prog.arrayLen 146 = 24 := by simp [Program.arrayLen, Tryz.underlying146]
  have hsl : ∀ W, (Instr.sliceAt 146 (.pointer (some ⟨w.heap.size, 0, none⟩)) none (some (.int .i64 (Lib.nDigits u : Int))) none).run Tryz.prog W = .ok (.slice (some ⟨w.heap.size, 0, none⟩) (Lib.nDigits u) 24) W := fun W => by
    rw [run_sliceAt_array_h W 146 ⟨w.heap.size, 0, none⟩ (by simp [Program.arrayLen, Program.elem, Tryz.underlying146]) .i64 (Lib.nDigits u : Int) (by omega) (by rw [hal]; omega)]
    go_simp
  have hH0 := Lib.holds_zero0 w 146 (Lib.nDigits u) (by omega)
  have hfmt := Tryz.internal_strconv_formatBase10 w.heap.size 0 24 u (Array.replicate (Lib.nDigits u) 0) (w.alloc (.cells Lib.zeros24 146)) hH0 (by rw [Array.size_replicate]; exact Lib.lt_pow_nDigits u) hu64 (by rw [Array.size_replicate]; omega)
  rw [Array.size_replicate] at hfmt
  have HH0 := Lib.hid hH0
  have iu : (100 : Int) ≤ (u : Int) := by omega
  clear hH0 hal
  go_enter Tryz.func52, Tryz.ntmps52
  go_wp2_with (first
    | (go_at_call 75; refine (Tryz.internal_strconv_numDigits u hu1 hu64 _ (Lib.tabIs_alloc htab _)).mono ?_; rintro e w' ⟨rfl, rfl⟩))
  go_at_call 76
  refine hfmt.mono ?_
  rintro e w' ⟨rfl, k, v', dk, rfl, hF⟩
  have hcv : (convert 70 9 (.slice (some ⟨w.heap.size, 0, none⟩) (Lib.nDigits u) 24)).run Tryz.prog ((putRow (fun (b : UInt8) => Value.int .u8 (b.toNat : Int)) (w.alloc (.cells Lib.zeros24 146)) w.heap.size 0 dk).drewN k) = .ok (.string ⟨(Lib.decDigits u).toArray⟩) ((putRow (fun (b : UInt8) => Value.int .u8 (b.toNat : Int)) (w.alloc (.cells Lib.zeros24 146)) w.heap.size 0 dk).drewN k) := by
    have h := run_convert_bytes_back (P := Tryz.prog) ((putRow (fun (b : UInt8) => Value.int .u8 (b.toNat : Int)) (w.alloc (.cells Lib.zeros24 146)) w.heap.size 0 dk).drewN k) 70 9 5 ⟨w.heap.size, 0, none⟩ 24 (Lib.decDigits u) Tryz.underlying70 Tryz.underlying5 Tryz.underlying9 (fun j hj => by
      rw [Lib.row_is_numeral hF j hj, Lib.add_plain, World.cell?_drewN]
      exact cell?_putRow (fun (b : UInt8) => Value.int .u8 (b.toNat : Int)) _ w.heap.size 0 _ dk HH0.out (by rw [hF.size, Array.size_replicate]) j (by rw [hF.size]; rw [Lib.decDigits_length] at hj; exact hj))
    rw [Lib.decDigits_length] at h
    exact h
  obtain ⟨os, eo⟩ := Lib.fin_at w (.cells Lib.zeros24 146) dk k 0
  have EO := Lib.hid eo
  clear eo
  go_wp2
  go_ret
  refine ⟨rfl, ?_⟩
  rw [EO.out]
  exact Lib.below_grow w.heap.size w (Nat.le_refl _) k os

theorem fmt_any (u : Nat) (hu64 : u < 18446744073709551616) (w : World) (htab : Lib.TabIs Tryz.prog w "internal/strconv.uint64pow10" .u64 Lib.pow10Tab) :
    Calls Tryz.prog 37 #[.int .u64 u, .int .i64 10] w fun e w' => e = .returned (.string ⟨(Lib.decDigits u).toArray⟩) ∧ Ext w w' := by
  have h : Calls Tryz.prog 52 #[.int .u64 u, .int .i64 10] w fun e w' => e = .returned (.string ⟨(Lib.decDigits u).toArray⟩) ∧ Ext w w' := by
    by_cases hi : u < 100
    · exact fmt_small u hi w
    · exact fmt_big u (by omega) hu64 w htab
  have H := Lib.hid h
  clear h
  go_enter Tryz.func37, Tryz.ntmps37
  go_wp2_with (go_at_call 52; refine H.out.mono ?_; rintro e w' ⟨rfl, hB⟩)
  go_ret
  exact ⟨rfl, hB⟩
end Go.Proofs.YtfoclfefjcnllaaGreatDoor

/-
  Laws drawn from elder texts. Helper lemmas; no statement of the seat is proved here.
-/
namespace Go.Proofs.YtfoclfefjcnllaaGreatDoor
open Go.RowKit
set_option maxRecDepth 100000
set_option linter.unusedVariables false
set_option linter.unusedSimpArgs false

def oddB (n : Bool) (v : Int) : Bool := n || decide (1000000000000000 < v) || decide (v < -1000000000000000)
def oddL (xs : List (Bool × Int)) : Bool := xs.any fun p => oddB p.1 p.2
theorem oddL_take (xs : List (Bool × Int)) (k : Nat) (h : k < xs.length) (h1 : oddL (xs.take k) = false) (h2 : oddB xs[k].1 xs[k].2 = false) : oddL (xs.take (k + 1)) = false := by
  unfold oddL at *
  rw [List.take_succ_eq_append_getElem h, List.any_append, h1]; simpa using h2
theorem oddL_at (xs : List (Bool × Int)) (k : Nat) (h : k < xs.length) (h2 : oddB xs[k].1 xs[k].2 = true) : oddL xs = true := by
  unfold oddL; rw [List.any_eq_true]; exact ⟨xs[k], List.getElem_mem h, h2⟩
theorem oddB_hi (n : Bool) (v : Int) (h : 1000000000000000 < v) : oddB n v = true := by simp [oddB, h]
theorem oddB_lo (n : Bool) (v : Int) (h : v < -1000000000000000) : oddB n v = true := by simp [oddB, h]
theorem oddB_no (v : Int) (h : ¬ 1000000000000000 < v) (h' : -1000000000000000 ≤ v) : oddB false v = false := by simp [oddB]; omega
theorem oddB_false {n : Bool} {v : Int} (h : oddB n v = false) : n = false ∧ v ≤ 1000000000000000 ∧ -1000000000000000 ≤ v := by
  simp [oddB] at h; obtain ⟨⟨h1, h2⟩, h3⟩ := h; exact ⟨h1, by omega, by omega⟩
/-- A number and a code, as they are returned. -/
abbrev Out := (Bool × Int) × Int
def fitS (v : Int) : Out := if 1000000000000000 < v ∨ v < -1000000000000000 then ((false, 0), 66) else ((false, v), 0)
theorem fitS_hi {v : Int} (h : 1000000000000000 < v) : fitS v = ((false, 0), 66) := by rw [fitS, if_pos (Or.inl h)]
theorem fitS_lo {v : Int} (h : v < -1000000000000000) : fitS v = ((false, 0), 66) := by rw [fitS, if_pos (Or.inr h)]
theorem fitS_in {v : Int} (h : v ≤ 1000000000000000) (h' : -1000000000000000 ≤ v) : fitS v = ((false, v), 0) := by rw [fitS, if_neg (by omega)]
def noneS : Out := ((true, 0), 0)
set_option maxRecDepth 100000 in
theorem odd_any (xs : List (Bool × Int)) (b o : Nat) (w : World) (hb : b < w.heap.size) (hm : xs.length ≤ 2)
   (hc0 : ∀ k (h : k < xs.length), w.cell? ⟨b, o + k * 2, none⟩ = some (.bool xs[k].1))
   (hc1 : ∀ k (h : k < xs.length), w.cell? ⟨b, o + k * 2 + 1, none⟩ = some (.int .i64 xs[k].2)) :
    Calls Tryz.prog 35 #[.slice (some ⟨b, o, none⟩) xs.length xs.length] w fun e w' => e = .returned (.bool (oddL xs)) ∧ Ext w w' := by
    go_enter Tryz.func35, Tryz.ntmps35
    go_wp2_with fail
    have H0 := Lib.hid hc0; have H1 := Lib.hid hc1; clear hc0 hc1
    go_loopw [7] (fun i wr => ∃ k : Nat, k ≤ xs.length ∧ i = .int .i64 k ∧ oddL (xs.take k) = false ∧ Ext w wr) (fun i _ => xs.length - (intOf i).toNat)
    case atStart => exact ⟨0, Nat.zero_le _, rfl, rfl, Ext.refl _⟩
    case round =>
      obtain ⟨k, hk, rfl, he, hB⟩ := hrel
      have HE := Lib.hid he; clear he
      by_cases hlt : k < xs.length
      · have c0 : wr.cell? ⟨b, o + k * 2, none⟩ = some (.bool xs[k].1) := by rw [hB.cells _ _ hb]; exact H0.out k hlt
        have c1 : wr.cell? ⟨b, o + k * 2 + 1, none⟩ = some (.int .i64 xs[k].2) := by rw [hB.cells _ _ hb]; exact H1.out k hlt
        have hsz : w.heap.size ≤ wr.heap.size := hB.size
        cases hn : xs[k].1 with
        | true =>
          have hodd := Lib.hid (oddL_at xs k hlt (by rw [hn]; rfl))
          go_wp2_with fail
          go_ret
          exact ⟨by rw [hodd.out]; rfl, hB.alloc _⟩
        | false =>
          by_cases h1 : 1000000000000000 < xs[k].2
          · have hodd := Lib.hid (oddL_at xs k hlt (oddB_hi _ _ h1))
            go_wp2_with fail
            go_ret
            exact ⟨by rw [hodd.out]; rfl, hB.alloc _⟩
          · by_cases h2 : xs[k].2 < -1000000000000000
            · have hodd := Lib.hid (oddL_at xs k hlt (oddB_lo _ _ h2))
              go_wp2_with fail
              go_ret
              exact ⟨by rw [hodd.out]; rfl, hB.alloc _⟩
            · have hodd := Lib.hid (oddL_take xs k hlt HE.out (by rw [hn]; exact oddB_no _ h1 (by omega)))
              go_wp2_with fail
              go_roundw
              case rel => exact ⟨k + 1, by omega, by go_num, hodd.out, hB.alloc _⟩
              case measure => simp [intOf]; omega
      · have hk' : k = xs.length := by omega
        have hodd : Hid (oddL xs = false) := by have := HE.out; rw [hk', List.take_length] at this; exact this
        clear hk'
        go_wp2_with fail
        go_ret
        exact ⟨by rw [hodd.out]; rfl, hB⟩
theorem odd2_any (an bn : Bool) (av bv : Int) (b : Nat) (w : World) (hb : b < w.heap.size)
    (c0 : w.cell? ⟨b, 0, none⟩ = some (.bool an)) (c1 : w.cell? ⟨b, 1, none⟩ = some (.int .i64 av))
    (c2 : w.cell? ⟨b, 2, none⟩ = some (.bool bn)) (c3 : w.cell? ⟨b, 3, none⟩ = some (.int .i64 bv)) :
    Calls Tryz.prog 35 #[.slice (some ⟨b, 0, none⟩) 2 2] w fun e w' => e = .returned (.bool (oddB an av || oddB bn bv)) ∧ Ext w w' := by
  have h := odd_any [(an, av), (bn, bv)] b 0 w hb (by simp)
    (fun k h => by match k, h with | 0, _ => exact c0 | 1, _ => exact c2)
    (fun k h => by match k, h with | 0, _ => exact c1 | 1, _ => exact c3)
  refine h.mono fun e w' ⟨he, hw⟩ => ⟨?_, hw⟩
  rw [he]; simp [oddL]
theorem odd1_any (an : Bool) (av : Int) (b : Nat) (w : World) (hb : b < w.heap.size)
    (c0 : w.cell? ⟨b, 0, none⟩ = some (.bool an)) (c1 : w.cell? ⟨b, 1, none⟩ = some (.int .i64 av)) :
    Calls Tryz.prog 35 #[.slice (some ⟨b, 0, none⟩) 1 1] w fun e w' => e = .returned (.bool (oddB an av)) ∧ Ext w w' := by
  have h := odd_any [(an, av)] b 0 w hb (by simp)
    (fun k h => by match k, h with | 0, _ => exact c0)
    (fun k h => by match k, h with | 0, _ => exact c1)
  refine h.mono fun e w' ⟨he, hw⟩ => ⟨?_, hw⟩
  rw [he]; simp [oddL]
theorem nan_any (w : World) : Calls Tryz.prog 139 #[] w fun e w' => e = .returned (.agg #[.bool true, .int .i64 0]) ∧ Ext w w' := by
  go_enter Tryz.func139, Tryz.ntmps139
  go_wp2_with fail
  exact bodyPost_ret (v := .agg #[.bool true, .int .i64 0]) (by simp [results, Tryz.results139, go_sem]) rfl ⟨rfl, (Ext.refl _).alloc _⟩
theorem made_hi (s : Int) (n : Bool) (w : World) (h : 1000000000000000 < s) :
    Calls Tryz.prog 141 #[.int .u64 s, .bool n] w fun e w' => e = .returned (.tuple #[.agg #[.bool false, .int .i64 0], .int .i64 66]) ∧ Ext w w' := by
  go_enter Tryz.func141, Tryz.ntmps141
  go_wp2_with fail
  exact bodyPost_ret (v := .tuple #[.agg #[.bool false, .int .i64 0], .int .i64 66]) (by simp [results, Tryz.results141, go_sem]) rfl ⟨rfl, (Ext.refl _).alloc _⟩
theorem made_neg (s : Int) (w : World) (h0 : 0 ≤ s) (h : s ≤ 1000000000000000) :
    Calls Tryz.prog 141 #[.int .u64 s, .bool true] w fun e w' => e = .returned (.tuple #[.agg #[.bool false, .int .i64 (-s)], .int .i64 0]) ∧ Ext w w' := by
  go_enter Tryz.func141, Tryz.ntmps141
  go_wp2_with fail
  exact bodyPost_ret (v := .tuple #[.agg #[.bool false, .int .i64 (-s)], .int .i64 0]) (by simp [results, Tryz.results141, go_sem]) rfl ⟨rfl, (Ext.refl _).alloc _⟩
theorem made_pos (s : Int) (w : World) (h0 : 0 ≤ s) (h : s ≤ 1000000000000000) :
    Calls Tryz.prog 141 #[.int .u64 s, .bool false] w fun e w' => e = .returned (.tuple #[.agg #[.bool false, .int .i64 s], .int .i64 0]) ∧ Ext w w' := by
  go_enter Tryz.func141, Tryz.ntmps141
  go_wp2_with fail
  exact bodyPost_ret (v := .tuple #[.agg #[.bool false, .int .i64 s], .int .i64 0]) (by simp [results, Tryz.results141, go_sem]) rfl ⟨rfl, (Ext.refl _).alloc _⟩
/-- made, whatever the size: what fitS says of the signed size. -/
theorem made_any (s : Int) (n : Bool) (w : World) (h0 : 0 ≤ s) (v : Int) (hv : v = if n then -s else s) :
    Calls Tryz.prog 141 #[.int .u64 s, .bool n] w fun e w' => e = .returned (.tuple #[.agg #[.bool (fitS v).1.1, .int .i64 (fitS v).1.2], .int .i64 (fitS v).2]) ∧ Ext w w' := by
  by_cases h : 1000000000000000 < s
  · have e : fitS v = ((false, 0), 66) := by
      subst hv; cases n
      · exact fitS_hi h
      · exact fitS_lo (by simp; omega)
    rw [e]; exact made_hi s n w h
  · cases n
    · obtain rfl : v = s := by simpa using hv
      rw [fitS_in (by omega) (by omega)]; exact made_pos _ w h0 (by omega)
    · obtain rfl : v = -s := by simpa using hv
      rw [fitS_in (by omega) (by omega)]; exact made_neg _ w h0 (by omega)
theorem made_res (s : Int) (n : Bool) (w : World) (h0 : 0 ≤ s) (v : Int) (hv : v = if n then -s else s) {r1 : Bool} {r2 r3 : Int} (hr : fitS v = ((r1, r2), r3)) :
    Calls Tryz.prog 141 #[.int .u64 s, .bool n] w fun e w' => e = .returned (.tuple #[.agg #[.bool r1, .int .i64 r2], .int .i64 r3]) ∧ Ext w w' := by
  have h := made_any s n w h0 v hv
  rw [hr] at h
  exact h
def absI (v : Int) : Int := (v.natAbs : Int)
theorem absI_pos {v : Int} (h : 0 ≤ v) : absI v = v := by unfold absI; omega
theorem absI_neg {v : Int} (h : v < 0) : absI v = -v := by unfold absI; omega
theorem absI_nonneg (v : Int) : 0 ≤ absI v := by unfold absI; omega
theorem size_any (v : Int) (w : World) (h1 : -9223372036854775807 ≤ v) (h2 : v ≤ 9223372036854775807) :
    Calls Tryz.prog 36 #[.int .i64 v] w fun e w' => e = .returned (.tuple #[.int .u64 (absI v), .bool (decide (v < 0))]) ∧ w = w' := by
  by_cases hv : v < 0
  · rw [absI_neg hv, decide_eq_true hv]
    go_enter Tryz.func36, Tryz.ntmps36
    go_wp2
    go_ret2
    exact ⟨rfl, rfl⟩
  · rw [absI_pos (by omega), decide_eq_false hv]
    go_enter Tryz.func36, Tryz.ntmps36
    go_wp2
    go_ret2
    exact ⟨rfl, rfl⟩
def lessS (an bn : Bool) (av bv : Int) : Bool := !(oddB an av || oddB bn bv) && decide (av < bv)
def equalS (an bn : Bool) (av bv : Int) : Bool := !(oddB an av || oddB bn bv) && decide (av = bv)
def signed (neg : Bool) (q : Nat) : Int := if neg then -(q : Int) else q
/-- What the library reads of its variables. -/
structure Glob (w : World) : Prop where
  m : ∃ m, w.cell? ⟨2, 0, none⟩ = some (.int .i64 m)
  tab : Lib.TabIs Tryz.prog w "internal/strconv.uint64pow10" .u64 Lib.pow10Tab
theorem Glob.ext {w w' : World} (h : Glob w) (hB : Ext w w') : Glob w' := by
  obtain ⟨m, hm⟩ := h.m
  exact ⟨⟨m, hB.keep (World.block_lt_of_cell? w _ hm) hm⟩, Lib.tabBelow_of_tabIs h.tab w' hB⟩
theorem Glob.alloc {w : World} (h : Glob w) (o : Obj) : Glob (w.alloc o) := h.ext ((Ext.refl _).alloc _)
theorem Glob.drew {w : World} (h : Glob w) : Glob w.drew := h.ext (Ext.refl _).drew
theorem trim_any (s : ByteArray) (w : World) (hs : s.size ≤ 9223372036854775807) :
    Calls Tryz.prog 135 #[.string s] w fun e w' => e = .returned (.string ⟨(Lib.trimS s.data.toList [9, 10, 13, 32]).toArray⟩) ∧ Ext w w' := by
  have hcon := Any.strings_Trim_laid Tryz.lays160 (by kernel_rfl) s ⟨#[9, 10, 13, 32]⟩ w hs (by decide) (ascii_of_all (by decide))
  change Calls Tryz.prog 144 _ _ (fun e w' => e = .returned (.string ⟨(Lib.trimS s.data.toList [9, 10, 13, 32]).toArray⟩) ∧ Below w.heap.size w w') at hcon
  generalize (⟨(Lib.trimS s.data.toList [9, 10, 13, 32]).toArray⟩ : ByteArray) = r at hcon ⊢
  go_enter Tryz.func135, Tryz.ntmps135
  go_wp2_with (go_at_call 144; refine hcon.mono ?_; rintro e w' ⟨rfl, hB⟩)
  go_ret
  exact ⟨rfl, hB⟩
def digL (l : List UInt8) : Bool := (Lib.trimS l [48, 49, 50, 51, 52, 53, 54, 55, 56, 57]).isEmpty
theorem digits_any (s : ByteArray) (w : World) (hs : s.size ≤ 9223372036854775807) :
    Calls Tryz.prog 138 #[.string s] w fun e w' => e = .returned (.bool (digL s.data.toList)) ∧ Ext w w' := by
  have hcon := Any.strings_Trim_laid Tryz.lays160 (by kernel_rfl) s ⟨#[48, 49, 50, 51, 52, 53, 54, 55, 56, 57]⟩ w hs (by decide) (ascii_of_all (by decide))
  change Calls Tryz.prog 144 _ _ (fun e w' => e = .returned (.string ⟨(Lib.trimS s.data.toList [48, 49, 50, 51, 52, 53, 54, 55, 56, 57]).toArray⟩) ∧ Below w.heap.size w w') at hcon
  unfold digL
  generalize Lib.trimS s.data.toList [48, 49, 50, 51, 52, 53, 54, 55, 56, 57] = l at hcon ⊢
  have he : (⟨l.toArray⟩ : ByteArray).toList.isEmpty = l.isEmpty := by rw [Lib.toList_data]
  generalize (⟨l.toArray⟩ : ByteArray) = r at hcon he
  cases l with
  | nil =>
    go_enter Tryz.func138, Tryz.ntmps138
    go_wp2_with (go_at_call 144; refine hcon.mono ?_; rintro e w' ⟨rfl, hB⟩)
    go_ret
    exact ⟨rfl, hB⟩
  | cons c l =>
    go_enter Tryz.func138, Tryz.ntmps138
    go_wp2_with (go_at_call 144; refine hcon.mono ?_; rintro e w' ⟨rfl, hB⟩)
    go_ret
    exact ⟨rfl, hB⟩
theorem parse_empty (s t0 t1 wh pl : ByteArray) (neg fnd : Bool) (w : World) (G : Glob w) (b1 : wh.size ≤ 4294967296) (b2 : pl.size ≤ 4294967296)
    (H0 : Hid (∀ w, Calls Tryz.prog 135 #[.string s] w fun e w' => e = .returned (.string t0) ∧ Ext w w'))
    (H1 : Hid (∀ w, Calls Tryz.prog 136 #[.string t0, .string ⟨#[45]⟩] w fun e w' => e = .returned (.tuple #[.string t1, .bool neg]) ∧ w = w'))
    (H2 : Hid (∀ w, Glob w → Calls Tryz.prog 137 #[.string t1, .string ⟨#[46]⟩] w fun e w' => e = .returned (.tuple #[.string wh, .string pl, .bool fnd]) ∧ Ext w w'))
    (hne : (wh ++ pl).toList.isEmpty = true) :
    Calls Tryz.prog 130 #[.string s] w fun e w' => e = .returned (.tuple #[.agg #[.bool true, .int .i64 0], .int .i64 0]) ∧ Ext w w' := by
  go_enter Tryz.func130, Tryz.ntmps130
  go_wp2_with fail
  refine (H0.out _).mono ?_
  rintro e w1 ⟨rfl, hB1⟩
  go_wp2_with fail
  refine (H1.out _).mono ?_
  rintro e w' ⟨rfl, rfl⟩
  go_wp2_with fail
  refine (H2.out _ ((G.alloc _).ext hB1)).mono ?_
  rintro e w2 ⟨rfl, hB2⟩
  go_wp2_with fail
  have hc := (hB1.trans hB2).cells; have hf := (hB1.trans hB2).frees; have hz := (hB1.trans hB2).size
  simp at hz
  refine (nan_any _).mono ?_
  rintro e w9 ⟨rfl, hB9⟩
  have hc9 := hB9.cells; have hf9 := hB9.frees; have hz9 := hB9.size
  have l2 : w.heap.size < w2.heap.size := by omega
  have l9 : w.heap.size < w9.heap.size := by omega
  go_wp2_with fail
  refine bodyPost_ret (v := .tuple #[.agg #[.bool true, .int .i64 0], .int .i64 0]) (by simp [results, Tryz.results130, go_sem, hc, hc9, l2]) rfl ⟨rfl, ?_⟩
  repeat (first | exact Ext.refl _ | refine Ext.set ?_ (by dsimp only; omega) _ | refine Ext.alloc ?_ _ | refine Ext.drew ?_ | refine (Ext.trans ?_ (by assumption)))
theorem parse_bad1 (s t0 t1 wh pl : ByteArray) (neg fnd : Bool) (w : World) (G : Glob w) (b1 : wh.size ≤ 4294967296) (b2 : pl.size ≤ 4294967296)
    (H0 : Hid (∀ w, Calls Tryz.prog 135 #[.string s] w fun e w' => e = .returned (.string t0) ∧ Ext w w'))
    (H1 : Hid (∀ w, Calls Tryz.prog 136 #[.string t0, .string ⟨#[45]⟩] w fun e w' => e = .returned (.tuple #[.string t1, .bool neg]) ∧ w = w'))
    (H2 : Hid (∀ w, Glob w → Calls Tryz.prog 137 #[.string t1, .string ⟨#[46]⟩] w fun e w' => e = .returned (.tuple #[.string wh, .string pl, .bool fnd]) ∧ Ext w w'))
    (H3 : Hid (∀ w, Calls Tryz.prog 138 #[.string wh] w fun e w' => e = .returned (.bool false) ∧ Ext w w'))
    (hne : (wh ++ pl).toList.isEmpty = false) :
    Calls Tryz.prog 130 #[.string s] w fun e w' => e = .returned (.tuple #[.agg #[.bool true, .int .i64 0], .int .i64 0]) ∧ Ext w w' := by
  go_enter Tryz.func130, Tryz.ntmps130
  go_wp2_with fail
  refine (H0.out _).mono ?_
  rintro e w1 ⟨rfl, hB1⟩
  go_wp2_with fail
  refine (H1.out _).mono ?_
  rintro e w' ⟨rfl, rfl⟩
  go_wp2_with fail
  refine (H2.out _ ((G.alloc _).ext hB1)).mono ?_
  rintro e w2 ⟨rfl, hB2⟩
  go_wp2_with fail
  refine (H3.out _).mono ?_
  rintro e w3 ⟨rfl, hB3⟩
  go_wp2_with fail
  have hc := ((hB1.trans hB2).trans hB3).cells; have hf := ((hB1.trans hB2).trans hB3).frees; have hz := ((hB1.trans hB2).trans hB3).size
  simp at hz
  refine (nan_any _).mono ?_
  rintro e w9 ⟨rfl, hB9⟩
  have hc9 := hB9.cells; have hf9 := hB9.frees; have hz9 := hB9.size
  have l2 : w.heap.size < w3.heap.size := by omega
  have l9 : w.heap.size < w9.heap.size := by omega
  go_wp2_with fail
  refine bodyPost_ret (v := .tuple #[.agg #[.bool true, .int .i64 0], .int .i64 0]) (by simp [results, Tryz.results130, go_sem, hc, hc9, l2]) rfl ⟨rfl, ?_⟩
  repeat (first | exact Ext.refl _ | refine Ext.set ?_ (by dsimp only; omega) _ | refine Ext.alloc ?_ _ | refine Ext.drew ?_ | refine (Ext.trans ?_ (by assumption)))
theorem parse_bad2 (s t0 t1 wh pl : ByteArray) (neg fnd : Bool) (w : World) (G : Glob w) (b1 : wh.size ≤ 4294967296) (b2 : pl.size ≤ 4294967296)
    (H0 : Hid (∀ w, Calls Tryz.prog 135 #[.string s] w fun e w' => e = .returned (.string t0) ∧ Ext w w'))
    (H1 : Hid (∀ w, Calls Tryz.prog 136 #[.string t0, .string ⟨#[45]⟩] w fun e w' => e = .returned (.tuple #[.string t1, .bool neg]) ∧ w = w'))
    (H2 : Hid (∀ w, Glob w → Calls Tryz.prog 137 #[.string t1, .string ⟨#[46]⟩] w fun e w' => e = .returned (.tuple #[.string wh, .string pl, .bool fnd]) ∧ Ext w w'))
    (H3 : Hid (∀ w, Calls Tryz.prog 138 #[.string wh] w fun e w' => e = .returned (.bool true) ∧ Ext w w'))
    (H4 : Hid (∀ w, Calls Tryz.prog 138 #[.string pl] w fun e w' => e = .returned (.bool false) ∧ Ext w w'))
    (hne : (wh ++ pl).toList.isEmpty = false) :
    Calls Tryz.prog 130 #[.string s] w fun e w' => e = .returned (.tuple #[.agg #[.bool true, .int .i64 0], .int .i64 0]) ∧ Ext w w' := by
  go_enter Tryz.func130, Tryz.ntmps130
  go_wp2_with fail
  refine (H0.out _).mono ?_
  rintro e w1 ⟨rfl, hB1⟩
  go_wp2_with fail
  refine (H1.out _).mono ?_
  rintro e w' ⟨rfl, rfl⟩
  go_wp2_with fail
  refine (H2.out _ ((G.alloc _).ext hB1)).mono ?_
  rintro e w2 ⟨rfl, hB2⟩
  go_wp2_with fail
  refine (H3.out _).mono ?_
  rintro e w3 ⟨rfl, hB3⟩
  go_wp2_with fail
  refine (H4.out _).mono ?_
  rintro e w4 ⟨rfl, hB4⟩
  go_wp2_with fail
  have hc := (((hB1.trans hB2).trans hB3).trans hB4).cells; have hf := (((hB1.trans hB2).trans hB3).trans hB4).frees; have hz := (((hB1.trans hB2).trans hB3).trans hB4).size
  simp at hz
  refine (nan_any _).mono ?_
  rintro e w9 ⟨rfl, hB9⟩
  have hc9 := hB9.cells; have hf9 := hB9.frees; have hz9 := hB9.size
  have l2 : w.heap.size < w4.heap.size := by omega
  have l9 : w.heap.size < w9.heap.size := by omega
  go_wp2_with fail
  refine bodyPost_ret (v := .tuple #[.agg #[.bool true, .int .i64 0], .int .i64 0]) (by simp [results, Tryz.results130, go_sem, hc, hc9, l2]) rfl ⟨rfl, ?_⟩
  repeat (first | exact Ext.refl _ | refine Ext.set ?_ (by dsimp only; omega) _ | refine Ext.alloc ?_ _ | refine Ext.drew ?_ | refine (Ext.trans ?_ (by assumption)))
theorem parse_over (s t0 t1 wh pl : ByteArray) (neg fnd : Bool) (w : World) (G : Glob w) (b1 : wh.size ≤ 4294967296) (b2 : pl.size ≤ 4294967296)
    (wz : ByteArray) (hlen : 10 < wz.size) (hmax : wz.size ≤ 4294967296)
    (H0 : Hid (∀ w, Calls Tryz.prog 135 #[.string s] w fun e w' => e = .returned (.string t0) ∧ Ext w w'))
    (H1 : Hid (∀ w, Calls Tryz.prog 136 #[.string t0, .string ⟨#[45]⟩] w fun e w' => e = .returned (.tuple #[.string t1, .bool neg]) ∧ w = w'))
    (H2 : Hid (∀ w, Glob w → Calls Tryz.prog 137 #[.string t1, .string ⟨#[46]⟩] w fun e w' => e = .returned (.tuple #[.string wh, .string pl, .bool fnd]) ∧ Ext w w'))
    (H3 : Hid (∀ w, Calls Tryz.prog 138 #[.string wh] w fun e w' => e = .returned (.bool true) ∧ Ext w w'))
    (H4 : Hid (∀ w, Calls Tryz.prog 138 #[.string pl] w fun e w' => e = .returned (.bool true) ∧ Ext w w'))
    (H5 : Hid (∀ w, Calls Tryz.prog 89 #[.string wh, .string ⟨#[48]⟩] w fun e w' => e = .returned (.string wz) ∧ Ext w w'))
    (hne : (wh ++ pl).toList.isEmpty = false) :
    Calls Tryz.prog 130 #[.string s] w fun e w' => e = .returned (.tuple #[.agg #[.bool false, .int .i64 0], .int .i64 66]) ∧ Ext w w' := by
  go_enter Tryz.func130, Tryz.ntmps130
  go_wp2_with fail
  refine (H0.out _).mono ?_
  rintro e w1 ⟨rfl, hB1⟩
  go_wp2_with fail
  refine (H1.out _).mono ?_
  rintro e w' ⟨rfl, rfl⟩
  go_wp2_with fail
  refine (H2.out _ ((G.alloc _).ext hB1)).mono ?_
  rintro e w2 ⟨rfl, hB2⟩
  go_wp2_with fail
  refine (H3.out _).mono ?_
  rintro e w3 ⟨rfl, hB3⟩
  go_wp2_with fail
  refine (H4.out _).mono ?_
  rintro e w4 ⟨rfl, hB4⟩
  go_wp2_with fail
  refine (H5.out _).mono ?_
  rintro e w5 ⟨rfl, hB5⟩
  have hc := ((((hB1.trans hB2).trans hB3).trans hB4).trans hB5).cells; have hf := ((((hB1.trans hB2).trans hB3).trans hB4).trans hB5).frees; have hz := ((((hB1.trans hB2).trans hB3).trans hB4).trans hB5).size
  simp at hz
  go_wp2_with fail
  refine bodyPost_ret (v := .tuple #[.agg #[.bool false, .int .i64 0], .int .i64 66]) (by simp [results, Tryz.results130, go_sem, hc]) rfl ⟨rfl, ?_⟩
  repeat (first | exact Ext.refl _ | refine Ext.set ?_ (by dsimp only; omega) _ | refine Ext.alloc ?_ _ | refine Ext.drew ?_ | refine (Ext.trans ?_ (by assumption)))
theorem parse_ok (s t0 t1 wh pl : ByteArray) (neg fnd : Bool) (w : World) (G : Glob w) (b1 : wh.size ≤ 4294967296) (b2 : pl.size ≤ 4294967296)
    (wz : ByteArray) (hlen : wz.size ≤ 10) (q : Int) (q0 : 0 ≤ q) (v : Int) (hv : v = if neg then -q else q) (r1 : Bool) (r2 r3 : Int) (hr : Hid (fitS v = ((r1, r2), r3)))
    (H0 : Hid (∀ w, Calls Tryz.prog 135 #[.string s] w fun e w' => e = .returned (.string t0) ∧ Ext w w'))
    (H1 : Hid (∀ w, Calls Tryz.prog 136 #[.string t0, .string ⟨#[45]⟩] w fun e w' => e = .returned (.tuple #[.string t1, .bool neg]) ∧ w = w'))
    (H2 : Hid (∀ w, Glob w → Calls Tryz.prog 137 #[.string t1, .string ⟨#[46]⟩] w fun e w' => e = .returned (.tuple #[.string wh, .string pl, .bool fnd]) ∧ Ext w w'))
    (H3 : Hid (∀ w, Calls Tryz.prog 138 #[.string wh] w fun e w' => e = .returned (.bool true) ∧ Ext w w'))
    (H4 : Hid (∀ w, Calls Tryz.prog 138 #[.string pl] w fun e w' => e = .returned (.bool true) ∧ Ext w w'))
    (H5 : Hid (∀ w, Calls Tryz.prog 89 #[.string wh, .string ⟨#[48]⟩] w fun e w' => e = .returned (.string wz) ∧ Ext w w'))
    (H6 : Hid (∀ w, Calls Tryz.prog 140 #[.string ({ data := #[48] } ++ wz ++ (pl ++ { data := #[48, 48, 48, 48, 48, 48] }).extract 0 6), .int .i64 10, .int .i64 64] w fun e w' => e = .returned (.tuple #[.int .u64 q, .nilIface]) ∧ Ext w w'))
    (hne : (wh ++ pl).toList.isEmpty = false) :
    Calls Tryz.prog 130 #[.string s] w fun e w' => e = .returned (.tuple #[.agg #[.bool r1, .int .i64 r2], .int .i64 r3]) ∧ Ext w w' := by
  have HV := Lib.hid hv; clear hv
  go_enter Tryz.func130, Tryz.ntmps130
  go_wp2_with fail
  refine (H0.out _).mono ?_
  rintro e w1 ⟨rfl, hB1⟩
  go_wp2_with fail
  refine (H1.out _).mono ?_
  rintro e w' ⟨rfl, rfl⟩
  go_wp2_with fail
  refine (H2.out _ ((G.alloc _).ext hB1)).mono ?_
  rintro e w2 ⟨rfl, hB2⟩
  go_wp2_with fail
  refine (H3.out _).mono ?_
  rintro e w3 ⟨rfl, hB3⟩
  go_wp2_with fail
  refine (H4.out _).mono ?_
  rintro e w4 ⟨rfl, hB4⟩
  go_wp2_with fail
  refine (H5.out _).mono ?_
  rintro e w5 ⟨rfl, hB5⟩
  go_wp2_with fail
  refine (H6.out _).mono ?_
  rintro e w6 ⟨rfl, hB6⟩
  go_wp2_with fail
  refine (made_res q neg _ q0 v HV.out hr.out).mono ?_
  rintro e w7 ⟨rfl, hB7⟩
  have hc := ((((((hB1.trans hB2).trans hB3).trans hB4).trans hB5).trans hB6).trans hB7).cells; have hf := ((((((hB1.trans hB2).trans hB3).trans hB4).trans hB5).trans hB6).trans hB7).frees; have hz := ((((((hB1.trans hB2).trans hB3).trans hB4).trans hB5).trans hB6).trans hB7).size
  simp at hz
  go_wp2_with fail
  refine bodyPost_ret (v := .tuple #[.agg #[.bool r1, .int .i64 r2], .int .i64 r3]) (by simp [results, Tryz.results130, go_sem, hc]) rfl ⟨rfl, ?_⟩
  repeat (first | exact Ext.refl _ | refine Ext.set ?_ (by dsimp only; omega) _ | refine Ext.alloc ?_ _ | refine Ext.drew ?_ | refine (Ext.trans ?_ (by assumption)))
theorem text_odd (an : Bool) (av : Int) (w : World) (ho : oddB an av = true) :
    Calls Tryz.prog 18 #[.agg #[.bool an, .int .i64 av]] w fun e w' => e = .returned (.string ⟨#[78, 97, 78]⟩) ∧ Ext w w' := by
  have HO := Lib.hid ho; clear ho
  go_enter Tryz.func18, Tryz.ntmps18
  go_wp2_with fail
  refine (odd1_any an av _ _ (by simp) (by simp [go_sem]) (by simp [go_sem])).mono ?_
  rw [HO.out]
  rintro e w1 ⟨rfl, hB⟩
  go_wp2_with fail
  go_ret
  refine ⟨rfl, ?_⟩
  repeat (first | exact Ext.refl _ | refine Ext.set ?_ (by dsimp only; omega) _ | refine Ext.alloc ?_ _ | refine Ext.drew ?_ | refine (Ext.trans ?_ (by assumption)))
theorem text_neg_whole (av : Int) (w : World) (G : Glob w) (ho : oddB false av = false) (hs : av < 0) (fw pw tz : ByteArray) (b1 : fw.size ≤ 4294967296) (b2 : tz.size ≤ 4294967296) (b3 : 1 ≤ pw.size) (b4 : pw.size ≤ 4294967296)
    (F1 : Hid (∀ w, Glob w → Calls Tryz.prog 37 #[.int .u64 (absI av / 1000000), .int .i64 10] w fun e w' => e = .returned (.string fw) ∧ Ext w w'))
    (F2 : Hid (∀ w, Glob w → Calls Tryz.prog 37 #[.int .u64 (absI av % 1000000 + 1000000), .int .i64 10] w fun e w' => e = .returned (.string pw) ∧ Ext w w'))
    (F3 : Hid (∀ w, Calls Tryz.prog 38 #[.string (pw.extract 1 pw.size), .string ⟨#[48]⟩] w fun e w' => e = .returned (.string tz) ∧ Ext w w'))
    (ht : tz.toList.isEmpty = true) :
    Calls Tryz.prog 18 #[.agg #[.bool false, .int .i64 av]] w fun e w' => e = .returned (.string ({ data := #[45] } ++ fw)) ∧ Ext w w' := by
  obtain ⟨_, a1, a2⟩ := oddB_false ho
  have a3 : absI av ≤ 1000000000000000 := by unfold absI; omega
  have a4 := absI_nonneg av
  have HO := Lib.hid ho; clear ho
  go_enter Tryz.func18, Tryz.ntmps18
  go_wp2_with fail
  refine (odd1_any false av _ _ (by simp) (by simp [go_sem]) (by simp [go_sem])).mono ?_
  rw [HO.out]
  rintro e w1 ⟨rfl, hB⟩
  have G1 := ((G.alloc _).alloc _).ext hB
  have hc := hB.cells; have hf := hB.frees; have hz := hB.size
  simp at hz
  go_wp2_with fail
  refine (size_any av _ (by omega) (by omega)).mono ?_
  rintro e w' ⟨rfl, rfl⟩
  go_wp2_with fail
  refine (F1.out _ G1).mono ?_
  rintro e w2 ⟨rfl, hB2⟩
  go_wp2_with fail
  refine (F2.out _ (G1.ext hB2)).mono ?_
  rintro e w3 ⟨rfl, hB3⟩
  go_wp2_with fail
  refine (F3.out _).mono ?_
  rintro e w4 ⟨rfl, hB4⟩
  go_wp2_with fail
  go_ret
  refine ⟨rfl, ?_⟩
  repeat (first | exact Ext.refl _ | refine Ext.set ?_ (by dsimp only; omega) _ | refine Ext.alloc ?_ _ | refine Ext.drew ?_ | refine (Ext.trans ?_ (by assumption)))
theorem text_neg_parts (av : Int) (w : World) (G : Glob w) (ho : oddB false av = false) (hs : av < 0) (fw pw tz : ByteArray) (b1 : fw.size ≤ 4294967296) (b2 : tz.size ≤ 4294967296) (b3 : 1 ≤ pw.size) (b4 : pw.size ≤ 4294967296)
    (F1 : Hid (∀ w, Glob w → Calls Tryz.prog 37 #[.int .u64 (absI av / 1000000), .int .i64 10] w fun e w' => e = .returned (.string fw) ∧ Ext w w'))
    (F2 : Hid (∀ w, Glob w → Calls Tryz.prog 37 #[.int .u64 (absI av % 1000000 + 1000000), .int .i64 10] w fun e w' => e = .returned (.string pw) ∧ Ext w w'))
    (F3 : Hid (∀ w, Calls Tryz.prog 38 #[.string (pw.extract 1 pw.size), .string ⟨#[48]⟩] w fun e w' => e = .returned (.string tz) ∧ Ext w w'))
    (ht : tz.toList.isEmpty = false) :
    Calls Tryz.prog 18 #[.agg #[.bool false, .int .i64 av]] w fun e w' => e = .returned (.string ({ data := #[45] } ++ (fw ++ ({ data := #[46] } ++ tz)))) ∧ Ext w w' := by
  obtain ⟨_, a1, a2⟩ := oddB_false ho
  have a3 : absI av ≤ 1000000000000000 := by unfold absI; omega
  have a4 := absI_nonneg av
  have HO := Lib.hid ho; clear ho
  go_enter Tryz.func18, Tryz.ntmps18
  go_wp2_with fail
  refine (odd1_any false av _ _ (by simp) (by simp [go_sem]) (by simp [go_sem])).mono ?_
  rw [HO.out]
  rintro e w1 ⟨rfl, hB⟩
  have G1 := ((G.alloc _).alloc _).ext hB
  have hc := hB.cells; have hf := hB.frees; have hz := hB.size
  simp at hz
  go_wp2_with fail
  refine (size_any av _ (by omega) (by omega)).mono ?_
  rintro e w' ⟨rfl, rfl⟩
  go_wp2_with fail
  refine (F1.out _ G1).mono ?_
  rintro e w2 ⟨rfl, hB2⟩
  go_wp2_with fail
  refine (F2.out _ (G1.ext hB2)).mono ?_
  rintro e w3 ⟨rfl, hB3⟩
  go_wp2_with fail
  refine (F3.out _).mono ?_
  rintro e w4 ⟨rfl, hB4⟩
  go_wp2_with fail
  go_ret
  refine ⟨rfl, ?_⟩
  repeat (first | exact Ext.refl _ | refine Ext.set ?_ (by dsimp only; omega) _ | refine Ext.alloc ?_ _ | refine Ext.drew ?_ | refine (Ext.trans ?_ (by assumption)))
theorem text_pos_whole (av : Int) (w : World) (G : Glob w) (ho : oddB false av = false) (hs : 0 ≤ av) (fw pw tz : ByteArray) (b1 : fw.size ≤ 4294967296) (b2 : tz.size ≤ 4294967296) (b3 : 1 ≤ pw.size) (b4 : pw.size ≤ 4294967296)
    (F1 : Hid (∀ w, Glob w → Calls Tryz.prog 37 #[.int .u64 (absI av / 1000000), .int .i64 10] w fun e w' => e = .returned (.string fw) ∧ Ext w w'))
    (F2 : Hid (∀ w, Glob w → Calls Tryz.prog 37 #[.int .u64 (absI av % 1000000 + 1000000), .int .i64 10] w fun e w' => e = .returned (.string pw) ∧ Ext w w'))
    (F3 : Hid (∀ w, Calls Tryz.prog 38 #[.string (pw.extract 1 pw.size), .string ⟨#[48]⟩] w fun e w' => e = .returned (.string tz) ∧ Ext w w'))
    (ht : tz.toList.isEmpty = true) :
    Calls Tryz.prog 18 #[.agg #[.bool false, .int .i64 av]] w fun e w' => e = .returned (.string (fw)) ∧ Ext w w' := by
  obtain ⟨_, a1, a2⟩ := oddB_false ho
  have a3 : absI av ≤ 1000000000000000 := by unfold absI; omega
  have a4 := absI_nonneg av
  have HO := Lib.hid ho; clear ho
  go_enter Tryz.func18, Tryz.ntmps18
  go_wp2_with fail
  refine (odd1_any false av _ _ (by simp) (by simp [go_sem]) (by simp [go_sem])).mono ?_
  rw [HO.out]
  rintro e w1 ⟨rfl, hB⟩
  have G1 := ((G.alloc _).alloc _).ext hB
  have hc := hB.cells; have hf := hB.frees; have hz := hB.size
  simp at hz
  go_wp2_with fail
  refine (size_any av _ (by omega) (by omega)).mono ?_
  rintro e w' ⟨rfl, rfl⟩
  go_wp2_with fail
  refine (F1.out _ G1).mono ?_
  rintro e w2 ⟨rfl, hB2⟩
  go_wp2_with fail
  refine (F2.out _ (G1.ext hB2)).mono ?_
  rintro e w3 ⟨rfl, hB3⟩
  go_wp2_with fail
  refine (F3.out _).mono ?_
  rintro e w4 ⟨rfl, hB4⟩
  go_wp2_with fail
  go_ret
  refine ⟨rfl, ?_⟩
  repeat (first | exact Ext.refl _ | refine Ext.set ?_ (by dsimp only; omega) _ | refine Ext.alloc ?_ _ | refine Ext.drew ?_ | refine (Ext.trans ?_ (by assumption)))
theorem text_pos_parts (av : Int) (w : World) (G : Glob w) (ho : oddB false av = false) (hs : 0 ≤ av) (fw pw tz : ByteArray) (b1 : fw.size ≤ 4294967296) (b2 : tz.size ≤ 4294967296) (b3 : 1 ≤ pw.size) (b4 : pw.size ≤ 4294967296)
    (F1 : Hid (∀ w, Glob w → Calls Tryz.prog 37 #[.int .u64 (absI av / 1000000), .int .i64 10] w fun e w' => e = .returned (.string fw) ∧ Ext w w'))
    (F2 : Hid (∀ w, Glob w → Calls Tryz.prog 37 #[.int .u64 (absI av % 1000000 + 1000000), .int .i64 10] w fun e w' => e = .returned (.string pw) ∧ Ext w w'))
    (F3 : Hid (∀ w, Calls Tryz.prog 38 #[.string (pw.extract 1 pw.size), .string ⟨#[48]⟩] w fun e w' => e = .returned (.string tz) ∧ Ext w w'))
    (ht : tz.toList.isEmpty = false) :
    Calls Tryz.prog 18 #[.agg #[.bool false, .int .i64 av]] w fun e w' => e = .returned (.string (fw ++ ({ data := #[46] } ++ tz))) ∧ Ext w w' := by
  obtain ⟨_, a1, a2⟩ := oddB_false ho
  have a3 : absI av ≤ 1000000000000000 := by unfold absI; omega
  have a4 := absI_nonneg av
  have HO := Lib.hid ho; clear ho
  go_enter Tryz.func18, Tryz.ntmps18
  go_wp2_with fail
  refine (odd1_any false av _ _ (by simp) (by simp [go_sem]) (by simp [go_sem])).mono ?_
  rw [HO.out]
  rintro e w1 ⟨rfl, hB⟩
  have G1 := ((G.alloc _).alloc _).ext hB
  have hc := hB.cells; have hf := hB.frees; have hz := hB.size
  simp at hz
  go_wp2_with fail
  refine (size_any av _ (by omega) (by omega)).mono ?_
  rintro e w' ⟨rfl, rfl⟩
  go_wp2_with fail
  refine (F1.out _ G1).mono ?_
  rintro e w2 ⟨rfl, hB2⟩
  go_wp2_with fail
  refine (F2.out _ (G1.ext hB2)).mono ?_
  rintro e w3 ⟨rfl, hB3⟩
  go_wp2_with fail
  refine (F3.out _).mono ?_
  rintro e w4 ⟨rfl, hB4⟩
  go_wp2_with fail
  go_ret
  refine ⟨rfl, ?_⟩
  repeat (first | exact Ext.refl _ | refine Ext.set ?_ (by dsimp only; omega) _ | refine Ext.alloc ?_ _ | refine Ext.drew ?_ | refine (Ext.trans ?_ (by assumption)))
def six : List UInt8 := [48, 48, 48, 48, 48, 48]
def parseS (l : List UInt8) : Out :=
  if (Lib.cut (Lib.trimPrefix (Lib.trimS l [9, 10, 13, 32]) [45]) [46]).1 ++ (Lib.cut (Lib.trimPrefix (Lib.trimS l [9, 10, 13, 32]) [45]) [46]).2.1 = [] then noneS
  else if (Lib.cut (Lib.trimPrefix (Lib.trimS l [9, 10, 13, 32]) [45]) [46]).1.all KText.isDig = false then noneS
  else if (Lib.cut (Lib.trimPrefix (Lib.trimS l [9, 10, 13, 32]) [45]) [46]).2.1.all KText.isDig = false then noneS
  else if 10 < (Lib.trimLeftS (Lib.cut (Lib.trimPrefix (Lib.trimS l [9, 10, 13, 32]) [45]) [46]).1 [48]).length then ((false, 0), 66)
  else fitS (signed (Lib.hasPrefix (Lib.trimS l [9, 10, 13, 32]) [45]) (KText.val 0 ([48] ++ Lib.trimLeftS (Lib.cut (Lib.trimPrefix (Lib.trimS l [9, 10, 13, 32]) [45]) [46]).1 [48] ++ ((Lib.cut (Lib.trimPrefix (Lib.trimS l [9, 10, 13, 32]) [45]) [46]).2.1 ++ six).take 6)))
theorem trimS_len (l cs : List UInt8) : (Lib.trimS l cs).length ≤ l.length := by
  unfold Lib.trimS Lib.trimLeftS Lib.trimRightS
  refine Nat.le_trans (List.dropWhile_sublist _).length_le ?_
  rw [List.length_reverse]
  refine Nat.le_trans (List.dropWhile_sublist _).length_le ?_
  rw [List.length_reverse]; exact Nat.le_refl _
theorem trimPrefix_len (l p : List UInt8) : (Lib.trimPrefix l p).length ≤ l.length := by
  unfold Lib.trimPrefix; split
  · rw [List.length_drop]; omega
  · exact Nat.le_refl _
theorem cut_len (l p : List UInt8) : (Lib.cut l p).1.length ≤ l.length ∧ (Lib.cut l p).2.1.length ≤ l.length := by
  unfold Lib.cut; split
  · simp only [List.length_take, List.length_drop]; omega
  · simp
theorem parse_any (s : ByteArray) (w : World) (G : Glob w) (hs : s.size ≤ 4294967280) :
    Calls Tryz.prog 130 #[.string s] w fun e w' => e = .returned (.tuple #[.agg #[.bool (parseS s.data.toList).1.1, .int .i64 (parseS s.data.toList).1.2], .int .i64 (parseS s.data.toList).2]) ∧ Ext w w' := by
  have hs' : s.data.toList.length ≤ 4294967280 := by rw [Array.length_toList]; exact hs
  generalize hl : s.data.toList = l at hs' ⊢
  unfold parseS
  have k0 := trimS_len l [9, 10, 13, 32]
  generalize et0 : Lib.trimS l [9, 10, 13, 32] = t0 at k0 ⊢
  have k1 := trimPrefix_len t0 [45]
  generalize eneg : Lib.hasPrefix t0 [45] = neg
  generalize et1 : Lib.trimPrefix t0 [45] = t1 at k1 ⊢
  obtain ⟨k2, k3⟩ := cut_len t1 [46]
  generalize ef : (Lib.cut t1 [46]).2.2 = fnd
  generalize ewh : (Lib.cut t1 [46]).1 = wh at k2 ⊢
  generalize epl : (Lib.cut t1 [46]).2.1 = pl at k3 ⊢
  have H0 : Hid (∀ w, Calls Tryz.prog 135 #[.string s] w fun e w' => e = .returned (.string (bs t0)) ∧ Ext w w') := fun w => by
    have h := trim_any s w (by omega)
    rw [hl, et0] at h
    exact h
  have H1 : Hid (∀ w, Calls Tryz.prog 136 #[.string (bs t0), .string ⟨#[45]⟩] w fun e w' => e = .returned (.tuple #[.string (bs t1), .bool neg]) ∧ w = w') := fun w => by
    have h := Tryz.strings_CutPrefix (bs t0) ⟨#[45]⟩ w
    refine h.mono fun e w' ⟨he, hw⟩ => ⟨?_, hw.symm⟩
    rw [he, bs_list, show (⟨#[45]⟩ : ByteArray).data.toList = [45] from rfl, et1, eneg]; rfl
  have H2 : Hid (∀ w, Glob w → Calls Tryz.prog 137 #[.string (bs t1), .string ⟨#[46]⟩] w fun e w' => e = .returned (.tuple #[.string (bs wh), .string (bs pl), .bool fnd]) ∧ Ext w w') := fun w G => by
    obtain ⟨m, hm⟩ := G.m
    have h := Tryz.strings_Cut (bs t1) ⟨#[46]⟩ m w (by rw [bs_size]; omega) hm
    refine h.mono fun e w' ⟨he, n, hw⟩ => ⟨?_, by rw [hw]; exact (Ext.refl _).drewN n⟩
    rw [he, bs_list, show (⟨#[46]⟩ : ByteArray).data.toList = [46] from rfl, ewh, epl, ef]; rfl
  have H3 : ∀ l : List UInt8, l.length ≤ 4294967296 → Hid (∀ w, Calls Tryz.prog 138 #[.string (bs l)] w fun e w' => e = .returned (.bool (l.all KText.isDig)) ∧ Ext w w') := fun l hl w => by
    have h := digits_any (bs l) w (by rw [bs_size]; omega)
    unfold digL at h
    rw [bs_list, KText.digits_all] at h
    exact h
  have eapp : (bs wh ++ bs pl).toList = wh ++ pl := by rw [bs_append, bs_toList]
  have b1 : (bs wh).size ≤ 4294967296 := by rw [bs_size]; omega
  have b2 : (bs pl).size ≤ 4294967296 := by rw [bs_size]; omega
  have h3 := H3 wh (by omega)
  have h4 := H3 pl (by omega)
  by_cases c1 : wh ++ pl = []
  · rw [if_pos c1]
    exact parse_empty s (bs t0) (bs t1) (bs wh) (bs pl) neg fnd w G b1 b2 H0 H1 H2 (by rw [eapp, c1]; rfl)
  rw [if_neg c1]
  have hne : (bs wh ++ bs pl).toList.isEmpty = false := by rw [eapp]; simpa [List.isEmpty_iff] using c1
  by_cases c2 : wh.all KText.isDig = false
  · rw [if_pos c2]; rw [c2] at h3
    exact parse_bad1 s (bs t0) (bs t1) (bs wh) (bs pl) neg fnd w G b1 b2 H0 H1 H2 h3 hne
  rw [if_neg c2]
  have c2' : wh.all KText.isDig = true := by simpa using c2
  rw [c2'] at h3
  by_cases c3 : pl.all KText.isDig = false
  · rw [if_pos c3]; rw [c3] at h4
    exact parse_bad2 s (bs t0) (bs t1) (bs wh) (bs pl) neg fnd w G b1 b2 H0 H1 H2 h3 h4 hne
  rw [if_neg c3]
  have c3' : pl.all KText.isDig = true := by simpa using c3
  rw [c3'] at h4
  have k4 : (Lib.trimLeftS wh [48]).length ≤ wh.length := (List.dropWhile_sublist _).length_le
  generalize ewz : Lib.trimLeftS wh [48] = wz at k4 ⊢
  have H5 : Hid (∀ w, Calls Tryz.prog 89 #[.string (bs wh), .string ⟨#[48]⟩] w fun e w' => e = .returned (.string (bs wz)) ∧ Ext w w') := fun w => by
    have hcon := Any.strings_TrimLeft_laid Tryz.lays161 (by kernel_rfl) (bs wh) ⟨#[48]⟩ w (by decide) (ascii_of_all (by decide))
    change Calls Tryz.prog 89 _ _ (fun e w' => e = .returned (.string ⟨(Lib.trimLeftS wh [48]).toArray⟩) ∧ Below w.heap.size w w') at hcon
    rw [ewz] at hcon
    exact hcon
  by_cases c4 : 10 < wz.length
  · rw [if_pos c4]
    exact parse_over s (bs t0) (bs t1) (bs wh) (bs pl) neg fnd w G b1 b2 (bs wz) (by rw [bs_size]; exact c4) (by rw [bs_size]; omega) H0 H1 H2 h3 h4 H5 hne
  rw [if_neg c4]
  obtain ⟨⟨⟨r1, r2⟩, r3⟩, hr⟩ : ∃ r, fitS (signed neg (KText.val 0 ([48] ++ wz ++ (pl ++ six).take 6))) = r := ⟨_, rfl⟩
  rw [hr]
  have enum : ({ data := #[48] } ++ bs wz ++ (bs pl ++ { data := #[48, 48, 48, 48, 48, 48] }).extract 0 6 : ByteArray) = bs ([48] ++ wz ++ (pl ++ six).take 6) := by
    rw [show ({ data := #[48] } : ByteArray) = bs [48] from rfl, show ({ data := #[48, 48, 48, 48, 48, 48] } : ByteArray) = bs six from rfl, bs_append, bs_append, bs_extract, List.drop_zero, Nat.sub_zero, bs_append]
  have H6 : Hid (∀ w, Calls Tryz.prog 140 #[.string ({ data := #[48] } ++ bs wz ++ (bs pl ++ { data := #[48, 48, 48, 48, 48, 48] }).extract 0 6), .int .i64 10, .int .i64 64] w fun e w' => e = .returned (.tuple #[.int .u64 (KText.val 0 ([48] ++ wz ++ (pl ++ six).take 6)), .nilIface]) ∧ Ext w w') := fun w => by
    rw [enum]
    have hlen : ([48] ++ wz ++ (pl ++ six).take 6).length ≤ 17 := by simp only [List.length_append, List.length_take, List.length_singleton]; omega
    have hdig : ∀ c ∈ [48] ++ wz ++ (pl ++ six).take 6, KText.isDig c = true := by
      intro c hc
      rw [List.all_eq_true] at c2' c3'
      rw [List.mem_append, List.mem_append] at hc
      rcases hc with (hc | hc) | hc
      · simp at hc; subst hc; rfl
      · rw [← ewz] at hc
        exact c2' c ((List.dropWhile_sublist _).mem hc)
      · have := List.mem_of_mem_take hc
        rw [List.mem_append] at this
        rcases this with h | h
        · exact c3' c h
        · simp [six] at h; subst h; rfl
    have h := Tryz.strconv_ParseUint_10_at64_ok (bs ([48] ++ wz ++ (pl ++ six).take 6)) (by rw [bs_size]; omega) (KText.val 0 ([48] ++ wz ++ (pl ++ six).take 6)) (KText.parseB_ok ([48] ++ wz ++ (pl ++ six).take 6) (by simp) hdig (by omega)) w
    refine h.mono fun e w' ⟨he, hw⟩ => ⟨he, ?_⟩
    rcases hw with rfl | rfl
    · exact Ext.refl _
    · exact Joins.below_bytesWorld _ _ _ _ (Nat.le_refl _)
  exact parse_ok s (bs t0) (bs t1) (bs wh) (bs pl) neg fnd w G b1 b2 (bs wz) (by rw [bs_size]; omega) _ (Int.natCast_nonneg _) _ rfl r1 r2 r3 hr H0 H1 H2 h3 h4 H5 H6 hne
/-- the places of a number, without the last noughts -/
def placesS (a : Nat) : List UInt8 := Lib.trimRightS (KText.low 6 (a % 1000000)).reverse [48]
def bodyS (a : Nat) : List UInt8 := if placesS a = [] then Lib.decDigits (a / 1000000) else Lib.decDigits (a / 1000000) ++ ([46] ++ placesS a)
def textS (n : Bool) (v : Int) : List UInt8 := if oddB n v = true then [78, 97, 78] else if v < 0 then [45] ++ bodyS v.natAbs else bodyS v.natAbs
theorem dec_len (u : Nat) (h : u < 18446744073709551616) : (Lib.decDigits u).length ≤ 20 := by
  rw [Lib.decDigits_length]
  by_cases h1 : 1 ≤ u
  · have := Lib.numDigits_eq u h1 h; split at this <;> omega
  · rw [Lib.nDigits_small (by omega)]; omega
theorem text_any (an : Bool) (av : Int) (w : World) (G : Glob w) :
    Calls Tryz.prog 18 #[.agg #[.bool an, .int .i64 av]] w fun e w' => e = .returned (.string (bs (textS an av))) ∧ Ext w w' := by
  by_cases ho : oddB an av = true
  · rw [textS, if_pos ho]; exact text_odd an av w ho
  rw [textS, if_neg ho]
  have ho' : oddB an av = false := by simpa using ho
  obtain ⟨rfl, a1, a2⟩ := oddB_false ho'
  have hA : av.natAbs ≤ 1000000000000000 := by omega
  unfold bodyS
  generalize ea : av.natAbs = a at hA ⊢
  have eI : absI av = (a : Int) := by unfold absI; rw [ea]
  have F1 : Hid (∀ w, Glob w → Calls Tryz.prog 37 #[.int .u64 (absI av / 1000000), .int .i64 10] w fun e w' => e = .returned (.string (bs (Lib.decDigits (a / 1000000)))) ∧ Ext w w') := fun w G => by
    rw [eI, show (a : Int) / 1000000 = ((a / 1000000 : Nat) : Int) by omega]
    exact fmt_any _ (by omega) w G.tab
  have F2 : Hid (∀ w, Glob w → Calls Tryz.prog 37 #[.int .u64 (absI av % 1000000 + 1000000), .int .i64 10] w fun e w' => e = .returned (.string (bs (49 :: (KText.low 6 (a % 1000000)).reverse))) ∧ Ext w w') := fun w G => by
    rw [eI, show (a : Int) % 1000000 + 1000000 = ((a % 1000000 + 1000000 : Nat) : Int) by omega]
    have h := fmt_any (a % 1000000 + 1000000) (by omega) w G.tab
    rw [KText.dec_million _ (by omega)] at h
    exact h
  have hpl : (KText.low 6 (a % 1000000)).reverse.length = 6 := by rw [List.length_reverse, KText.low_length]
  have F3 : Hid (∀ w, Calls Tryz.prog 38 #[.string ((bs (49 :: (KText.low 6 (a % 1000000)).reverse)).extract 1 (bs (49 :: (KText.low 6 (a % 1000000)).reverse)).size), .string ⟨#[48]⟩] w fun e w' => e = .returned (.string (bs (placesS a))) ∧ Ext w w') := fun w => by
    have e1 : (bs (49 :: (KText.low 6 (a % 1000000)).reverse)).extract 1 (bs (49 :: (KText.low 6 (a % 1000000)).reverse)).size = bs (KText.low 6 (a % 1000000)).reverse := by
      rw [bs_extract, bs_size, List.drop_one, List.tail_cons, List.length_cons, Nat.add_sub_cancel, List.take_length]
    rw [e1]
    have hcon := Any.strings_TrimRight_laid Tryz.lays162 (by kernel_rfl) (bs (KText.low 6 (a % 1000000)).reverse) ⟨#[48]⟩ w (by rw [bs_size]; omega) (by decide) (ascii_of_all (by decide))
    exact hcon
  have b1 : (bs (Lib.decDigits (a / 1000000))).size ≤ 4294967296 := by rw [bs_size]; have := dec_len (a / 1000000) (by omega); omega
  have hp6 : (placesS a).length ≤ 6 := by
    unfold placesS Lib.trimRightS
    rw [List.length_reverse]
    refine Nat.le_trans (List.dropWhile_sublist _).length_le ?_
    rw [List.length_reverse]; omega
  have b2 : (bs (placesS a)).size ≤ 4294967296 := by rw [bs_size]; omega
  have b3 : (bs (49 :: (KText.low 6 (a % 1000000)).reverse)).size = 7 := by rw [bs_size, List.length_cons, hpl]
  by_cases hp : placesS a = []
  · rw [if_pos hp]
    have ht : (bs (placesS a)).toList.isEmpty = true := by rw [bs_toList, hp]; rfl
    by_cases hs : av < 0
    · rw [if_pos hs, ← bs_append]
      exact text_neg_whole av w G ho' hs _ _ _ b1 b2 (by omega) (by omega) F1 F2 F3 ht
    · rw [if_neg hs]
      exact text_pos_whole av w G ho' (by omega) _ _ _ b1 b2 (by omega) (by omega) F1 F2 F3 ht
  · rw [if_neg hp]
    have ht : (bs (placesS a)).toList.isEmpty = false := by rw [bs_toList]; simpa [List.isEmpty_iff] using hp
    by_cases hs : av < 0
    · rw [if_pos hs, ← bs_append, ← bs_append, ← bs_append]
      exact text_neg_parts av w G ho' hs _ _ _ b1 b2 (by omega) (by omega) F1 F2 F3 ht
    · rw [if_neg hs, ← bs_append, ← bs_append]
      exact text_pos_parts av w G ho' (by omega) _ _ _ b1 b2 (by omega) (by omega) F1 F2 F3 ht
end Go.Proofs.YtfoclfefjcnllaaGreatDoor
