/-
  recensionref10.Same. Helper lemmas; no statement of the seat is proved here.
-/
import Derived.Test.YtghhachbnhldoaaDoorT4
import Derived.Test.YtghhachbnhldoaaDoorRegion
namespace Go.Proofs.YtghhachbnhldoaaDoor
open Go.RowKit
set_option maxRecDepth 100000
set_option linter.unusedVariables false
set_option linter.unusedSimpArgs false

mutual
def sameN : Node → Node → Bool
  | .mk k n t la ks, .mk k' n' t' la' ks' => decide (k = k') && decide (n = n') && decide (t = t') && attrsS la la' && sameL ks ks'
def sameL : List Node → List Node → Bool
  | [], [] => true
  | a :: x, b :: y => sameN a b && sameL x y
  | _, _ => false
end
theorem sameN_eq (a b : Node) : sameN a b = (decide (a.kind = b.kind) && decide (a.name = b.name) && decide (a.text = b.text) && attrsS a.attrs b.attrs && sameL a.kids b.kids) := by
  cases a; cases b; rw [sameN]; rfl
theorem sameL_ne : ∀ x y : List Node, x.length ≠ y.length → sameL x y = false
  | [], [], h => absurd rfl h
  | [], _ :: _, _ => by rw [sameL]; all_goals simp
  | _ :: _, [], _ => by rw [sameL]; all_goals simp
  | a :: x, b :: y, h => by rw [sameL, sameL_ne x y (by simpa using h), Bool.and_false]
mutual
def nsz : Node → Nat
  | .mk _ _ _ _ ks => 1 + nszL ks
def nszL : List Node → Nat
  | [] => 0
  | n :: r => nsz n + nszL r
end
theorem nszL_get : ∀ (l : List Node) (i : Nat) (h : i < l.length), nsz l[i] ≤ nszL l
  | [], i, h => absurd h (Nat.not_lt_zero _)
  | n :: r, 0, h => by rw [nszL]; exact Nat.le_add_right _ _
  | n :: r, i + 1, h => by
    have := nszL_get r i (by simpa using h)
    rw [nszL]; simp only [List.getElem_cons_succ]; omega
theorem kid_lt (n : Node) (i : Nat) (h : i < n.kids.length) : nsz n.kids[i] < nsz n := by
  cases n with
  | mk k nm t la ks =>
    have := nszL_get ks i h
    show nsz ks[i] < _
    rw [nsz]; omega
mutual
theorem sameN_iff : ∀ a b : Node, sameN a b = true ↔ a = b
  | .mk k n t la ks, .mk k' n' t' la' ks' => by
    rw [sameN]
    simp only [Bool.and_eq_true, decide_eq_true_iff, attrsS_iff, sameL_iff ks ks', Node.mk.injEq]
    constructor
    · rintro ⟨⟨⟨⟨a, b⟩, c⟩, d⟩, e⟩; exact ⟨a, b, c, d, e⟩
    · rintro ⟨a, b, c, d, e⟩; exact ⟨⟨⟨⟨a, b⟩, c⟩, d⟩, e⟩
theorem sameL_iff : ∀ x y : List Node, sameL x y = true ↔ x = y
  | [], [] => by simp [sameL]
  | [], _ :: _ => by simp [sameL]
  | _ :: _, [] => by simp [sameL]
  | a :: x, b :: y => by rw [sameL, Bool.and_eq_true, sameN_iff a b, sameL_iff x y, List.cons.injEq]
end
set_option maxHeartbeats 8000000 in
theorem same_any : ∀ (m : Nat) (a b : Node) (p q : Nat → Prop) (va vk ua uk : Value) (w : World), nsz a ≤ m → Rep w p va (attrsD a.attrs) → Rep w p vk (nodesD a.kids) → Rep w q ua (attrsD b.attrs) → Rep w q uk (nodesD b.kids) →
    Calls Tryd.prog 40 #[.agg #[.int .i64 a.kind, .string (bs a.name), .string (bs a.text), va, vk], .agg #[.int .i64 b.kind, .string (bs b.name), .string (bs b.text), ua, uk]] w fun e w' => e = .returned (.bool (sameN a b)) ∧ Ext w w' := by
  intro m
  induction m with
  | zero => intro a b p q va vk ua uk w hm; cases a; rw [nsz] at hm; omega
  | succ m ih =>
    intro a b p q va vk ua uk w hm hva hvk hua huk
    have hkid := fun i h => kid_lt a i h
    obtain ⟨k, nm, tx, la, ks⟩ := a
    obtain ⟨k', nm', tx', la', ks'⟩ := b
    simp only [Node.kind, Node.name, Node.text, Node.attrs, Node.kids] at *
    obtain ⟨ba, ca, rfl, _, _⟩ := hva.count z_attr (by omega)
    obtain ⟨bk, c, rfl, hc1, hc2⟩ := hvk.count z_node (by omega)
    obtain ⟨da, ea, rfl, _, _⟩ := hua.count z_attr (by omega)
    obtain ⟨dk, d, rfl, hd1, hd2⟩ := huk.count z_node (by omega)
    obtain ⟨R, hR⟩ : ∃ R, sameN (.mk k nm tx la ks) (.mk k' nm' tx' la' ks') = R := ⟨_, rfl⟩
    rw [hR]
    rw [sameN] at hR
    have HM : Hid (∀ (i : Nat) (h : i < ks.length), nsz ks[i] ≤ m) := Lib.hid (fun i h => by have := hkid i h; omega)
    clear hkid hm
    have IH := Lib.hid ih
    clear ih
    have HAT := Lib.hid fun W (hE : Ext w W) => attrs_any p q la la' _ _ W (hva.ext hE) (hua.ext hE)
    by_cases h1 : k = k'
    · subst h1
      have f1 : (k != k) = false := bne_self_eq_false _
      by_cases h2 : nm = nm'
      · subst h2
        by_cases h3 : tx = tx'
        · subst h3
          cases h4 : attrsS la la' with
          | false =>
            rw [h4] at HAT
            have HN : Hid (false = R) := Lib.hid (by rw [← hR, h4]; simp)
            clear hR h4
            go_enter Tryd.func40, Tryd.ntmps40
            go_wp2_with fail
            refine (HAT.out _ (((Ext.refl w).alloc _).alloc _)).mono ?_
            rintro e w1 ⟨rfl, hB1⟩
            go_wp2_with fail
            go_ret
            exact ⟨ret_bool HN.out, (((Ext.refl w).alloc _).alloc _).trans hB1⟩
          | true =>
            rw [h4] at HAT
            by_cases h5 : ks.length = ks'.length
            · have f5 : ((ks.length : Int) != (ks'.length : Int)) = false := by rw [h5]; exact bne_self_eq_false _
              have HL := Lib.hid h5
              have HR : Hid (sameL ks ks' = R) := Lib.hid (by rw [← hR, h4]; simp)
              clear hR h4 h5
              go_enter Tryd.func40, Tryd.ntmps40
              go_wp2_with fail
              refine (HAT.out _ (((Ext.refl w).alloc _).alloc _)).mono ?_
              rintro e w1 ⟨rfl, hB1⟩
              have hZ1 := hB1.size
              simp at hZ1
              have l0 : w.heap.size < w1.heap.size := by omega
              have l1 : w.heap.size + 1 < w1.heap.size := by omega
              have c4 : w1.cell? ⟨w.heap.size, 4, none⟩ = some (.slice bk ks.length c) := hB1.keep (by simp; omega) (by simp [go_sem])
              have d4 : w1.cell? ⟨w.heap.size + 1, 4, none⟩ = some (.slice dk ks'.length d) := hB1.keep (by simp) (by simp [go_sem])
              have hE1 : Ext w w1 := (((Ext.refl w).alloc _).alloc _).trans hB1
              clear hB1 hZ1 HAT
              go_wp2_with fail
              go_loopw [5] (fun t wr => ∃ i : Nat, t = .int .i64 i ∧ i ≤ ks.length ∧ Ext w1 wr ∧ Hid (sameL (ks.drop i) (ks'.drop i) = R)) (fun t _ => downV ks.length t)
              case atStart => exact ⟨0, rfl, Nat.zero_le _, Ext.refl _, HR⟩
              case round =>
                obtain ⟨i, rfl, hi, hX, HI⟩ := hrel
                have c4r := hX.keep l0 c4
                have d4r := hX.keep l1 d4
                have hXz := hX.size
                by_cases hlt : i < ks.length
                · have hlI : (i : Int) < (ks.length : Int) := by omega
                  have hi0 : (0 : Int) ≤ (i : Int) := by omega
                  have hly : i < ks'.length := by have := HL.out; omega
                  have hyI : (i : Int) < (ks'.length : Int) := by omega
                  have hEr := hE1.trans hX
                  obtain ⟨g1, o1, va1, vk1, rfl, lb1, _, e10, e11, e12, e13, e14, hra1, hrk1⟩ := node_at (hvk.ext hEr) i hlt
                  obtain ⟨g2, o2, va2, vk2, rfl, lb2, _, e20, e21, e22, e23, e24, hra2, hrk2⟩ := node_at (huk.ext hEr) i hly
                  have HS : Hid (sameL (ks.drop i) (ks'.drop i) = (sameN ks[i] ks'[i] && sameL (ks.drop (i + 1)) (ks'.drop (i + 1)))) := Lib.hid (by rw [drop_one ks i hlt, drop_one ks' i hly, sameL])
                  have hmi := HM.out i hlt
                  obtain ⟨x, hx⟩ : ∃ x, ks[i] = x := ⟨_, rfl⟩
                  obtain ⟨y, hy⟩ : ∃ y, ks'[i] = y := ⟨_, rfl⟩
                  rw [hx] at e10 e11 e12 hra1 hrk1 HS hmi
                  rw [hy] at e20 e21 e22 hra2 hrk2 HS
                  obtain ⟨B, hB⟩ : ∃ B, sameN x y = B := ⟨_, rfl⟩
                  have HC := Lib.hid fun W (hE : Ext wr W) => IH.out x y p q va1 vk1 va2 vk2 W hmi (hra1.ext hE) (hrk1.ext hE) (hra2.ext hE) (hrk2.ext hE)
                  rw [hB] at HC HS
                  have m0 : w.heap.size < wr.heap.size := by omega
                  have m1 : w.heap.size + 1 < wr.heap.size := by omega
                  obtain ⟨wz, hwz⟩ : ∃ wz, wz = wr := ⟨_, rfl⟩
                  subst hwz
                  clear hx hy hB hmi hra1 hra2 hrk1 hrk2
                  go_wp2_with fail
                  refine rg_begin (S := Sx wz) (by kernel_rfl) (Sx.begin _) ?_
                  have hS : Sx wz (World.drew wz) := (Sx.begin _)
                  refine rg_take 0 (some 49) (.pointer (some ⟨w.heap.size, 4, none⟩)) (oi := { dst := some 49, op := Go.Op.fieldAddr 52 (Go.Operand.tmp 2) 4, type := 0, pos := "ref.go:16", after := #[], guard := none }) rfl rfl (by kernel_rfl) (by kernel_rfl) (by kernel_rfl) (fun _ _ _ h => h) hS (by rfl) (fun w' hs => by first | rfl | go_simp) ?_
                  simp only [Act.put, List.setIfInBounds_toArray, List.set_cons_zero, List.set_cons_succ]
                  refine rg_take 1 (some 50) (.slice (some ⟨g1, o1, none⟩) ks.length c) (oi := { dst := some 50, op := Go.Op.load 50 (Go.Operand.tmp 49), type := 50, pos := "ref.go:16", after := #[{ on := 0, ground := Go.Ground.data }], guard := none }) rfl rfl (by kernel_rfl) (by kernel_rfl) (by kernel_rfl) (fun _ _ _ h => h) hS (by rfl) (fun w' hs => by (have h0 := hs.cell m0 c4r; go_simp)) ?_
                  simp only [Act.put, List.setIfInBounds_toArray, List.set_cons_zero, List.set_cons_succ]
                  refine rg_take 2 (some 51) (.int .i64 i) (oi := { dst := some 51, op := Go.Op.move (Go.Operand.tmp 5), type := 3, pos := "ref.go:16", after := #[], guard := none }) rfl rfl (by kernel_rfl) (by kernel_rfl) (by kernel_rfl) (fun _ _ _ h => h) hS (by rfl) (fun w' hs => by rfl) ?_
                  simp only [Act.put, List.setIfInBounds_toArray, List.set_cons_zero, List.set_cons_succ]
                  refine rg_take 3 (some 52) (.pointer (some ⟨g1, o1 + i * 5, none⟩)) (oi := { dst := some 52, op := Go.Op.indexAddr 50 (Go.Operand.tmp 50) (Go.Operand.tmp 51), type := 0, pos := "ref.go:16", after := #[{ on := 1, ground := Go.Ground.data }, { on := 2, ground := Go.Ground.data }], guard := none }) rfl rfl (by kernel_rfl) (by kernel_rfl) (by kernel_rfl) (fun _ _ _ h => h) hS (by rfl) (fun w' hs => by first | rfl | go_simp) ?_
                  simp only [Act.put, List.setIfInBounds_toArray, List.set_cons_zero, List.set_cons_succ]
                  refine rg_take 4 (some 53) (.agg #[.int .i64 x.kind, .string (bs x.name), .string (bs x.text), va1, vk1]) (oi := { dst := some 53, op := Go.Op.load 52 (Go.Operand.tmp 52), type := 52, pos := "ref.go:16", after := #[{ on := 3, ground := Go.Ground.data }], guard := none }) rfl rfl (by kernel_rfl) (by kernel_rfl) (by kernel_rfl) (fun _ _ _ h => h) hS (by rfl) (fun w' hs => by (have h0 := hs.cell lb1 e10; have h1 := hs.cell lb1 e11; have h2 := hs.cell lb1 e12; have h3 := hs.cell lb1 e13; have h4 := hs.cell lb1 e14; go_simp)) ?_
                  simp only [Act.put, List.setIfInBounds_toArray, List.set_cons_zero, List.set_cons_succ]
                  refine rg_take 5 (some 54) (.pointer (some ⟨w.heap.size + 1, 4, none⟩)) (oi := { dst := some 54, op := Go.Op.fieldAddr 52 (Go.Operand.tmp 3) 4, type := 0, pos := "ref.go:16", after := #[], guard := none }) rfl rfl (by kernel_rfl) (by kernel_rfl) (by kernel_rfl) (fun _ _ _ h => h) hS (by rfl) (fun w' hs => by first | rfl | go_simp) ?_
                  simp only [Act.put, List.setIfInBounds_toArray, List.set_cons_zero, List.set_cons_succ]
                  refine rg_take 6 (some 55) (.slice (some ⟨g2, o2, none⟩) ks'.length d) (oi := { dst := some 55, op := Go.Op.load 50 (Go.Operand.tmp 54), type := 50, pos := "ref.go:16", after := #[{ on := 5, ground := Go.Ground.data }], guard := none }) rfl rfl (by kernel_rfl) (by kernel_rfl) (by kernel_rfl) (fun _ _ _ h => h) hS (by rfl) (fun w' hs => by (have h0 := hs.cell m1 d4r; go_simp)) ?_
                  simp only [Act.put, List.setIfInBounds_toArray, List.set_cons_zero, List.set_cons_succ]
                  refine rg_take 7 (some 56) (.int .i64 i) (oi := { dst := some 56, op := Go.Op.move (Go.Operand.tmp 5), type := 3, pos := "ref.go:16", after := #[], guard := none }) rfl rfl (by kernel_rfl) (by kernel_rfl) (by kernel_rfl) (fun _ _ _ h => h) hS (by rfl) (fun w' hs => by rfl) ?_
                  simp only [Act.put, List.setIfInBounds_toArray, List.set_cons_zero, List.set_cons_succ]
                  refine rg_take 8 (some 57) (.pointer (some ⟨g2, o2 + i * 5, none⟩)) (oi := { dst := some 57, op := Go.Op.indexAddr 50 (Go.Operand.tmp 55) (Go.Operand.tmp 56), type := 0, pos := "ref.go:16", after := #[{ on := 6, ground := Go.Ground.data }, { on := 7, ground := Go.Ground.data }], guard := none }) rfl rfl (by kernel_rfl) (by kernel_rfl) (by kernel_rfl) (fun _ _ _ h => h) hS (by rfl) (fun w' hs => by first | rfl | go_simp) ?_
                  simp only [Act.put, List.setIfInBounds_toArray, List.set_cons_zero, List.set_cons_succ]
                  refine rg_take 9 (some 58) (.agg #[.int .i64 y.kind, .string (bs y.name), .string (bs y.text), va2, vk2]) (oi := { dst := some 58, op := Go.Op.load 52 (Go.Operand.tmp 57), type := 52, pos := "ref.go:16", after := #[{ on := 8, ground := Go.Ground.data }], guard := none }) rfl rfl (by kernel_rfl) (by kernel_rfl) (by kernel_rfl) (fun _ _ _ h => h) hS (by rfl) (fun w' hs => by (have h0 := hs.cell lb2 e20; have h1 := hs.cell lb2 e21; have h2 := hs.cell lb2 e22; have h3 := hs.cell lb2 e23; have h4 := hs.cell lb2 e24; go_simp)) ?_
                  simp only [Act.put, List.setIfInBounds_toArray, List.set_cons_zero, List.set_cons_succ]
                  refine rg_call 10 (some 59) 40 #[.agg #[.int .i64 x.kind, .string (bs x.name), .string (bs x.text), va1, vk1], .agg #[.int .i64 y.kind, .string (bs y.name), .string (bs y.text), va2, vk2]] (oi := { dst := some 59, op := Go.Op.call { callee := Go.Callee.value (Go.Operand.func 40), args := #[Go.Operand.tmp 53, Go.Operand.tmp 58], argTypes := #[52, 52] }, type := 4, pos := "ref.go:16", after := #[{ on := 4, ground := Go.Ground.data }, { on := 9, ground := Go.Ground.data }], guard := none }) rfl rfl (by kernel_rfl) (by rfl) (fun w' => by first | rfl | go_simp) (R := fun v w' => v = .bool B ∧ Ext (World.drew wz) w') ?_ ?_
                  · refine (HC.out (World.drew wz) hS).mono ?_
                    rintro e w' ⟨rfl, h⟩
                    exact ⟨_, rfl, rfl, h⟩
                  rintro _ wr1 ⟨rfl, hBr1⟩
                  have hS1 := hS.ext hBr1
                  refine ⟨hS1, ?_⟩
                  simp only [Act.put, List.setIfInBounds_toArray, List.set_cons_zero, List.set_cons_succ]
                  refine rg_take 11 (some 60) (.bool (!B)) (oi := { dst := some 60, op := Go.Op.unOp Go.UnOp.not 4 (Go.Operand.tmp 59), type := 4, pos := "ref.go:16", after := #[{ on := 10, ground := Go.Ground.data }], guard := none }) rfl rfl (by kernel_rfl) (by kernel_rfl) (by kernel_rfl) (fun _ _ _ h => h) hS1 (by rfl) (fun w' hs => by first | rfl | go_simp) ?_
                  simp only [Act.put, List.setIfInBounds_toArray, List.set_cons_zero, List.set_cons_succ]
                  refine rg_done (by kernel_rfl) ?_
                  cases B with
                  | true =>
                    have HN : Hid (sameL (ks.drop (i + 1)) (ks'.drop (i + 1)) = R) := Lib.hid (by rw [← HI.out, HS.out]; rfl)
                    clear HS HI
                    go_wp2_with fail
                    go_roundw
                    case rel => exact ⟨i + 1, by go_num, by omega, hX.trans hS1, HN⟩
                    case measure => simp only [downV]; omega
                  | false =>
                    have HN : Hid (false = R) := Lib.hid (by rw [← HI.out, HS.out]; rfl)
                    clear HS HI
                    go_wp2_with fail
                    go_ret
                    exact ⟨ret_bool HN.out, hEr.trans hS1⟩
                · have hlI : ¬ (i : Int) < (ks.length : Int) := by omega
                  have HN : Hid (true = R) := Lib.hid (by
                    have := HI.out
                    rw [List.drop_of_length_le (by omega), List.drop_of_length_le (by have := HL.out; omega)] at this
                    exact this)
                  clear HI
                  go_wp2_with fail
                  go_ret
                  exact ⟨ret_bool HN.out, hE1.trans hX⟩
            · have f5 : ((ks.length : Int) != (ks'.length : Int)) = true := by rw [bne_iff_ne]; omega
              have HN : Hid (false = R) := Lib.hid (by rw [← hR, sameL_ne ks ks' h5]; simp)
              clear hR h4 h5
              go_enter Tryd.func40, Tryd.ntmps40
              go_wp2_with fail
              refine (HAT.out _ (((Ext.refl w).alloc _).alloc _)).mono ?_
              rintro e w1 ⟨rfl, hB1⟩
              have hZ1 := hB1.size
              simp at hZ1
              have l0 : w.heap.size < w1.heap.size := by omega
              have l1 : w.heap.size + 1 < w1.heap.size := by omega
              have c4 : w1.cell? ⟨w.heap.size, 4, none⟩ = some (.slice bk ks.length c) := hB1.keep (by simp; omega) (by simp [go_sem])
              have d4 : w1.cell? ⟨w.heap.size + 1, 4, none⟩ = some (.slice dk ks'.length d) := hB1.keep (by simp) (by simp [go_sem])
              have hE1 : Ext w w1 := (((Ext.refl w).alloc _).alloc _).trans hB1
              clear hB1 hZ1 HAT
              go_wp2_with fail
              go_ret
              exact ⟨ret_bool HN.out, hE1⟩
        · have f3 : ((bs tx).toList == (bs tx').toList) = false := by rw [bs_toList, bs_toList, beq_eq_false_iff_ne]; exact h3
          have HN : Hid (false = R) := Lib.hid (by rw [← hR, decide_eq_false h3]; simp)
          clear hR h3
          go_enter Tryd.func40, Tryd.ntmps40
          go_wp2_with fail
          go_ret
          exact ⟨ret_bool HN.out, ((Ext.refl w).alloc _).alloc _⟩
      · have f2 : ((bs nm).toList == (bs nm').toList) = false := by rw [bs_toList, bs_toList, beq_eq_false_iff_ne]; exact h2
        have HN : Hid (false = R) := Lib.hid (by rw [← hR, decide_eq_false h2]; simp)
        clear hR h2
        go_enter Tryd.func40, Tryd.ntmps40
        go_wp2_with fail
        go_ret
        exact ⟨ret_bool HN.out, ((Ext.refl w).alloc _).alloc _⟩
    · have f1 : (k != k') = true := by rw [bne_iff_ne]; exact h1
      have HN : Hid (false = R) := Lib.hid (by rw [← hR, decide_eq_false h1]; simp)
      clear hR h1
      go_enter Tryd.func40, Tryd.ntmps40
      go_wp2_with fail
      go_ret
      exact ⟨ret_bool HN.out, ((Ext.refl w).alloc _).alloc _⟩

end Go.Proofs.YtghhachbnhldoaaDoor
