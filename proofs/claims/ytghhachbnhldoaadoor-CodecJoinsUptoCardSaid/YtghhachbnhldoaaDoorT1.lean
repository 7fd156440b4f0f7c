/-
  Small functions of the references over texts, attributes, spans: the same? Helper lemmas; no statement of the seat is proved here.
-/
import Derived.Test.YtghhachbnhldoaaDoorTree
import Derived.Deep.QuietTactic
import Derived.BigQuiet
import Derived.Laws.StructEq
namespace Go.Proofs.YtghhachbnhldoaaDoor
open Go.RowKit
set_option maxRecDepth 100000
set_option linter.unusedVariables false
set_option linter.unusedSimpArgs false

/-- The world has been asked for orders alone. -/
def Dr (w w' : World) : Prop := ∃ m, w' = w.drewN m
theorem Dr.refl (w : World) : Dr w w := ⟨0, rfl⟩
theorem Dr.ext {w w' : World} (h : Dr w w') : Ext w w' := by obtain ⟨m, rfl⟩ := h; exact (Ext.refl w).drewN m
theorem Dr.drewN {w w' : World} (h : Dr w w') (n : Nat) : Dr w (w'.drewN n) := by obtain ⟨m, rfl⟩ := h; exact ⟨m + n, by rw [World.drewN_drewN]⟩
theorem Dr.trans {a b c : World} (h : Dr a b) (k : Dr b c) : Dr a c := by obtain ⟨m, rfl⟩ := h; obtain ⟨n, rfl⟩ := k; exact ⟨m + n, by rw [World.drewN_drewN]⟩
/-- A quiet call amid a region that draws: the first such region of a walk, and a later one. -/
theorem quiet0 {P : Program} {f : FuncId} {args : Array Value} {w : World} {n : Nat} {v : Value} (h : Calls P f args (w.drewN n) fun e w' => e = .returned v ∧ Dr (w.drewN n) w') : Calls P f args (w.drewN n) fun e w'' => e = .returned v ∧ ∃ m, w'' = w.drewN m :=
  h.mono fun _ _ ⟨he, m, hm⟩ => ⟨he, n + m, by rw [hm, World.drewN_drewN]⟩
theorem quiet1 {P : Program} {f : FuncId} {args : Array Value} {w : World} {a n : Nat} {v : Value} (h : Calls P f args (w.drewN (a + n)) fun e w' => e = .returned v ∧ Dr (w.drewN (a + n)) w') : Calls P f args (w.drewN (a + n)) fun e w'' => e = .returned v ∧ ∃ m, w'' = w.drewN (a + m) :=
  h.mono fun _ _ ⟨he, m, hm⟩ => ⟨he, n + m, by rw [hm, World.drewN_drewN, Nat.add_assoc]⟩
def downV (N : Nat) : Value → Nat
  | .int _ k => (N - k).toNat
  | _ => 0
theorem drop_one {α : Type} (l : List α) (i : Nat) (h : i < l.length) : l.drop i = l[i] :: l.drop (i + 1) := List.drop_eq_getElem_cons h
deriving instance DecidableEq for Attr
deriving instance DecidableEq for Span
/-- Two structs of two fields of a cell each. -/
theorem eq_two {P : Program} {t t1 t2 : TypeId} {x1 x2 y1 y2 : Value} {b1 b2 : Bool} (s : P.stoodInHeld t = false) (u : P.underlying t = some (.struct (P.fieldsOf t)))
    (f1 f2 : Field) (hf : (P.fieldsOf t).toList = [f1, f2]) (n1 : (f1.name == "_") = false) (n2 : (f2.name == "_") = false) (e1 : f1.type = t1) (e2 : f2.type = t2) (o1 : f1.offset = 0) (o2 : f2.offset = 1)
    (p1 : ∀ a b w, (part t1 #[a, b] 0).run P w = .ok a w) (p2 : ∀ a b w, (part t2 #[a, b] 1).run P w = .ok b w)
    (q1 : ∀ w, (Op.equalIn 9999 t1 x1 y1).run P w = .ok b1 w) (q2 : ∀ w, (Op.equalIn 9999 t2 x2 y2).run P w = .ok b2 w) (w : World) :
    (Op.equalIn 10000 t (.agg #[x1, x2]) (.agg #[y1, y2])).run P w = .ok (b1 && b2) w := by
  have m1 : f1.name ≠ "_" := by simpa using n1
  have m2 : f2.name ≠ "_" := by simpa using n2
  rw [run_equalIn_agg w 9999 t _ _ u s, hf]
  simp only [Op.eqFields, if_pos m1, if_pos m2, e1, e2, o1, o2, Sem.run_bind, p1, p2, Result.andThen_ok, q1, q2]
  cases b1 <;> cases b2 <;> simp [q2, p2]
theorem neq_attr (a b c d : ByteArray) (w : World) : (binOp .neq 101 (.agg #[.string a, .string b]) (.agg #[.string c, .string d])).run Tryd.prog w = .ok (.bool (!((a.toList == c.toList) && (b.toList == d.toList)))) w := by
  rw [run_neq_struct, eq_two (b1 := (a.toList == c.toList)) (b2 := (b.toList == d.toList)) (by kernel_rfl) (by kernel_rfl) (Tryd.prog.fieldsOf 101)[0]! (Tryd.prog.fieldsOf 101)[1]! (by kernel_rfl) (by kernel_rfl) (by kernel_rfl) (t1 := 9) (t2 := 9) (by kernel_rfl) (by kernel_rfl) (by kernel_rfl) (by kernel_rfl) (fun _ _ _ => by kernel_rfl) (fun _ _ _ => by kernel_rfl) (fun w => run_equalIn_string w _ _ _ _ Tryd.underlying9) (fun w => run_equalIn_string w _ _ _ _ Tryd.underlying9)]
  rfl
theorem grd_attr (x y : Operand) (a b c d : Value) (w : World) : (eqGuard .neq 101 x y (.agg #[a, b]) (.agg #[c, d])).run Tryd.prog w = .ok () w := run_eqGuard_agg w _ _ _ _ _ _ (by kernel_rfl)
theorem neq_span (a b c d : Int) (w : World) : (binOp .neq 132 (.agg #[.int .i64 a, .int .i64 b]) (.agg #[.int .i64 c, .int .i64 d])).run Tryd.prog w = .ok (.bool (!((a == c) && (b == d)))) w := by
  rw [run_neq_struct, eq_two (b1 := (a == c)) (b2 := (b == d)) (by kernel_rfl) (by kernel_rfl) (Tryd.prog.fieldsOf 132)[0]! (Tryd.prog.fieldsOf 132)[1]! (by kernel_rfl) (by kernel_rfl) (by kernel_rfl) (t1 := 3) (t2 := 3) (by kernel_rfl) (by kernel_rfl) (by kernel_rfl) (by kernel_rfl) (fun _ _ _ => by kernel_rfl) (fun _ _ _ => by kernel_rfl) (fun w => run_equalIn_int w _ _ .i64 _ _ _ Tryd.underlying3) (fun w => run_equalIn_int w _ _ .i64 _ _ _ Tryd.underlying3)]
  rfl
theorem grd_span (x y : Operand) (a b c d : Value) (w : World) : (eqGuard .neq 132 x y (.agg #[a, b]) (.agg #[c, d])).run Tryd.prog w = .ok () w := run_eqGuard_agg w _ _ _ _ _ _ (by kernel_rfl)
theorem attr_eqE (s : Attr) (w : World) : (binOp .neq 101 (.agg #[.string (bs s.n), .string (bs s.v)]) (.agg #[.string (bs s.n), .string (bs s.v)])).run Tryd.prog w = .ok (.bool false) w := by rw [neq_attr]; simp
theorem attr_eqN (s t : Attr) (h : ¬ s = t) (w : World) : (binOp .neq 101 (.agg #[.string (bs s.n), .string (bs s.v)]) (.agg #[.string (bs t.n), .string (bs t.v)])).run Tryd.prog w = .ok (.bool true) w := by
  rw [neq_attr, bs_eqv, bs_eqv]
  have : ((s.n == t.n) && (s.v == t.v)) = false := by
    rw [Bool.eq_false_iff]; intro e
    simp only [Bool.and_eq_true, beq_iff_eq] at e
    apply h; cases s; cases t; simp_all
  rw [this]; rfl
theorem span_eqE (s : Span) (w : World) : (binOp .neq 132 (.agg #[.int .i64 s.a, .int .i64 s.b]) (.agg #[.int .i64 s.a, .int .i64 s.b])).run Tryd.prog w = .ok (.bool false) w := by rw [neq_span]; simp
theorem span_eqN (s t : Span) (h : ¬ s = t) (w : World) : (binOp .neq 132 (.agg #[.int .i64 s.a, .int .i64 s.b]) (.agg #[.int .i64 t.a, .int .i64 t.b])).run Tryd.prog w = .ok (.bool true) w := by
  rw [neq_span]
  have : ((s.a == t.a) && (s.b == t.b)) = false := by
    rw [Bool.eq_false_iff]; intro e
    simp only [Bool.and_eq_true, beq_iff_eq] at e
    apply h; cases s; cases t; simp_all
  rw [this]; rfl
def textsS : List Bytes → List Bytes → Bool
  | [], [] => true
  | a :: x, b :: y => if a = b then textsS x y else false
  | _, _ => false
theorem textsS_ne : ∀ x y : List Bytes, x.length ≠ y.length → textsS x y = false
  | [], [], h => absurd rfl h
  | [], _ :: _, _ => rfl
  | _ :: _, [], _ => rfl
  | a :: x, b :: y, h => by
    unfold textsS
    split
    · exact textsS_ne x y (by simpa using h)
    · rfl
theorem textsS_iff : ∀ x y : List Bytes, textsS x y = true ↔ x = y
  | [], [] => by simp [textsS]
  | [], _ :: _ => by simp [textsS]
  | _ :: _, [] => by simp [textsS]
  | a :: x, b :: y => by
    unfold textsS
    split
    · rename_i h; rw [textsS_iff x y, h]; simp
    · rename_i h; simp [h]
set_option maxHeartbeats 4000000 in
theorem texts_q (p q : Nat → Prop) (x y : List Bytes) (v u : Value) (w : World) (h : Rep w p v (strsD x)) (k : Rep w q u (strsD y)) :
    Calls Tryd.prog 79 #[v, u] w fun e w' => e = .returned (.bool (textsS x y)) ∧ Dr w w' := by
  obtain ⟨a, c, rfl, hc1, hc2⟩ := h.count z_str (by omega)
  obtain ⟨b, d, rfl, hd1, hd2⟩ := k.count z_str (by omega)
  obtain ⟨R, hR⟩ : ∃ R, textsS x y = R := ⟨_, rfl⟩
  rw [hR]
  have HR := Lib.hid hR
  by_cases hl : x.length = y.length
  · have hl1 : ((x.length : Int) != (y.length : Int)) = false := by rw [hl]; exact bne_self_eq_false _
    have HL := Lib.hid hl
    clear hR hl
    go_enter Tryd.func79, Tryd.ntmps79
    go_wp2_with fail
    go_loopw [5] (fun t wr => ∃ i : Nat, t = .int .i64 i ∧ i ≤ x.length ∧ Dr w wr ∧ Hid (textsS (x.drop i) (y.drop i) = R)) (fun t _ => downV x.length t)
    case atStart => exact ⟨0, rfl, Nat.zero_le _, Dr.refl _, HR⟩
    case round =>
      obtain ⟨i, rfl, hi, hX, HI⟩ := hrel
      by_cases hlt : i < x.length
      · have hlI : (i : Int) < (x.length : Int) := by omega
        have hi0 : (0 : Int) ≤ (i : Int) := by omega
        have hly : i < y.length := by have := HL.out; omega
        have hyI : (i : Int) < (y.length : Int) := by omega
        obtain ⟨g1, o1, rfl, hb1, hp1, hc1⟩ := str_at (h.ext hX.ext) i hlt
        obtain ⟨g2, o2, rfl, hb2, hp2, hc2⟩ := str_at (k.ext hX.ext) i hly
        have HS : Hid (textsS (x.drop i) (y.drop i) = if x[i] = y[i] then textsS (x.drop (i + 1)) (y.drop (i + 1)) else false) := Lib.hid (by rw [drop_one x i hlt, drop_one y i hly]; rfl)
        obtain ⟨s, hs⟩ : ∃ s, x[i] = s := ⟨_, rfl⟩
        obtain ⟨t, ht⟩ : ∃ t, y[i] = t := ⟨_, rfl⟩
        rw [hs] at hc1 HS
        rw [ht] at hc2 HS
        have HX := Lib.hid hX
        clear hs ht hX
        by_cases he : s = t
        · subst he
          have HN : Hid (textsS (x.drop (i + 1)) (y.drop (i + 1)) = R) := Lib.hid (by have := HS.out; rw [if_pos rfl] at this; rw [← this]; exact HI.out)
          clear HS HI
          go_wp2_with fail
          go_quiet (fail)
          go_wp2_with fail
          go_roundw
          case rel => exact ⟨i + 1, by go_num, by omega, HX.out.drewN _, HN⟩
          case measure => simp only [downV]; omega
        · have HN : Hid (false = R) := Lib.hid (by have := HS.out; rw [if_neg he] at this; rw [← this]; exact HI.out)
          have e1 : ((bs s).toList == (bs t).toList) = false := by rw [bs_toList, bs_toList, beq_eq_false_iff_ne]; exact he
          clear HS HI he
          go_wp2_with fail
          go_quiet (fail)
          go_wp2_with fail
          go_ret
          exact ⟨ret_bool HN.out, HX.out.drewN _⟩
      · have hlI : ¬ (i : Int) < (x.length : Int) := by omega
        have HN : Hid (true = R) := Lib.hid (by
          have := HI.out
          rw [List.drop_of_length_le (by omega), List.drop_of_length_le (by have := HL.out; omega)] at this
          exact this)
        clear HI
        go_wp2_with fail
        go_ret
        exact ⟨ret_bool HN.out, hX⟩
  · have hl1 : ((x.length : Int) != (y.length : Int)) = true := by rw [bne_iff_ne]; omega
    have HN : Hid (false = R) := Lib.hid (by rw [← hR, textsS_ne x y hl])
    clear hR hl HR
    go_enter Tryd.func79, Tryd.ntmps79
    go_wp2_with fail
    go_ret
    exact ⟨ret_bool HN.out, Dr.refl _⟩
theorem texts_any (p q : Nat → Prop) (x y : List Bytes) (v u : Value) (w : World) (h : Rep w p v (strsD x)) (k : Rep w q u (strsD y)) :
    Calls Tryd.prog 79 #[v, u] w fun e w' => e = .returned (.bool (textsS x y)) ∧ Ext w w' :=
  (texts_q p q x y v u w h k).mono fun _ _ ⟨he, hd⟩ => ⟨he, hd.ext⟩
def attrsS : List Attr → List Attr → Bool
  | [], [] => true
  | a :: x, b :: y => if a = b then attrsS x y else false
  | _, _ => false
theorem attrsS_ne : ∀ x y : List Attr, x.length ≠ y.length → attrsS x y = false
  | [], [], h => absurd rfl h
  | [], _ :: _, _ => rfl
  | _ :: _, [], _ => rfl
  | a :: x, b :: y, h => by
    unfold attrsS
    split
    · exact attrsS_ne x y (by simpa using h)
    · rfl
theorem attrsS_iff : ∀ x y : List Attr, attrsS x y = true ↔ x = y
  | [], [] => by simp [attrsS]
  | [], _ :: _ => by simp [attrsS]
  | _ :: _, [] => by simp [attrsS]
  | a :: x, b :: y => by
    unfold attrsS
    split
    · rename_i h; rw [attrsS_iff x y, h]; simp
    · rename_i h; simp [h]
set_option maxHeartbeats 4000000 in
theorem attrs_q (p q : Nat → Prop) (x y : List Attr) (v u : Value) (w : World) (h : Rep w p v (attrsD x)) (k : Rep w q u (attrsD y)) :
    Calls Tryd.prog 38 #[v, u] w fun e w' => e = .returned (.bool (attrsS x y)) ∧ Dr w w' := by
  obtain ⟨a, c, rfl, hc1, hc2⟩ := h.count z_attr (by omega)
  obtain ⟨b, d, rfl, hd1, hd2⟩ := k.count z_attr (by omega)
  obtain ⟨R, hR⟩ : ∃ R, attrsS x y = R := ⟨_, rfl⟩
  rw [hR]
  have HR := Lib.hid hR
  by_cases hl : x.length = y.length
  · have hl1 : ((x.length : Int) != (y.length : Int)) = false := by rw [hl]; exact bne_self_eq_false _
    have HL := Lib.hid hl
    clear hR hl
    go_enter Tryd.func38, Tryd.ntmps38
    go_wp2_with fail
    go_loopw [5] (fun t wr => ∃ i : Nat, t = .int .i64 i ∧ i ≤ x.length ∧ Dr w wr ∧ Hid (attrsS (x.drop i) (y.drop i) = R)) (fun t _ => downV x.length t)
    case atStart => exact ⟨0, rfl, Nat.zero_le _, Dr.refl _, HR⟩
    case round =>
      obtain ⟨i, rfl, hi, hX, HI⟩ := hrel
      by_cases hlt : i < x.length
      · have hlI : (i : Int) < (x.length : Int) := by omega
        have hi0 : (0 : Int) ≤ (i : Int) := by omega
        have hly : i < y.length := by have := HL.out; omega
        have hyI : (i : Int) < (y.length : Int) := by omega
        obtain ⟨g1, o1, rfl, hb1, hp1, hc1, hd1⟩ := attr_at (h.ext hX.ext) i hlt
        obtain ⟨g2, o2, rfl, hb2, hp2, hc2, hd2⟩ := attr_at (k.ext hX.ext) i hly
        have HS : Hid (attrsS (x.drop i) (y.drop i) = if x[i] = y[i] then attrsS (x.drop (i + 1)) (y.drop (i + 1)) else false) := Lib.hid (by rw [drop_one x i hlt, drop_one y i hly]; rfl)
        obtain ⟨s, hs⟩ : ∃ s, x[i] = s := ⟨_, rfl⟩
        obtain ⟨t, ht⟩ : ∃ t, y[i] = t := ⟨_, rfl⟩
        rw [hs] at hc1 hd1 HS
        rw [ht] at hc2 hd2 HS
        have HX := Lib.hid hX
        clear hs ht hX
        by_cases he : s = t
        · subst he
          have HN : Hid (attrsS (x.drop (i + 1)) (y.drop (i + 1)) = R) := Lib.hid (by have := HS.out; rw [if_pos rfl] at this; rw [← this]; exact HI.out)
          have hq := attr_eqE s
          have hg := grd_attr
          clear HS HI
          go_wp2_with fail
          go_quiet (fail)
          go_wp2_with fail
          go_roundw
          case rel => exact ⟨i + 1, by go_num, by omega, HX.out.drewN _, HN⟩
          case measure => simp only [downV]; omega
        · have HN : Hid (false = R) := Lib.hid (by have := HS.out; rw [if_neg he] at this; rw [← this]; exact HI.out)
          have hq := attr_eqN s t he
          have hg := grd_attr
          clear HS HI he
          go_wp2_with fail
          go_quiet (fail)
          go_wp2_with fail
          go_ret
          exact ⟨ret_bool HN.out, HX.out.drewN _⟩
      · have hlI : ¬ (i : Int) < (x.length : Int) := by omega
        have HN : Hid (true = R) := Lib.hid (by
          have := HI.out
          rw [List.drop_of_length_le (by omega), List.drop_of_length_le (by have := HL.out; omega)] at this
          exact this)
        clear HI
        go_wp2_with fail
        go_ret
        exact ⟨ret_bool HN.out, hX⟩
  · have hl1 : ((x.length : Int) != (y.length : Int)) = true := by rw [bne_iff_ne]; omega
    have HN : Hid (false = R) := Lib.hid (by rw [← hR, attrsS_ne x y hl])
    clear hR hl HR
    go_enter Tryd.func38, Tryd.ntmps38
    go_wp2_with fail
    go_ret
    exact ⟨ret_bool HN.out, Dr.refl _⟩
theorem attrs_any (p q : Nat → Prop) (x y : List Attr) (v u : Value) (w : World) (h : Rep w p v (attrsD x)) (k : Rep w q u (attrsD y)) :
    Calls Tryd.prog 38 #[v, u] w fun e w' => e = .returned (.bool (attrsS x y)) ∧ Ext w w' :=
  (attrs_q p q x y v u w h k).mono fun _ _ ⟨he, hd⟩ => ⟨he, hd.ext⟩
def spansS : List Span → List Span → Bool
  | [], [] => true
  | a :: x, b :: y => if a = b then spansS x y else false
  | _, _ => false
theorem spansS_ne : ∀ x y : List Span, x.length ≠ y.length → spansS x y = false
  | [], [], h => absurd rfl h
  | [], _ :: _, _ => rfl
  | _ :: _, [], _ => rfl
  | a :: x, b :: y, h => by
    unfold spansS
    split
    · exact spansS_ne x y (by simpa using h)
    · rfl
theorem spansS_iff : ∀ x y : List Span, spansS x y = true ↔ x = y
  | [], [] => by simp [spansS]
  | [], _ :: _ => by simp [spansS]
  | _ :: _, [] => by simp [spansS]
  | a :: x, b :: y => by
    unfold spansS
    split
    · rename_i h; rw [spansS_iff x y, h]; simp
    · rename_i h; simp [h]
end Go.Proofs.YtghhachbnhldoaaDoor
