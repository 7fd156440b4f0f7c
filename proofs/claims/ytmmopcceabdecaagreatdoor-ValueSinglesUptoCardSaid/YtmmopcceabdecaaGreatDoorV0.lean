/-
  Laws drawn from elder texts. Helper lemmas; no statement of the seat is proved here.
-/
import Derived.Test.YtmmopcceabdecaaGreatDoorTree
import Derived.Test.YtmmopcceabdecaaGreatDoorRegion
import Derived.Deep.QuietTactic
import Derived.BigQuiet
import Derived.Laws.StructEq
import Derived.IntWalk
import Derived.Laws.IdiomStrings
import Derived.Laws.Cover3
import Derived.Laws.Rows
import Derived.RowKitTokens
import Derived.Laws.AppendOwnNone
namespace Go.Proofs.YtmmopcceabdecaaGreatDoor
open Go.RowKit
set_option maxRecDepth 100000
set_option linter.unusedVariables false
set_option linter.unusedSimpArgs false

/-- The world has been asked for orders alone. -/
def Dr (w w' : World) : Prop := ∃ m, w' = w.drewN m
theorem Dr.refl (w : World) : Dr w w := ⟨0, rfl⟩
theorem Dr.ext {w w' : World} (h : Dr w w') : Ext w w' := by obtain ⟨m, rfl⟩ := h; exact (Ext.refl w).drewN m
theorem Dr.drewN {w w' : World} (h : Dr w w') (n : Nat) : Dr w (w'.drewN n) := by obtain ⟨m, rfl⟩ := h; exact ⟨m + n, by rw [World.drewN_drewN]⟩
theorem Dr.trans {a b c : World} (h : Dr a b) (k : Dr b c) : Dr a c := by obtain ⟨m, rfl⟩ := h; obtain ⟨n, rfl⟩ := k; exact ⟨m + n, by rw [World.drewN_drewN]⟩
def downV (N : Nat) : Value → Nat
  | .int _ k => (N - k).toNat
  | _ => 0
theorem drop_one {α : Type} (l : List α) (i : Nat) (h : i < l.length) : l.drop i = l[i] :: l.drop (i + 1) := List.drop_eq_getElem_cons h
def textsS : List Bytes → List Bytes → Bool
  | [], [] => true
  | a :: x, b :: y => if a = b then textsS x y else false
  | _, _ => false
theorem textsS_ne : ∀ x y : List Bytes, x.length ≠ y.length → textsS x y = false
  | [], [], h => absurd rfl h
  | [], _ :: _, _ => rfl
  | _ :: _, [], _ => rfl
  | a :: x, b :: y, h => by
    unfold textsS
    split
    · exact textsS_ne x y (by simpa using h)
    · rfl
set_option maxHeartbeats 4000000 in
theorem texts_q (p q : Nat → Prop) (x y : List Bytes) (v u : Value) (w : World) (h : Rep w p v (strsD x)) (k : Rep w q u (strsD y)) :
    Calls Tryz.prog 64 #[v, u] w fun e w' => e = .returned (.bool (textsS x y)) ∧ Dr w w' := by
  obtain ⟨a, c, rfl, hc1, hc2⟩ := h.count z_str (by omega)
  obtain ⟨b, d, rfl, hd1, hd2⟩ := k.count z_str (by omega)
  obtain ⟨R, hR⟩ : ∃ R, textsS x y = R := ⟨_, rfl⟩
  rw [hR]
  have HR := Lib.hid hR
  by_cases hl : x.length = y.length
  · have hl1 : ((x.length : Int) != (y.length : Int)) = false := by rw [hl]; exact bne_self_eq_false _
    have HL := Lib.hid hl
    clear hR hl
    go_enter Tryz.func64, Tryz.ntmps64
    go_wp2_with fail
    go_loopw [5] (fun t wr => ∃ i : Nat, t = .int .i64 i ∧ i ≤ x.length ∧ Dr w wr ∧ Hid (textsS (x.drop i) (y.drop i) = R)) (fun t _ => downV x.length t)
    case atStart => exact ⟨0, rfl, Nat.zero_le _, Dr.refl _, HR⟩
    case round =>
      obtain ⟨i, rfl, hi, hX, HI⟩ := hrel
      by_cases hlt : i < x.length
      · have hlI : (i : Int) < (x.length : Int) := by omega
        have hi0 : (0 : Int) ≤ (i : Int) := by omega
        have hly : i < y.length := by have := HL.out; omega
        have hyI : (i : Int) < (y.length : Int) := by omega
        obtain ⟨g1, o1, rfl, hb1, hp1, hc1⟩ := str_at (h.ext hX.ext) i hlt
        obtain ⟨g2, o2, rfl, hb2, hp2, hc2⟩ := str_at (k.ext hX.ext) i hly
        have HS : Hid (textsS (x.drop i) (y.drop i) = if x[i] = y[i] then textsS (x.drop (i + 1)) (y.drop (i + 1)) else false) := Lib.hid (by rw [drop_one x i hlt, drop_one y i hly]; rfl)
        obtain ⟨s, hs⟩ : ∃ s, x[i] = s := ⟨_, rfl⟩
        obtain ⟨t, ht⟩ : ∃ t, y[i] = t := ⟨_, rfl⟩
        rw [hs] at hc1 HS
        rw [ht] at hc2 HS
        have HX := Lib.hid hX
        clear hs ht hX
        by_cases he : s = t
        · subst he
          have HN : Hid (textsS (x.drop (i + 1)) (y.drop (i + 1)) = R) := Lib.hid (by have := HS.out; rw [if_pos rfl] at this; rw [← this]; exact HI.out)
          clear HS HI
          go_wp2_with fail
          go_quiet (fail)
          go_wp2_with fail
          go_roundw
          case rel => exact ⟨i + 1, by go_num, by omega, HX.out.drewN _, HN⟩
          case measure => simp only [downV]; omega
        · have HN : Hid (false = R) := Lib.hid (by have := HS.out; rw [if_neg he] at this; rw [← this]; exact HI.out)
          have e1 : ((bs s).toList == (bs t).toList) = false := by rw [bs_toList, bs_toList, beq_eq_false_iff_ne]; exact he
          clear HS HI he
          go_wp2_with fail
          go_quiet (fail)
          go_wp2_with fail
          go_ret
          exact ⟨ret_bool HN.out, HX.out.drewN _⟩
      · have hlI : ¬ (i : Int) < (x.length : Int) := by omega
        have HN : Hid (true = R) := Lib.hid (by
          have := HI.out
          rw [List.drop_of_length_le (by omega), List.drop_of_length_le (by have := HL.out; omega)] at this
          exact this)
        clear HI
        go_wp2_with fail
        go_ret
        exact ⟨ret_bool HN.out, hX⟩
  · have hl1 : ((x.length : Int) != (y.length : Int)) = true := by rw [bne_iff_ne]; omega
    have HN : Hid (false = R) := Lib.hid (by rw [← hR, textsS_ne x y hl])
    clear hR hl HR
    go_enter Tryz.func64, Tryz.ntmps64
    go_wp2_with fail
    go_ret
    exact ⟨ret_bool HN.out, Dr.refl _⟩
theorem Rep.take {w : World} {p : Nat → Prop} {b off len cap z : Nat} {es : List DV} (h : Rep w p (.slice (some ⟨b, off, none⟩) len cap) (.s z es)) (n : Nat) (hn : n ≤ len) : Rep w p (.slice (some ⟨b, off, none⟩) n cap) (.s z (es.take (n * z))) := by
  obtain ⟨_, _, _, e, _, hc, hm, _⟩ := h.slice
  cases e
  have := h.sub 0 n cap (Nat.zero_le _) hn (by omega) hm
  rw [Nat.zero_mul, Nat.add_zero, List.drop_zero, Nat.sub_zero] at this
  exact this
theorem flat_take {α : Type} (f : α → List DV) (z : Nat) (hz : ∀ x, (f x).length = z) : ∀ (l : List α) (n : Nat), (l.flatMap f).take (n * z) = (l.take n).flatMap f
  | [], n => by simp
  | x :: r, 0 => by simp
  | x :: r, n + 1 => by rw [List.take_succ_cons, List.flatMap_cons, List.flatMap_cons, List.take_append, hz, List.take_of_length_le (by rw [hz, Nat.add_mul]; omega), show (n + 1) * z - z = n * z by rw [Nat.add_mul]; omega, flat_take f z hz r n]
/-- The number of the rule of a path; -1: none. -/
def findS (path : List Bytes) : List Rule → Nat → Int
  | [], _ => -1
  | r :: l, i => if textsS r.path path = true then (i : Int) else findS path l (i + 1)
set_option maxHeartbeats 4000000 in
theorem find_q (p q : Nat → Prop) (x : List Rule) (path : List Bytes) (v u : Value) (w : World) (h : Rep w p v (rulesD x)) (k : Rep w q u (strsD path)) :
    Calls Tryz.prog 65 #[v, u] w fun e w' => e = .returned (.int .i64 (findS path x 0)) ∧ Dr w w' := by
  obtain ⟨a, c, rfl, hc1, hc2⟩ := h.count z_rule (by omega)
  obtain ⟨b, d, rfl, _, _⟩ := k.count z_str (by omega)
  obtain ⟨R, hR⟩ : ∃ R, findS path x 0 = R := ⟨_, rfl⟩
  rw [hR]
  have HR := Lib.hid hR
  clear hR
  go_enter Tryz.func65, Tryz.ntmps65
  go_wp2_with fail
  go_loopw [5] (fun t wr => ∃ i : Nat, t = .int .i64 i ∧ i ≤ x.length ∧ Dr w wr ∧ Hid (findS path (x.drop i) i = R)) (fun t _ => downV x.length t)
  case atStart => exact ⟨0, rfl, Nat.zero_le _, Dr.refl _, HR⟩
  case round =>
    obtain ⟨i, rfl, hi, hX, HI⟩ := hrel
    by_cases hlt : i < x.length
    · have hlI : (i : Int) < (x.length : Int) := by omega
      have hi0 : (0 : Int) ≤ (i : Int) := by omega
      obtain ⟨g, o, vp, vk, rfl, hb, hp, hc, hd, hrp, hrk⟩ := rule_at (h.ext hX.ext) i hlt
      have HS : Hid (findS path (x.drop i) i = if textsS x[i].path path = true then (i : Int) else findS path (x.drop (i + 1)) (i + 1)) := Lib.hid (by rw [drop_one x i hlt]; rfl)
      obtain ⟨r, hr⟩ : ∃ r, x[i] = r := ⟨_, rfl⟩
      rw [hr] at hrp hrk HS
      obtain ⟨a1, c1, rfl, _, _⟩ := hrp.count z_str (by omega)
      have HC := Lib.hid fun W (hE : Ext wr W) => texts_q p q r.path path _ _ W (hrp.ext hE) (k.ext (hX.ext.trans hE))
      clear hr hrp hrk
      cases ht : textsS r.path path with
      | true =>
        have HN : Hid ((i : Int) = R) := Lib.hid (by have := HS.out; rw [ht, if_pos rfl] at this; rw [← this]; exact HI.out)
        rw [ht] at HC
        clear HS HI ht
        go_wp2_with fail
        refine (HC.out _ (Ext.refl _)).mono ?_
        rintro e w1 ⟨rfl, hB1⟩
        go_wp2_with fail
        go_ret
        exact ⟨ret_int HN.out, hX.trans hB1⟩
      | false =>
        have HN : Hid (findS path (x.drop (i + 1)) (i + 1) = R) := Lib.hid (by have := HS.out; rw [ht, if_neg (by decide)] at this; rw [← this]; exact HI.out)
        rw [ht] at HC
        clear HS HI ht
        go_wp2_with fail
        refine (HC.out _ (Ext.refl _)).mono ?_
        rintro e w1 ⟨rfl, hB1⟩
        go_wp2_with fail
        go_roundw
        case rel => exact ⟨i + 1, by go_num, by omega, hX.trans hB1, HN⟩
        case measure => simp only [downV]; omega
    · have hlI : ¬ (i : Int) < (x.length : Int) := by omega
      have HN : Hid ((-1 : Int) = R) := Lib.hid (by
        have := HI.out
        rw [List.drop_of_length_le (by omega)] at this
        exact this)
      clear HI
      go_wp2_with fail
      go_ret
      exact ⟨ret_int HN.out, hX⟩
/-- Is a path a rule's, and no rule's above another one? -/
def aboveS (path : List Bytes) (l : List Rule) : Bool := l.any fun r => decide (path.length < r.path.length) && textsS (r.path.take path.length) path
def frontS (l : List Rule) (path : List Bytes) : Bool := !aboveS path l && decide (0 ≤ findS path l 0)
theorem above_step (path : List Bytes) (r : Rule) (l : List Rule) : aboveS path (r :: l) = ((decide (path.length < r.path.length) && textsS (r.path.take path.length) path) || aboveS path l) := by unfold aboveS; rw [List.any_cons]
set_option maxHeartbeats 4000000 in
theorem front_q (p q : Nat → Prop) (x : List Rule) (path : List Bytes) (v u : Value) (w : World) (h : Rep w p v (rulesD x)) (k : Rep w q u (strsD path)) :
    Calls Tryz.prog 43 #[v, u] w fun e w' => e = .returned (.bool (frontS x path)) ∧ Dr w w' := by
  obtain ⟨a, c, rfl, hc1, hc2⟩ := h.count z_rule (by omega)
  obtain ⟨b, d, rfl, hd1, hd2⟩ := k.count z_str (by omega)
  obtain ⟨R, hR⟩ : ∃ R, frontS x path = R := ⟨_, rfl⟩
  rw [hR]
  have HR := Lib.hid hR
  obtain ⟨F, hF⟩ : ∃ F, findS path x 0 = F := ⟨_, rfl⟩
  have HFC := Lib.hid fun W (hE : Ext w W) => find_q p q x path _ _ W (h.ext hE) (k.ext hE)
  rw [hF] at HFC
  have HF := Lib.hid hF
  clear hR hF
  go_enter Tryz.func43, Tryz.ntmps43
  go_wp2_with fail
  go_loopw [5] (fun t wr => ∃ i : Nat, t = .int .i64 i ∧ i ≤ x.length ∧ Dr w wr ∧ Hid ((!aboveS path (x.drop i) && decide (0 ≤ F)) = R)) (fun t _ => downV x.length t)
  case atStart => exact ⟨0, rfl, Nat.zero_le _, Dr.refl _, Lib.hid (by rw [← HF.out]; exact HR.out)⟩
  case round =>
    obtain ⟨i, rfl, hi, hX, HI⟩ := hrel
    by_cases hlt : i < x.length
    · have hlI : (i : Int) < (x.length : Int) := by omega
      have hi0 : (0 : Int) ≤ (i : Int) := by omega
      obtain ⟨g, o, vp, vk, rfl, hb, hp, hc, hd, hrp, hrk⟩ := rule_at (h.ext hX.ext) i hlt
      have HS : Hid (aboveS path (x.drop i) = ((decide (path.length < x[i].path.length) && textsS (x[i].path.take path.length) path) || aboveS path (x.drop (i + 1)))) := Lib.hid (by rw [drop_one x i hlt, above_step])
      obtain ⟨r, hr⟩ : ∃ r, x[i] = r := ⟨_, rfl⟩
      rw [hr] at hrp hrk HS
      obtain ⟨a1, c1, rfl, hq1, hq2⟩ := hrp.count z_str (by omega)
      by_cases hlen : path.length < r.path.length
      · have hlenI : (path.length : Int) < (r.path.length : Int) := by omega
        obtain ⟨g2, o2, rfl, _⟩ := str_at hrp 0 (by omega)
        have hsub : Rep wr p (.slice (some ⟨g2, o2, none⟩) path.length c1) (strsD (r.path.take path.length)) := by
          have := hrp.take path.length (by omega)
          rw [flat_take _ 1 z_str] at this; exact this
        have HC := Lib.hid fun W (hE : Ext wr W) => texts_q p q (r.path.take path.length) path _ _ W (hsub.ext hE) (k.ext (hX.ext.trans hE))
        have HSz := Lib.hid hsub
        clear hr hrp hrk hsub
        cases ht : textsS (r.path.take path.length) path with
        | true =>
          have HN : Hid (false = R) := Lib.hid (by have := HS.out; rw [ht, decide_eq_true hlen] at this; rw [← HI.out, this]; rfl)
          rw [ht] at HC
          clear HS HI ht
          go_wp2_with fail
          refine (HC.out _ (Ext.refl _)).mono ?_
          rintro e w1 ⟨rfl, hB1⟩
          go_wp2_with fail
          go_ret
          exact ⟨ret_bool HN.out, hX.trans hB1⟩
        | false =>
          have HN : Hid ((!aboveS path (x.drop (i + 1)) && decide (0 ≤ F)) = R) := Lib.hid (by have := HS.out; rw [ht, Bool.and_false, Bool.false_or] at this; rw [← HI.out, this])
          rw [ht] at HC
          clear HS HI ht
          go_wp2_with fail
          refine (HC.out _ (Ext.refl _)).mono ?_
          rintro e w1 ⟨rfl, hB1⟩
          go_wp2_with fail
          go_roundw
          case rel => exact ⟨i + 1, by go_num, by omega, hX.trans hB1, HN⟩
          case measure => simp only [downV]; omega
      · have hlenI : ¬ (path.length : Int) < (r.path.length : Int) := by omega
        have HN : Hid ((!aboveS path (x.drop (i + 1)) && decide (0 ≤ F)) = R) := Lib.hid (by have := HS.out; rw [decide_eq_false hlen, Bool.false_and, Bool.false_or] at this; rw [← HI.out, this])
        clear HS HI hrp hrk hr
        go_wp2_with fail
        go_roundw
        case rel => exact ⟨i + 1, by go_num, by omega, hX, HN⟩
        case measure => simp only [downV]; omega
    · have hlI : ¬ (i : Int) < (x.length : Int) := by omega
      have HN : Hid (decide (0 ≤ F) = R) := Lib.hid (by
        have := HI.out
        rw [List.drop_of_length_le (by omega)] at this
        exact this)
      clear HI
      go_wp2_with fail
      refine (HFC.out _ hX.ext).mono ?_
      rintro e w1 ⟨rfl, hB1⟩
      go_wp2_with fail
      go_ret
      exact ⟨ret_bool HN.out, hX.trans hB1⟩
mutual
def nsz : Node → Nat
  | .mk _ _ _ _ ks => 1 + nszL ks
def nszL : List Node → Nat
  | [] => 0
  | n :: r => nsz n + nszL r
end
theorem nszL_get : ∀ (l : List Node) (i : Nat) (h : i < l.length), nsz l[i] ≤ nszL l
  | [], i, h => absurd h (Nat.not_lt_zero _)
  | n :: r, 0, h => by rw [nszL]; exact Nat.le_add_right _ _
  | n :: r, i + 1, h => by
    have := nszL_get r i (by simpa using h)
    rw [nszL]; simp only [List.getElem_cons_succ]; omega
theorem kid_lt (n : Node) (i : Nat) (h : i < n.kids.length) : nsz n.kids[i] < nsz n := by
  cases n with
  | mk k nm t la ks =>
    have := nszL_get ks i h
    show nsz ks[i] < _
    rw [nsz]; omega
/-- How much a tree is. -/
def cntA : List Attr → Nat
  | [] => 0
  | a :: r => 1 + a.n.length + a.v.length + cntA r
mutual
def cntN : Node → Nat
  | .mk _ n t la ks => 1 + n.length + t.length + cntA la + cntL ks
def cntL : List Node → Nat
  | [] => 0
  | n :: r => cntN n + cntL r
end
/-- .. as far as that isn't above a most. -/
def smallA (m : Nat) : Nat → List Attr → Nat
  | c, [] => c
  | c, a :: r => if c ≤ m then smallA m (c + 1 + a.n.length + a.v.length) r else c
mutual
def smallN (m : Nat) : Node → Nat
  | .mk _ n t la ks => smallL m (smallA m (1 + n.length + t.length) la) ks
def smallL (m : Nat) : Nat → List Node → Nat
  | c, [] => c
  | c, n :: r => if c ≤ m then smallL m (c + smallN m n) r else c
end
theorem smallA_le (m : Nat) : ∀ (l : List Attr) (c : Nat), smallA m c l ≤ c + cntA l ∧ c ≤ smallA m c l ∧ (smallA m c l ≤ m → smallA m c l = c + cntA l)
  | [], c => by simp [smallA, cntA]
  | a :: r, c => by
    unfold smallA cntA
    split
    · have := smallA_le m r (c + 1 + a.n.length + a.v.length); omega
    · exact ⟨by omega, by omega, fun h => by omega⟩
mutual
theorem smallN_le (m : Nat) : ∀ n : Node, smallN m n ≤ cntN n ∧ (smallN m n ≤ m → smallN m n = cntN n)
  | .mk k n t la ks => by
    rw [smallN, cntN]
    have h1 := smallA_le m la (1 + n.length + t.length)
    have h2 := smallL_le m ks (smallA m (1 + n.length + t.length) la)
    omega
theorem smallL_le (m : Nat) : ∀ (l : List Node) (c : Nat), smallL m c l ≤ c + cntL l ∧ c ≤ smallL m c l ∧ (smallL m c l ≤ m → smallL m c l = c + cntL l)
  | [], c => by simp [smallL, cntL]
  | n :: r, c => by
    rw [smallL, cntL]
    have h1 := smallN_le m n
    have h2 := smallL_le m r (c + smallN m n)
    split
    · omega
    · exact ⟨by omega, by omega, fun h => by omega⟩
end
theorem cntA_get : ∀ (l : List Attr) (i : Nat) (h : i < l.length), 1 + l[i].n.length + l[i].v.length + cntA (l.drop (i + 1)) = cntA (l.drop i)
  | l, i, h => by rw [drop_one l i h, cntA]
theorem cntL_get (l : List Node) (i : Nat) (h : i < l.length) : cntN l[i] + cntL (l.drop (i + 1)) = cntL (l.drop i) := by rw [drop_one l i h, cntL]
theorem smallA_get (m c : Nat) (l : List Attr) (i : Nat) (h : i < l.length) : smallA m c (l.drop i) = if c ≤ m then smallA m (c + 1 + l[i].n.length + l[i].v.length) (l.drop (i + 1)) else c := by rw [drop_one l i h, smallA]
theorem smallL_get (m c : Nat) (l : List Node) (i : Nat) (h : i < l.length) : smallL m c (l.drop i) = if c ≤ m then smallL m (c + smallN m l[i]) (l.drop (i + 1)) else c := by rw [drop_one l i h, smallL]
set_option maxHeartbeats 8000000 in
theorem small_any (m : Nat) (hm : m ≤ 1048576) : ∀ (N : Nat) (a : Node) (p : Nat → Prop) (va vk : Value) (w : World), nsz a ≤ N → cntN a ≤ 1048576 → Rep w p va (attrsD a.attrs) → Rep w p vk (nodesD a.kids) →
    Calls Tryz.prog 24 #[.agg #[.int .i64 a.kind, .string (bs a.name), .string (bs a.text), va, vk], .int .i64 m] w fun e w' => e = .returned (.int .i64 (smallN m a)) ∧ Ext w w' := by
  intro N
  induction N with
  | zero => intro a p va vk w hN; cases a; rw [nsz] at hN; omega
  | succ N ih =>
    intro a p va vk w hN hcnt hva hvk
    have hkid := fun i h => kid_lt a i h
    obtain ⟨k, nm, tx, la, ks⟩ := a
    simp only [Node.kind, Node.name, Node.text, Node.attrs, Node.kids] at *
    obtain ⟨ba, ca, rfl, ha1, ha2⟩ := hva.count z_attr (by omega)
    obtain ⟨bk, ck, rfl, hk1, hk2⟩ := hvk.count z_node (by omega)
    obtain ⟨R, hR⟩ : ∃ R, smallN m (.mk k nm tx la ks) = R := ⟨_, rfl⟩
    rw [hR]
    rw [smallN] at hR
    rw [cntN] at hcnt
    have HM : Hid (∀ (i : Nat) (h : i < ks.length), nsz ks[i] ≤ N) := Lib.hid (fun i h => by have := hkid i h; omega)
    have HR : Hid (smallL m (smallA m (1 + nm.length + tx.length) (la.drop 0)) ks = R) := Lib.hid hR
    have HC0 : Hid (1 + nm.length + tx.length + cntA (la.drop 0) + cntL ks ≤ 1048576) := Lib.hid hcnt
    have b1 : (bs nm).size ≤ 1048576 := by rw [bs_size]; omega
    have b2 : (bs tx).size ≤ 1048576 := by rw [bs_size]; omega
    have hm0 : (m : Int) ≤ 1048576 := by omega
    clear hkid hN hR hcnt
    have IH := Lib.hid ih
    clear ih
    go_enter Tryz.func24, Tryz.ntmps24
    go_wp2_with fail
    obtain ⟨w1, hw1⟩ : ∃ w1, (w.alloc (.cells #[.int .i64 k, .string (bs nm), .string (bs tx), .slice ba la.length ca, .slice bk ks.length ck] 25)) = w1 := ⟨_, rfl⟩
    have hE1 : Ext w w1 := by rw [← hw1]; exact (Ext.refl w).alloc _
    have l0 : w.heap.size < w1.heap.size := by rw [← hw1]; simp
    have c3 : w1.cell? ⟨w.heap.size, 3, none⟩ = some (.slice ba la.length ca) := by rw [← hw1]; simp [go_sem]
    have c4 : w1.cell? ⟨w.heap.size, 4, none⟩ = some (.slice bk ks.length ck) := by rw [← hw1]; simp [go_sem]
    rw [hw1]
    clear hw1
    go_loopw [5, 6] (fun c t wr => ∃ (n i : Nat), c = .int .i64 n ∧ t = .int .i64 i ∧ i ≤ la.length ∧ n ≤ 1048576 ∧ Ext w1 wr ∧ Hid (smallL m (smallA m n (la.drop i)) ks = R) ∧ Hid (n + cntA (la.drop i) + cntL ks ≤ 1048576)) (fun _ t _ => downV la.length t)
    case atStart => exact ⟨1 + (bs nm).size + (bs tx).size, 0, by go_num, rfl, Nat.zero_le _, by have := HC0.out; simp only [bs_size]; omega, Ext.refl _, Lib.hid (by simp only [bs_size]; exact HR.out), Lib.hid (by have := HC0.out; simp only [bs_size]; omega)⟩
    case round =>
      obtain ⟨n, i, rfl, rfl, hi, hn, hX, HI, HQ⟩ := hrel
      have c3r := hX.keep l0 c3
      have c4r := hX.keep l0 c4
      have hn0 : (n : Int) ≤ 1048576 := by omega
      have n0 : (0 : Int) ≤ (n : Int) := by omega
      have hi0 : (0 : Int) ≤ (i : Int) := by omega
      have m0 : (0 : Int) ≤ (m : Int) := by omega
      by_cases hgo : i < la.length ∧ n ≤ m
      · obtain ⟨hlt, hle⟩ := hgo
        have hlI : (i : Int) < (la.length : Int) := by omega
        have hleI : (n : Int) ≤ (m : Int) := by omega
        obtain ⟨g, o, rfl, hb, _, e1, e2⟩ := attr_at (hva.ext (hE1.trans hX)) i hlt
        have h1 := cntA_get la i hlt
        have HS : Hid (smallA m n (la.drop i) = smallA m (n + 1 + la[i].n.length + la[i].v.length) (la.drop (i + 1))) := Lib.hid (by rw [smallA_get m n la i hlt, if_pos hle])
        obtain ⟨x, hx⟩ : ∃ x, la[i] = x := ⟨_, rfl⟩
        rw [hx] at e1 e2 HS h1
        have hq := HQ.out
        have x1 : (bs x.n).size ≤ 1048576 := by rw [bs_size]; omega
        have x2 : (bs x.v).size ≤ 1048576 := by rw [bs_size]; omega
        have HN : Hid (smallL m (smallA m (n + 1 + (bs x.n).size + (bs x.v).size) (la.drop (i + 1))) ks = R) := Lib.hid (by rw [← HI.out, HS.out, bs_size, bs_size])
        have HQN : Hid (n + 1 + (bs x.n).size + (bs x.v).size + cntA (la.drop (i + 1)) + cntL ks ≤ 1048576) := Lib.hid (by rw [bs_size, bs_size]; omega)
        have hnb : n + 1 + (bs x.n).size + (bs x.v).size ≤ 1048576 := by have := HQN.out; omega
        have HXX := Lib.hid hX
        have s1 : IntKind.i64.wrap ((n : Int) + 1) = (n : Int) + 1 := IntWalk.i64_in _ (by omega)
        have s2 : IntKind.i64.wrap ((n : Int) + 1 + ((bs x.n).size : Int)) = (n : Int) + 1 + ((bs x.n).size : Int) := IntWalk.i64_in _ (by omega)
        have s3 : IntKind.i64.wrap ((n : Int) + 1 + ((bs x.n).size : Int) + ((bs x.v).size : Int)) = (n : Int) + 1 + ((bs x.n).size : Int) + ((bs x.v).size : Int) := IntWalk.i64_in _ (by omega)
        clear hq h1 hx HI HQ HS
        go_wp2_with fail
        go_quiet (fail)
        clear s1 s2 s3
        go_wp2_with fail
        go_roundw
        case rel => exact ⟨n + 1 + (bs x.n).size + (bs x.v).size, i + 1, by go_num, by go_num, by omega, hnb, HXX.out.drewN _, HN, HQN⟩
        case measure => simp only [downV]; omega
      · have HS : Hid (smallA m n (la.drop i) = n) := Lib.hid (by
          by_cases hlt : i < la.length
          · rw [smallA_get m n la i hlt, if_neg (by omega)]
          · rw [List.drop_of_length_le (by omega)]; rfl)
        have HN : Hid (smallL m n (ks.drop 0) = R) := Lib.hid (by rw [← HI.out, HS.out]; rfl)
        have HQN : Hid (n + cntL (ks.drop 0) ≤ 1048576) := Lib.hid (by have := HQ.out; rw [List.drop_zero]; omega)
        have hend : Hid (¬ (i < la.length ∧ n ≤ m)) := Lib.hid hgo
        obtain ⟨w2, hw2⟩ : ∃ w2, w2 = wr := ⟨_, rfl⟩
        subst hw2
        clear HI HQ HS hgo
        have key : ∀ (b : Bool), Hid (((decide ((i : Int) < (la.length : Int))) && decide ((n : Int) ≤ (m : Int))) = b) → b = false := fun b hb => by
          have h1 := hend.out
          rw [← hb.out, Bool.and_eq_false_iff]
          by_cases h2 : i < la.length
          · exact Or.inr (decide_eq_false (by omega))
          · exact Or.inl (decide_eq_false (by omega))
        clear key
        by_cases hlt : i < la.length
        all_goals
          first
          | (have hlI : (i : Int) < (la.length : Int) := by omega
             have hleI : ¬ (n : Int) ≤ (m : Int) := by have := hend.out; omega
             clear hlt hend; go_wp2_with fail)
          | (have hlI : ¬ (i : Int) < (la.length : Int) := by omega
             clear hlt hend; go_wp2_with fail)
        all_goals
          go_loopw [5, 7] (fun c t wr => ∃ (n i : Nat), c = .int .i64 n ∧ t = .int .i64 i ∧ i ≤ ks.length ∧ n ≤ 1048576 ∧ Ext w1 wr ∧ Hid (smallL m n (ks.drop i) = R) ∧ Hid (n + cntL (ks.drop i) ≤ 1048576)) (fun _ t _ => downV ks.length t)
          case atStart => exact ⟨n, 0, rfl, rfl, Nat.zero_le _, hn, hX, HN, HQN⟩
          case round =>
            clear HN HQN hn hn0 n0 hi0 hi
            obtain ⟨n, i, rfl, rfl, hi, hn, hX2, HI, HQ⟩ := hrel
            have c4r := hX2.keep l0 c4
            have hn0 : (n : Int) ≤ 1048576 := by omega
            have n0 : (0 : Int) ≤ (n : Int) := by omega
            have hi0 : (0 : Int) ≤ (i : Int) := by omega
            by_cases hlt : i < ks.length
            · have hlI : (i : Int) < (ks.length : Int) := by omega
              by_cases hle : n ≤ m
              · have hleI : (n : Int) ≤ (m : Int) := by omega
                obtain ⟨g, o, x1, x2, rfl, hb, _, e0, e1, e2, e3, e4, hr1, hr2⟩ := node_at (hvk.ext (hE1.trans hX2)) i hlt
                have h1 := cntL_get ks i hlt
                have HS : Hid (smallL m n (ks.drop i) = smallL m (n + smallN m ks[i]) (ks.drop (i + 1))) := Lib.hid (by rw [smallL_get m n ks i hlt, if_pos hle])
                have h2 := smallN_le m ks[i]
                have hNi := HM.out i hlt
                obtain ⟨x, hx⟩ : ∃ x, ks[i] = x := ⟨_, rfl⟩
                rw [hx] at e0 e1 e2 HS h1 h2 hr1 hr2 hNi
                have hq := HQ.out
                obtain ⟨s, hs⟩ : ∃ s, smallN m x = s := ⟨_, rfl⟩
                have HC := Lib.hid fun W (hE : Ext wr W) => IH.out x p x1 x2 W hNi (by omega) (hr1.ext hE) (hr2.ext hE)
                rw [hs] at HS h2 HC
                have HN : Hid (smallL m (n + s) (ks.drop (i + 1)) = R) := Lib.hid (by rw [← HI.out, HS.out])
                have HQN : Hid (n + s + cntL (ks.drop (i + 1)) ≤ 1048576) := Lib.hid (by omega)
                have hnb : n + s ≤ 1048576 := by omega
                have s0 : (0 : Int) ≤ (s : Int) := by omega
                have s1 : (s : Int) ≤ 1048576 := by omega
                clear hq h1 h2 hx HI HQ HS hs hNi
                go_wp2_with fail
                refine (HC.out _ (Ext.refl _)).mono ?_
                rintro e w3 ⟨rfl, hB3⟩
                go_wp2_with fail
                go_roundw
                case rel => exact ⟨n + s, i + 1, by go_num, by go_num, by omega, hnb, hX2.trans hB3, HN, HQN⟩
                case measure => simp only [downV]; omega
              · have hleI : ¬ (n : Int) ≤ (m : Int) := by omega
                have HS : Hid (n = R) := Lib.hid (by rw [← HI.out, smallL_get m n ks i hlt, if_neg hle])
                clear HI HQ
                go_wp2_with fail
                go_ret
                exact ⟨ret_int (by rw [HS.out]), hE1.trans hX2⟩
            · have hlI : ¬ (i : Int) < (ks.length : Int) := by omega
              have HS : Hid (n = R) := Lib.hid (by rw [← HI.out, List.drop_of_length_le (by omega)]; rw [smallL])
              clear HI HQ
              go_wp2_with fail
              go_ret
              exact ⟨ret_int (by rw [HS.out]), hE1.trans hX2⟩
theorem blk_cell {w : World} {g k : Nat} {cs : Array Value} {t : TypeId} {u : Value} (h : w.heap[g]? = some (.cells cs t (0, 0))) (hk : cs[k]? = some u) : w.cell? ⟨g, k, none⟩ = some u := by simp [World.cell?, h, hk]
theorem blk_free {w : World} {g k : Nat} {cs : Array Value} {t : TypeId} (h : w.heap[g]? = some (.cells cs t (0, 0))) : w.frozen? ⟨g, k, none⟩ = false := by simp [World.frozen?, h]
theorem blk_lt {w : World} {g : Nat} {o : Obj} (h : w.heap[g]? = some o) : g < w.heap.size := by
  rcases Nat.lt_or_ge g w.heap.size with h' | h'
  · exact h'
  · simp [Array.getElem?_eq_none h'] at h
section
variable {P : Program} {ops : Array Oper} {Q : Exit → Act → World → Prop} {S : World → Prop} {fuel : Nat} {listed : Array Bool} {a : Act} {w : World} {K : Act → World → Prop}
/-- One operation alone may come up. -/
theorem rg_one (i : Nat) (hr : Region.ready .any ops listed = [i]) (h1 : wpOp P ops Q i (fun a w => S w ∧ wpAnyH P .any ops Q S fuel (listed.setIfInBounds i true) a w) a w) : wpAnyH P .any ops Q S (fuel + 1) listed a w := by
  refine wpAnyH_all hr (by simp) fun j hj => ?_
  obtain rfl : j = i := by simpa using hj
  exact h1
/-- One of two operations comes up. -/
theorem rg_two (i j : Nat) (hr : Region.ready .any ops listed = [i, j]) (h1 : wpOp P ops Q i (fun a w => S w ∧ wpAnyH P .any ops Q S fuel (listed.setIfInBounds i true) a w) a w)
    (h2 : wpOp P ops Q j (fun a w => S w ∧ wpAnyH P .any ops Q S fuel (listed.setIfInBounds j true) a w) a w) : wpAnyH P .any ops Q S (fuel + 1) listed a w := by
  refine wpAnyH_all hr (by simp) fun k hk => ?_
  have hk' : k = i ∨ k = j := by simpa using hk
  rcases hk' with rfl | rfl
  · exact h1
  · exact h2
/-- The operation makes a block. -/
theorem tk_new (i : Nat) (d : Option Tmp) (o : Obj) (f : Nat → Value) {oi : Oper} (hi : ops[i]? = some oi) (hd : oi.dst = d) (hw : Region.wanted oi (yielded ops a.tmps) = true)
    (hrun : (execOp a.eval oi).run P w = .ok (.value (f w.heap.size)) (w.alloc o)) (h : ∀ g W, g = w.heap.size → Ext w W → W.heap.size = w.heap.size + 1 → W.heap[g]? = some o → K (a.put d (f g)) W) : wpOp P ops Q i K a w := by
  unfold wpOp
  simp only [hi, hw, if_true]
  refine Or.inl ?_
  unfold Oper.wp
  rw [hrun, Oper.upon_value, hd]
  exact h _ _ rfl ((Ext.refl w).alloc _) (by simp) Array.getElem?_push_size
/-- The operation appends to a row of the call's own. -/
theorem tk_app (i : Nat) (d : Option Tmp) {oi : Oper} (hi' : ops[i]? = some oi) (hd : oi.dst = d) (hw : Region.wanted oi (yielded ops a.tmps) = true) (s x : Operand) (t : TypeId)
    (ho : oi.op = .call { callee := .builtin .append, args := #[s, x], argTypes := #[t, t] })
    (base : Nat) (e : TypeId) (i0 : TypeInfo) (z : Value) (size bytes : Nat) (ht : P.underlying t = some (.slice e)) (hi : P.info? e = some i0) (hz : i0.zero = some z)
    (hsize : i0.size = size) (hby : i0.bytes = bytes) (hzs : z.cells.size = size) (hsz : 0 < size)
    (v : Value) (n : Nat) (xs : List Value) (hs : a.eval s = v) (hown : w.ownsRow base e size v n xs)
    (ad : Addr) (m c : Nat) (news : List Value) (hx : a.eval x = .slice (some ad) m c) (hl : news.length = m * size) (hnews : ∀ j u, news[j]? = some u → w.cell? (ad.add j) = some u) (h1 : ∀ u ∈ news, u.oneCell' = true)
    (h63 : n + m ≤ maxLen) (hbytes : (n + m) * bytes ≤ 140737488355328) (hbase : base ≤ w.heap.size)
    (h : ∀ v' w', w'.ownsRow base e size v' (n + m) (xs ++ news) → w.grownBy w' v.ownBlock → (v'.ownBlock = v.ownBlock ∨ v'.ownBlock = some w.heap.size) → K (a.put d v') w') : wpOp P ops Q i K a w := by
  unfold wpOp
  simp only [hi', hw, if_true]
  refine Or.inl ?_
  obtain ⟨v', w', hr, h2, h3, h4, h5⟩ := run_append_own_at (P := P) w base t oi.type e i0 z size bytes ht hi hz hsize hby hzs hsz v n xs hown ad m c news hl hnews h1 h63 hbytes hbase
  unfold Oper.wp execOp
  simp only [ho, resolve, invoke, builtin, Sem.run_bind, Sem.run_pure, Result.andThen_ok, List.map_toArray, List.map_cons, List.map_nil, hs, hx, hr]
  rw [Oper.upon_value, hd]
  exact h v' w' h2 h3 h5
end
theorem rows_ext {w w' : World} {base z n : Nat} {e : TypeId} {v : Value} {us : List Value} (h : w.ownsRow base e z v n us) (hB : Ext w w') : w'.ownsRow base e z v n us :=
  h.kept (row := none) ⟨hB.os, hB.tape, hB.output, hB.size, fun i hi _ => Below.block hB i hi⟩ (by cases v.ownBlock <;> simp)
theorem sx_grown {a w w' : World} {z n : Nat} {e : TypeId} {v : Value} {us : List Value} (h : Sx a w) (hown : w.ownsRow a.heap.size e z v n us) (hg : w.grownBy w' v.ownBlock) : Sx a w' :=
  Below.grown h hg (Below.size h) fun k hk => (hown.lt k hk).1
theorem Rep.lt {w : World} {p : Nat → Prop} {v : Value} {d : DV} (h : Rep w p v d) : Rep w (fun b => p b ∧ b < w.heap.size) v d := by
  induction h with
  | leaf x hx => exact .leaf x hx
  | nil z => exact .nil z
  | emp ad z => exact .emp ad z
  | row b off len cap z us es hok hl hu hcap hm hc hr ih =>
    refine .row b off len cap z us es (fun hpos => ⟨hok hpos, ?_⟩) hl hu hcap hm hc ih
    exact World.block_lt_of_cell? w _ (hc 0 us[0] (List.getElem?_eq_getElem hpos))
/-- A row of numbers of one kind. -/
def numsD (k : IntKind) (l : List Int) : DV := .s 1 (l.flatMap fun c => [.v (.int k c)])
theorem z_num (k : IntKind) (x : Int) : ([.v (.int k x)] : List DV).length = 1 := rfl
/-- A text's bytes as numbers. -/
def byI (s : Bytes) : List Int := s.map fun c => (c.toNat : Int)
theorem byI_len (s : Bytes) : (byI s).length = s.length := by simp [byI]
theorem nums_reps (w : World) (p : Nat → Prop) (k : IntKind) : ∀ l : List Int, Reps w p (l.map fun y => Value.int k y) (l.flatMap fun y => [.v (.int k y)])
  | [] => Reps.nil _ _
  | y :: r => Reps.cons (Rep.int _ _ _ _) (nums_reps w p k r)
/-- What an append takes from: nothing, or cells. -/
def Src (w : World) (z : Nat) (v : Value) (m : Nat) (news : List Value) : Prop :=
  (v = .slice none 0 0 ∧ m = 0 ∧ news = []) ∨ ∃ ad c, v = .slice (some ad) m c ∧ news.length = m * z ∧ ∀ j u, news[j]? = some u → w.cell? (ad.add j) = some u
theorem add_offs' (b o j : Nat) : (⟨b, o, none⟩ : Addr).add j = ⟨b, o + j, none⟩ := by unfold Addr.add; split <;> simp_all
theorem Src.cells {w : World} {z : Nat} {g o m c : Nat} {news : List Value} (hl : news.length = m * z) (h : ∀ j u, news[j]? = some u → w.cell? ⟨g, o + j, none⟩ = some u) : Src w z (.slice (some ⟨g, o, none⟩) m c) m news :=
  .inr ⟨_, c, rfl, hl, fun j u hj => by rw [add_offs']; exact h j u hj⟩
theorem Src.block {w : World} {z : Nat} {g m c : Nat} {cs : Array Value} {e : TypeId} {fz : Nat × Nat} (h : w.heap[g]? = some (.cells cs e fz)) (hl : cs.size = m * z) : Src w z (.slice (some ⟨g, 0, none⟩) m c) m cs.toList :=
  .cells (by simpa using hl) (fun j u hj => by rw [Nat.zero_add]; simp at hj; simp [World.cell?, h, hj])
theorem Src.ext {w w' : World} {z : Nat} {v : Value} {m : Nat} {news : List Value} (h : Src w z v m news) (hB : Ext w w') : Src w' z v m news := by
  rcases h with h | ⟨ad, c, rfl, hl, hc⟩
  · exact .inl h
  · refine .inr ⟨ad, c, rfl, hl, fun j u hj => ?_⟩
    have h1 := hc j u hj
    have hlt := World.block_lt_of_cell? w _ h1
    exact (World.cell?_of_block (Below.block hB _ hlt)).trans h1
/-- The first ones of a row, and the last ones. -/
theorem src_take {P : Program} {w : World} {base z n : Nat} {e t : TypeId} {v : Value} {us : List Value} (hown : w.ownsRow base e z v n us) (ht : P.underlying t = some (.slice (P.elem t))) (hz : ∀ W, (sizeOf (P.elem t)).run P W = .ok z W) (k : Nat) (hk : k ≤ n) :
    ∃ sv, Src w z sv k (us.take (k * z)) ∧ ∀ W, (Instr.sliceAt t v none (some (.int .i64 k)) none).run P W = .ok sv W := by
  have hL := hown.1
  have hmul : k * z ≤ n * z := Nat.mul_le_mul_right _ hk
  rcases hown.2 with ⟨rfl, rfl⟩ | ⟨g, cap, cur, rfl, hb, hg, hn, hm, hs, htk⟩
  · obtain rfl : k = 0 := by omega
    refine ⟨.slice none 0 0, .inl ⟨rfl, rfl, by simp⟩, fun W => ?_⟩
    rw [run_sliceAt_slice W t _ _ _ _ ht, run_slice_h W t none 0 0 ht .i64 _ (by omega) (by omega), hz]
    simp [Result.andThen, sliced]
  · refine ⟨sliced (some ⟨g, 0, none⟩) 0 ((k : Int).toNat) cap z, ?_, fun W => ?_⟩
    rotate_left
    · rw [run_sliceAt_slice W t _ _ _ _ ht, run_slice_h W t _ n cap ht .i64 _ (by omega) (by omega), hz]
      rfl
    · unfold sliced
      have hcell : ∀ j u, (us.take (k * z))[j]? = some u → w.cell? ⟨g, 0 + j, none⟩ = some u := fun j u hj => by
        rw [List.getElem?_take] at hj
        split at hj
        · have := hown.cells (g := g) rfl j u hj
          rw [add_offs'] at this; exact this
        · cases hj
      have hlen : (us.take (k * z)).length = k * z := by rw [List.length_take, hL]; omega
      by_cases h0 : cap = 0
      · rw [if_pos h0]
        simp only [Int.toNat_natCast, Nat.sub_zero]
        exact .cells hlen hcell
      · rw [if_neg h0]
        simp only [Int.toNat_natCast, Nat.sub_zero, Option.map_some, add_offs', Nat.zero_mul]
        exact .cells hlen hcell
theorem src_drop {P : Program} {w : World} {base z n : Nat} {e t : TypeId} {v : Value} {us : List Value} (hown : w.ownsRow base e z v n us) (ht : P.underlying t = some (.slice (P.elem t))) (hz : ∀ W, (sizeOf (P.elem t)).run P W = .ok z W) (k : Nat) (hk : k ≤ n) :
    ∃ sv, Src w z sv (n - k) (us.drop (k * z)) ∧ ∀ W, (Instr.sliceAt t v (some (.int .i64 k)) none none).run P W = .ok sv W := by
  have hL := hown.1
  have hmul : k * z ≤ n * z := Nat.mul_le_mul_right _ hk
  have hsub : n * z - k * z = (n - k) * z := (Nat.sub_mul n k z).symm
  have hlen : (us.drop (k * z)).length = (n - k) * z := by rw [List.length_drop, hL, hsub]
  rcases hown.2 with ⟨rfl, rfl⟩ | ⟨g, cap, cur, rfl, hb, hg, hn, hm, hs, htk⟩
  · obtain rfl : k = 0 := by omega
    refine ⟨.slice none 0 0, .inl ⟨rfl, rfl, List.eq_nil_of_length_eq_zero (by rw [hlen]; simp)⟩, fun W => ?_⟩
    rw [run_sliceAt_slice W t _ _ _ _ ht, run_slice_l W t none 0 0 ht .i64 _ (by omega) (by omega), hz]
    simp [Result.andThen, sliced]
  · refine ⟨sliced (some ⟨g, 0, none⟩) ((k : Int).toNat) n cap z, ?_, fun W => ?_⟩
    rotate_left
    · rw [run_sliceAt_slice W t _ _ _ _ ht, run_slice_l W t _ n cap ht .i64 _ (by omega) (by omega), hz]
      rfl
    · unfold sliced
      have hcell : ∀ j u, (us.drop (k * z))[j]? = some u → w.cell? ⟨g, 0 + k * z + j, none⟩ = some u := fun j u hj => by
        rw [List.getElem?_drop] at hj
        have := hown.cells (g := g) rfl _ u hj
        rw [add_offs'] at this
        rw [show 0 + k * z + j = 0 + (k * z + j) by omega]; exact this
      simp only [Int.toNat_natCast]
      by_cases h0 : cap = k
      · have h1 : n = k := by omega
        have hnil : us.drop (k * z) = [] := List.eq_nil_of_length_eq_zero (by rw [hlen, h1]; simp)
        rw [if_pos h0, hnil]
        exact .cells (by rw [h1]; simp) (fun j u hj => by simp at hj)
      · rw [if_neg h0]
        simp only [Option.map_some, add_offs']
        exact .cells hlen hcell
theorem exec_slice {P : Program} {ev : Operand → Value} {oi : Oper} {t : TypeId} {x : Operand} {lo hi mx : Option Operand} {sv : Value} {W : World} (ho : oi.op = .slice t x lo hi mx) (h : (Instr.sliceAt t (ev x) (lo.map ev) (hi.map ev) (mx.map ev)).run P W = .ok sv W) :
    (execOp ev oi).run P W = .ok (.value sv) W := by
  unfold execOp
  simp only [ho, Sem.run_bind, h, Result.andThen_ok, Sem.run_pure]
theorem grown_refl (w : World) (row : Option Nat) : w.grownBy w row := by
  have h := World.grownBy_alloc w (.cells #[] 0) row
  exact ⟨rfl, rfl, rfl, Nat.le_refl _, fun _ _ _ => rfl⟩
section
variable {P : Program} {ops : Array Oper} {Q : Exit → Act → World → Prop} {S : World → Prop} {fuel : Nat} {listed : Array Bool} {a : Act} {w : World} {K : Act → World → Prop}
/-- As tk_app, where nothing may be appended too. -/
theorem tk_src (i : Nat) (d : Option Tmp) {oi : Oper} (hi' : ops[i]? = some oi) (hd : oi.dst = d) (hw : Region.wanted oi (yielded ops a.tmps) = true) (s x : Operand) (t : TypeId)
    (ho : oi.op = .call { callee := .builtin .append, args := #[s, x], argTypes := #[t, t] })
    (base : Nat) (e : TypeId) (i0 : TypeInfo) (z : Value) (size bytes : Nat) (ht : P.underlying t = some (.slice e)) (hi : P.info? e = some i0) (hz : i0.zero = some z)
    (hsize : i0.size = size) (hby : i0.bytes = bytes) (hzs : z.cells.size = size) (hsz : 0 < size)
    (v : Value) (n : Nat) (xs : List Value) (hs : a.eval s = v) (hown : w.ownsRow base e size v n xs)
    (sv : Value) (m : Nat) (news : List Value) (hx : a.eval x = sv) (hsrc : Src w size sv m news) (h1 : ∀ u ∈ news, u.oneCell' = true)
    (h63 : n + m ≤ maxLen) (hbytes : (n + m) * bytes ≤ 140737488355328) (hbase : base ≤ w.heap.size)
    (h : ∀ v' w', w'.ownsRow base e size v' (n + m) (xs ++ news) → w.grownBy w' v.ownBlock → (v'.ownBlock = v.ownBlock ∨ v'.ownBlock = some w.heap.size) → K (a.put d v') w') : wpOp P ops Q i K a w := by
  rcases hsrc with ⟨rfl, rfl, rfl⟩ | ⟨ad, c, rfl, hl, hc⟩
  · unfold wpOp
    simp only [hi', hw, if_true]
    refine Or.inl ?_
    have hrun := run_append_owned_none (P := P) (w := w) base t oi.type e i0 size ht hi v n xs hown
    unfold Oper.wp execOp
    simp only [ho, resolve, invoke, builtin, Sem.run_bind, Sem.run_pure, Result.andThen_ok, List.map_toArray, List.map_cons, List.map_nil, hs, hx, hrun]
    rw [Oper.upon_value, hd]
    exact h _ _ (by simpa using hown) (grown_refl _ _) (.inl rfl)
  · exact tk_app i d hi' hd hw s x t ho base e i0 z size bytes ht hi hz hsize hby hzs hsz v n xs hs hown ad m c news hx hl hc h1 h63 hbytes hbase h
end
theorem own_empty' {w : World} {base g z : Nat} {e : TypeId} (hb : base ≤ g) (h : w.heap[g]? = some (.cells #[] e (0, 0))) : w.ownsRow base e z (.slice (some ⟨g, 0, none⟩) 0 0) 0 [] :=
  ⟨by simp, .inr ⟨g, 0, #[], rfl, hb, h, Nat.le_refl _, Nat.zero_le _, by simp, by simp⟩⟩
theorem rows_mono {w : World} {base base' z n : Nat} {e : TypeId} {v : Value} {us : List Value} (h : w.ownsRow base e z v n us) (hb : base' ≤ base) : w.ownsRow base' e z v n us := by
  refine ⟨h.1, ?_⟩
  rcases h.2 with h2 | ⟨g, cap, cur, rfl, hg, hr⟩
  · exact .inl h2
  · exact .inr ⟨g, cap, cur, rfl, Nat.le_trans hb hg, hr⟩
theorem Reps.take {w : World} {p : Nat → Prop} {us : List Value} {es : List DV} (h : Reps w p us es) (k : Nat) : Reps w p (us.take k) (es.take k) :=
  ⟨by rw [List.length_take, List.length_take, h.1], fun j u e hu he => by
    rw [List.getElem?_take] at hu he
    split at hu
    · rename_i hlt; rw [if_pos hlt] at he; exact h.2 _ _ _ hu he
    · cases hu⟩
theorem Reps.drop {w : World} {p : Nat → Prop} {us : List Value} {es : List DV} (h : Reps w p us es) (k : Nat) : Reps w p (us.drop k) (es.drop k) :=
  ⟨by rw [List.length_drop, List.length_drop, h.1], fun j u e hu he => by
    rw [List.getElem?_drop] at hu he; exact h.2 _ _ _ hu he⟩
/-- What reads as one cell each. -/
def DV.one : DV → Bool
  | .v x => x.oneCell'
  | .s _ _ => true
theorem Rep.one {w : World} {p : Nat → Prop} {u : Value} {e : DV} (h : Rep w p u e) (he : e.one = true) : u.oneCell' = true := by
  cases h with
  | leaf x hx => exact he
  | nil z => rfl
  | emp ad z => rfl
  | row => rfl
theorem Reps.one {w : World} {p : Nat → Prop} {us : List Value} {es : List DV} (h : Reps w p us es) (he : ∀ e ∈ es, e.one = true) : ∀ u ∈ us, u.oneCell' = true := by
  intro u hu
  obtain ⟨k, hk, rfl⟩ := List.getElem_of_mem hu
  have hk' : k < es.length := by rw [← h.1]; exact hk
  exact (h.2 k _ es[k] (List.getElem?_eq_getElem hk) (List.getElem?_eq_getElem hk')).one (he _ (List.getElem_mem hk'))
theorem flat_one {α : Type} {f : α → List DV} (hf : ∀ x, ∀ e ∈ f x, e.one = true) (l : List α) : ∀ e ∈ l.flatMap f, e.one = true := by
  intro e he
  obtain ⟨x, _, hx⟩ := List.mem_flatMap.1 he
  exact hf x e hx
/-- What is asked at the end of a region whose last operation is walked for itself. -/
def QLast (P : Program) (ops : Array Oper) (last : Nat) (Q : Exit → Act → World → Prop) : Exit → Act → World → Prop
  | .normal, a, w => wpOp P ops Q last (fun a w => Q .normal a w) a w
  | e, a, w => Q e a w
section
variable {P : Program} {ops ops' : Array Oper} {Q : Exit → Act → World → Prop}
theorem ready_eq (hsz : ops'.size = ops.size) (ha : ∀ i : Nat, (ops'[i]?).map (·.after) = (ops[i]?).map (·.after)) (listed : Array Bool) : Region.ready .any ops' listed = Region.ready .any ops listed := by
  unfold Region.ready
  rw [hsz]
  refine List.filter_congr fun i _ => ?_
  have h := ha i
  cases h1 : ops'[i]? <;> cases h2 : ops[i]? <;> simp_all
theorem yielded_eq (hd : ∀ i : Nat, (ops'[i]?).bind (·.dst) = (ops[i]?).bind (·.dst)) (tmps : Array Value) : yielded ops' tmps = yielded ops tmps := by
  funext j
  unfold yielded
  rw [hd j]
theorem upon_qlast (last : Nat) (o : Oper) (a : Act) (K : Act → World → Prop) (r : Result Next) (h : o.upon P a K (QLast P ops last Q) r) : o.upon P a K Q r := by
  cases r with
  | ok n w' =>
    cases n
    case enter f args =>
      refine Calls.mono h fun e w'' he => ?_
      cases e <;> exact he
    all_goals exact h
  | halt x w' => cases x <;> exact h
/-- An operation that hasn't come up, and none may: there is none, where each waits for earlier ones alone. -/
theorem ready_some (hord : ∀ (i : Nat) (o : Oper), ops[i]? = some o → ∀ e ∈ o.after, Region.binds .any e = true → e.on < i) (listed : Array Bool) (k : Nat) (hk : k < ops.size) (hl : listed.getD k true = false) (hls : listed.size = ops.size) :
    ∃ i, i ∈ Region.ready .any ops listed := by
  induction k using Nat.strongRecOn with
  | ind k ih =>
    by_cases h : ∃ j, j < k ∧ listed.getD j true = false
    · obtain ⟨j, hj, hlj⟩ := h
      exact ih j hj (by omega) hlj
    · refine ⟨k, ?_⟩
      unfold Region.ready
      rw [List.mem_filter]
      refine ⟨List.mem_range.2 hk, ?_⟩
      rw [hl]
      obtain ⟨o, ho⟩ : ∃ o, ops[k]? = some o := ⟨_, Array.getElem?_eq_getElem hk⟩
      rw [ho]
      simp only [Bool.not_false, Bool.true_and, Option.map_some, Option.getD_some, List.all_eq_true, Bool.or_eq_true, Bool.not_eq_true', Array.all_eq_true']
      intro e he
      by_cases hb : Region.binds .any e = true
      · right
        have hon := hord k o ho e he hb
        have h1 : ¬ listed.getD e.on true = false := fun h2 => h ⟨_, hon, h2⟩
        have hlt : e.on < listed.size := by omega
        simp [Array.getD, hlt] at h1 ⊢
        exact h1
      · left; simpa using hb
theorem wpAny_last (last : Nat) (hm : P.follows .mixedOrders = true) (hsz : ops'.size = ops.size) (hl : last < ops.size) (hsame : ∀ i : Nat, i ≠ last → ops'[i]? = ops[i]?)
    (ol ol' : Oper) (hol : ops[last]? = some ol) (hol' : ops'[last]? = some ol') (hd : ol.dst = none) (hd' : ol'.dst = none) (haf : ol'.after = ol.after) (hop : ol'.op = .move (.const (.bool true))) (hg : ol'.guard = none)
    (hwait : ∀ j : Nat, j < ops.size → j ≠ last → ∃ e ∈ ol.after, Region.binds .any e = true ∧ e.on = j)
    (hord : ∀ (i : Nat) (o : Oper), ops[i]? = some o → ∀ e ∈ o.after, Region.binds .any e = true → e.on < i) :
    ∀ (fuel : Nat) (listed : Array Bool) (a : Act) (w : World), listed.size = ops.size → listed.getD last true = false → wpAny P .any ops' (QLast P ops last Q) fuel listed a w → wpAny P .any ops Q fuel listed a w := by
  have ha : ∀ i : Nat, (ops'[i]?).map (·.after) = (ops[i]?).map (·.after) := fun i => by
    by_cases h : i = last
    · subst h; rw [hol, hol']; simp [haf]
    · rw [hsame i h]
  have hdd : ∀ i : Nat, (ops'[i]?).bind (·.dst) = (ops[i]?).bind (·.dst) := fun i => by
    by_cases h : i = last
    · subst h; rw [hol, hol']; simp [hd, hd']
    · rw [hsame i h]
  have hy := fun tmps => yielded_eq (ops := ops) (ops' := ops') hdd tmps
  have hr := fun listed => ready_eq (ops := ops) (ops' := ops') hsz ha listed
  intro fuel
  induction fuel with
  | zero =>
    intro listed a w hls hll h
    obtain ⟨i, hi⟩ := ready_some hord listed last hl hll hls
    have h1 := h.1
    rw [hr] at h1
    rw [h1] at hi; cases hi
  | succ fuel ih =>
    intro listed a w hls hll h
    obtain ⟨h0, h1⟩ := h
    rw [hr] at h0 h1
    refine ⟨fun he => ?_, fun i hi => ?_⟩
    · obtain ⟨i, hi⟩ := ready_some hord listed last hl hll hls
      rw [he] at hi; cases hi
    · have h2 := h1 i hi
      by_cases hil : i = last
      · subst hil
        have hall : Region.ready .any ops (listed.setIfInBounds i true) = [] := by
          rw [List.eq_nil_iff_forall_not_mem]
          intro j hj
          unfold Region.ready at hj hi
          rw [List.mem_filter] at hj hi
          have hjs := List.mem_range.1 hj.1
          by_cases e : j = i
          · subst e
            have := hj.2
            simp [Array.getD, hls, hl] at this
          · obtain ⟨e1, he1, hb1, ho1⟩ := hwait j hjs e
            have h3 := hi.2
            rw [hol] at h3
            simp only [Option.map_some, Option.getD_some, Bool.and_eq_true, Array.all_eq_true'] at h3
            have h4 := h3.2 e1 he1
            rw [hb1, ho1] at h4
            have h5 := hj.2
            have hjl : j < listed.size := by omega
            simp [Array.getD, hjl, Array.getElem_setIfInBounds, Ne.symm e] at h4 h5
            rw [h4] at h5
            simp at h5
        have h3 : wpAny P .any ops' (QLast P ops i Q) fuel (listed.setIfInBounds i true) a w := by
          unfold wpOp at h2
          simp only [hol'] at h2
          have hwn : Region.wanted ol' (yielded ops' a.tmps) = true := by unfold Region.wanted; rw [hg]
          rw [if_pos hwn] at h2
          rcases h2 with h2 | ⟨h2, _⟩
          · have hrun : (execOp a.eval ol').run P w = .ok (.value (.bool true)) w := by unfold execOp; rw [hop]; rfl
            unfold Oper.wp at h2
            rw [hrun, Oper.upon_value, hd'] at h2
            exact h2
          · exfalso
            have := h2.1
            have hrt : ((execOp a.eval ol').runT P w #[]).2 = #[] := by unfold execOp; rw [hop]; rfl
            rw [hrt] at this
            simp at this
        have h4 : QLast P ops i Q .normal a w := by
          cases fuel with
          | zero => exact h3.2
          | succ f => exact h3.1 (by rw [hr]; exact hall)
        refine wpOp_mono (fun a w hq => ?_) h4
        cases fuel with
        | zero => exact ⟨hall, hq⟩
        | succ f => exact ⟨fun _ => hq, fun j hj => by rw [hall] at hj; cases hj⟩
      · have h3 := wpOp_mono (fun a' w' h' => ih (listed.setIfInBounds i true) a' w' (by simpa using hls) (by
          have hlt : last < listed.size := by omega
          simp [Array.getD, hlt, Array.getElem_setIfInBounds] at hll ⊢
          exact ⟨hil, hll⟩) h') h2
        unfold wpOp at h3 ⊢
        rw [hsame i hil] at h3
        cases ho : ops[i]? with
        | none => simp only [ho] at h3; exact h3
        | some o =>
          simp only [ho] at h3 ⊢
          rw [hy] at h3
          split at h3
          · rename_i hw
            rw [if_pos hw]
            rcases h3 with h3 | ⟨h3, h4⟩
            · exact Or.inl (upon_qlast last o a _ _ h3)
            · exact Or.inr ⟨h3, h4⟩
          · rename_i hw
            rw [if_neg hw]
            exact h3
/-- A region whose last operation waits for all others: it is walked for itself. -/
theorem rg_last {S : World → Prop} {id : Nat} {a : Act} {w : World} (ops' : Array Oper) (last : Nat) (ol ol' : Oper) (hm : P.follows .mixedOrders = true) (hsz : ops'.size = ops.size) (hl : last < ops.size) (hsame : ∀ i : Nat, i < ops.size → i ≠ last → ops'[i]? = ops[i]?)
    (hol : ops[last]? = some ol) (hol' : ops'[last]? = some ol') (hd : ol.dst = none) (hd' : ol'.dst = none) (haf : ol'.after = ol.after) (hop : ol'.op = .move (.const (.bool true))) (hg : ol'.guard = none)
    (hwait : ((List.range ops.size).all fun j => j == last || ol.after.any fun e => Region.binds .any e && e.on == j) = true)
    (hord : ((List.range ops.size).all fun i => ((ops[i]?).map fun o => o.after.all fun e => !Region.binds .any e || decide (e.on < i)).getD true) = true)
    (hS : S w.drew) (h : wpAnyH P .any ops' (QLast P ops last Q) S ops'.size (Array.replicate ops'.size false) a w.drew) : (Code.region id ops true).wp P Q a w := by
  refine wp_region_any hm (wpAny_last (ops' := ops') last hm hsz hl (fun i hi => ?_) ol ol' hol hol' hd hd' haf hop hg (fun j hj hjl => ?_) (fun i o ho e he hb => ?_) ops.size _ a _ (by simp) (by simp [Array.getD, hl]) ?_)
  · by_cases h : i < ops.size
    · exact hsame i h hi
    · rw [Array.getElem?_eq_none (by omega), Array.getElem?_eq_none (by omega)]
  · have := (List.all_eq_true.1 hwait) j (List.mem_range.2 hj)
    rw [Bool.or_eq_true] at this
    rcases this with h1 | h1
    · exact absurd (by simpa using h1) hjl
    · simp only [Array.any_eq_true', Bool.and_eq_true, beq_iff_eq] at h1
      obtain ⟨e, he, h2⟩ := h1
      exact ⟨e, he, h2⟩
  · have hi : i < ops.size := by
      rcases Nat.lt_or_ge i ops.size with h' | h'
      · exact h'
      · rw [Array.getElem?_eq_none h'] at ho; cases ho
    have := (List.all_eq_true.1 hord) i (List.mem_range.2 hi)
    rw [ho] at this
    simp only [Option.map_some, Option.getD_some, Array.all_eq_true'] at this
    have := this e he
    rw [hb] at this
    simpa using this
  · have := wpAny_of_held _ _ _ _ h
    rw [hsz] at this
    exact this
end
/-- What a region leaves, told once for all orders. -/
def QM (R : Act → World → Prop) (Q : Exit → Act → World → Prop) : Exit → Act → World → Prop
  | .normal, a, w => R a w
  | e, a, w => Q e a w
theorem region_merge {P : Program} {Q : Exit → Act → World → Prop} {c : Code} {a : Act} {w : World} (R : Act → Act → World → Prop) (h1 : c.wp P (QM (R a) Q) a w) (h2 : ∀ a' w', R a a' w' → Q .normal a' w') : c.wp P Q a w := by
  refine Code.wp_mono (fun e a w h => ?_) h1
  cases e
  case normal => exact h2 _ _ h
  all_goals exact h
section
variable {P : Program} {ops : Array Oper} {Q : Exit → Act → World → Prop} {S : World → Prop} {fuel : Nat} {listed : Array Bool} {a : Act} {w : World} {K : Act → World → Prop}
/-- The operation is a call of function f, by what it leaves. -/
theorem tk_call (i : Nat) (d : Option Tmp) (f : FuncId) (vals : Array Value) {oi : Oper} (hi : ops[i]? = some oi) (hd : oi.dst = d) (hw : Region.wanted oi (yielded ops a.tmps) = true)
    (hrun : ∀ w', (execOp a.eval oi).run P w' = .ok (.enter f vals) w') {R : Value → World → Prop}
    (hc : Calls P f vals w fun e w' => ∃ v, e = .returned v ∧ R v w') (h : ∀ v w', R v w' → K (a.put d v) w') : wpOp P ops Q i K a w := by
  unfold wpOp
  simp only [hi, hw, if_true]
  refine Or.inl ?_
  unfold Oper.wp
  rw [hrun w, Oper.upon_enter]
  refine hc.mono fun e w' ⟨v, he, hR⟩ => ?_
  subst he
  dsimp only
  rw [hd]
  exact h v w' hR
/-- The operation writes. -/
theorem tk_write (i : Nat) (d : Option Tmp) (w1 : World) {oi : Oper} (hi : ops[i]? = some oi) (hd : oi.dst = d) (hw : Region.wanted oi (yielded ops a.tmps) = true)
    (hrun : (execOp a.eval oi).run P w = .ok .skip w1) (h : K (a.put d undef) w1) : wpOp P ops Q i K a w := by
  unfold wpOp
  simp only [hi, hw, if_true]
  refine Or.inl ?_
  unfold Oper.wp
  rw [hrun, Oper.upon_skip, hd]
  exact h
/-- The region's last operation put aside. -/
theorem rg_aside {id : Nat} (last : Nat) (ol : Oper) (hm : P.follows .mixedOrders = true) (hl : last < ops.size) (hol : ops[last]? = some ol) (hd : ol.dst = none)
    (hwait : ((List.range ops.size).all fun j => j == last || ol.after.any fun e => Region.binds .any e && e.on == j) = true)
    (hord : ((List.range ops.size).all fun i => ((ops[i]?).map fun o => o.after.all fun e => !Region.binds .any e || decide (e.on < i)).getD true) = true)
    (hS : S w.drew) (h : wpAnyH P .any (ops.setIfInBounds last { ol with op := .move (.const (.bool true)), guard := none }) (QLast P ops last Q) S (ops.setIfInBounds last { ol with op := .move (.const (.bool true)), guard := none }).size (Array.replicate (ops.setIfInBounds last { ol with op := .move (.const (.bool true)), guard := none }).size false) a w.drew) :
    (Code.region id ops true).wp P Q a w :=
  rg_last (ops.setIfInBounds last { ol with op := .move (.const (.bool true)), guard := none }) last ol { ol with op := .move (.const (.bool true)), guard := none } hm (by simp) hl (fun i _ hne => Array.getElem?_setIfInBounds_ne (Ne.symm hne)) hol (by simp [hl]) hd hd rfl rfl rfl hwait hord hS h
end
theorem Reps.lt {w : World} {p : Nat → Prop} {us : List Value} {es : List DV} (h : Reps w p us es) : Reps w (fun b => p b ∧ b < w.heap.size) us es := ⟨h.1, fun k u e hu he => (h.2 k u e hu he).lt⟩
/-- The cells of a slice, and its parts. -/
theorem rep_src {P : Program} {w : World} {p : Nat → Prop} {z : Nat} {t : TypeId} {a : Option Addr} {n cap : Nat} {es : List DV} (h : Rep w p (.slice a n cap) (.s z es)) (ht : P.underlying t = some (.slice (P.elem t))) (hz : ∀ W, (sizeOf (P.elem t)).run P W = .ok z W) :
    ∃ us, Reps w p us es ∧ us.length = n * z ∧ (∀ k, k ≤ n → ∃ sv, Src w z sv k (us.take (k * z)) ∧ ∀ W, (Instr.sliceAt t (.slice a n cap) none (some (.int .i64 k)) none).run P W = .ok sv W) ∧
      (∀ k, k ≤ n → ∃ sv, Src w z sv (n - k) (us.drop (k * z)) ∧ ∀ W, (Instr.sliceAt t (.slice a n cap) (some (.int .i64 k)) none none).run P W = .ok sv W) ∧ Src w z (.slice a n cap) n us := by
  cases h with
  | nil =>
    refine ⟨[], Reps.nil _ _, by simp, fun k hk => ?_, fun k hk => ?_, .inl ⟨rfl, rfl, rfl⟩⟩
    · obtain rfl : k = 0 := by omega
      refine ⟨.slice none 0 0, .inl ⟨rfl, rfl, by simp⟩, fun W => ?_⟩
      rw [run_sliceAt_slice W t _ _ _ _ ht, run_slice_h W t none 0 0 ht .i64 _ (by omega) (by omega), hz]
      simp [Result.andThen, sliced]
    · obtain rfl : k = 0 := by omega
      refine ⟨.slice none 0 0, .inl ⟨rfl, rfl, by simp⟩, fun W => ?_⟩
      rw [run_sliceAt_slice W t _ _ _ _ ht, run_slice_l W t none 0 0 ht .i64 _ (by omega) (by omega), hz]
      simp [Result.andThen, sliced]
  | emp ad =>
    refine ⟨[], Reps.nil _ _, by simp, fun k hk => ?_, fun k hk => ?_, .inr ⟨ad, 0, rfl, by simp, fun j u h => by simp at h⟩⟩
    · obtain rfl : k = 0 := by omega
      refine ⟨sliced (some ad) 0 ((0 : Nat) : Int).toNat 0 z, .inr ⟨ad, 0, by simp [sliced], by simp, fun j u h => by simp at h⟩, fun W => ?_⟩
      rw [run_sliceAt_slice W t _ _ _ _ ht, run_slice_h W t _ 0 0 ht .i64 _ (by omega) (by omega), hz]; rfl
    · obtain rfl : k = 0 := by omega
      refine ⟨sliced (some ad) ((0 : Nat) : Int).toNat 0 0 z, .inr ⟨ad, 0, by simp [sliced], by simp, fun j u h => by simp at h⟩, fun W => ?_⟩
      rw [run_sliceAt_slice W t _ _ _ _ ht, run_slice_l W t _ 0 0 ht .i64 _ (by omega) (by omega), hz]; rfl
  | row b off _ _ _ us _ hok hl hu hcap hm hc hr =>
    have hcell : ∀ j u, us[j]? = some u → w.cell? ⟨b, off + j, none⟩ = some u := hc
    refine ⟨us, ⟨by rw [hu, hl], hr⟩, hu, fun k hk => ?_, fun k hk => ?_, .cells hu hcell⟩
    · have hmul : k * z ≤ n * z := Nat.mul_le_mul_right _ hk
      refine ⟨sliced (some ⟨b, off, none⟩) 0 ((k : Int).toNat) cap z, ?_, fun W => ?_⟩
      · unfold sliced
        have hlen : (us.take (k * z)).length = k * z := by rw [List.length_take, hu]; omega
        have hcl : ∀ j u, (us.take (k * z))[j]? = some u → w.cell? ⟨b, off + j, none⟩ = some u := fun j u hj => by
          rw [List.getElem?_take] at hj
          split at hj
          · exact hcell j u hj
          · cases hj
        by_cases h0 : cap = 0
        · rw [if_pos h0]
          simp only [Int.toNat_natCast, Nat.sub_zero]
          exact .cells hlen hcl
        · rw [if_neg h0]
          simp only [Int.toNat_natCast, Nat.sub_zero, Option.map_some, add_offs', Nat.zero_mul, Nat.add_zero]
          exact .cells hlen hcl
      · rw [run_sliceAt_slice W t _ _ _ _ ht, run_slice_h W t _ n cap ht .i64 _ (by omega) (by omega), hz]; rfl
    · have hmul : k * z ≤ n * z := Nat.mul_le_mul_right _ hk
      have hsub : n * z - k * z = (n - k) * z := (Nat.sub_mul n k z).symm
      have hlen : (us.drop (k * z)).length = (n - k) * z := by rw [List.length_drop, hu, hsub]
      refine ⟨sliced (some ⟨b, off, none⟩) ((k : Int).toNat) n cap z, ?_, fun W => ?_⟩
      · unfold sliced
        have hcl : ∀ j u, (us.drop (k * z))[j]? = some u → w.cell? ⟨b, off + k * z + j, none⟩ = some u := fun j u hj => by
          rw [List.getElem?_drop] at hj
          rw [Nat.add_assoc]; exact hcell _ u hj
        simp only [Int.toNat_natCast]
        by_cases h0 : cap = k
        · have h1 : n = k := by omega
          have hnil : us.drop (k * z) = [] := List.eq_nil_of_length_eq_zero (by rw [hlen, h1]; simp)
          rw [if_pos h0, hnil]
          exact .cells (by rw [h1]; simp) (fun j u hj => by simp at hj)
        · rw [if_neg h0]
          simp only [Option.map_some, add_offs']
          exact .cells hlen hcl
      · rw [run_sliceAt_slice W t _ _ _ _ ht, run_slice_l W t _ n cap ht .i64 _ (by omega) (by omega), hz]; rfl
/-- The world is la it was, but for one block, and what is new. -/
def Exc (g : Nat) (a w : World) : Prop := a.heap.size ≤ w.heap.size ∧ ∀ b, b ≠ g → b < a.heap.size → w.heap[b]? = a.heap[b]?
theorem Exc.refl (g : Nat) (a : World) : Exc g a a := ⟨Nat.le_refl _, fun _ _ _ => rfl⟩
theorem Exc.ext {g : Nat} {a w w' : World} (h : Exc g a w) (hB : Ext w w') : Exc g a w' := ⟨Nat.le_trans h.1 hB.size, fun b h1 h2 => (Below.block hB b (Nat.lt_of_lt_of_le h2 h.1)).trans (h.2 b h1 h2)⟩
theorem Exc.set {g : Nat} {a w : World} (h : Exc g a w) {p : Addr} (hp : p.block = g) (u : Value) : Exc g a (w.setCell p u) := ⟨by simpa using h.1, fun b h1 h2 => by rw [Below.heap_setCell _ _ _ _ (by omega)]; exact h.2 b h1 h2⟩
theorem exec_store {P : Program} {ev : Operand → Value} {oi : Oper} {t : TypeId} {x y : Operand} {W W' : World} (ho : oi.op = .store t x y) (h : (Instr.storeAt t (ev x) (ev y)).run P W = .ok () W') :
    (execOp ev oi).run P W = .ok .skip W' := by
  unfold execOp
  simp only [ho, Sem.run_bind, h, Result.andThen_ok, Sem.run_pure]
theorem store_slice {P : Program} {W : World} {b o : Nat} {u : Value} (t : TypeId) (hs : ∀ W, (sizeOf t).run P W = .ok 1 W) (hc : W.cell? ⟨b, o, none⟩ = some u) (hf : W.frozen? ⟨b, o, none⟩ = false) (a : Option Addr) (n c : Nat) :
    (Instr.storeAt t (.pointer (some ⟨b, o, none⟩)) (.slice a n c)).run P W = .ok () (W.setCell ⟨b, o, none⟩ (.slice a n c)) := by
  go_simp
theorem Own.keep {w w' : World} {p : Nat → Prop} {base z n : Nat} {e : TypeId} {v : Value} {es : List DV} {row : Option Nat} (h : Own w p base e z v n es) (hg : w.grownBy w' row) (hv : v.ownBlock = none ∨ v.ownBlock ≠ row) (hp : ∀ g, row = some g → ¬ p g) : Own w' p base e z v n es := by
  obtain ⟨us, h1, h2⟩ := h
  exact ⟨us, h1.kept hg hv, (h2.kept fun b hb hlt => hg.block b hlt (fun e => hp b e.symm hb.1)).ok fun b hb => ⟨hb.1, hb.2.1, Nat.lt_of_lt_of_le hb.2.2 hg.size⟩⟩
theorem rep_lit {w : World} {cs : Array Value} {e : TypeId} {n z : Nat} {es : List DV} (hs : cs.size = n * z) (hl : es.length = n * z) (hn : n ≤ 9223372036854775807) (hr : Reps w (fun _ => True) cs.toList es) :
    Rep (w.alloc (.cells cs e)) (fun _ => True) (.slice (some ⟨w.heap.size, 0, none⟩) n n) (.s z es) := by
  have hr' := hr.ext ((Ext.refl w).alloc (.cells cs e))
  refine .row w.heap.size 0 n n z cs.toList es (fun _ => trivial) hl (by simpa using hs) (Nat.le_refl _) hn (fun k u hk => ?_) hr'.2
  rw [Nat.zero_add]
  have h := World.cell?_alloc_mark w cs e (0, 0) k
  rw [h, ← hk]; simp
theorem blk_cells {w : World} {g : Nat} {xs : List Value} {e : TypeId} (h : w.heap[g]? = some (.cells xs.toArray e (0, 0))) (k : Nat) {u : Value} (hk : xs[k]? = some u) : w.cell? ⟨g, k, none⟩ = some u := blk_cell h (by simpa using hk)
@[go_sem] theorem run_store_func (P : Program) (w : World) (a : Addr) (m : Mode) (f : Fn) (x y : Array Value) : (store a (.func f x y) m).run P w = stored P w a (.func f x y) m := run_store P w a _ m rfl
/-- Operation i waits for j, by so many steps at most. -/
def waits (ops : Array Oper) : Nat → Nat → Nat → Bool
  | 0, _, _ => false
  | n + 1, i, j => ((ops[i]?).map fun o => o.after.any fun e => Region.binds .any e && (e.on == j || waits ops n e.on j)).getD false
theorem Exc.trans {g : Nat} {a b c : World} (h : Exc g a b) (k : Exc g b c) : Exc g a c := ⟨Nat.le_trans h.1 k.1, fun x h1 h2 => (k.2 x h1 (Nat.lt_of_lt_of_le h2 h.1)).trans (h.2 x h1 h2)⟩
/-- The cells of a row of bytes. -/
theorem by_at {w : World} {p : Nat → Prop} {a : Option Addr} {len cap : Nat} {L : Bytes} (h : Rep w p (.slice a len cap) (numsD .u8 (byI L))) (i : Nat) (hi : i < L.length) :
    ∃ b off, a = some ⟨b, off, none⟩ ∧ b < w.heap.size ∧ w.cell? ⟨b, off + i, none⟩ = some (.int .u8 (L[i].toNat : Int)) := by
  obtain ⟨b, off, ha, hb, hp, hc⟩ := elem_at (f := fun c => [.v (.int .u8 c)]) (z_num .u8) h (by omega) i (by rw [byI_len]; exact hi)
  obtain ⟨u, hu, hr⟩ := hc 0 _ rfl
  rw [Nat.mul_one, Nat.add_zero] at hu
  refine ⟨b, off, ha, hb, ?_⟩
  rw [hu, hr.is]
  simp [byI]
theorem by_conv {w : World} {p : Nat → Prop} {b off cap : Nat} {L : Bytes} (h : Rep w p (.slice (some ⟨b, off, none⟩) L.length cap) (numsD .u8 (byI L))) (n : Nat) (hn : n ≤ L.length) {W : World} (hE : Ext w W) (c : Nat) :
    (convert 103 9 (.slice (some ⟨b, off, none⟩) n c)).run Tryz.prog W = .ok (.string (bs (L.take n))) W := by
  have e : (L.take n).length = n := by rw [List.length_take]; omega
  have h1 := run_convert_bytes_back (P := Tryz.prog) W 103 9 5 ⟨b, off, none⟩ c (L.take n) Tryz.underlying103 Tryz.underlying5 Tryz.underlying9 (fun j hj => by
    have hj' : j < L.length := by rw [e] at hj; omega
    obtain ⟨b', o', e', hbl, hcell⟩ := by_at h j hj'
    injection e' with e'
    injection e' with e1 e2
    subst e1 e2
    have ea : (⟨b, off, none⟩ : Addr).add j = ⟨b, off + j, none⟩ := by unfold Addr.add; split <;> simp_all
    rw [ea, hE.keep hbl hcell]
    simp)
  rw [e] at h1
  exact h1
end Go.Proofs.YtmmopcceabdecaaGreatDoor
