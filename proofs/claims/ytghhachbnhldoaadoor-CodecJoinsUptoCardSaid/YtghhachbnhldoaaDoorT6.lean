/-
  recensionref10.Nodes and small. Helper lemmas; no statement of the seat is proved here.
-/
import Derived.Test.YtghhachbnhldoaaDoorT5
import Derived.IntWalk
namespace Go.Proofs.YtghhachbnhldoaaDoor
open Go.RowKit
set_option maxRecDepth 100000
set_option linter.unusedVariables false
set_option linter.unusedSimpArgs false

theorem z0 : (⟨#[]⟩ : ByteArray) = bs [] := rfl
theorem attrs_nil (w : World) (p : Nat → Prop) : Rep w p (.slice none 0 0) (attrsD []) := .nil 2
theorem nodes_nil (w : World) (p : Nat → Prop) : Rep w p (.slice none 0 0) (nodesD []) := .nil 5
theorem nodes_any (p q : Nat → Prop) (x y : List Node) (v u : Value) (w : World) (h : Rep w p v (nodesD x)) (k : Rep w q u (nodesD y)) :
    Calls Tryd.prog 39 #[v, u] w fun e w' => e = .returned (.bool (sameL x y)) ∧ Ext w w' := by
  have HC := Lib.hid fun W (hE : Ext w W) => same_any (nsz (.mk 0 [] [] [] x)) (.mk 0 [] [] [] x) (.mk 0 [] [] [] y) p q (.slice none 0 0) v (.slice none 0 0) u W (Nat.le_refl _) (attrs_nil _ _) (h.ext hE) (attrs_nil _ _) (k.ext hE)
  have e : sameN (.mk 0 [] [] [] x) (.mk 0 [] [] [] y) = sameL x y := by rw [sameN]; simp [attrsS]
  rw [e] at HC
  obtain ⟨a, c, rfl, _, _⟩ := h.count z_node (by omega)
  obtain ⟨b, d, rfl, _, _⟩ := k.count z_node (by omega)
  clear h k e
  go_enter Tryd.func39, Tryd.ntmps39
  go_wp2_with fail
  refine (HC.out _ (Ext.refl _)).mono ?_
  rintro e w1 ⟨rfl, hB1⟩
  go_wp2_with fail
  go_ret
  exact ⟨rfl, hB1⟩

/-- How much a tree is. -/
def cntA : List Attr → Nat
  | [] => 0
  | a :: r => 1 + a.n.length + a.v.length + cntA r
mutual
def cntN : Node → Nat
  | .mk _ n t la ks => 1 + n.length + t.length + cntA la + cntL ks
def cntL : List Node → Nat
  | [] => 0
  | n :: r => cntN n + cntL r
end
/-- .. as far as that isn't above a most. -/
def smallA (m : Nat) : Nat → List Attr → Nat
  | c, [] => c
  | c, a :: r => if c ≤ m then smallA m (c + 1 + a.n.length + a.v.length) r else c
mutual
def smallN (m : Nat) : Node → Nat
  | .mk _ n t la ks => smallL m (smallA m (1 + n.length + t.length) la) ks
def smallL (m : Nat) : Nat → List Node → Nat
  | c, [] => c
  | c, n :: r => if c ≤ m then smallL m (c + smallN m n) r else c
end
theorem smallA_le (m : Nat) : ∀ (l : List Attr) (c : Nat), smallA m c l ≤ c + cntA l ∧ c ≤ smallA m c l ∧ (smallA m c l ≤ m → smallA m c l = c + cntA l)
  | [], c => by simp [smallA, cntA]
  | a :: r, c => by
    unfold smallA cntA
    split
    · have := smallA_le m r (c + 1 + a.n.length + a.v.length); omega
    · exact ⟨by omega, by omega, fun h => by omega⟩
mutual
theorem smallN_le (m : Nat) : ∀ n : Node, smallN m n ≤ cntN n ∧ (smallN m n ≤ m → smallN m n = cntN n)
  | .mk k n t la ks => by
    rw [smallN, cntN]
    have h1 := smallA_le m la (1 + n.length + t.length)
    have h2 := smallL_le m ks (smallA m (1 + n.length + t.length) la)
    omega
theorem smallL_le (m : Nat) : ∀ (l : List Node) (c : Nat), smallL m c l ≤ c + cntL l ∧ c ≤ smallL m c l ∧ (smallL m c l ≤ m → smallL m c l = c + cntL l)
  | [], c => by simp [smallL, cntL]
  | n :: r, c => by
    rw [smallL, cntL]
    have h1 := smallN_le m n
    have h2 := smallL_le m r (c + smallN m n)
    split
    · omega
    · exact ⟨by omega, by omega, fun h => by omega⟩
end
theorem cntA_get : ∀ (l : List Attr) (i : Nat) (h : i < l.length), 1 + l[i].n.length + l[i].v.length + cntA (l.drop (i + 1)) = cntA (l.drop i)
  | l, i, h => by rw [drop_one l i h, cntA]
theorem cntL_get (l : List Node) (i : Nat) (h : i < l.length) : cntN l[i] + cntL (l.drop (i + 1)) = cntL (l.drop i) := by rw [drop_one l i h, cntL]
theorem smallA_get (m c : Nat) (l : List Attr) (i : Nat) (h : i < l.length) : smallA m c (l.drop i) = if c ≤ m then smallA m (c + 1 + l[i].n.length + l[i].v.length) (l.drop (i + 1)) else c := by rw [drop_one l i h, smallA]
theorem smallL_get (m c : Nat) (l : List Node) (i : Nat) (h : i < l.length) : smallL m c (l.drop i) = if c ≤ m then smallL m (c + smallN m l[i]) (l.drop (i + 1)) else c := by rw [drop_one l i h, smallL]
theorem cntN_pos (n : Node) : 1 ≤ cntN n := by cases n; rw [cntN]; omega
set_option maxHeartbeats 8000000 in
theorem small_any (m : Nat) (hm : m ≤ 1048576) : ∀ (N : Nat) (a : Node) (p : Nat → Prop) (va vk : Value) (w : World), nsz a ≤ N → cntN a ≤ 1048576 → Rep w p va (attrsD a.attrs) → Rep w p vk (nodesD a.kids) →
    Calls Tryd.prog 43 #[.agg #[.int .i64 a.kind, .string (bs a.name), .string (bs a.text), va, vk], .int .i64 m] w fun e w' => e = .returned (.int .i64 (smallN m a)) ∧ Ext w w' := by
  intro N
  induction N with
  | zero => intro a p va vk w hN; cases a; rw [nsz] at hN; omega
  | succ N ih =>
    intro a p va vk w hN hcnt hva hvk
    have hkid := fun i h => kid_lt a i h
    obtain ⟨k, nm, tx, la, ks⟩ := a
    simp only [Node.kind, Node.name, Node.text, Node.attrs, Node.kids] at *
    obtain ⟨ba, ca, rfl, ha1, ha2⟩ := hva.count z_attr (by omega)
    obtain ⟨bk, ck, rfl, hk1, hk2⟩ := hvk.count z_node (by omega)
    obtain ⟨R, hR⟩ : ∃ R, smallN m (.mk k nm tx la ks) = R := ⟨_, rfl⟩
    rw [hR]
    rw [smallN] at hR
    rw [cntN] at hcnt
    have HM : Hid (∀ (i : Nat) (h : i < ks.length), nsz ks[i] ≤ N) := Lib.hid (fun i h => by have := hkid i h; omega)
    have HR : Hid (smallL m (smallA m (1 + nm.length + tx.length) (la.drop 0)) ks = R) := Lib.hid hR
    have HC0 : Hid (1 + nm.length + tx.length + cntA (la.drop 0) + cntL ks ≤ 1048576) := Lib.hid hcnt
    have b1 : (bs nm).size ≤ 1048576 := by rw [bs_size]; omega
    have b2 : (bs tx).size ≤ 1048576 := by rw [bs_size]; omega
    have hm0 : (m : Int) ≤ 1048576 := by omega
    clear hkid hN hR hcnt
    have IH := Lib.hid ih
    clear ih
    go_enter Tryd.func43, Tryd.ntmps43
    go_wp2_with fail
    obtain ⟨w1, hw1⟩ : ∃ w1, (w.alloc (.cells #[.int .i64 k, .string (bs nm), .string (bs tx), .slice ba la.length ca, .slice bk ks.length ck] 52)) = w1 := ⟨_, rfl⟩
    have hE1 : Ext w w1 := by rw [← hw1]; exact (Ext.refl w).alloc _
    have l0 : w.heap.size < w1.heap.size := by rw [← hw1]; simp
    have c3 : w1.cell? ⟨w.heap.size, 3, none⟩ = some (.slice ba la.length ca) := by rw [← hw1]; simp [go_sem]
    have c4 : w1.cell? ⟨w.heap.size, 4, none⟩ = some (.slice bk ks.length ck) := by rw [← hw1]; simp [go_sem]
    rw [hw1]
    clear hw1
    go_loopw [5, 6] (fun c t wr => ∃ (n i : Nat), c = .int .i64 n ∧ t = .int .i64 i ∧ i ≤ la.length ∧ n ≤ 1048576 ∧ Ext w1 wr ∧ Hid (smallL m (smallA m n (la.drop i)) ks = R) ∧ Hid (n + cntA (la.drop i) + cntL ks ≤ 1048576)) (fun _ t _ => downV la.length t)
    case atStart => exact ⟨1 + (bs nm).size + (bs tx).size, 0, by go_num, rfl, Nat.zero_le _, by have := HC0.out; simp only [bs_size]; omega, Ext.refl _, Lib.hid (by simp only [bs_size]; exact HR.out), Lib.hid (by have := HC0.out; simp only [bs_size]; omega)⟩
    case round =>
      obtain ⟨n, i, rfl, rfl, hi, hn, hX, HI, HQ⟩ := hrel
      have c3r := hX.keep l0 c3
      have c4r := hX.keep l0 c4
      have hn0 : (n : Int) ≤ 1048576 := by omega
      have n0 : (0 : Int) ≤ (n : Int) := by omega
      have hi0 : (0 : Int) ≤ (i : Int) := by omega
      have m0 : (0 : Int) ≤ (m : Int) := by omega
      by_cases hgo : i < la.length ∧ n ≤ m
      · obtain ⟨hlt, hle⟩ := hgo
        have hlI : (i : Int) < (la.length : Int) := by omega
        have hleI : (n : Int) ≤ (m : Int) := by omega
        obtain ⟨g, o, rfl, hb, _, e1, e2⟩ := attr_at (hva.ext (hE1.trans hX)) i hlt
        have h1 := cntA_get la i hlt
        have HS : Hid (smallA m n (la.drop i) = smallA m (n + 1 + la[i].n.length + la[i].v.length) (la.drop (i + 1))) := Lib.hid (by rw [smallA_get m n la i hlt, if_pos hle])
        obtain ⟨x, hx⟩ : ∃ x, la[i] = x := ⟨_, rfl⟩
        rw [hx] at e1 e2 HS h1
        have hq := HQ.out
        have x1 : (bs x.n).size ≤ 1048576 := by rw [bs_size]; omega
        have x2 : (bs x.v).size ≤ 1048576 := by rw [bs_size]; omega
        have HN : Hid (smallL m (smallA m (n + 1 + (bs x.n).size + (bs x.v).size) (la.drop (i + 1))) ks = R) := Lib.hid (by rw [← HI.out, HS.out, bs_size, bs_size])
        have HQN : Hid (n + 1 + (bs x.n).size + (bs x.v).size + cntA (la.drop (i + 1)) + cntL ks ≤ 1048576) := Lib.hid (by rw [bs_size, bs_size]; omega)
        have hnb : n + 1 + (bs x.n).size + (bs x.v).size ≤ 1048576 := by have := HQN.out; omega
        have HXX := Lib.hid hX
        have s1 : IntKind.i64.wrap ((n : Int) + 1) = (n : Int) + 1 := IntWalk.i64_in _ (by omega)
        have s2 : IntKind.i64.wrap ((n : Int) + 1 + ((bs x.n).size : Int)) = (n : Int) + 1 + ((bs x.n).size : Int) := IntWalk.i64_in _ (by omega)
        have s3 : IntKind.i64.wrap ((n : Int) + 1 + ((bs x.n).size : Int) + ((bs x.v).size : Int)) = (n : Int) + 1 + ((bs x.n).size : Int) + ((bs x.v).size : Int) := IntWalk.i64_in _ (by omega)
        clear hq h1 hx HI HQ HS
        go_wp2_with fail
        go_quiet (fail)
        clear s1 s2 s3
        go_wp2_with fail
        go_roundw
        case rel => exact ⟨n + 1 + (bs x.n).size + (bs x.v).size, i + 1, by go_num, by go_num, by omega, hnb, HXX.out.drewN _, HN, HQN⟩
        case measure => simp only [downV]; omega
      · have HS : Hid (smallA m n (la.drop i) = n) := Lib.hid (by
          by_cases hlt : i < la.length
          · rw [smallA_get m n la i hlt, if_neg (by omega)]
          · rw [List.drop_of_length_le (by omega)]; rfl)
        have HN : Hid (smallL m n (ks.drop 0) = R) := Lib.hid (by rw [← HI.out, HS.out]; rfl)
        have HQN : Hid (n + cntL (ks.drop 0) ≤ 1048576) := Lib.hid (by have := HQ.out; rw [List.drop_zero]; omega)
        have hend : Hid (¬ (i < la.length ∧ n ≤ m)) := Lib.hid hgo
        obtain ⟨w2, hw2⟩ : ∃ w2, w2 = wr := ⟨_, rfl⟩
        subst hw2
        clear HI HQ HS hgo
        have key : ∀ (b : Bool), Hid (((decide ((i : Int) < (la.length : Int))) && decide ((n : Int) ≤ (m : Int))) = b) → b = false := fun b hb => by
          have h1 := hend.out
          rw [← hb.out, Bool.and_eq_false_iff]
          by_cases h2 : i < la.length
          · exact Or.inr (decide_eq_false (by omega))
          · exact Or.inl (decide_eq_false (by omega))
        clear key
        by_cases hlt : i < la.length
        all_goals
          first
          | (have hlI : (i : Int) < (la.length : Int) := by omega
             have hleI : ¬ (n : Int) ≤ (m : Int) := by have := hend.out; omega
             clear hlt hend; go_wp2_with fail)
          | (have hlI : ¬ (i : Int) < (la.length : Int) := by omega
             clear hlt hend; go_wp2_with fail)
        all_goals
          go_loopw [5, 7] (fun c t wr => ∃ (n i : Nat), c = .int .i64 n ∧ t = .int .i64 i ∧ i ≤ ks.length ∧ n ≤ 1048576 ∧ Ext w1 wr ∧ Hid (smallL m n (ks.drop i) = R) ∧ Hid (n + cntL (ks.drop i) ≤ 1048576)) (fun _ t _ => downV ks.length t)
          case atStart => exact ⟨n, 0, rfl, rfl, Nat.zero_le _, hn, hX, HN, HQN⟩
          case round =>
            clear HN HQN hn hn0 n0 hi0 hi
            obtain ⟨n, i, rfl, rfl, hi, hn, hX2, HI, HQ⟩ := hrel
            have c4r := hX2.keep l0 c4
            have hn0 : (n : Int) ≤ 1048576 := by omega
            have n0 : (0 : Int) ≤ (n : Int) := by omega
            have hi0 : (0 : Int) ≤ (i : Int) := by omega
            by_cases hlt : i < ks.length
            · have hlI : (i : Int) < (ks.length : Int) := by omega
              by_cases hle : n ≤ m
              · have hleI : (n : Int) ≤ (m : Int) := by omega
                obtain ⟨g, o, x1, x2, rfl, hb, _, e0, e1, e2, e3, e4, hr1, hr2⟩ := node_at (hvk.ext (hE1.trans hX2)) i hlt
                have h1 := cntL_get ks i hlt
                have HS : Hid (smallL m n (ks.drop i) = smallL m (n + smallN m ks[i]) (ks.drop (i + 1))) := Lib.hid (by rw [smallL_get m n ks i hlt, if_pos hle])
                have h2 := smallN_le m ks[i]
                have hNi := HM.out i hlt
                obtain ⟨x, hx⟩ : ∃ x, ks[i] = x := ⟨_, rfl⟩
                rw [hx] at e0 e1 e2 HS h1 h2 hr1 hr2 hNi
                have hq := HQ.out
                obtain ⟨s, hs⟩ : ∃ s, smallN m x = s := ⟨_, rfl⟩
                have HC := Lib.hid fun W (hE : Ext wr W) => IH.out x p x1 x2 W hNi (by omega) (hr1.ext hE) (hr2.ext hE)
                rw [hs] at HS h2 HC
                have HN : Hid (smallL m (n + s) (ks.drop (i + 1)) = R) := Lib.hid (by rw [← HI.out, HS.out])
                have HQN : Hid (n + s + cntL (ks.drop (i + 1)) ≤ 1048576) := Lib.hid (by omega)
                have hnb : n + s ≤ 1048576 := by omega
                have s0 : (0 : Int) ≤ (s : Int) := by omega
                have s1 : (s : Int) ≤ 1048576 := by omega
                clear hq h1 h2 hx HI HQ HS hs hNi
                go_wp2_with fail
                refine (HC.out _ (Ext.refl _)).mono ?_
                rintro e w3 ⟨rfl, hB3⟩
                go_wp2_with fail
                go_roundw
                case rel => exact ⟨n + s, i + 1, by go_num, by go_num, by omega, hnb, hX2.trans hB3, HN, HQN⟩
                case measure => simp only [downV]; omega
              · have hleI : ¬ (n : Int) ≤ (m : Int) := by omega
                have HS : Hid (n = R) := Lib.hid (by rw [← HI.out, smallL_get m n ks i hlt, if_neg hle])
                clear HI HQ
                go_wp2_with fail
                go_ret
                exact ⟨ret_int (by rw [HS.out]), hE1.trans hX2⟩
            · have hlI : ¬ (i : Int) < (ks.length : Int) := by omega
              have HS : Hid (n = R) := Lib.hid (by rw [← HI.out, List.drop_of_length_le (by omega)]; rw [smallL])
              clear HI HQ
              go_wp2_with fail
              go_ret
              exact ⟨ret_int (by rw [HS.out]), hE1.trans hX2⟩

end Go.Proofs.YtghhachbnhldoaaDoor
