/-
  ref18.whole. Helper lemmas; no statement of the seat is proved here.
-/
import Derived.Test.YtghhachbnhldoaaDoorC26
namespace Go.Proofs.YtghhachbnhldoaaDoor
open Go.RowKit
set_option maxRecDepth 100000
set_option linter.unusedVariables false
set_option linter.unusedSimpArgs false

mutual
/-- okN, but for numbers below 0. -/
def rngN : Node → Bool
  | .mk k n t la ks => decide (-9223372036854775808 ≤ k ∧ k < 9223372036854775808 ∧ n.length ≤ 1000000000000 ∧ t.length ≤ 1000000000000 ∧ la.length ≤ 1000000000000 ∧ ks.length ≤ 1000000000000) && (la.all (fun s => decide (s.n.length ≤ 1000000000000 ∧ s.v.length ≤ 1000000000000)) && rngL ks)
def rngL : List Node → Bool
  | [] => true
  | n :: r => rngN n && rngL r
end
theorem rngL_eq : ∀ l : List Node, rngL l = l.all rngN
  | [] => by rw [rngL]; rfl
  | n :: r => by rw [rngL, List.all_cons, rngL_eq r]
theorem rngN_own {x : Node} (h : rngN x = true) : x.kids.length ≤ 1000000000000 ∧ ∀ y ∈ x.kids, rngN y = true := by
  cases x
  rw [rngN, Bool.and_eq_true, Bool.and_eq_true, rngL_eq] at h
  exact ⟨(of_decide_eq_true h.1).2.2.2.2.2, fun y hy => List.all_eq_true.1 h.2.2 y hy⟩
mutual
theorem okN_of : ∀ x : Node, rngN x = true → negN x = false → okN x = true
  | .mk k n t la ks, h, hn => by
    rw [rngN, Bool.and_eq_true, Bool.and_eq_true] at h
    rw [negN, Bool.or_eq_false_iff] at hn
    have h1 := of_decide_eq_true h.1
    have h2 := of_decide_eq_false hn.1
    rw [okN, Bool.and_eq_true, Bool.and_eq_true]
    exact ⟨decide_eq_true ⟨by omega, h1.2.1, h1.2.2⟩, h.2.1, okL_of ks h.2.2 hn.2⟩
theorem okL_of : ∀ l : List Node, rngL l = true → negL l = false → okL l = true
  | [], _, _ => by rw [okL]
  | n :: r, h, hn => by
    rw [rngL, Bool.and_eq_true] at h
    rw [negL, Bool.or_eq_false_iff] at hn
    rw [okL, okN_of n h.1 hn.1, okL_of r h.2 hn.2]; rfl
end
def rngE (x : Edit) : Bool := decide (-9223372036854775808 ≤ x.kind ∧ x.kind < 9223372036854775808 ∧ x.path.length ≤ 1000000000000 ∧ x.attrs.length ≤ 1000000000000 ∧ x.kids.length ≤ 1000000000000) && (x.path.all (fun s => decide (s.n.length ≤ 1000000000000 ∧ s.key.length ≤ 1000000000000) && s.key.all fun t => decide (t.length ≤ 1000000000000)) && (x.attrs.all (fun s => decide (s.n.length ≤ 1000000000000 ∧ s.v.length ≤ 1000000000000)) && (x.kids.all (fun y => decide (nsz y ≤ 9000000) && rngN y) && (decide (nsz x.node ≤ 9000000) && rngN x.node))))
theorem rngE_own {x : Edit} (h : rngE x = true) : x.path.length ≤ 1000000000000 ∧ x.kids.length ≤ 1000000000000 ∧ (∀ y ∈ x.kids, rngN y = true) ∧ rngN x.node = true := by
  unfold rngE at h
  simp only [Bool.and_eq_true] at h
  obtain ⟨h1, h2, h3, h4, h5, h6⟩ := h
  have h7 := of_decide_eq_true h1
  exact ⟨h7.2.2.1, h7.2.2.2.2, fun y hy => by
    have := List.all_eq_true.1 h4 y hy
    rw [Bool.and_eq_true] at this
    exact this.2, h6⟩
theorem okE_of {x : Edit} (h : rngE x = true) (hn : negE x = false) : okE x = true := by
  unfold rngE at h
  unfold negE at hn
  simp only [Bool.and_eq_true] at h
  rw [Bool.or_eq_false_iff, Bool.or_eq_false_iff] at hn
  obtain ⟨h1, h2, h3, h4, h5, h6⟩ := h
  have h7 := of_decide_eq_true h1
  have h8 := of_decide_eq_false hn.1
  unfold okE
  simp only [Bool.and_eq_true]
  refine ⟨decide_eq_true ⟨by omega, h7.2.1, h7.2.2⟩, h2, h3, List.all_eq_true.2 fun y hy => ?_, h5, okN_of _ h6 hn.2.2⟩
  have h9 := List.all_eq_true.1 h4 y hy
  rw [Bool.and_eq_true] at h9
  rw [Bool.and_eq_true]
  exact ⟨h9.1, okN_of y h9.2 (by
    cases e : negN y with
    | false => rfl
    | true => have := hn.2.1; rw [List.any_eq_false] at this; exact absurd e (this y hy))⟩
set_option maxHeartbeats 8000000 in
theorem whole_step (w : World) (x : Node) (p : Nat → Prop) (ka na : Option Addr) (kc nc : Nat) (hna : Rep w p (.slice na x.kids.length nc) (nodesD x.kids)) (hkl : x.kids.length ≤ 1000000000000)
    (HX0 : ∀ y ∈ x.kids, ∀ (W : World) (va vk : Value), Rep W p va (attrsD y.attrs) → Rep W p vk (nodesD y.kids) → Calls Tryd.prog 20 #[.agg #[.int .i64 y.kind, .string (bs y.name), .string (bs y.text), va, vk]] W fun e w' => e = .returned (.bool (!negN y)) ∧ Ext W w') :
    Calls Tryd.prog 20 #[.agg #[.int .i64 x.kind, .string (bs x.name), .string (bs x.text), .slice ka x.attrs.length kc, .slice na x.kids.length nc]] w fun e w' => e = .returned (.bool (!negN x)) ∧ Ext w w' := by
  obtain ⟨wb, hwb⟩ : ∃ W', w.alloc (.cells #[.int .i64 x.kind, .string (bs x.name), .string (bs x.text), .slice ka x.attrs.length kc, .slice na x.kids.length nc] 52) = W' := ⟨_, rfl⟩
  have hE : Ext w wb := by rw [← hwb]; exact (Ext.refl w).alloc _
  have hblk : wb.heap[w.heap.size]? = some (.cells [.int .i64 x.kind, .string (bs x.name), .string (bs x.text), .slice ka x.attrs.length kc, .slice na x.kids.length nc].toArray 52 (0, 0)) := by rw [← hwb]; exact Array.getElem?_push_size
  have hbl := blk_lt hblk
  have b0 := blk_cells hblk 0 rfl; have b4 := blk_cells hblk 4 rfl
  obtain ⟨R, hR⟩ : ∃ R, negN x = R := ⟨_, rfl⟩
  rw [hR]
  have HR : Hid ((decide (x.kind < 0) || (x.kids.drop 0).any negN) = R) := Lib.hid (by rw [← hR, negN_eq]; rfl)
  have HX := Lib.hid HX0
  have HE := Lib.hid hE
  have hv_at := fun i (hi : i < x.kids.length) => node_at (hna.ext hE) i hi
  obtain ⟨KS, hKS⟩ : ∃ K, x.kids = K := ⟨_, rfl⟩
  obtain ⟨kd, hkd⟩ : ∃ K, x.kind = K := ⟨_, rfl⟩
  rw [hKS] at HR HX b4 hv_at hkl
  rw [hkd] at HR b0
  have HB := Lib.hid (And.intro b0 b4)
  clear HX0 hR hE hblk hna
  go_enter Tryd.func20, Tryd.ntmps20
  simp only [hKS, hkd] at hwb ⊢
  go_wp2_with fail
  go_loopw [3] (fun t wr => ∃ i : Nat, t = .int .i64 i ∧ i ≤ KS.length ∧ Ext wb wr ∧ Hid ((decide (kd < 0) || (KS.drop i).any negN) = R)) (fun t _ => downV KS.length t)
  case atStart => exact ⟨0, rfl, Nat.zero_le _, Ext.refl _, HR⟩
  case round =>
    obtain ⟨i, rfl, hi, hX, HI⟩ := hrel
    have hi0 : (0 : Int) ≤ (i : Int) := by omega
    have hi12 : (i : Int) ≤ 1000000000000 := by omega
    have k0 := hX.keep hbl HB.out.1; have k4 := hX.keep hbl HB.out.2
    by_cases hlt : i < KS.length
    · have hlI : (i : Int) < (KS.length : Int) := by omega
      obtain ⟨gd, od, ku, nu, hgd, lgd, _, d0, d1, d2, d3, d4, hku, hnu⟩ := hv_at i hlt
      subst hgd
      obtain ⟨ya, yc, rfl, _, _⟩ := hku.count z_attr (by omega)
      obtain ⟨za, zc, rfl, _, _⟩ := hnu.count z_node (by omega)
      have n0 := hX.keep lgd d0; have n1 := hX.keep lgd d1; have n2 := hX.keep lgd d2; have n3 := hX.keep lgd d3; have n4 := hX.keep lgd d4
      have HON := Lib.hid (HX.out KS[i] (List.getElem_mem hlt) wr _ _ (hku.ext hX) (hnu.ext hX))
      have hS : (decide (kd < 0) || (negN KS[i] || (KS.drop (i + 1)).any negN)) = R := by have h := HI.out; rw [drop_one KS i hlt, List.any_cons] at h; exact h
      obtain ⟨y, hy⟩ : ∃ y, KS[i] = y := ⟨_, rfl⟩
      rw [hy] at HON hS n0 n1 n2 n3 n4
      obtain ⟨B, hB⟩ : ∃ B, negN y = B := ⟨_, rfl⟩
      rw [hB] at HON hS
      have HS := Lib.hid hS
      clear hy hB hS d0 d1 d2 d3 d4 hku hnu HI
      go_wp2_with fail
      refine HON.out.mono ?_
      rintro e w3 ⟨rfl, hX3⟩
      have HXX := Lib.hid (hX.trans hX3)
      clear HON
      cases B with
      | true =>
        have HRT : Hid (R = true) := Lib.hid (by rw [← HS.out]; simp)
        go_wp2_with fail
        go_ret
        exact ⟨by rw [HRT.out]; rfl, HE.out.trans HXX.out⟩
      | false =>
        have HN : Hid ((decide (kd < 0) || (KS.drop (i + 1)).any negN) = R) := Lib.hid (by rw [← HS.out, Bool.false_or])
        clear HS
        go_wp2_with fail
        go_roundw
        case rel => exact ⟨i + 1, by go_num, by omega, HXX.out, HN⟩
        case measure => simp only [downV]; omega
    · have hlI : ¬ (i : Int) < (KS.length : Int) := by omega
      have HN : Hid (decide (kd < 0) = R) := Lib.hid (by have h := HI.out; rw [List.drop_of_length_le (by omega), List.any_nil, Bool.or_false] at h; exact h)
      by_cases hk0 : 0 ≤ kd
      · have HRF : Hid (R = false) := Lib.hid (by rw [← HN.out]; exact decide_eq_false (by omega))
        go_wp2_with fail
        go_ret
        exact ⟨by rw [HRF.out]; rfl, HE.out.trans hX⟩
      · have HRT : Hid (R = true) := Lib.hid (by rw [← HN.out]; exact decide_eq_true (by omega))
        have hkI : ¬ (0 : Int) ≤ kd := hk0
        go_wp2_with fail
        go_ret
        exact ⟨by rw [HRT.out]; rfl, HE.out.trans hX⟩
theorem whole_any : ∀ (N : Nat) (x : Node), nsz x ≤ N → rngN x = true → ∀ (p : Nat → Prop) (W : World) (va vk : Value), Rep W p va (attrsD x.attrs) → Rep W p vk (nodesD x.kids) → Calls Tryd.prog 20 #[.agg #[.int .i64 x.kind, .string (bs x.name), .string (bs x.text), va, vk]] W fun e w' => e = .returned (.bool (!negN x)) ∧ Ext W w'
  | 0, x, h, _ => by cases x; rw [nsz] at h; omega
  | N + 1, x, h, hok => fun p W va vk hva hvk => by
    obtain ⟨ka, kc, rfl, _, _⟩ := hva.count z_attr (by omega)
    obtain ⟨na, nc, rfl, _, _⟩ := hvk.count z_node (by omega)
    refine whole_step W x p ka na kc nc hvk (rngN_own hok).1 fun y hy W va vk h1 h2 => ?_
    obtain ⟨i, hi', e⟩ := List.getElem_of_mem hy
    have := kid_lt x i hi'
    exact whole_any N y (by rw [← e]; omega) ((rngN_own hok).2 y hy) p W va vk h1 h2

end Go.Proofs.YtghhachbnhldoaaDoor
