/-
  The writer's texts and lists of texts. Helper lemmas; no statement of the seat is proved here.
-/
import Derived.Test.YtghhachbnhldoaaDoorC1
namespace Go.Proofs.YtghhachbnhldoaaDoor
open Go.RowKit
set_option maxRecDepth 100000
set_option linter.unusedVariables false
set_option linter.unusedSimpArgs false

/-- What a function of the writer leaves. -/
def WPost (w0 W : World) (E : Bytes) (b : Bool) (e : Ending) (w' : World) : Prop := (∃ u, e = .returned u) ∧ WS w0 w' E b ∧ WK w0 W w'
def txtB (s : Bytes) : Bytes := numB s.length ++ s
def txtsB (l : List Bytes) : Bytes := numB l.length ++ l.flatMap txtB
def attrB (a : Attr) : Bytes := txtB a.n ++ txtB a.v
def attrsB (l : List Attr) : Bytes := numB l.length ++ l.flatMap attrB
def stepB' (s : Step) : Bytes := txtB s.n ++ txtsB s.key
def stepsB' (l : List Step) : Bytes := numB l.length ++ l.flatMap stepB'
theorem numF_pos : ∀ (k n : Nat), 0 < (numF k n).length
  | 0, n => by simp [numF]
  | k + 1, n => by rw [numF]; split <;> simp
theorem numB_pos (n : Nat) : 0 < (numB n).length := numF_pos 9 n
theorem txtB_pos (s : Bytes) : 0 < (txtB s).length := by unfold txtB; rw [List.length_append]; have := numB_pos s.length; omega
theorem attrB_pos (a : Attr) : 0 < (attrB a).length := by unfold attrB; rw [List.length_append]; have := txtB_pos a.n; omega
theorem stepB'_pos (a : Step) : 0 < (stepB' a).length := by unfold stepB'; rw [List.length_append]; have := txtB_pos a.n; omega
theorem flat_le {α : Type} (f : α → Bytes) (h : ∀ x, 0 < (f x).length) : ∀ l : List α, l.length ≤ (l.flatMap f).length
  | [] => Nat.zero_le _
  | x :: r => by rw [List.flatMap_cons, List.length_append, List.length_cons]; have := h x; have := flat_le f h r; omega
theorem wcnt_any (w0 W : World) (L : Bytes) (bad : Bool) (n : Nat) (hL : (L ++ numB n).length ≤ 1000000000000) (hn : n ≤ 1000000000000) (h : WS w0 W L bad) :
    Calls Tryd.prog 41 #[.pointer (some ⟨w0.heap.size, 0, none⟩), .int .i64 n] W (WPost w0 W (L ++ numB n) bad) := by
  have hc := wnum_any w0 W L bad n (by rw [List.length_append] at hL; omega) h
  rw [show ((n : Int) % 18446744073709551616).toNat = n by omega, decide_eq_false (by omega), Bool.or_false] at hc
  exact hc
set_option maxHeartbeats 8000000 in
theorem wtext_any (w0 W : World) (L : Bytes) (bad : Bool) (s : Bytes) (hR : (L ++ txtB s).length ≤ 1000000000000) (h : WS w0 W L bad) :
    Calls Tryd.prog 65 #[.pointer (some ⟨w0.heap.size, 0, none⟩), .string (bs s)] W (WPost w0 W (L ++ txtB s) bad) := by
  have hs : s.length ≤ 1000000000000 := by unfold txtB at hR; rw [List.length_append, List.length_append] at hR; omega
  have hR2 : (L ++ numB s.length).length ≤ 1000000000000 := by unfold txtB at hR; rw [← List.append_assoc, List.length_append] at hR; omega
  have hsz : (bs s).size = s.length := bs_size s
  have HC := Lib.hid (wcnt_any w0 W L bad s.length hR2 hs h)
  clear h hR
  go_enter Tryd.func65, Tryd.ntmps65
  go_wp2_with fail
  refine HC.out.mono ?_
  rintro e w1 ⟨⟨u, rfl⟩, hS1, hK1⟩
  obtain ⟨dv, hd, hown⟩ := hS1.row
  have f0 := hS1.f0
  have hlt := hS1.lt
  have HO := Lib.hid (And.intro hd (And.intro hown (And.intro hS1 hK1)))
  clear hS1 hK1 HC hown
  go_wp2_with (at_builtin; refine wpList_app_str rfl (.tmp 12) (.tmp 13) rfl (w0.heap.size + 1) dv (L ++ numB s.length).length (rowB (L ++ numB s.length)) rfl HO.out.2.1 (bs s) rfl (by omega) (by omega) ?_; intro v2 w5 hown5 hgrow5 hat5; obtain ⟨va, vc, rfl⟩ := own_slice hown5; have k0 := (HO.out.2.2.1.mid (Ext.refl _) HO.out.1 HO.out.2.1 hgrow5).1; have k1 := (HO.out.2.2.1.mid (Ext.refl _) HO.out.1 HO.out.2.1 hgrow5).2)
  refine bodyPost_end (results_none rfl _ _ _) rfl ?_
  have h3 := HO.out.2.2.1.put (Ext.refl _) HO.out.1 (L' := L ++ txtB s) hown5 (by rw [hsz]; unfold txtB; simp [Nat.add_assoc]) (by rw [strCells_bs, ← rowB_app, List.append_assoc]; rfl) hgrow5
  exact ⟨⟨_, rfl⟩, by simpa [hsz] using h3, HO.out.2.2.2.trans (by simpa [hsz] using HO.out.2.2.1.putK (Ext.refl _) HO.out.1 HO.out.2.1 hgrow5 hat5)⟩
set_option maxHeartbeats 8000000 in
theorem wtexts_any (w0 W : World) (L : Bytes) (bad : Bool) (l : List Bytes) (p : Nat → Prop) (v : Value) (h : WS w0 W L bad) (hv : Rep w0 p v (strsD l)) (hR : (L ++ txtsB l).length ≤ 1000000000000) :
    Calls Tryd.prog 66 #[.pointer (some ⟨w0.heap.size, 0, none⟩), v, .func (.func 65) #[.pointer (some ⟨w0.heap.size, 0, none⟩)] #[]] W (WPost w0 W (L ++ txtsB l) bad) := by
  obtain ⟨a, c, rfl, _, _⟩ := hv.count z_str (by omega)
  obtain ⟨R, hRR⟩ : ∃ R, L ++ txtsB l = R := ⟨_, rfl⟩
  rw [hRR] at hR ⊢
  have hll : l.length ≤ 1000000000000 := by
    have h1 := flat_le txtB txtB_pos l
    rw [← hRR, List.length_append] at hR
    have : txtsB l = numB l.length ++ l.flatMap txtB := rfl
    rw [this, List.length_append] at hR; omega
  obtain ⟨B, hB⟩ : ∃ B, bad = B := ⟨_, rfl⟩
  rw [hB]
  have hL : (L ++ numB l.length).length ≤ 1000000000000 := by
    rw [← hRR] at hR
    have : txtsB l = numB l.length ++ l.flatMap txtB := rfl
    rw [this, ← List.append_assoc, List.length_append] at hR; omega
  have HC := Lib.hid (wcnt_any w0 W L bad l.length hL hll h)
  have HRR := Lib.hid (show (L ++ numB l.length) ++ (l.drop 0).flatMap txtB = R ∧ bad = B from ⟨by rw [← hRR, List.append_assoc]; rfl, hB⟩)
  clear hRR hB h hL
  have hv_at := fun i (hi : i < l.length) => str_at hv i hi
  go_enter Tryd.func66, Tryd.ntmps66
  go_wp2_with fail
  refine HC.out.mono ?_
  rintro e w1 ⟨⟨u, rfl⟩, hS1, hK1⟩
  have H1 := Lib.hid (And.intro hS1 hK1)
  clear hS1 hK1 HC
  go_wp2_with fail
  go_loopw [7, 14] (fun _ t wr => ∃ (i : Nat) (L' : Bytes) (bad' : Bool), t = .int .i64 i ∧ i ≤ l.length ∧ Hid (WS w0 wr L' bad' ∧ L' ++ (l.drop i).flatMap txtB = R ∧ bad' = B ∧ WK w0 W wr)) (fun _ t _ => downV l.length t)
  case atStart => exact ⟨0, _, bad, rfl, Nat.zero_le _, Lib.hid ⟨H1.out.1, HRR.out.1, HRR.out.2, H1.out.2⟩⟩
  case round =>
    obtain ⟨i, L', bad', rfl, hi, HH⟩ := hrel
    clear HRR H1
    have hi0 : (0 : Int) ≤ (i : Int) := by omega
    have hi12 : (i : Int) ≤ 1000000000000 := by omega
    by_cases hlt : i < l.length
    · have hlI : (i : Int) < (l.length : Int) := by omega
      obtain ⟨gd, od, hgd, lgd, _, d0⟩ := hv_at i hlt
      subst hgd
      have hX := HH.out.1.ext
      have hwl := HH.out.1.lt
      have hS : (L' ++ txtB l[i]) ++ (l.drop (i + 1)).flatMap txtB = R := by
        have h := HH.out.2.1
        rw [drop_one l i hlt, List.flatMap_cons, ← List.append_assoc] at h; exact h
      have hSl : (L' ++ txtB l[i]).length ≤ 1000000000000 := by rw [← hS, List.length_append] at hR; omega
      have hN : bad' = B := HH.out.2.2.1
      have n0 := hX.keep lgd d0
      have HON := Lib.hid fun W1 (hE1 : Ext wr W1) => wtext_any w0 W1 L' bad' l[i] hSl (HH.out.1.step hE1)
      obtain ⟨x, hx⟩ : ∃ x, l[i] = x := ⟨_, rfl⟩
      rw [hx] at hS hSl HON n0
      have HS := Lib.hid (And.intro hS hN)
      clear hx hS hSl hN
      have hE1 : Ext wr (wr) := Ext.refl _
      go_wp2_with fail
      refine (HON.out _ hE1).mono ?_
      rintro e w3 ⟨⟨u, rfl⟩, hS3, hK3⟩
      have H3 := Lib.hid (And.intro hS3 (HH.out.2.2.2.trans ((WK.ext hwl hE1).trans hK3)))
      clear hS3 hK3 HON
      go_wp2_with fail
      go_roundw
      case rel => exact ⟨i + 1, _, _, by go_num, by omega, Lib.hid ⟨H3.out.1, HS.out.1, HS.out.2, H3.out.2⟩⟩
      case measure => simp only [downV]; omega
    · have hlI : ¬ (i : Int) < (l.length : Int) := by omega
      have hF : WPost w0 W R B (.returned (.tuple #[])) wr := by
        obtain ⟨h1, h2, h3, h4⟩ := HH.out
        rw [List.drop_of_length_le (by omega)] at h2
        simp only [List.flatMap_nil, List.append_nil, List.any_nil, Bool.or_false] at h2
        rw [← h2, ← h3]
        exact ⟨⟨_, rfl⟩, h1, h4⟩
      have HF := Lib.hid hF
      clear hF HH
      go_wp2_with fail
      exact bodyPost_end (results_none rfl _ _ _) rfl HF.out

end Go.Proofs.YtghhachbnhldoaaDoor
