/-
  The writer's attributes and steps. Helper lemmas; no statement of the seat is proved here.
-/
import Derived.Test.YtghhachbnhldoaaDoorC2
namespace Go.Proofs.YtghhachbnhldoaaDoor
open Go.RowKit
set_option maxRecDepth 100000
set_option linter.unusedVariables false
set_option linter.unusedSimpArgs false

set_option maxHeartbeats 8000000 in
theorem wattr_any (w0 W : World) (L : Bytes) (bad : Bool) (x : Attr) (h : WS w0 W L bad) (hR : (L ++ attrB x).length ≤ 1000000000000) :
    Calls Tryd.prog 47 #[.pointer (some ⟨w0.heap.size, 0, none⟩), .agg #[.string (bs x.n), .string (bs x.v)]] W (WPost w0 W (L ++ attrB x) bad) := by
  obtain ⟨wb, hwb⟩ : ∃ wb, W.alloc (.cells #[.string (bs x.n), .string (bs x.v)] 101) = wb := ⟨_, rfl⟩
  have hEb : Ext W wb := by rw [← hwb]; exact (Ext.refl W).alloc _
  have hblk : wb.heap[W.heap.size]? = some (.cells [.string (bs x.n), .string (bs x.v)].toArray 101 (0, 0)) := by rw [← hwb]; exact Array.getElem?_push_size
  have hS0 := h.step hEb
  have hK0 := WK.ext h.lt hEb
  have hF0 : Fz w0 wb W.heap.size := by
    refine ⟨by have := h.lt; omega, fun dv hd e => ?_⟩
    obtain ⟨dv', h1, h2⟩ := h.row
    rw [(hEb.keep h.lt h1)] at hd
    obtain rfl := Option.some.inj hd
    have := (h2.lt _ e.symm).2
    omega
  have HK := Lib.hid (And.intro hK0 (And.intro hblk hF0))
  have HS := Lib.hid hS0
  have hl : L.length + ((txtB (x.n)).length + (txtB (x.v)).length) ≤ 1000000000000 := by
    unfold attrB at hR
    simp only [List.length_append] at hR; omega
  have b0 := blk_cells hblk 0 rfl
  have b1 := blk_cells hblk 1 rfl
  clear hS0 hK0 hF0 hblk hEb
  go_enter Tryd.func47, Tryd.ntmps47
  go_wp2_with fail
  have HC := Lib.hid (wtext_any w0 wb (L) (bad) (x.n) (by simp only [List.length_append]; omega) HS.out)
  refine HC.out.mono ?_
  rintro e w1 ⟨⟨u, rfl⟩, hSn, hKn⟩
  clear b0 b1
  have hk := HK.out.2.2
  have hk2 := hKn.keep _ (blk_lt HK.out.2.1) hk
  have hblk := hk2.1.trans HK.out.2.1
  have HK2 := Lib.hid (And.intro (HK.out.1.trans hKn) (And.intro hblk hk2.2))
  have HS2 := Lib.hid hSn
  have b0 := blk_cells hblk 0 rfl
  have b1 := blk_cells hblk 1 rfl
  clear hk hk2 hblk hSn hKn HC HK HS
  have HK := HK2
  have HS := HS2
  clear HK2 HS2
  go_wp2_with fail
  have HC := Lib.hid (wtext_any w0 w1 (L ++ txtB (x.n)) (bad) (x.v) (by simp only [List.length_append]; omega) HS.out)
  refine HC.out.mono ?_
  rintro e w2 ⟨⟨u, rfl⟩, hSn, hKn⟩
  clear b0 b1
  have hk := HK.out.2.2
  have hk2 := hKn.keep _ (blk_lt HK.out.2.1) hk
  have hblk := hk2.1.trans HK.out.2.1
  have HK2 := Lib.hid (And.intro (HK.out.1.trans hKn) (And.intro hblk hk2.2))
  have HS2 := Lib.hid hSn
  have b0 := blk_cells hblk 0 rfl
  have b1 := blk_cells hblk 1 rfl
  clear hk hk2 hblk hSn hKn HC HK HS
  have HK := HK2
  have HS := HS2
  clear HK2 HS2
  go_wp2_with fail
  refine bodyPost_end (results_none rfl _ _ _) rfl ?_
  have hf := HS.out
  rw [show (L ++ txtB (x.n)) ++ txtB (x.v) = L ++ attrB x by unfold attrB; simp only [List.append_assoc]] at hf
  exact ⟨⟨_, rfl⟩, hf, HK.out.1⟩
set_option maxHeartbeats 8000000 in
theorem wattrs_any (w0 W : World) (L : Bytes) (bad : Bool) (l : List Attr) (p : Nat → Prop) (v : Value) (h : WS w0 W L bad) (hv : Rep w0 p v (attrsD l)) (hR : (L ++ attrsB l).length ≤ 1000000000000) :
    Calls Tryd.prog 46 #[.pointer (some ⟨w0.heap.size, 0, none⟩), v, .func (.func 47) #[.pointer (some ⟨w0.heap.size, 0, none⟩)] #[]] W (WPost w0 W (L ++ attrsB l) bad) := by
  obtain ⟨a, c, rfl, _, _⟩ := hv.count z_attr (by omega)
  obtain ⟨R, hRR⟩ : ∃ R, L ++ attrsB l = R := ⟨_, rfl⟩
  rw [hRR] at hR ⊢
  have hll : l.length ≤ 1000000000000 := by
    have h1 := flat_le attrB attrB_pos l
    rw [← hRR, List.length_append] at hR
    have : attrsB l = numB l.length ++ l.flatMap attrB := rfl
    rw [this, List.length_append] at hR; omega
  obtain ⟨B, hB⟩ : ∃ B, bad = B := ⟨_, rfl⟩
  rw [hB]
  have hL : (L ++ numB l.length).length ≤ 1000000000000 := by
    rw [← hRR] at hR
    have : attrsB l = numB l.length ++ l.flatMap attrB := rfl
    rw [this, ← List.append_assoc, List.length_append] at hR; omega
  have HC := Lib.hid (wcnt_any w0 W L bad l.length hL hll h)
  have HRR := Lib.hid (show (L ++ numB l.length) ++ (l.drop 0).flatMap attrB = R ∧ bad = B from ⟨by rw [← hRR, List.append_assoc]; rfl, hB⟩)
  clear hRR hB h hL
  have hv_at := fun i (hi : i < l.length) => attr_at hv i hi
  go_enter Tryd.func46, Tryd.ntmps46
  go_wp2_with fail
  refine HC.out.mono ?_
  rintro e w1 ⟨⟨u, rfl⟩, hS1, hK1⟩
  have H1 := Lib.hid (And.intro hS1 hK1)
  clear hS1 hK1 HC
  go_wp2_with fail
  go_loopw [7, 14] (fun _ t wr => ∃ (i : Nat) (L' : Bytes) (bad' : Bool), t = .int .i64 i ∧ i ≤ l.length ∧ Hid (WS w0 wr L' bad' ∧ L' ++ (l.drop i).flatMap attrB = R ∧ bad' = B ∧ WK w0 W wr)) (fun _ t _ => downV l.length t)
  case atStart => exact ⟨0, _, bad, rfl, Nat.zero_le _, Lib.hid ⟨H1.out.1, HRR.out.1, HRR.out.2, H1.out.2⟩⟩
  case round =>
    obtain ⟨i, L', bad', rfl, hi, HH⟩ := hrel
    clear HRR H1
    have hi0 : (0 : Int) ≤ (i : Int) := by omega
    have hi12 : (i : Int) ≤ 1000000000000 := by omega
    by_cases hlt : i < l.length
    · have hlI : (i : Int) < (l.length : Int) := by omega
      obtain ⟨gd, od, hgd, lgd, _, d0, d1⟩ := hv_at i hlt
      subst hgd
      have hX := HH.out.1.ext
      have hwl := HH.out.1.lt
      have hS : (L' ++ attrB l[i]) ++ (l.drop (i + 1)).flatMap attrB = R := by
        have h := HH.out.2.1
        rw [drop_one l i hlt, List.flatMap_cons, ← List.append_assoc] at h; exact h
      have hSl : (L' ++ attrB l[i]).length ≤ 1000000000000 := by rw [← hS, List.length_append] at hR; omega
      have hN : bad' = B := HH.out.2.2.1
      have n0 := hX.keep lgd d0
      have n1 := hX.keep lgd d1
      have HON := Lib.hid fun W1 (hE1 : Ext wr W1) => wattr_any w0 W1 L' bad' l[i] (HH.out.1.step hE1) hSl
      obtain ⟨x, hx⟩ : ∃ x, l[i] = x := ⟨_, rfl⟩
      rw [hx] at hS hSl HON n0 n1
      have HS := Lib.hid (And.intro hS hN)
      clear hx hS hSl hN
      have hE1 : Ext wr (wr.alloc (.cells #[.string (bs x.n), .string (bs x.v)] 101)) := (Ext.refl wr).alloc _
      go_wp2_with fail
      refine (HON.out _ hE1).mono ?_
      rintro e w3 ⟨⟨u, rfl⟩, hS3, hK3⟩
      have H3 := Lib.hid (And.intro hS3 (HH.out.2.2.2.trans ((WK.ext hwl hE1).trans hK3)))
      clear hS3 hK3 HON
      go_wp2_with fail
      go_roundw
      case rel => exact ⟨i + 1, _, _, by go_num, by omega, Lib.hid ⟨H3.out.1, HS.out.1, HS.out.2, H3.out.2⟩⟩
      case measure => simp only [downV]; omega
    · have hlI : ¬ (i : Int) < (l.length : Int) := by omega
      have hF : WPost w0 W R B (.returned (.tuple #[])) wr := by
        obtain ⟨h1, h2, h3, h4⟩ := HH.out
        rw [List.drop_of_length_le (by omega)] at h2
        simp only [List.flatMap_nil, List.append_nil, List.any_nil, Bool.or_false] at h2
        rw [← h2, ← h3]
        exact ⟨⟨_, rfl⟩, h1, h4⟩
      have HF := Lib.hid hF
      clear hF HH
      go_wp2_with fail
      exact bodyPost_end (results_none rfl _ _ _) rfl HF.out
set_option maxHeartbeats 8000000 in
theorem wstep_any (w0 W : World) (L : Bytes) (bad : Bool) (x : Step) (p : Nat → Prop) (ka : Option Addr) (kc : Nat) (hk0 : Rep w0 p (.slice ka x.key.length kc) (strsD x.key)) (h : WS w0 W L bad) (hR : (L ++ stepB' x).length ≤ 1000000000000) :
    Calls Tryd.prog 45 #[.pointer (some ⟨w0.heap.size, 0, none⟩), .agg #[.string (bs x.n), .slice ka x.key.length kc]] W (WPost w0 W (L ++ stepB' x) bad) := by
  obtain ⟨wb, hwb⟩ : ∃ wb, W.alloc (.cells #[.string (bs x.n), .slice ka x.key.length kc] 47) = wb := ⟨_, rfl⟩
  have hEb : Ext W wb := by rw [← hwb]; exact (Ext.refl W).alloc _
  have hblk : wb.heap[W.heap.size]? = some (.cells [.string (bs x.n), .slice ka x.key.length kc].toArray 47 (0, 0)) := by rw [← hwb]; exact Array.getElem?_push_size
  have hS0 := h.step hEb
  have hK0 := WK.ext h.lt hEb
  have hF0 : Fz w0 wb W.heap.size := by
    refine ⟨by have := h.lt; omega, fun dv hd e => ?_⟩
    obtain ⟨dv', h1, h2⟩ := h.row
    rw [(hEb.keep h.lt h1)] at hd
    obtain rfl := Option.some.inj hd
    have := (h2.lt _ e.symm).2
    omega
  have HK := Lib.hid (And.intro hK0 (And.intro hblk hF0))
  have HS := Lib.hid hS0
  have hl : L.length + ((txtB (x.n)).length + (txtsB x.key).length) ≤ 1000000000000 := by
    unfold stepB' at hR
    simp only [List.length_append] at hR; omega
  have b0 := blk_cells hblk 0 rfl
  have b1 := blk_cells hblk 1 rfl
  clear hS0 hK0 hF0 hblk hEb
  go_enter Tryd.func45, Tryd.ntmps45
  go_wp2_with fail
  have HC := Lib.hid (wtext_any w0 wb (L) (bad) (x.n) (by simp only [List.length_append]; omega) HS.out)
  refine HC.out.mono ?_
  rintro e w1 ⟨⟨u, rfl⟩, hSn, hKn⟩
  clear b0 b1
  have hk := HK.out.2.2
  have hk2 := hKn.keep _ (blk_lt HK.out.2.1) hk
  have hblk := hk2.1.trans HK.out.2.1
  have HK2 := Lib.hid (And.intro (HK.out.1.trans hKn) (And.intro hblk hk2.2))
  have HS2 := Lib.hid hSn
  have b0 := blk_cells hblk 0 rfl
  have b1 := blk_cells hblk 1 rfl
  clear hk hk2 hblk hSn hKn HC HK HS
  have HK := HK2
  have HS := HS2
  clear HK2 HS2
  go_wp2_with fail
  have HC := Lib.hid (wtexts_any w0 w1 (L ++ txtB (x.n)) (bad) x.key p _ HS.out hk0 (by simp only [List.length_append]; omega))
  refine HC.out.mono ?_
  rintro e w2 ⟨⟨u, rfl⟩, hSn, hKn⟩
  clear b0 b1
  have hk := HK.out.2.2
  have hk2 := hKn.keep _ (blk_lt HK.out.2.1) hk
  have hblk := hk2.1.trans HK.out.2.1
  have HK2 := Lib.hid (And.intro (HK.out.1.trans hKn) (And.intro hblk hk2.2))
  have HS2 := Lib.hid hSn
  have b0 := blk_cells hblk 0 rfl
  have b1 := blk_cells hblk 1 rfl
  clear hk hk2 hblk hSn hKn HC HK HS
  have HK := HK2
  have HS := HS2
  clear HK2 HS2
  go_wp2_with fail
  refine bodyPost_end (results_none rfl _ _ _) rfl ?_
  have hf := HS.out
  rw [show (L ++ txtB (x.n)) ++ txtsB x.key = L ++ stepB' x by unfold stepB'; simp only [List.append_assoc]] at hf
  exact ⟨⟨_, rfl⟩, hf, HK.out.1⟩
set_option maxHeartbeats 8000000 in
theorem wsteps_any (w0 W : World) (L : Bytes) (bad : Bool) (l : List Step) (p : Nat → Prop) (v : Value) (h : WS w0 W L bad) (hv : Rep w0 p v (stepsD l)) (hR : (L ++ stepsB' l).length ≤ 1000000000000) :
    Calls Tryd.prog 44 #[.pointer (some ⟨w0.heap.size, 0, none⟩), v, .func (.func 45) #[.pointer (some ⟨w0.heap.size, 0, none⟩)] #[]] W (WPost w0 W (L ++ stepsB' l) bad) := by
  obtain ⟨a, c, rfl, _, _⟩ := hv.count z_step (by omega)
  obtain ⟨R, hRR⟩ : ∃ R, L ++ stepsB' l = R := ⟨_, rfl⟩
  rw [hRR] at hR ⊢
  have hll : l.length ≤ 1000000000000 := by
    have h1 := flat_le stepB' stepB'_pos l
    rw [← hRR, List.length_append] at hR
    have : stepsB' l = numB l.length ++ l.flatMap stepB' := rfl
    rw [this, List.length_append] at hR; omega
  obtain ⟨B, hB⟩ : ∃ B, bad = B := ⟨_, rfl⟩
  rw [hB]
  have hL : (L ++ numB l.length).length ≤ 1000000000000 := by
    rw [← hRR] at hR
    have : stepsB' l = numB l.length ++ l.flatMap stepB' := rfl
    rw [this, ← List.append_assoc, List.length_append] at hR; omega
  have HC := Lib.hid (wcnt_any w0 W L bad l.length hL hll h)
  have HRR := Lib.hid (show (L ++ numB l.length) ++ (l.drop 0).flatMap stepB' = R ∧ bad = B from ⟨by rw [← hRR, List.append_assoc]; rfl, hB⟩)
  clear hRR hB h hL
  have hv_at := fun i (hi : i < l.length) => step_at hv i hi
  go_enter Tryd.func44, Tryd.ntmps44
  go_wp2_with fail
  refine HC.out.mono ?_
  rintro e w1 ⟨⟨u, rfl⟩, hS1, hK1⟩
  have H1 := Lib.hid (And.intro hS1 hK1)
  clear hS1 hK1 HC
  go_wp2_with fail
  go_loopw [7, 14] (fun _ t wr => ∃ (i : Nat) (L' : Bytes) (bad' : Bool), t = .int .i64 i ∧ i ≤ l.length ∧ Hid (WS w0 wr L' bad' ∧ L' ++ (l.drop i).flatMap stepB' = R ∧ bad' = B ∧ WK w0 W wr)) (fun _ t _ => downV l.length t)
  case atStart => exact ⟨0, _, bad, rfl, Nat.zero_le _, Lib.hid ⟨H1.out.1, HRR.out.1, HRR.out.2, H1.out.2⟩⟩
  case round =>
    obtain ⟨i, L', bad', rfl, hi, HH⟩ := hrel
    clear HRR H1
    have hi0 : (0 : Int) ≤ (i : Int) := by omega
    have hi12 : (i : Int) ≤ 1000000000000 := by omega
    by_cases hlt : i < l.length
    · have hlI : (i : Int) < (l.length : Int) := by omega
      obtain ⟨gd, od, ku, hgd, lgd, _, d0, d1, hku⟩ := hv_at i hlt
      subst hgd
      have hX := HH.out.1.ext
      have hwl := HH.out.1.lt
      have hS : (L' ++ stepB' l[i]) ++ (l.drop (i + 1)).flatMap stepB' = R := by
        have h := HH.out.2.1
        rw [drop_one l i hlt, List.flatMap_cons, ← List.append_assoc] at h; exact h
      have hSl : (L' ++ stepB' l[i]).length ≤ 1000000000000 := by rw [← hS, List.length_append] at hR; omega
      have hN : bad' = B := HH.out.2.2.1
      obtain ⟨ka, kc, rfl, _, _⟩ := hku.count z_str (by omega)
      have n0 := hX.keep lgd d0
      have n1 := hX.keep lgd d1
      have HON := Lib.hid fun W1 (hE1 : Ext wr W1) => wstep_any w0 W1 L' bad' l[i] p ka kc hku (HH.out.1.step hE1) hSl
      obtain ⟨x, hx⟩ : ∃ x, l[i] = x := ⟨_, rfl⟩
      rw [hx] at hS hSl HON n0 n1 hku
      have HS := Lib.hid (And.intro hS hN)
      clear hx hS hSl hN
      have hE1 : Ext wr (wr.alloc (.cells #[.string (bs x.n), .slice ka x.key.length kc] 47)) := (Ext.refl wr).alloc _
      go_wp2_with fail
      refine (HON.out _ hE1).mono ?_
      rintro e w3 ⟨⟨u, rfl⟩, hS3, hK3⟩
      have H3 := Lib.hid (And.intro hS3 (HH.out.2.2.2.trans ((WK.ext hwl hE1).trans hK3)))
      clear hS3 hK3 HON
      go_wp2_with fail
      go_roundw
      case rel => exact ⟨i + 1, _, _, by go_num, by omega, Lib.hid ⟨H3.out.1, HS.out.1, HS.out.2, H3.out.2⟩⟩
      case measure => simp only [downV]; omega
    · have hlI : ¬ (i : Int) < (l.length : Int) := by omega
      have hF : WPost w0 W R B (.returned (.tuple #[])) wr := by
        obtain ⟨h1, h2, h3, h4⟩ := HH.out
        rw [List.drop_of_length_le (by omega)] at h2
        simp only [List.flatMap_nil, List.append_nil, List.any_nil, Bool.or_false] at h2
        rw [← h2, ← h3]
        exact ⟨⟨_, rfl⟩, h1, h4⟩
      have HF := Lib.hid hF
      clear hF HH
      go_wp2_with fail
      exact bodyPost_end (results_none rfl _ _ _) rfl HF.out

end Go.Proofs.YtghhachbnhldoaaDoor
