/-
  recensionref23.Fair of nodes. Helper lemmas; no statement of the seat is proved here.
-/
import Derived.Test.YtmmopcceabdecaaGreatDoorV7
namespace Go.Proofs.YtmmopcceabdecaaGreatDoor
open Go.RowKit Go.Shelf
set_option maxRecDepth 100000
set_option linter.unusedVariables false
set_option linter.unusedSimpArgs false

def SomeB (e : Ending) : Prop := ∃ B, e = .returned (.bool B)
set_option maxHeartbeats 4000000 in
theorem ints_same (ns : List Int) (q : Nat → Prop) (nv : Value) (w : World) (hns : ns.length ≤ 1000) (hn : Rep w q nv (numsD .i64 ns)) :
    Calls Tryz.prog 32 #[nv, nv] w fun e w' => e = .returned (.bool true) ∧ Dr w w' := by
  obtain ⟨na, nc, rfl, _, _⟩ := hn.count (z_num .i64) (by omega)
  have hl1 : ((ns.length : Int) != (ns.length : Int)) = false := bne_self_eq_false _
  go_enter Tryz.func32, Tryz.ntmps32
  go_wp2_with fail
  go_loopw [5] (fun t wr => ∃ i : Nat, t = .int .i64 i ∧ i ≤ ns.length ∧ Dr w wr) (fun t _ => downV ns.length t)
  case atStart => exact ⟨0, rfl, Nat.zero_le _, Dr.refl _⟩
  case round =>
    obtain ⟨i, rfl, hi, hX⟩ := hrel
    have hi0 : (0 : Int) ≤ (i : Int) := by omega
    by_cases hlt : i < ns.length
    · have hlI : (i : Int) < (ns.length : Int) := by omega
      obtain ⟨b, off, rfl, lb, d0⟩ := num_at (hn.ext hX.ext) i hlt
      obtain ⟨x, hx⟩ : ∃ x, ns[i] = x := ⟨_, rfl⟩
      rw [hx] at d0
      have hxx : (x != x) = false := bne_self_eq_false _
      have HX := Lib.hid hX
      clear hx hX
      go_wp2_with fail
      go_big_quiet (fail)
      go_wp2_with fail
      go_roundw
      case rel => exact ⟨i + 1, by go_num, by omega, HX.out.drewN _⟩
      case measure => simp only [downV]; omega
    · have hlI : ¬ (i : Int) < (ns.length : Int) := by omega
      go_wp2_with fail
      go_ret
      exact ⟨rfl, hX⟩
theorem odd_some (nan : Bool) (v : Int) (w : World) : Calls Tryz.prog 20 #[.agg #[.bool nan, .int .i64 v]] w fun e w' => SomeB e ∧ Ext w w' := by
  go_enter Tryz.func20, Tryz.ntmps20
  cases nan <;> by_cases h1 : v > 1000000000000000 <;> by_cases h2 : v < -1000000000000000 <;> go_wp2_with fail
  all_goals (first | (exfalso; omega) | (go_ret; exact ⟨⟨_, rfl⟩, (Ext.refl _).alloc _⟩))
set_option maxHeartbeats 4000000 in
theorem same_some (k : Int) (ns : List Int) (q : Nat → Prop) (nv : Value) (bo bo' nan nan' : Bool) (v v' : Int) (t t' : ByteArray) (w : World) (hns : ns.length ≤ 1000) (hn : Rep w q nv (numsD .i64 ns)) :
    Calls Tryz.prog 19 #[.agg #[.int .i64 k, nv, .bool bo, .bool nan, .int .i64 v, .string t], .agg #[.int .i64 k, nv, .bool bo', .bool nan', .int .i64 v', .string t']] w fun e w' => SomeB e ∧ Ext w w' := by
  have HI := Lib.hid fun W (hE : Ext w W) => ints_same ns q nv W hns (hn.ext hE)
  obtain ⟨na, nc, rfl, _, _⟩ := hn.count (z_num .i64) (by omega)
  have hkk : (k == k) = true := beq_self_eq_true _
  obtain ⟨b1, h1⟩ : ∃ x, (bo == bo') = x := ⟨_, rfl⟩
  obtain ⟨b2, h2⟩ : ∃ x, (nan == nan') = x := ⟨_, rfl⟩
  obtain ⟨b3, h3⟩ : ∃ x, (v == v') = x := ⟨_, rfl⟩
  obtain ⟨b4, h4⟩ : ∃ x, (t == t') = x := ⟨_, rfl⟩
  clear hn
  go_enter Tryz.func19, Tryz.ntmps19
  go_wp2_with fail
  refine (HI.out _ (((Ext.refl w).alloc _).alloc _)).mono ?_
  rintro e w1 ⟨rfl, m, rfl⟩
  go_wp2_with fail
  all_goals (go_ret; exact ⟨⟨_, rfl⟩, (((Ext.refl w).alloc _).alloc _).drewN _⟩)
set_option maxHeartbeats 8000000 in
theorem fair_some (ns : List Int) (q : Nat → Prop) (nv tv : Value) (bo nan : Bool) (v : Int) (t : Bytes) (w : World) (hns : ns.length ≤ 1000) (hn : Rep w q nv (numsD .i64 ns)) (ht : ∃ o n c, tv = .slice o n c) :
    Calls Tryz.prog 8 #[tv, .agg #[.int .i64 1, nv, .bool bo, .bool nan, .int .i64 v, .string (bs t)]] w fun e w' => SomeB e ∧ Ext w w' := by
  have HS := Lib.hid fun W (hE : Ext w W) bo' nan' v' t' => same_some 1 ns q nv bo bo' nan nan' v v' (bs t) t' W hns (hn.ext hE)
  obtain ⟨to', tn, tc, rfl⟩ := ht
  have HN := Lib.hid hn
  obtain ⟨na, nc, rfl, _, _⟩ := hn.count (z_num .i64) (by omega)
  clear hn
  obtain ⟨wz, hwz⟩ : ∃ W', (w.alloc (.cells #[.int .i64 1, .slice na ns.length nc, .bool bo, .bool nan, .int .i64 v, .string (bs t)] 30)).alloc (.cells #[.int .i64 1, .slice na ns.length nc, .bool false, .bool false, .int .i64 0, .string ⟨#[]⟩] 30) = W' := ⟨_, rfl⟩
  have hE : Ext w wz := by rw [← hwz]; exact ((Ext.refl w).alloc _).alloc _
  have z0 : w.heap.size + 1 < wz.heap.size := by rw [← hwz]; simp
  have a0 : wz.cell? ⟨w.heap.size, 0, none⟩ = some (.int .i64 1) := by rw [← hwz]; simp [go_sem]
  have a1 : wz.cell? ⟨w.heap.size, 1, none⟩ = some (.slice na ns.length nc) := by rw [← hwz]; simp [go_sem]
  have a2 : wz.cell? ⟨w.heap.size, 2, none⟩ = some (.bool bo) := by rw [← hwz]; simp [go_sem]
  have a3 : wz.cell? ⟨w.heap.size, 3, none⟩ = some (.bool nan) := by rw [← hwz]; simp [go_sem]
  have a4 : wz.cell? ⟨w.heap.size, 4, none⟩ = some (.int .i64 v) := by rw [← hwz]; simp [go_sem]
  have a5 : wz.cell? ⟨w.heap.size, 5, none⟩ = some (.string (bs t)) := by rw [← hwz]; simp [go_sem]
  have b0 : wz.cell? ⟨w.heap.size + 1, 0, none⟩ = some (.int .i64 1) := by rw [← hwz]; simp [go_sem]
  have b1 : wz.cell? ⟨w.heap.size + 1, 1, none⟩ = some (.slice na ns.length nc) := by rw [← hwz]; simp [go_sem]
  have b2 : wz.cell? ⟨w.heap.size + 1, 2, none⟩ = some (.bool false) := by rw [← hwz]; simp [go_sem]
  have b3 : wz.cell? ⟨w.heap.size + 1, 3, none⟩ = some (.bool false) := by rw [← hwz]; simp [go_sem]
  have b4 : wz.cell? ⟨w.heap.size + 1, 4, none⟩ = some (.int .i64 0) := by rw [← hwz]; simp [go_sem]
  have b5 : wz.cell? ⟨w.heap.size + 1, 5, none⟩ = some (.string ⟨#[]⟩) := by rw [← hwz]; simp [go_sem]
  have HZ := Lib.hid (And.intro a0 (And.intro a1 (And.intro a2 (And.intro a3 (And.intro a4 (And.intro a5 (And.intro b0 (And.intro b1 (And.intro b2 (And.intro b3 (And.intro b4 b5)))))))))))
  have HE := Lib.hid hE
  clear a0 a1 a2 a3 a4 a5 b0 b1 b2 b3 b4 b5 hE
  have HZ2 := Lib.hid hwz
  clear hwz
  go_enter Tryz.func8, Tryz.ntmps8
  go_wp2_with fail
  rw [HZ2.out]
  go_loopw [4, 6] (fun f t wr => ∃ i : Nat, t = .int .i64 i ∧ f = .bool false ∧ i ≤ ns.length ∧ Hid (Dr wz wr)) (fun _ t _ => downV ns.length t)
  case atStart => exact ⟨0, rfl, rfl, Nat.zero_le _, Lib.hid (Dr.refl _)⟩
  case round =>
    obtain ⟨i, rfl, rfl, hi, HX⟩ := hrel
    have hi0 : (0 : Int) ≤ (i : Int) := by omega
    have hi8 : (i : Int) ≤ 1000 := by omega
    have a1 := HX.out.ext.keep (by omega) HZ.out.2.1
    by_cases hlt : i < ns.length
    · have hlI : (i : Int) < (ns.length : Int) := by omega
      obtain ⟨b, off, hb, lb, d0⟩ := num_at (HN.out.ext (HE.out.trans HX.out.ext)) i hlt
      obtain ⟨x, hx⟩ : ∃ x, ns[i] = x := ⟨_, rfl⟩
      rw [hx] at d0
      by_cases hx0 : x < 0
      · subst hb
        clear hx
        go_wp2_with fail
        go_big_quiet (fail)
        go_wp2_with fail
        go_ret
        exact ⟨⟨_, rfl⟩, HE.out.trans (HX.out.drewN _).ext⟩
      have e1 : decide (x < 0) = false := decide_eq_false hx0
      by_cases hxt : (tn : Int) ≤ x
      · subst hb
        have e2 : decide ((tn : Int) ≤ x) = true := decide_eq_true hxt
        clear hx hx0 hxt
        go_wp2_with fail
        go_big_quiet (fail)
        go_wp2_with fail
        go_ret
        exact ⟨⟨_, rfl⟩, HE.out.trans (HX.out.drewN _).ext⟩
      have e2 : decide ((tn : Int) ≤ x) = false := decide_eq_false hxt
      by_cases hi1 : 0 < i
      · have e3 : decide (0 < i) = true := decide_eq_true hi1
        obtain ⟨k, hk⟩ : ∃ k : Nat, (i : Int) - 1 = (k : Int) := ⟨i - 1, by omega⟩
        have hkl : k < ns.length := by omega
        have hkI : (k : Int) < (ns.length : Int) := by omega
        have hk0 : (0 : Int) ≤ (k : Int) := by omega
        obtain ⟨b', off', hb', lb', d1⟩ := num_at (HN.out.ext (HE.out.trans HX.out.ext)) k hkl
        obtain ⟨y, hy⟩ : ∃ x, ns[k] = x := ⟨_, rfl⟩
        rw [hy] at d1
        subst hb
        cases hb'
        clear hx hy hx0 hxt
        by_cases hxy : x ≤ y
        · have e4 : decide (x ≤ y) = true := decide_eq_true hxy
          clear hxy
          go_wp2_with fail
          go_big_quiet (fail)
          go_wp2_with fail
          go_ret
          exact ⟨⟨_, rfl⟩, HE.out.trans (HX.out.drewN _).ext⟩
        · have e4 : decide (x ≤ y) = false := decide_eq_false hxy
          clear hxy
          go_wp2_with fail
          go_big_quiet (fail)
          go_wp2_with fail
          go_roundw
          case rel => exact ⟨i + 1, by go_num, rfl, by omega, Lib.hid (HX.out.drewN _)⟩
          case measure => simp only [downV]; omega
      · have e3 : decide (0 < i) = false := decide_eq_false hi1
        subst hb
        clear hx hx0 hxt hi1
        go_wp2_with fail
        go_big_quiet (fail)
        go_wp2_with fail
        go_roundw
        case rel => exact ⟨i + 1, by go_num, rfl, by omega, Lib.hid (HX.out.drewN _)⟩
        case measure => simp only [downV]; omega
    · have hlI : ¬ (i : Int) < (ns.length : Int) := by omega
      have K : ∀ {g j : Nat} {u : Value}, g < wz.heap.size → wz.cell? ⟨g, j, none⟩ = some u → wr.cell? ⟨g, j, none⟩ = some u := fun h1 h2 => HX.out.ext.keep h1 h2
      have a0 := K (by omega) HZ.out.1
      have a2 := K (by omega) HZ.out.2.2.1
      have a3 := K (by omega) HZ.out.2.2.2.1
      have a4 := K (by omega) HZ.out.2.2.2.2.1
      have a5 := K (by omega) HZ.out.2.2.2.2.2.1
      have b0 := K (by omega) HZ.out.2.2.2.2.2.2.1
      have b1 := K (by omega) HZ.out.2.2.2.2.2.2.2.1
      have b2 := K (by omega) HZ.out.2.2.2.2.2.2.2.2.1
      have b3 := K (by omega) HZ.out.2.2.2.2.2.2.2.2.2.1
      have b4 := K (by omega) HZ.out.2.2.2.2.2.2.2.2.2.2.1
      have b5 := K (by omega) HZ.out.2.2.2.2.2.2.2.2.2.2.2
      have HXE := Lib.hid (HE.out.trans HX.out.ext)
      clear K
      go_wp2_with fail
      refine (HS.out _ HXE.out _ _ _ _).mono ?_
      rintro e w1 ⟨⟨B, rfl⟩, hX1⟩
      have a0' := hX1.keep (by have := HX.out.ext.size; omega) a0
      have HX1 := Lib.hid (HXE.out.trans hX1)
      clear hX1 a0 a1 a2 a3 a4 a5 b0 b1 b2 b3 b4 b5
      cases B <;> go_wp2_with fail
      all_goals (go_ret; exact ⟨⟨_, rfl⟩, HX1.out⟩)
end Go.Proofs.YtmmopcceabdecaaGreatDoor
