/-
 recensionref14.Spans. Helper lemmas; no statement of the seat is proved here.
-/
import Derived.Test.YtkelpbbekeelcaaGreatDoorU1
import Derived.Laws.IdiomStrings
import Derived.Laws.Rows
import Derived.Test.YtkelpbbekeelcaaGreatDoorRegion
namespace Go.Proofs.YtkelpbbekeelcaaGreatDoor
open Go.RowKit
set_option maxHeartbeats 32000000
set_option maxRecDepth 100000
set_option linter.unusedVariables false
set_option linter.unusedSimpArgs false
theorem Ext.grown_own {a w w' : World} {o : Obj} {e : TypeId} {n s : Nat} {v : Value} {xs : List Value} (h : Ext a w) (hown : w.ownsRow a.heap.size e s v n xs) (hg : (w.alloc o).grownBy w' v.ownBlock) : Ext a w' :=
 Below.grown (h.alloc o) hg (Below.size (h.alloc o)) fun k hk => (hown.lt k hk).1
def Ret (p : Nat → Prop) (D : DV) (e : Ending) (w' : World) : Prop := ∃ v, e = .returned v ∧ Rep w' p v D
theorem Own.rows {w : World} {p : Nat → Prop} {base z n : Nat} {e : TypeId} {v : Value} {es : List DV} (h : Own w p base e z v n es) : ∃ us, w.ownsRow base e z v n us ∧ Reps w (fun b => p b ∧ some b ≠ v.ownBlock ∧ b < w.heap.size) us es := h
def flV (F : List Bool) : Array Value := (F.map Value.bool).toArray
theorem flV_at (F : List Bool) (j : Nat) (h : j < F.length) : (flV F)[j]? = some (.bool (F.getD j false)) := by
 unfold flV; simp [h]
def runE (f : Nat → Bool) : Nat → Nat → Nat
 | 0, t => t
 | k + 1, t => if t < 200 ∧ f (t + 1) = true then runE f k (t + 1) else t
theorem runE_ge (f : Nat → Bool) : ∀ (k t : Nat), t ≤ runE f k t ∧ (t ≤ 200 → runE f k t ≤ 200)
 | 0, t => by simp [runE]
 | k + 1, t => by
  unfold runE
  split
  ·
   have := runE_ge f k (t + 1); omega
  ·
   omega
def spansV (f : Nat → Bool) : Nat → Nat → List Span
 | 0, _ => []
 | k + 1, v => if v ≤ 200 then (if f v = true then ⟨(v : Int), (runE f (200 - v) v : Int)⟩ :: spansV f k (runE f (200 - v) v + 1) else spansV f k (v + 1)) else []
theorem spansV_fuel (f : Nat → Bool) : ∀ (k k' v : Nat), 201 - v ≤ k → 201 - v ≤ k' → spansV f k v = spansV f k' v
 | 0, 0, v, _, _ => rfl
 | 0, k' + 1, v, h, _ => by unfold spansV; rw [if_neg (by omega)]
 | k + 1, 0, v, _, h => by unfold spansV; rw [if_neg (by omega)]
 | k + 1, k' + 1, v, h, h' => by
  unfold spansV
  have := (runE_ge f (200 - v) v).1
  split
  ·
   split
   ·
    rw [spansV_fuel f k k' _ (by omega) (by omega)]
   ·
    rw [spansV_fuel f k k' _ (by omega) (by omega)]
  ·
   rfl
def spansOf (f : Nat → Bool) : List Span := spansV f 200 1
theorem infoSpan : (Tryz.prog.info? 96).map (fun i => (i.zero, i.size, i.bytes)) = some (some (.agg #[.int .i64 0, .int .i64 0]), 2, 16) := by kernel_rfl
theorem new_two {w : World} {a b : Value} {e : TypeId} : ∀ (j : Nat) (v : Value), [a, b][j]? = some v → (w.alloc (.cells #[a, b] e)).cell? ((⟨w.heap.size, 0, none⟩ : Addr).add j) = some v := by
 intro j v hj
 have e0 : (⟨w.heap.size, 0, none⟩ : Addr).add j = ⟨w.heap.size, 0 + j, none⟩ := by unfold Addr.add; split <;> simp_all
 rw [e0, Nat.zero_add]
 have h := World.cell?_alloc_mark w #[a, b] e (0, 0) j
 rw [h, ← hj]; simp
theorem spansv_any (F : List Bool) (hF : F.length = 201) (f : Nat → Bool) (hf : ∀ j, f j = F.getD j false) (w : World) :
  Calls Tryz.prog 45 #[.agg (flV F)] w fun e w' => Ret (fun b => w.heap.size ≤ b) (spansD (spansOf f)) e w' ∧ Ext w w' := by
 obtain ⟨R, hR⟩ : ∃ R, spansOf f = R := ⟨_, rfl⟩
 rw [hR]
 have HR := Lh hR
 have HF := Lh hF
 have Hf := Lh hf
 clear hR hf
 obtain ⟨i0, hi, hz0, hz1, hz2⟩ := info_parts infoSpan
 go_enter Tryz.func45, Tryz.ntmps45
 go_wp2_with fail
 obtain ⟨w1, hw1⟩ : ∃ w1, (w.alloc (.cells (flV F) 103)) = w1 := ⟨_, rfl⟩
 have hE1 : Ext w w1 := by rw [← hw1]; exact (Ext.refl w).alloc _
 have l0 : w.heap.size < w1.heap.size := by rw [← hw1]; simp
 have hc : ∀ j, j < 201 → w1.cell? ⟨w.heap.size, j, none⟩ = some (.bool (f j)) := fun j hj => by
  rw [← hw1, World.cell?_alloc_mark, flV_at F j (by rw [HF.out]; exact hj), Hf.out]
 have HC := Lh hc
 rw [hw1]
 clear hw1 hc hF
 go_loopw [3, 4, 5] (fun o t _ wr => ∃ (v : Nat) (L : List Span) (dv : Value), t = .int .i64 v ∧ dv = o ∧ 1 ≤ v ∧ v ≤ 201 ∧ L.length < v ∧ Own wr (fun _ => False) w1.heap.size 96 2 dv L.length (L.flatMap spanC) ∧ Ext w1 wr ∧ Hid (L ++ spansV f (201 - v) v = R)) (fun _ t _ _ => downV 201 t)
 case atStart => exact ⟨1, [], _, rfl, rfl, Nat.le_refl _, by omega, by simp, Own.nil _ _ _ _ _, Ext.refl _, HR⟩
 case round =>
  obtain ⟨v, L, dv, rfl, rfl, hv1, hv2, hL, hown, hX, HI⟩ := hrel
  have hv0 : (0 : Int) ≤ (v : Int) := by omega
  have hwz := hX.size
  by_cases hle : v ≤ 200
  ·
   have hleI : (v : Int) ≤ 200 := by omega
   have cv := hX.keep l0 (HC.out v (by omega))
   have HS : Hid (spansV f (201 - v) v = if f v = true then ⟨(v : Int), (runE f (200 - v) v : Int)⟩ :: spansV f (200 - v) (runE f (200 - v) v + 1) else spansV f (200 - v) (v + 1)) := Lh (by rw [show 201 - v = (200 - v) + 1 by omega, spansV, if_pos hle])
   cases hfv : f v with
   | false =>
    rw [hfv] at cv
    have HN : Hid (L ++ spansV f (201 - (v + 1)) (v + 1) = R) := Lh (by rw [← HI.out, HS.out, hfv, if_neg (by decide), show 201 - (v + 1) = 200 - v by omega])
    clear HS HI hfv
    go_wp2_with fail
    go_roundw
    case rel => exact ⟨v + 1, L, dv, by go_num, rfl, by omega, by omega, by omega, hown, hX, HN⟩
    case measure => simp only [downV]; omega
   | true =>
    rw [hfv] at cv
    have hrun := runE_ge f (200 - v) v
    obtain ⟨E, hE⟩ : ∃ E, runE f (200 - v) v = E := ⟨_, rfl⟩
    have HE := Lh hE
    rw [hE] at HS hrun
    have hE200 := hrun.2 hle
    have HN : Hid ((L ++ [⟨(v : Int), (E : Int)⟩]) ++ spansV f (201 - (E + 1)) (E + 1) = R) := Lh (by
     rw [← HI.out, HS.out, hfv, if_pos rfl, List.append_assoc, spansV_fuel f (201 - (E + 1)) (200 - v) (E + 1) (by omega) (by omega)]; rfl)
    have hvE := hrun.1
    clear HS HI hfv hE hrun
    obtain ⟨w2, hw2⟩ : ∃ w2, w2 = wr := ⟨_, rfl⟩
    subst hw2
    go_wp2_with fail
    go_loopw [5] (fun t wr => ∃ k : Nat, t = .int .i64 k ∧ v ≤ k ∧ k ≤ 200 ∧ wr = w2 ∧ Hid (runE f (200 - k) k = E)) (fun t _ => downV 201 t)
    case atStart => exact ⟨v, rfl, Nat.le_refl _, hle, rfl, HE⟩
    case round =>
     obtain ⟨k, rfl, hk1, hk2, rfl, HK⟩ := hrel
     have hk0 : (0 : Int) ≤ (k : Int) := by omega
     by_cases hk : k < 200
     ·
      have hkI : (k : Int) < 200 := by omega
      have ck := hX.keep l0 (HC.out (k + 1) (by omega))
      have HS : Hid (runE f (200 - k) k = if f (k + 1) = true then runE f (200 - (k + 1)) (k + 1) else k) := Lh (by
       rw [show 200 - k = (200 - (k + 1)) + 1 by omega]; rw [runE]
       by_cases h : f (k + 1) = true
       ·
        rw [if_pos ⟨hk, h⟩, if_pos h]
       ·
        rw [if_neg (fun e => h e.2), if_neg h])
      cases hfk : f (k + 1) with
      | true =>
       rw [hfk] at ck
       have HKN : Hid (runE f (200 - (k + 1)) (k + 1) = E) := Lh (by rw [← HK.out, HS.out, hfk, if_pos rfl])
       clear HS HK hfk
       go_wp2_with fail
       go_roundw
       case rel => exact ⟨k + 1, by go_num, by omega, by omega, by first | rfl | trivial, HKN⟩
       case measure => simp only [downV]; omega
      | false =>
       rw [hfk] at ck
       have hkE : k = E := by rw [← HK.out, HS.out, hfk, if_neg (by decide)]
       obtain rfl := hkE
       clear HS HK hfk
       obtain ⟨us, hrow, hreps⟩ := hown.rows
       go_wp2_with (at_builtin; refine wpList_append_own_at _ rfl (.tmp 25) (.tmp 29) _ rfl w1.heap.size 96 i0 (.agg #[.int .i64 0, .int .i64 0]) 2 16 Tryz.underlying30 hi hz0 hz1 hz2 rfl (by decide) dv L.length us rfl (hrow.alloc _) ⟨wr.heap.size, 0, none⟩ 1 1 [.int .i64 v, .int .i64 k] rfl rfl new_two (by intro u hu; simp at hu; rcases hu with rfl | rfl <;> rfl) (by unfold maxLen; omega) (by omega) (by simp; omega) ?_; intro v2 w3 hown2 hgrow2 _ hat2)
       have hX2 : Ext w1 w3 := hX.grown_own hrow hgrow2
       have hO2 : Own w3 (fun _ => False) w1.heap.size 96 2 v2 (L ++ [(⟨(v : Int), (k : Int)⟩ : Span)]).length ((L ++ [(⟨(v : Int), (k : Int)⟩ : Span)]).flatMap spanC) := by
        rw [List.length_append, List.flatMap_append]
        exact Own.push ((hreps.ext ((Ext.refl wr).alloc _)).ok fun b hb => ⟨hb.1, hb.2.1, by simp; omega⟩) (Reps.cons (Rep.int _ _ _ _) (Reps.cons (Rep.int _ _ _ _) (Reps.nil _ _))) hown2 hgrow2 hat2
       clear hown2 hgrow2 hrow hreps hown hX hat2
       go_wp2_with fail
       go_roundw
       case rel => exact ⟨k + 1, L ++ [⟨(v : Int), (k : Int)⟩], v2, by go_num, rfl, by omega, by omega, by rw [List.length_append]; simp; omega, hO2, hX2, HN⟩
       case measure => simp only [downV]; omega
     ·
      have hkI : ¬ (k : Int) < 200 := by omega
      have hkE : k = E := by
       have h1 := HK.out
       have h2 := runE_ge f (200 - k) k
       rw [h1] at h2; omega
      obtain rfl := hkE
      clear HK
      obtain ⟨us, hrow, hreps⟩ := hown.rows
      go_wp2_with (at_builtin; refine wpList_append_own_at _ rfl (.tmp 25) (.tmp 29) _ rfl w1.heap.size 96 i0 (.agg #[.int .i64 0, .int .i64 0]) 2 16 Tryz.underlying30 hi hz0 hz1 hz2 rfl (by decide) dv L.length us rfl (hrow.alloc _) ⟨wr.heap.size, 0, none⟩ 1 1 [.int .i64 v, .int .i64 k] rfl rfl new_two (by intro u hu; simp at hu; rcases hu with rfl | rfl <;> rfl) (by unfold maxLen; omega) (by omega) (by simp; omega) ?_; intro v2 w3 hown2 hgrow2 _ hat2)
      have hX2 : Ext w1 w3 := hX.grown_own hrow hgrow2
      have hO2 : Own w3 (fun _ => False) w1.heap.size 96 2 v2 (L ++ [(⟨(v : Int), (k : Int)⟩ : Span)]).length ((L ++ [(⟨(v : Int), (k : Int)⟩ : Span)]).flatMap spanC) := by
       rw [List.length_append, List.flatMap_append]
       exact Own.push ((hreps.ext ((Ext.refl wr).alloc _)).ok fun b hb => ⟨hb.1, hb.2.1, by simp; omega⟩) (Reps.cons (Rep.int _ _ _ _) (Reps.cons (Rep.int _ _ _ _) (Reps.nil _ _))) hown2 hgrow2 hat2
      clear hown2 hgrow2 hrow hreps hown hX hat2
      go_wp2_with fail
      go_roundw
      case rel => exact ⟨k + 1, L ++ [⟨(v : Int), (k : Int)⟩], v2, by go_num, rfl, by omega, by omega, by rw [List.length_append]; simp; omega, hO2, hX2, HN⟩
      case measure => simp only [downV]; omega
  ·
   have hleI : ¬ (v : Int) ≤ 200 := by omega
   have HN : Hid (L = R) := Lh (by
    have := HI.out
    rw [show 201 - v = 0 by omega] at this
    rw [← this]; simp [spansV])
   clear HI
   go_wp2_with fail
   go_ret
   refine ⟨⟨dv, rfl, ?_⟩, hE1.trans hX⟩
   rw [← HN.out]
   exact hown.rep.ok (fun b hb => by rcases hb with h | h; exact h.elim; have := hE1.size; omega)
theorem blk_cell {w : World} {g k : Nat} {cs : Array Value} {t : TypeId} {u : Value} (h : w.heap[g]? = some (.cells cs t (0, 0))) (hk : cs[k]? = some u) : w.cell? ⟨g, k, none⟩ = some u := by simp [World.cell?, h, hk]
theorem blk_free {w : World} {g k : Nat} {cs : Array Value} {t : TypeId} (h : w.heap[g]? = some (.cells cs t (0, 0))) : w.frozen? ⟨g, k, none⟩ = false := by simp [World.frozen?, h]
theorem blk_lt {w : World} {g : Nat} {o : Obj} (h : w.heap[g]? = some o) : g < w.heap.size := by
 rcases Nat.lt_or_ge g w.heap.size with h' | h'
 ·
  exact h'
 ·
  simp [Array.getElem?_eq_none h'] at h
theorem blk_set {w : World} {g k : Nat} {cs : Array Value} {t : TypeId} {u : Value} (h : w.heap[g]? = some (.cells cs t (0, 0))) : (w.setCell ⟨g, k, none⟩ u).heap[g]? = some (.cells (cs.setIfInBounds k u) t (0, 0)) := by
 have hlt := blk_lt h
 have h' : w.heap[g] = .cells cs t (0, 0) := by simpa [Array.getElem?_eq_getElem hlt] using h
 show (w.heap.modify g _)[g]? = _
 rw [Array.getElem?_eq_getElem (by simpa using hlt), Array.getElem_modify_self, h']
 rfl
theorem flV_set (F : List Bool) (k : Nat) (b : Bool) : (flV F).setIfInBounds k (.bool b) = flV (F.set k b) := by
 unfold flV
 apply Array.toList_inj.1
 simp [List.map_set]
def flOf (l : List Int) (j : Nat) : Bool := decide (1 ≤ j ∧ j ≤ 200 ∧ (j : Int) ∈ l)
def intsD (l : List Int) : DV := .s 1 (l.flatMap fun x => [intD x])
theorem z_int (x : Int) : ([intD x] : List DV).length = 1 := rfl
theorem int_at {w : World} {p : Nat → Prop} {a : Option Addr} {len cap : Nat} {l : List Int} (h : Rep w p (.slice a len cap) (intsD l)) (i : Nat) (hi : i < l.length) :
  ∃ b off, a = some ⟨b, off, none⟩ ∧ b < w.heap.size ∧ p b ∧ w.cell? ⟨b, off + i, none⟩ = some (.int .i64 l[i]) := by
 obtain ⟨b, off, ha, hb, hp, hc⟩ := elem_at z_int h (by omega) i hi
 obtain ⟨u, hu, hr⟩ := hc 0 _ rfl
 rw [Nat.mul_one, Nat.add_zero] at hu
 exact ⟨b, off, ha, hb, hp, by rw [hu, hr.is]⟩
theorem zero103 : Tryz.zeroCells103 = flV (List.replicate 201 false) := by kernel_rfl
theorem size103 : (Tryz.prog.info? 103).map (·.size) = some 201 := by kernel_rfl
theorem fl_step (l : List Int) (i : Nat) (h : i < l.length) (j : Nat) : flOf (l.take (i + 1)) j = (flOf (l.take i) j || (decide (1 ≤ j ∧ j ≤ 200) && decide ((j : Int) = l[i]))) := by
 unfold flOf
 rw [List.take_add_one, List.getElem?_eq_getElem h]
 simp only [Option.toList_some, List.mem_append, List.mem_singleton]
 rw [Bool.eq_iff_iff]
 simp only [Bool.or_eq_true, Bool.and_eq_true, decide_eq_true_iff]
 constructor
 ·
  rintro ⟨a, b, c | c⟩
  ·
   exact Or.inl ⟨a, b, c⟩
  ·
   exact Or.inr ⟨⟨a, b⟩, c⟩
 ·
  rintro (⟨a, b, c⟩ | ⟨⟨a, b⟩, c⟩)
  ·
   exact ⟨a, b, Or.inl c⟩
  ·
   exact ⟨a, b, Or.inr c⟩
theorem fl_none (j : Nat) : (List.replicate 201 false).getD j false = flOf [] j := by
 unfold flOf
 rw [List.getD_eq_getElem?_getD, List.getElem?_replicate]
 split <;> simp
theorem of_any (p : Nat → Prop) (l : List Int) (v : Value) (w : World) (h : Rep w p v (intsD l)) :
  Calls Tryz.prog 39 #[v] w fun e w' => Ret (fun b => w.heap.size ≤ b) (spansD (spansOf (flOf l))) e w' ∧ Ext w w' := by
 obtain ⟨a, c, rfl, hc1, hc2⟩ := h.count z_int (by omega)
 go_enter Tryz.func39, Tryz.ntmps39
 go_wp2_with fail
 obtain ⟨w1, hw1⟩ : ∃ w1, (w.alloc (.cells Tryz.zeroCells103 103)) = w1 := ⟨_, rfl⟩
 have hE1 : Ext w w1 := by rw [← hw1]; exact (Ext.refl w).alloc _
 have hb1 : w1.heap[w.heap.size]? = some (.cells (flV (List.replicate 201 false)) 103 (0, 0)) := by rw [← hw1, zero103]; exact Array.getElem?_push_size
 have HB1 := Lh hb1
 rw [hw1]
 clear hw1 hb1
 go_loopw [4] (fun t wr => ∃ (i : Nat) (F : List Bool), t = .int .i64 i ∧ i ≤ l.length ∧ Hid (F.length = 201 ∧ wr.heap[w.heap.size]? = some (.cells (flV F) 103 (0, 0)) ∧ ∀ j, F.getD j false = flOf (l.take i) j) ∧ Ext w wr) (fun t _ => downV l.length t)
 case atStart => exact ⟨0, _, rfl, Nat.zero_le _, Lh ⟨List.length_replicate .., HB1.out, fun j => fl_none j⟩, hE1⟩
 case round =>
  obtain ⟨i, F, rfl, hi, HF, hX⟩ := hrel
  have hi0 : (0 : Int) ≤ (i : Int) := by omega
  have lg : w.heap.size < wr.heap.size := blk_lt HF.out.2.1
  by_cases hlt : i < l.length
  ·
   have hlI : (i : Int) < (l.length : Int) := by omega
   obtain ⟨g, o, rfl, hgb, hp, hc⟩ := int_at (h.ext hX) i hlt
   have HT : Hid (∀ j, flOf (l.take (i + 1)) j = (flOf (l.take i) j || (decide (1 ≤ j ∧ j ≤ 200) && decide ((j : Int) = l[i])))) := Lh (fun j => fl_step l i hlt j)
   obtain ⟨x, hx⟩ : ∃ x, l[i] = x := ⟨_, rfl⟩
   rw [hx] at hc HT
   clear hx
   by_cases hr : 1 ≤ x ∧ x ≤ 200
   ·
    obtain ⟨k, hk⟩ : ∃ k : Nat, x = (k : Int) := ⟨x.toNat, by omega⟩
    subst hk
    have r1 : (1 : Int) ≤ (k : Int) := hr.1
    have r2 : (k : Int) ≤ 200 := hr.2
    have k0 : (0 : Int) ≤ (k : Int) := by omega
    have k201 : (k : Int) < 201 := by omega
    have hcur : wr.cell? ⟨w.heap.size, k, none⟩ = some (.bool (F.getD k false)) := blk_cell HF.out.2.1 (flV_at F k (by have := HF.out.1; omega))
    have hfr : wr.frozen? ⟨w.heap.size, k, none⟩ = false := blk_free HF.out.2.1
    have HFN : Hid ((F.set k true).length = 201 ∧ (wr.setCell ⟨w.heap.size, k, none⟩ (.bool true)).heap[w.heap.size]? = some (.cells (flV (F.set k true)) 103 (0, 0)) ∧ ∀ j, (F.set k true).getD j false = flOf (l.take (i + 1)) j) := by
     obtain ⟨f1, f2, f3⟩ := HF.out
     refine Lh ⟨by rw [List.length_set]; exact f1, by rw [blk_set f2, flV_set], fun j => ?_⟩
     rw [HT.out j, ← f3 j]
     rw [List.getD_eq_getElem?_getD, List.getD_eq_getElem?_getD, List.getElem?_set]
     by_cases hj : k = j
     ·
      subst hj
      rw [if_pos rfl, if_pos (by omega)]
      simp; omega
     ·
      rw [if_neg hj]
      rw [show decide ((j : Int) = (k : Int)) = false from decide_eq_false (by omega)]; simp
    clear HF HT hr
    go_wp2_with fail
    go_roundw
    case rel => exact ⟨i + 1, F.set k true, by go_num, by omega, HFN, hX.set (by dsimp only; omega) _⟩
    case measure => simp only [downV]; omega
   ·
    have HFN : Hid (F.length = 201 ∧ wr.heap[w.heap.size]? = some (.cells (flV F) 103 (0, 0)) ∧ ∀ j, F.getD j false = flOf (l.take (i + 1)) j) := by
     obtain ⟨f1, f2, f3⟩ := HF.out
     refine Lh ⟨f1, f2, fun j => ?_⟩
     rw [HT.out j, f3 j]
     rw [show (decide (1 ≤ j ∧ j ≤ 200) && decide ((j : Int) = x)) = false from by rw [Bool.and_eq_false_iff]; by_cases h1 : (j : Int) = x; exact Or.inl (decide_eq_false (by omega)); exact Or.inr (decide_eq_false h1)]
     simp
    clear HF HT
    by_cases h1 : 1 ≤ x
    ·
     have r2 : ¬ x ≤ 200 := by omega
     clear hr
     go_wp2_with fail
     go_roundw
     case rel => exact ⟨i + 1, F, by go_num, by omega, HFN, hX⟩
     case measure => simp only [downV]; omega
    ·
     clear hr
     go_wp2_with fail
     go_roundw
     case rel => exact ⟨i + 1, F, by go_num, by omega, HFN, hX⟩
     case measure => simp only [downV]; omega
  ·
   have hlI : ¬ (i : Int) < (l.length : Int) := by omega
   have HG : Hid (∀ j, flOf l j = F.getD j false) := Lh (fun j => by rw [HF.out.2.2 j, List.take_of_length_le (by omega)])
   have hg := HF.out.2.1
   have hsz : (Tryz.prog.info? 103).map (·.size) = some (flV F).size := by
    have e : (flV F).size = 201 := by unfold flV; simp [HF.out.1]
    rw [e]; exact size103
   have HSP := Lh fun W => spansv_any F HF.out.1 (flOf l) HG.out W
   have HGB := Lh hg
   have HSZ := Lh hsz
   clear hg hsz HF HG
   go_wp2_with (refine wpList_load_row rfl 103 (.tmp 3) rfl w.heap.size rfl 103 (flV F) (0, 0) _ HGB.out Tryz.underlying103 rfl HSZ.out ?_)
   refine (HSP.out _).mono ?_
   rintro e w2 ⟨⟨u, rfl, hru⟩, hB2⟩
   go_wp2_with fail
   go_ret
   exact ⟨⟨u, rfl, hru.ok (fun b hb => Nat.le_trans hX.size hb)⟩, hX.trans hB2⟩
def escC (v : Bool) (c : UInt8) : Bytes :=
 if c.toNat = 38 then [38, 97, 109, 112, 59]
 else if c.toNat = 60 then [38, 108, 116, 59]
 else if c.toNat = 13 then [38, 35, 49, 51, 59]
 else if c.toNat = 62 ∧ v = false then [38, 103, 116, 59]
 else if c.toNat = 34 ∧ v = true then [38, 113, 117, 111, 116, 59]
 else if c.toNat = 9 ∧ v = true then [38, 35, 57, 59]
 else if c.toNat = 10 ∧ v = true then [38, 35, 49, 48, 59]
 else [c]
def escS (v : Bool) (l : Bytes) : Bytes := l.flatMap (escC v)
theorem escC_len (v : Bool) (c : UInt8) : (escC v c).length ≤ 6 := by
 unfold escC
 repeat' split
 all_goals simp
theorem escS_len (v : Bool) : ∀ l : Bytes, (escS v l).length ≤ 6 * l.length
 | [] => by simp [escS]
 | c :: r => by
  have h1 := escC_len v c
  have h2 := escS_len v r
  unfold escS at *
  rw [List.flatMap_cons, List.length_append, List.length_cons]; omega
theorem escS_step (v : Bool) (l : Bytes) (i : Nat) (h : i < l.length) : escS v (l.take (i + 1)) = escS v (l.take i) ++ escC v l[i] := by
 unfold escS
 rw [List.take_add_one, List.getElem?_eq_getElem h, List.flatMap_append]; simp
theorem esc_false (s : Bytes) (w : World) (hs : s.length ≤ 1048576) : Calls Tryz.prog 163 #[.string (bs s), .bool false] w fun e w' => e = .returned (.string (bs (escS false s))) ∧ Ext w w' := by
 have hsz : (bs s).size ≤ 1048576 := by rw [bs_size]; exact hs
 obtain ⟨R, hR⟩ : ∃ R, escS false s = R := ⟨_, rfl⟩
 rw [hR]
 have HR := Lh hR
 clear hR
 go_enter Tryz.func163, Tryz.ntmps163
 go_wp2_with fail
 go_loopw [5, 6, 7] (fun o t _ wr => ∃ (i : Nat) (L : Bytes), t = .int .i64 i ∧ o = .string (bs L) ∧ i ≤ (bs s).size ∧ Hid (L = escS false (s.take i)) ∧ Ext w wr) (fun _ t _ _ => downV (bs s).size t)
 case atStart => exact ⟨0, [], rfl, rfl, Nat.zero_le _, Lh rfl, Ext.refl _⟩
 case round =>
  obtain ⟨i, L, rfl, rfl, hi, HL, hX⟩ := hrel
  have hi0 : (0 : Int) ≤ (i : Int) := by omega
  have hLb : (bs L).size ≤ 6291456 := by
   rw [bs_size, HL.out]
   have := escS_len false (s.take i)
   rw [List.length_take] at this; omega
  by_cases hlt : i < (bs s).size
  ·
   have hlI : (i : Int) < ((bs s).size : Int) := by omega
   have hl2 : i < s.length := by rw [bs_size] at hlt; exact hlt
   have HS : Hid (L ++ escC false (s[i]'hl2) = escS false (s.take (i + 1))) := Lh (by rw [escS_step false s i hl2, HL.out])
   have hc : (bs s)[i]'hlt = s[i]'hl2 := bs_getE s i hlt
   rw [← hc] at HS
   have cb := ((bs s)[i]'hlt).toNat_lt
   obtain ⟨c, hcc⟩ : ∃ c, (bs s)[i]'hlt = c := ⟨_, rfl⟩
   rw [hcc] at HS cb
   have HEX : Hid ((bs s).extract i (i + 1) = bs [c]) := Lh (by
    rw [bs_extract, show i + 1 - i = 1 by omega, drop_one s i hl2, ← hc, hcc]; rfl)
   have hv : (bs s)[i]'hlt = c := hcc
   clear HL hc hl2
   by_cases h38 : c.toNat = 38
   ·
    have g1 : ¬ 9223372036854775807 < (bs L).size + (⟨#[38, 97, 109, 112, 59]⟩ : ByteArray).size := by rw [show (⟨#[38, 97, 109, 112, 59]⟩ : ByteArray).size = 5 from rfl]; omega
    have g2 : bs L ++ ⟨#[38, 97, 109, 112, 59]⟩ = bs (L ++ [38, 97, 109, 112, 59]) := bs_append L [38, 97, 109, 112, 59]
    have HN : Hid (L ++ [38, 97, 109, 112, 59] = escS false (s.take (i + 1))) := Lh (by rw [← HS.out]; congr 1; unfold escC; simp [h38])
    clear HS HEX cb
    go_wp2_with fail
    go_roundw
    case rel => exact ⟨i + 1, L ++ [38, 97, 109, 112, 59], by go_num, rfl, by omega, HN, hX⟩
    case measure => simp only [downV]; omega
   have e38 : ((c.toNat : Int) == 38) = false := by rw [beq_eq_false_iff_ne]; omega
   by_cases h60 : c.toNat = 60
   ·
    have g1 : ¬ 9223372036854775807 < (bs L).size + (⟨#[38, 108, 116, 59]⟩ : ByteArray).size := by rw [show (⟨#[38, 108, 116, 59]⟩ : ByteArray).size = 4 from rfl]; omega
    have g2 : bs L ++ ⟨#[38, 108, 116, 59]⟩ = bs (L ++ [38, 108, 116, 59]) := bs_append L [38, 108, 116, 59]
    have HN : Hid (L ++ [38, 108, 116, 59] = escS false (s.take (i + 1))) := Lh (by rw [← HS.out]; congr 1; unfold escC; simp [h60])
    clear HS HEX cb
    go_wp2_with fail
    go_roundw
    case rel => exact ⟨i + 1, L ++ [38, 108, 116, 59], by go_num, rfl, by omega, HN, hX⟩
    case measure => simp only [downV]; omega
   have e60 : ((c.toNat : Int) == 60) = false := by rw [beq_eq_false_iff_ne]; omega
   by_cases h13 : c.toNat = 13
   ·
    have g1 : ¬ 9223372036854775807 < (bs L).size + (⟨#[38, 35, 49, 51, 59]⟩ : ByteArray).size := by rw [show (⟨#[38, 35, 49, 51, 59]⟩ : ByteArray).size = 5 from rfl]; omega
    have g2 : bs L ++ ⟨#[38, 35, 49, 51, 59]⟩ = bs (L ++ [38, 35, 49, 51, 59]) := bs_append L [38, 35, 49, 51, 59]
    have HN : Hid (L ++ [38, 35, 49, 51, 59] = escS false (s.take (i + 1))) := Lh (by rw [← HS.out]; congr 1; unfold escC; simp [h13])
    clear HS HEX cb
    go_wp2_with fail
    go_roundw
    case rel => exact ⟨i + 1, L ++ [38, 35, 49, 51, 59], by go_num, rfl, by omega, HN, hX⟩
    case measure => simp only [downV]; omega
   have e13 : ((c.toNat : Int) == 13) = false := by rw [beq_eq_false_iff_ne]; omega
   by_cases h62 : c.toNat = 62
   ·
    have g1 : ¬ 9223372036854775807 < (bs L).size + (⟨#[38, 103, 116, 59]⟩ : ByteArray).size := by rw [show (⟨#[38, 103, 116, 59]⟩ : ByteArray).size = 4 from rfl]; omega
    have g2 : bs L ++ ⟨#[38, 103, 116, 59]⟩ = bs (L ++ [38, 103, 116, 59]) := bs_append L [38, 103, 116, 59]
    have HN : Hid (L ++ [38, 103, 116, 59] = escS false (s.take (i + 1))) := Lh (by rw [← HS.out]; congr 1; unfold escC; simp [h62])
    clear HS HEX cb
    go_wp2_with fail
    go_roundw
    case rel => exact ⟨i + 1, L ++ [38, 103, 116, 59], by go_num, rfl, by omega, HN, hX⟩
    case measure => simp only [downV]; omega
   have e62 : ((c.toNat : Int) == 62) = false := by rw [beq_eq_false_iff_ne]; omega
   by_cases h34 : c.toNat = 34
   ·
    have g1 : ¬ 9223372036854775807 < (bs L).size + (bs [c]).size := by rw [bs_size [c]]; simp; omega
    have g2 : bs L ++ bs [c] = bs (L ++ [c]) := bs_append L [c]
    have HN : Hid (L ++ [c] = escS false (s.take (i + 1))) := Lh (by rw [← HS.out]; congr 1; unfold escC; simp [h34])
    have hex := HEX.out
    clear HS HEX cb
    go_wp2_with fail
    go_roundw
    case rel => exact ⟨i + 1, L ++ [c], by go_num, rfl, by omega, HN, hX⟩
    case measure => simp only [downV]; omega
   have e34 : ((c.toNat : Int) == 34) = false := by rw [beq_eq_false_iff_ne]; omega
   by_cases h9 : c.toNat = 9
   ·
    have g1 : ¬ 9223372036854775807 < (bs L).size + (bs [c]).size := by rw [bs_size [c]]; simp; omega
    have g2 : bs L ++ bs [c] = bs (L ++ [c]) := bs_append L [c]
    have HN : Hid (L ++ [c] = escS false (s.take (i + 1))) := Lh (by rw [← HS.out]; congr 1; unfold escC; simp [h9])
    have hex := HEX.out
    clear HS HEX cb
    go_wp2_with fail
    go_roundw
    case rel => exact ⟨i + 1, L ++ [c], by go_num, rfl, by omega, HN, hX⟩
    case measure => simp only [downV]; omega
   have e9 : ((c.toNat : Int) == 9) = false := by rw [beq_eq_false_iff_ne]; omega
   by_cases h10 : c.toNat = 10
   ·
    have g1 : ¬ 9223372036854775807 < (bs L).size + (bs [c]).size := by rw [bs_size [c]]; simp; omega
    have g2 : bs L ++ bs [c] = bs (L ++ [c]) := bs_append L [c]
    have HN : Hid (L ++ [c] = escS false (s.take (i + 1))) := Lh (by rw [← HS.out]; congr 1; unfold escC; simp [h10])
    have hex := HEX.out
    clear HS HEX cb
    go_wp2_with fail
    go_roundw
    case rel => exact ⟨i + 1, L ++ [c], by go_num, rfl, by omega, HN, hX⟩
    case measure => simp only [downV]; omega
   have e10 : ((c.toNat : Int) == 10) = false := by rw [beq_eq_false_iff_ne]; omega
   have g1 : ¬ 9223372036854775807 < (bs L).size + (bs [c]).size := by rw [bs_size [c]]; simp; omega
   have g2 : bs L ++ bs [c] = bs (L ++ [c]) := bs_append L [c]
   have HN : Hid (L ++ [c] = escS false (s.take (i + 1))) := Lh (by rw [← HS.out]; congr 1; unfold escC; simp [h38, h60, h13, h62, h34, h9, h10])
   have hex := HEX.out
   clear HS HEX h38 h60 h13 h62 h34 h9 h10
   go_wp2_with fail
   go_roundw
   case rel => exact ⟨i + 1, L ++ [c], by go_num, rfl, by omega, HN, hX⟩
   case measure => simp only [downV]; omega
  ·
   have hlI : ¬ (i : Int) < ((bs s).size : Int) := by omega
   have HN : Hid (L = R) := Lh (by rw [HL.out, ← HR.out, List.take_of_length_le (by rw [bs_size] at hlt; omega)])
   clear HL
   go_wp2_with fail
   go_ret
   exact ⟨ret_string (by rw [HN.out]), hX⟩
theorem esc_true (s : Bytes) (w : World) (hs : s.length ≤ 1048576) : Calls Tryz.prog 163 #[.string (bs s), .bool true] w fun e w' => e = .returned (.string (bs (escS true s))) ∧ Ext w w' := by
 have hsz : (bs s).size ≤ 1048576 := by rw [bs_size]; exact hs
 obtain ⟨R, hR⟩ : ∃ R, escS true s = R := ⟨_, rfl⟩
 rw [hR]
 have HR := Lh hR
 clear hR
 go_enter Tryz.func163, Tryz.ntmps163
 go_wp2_with fail
 go_loopw [5, 6, 7] (fun o t _ wr => ∃ (i : Nat) (L : Bytes), t = .int .i64 i ∧ o = .string (bs L) ∧ i ≤ (bs s).size ∧ Hid (L = escS true (s.take i)) ∧ Ext w wr) (fun _ t _ _ => downV (bs s).size t)
 case atStart => exact ⟨0, [], rfl, rfl, Nat.zero_le _, Lh rfl, Ext.refl _⟩
 case round =>
  obtain ⟨i, L, rfl, rfl, hi, HL, hX⟩ := hrel
  have hi0 : (0 : Int) ≤ (i : Int) := by omega
  have hLb : (bs L).size ≤ 6291456 := by
   rw [bs_size, HL.out]
   have := escS_len true (s.take i)
   rw [List.length_take] at this; omega
  by_cases hlt : i < (bs s).size
  ·
   have hlI : (i : Int) < ((bs s).size : Int) := by omega
   have hl2 : i < s.length := by rw [bs_size] at hlt; exact hlt
   have HS : Hid (L ++ escC true (s[i]'hl2) = escS true (s.take (i + 1))) := Lh (by rw [escS_step true s i hl2, HL.out])
   have hc : (bs s)[i]'hlt = s[i]'hl2 := bs_getE s i hlt
   rw [← hc] at HS
   have cb := ((bs s)[i]'hlt).toNat_lt
   obtain ⟨c, hcc⟩ : ∃ c, (bs s)[i]'hlt = c := ⟨_, rfl⟩
   rw [hcc] at HS cb
   have HEX : Hid ((bs s).extract i (i + 1) = bs [c]) := Lh (by
    rw [bs_extract, show i + 1 - i = 1 by omega, drop_one s i hl2, ← hc, hcc]; rfl)
   have hv : (bs s)[i]'hlt = c := hcc
   clear HL hc hl2
   by_cases h38 : c.toNat = 38
   ·
    have g1 : ¬ 9223372036854775807 < (bs L).size + (⟨#[38, 97, 109, 112, 59]⟩ : ByteArray).size := by rw [show (⟨#[38, 97, 109, 112, 59]⟩ : ByteArray).size = 5 from rfl]; omega
    have g2 : bs L ++ ⟨#[38, 97, 109, 112, 59]⟩ = bs (L ++ [38, 97, 109, 112, 59]) := bs_append L [38, 97, 109, 112, 59]
    have HN : Hid (L ++ [38, 97, 109, 112, 59] = escS true (s.take (i + 1))) := Lh (by rw [← HS.out]; congr 1; unfold escC; simp [h38])
    clear HS HEX cb
    go_wp2_with fail
    go_roundw
    case rel => exact ⟨i + 1, L ++ [38, 97, 109, 112, 59], by go_num, rfl, by omega, HN, hX⟩
    case measure => simp only [downV]; omega
   have e38 : ((c.toNat : Int) == 38) = false := by rw [beq_eq_false_iff_ne]; omega
   by_cases h60 : c.toNat = 60
   ·
    have g1 : ¬ 9223372036854775807 < (bs L).size + (⟨#[38, 108, 116, 59]⟩ : ByteArray).size := by rw [show (⟨#[38, 108, 116, 59]⟩ : ByteArray).size = 4 from rfl]; omega
    have g2 : bs L ++ ⟨#[38, 108, 116, 59]⟩ = bs (L ++ [38, 108, 116, 59]) := bs_append L [38, 108, 116, 59]
    have HN : Hid (L ++ [38, 108, 116, 59] = escS true (s.take (i + 1))) := Lh (by rw [← HS.out]; congr 1; unfold escC; simp [h60])
    clear HS HEX cb
    go_wp2_with fail
    go_roundw
    case rel => exact ⟨i + 1, L ++ [38, 108, 116, 59], by go_num, rfl, by omega, HN, hX⟩
    case measure => simp only [downV]; omega
   have e60 : ((c.toNat : Int) == 60) = false := by rw [beq_eq_false_iff_ne]; omega
   by_cases h13 : c.toNat = 13
   ·
    have g1 : ¬ 9223372036854775807 < (bs L).size + (⟨#[38, 35, 49, 51, 59]⟩ : ByteArray).size := by rw [show (⟨#[38, 35, 49, 51, 59]⟩ : ByteArray).size = 5 from rfl]; omega
    have g2 : bs L ++ ⟨#[38, 35, 49, 51, 59]⟩ = bs (L ++ [38, 35, 49, 51, 59]) := bs_append L [38, 35, 49, 51, 59]
    have HN : Hid (L ++ [38, 35, 49, 51, 59] = escS true (s.take (i + 1))) := Lh (by rw [← HS.out]; congr 1; unfold escC; simp [h13])
    clear HS HEX cb
    go_wp2_with fail
    go_roundw
    case rel => exact ⟨i + 1, L ++ [38, 35, 49, 51, 59], by go_num, rfl, by omega, HN, hX⟩
    case measure => simp only [downV]; omega
   have e13 : ((c.toNat : Int) == 13) = false := by rw [beq_eq_false_iff_ne]; omega
   by_cases h62 : c.toNat = 62
   ·
    have g1 : ¬ 9223372036854775807 < (bs L).size + (bs [c]).size := by rw [bs_size [c]]; simp; omega
    have g2 : bs L ++ bs [c] = bs (L ++ [c]) := bs_append L [c]
    have HN : Hid (L ++ [c] = escS true (s.take (i + 1))) := Lh (by rw [← HS.out]; congr 1; unfold escC; simp [h62])
    have hex := HEX.out
    clear HS HEX cb
    go_wp2_with fail
    go_roundw
    case rel => exact ⟨i + 1, L ++ [c], by go_num, rfl, by omega, HN, hX⟩
    case measure => simp only [downV]; omega
   have e62 : ((c.toNat : Int) == 62) = false := by rw [beq_eq_false_iff_ne]; omega
   by_cases h34 : c.toNat = 34
   ·
    have g1 : ¬ 9223372036854775807 < (bs L).size + (⟨#[38, 113, 117, 111, 116, 59]⟩ : ByteArray).size := by rw [show (⟨#[38, 113, 117, 111, 116, 59]⟩ : ByteArray).size = 6 from rfl]; omega
    have g2 : bs L ++ ⟨#[38, 113, 117, 111, 116, 59]⟩ = bs (L ++ [38, 113, 117, 111, 116, 59]) := bs_append L [38, 113, 117, 111, 116, 59]
    have HN : Hid (L ++ [38, 113, 117, 111, 116, 59] = escS true (s.take (i + 1))) := Lh (by rw [← HS.out]; congr 1; unfold escC; simp [h34])
    clear HS HEX cb
    go_wp2_with fail
    go_roundw
    case rel => exact ⟨i + 1, L ++ [38, 113, 117, 111, 116, 59], by go_num, rfl, by omega, HN, hX⟩
    case measure => simp only [downV]; omega
   have e34 : ((c.toNat : Int) == 34) = false := by rw [beq_eq_false_iff_ne]; omega
   by_cases h9 : c.toNat = 9
   ·
    have g1 : ¬ 9223372036854775807 < (bs L).size + (⟨#[38, 35, 57, 59]⟩ : ByteArray).size := by rw [show (⟨#[38, 35, 57, 59]⟩ : ByteArray).size = 4 from rfl]; omega
    have g2 : bs L ++ ⟨#[38, 35, 57, 59]⟩ = bs (L ++ [38, 35, 57, 59]) := bs_append L [38, 35, 57, 59]
    have HN : Hid (L ++ [38, 35, 57, 59] = escS true (s.take (i + 1))) := Lh (by rw [← HS.out]; congr 1; unfold escC; simp [h9])
    clear HS HEX cb
    go_wp2_with fail
    go_roundw
    case rel => exact ⟨i + 1, L ++ [38, 35, 57, 59], by go_num, rfl, by omega, HN, hX⟩
    case measure => simp only [downV]; omega
   have e9 : ((c.toNat : Int) == 9) = false := by rw [beq_eq_false_iff_ne]; omega
   by_cases h10 : c.toNat = 10
   ·
    have g1 : ¬ 9223372036854775807 < (bs L).size + (⟨#[38, 35, 49, 48, 59]⟩ : ByteArray).size := by rw [show (⟨#[38, 35, 49, 48, 59]⟩ : ByteArray).size = 5 from rfl]; omega
    have g2 : bs L ++ ⟨#[38, 35, 49, 48, 59]⟩ = bs (L ++ [38, 35, 49, 48, 59]) := bs_append L [38, 35, 49, 48, 59]
    have HN : Hid (L ++ [38, 35, 49, 48, 59] = escS true (s.take (i + 1))) := Lh (by rw [← HS.out]; congr 1; unfold escC; simp [h10])
    clear HS HEX cb
    go_wp2_with fail
    go_roundw
    case rel => exact ⟨i + 1, L ++ [38, 35, 49, 48, 59], by go_num, rfl, by omega, HN, hX⟩
    case measure => simp only [downV]; omega
   have e10 : ((c.toNat : Int) == 10) = false := by rw [beq_eq_false_iff_ne]; omega
   have g1 : ¬ 9223372036854775807 < (bs L).size + (bs [c]).size := by rw [bs_size [c]]; simp; omega
   have g2 : bs L ++ bs [c] = bs (L ++ [c]) := bs_append L [c]
   have HN : Hid (L ++ [c] = escS true (s.take (i + 1))) := Lh (by rw [← HS.out]; congr 1; unfold escC; simp [h38, h60, h13, h62, h34, h9, h10])
   have hex := HEX.out
   clear HS HEX h38 h60 h13 h62 h34 h9 h10
   go_wp2_with fail
   go_roundw
   case rel => exact ⟨i + 1, L ++ [c], by go_num, rfl, by omega, HN, hX⟩
   case measure => simp only [downV]; omega
  ·
   have hlI : ¬ (i : Int) < ((bs s).size : Int) := by omega
   have HN : Hid (L = R) := Lh (by rw [HL.out, ← HR.out, List.take_of_length_le (by rw [bs_size] at hlt; omega)])
   clear HL
   go_wp2_with fail
   go_ret
   exact ⟨ret_string (by rw [HN.out]), hX⟩
def attrT (a : Attr) : Bytes := [32] ++ a.n ++ [61, 34] ++ escS true a.v ++ [34]
mutual
def txtN : Node → Bytes
 | .mk k n t la ks =>
  if k = 2 then escS false t
  else if k = 3 then [60, 33, 45, 45] ++ t ++ [45, 45, 62]
  else if k = 4 then (if t = [] then [60, 63] ++ n ++ [63, 62] else [60, 63] ++ n ++ [32] ++ t ++ [63, 62])
  else if k ≠ 1 then []
  else if ks.length = 0 then ([60] ++ n ++ la.flatMap attrT) ++ [47, 62]
  else ([60] ++ n ++ la.flatMap attrT) ++ [62] ++ txtL ks ++ [60, 47] ++ n ++ [62]
def txtL : List Node → Bytes
 | [] => []
 | n :: r => txtN n ++ txtL r
end
theorem attrT_len (a : Attr) : (attrT a).length ≤ 6 * (1 + a.n.length + a.v.length) := by
 have := escS_len true a.v
 unfold attrT; simp; omega
theorem attrsT_len : ∀ l : List Attr, (l.flatMap attrT).length ≤ 6 * cntA l
 | [] => by simp
 | a :: r => by
  have h1 := attrT_len a
  have h2 := attrsT_len r
  rw [List.flatMap_cons, List.length_append, cntA]; omega
mutual
theorem txtN_len : ∀ n : Node, (txtN n).length ≤ 12 * cntN n
 | .mk k n t la ks => by
  have h1 := escS_len false t
  have h2 := attrsT_len la
  have h3 := txtL_len ks
  rw [txtN, cntN]
  repeat' split
  all_goals ((try simp only [List.length_append, List.length_cons, List.length_nil]); omega)
theorem txtL_len : ∀ l : List Node, (txtL l).length ≤ 12 * cntL l
 | [] => by simp [txtL, cntL]
 | n :: r => by
  have h1 := txtN_len n
  have h2 := txtL_len r
  rw [txtL, cntL, List.length_append]; omega
end
theorem txtL_take (l : List Node) (i : Nat) (h : i < l.length) : txtL (l.take (i + 1)) = txtL (l.take i) ++ txtN l[i] := by
 have gen : ∀ (x y : List Node), txtL (x ++ y) = txtL x ++ txtL y := by
  intro x
  induction x with
  | nil => intro y; simp [txtL]
  | cons n r ih => intro y; rw [List.cons_append, txtL, txtL, ih, List.append_assoc]
 rw [List.take_add_one, List.getElem?_eq_getElem h, gen]; simp [txtL]
theorem txtL_takelen (l : List Node) (i : Nat) : (txtL (l.take i)).length ≤ 12 * cntL l := by
 have h1 := txtL_len (l.take i)
 have h2 : cntL (l.take i) ≤ cntL l := by
  clear h1
  induction l generalizing i with
  | nil => simp [cntL]
  | cons n r ih =>
   cases i with
   | zero => simp [cntL]
   | succ i => rw [List.take_succ_cons, cntL, cntL]; have := ih i; omega
 omega
theorem cntL_mem (l : List Node) (i : Nat) (h : i < l.length) : cntN l[i] ≤ cntL l := by
 induction l generalizing i with
 | nil => simp at h
 | cons n r ih =>
  cases i with
  | zero => rw [cntL]; simp
  | succ i => rw [cntL]; have := ih i (by simpa using h); simp only [List.getElem_cons_succ]; omega
def NodeTxt (N : Nat) : Prop := ∀ (a : Node) (p : Nat → Prop) (va vk : Value) (w : World), nsz a ≤ N → cntN a ≤ 1048576 → Rep w p va (attrsD a.attrs) → Rep w p vk (nodesD a.kids) →
  Calls Tryz.prog 148 #[.agg #[.int .i64 a.kind, .string (bs a.name), .string (bs a.text), va, vk]] w fun e w' => e = .returned (.string (bs (txtN a))) ∧ Ext w w'
theorem cntA_take : ∀ (l : List Attr) (i : Nat), cntA (l.take i) ≤ cntA l
 | [], i => by simp [cntA]
 | a :: r, 0 => by simp [cntA]
 | a :: r, i + 1 => by rw [List.take_succ_cons, cntA, cntA]; have := cntA_take r i; omega
theorem cntA_mem : ∀ (l : List Attr) (i : Nat) (h : i < l.length), 1 + l[i].n.length + l[i].v.length ≤ cntA l
 | [], i, h => by simp at h
 | a :: r, 0, h => by rw [cntA]; simp
 | a :: r, i + 1, h => by rw [cntA]; have := cntA_mem r i (by simpa using h); simp only [List.getElem_cons_succ]; omega
theorem nodestxt_of (N : Nat) (HN0 : Hid (NodeTxt N)) (ks : List Node) (p : Nat → Prop) (v : Value) (w : World) (hN : ∀ (i : Nat) (h : i < ks.length), nsz ks[i] ≤ N) (hcnt : cntL ks ≤ 1048576) (hv : Rep w p v (nodesD ks)) :
  Calls Tryz.prog 135 #[v] w fun e w' => e = .returned (.string (bs (txtL ks))) ∧ Ext w w' := by
 obtain ⟨a, c, rfl, hc1, hc2⟩ := hv.count z_node (by omega)
 obtain ⟨R, hR⟩ : ∃ R, txtL ks = R := ⟨_, rfl⟩
 rw [hR]
 have HR := Lh hR
 have HM := Lh hN
 clear hR hN
 go_enter Tryz.func135, Tryz.ntmps135
 go_wp2_with fail
 go_loopw [3, 4] (fun o t wr => ∃ (i : Nat) (S : Bytes), t = .int .i64 i ∧ o = .string (bs S) ∧ i ≤ ks.length ∧ Hid (S = txtL (ks.take i)) ∧ Ext w wr) (fun _ t _ => downV ks.length t)
 case atStart => exact ⟨0, [], rfl, rfl, Nat.zero_le _, Lh (by simp [txtL]), Ext.refl _⟩
 case round =>
  obtain ⟨i, S, rfl, rfl, hi, HS, hX⟩ := hrel
  have hi0 : (0 : Int) ≤ (i : Int) := by omega
  by_cases hlt : i < ks.length
  ·
   have hlI : (i : Int) < (ks.length : Int) := by omega
   obtain ⟨g, o, x1, x2, rfl, hb, _, e0, e1, e2, e3, e4, hr1, hr2⟩ := node_at (hv.ext hX) i hlt
   have hT := txtL_take ks i hlt
   have hm := HM.out i hlt
   have hci := cntL_mem ks i hlt
   have hSl : S.length ≤ 12582912 := by rw [HS.out]; have := txtL_takelen ks i; omega
   obtain ⟨x, hx⟩ : ∃ x, ks[i] = x := ⟨_, rfl⟩
   rw [hx] at e0 e1 e2 hr1 hr2 hT hm hci
   have hxl := txtN_len x
   have HC := Lh fun W (hE : Ext wr W) => HN0.out x p x1 x2 W hm (by omega) (hr1.ext hE) (hr2.ext hE)
   obtain ⟨T, hTT⟩ : ∃ T, txtN x = T := ⟨_, rfl⟩
   rw [hTT] at HC hT hxl
   have HN : Hid (S ++ T = txtL (ks.take (i + 1))) := Lh (by rw [hT, HS.out])
   have g1 : ¬ 9223372036854775807 < (bs S).size + (bs T).size := by rw [bs_size, bs_size]; omega
   have g2 : bs S ++ bs T = bs (S ++ T) := bs_append S T
   clear hx hTT hT hxl hm hci hSl HS
   go_wp2_with fail
   refine (HC.out _ (Ext.refl _)).mono ?_
   rintro e w1 ⟨rfl, hB1⟩
   go_wp2_with fail
   go_roundw
   case rel => exact ⟨i + 1, S ++ T, by go_num, rfl, by omega, HN, hX.trans hB1⟩
   case measure => simp only [downV]; omega
  ·
   have hlI : ¬ (i : Int) < (ks.length : Int) := by omega
   have HN : Hid (S = R) := Lh (by rw [HS.out, ← HR.out, List.take_of_length_le (by omega)])
   clear HS
   go_wp2_with fail
   go_ret
   exact ⟨ret_string (by rw [HN.out]), hX⟩
theorem nodetxt_any : ∀ N : Nat, NodeTxt N := by
 intro N
 induction N with
 | zero => intro a p va vk w hN; cases a; rw [nsz] at hN; omega
 | succ N ih =>
  have IH : Hid (NodeTxt N) := Lh ih
  clear ih
  intro a p va vk w hN hcnt hva hvk
  have hkid := fun i h => kid_lt a i h
  obtain ⟨k, nm, tx, la, ks⟩ := a
  simp only [Node.kind, Node.name, Node.text, Node.attrs, Node.kids] at *
  obtain ⟨ba, ca, rfl, ha1, ha2⟩ := hva.count z_attr (by omega)
  obtain ⟨bk, ck, rfl, hk1, hk2⟩ := hvk.count z_node (by omega)
  obtain ⟨R, hR⟩ : ∃ R, txtN (.mk k nm tx la ks) = R := ⟨_, rfl⟩
  rw [hR]
  rw [txtN] at hR
  rw [cntN] at hcnt
  have hM : ∀ (i : Nat) (h : i < ks.length), nsz ks[i] ≤ N := fun i h => by have := hkid i h; omega
  have b1 : nm.length ≤ 1048576 := by omega
  have b2 : tx.length ≤ 1048576 := by omega
  have b3 : (la.flatMap attrT).length ≤ 6291456 := by have := attrsT_len la; omega
  have b4 : (txtL ks).length ≤ 12582912 := by have := txtL_len ks; omega
  have HTL := Lh fun W (hE : Ext w W) => nodestxt_of N IH ks p _ W hM (by omega) (hvk.ext hE)
  have HE0 := Lh fun W => esc_false tx W b2
  clear hkid hN hM
  by_cases k2 : k = 2
  ·
   subst k2
   have HN : Hid (escS false tx = R) := Lh (by rw [← hR, if_pos rfl])
   clear hR HTL hva hvk hcnt b1 b2 b3 b4
   go_enter Tryz.func148, Tryz.ntmps148
   go_wp2_with fail
   refine (HE0.out _).mono ?_
   rintro e w1 ⟨rfl, hB1⟩
   go_wp2_with fail
   go_ret
   exact ⟨ret_string (by rw [HN.out]), ((Ext.refl w).alloc _).trans hB1⟩
  ·
   have t2 : (k == 2) = false := by rw [beq_eq_false_iff_ne]; exact k2
   rw [if_neg k2] at hR
   by_cases k3 : k = 3
   ·
    subst k3
    rw [if_pos rfl] at hR
    obtain ⟨Za0, hZa0⟩ : ∃ z : Bytes, z = [60, 33, 45, 45] ++ tx := ⟨_, rfl⟩
    have qa0 : (⟨#[60, 33, 45, 45]⟩ : ByteArray) ++ bs tx = bs Za0 := by rw [hZa0]; exact bs_append ([60, 33, 45, 45]) (tx)
    have ra0 : ¬ 9223372036854775807 < ((⟨#[60, 33, 45, 45]⟩ : ByteArray)).size + (bs tx).size := by rw [show ((⟨#[60, 33, 45, 45]⟩ : ByteArray) : ByteArray) = bs ([60, 33, 45, 45]) from rfl, show (bs tx : ByteArray) = bs (tx) from rfl, bs_size, bs_size]; simp only [List.length_append, List.length_cons, List.length_nil]; omega
    obtain ⟨Za1, hZa1⟩ : ∃ z : Bytes, z = [60, 33, 45, 45] ++ tx ++ [45, 45, 62] := ⟨_, rfl⟩
    have qa1 : bs Za0 ++ (⟨#[45, 45, 62]⟩ : ByteArray) = bs Za1 := by rw [hZa1, hZa0]; exact bs_append ([60, 33, 45, 45] ++ tx) ([45, 45, 62])
    have ra1 : ¬ 9223372036854775807 < (bs Za0).size + ((⟨#[45, 45, 62]⟩ : ByteArray)).size := by rw [hZa0]; rw [show (bs ([60, 33, 45, 45] ++ tx) : ByteArray) = bs ([60, 33, 45, 45] ++ tx) from rfl, show ((⟨#[45, 45, 62]⟩ : ByteArray) : ByteArray) = bs ([45, 45, 62]) from rfl, bs_size, bs_size]; simp only [List.length_append, List.length_cons, List.length_nil]; omega
    have sa1 : (bs Za0).size ≤ 9223372036854775804 := by rw [hZa0]; rw [show (bs ([60, 33, 45, 45] ++ tx) : ByteArray) = bs ([60, 33, 45, 45] ++ tx) from rfl, bs_size]; simp only [List.length_append, List.length_cons, List.length_nil]; omega
    have HZa := Lh hZa1
    clear hZa0 hZa1
    have HN := Lh hR
    clear hR HTL hva hvk hcnt b1 b2 b3 b4 k2 HE0
    go_enter Tryz.func148, Tryz.ntmps148
    go_wp2_with fail
    go_ret
    exact ⟨ret_string (by rw [← HN.out, ← HZa.out]), (Ext.refl w).alloc _⟩
   ·
    have t3 : (k == 3) = false := by rw [beq_eq_false_iff_ne]; exact k3
    rw [if_neg k3] at hR
    by_cases k4 : k = 4
    ·
     subst k4
     rw [if_pos rfl] at hR
     by_cases ht : tx = []
     ·
      subst ht
      rw [if_pos rfl] at hR
      have e0 : (bs []).toList.isEmpty = true := by rw [bs_toList]; rfl
      have e1 : ((bs []).toList) = [] := by rw [bs_toList]
      obtain ⟨Za0, hZa0⟩ : ∃ z : Bytes, z = [60, 63] ++ nm := ⟨_, rfl⟩
      have qa0 : (⟨#[60, 63]⟩ : ByteArray) ++ bs nm = bs Za0 := by rw [hZa0]; exact bs_append ([60, 63]) (nm)
      have ra0 : ¬ 9223372036854775807 < ((⟨#[60, 63]⟩ : ByteArray)).size + (bs nm).size := by rw [show ((⟨#[60, 63]⟩ : ByteArray) : ByteArray) = bs ([60, 63]) from rfl, show (bs nm : ByteArray) = bs (nm) from rfl, bs_size, bs_size]; simp only [List.length_append, List.length_cons, List.length_nil]; omega
      obtain ⟨Za1, hZa1⟩ : ∃ z : Bytes, z = [60, 63] ++ nm ++ [63, 62] := ⟨_, rfl⟩
      have qa1 : bs Za0 ++ (⟨#[63, 62]⟩ : ByteArray) = bs Za1 := by rw [hZa1, hZa0]; exact bs_append ([60, 63] ++ nm) ([63, 62])
      have ra1 : ¬ 9223372036854775807 < (bs Za0).size + ((⟨#[63, 62]⟩ : ByteArray)).size := by rw [hZa0]; rw [show (bs ([60, 63] ++ nm) : ByteArray) = bs ([60, 63] ++ nm) from rfl, show ((⟨#[63, 62]⟩ : ByteArray) : ByteArray) = bs ([63, 62]) from rfl, bs_size, bs_size]; simp only [List.length_append, List.length_cons, List.length_nil]; omega
      have sa1 : (bs Za0).size ≤ 9223372036854775805 := by rw [hZa0]; rw [show (bs ([60, 63] ++ nm) : ByteArray) = bs ([60, 63] ++ nm) from rfl, bs_size]; simp only [List.length_append, List.length_cons, List.length_nil]; omega
      have HZa := Lh hZa1
      clear hZa0 hZa1
      have HN := Lh hR
      clear hR HTL hva hvk hcnt b1 b2 b3 b4 k2 k3 HE0
      go_enter Tryz.func148, Tryz.ntmps148
      go_wp2_with fail
      go_ret
      exact ⟨ret_string (by rw [← HN.out, ← HZa.out]), (Ext.refl w).alloc _⟩
     ·
      rw [if_neg ht] at hR
      have e0 : (bs tx).toList.isEmpty = false := by rw [bs_toList]; cases tx; exact absurd rfl ht; rfl
      have e1 : ¬ (bs tx).toList = [] := by rw [bs_toList]; exact ht
      obtain ⟨Za0, hZa0⟩ : ∃ z : Bytes, z = [60, 63] ++ nm := ⟨_, rfl⟩
      have qa0 : (⟨#[60, 63]⟩ : ByteArray) ++ bs nm = bs Za0 := by rw [hZa0]; exact bs_append ([60, 63]) (nm)
      have ra0 : ¬ 9223372036854775807 < ((⟨#[60, 63]⟩ : ByteArray)).size + (bs nm).size := by rw [show ((⟨#[60, 63]⟩ : ByteArray) : ByteArray) = bs ([60, 63]) from rfl, show (bs nm : ByteArray) = bs (nm) from rfl, bs_size, bs_size]; simp only [List.length_append, List.length_cons, List.length_nil]; omega
      obtain ⟨Za1, hZa1⟩ : ∃ z : Bytes, z = [60, 63] ++ nm ++ [32] := ⟨_, rfl⟩
      have qa1 : bs Za0 ++ (⟨#[32]⟩ : ByteArray) = bs Za1 := by rw [hZa1, hZa0]; exact bs_append ([60, 63] ++ nm) ([32])
      have ra1 : ¬ 9223372036854775807 < (bs Za0).size + ((⟨#[32]⟩ : ByteArray)).size := by rw [hZa0]; rw [show (bs ([60, 63] ++ nm) : ByteArray) = bs ([60, 63] ++ nm) from rfl, show ((⟨#[32]⟩ : ByteArray) : ByteArray) = bs ([32]) from rfl, bs_size, bs_size]; simp only [List.length_append, List.length_cons, List.length_nil]; omega
      have sa1 : (bs Za0).size ≤ 9223372036854775806 := by rw [hZa0]; rw [show (bs ([60, 63] ++ nm) : ByteArray) = bs ([60, 63] ++ nm) from rfl, bs_size]; simp only [List.length_append, List.length_cons, List.length_nil]; omega
      obtain ⟨Za2, hZa2⟩ : ∃ z : Bytes, z = [60, 63] ++ nm ++ [32] ++ tx := ⟨_, rfl⟩
      have qa2 : bs Za1 ++ bs tx = bs Za2 := by rw [hZa2, hZa1]; exact bs_append ([60, 63] ++ nm ++ [32]) (tx)
      have ra2 : ¬ 9223372036854775807 < (bs Za1).size + (bs tx).size := by rw [hZa1]; rw [show (bs ([60, 63] ++ nm ++ [32]) : ByteArray) = bs ([60, 63] ++ nm ++ [32]) from rfl, show (bs tx : ByteArray) = bs (tx) from rfl, bs_size, bs_size]; simp only [List.length_append, List.length_cons, List.length_nil]; omega
      obtain ⟨Za3, hZa3⟩ : ∃ z : Bytes, z = [60, 63] ++ nm ++ [32] ++ tx ++ [63, 62] := ⟨_, rfl⟩
      have qa3 : bs Za2 ++ (⟨#[63, 62]⟩ : ByteArray) = bs Za3 := by rw [hZa3, hZa2]; exact bs_append ([60, 63] ++ nm ++ [32] ++ tx) ([63, 62])
      have ra3 : ¬ 9223372036854775807 < (bs Za2).size + ((⟨#[63, 62]⟩ : ByteArray)).size := by rw [hZa2]; rw [show (bs ([60, 63] ++ nm ++ [32] ++ tx) : ByteArray) = bs ([60, 63] ++ nm ++ [32] ++ tx) from rfl, show ((⟨#[63, 62]⟩ : ByteArray) : ByteArray) = bs ([63, 62]) from rfl, bs_size, bs_size]; simp only [List.length_append, List.length_cons, List.length_nil]; omega
      have sa3 : (bs Za2).size ≤ 9223372036854775805 := by rw [hZa2]; rw [show (bs ([60, 63] ++ nm ++ [32] ++ tx) : ByteArray) = bs ([60, 63] ++ nm ++ [32] ++ tx) from rfl, bs_size]; simp only [List.length_append, List.length_cons, List.length_nil]; omega
      have HZa := Lh hZa3
      clear hZa0 hZa1 hZa2 hZa3
      have HN := Lh hR
      clear hR HTL hva hvk hcnt b1 b2 b3 b4 k2 k3 HE0 ht
      go_enter Tryz.func148, Tryz.ntmps148
      go_wp2_with fail
      go_ret
      exact ⟨ret_string (by rw [← HN.out, ← HZa.out]), (Ext.refl w).alloc _⟩
    ·
     have t4 : (k == 4) = false := by rw [beq_eq_false_iff_ne]; exact k4
     rw [if_neg k4] at hR
     by_cases k1 : k = 1
     ·
      subst k1
      rw [if_neg (by decide)] at hR
      have t1 : ((1 : Int) != 1) = false := by rfl
      have HEA := Lh fun (s : Bytes) (hs : s.length ≤ 1048576) W => esc_true s W hs
      have HCA : Hid (cntA la ≤ 1048576) := Lh (by omega)
      have Hb := Lh (And.intro b1 b4)
      obtain ⟨Zh0, hZh0⟩ : ∃ z : Bytes, z = [60] ++ nm := ⟨_, rfl⟩
      have qh0 : (⟨#[60]⟩ : ByteArray) ++ bs nm = bs Zh0 := by rw [hZh0]; exact bs_append ([60]) (nm)
      have rh0 : ¬ 9223372036854775807 < ((⟨#[60]⟩ : ByteArray)).size + (bs nm).size := by rw [show ((⟨#[60]⟩ : ByteArray) : ByteArray) = bs ([60]) from rfl, show (bs nm : ByteArray) = bs (nm) from rfl, bs_size, bs_size]; simp only [List.length_append, List.length_cons, List.length_nil]; omega
      have HZh := Lh hZh0
      clear hZh0
      have HR := Lh hR
      clear hR hvk hcnt b2 b3 b4 k2 k3 k4 HE0
      go_enter Tryz.func148, Tryz.ntmps148
      go_wp2_with fail
      obtain ⟨w1, hw1⟩ : ∃ w1, (w.alloc (.cells #[.int .i64 1, .string (bs nm), .string (bs tx), .slice ba la.length ca, .slice bk ks.length ck] 60)) = w1 := ⟨_, rfl⟩
      have hE1 : Ext w w1 := by rw [← hw1]; exact (Ext.refl w).alloc _
      have l0 : w.heap.size < w1.heap.size := by rw [← hw1]; simp
      have c1 : w1.cell? ⟨w.heap.size, 1, none⟩ = some (.string (bs nm)) := by rw [← hw1]; simp [go_sem]
      have c3 : w1.cell? ⟨w.heap.size, 3, none⟩ = some (.slice ba la.length ca) := by rw [← hw1]; simp [go_sem]
      have c4 : w1.cell? ⟨w.heap.size, 4, none⟩ = some (.slice bk ks.length ck) := by rw [← hw1]; simp [go_sem]
      rw [hw1]
      clear hw1
      go_loopw [3, 4] (fun o t wr => ∃ (i : Nat) (S : Bytes), t = .int .i64 i ∧ o = .string (bs S) ∧ i ≤ la.length ∧ Hid (S = [60] ++ nm ++ (la.take i).flatMap attrT) ∧ Ext w1 wr) (fun _ t _ => downV la.length t)
      case atStart => exact ⟨0, Zh0, rfl, rfl, Nat.zero_le _, Lh (by rw [HZh.out]; simp), Ext.refl _⟩
      case round =>
       obtain ⟨i, S, rfl, rfl, hi, HS, hX⟩ := hrel
       have hi0 : (0 : Int) ≤ (i : Int) := by omega
       have c1r := hX.keep l0 c1
       have c3r := hX.keep l0 c3
       have c4r := hX.keep l0 c4
       have l0r : w.heap.size < wr.heap.size := Nat.lt_of_lt_of_le l0 hX.size
       have hSl : S.length ≤ 8388608 := by
        rw [HS.out]
        have h1 := attrsT_len (la.take i)
        have h2 := cntA_take la i
        have h3 := HCA.out
        have h4 := Hb.out.1
        simp only [List.length_append, List.length_cons, List.length_nil]; omega
       by_cases hlt : i < la.length
       ·
        have hlI : (i : Int) < (la.length : Int) := by omega
        obtain ⟨g1, o1, rfl, lb1, _, e1, e2⟩ := attr_at (hva.ext (hE1.trans hX)) i hlt
        have hst : (la.take (i + 1)).flatMap attrT = (la.take i).flatMap attrT ++ attrT la[i] := by rw [List.take_add_one, List.getElem?_eq_getElem hlt, List.flatMap_append]; simp
        have hci := cntA_mem la i hlt
        have hca := HCA.out
        obtain ⟨x, hx⟩ : ∃ x, la[i] = x := ⟨_, rfl⟩
        rw [hx] at e1 e2 hst hci
        have hxn : x.n.length ≤ 1048576 := by omega
        have HEC := Lh fun W => HEA.out x.v (by omega) W
        have hTl := escS_len true x.v
        obtain ⟨T, hT⟩ : ∃ T, escS true x.v = T := ⟨_, rfl⟩
        rw [hT] at HEC hTl
        have hTl2 : T.length ≤ 6291456 := by omega
        have HN : Hid (S ++ [32] ++ x.n ++ [61, 34] ++ T ++ [34] = [60] ++ nm ++ (la.take (i + 1)).flatMap attrT) := Lh (by rw [hst, HS.out]; unfold attrT; rw [hT]; simp)
        obtain ⟨Zp0, hZp0⟩ : ∃ z : Bytes, z = S ++ [32] := ⟨_, rfl⟩
        have qp0 : bs S ++ (⟨#[32]⟩ : ByteArray) = bs Zp0 := by rw [hZp0]; exact bs_append (S) ([32])
        have rp0 : ¬ 9223372036854775807 < (bs S).size + ((⟨#[32]⟩ : ByteArray)).size := by rw [show (bs S : ByteArray) = bs (S) from rfl, show ((⟨#[32]⟩ : ByteArray) : ByteArray) = bs ([32]) from rfl, bs_size, bs_size]; simp only [List.length_append, List.length_cons, List.length_nil]; omega
        have sp0 : (bs S).size ≤ 9223372036854775806 := by rw [show (bs S : ByteArray) = bs (S) from rfl, bs_size]; omega
        obtain ⟨Zp1, hZp1⟩ : ∃ z : Bytes, z = S ++ [32] ++ x.n := ⟨_, rfl⟩
        have qp1 : bs Zp0 ++ bs x.n = bs Zp1 := by rw [hZp1, hZp0]; exact bs_append (S ++ [32]) (x.n)
        have rp1 : ¬ 9223372036854775807 < (bs Zp0).size + (bs x.n).size := by rw [hZp0]; rw [show (bs (S ++ [32]) : ByteArray) = bs (S ++ [32]) from rfl, show (bs x.n : ByteArray) = bs (x.n) from rfl, bs_size, bs_size]; simp only [List.length_append, List.length_cons, List.length_nil]; omega
        obtain ⟨Zp2, hZp2⟩ : ∃ z : Bytes, z = S ++ [32] ++ x.n ++ [61, 34] := ⟨_, rfl⟩
        have qp2 : bs Zp1 ++ (⟨#[61, 34]⟩ : ByteArray) = bs Zp2 := by rw [hZp2, hZp1]; exact bs_append (S ++ [32] ++ x.n) ([61, 34])
        have rp2 : ¬ 9223372036854775807 < (bs Zp1).size + ((⟨#[61, 34]⟩ : ByteArray)).size := by rw [hZp1]; rw [show (bs (S ++ [32] ++ x.n) : ByteArray) = bs (S ++ [32] ++ x.n) from rfl, show ((⟨#[61, 34]⟩ : ByteArray) : ByteArray) = bs ([61, 34]) from rfl, bs_size, bs_size]; simp only [List.length_append, List.length_cons, List.length_nil]; omega
        have sp2 : (bs Zp1).size ≤ 9223372036854775805 := by rw [hZp1]; rw [show (bs (S ++ [32] ++ x.n) : ByteArray) = bs (S ++ [32] ++ x.n) from rfl, bs_size]; simp only [List.length_append, List.length_cons, List.length_nil]; omega
        obtain ⟨Zp3, hZp3⟩ : ∃ z : Bytes, z = S ++ [32] ++ x.n ++ [61, 34] ++ T := ⟨_, rfl⟩
        have qp3 : bs Zp2 ++ bs T = bs Zp3 := by rw [hZp3, hZp2]; exact bs_append (S ++ [32] ++ x.n ++ [61, 34]) (T)
        have rp3 : ¬ 9223372036854775807 < (bs Zp2).size + (bs T).size := by rw [hZp2]; rw [show (bs (S ++ [32] ++ x.n ++ [61, 34]) : ByteArray) = bs (S ++ [32] ++ x.n ++ [61, 34]) from rfl, show (bs T : ByteArray) = bs (T) from rfl, bs_size, bs_size]; simp only [List.length_append, List.length_cons, List.length_nil]; omega
        obtain ⟨Zp4, hZp4⟩ : ∃ z : Bytes, z = S ++ [32] ++ x.n ++ [61, 34] ++ T ++ [34] := ⟨_, rfl⟩
        have qp4 : bs Zp3 ++ (⟨#[34]⟩ : ByteArray) = bs Zp4 := by rw [hZp4, hZp3]; exact bs_append (S ++ [32] ++ x.n ++ [61, 34] ++ T) ([34])
        have rp4 : ¬ 9223372036854775807 < (bs Zp3).size + ((⟨#[34]⟩ : ByteArray)).size := by rw [hZp3]; rw [show (bs (S ++ [32] ++ x.n ++ [61, 34] ++ T) : ByteArray) = bs (S ++ [32] ++ x.n ++ [61, 34] ++ T) from rfl, show ((⟨#[34]⟩ : ByteArray) : ByteArray) = bs ([34]) from rfl, bs_size, bs_size]; simp only [List.length_append, List.length_cons, List.length_nil]; omega
        have sp4 : (bs Zp3).size ≤ 9223372036854775806 := by rw [hZp3]; rw [show (bs (S ++ [32] ++ x.n ++ [61, 34] ++ T) : ByteArray) = bs (S ++ [32] ++ x.n ++ [61, 34] ++ T) from rfl, bs_size]; simp only [List.length_append, List.length_cons, List.length_nil]; omega
        have HZp := Lh hZp4
        clear hZp0 hZp1 hZp2 hZp3 hZp4
        obtain ⟨wz, hwz⟩ : ∃ wz, wz = wr := ⟨_, rfl⟩
        subst hwz
        clear hx hst hci hca hTl hT hxn hTl2 hSl HS
        go_wp2_with fail
        refine rg_begin (S := Sx wz) (by kernel_rfl) (Sx.begin _) ?_
        have hS : Sx wz (World.drew wz) := (Sx.begin _)
        refine rg_t 0 (some 49) (.string (bs S)) rfl hS (fun w' hs => by rfl) ?_
        simp only [Act.put, sA, sZ, sS]
        refine rg_t 1 (some 50) (.string (bs Zp0)) rfl hS (fun w' hs => by first | rfl | go_simp) ?_
        simp only [Act.put, sA, sZ, sS]
        refine rg_t 2 (some 51) (.pointer (some ⟨w.heap.size, 3, none⟩)) rfl hS (fun w' hs => by first | rfl | go_simp) ?_
        simp only [Act.put, sA, sZ, sS]
        refine rg_t 3 (some 52) (.slice (some ⟨g1, o1, none⟩) la.length ca) rfl hS (fun w' hs => by (have h0 := hs.cell l0r c3r; go_simp)) ?_
        simp only [Act.put, sA, sZ, sS]
        refine rg_t 4 (some 53) (.int .i64 i) rfl hS (fun w' hs => by rfl) ?_
        simp only [Act.put, sA, sZ, sS]
        refine rg_t 5 (some 54) (.pointer (some ⟨g1, o1 + i * 2, none⟩)) rfl hS (fun w' hs => by first | rfl | go_simp) ?_
        simp only [Act.put, sA, sZ, sS]
        refine rg_t 6 (some 55) (.pointer (some ⟨g1, o1 + i * 2, none⟩)) rfl hS (fun w' hs => by first | rfl | go_simp) ?_
        simp only [Act.put, sA, sZ, sS]
        refine rg_t 7 (some 56) (.string (bs x.n)) rfl hS (fun w' hs => by (have h0 := hs.cell lb1 e1; go_simp)) ?_
        simp only [Act.put, sA, sZ, sS]
        refine rg_t 8 (some 57) (.string (bs Zp1)) rfl hS (fun w' hs => by first | rfl | go_simp) ?_
        simp only [Act.put, sA, sZ, sS]
        refine rg_t 9 (some 58) (.string (bs Zp2)) rfl hS (fun w' hs => by first | rfl | go_simp) ?_
        simp only [Act.put, sA, sZ, sS]
        refine rg_t 10 (some 59) (.pointer (some ⟨w.heap.size, 3, none⟩)) rfl hS (fun w' hs => by first | rfl | go_simp) ?_
        simp only [Act.put, sA, sZ, sS]
        refine rg_t 11 (some 60) (.slice (some ⟨g1, o1, none⟩) la.length ca) rfl hS (fun w' hs => by (have h0 := hs.cell l0r c3r; go_simp)) ?_
        simp only [Act.put, sA, sZ, sS]
        refine rg_t 12 (some 61) (.int .i64 i) rfl hS (fun w' hs => by rfl) ?_
        simp only [Act.put, sA, sZ, sS]
        refine rg_t 13 (some 62) (.pointer (some ⟨g1, o1 + i * 2, none⟩)) rfl hS (fun w' hs => by first | rfl | go_simp) ?_
        simp only [Act.put, sA, sZ, sS]
        refine rg_t 14 (some 63) (.pointer (some ⟨g1, o1 + i * 2 + 1, none⟩)) rfl hS (fun w' hs => by first | rfl | go_simp) ?_
        simp only [Act.put, sA, sZ, sS]
        refine rg_t 15 (some 64) (.string (bs x.v)) rfl hS (fun w' hs => by (have h0 := hs.cell lb1 e2; go_simp)) ?_
        simp only [Act.put, sA, sZ, sS]
        refine rg_call 16 (some 65) 163 #[.string (bs x.v), .bool true] rfl rfl (by kernel_rfl) (by rfl) (fun w' => by first | rfl | go_simp) (R := fun v w' => v = .string (bs T) ∧ Ext (World.drew wz) w') ?_ ?_
        ·
         refine (HEC.out (World.drew wz)).mono ?_
         rintro e w' ⟨rfl, h⟩
         exact ⟨_, rfl, rfl, h⟩
        rintro _ wr1 ⟨rfl, hBr1⟩
        have hS1 := hS.ext hBr1
        refine ⟨hS1, ?_⟩
        simp only [Act.put, sA, sZ, sS]
        refine rg_t 17 (some 66) (.string (bs Zp3)) rfl hS1 (fun w' hs => by first | rfl | go_simp) ?_
        simp only [Act.put, sA, sZ, sS]
        refine rg_t 18 (some 67) (.string (bs Zp4)) rfl hS1 (fun w' hs => by first | rfl | go_simp) ?_
        simp only [Act.put, sA, sZ, sS]
        refine rg_t 19 (some 3) (.string (bs Zp4)) rfl hS1 (fun w' hs => by rfl) ?_
        simp only [Act.put, sA, sZ, sS]
        refine rg_done (by kernel_rfl) ?_
        clear qp0 rp0 qp1 rp1 qp2 rp2 qp3 rp3 qp4 rp4
        go_wp2_with fail
        go_roundw
        case rel => exact ⟨i + 1, Zp4, by go_num, rfl, by omega, Lh (by rw [HZp.out]; exact HN.out), hX.trans hS1⟩
        case measure => simp only [downV]; omega
       ·
        have hlI : ¬ (i : Int) < (la.length : Int) := by omega
        have HS2 : Hid (S = [60] ++ nm ++ la.flatMap attrT) := Lh (by rw [HS.out, List.take_of_length_le (by omega)])
        clear HS
        by_cases hk : ks.length = 0
        ·
         have hkI : ((ks.length : Int) == 0) = true := by rw [hk]; rfl
         obtain ⟨Ze0, hZe0⟩ : ∃ z : Bytes, z = S ++ [47, 62] := ⟨_, rfl⟩
         have qe0 : bs S ++ (⟨#[47, 62]⟩ : ByteArray) = bs Ze0 := by rw [hZe0]; exact bs_append (S) ([47, 62])
         have re0 : ¬ 9223372036854775807 < (bs S).size + ((⟨#[47, 62]⟩ : ByteArray)).size := by rw [show (bs S : ByteArray) = bs (S) from rfl, show ((⟨#[47, 62]⟩ : ByteArray) : ByteArray) = bs ([47, 62]) from rfl, bs_size, bs_size]; simp only [List.length_append, List.length_cons, List.length_nil]; omega
         have se0 : (bs S).size ≤ 9223372036854775805 := by rw [show (bs S : ByteArray) = bs (S) from rfl, bs_size]; omega
         have HZe := Lh hZe0
         clear hZe0
         have HN : Hid (S ++ [47, 62] = R) := Lh (by have := HR.out; rw [if_pos hk] at this; rw [← this, HS2.out])
         have hE := hE1.trans hX
         clear hk HS2 hSl
         go_wp2_with fail
         go_ret
         exact ⟨ret_string (by rw [← HN.out, ← HZe.out]), hE⟩
        ·
         have hkI : ((ks.length : Int) == 0) = false := by rw [beq_eq_false_iff_ne]; omega
         have hbn := Hb.out.1
         have hbt := Hb.out.2
         have hE := hE1.trans hX
         obtain ⟨T, hT⟩ : ∃ T, txtL ks = T := ⟨_, rfl⟩
         have HTC := Lh fun W (hEE : Ext wr W) => HTL.out W (hE.trans hEE)
         rw [hT] at HTC hbt
         have HN : Hid (S ++ [62] ++ T ++ [60, 47] ++ nm ++ [62] = R) := Lh (by have := HR.out; rw [if_neg hk] at this; rw [← this, HS2.out, hT])
         obtain ⟨Zu0, hZu0⟩ : ∃ z : Bytes, z = S ++ [62] := ⟨_, rfl⟩
         have qu0 : bs S ++ (⟨#[62]⟩ : ByteArray) = bs Zu0 := by rw [hZu0]; exact bs_append (S) ([62])
         have ru0 : ¬ 9223372036854775807 < (bs S).size + ((⟨#[62]⟩ : ByteArray)).size := by rw [show (bs S : ByteArray) = bs (S) from rfl, show ((⟨#[62]⟩ : ByteArray) : ByteArray) = bs ([62]) from rfl, bs_size, bs_size]; simp only [List.length_append, List.length_cons, List.length_nil]; omega
         have su0 : (bs S).size ≤ 9223372036854775806 := by rw [show (bs S : ByteArray) = bs (S) from rfl, bs_size]; omega
         obtain ⟨Zu1, hZu1⟩ : ∃ z : Bytes, z = S ++ [62] ++ T := ⟨_, rfl⟩
         have qu1 : bs Zu0 ++ bs T = bs Zu1 := by rw [hZu1, hZu0]; exact bs_append (S ++ [62]) (T)
         have ru1 : ¬ 9223372036854775807 < (bs Zu0).size + (bs T).size := by rw [hZu0]; rw [show (bs (S ++ [62]) : ByteArray) = bs (S ++ [62]) from rfl, show (bs T : ByteArray) = bs (T) from rfl, bs_size, bs_size]; simp only [List.length_append, List.length_cons, List.length_nil]; omega
         obtain ⟨Zu2, hZu2⟩ : ∃ z : Bytes, z = S ++ [62] ++ T ++ [60, 47] := ⟨_, rfl⟩
         have qu2 : bs Zu1 ++ (⟨#[60, 47]⟩ : ByteArray) = bs Zu2 := by rw [hZu2, hZu1]; exact bs_append (S ++ [62] ++ T) ([60, 47])
         have ru2 : ¬ 9223372036854775807 < (bs Zu1).size + ((⟨#[60, 47]⟩ : ByteArray)).size := by rw [hZu1]; rw [show (bs (S ++ [62] ++ T) : ByteArray) = bs (S ++ [62] ++ T) from rfl, show ((⟨#[60, 47]⟩ : ByteArray) : ByteArray) = bs ([60, 47]) from rfl, bs_size, bs_size]; simp only [List.length_append, List.length_cons, List.length_nil]; omega
         have su2 : (bs Zu1).size ≤ 9223372036854775805 := by rw [hZu1]; rw [show (bs (S ++ [62] ++ T) : ByteArray) = bs (S ++ [62] ++ T) from rfl, bs_size]; simp only [List.length_append, List.length_cons, List.length_nil]; omega
         obtain ⟨Zu3, hZu3⟩ : ∃ z : Bytes, z = S ++ [62] ++ T ++ [60, 47] ++ nm := ⟨_, rfl⟩
         have qu3 : bs Zu2 ++ bs nm = bs Zu3 := by rw [hZu3, hZu2]; exact bs_append (S ++ [62] ++ T ++ [60, 47]) (nm)
         have ru3 : ¬ 9223372036854775807 < (bs Zu2).size + (bs nm).size := by rw [hZu2]; rw [show (bs (S ++ [62] ++ T ++ [60, 47]) : ByteArray) = bs (S ++ [62] ++ T ++ [60, 47]) from rfl, show (bs nm : ByteArray) = bs (nm) from rfl, bs_size, bs_size]; simp only [List.length_append, List.length_cons, List.length_nil]; omega
         obtain ⟨Zu4, hZu4⟩ : ∃ z : Bytes, z = S ++ [62] ++ T ++ [60, 47] ++ nm ++ [62] := ⟨_, rfl⟩
         have qu4 : bs Zu3 ++ (⟨#[62]⟩ : ByteArray) = bs Zu4 := by rw [hZu4, hZu3]; exact bs_append (S ++ [62] ++ T ++ [60, 47] ++ nm) ([62])
         have ru4 : ¬ 9223372036854775807 < (bs Zu3).size + ((⟨#[62]⟩ : ByteArray)).size := by rw [hZu3]; rw [show (bs (S ++ [62] ++ T ++ [60, 47] ++ nm) : ByteArray) = bs (S ++ [62] ++ T ++ [60, 47] ++ nm) from rfl, show ((⟨#[62]⟩ : ByteArray) : ByteArray) = bs ([62]) from rfl, bs_size, bs_size]; simp only [List.length_append, List.length_cons, List.length_nil]; omega
         have su4 : (bs Zu3).size ≤ 9223372036854775806 := by rw [hZu3]; rw [show (bs (S ++ [62] ++ T ++ [60, 47] ++ nm) : ByteArray) = bs (S ++ [62] ++ T ++ [60, 47] ++ nm) from rfl, bs_size]; simp only [List.length_append, List.length_cons, List.length_nil]; omega
         have HZu := Lh hZu4
         clear hZu0 hZu1 hZu2 hZu3 hZu4
         obtain ⟨wz, hwz⟩ : ∃ wz, wz = wr := ⟨_, rfl⟩
         subst hwz
         clear hk HS2 hSl hbn hbt hT
         go_wp2_with fail
         refine rg_begin (S := Sx wz) (by kernel_rfl) (Sx.begin _) ?_
         have hS : Sx wz (World.drew wz) := (Sx.begin _)
         refine rg_t 0 (some 74) (.string (bs S)) rfl hS (fun w' hs => by rfl) ?_
         simp only [Act.put, sA, sZ, sS]
         refine rg_t 1 (some 75) (.string (bs Zu0)) rfl hS (fun w' hs => by first | rfl | go_simp) ?_
         simp only [Act.put, sA, sZ, sS]
         refine rg_t 2 (some 76) (.pointer (some ⟨w.heap.size, 4, none⟩)) rfl hS (fun w' hs => by first | rfl | go_simp) ?_
         simp only [Act.put, sA, sZ, sS]
         refine rg_t 3 (some 77) (.slice bk ks.length ck) rfl hS (fun w' hs => by (have h0 := hs.cell l0r c4r; go_simp)) ?_
         simp only [Act.put, sA, sZ, sS]
         refine rg_t 7 (some 81) (.pointer (some ⟨w.heap.size, 1, none⟩)) rfl hS (fun w' hs => by first | rfl | go_simp) ?_
         simp only [Act.put, sA, sZ, sS]
         refine rg_t 8 (some 82) (.string (bs nm)) rfl hS (fun w' hs => by (have h0 := hs.cell l0r c1r; go_simp)) ?_
         simp only [Act.put, sA, sZ, sS]
         refine rg_call 4 (some 78) 135 #[.slice bk ks.length ck] rfl rfl (by kernel_rfl) (by rfl) (fun w' => by first | rfl | go_simp) (R := fun v w' => v = .string (bs T) ∧ Ext (World.drew wz) w') ?_ ?_
         ·
          refine (HTC.out (World.drew wz) hS).mono ?_
          rintro e w' ⟨rfl, h⟩
          exact ⟨_, rfl, rfl, h⟩
         rintro _ wr1 ⟨rfl, hBr1⟩
         have hS1 := hS.ext hBr1
         refine ⟨hS1, ?_⟩
         simp only [Act.put, sA, sZ, sS]
         refine rg_t 5 (some 79) (.string (bs Zu1)) rfl hS1 (fun w' hs => by first | rfl | go_simp) ?_
         simp only [Act.put, sA, sZ, sS]
         refine rg_t 6 (some 80) (.string (bs Zu2)) rfl hS1 (fun w' hs => by first | rfl | go_simp) ?_
         simp only [Act.put, sA, sZ, sS]
         refine rg_t 9 (some 83) (.string (bs Zu3)) rfl hS1 (fun w' hs => by first | rfl | go_simp) ?_
         simp only [Act.put, sA, sZ, sS]
         refine rg_t 10 (some 84) (.string (bs Zu4)) rfl hS1 (fun w' hs => by first | rfl | go_simp) ?_
         simp only [Act.put, sA, sZ, sS]
         refine rg_t 11 (some 2) (.string (bs Zu4)) rfl hS1 (fun w' hs => by rfl) ?_
         simp only [Act.put, sA, sZ, sS]
         refine rg_done (by kernel_rfl) ?_
         clear qu0 ru0 qu1 ru1 qu2 ru2 qu3 ru3 qu4 ru4
         go_wp2_with fail
         go_ret
         exact ⟨ret_string (by rw [← HN.out, ← HZu.out]), hE.trans hS1⟩
     ·
      rw [if_pos k1] at hR
      have t1 : (k != 1) = true := by rw [bne_iff_ne]; exact k1
      have HN := Lh hR
      clear hR HTL hva hvk hcnt b1 b2 b3 b4 k2 k3 k4 k1 HE0
      go_enter Tryz.func148, Tryz.ntmps148
      go_wp2_with fail
      go_ret
      exact ⟨ret_string (by rw [← HN.out]; rfl), (Ext.refl w).alloc _⟩
def splitS (c : UInt8) : Bytes → Bytes → List Bytes
 | cur, [] => [cur]
 | cur, b :: r => if b = c then cur :: splitS c [] r else splitS c (cur ++ [b]) r
def segB (s : Bytes) (a b : Nat) : Bytes := (s.drop a).take (b - a)
theorem segB_snoc (s : Bytes) (a i : Nat) (ha : a ≤ i) (hi : i < s.length) : segB s a (i + 1) = segB s a i ++ [s[i]] := by
 unfold segB
 rw [show i + 1 - a = (i - a) + 1 by omega, List.take_add_one, List.getElem?_drop, show a + (i - a) = i by omega, List.getElem?_eq_getElem hi]; rfl
theorem infoStr : (Tryz.prog.info? 9).map (fun i => (i.zero, i.size, i.bytes)) = some (some (.string ⟨#[]⟩), 1, 16) := by kernel_rfl
theorem new_one {w : World} {u : Value} {e : TypeId} : ∀ (j : Nat) (v : Value), [u][j]? = some v → (w.alloc (.cells #[u] e)).cell? ((⟨w.heap.size, 0, none⟩ : Addr).add j) = some v := cell_one_new w u e
theorem split_any (s : Bytes) (c : UInt8) (w : World) (hs : s.length ≤ 1048576) :
  Calls Tryz.prog 133 #[.string (bs s), .int .u8 c.toNat] w fun e w' => Ret (fun b => w.heap.size ≤ b) (strsD (splitS c [] s)) e w' ∧ Ext w w' := by
 have hsz : (bs s).size ≤ 1048576 := by rw [bs_size]; exact hs
 obtain ⟨R, hR⟩ : ∃ R, splitS c [] s = R := ⟨_, rfl⟩
 rw [hR]
 have HR := Lh hR
 have cb := c.toNat_lt
 obtain ⟨i0, hi, hz0, hz1, hz2⟩ := info_parts infoStr
 clear hR
 go_enter Tryz.func133, Tryz.ntmps133
 go_wp2_with fail
 go_loopw [5, 6, 7] (fun o f t wr => ∃ (i fr : Nat) (L : List Bytes) (dv : Value), t = .int .i64 i ∧ f = .int .i64 fr ∧ dv = o ∧ i ≤ (bs s).size + 1 ∧ fr ≤ i ∧ L.length ≤ i ∧ Own wr (fun _ => False) w.heap.size 9 1 dv L.length (L.flatMap fun x => [strD x]) ∧ Ext w wr ∧ Hid ((i ≤ (bs s).size → L ++ splitS c (segB s fr i) (s.drop i) = R) ∧ ((bs s).size < i → L = R))) (fun _ _ t _ => downV ((bs s).size + 1) t)
 case atStart => exact ⟨0, 0, [], _, rfl, rfl, rfl, Nat.zero_le _, Nat.le_refl _, Nat.le_refl _, Own.nil _ _ _ _ _, Ext.refl _, Lh ⟨fun _ => HR.out, fun h => by omega⟩⟩
 case round =>
  obtain ⟨i, fr, L, dv, rfl, rfl, rfl, hi1, hfr, hL, hown, hX, HI⟩ := hrel
  have hi0 : (0 : Int) ≤ (i : Int) := by omega
  have hf0 : (0 : Int) ≤ (fr : Int) := by omega
  have hfI : (fr : Int) ≤ (i : Int) := by omega
  have hwz := hX.size
  by_cases hle : i ≤ (bs s).size
  ·
   have hleI : (i : Int) ≤ ((bs s).size : Int) := by omega
   have HEX : Hid ((bs s).extract fr i = bs (segB s fr i)) := Lh (by rw [bs_extract]; rfl)
   by_cases hlt : i < (bs s).size
   ·
    have hq : ((i : Int) == ((bs s).size : Int)) = false := by rw [beq_eq_false_iff_ne]; omega
    have hltI : (i : Int) < ((bs s).size : Int) := by omega
    have hl2 : i < s.length := by rw [bs_size] at hlt; exact hlt
    have hc : (bs s)[i]'hlt = s[i]'hl2 := bs_getE s i hlt
    have HS : Hid (splitS c (segB s fr i) (s.drop i) = if s[i]'hl2 = c then segB s fr i :: splitS c [] (s.drop (i + 1)) else splitS c (segB s fr i ++ [s[i]'hl2]) (s.drop (i + 1))) := Lh (by rw [drop_one s i hl2, splitS])
    by_cases hb : s[i]'hl2 = c
    ·
     have hbq : ((((bs s)[i]'hlt).toNat : Int) == (c.toNat : Int)) = true := by rw [hc, hb]; exact beq_self_eq_true _
     have HN : Hid ((i + 1 ≤ (bs s).size → (L ++ [segB s fr i]) ++ splitS c (segB s (i + 1) (i + 1)) (s.drop (i + 1)) = R) ∧ ((bs s).size < i + 1 → (L ++ [segB s fr i]) = R)) := Lh ⟨fun _ => by
      have h1 := HI.out.1 hle
      rw [HS.out, if_pos hb] at h1
      rw [← h1, List.append_assoc, show segB s (i + 1) (i + 1) = [] by unfold segB; simp]; rfl, fun h => by omega⟩
     clear HS HI hb hc
     obtain ⟨us, hrow, hreps⟩ := hown.rows
     have hex := HEX.out
     have hseg : (segB s fr i).length ≤ 1048576 := by unfold segB; rw [List.length_take, List.length_drop]; omega
     go_wp2_with (at_builtin; refine wpList_append_own_at _ rfl (.tmp 25) (.tmp 30) _ rfl w.heap.size 9 i0 (.string ⟨#[]⟩) 1 16 Tryz.underlying29 hi hz0 hz1 hz2 rfl (by decide) dv L.length us rfl (hrow.alloc _) ⟨wr.heap.size, 0, none⟩ 1 1 [.string (bs (segB s fr i))] rfl rfl new_one (by intro u hu; simp at hu; rcases hu with rfl; rfl) (by unfold maxLen; omega) (by omega) (by simp; omega) ?_; intro v2 w3 hown2 hgrow2 _ hat2)
     have hX2 : Ext w w3 := hX.grown_own hrow hgrow2
     have hO2 : Own w3 (fun _ => False) w.heap.size 9 1 v2 (L ++ [segB s fr i]).length ((L ++ [segB s fr i]).flatMap fun x => [strD x]) := by
      rw [List.length_append, List.flatMap_append]
      exact Own.push ((hreps.ext ((Ext.refl wr).alloc _)).ok fun b hb => ⟨hb.1, hb.2.1, by simp; omega⟩) (Reps.cons (Rep.string _ _ _ (by rw [bs_size]; omega)) (Reps.nil _ _)) hown2 hgrow2 hat2
     clear hown2 hgrow2 hrow hreps hown hX hat2 hex hseg
     go_wp2_with fail
     go_roundw
     case rel => exact ⟨i + 1, i + 1, L ++ [segB s fr i], v2, by go_num, by go_num, rfl, by omega, by omega, by rw [List.length_append]; simp; omega, hO2, hX2, HN⟩
     case measure => simp only [downV]; omega
    ·
     have hbq : ((((bs s)[i]'hlt).toNat : Int) == (c.toNat : Int)) = false := by
      rw [hc, beq_eq_false_iff_ne]; intro e; exact hb (UInt8.toNat_inj.1 (by omega))
     have HN : Hid ((i + 1 ≤ (bs s).size → L ++ splitS c (segB s fr (i + 1)) (s.drop (i + 1)) = R) ∧ ((bs s).size < i + 1 → L = R)) := Lh ⟨fun _ => by
      have h1 := HI.out.1 hle
      rw [HS.out, if_neg hb, ← segB_snoc s fr i hfr hl2] at h1
      exact h1, fun h => by omega⟩
     clear HS HI hb hc HEX
     go_wp2_with fail
     go_roundw
     case rel => exact ⟨i + 1, fr, L, dv, by go_num, rfl, rfl, by omega, by omega, by omega, hown, hX, HN⟩
     case measure => simp only [downV]; omega
   ·
    have hei : i = (bs s).size := by omega
    have hq : ((i : Int) == ((bs s).size : Int)) = true := by rw [hei]; exact beq_self_eq_true _
    have HN : Hid ((i + 1 ≤ (bs s).size → (L ++ [segB s fr i]) ++ splitS c (segB s (i + 1) (i + 1)) (s.drop (i + 1)) = R) ∧ ((bs s).size < i + 1 → (L ++ [segB s fr i]) = R)) := Lh ⟨fun h => by omega, fun _ => by
     have h1 := HI.out.1 hle
     rw [List.drop_of_length_le (by rw [bs_size] at hlt; omega), splitS] at h1
     exact h1⟩
    have hlt' := Lh hlt
    clear HI hlt hei
    obtain ⟨us, hrow, hreps⟩ := hown.rows
    have hex := HEX.out
    have hseg : (segB s fr i).length ≤ 1048576 := by unfold segB; rw [List.length_take, List.length_drop]; omega
    go_wp2_with (at_builtin; refine wpList_append_own_at _ rfl (.tmp 25) (.tmp 30) _ rfl w.heap.size 9 i0 (.string ⟨#[]⟩) 1 16 Tryz.underlying29 hi hz0 hz1 hz2 rfl (by decide) dv L.length us rfl (hrow.alloc _) ⟨wr.heap.size, 0, none⟩ 1 1 [.string (bs (segB s fr i))] rfl rfl new_one (by intro u hu; simp at hu; rcases hu with rfl; rfl) (by unfold maxLen; omega) (by omega) (by simp; omega) ?_; intro v2 w3 hown2 hgrow2 _ hat2)
    have hX2 : Ext w w3 := hX.grown_own hrow hgrow2
    have hO2 : Own w3 (fun _ => False) w.heap.size 9 1 v2 (L ++ [segB s fr i]).length ((L ++ [segB s fr i]).flatMap fun x => [strD x]) := by
     rw [List.length_append, List.flatMap_append]
     exact Own.push ((hreps.ext ((Ext.refl wr).alloc _)).ok fun b hb => ⟨hb.1, hb.2.1, by simp; omega⟩) (Reps.cons (Rep.string _ _ _ (by rw [bs_size]; omega)) (Reps.nil _ _)) hown2 hgrow2 hat2
    clear hown2 hgrow2 hrow hreps hown hX hat2 hex hseg
    go_wp2_with fail
    go_roundw
    case rel => exact ⟨i + 1, i + 1, L ++ [segB s fr i], v2, by go_num, by go_num, rfl, by omega, by omega, by rw [List.length_append]; simp; omega, hO2, hX2, HN⟩
    case measure => simp only [downV]; omega
  ·
   have hleI : ¬ (i : Int) ≤ ((bs s).size : Int) := by omega
   have HN : Hid (L = R) := Lh (HI.out.2 (by omega))
   clear HI
   go_wp2_with fail
   go_ret
   refine ⟨⟨dv, rfl, ?_⟩, hX⟩
   rw [← HN.out]
   exact hown.rep.ok (fun b hb => by rcases hb with h | h; exact h.elim; exact h)
end Go.Proofs.YtkelpbbekeelcaaGreatDoor
