/-
  value.singles. Helper lemmas; no statement of the seat is proved here.
-/
import Derived.Test.YtmmopcceabdecaaGreatDoorV4
namespace Go.Proofs.YtmmopcceabdecaaGreatDoor
open Go.RowKit
set_option maxRecDepth 100000
set_option linter.unusedVariables false
set_option linter.unusedSimpArgs false

theorem infoVal : (Tryz.prog.info? 30).map (fun i => (i.zero, i.size, i.bytes)) = some (some (.agg #[.int .i64 0, .slice none 0 0, .bool false, .bool false, .int .i64 0, .string ⟨#[]⟩]), 6, 72) := by kernel_rfl
/-- Texts as values, as they lie in a row. -/
def rowX (xs : List VV) : List Value := xs.flatMap vvL
theorem rowX_len (xs : List VV) : (rowX xs).length = xs.length * 6 := by
  induction xs with
  | nil => rfl
  | cons x r ih => unfold rowX at *; rw [List.flatMap_cons, List.length_append, ih]; show 6 + _ = (r.length + 1) * 6; omega
theorem rowX_get (xs : List VV) (i k : Nat) (hi : i < xs.length) (hk : k < 6) : (rowX xs)[i * 6 + k]? = (vvL xs[i])[k]? := by
  induction xs generalizing i with
  | nil => simp at hi
  | cons x r ih =>
    unfold rowX at *
    rw [List.flatMap_cons]
    cases i with
    | zero => rw [List.getElem?_append_left (by show 0 * 6 + k < 6; omega)]; simp
    | succ i =>
      rw [List.getElem?_append_right (by show 6 ≤ (i + 1) * 6 + k; omega)]
      have e : (i + 1) * 6 + k - (vvL x).length = i * 6 + k := by show (i + 1) * 6 + k - 6 = _; omega
      rw [e]
      have := ih i (by simpa using hi)
      simpa using this
theorem num_at {w : World} {p : Nat → Prop} {a : Option Addr} {len cap : Nat} {k : IntKind} {l : List Int} (h : Rep w p (.slice a len cap) (numsD k l)) (i : Nat) (hi : i < l.length) :
    ∃ b off, a = some ⟨b, off, none⟩ ∧ b < w.heap.size ∧ w.cell? ⟨b, off + i, none⟩ = some (.int k l[i]) := by
  obtain ⟨b, off, ha, hb, hp, hc⟩ := elem_at (z_num k) h (by omega) i hi
  obtain ⟨u, hu, hr⟩ := hc 0 _ rfl
  rw [Nat.mul_one, Nat.add_zero] at hu
  exact ⟨b, off, ha, hb, by rw [← hr.is]; exact hu⟩
set_option maxHeartbeats 8000000 in
theorem singles_one (cv : Array Value) (ct : ∃ o n c s, cv = #[.slice o n c, .string s]) (b : VV) (hk : b.kind = 3 ∨ b.kind = 4) (hs : ∃ o n c, b.nd = .slice o n c) (w : World) :
    Calls Tryz.prog 31 #[.agg cv, .agg (vvL b).toArray] w fun e w' => (∃ rv, e = .returned rv ∧ w'.ownsRow w.heap.size 30 6 rv 1 (vvL b)) ∧ Ext w w' := by
  obtain ⟨k, nd, bo, nan, v, t⟩ := b
  obtain ⟨na, nn, nc, rfl⟩ := hs
  obtain ⟨to, tn, tc, ts, rfl⟩ := ct
  have hk1 : (k != 1) = true := by rw [bne_iff_ne]; dsimp only at hk; omega
  obtain ⟨wz, hwz⟩ : ∃ W', (w.alloc (.cells #[.slice to tn tc, .string ts] 53)).alloc (.cells #[.int .i64 k, .slice na nn nc, .bool bo, .bool nan, .int .i64 v, .string (bs t)] 30) = W' := ⟨_, rfl⟩
  have hX : Ext w wz := by rw [← hwz]; exact ((Ext.refl w).alloc _).alloc _
  have a0 : wz.cell? ⟨w.heap.size + 1, 0, none⟩ = some (.int .i64 k) := by rw [← hwz]; simp [go_sem]
  have a1 : wz.cell? ⟨w.heap.size + 1, 1, none⟩ = some (.slice na nn nc) := by rw [← hwz]; simp [go_sem]
  have a2 : wz.cell? ⟨w.heap.size + 1, 2, none⟩ = some (.bool bo) := by rw [← hwz]; simp [go_sem]
  have a3 : wz.cell? ⟨w.heap.size + 1, 3, none⟩ = some (.bool nan) := by rw [← hwz]; simp [go_sem]
  have a4 : wz.cell? ⟨w.heap.size + 1, 4, none⟩ = some (.int .i64 v) := by rw [← hwz]; simp [go_sem]
  have a5 : wz.cell? ⟨w.heap.size + 1, 5, none⟩ = some (.string (bs t)) := by rw [← hwz]; simp [go_sem]
  have hrow := World.ownsRow_lit (base := w.heap.size) (e := 30) (size := 6) wz #[.int .i64 k, .slice na nn nc, .bool bo, .bool nan, .int .i64 v, .string (bs t)] 1 hX.size (by unfold maxLen; decide) rfl
  have HR := Lib.hid (And.intro hrow (hX.alloc (.cells #[.int .i64 k, .slice na nn nc, .bool bo, .bool nan, .int .i64 v, .string (bs t)] 30)))
  clear hX hrow hk
  unfold vvL
  go_enter Tryz.func31, Tryz.ntmps31
  go_wp2_with fail
  go_ret
  exact ⟨⟨_, rfl, HR.out.1⟩, HR.out.2⟩
set_option maxHeartbeats 16000000 in
theorem singles_nodes (L : List QN) (hT : TOk 0 L.length L) (hL : L.length ≤ 1048577) (hS : totT L ≤ 1048576) (ns : List Int) (hns : ns.length ≤ 1000) (o : ByteArray) (bo nan : Bool) (v : Int) (t : Bytes) (p q : Nat → Prop) (tv nv : Value) (w : World) (hv : Rep w p tv (qnsD L)) (hn : Rep w q nv (numsD .i64 ns)) :
    Calls Tryz.prog 31 #[.agg #[tv, .string o], .agg #[.int .i64 1, nv, .bool bo, .bool nan, .int .i64 v, .string (bs t)]] w fun e w' => (∃ rv, e = .returned rv ∧ w'.ownsRow w.heap.size 30 6 rv ns.length (rowX (ns.map fun i => txtV (valV L i)))) ∧ Ext w w' := by
  have HV := Lib.hid fun W (hE : Ext w W) i => value_any L hT hL hS i p tv W (hv.ext hE)
  obtain ⟨ta, tc, rfl, _, _⟩ := hv.count z_qn (by omega)
  obtain ⟨na, nc, rfl, _, _⟩ := hn.count (z_num .i64) (by omega)
  have HN := Lib.hid hn
  obtain ⟨i0, hin0, hq0, hq1, hq2⟩ := info_parts infoVal
  obtain ⟨wz, hwz⟩ : ∃ W', (w.alloc (.cells #[.slice ta L.length tc, .string o] 53)).alloc (.cells #[.int .i64 1, .slice na ns.length nc, .bool bo, .bool nan, .int .i64 v, .string (bs t)] 30) = W' := ⟨_, rfl⟩
  have hE : Ext w wz := by rw [← hwz]; exact ((Ext.refl w).alloc _).alloc _
  have z0 : w.heap.size + 1 < wz.heap.size := by rw [← hwz]; simp
  have p0 : wz.cell? ⟨w.heap.size, 0, none⟩ = some (.slice ta L.length tc) := by rw [← hwz]; simp [go_sem]
  have a0 : wz.cell? ⟨w.heap.size + 1, 0, none⟩ = some (.int .i64 1) := by rw [← hwz]; simp [go_sem]
  have a1 : wz.cell? ⟨w.heap.size + 1, 1, none⟩ = some (.slice na ns.length nc) := by rw [← hwz]; simp [go_sem]
  have HE := Lib.hid hE
  have HP := Lib.hid (And.intro p0 z0)
  clear hv hn hE p0 z0
  go_enter Tryz.func31, Tryz.ntmps31
  go_wp2_with fail
  clear a0 a1
  go_loopw [5, 7, 16] (fun dv _ t wr => ∃ (i : Nat) (d : Value), t = .int .i64 i ∧ d = dv ∧ i ≤ ns.length ∧ Hid (wr.ownsRow wz.heap.size 30 6 d i (rowX ((ns.take i).map fun i => txtV (valV L i)))) ∧ Hid (Ext wz wr)) (fun _ _ t _ => downV ns.length t)
  case atStart => exact ⟨0, _, rfl, rfl, Nat.zero_le _, Lib.hid (World.ownsRow_nil _ _ _ _), Lib.hid (Ext.refl _)⟩
  case round =>
    obtain ⟨i, d, rfl, rfl, hi, HO, HX⟩ := hrel
    obtain ⟨oo, oc, rfl⟩ := own_form HO.out
    have hi0 : (0 : Int) ≤ (i : Int) := by omega
    have hi8 : (i : Int) ≤ 1000 := by omega
    by_cases hlt : i < ns.length
    · have hlI : (i : Int) < (ns.length : Int) := by omega
      obtain ⟨b, off, hb, lb, d0⟩ := num_at HN.out i hlt
      subst hb
      have hcons : rowX ((ns.take (i + 1)).map fun i => txtV (valV L i)) = rowX ((ns.take i).map fun i => txtV (valV L i)) ++ vvL (txtV (valV L ns[i])) := by
        rw [List.take_add_one, List.getElem?_eq_getElem hlt, List.map_append]; unfold rowX; rw [List.flatMap_append]; simp
      obtain ⟨x, hx⟩ : ∃ x, ns[i] = x := ⟨_, rfl⟩
      rw [hx] at d0 hcons
      obtain ⟨T, hTT⟩ : ∃ T, valV L x = T := ⟨_, rfl⟩
      have HVC := Lib.hid (HV.out wr (HE.out.trans HX.out) x)
      rw [hTT] at hcons HVC
      have HC := Lib.hid hcons
      have n0 := (HE.out.trans HX.out).keep lb d0
      have c0 := HX.out.keep (by have := HP.out.2; omega) HP.out.1
      clear hx hTT hcons d0
      go_wp2_with fail
      refine HVC.out.mono ?_
      rintro e w1 ⟨rfl, hX1⟩
      have HX1 := Lib.hid (HX.out.trans hX1)
      have HO1 := Lib.hid ((rows_ext HO.out hX1).alloc (.cells #[.int .i64 4, .slice none 0 0, .bool false, .bool false, .int .i64 0, .string (bs T)] 30))
      have HC1 := Lib.hid (show (w1.alloc (.cells #[.int .i64 4, .slice none 0 0, .bool false, .bool false, .int .i64 0, .string (bs T)] 30)).heap[w1.heap.size]? = some (.cells (vvL (txtV T)).toArray 30 (0, 0)) from Array.getElem?_push_size)
      clear HVC HO HX hX1 n0 c0
      go_wp2_with (at_builtin; go_loud (refine wpList_append_own_at _ rfl (.tmp 20) (.tmp 26) _ rfl wz.heap.size 30 i0 (.agg #[.int .i64 0, .slice none 0 0, .bool false, .bool false, .int .i64 0, .string ⟨#[]⟩]) 6 72 Tryz.underlying70 hin0 hq0 hq1 hq2 rfl (by decide) (.slice oo i oc) i _ rfl HO1.out ⟨w1.heap.size, 0, none⟩ 1 1 (vvL (txtV T)) rfl rfl (fun j u hj => by rw [add_offs', Nat.zero_add]; exact blk_cells HC1.out j hj) (by intro u hu; simp [vvL, txtV] at hu; rcases hu with rfl | rfl | rfl | rfl | rfl <;> rfl) (by unfold maxLen; omega) (by omega) (by have := HX1.out.size; simp; omega) ?_); intro v7 w7 hown7 hgrow7 _ hat7; have HO7 := Lib.hid (And.intro hown7 hgrow7); clear hown7 hgrow7 hat7)
      have HX7 := Lib.hid (show Ext wz w7 from Below.grown (HX1.out.alloc _) HO7.out.2 (Below.size (HX1.out.alloc _)) fun k hk => (HO1.out.lt k hk).1)
      go_roundw
      case rel => exact ⟨i + 1, v7, by go_num, rfl, by omega, Lib.hid (by rw [HC.out]; exact HO7.out.1), HX7⟩
      case measure => simp only [downV]; omega
    · have hlI : ¬ (i : Int) < (ns.length : Int) := by omega
      obtain rfl : i = ns.length := by omega
      go_wp2_with fail
      go_ret
      exact ⟨⟨_, rfl, by have h := HO.out; rw [List.take_length] at h; exact rows_mono h HE.out.size⟩, HE.out.trans HX.out⟩
end Go.Proofs.YtmmopcceabdecaaGreatDoor
