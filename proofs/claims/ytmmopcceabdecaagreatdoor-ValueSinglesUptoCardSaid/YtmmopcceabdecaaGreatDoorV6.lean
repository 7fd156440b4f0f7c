/-
  value.pairs: the iterator. Helper lemmas; no statement of the seat is proved here.
-/
import Derived.Test.YtmmopcceabdecaaGreatDoorV5
import Derived.RangeFuncNested
import Derived.RangeFuncBound
import Derived.RangeFuncCalls
import Derived.RangeFuncLeaves
import Derived.Shelf.Abstract
import Derived.Shelf.RegionOpen
import Derived.OwnWalkIn
import Derived.TacticsInMore
import Derived.LoopNIn
import Derived.LoopIn
namespace Go.Proofs.YtmmopcceabdecaaGreatDoor
open Go.RowKit Go.Shelf
attribute [local go_sem] Oper.semAt_some
set_option maxRecDepth 100000
set_option linter.unusedVariables false
set_option linter.unusedSimpArgs false

/-- A value that may come. -/
abbrev TX := { x : VV // okV x }
def encP (b : VV) (x : TX) : Array Value := #[.agg (vvL x.1).toArray, .agg (vvL b).toArray]
/-- What a round keeps: all cells that were. -/
def KpC (W W' : World) : Prop := W.heap.size ≤ W'.heap.size ∧ ∀ (k : Nat) (cs : Array Value) (t : TypeId) (fz : Nat × Nat), W.heap[k]? = some (.cells cs t fz) → W'.heap[k]? = some (.cells cs t fz)
theorem KpC.trans {A B C : World} (h : KpC A B) (k : KpC B C) : KpC A C := ⟨Nat.le_trans h.1 k.1, fun i cs t fz e => k.2 i cs t fz (h.2 i cs t fz e)⟩
theorem KpC.ext {A B : World} (h : Ext A B) : KpC A B := ⟨h.size, fun i cs t fz e => (Below.block h i (Array.getElem?_eq_some_iff.1 e).1).trans e⟩
theorem kpc_row {A B : World} (h : KpC A B) {base z n : Nat} {e : TypeId} {v : Value} {us : List Value} (k : A.ownsRow base e z v n us) : B.ownsRow base e z v n us := by
  refine ⟨k.1, ?_⟩
  rcases k.2 with k2 | ⟨g, cap, cur, rfl, hg, hblk, hr⟩
  · exact .inl k2
  · exact .inr ⟨g, cap, cur, rfl, hg, h.2 _ _ _ _ hblk, hr⟩
theorem ext_none {A B : World} (hB : Ext A B) : A.grownBy B none := ⟨hB.os, hB.tape, hB.output, hB.size, fun i hi _ => Below.block hB i hi⟩
set_option maxHeartbeats 8000000 in
theorem pairs_stops (n : Nat) (hn : 1 ≤ n) (o : ByteArray) (a b : VV) (ha0 : ∃ o n c, a.nd = .slice o n c) (hk : b.kind = 3 ∨ b.kind = 4) (hs : ∃ o n c, b.nd = .slice o n c) (tv : Value) (htv : ∃ o n c, tv = .slice o n c) (w : World)
    (Bc Bb Ba : Nat) (hc : w.heap[Bc]? = some (.cells [tv, .string o].toArray 53 (0, 0))) (hb : w.heap[Bb]? = some (.cells (vvL b).toArray 30 (0, 0))) (ha : w.heap[Ba]? = some (.cells (vvL a).toArray 30 (0, 0)))
    (xs : List TX) (hxl : xs.length ≤ 1000) (hxs : ∀ A, Ext w A → Calls Tryz.prog 31 #[.agg #[tv, .string o], .agg (vvL a).toArray] A fun e w' => (∃ rv, e = .returned rv ∧ w'.ownsRow A.heap.size 30 6 rv xs.length (rowX (xs.map (·.1)))) ∧ Ext A w') :
    SeqStopsK Fence.wide n Tryz.prog 30 #[.pointer (some ⟨Bc, 0, none⟩), .pointer (some ⟨Bb, 0, none⟩), .pointer (some ⟨Ba, 0, none⟩)] (encP b) KpC (fun ys => ys = xs) (fun ys => ys <+: xs) xs.length w := fun l J Jx W hW hJ hJx hY h0 => by
  have hE : Ext w W := hW
  have HJ := Lib.hid fun (pre : List TX) (A B : World) (hj : J pre A) (hX : Ext A B) => hJ pre A B none hj (ext_none hX) (fun r e => by cases e)
  have HY := Lib.hid hY
  have H1 := Lib.hid fun A (hA : Ext w A) => singles_one #[tv, .string o] (by obtain ⟨ta, tn, tc, rfl⟩ := htv; exact ⟨_, _, _, _, rfl⟩) b hk hs A
  have H2 := Lib.hid hxs
  obtain ⟨ta, tn, tc, rfl⟩ := htv
  obtain ⟨ak, and', abo, anan, av, at'⟩ := a
  obtain ⟨aa, an', ac', rfl⟩ := ha0
  obtain ⟨bk, nd, bbo, bnan, bv, bt⟩ := b
  obtain ⟨ba, bn, bc, rfl⟩ := hs
  have HW := Lib.hid hE
  have H0 := Lib.hid h0
  have HB := Lib.hid (And.intro hc (And.intro hb ha))
  have KB := Lib.hid fun (A : World) (hA : KpC W A) => (And.intro (hA.2 _ _ _ _ ((Below.block hE _ (blk_lt hc)).trans hc)) (And.intro (hA.2 _ _ _ _ ((Below.block hE _ (blk_lt hb)).trans hb)) (hA.2 _ _ _ _ ((Below.block hE _ (blk_lt ha)).trans ha))))
  clear hW hJ hJx hY h0 hk hxs hE hc hb ha
  obtain ⟨kc, kb, ka⟩ := KB.out W (KpC.ext (Ext.refl W))
  have c0 := blk_cells kc 0 rfl
  have c1 := blk_cells kc 1 rfl
  unfold vvL at kb
  have b0 := blk_cells kb 0 rfl; have b1 := blk_cells kb 1 rfl; have b2 := blk_cells kb 2 rfl; have b3 := blk_cells kb 3 rfl; have b4 := blk_cells kb 4 rfl; have b5 := blk_cells kb 5 rfl
  have S1 := Lib.hid (H1.out W HW.out)
  unfold vvL at S1
  dsimp only at S1
  clear kc kb ka H1
  refine callsIn_of_wp Tryz.func30 rfl trivial ?_ rfl
  simp only [Tryz.ntmps30, List.size_toArray, List.length_cons, List.length_nil, Nat.reduceAdd, Nat.reduceSub, Array.replicate_succ, Array.replicate_zero, List.push_toArray, List.append_toArray, List.nil_append, List.cons_append]
  gi_wp2_with fail
  refine ⟨trivial, (callsIn_wide.2 S1.out).mono ?_⟩
  rintro e w1 ⟨⟨rv, rfl, hr1⟩, hX1⟩
  obtain ⟨gr, cr, rfl, _, _⟩ := own_pos hr1 (by decide)
  obtain ⟨kc, kb, ka⟩ := KB.out w1 (KpC.ext hX1)
  have d0 := blk_cells kc 0 rfl
  have d1 := blk_cells kc 1 rfl
  unfold vvL at ka
  have a0 := blk_cells ka 0 rfl; have a1 := blk_cells ka 1 rfl; have a2 := blk_cells ka 2 rfl; have a3 := blk_cells ka 3 rfl; have a4 := blk_cells ka 4 rfl; have a5 := blk_cells ka 5 rfl
  have S2 := Lib.hid (H2.out w1 (HW.out.trans hX1))
  unfold vvL at S2
  dsimp only at S2
  have HR1 := Lib.hid (And.intro hr1 hX1)
  clear S1 H2 hr1 hX1 kc kb ka b0 b1 b2 b3 b4 b5 c0 c1
  gi_wp2_with fail
  refine ⟨trivial, (callsIn_wide.2 S2.out).mono ?_⟩
  rintro e w2 ⟨⟨lv, rfl, hr2⟩, hX2⟩
  have HR2 := Lib.hid (And.intro (rows_ext HR1.out.1 hX2) hr2)
  have HJ2 := Lib.hid (HJ.out [] W w2 H0.out (HR1.out.2.trans hX2))
  obtain ⟨lo, lc, rfl⟩ := own_form hr2
  have HLO := Lib.hid fun (h : 0 < xs.length) => (show ∃ g, lo = some ⟨g, 0, none⟩ by obtain ⟨g, c, e, _, _⟩ := own_pos hr2 h; injection e with e1 _ _; exact ⟨g, e1⟩)
  clear S2 HR1 H0 hr2 hX2 d0 d1 a0 a1 a2 a3 a4 a5 KB HB
  have hns0 : (xs.length : Int) ≤ 1000 := by omega
  gi_wp2_with fail
  gi_loopw [7, 9, 17, 21, 22, 23] (fun _ _ t _ _ _ wr => ∃ i : Nat, t = .int .i64 i ∧ i ≤ xs.length ∧ Hid (J (xs.take i) wr) ∧ Hid (KpC w2 wr)) (fun _ _ t _ _ _ _ => downV xs.length t)
  case atStart => exact ⟨0, rfl, Nat.zero_le _, by rw [List.take_zero]; exact HJ2, Lib.hid (KpC.ext (Ext.refl _))⟩
  case round =>
    obtain ⟨i, rfl, hi, HJI, HK⟩ := hrel
    clear HJ2
    have hi0 : (0 : Int) ≤ (i : Int) := by omega
    by_cases hlt : i < xs.length
    · have hlI : (i : Int) < (xs.length : Int) := by omega
      obtain ⟨gl, hgl⟩ := HLO.out (by omega)
      subst hgl
      have hix : i < xs.length := hlt
      have hrow := kpc_row HK.out HR2.out.2
      have hc : ∀ k, k < 6 → wr.cell? ⟨gl, i * 6 + k, none⟩ = (vvL xs[i].1)[k]? := fun k hk => by
        rw [hrow.cellAt (i * 6 + k) (by omega), rowX_get _ i k (by rw [List.length_map]; exact hlt) hk, List.getElem_map]
      have htk : xs.take (i + 1) = xs.take i ++ [xs[i]] := by rw [List.take_add_one, List.getElem?_eq_getElem hix]; rfl
      have hpl : (xs.take i).length < xs.length := by rw [List.length_take]; omega
      have hpre : (xs.take i ++ [xs[i]]) <+: xs := by rw [← htk]; exact List.take_prefix _ _
      obtain ⟨x, hx⟩ : ∃ x, xs[i] = x := ⟨_, rfl⟩
      rw [hx] at hc htk hpre
      obtain ⟨⟨xk, xd, xb, xn, xv, xt⟩, hxok⟩ := x
      obtain ⟨xa, xl, xc, hxd⟩ := hxok.2.1
      dsimp only at hxd
      subst hxd
      have n0 : wr.cell? ⟨gl, i * 6, none⟩ = some (.int .i64 xk) := hc 0 (by omega)
      have n1 : wr.cell? ⟨gl, i * 6 + 1, none⟩ = some (.slice xa xl xc) := hc 1 (by omega)
      have n2 : wr.cell? ⟨gl, i * 6 + 2, none⟩ = some (.bool xb) := hc 2 (by omega)
      have n3 : wr.cell? ⟨gl, i * 6 + 3, none⟩ = some (.bool xn) := hc 3 (by omega)
      have n4 : wr.cell? ⟨gl, i * 6 + 4, none⟩ = some (.int .i64 xv) := hc 4 (by omega)
      have n5 : wr.cell? ⟨gl, i * 6 + 5, none⟩ = some (.string (bs xt)) := hc 5 (by omega)
      have HN := Lib.hid (And.intro htk (And.intro hpl hpre))
      obtain ⟨w3, hw3⟩ : ∃ W', wr.alloc (.cells #[.int .i64 xk, .slice xa xl xc, .bool xb, .bool xn, .int .i64 xv, .string (bs xt)] 30) = W' := ⟨_, rfl⟩
      have hX3 : Ext wr w3 := by rw [← hw3]; exact (Ext.refl wr).alloc _
      have h3 : w3.heap[wr.heap.size]? = some (.cells [.int .i64 xk, .slice xa xl xc, .bool xb, .bool xn, .int .i64 xv, .string (bs xt)].toArray 30 (0, 0)) := by rw [← hw3]; exact Array.getElem?_push_size
      have H3 := Lib.hid (And.intro h3 (HK.out.trans (KpC.ext hX3)))
      have HJ3 := Lib.hid (HJ.out _ _ _ HJI.out hX3)
      clear hix hrow hc htk hpl hpre hx hX3 h3 HJI
      obtain ⟨wo, hwo⟩ : ∃ W, W = wr := ⟨_, rfl⟩
      subst hwo
      gi_wp2_with fail
      clear n0 n1 n2 n3 n4 n5
      gi_loopw [9, 23] (fun _ t wq => ((t = .int .i64 0 ∧ Hid (J (xs.take i) wq)) ∨ (t = .int .i64 1 ∧ Hid (J (xs.take (i + 1)) wq))) ∧ Hid (KpC w3 wq)) (fun _ t _ => downV 1 t)
      case atStart => exact ⟨.inl ⟨rfl, HJ3⟩, Lib.hid (KpC.ext (Ext.refl _))⟩
      case round =>
        obtain ⟨hj, HKq⟩ := hrel
        clear HJ3
        rcases hj with ⟨rfl, HJq⟩ | ⟨rfl, HJq⟩
        · have hrr := kpc_row (H3.out.2.trans HKq.out) HR2.out.1
          have hc : ∀ m, m < 6 → wr.cell? ⟨gr, m, none⟩ = (vvL ⟨bk, .slice ba bn bc, bbo, bnan, bv, bt⟩)[m]? := fun m hm => hrr.cellAt m (by omega)
          have n0 : wr.cell? ⟨gr, 0, none⟩ = some (.int .i64 bk) := hc 0 (by omega)
          have n1 : wr.cell? ⟨gr, 1, none⟩ = some (.slice ba bn bc) := hc 1 (by omega)
          have n2 : wr.cell? ⟨gr, 2, none⟩ = some (.bool bbo) := hc 2 (by omega)
          have n3 : wr.cell? ⟨gr, 3, none⟩ = some (.bool bnan) := hc 3 (by omega)
          have n4 : wr.cell? ⟨gr, 4, none⟩ = some (.int .i64 bv) := hc 4 (by omega)
          have n5 : wr.cell? ⟨gr, 5, none⟩ = some (.string (bs bt)) := hc 5 (by omega)
          obtain ⟨w5, hw5⟩ : ∃ W', wr.alloc (.cells #[.int .i64 bk, .slice ba bn bc, .bool bbo, .bool bnan, .int .i64 bv, .string (bs bt)] 30) = W' := ⟨_, rfl⟩
          have hX5 : Ext wr w5 := by rw [← hw5]; exact (Ext.refl wr).alloc _
          have e5 : w5.heap[wr.heap.size]? = some (.cells [.int .i64 bk, .slice ba bn bc, .bool bbo, .bool bnan, .int .i64 bv, .string (bs bt)].toArray 30 (0, 0)) := by rw [← hw5]; exact Array.getElem?_push_size
          have y0 := blk_cells e5 0 rfl; have y1 := blk_cells e5 1 rfl; have y2 := blk_cells e5 2 rfl; have y3 := blk_cells e5 3 rfl; have y4 := blk_cells e5 4 rfl; have y5 := blk_cells e5 5 rfl
          have e3 := (HKq.out.trans (KpC.ext hX5)).2 _ _ _ _ H3.out.1
          have x0 := blk_cells e3 0 rfl; have x1 := blk_cells e3 1 rfl; have x2 := blk_cells e3 2 rfl; have x3 := blk_cells e3 3 rfl; have x4 := blk_cells e3 4 rfl; have x5 := blk_cells e3 5 rfl
          obtain ⟨fn, tmps, asg, body, hy, hR⟩ := HY.out (xs.take i) ⟨⟨xk, .slice xa xl xc, xb, xn, xv, xt⟩, hxok⟩ w5 (HJ.out _ _ _ HJq.out hX5) HN.out.2.1
          unfold encP vvL at hy
          dsimp only at hy
          have HK5 := Lib.hid (HKq.out.trans (KpC.ext hX5))
          clear hrr hc hX5 e5 e3 HJq HKq
          gi_wp2_with fail
          refine hR.mono ?_
          rintro e w6 (⟨rfl, hJ6, hk6⟩ | ⟨rfl, hJx6⟩)
          · have HJ6 := Lib.hid hJ6
            have HK6 := Lib.hid (HK5.out.trans hk6)
            rw [← HN.out.1] at HJ6
            clear hJ6 hk6 hR hy x0 x1 x2 x3 x4 x5 y0 y1 y2 y3 y4 y5 n0 n1 n2 n3 n4 n5
            gi_wp2_with fail
            go_roundw
            case rel => exact ⟨.inr ⟨rfl, HJ6⟩, HK6⟩
            case measure => simp [downV]
          · have HJ6 := Lib.hid hJx6
            clear hJx6 hR hy x0 x1 x2 x3 x4 x5 y0 y1 y2 y3 y4 y5 n0 n1 n2 n3 n4 n5
            gi_wp2_with fail
            refine bodyPost_ret (results_none rfl _ _ _) rfl ?_
            exact ⟨⟨_, rfl⟩, .inr ⟨_, HN.out.2.2, HJ6.out⟩⟩
        · have HKo := Lib.hid (H3.out.2.trans HKq.out)
          clear HKq
          gi_wp2_with fail
          go_roundw
          case rel => exact ⟨i + 1, by go_num, by omega, HJq, HKo⟩
          case measure => simp only [downV]; omega
    · have hlI : ¬ (i : Int) < (xs.length : Int) := by omega
      obtain rfl : i = xs.length := by omega
      gi_wp2_with fail
      go_end0
      exact ⟨⟨_, rfl⟩, .inl (by have h := HJI.out; rw [List.take_length] at h; exact h)⟩
end Go.Proofs.YtmmopcceabdecaaGreatDoor
