/-
 recensionref11.Fair: some truth. Helper lemmas; no statement of the seat is proved here.
-/
import Derived.Test.YtkelpbbekeelcaaGreatDoorU6
namespace Go.Proofs.YtkelpbbekeelcaaGreatDoor
open Go.RowKit
set_option maxHeartbeats 32000000
set_option maxRecDepth 100000
set_option linter.unusedVariables false
set_option linter.unusedSimpArgs false
theorem cntA_len : ∀ l : List Attr, l.length ≤ cntA l
 | [] => Nat.le_refl _
 | a :: r => by have := cntA_len r; rw [cntA, List.length_cons]; omega
theorem fair_any : ∀ (N : Nat) (a : Node) (p : Nat → Prop) (va vk : Value) (w : World), nsz a ≤ N → cntN a ≤ 1048576 → Rep w p va (attrsD a.attrs) → Rep w p vk (nodesD a.kids) →
  Calls Tryz.prog 65 #[.agg #[.int .i64 a.kind, .string (bs a.name), .string (bs a.text), va, vk]] w fun e w' => SomeB (fun _ => True) e ∧ Ext w w' := by
 intro N
 induction N with
 | zero => intro a p va vk w hN; cases a; rw [nsz] at hN; omega
 | succ N ih =>
  intro a p va vk w hN hcnt hva hvk
  have hkid := fun i h => kid_lt a i h
  obtain ⟨k, nm, tx, la, ks⟩ := a
  simp only [Node.kind, Node.name, Node.text, Node.attrs, Node.kids] at *
  have hsz : nm.length ≤ 1048576 ∧ tx.length ≤ 1048576 ∧ la.length ≤ 1048576 ∧ ks.length ≤ 1048576 ∧ cntA la ≤ 1048576 ∧ cntL ks ≤ 1048576 := by
   rw [cntN] at hcnt
   have := cntL_len ks
   have := cntA_len la
   omega
  obtain ⟨hnm, htx, hla, hks, hca, hcl⟩ := hsz
  obtain ⟨ba, ca, rfl, ha1, ha2⟩ := hva.count z_attr (by omega)
  obtain ⟨bk, ck, rfl, hk1, hk2⟩ := hvk.count z_node (by omega)
  have HM : Hid (∀ (i : Nat) (h : i < ks.length), nsz ks[i] ≤ N) := Lh (fun i h => by have := hkid i h; omega)
  have HCM : Hid (∀ (i : Nat) (h : i < ks.length), cntN ks[i] ≤ 1048576) := Lh (fun i h => by have := cntL_mem ks i h; omega)
  have HAM : Hid (∀ (i : Nat) (h : i < la.length), la[i].n.length ≤ 1048576 ∧ la[i].v.length ≤ 1048576) := Lh (fun i h => by have := cntA_mem la i h; omega)
  have IH := Lh ih
  obtain ⟨w1, hw1⟩ : ∃ w1, w.alloc (.cells #[.int .i64 k, .string (bs nm), .string (bs tx), .slice ba la.length ca, .slice bk ks.length ck] 60) = w1 := ⟨_, rfl⟩
  have hE1 : Ext w w1 := by rw [← hw1]; exact (Ext.refl w).alloc _
  have l0 : w.heap.size < w1.heap.size := by rw [← hw1]; simp
  have c0 : w1.cell? ⟨w.heap.size, 0, none⟩ = some (.int .i64 k) := by rw [← hw1]; simp [go_sem]
  have c1 : w1.cell? ⟨w.heap.size, 1, none⟩ = some (.string (bs nm)) := by rw [← hw1]; simp [go_sem]
  have c2 : w1.cell? ⟨w.heap.size, 2, none⟩ = some (.string (bs tx)) := by rw [← hw1]; simp [go_sem]
  have c3 : w1.cell? ⟨w.heap.size, 3, none⟩ = some (.slice ba la.length ca) := by rw [← hw1]; simp [go_sem]
  have c4 : w1.cell? ⟨w.heap.size, 4, none⟩ = some (.slice bk ks.length ck) := by rw [← hw1]; simp [go_sem]
  obtain ⟨bv, wc, hcv, hEc, hbv⟩ := conv_bytes w1 tx (by omega)
  rw [← hw1] at hcv
  have HBD := Lh fun W (hE : Ext wc W) => bad_any _ tx htx bv W (hbv.ext hE)
  have HW1 := Lh hw1
  clear hkid hN ih hcnt hw1 hbv
  go_enter Tryz.func65, Tryz.ntmps65
  go_wp2_with fail
  refine (HBD.out _ (Ext.refl _)).mono ?_
  rintro e w2 ⟨⟨n, rfl, hn1, hn2⟩, hB2⟩
  have hE2 : Ext w1 w2 := hEc.trans hB2
  have d0 := hE2.keep l0 c0
  have d1 := hE2.keep l0 c1
  have d2 := hE2.keep l0 c2
  have d3 := hE2.keep l0 c3
  have d4 := hE2.keep l0 c4
  have l2 : w.heap.size < w2.heap.size := Nat.lt_of_lt_of_le l0 hE2.size
  have hX2 := hE1.trans hE2
  clear hcv HBD HW1 hEc hB2 c0 c1 c2 c3 c4 hE2
  by_cases hn : 0 ≤ n
  ·
   go_wp2_with fail
   go_ret
   exact ⟨⟨_, rfl, trivial⟩, hX2⟩
  ·
   by_cases h1 : k = 1
   ·
    subst h1
    go_wp2_with fail
    refine (name_any nm hnm _).mono ?_
    rintro e w3 ⟨⟨b, rfl, _⟩, hB3⟩
    have hX3 := hX2.trans hB3
    have f0 := hB3.keep l2 d0
    have f1 := hB3.keep l2 d1
    have f2 := hB3.keep l2 d2
    have f3 := hB3.keep l2 d3
    have f4 := hB3.keep l2 d4
    have l3 : w.heap.size < w3.heap.size := Nat.lt_of_lt_of_le l2 hB3.size
    clear d0 d1 d2 d3 d4
    have HC : Hid (∀ W, Ext w3 W → W.cell? ⟨w.heap.size, 3, none⟩ = some (.slice ba la.length ca) ∧ W.cell? ⟨w.heap.size, 4, none⟩ = some (.slice bk ks.length ck)) := Lh fun W hE => ⟨hE.keep l3 f3, hE.keep l3 f4⟩
    obtain ⟨T, hT⟩ : ∃ T, ((bs tx).toList == (⟨#[]⟩ : ByteArray).toList) = T := ⟨_, rfl⟩
    have hT2 : ((bs tx).toList == []) = T := by rw [← hT]; cases tx with
     | nil => rw [bs_nil2 [] rfl, bs_nil [] rfl]
     | cons x y => rw [bs_nnil2 _ (by simp), bs_nnil _ (by simp)]
    cases b
    all_goals
     go_wp2_with fail
     clear f0 f1 f2 f3 f4 hT hT2
     go_loopw [3, 4, 5] (fun x t _ wr => ∃ (ok : Bool) (i : Nat), x = .bool ok ∧ t = .int .i64 i ∧ i ≤ la.length ∧ Ext w3 wr) (fun _ t _ _ => downV la.length t)
     case atStart => exact ⟨_, 0, rfl, rfl, Nat.zero_le _, Ext.refl _⟩
     case round =>
      obtain ⟨ok, i, rfl, rfl, hi, hX⟩ := hrel
      have hi0 : (0 : Int) ≤ (i : Int) := by omega
      obtain ⟨cc3, cc4⟩ := HC.out _ hX
      have lr : w.heap.size < wr.heap.size := Nat.lt_of_lt_of_le l3 hX.size
      by_cases hlt : i < la.length
      ·
       have hlI : (i : Int) < (la.length : Int) := by omega
       obtain ⟨g, o, rfl, lg, _, x0, x1⟩ := attr_at (hva.ext (hX3.trans hX)) i hlt
       have hxl := HAM.out i hlt
       obtain ⟨x, hx⟩ : ∃ x, la[i] = x := ⟨_, rfl⟩
       rw [hx] at x0 x1 hxl
       clear hx
       cases ok with
       | false =>
        go_wp2_with fail
        obtain ⟨wz, hwz⟩ : ∃ wz, wz = wr := ⟨_, rfl⟩
        have lz : w.heap.size < wz.heap.size := by rw [hwz]; exact lr
        have z3 : wz.cell? ⟨w.heap.size, 3, none⟩ = some (.slice (some ⟨g, o, none⟩) la.length ca) := by rw [hwz]; exact cc3
        have hXz : Ext w wz := by rw [hwz]; exact hX3.trans hX
        have hY : Ext w3 wz := by rw [hwz]; exact hX
        rw [← hwz]
        clear hwz
        go_loopw [3, 5] (fun x t wq => ∃ (ok : Bool) (j : Nat), x = .bool ok ∧ t = .int .i64 j ∧ j ≤ i ∧ Dr wz wq) (fun _ t _ => downV i t)
        case atStart => exact ⟨_, 0, rfl, rfl, Nat.zero_le _, Dr.refl _⟩
        case round =>
         obtain ⟨ok, j, rfl, rfl, hj, hD⟩ := hrel
         have hj0 : (0 : Int) ≤ (j : Int) := by omega
         have z3q := hD.ext.keep lz z3
         have lq : w.heap.size < wr.heap.size := Nat.lt_of_lt_of_le lz hD.ext.size
         by_cases hjl : j < i
         ·
          have hjI : (j : Int) < (i : Int) := by omega
          have hjJ : (j : Int) < (la.length : Int) := by omega
          obtain ⟨g', o', e', lg', _, cj, _⟩ := attr_at (hva.ext (hXz.trans hD.ext)) j (by omega)
          obtain ⟨g2', o2', e2', lg2', _, ci, _⟩ := attr_at (hva.ext (hXz.trans hD.ext)) i hlt
          cases e'
          cases e2'
          obtain ⟨y, hy⟩ : ∃ y, la[j].n = y := ⟨_, rfl⟩
          rw [hy] at cj
          clear hy
          cases ok with
          | false =>
           go_wp2_with fail
           go_quiet (fail)
           go_wp2_with fail
           go_roundw
           case rel => exact ⟨_, j + 1, rfl, by go_num, by omega, hD.drewN _⟩
           case measure => simp only [downV]; omega
          | true =>
           go_wp2_with fail
           go_quiet (fail)
           go_wp2_with fail
           go_roundw
           case rel => exact ⟨_, j + 1, rfl, by go_num, by omega, hD.drewN _⟩
           case measure => simp only [downV]; omega
         ·
          have hjI : ¬ (j : Int) < (i : Int) := by omega
          go_wp2_with fail
          go_roundw
          case rel => exact ⟨_, i + 1, rfl, by go_num, by omega, hY.trans hD.ext⟩
          case measure => simp only [downV]; omega
       | true =>
        go_wp2_with fail
        refine (name_any x.n hxl.1 _).mono ?_
        rintro e w4 ⟨⟨b4, rfl, _⟩, hB4⟩
        have l4 : w.heap.size < w4.heap.size := Nat.lt_of_lt_of_le lr hB4.size
        have cc3' := hB4.keep lr cc3
        have x1' := hB4.keep lg x1
        have lg' : g < w4.heap.size := Nat.lt_of_lt_of_le lg hB4.size
        have hX4 := (hX3.trans hX).trans hB4
        clear x0 x1 cc3 cc4 lg
        cases b4 with
        | false =>
         go_wp2_with fail
         obtain ⟨wz, hwz⟩ : ∃ wz, wz = w4 := ⟨_, rfl⟩
         have lz : w.heap.size < wz.heap.size := by rw [hwz]; exact l4
         have z3 : wz.cell? ⟨w.heap.size, 3, none⟩ = some (.slice (some ⟨g, o, none⟩) la.length ca) := by rw [hwz]; exact cc3'
         have hXz : Ext w wz := by rw [hwz]; exact hX4
         have hY : Ext w3 wz := by rw [hwz]; exact hX.trans hB4
         rw [← hwz]
         clear hwz
         go_loopw [3, 5] (fun x t wq => ∃ (ok : Bool) (j : Nat), x = .bool ok ∧ t = .int .i64 j ∧ j ≤ i ∧ Dr wz wq) (fun _ t _ => downV i t)
         case atStart => exact ⟨_, 0, rfl, rfl, Nat.zero_le _, Dr.refl _⟩
         case round =>
          obtain ⟨ok, j, rfl, rfl, hj, hD⟩ := hrel
          have hj0 : (0 : Int) ≤ (j : Int) := by omega
          have z3q := hD.ext.keep lz z3
          have lq : w.heap.size < wr.heap.size := Nat.lt_of_lt_of_le lz hD.ext.size
          by_cases hjl : j < i
          ·
           have hjI : (j : Int) < (i : Int) := by omega
           have hjJ : (j : Int) < (la.length : Int) := by omega
           obtain ⟨g', o', e', lg', _, cj, _⟩ := attr_at (hva.ext (hXz.trans hD.ext)) j (by omega)
           obtain ⟨g2', o2', e2', lg2', _, ci, _⟩ := attr_at (hva.ext (hXz.trans hD.ext)) i hlt
           cases e'
           cases e2'
           obtain ⟨y, hy⟩ : ∃ y, la[j].n = y := ⟨_, rfl⟩
           rw [hy] at cj
           clear hy
           cases ok with
           | false =>
            go_wp2_with fail
            go_quiet (fail)
            go_wp2_with fail
            go_roundw
            case rel => exact ⟨_, j + 1, rfl, by go_num, by omega, hD.drewN _⟩
            case measure => simp only [downV]; omega
           | true =>
            go_wp2_with fail
            go_quiet (fail)
            go_wp2_with fail
            go_roundw
            case rel => exact ⟨_, j + 1, rfl, by go_num, by omega, hD.drewN _⟩
            case measure => simp only [downV]; omega
          ·
           have hjI : ¬ (j : Int) < (i : Int) := by omega
           go_wp2_with fail
           go_roundw
           case rel => exact ⟨_, i + 1, rfl, by go_num, by omega, hY.trans hD.ext⟩
           case measure => simp only [downV]; omega
        | true =>
         obtain ⟨bv5, w5, hcv5, hE5, hbv5⟩ := conv_bytes w4 x.v (by omega)
         have HBD5 := Lh fun W (hE : Ext w5 W) => bad_any _ x.v hxl.2 bv5 W (hbv5.ext hE)
         clear hbv5
         go_wp2_with fail
         refine (HBD5.out _ (Ext.refl _)).mono ?_
         rintro e w6 ⟨⟨n6, rfl, hn61, hn62⟩, hB6⟩
         have hE6 := hE5.trans hB6
         have l6 : w.heap.size < w6.heap.size := Nat.lt_of_lt_of_le l4 hE6.size
         have cc36 := hE6.keep l4 cc3'
         have hX6 := hX4.trans hE6
         have hY6 := hX.trans (hB4.trans hE6)
         clear hcv5 HBD5 hE5 hB6 x1' cc3'
         by_cases hn6 : n6 < 0
         ·
          go_wp2_with fail
          obtain ⟨wz, hwz⟩ : ∃ wz, wz = w6 := ⟨_, rfl⟩
          have lz : w.heap.size < wz.heap.size := by rw [hwz]; exact l6
          have z3 : wz.cell? ⟨w.heap.size, 3, none⟩ = some (.slice (some ⟨g, o, none⟩) la.length ca) := by rw [hwz]; exact cc36
          have hXz : Ext w wz := by rw [hwz]; exact hX6
          have hY : Ext w3 wz := by rw [hwz]; exact hY6
          rw [← hwz]
          clear hwz
          go_loopw [3, 5] (fun x t wq => ∃ (ok : Bool) (j : Nat), x = .bool ok ∧ t = .int .i64 j ∧ j ≤ i ∧ Dr wz wq) (fun _ t _ => downV i t)
          case atStart => exact ⟨_, 0, rfl, rfl, Nat.zero_le _, Dr.refl _⟩
          case round =>
           obtain ⟨ok, j, rfl, rfl, hj, hD⟩ := hrel
           have hj0 : (0 : Int) ≤ (j : Int) := by omega
           have z3q := hD.ext.keep lz z3
           have lq : w.heap.size < wr.heap.size := Nat.lt_of_lt_of_le lz hD.ext.size
           by_cases hjl : j < i
           ·
            have hjI : (j : Int) < (i : Int) := by omega
            have hjJ : (j : Int) < (la.length : Int) := by omega
            obtain ⟨g', o', e', lg', _, cj, _⟩ := attr_at (hva.ext (hXz.trans hD.ext)) j (by omega)
            obtain ⟨g2', o2', e2', lg2', _, ci, _⟩ := attr_at (hva.ext (hXz.trans hD.ext)) i hlt
            cases e'
            cases e2'
            obtain ⟨y, hy⟩ : ∃ y, la[j].n = y := ⟨_, rfl⟩
            rw [hy] at cj
            clear hy
            cases ok with
            | false =>
             go_wp2_with fail
             go_quiet (fail)
             go_wp2_with fail
             go_roundw
             case rel => exact ⟨_, j + 1, rfl, by go_num, by omega, hD.drewN _⟩
             case measure => simp only [downV]; omega
            | true =>
             go_wp2_with fail
             go_quiet (fail)
             go_wp2_with fail
             go_roundw
             case rel => exact ⟨_, j + 1, rfl, by go_num, by omega, hD.drewN _⟩
             case measure => simp only [downV]; omega
           ·
            have hjI : ¬ (j : Int) < (i : Int) := by omega
            go_wp2_with fail
            go_roundw
            case rel => exact ⟨_, i + 1, rfl, by go_num, by omega, hY.trans hD.ext⟩
            case measure => simp only [downV]; omega
         ·
          go_wp2_with fail
          obtain ⟨wz, hwz⟩ : ∃ wz, wz = w6 := ⟨_, rfl⟩
          have lz : w.heap.size < wz.heap.size := by rw [hwz]; exact l6
          have z3 : wz.cell? ⟨w.heap.size, 3, none⟩ = some (.slice (some ⟨g, o, none⟩) la.length ca) := by rw [hwz]; exact cc36
          have hXz : Ext w wz := by rw [hwz]; exact hX6
          have hY : Ext w3 wz := by rw [hwz]; exact hY6
          rw [← hwz]
          clear hwz
          go_loopw [3, 5] (fun x t wq => ∃ (ok : Bool) (j : Nat), x = .bool ok ∧ t = .int .i64 j ∧ j ≤ i ∧ Dr wz wq) (fun _ t _ => downV i t)
          case atStart => exact ⟨_, 0, rfl, rfl, Nat.zero_le _, Dr.refl _⟩
          case round =>
           obtain ⟨ok, j, rfl, rfl, hj, hD⟩ := hrel
           have hj0 : (0 : Int) ≤ (j : Int) := by omega
           have z3q := hD.ext.keep lz z3
           have lq : w.heap.size < wr.heap.size := Nat.lt_of_lt_of_le lz hD.ext.size
           by_cases hjl : j < i
           ·
            have hjI : (j : Int) < (i : Int) := by omega
            have hjJ : (j : Int) < (la.length : Int) := by omega
            obtain ⟨g', o', e', lg', _, cj, _⟩ := attr_at (hva.ext (hXz.trans hD.ext)) j (by omega)
            obtain ⟨g2', o2', e2', lg2', _, ci, _⟩ := attr_at (hva.ext (hXz.trans hD.ext)) i hlt
            cases e'
            cases e2'
            obtain ⟨y, hy⟩ : ∃ y, la[j].n = y := ⟨_, rfl⟩
            rw [hy] at cj
            clear hy
            cases ok with
            | false =>
             go_wp2_with fail
             go_quiet (fail)
             go_wp2_with fail
             go_roundw
             case rel => exact ⟨_, j + 1, rfl, by go_num, by omega, hD.drewN _⟩
             case measure => simp only [downV]; omega
            | true =>
             go_wp2_with fail
             go_quiet (fail)
             go_wp2_with fail
             go_roundw
             case rel => exact ⟨_, j + 1, rfl, by go_num, by omega, hD.drewN _⟩
             case measure => simp only [downV]; omega
           ·
            have hjI : ¬ (j : Int) < (i : Int) := by omega
            go_wp2_with fail
            go_roundw
            case rel => exact ⟨_, i + 1, rfl, by go_num, by omega, hY.trans hD.ext⟩
            case measure => simp only [downV]; omega
      ·
       have hlI : ¬ (i : Int) < (la.length : Int) := by omega
       go_wp2_with fail
       go_loopw [3, 6] (fun x t wr => ∃ (ok : Bool) (i : Nat), x = .bool ok ∧ t = .int .i64 i ∧ i ≤ ks.length ∧ Ext w3 wr) (fun _ t _ => downV ks.length t)
       case atStart => exact ⟨_, 0, rfl, rfl, Nat.zero_le _, hX⟩
       case round =>
        clear hlI hlt hi hi0 cc3 cc4 lr hX
        obtain ⟨ok, i, rfl, rfl, hi, hX⟩ := hrel
        have hi0 : (0 : Int) ≤ (i : Int) := by omega
        obtain ⟨cc3, cc4⟩ := HC.out _ hX
        have lr : w.heap.size < wr.heap.size := Nat.lt_of_lt_of_le l3 hX.size
        by_cases hlt : i < ks.length
        ·
         have hlI : (i : Int) < (ks.length : Int) := by omega
         cases ok with
         | false =>
          go_wp2_with fail
          go_roundw
          case rel => exact ⟨_, i + 1, rfl, by go_num, by omega, hX⟩
          case measure => simp only [downV]; omega
         | true =>
          obtain ⟨g, o, y1, y2, rfl, lg, _, x0, x1, x2, x3, x4, hr1, hr2⟩ := node_at (hvk.ext (hX3.trans hX)) i hlt
          have hm := HM.out i hlt
          have hcm := HCM.out i hlt
          obtain ⟨x, hx⟩ : ∃ x, ks[i] = x := ⟨_, rfl⟩
          rw [hx] at x0 x1 x2 hr1 hr2 hm hcm
          have HF := Lh fun W (hE : Ext wr W) => IH.out x p y1 y2 W hm hcm (hr1.ext hE) (hr2.ext hE)
          clear hx hm hcm hr1 hr2
          go_wp2_with fail
          refine (HF.out _ (Ext.refl _)).mono ?_
          rintro e w4 ⟨⟨b4, rfl, _⟩, hB4⟩
          have l4 : w.heap.size < w4.heap.size := Nat.lt_of_lt_of_le lr hB4.size
          have v4 := hB4.keep lr cc4
          have t0 := hB4.keep lg x0
          have lg4 : g < w4.heap.size := Nat.lt_of_lt_of_le lg hB4.size
          have hX4 := hX.trans hB4
          clear x0 x1 x2 x3 x4 cc3 cc4 lg
          cases b4 with
          | false =>
           go_wp2_with fail
           go_roundw
           case rel => exact ⟨_, i + 1, rfl, by go_num, by omega, hX4⟩
           case measure => simp only [downV]; omega
          | true =>
           by_cases hz : i = 0
           ·
            subst hz
            go_wp2_with fail
            go_roundw
            case rel => exact ⟨_, 1, rfl, by go_num, by omega, hX4⟩
            case measure => simp only [downV]; omega
           ·
            have hzI : ((i : Int) == 0) = false := by rw [beq_eq_false_iff_ne]; omega
            by_cases h2 : x.kind = 2
            ·
             have q2 : (x.kind != 2) = false := by rw [h2]; rfl
             obtain ⟨m, hm⟩ : ∃ m : Nat, i - 1 = m := ⟨_, rfl⟩
             have hmI : (i : Int) - 1 = (m : Int) := by omega
             have hml : m < ks.length := by omega
             have hmJ : (m : Int) < (ks.length : Int) := by omega
             have hm0 : (0 : Int) ≤ (m : Int) := by omega
             obtain ⟨g', o', z1, z2, e', _, _, m0, _⟩ := node_at (hvk.ext (hX3.trans hX4)) m hml
             cases e'
             obtain ⟨y, hy⟩ : ∃ y, ks[m].kind = y := ⟨_, rfl⟩
             rw [hy] at m0
             have HZ := Lh (And.intro hz (And.intro h2 hm))
             clear hz h2 hm hy
             go_wp2_with fail
             go_roundw
             case rel => exact ⟨_, i + 1, rfl, by go_num, by omega, hX4⟩
             case measure => simp only [downV]; omega
            ·
             have q2 : (x.kind != 2) = true := by rw [bne_iff_ne]; exact h2
             clear hz h2
             go_wp2_with fail
             go_roundw
             case rel => exact ⟨_, i + 1, rfl, by go_num, by omega, hX4⟩
             case measure => simp only [downV]; omega
        ·
         have hlI : ¬ (i : Int) < (ks.length : Int) := by omega
         go_wp2_with fail
         go_ret
         exact ⟨⟨_, rfl, trivial⟩, hX3.trans hX⟩
   ·
    have q1 : (k != 1) = true := by rw [bne_iff_ne]; exact h1
    have q1' : (k == 1) = false := by rw [beq_eq_false_iff_ne]; exact h1
    by_cases hl : 0 < la.length
    ·
     have hlI : (0 : Int) < (la.length : Int) := by omega
     go_wp2_with fail
     go_ret
     exact ⟨⟨_, rfl, trivial⟩, hX2⟩
    ·
     obtain rfl : la = [] := List.eq_nil_of_length_eq_zero (by omega)
     simp only [List.length_nil] at *
     clear hl
     by_cases hkk : 0 < ks.length
     ·
      have hkI : (0 : Int) < (ks.length : Int) := by omega
      go_wp2_with fail
      go_ret
      exact ⟨⟨_, rfl, trivial⟩, hX2⟩
     ·
      obtain rfl : ks = [] := List.eq_nil_of_length_eq_zero (by omega)
      simp only [List.length_nil] at *
      clear hkk
      by_cases h2 : k = 2
      ·
       subst h2
       by_cases em : nm = []
       ·
        have m1 := bs_nil nm em
        have m2 := bs_nil2 nm em
        clear em
        by_cases et : tx = []
        ·
         have t1 := bs_nil tx et
         have t2 := bs_nil2 tx et
         clear et
         go_wp2_with fail
         go_ret
         exact ⟨⟨_, rfl, trivial⟩, hX2⟩
        ·
         have t1 := bs_nnil tx et
         have t2 := bs_nnil2 tx et
         clear et
         go_wp2_with fail
         go_ret
         exact ⟨⟨_, rfl, trivial⟩, hX2⟩
       ·
        have m1 := bs_nnil nm em
        have m2 := bs_nnil2 nm em
        clear em
        go_wp2_with fail
        go_ret
        exact ⟨⟨_, rfl, trivial⟩, hX2⟩
      ·
       have q2 : (k == 2) = false := by rw [beq_eq_false_iff_ne]; exact h2
       by_cases h3 : k = 3
       ·
        subst h3
        by_cases em : nm = []
        ·
         have m1 := bs_nil nm em
         have m2 := bs_nil2 nm em
         clear em
         go_wp2_with fail
         refine (has_any _ _ (by rw [bs_size]; exact htx) (by decide) _).mono ?_
         rintro _ wy ⟨⟨bu, rfl, _⟩, hwy⟩
         subst hwy
         cases bu with
         | true =>
          go_wp2_with fail
          go_ret
          exact ⟨⟨_, rfl, trivial⟩, hX2⟩
         | false =>
          go_wp2_with fail
          refine (has_any _ _ (by rw [bs_size]; exact htx) (by decide) _).mono ?_
          rintro _ wy ⟨⟨bv, rfl, _⟩, hwy⟩
          subst hwy
          cases bv with
          | true =>
           go_wp2_with fail
           go_ret
           exact ⟨⟨_, rfl, trivial⟩, hX2⟩
          | false =>
           by_cases et : tx = []
           ·
            have t1 := bs_nil tx et
            have t2 := bs_nil2 tx et
            clear et
            go_wp2_with fail
            go_ret
            exact ⟨⟨_, rfl, trivial⟩, hX2⟩
           ·
            have t1 := bs_nnil tx et
            have t2 := bs_nnil2 tx et
            have hs0 : 0 < (bs tx).size := by rw [bs_size]; exact List.length_pos_iff.2 et
            have hs1 : (bs tx).size ≤ 1048576 := by rw [bs_size]; exact htx
            obtain ⟨m, hm⟩ : ∃ m : Nat, (bs tx).size - 1 = m := ⟨_, rfl⟩
            have hmI : ((bs tx).size : Int) - 1 = (m : Int) := by omega
            have hml : m < (bs tx).size := by omega
            have hmJ : (m : Int) < ((bs tx).size : Int) := by omega
            have hm0 : (0 : Int) ≤ (m : Int) := by omega
            clear et hm
            go_wp2_with fail
            go_ret
            exact ⟨⟨_, rfl, trivial⟩, hX2⟩
        ·
         have m1 := bs_nnil nm em
         have m2 := bs_nnil2 nm em
         clear em
         go_wp2_with fail
         go_ret
         exact ⟨⟨_, rfl, trivial⟩, hX2⟩
       ·
        have q3 : (k == 3) = false := by rw [beq_eq_false_iff_ne]; exact h3
        by_cases h4 : k = 4
        ·
         subst h4
         go_wp2_with fail
         refine (name_any nm hnm _).mono ?_
         rintro e w3 ⟨⟨b, rfl, _⟩, hB3⟩
         have hX3 := hX2.trans hB3
         have f0 := hB3.keep l2 d0
         have f1 := hB3.keep l2 d1
         have f2 := hB3.keep l2 d2
         have f3 := hB3.keep l2 d3
         have f4 := hB3.keep l2 d4
         have l3 : w.heap.size < w3.heap.size := Nat.lt_of_lt_of_le l2 hB3.size
         cases b with
         | false =>
          go_wp2_with fail
          go_ret
          exact ⟨⟨_, rfl, trivial⟩, hX3⟩
         | true =>
          go_wp2_with fail
          refine (lower_any nm hnm _).mono ?_
          rintro e w4 ⟨⟨L, rfl, hL⟩, hB4⟩
          have hX4 := hX3.trans hB4
          have g0 := hB4.keep l3 f0
          have g1 := hB4.keep l3 f1
          have g2 := hB4.keep l3 f2
          have g3 := hB4.keep l3 f3
          have g4 := hB4.keep l3 f4
          clear f0 f1 f2 f3 f4 d0 d1 d2 d3 d4
          by_cases hx : L = [120, 109, 108]
          ·
           have x1 : ((bs L).toList == (⟨#[120, 109, 108]⟩ : ByteArray).toList) = true := by rw [hx, show (⟨#[120, 109, 108]⟩ : ByteArray) = bs [120, 109, 108] from rfl]; exact beq_self_eq_true _
           have x2 : ((bs L).toList == [120, 109, 108]) = true := by rw [bs_toList, hx]; rfl
           clear hx
           go_wp2_with fail
           go_ret
           exact ⟨⟨_, rfl, trivial⟩, hX4⟩
          ·
           have x2 : ((bs L).toList == [120, 109, 108]) = false := by rw [bs_toList, beq_eq_false_iff_ne]; exact hx
           have x1 : ((bs L).toList == (⟨#[120, 109, 108]⟩ : ByteArray).toList) = false := by rw [show (⟨#[120, 109, 108]⟩ : ByteArray) = bs [120, 109, 108] from rfl, bs_toList (l := [120, 109, 108])]; exact x2
           clear hx
           go_wp2_with fail
           refine (has_any _ _ (by rw [bs_size]; exact htx) (by decide) _).mono ?_
           rintro _ wy ⟨⟨bu, rfl, _⟩, hwy⟩
           subst hwy
           cases bu with
           | true =>
            go_wp2_with fail
            go_ret
            exact ⟨⟨_, rfl, trivial⟩, hX4⟩
           | false =>
            go_wp2_with fail
            refine (has_any _ _ (by rw [bs_size]; exact htx) (by decide) _).mono ?_
            rintro _ wy ⟨⟨bv, rfl, _⟩, hwy⟩
            subst hwy
            cases bv with
            | true =>
             go_wp2_with fail
             go_ret
             exact ⟨⟨_, rfl, trivial⟩, hX4⟩
            | false =>
             by_cases et : tx = []
             ·
              have t1 := bs_nil tx et
              have t2 := bs_nil2 tx et
              clear et
              go_wp2_with fail
              go_ret
              exact ⟨⟨_, rfl, trivial⟩, hX4⟩
             ·
              have t1 := bs_nnil tx et
              have t2 := bs_nnil2 tx et
              have hs0 : 0 < (bs tx).size := by rw [bs_size]; exact List.length_pos_iff.2 et
              have hsI : (0 : Int) < ((bs tx).size : Int) := by omega
              clear et
              go_wp2_with fail
              refine (blank_some _ _).mono ?_
              rintro _ wy ⟨⟨bz, rfl, _⟩, hwy⟩
              subst hwy
              go_wp2_with fail
              go_ret
              exact ⟨⟨_, rfl, trivial⟩, hX4⟩
        ·
         have q4 : (k == 4) = false := by rw [beq_eq_false_iff_ne]; exact h4
         go_wp2_with fail
         go_ret
         exact ⟨⟨_, rfl, trivial⟩, hX2⟩
end Go.Proofs.YtkelpbbekeelcaaGreatDoor
