/-
 recensionref13.value. Helper lemmas; no statement of the seat is proved here.
-/
import Derived.Test.YtkelpbbekeelcaaGreatDoorU2
import Derived.Test.YtkelpbbekeelcaaGreatDoorRegion
namespace Go.Proofs.YtkelpbbekeelcaaGreatDoor
open Go.RowKit
set_option maxHeartbeats 32000000
set_option maxRecDepth 100000
set_option linter.unusedVariables false
set_option linter.unusedSimpArgs false
def attrGet (x : Bytes) : List Attr → Option Bytes
 | [] => none
 | a :: r => if a.n = x then some a.v else attrGet x r
def manyK (x : Bytes) : List Node → Nat → Node → Nat × Node
 | [], m, n => (m, n)
 | k :: r, m, n => if k.kind = 1 ∧ k.name = x then manyK x r (m + 1) k else manyK x r m n
def zeroN : Node := .mk 0 [] [] [] []
def walkV : Node → List Bytes → Option Bytes
 | n, [] => some (txtL n.kids)
 | n, c :: cs => if c.getD 0 0 = 64 then attrGet (c.drop 1) n.attrs else if (manyK c n.kids 0 zeroN).1 = 1 then walkV (manyK c n.kids 0 zeroN).2 cs else none
def valS (n : Node) (path : Bytes) : Option Bytes := if path = [46] then some (txtL n.kids) else walkV n (splitS 47 [] path)
theorem manyK_cnt (x : Bytes) : ∀ (l : List Node) (m : Nat) (n : Node) (C : Nat), cntL l ≤ C → cntN n ≤ C → cntN (manyK x l m n).2 ≤ C
 | [], m, n, C, _, h => h
 | k :: r, m, n, C, hl, h => by
  unfold manyK
  rw [cntL] at hl
  split
  ·
   exact manyK_cnt x r _ _ C (by omega) (by omega)
  ·
   exact manyK_cnt x r _ _ C (by omega) h
theorem manyK_le (x : Bytes) : ∀ (l : List Node) (m : Nat) (n : Node), m ≤ (manyK x l m n).1 ∧ (manyK x l m n).1 ≤ m + l.length
 | [], m, n => by simp [manyK]
 | k :: r, m, n => by
  unfold manyK
  split
  ·
   have := manyK_le x r (m + 1) k; simp only [List.length_cons]; omega
  ·
   have := manyK_le x r m n; simp only [List.length_cons]; omega
theorem cnt_kids (n : Node) : cntL n.kids + cntA n.attrs + 1 ≤ cntN n := by cases n; rw [cntN]; simp only [Node.kids, Node.attrs]; omega
theorem cntL_len : ∀ l : List Node, l.length ≤ cntL l
 | [] => by simp [cntL]
 | n :: r => by have := cntL_len r; have := cntN_pos n; rw [cntL, List.length_cons]; omega
theorem nodestxt_any (ks : List Node) (p : Nat → Prop) (v : Value) (w : World) (hcnt : cntL ks ≤ 1048576) (hv : Rep w p v (nodesD ks)) :
  Calls Tryz.prog 135 #[v] w fun e w' => e = .returned (.string (bs (txtL ks))) ∧ Ext w w' :=
 nodestxt_of (nszL ks) (Lh (nodetxt_any _)) ks p v w (fun i h => nszL_get ks i h) hcnt hv
structure B5 (W : World) (b : Nat) (n : Node) (xa xk : Value) : Prop where
 lt : b < W.heap.size
 c0 : W.cell? ⟨b, 0, none⟩ = some (.int .i64 n.kind)
 c1 : W.cell? ⟨b, 1, none⟩ = some (.string (bs n.name))
 c2 : W.cell? ⟨b, 2, none⟩ = some (.string (bs n.text))
 c3 : W.cell? ⟨b, 3, none⟩ = some xa
 c4 : W.cell? ⟨b, 4, none⟩ = some xk
 f0 : W.frozen? ⟨b, 0, none⟩ = false
 f1 : W.frozen? ⟨b, 1, none⟩ = false
 f2 : W.frozen? ⟨b, 2, none⟩ = false
 f3 : W.frozen? ⟨b, 3, none⟩ = false
 f4 : W.frozen? ⟨b, 4, none⟩ = false
theorem B5.ext {W W' : World} {b : Nat} {n : Node} {xa xk : Value} (h : B5 W b n xa xk) (hB : Ext W W') : B5 W' b n xa xk :=
 ⟨Nat.lt_of_lt_of_le h.lt hB.size, hB.keep h.lt h.c0, hB.keep h.lt h.c1, hB.keep h.lt h.c2, hB.keep h.lt h.c3, hB.keep h.lt h.c4, hB.free h.lt h.f0, hB.free h.lt h.f1, hB.free h.lt h.f2, hB.free h.lt h.f3, hB.free h.lt h.f4⟩
def st5 (W : World) (b : Nat) (n : Node) (xa xk : Value) : World := ((((W.setCell ⟨b, 0, none⟩ (.int .i64 n.kind)).setCell ⟨b, 1, none⟩ (.string (bs n.name))).setCell ⟨b, 2, none⟩ (.string (bs n.text))).setCell ⟨b, 3, none⟩ xa).setCell ⟨b, 4, none⟩ xk
theorem B5.put {W : World} {b : Nat} {m n : Node} {ya yk xa xk : Value} (h : B5 W b m ya yk) : B5 (st5 W b n xa xk) b n xa xk := by
 have l := h.lt
 have c0 := h.c0; have c1 := h.c1; have c2 := h.c2; have c3 := h.c3; have c4 := h.c4
 have f0 := h.f0; have f1 := h.f1; have f2 := h.f2; have f3 := h.f3; have f4 := h.f4
 unfold st5
 exact ⟨by simpa using l, by simp [go_sem, c0, c1, c2, c3, c4], by simp [go_sem, c0, c1, c2, c3, c4], by simp [go_sem, c0, c1, c2, c3, c4], by simp [go_sem, c0, c1, c2, c3, c4], by simp [go_sem, c0, c1, c2, c3, c4], by simp [go_sem, f0], by simp [go_sem, f1], by simp [go_sem, f2], by simp [go_sem, f3], by simp [go_sem, f4]⟩
theorem Ext.st5 {a w : World} (h : Ext a w) {b : Nat} (hb : a.heap.size ≤ b) (n : Node) (xa xk : Value) : Ext a (st5 w b n xa xk) :=
 ((((h.set hb _).set hb _).set hb _).set hb _).set hb _
def Mid (lo : Nat) (a w : World) : Prop := a.heap.size ≤ w.heap.size ∧ ∀ b, lo ≤ b → b < a.heap.size → w.heap[b]? = a.heap[b]?
theorem Mid.ext {lo : Nat} {a w w' : World} (h : Mid lo a w) (hB : Ext w w') : Mid lo a w' := ⟨Nat.le_trans h.1 hB.size, fun b h1 h2 => (Below.block hB b (Nat.lt_of_lt_of_le h2 h.1)).trans (h.2 b h1 h2)⟩
theorem Mid.set {lo : Nat} {a w : World} (h : Mid lo a w) {p : Addr} (hp : p.block < lo) (u : Value) : Mid lo a (w.setCell p u) := ⟨by simpa using h.1, fun b h1 h2 => by rw [Below.heap_setCell _ _ _ _ (by omega)]; exact h.2 b h1 h2⟩
theorem Mid.st5 {lo : Nat} {a w : World} (h : Mid lo a w) {b : Nat} (hb : b < lo) (n : Node) (xa xk : Value) : Mid lo a (st5 w b n xa xk) := ((((h.set (p := ⟨b, 0, none⟩) hb _).set (p := ⟨b, 1, none⟩) hb _).set (p := ⟨b, 2, none⟩) hb _).set (p := ⟨b, 3, none⟩) hb _).set (p := ⟨b, 4, none⟩) hb _
theorem Rep.mid {lo : Nat} {a w : World} {v : Value} {d : DV} (h : Rep a (fun b => lo ≤ b) v d) (hm : Mid lo a w) : Rep w (fun b => lo ≤ b) v d := h.kept fun b hb hlt => hm.2 b hb hlt
def OutV (r : Option Bytes) : Value := .tuple #[.string (bs (r.getD [])), .bool r.isSome]
theorem value_any (a : Node) (path : Bytes) (p : Nat → Prop) (va vk : Value) (w : World) (hcnt : cntN a ≤ 1048576) (hpl : path.length ≤ 1048576) (hne : path ≠ [46] → ∀ c ∈ splitS 47 [] path, c ≠ [])
  (hva : Rep w p va (attrsD a.attrs)) (hvk : Rep w p vk (nodesD a.kids)) :
  Calls Tryz.prog 117 #[.agg #[.int .i64 a.kind, .string (bs a.name), .string (bs a.text), va, vk], .string (bs path)] w fun e w' => e = .returned (OutV (valS a path)) ∧ Ext w w' := by
 have hck := cnt_kids a
 by_cases hp : path = [46]
 ·
  subst hp
  have HC := Lh fun W (hE : Ext w W) => nodestxt_any a.kids p vk W (by omega) (hvk.ext hE)
  have e : valS a [46] = some (txtL a.kids) := by unfold valS; rw [if_pos rfl]
  rw [e]
  obtain ⟨T, hT⟩ : ∃ T, txtL a.kids = T := ⟨_, rfl⟩
  rw [hT] at HC ⊢
  obtain ⟨ba, ca, rfl, ha1, ha2⟩ := hva.count z_attr (by omega)
  obtain ⟨bk, ck, rfl, hk1, hk2⟩ := hvk.count z_node (by omega)
  have e1 : (bs [46]).toList = [46] := bs_toList _
  have e2 : ((bs [46]).toList == (⟨#[46]⟩ : ByteArray).toList) = true := by rw [show (⟨#[46]⟩ : ByteArray) = bs [46] from rfl]; exact beq_self_eq_true _
  clear hT e hva hvk hck hcnt hne hpl
  go_enter Tryz.func117, Tryz.ntmps117
  go_wp2_with fail
  refine (HC.out _ ((Ext.refl w).alloc _)).mono ?_
  rintro e w1 ⟨rfl, hB1⟩
  go_wp2_with fail
  go_ret2
  exact ⟨rfl, ((Ext.refl w).alloc _).trans hB1⟩
 ·
  have e : valS a path = walkV a (splitS 47 [] path) := by unfold valS; rw [if_neg hp]
  rw [e]
  have HNE := Lh (hne hp)
  have HSP := Lh fun W => split_any path 47 W hpl
  obtain ⟨cs, hcs⟩ : ∃ cs, splitS 47 [] path = cs := ⟨_, rfl⟩
  rw [hcs] at HNE HSP ⊢
  obtain ⟨R, hR⟩ : ∃ R, walkV a cs = R := ⟨_, rfl⟩
  rw [hR]
  have HR := Lh hR
  have e2 : ((bs path).toList == (⟨#[46]⟩ : ByteArray).toList) = false := by
   rw [show (⟨#[46]⟩ : ByteArray) = bs [46] from rfl, bs_toList, bs_toList, beq_eq_false_iff_ne]; exact hp
  have e1 : ((bs path).toList == [46]) = false := by rw [bs_toList, beq_eq_false_iff_ne]; exact hp
  obtain ⟨ba, ca, rfl, ha1, ha2⟩ := hva.count z_attr (by omega)
  obtain ⟨bk, ck, rfl, hk1, hk2⟩ := hvk.count z_node (by omega)
  clear hR hcs e hne hp hpl hck
  go_enter Tryz.func117, Tryz.ntmps117
  go_wp2_with fail
  obtain ⟨w1, hw1⟩ : ∃ w1, (w.alloc (.cells #[.int .i64 a.kind, .string (bs a.name), .string (bs a.text), .slice ba a.attrs.length ca, .slice bk a.kids.length ck] 60)) = w1 := ⟨_, rfl⟩
  have hE1 : Ext w w1 := by rw [← hw1]; exact (Ext.refl w).alloc _
  have hz1 : w1.heap.size = w.heap.size + 1 := by rw [← hw1]; simp
  have hbx : B5 w1 w.heap.size a (.slice ba a.attrs.length ca) (.slice bk a.kids.length ck) := by
   rw [← hw1]
   exact ⟨by simp, by simp [go_sem], by simp [go_sem], by simp [go_sem], by simp [go_sem], by simp [go_sem], by simp [go_sem], by simp [go_sem], by simp [go_sem], by simp [go_sem], by simp [go_sem]⟩
  have HBX := Lh hbx
  have HZ1 := Lh hz1
  rw [hw1]
  clear hw1 hbx hz1
  refine (HSP.out _).mono ?_
  rintro e w2 ⟨⟨v6, rfl, hr6⟩, hB2⟩
  obtain ⟨a6, c6, rfl, h61, h62⟩ := hr6.count z_str (by omega)
  have HB2 := Lh (HBX.out.ext hB2)
  have hE2 := hE1.trans hB2
  clear hB2 HBX HSP
  go_wp2_with fail
  go_loopw [7, 8, 9, 10, 11] (fun t _ _ _ _ wr => ∃ (i : Nat) (m : Node) (xa xk : Value), t = .int .i64 i ∧ i ≤ cs.length ∧ Ext w wr ∧ Hid (B5 wr w.heap.size m xa xk ∧ Rep w p xa (attrsD m.attrs) ∧ Rep w p xk (nodesD m.kids) ∧ cntN m ≤ 1048576 ∧ Mid w1.heap.size w2 wr ∧ walkV m (cs.drop i) = R)) (fun t _ _ _ _ _ => downV cs.length t)
  case atStart => exact ⟨0, a, _, _, rfl, Nat.zero_le _, hE2, Lh ⟨HB2.out, hva, hvk, hcnt, ⟨Nat.le_refl _, fun _ _ _ => rfl⟩, HR.out⟩⟩
  case round =>
   obtain ⟨i, m, xa, xk, rfl, hi, hX, HH⟩ := hrel
   clear HB2 hva hvk hcnt HR
   obtain ⟨hb5, hxa, hxk, hcm, hmid, hw⟩ := HH.out
   clear HH
   obtain ⟨xab, xac, rfl, _, _⟩ := hxa.count z_attr (by omega)
   obtain ⟨xkb, xkc, rfl, _, _⟩ := hxk.count z_node (by omega)
   have hck := cnt_kids m
   have hckl := cntL_len m.kids
   have c0 := hb5.c0; have c1 := hb5.c1; have c2 := hb5.c2; have c3 := hb5.c3; have c4 := hb5.c4
   have f0 := hb5.f0; have f1 := hb5.f1; have f2 := hb5.f2; have f3 := hb5.f3; have f4 := hb5.f4
   have lb := hb5.lt
   have hi0 : (0 : Int) ≤ (i : Int) := by omega
   by_cases hlt : i < cs.length
   ·
    have hlI : (i : Int) < (cs.length : Int) := by omega
    obtain ⟨g6, o6, rfl, lg6, _, hc6⟩ := str_at (hr6.mid hmid) i hlt
    have hcne : cs[i] ≠ [] := HNE.out _ (List.getElem_mem hlt)
    have HS : Hid (walkV m (cs.drop i) = if cs[i].getD 0 0 = 64 then attrGet (cs[i].drop 1) m.attrs else if (manyK cs[i] m.kids 0 zeroN).1 = 1 then walkV (manyK cs[i] m.kids 0 zeroN).2 (cs.drop (i + 1)) else none) := Lh (by rw [drop_one cs i hlt, walkV])
    have hclen : cs[i].length ≤ 9223372036854775807 := strs_len hr6 i hlt
    obtain ⟨c, hc⟩ : ∃ c, cs[i] = c := ⟨_, rfl⟩
    rw [hc] at hc6 hcne HS hclen
    clear hc
    have hs0 : 0 < (bs c).size := by rw [bs_size]; exact List.length_pos_iff.2 hcne
    have hsm : (bs c).size ≤ 9223372036854775807 := by rw [bs_size]; exact hclen
    have h0 : (bs c)[0]'hs0 = c.getD 0 0 := by
     rw [bs_getE, List.getD_eq_getElem?_getD, List.getElem?_eq_getElem (by rw [bs_size] at hs0; exact hs0)]; rfl
    by_cases h64 : c.getD 0 0 = 64
    ·
     have hq : ((((bs c)[0]'hs0).toNat : Int) == 64) = true := by rw [h0, h64]; rfl
     have HA : Hid (attrGet (c.drop 1) m.attrs = R) := Lh (by rw [← hw, HS.out, if_pos h64])
     have hx1 : (bs c).extract 1 (bs c).size = bs (c.drop 1) := by rw [bs_extract, bs_size, List.take_of_length_le (by rw [List.length_drop]; exact Nat.le_refl _)]
     obtain ⟨x, hx⟩ : ∃ x, c.drop 1 = x := ⟨_, rfl⟩
     rw [hx] at HA hx1
     clear HS hw h64 h0 hx hmid hxk hck hckl hcm c0 c1 c2 c4 f0 f1 f2 f3 f4 hb5 hcne hclen
     obtain ⟨wz, hwz⟩ : ∃ wz, wz = wr := ⟨_, rfl⟩
     subst hwz
     go_wp2_with fail
     go_loopw [8] (fun t wq => ∃ k : Nat, t = .int .i64 k ∧ k ≤ m.attrs.length ∧ Dr wz wq ∧ Hid (attrGet x (m.attrs.drop k) = R)) (fun t _ => downV m.attrs.length t)
     case atStart => exact ⟨0, rfl, Nat.zero_le _, Dr.refl _, HA⟩
     case round =>
      obtain ⟨k, rfl, hk, hD, HK⟩ := hrel
      have hk0 : (0 : Int) ≤ (k : Int) := by omega
      have c3q := hD.ext.keep lb c3
      have c6q := hD.ext.keep lg6 hc6
      by_cases hkl : k < m.attrs.length
      ·
       have hkI : (k : Int) < (m.attrs.length : Int) := by omega
       obtain ⟨ga, oa, rfl, lga, _, d1, d2⟩ := attr_at (hxa.ext (hX.trans hD.ext)) k hkl
       have HKS : Hid (attrGet x (m.attrs.drop k) = if m.attrs[k].n = x then some m.attrs[k].v else attrGet x (m.attrs.drop (k + 1))) := Lh (by rw [drop_one m.attrs k hkl, attrGet])
       obtain ⟨y, hy⟩ : ∃ y, m.attrs[k] = y := ⟨_, rfl⟩
       rw [hy] at d1 d2 HKS
       have HD := Lh hD
       clear hy hD
       by_cases hyx : y.n = x
       ·
        have q1 : ((bs y.n).toList == (bs x).toList) = true := by rw [bs_toList, bs_toList, hyx]; exact beq_self_eq_true _
        have HN : Hid (some y.v = R) := Lh (by rw [← HK.out, HKS.out, if_pos hyx])
        clear HK HKS hyx
        go_wp2_with fail
        go_quiet (fail)
        go_wp2_with fail
        go_ret2
        exact ⟨by rw [← HN.out]; rfl, hX.trans (HD.out.ext.drewN _)⟩
       ·
        have q1 : ((bs y.n).toList == (bs x).toList) = false := by rw [bs_toList, bs_toList, beq_eq_false_iff_ne]; exact hyx
        have HN : Hid (attrGet x (m.attrs.drop (k + 1)) = R) := Lh (by rw [← HK.out, HKS.out, if_neg hyx])
        clear HK HKS hyx
        go_wp2_with fail
        go_quiet (fail)
        go_wp2_with fail
        go_roundw
        case rel => exact ⟨k + 1, by go_num, by omega, HD.out.drewN _, HN⟩
        case measure => simp only [downV]; omega
      ·
       have hkI : ¬ (k : Int) < (m.attrs.length : Int) := by omega
       have HN : Hid (none = R) := Lh (by rw [← HK.out, List.drop_of_length_le (by omega)]; rfl)
       clear HK
       go_wp2_with fail
       go_ret2
       exact ⟨by rw [← HN.out]; rfl, hX.trans hD.ext⟩
    ·
     have hq : ((((bs c)[0]'hs0).toNat : Int) == 64) = false := by
      rw [h0, beq_eq_false_iff_ne]; intro e; exact h64 (UInt8.toNat_inj.1 (by show _ = 64; omega))
     have HA : Hid ((if (manyK c m.kids 0 zeroN).1 = 1 then walkV (manyK c m.kids 0 zeroN).2 (cs.drop (i + 1)) else none) = R) := Lh (by rw [← hw, HS.out, if_neg h64])
     have hML := manyK_le c m.kids 0 zeroN
     have hMC := manyK_cnt c m.kids 0 zeroN 1048576 (by omega) (by decide)
     obtain ⟨M, hM⟩ : ∃ M, manyK c m.kids 0 zeroN = M := ⟨_, rfl⟩
     rw [hM] at HA hML hMC
     have HM := Lh hM
     have hkids : m.kids.length ≤ 1048576 := by omega
     clear HS hw h64 h0 hcne hclen hM hck
     obtain ⟨wz, hwz⟩ : ∃ wz, wz = wr := ⟨_, rfl⟩
     subst hwz
     go_wp2_with fail
     obtain ⟨w3, hw3⟩ : ∃ w3, (wz.alloc (.cells #[.int .i64 0, .string ⟨#[]⟩, .string ⟨#[]⟩, .slice none 0 0, .slice none 0 0] 60)) = w3 := ⟨_, rfl⟩
     have hE3 : Ext wz w3 := by rw [← hw3]; exact (Ext.refl wz).alloc _
     have hnx : B5 w3 wz.heap.size zeroN (.slice none 0 0) (.slice none 0 0) := by
      rw [← hw3]
      exact ⟨by simp, by simp [go_sem, zeroN, Node.kind], by simp [go_sem, zeroN, Node.name]; rfl, by simp [go_sem, zeroN, Node.text]; rfl, by simp [go_sem], by simp [go_sem], by simp [go_sem], by simp [go_sem], by simp [go_sem], by simp [go_sem], by simp [go_sem]⟩
     have HNX := Lh hnx
     rw [hw3]
     clear hw3 hnx
     have hz12 : w2.heap.size ≤ wz.heap.size := hmid.1
     go_loopw [9, 11] (fun mm t wq => ∃ (k j : Nat) (nx : Node) (ya yk : Value), t = .int .i64 k ∧ mm = .int .i64 j ∧ k ≤ m.kids.length ∧ j ≤ k ∧ Ext wz wq ∧ Hid (B5 wq wz.heap.size nx ya yk ∧ Rep w p ya (attrsD nx.attrs) ∧ Rep w p yk (nodesD nx.kids) ∧ manyK c (m.kids.drop k) j nx = M)) (fun _ t _ => downV m.kids.length t)
     case atStart => exact ⟨0, 0, zeroN, _, _, rfl, rfl, Nat.zero_le _, Nat.le_refl _, hE3, Lh ⟨HNX.out, .nil 2, .nil 5, HM.out⟩⟩
     case round =>
      obtain ⟨k, j, nx, ya, yk, rfl, rfl, hk, hj, hQ, HQ⟩ := hrel
      have hk0 : (0 : Int) ≤ (k : Int) := by omega
      have hj0 : (0 : Int) ≤ (j : Int) := by omega
      have hjk : (j : Int) ≤ (k : Int) := by omega
      have hkb : (k : Int) ≤ 1048576 := by omega
      have hb5q := hb5.ext hQ
      have c3q := hb5q.c3
      have c4q := hb5q.c4
      have lbq := hb5q.lt
      have c6q := hQ.keep lg6 hc6
      have lg6q := Nat.lt_of_lt_of_le lg6 hQ.size
      by_cases hkl : k < m.kids.length
      ·
       have hkI : (k : Int) < (m.kids.length : Int) := by omega
       obtain ⟨gk, ok, za, zk, hgk, lgk, _, d0, d1, d2, d3, d4, hza, hzk⟩ := node_at hxk k hkl
       obtain rfl := hgk
       have hEw := hX.trans hQ
       have e0 := hEw.keep lgk d0
       have e1 := hEw.keep lgk d1
       have e2 := hEw.keep lgk d2
       have e3 := hEw.keep lgk d3
       have e4 := hEw.keep lgk d4
       obtain ⟨hnx, hya, hyk, hmk⟩ := HQ.out
       have HKS : Hid (manyK c (m.kids.drop k) j nx = if m.kids[k].kind = 1 ∧ m.kids[k].name = c then manyK c (m.kids.drop (k + 1)) (j + 1) m.kids[k] else manyK c (m.kids.drop (k + 1)) j nx) := Lh (by rw [drop_one m.kids k hkl, manyK])
       obtain ⟨x, hx⟩ : ∃ x, m.kids[k] = x := ⟨_, rfl⟩
       rw [hx] at e0 e1 e2 hza hzk HKS
       obtain ⟨zab, zac, rfl, _, _⟩ := hza.count z_attr (by omega)
       obtain ⟨zkb, zkc, rfl, _, _⟩ := hzk.count z_node (by omega)
       have n0 := hnx.c0; have n1 := hnx.c1; have n2 := hnx.c2; have n3 := hnx.c3; have n4 := hnx.c4
       have z0 := hnx.f0; have z1 := hnx.f1; have z2 := hnx.f2; have z3 := hnx.f3; have z4 := hnx.f4
       have hQQ := Lh hQ
       clear hx d0 d1 d2 d3 d4 HQ HNX hEw HM
       by_cases hk1 : x.kind = 1
       ·
        have q1 : (x.kind == 1) = true := by rw [hk1]; rfl
        by_cases hnm : x.name = c
        ·
         have q2 : ((bs x.name).toList == (bs c).toList) = true := by rw [bs_toList, bs_toList, hnm]; exact beq_self_eq_true _
         have HN : Hid (manyK c (m.kids.drop (k + 1)) (j + 1) x = M) := Lh (by rw [← hmk, HKS.out, if_pos ⟨hk1, hnm⟩])
         clear HKS hmk hk1 hnm hQ
         go_wp2_with fail
         go_quiet (fail)
         go_wp2_with fail
         go_roundw
         case rel => exact ⟨k + 1, j + 1, x, _, _, by go_num, by go_num, by omega, by omega, (hQQ.out.drewN _).st5 (Nat.le_refl _) x _ _, Lh ⟨(hnx.ext ((Ext.refl _).drewN _)).put, hza, hzk, HN.out⟩⟩
         case measure => simp only [downV]; omega
        ·
         have q2 : ((bs x.name).toList == (bs c).toList) = false := by rw [bs_toList, bs_toList, beq_eq_false_iff_ne]; exact hnm
         have HN : Hid (manyK c (m.kids.drop (k + 1)) j nx = M) := Lh (by rw [← hmk, HKS.out, if_neg (fun h => hnm h.2)])
         clear HKS hmk hk1 hnm hQ
         go_wp2_with fail
         go_quiet (fail)
         go_wp2_with fail
         go_roundw
         case rel => exact ⟨k + 1, j, nx, _, _, by go_num, rfl, by omega, by omega, hQQ.out.drewN _, Lh ⟨hnx.ext ((Ext.refl _).drewN _), hya, hyk, HN.out⟩⟩
         case measure => simp only [downV]; omega
       ·
        have q1 : (x.kind == 1) = false := by rw [beq_eq_false_iff_ne]; exact hk1
        have HN : Hid (manyK c (m.kids.drop (k + 1)) j nx = M) := Lh (by rw [← hmk, HKS.out, if_neg (fun h => hk1 h.1)])
        clear HKS hmk hk1 hQ
        go_wp2_with fail
        go_quiet (fail)
        go_wp2_with fail
        go_roundw
        case rel => exact ⟨k + 1, j, nx, _, _, by go_num, rfl, by omega, by omega, hQQ.out.drewN _, Lh ⟨hnx.ext ((Ext.refl _).drewN _), hya, hyk, HN.out⟩⟩
        case measure => simp only [downV]; omega
      ·
       have hkI : ¬ (k : Int) < (m.kids.length : Int) := by omega
       obtain ⟨hnx, hya, hyk, hmk⟩ := HQ.out
       rw [List.drop_of_length_le (by omega)] at hmk
       have hM : M = (j, nx) := by rw [← hmk]; rfl
       subst hM
       clear HQ HM HNX hmk
       by_cases hj1 : j = 1
       ·
        subst hj1
        have hj1I : ((1 : Int) != 1) = false := by rfl
        have HN : Hid (walkV nx (cs.drop (i + 1)) = R) := Lh (by rw [← HA.out, if_pos rfl])
        obtain ⟨yab, yac, rfl, _, _⟩ := hya.count z_attr (by omega)
        obtain ⟨ykb, ykc, rfl, _, _⟩ := hyk.count z_node (by omega)
        have n0 := hnx.c0; have n1 := hnx.c1; have n2 := hnx.c2; have n3 := hnx.c3; have n4 := hnx.c4
        have p0 := hb5q.c0; have p1 := hb5q.c1; have p2 := hb5q.c2
        have t0 := hb5q.f0; have t1 := hb5q.f1; have t2 := hb5q.f2; have t3 := hb5q.f3; have t4 := hb5q.f4
        have HF := Lh (And.intro hb5q (And.intro hya (And.intro hyk (And.intro hMC (And.intro (hmid.ext hQ) (hX.trans hQ))))))
        have hlo : w.heap.size < w1.heap.size := by have := HZ1.out; omega
        clear HA hya hyk hMC hmid hML
        go_wp2_with fail
        go_roundw
        case rel => exact ⟨i + 1, nx, _, _, by go_num, by omega, HF.out.2.2.2.2.2.st5 (Nat.le_refl _) nx _ _, Lh ⟨HF.out.1.put, HF.out.2.1, HF.out.2.2.1, HF.out.2.2.2.1, HF.out.2.2.2.2.1.st5 hlo nx _ _, HN.out⟩⟩
        case measure => simp only [downV]; omega
       ·
        have hj1I : ((j : Int) != 1) = true := by rw [bne_iff_ne]; omega
        have HN : Hid (none = R) := Lh (by rw [← HA.out, if_neg hj1])
        clear HA hya hyk hMC hmid hML hj1
        go_wp2_with fail
        go_ret2
        exact ⟨by rw [← HN.out]; rfl, hX.trans hQ⟩
   ·
    have hlI : ¬ (i : Int) < (cs.length : Int) := by omega
    have HN : Hid (some (txtL m.kids) = R) := Lh (by rw [← hw, List.drop_of_length_le (by omega), walkV])
    have HC := Lh fun W (hE : Ext wr W) => nodestxt_any m.kids p _ W (by omega) (hxk.ext (hX.trans hE))
    obtain ⟨T, hT⟩ : ∃ T, txtL m.kids = T := ⟨_, rfl⟩
    rw [hT] at HC HN
    clear hT hw hmid hck hckl hcm hxa hxk
    go_wp2_with fail
    refine (HC.out _ (Ext.refl _)).mono ?_
    rintro e w3 ⟨rfl, hB3⟩
    go_wp2_with fail
    go_ret2
    exact ⟨by rw [← HN.out]; rfl, hX.trans hB3⟩
def pathOk (k : Bytes) : Prop := k.length ≤ 1048576 ∧ (k ≠ [46] → ∀ c ∈ splitS 47 [] k, c ≠ [])
def keyS (n : Node) : List Bytes → Option (List Bytes)
 | [] => some []
 | k :: r => match valS n k with
  | none => none
  | some v => (keyS n r).map (v :: ·)
theorem attrGet_len (x : Bytes) : ∀ (l : List Attr) (v : Bytes), attrGet x l = some v → v.length ≤ cntA l
 | [], v, h => by simp [attrGet] at h
 | a :: r, v, h => by
  unfold attrGet at h
  rw [cntA]
  split at h
  ·
   cases h; omega
  ·
   have := attrGet_len x r v h; omega
theorem walkV_len : ∀ (cs : List Bytes) (n : Node) (v : Bytes), cntN n ≤ 1048576 → walkV n cs = some v → v.length ≤ 12582912
 | [], n, v, hn, h => by
  rw [walkV] at h; cases h
  have h1 := txtL_len n.kids
  have h2 := cnt_kids n
  omega
 | c :: cs, n, v, hn, h => by
  have h2 := cnt_kids n
  rw [walkV] at h
  split at h
  ·
   have := attrGet_len _ _ _ h; omega
  ·
   split at h
   ·
    exact walkV_len cs _ v (manyK_cnt c n.kids 0 zeroN 1048576 (by omega) (by decide)) h
   ·
    cases h
theorem valS_len (n : Node) (k v : Bytes) (hn : cntN n ≤ 1048576) (h : valS n k = some v) : v.length ≤ 12582912 := by
 unfold valS at h
 split at h
 ·
  cases h
  have h1 := txtL_len n.kids
  have h2 := cnt_kids n
  omega
 ·
  exact walkV_len _ n v hn h
theorem keyS_step (n : Node) : ∀ (L : List Bytes) (k : Bytes) (r : List Bytes), (keyS n (k :: r)).map (L ++ ·) = match valS n k with | none => none | some v => (keyS n r).map ((L ++ [v]) ++ ·) := fun L k r => by
 rw [keyS]
 cases valS n k with
 | none => rfl
 | some v => cases keyS n r <;> simp
def RetB (p : Nat → Prop) (D : DV) (b : Bool) (e : Ending) (w' : World) : Prop := ∃ v, e = .returned (.tuple #[v, .bool b]) ∧ Rep w' p v D
theorem key_any (ks xp : List Bytes) (a : Node) (p q : Nat → Prop) (vp vk va vn : Value) (w : World) (hcnt : cntN a ≤ 1048576) (hks : ks.length ≤ 1048576) (hok : ∀ k ∈ ks, pathOk k)
  (hvp : Rep w q vp (strsD xp)) (hvk : Rep w q vk (strsD ks)) (hva : Rep w p va (attrsD a.attrs)) (hvn : Rep w p vn (nodesD a.kids)) :
  Calls Tryz.prog 84 #[.agg #[vp, vk], .agg #[.int .i64 a.kind, .string (bs a.name), .string (bs a.text), va, vn]] w fun e w' => RetB (fun b => w.heap.size ≤ b) (strsD ((keyS a ks).getD [])) (keyS a ks).isSome e w' ∧ Ext w w' := by
 obtain ⟨pa, pc, rfl, _, _⟩ := hvp.count z_str (by omega)
 obtain ⟨ka, kc, rfl, hkc1, hkc2⟩ := hvk.count z_str (by omega)
 obtain ⟨ba, ca, rfl, _, _⟩ := hva.count z_attr (by omega)
 obtain ⟨bn, cn, rfl, _, _⟩ := hvn.count z_node (by omega)
 obtain ⟨i0, hi, hz0, hz1, hz2⟩ := info_parts infoStr
 obtain ⟨R, hR⟩ : ∃ R, keyS a ks = R := ⟨_, rfl⟩
 rw [hR]
 have HR : Hid ((keyS a (ks.drop 0)).map ([] ++ ·) = R) := Lh (by rw [List.drop_zero, hR]; cases R <;> rfl)
 have HOK := Lh hok
 have HCN := Lh hcnt
 clear hR hok hcnt
 go_enter Tryz.func84, Tryz.ntmps84
 go_wp2_with fail
 obtain ⟨w1, hw1⟩ : ∃ w1, ((w.alloc (.cells #[.slice pa xp.length pc, .slice ka ks.length kc] 72)).alloc (.cells #[.int .i64 a.kind, .string (bs a.name), .string (bs a.text), .slice ba a.attrs.length ca, .slice bn a.kids.length cn] 60)) = w1 := ⟨_, rfl⟩
 have hE1 : Ext w w1 := by rw [← hw1]; exact ((Ext.refl w).alloc _).alloc _
 have l0 : w.heap.size < w1.heap.size := by rw [← hw1]; simp; omega
 have l1 : w.heap.size + 1 < w1.heap.size := by rw [← hw1]; simp
 have k1 : w1.cell? ⟨w.heap.size, 1, none⟩ = some (.slice ka ks.length kc) := by rw [← hw1]; simp [go_sem]
 have n0 : w1.cell? ⟨w.heap.size + 1, 0, none⟩ = some (.int .i64 a.kind) := by rw [← hw1]; simp [go_sem]
 have n1 : w1.cell? ⟨w.heap.size + 1, 1, none⟩ = some (.string (bs a.name)) := by rw [← hw1]; simp [go_sem]
 have n2 : w1.cell? ⟨w.heap.size + 1, 2, none⟩ = some (.string (bs a.text)) := by rw [← hw1]; simp [go_sem]
 have n3 : w1.cell? ⟨w.heap.size + 1, 3, none⟩ = some (.slice ba a.attrs.length ca) := by rw [← hw1]; simp [go_sem]
 have n4 : w1.cell? ⟨w.heap.size + 1, 4, none⟩ = some (.slice bn a.kids.length cn) := by rw [← hw1]; simp [go_sem]
 rw [hw1]
 clear hw1
 go_loopw [6, 7, 8, 9] (fun o t _ _ wr => ∃ (i : Nat) (L : List Bytes) (dv : Value), t = .int .i64 i ∧ dv = o ∧ i ≤ ks.length ∧ L.length ≤ i ∧ Own wr (fun _ => False) w1.heap.size 9 1 dv L.length (L.flatMap fun x => [strD x]) ∧ Ext w1 wr ∧ Hid ((keyS a (ks.drop i)).map (L ++ ·) = R)) (fun _ t _ _ _ => downV ks.length t)
 case atStart => exact ⟨0, [], _, rfl, rfl, Nat.zero_le _, Nat.le_refl _, Own.nil _ _ _ _ _, Ext.refl _, HR⟩
 case round =>
  obtain ⟨i, L, dv, rfl, rfl, hi2, hL, hown, hX, HI⟩ := hrel
  have hi0 : (0 : Int) ≤ (i : Int) := by omega
  have hwz := hX.size
  have k1r := hX.keep l0 k1
  have n0r := hX.keep l1 n0
  have n1r := hX.keep l1 n1
  have n2r := hX.keep l1 n2
  have n3r := hX.keep l1 n3
  have n4r := hX.keep l1 n4
  have m0 : w.heap.size < wr.heap.size := by omega
  have m1 : w.heap.size + 1 < wr.heap.size := by omega
  by_cases hlt : i < ks.length
  ·
   have hlI : (i : Int) < (ks.length : Int) := by omega
   obtain ⟨g, o, rfl, lg, _, hc⟩ := str_at (hvk.ext (hE1.trans hX)) i hlt
   have hpo := HOK.out _ (List.getElem_mem hlt)
   have HS := keyS_step a L ks[i] (ks.drop (i + 1))
   rw [← drop_one ks i hlt, HI.out] at HS
   obtain ⟨k, hk⟩ : ∃ k, ks[i] = k := ⟨_, rfl⟩
   rw [hk] at hc hpo HS
   have HC := Lh fun W (hE : Ext wr W) => value_any a k p _ _ W HCN.out hpo.1 hpo.2 (hva.ext ((hE1.trans hX).trans hE)) (hvn.ext ((hE1.trans hX).trans hE))
   have hvl := valS_len a k
   obtain ⟨r, hr⟩ : ∃ r, valS a k = r := ⟨_, rfl⟩
   rw [hr] at HC HS hvl
   unfold OutV at HC
   have HSS := Lh HS
   have HVL := Lh hvl
   have hXX := Lh hX
   obtain ⟨wz, hwzz⟩ : ∃ wz, wz = wr := ⟨_, rfl⟩
   subst hwzz
   clear hk hpo hr HS hvl HI
   obtain ⟨s, hs⟩ : ∃ s, bs (r.getD []) = s := ⟨_, rfl⟩
   obtain ⟨b, hb⟩ : ∃ b, r.isSome = b := ⟨_, rfl⟩
   rw [hs, hb] at HC
   have HSB := Lh (And.intro hs hb)
   clear hs hb
   go_wp2_with fail
   refine rg_begin (S := Sx wz) (by kernel_rfl) (Sx.begin _) ?_
   have hS : Sx wz (World.drew wz) := (Sx.begin _)
   refine rg_t 0 (some 18) (.agg #[.int .i64 a.kind, .string (bs a.name), .string (bs a.text), .slice ba a.attrs.length ca, .slice bn a.kids.length cn]) rfl hS (fun w' hs => by (have h0 := hs.cell m1 n0r; have h1 := hs.cell m1 n1r; have h2 := hs.cell m1 n2r; have h3 := hs.cell m1 n3r; have h4 := hs.cell m1 n4r; go_simp)) ?_
   simp only [Act.put, sA, sZ, sS]
   refine rg_t 1 (some 19) (.pointer (some ⟨w.heap.size, 1, none⟩)) rfl hS (fun w' hs => by first | rfl | go_simp) ?_
   simp only [Act.put, sA, sZ, sS]
   refine rg_t 2 (some 20) (.slice (some ⟨g, o, none⟩) ks.length kc) rfl hS (fun w' hs => by (have h0 := hs.cell m0 k1r; go_simp)) ?_
   simp only [Act.put, sA, sZ, sS]
   refine rg_t 3 (some 21) (.int .i64 i) rfl hS (fun w' hs => by rfl) ?_
   simp only [Act.put, sA, sZ, sS]
   refine rg_t 4 (some 22) (.pointer (some ⟨g, o + i, none⟩)) rfl hS (fun w' hs => by first | rfl | go_simp) ?_
   simp only [Act.put, sA, sZ, sS]
   refine rg_t 5 (some 23) (.string (bs k)) rfl hS (fun w' hs => by (have h0 := hs.cell lg hc; go_simp)) ?_
   simp only [Act.put, sA, sZ, sS]
   refine rg_call 6 (some 24) 117 #[.agg #[.int .i64 a.kind, .string (bs a.name), .string (bs a.text), .slice ba a.attrs.length ca, .slice bn a.kids.length cn], .string (bs k)] rfl rfl (by kernel_rfl) (by rfl) (fun w' => by first | rfl | go_simp) (R := fun v w' => v = .tuple #[.string s, .bool b] ∧ Ext (World.drew wz) w') ?_ ?_
   ·
    refine (HC.out (World.drew wz) hS).mono ?_
    rintro e w' ⟨rfl, h⟩
    exact ⟨_, rfl, rfl, h⟩
   rintro _ wr1 ⟨rfl, hBr1⟩
   have hS1 := hS.ext hBr1
   refine ⟨hS1, ?_⟩
   simp only [Act.put, sA, sZ, sS]
   refine rg_t 7 (some 17) (.tuple #[.string s, .bool b]) rfl hS1 (fun w' hs => by rfl) ?_
   simp only [Act.put, sA, sZ, sS]
   refine rg_t 8 (some 25) (.string s) rfl hS1 (fun w' hs => by first | rfl | go_simp) ?_
   simp only [Act.put, sA, sZ, sS]
   refine rg_t 9 (some 26) (.bool b) rfl hS1 (fun w' hs => by first | rfl | go_simp) ?_
   simp only [Act.put, sA, sZ, sS]
   refine rg_t 10 (some 8) (.string s) rfl hS1 (fun w' hs => by rfl) ?_
   simp only [Act.put, sA, sZ, sS]
   refine rg_t 11 (some 9) (.bool b) rfl hS1 (fun w' hs => by rfl) ?_
   simp only [Act.put, sA, sZ, sS]
   refine rg_done (by kernel_rfl) ?_
   have hX1 := hXX.out.trans hS1
   have hown1 := hown.ext hS1
   clear hown hX hXX hwz
   cases b with
   | false =>
    have hrn : r = none := by have := HSB.out.2; cases r; rfl; cases this
    subst hrn
    have HN : Hid (none = R) := Lh HSS.out.symm
    clear HSS HSB HVL hown1
    go_wp2_with fail
    go_ret2
    exact ⟨⟨_, by rw [← HN.out]; rfl, by rw [← HN.out]; exact .nil 1⟩, hE1.trans hX1⟩
   | true =>
    obtain ⟨v, hv⟩ : ∃ v, r = some v := by have := HSB.out.2; cases r; cases this; exact ⟨_, rfl⟩
    subst hv
    have hse : s = bs v := HSB.out.1.symm
    subst hse
    have HN : Hid ((keyS a (ks.drop (i + 1))).map ((L ++ [v]) ++ ·) = R) := Lh HSS.out.symm
    have hvb : v.length ≤ 12582912 := HVL.out v HCN.out rfl
    have hsz1 := hX1.size
    clear HSS HSB HVL
    obtain ⟨us, hrow, hreps⟩ := hown1.rows
    go_wp2_with (at_builtin; refine wpList_append_own_at _ rfl (.tmp 29) (.tmp 31) _ rfl w1.heap.size 9 i0 (.string ⟨#[]⟩) 1 16 Tryz.underlying29 hi hz0 hz1 hz2 rfl (by decide) dv L.length us rfl (hrow.alloc _) ⟨wr1.heap.size, 0, none⟩ 1 1 [.string (bs v)] rfl rfl new_one (by intro u hu; simp at hu; rcases hu with rfl; rfl) (by unfold maxLen; omega) (by omega) (by simp; omega) ?_; intro v2 w3 hown2 hgrow2 _ hat2)
    have hX2 : Ext w1 w3 := hX1.grown_own hrow hgrow2
    have hO2 : Own w3 (fun _ => False) w1.heap.size 9 1 v2 (L ++ [v]).length ((L ++ [v]).flatMap fun x => [strD x]) := by
     rw [List.length_append, List.flatMap_append]
     exact Own.push ((hreps.ext ((Ext.refl wr1).alloc _)).ok fun b hb => ⟨hb.1, hb.2.1, by simp; omega⟩) (Reps.cons (Rep.string _ _ _ (by rw [bs_size]; omega)) (Reps.nil _ _)) hown2 hgrow2 hat2
    clear hown2 hgrow2 hrow hreps hown1 hX1 hat2
    go_wp2_with fail
    go_roundw
    case rel => exact ⟨i + 1, L ++ [v], v2, by go_num, rfl, by omega, by rw [List.length_append]; simp; omega, hO2, hX2, HN⟩
    case measure => simp only [downV]; omega
  ·
   have hlI : ¬ (i : Int) < (ks.length : Int) := by omega
   have HN : Hid (some L = R) := Lh (by have := HI.out; rw [List.drop_of_length_le (by omega), keyS] at this; rw [← this]; simp)
   clear HI
   go_wp2_with fail
   go_ret2
   refine ⟨⟨dv, by rw [← HN.out]; rfl, ?_⟩, hE1.trans hX⟩
   rw [← HN.out]
   exact hown.rep.ok (fun b hb => by rcases hb with h | h; exact h.elim; have := hE1.size; omega)
section
variable {P : Program} {ops : Array Oper} {Q : Exit → Act → World → Prop} {S : World → Prop} {fuel : Nat} {listed : Array Bool} {a : Act} {w : World} {K : Act → World → Prop}
theorem rg_one (i : Nat) (hr : Region.ready .any ops listed = [i]) (h1 : wpOp P ops Q i (fun a w => S w ∧ wpAnyH P .any ops Q S fuel (listed.setIfInBounds i true) a w) a w) : wpAnyH P .any ops Q S (fuel + 1) listed a w := by
 refine wpAnyH_all hr (by simp) fun j hj => ?_
 obtain rfl : j = i := by simpa using hj
 exact h1
theorem rg_two (i j : Nat) (hr : Region.ready .any ops listed = [i, j]) (h1 : wpOp P ops Q i (fun a w => S w ∧ wpAnyH P .any ops Q S fuel (listed.setIfInBounds i true) a w) a w)
  (h2 : wpOp P ops Q j (fun a w => S w ∧ wpAnyH P .any ops Q S fuel (listed.setIfInBounds j true) a w) a w) : wpAnyH P .any ops Q S (fuel + 1) listed a w := by
 refine wpAnyH_all hr (by simp) fun k hk => ?_
 have hk' : k = i ∨ k = j := by simpa using hk
 rcases hk' with rfl | rfl
 ·
  exact h1
 ·
  exact h2
theorem tk_new (i : Nat) (d : Option Tmp) (o : Obj) (f : Nat → Value) {oi : Oper} (hi : ops[i]? = some oi) (hd : oi.dst = d) (hw : Region.wanted oi (yielded ops a.tmps) = true)
  (hrun : (execOp a.eval oi).run P w = .ok (.value (f w.heap.size)) (w.alloc o)) (h : ∀ g W, g = w.heap.size → Ext w W → W.heap.size = w.heap.size + 1 → W.heap[g]? = some o → K (a.put d (f g)) W) : wpOp P ops Q i K a w := by
 unfold wpOp
 simp only [hi, hw, if_true]
 refine Or.inl ?_
 unfold Oper.wp
 rw [hrun, Oper.upon_value, hd]
 exact h _ _ rfl ((Ext.refl w).alloc _) (by simp) Array.getElem?_push_size
theorem tk_app (i : Nat) (d : Option Tmp) {oi : Oper} (hi' : ops[i]? = some oi) (hd : oi.dst = d) (hw : Region.wanted oi (yielded ops a.tmps) = true) (s x : Operand) (t : TypeId)
  (ho : oi.op = .call { callee := .builtin .append, args := #[s, x], argTypes := #[t, t] })
  (base : Nat) (e : TypeId) (i0 : TypeInfo) (z : Value) (size bytes : Nat) (ht : P.underlying t = some (.slice e)) (hi : P.info? e = some i0) (hz : i0.zero = some z)
  (hsize : i0.size = size) (hby : i0.bytes = bytes) (hzs : z.cells.size = size) (hsz : 0 < size)
  (v : Value) (n : Nat) (xs : List Value) (hs : a.eval s = v) (hown : w.ownsRow base e size v n xs)
  (ad : Addr) (m c : Nat) (news : List Value) (hx : a.eval x = .slice (some ad) m c) (hl : news.length = m * size) (hnews : ∀ j u, news[j]? = some u → w.cell? (ad.add j) = some u) (h1 : ∀ u ∈ news, u.oneCell' = true)
  (h63 : n + m ≤ maxLen) (hbytes : (n + m) * bytes ≤ 140737488355328) (hbase : base ≤ w.heap.size)
  (h : ∀ v' w', w'.ownsRow base e size v' (n + m) (xs ++ news) → w.grownBy w' v.ownBlock → (v'.ownBlock = v.ownBlock ∨ v'.ownBlock = some w.heap.size) → K (a.put d v') w') : wpOp P ops Q i K a w := by
 unfold wpOp
 simp only [hi', hw, if_true]
 refine Or.inl ?_
 obtain ⟨v', w', hr, h2, h3, h4, h5⟩ := run_append_own_at (P := P) w base t oi.type e i0 z size bytes ht hi hz hsize hby hzs hsz v n xs hown ad m c news hl hnews h1 h63 hbytes hbase
 unfold Oper.wp execOp
 simp only [ho, resolve, invoke, builtin, Sem.run_bind, Sem.run_pure, Result.andThen_ok, List.map_toArray, List.map_cons, List.map_nil, hs, hx, hr]
 rw [Oper.upon_value, hd]
 exact h v' w' h2 h3 h5
end
theorem rows_ext {w w' : World} {base z n : Nat} {e : TypeId} {v : Value} {us : List Value} (h : w.ownsRow base e z v n us) (hB : Ext w w') : w'.ownsRow base e z v n us :=
 h.kept (row := none) ⟨hB.os, hB.tape, hB.output, hB.size, fun i hi _ => Below.block hB i hi⟩ (by cases v.ownBlock <;> simp)
theorem sx_grown {a w w' : World} {z n : Nat} {e : TypeId} {v : Value} {us : List Value} (h : Sx a w) (hown : w.ownsRow a.heap.size e z v n us) (hg : w.grownBy w' v.ownBlock) : Sx a w' :=
 Below.grown h hg (Below.size h) fun k hk => (hown.lt k hk).1
theorem Rep.lt {w : World} {p : Nat → Prop} {v : Value} {d : DV} (h : Rep w p v d) : Rep w (fun b => p b ∧ b < w.heap.size) v d := by
 induction h with
 | leaf x hx => exact .leaf x hx
 | nil z => exact .nil z
 | emp ad z => exact .emp ad z
 | row b off len cap z us es hok hl hu hcap hm hc hr ih =>
  refine .row b off len cap z us es (fun hpos => ⟨hok hpos, ?_⟩) hl hu hcap hm hc ih
  exact World.block_lt_of_cell? w _ (hc 0 us[0] (List.getElem?_eq_getElem hpos))
theorem own_empty {w : World} {base g : Nat} {e : TypeId} (hb : base ≤ g) (h : w.heap[g]? = some (.cells #[] e (0, 0))) : w.ownsRow base e 1 (.slice (some ⟨g, 0, none⟩) 0 0) 0 [] :=
 ⟨by simp, .inr ⟨g, 0, #[], rfl, hb, h, Nat.le_refl _, Nat.zero_le _, by simp, by simp⟩⟩
theorem strs_cells {w : World} {p : Nat → Prop} {b off len cap : Nat} {l : List Bytes} (h : Rep w p (.slice (some ⟨b, off, none⟩) len cap) (strsD l)) : ∀ (j : Nat) (u : Value), (l.map fun x => Value.string (bs x))[j]? = some u → w.cell? ((⟨b, off, none⟩ : Addr).add j) = some u := by
 intro j u hj
 have hlt : j < l.length := by have := (List.getElem?_eq_some_iff.1 hj).1; simpa using this
 obtain ⟨b', o', e, _, _, hc⟩ := str_at h j hlt
 cases e
 have e0 : (⟨b, off, none⟩ : Addr).add j = ⟨b, off + j, none⟩ := by unfold Addr.add; split <;> simp_all
 rw [e0, hc, ← hj]; simp [hlt]
theorem strs_reps (w : World) (p : Nat → Prop) (l : List Bytes) (h : ∀ (i : Nat) (hi : i < l.length), l[i].length ≤ 9223372036854775807) : Reps w p (l.map fun x => Value.string (bs x)) (l.flatMap fun x => [strD x]) := by
 induction l with
 | nil => exact Reps.nil _ _
 | cons x r ih => exact Reps.cons (Rep.string _ _ _ (by rw [bs_size]; exact h 0 (by simp))) (ih fun i hi => by have := h (i + 1) (by simpa using hi); simpa using this)
def noRule : Rule := ⟨[], []⟩
def stepsS (l : List Rule) (path : List Bytes) : List Node → List Step
 | [] => []
 | k :: r => if findS (path ++ [k.name]) l 0 < 0 then stepsS l path r else ⟨k.name, (keyS k (l.getD (findS (path ++ [k.name]) l 0).toNat noRule).keys).getD []⟩ :: stepsS l path r
theorem stepsS_len (l : List Rule) (path : List Bytes) : ∀ ks, (stepsS l path ks).length ≤ ks.length
 | [] => Nat.le_refl _
 | k :: r => by
  have := stepsS_len l path r
  unfold stepsS
  split
  ·
   simp only [List.length_cons]; omega
  ·
   simp only [List.length_cons]; omega
def RulesOk (l : List Rule) : Prop := ∀ r ∈ l, r.keys.length ≤ 1048576 ∧ ∀ k ∈ r.keys, pathOk k
theorem infoStep : (Tryz.prog.info? 76).map (fun i => (i.zero, i.size, i.bytes)) = some (some (.agg #[.string ⟨#[]⟩, .slice none 0 0]), 2, 40) := by kernel_rfl
theorem steps_any (l : List Rule) (path : List Bytes) (a : Node) (p : Nat → Prop) (vl vp va vn : Value) (w : World) (hcnt : cntN a ≤ 1048576) (hok : RulesOk l) (hpl : path.length ≤ 1048576) (hp0 : 0 < path.length)
  (hvl : Rep w p vl (rulesD l)) (hvp : Rep w p vp (strsD path)) (hva : Rep w p va (attrsD a.attrs)) (hvn : Rep w p vn (nodesD a.kids)) :
  Calls Tryz.prog 48 #[vl, vp, .agg #[.int .i64 a.kind, .string (bs a.name), .string (bs a.text), va, vn]] w fun e w' => Ret (fun b => w.heap.size ≤ b) (stepsD (stepsS l path a.kids)) e w' ∧ Ext w w' := by
 obtain ⟨la, lc, rfl, hlc1, hlc2⟩ := hvl.count z_rule (by omega)
 obtain ⟨pa, pc, rfl, hpc1, hpc2⟩ := hvp.count z_str (by omega)
 obtain ⟨gp, op, rfl, lgp, _⟩ := str_at hvp 0 hp0
 obtain ⟨ba, ca, rfl, _, _⟩ := hva.count z_attr (by omega)
 obtain ⟨bn, cn, rfl, _, _⟩ := hvn.count z_node (by omega)
 obtain ⟨i0, hi, hz0, hz1, hz2⟩ := info_parts infoStr
 obtain ⟨j0, ji, jz0, jz1, jz2⟩ := info_parts infoStep
 obtain ⟨R, hR⟩ : ∃ R, stepsS l path a.kids = R := ⟨_, rfl⟩
 rw [hR]
 have HR : Hid ([] ++ stepsS l path (a.kids.drop 0) = R) := Lh hR
 have hck := cnt_kids a
 have hckl := cntL_len a.kids
 have hkids : a.kids.length ≤ 1048576 := by omega
 have hcl : cntL a.kids ≤ 1048576 := by omega
 have HOK := Lh hok
 have HPL := Lh (strs_len hvp)
 clear hR hok hcnt hck hckl hva
 go_enter Tryz.func48, Tryz.ntmps48
 go_wp2_with fail
 obtain ⟨w1, hw1⟩ : ∃ w1, (w.alloc (.cells #[.int .i64 a.kind, .string (bs a.name), .string (bs a.text), .slice ba a.attrs.length ca, .slice bn a.kids.length cn] 60)) = w1 := ⟨_, rfl⟩
 have hE1 : Ext w w1 := by rw [← hw1]; exact (Ext.refl w).alloc _
 have l0 : w.heap.size < w1.heap.size := by rw [← hw1]; simp
 have n4 : w1.cell? ⟨w.heap.size, 4, none⟩ = some (.slice bn a.kids.length cn) := by rw [← hw1]; simp [go_sem]
 rw [hw1]
 clear hw1
 go_loopw [7, 8, 9, 10, 11] (fun o t _ _ _ wr => ∃ (i : Nat) (L : List Step) (dv : Value), t = .int .i64 i ∧ dv = o ∧ i ≤ a.kids.length ∧ L.length ≤ i ∧ Own wr (fun b => w1.heap.size ≤ b) w1.heap.size 76 2 dv L.length (L.flatMap stepC) ∧ Ext w1 wr ∧ Hid (L ++ stepsS l path (a.kids.drop i) = R)) (fun _ t _ _ _ _ => downV a.kids.length t)
 case atStart => exact ⟨0, [], _, rfl, rfl, Nat.zero_le _, Nat.le_refl _, Own.nil _ _ _ _ _, Ext.refl _, HR⟩
 case round =>
  obtain ⟨i, L, dv, rfl, rfl, hi2, hL, hown, hX, HI⟩ := hrel
  have hi0 : (0 : Int) ≤ (i : Int) := by omega
  have hwz := hX.size
  have n4r := hX.keep l0 n4
  have m0 : w.heap.size < wr.heap.size := by omega
  by_cases hlt : i < a.kids.length
  ·
   have hlI : (i : Int) < (a.kids.length : Int) := by omega
   have hEw := hE1.trans hX
   obtain ⟨gk, ok, za, zk, rfl, lgk, _, d0, d1, d2, d3, d4, hza, hzk⟩ := node_at hvn i hlt
   have e0 := hEw.keep lgk d0
   have e1 := hEw.keep lgk d1
   have e2 := hEw.keep lgk d2
   have e3 := hEw.keep lgk d3
   have e4 := hEw.keep lgk d4
   have lgkr : gk < wr.heap.size := Nat.lt_of_lt_of_le lgk hEw.size
   have HS : Hid (stepsS l path (a.kids.drop i) = if findS (path ++ [a.kids[i].name]) l 0 < 0 then stepsS l path (a.kids.drop (i + 1)) else ⟨a.kids[i].name, (keyS a.kids[i] (l.getD (findS (path ++ [a.kids[i].name]) l 0).toNat noRule).keys).getD []⟩ :: stepsS l path (a.kids.drop (i + 1))) := Lh (by rw [drop_one a.kids i hlt, stepsS])
   have hxc := cntL_mem a.kids i hlt
   have hxn := (node_len hvn i hlt).1
   obtain ⟨x, hx⟩ : ∃ x, a.kids[i] = x := ⟨_, rfl⟩
   rw [hx] at e0 e1 e2 hza hzk HS hxc hxn
   obtain ⟨zab, zac, rfl, _, _⟩ := hza.count z_attr (by omega)
   obtain ⟨zkb, zkc, rfl, _, _⟩ := hzk.count z_node (by omega)
   have hfr := findS_range (path ++ [x.name]) l 0
   have HFC := Lh fun W v30 (q : Nat → Prop) (hE : Ext w W) (hr : Rep W q v30 (strsD (path ++ [x.name]))) => find_q p q l (path ++ [x.name]) _ v30 W (hvl.ext hE) hr
   obtain ⟨fi, hfi⟩ : ∃ fi, findS (path ++ [x.name]) l 0 = fi := ⟨_, rfl⟩
   rw [hfi] at HS hfr HFC
   have hXX := Lh hX
   have HEW := Lh hEw
   have HVP := Lh hvp
   obtain ⟨wz, hwzz⟩ : ∃ wz, wz = wr := ⟨_, rfl⟩
   subst hwzz
   clear hx hfi d0 d1 d2 d3 d4
   go_wp2_with fail
   refine rg_begin (S := Sx wz) (by kernel_rfl) (Sx.begin _) ?_
   have hS : Sx wz (World.drew wz) := (Sx.begin _)
   refine rg_t 0 (some 19) (.slice la l.length lc) rfl hS (fun w' hs => by rfl) ?_
   simp only [Act.put, sA, sZ, sS]
   refine rg_t 2 (some 21) (.slice (some ⟨gp, op, none⟩) path.length pc) rfl hS (fun w' hs => by rfl) ?_
   simp only [Act.put, sA, sZ, sS]
   refine rg_t 4 (some 23) (.pointer (some ⟨w.heap.size, 4, none⟩)) rfl hS (fun w' hs => by first | rfl | go_simp) ?_
   simp only [Act.put, sA, sZ, sS]
   refine rg_t 5 (some 24) (.slice (some ⟨gk, ok, none⟩) a.kids.length cn) rfl hS (fun w' hs => by (have h0 := hs.cell m0 n4r; go_simp)) ?_
   simp only [Act.put, sA, sZ, sS]
   refine rg_t 6 (some 25) (.int .i64 i) rfl hS (fun w' hs => by rfl) ?_
   simp only [Act.put, sA, sZ, sS]
   refine rg_t 7 (some 26) (.pointer (some ⟨gk, ok + i * 5, none⟩)) rfl hS (fun w' hs => by first | rfl | go_simp) ?_
   simp only [Act.put, sA, sZ, sS]
   refine rg_t 8 (some 27) (.pointer (some ⟨gk, ok + i * 5 + 1, none⟩)) rfl hS (fun w' hs => by first | rfl | go_simp) ?_
   simp only [Act.put, sA, sZ, sS]
   refine rg_t 9 (some 28) (.string (bs x.name)) rfl hS (fun w' hs => by (have h0 := hs.cell lgkr e1; go_simp)) ?_
   simp only [Act.put, sA, sZ, sS]
   refine rg_two 1 10 (by kernel_rfl) ?_ ?_
   refine tk_new 1 (some 20) (.cells #[] 9) (fun n => .slice (some ⟨n, 0, none⟩) 0 0) rfl rfl (by rfl) (by first | rfl | go_simp) ?_
   intro ga xa ega hxa hzxa hga
   have hSa : Sx wz xa := hS.ext hxa
   refine ⟨hSa, ?_⟩
   simp only [Act.put, sA, sZ, sS]
   have own20 : xa.ownsRow wz.heap.size 9 1 (.slice (some ⟨ga, 0, none⟩) 0 0) 0 [] := own_empty (by rw [ega]; exact (show Ext wz _ from hS).size) hga
   refine rg_two 3 10 (by kernel_rfl) ?_ ?_
   refine tk_app 3 (some 22) rfl rfl (by rfl) (.tmp 20) (.tmp 21) 29 rfl wz.heap.size 9 i0 (.string ⟨#[]⟩) 1 16 Tryz.underlying29 hi hz0 hz1 hz2 rfl (by decide) _ 0 [] rfl own20 ⟨gp, op, none⟩ path.length pc (path.map fun x => Value.string (bs x)) rfl (by simp) (strs_cells (HVP.out.ext (HEW.out.trans hSa))) (by intro u hu; obtain ⟨y, _, rfl⟩ := List.mem_map.1 hu; rfl) (by unfold maxLen; omega) (by omega) (show Ext wz _ from hSa).size ?_
   intro v22 xc hr22 hg22 ha22
   have hSc : Sx wz xc := sx_grown hSa own20 hg22
   refine ⟨hSc, ?_⟩
   simp only [Act.put, sA, sZ, sS]
   have own22 : xc.ownsRow wz.heap.size 9 1 v22 path.length (path.map fun x => Value.string (bs x)) := by rw [Nat.zero_add, List.nil_append] at hr22; exact hr22
   refine rg_one 10 (by kernel_rfl) ?_
   refine tk_new 10 (some 29) (.cells #[.string (bs x.name)] 9) (fun n => .slice (some ⟨n, 0, none⟩) 1 1) rfl rfl (by rfl) (by first | rfl | go_simp) ?_
   intro gb xb egb hxb hzxb h29
   have hSb : Sx wz xb := hSc.ext hxb
   refine ⟨hSb, ?_⟩
   simp only [Act.put, sA, sZ, sS]
   have own22' := rows_ext own22 hxb
   clear own22
   have own22 := own22'
   clear own22'
   have cell29 := blk_cell (k := 0) h29 rfl
   refine rg_one 11 (by kernel_rfl) ?_
   refine tk_app 11 (some 30) rfl rfl (by rfl) (.tmp 22) (.tmp 29) 29 rfl wz.heap.size 9 i0 (.string ⟨#[]⟩) 1 16 Tryz.underlying29 hi hz0 hz1 hz2 rfl (by decide) _ path.length (path.map fun x => Value.string (bs x)) rfl own22 ⟨gb, 0, none⟩ 1 1 [.string (bs x.name)] rfl rfl (by intro j u hj; match j, hj with | 0, hj => simp at hj; subst hj; exact cell29) (by intro u hu; simp at hu; rcases hu with rfl; rfl) (by unfold maxLen; omega) (by omega) (show Ext wz _ from hSb).size ?_
   intro v30 xd hr30 hg30 ha30
   have hSd : Sx wz xd := sx_grown hSb own22 hg30
   refine ⟨hSd, ?_⟩
   simp only [Act.put, sA, sZ, sS]
   have hrep30 : Rep xd (fun b => False ∨ wz.heap.size ≤ b) v30 (strsD (path ++ [x.name])) := Own.rep (p := fun _ => False) (e := 9) (n := path.length + 1) ⟨_, hr30, by have := strs_reps xd (fun b => False ∧ some b ≠ v30.ownBlock ∧ b < xd.heap.size) (path ++ [x.name]) (fun i hi => by rw [List.getElem_append]; split; exact HPL.out _ _; simpa using hxn); rw [List.map_append] at this; exact this⟩
   refine rg_call 12 (some 31) 83 #[.slice la l.length lc, v30] rfl rfl (by kernel_rfl) (by rfl) (fun w' => by first | rfl | go_simp) (R := fun v w' => v = .int .i64 fi ∧ Ext xd w') ?_ ?_
   ·
    refine ((HFC.out xd v30 _ (HEW.out.trans hSd) hrep30).mono fun e w' h => (⟨h.1, h.2.ext⟩ : _ ∧ Ext _ w')).mono ?_
    rintro e w' ⟨rfl, h⟩
    exact ⟨_, rfl, rfl, h⟩
   rintro _ wr1 ⟨rfl, hBr1⟩
   have hS1 := hSd.ext hBr1
   refine ⟨hS1, ?_⟩
   simp only [Act.put, sA, sZ, sS]
   refine rg_t 13 (some 9) (.int .i64 fi) rfl hS1 (fun w' hs => by rfl) ?_
   simp only [Act.put, sA, sZ, sS]
   refine rg_done (by kernel_rfl) ?_
   rotate_left
   refine tk_new 10 (some 29) (.cells #[.string (bs x.name)] 9) (fun n => .slice (some ⟨n, 0, none⟩) 1 1) rfl rfl (by rfl) (by first | rfl | go_simp) ?_
   intro gb xb egb hxb hzxb h29
   have hSb : Sx wz xb := hSa.ext hxb
   refine ⟨hSb, ?_⟩
   simp only [Act.put, sA, sZ, sS]
   have own20' := rows_ext own20 hxb
   clear own20
   have own20 := own20'
   clear own20'
   have cell29 := blk_cell (k := 0) h29 rfl
   have l29 := blk_lt h29
   have ne29 : gb ≠ ga := by have := blk_lt hga; omega
   refine rg_one 3 (by kernel_rfl) ?_
   refine tk_app 3 (some 22) rfl rfl (by rfl) (.tmp 20) (.tmp 21) 29 rfl wz.heap.size 9 i0 (.string ⟨#[]⟩) 1 16 Tryz.underlying29 hi hz0 hz1 hz2 rfl (by decide) _ 0 [] rfl own20 ⟨gp, op, none⟩ path.length pc (path.map fun x => Value.string (bs x)) rfl (by simp) (strs_cells (HVP.out.ext (HEW.out.trans hSb))) (by intro u hu; obtain ⟨y, _, rfl⟩ := List.mem_map.1 hu; rfl) (by unfold maxLen; omega) (by omega) (show Ext wz _ from hSb).size ?_
   intro v22 xc hr22 hg22 ha22
   have hSc : Sx wz xc := sx_grown hSb own20 hg22
   refine ⟨hSc, ?_⟩
   simp only [Act.put, sA, sZ, sS]
   have own22 : xc.ownsRow wz.heap.size 9 1 v22 path.length (path.map fun x => Value.string (bs x)) := by rw [Nat.zero_add, List.nil_append] at hr22; exact hr22
   have cell29' := hg22.cell cell29 (by intro e; exact ne29 (Option.some.inj e))
   clear cell29
   have cell29 := cell29'
   clear cell29'
   refine rg_one 11 (by kernel_rfl) ?_
   refine tk_app 11 (some 30) rfl rfl (by rfl) (.tmp 22) (.tmp 29) 29 rfl wz.heap.size 9 i0 (.string ⟨#[]⟩) 1 16 Tryz.underlying29 hi hz0 hz1 hz2 rfl (by decide) _ path.length (path.map fun x => Value.string (bs x)) rfl own22 ⟨gb, 0, none⟩ 1 1 [.string (bs x.name)] rfl rfl (by intro j u hj; match j, hj with | 0, hj => simp at hj; subst hj; exact cell29) (by intro u hu; simp at hu; rcases hu with rfl; rfl) (by unfold maxLen; omega) (by omega) (show Ext wz _ from hSc).size ?_
   intro v30 xd hr30 hg30 ha30
   have hSd : Sx wz xd := sx_grown hSc own22 hg30
   refine ⟨hSd, ?_⟩
   simp only [Act.put, sA, sZ, sS]
   have hrep30 : Rep xd (fun b => False ∨ wz.heap.size ≤ b) v30 (strsD (path ++ [x.name])) := Own.rep (p := fun _ => False) (e := 9) (n := path.length + 1) ⟨_, hr30, by have := strs_reps xd (fun b => False ∧ some b ≠ v30.ownBlock ∧ b < xd.heap.size) (path ++ [x.name]) (fun i hi => by rw [List.getElem_append]; split; exact HPL.out _ _; simpa using hxn); rw [List.map_append] at this; exact this⟩
   refine rg_call 12 (some 31) 83 #[.slice la l.length lc, v30] rfl rfl (by kernel_rfl) (by rfl) (fun w' => by first | rfl | go_simp) (R := fun v w' => v = .int .i64 fi ∧ Ext xd w') ?_ ?_
   ·
    refine ((HFC.out xd v30 _ (HEW.out.trans hSd) hrep30).mono fun e w' h => (⟨h.1, h.2.ext⟩ : _ ∧ Ext _ w')).mono ?_
    rintro e w' ⟨rfl, h⟩
    exact ⟨_, rfl, rfl, h⟩
   rintro _ wr1 ⟨rfl, hBr1⟩
   have hS1 := hSd.ext hBr1
   refine ⟨hS1, ?_⟩
   simp only [Act.put, sA, sZ, sS]
   refine rg_t 13 (some 9) (.int .i64 fi) rfl hS1 (fun w' hs => by rfl) ?_
   simp only [Act.put, sA, sZ, sS]
   refine rg_done (by kernel_rfl) ?_
   rotate_left
   refine tk_new 10 (some 29) (.cells #[.string (bs x.name)] 9) (fun n => .slice (some ⟨n, 0, none⟩) 1 1) rfl rfl (by rfl) (by first | rfl | go_simp) ?_
   intro gb xb egb hxb hzxb h29
   have hSb : Sx wz xb := hS.ext hxb
   refine ⟨hSb, ?_⟩
   simp only [Act.put, sA, sZ, sS]
   refine rg_one 1 (by kernel_rfl) ?_
   refine tk_new 1 (some 20) (.cells #[] 9) (fun n => .slice (some ⟨n, 0, none⟩) 0 0) rfl rfl (by rfl) (by first | rfl | go_simp) ?_
   intro ga xa ega hxa hzxa hga
   have hSa : Sx wz xa := hSb.ext hxa
   refine ⟨hSa, ?_⟩
   simp only [Act.put, sA, sZ, sS]
   have own20 : xa.ownsRow wz.heap.size 9 1 (.slice (some ⟨ga, 0, none⟩) 0 0) 0 [] := own_empty (by rw [ega]; exact (show Ext wz _ from hSb).size) hga
   have hgc := (show Ext _ xa from hxa)
   have cell29 := hgc.keep (blk_lt h29) (blk_cell (k := 0) h29 rfl)
   have l29 : gb < xa.heap.size := Nat.lt_of_lt_of_le (blk_lt h29) hgc.size
   have ne29 : gb ≠ ga := by have := blk_lt h29; omega
   clear hgc
   refine rg_one 3 (by kernel_rfl) ?_
   refine tk_app 3 (some 22) rfl rfl (by rfl) (.tmp 20) (.tmp 21) 29 rfl wz.heap.size 9 i0 (.string ⟨#[]⟩) 1 16 Tryz.underlying29 hi hz0 hz1 hz2 rfl (by decide) _ 0 [] rfl own20 ⟨gp, op, none⟩ path.length pc (path.map fun x => Value.string (bs x)) rfl (by simp) (strs_cells (HVP.out.ext (HEW.out.trans hSa))) (by intro u hu; obtain ⟨y, _, rfl⟩ := List.mem_map.1 hu; rfl) (by unfold maxLen; omega) (by omega) (show Ext wz _ from hSa).size ?_
   intro v22 xc hr22 hg22 ha22
   have hSc : Sx wz xc := sx_grown hSa own20 hg22
   refine ⟨hSc, ?_⟩
   simp only [Act.put, sA, sZ, sS]
   have own22 : xc.ownsRow wz.heap.size 9 1 v22 path.length (path.map fun x => Value.string (bs x)) := by rw [Nat.zero_add, List.nil_append] at hr22; exact hr22
   have cell29' := hg22.cell cell29 (by intro e; exact ne29 (Option.some.inj e))
   clear cell29
   have cell29 := cell29'
   clear cell29'
   refine rg_one 11 (by kernel_rfl) ?_
   refine tk_app 11 (some 30) rfl rfl (by rfl) (.tmp 22) (.tmp 29) 29 rfl wz.heap.size 9 i0 (.string ⟨#[]⟩) 1 16 Tryz.underlying29 hi hz0 hz1 hz2 rfl (by decide) _ path.length (path.map fun x => Value.string (bs x)) rfl own22 ⟨gb, 0, none⟩ 1 1 [.string (bs x.name)] rfl rfl (by intro j u hj; match j, hj with | 0, hj => simp at hj; subst hj; exact cell29) (by intro u hu; simp at hu; rcases hu with rfl; rfl) (by unfold maxLen; omega) (by omega) (show Ext wz _ from hSc).size ?_
   intro v30 xd hr30 hg30 ha30
   have hSd : Sx wz xd := sx_grown hSc own22 hg30
   refine ⟨hSd, ?_⟩
   simp only [Act.put, sA, sZ, sS]
   have hrep30 : Rep xd (fun b => False ∨ wz.heap.size ≤ b) v30 (strsD (path ++ [x.name])) := Own.rep (p := fun _ => False) (e := 9) (n := path.length + 1) ⟨_, hr30, by have := strs_reps xd (fun b => False ∧ some b ≠ v30.ownBlock ∧ b < xd.heap.size) (path ++ [x.name]) (fun i hi => by rw [List.getElem_append]; split; exact HPL.out _ _; simpa using hxn); rw [List.map_append] at this; exact this⟩
   refine rg_call 12 (some 31) 83 #[.slice la l.length lc, v30] rfl rfl (by kernel_rfl) (by rfl) (fun w' => by first | rfl | go_simp) (R := fun v w' => v = .int .i64 fi ∧ Ext xd w') ?_ ?_
   ·
    refine ((HFC.out xd v30 _ (HEW.out.trans hSd) hrep30).mono fun e w' h => (⟨h.1, h.2.ext⟩ : _ ∧ Ext _ w')).mono ?_
    rintro e w' ⟨rfl, h⟩
    exact ⟨_, rfl, rfl, h⟩
   rintro _ wr1 ⟨rfl, hBr1⟩
   have hS1 := hSd.ext hBr1
   refine ⟨hS1, ?_⟩
   simp only [Act.put, sA, sZ, sS]
   refine rg_t 13 (some 9) (.int .i64 fi) rfl hS1 (fun w' hs => by rfl) ?_
   simp only [Act.put, sA, sZ, sS]
   refine rg_done (by kernel_rfl) ?_
   rotate_left
   all_goals
    have hX1 := hXX.out.trans hS1
    have hown1 := hown.ext hS1
    have hbl1 : Hid (∀ b, some b = dv.ownBlock → b < wr1.heap.size) := Lh (fun b hb => by obtain ⟨us', h', _⟩ := hown1.rows; exact (h'.lt b hb.symm).2)
    clear hown hwz
    by_cases hneg : fi < 0
    ·
     have HN : Hid (L ++ stepsS l path (a.kids.drop (i + 1)) = R) := Lh (by rw [← HI.out, HS.out, if_pos hneg])
     clear HS HI
     go_wp2_with fail
     go_roundw
     case rel => exact ⟨i + 1, L, dv, by go_num, rfl, by omega, by omega, hown1, hX1, HN⟩
     case measure => simp only [downV]; omega
    ·
     obtain ⟨j, hj⟩ : ∃ j : Nat, fi = (j : Int) := ⟨fi.toNat, by omega⟩
     subst hj
     have hjl : j < l.length := by omega
     have hjlI : (j : Int) < (l.length : Int) := by omega
     have hj0 : (0 : Int) ≤ (j : Int) := by omega
     have hnegI : ¬ (j : Int) < 0 := hneg
     obtain ⟨gr, or, vrp, vrk, rfl, lgr, _, r0, r1, hrp, hrk⟩ := rule_at hvl j hjl
     have hE1w := HEW.out.trans hS1
     have s0 := hE1w.keep lgr r0
     have s1 := hE1w.keep lgr r1
     have lgrr : gr < wr1.heap.size := Nat.lt_of_lt_of_le lgr hE1w.size
     have t0 := hS1.keep lgkr e0
     have t1 := hS1.keep lgkr e1
     have t2 := hS1.keep lgkr e2
     have t3 := hS1.keep lgkr e3
     have t4 := hS1.keep lgkr e4
     have lgk1 : gk < wr1.heap.size := Nat.lt_of_lt_of_le lgkr (show Ext wz wr1 from hS1).size
     have n41 := hS1.keep m0 n4r
     have m1 : w.heap.size < wr1.heap.size := Nat.lt_of_lt_of_le m0 (show Ext wz wr1 from hS1).size
     obtain ⟨rpa, rpc, rfl, _, _⟩ := hrp.count z_str (by omega)
     obtain ⟨rka, rkc, rfl, _, _⟩ := hrk.count z_str (by omega)
     have hro := HOK.out _ (List.getElem_mem hjl)
     have HSJ : Hid (L ++ ([⟨x.name, (keyS x l[j].keys).getD []⟩] ++ stepsS l path (a.kids.drop (i + 1))) = R) := Lh (by
      rw [← HI.out, HS.out, if_neg hneg, Int.toNat_natCast, List.getD_eq_getElem?_getD, List.getElem?_eq_getElem hjl]; rfl)
     obtain ⟨rj, hrj⟩ : ∃ rj, l[j] = rj := ⟨_, rfl⟩
     rw [hrj] at hrp hrk hro HSJ s0 s1
     have HKC := Lh fun W (hE : Ext w W) => key_any rj.keys rj.path x p p _ _ _ _ W (by omega) hro.1 hro.2 (hrp.ext hE) (hrk.ext hE) (hza.ext hE) (hzk.ext hE)
     obtain ⟨K, hK⟩ : ∃ K, (keyS x rj.keys).getD [] = K := ⟨_, rfl⟩
     obtain ⟨kb, hkb⟩ : ∃ kb, (keyS x rj.keys).isSome = kb := ⟨_, rfl⟩
     rw [hK, hkb] at HKC
     rw [hK] at HSJ
     have HE1W := Lh hE1w
     clear hrj hK hkb hro hrp hrk HS HI hneg r0 r1
     go_wp2_with fail
     refine rg_begin (S := Sx wr1) (by kernel_rfl) (Sx.begin _) ?_
     have hSb : Sx wr1 (World.drew wr1) := (Sx.begin _)
     refine rg_t 0 (some 35) (.slice (some ⟨gr, or, none⟩) l.length lc) rfl hSb (fun w' hs => by rfl) ?_
     simp only [Act.put, sA, sZ, sS]
     refine rg_t 1 (some 36) (.int .i64 j) rfl hSb (fun w' hs => by rfl) ?_
     simp only [Act.put, sA, sZ, sS]
     refine rg_t 2 (some 37) (.pointer (some ⟨gr, or + j * 2, none⟩)) rfl hSb (fun w' hs => by first | rfl | go_simp) ?_
     simp only [Act.put, sA, sZ, sS]
     refine rg_t 3 (some 38) (.agg #[.slice rpa rj.path.length rpc, .slice rka rj.keys.length rkc]) rfl hSb (fun w' hs => by (have h0 := hs.cell lgrr s0; have h1 := hs.cell lgrr s1; go_simp)) ?_
     simp only [Act.put, sA, sZ, sS]
     refine rg_t 4 (some 39) (.pointer (some ⟨w.heap.size, 4, none⟩)) rfl hSb (fun w' hs => by first | rfl | go_simp) ?_
     simp only [Act.put, sA, sZ, sS]
     refine rg_t 5 (some 40) (.slice (some ⟨gk, ok, none⟩) a.kids.length cn) rfl hSb (fun w' hs => by (have h0 := hs.cell m1 n41; go_simp)) ?_
     simp only [Act.put, sA, sZ, sS]
     refine rg_t 6 (some 41) (.int .i64 i) rfl hSb (fun w' hs => by rfl) ?_
     simp only [Act.put, sA, sZ, sS]
     refine rg_t 7 (some 42) (.pointer (some ⟨gk, ok + i * 5, none⟩)) rfl hSb (fun w' hs => by first | rfl | go_simp) ?_
     simp only [Act.put, sA, sZ, sS]
     refine rg_t 8 (some 43) (.agg #[.int .i64 x.kind, .string (bs x.name), .string (bs x.text), .slice zab x.attrs.length zac, .slice zkb x.kids.length zkc]) rfl hSb (fun w' hs => by (have h0 := hs.cell lgk1 t0; have h1 := hs.cell lgk1 t1; have h2 := hs.cell lgk1 t2; have h3 := hs.cell lgk1 t3; have h4 := hs.cell lgk1 t4; go_simp)) ?_
     simp only [Act.put, sA, sZ, sS]
     refine rg_call 9 (some 44) 84 #[.agg #[.slice rpa rj.path.length rpc, .slice rka rj.keys.length rkc], .agg #[.int .i64 x.kind, .string (bs x.name), .string (bs x.text), .slice zab x.attrs.length zac, .slice zkb x.kids.length zkc]] rfl rfl (by kernel_rfl) (by rfl) (fun w' => by first | rfl | go_simp) (R := fun v w' => ∃ kv, v = .tuple #[kv, .bool kb] ∧ Rep w' (fun b => wr1.heap.size ≤ b) kv (strsD K) ∧ Ext (World.drew wr1) w') ?_ ?_
     ·
      refine (HKC.out (World.drew wr1) (HE1W.out.trans hSb)).mono ?_
      rintro e w' ⟨⟨kv, rfl, hkv⟩, h⟩
      exact ⟨_, rfl, kv, rfl, hkv, h⟩
     rintro _ wrb1 ⟨kv, rfl, hkv, hBrb1⟩
     have hSb1 := hSb.ext hBrb1
     refine ⟨hSb1, ?_⟩
     simp only [Act.put, sA, sZ, sS]
     refine rg_t 10 (some 34) (.tuple #[kv, .bool kb]) rfl hSb1 (fun w' hs => by rfl) ?_
     simp only [Act.put, sA, sZ, sS]
     refine rg_t 11 (some 45) (kv) rfl hSb1 (fun w' hs => by first | rfl | go_simp) ?_
     simp only [Act.put, sA, sZ, sS]
     refine rg_t 12 (some 46) (.bool kb) rfl hSb1 (fun w' hs => by first | rfl | go_simp) ?_
     simp only [Act.put, sA, sZ, sS]
     refine rg_t 13 (some 10) (kv) rfl hSb1 (fun w' hs => by rfl) ?_
     simp only [Act.put, sA, sZ, sS]
     refine rg_t 14 (some 11) (.bool kb) rfl hSb1 (fun w' hs => by rfl) ?_
     simp only [Act.put, sA, sZ, sS]
     refine rg_done (by kernel_rfl) ?_
     have hX2 := hX1.trans hSb1
     have hown2 := hown1.ext hSb1
     have hlow := hX1.size
     have hszb := (show Ext wr1 wrb1 from hSb1).size
     have tb1 := hSb1.keep lgk1 t1
     have nb4 := hSb1.keep m1 n41
     have lgkb : gk < wrb1.heap.size := by omega
     have mb : w.heap.size < wrb1.heap.size := by omega
     clear hown1 t0 t1 t2 t3 t4 n41 s0 s1 e0 e1 e2 e3 e4 n4r
     obtain ⟨us, hrow, hreps⟩ := hown2.rows
     have hkl := hkv.lt
     obtain ⟨kva, kvc, rfl, _, _⟩ := hkv.count z_str (by omega)
     have HKV := Lh hkl
     clear hkv hkl
     go_wp2_with (at_builtin; refine wpList_append_own_at _ rfl (.tmp 47) (.tmp 56) _ rfl w1.heap.size 76 j0 (.agg #[.string ⟨#[]⟩, .slice none 0 0]) 2 40 Tryz.underlying24 ji jz0 jz1 jz2 rfl (by decide) dv L.length us rfl (hrow.alloc _) ⟨wrb1.heap.size, 0, none⟩ 1 1 [.string (bs x.name), .slice kva K.length kvc] rfl rfl new_two (by intro u hu; simp at hu; rcases hu with rfl | rfl <;> rfl) (by unfold maxLen; omega) (by omega) (by simp; omega) ?_; intro v2 w3 hown3 hgrow3 _ hat3)
     have hX3 : Ext w1 w3 := hX2.grown_own hrow hgrow3
     have hO3 : Own w3 (fun b => w1.heap.size ≤ b) w1.heap.size 76 2 v2 (L ++ [(⟨x.name, K⟩ : Step)]).length ((L ++ [(⟨x.name, K⟩ : Step)]).flatMap stepC) := by
      rw [List.length_append, List.flatMap_append]
      refine Own.push ((hreps.ext ((Ext.refl wrb1).alloc _)).ok fun b hb => ⟨hb.1, hb.2.1, by simp; omega⟩) (Reps.cons (Rep.string _ _ _ (by rw [bs_size]; exact hxn)) (Reps.cons ((HKV.out.ext ((Ext.refl wrb1).alloc _)).ok fun b hb => ⟨by omega, fun e => ?_, by simp; omega⟩) (Reps.nil _ _))) hown3 hgrow3 hat3
      have := hbl1.out b e
      omega
     clear hown3 hgrow3 hrow hreps hown2 hX2 hat3
     go_wp2_with fail
     go_roundw
     case rel => exact ⟨i + 1, L ++ [⟨x.name, K⟩], v2, by go_num, rfl, by omega, by rw [List.length_append]; simp; omega, hO3, hX3, Lh (by rw [List.append_assoc]; exact HSJ.out)⟩
     case measure => simp only [downV]; omega
  ·
   have hlI : ¬ (i : Int) < (a.kids.length : Int) := by omega
   have HN : Hid (L = R) := Lh (by have := HI.out; rw [List.drop_of_length_le (by omega), stepsS, List.append_nil] at this; exact this)
   clear HI
   go_wp2_with fail
   go_ret
   refine ⟨⟨dv, rfl, ?_⟩, hE1.trans hX⟩
   rw [← HN.out]
   exact hown.rep.ok (fun b hb => by have := hE1.size; rcases hb with h | h <;> omega)
structure Held where
 v : Int
 n : Node
def heldC (h : Held) : List DV := intD h.v :: nodeC h.n
def heldsD (l : List Held) : DV := .s 6 (l.flatMap heldC)
theorem z_held (x : Held) : (heldC x).length = 6 := by unfold heldC; rw [List.length_cons, z_node]
theorem held_at {w : World} {p : Nat → Prop} {a : Option Addr} {len cap : Nat} {l : List Held} (h : Rep w p (.slice a len cap) (heldsD l)) (i : Nat) (hi : i < l.length) :
  ∃ b off x y, a = some ⟨b, off, none⟩ ∧ b < w.heap.size ∧ p b ∧ w.cell? ⟨b, off + i * 6, none⟩ = some (.int .i64 l[i].v) ∧ w.cell? ⟨b, off + i * 6 + 1, none⟩ = some (.int .i64 l[i].n.kind) ∧ w.cell? ⟨b, off + i * 6 + 2, none⟩ = some (.string (bs l[i].n.name)) ∧ w.cell? ⟨b, off + i * 6 + 3, none⟩ = some (.string (bs l[i].n.text)) ∧
   w.cell? ⟨b, off + i * 6 + 4, none⟩ = some x ∧ w.cell? ⟨b, off + i * 6 + 5, none⟩ = some y ∧ Rep w p x (attrsD l[i].n.attrs) ∧ Rep w p y (nodesD l[i].n.kids) := by
 obtain ⟨b, off, ha, hb, hp, hc⟩ := elem_at z_held h (by omega) i hi
 unfold heldC at hc
 rw [nodeC_eq] at hc
 obtain ⟨u, hu, hr⟩ := hc 0 _ rfl
 obtain ⟨u1, hu1, hr1⟩ := hc 1 _ rfl
 obtain ⟨u2, hu2, hr2⟩ := hc 2 _ rfl
 obtain ⟨u3, hu3, hr3⟩ := hc 3 _ rfl
 obtain ⟨u4, hu4, hr4⟩ := hc 4 _ rfl
 obtain ⟨u5, hu5, hr5⟩ := hc 5 _ rfl
 exact ⟨b, off, u4, u5, ha, hb, hp, by rw [← hr.is]; exact hu, by rw [← hr1.is]; exact hu1, by rw [← hr2.is]; exact hu2, by rw [← hr3.is]; exact hu3, hu4, hu5, hr4, hr5⟩
theorem infoInt : (Tryz.prog.info? 3).map (fun i => (i.zero, i.size, i.bytes)) = some (some (.int .i64 0), 1, 8) := by kernel_rfl
theorem versions_any (p : Nat → Prop) (l : List Held) (v : Value) (w : World) (hl : l.length ≤ 1048576) (h : Rep w p v (heldsD l)) :
  Calls Tryz.prog 67 #[v] w fun e w' => Ret (fun b => w.heap.size ≤ b) (spansD (spansOf (flOf (l.map (·.v))))) e w' ∧ Ext w w' := by
 obtain ⟨a, c, rfl, hc1, hc2⟩ := h.count z_held (by omega)
 obtain ⟨R, hR⟩ : ∃ R, l.map (·.v) = R := ⟨_, rfl⟩
 rw [hR]
 have HR := Lh hR
 obtain ⟨i0, hi, hz0, hz1, hz2⟩ := info_parts infoInt
 clear hR
 go_enter Tryz.func67, Tryz.ntmps67
 go_wp2_with fail
 go_loopw [3, 4] (fun o t wr => ∃ (i : Nat) (L : List Int) (dv : Value), t = .int .i64 i ∧ dv = o ∧ i ≤ l.length ∧ L.length = i ∧ Own wr (fun _ => False) w.heap.size 3 1 dv L.length (L.flatMap fun x => [intD x]) ∧ Ext w wr ∧ Hid (L = (l.take i).map (·.v))) (fun _ t _ => downV l.length t)
 case atStart => exact ⟨0, [], _, rfl, rfl, Nat.zero_le _, rfl, Own.nil _ _ _ _ _, Ext.refl _, Lh (by simp)⟩
 case round =>
  obtain ⟨i, L, dv, rfl, rfl, hi2, hL, hown, hX, HI⟩ := hrel
  have hi0 : (0 : Int) ≤ (i : Int) := by omega
  have hwz := hX.size
  by_cases hlt : i < l.length
  ·
   have hlI : (i : Int) < (l.length : Int) := by omega
   obtain ⟨g, o, x1, x2, rfl, lg, _, d0, _⟩ := held_at (h.ext hX) i hlt
   have HN : Hid (L ++ [l[i].v] = (l.take (i + 1)).map (·.v)) := Lh (by rw [List.take_add_one, List.getElem?_eq_getElem hlt, List.map_append, HI.out]; rfl)
   obtain ⟨x, hx⟩ : ∃ x, l[i].v = x := ⟨_, rfl⟩
   rw [hx] at d0 HN
   have hLi := Lh hL
   have hLb : L.length ≤ 1048576 := by omega
   clear hx HI hL
   obtain ⟨us, hrow, hreps⟩ := hown.rows
   go_wp2_with (at_builtin; refine wpList_append_own_at _ rfl (.tmp 11) (.tmp 17) _ rfl w.heap.size 3 i0 (.int .i64 0) 1 8 Tryz.underlying88 hi hz0 hz1 hz2 rfl (by decide) dv L.length us rfl (hrow.alloc _) ⟨wr.heap.size, 0, none⟩ 1 1 [.int .i64 x] rfl rfl new_one (by intro u hu; simp at hu; rcases hu with rfl; rfl) (by unfold maxLen; omega) (by omega) (by simp; omega) ?_; intro v2 w3 hown2 hgrow2 _ hat2)
   have hX2 : Ext w w3 := hX.grown_own hrow hgrow2
   have hO2 : Own w3 (fun _ => False) w.heap.size 3 1 v2 (L ++ [x]).length ((L ++ [x]).flatMap fun x => [intD x]) := by
    rw [List.length_append, List.flatMap_append]
    exact Own.push ((hreps.ext ((Ext.refl wr).alloc _)).ok fun b hb => ⟨hb.1, hb.2.1, by simp; omega⟩) (Reps.cons (Rep.int _ _ _ _) (Reps.nil _ _)) hown2 hgrow2 hat2
   clear hown2 hgrow2 hrow hreps hown hX hat2
   go_wp2_with fail
   go_roundw
   case rel => exact ⟨i + 1, L ++ [x], v2, by go_num, rfl, by omega, by rw [List.length_append, hLi.out]; rfl, hO2, hX2, HN⟩
   case measure => simp only [downV]; omega
  ·
   have hlI : ¬ (i : Int) < (l.length : Int) := by omega
   have HN : Hid (L = R) := Lh (by rw [HI.out, ← HR.out, List.take_of_length_le (by omega)])
   have hrep : Rep wr (fun b => False ∨ w.heap.size ≤ b) dv (intsD L) := hown.rep
   have HO := Lh fun W (hE : Ext wr W) => of_any _ L dv W (hrep.ext hE)
   clear HI hrep hL
   go_wp2_with fail
   refine (HO.out _ (Ext.refl _)).mono ?_
   rintro e w2 ⟨⟨u, rfl, hru⟩, hB2⟩
   go_wp2_with fail
   go_ret
   exact ⟨⟨u, rfl, by rw [← HN.out]; exact hru.ok (fun b hb => Nat.le_trans hX.size hb)⟩, hX.trans hB2⟩
mutual
def elemsN : Node → Nat
 | .mk k _ _ _ ks => if k ≠ 1 then 0 else 1 + elemsL ks
def elemsL : List Node → Nat
 | [] => 0
 | n :: r => elemsN n + elemsL r
end
mutual
theorem elemsN_le : ∀ n : Node, elemsN n ≤ cntN n
 | .mk k n t la ks => by rw [elemsN, cntN]; have := elemsL_le ks; split <;> omega
theorem elemsL_le : ∀ l : List Node, elemsL l ≤ cntL l
 | [] => by simp [elemsL, cntL]
 | n :: r => by rw [elemsL, cntL]; have h1 := elemsN_le n; have h2 := elemsL_le r; omega
end
theorem elemsL_get (l : List Node) (i : Nat) (h : i < l.length) : elemsL (l.drop i) = elemsN l[i] + elemsL (l.drop (i + 1)) := by rw [drop_one l i h, elemsL]
theorem elements_any : ∀ (N : Nat) (a : Node) (p : Nat → Prop) (va vk : Value) (w : World), nsz a ≤ N → cntN a ≤ 1048576 → Rep w p va (attrsD a.attrs) → Rep w p vk (nodesD a.kids) →
  Calls Tryz.prog 109 #[.agg #[.int .i64 a.kind, .string (bs a.name), .string (bs a.text), va, vk]] w fun e w' => e = .returned (.int .i64 (elemsN a)) ∧ Ext w w' := by
 intro N
 induction N with
 | zero => intro a p va vk w hN; cases a; rw [nsz] at hN; omega
 | succ N ih =>
  intro a p va vk w hN hcnt hva hvk
  have hkid := fun i h => kid_lt a i h
  have hcl := elemsN_le a
  obtain ⟨k, nm, tx, la, ks⟩ := a
  simp only [Node.kind, Node.name, Node.text, Node.attrs, Node.kids] at *
  obtain ⟨ba, ca, rfl, ha1, ha2⟩ := hva.count z_attr (by omega)
  obtain ⟨bk, ck, rfl, hk1, hk2⟩ := hvk.count z_node (by omega)
  obtain ⟨R, hR⟩ : ∃ R, elemsN (.mk k nm tx la ks) = R := ⟨_, rfl⟩
  rw [hR] at hcl ⊢
  rw [elemsN] at hR
  have HM : Hid (∀ (i : Nat) (h : i < ks.length), nsz ks[i] ≤ N) := Lh (fun i h => by have := hkid i h; omega)
  have HCM : Hid (∀ (i : Nat) (h : i < ks.length), cntN ks[i] ≤ 1048576) := Lh (fun i h => by have := cntL_mem ks i h; rw [cntN] at hcnt; omega)
  have hRb : R ≤ 1048576 := by omega
  have IH := Lh ih
  clear hkid hN ih hcl hcnt
  by_cases h1 : k = 1
  ·
   subst h1
   have t1 : ((1 : Int) != 1) = false := by rfl
   rw [if_neg (by simp)] at hR
   have HR : Hid (1 + elemsL (ks.drop 0) = R) := Lh hR
   clear hR
   go_enter Tryz.func109, Tryz.ntmps109
   go_wp2_with fail
   obtain ⟨w1, hw1⟩ : ∃ w1, (w.alloc (.cells #[.int .i64 1, .string (bs nm), .string (bs tx), .slice ba la.length ca, .slice bk ks.length ck] 60)) = w1 := ⟨_, rfl⟩
   have hE1 : Ext w w1 := by rw [← hw1]; exact (Ext.refl w).alloc _
   have l0 : w.heap.size < w1.heap.size := by rw [← hw1]; simp
   have c4 : w1.cell? ⟨w.heap.size, 4, none⟩ = some (.slice bk ks.length ck) := by rw [← hw1]; simp [go_sem]
   rw [hw1]
   clear hw1
   go_loopw [3, 4] (fun c t wr => ∃ (n i : Nat), c = .int .i64 n ∧ t = .int .i64 i ∧ i ≤ ks.length ∧ Ext w1 wr ∧ Hid (n + elemsL (ks.drop i) = R)) (fun _ t _ => downV ks.length t)
   case atStart => exact ⟨1, 0, rfl, rfl, Nat.zero_le _, Ext.refl _, HR⟩
   case round =>
    obtain ⟨n, i, rfl, rfl, hi, hX, HI⟩ := hrel
    have c4r := hX.keep l0 c4
    have hi0 : (0 : Int) ≤ (i : Int) := by omega
    have n0 : (0 : Int) ≤ (n : Int) := by omega
    have hnb : n ≤ 1048576 := by have := HI.out; omega
    have hnI : (n : Int) ≤ 1048576 := by omega
    by_cases hlt : i < ks.length
    ·
     have hlI : (i : Int) < (ks.length : Int) := by omega
     obtain ⟨g, o, x1, x2, rfl, hb, _, e0, e1, e2, e3, e4, hr1, hr2⟩ := node_at (hvk.ext (hE1.trans hX)) i hlt
     have hm := HM.out i hlt
     have hcm := HCM.out i hlt
     have hS := elemsL_get ks i hlt
     obtain ⟨x, hx⟩ : ∃ x, ks[i] = x := ⟨_, rfl⟩
     rw [hx] at e0 e1 e2 hr1 hr2 hm hcm hS
     have HC := Lh fun W (hE : Ext wr W) => IH.out x p x1 x2 W hm hcm (hr1.ext hE) (hr2.ext hE)
     obtain ⟨s, hs⟩ : ∃ s, elemsN x = s := ⟨_, rfl⟩
     rw [hs] at HC hS
     have HN : Hid (n + s + elemsL (ks.drop (i + 1)) = R) := Lh (by rw [← HI.out, hS]; omega)
     have sb : s ≤ 1048576 := by have := HN.out; omega
     have s0 : (0 : Int) ≤ (s : Int) := by omega
     have s1 : (s : Int) ≤ 1048576 := by omega
     clear hx hs hS hm hcm HI
     go_wp2_with fail
     refine (HC.out _ (Ext.refl _)).mono ?_
     rintro e w3 ⟨rfl, hB3⟩
     go_wp2_with fail
     go_roundw
     case rel => exact ⟨n + s, i + 1, by go_num, by go_num, by omega, hX.trans hB3, HN⟩
     case measure => simp only [downV]; omega
    ·
     have hlI : ¬ (i : Int) < (ks.length : Int) := by omega
     have HN : Hid (n = R) := Lh (by rw [← HI.out, List.drop_of_length_le (by omega), elemsL]; rfl)
     clear HI
     go_wp2_with fail
     go_ret
     exact ⟨ret_int (by rw [HN.out]), hE1.trans hX⟩
  ·
   have t1 : (k != 1) = true := by rw [bne_iff_ne]; exact h1
   rw [if_pos h1] at hR
   have HN : Hid (0 = R) := Lh hR
   clear hR h1
   go_enter Tryz.func109, Tryz.ntmps109
   go_wp2_with fail
   go_ret
   exact ⟨ret_int (by rw [← HN.out]; rfl), (Ext.refl w).alloc _⟩
end Go.Proofs.YtkelpbbekeelcaaGreatDoor
