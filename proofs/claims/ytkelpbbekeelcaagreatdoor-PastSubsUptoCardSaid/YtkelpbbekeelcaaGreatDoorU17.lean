/-
 recensionref15.node. Helper lemmas; no statement of the seat is proved here.
-/
import Derived.Test.YtkelpbbekeelcaaGreatDoorU16
import Derived.Test.YtkelpbbekeelcaaGreatDoorU2
import Derived.Test.YtkelpbbekeelcaaGreatDoorU4
import Derived.Laws.Tables
import Derived.Test.YtkelpbbekeelcaaGreatDoorU8
import Derived.Test.YtkelpbbekeelcaaGreatDoorU12
import Derived.Test.YtkelpbbekeelcaaGreatDoorU3
namespace Go.Proofs.YtkelpbbekeelcaaGreatDoor
open Go.RowKit
set_option maxHeartbeats 32000000
set_option maxRecDepth 100000
set_option linter.unusedVariables false
set_option linter.unusedSimpArgs false
theorem node_any (l : List Rule) (hok : RulesOk l) : ∀ N : Nat, NodeOK l N := by
 intro N
 induction N with
 | zero =>
  intro path s hs above p vl vp vk vh va w hne hh
  obtain ⟨h, hm⟩ := List.exists_mem_of_ne_nil hs hne
  have := (hh h hm).2.1
  have := nsz_pos h.n
  omega
 | succ N ih =>
  intro path s hs above p vl vp vk vh va w hne hh hsz hhl hp0 hsn hvl hvp hvk hvh hva
  exact nodestep l hok N ih path s hs above p vl vp vk vh va w hne hh hsz hhl hp0 hsn hvl hvp hvk hvh hva
mutual
theorem nsz_cnt : ∀ n : Node, nsz n ≤ cntN n
 | .mk k nm tx la ks => by rw [nsz, cntN]; have := nszL_cnt ks; omega
theorem nszL_cnt : ∀ l : List Node, nszL l ≤ cntL l
 | [] => Nat.zero_le _
 | n :: r => by rw [nszL, cntL]; have := nsz_cnt n; have := nszL_cnt r; omega
end
theorem nszL_bound : ∀ ds : List Node, (∀ d ∈ ds, cntN d ≤ 1048576) → ds.length ≤ 15 → nszL ds ≤ 16777216 := by
 have h : ∀ ds : List Node, (∀ d ∈ ds, cntN d ≤ 1048576) → nszL ds ≤ 1048576 * ds.length := fun ds => by
  induction ds with
  | nil => intro _; simp [nszL]
  | cons d r ih =>
   intro h
   have h1 := h d List.mem_cons_self
   have h2 := ih fun d hd => h d (List.mem_cons_of_mem _ hd)
   have h3 := nsz_cnt d
   rw [nszL, List.length_cons]; omega
 intro ds h1 h2
 have := h ds h1
 omega
theorem heldsOf_app : ∀ (a b : List Node) (i : Nat), heldsOf (a ++ b) i = heldsOf a i ++ heldsOf b (i + a.length)
 | [], b, i => rfl
 | d :: a, b, i => by rw [List.cons_append, heldsOf, heldsOf, heldsOf_app a b (i + 1), List.cons_append, List.length_cons]; congr 3; omega
theorem heldsOf_len : ∀ (a : List Node) (i : Nat), (heldsOf a i).length = a.length
 | [], _ => rfl
 | d :: a, i => by rw [heldsOf, List.length_cons, List.length_cons, heldsOf_len a (i + 1)]
theorem heldsOf_step (ds : List Node) (i : Nat) (h : i < ds.length) : heldsOf (ds.take (i + 1)) 0 = heldsOf (ds.take i) 0 ++ [⟨(i : Int) + 1, ds[i]⟩] := by
 rw [List.take_add_one, List.getElem?_eq_getElem h, heldsOf_app]
 simp only [Option.toList_some, heldsOf, List.length_take, Nat.zero_add]
 congr 3
 rw [Nat.min_eq_left (by omega)]
theorem hszL_held : ∀ (a : List Node) (i : Nat), hszL (heldsOf a i) = nszL a
 | [], _ => rfl
 | d :: a, i => by rw [heldsOf, hszL, nszL, hszL_held a (i + 1)]
structure Z6 (W : World) (b : Nat) : Prop where
 lt : b < W.heap.size
 c0 : W.cell? ⟨b, 0, none⟩ = some (.int .i64 0)
 c1 : W.cell? ⟨b, 1, none⟩ = some (.string ⟨#[]⟩)
 c2 : W.cell? ⟨b, 2, none⟩ = some (.slice none 0 0)
 c3 : W.cell? ⟨b, 3, none⟩ = some (.slice none 0 0)
 c4 : W.cell? ⟨b, 4, none⟩ = some (.slice none 0 0)
 c5 : W.cell? ⟨b, 5, none⟩ = some (.slice none 0 0)
 f0 : W.frozen? ⟨b, 0, none⟩ = false
 f1 : W.frozen? ⟨b, 1, none⟩ = false
 f2 : W.frozen? ⟨b, 2, none⟩ = false
 f3 : W.frozen? ⟨b, 3, none⟩ = false
 f4 : W.frozen? ⟨b, 4, none⟩ = false
 f5 : W.frozen? ⟨b, 5, none⟩ = false
theorem Z6.ext {W W' : World} {b : Nat} (h : Z6 W b) (hB : Ext W W') : Z6 W' b :=
 ⟨Nat.lt_of_lt_of_le h.lt hB.size, hB.keep h.lt h.c0, hB.keep h.lt h.c1, hB.keep h.lt h.c2, hB.keep h.lt h.c3, hB.keep h.lt h.c4, hB.keep h.lt h.c5, hB.free h.lt h.f0, hB.free h.lt h.f1, hB.free h.lt h.f2, hB.free h.lt h.f3, hB.free h.lt h.f4, hB.free h.lt h.f5⟩
def sar (W : World) (b : Nat) (last : Int) (n : ANode) (xk xv xp xc : Value) : World := ((((((W.setCell ⟨b, 0, none⟩ (.int .i64 last)).setCell ⟨b, 1, none⟩ (.string (bs n.name))).setCell ⟨b, 2, none⟩ xk).setCell ⟨b, 3, none⟩ xv).setCell ⟨b, 4, none⟩ xp).setCell ⟨b, 5, none⟩ xc)
theorem Ext.sar {a w : World} (h : Ext a w) {b : Nat} (hb : a.heap.size ≤ b) (last : Int) (n : ANode) (xk xv xp xc : Value) : Ext a (sar w b last n xk xv xp xc) :=
 (((((h.set (p := ⟨b, 0, none⟩) hb _).set (p := ⟨b, 1, none⟩) hb _).set (p := ⟨b, 2, none⟩) hb _).set (p := ⟨b, 3, none⟩) hb _).set (p := ⟨b, 4, none⟩) hb _).set (p := ⟨b, 5, none⟩) hb _
theorem sar_block (W : World) (b : Nat) (last : Int) (n : ANode) (xk xv xp xc : Value) {k : Nat} (h : k ≠ b) : (sar W b last n xk xv xp xc).heap[k]? = W.heap[k]? := by
 unfold sar
 rw [Below.heap_setCell _ _ _ _ (by simpa using h), Below.heap_setCell _ _ _ _ (by simpa using h), Below.heap_setCell _ _ _ _ (by simpa using h), Below.heap_setCell _ _ _ _ (by simpa using h), Below.heap_setCell _ _ _ _ (by simpa using h), Below.heap_setCell _ _ _ _ (by simpa using h)]
theorem store_arch {W : World} {b : Nat} (h : Z6 W b) (last : Int) (n : ANode) (k v q c : Option Addr) (kl kc vl vc ql qc cl cc : Nat) :
  (Instr.storeAt 36 (.pointer (some ⟨b, 0, none⟩)) (.agg #[.int .i64 last, .string (bs n.name), .slice k kl kc, .slice v vl vc, .slice q ql qc, .slice c cl cc])).run Tryz.prog W = .ok () (sar W b last n (.slice k kl kc) (.slice v vl vc) (.slice q ql qc) (.slice c cl cc)) := by
 have c0 := h.c0; have c1 := h.c1; have c2 := h.c2; have c3 := h.c3; have c4 := h.c4; have c5 := h.c5
 have f0 := h.f0; have f1 := h.f1; have f2 := h.f2; have f3 := h.f3; have f4 := h.f4; have f5 := h.f5
 unfold sar
 go_simp
theorem load_arch {W : World} {b : Nat} (h : Z6 W b) (last : Int) (n : ANode) (xk xv xp xc : Value) :
  (loadVar 36 ⟨b, 0, none⟩).run Tryz.prog (sar W b last n xk xv xp xc) = .ok (.agg #[.int .i64 last, .string (bs n.name), xk, xv, xp, xc]) (sar W b last n xk xv xp xc) := by
 have hlt := h.lt
 have c0 := h.c0; have c1 := h.c1; have c2 := h.c2; have c3 := h.c3; have c4 := h.c4; have c5 := h.c5
 have f0 := h.f0; have f1 := h.f1; have f2 := h.f2; have f3 := h.f3; have f4 := h.f4; have f5 := h.f5
 unfold sar
 go_simp
def RetR (q : Nat → Prop) (last : Int) (n : ANode) (e : Ending) (w : World) : Prop :=
 ∃ (k v pa c : Option Addr) (kc vc pc cc : Nat), e = .returned (.agg #[.int .i64 last, .string (bs n.name), .slice k n.key.length kc, .slice v n.vers.length vc, .slice pa n.parts.length pc, .slice c n.kids.length cc]) ∧ Rep w q (.slice k n.key.length kc) (strsD n.key) ∧ Rep w q (.slice v n.vers.length vc) (spansD n.vers) ∧ Rep w q (.slice pa n.parts.length pc) (partsD n.parts) ∧ Rep w q (.slice c n.kids.length cc) (anodesD n.kids)
theorem build_any (l : List Rule) (nm : Bytes) (hok : RulesOk l) (hl : ∃ ks rs, l = ⟨[nm], ks⟩ :: rs) (ds : List Node) (p : Nat → Prop) (vl vd : Value) (w : World) (hds : ∀ d ∈ ds, wfN l d [nm] ∧ cntN d ≤ 1048576) (hd12 : ds.length ≤ 15)
  (hvl : Rep w p vl (rulesD l)) (hvd : Rep w p vd (nodesD ds)) :
  Calls Tryz.prog 11 #[vl, vd] w fun e w' => RetR (fun b => p b ∨ w.heap.size ≤ b) ds.length (rootP l nm ds) e w' ∧ Ext w w' := by
 obtain ⟨la, lc, rfl, hlc1, hlc2⟩ := hvl.count z_rule (by omega)
 obtain ⟨da, dc, rfl, hdc1, hdc2⟩ := hvd.count z_node (by omega)
 obtain ⟨k0, ki, kz0, kz1, kz2⟩ := info_parts infoHeld
 have hll : 0 < l.length := by obtain ⟨ks, rs, e⟩ := hl; rw [e]; simp
 obtain ⟨gl, ol, vp, vkk, rfl, lgl, _, r0, _, hrp, _⟩ := rule_at hvl 0 hll
 have hl0 : l[0].path = [nm] := by obtain ⟨ks, rs, e⟩ := hl; simp [e]
 rw [Nat.zero_mul, Nat.add_zero] at r0
 rw [hl0] at hrp
 obtain ⟨gp, pc, rfl, hpc1, hpc2⟩ := hrp.count z_str (by omega)
 obtain ⟨gpp, op, rfl, lgp, _, s0⟩ := str_at hrp 0 (by simp)
 have hnm := strs_len hrp 0 (by simp)
 simp only [List.getElem_cons_zero] at s0 hnm
 rw [Nat.add_zero] at s0
 have hone : ([nm] : List Bytes).length = 1 := rfl
 rw [hone] at r0
 have hlI : (0 : Int) < (l.length : Int) := by omega
 have hlne : l ≠ [] := by intro e; rw [e] at hll; simp at hll
 have HDS := Lh hds
 have HOK := Lh hok
 have HRP : Hid (Rep w p (.slice (some ⟨gpp, op, none⟩) 1 pc) (strsD [nm])) := Lh hrp
 clear hds hok hl hl0 hrp hone
 by_cases hd0 : ds.length = 0
 ·
  have q0 : ((ds.length : Int) == 0) = true := by rw [hd0]; rfl
  have hdn : ds = [] := List.eq_nil_of_length_eq_zero hd0
  subst hdn
  go_enter Tryz.func11, Tryz.ntmps11
  go_wp2_with fail
  (try simp only [Exit.inBlock, Exit.then])
  refine bodyPost_ret (res_one rfl _ _ _ (v := .agg #[.int .i64 0, .string ⟨#[]⟩, .slice none 0 0, .slice none 0 0, .slice none 0 0, .slice none 0 0]) ⟨w.heap.size, 0, none⟩ ?_ (by go_simp)) rfl ?_
  ·
   rfl
  exact ⟨⟨none, none, none, none, 0, 0, 0, 0, rfl, .nil 1, .nil 2, .nil 3, .nil 5⟩, (Ext.refl w).alloc _⟩
 ·
  have q0 : ((ds.length : Int) == 0) = false := by rw [beq_eq_false_iff_ne]; omega
  have hne : ds ≠ [] := by intro e; rw [e] at hd0; exact hd0 rfl
  go_enter Tryz.func11, Tryz.ntmps11
  go_wp2_with fail
  obtain ⟨w1, hw1⟩ : ∃ w1, w.alloc (.cells #[.int .i64 0, .string ⟨#[]⟩, .slice none 0 0, .slice none 0 0, .slice none 0 0, .slice none 0 0] 36) = w1 := ⟨_, rfl⟩
  have hE1 : Ext w w1 := by rw [← hw1]; exact (Ext.refl w).alloc _
  have hz6 : Z6 w1 w.heap.size := by
   rw [← hw1]
   exact ⟨by simp, by simp [go_sem], by simp [go_sem], by simp [go_sem], by simp [go_sem], by simp [go_sem], by simp [go_sem], by simp [go_sem], by simp [go_sem], by simp [go_sem], by simp [go_sem], by simp [go_sem], by simp [go_sem]⟩
  have hz1 : w1.heap.size = w.heap.size + 1 := by rw [← hw1]; simp
  rw [hw1]
  have HZ := Lh (And.intro hz6 hE1)
  clear hw1 hz6 hE1 hd0
  go_loopw [5, 6] (fun o t wr => ∃ (i : Nat) (oa : Option Addr) (oc : Nat), t = .int .i64 i ∧ o = .slice oa i oc ∧ i ≤ ds.length ∧ Ext w1 wr ∧ Hid (Own wr (fun b => p b ∧ b < w.heap.size) w1.heap.size 84 6 (.slice oa i oc) i ((heldsOf (ds.take i) 0).flatMap heldC))) (fun _ t _ => downV ds.length t)
  case atStart => exact ⟨0, none, 0, rfl, rfl, Nat.zero_le _, Ext.refl _, Lh (Own.nil _ _ _ _ _)⟩
  case round =>
   obtain ⟨i, oa, oc, rfl, rfl, hi, hX, HO⟩ := hrel
   have hi0 : (0 : Int) ≤ (i : Int) := by omega
   have him : i ≤ 15 := by omega
   have hXw := HZ.out.2.trans hX
   by_cases hlt : i < ds.length
   ·
    have hiI : (i : Int) < (ds.length : Int) := by omega
    obtain ⟨gd, od, xa, xk, rfl, lgd, _, d0, d1, d2, d3, d4, hxa, hxk⟩ := node_at hvd i hlt
    have hnl := node_len hvd i hlt
    have HST := Lh (heldsOf_step ds i hlt)
    obtain ⟨d, hd⟩ : ∃ d, ds[i] = d := ⟨_, rfl⟩
    rw [hd] at d0 d1 d2 hxa hxk hnl HST
    obtain ⟨xab, xac, rfl, _, _⟩ := hxa.count z_attr (by omega)
    obtain ⟨xkb, xkc, rfl, _, _⟩ := hxk.count z_node (by omega)
    have n0 := hXw.keep lgd d0; have n1 := hXw.keep lgd d1; have n2 := hXw.keep lgd d2; have n3 := hXw.keep lgd d3; have n4 := hXw.keep lgd d4
    obtain ⟨us, hrow, hrep⟩ := HO.out.rows
    have hrX := hXw.size
    have HX4 := Lh (And.intro hxa (And.intro hxk (And.intro hnl hrep)))
    have hszw := hX.size
    clear hd HO hxa hxk hnl d0 d1 d2 d3 d4 hrep
    go_wp2_with (at_builtin; refine wpList_append_own_at _ rfl (.tmp 17) (.tmp 25) _ rfl w1.heap.size 84 k0 (.agg #[.int .i64 0, .int .i64 0, .string ⟨#[]⟩, .string ⟨#[]⟩, .slice none 0 0, .slice none 0 0]) 6 96 Tryz.underlying82 ki kz0 kz1 kz2 rfl (by decide) (.slice oa i oc) i us rfl (hrow.alloc _) ⟨wr.heap.size, 0, none⟩ 1 1 [.int .i64 ((i : Int) + 1), .int .i64 d.kind, .string (bs d.name), .string (bs d.text), .slice xab d.attrs.length xac, .slice xkb d.kids.length xkc] rfl rfl (new_cells _) (by intro u hu; simp at hu; rcases hu with rfl | rfl | rfl | rfl | rfl | rfl <;> rfl) (by unfold maxLen; omega) (by omega) (by simp; omega) ?_; intro v2 w3 hown2 hgrow2 _ hat2)
    obtain ⟨o2a, o2c, rfl⟩ := own_form hown2
    have hEa : Ext wr (wr.alloc (.cells #[.int .i64 ((i : Int) + 1), .int .i64 d.kind, .string (bs d.name), .string (bs d.text), .slice xab d.attrs.length xac, .slice xkb d.kids.length xkc] 84)) := (Ext.refl wr).alloc _
    have hX3 : Ext w1 w3 := Below.grown (hX.trans hEa) hgrow2 (Below.size (hX.trans hEa)) fun k hk => (own_lt hrow hk.symm).1
    have hO3 : Hid (Own w3 (fun b => p b ∧ b < w.heap.size) w1.heap.size 84 6 (.slice o2a (i + 1) o2c) (i + 1) ((heldsOf (ds.take (i + 1)) 0).flatMap heldC)) := Lh (by
     obtain ⟨hxa, hxk, hnl, hrep⟩ := HX4.out
     rw [HST.out, List.flatMap_append]
     have e2 : [(⟨(i : Int) + 1, d⟩ : Held)].flatMap heldC = heldC ⟨(i : Int) + 1, d⟩ := by simp
     rw [e2]
     have hXE := hXw.trans hEa
     have hsE := hXE.size
     have hok : ∀ b, p b ∧ b < w.heap.size → (p b ∧ b < w.heap.size) ∧ some b ≠ (Value.slice oa i oc).ownBlock ∧ b < (wr.alloc (.cells #[.int .i64 ((i : Int) + 1), .int .i64 d.kind, .string (bs d.name), .string (bs d.text), .slice xab d.attrs.length xac, .slice xkb d.kids.length xkc] 84)).heap.size := fun b hb => ⟨hb, fun e => by have := (own_lt hrow e).1; omega, by omega⟩
     refine Own.push ((hrep.ext hEa).ok fun b hb => ⟨hb.1, hb.2.1, Nat.lt_of_lt_of_le hb.2.2 hEa.size⟩) ?_ hown2 hgrow2 hat2
     unfold heldC
     rw [nodeC_eq]
     exact Reps.cons (Rep.int _ _ _ _) (Reps.cons (Rep.int _ _ _ _) (Reps.cons (Rep.string _ _ _ (by rw [bs_size]; exact hnl.1)) (Reps.cons (Rep.string _ _ _ (by rw [bs_size]; exact hnl.2)) (Reps.cons ((hxa.lt.ext hXE).ok hok) (Reps.cons ((hxk.lt.ext hXE).ok hok) (Reps.nil _ _)))))))
    clear HX4 hown2 hgrow2 hat2 hrow n0 n1 n2 n3 n4 hEa hX hXw
    go_wp2_with fail
    go_roundw
    case rel => exact ⟨i + 1, o2a, o2c, by go_num, rfl, by omega, hX3, hO3⟩
    case measure => simp only [downV]; omega
   ·
    have hiI : ¬ (i : Int) < (ds.length : Int) := by omega
    have hie : i = ds.length := by omega
    subst hie
    have hOR := HO.out.rep
    rw [List.take_of_length_le (Nat.le_refl _)] at hOR
    have hsz9 := hX.size
    have HNO := Lh fun W (hE : Ext wr W) => node_any l HOK.out (nszL ds + 1) [nm] ⟨nm, []⟩ (heldsOf ds 0) [] (fun b => p b ∧ b < w.heap.size ∨ w.heap.size + 1 ≤ b) (.slice (some ⟨gl, ol, none⟩) l.length lc) (.slice (some ⟨gpp, op, none⟩) 1 pc) (.slice none 0 0) (.slice oa ds.length oc) (.slice none 0 0) W (by cases ds with | nil => exact absurd rfl hne | cons d r => intro e; rw [heldsOf] at e; cases e)
     (fun h hm => by
      obtain ⟨a, _, _⟩ := heldsOf_mem ds 0 h hm
      have h1 := nszL_le ds h.n a
      have h2 := HDS.out _ a
      have h3 := nsz_cnt h.n
      exact ⟨h2.1, by omega, h2.2, by simp only [List.length_cons, List.length_nil]; omega⟩)
     (by rw [hszL_held]; exact nszL_bound ds (fun d hd => (HDS.out d hd).2) hd12) (by rw [heldsOf_len]; omega) (by simp) (by simpa using hnm)
     ((hvl.lt.ext (hXw.trans hE)).ok fun b hb => .inl hb) ((HRP.out.lt.ext (hXw.trans hE)).ok fun b hb => .inl hb) (.nil 1) ((hOR.ext hE).ok fun b hb => hb.elim .inl fun h => .inr (by omega)) (.nil 2)
    have hroot : rootP l nm ds = nodeP l (nszL ds + 1) [nm] ⟨nm, []⟩ (heldsOf ds 0) [] := by unfold rootP; rw [if_neg hne]
    rw [← hroot] at HNO
    obtain ⟨RT, hRT⟩ : ∃ R, rootP l nm ds = R := ⟨_, rfl⟩
    rw [hRT] at HNO
    have HRT := Lh hRT
    have c0 := hXw.keep lgl r0
    have c1 := hXw.keep lgp s0
    have lgl8 : gl < wr.heap.size := Nat.lt_of_lt_of_le lgl hXw.size
    have lgp8 : gpp < wr.heap.size := Nat.lt_of_lt_of_le lgp hXw.size
    have HZ8 := Lh (And.intro (HZ.out.1.ext hX) hXw)
    clear hroot hRT hOR HO HZ r0 s0 HRP hX hXw
    obtain ⟨wo, hwo⟩ : ∃ wo, wo = wr := ⟨_, rfl⟩
    subst hwo
    go_wp2_with fail
    refine region_merge (fun ac ac' w' => ∃ (ka : Option Addr) (va : Option Addr) (pa : Option Addr) (ca : Option Addr) (kc : Nat) (vc : Nat) (pc2 : Nat) (cc : Nat) (wx : World), ac' = (((((((((((((((((ac.put (some 27) (.slice da ds.length dc)).put (some 28) (.int .i64 ds.length)).put (some 29) (.slice (some ⟨gl, ol, none⟩) l.length lc)).put (some 30) (.slice (some ⟨gl, ol, none⟩) l.length lc)).put (some 31) (.pointer (some ⟨gl, ol, none⟩))).put (some 32) (.pointer (some ⟨gl, ol, none⟩))).put (some 33) (.slice (some ⟨gpp, op, none⟩) 1 pc)).put (some 34) (.slice (some ⟨gl, ol, none⟩) l.length lc)).put (some 35) (.pointer (some ⟨gl, ol, none⟩))).put (some 36) (.pointer (some ⟨gl, ol, none⟩))).put (some 37) (.slice (some ⟨gpp, op, none⟩) 1 pc)).put (some 38) (.pointer (some ⟨gpp, op, none⟩))).put (some 39) (.string (bs nm))).put (some 40) (.agg #[.string (bs nm), .slice none 0 0])).put (some 41) (.slice oa ds.length oc)).put (some 42) (.agg #[.string (bs RT.name), .slice ka RT.key.length kc, .slice va RT.vers.length vc, .slice pa RT.parts.length pc2, .slice ca RT.kids.length cc])).put (some 43) (.agg #[.int .i64 ds.length, .string (bs RT.name), .slice ka RT.key.length kc, .slice va RT.vers.length vc, .slice pa RT.parts.length pc2, .slice ca RT.kids.length cc])) ∧ w' = sar wx w.heap.size ds.length RT (.slice ka RT.key.length kc) (.slice va RT.vers.length vc) (.slice pa RT.parts.length pc2) (.slice ca RT.kids.length cc) ∧ Ext wo wx ∧ Hid (Rep wx (fun b => p b ∧ b < w.heap.size ∨ w.heap.size + 1 ≤ b) (.slice ka RT.key.length kc) (strsD RT.key) ∧ Rep wx (fun b => p b ∧ b < w.heap.size ∨ w.heap.size + 1 ≤ b) (.slice va RT.vers.length vc) (spansD RT.vers) ∧ Rep wx (fun b => p b ∧ b < w.heap.size ∨ w.heap.size + 1 ≤ b) (.slice pa RT.parts.length pc2) (partsD RT.parts) ∧ Rep wx (fun b => p b ∧ b < w.heap.size ∨ w.heap.size + 1 ≤ b) (.slice ca RT.kids.length cc) (anodesD RT.kids))) ?_ ?_
    ·
     refine rg_aside (S := Sx wo) 17 ⟨none, .store 36 (.tmp 4) (.tmp 43), 0, "ref.go:100", #[⟨16, .data⟩, ⟨15, .chain⟩, ⟨0, .phase⟩, ⟨1, .phase⟩, ⟨2, .phase⟩, ⟨3, .phase⟩, ⟨4, .phase⟩, ⟨5, .phase⟩, ⟨6, .phase⟩, ⟨7, .phase⟩, ⟨8, .phase⟩, ⟨9, .phase⟩, ⟨10, .phase⟩, ⟨11, .phase⟩, ⟨12, .phase⟩, ⟨13, .phase⟩, ⟨14, .phase⟩, ⟨15, .phase⟩, ⟨16, .phase⟩], none⟩ (by kernel_rfl) (by decide) rfl rfl (by kernel_rfl) (by kernel_rfl) (Sx.begin _) ?_
     have hSz : Sx wo (World.drew wo) := (Sx.begin _)
     simp only [List.setIfInBounds_toArray, List.set_cons_zero, List.set_cons_succ]
     refine rg_t 0 (some 27) (.slice da ds.length dc) rfl hSz (fun w' hs => by rfl) ?_
     simp only [Act.put, sA, sZ, sS]
     refine rg_t 1 (some 28) (.int .i64 ds.length) rfl hSz (fun w' hs => by first | rfl | go_simp) ?_
     simp only [Act.put, sA, sZ, sS]
     refine rg_t 2 (some 29) (.slice (some ⟨gl, ol, none⟩) l.length lc) rfl hSz (fun w' hs => by rfl) ?_
     simp only [Act.put, sA, sZ, sS]
     refine rg_t 3 (some 30) (.slice (some ⟨gl, ol, none⟩) l.length lc) rfl hSz (fun w' hs => by rfl) ?_
     simp only [Act.put, sA, sZ, sS]
     refine rg_t 4 (some 31) (.pointer (some ⟨gl, ol, none⟩)) rfl hSz (fun w' hs => by first | rfl | go_simp) ?_
     simp only [Act.put, sA, sZ, sS]
     refine rg_t 5 (some 32) (.pointer (some ⟨gl, ol, none⟩)) rfl hSz (fun w' hs => by first | rfl | go_simp) ?_
     simp only [Act.put, sA, sZ, sS]
     refine rg_t 6 (some 33) (.slice (some ⟨gpp, op, none⟩) 1 pc) rfl hSz (fun w' hs => by (have h0 := hs.cell lgl8 c0; go_simp)) ?_
     simp only [Act.put, sA, sZ, sS]
     refine rg_t 7 (some 34) (.slice (some ⟨gl, ol, none⟩) l.length lc) rfl hSz (fun w' hs => by rfl) ?_
     simp only [Act.put, sA, sZ, sS]
     refine rg_t 8 (some 35) (.pointer (some ⟨gl, ol, none⟩)) rfl hSz (fun w' hs => by first | rfl | go_simp) ?_
     simp only [Act.put, sA, sZ, sS]
     refine rg_t 9 (some 36) (.pointer (some ⟨gl, ol, none⟩)) rfl hSz (fun w' hs => by first | rfl | go_simp) ?_
     simp only [Act.put, sA, sZ, sS]
     refine rg_t 10 (some 37) (.slice (some ⟨gpp, op, none⟩) 1 pc) rfl hSz (fun w' hs => by (have h0 := hs.cell lgl8 c0; go_simp)) ?_
     simp only [Act.put, sA, sZ, sS]
     refine rg_t 11 (some 38) (.pointer (some ⟨gpp, op, none⟩)) rfl hSz (fun w' hs => by first | rfl | go_simp) ?_
     simp only [Act.put, sA, sZ, sS]
     refine rg_t 12 (some 39) (.string (bs nm)) rfl hSz (fun w' hs => by (have h0 := hs.cell lgp8 c1; go_simp)) ?_
     simp only [Act.put, sA, sZ, sS]
     refine rg_t 13 (some 40) (.agg #[.string (bs nm), .slice none 0 0]) rfl hSz (fun w' hs => by first | rfl | go_simp) ?_
     simp only [Act.put, sA, sZ, sS]
     refine rg_t 14 (some 41) (.slice oa ds.length oc) rfl hSz (fun w' hs => by rfl) ?_
     simp only [Act.put, sA, sZ, sS]
     refine rg_one 15 (by kernel_rfl) ?_
     refine tk_call 15 (some 42) 37 #[.slice (some ⟨gl, ol, none⟩) l.length lc, .slice (some ⟨gpp, op, none⟩) 1 pc, .agg #[.string (bs nm), .slice none 0 0], .slice oa ds.length oc, .slice none 0 0] rfl rfl (by rfl) (fun w' => by first | rfl | go_simp) (R := fun v w' => ∃ (ka va pa ca : Option Addr) (kc vc pc2 cc : Nat), v = .agg #[.string (bs RT.name), .slice ka RT.key.length kc, .slice va RT.vers.length vc, .slice pa RT.parts.length pc2, .slice ca RT.kids.length cc] ∧ Hid (Rep w' (fun b => p b ∧ b < w.heap.size ∨ w.heap.size + 1 ≤ b) (.slice ka RT.key.length kc) (strsD RT.key) ∧ Rep w' (fun b => p b ∧ b < w.heap.size ∨ w.heap.size + 1 ≤ b) (.slice va RT.vers.length vc) (spansD RT.vers) ∧ Rep w' (fun b => p b ∧ b < w.heap.size ∨ w.heap.size + 1 ≤ b) (.slice pa RT.parts.length pc2) (partsD RT.parts) ∧ Rep w' (fun b => p b ∧ b < w.heap.size ∨ w.heap.size + 1 ≤ b) (.slice ca RT.kids.length cc) (anodesD RT.kids)) ∧ Ext (World.drew wo) w') ?_ ?_
     ·
      refine (HNO.out _ ((Ext.refl wo).drew)).mono ?_
      rintro e w' ⟨⟨ka, va, pa, ca, kc, vc, pc2, cc, rfl, h1, h2, h3, h4⟩, h⟩
      have hcv : ∀ b, ((p b ∧ b < w.heap.size ∨ w.heap.size + 1 ≤ b) ∨ (World.drew wo).heap.size ≤ b) → (p b ∧ b < w.heap.size ∨ w.heap.size + 1 ≤ b) := fun b hb => hb.elim (fun h => h) fun h => .inr (by have := ((Ext.refl wo).drew).size; have := HZ8.out.1.lt; omega)
      exact ⟨_, rfl, ka, va, pa, ca, kc, vc, pc2, cc, rfl, Lh ⟨h1.ok hcv, h2.ok hcv, h3.ok hcv, h4.ok hcv⟩, h⟩
     rintro _ wx ⟨ka, va, pa, ca, kc, vc, pc2, cc, rfl, HK4, hBx⟩
     have hSx1 : Sx wo wx := hSz.ext hBx
     refine ⟨hSx1, ?_⟩
     simp only [Act.put, sA, sZ, sS]
     refine rg_t 16 (some 43) (.agg #[.int .i64 ds.length, .string (bs RT.name), .slice ka RT.key.length kc, .slice va RT.vers.length vc, .slice pa RT.parts.length pc2, .slice ca RT.kids.length cc]) rfl hSx1 (fun w' hs => by first | rfl | go_simp) ?_
     simp only [Act.put, sA, sZ, sS]
     refine rg_t 17 none (.bool true) rfl hSx1 (fun w' hs => by rfl) ?_
     simp only [Act.put, sA, sZ, sS]
     refine rg_done (by kernel_rfl) ?_
     refine qlast_normal ?_
     refine tk_write 17 none (sar wx w.heap.size ds.length RT (.slice ka RT.key.length kc) (.slice va RT.vers.length vc) (.slice pa RT.parts.length pc2) (.slice ca RT.kids.length cc)) (by rfl) rfl (by rfl) (exec_store rfl (store_arch (HZ8.out.1.ext hSx1) _ _ _ _ _ _ _ _ _ _ _ _ _ _)) ?_
     exact ⟨ka, va, pa, ca, kc, vc, pc2, cc, wx, (by simp only [Act.put, sA, sZ, sS]), rfl, hSx1, HK4⟩
    rintro _ w9 ⟨ka, va, pa, ca, kc, vc, pc2, cc, wx, rfl, hw9, hEx, HK4⟩
    simp only [Act.put, sA, sZ, sS]
    have HZ9 := Lh (HZ8.out.1.ext hEx)
    have hX9 : Ext w w9 := by rw [hw9]; exact (HZ8.out.2.trans hEx).sar (Nat.le_refl _) _ _ _ _ _ _
    have HF9 : Hid (Rep w9 (fun b => p b ∨ w.heap.size ≤ b) (.slice ka RT.key.length kc) (strsD RT.key) ∧ Rep w9 (fun b => p b ∨ w.heap.size ≤ b) (.slice va RT.vers.length vc) (spansD RT.vers) ∧ Rep w9 (fun b => p b ∨ w.heap.size ≤ b) (.slice pa RT.parts.length pc2) (partsD RT.parts) ∧ Rep w9 (fun b => p b ∨ w.heap.size ≤ b) (.slice ca RT.kids.length cc) (anodesD RT.kids)) := by
     obtain ⟨h1, h2, h3, h4⟩ := HK4.out
     have hrep : ∀ (v : Value) (d : DV), Rep wx (fun b => p b ∧ b < w.heap.size ∨ w.heap.size + 1 ≤ b) v d → Rep w9 (fun b => p b ∨ w.heap.size ≤ b) v d := fun v d hv => by
      rw [hw9]
      exact (hv.kept fun b hb _ => sar_block _ _ _ _ _ _ _ _ (by omega)).ok fun b hb => hb.elim (fun h => .inl h.1) fun h => .inr (by omega)
     exact Lh ⟨hrep _ _ h1, hrep _ _ h2, hrep _ _ h3, hrep _ _ h4⟩
    have HW9 := Lh hw9
    clear HK4 hEx hw9 c0 c1 HNO HZ8
    go_wp2_with fail
    (try simp only [Exit.inBlock, Exit.then])
    rw [HW9.out]
    refine bodyPost_ret (res_one rfl _ _ _ ⟨w.heap.size, 0, none⟩ ?_ (load_arch HZ9.out _ _ _ _ _ _)) rfl ?_
    ·
     rfl
    rw [← HW9.out, HRT.out]
    exact ⟨⟨ka, va, pa, ca, kc, vc, pc2, cc, rfl, HF9.out⟩, hX9⟩
theorem spansV_len (f : Nat → Bool) : ∀ (k v : Nat), (spansV f k v).length ≤ k
 | 0, v => Nat.le_refl _
 | k + 1, v => by
  unfold spansV
  have h1 := spansV_len f k (runE f (200 - v) v + 1)
  have h2 := spansV_len f k (v + 1)
  split
  ·
   split
   ·
    rw [List.length_cons]; omega
   ·
    omega
  ·
   exact Nat.zero_le _
theorem ownV_len (hs : List Held) : (ownV hs).length ≤ 1048576 := Nat.le_trans (spansV_len _ 200 1) (by omega)
theorem vBL_of : ∀ l : List ANode, (∀ n ∈ l, vB n = true) → vBL l = true
 | [], _ => by rw [vBL]
 | n :: r, h => by rw [vBL, h n List.mem_cons_self, vBL_of r fun n hn => h n (List.mem_cons_of_mem _ hn)]; rfl
theorem versV_len (hs : List Held) (above : List Span) : (versV hs above).length ≤ 1048576 := by
 unfold versV
 split
 ·
  exact Nat.zero_le _
 ·
  exact ownV_len hs
theorem vB_node (l : List Rule) : ∀ (N : Nat) (path : List Bytes) (s : Step) (hs : List Held) (above : List Span), vB (nodeP l N path s hs above) = true
 | 0, path, s, hs, above => by
  rw [nodeP, vB, vBL, Bool.and_true]; exact decide_eq_true (versV_len hs above)
 | N + 1, path, s, hs, above => by
  rw [nodeP, vB, Bool.and_eq_true]
  refine ⟨decide_eq_true (versV_len hs above), vBL_of _ fun n hn => ?_⟩
  split at hn
  ·
   cases hn
  ·
   obtain ⟨g, _, rfl⟩ := List.mem_map.1 hn
   exact vB_node l N _ _ _ _
theorem vB_root (l : List Rule) (nm : Bytes) (ds : List Node) : vB (rootP l nm ds) = true := by
 unfold rootP
 split
 ·
  rfl
 ·
  exact vB_node l _ _ _ _ _
theorem text13_any (p : Nat → Prop) (v : Value) (w : World) (h : Rep w p v (spansD [⟨1, 3⟩])) :
  Calls Tryz.prog 32 #[v] w fun e w' => e = .returned (.string (bs [49, 45, 51])) ∧ Ext w w' := by
 have HM := Lh (may_set [⟨1, 3⟩] p v w h)
 have hmm : mayI [⟨1, 3⟩] (-1) = true := by decide
 rw [hmm] at HM
 obtain ⟨x, c, rfl, hc1, hc2⟩ := h.count z_span (by omega)
 obtain ⟨i0, hi, hz0, hz1, hz2⟩ := info_parts infoStr
 have hlen : ([⟨1, 3⟩] : List Span).length = 1 := rfl
 rw [hlen] at hc1 HM h ⊢
 have HR := Lh h
 clear hmm hlen h
 go_enter Tryz.func32, Tryz.ntmps32
 go_wp2_with fail
 refine HM.out.mono ?_
 rintro e w1 ⟨rfl, hB1⟩
 clear HM
 go_wp2_with fail
 go_loopw [3, 6, 12] (fun o _ t wr => (t = .int .i64 0 ∧ o = .slice none 0 0 ∧ Ext w wr ∧ Ext w1 wr) ∨ ∃ oa oc, t = .int .i64 1 ∧ o = .slice oa 1 oc ∧ Ext w wr ∧ Hid (Own wr (fun _ => False) w1.heap.size 9 1 (.slice oa 1 oc) 1 ([([49, 45, 51] : Bytes)].flatMap fun x => [strD x]))) (fun _ _ t _ => downV 1 t)
 case atStart => exact .inl ⟨rfl, rfl, hB1, Ext.refl _⟩
 case round =>
  rcases hrel with ⟨rfl, rfl, hX, hX1⟩ | ⟨oa, oc, rfl, rfl, hX, HO⟩
  ·
   obtain ⟨wo, hwo⟩ : ∃ wo, wo = wr := ⟨_, rfl⟩
   subst hwo
   obtain ⟨g, o, rfl, lg, _, d0, d1⟩ := span_at (HR.out.ext hX) 0 (by simp)
   simp only [List.getElem_cons_zero, Nat.zero_mul, Nat.add_zero] at d0 d1
   obtain ⟨wB, hwB⟩ : ∃ wB, wo.alloc (.cells #[.int .i64 1, .int .i64 3] 96) = wB := ⟨_, rfl⟩
   have hEB : Ext wo wB := by rw [← hwB]; exact (Ext.refl wo).alloc _
   have b0 : wB.cell? ⟨wo.heap.size, 0, none⟩ = some (.int .i64 1) := by rw [← hwB]; simp [go_sem]
   have b1 : wB.cell? ⟨wo.heap.size, 1, none⟩ = some (.int .i64 3) := by rw [← hwB]; simp [go_sem]
   have lB : wo.heap.size < wB.heap.size := by rw [← hwB]; simp
   have HWB := Lh hwB
   have HI := Lh (itoa1_any wB)
   clear hwB
   go_wp2_with fail
   rw [HWB.out]
   refine HI.out.mono ?_
   rintro e w2 ⟨rfl, hB2⟩
   have c0 := hB2.keep lB b0
   have c1 := hB2.keep lB b1
   have lC : wo.heap.size < w2.heap.size := Nat.lt_of_lt_of_le lB hB2.size
   have hX2 := (hX.trans hEB).trans hB2
   have hX14 := hX1.trans hEB
   clear HI HWB b0 b1 lB d0 d1
   have HI3 := Lh (itoa3_any w2)
   go_wp2_with fail
   refine HI3.out.mono ?_
   rintro e w4 ⟨rfl, hB4⟩
   have hX4 := hX2.trans hB4
   have hsz4 := hX4.size
   have hsz1 : w1.heap.size ≤ w4.heap.size := by have := hX14.size; have := hB2.size; have := hB4.size; omega
   clear HI3 c0 c1 lC
   go_wp2_with (at_builtin; refine wpList_append_own_at _ rfl (.tmp 30) (.tmp 32) _ rfl w1.heap.size 9 i0 (.string ⟨#[]⟩) 1 16 Tryz.underlying29 hi hz0 hz1 hz2 rfl (by decide) (.slice none 0 0) 0 [] rfl (World.ownsRow_nil _ _ _ _) ⟨w4.heap.size, 0, none⟩ 1 1 [.string (bs [49] ++ (⟨#[45]⟩ ++ bs [51]))] rfl rfl (new_cells _) (by intro u hu; simp at hu; subst hu; rfl) (by unfold maxLen; omega) (by omega) (by simp; omega) ?_; intro v2 w5 hown5 hgrow5 _ hat5)
   obtain ⟨o2a, o2c, rfl⟩ := own_form hown5
   have hXA := hX4.alloc (.cells #[.string (bs [49] ++ (⟨#[45]⟩ ++ bs [51]))] 9)
   have hX5 : Ext w w5 := Below.grown hXA hgrow5 (Below.size hXA) fun k hk => by cases hk
   have hO5 : Hid (Own w5 (fun _ => False) w1.heap.size 9 1 (.slice o2a 1 o2c) 1 ([([49, 45, 51] : Bytes)].flatMap fun x => [strD x])) := Lh ⟨_, hown5, by
    rw [List.nil_append, show (bs [49] ++ (⟨#[45]⟩ ++ bs [51]) : ByteArray) = bs [49, 45, 51] by kernel_rfl]
    exact Reps.cons (Rep.string _ _ _ (by decide)) (Reps.nil _ _)⟩
   clear hown5 hgrow5 hat5 hXA
   go_wp2_with fail
   go_roundw
   case rel => exact .inr ⟨o2a, o2c, rfl, rfl, hX5, hO5⟩
   case measure => decide
  ·
   have hrep : Rep wr (fun b => False ∨ w1.heap.size ≤ b) (.slice oa 1 oc) (strsD [[49, 45, 51]]) := HO.out.rep
   have HJ := Lh (join1_any _ [49, 45, 51] ⟨#[44]⟩ (.slice oa 1 oc) wr hrep)
   clear HO hrep
   go_wp2_with fail
   refine HJ.out.mono ?_
   rintro e w3 ⟨rfl, hB3⟩
   go_wp2_with fail
   go_ret
   exact ⟨rfl, hX.trans hB3⟩
theorem text22_any (p : Nat → Prop) (v : Value) (w : World) (h : Rep w p v (spansD [⟨2, 2⟩])) :
  Calls Tryz.prog 32 #[v] w fun e w' => e = .returned (.string (bs [50])) ∧ Ext w w' := by
 have HM := Lh (may_set [⟨2, 2⟩] p v w h)
 have hmm : mayI [⟨2, 2⟩] (-1) = true := by decide
 rw [hmm] at HM
 obtain ⟨x, c, rfl, hc1, hc2⟩ := h.count z_span (by omega)
 obtain ⟨i0, hi, hz0, hz1, hz2⟩ := info_parts infoStr
 have hlen : ([⟨2, 2⟩] : List Span).length = 1 := rfl
 rw [hlen] at hc1 HM h ⊢
 have HR := Lh h
 clear hmm hlen h
 go_enter Tryz.func32, Tryz.ntmps32
 go_wp2_with fail
 refine HM.out.mono ?_
 rintro e w1 ⟨rfl, hB1⟩
 clear HM
 go_wp2_with fail
 go_loopw [3, 6, 12] (fun o _ t wr => (t = .int .i64 0 ∧ o = .slice none 0 0 ∧ Ext w wr ∧ Ext w1 wr) ∨ ∃ oa oc, t = .int .i64 1 ∧ o = .slice oa 1 oc ∧ Ext w wr ∧ Hid (Own wr (fun _ => False) w1.heap.size 9 1 (.slice oa 1 oc) 1 ([([50] : Bytes)].flatMap fun x => [strD x]))) (fun _ _ t _ => downV 1 t)
 case atStart => exact .inl ⟨rfl, rfl, hB1, Ext.refl _⟩
 case round =>
  rcases hrel with ⟨rfl, rfl, hX, hX1⟩ | ⟨oa, oc, rfl, rfl, hX, HO⟩
  ·
   obtain ⟨wo, hwo⟩ : ∃ wo, wo = wr := ⟨_, rfl⟩
   subst hwo
   obtain ⟨g, o, rfl, lg, _, d0, d1⟩ := span_at (HR.out.ext hX) 0 (by simp)
   simp only [List.getElem_cons_zero, Nat.zero_mul, Nat.add_zero] at d0 d1
   obtain ⟨wB, hwB⟩ : ∃ wB, wo.alloc (.cells #[.int .i64 2, .int .i64 2] 96) = wB := ⟨_, rfl⟩
   have hEB : Ext wo wB := by rw [← hwB]; exact (Ext.refl wo).alloc _
   have b0 : wB.cell? ⟨wo.heap.size, 0, none⟩ = some (.int .i64 2) := by rw [← hwB]; simp [go_sem]
   have b1 : wB.cell? ⟨wo.heap.size, 1, none⟩ = some (.int .i64 2) := by rw [← hwB]; simp [go_sem]
   have lB : wo.heap.size < wB.heap.size := by rw [← hwB]; simp
   have HWB := Lh hwB
   have HI := Lh (itoa2_any wB)
   clear hwB
   go_wp2_with fail
   rw [HWB.out]
   refine HI.out.mono ?_
   rintro e w2 ⟨rfl, hB2⟩
   have c0 := hB2.keep lB b0
   have c1 := hB2.keep lB b1
   have lC : wo.heap.size < w2.heap.size := Nat.lt_of_lt_of_le lB hB2.size
   have hX2 := (hX.trans hEB).trans hB2
   have hX14 := hX1.trans hEB
   clear HI HWB b0 b1 lB d0 d1
   have hsz1 : w1.heap.size ≤ w2.heap.size := by have := hX14.size; have := hB2.size; omega
   go_wp2_with (at_builtin; refine wpList_append_own_at _ rfl (.tmp 30) (.tmp 32) _ rfl w1.heap.size 9 i0 (.string ⟨#[]⟩) 1 16 Tryz.underlying29 hi hz0 hz1 hz2 rfl (by decide) (.slice none 0 0) 0 [] rfl (World.ownsRow_nil _ _ _ _) ⟨w2.heap.size, 0, none⟩ 1 1 [.string (bs [50])] rfl rfl (new_cells _) (by intro u hu; simp at hu; subst hu; rfl) (by unfold maxLen; omega) (by omega) (by simp; omega) ?_; intro v2 w5 hown5 hgrow5 _ hat5)
   obtain ⟨o2a, o2c, rfl⟩ := own_form hown5
   have hXA := hX2.alloc (.cells #[.string (bs [50])] 9)
   have hX5 : Ext w w5 := Below.grown hXA hgrow5 (Below.size hXA) fun k hk => by cases hk
   have hO5 : Hid (Own w5 (fun _ => False) w1.heap.size 9 1 (.slice o2a 1 o2c) 1 ([([50] : Bytes)].flatMap fun x => [strD x])) := Lh ⟨_, hown5, by
    rw [List.nil_append, show (bs [50] : ByteArray) = bs [50] by kernel_rfl]
    exact Reps.cons (Rep.string _ _ _ (by decide)) (Reps.nil _ _)⟩
   clear hown5 hgrow5 hat5 hXA
   go_wp2_with fail
   go_roundw
   case rel => exact .inr ⟨o2a, o2c, rfl, rfl, hX5, hO5⟩
   case measure => decide
  ·
   have hrep : Rep wr (fun b => False ∨ w1.heap.size ≤ b) (.slice oa 1 oc) (strsD [[50]]) := HO.out.rep
   have HJ := Lh (join1_any _ [50] ⟨#[44]⟩ (.slice oa 1 oc) wr hrep)
   clear HO hrep
   go_wp2_with fail
   refine HJ.out.mono ?_
   rintro e w3 ⟨rfl, hB3⟩
   go_wp2_with fail
   go_ret
   exact ⟨rfl, hX.trans hB3⟩
theorem rep_lit {w : World} {cs : Array Value} {e : TypeId} {n z : Nat} {es : List DV} (hs : cs.size = n * z) (hl : es.length = n * z) (hn : n ≤ 9223372036854775807) (hr : Reps w (fun _ => True) cs.toList es) :
  Rep (w.alloc (.cells cs e)) (fun _ => True) (.slice (some ⟨w.heap.size, 0, none⟩) n n) (.s z es) := by
 have hr' := hr.ext ((Ext.refl w).alloc (.cells cs e))
 refine .row w.heap.size 0 n n z cs.toList es (fun _ => trivial) hl (by simpa using hs) (Nat.le_refl _) hn (fun k u hk => ?_) hr'.2
 rw [Nat.zero_add]
 have h := World.cell?_alloc_mark w cs e (0, 0) k
 rw [h, ← hk]; simp
def awR : List Rule := [⟨[[100, 98]], []⟩, ⟨[[100, 98], [101]], [[64, 105, 100]]⟩]
def awE : Node := .mk 1 [101] [] [⟨[105, 100], [49]⟩] []
def awD : List Node := [.mk 1 [100, 98] [] [] [], .mk 1 [100, 98] [] [] [awE], .mk 1 [100, 98] [] [] []]
theorem awR_ok : RulesOk awR := by
 intro r hr
 simp only [awR, List.mem_cons, List.not_mem_nil, or_false] at hr
 rcases hr with rfl | rfl
 ·
  exact ⟨by decide, fun k hk => (by cases hk)⟩
 ·
  refine ⟨by decide, fun k hk => ?_⟩
  simp only [List.mem_cons, List.not_mem_nil, or_false] at hk
  subst hk
  exact ⟨by decide, fun _ => by decide⟩
theorem awD_wf : ∀ d ∈ awD, wfN awR d [[100, 98]] ∧ d.name = [100, 98] := by
 intro d hd
 simp only [awD, List.mem_cons, List.not_mem_nil, or_false] at hd
 have hf : frontS awR [[100, 98]] = false := by decide
 have he : frontS awR [[100, 98], [101]] = true := by decide
 have h0 : wfN awR (.mk 1 [100, 98] [] [] []) [[100, 98]] := by rw [wfN_eq]; exact ⟨rfl, fun _ => ⟨rfl, List.Pairwise.nil, trivial⟩⟩
 rcases hd with rfl | rfl | rfl
 ·
  exact ⟨h0, rfl⟩
 ·
  refine ⟨?_, rfl⟩
  rw [wfN_eq]
  refine ⟨rfl, fun _ => ⟨by kernel_rfl, ?_, ?_⟩⟩
  ·
   rw [show stepsS awR [[100, 98]] (Node.kids (.mk 1 [100, 98] [] [] [awE])) = [⟨[101], [[49]]⟩] by kernel_rfl]; exact List.pairwise_singleton _ _
  ·
   rw [show Node.kids (.mk 1 [100, 98] [] [] [awE]) = [awE] from rfl, wfL, wfL]
   refine ⟨?_, trivial⟩
   rw [wfN_eq]
   refine ⟨rfl, fun h => ?_⟩
   have h2 : frontS awR ([[100, 98]] ++ [awE.name]) = true := he
   rw [h2] at h; cases h
 ·
  exact ⟨h0, rfl⟩
def awX1 : List Step := [⟨[100, 98], []⟩]
def awX2 : List Step := [⟨[100, 98], []⟩, ⟨[101], [[49]]⟩]
def awX3 : List Step := [⟨[100, 98], []⟩, ⟨[113], []⟩]
theorem aw1 : ∃ n j, findA 3 (rootP awR [100, 98] awD) awX1 = (some (n, [⟨1, 3⟩]), j) := by
 have h : histV awR awX1 awD 0 [] 0 = ([1, 2, 3], 1) := by kernel_rfl
 obtain ⟨n, j, e⟩ := (find_law awR [100, 98] awD awX1 awD_wf (by decide)).2 (by rw [h]; decide)
 rw [h] at e
 exact ⟨n, j, e.trans (by rw [show spansOf (flOf [1, 2, 3]) = [⟨1, 3⟩] by kernel_rfl])⟩
theorem aw2 : ∃ n j, findA 3 (rootP awR [100, 98] awD) awX2 = (some (n, [⟨2, 2⟩]), j) := by
 have h : histV awR awX2 awD 0 [] 0 = ([2], 2) := by kernel_rfl
 obtain ⟨n, j, e⟩ := (find_law awR [100, 98] awD awX2 awD_wf (by decide)).2 (by rw [h]; decide)
 rw [h] at e
 exact ⟨n, j, e.trans (by rw [show spansOf (flOf [2]) = [⟨2, 2⟩] by kernel_rfl])⟩
theorem aw3 : findA 3 (rootP awR [100, 98] awD) awX3 = (none, 1) := by
 have h : histV awR awX3 awD 0 [] 0 = ([], 1) := by kernel_rfl
 have e := (find_law awR [100, 98] awD awX3 awD_wf (by decide)).1 (by rw [h])
 rw [h] at e
 exact e
theorem awake_any (w : World) (hg : GlobE w) : Calls Tryz.prog 7 #[] w fun e w' => e = .returned (.bool true) ∧ Ext w w' := by
 obtain ⟨a1, ha1⟩ : ∃ W, w.alloc (.cells #[.string ⟨#[100, 98]⟩] 9) = W := ⟨_, rfl⟩
 have ea1 : Ext w a1 := by rw [← ha1]; exact (Ext.refl _).alloc _
 have sa1 : a1.heap.size = w.heap.size + 1 := by rw [← ha1]; simp
 have ra1 : Rep a1 (fun _ => True) (.slice (some ⟨w.heap.size, 0, none⟩) 1 1) (strsD [[100, 98]]) := by rw [← ha1]; exact rep_lit rfl rfl (by decide) (Reps.cons (Rep.string _ _ (bs [100, 98]) (by decide)) (Reps.nil _ _))
 obtain ⟨a2, ha2⟩ : ∃ W, a1.alloc (.cells #[.string ⟨#[100, 98]⟩, .string ⟨#[101]⟩] 9) = W := ⟨_, rfl⟩
 have ea2 : Ext a1 a2 := by rw [← ha2]; exact (Ext.refl _).alloc _
 have sa2 : a2.heap.size = w.heap.size + 1 + 1 := by rw [← ha2]; simp; rw [sa1]
 have ra2 : Rep a2 (fun _ => True) (.slice (some ⟨a1.heap.size, 0, none⟩) 2 2) (strsD [[100, 98], [101]]) := by rw [← ha2]; exact rep_lit rfl rfl (by decide) (Reps.cons (Rep.string _ _ (bs [100, 98]) (by decide)) (Reps.cons (Rep.string _ _ (bs [101]) (by decide)) (Reps.nil _ _)))
 rw [sa1] at ra2
 obtain ⟨a3, ha3⟩ : ∃ W, a2.alloc (.cells #[.string ⟨#[64, 105, 100]⟩] 9) = W := ⟨_, rfl⟩
 have ea3 : Ext a2 a3 := by rw [← ha3]; exact (Ext.refl _).alloc _
 have sa3 : a3.heap.size = w.heap.size + 1 + 1 + 1 := by rw [← ha3]; simp; rw [sa2]
 have ra3 : Rep a3 (fun _ => True) (.slice (some ⟨a2.heap.size, 0, none⟩) 1 1) (strsD [[64, 105, 100]]) := by rw [← ha3]; exact rep_lit rfl rfl (by decide) (Reps.cons (Rep.string _ _ (bs [64, 105, 100]) (by decide)) (Reps.nil _ _))
 rw [sa2] at ra3
 obtain ⟨a4, ha4⟩ : ∃ W, a3.alloc (.cells #[.slice (some ⟨w.heap.size, 0, none⟩) 1 1, .slice none 0 0, .slice (some ⟨w.heap.size + 1, 0, none⟩) 2 2, .slice (some ⟨w.heap.size + 1 + 1, 0, none⟩) 1 1] 72) = W := ⟨_, rfl⟩
 have ea4 : Ext a3 a4 := by rw [← ha4]; exact (Ext.refl _).alloc _
 have sa4 : a4.heap.size = w.heap.size + 1 + 1 + 1 + 1 := by rw [← ha4]; simp; rw [sa3]
 have ra4 : Rep a4 (fun _ => True) (.slice (some ⟨a3.heap.size, 0, none⟩) 2 2) (rulesD awR) := by rw [← ha4]; exact rep_lit rfl rfl (by decide) (Reps.cons ((ra1.ext ea2).ext ea3) (Reps.cons (.nil 1) (Reps.cons (ra2.ext ea3) (Reps.cons ra3 (Reps.nil _ _)))))
 rw [sa3] at ra4
 obtain ⟨a5, ha5⟩ : ∃ W, a4.alloc (.cells #[.string ⟨#[105, 100]⟩, .string ⟨#[49]⟩] 74) = W := ⟨_, rfl⟩
 have ea5 : Ext a4 a5 := by rw [← ha5]; exact (Ext.refl _).alloc _
 have sa5 : a5.heap.size = w.heap.size + 1 + 1 + 1 + 1 + 1 := by rw [← ha5]; simp; rw [sa4]
 have ra5 : Rep a5 (fun _ => True) (.slice (some ⟨a4.heap.size, 0, none⟩) 1 1) (attrsD [⟨[105, 100], [49]⟩]) := by rw [← ha5]; exact rep_lit rfl rfl (by decide) (Reps.cons (Rep.string _ _ (bs [105, 100]) (by decide)) (Reps.cons (Rep.string _ _ (bs [49]) (by decide)) (Reps.nil _ _)))
 rw [sa4] at ra5
 obtain ⟨a6, ha6⟩ : ∃ W, a5.alloc (.cells #[.int .i64 1, .string ⟨#[101]⟩, .string ⟨#[]⟩, .slice (some ⟨w.heap.size + 1 + 1 + 1 + 1, 0, none⟩) 1 1, .slice none 0 0] 60) = W := ⟨_, rfl⟩
 have ea6 : Ext a5 a6 := by rw [← ha6]; exact (Ext.refl _).alloc _
 have sa6 : a6.heap.size = w.heap.size + 1 + 1 + 1 + 1 + 1 + 1 := by rw [← ha6]; simp; rw [sa5]
 obtain ⟨a7, ha7⟩ : ∃ W, a6.alloc (.cells #[.int .i64 1, .string ⟨#[101]⟩, .string ⟨#[]⟩, .slice (some ⟨w.heap.size + 1 + 1 + 1 + 1, 0, none⟩) 1 1, .slice none 0 0] 60) = W := ⟨_, rfl⟩
 have ea7 : Ext a6 a7 := by rw [← ha7]; exact (Ext.refl _).alloc _
 have sa7 : a7.heap.size = w.heap.size + 1 + 1 + 1 + 1 + 1 + 1 + 1 := by rw [← ha7]; simp; rw [sa6]
 have ra7 : Rep a7 (fun _ => True) (.slice (some ⟨a6.heap.size, 0, none⟩) 1 1) (nodesD [awE]) := by rw [← ha7]; exact rep_lit rfl rfl (by decide) (Reps.cons (Rep.int _ _ _ _) (Reps.cons (Rep.string _ _ (bs [101]) (by decide)) (Reps.cons (Rep.string _ _ (bs []) (by decide)) (Reps.cons (ra5.ext ea6) (Reps.cons (.nil 5) (Reps.nil _ _))))))
 rw [sa6] at ra7
 obtain ⟨a8, ha8⟩ : ∃ W, a7.alloc (.cells #[.int .i64 1, .string ⟨#[100, 98]⟩, .string ⟨#[]⟩, .slice none 0 0, .slice none 0 0, .int .i64 1, .string ⟨#[100, 98]⟩, .string ⟨#[]⟩, .slice none 0 0, .slice (some ⟨w.heap.size + 1 + 1 + 1 + 1 + 1 + 1, 0, none⟩) 1 1, .int .i64 1, .string ⟨#[100, 98]⟩, .string ⟨#[]⟩, .slice none 0 0, .slice none 0 0] 60) = W := ⟨_, rfl⟩
 have ea8 : Ext a7 a8 := by rw [← ha8]; exact (Ext.refl _).alloc _
 have sa8 : a8.heap.size = w.heap.size + 1 + 1 + 1 + 1 + 1 + 1 + 1 + 1 := by rw [← ha8]; simp; rw [sa7]
 have ra8 : Rep a8 (fun _ => True) (.slice (some ⟨a7.heap.size, 0, none⟩) 3 3) (nodesD awD) := by rw [← ha8]; exact rep_lit rfl rfl (by decide) (Reps.cons (Rep.int _ _ _ _) (Reps.cons (Rep.string _ _ (bs [100, 98]) (by decide)) (Reps.cons (Rep.string _ _ (bs []) (by decide)) (Reps.cons (.nil 2) (Reps.cons (.nil 5) (Reps.cons (Rep.int _ _ _ _) (Reps.cons (Rep.string _ _ (bs [100, 98]) (by decide)) (Reps.cons (Rep.string _ _ (bs []) (by decide)) (Reps.cons (.nil 2) (Reps.cons ra7 (Reps.cons (Rep.int _ _ _ _) (Reps.cons (Rep.string _ _ (bs [100, 98]) (by decide)) (Reps.cons (Rep.string _ _ (bs []) (by decide)) (Reps.cons (.nil 2) (Reps.cons (.nil 5) (Reps.nil _ _))))))))))))))))
 rw [sa7] at ra8
 have hEa : Ext w a8 := ((((((ea1.trans ea2).trans ea3).trans ea4).trans ea5).trans ea6).trans ea7).trans ea8
 have hR := (((ra4.ext ea5).ext ea6).ext ea7).ext ea8
 have HBU := Lh (build_any awR [100, 98] awR_ok ⟨_, _, rfl⟩ awD (fun _ => True) _ _ a8 (fun d hd => ⟨(awD_wf d hd).1, by simp only [awD, List.mem_cons, List.not_mem_nil, or_false] at hd; rcases hd with rfl | rfl | rfl <;> decide⟩) (by decide) hR ra8)
 obtain ⟨RT, hRT⟩ : ∃ R, rootP awR [100, 98] awD = R := ⟨_, rfl⟩
 rw [hRT, show ((awD.length : Nat) : Int) = 3 from rfl] at HBU
 have hw1 := aw1
 have hw2 := aw2
 have hw3 := aw3
 have hvb := vB_root awR [100, 98] awD
 rw [hRT] at hw1 hw2 hw3 hvb
 have HAW := Lh (And.intro hw1 (And.intro hw2 (And.intro hw3 hvb)))
 clear hRT hw1 hw2 hw3 hvb
 have HHW := Lh (And.intro ha1 (And.intro ha2 (And.intro ha3 (And.intro ha4 (And.intro ha5 (And.intro ha6 (And.intro ha7 ha8)))))))
 have HEA := Lh hEa
 clear ha1 ha2 ha3 ha4 ha5 ha6 ha7 ha8 ra1 ra2 ra3 ra4 ra5 ra7 ra8 ea1 ea2 ea3 ea4 ea5 ea6 ea7 ea8 sa1 sa2 sa3 sa4 sa5 sa6 sa7 sa8 hR hEa
 go_enter Tryz.func7, Tryz.ntmps7
 go_wp2_with fail
 obtain ⟨ha1, ha2, ha3, ha4, ha5, ha6, ha7, ha8⟩ := HHW.out
 rw [ha1, ha2, ha3, ha4, ha5, ha6, ha7, ha8]
 clear ha1 ha2 ha3 ha4 ha5 ha6 ha7 ha8 HHW
 refine HBU.out.mono ?_
 rintro e w2 ⟨⟨k, v, pa, c, kc, vc, pc, cc, rfl, hk, hv, hpa, hc⟩, hB2⟩
 have hXb := HEA.out.trans hB2
 have HRR := Lh (And.intro hk (And.intro hv (And.intro hpa hc)))
 clear HBU hk hv hpa hc hB2
 obtain ⟨b1, hb1⟩ : ∃ W, w2.alloc (.cells #[.int .i64 3, .string (bs RT.name), .slice k RT.key.length kc, .slice v RT.vers.length vc, .slice pa RT.parts.length pc, .slice c RT.kids.length cc] 36) = W := ⟨_, rfl⟩
 have eb1 : Ext w2 b1 := by rw [← hb1]; exact (Ext.refl _).alloc _
 have sb1 : b1.heap.size = w2.heap.size + 1 := by rw [← hb1]; simp
 obtain ⟨b2, hb2⟩ : ∃ W, b1.alloc (.cells #[.string ⟨#[100, 98]⟩, .slice none 0 0] 76) = W := ⟨_, rfl⟩
 have eb2 : Ext b1 b2 := by rw [← hb2]; exact (Ext.refl _).alloc _
 have sb2 : b2.heap.size = w2.heap.size + 1 + 1 := by rw [← hb2]; simp; rw [sb1]
 have rb2 : Rep b2 (fun _ => True) (.slice (some ⟨b1.heap.size, 0, none⟩) 1 1) (stepsD awX1) := by rw [← hb2]; exact rep_lit rfl rfl (by decide) (Reps.cons (Rep.string _ _ (bs [100, 98]) (by decide)) (Reps.cons (.nil 1) (Reps.nil _ _)))
 rw [sb1] at rb2
 have g0 : b1.cell? ⟨w2.heap.size, 0, none⟩ = some (.int .i64 3) := by rw [← hb1]; simp [go_sem]
 have g1 : b1.cell? ⟨w2.heap.size, 1, none⟩ = some (.string (bs RT.name)) := by rw [← hb1]; simp [go_sem]
 have g2 : b1.cell? ⟨w2.heap.size, 2, none⟩ = some (.slice k RT.key.length kc) := by rw [← hb1]; simp [go_sem]
 have g3 : b1.cell? ⟨w2.heap.size, 3, none⟩ = some (.slice v RT.vers.length vc) := by rw [← hb1]; simp [go_sem]
 have g4 : b1.cell? ⟨w2.heap.size, 4, none⟩ = some (.slice pa RT.parts.length pc) := by rw [← hb1]; simp [go_sem]
 have g5 : b1.cell? ⟨w2.heap.size, 5, none⟩ = some (.slice c RT.kids.length cc) := by rw [← hb1]; simp [go_sem]
 have lg1 : w2.heap.size < b1.heap.size := by omega
 have eb : Ext w2 b2 := eb1.trans eb2
 have HP1 := Lh (phist_any 3 RT awX1 (fun _ => True) (.slice k RT.key.length kc) (.slice v RT.vers.length vc) (.slice pa RT.parts.length pc) (.slice c RT.kids.length cc) _ b2 HAW.out.2.2.2 (by decide) ((HRR.out.1.ext (eb)).ok fun _ _ => trivial) ((HRR.out.2.1.ext (eb)).ok fun _ _ => trivial) ((HRR.out.2.2.1.ext (eb)).ok fun _ _ => trivial) ((HRR.out.2.2.2.ext (eb)).ok fun _ _ => trivial) rb2)
 have HW1 := Lh (And.intro hb1 hb2)
 have HG1 := Lh eb2
 have HXB := Lh eb
 clear hb1 hb2 rb2 sb1 sb2 eb1 eb2 eb
 go_wp2_with fail
 rw [HW1.out.1, HW1.out.2]
 refine HP1.out.mono ?_
 rintro e w4 ⟨hr, hB4⟩
 obtain ⟨n1, j1, ef1⟩ := HAW.out.1
 rw [ef1] at hr
 obtain ⟨sv1, rfl, hsv1⟩ := hr
 obtain ⟨s1a, s1c, rfl, _, _⟩ := hsv1.count z_span (by omega)
 have hX4 := HXB.out.trans hB4
 have hGB := HG1.out.trans hB4
 have m0 := hGB.keep lg1 g0
 have m1 := hGB.keep lg1 g1
 have m2 := hGB.keep lg1 g2
 have m3 := hGB.keep lg1 g3
 have m4 := hGB.keep lg1 g4
 have m5 := hGB.keep lg1 g5
 have lm : w2.heap.size < w4.heap.size := Nat.lt_of_lt_of_le lg1 hGB.size
 have HS1 := Lh hsv1
 clear HP1 HW1 HG1 HXB hsv1 hB4 hGB g0 g1 g2 g3 g4 g5 lg1
 obtain ⟨c1, hc1⟩ : ∃ W, w4.alloc (.cells #[.string ⟨#[49]⟩] 9) = W := ⟨_, rfl⟩
 have ec1 : Ext w4 c1 := by rw [← hc1]; exact (Ext.refl _).alloc _
 have sc1 : c1.heap.size = w4.heap.size + 1 := by rw [← hc1]; simp
 have rc1 : Rep c1 (fun _ => True) (.slice (some ⟨w4.heap.size, 0, none⟩) 1 1) (strsD [[49]]) := by rw [← hc1]; exact rep_lit rfl rfl (by decide) (Reps.cons (Rep.string _ _ (bs [49]) (by decide)) (Reps.nil _ _))
 obtain ⟨c2, hc2⟩ : ∃ W, c1.alloc (.cells #[.string ⟨#[100, 98]⟩, .slice none 0 0, .string ⟨#[101]⟩, .slice (some ⟨w4.heap.size, 0, none⟩) 1 1] 76) = W := ⟨_, rfl⟩
 have ec2 : Ext c1 c2 := by rw [← hc2]; exact (Ext.refl _).alloc _
 have sc2 : c2.heap.size = w4.heap.size + 1 + 1 := by rw [← hc2]; simp; rw [sc1]
 have rc2 : Rep c2 (fun _ => True) (.slice (some ⟨c1.heap.size, 0, none⟩) 2 2) (stepsD awX2) := by rw [← hc2]; exact rep_lit rfl rfl (by decide) (Reps.cons (Rep.string _ _ (bs [100, 98]) (by decide)) (Reps.cons (.nil 1) (Reps.cons (Rep.string _ _ (bs [101]) (by decide)) (Reps.cons rc1 (Reps.nil _ _)))))
 rw [sc1] at rc2
 have ec : Ext w4 c2 := ec1.trans ec2
 have hX42 := hX4.trans ec
 have HP2 := Lh (phist_any 3 RT awX2 (fun _ => True) (.slice k RT.key.length kc) (.slice v RT.vers.length vc) (.slice pa RT.parts.length pc) (.slice c RT.kids.length cc) _ c2 HAW.out.2.2.2 (by decide) ((HRR.out.1.ext (hX42)).ok fun _ _ => trivial) ((HRR.out.2.1.ext (hX42)).ok fun _ _ => trivial) ((HRR.out.2.2.1.ext (hX42)).ok fun _ _ => trivial) ((HRR.out.2.2.2.ext (hX42)).ok fun _ _ => trivial) rc2)
 have HW2 := Lh (And.intro hc1 hc2)
 have HG2 := Lh (And.intro ec hX42)
 clear hc1 hc2 rc1 rc2 sc1 sc2 ec1 ec2 ec hX42
 go_wp2_with fail
 rw [HW2.out.1, HW2.out.2]
 refine HP2.out.mono ?_
 rintro e w5 ⟨hr, hB5⟩
 obtain ⟨n2, j2, ef2⟩ := HAW.out.2.1
 rw [ef2] at hr
 obtain ⟨sv2, rfl, hsv2⟩ := hr
 obtain ⟨s2a, s2c, rfl, _, _⟩ := hsv2.count z_span (by omega)
 have hG5 := HG2.out.1.trans hB5
 have hX5 := HG2.out.2.trans hB5
 have HS1' := Lh (HS1.out.ext hG5)
 have HS2 := Lh hsv2
 have p0 := hG5.keep lm m0
 have p1 := hG5.keep lm m1
 have p2 := hG5.keep lm m2
 have p3 := hG5.keep lm m3
 have p4 := hG5.keep lm m4
 have p5 := hG5.keep lm m5
 have lp : w2.heap.size < w5.heap.size := Nat.lt_of_lt_of_le lm hG5.size
 clear HP2 HW2 HG2 HS1 hsv2 hB5 hG5 m0 m1 m2 m3 m4 m5 lm hX4
 obtain ⟨d1, hd1⟩ : ∃ W, w5.alloc (.cells #[.string ⟨#[100, 98]⟩, .slice none 0 0, .string ⟨#[113]⟩, .slice none 0 0] 76) = W := ⟨_, rfl⟩
 have ed1 : Ext w5 d1 := by rw [← hd1]; exact (Ext.refl _).alloc _
 have sd1 : d1.heap.size = w5.heap.size + 1 := by rw [← hd1]; simp
 have rd1 : Rep d1 (fun _ => True) (.slice (some ⟨w5.heap.size, 0, none⟩) 2 2) (stepsD awX3) := by rw [← hd1]; exact rep_lit rfl rfl (by decide) (Reps.cons (Rep.string _ _ (bs [100, 98]) (by decide)) (Reps.cons (.nil 1) (Reps.cons (Rep.string _ _ (bs [113]) (by decide)) (Reps.cons (.nil 1) (Reps.nil _ _)))))
 have hX53 := hX5.trans ed1
 have HP3 := Lh (phist_any 3 RT awX3 (fun _ => True) (.slice k RT.key.length kc) (.slice v RT.vers.length vc) (.slice pa RT.parts.length pc) (.slice c RT.kids.length cc) _ d1 HAW.out.2.2.2 (by decide) ((HRR.out.1.ext (hX53)).ok fun _ _ => trivial) ((HRR.out.2.1.ext (hX53)).ok fun _ _ => trivial) ((HRR.out.2.2.1.ext (hX53)).ok fun _ _ => trivial) ((HRR.out.2.2.2.ext (hX53)).ok fun _ _ => trivial) rd1)
 have HW3 := Lh hd1
 have HG3 := Lh (And.intro ed1 hX53)
 clear hd1 rd1 sd1 ed1 hX53
 go_wp2_with fail
 rw [HW3.out]
 refine HP3.out.mono ?_
 rintro e w6 ⟨hr, hB6⟩
 rw [HAW.out.2.2.1] at hr
 obtain ⟨ev, rfl, lo, hev⟩ := hr
 have hG6 := HG3.out.1.trans hB6
 have hX6 := hXb.trans (HG3.out.2.trans hB6)
 have HT1 := Lh fun W (hE : Ext w6 W) => text13_any _ _ W ((HS1'.out.ext hG6).ext hE)
 have HT2 := Lh fun W (hE : Ext w6 W) => text22_any _ _ W ((HS2.out.ext hG6).ext hE)
 have HCO := Lh fun W (hE : Ext w6 W) => code_any 32 1 lo ev W (hg.ext (hX6.trans hE)) (hev.ext hE)
 have HAT := Lh fun W (hE : Ext w6 W) => at_any 32 1 lo ev W (hg.ext (hX6.trans hE)) (hev.ext hE)
 obtain ⟨eb1, eb2, rfl, _⟩ := hev
 have HX6 := Lh hX6
 clear HP3 HW3 HG3 HS1' HS2 hB6 hG6 hX6 hX5 p0 p1 p2 p3 p4 p5 lp hXb HRR HAW HEA
 go_wp2_with fail
 refine (HT1.out _ (Ext.refl _)).mono ?_
 rintro e w7 ⟨rfl, hB7⟩
 have x1 : (bs [49, 45, 51]).toList = [49, 45, 51] := bs_toList _
 go_wp2_with fail
 refine (HT2.out _ hB7).mono ?_
 rintro e w8 ⟨rfl, hB8⟩
 have x2 : (bs [50]).toList = [50] := bs_toList _
 have hB68 := hB7.trans hB8
 go_wp2_with fail
 refine (HCO.out _ hB68).mono ?_
 rintro e w9 ⟨rfl, hB9⟩
 have hB69 := hB68.trans hB9
 go_wp2_with fail
 refine (HAT.out _ hB69).mono ?_
 rintro e w10 ⟨rfl, hB10⟩
 go_wp2_with fail
 go_ret
 exact ⟨rfl, HX6.out.trans (hB69.trans hB10)⟩
theorem nform_wf {l : List Rule} {nm : Bytes} {ks : List Bytes} {rs : List Rule} (hl : l = ⟨[nm], ks⟩ :: rs) {n : Node} (h : NForm l n) : wfN l n [nm] ∧ n.name = nm ∧ cntN n ≤ 1048576 := by
 obtain ⟨a, nm', ks', rs', hm, hl', hk, hn, hc, he, h1, h2⟩ := h
 have e : nm' = nm := by rw [hl] at hl'; simp at hl'; exact hl'.1.1.symm
 subst e
 obtain ⟨w1, w2⟩ := norm_wf l a [nm'] 0 hk hc
 rw [← he] at w1 w2
 exact ⟨w1, by rw [w2]; exact hn, h2⟩
def mayG : Int → List Span → Prop
 | _, [] => True
 | lo, s :: r => lo ≤ s.a ∧ s.a ≤ s.b ∧ s.b ≤ 200 ∧ mayG (s.b + 2) r
def inS (l : List Span) (v : Int) : Bool := l.any fun s => decide (s.a ≤ v ∧ v ≤ s.b)
theorem mayG_mono : ∀ (l : List Span) (a b : Int), a ≤ b → mayG b l → mayG a l
 | [], _, _, _, _ => trivial
 | s :: r, a, b, h, ⟨h1, h2⟩ => ⟨by omega, h2⟩
theorem runE_all (f : Nat → Bool) : ∀ (k t : Nat), (∀ j, t < j → j ≤ runE f k t → f j = true) ∧ (200 - t ≤ k → runE f k t < 200 → f (runE f k t + 1) = false)
 | 0, t => by refine ⟨fun j h1 h2 => ?_, fun h1 h2 => ?_⟩ <;> simp only [runE] at h2 ⊢ <;> omega
 | k + 1, t => by
  unfold runE
  split
  ·
   rename_i h
   obtain ⟨a, b⟩ := runE_all f k (t + 1)
   refine ⟨fun j h1 h2 => ?_, fun h1 h2 => b (by omega) h2⟩
   by_cases e : j = t + 1
   ·
    rw [e]; exact h.2
   ·
    exact a j (by omega) h2
  ·
   rename_i h
   refine ⟨fun j h1 h2 => by omega, fun h1 h2 => ?_⟩
   cases hf : f (t + 1) with
   | false => rfl
   | true => exact absurd ⟨h2, hf⟩ h
theorem spansV_may (f : Nat → Bool) : ∀ (k v : Nat), 201 - v ≤ k → mayG v (spansV f k v) ∧ ∀ j : Nat, v ≤ j → j ≤ 200 → inS (spansV f k v) j = f j
 | 0, v, h => ⟨trivial, fun j h1 h2 => by omega⟩
 | k + 1, v, h => by
  unfold spansV
  by_cases hv : v ≤ 200
  ·
   rw [if_pos hv]
   by_cases hf : f v = true
   ·
    rw [if_pos hf]
    obtain ⟨g1, g2⟩ := runE_ge f (200 - v) v
    obtain ⟨a1, a2⟩ := runE_all f (200 - v) v
    obtain ⟨E, hE⟩ : ∃ E, runE f (200 - v) v = E := ⟨_, rfl⟩
    rw [hE] at g1 g2 a1 a2 ⊢
    have g3 := g2 hv
    obtain ⟨i1, i2⟩ := spansV_may f k (E + 1) (by omega)
    have hm : mayG ((E : Int) + 2) (spansV f k (E + 1)) := by
     cases hL : spansV f k (E + 1) with
     | nil => trivial
     | cons s r =>
      rw [hL] at i1 i2
      obtain ⟨j1, j2, j3, j4⟩ := i1
      refine ⟨?_, j2, j3, j4⟩
      by_cases e : s.a = ((E + 1 : Nat) : Int)
      ·
       have h1 := i2 (E + 1) (Nat.le_refl _) (by omega)
       rw [a2 (by omega) (by omega)] at h1
       rw [inS, List.any_cons, decide_eq_true (by omega), Bool.true_or] at h1
       cases h1
      ·
       omega
    refine ⟨⟨Int.le_refl _, by simp only; omega, by simp only; omega, hm⟩, fun j h1 h2 => ?_⟩
    rw [inS, List.any_cons]
    by_cases hj : j ≤ E
    ·
     rw [decide_eq_true (by simp only; omega), Bool.true_or]
     by_cases e : j = v
     ·
      rw [e]; exact hf.symm
     ·
      exact (a1 j (by omega) hj).symm
    ·
     rw [decide_eq_false (by simp only; omega), Bool.false_or]
     exact i2 j (by omega) h2
   ·
    rw [if_neg hf]
    obtain ⟨i1, i2⟩ := spansV_may f k (v + 1) (by omega)
    refine ⟨mayG_mono _ _ _ (by omega) i1, fun j h1 h2 => ?_⟩
    by_cases e : j = v
    ·
     subst e
     rw [show f j = false by simpa using hf]
     have hno : ∀ (l : List Span) (lo : Int), mayG lo l → ∀ x : Int, x < lo → inS l x = false := by
      intro l
      induction l with
      | nil => intro lo _ x _; rfl
      | cons s r ih =>
       intro lo hm x hx
       obtain ⟨j1, j2, j3, j4⟩ := hm
       rw [inS, List.any_cons, decide_eq_false (by omega), Bool.false_or]
       exact ih _ j4 x (by omega)
     exact hno _ _ i1 j (by omega)
    ·
     exact i2 j (by omega) h2
  ·
   rw [if_neg hv]
   exact ⟨trivial, fun j h1 h2 => by omega⟩
theorem inS_out : ∀ (l : List Span) (lo : Int), mayG lo l → ∀ x : Int, (x < lo ∨ 200 < x) → inS l x = false
 | [], _, _, _, _ => rfl
 | s :: r, lo, ⟨h1, h2, h3, h4⟩, x, hx => by
  rw [inS, List.any_cons, decide_eq_false (by omega), Bool.false_or]
  exact inS_out r _ h4 x (by omega)
theorem spansOf_may (f : Nat → Bool) : mayG 1 (spansOf f) := (spansV_may f 200 1 (by omega)).1
theorem inS_spansOf (f : Nat → Bool) (j : Nat) (h1 : 1 ≤ j) (h2 : j ≤ 200) : inS (spansOf f) j = f j := (spansV_may f 200 1 (by omega)).2 j h1 h2
theorem inS_of (f : Nat → Bool) (v : Int) : inS (spansOf f) v = (decide (1 ≤ v ∧ v ≤ 200) && f v.toNat) := by
 by_cases h : 1 ≤ v ∧ v ≤ 200
 ·
  have e := inS_spansOf f v.toNat (by omega) (by omega)
  rw [Int.toNat_of_nonneg (by omega)] at e
  rw [e, decide_eq_true h, Bool.true_and]
 ·
  rw [inS_out _ 1 (spansOf_may f) v (by omega), decide_eq_false h, Bool.false_and]
theorem inS_nil (v : Int) : inS [] v = false := rfl
theorem mayG_at : ∀ (l : List Span) (lo : Int), mayG lo l → ∀ (i : Nat) (h : i < l.length), lo ≤ l[i].a ∧ l[i].a ≤ l[i].b ∧ l[i].b ≤ 200
 | [], _, _, i, h => absurd h (Nat.not_lt_zero _)
 | s :: r, lo, ⟨h1, h2, h3, h4⟩, 0, h => ⟨h1, h2, h3⟩
 | s :: r, lo, ⟨h1, h2, h3, h4⟩, i + 1, h => by
  obtain ⟨a, b, c⟩ := mayG_at r _ h4 i (by simpa using h)
  rw [List.getElem_cons_succ]
  exact ⟨by omega, b, c⟩
theorem mayG_gap : ∀ (l : List Span) (lo : Int), mayG lo l → ∀ (i : Nat) (h : i + 1 < l.length), l[i].b + 2 ≤ l[i + 1].a
 | [], _, _, i, h => absurd h (Nat.not_lt_zero _)
 | [s], lo, _, i, h => by simp at h
 | s :: t :: r, lo, ⟨h1, h2, h3, h4⟩, 0, h => h4.1
 | s :: t :: r, lo, ⟨h1, h2, h3, h4⟩, i + 1, h => mayG_gap (t :: r) _ h4 i (by simpa using h)
theorem mayr_any (x : List Span) (hm : mayG 1 x) (p : Nat → Prop) (v : Value) (w : World) (h : Rep w p v (spansD x)) :
  Calls Tryz.prog 80 #[v] w fun e w' => e = .returned (.bool true) ∧ Dr w w' := by
 obtain ⟨a, c, rfl, hc1, hc2⟩ := h.count z_span (by omega)
 go_enter Tryz.func80, Tryz.ntmps80
 go_wp2_with fail
 go_loopw [3] (fun t wr => ∃ i : Nat, t = .int .i64 i ∧ i ≤ x.length ∧ Dr w wr) (fun t _ => downV x.length t)
 case atStart => exact ⟨0, rfl, Nat.zero_le _, Dr.refl _⟩
 case round =>
  obtain ⟨i, rfl, hi, hX⟩ := hrel
  have hi0 : (0 : Int) ≤ (i : Int) := by omega
  by_cases hlt : i < x.length
  ·
   have hlI : (i : Int) < (x.length : Int) := by omega
   obtain ⟨g, o, rfl, lg, _, d0, d1⟩ := span_at (h.ext hX.ext) i hlt
   obtain ⟨m1, m2, m3⟩ := mayG_at x 1 hm i hlt
   have HX := Lh hX
   match i, hlt, hi, hlI, hi0, d0, d1, m1, m2, m3 with
   | 0, hlt, hi, hlI, hi0, d0, d1, m1, m2, m3 =>
    obtain ⟨s, hs⟩ : ∃ s, x[0] = s := ⟨_, rfl⟩
    rw [hs] at d0 d1 m1 m2 m3
    rw [Nat.zero_mul, Nat.add_zero] at d0 d1
    have q1 : decide (s.a < 1) = false := decide_eq_false (by omega)
    have q2 : decide (s.b < s.a) = false := decide_eq_false (by omega)
    have q3 : decide (200 < s.b) = false := decide_eq_false (by omega)
    clear hs hX
    go_wp2_with fail
    go_quiet (fail)
    go_wp2_with fail
    go_roundw
    case rel => exact ⟨1, by go_num, by omega, HX.out.drewN _⟩
    case measure => simp only [downV]; omega
   | j + 1, hlt, hi, hlI, hi0, d0, d1, m1, m2, m3 =>
    obtain ⟨g', o', eg, _, _, e0, e1⟩ := span_at (h.ext hX.ext) j (by omega)
    cases eg
    have m4 := mayG_gap x 1 hm j hlt
    obtain ⟨_, m5, m6⟩ := mayG_at x 1 hm j (by omega)
    obtain ⟨s, hs⟩ : ∃ s, x[j + 1] = s := ⟨_, rfl⟩
    obtain ⟨t, ht⟩ : ∃ t, x[j] = t := ⟨_, rfl⟩
    rw [hs] at d0 d1 m1 m2 m3 m4
    rw [ht] at e0 e1 m4 m5 m6
    have q1 : decide (s.a < 1) = false := decide_eq_false (by omega)
    have q2 : decide (s.b < s.a) = false := decide_eq_false (by omega)
    have q3 : decide (200 < s.b) = false := decide_eq_false (by omega)
    have q4 : (0 : Int) < ((j + 1 : Nat) : Int) := by omega
    have q5 : IntKind.i64.wrap (((j + 1 : Nat) : Int) - 1) = (j : Int) := by rw [show (((j + 1 : Nat) : Int) - 1) = (j : Int) by omega]; exact IntWalk.i64_in _ (by omega)
    obtain ⟨m0, _, _⟩ := mayG_at x 1 hm j (by omega)
    rw [ht] at m0
    have q6 : IntKind.i64.wrap (t.b + 2) = t.b + 2 := IntWalk.i64_in _ (by omega)
    have q7 : decide (s.a < t.b + 2) = false := decide_eq_false (by omega)
    have j0 : (0 : Int) ≤ (j : Int) := by omega
    have jl : (j : Int) < (x.length : Int) := by omega
    clear hs ht hX
    go_wp2_with fail
    go_quiet (fail)
    go_wp2_with fail
    go_roundw
    case rel => exact ⟨j + 1 + 1, by go_num, by omega, HX.out.drewN _⟩
    case measure => simp only [downV]; omega
  ·
   have hlI : ¬ (i : Int) < (x.length : Int) := by omega
   go_wp2_with fail
   go_ret
   exact ⟨rfl, hX⟩
theorem flV_size (F : List Bool) (h : F.length = 201) : (Tryz.prog.info? 103).map (·.size) = some (flV F).size := by
 have e : (flV F).size = 201 := by unfold flV; simp [h]
 rw [e]; exact size103
theorem flV_one (F : List Bool) : (flV F).all (·.oneCell') = true := by
 rw [Array.all_eq_true_iff_forall_mem]
 intro v hv
 unfold flV at hv
 obtain ⟨b, _, rfl⟩ := List.mem_map.1 (List.mem_toArray.1 hv)
 rfl
theorem Ext.setRow {a w : World} (h : Ext a w) {g : Nat} (hg : a.heap.size ≤ g) (cs : Array Value) : Ext a (w.setRow g cs) :=
 ⟨h.os, h.tape, h.output, by rw [setRow_size]; exact h.size, fun k hk => by rw [setRow_other _ _ _ _ (by omega)]; exact h.block k hk⟩
theorem load_flags (w : World) (g : Nat) (F : List Bool) (t : TypeId) (hg : w.heap[g]? = some (.cells (flV F) t (0, 0))) (hF : F.length = 201) : (loadVar 103 ⟨g, 0, none⟩).run Tryz.prog w = .ok (.agg (flV F)) w :=
 run_loadVar_row w g _ _ (flV F) (0, 0) _ hg Tryz.underlying103 rfl (flV_size F hF)
theorem inS_take (x : List Span) (i : Nat) (h : i < x.length) (j : Int) : inS (x.take (i + 1)) j = (inS (x.take i) j || decide (x[i].a ≤ j ∧ j ≤ x[i].b)) := by
 unfold inS
 rw [List.take_add_one, List.getElem?_eq_getElem h, List.any_append]
 simp
def Fl (w : World) (g : Nat) (f : Nat → Bool) : Prop := ∃ F : List Bool, F.length = 201 ∧ w.heap[g]? = some (.cells (flV F) 103 (0, 0)) ∧ ∀ j, F.getD j false = f j
theorem Fl.ext {w W : World} {g : Nat} {f : Nat → Bool} (h : Fl w g f) (hB : Ext w W) : Fl W g f := by
 obtain ⟨F, h1, h2, h3⟩ := h
 exact ⟨F, h1, (Below.block hB g (blk_lt h2)).trans h2, h3⟩
theorem Fl.cell {w : World} {g : Nat} {f : Nat → Bool} (h : Fl w g f) (k : Nat) (hk : k < 201) : w.cell? ⟨g, k, none⟩ = some (.bool (f k)) ∧ w.frozen? ⟨g, k, none⟩ = false ∧ g < w.heap.size := by
 obtain ⟨F, h1, h2, h3⟩ := h
 exact ⟨by rw [← h3]; exact blk_cell h2 (flV_at F k (by omega)), blk_free h2, blk_lt h2⟩
theorem Fl.set {w : World} {g : Nat} {f f' : Nat → Bool} (h : Fl w g f) (k : Nat) (b : Bool) (hk : k < 201) (hf : ∀ j, f' j = if j = k then b else f j) : Fl (w.setCell ⟨g, k, none⟩ (.bool b)) g f' := by
 obtain ⟨F, h1, h2, h3⟩ := h
 refine ⟨F.set k b, by rw [List.length_set]; exact h1, by rw [blk_set h2, flV_set], fun j => ?_⟩
 rw [hf, ← h3, List.getD_eq_getElem?_getD, List.getD_eq_getElem?_getD, List.getElem?_set]
 by_cases hj : j = k
 ·
  subst hj; rw [if_pos rfl, if_pos (by omega), if_pos rfl]; rfl
 ·
  rw [if_neg (fun e => hj e.symm), if_neg hj]
theorem Fl.set_ne {w : World} {g b : Nat} {f : Nat → Bool} (h : Fl w g f) (hb : g ≠ b) (k : Nat) (u : Value) : Fl (w.setCell ⟨b, k, none⟩ u) g f := by
 obtain ⟨F, h1, h2, h3⟩ := h
 exact ⟨F, h1, by rw [Below.heap_setCell _ _ _ _ (by simpa using hb)]; exact h2, h3⟩
def RetF2 (f : Nat → Bool) (b : Bool) (e : Ending) : Prop := ∃ F : List Bool, F.length = 201 ∧ (∀ j, F.getD j false = f j) ∧ e = .returned (.tuple #[.agg (flV F), .bool b])
theorem flags_any (x : List Span) (hm : mayG 1 x) (p : Nat → Prop) (v : Value) (w : World) (hx : x.length ≤ 1048576) (h : Rep w p v (spansD x)) :
  Calls Tryz.prog 44 #[v] w fun e w' => RetF2 (fun j => inS x j) true e ∧ Ext w w' := by
 obtain ⟨a, c, rfl, hc1, hc2⟩ := h.count z_span (by omega)
 go_enter Tryz.func44, Tryz.ntmps44
 go_wp2_with fail
 obtain ⟨w1, hw1⟩ : ∃ w1, ((w.alloc (.cells Tryz.zeroCells103 103)).alloc (.cells Tryz.zeroCells103 103)) = w1 := ⟨_, rfl⟩
 have hE1 : Ext w w1 := by rw [← hw1]; exact ((Ext.refl w).alloc _).alloc _
 have hA : Fl w1 w.heap.size (fun _ => false) := by
  refine ⟨_, List.length_replicate .., ?_, fun j => by rw [fl_none]; simp [flOf]⟩
  rw [← hw1, zero103]
  rw [Below.heap_alloc _ _ _ (by simp)]; exact Array.getElem?_push_size
 obtain ⟨g, hg⟩ : ∃ g, w.heap.size + 1 = g := ⟨_, rfl⟩
 have hB : Fl w1 g (fun j => inS (x.take 0) j) := by
  refine ⟨_, List.length_replicate .., ?_, fun j => by rw [fl_none]; simp [flOf, inS]⟩
  rw [← hw1, zero103, ← hg]
  have := Array.getElem?_push_size (xs := (w.alloc (.cells (flV (List.replicate 201 false)) 103)).heap) (x := (.cells (flV (List.replicate 201 false)) 103 (0, 0) : Obj))
  rw [show (w.alloc (.cells (flV (List.replicate 201 false)) 103)).heap.size = w.heap.size + 1 by simp] at this
  exact this
 have HG := Lh hg
 have HMM := Lh (mayr_any x hm p _ w1 (h.ext hE1))
 have HAB := Lh (And.intro hA hB)
 rw [hw1, hg]
 clear hw1 hA hB hg
 go_wp2_with fail
 refine HMM.out.mono ?_
 rintro e w2 ⟨rfl, hD2⟩
 have hB2 := hD2.ext
 clear hD2 HMM
 go_wp2_with fail
 go_loopw [5, 6] (fun t _ wr => ∃ i : Nat, t = .int .i64 i ∧ i ≤ x.length ∧ Hid (Fl wr w.heap.size (fun _ => false) ∧ Fl wr g (fun j => inS (x.take i) j)) ∧ Ext w wr) (fun t _ _ => downV x.length t)
 case atStart => exact ⟨0, rfl, Nat.zero_le _, Lh ⟨HAB.out.1.ext hB2, HAB.out.2.ext hB2⟩, hE1.trans hB2⟩
 case round =>
  obtain ⟨i, rfl, hi, HF, hX⟩ := hrel
  have hi0 : (0 : Int) ≤ (i : Int) := by omega
  by_cases hlt : i < x.length
  ·
   have hlI : (i : Int) < (x.length : Int) := by omega
   obtain ⟨b, o, rfl, lb, _, d0, d1⟩ := span_at h i hlt
   obtain ⟨m1, m2, m3⟩ := mayG_at x 1 hm i hlt
   have HT := Lh (inS_take x i hlt)
   obtain ⟨s, hs⟩ : ∃ s, x[i] = s := ⟨_, rfl⟩
   rw [hs] at d0 d1 m1 m2 m3 HT
   have e0 := hX.keep lb d0
   obtain ⟨wo, hwo⟩ : ∃ wo, wo = wr := ⟨_, rfl⟩
   subst hwo
   clear hs HAB
   go_wp2_with fail
   go_loopw [6] (fun t wq => ∃ k : Nat, t = .int .i64 k ∧ s.a ≤ k ∧ k ≤ s.b + 1 ∧ Hid (Fl wq w.heap.size (fun _ => false) ∧ Fl wq g (fun j => inS (x.take i) j || decide (s.a ≤ j ∧ (j : Int) < k))) ∧ Ext w wq) (fun t _ => downV 201 t)
   case atStart =>
    refine ⟨s.a.toNat, by rw [Int.toNat_of_nonneg (by omega)], by omega, by omega, Lh ⟨HF.out.1, ?_⟩, hX⟩
    obtain ⟨F, h1, h2, h3⟩ := HF.out.2
    exact ⟨F, h1, h2, fun j => by rw [h3]; dsimp only; rw [decide_eq_false (by omega), Bool.or_false]⟩
   case round =>
    obtain ⟨k, rfl, hk1, hk2, HK, hXq⟩ := hrel
    have e1 := hXq.keep lb d1
    have k0 : (0 : Int) ≤ (k : Int) := by omega
    by_cases hk : (k : Int) ≤ s.b
    ·
     have k201 : (k : Int) < 201 := by omega
     obtain ⟨c1, c2, c3⟩ := HK.out.2.cell k (by omega)
     have hne := HG.out
     have HN : Hid (Fl (wr.setCell ⟨g, k, none⟩ (.bool true)) w.heap.size (fun _ => false) ∧ Fl (wr.setCell ⟨g, k, none⟩ (.bool true)) g (fun j => inS (x.take i) j || decide (s.a ≤ j ∧ (j : Int) < ((k + 1 : Nat) : Int)))) := Lh ⟨HK.out.1.set_ne (by omega) _ _, HK.out.2.set k true (by omega) fun j => by
      by_cases e : j = k
      ·
       subst e; rw [if_pos rfl, decide_eq_true (by omega), Bool.or_true]
      ·
       rw [if_neg e]
       congr 1
       exact decide_eq_decide.2 (by omega)⟩
     have hXn : Ext w (wr.setCell ⟨g, k, none⟩ (.bool true)) := hXq.set (p := ⟨g, k, none⟩) (by simp only; omega) _
     clear HK hne
     go_wp2_with fail
     go_roundw
     case rel => exact ⟨k + 1, by go_num, by omega, by omega, HN, hXn⟩
     case measure => simp only [downV]; omega
    ·
     have HN : Hid (Fl wr w.heap.size (fun _ => false) ∧ Fl wr g (fun j => inS (x.take (i + 1)) j)) := Lh ⟨HK.out.1, by
      obtain ⟨F, h1, h2, h3⟩ := HK.out.2
      exact ⟨F, h1, h2, fun j => by
       rw [h3]
       dsimp only
       rw [HT.out]
       congr 1
       exact decide_eq_decide.2 (by omega)⟩⟩
     clear HK HF HT
     go_wp2_with fail
     go_roundw
     case rel => exact ⟨i + 1, by go_num, by omega, HN, hXq⟩
     case measure => simp only [downV]; omega
  ·
   have hlI : ¬ (i : Int) < (x.length : Int) := by omega
   obtain ⟨F, h1, h2, h3⟩ := HF.out.2
   obtain ⟨F0, y1, y2, y3⟩ := HF.out.1
   have hFx : ∀ j, F.getD j false = inS x j := fun j => by rw [h3, List.take_of_length_le (by omega)]
   have hne := HG.out
   have hY2 := setRow_heap wr w.heap.size (flV F0) (flV F) _ _ y2
   have hR := load_flags _ _ F _ hY2 h1
   have HZ := Lh (And.intro h1 (And.intro hFx (And.intro hR (hX.setRow (Nat.le_refl _) (flV F)))))
   have HS := Lh (flV_size F h1)
   have HO := Lh (flV_one F)
   have HL : Hid ((flV F0).size = (flV F).size) := Lh (by unfold flV; simp [h1, y1])
   have H2 := Lh h2
   have HY := Lh y2
   clear h1 h2 h3 y1 y2 y3 HF hFx hR hY2 hX hne
   go_wp2_with (first
    | refine wpList_load_row rfl 103 (.tmp 4) rfl g rfl 103 (flV F) (0, 0) _ H2.out Tryz.underlying103 rfl HS.out ?_
    | refine wpList_store_row rfl 103 (.tmp 2) (.tmp 33) rfl w.heap.size (flV F) rfl rfl 103 (flV F0) HY.out HS.out HL.out HO.out ?_)
   refine bodyPost_ret (res_node rfl _ _ _ ⟨w.heap.size, 0, none⟩ ?_ HZ.out.2.2.1) rfl ?_
   ·
    rfl
   exact ⟨⟨F, HZ.out.1, HZ.out.2.1, rfl⟩, HZ.out.2.2.2⟩
theorem blk_cells {w : World} {g : Nat} {xs : List Value} {e : TypeId} (h : w.heap[g]? = some (.cells xs.toArray e (0, 0))) (k : Nat) {u : Value} (hk : xs[k]? = some u) : w.cell? ⟨g, k, none⟩ = some u := blk_cell h (by simpa using hk)
theorem mayI_of : ∀ (l : List Span) (lo ahead : Int), mayG lo l → 1 ≤ lo → (ahead < 0 ∨ ahead + 2 ≤ lo) → mayI l ahead = true
 | [], _, _, _, _, _ => rfl
 | s :: r, lo, ahead, ⟨h1, h2, h3, h4⟩, h, ha => by
  have v1 : verB s.a = true := decide_eq_true (by omega)
  have v2 : verB s.b = true := decide_eq_true (by omega)
  rw [mayI, if_pos v1, if_pos v2, if_neg (by omega), if_neg (by omega)]
  exact mayI_of r _ _ h4 (by omega) (.inr (Int.le_refl _))
end Go.Proofs.YtkelpbbekeelcaaGreatDoor
