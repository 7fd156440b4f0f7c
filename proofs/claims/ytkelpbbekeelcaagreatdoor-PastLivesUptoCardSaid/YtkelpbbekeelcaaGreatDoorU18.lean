/-
 recensionref16.below and Paths. Helper lemmas; no statement of the seat is proved here.
-/
import Derived.Test.YtkelpbbekeelcaaGreatDoorU8
import Derived.Test.YtkelpbbekeelcaaGreatDoorU12
import Derived.Test.YtkelpbbekeelcaaGreatDoorU3
import Derived.Test.YtkelpbbekeelcaaGreatDoorU4
import Derived.Test.YtkelpbbekeelcaaGreatDoorU17
namespace Go.Proofs.YtkelpbbekeelcaaGreatDoor
open Go.RowKit
set_option maxRecDepth 100000
set_option linter.unusedVariables false
set_option linter.unusedSimpArgs false

/-- Paths, one behind another. -/
def pathsD (l : List (List Step)) : DV := .s 1 (l.flatMap fun x => [stepsD x])
theorem z_steps (x : List Step) : ([stepsD x] : List DV).length = 1 := rfl
mutual
/-- The keyed paths of an element. -/
def belowN (l : List Rule) : Node → List Bytes → List Step → List (List Step)
 | .mk k nm t la ks, above, path => path :: belowL l ks (stepsS l (above ++ [nm]) ks) (above ++ [nm]) path
def belowL (l : List Rule) : List Node → List Step → List Bytes → List Step → List (List Step)
 | n :: r, s :: ss, names, path => belowN l n names (path ++ [s]) ++ belowL l r ss names path
 | _, _, _, _ => []
end
mutual
theorem belowN_len (l : List Rule) : ∀ (n : Node) (above : List Bytes) (path : List Step), (belowN l n above path).length ≤ cntN n
 | .mk k nm t la ks, above, path => by rw [belowN, cntN, List.length_cons]; have := belowL_len l ks (stepsS l (above ++ [nm]) ks) (above ++ [nm]) path; omega
theorem belowL_len (l : List Rule) : ∀ (ks : List Node) (ss : List Step) (names : List Bytes) (path : List Step), (belowL l ks ss names path).length ≤ cntL ks
 | n :: r, s :: ss, names, path => by
  rw [belowL, cntL, List.length_append]
  have h1 := belowN_len l n names (path ++ [s])
  have h2 := belowL_len l r ss names path
  omega
 | [], _, _, _ => by simp [belowL]
 | _ :: _, [], _, _ => by simp [belowL]
end
theorem Rep.snoc {α : Type} {f : α → List DV} {z : Nat} {w W : World} {p : Nat → Prop} {e : TypeId} {v : Value} {us xs : List Value} {L : List α} {x : α}
  (hreps : Reps w p us (L.flatMap f)) (hx : Reps w p xs (f x)) (hS : Ext w W) (hrow : W.ownsRow w.heap.size e z v (L.length + 1) (us ++ xs)) : Rep W (fun b => p b ∨ w.heap.size ≤ b) v (.s z ((L ++ [x]).flatMap f)) := by
 have hall : Reps w p (us ++ xs) ((L ++ [x]).flatMap f) := by
  rw [List.flatMap_append, List.flatMap_cons, List.flatMap_nil, List.append_nil]
  exact hreps.append hx
 refine Own.rep (p := p) (base := w.heap.size) (e := e) (n := L.length + 1) ⟨_, hrow, (hall.lt.ext hS).ok fun b hb => ⟨hb.1, ?_, Nat.lt_of_lt_of_le hb.2 hS.size⟩⟩
 intro e1
 rcases hrow.2 with ⟨_, hn⟩ | ⟨g, cap, cur, rfl, hg, _⟩
 ·
  omega
 ·
  have : b = g := Option.some.inj e1
  omega
theorem infoSteps : (Tryz.prog.info? 24).map (fun i => (i.zero, i.size, i.bytes)) = some (some (.slice none 0 0), 1, 24) := by kernel_rfl
theorem unSss : Tryz.prog.underlying 97 = some (.slice (Tryz.prog.elem 97)) := by kernel_rfl
theorem szSss : ∀ W, (sizeOf (Tryz.prog.elem 97)).run Tryz.prog W = .ok 1 W := fun W => by rw [show Tryz.prog.elem 97 = 24 by kernel_rfl]; go_simp
theorem one_steps (x : List Step) : ∀ e ∈ ([stepsD x] : List DV), e.one = true := by intro e he; simp at he; subst he; rfl
/-- Blocks that a row of the call's own does not lie in. -/
def Ap (p : Nat → Prop) (w : World) (dv : Value) (b : Nat) : Prop := (p b ∧ b < w.heap.size ∨ w.heap.size ≤ b) ∧ some b ≠ dv.ownBlock
theorem ap_next {p : Nat → Prop} {w w1 w2 w3 : World} {dv v' v : Value} {d : DV} (h : Rep w1 (Ap p w dv) v d) (hE : Ext w1 w2) (hg : w2.grownBy w3 dv.ownBlock) (ha : v'.ownBlock = dv.ownBlock ∨ v'.ownBlock = some w2.heap.size) : Rep w3 (Ap p w v') v d := by
 refine (((h.lt.ext hE).kept fun b hb hlt => hg.block b hlt hb.1.2)).ok fun b hb => ⟨hb.1.1, ?_⟩
 rcases ha with e | e
 ·
  rw [e]; exact hb.1.2
 ·
  rw [e]; intro e2; have := Option.some.inj e2; have := hE.size; have := hb.2; omega
theorem reps_strs {w W : World} {p q : Nat → Prop} {us : List Value} {l : List Bytes} (h : Reps w p us (l.flatMap fun x => [strD x])) : Reps W q us (l.flatMap fun x => [strD x]) := by
 refine ⟨h.1, fun k u e hu he => ?_⟩
 have h1 := h.2 k u e hu he
 obtain ⟨x, _, hx⟩ := List.mem_flatMap.1 (List.mem_of_getElem? he)
 obtain rfl := List.mem_singleton.1 hx
 unfold strD at h1 ⊢
 cases h1 with
 | leaf _ hs => exact .leaf _ hs
theorem own_one {w : World} {base g z : Nat} {e : TypeId} {xs : List Value} (hb : base ≤ g) (hl : xs.length = z) (h : w.heap[g]? = some (.cells xs.toArray e (0, 0))) : w.ownsRow base e z (.slice (some ⟨g, 0, none⟩) 1 1) 1 xs :=
 ⟨by simp [hl], .inr ⟨g, 1, xs.toArray, rfl, hb, h, Nat.le_refl _, by decide, by simp [hl], by simp [← hl]⟩⟩
theorem blk_cells {w : World} {g : Nat} {xs : List Value} {e : TypeId} (h : w.heap[g]? = some (.cells xs.toArray e (0, 0))) (k : Nat) {u : Value} (hk : xs[k]? = some u) : w.cell? ⟨g, k, none⟩ = some u := blk_cell h (by simpa using hk)
set_option maxHeartbeats 32000000 in
theorem below_any (l : List Rule) (hok : RulesOk l) : ∀ (N : Nat) (a : Node) (above : List Bytes) (path : List Step) (p : Nat → Prop) (vl va vk vb vp : Value) (w : World), nsz a ≤ N → cntN a ≤ 1048576 → above.length + nsz a ≤ 1048576 → path.length + nsz a ≤ 1048577 → a.name.length ≤ 9223372036854775807 →
  Rep w p vl (rulesD l) → Rep w p va (attrsD a.attrs) → Rep w p vk (nodesD a.kids) → Rep w p vb (strsD above) → Rep w p vp (stepsD path) →
  Calls Tryz.prog 78 #[vl, .agg #[.int .i64 a.kind, .string (bs a.name), .string (bs a.text), va, vk], vb, vp] w fun e w' => Ret (fun b => p b ∧ b < w.heap.size ∨ w.heap.size ≤ b) (pathsD (belowN l a above path)) e w' ∧ Ext w w' := by
 intro N
 induction N with
 | zero => intro a above path p vl va vk vb vp w hN; cases a; rw [nsz] at hN; omega
 | succ N ih =>
  intro a above path p vl va vk vb vp w hN hcnt hab hpl hnm hvl hva hvk hvb hvp
  have hbl := belowN_len l a above path
  have hns := nsz_pos a
  obtain ⟨la, lc, rfl, _, _⟩ := hvl.count z_rule (by omega)
  obtain ⟨aa, ac, rfl, _, _⟩ := hva.count z_attr (by omega)
  obtain ⟨ka, kc, rfl, _, _⟩ := hvk.count z_node (by omega)
  obtain ⟨ab, abc, rfl, _, _⟩ := hvb.count z_str (by omega)
  obtain ⟨pa, pc, rfl, _, _⟩ := hvp.count z_step (by omega)
  obtain ⟨i0, hi, hz0, hz1, hz2⟩ := info_parts infoStr
  obtain ⟨j0, ji, jz0, jz1, jz2⟩ := info_parts infoStep
  obtain ⟨m0, mi, mz0, mz1, mz2⟩ := info_parts infoSteps
  obtain ⟨us, hus, hul, _, _, hsrc0⟩ := rep_src hvb unStr szStr
  have h1u := hus.one (flat_one one_str above)
  obtain ⟨R, hR⟩ : ∃ R, belowN l a above path = R := ⟨_, rfl⟩
  rw [hR] at hbl ⊢
  have HRL : Hid (R.length ≤ 1048576) := Lib.hid (by omega)
  have HPN := Lib.hid (strs_len hvb)
  go_enter Tryz.func78, Tryz.ntmps78
  go_wp2_with fail
  obtain ⟨w1, hw1⟩ : ∃ w1, ((w.alloc (.cells #[.int .i64 a.kind, .string (bs a.name), .string (bs a.text), .slice aa a.attrs.length ac, .slice ka a.kids.length kc] 60)).alloc (.cells #[.slice pa path.length pc] 24)) = w1 := ⟨_, rfl⟩
  have hE1 : Ext w w1 := by rw [← hw1]; exact ((Ext.refl w).alloc _).alloc _
  have hb5 : w1.heap[w.heap.size]? = some (.cells [.int .i64 a.kind, .string (bs a.name), .string (bs a.text), .slice aa a.attrs.length ac, .slice ka a.kids.length kc].toArray 60 (0, 0)) := by
   rw [← hw1, Below.heap_alloc _ _ _ (by simp)]; exact Array.getElem?_push_size
  have hbo : w1.heap[w.heap.size + 1]? = some (.cells [.slice pa path.length pc].toArray 24 (0, 0)) := by
   rw [← hw1]
   have := Array.getElem?_push_size (xs := (w.alloc (.cells #[.int .i64 a.kind, .string (bs a.name), .string (bs a.text), .slice aa a.attrs.length ac, .slice ka a.kids.length kc] 60)).heap) (x := (.cells [.slice pa path.length pc].toArray 24 (0, 0) : Obj))
   rw [show (w.alloc (.cells #[.int .i64 a.kind, .string (bs a.name), .string (bs a.text), .slice aa a.attrs.length ac, .slice ka a.kids.length kc] 60)).heap.size = w.heap.size + 1 by simp] at this
   exact this
  obtain ⟨g5, hg5⟩ : ∃ g, w.heap.size = g := ⟨_, rfl⟩
  obtain ⟨go, hgo⟩ : ∃ g, g5 + 1 = g := ⟨_, rfl⟩
  simp only [hg5] at hb5 hbo ⊢
  simp only [hgo] at hbo ⊢
  have HG := Lib.hid (And.intro hg5 hgo)
  have b1 := blk_cells hb5 1 rfl
  have lg5 := blk_lt hb5
  have hsrc := hsrc0.ext hE1
  rw [hw1]
  have hab2 : above.length ≤ 16777216 := by omega
  obtain ⟨nm, hnme⟩ : ∃ n, a.name = n := ⟨_, rfl⟩
  rw [hnme] at b1
  clear hw1 hg5 hgo hsrc0
  refine rg_begin (S := Sx w1) (by kernel_rfl) (Sx.begin _) ?_
  have hSn : Sx w1 (World.drew w1) := (Sx.begin _)
  refine rg_t 1 (some 16) (.slice ab above.length abc) rfl hSn (fun w' hs => by rfl) ?_
  simp only [Act.put, sA, sZ, sS]
  refine rg_t 3 (some 18) (.pointer (some ⟨g5, 1, none⟩)) rfl hSn (fun w' hs => by first | rfl | go_simp) ?_
  simp only [Act.put, sA, sZ, sS]
  refine rg_t 4 (some 19) (.string (bs nm)) rfl hSn (fun w' hs => by (have h0 := hs.cell lg5 b1; go_simp)) ?_
  simp only [Act.put, sA, sZ, sS]
  refine rg_row 0 5 2 6 15 20 17 21 16 19 29 9 i0 (.string ⟨#[]⟩) 1 16 rfl rfl rfl rfl Tryz.underlying29 hi hz0 hz1 hz2 rfl (by decide) (.string (bs nm)) (.slice ab above.length abc) [.string (bs nm)] (us) (above.length) rfl rfl (hsrc.ext hSn) h1u (by intro u hu; simp at hu; rcases hu with rfl; rfl) rfl (by omega) (by decide) (fun w' h => hSn.ext h) (fun ev W => by first | rfl | go_simp) (fun ev W hK hX => by first | rfl | go_simp) ?_
  intro gan gbn v2n v3n wxn hEn hrn hSn
  simp only [Act.put, sA, sZ, sS]
  refine rg_t 7 (some 10) (v3n) rfl hSn (fun w' hs => by rfl) ?_
  simp only [Act.put, sA, sZ, sS]
  refine rg_done (by kernel_rfl) ?_
  have hN0 : Rep wxn (fun b => False ∨ w1.heap.size ≤ b) v3n (strsD (above ++ [nm])) := Rep.snoc (reps_strs hus) (Reps.cons (Rep.string _ _ _ (by rw [bs_size, ← hnme]; exact hnm)) (Reps.nil _ _)) (show Ext w1 wxn from hSn) hrn
  have hE2 : Ext w wxn := hE1.trans (show Ext w1 wxn from hSn)
  have HST := Lib.hid (steps_any l (above ++ [nm]) a (fun _ => True) _ v3n _ _ wxn hcnt hok (by rw [List.length_append]; simp; omega) (by simp) ((hvl.ext hE2).ok fun _ _ => trivial) (hN0.ok fun _ _ => trivial) ((hva.ext hE2).ok fun _ _ => trivial) ((hvk.ext hE2).ok fun _ _ => trivial))
  have n5 := (Below.block (show Ext w1 wxn from hSn) g5 lg5).trans hb5
  have no := (Below.block (show Ext w1 wxn from hSn) go (blk_lt hbo)).trans hbo
  have c0 := blk_cells n5 0 rfl; have c1 := blk_cells n5 1 rfl; have c2 := blk_cells n5 2 rfl; have c3 := blk_cells n5 3 rfl; have c4 := blk_cells n5 4 rfl
  have HN0 := Lib.hid (And.intro hN0 (And.intro n5 (And.intro no (And.intro hE2 (show Ext w1 wxn from hSn).size))))
  have hl1 := blk_lt hbo
  clear hus hul h1u hN0 hE2 hSn hrn hEn b1 hsrc hE1 hb5 hbo n5 no lg5
  rw [hnme] at c1 hnm
  go_wp2_with fail
  rw [hnme] at HST
  refine HST.out.mono ?_
  rintro e w3 ⟨⟨vs, rfl, hvs⟩, hB3⟩
  have hsl := stepsS_len l (above ++ [nm]) a.kids
  have hkl := cntL_len a.kids
  have hck := cnt_kids a
  obtain ⟨ss, hss⟩ : ∃ s, stepsS l (above ++ [nm]) a.kids = s := ⟨_, rfl⟩
  have hRd : path :: belowL l a.kids ss (above ++ [nm]) path = R := by
   rw [← hR, ← hss]; cases a with | mk k n t la ks => simp only [Node.name] at hnme; rw [belowN, hnme]; rfl
  rw [hss] at hvs hsl
  obtain ⟨sa, sc, rfl, _, _⟩ := hvs.count z_step (by omega)
  have hgs := HG.out
  have HREL : Hid (Own w3 (fun b => p b ∧ b < w.heap.size ∨ w.heap.size ≤ b) w.heap.size 24 1 (.slice (some ⟨go, 0, none⟩) 1 1) [path].length ([path].flatMap fun x => [stepsD x]) ∧ Ext w w3 ∧ [path] ++ belowL l (a.kids.drop 0) (ss.drop 0) (above ++ [nm]) path = R ∧ Rep w3 (Ap p w (.slice (some ⟨go, 0, none⟩) 1 1)) v3n (strsD (above ++ [nm])) ∧ Rep w3 (Ap p w (.slice (some ⟨go, 0, none⟩) 1 1)) (.slice sa ss.length sc) (stepsD ss) ∧ w3.heap[g5]? = some (.cells [.int .i64 a.kind, .string (bs a.name), .string (bs a.text), .slice aa a.attrs.length ac, .slice ka a.kids.length kc].toArray 60 (0, 0)) ∧ some g5 ≠ (.slice (some ⟨go, 0, none⟩) 1 1 : Value).ownBlock) := by
   obtain ⟨h1, h2, h3, h4, h5⟩ := HN0.out
   have hgo : go < w1.heap.size := hl1
   refine Lib.hid ⟨⟨[.slice pa path.length pc], own_one (by omega) rfl ((Below.block hB3 go (blk_lt h3)).trans h3), Reps.cons ((hvp.lt.ext (h4.trans hB3)).ok fun b hb => ⟨.inl hb, fun e => by have e2 := Option.some.inj e; simp only at e2; have := hb.2; omega, Nat.lt_of_lt_of_le hb.2 (h4.trans hB3).size⟩) (Reps.nil _ _)⟩, h4.trans hB3, hRd, (h1.ext hB3).ok fun b hb => ⟨.inr (by rcases hb with hb | hb; exact hb.elim; omega), fun e => by have e2 := Option.some.inj e; simp only at e2; rcases hb with hb | hb; exact hb.elim; omega⟩, hvs.ok fun b hb => ⟨.inr (by omega), fun e => by have e2 := Option.some.inj e; simp only at e2; omega⟩, (Below.block hB3 g5 (blk_lt h2)).trans h2, fun e => by have e2 := Option.some.inj e; simp only at e2; omega⟩
  have hsb : ss.length ≤ a.kids.length := hsl
  have hpl2 : path.length ≤ 16777216 := by omega
  obtain ⟨ps, hps0, hpsl, _, _, hps⟩ := rep_src hvp unStep szStep
  have hp1 := hps0.one (flat_one one_step path)
  have hkb : a.kids.length ≤ 1048576 := by omega
  have HSZ := Lib.hid (And.intro hN (And.intro hcnt (And.intro hab hpl)))
  have HIH := Lib.hid ih
  have HKN := Lib.hid (node_len hvk)
  have hkid := Lib.hid (kid_lt a)
  obtain ⟨kids, hkids⟩ : ∃ k, a.kids = k := ⟨_, rfl⟩
  have HKS := Lib.hid hkids
  clear HN0 hRd hvs hsl hkl hck hR hbl hB3 hss HST c0 c1 c2 c3 c4 hgs hl1 ih hcnt hab hpl hN hns
  simp only [hkids] at hvk HREL hsb hkb ⊢
  clear hkids
  go_wp2_with fail
  go_loopw [9, 12] (fun o t wr => ∃ (i : Nat) (L : List (List Step)) (dv : Value), t = .int .i64 i ∧ dv = o ∧ i ≤ ss.length ∧ Hid (Own wr (fun b => p b ∧ b < w.heap.size ∨ w.heap.size ≤ b) w.heap.size 24 1 dv L.length (L.flatMap fun x => [stepsD x]) ∧ Ext w wr ∧ L ++ belowL l (kids.drop i) (ss.drop i) (above ++ [nm]) path = R ∧ Rep wr (Ap p w dv) v3n (strsD (above ++ [nm])) ∧ Rep wr (Ap p w dv) (.slice sa ss.length sc) (stepsD ss) ∧ wr.heap[g5]? = some (.cells [.int .i64 a.kind, .string (bs a.name), .string (bs a.text), .slice aa a.attrs.length ac, .slice ka kids.length kc].toArray 60 (0, 0)) ∧ some g5 ≠ dv.ownBlock)) (fun _ t _ => downV ss.length t)
  case atStart => exact ⟨0, [path], _, rfl, rfl, Nat.zero_le _, HREL⟩
  case round =>
   clear HREL
   obtain ⟨i, L, dv, rfl, rfl, hi2, HR⟩ := hrel
   have hi0 : (0 : Int) ≤ (i : Int) := by omega
   by_cases hlt : i < ss.length
   ·
    have hlI : (i : Int) < (ss.length : Int) := by omega
    have hkI : (i : Int) < (kids.length : Int) := by omega
    obtain ⟨hown, hX, hRq, hN, hSS, hB5, hne5⟩ := HR.out
    obtain ⟨gs, os, sk, esa, lgs', hgsp, s0, s1, hsk⟩ := step_at hSS i hlt
    cases esa
    have hsn := step_len hSS i hlt
    obtain ⟨gk, ok, za, zk, eka, lgk', hgkp, k0o, k1o, k2o, k3o, k4o, hza, hzk⟩ := node_at hvk.lt i (by omega)
    cases eka
    have hzn := (HKN.out i (by have := HKS.out; subst this; omega))
    obtain ⟨us, hrow, hreps⟩ := hown.rows
    have hob : ∀ b, some b = dv.ownBlock → w.heap.size ≤ b ∧ b < wr.heap.size := fun b e => own_lt hrow e
    have hlow : ∀ b, b < w.heap.size → some b ≠ dv.ownBlock := fun b hb e => by have := (hob b e).1; omega
    have hAp : ∀ b, p b ∧ b < w.heap.size → Ap p w dv b := fun b hb => ⟨.inl hb, hlow b hb.2⟩
    have k0 := hX.keep lgk' k0o; have k1 := hX.keep lgk' k1o; have k2 := hX.keep lgk' k2o; have k3 := hX.keep lgk' k3o; have k4 := hX.keep lgk' k4o
    have lgk : gk < wr.heap.size ∧ some gk ≠ dv.ownBlock := ⟨Nat.lt_of_lt_of_le lgk' hX.size, hlow gk lgk'⟩
    have lgs : gs < wr.heap.size ∧ some gs ≠ dv.ownBlock := ⟨lgs', hgsp.2⟩
    have b4 := blk_cells hB5 4 rfl
    have lb4 : g5 < wr.heap.size ∧ some g5 ≠ dv.ownBlock := ⟨blk_lt hB5, hne5⟩
    have hlk : i < a.kids.length := by have := HKS.out; subst this; omega
    have hzs := hkid.out i hlk
    have hzc := cntL_mem a.kids i hlk
    have hzc2 := cnt_kids a
    have hEQ : belowL l (kids.drop i) (ss.drop i) (above ++ [nm]) path = belowN l kids[i] (above ++ [nm]) (path ++ [ss[i]]) ++ belowL l (kids.drop (i + 1)) (ss.drop (i + 1)) (above ++ [nm]) path := by rw [drop_one kids i (by omega), drop_one ss i hlt, belowL]
    have ez : a.kids[i] = kids[i] := by have := HKS.out; subst this; rfl
    rw [ez] at hzn hzs hzc
    obtain ⟨z, hz⟩ : ∃ z, kids[i] = z := ⟨_, rfl⟩
    obtain ⟨s, hs⟩ : ∃ s, ss[i] = s := ⟨_, rfl⟩
    rw [hz] at k0 k1 k2 hza hzk hzn hzs hzc hEQ
    rw [hs] at s0 hsk hsn hEQ
    obtain ⟨ska, skc, rfl, _, _⟩ := hsk.count z_str (by omega)
    obtain ⟨zaa, zac, rfl, _, _⟩ := hza.count z_attr (by omega)
    obtain ⟨zka, zkc, rfl, _, _⟩ := hzk.count z_node (by omega)
    obtain ⟨Lk, hLk⟩ : ∃ K, belowN l z (above ++ [nm]) (path ++ [s]) = K := ⟨_, rfl⟩
    rw [hLk] at hEQ
    have HLB : Hid (L.length + Lk.length ≤ 1048576) := Lib.hid (by
     have := HRL.out
     rw [← hRq, hEQ, List.length_append, List.length_append] at this; omega)
    have HNX : Hid ((L ++ Lk) ++ belowL l (kids.drop (i + 1)) (ss.drop (i + 1)) (above ++ [nm]) path = R) := Lib.hid (by rw [← hRq, hEQ, List.append_assoc])
    have HPX : Hid (∀ (W : World) (v : Value), Ext wr W → W.ownsRow wr.heap.size 76 2 v (path.length + 1) (ps ++ [.string (bs s.n), .slice ska s.key.length skc]) → Rep W (Ap p w dv) v (stepsD (path ++ [s]))) := Lib.hid fun W v hE hr =>
     (Rep.snoc (f := stepC) ((hps0.lt.ext hX).ok hAp) (Reps.cons (Rep.string _ _ _ (by rw [bs_size]; exact hsn)) (Reps.cons hsk (Reps.nil _ _))) hE hr).ok fun b hb => by
      rcases hb with hb | hb
      ·
       exact hb
      ·
       exact ⟨.inr (Nat.le_trans hX.size hb), fun e => by have := (hob b e).2; omega⟩
    have HCALL : Hid (∀ (W : World) (v : Value), Ext wr W → Rep W (Ap p w dv) v (stepsD (path ++ [s])) → Calls Tryz.prog 78 #[.slice la l.length lc, .agg #[.int .i64 z.kind, .string (bs z.name), .string (bs z.text), .slice zaa z.attrs.length zac, .slice zka z.kids.length zkc], v3n, v] W fun e w' => Ret (fun b => Ap p w dv b ∨ W.heap.size ≤ b) (pathsD Lk) e w' ∧ Ext W w') := Lib.hid fun W v hE hv => by
     have hXW := hX.trans hE
     have hsz := HSZ.out
     have := HIH.out z (above ++ [nm]) (path ++ [s]) (Ap p w dv) _ _ _ v3n v W (by omega) (by omega) (by rw [List.length_append]; simp; omega) (by rw [List.length_append]; simp; omega) hzn.1 ((hvl.lt.ext hXW).ok hAp) ((hza.ext hXW).ok hAp) ((hzk.ext hXW).ok hAp) (hN.ext hE) hv
     rw [hLk] at this
     exact this.mono fun e w' ⟨h1, h2⟩ => ⟨h1.ok fun b hb => by rcases hb with hb | hb; exact .inl hb.1; exact .inr hb, h2⟩
    have HFX := Lib.hid (And.intro hN (And.intro hSS (And.intro hB5 (And.intro hne5 hob))))
    have HRP := Lib.hid hreps
    clear hown hRq hN hSS hB5 hne5 hsk hza hzk hzn hzs hzc hzc2 hEQ hLk hreps hob hlow hAp ez hz hs HR hlk k0o k1o k2o k3o k4o hsn hgsp hgkp
    go_wp2_with fail
    refine rg_begin (S := Sr dv wr) (by kernel_rfl) (Sr.begin _ _) ?_
    have hSe : Sr dv wr (World.drew wr) := (Sr.begin _ _)
    refine rg_t 0 (some 32) (dv) rfl hSe (fun w' hs => by rfl) ?_
    simp only [Act.put, sA, sZ, sS]
    refine rg_t 1 (some 33) (.slice la l.length lc) rfl hSe (fun w' hs => by rfl) ?_
    simp only [Act.put, sA, sZ, sS]
    refine rg_t 2 (some 34) (.pointer (some ⟨g5, 4, none⟩)) rfl hSe (fun w' hs => by first | rfl | go_simp) ?_
    simp only [Act.put, sA, sZ, sS]
    refine rg_t 3 (some 35) (.slice (some ⟨gk, ok, none⟩) kids.length kc) rfl hSe (fun w' hs => by (have h0 := hs.cell lb4 b4; go_simp)) ?_
    simp only [Act.put, sA, sZ, sS]
    refine rg_t 4 (some 36) (.int .i64 i) rfl hSe (fun w' hs => by rfl) ?_
    simp only [Act.put, sA, sZ, sS]
    refine rg_t 5 (some 37) (.pointer (some ⟨gk, ok + i * 5, none⟩)) rfl hSe (fun w' hs => by first | rfl | go_simp) ?_
    simp only [Act.put, sA, sZ, sS]
    refine rg_t 6 (some 38) (.agg #[.int .i64 z.kind, .string (bs z.name), .string (bs z.text), .slice zaa z.attrs.length zac, .slice zka z.kids.length zkc]) rfl hSe (fun w' hs => by (have h0 := hs.cell lgk k0; have h1 := hs.cell lgk k1; have h2 := hs.cell lgk k2; have h3 := hs.cell lgk k3; have h4 := hs.cell lgk k4; go_simp)) ?_
    simp only [Act.put, sA, sZ, sS]
    refine rg_t 7 (some 39) (v3n) rfl hSe (fun w' hs => by rfl) ?_
    simp only [Act.put, sA, sZ, sS]
    refine rg_t 9 (some 41) (.slice pa path.length pc) rfl hSe (fun w' hs => by rfl) ?_
    simp only [Act.put, sA, sZ, sS]
    refine rg_t 11 (some 43) (.slice (some ⟨gs, os, none⟩) ss.length sc) rfl hSe (fun w' hs => by rfl) ?_
    simp only [Act.put, sA, sZ, sS]
    refine rg_t 12 (some 44) (.int .i64 i) rfl hSe (fun w' hs => by rfl) ?_
    simp only [Act.put, sA, sZ, sS]
    refine rg_t 13 (some 45) (.pointer (some ⟨gs, os + i * 2, none⟩)) rfl hSe (fun w' hs => by first | rfl | go_simp) ?_
    simp only [Act.put, sA, sZ, sS]
    refine rg_t 14 (some 46) (.agg #[.string (bs s.n), .slice ska s.key.length skc]) rfl hSe (fun w' hs => by (have h0 := hs.cell lgs s0; have h1 := hs.cell lgs s1; go_simp)) ?_
    simp only [Act.put, sA, sZ, sS]
    refine rg_row 8 15 10 16 40 47 42 48 41 46 24 76 j0 (.agg #[.string ⟨#[]⟩, .slice none 0 0]) 2 40 rfl rfl rfl rfl Tryz.underlying24 ji jz0 jz1 jz2 rfl (by decide) (.agg #[.string (bs s.n), .slice ska s.key.length skc]) (.slice pa path.length pc) [.string (bs s.n), .slice ska s.key.length skc] (ps) (path.length) rfl rfl ((hps.ext hX).ext (Ext.refl wr).drew) hp1 (by intro u hu; simp at hu; rcases hu with rfl | rfl <;> rfl) rfl (by omega) (by decide) (fun w' h => hSe.ext h) (fun ev W => by first | rfl | go_simp) (fun ev W hK hX => by first | rfl | go_simp) ?_
    intro gae gbe v2e v3e wxe hEe hre hSe
    simp only [Act.put, sA, sZ, sS]
    have hEw : Ext wr wxe := (Ext.refl wr).drew.trans hEe
    have hPS := HPX.out wxe v3e hEw hre
    refine rg_one 17 (by kernel_rfl) ?_
    refine tk_call 17 (some 49) 78 #[.slice la l.length lc, .agg #[.int .i64 z.kind, .string (bs z.name), .string (bs z.text), .slice zaa z.attrs.length zac, .slice zka z.kids.length zkc], v3n, v3e] rfl rfl (by rfl) (fun w' => by first | rfl | go_simp) (R := fun v w' => Rep w' (fun b => Ap p w dv b ∨ wxe.heap.size ≤ b) v (pathsD Lk) ∧ Ext wxe w') ?_ ?_
    ·
     refine (HCALL.out wxe v3e hEw hPS).mono ?_
     rintro e w' ⟨⟨v, rfl, hv⟩, hB⟩
     exact ⟨_, rfl, hv, hB⟩
    rintro vq wq ⟨hvq, hBq⟩
    refine ⟨hSe.ext hBq, ?_⟩
    simp only [Act.put, sA, sZ, sS]
    obtain ⟨qa, qc, rfl, _, _⟩ := hvq.count z_steps (by omega)
    obtain ⟨qs, hqs, hql, _, _, hqsrc⟩ := rep_src hvq unSss szSss
    have hq1 := hqs.one (flat_one one_steps Lk)
    have hrowq := rows_ext hrow (hEw.trans hBq)
    refine rg_one 18 (by kernel_rfl) ?_
    refine tk_src 18 (some 50) rfl rfl (by rfl) (.tmp 32) (.tmp 49) 97 rfl w.heap.size 24 m0 (.slice none 0 0) 1 24 Tryz.underlying97 mi mz0 mz1 mz2 rfl (by decide) dv L.length us rfl hrowq (.slice qa Lk.length qc) Lk.length qs rfl hqsrc hq1 (by unfold maxLen; have := HLB.out; omega) (by have := HLB.out; omega) (Nat.le_trans hX.size (hEw.trans hBq).size) ?_
    intro v4 w4 hr4 hg4 ha4
    refine ⟨(hSe.ext hBq).grown hg4, ?_⟩
    simp only [Act.put, sA, sZ, sS]
    refine rg_take 19 (some 9) (v4) rfl rfl (by kernel_rfl) (by kernel_rfl) (by kernel_rfl) (fun _ _ _ h => h) ((hSe.ext hBq).grown hg4) (by rfl) (fun w' hs => by rfl) ?_
    simp only [Act.put, sA, sZ, sS]
    refine rg_done (by kernel_rfl) ?_
    have hE4 : Ext w w4 := Below.grown (hX.trans (hEw.trans hBq)) hg4 (hX.trans (hEw.trans hBq)).size fun k hk => ((HFX.out.2.2.2.2 k hk.symm)).1
    have hO4 : Own w4 (fun b => p b ∧ b < w.heap.size ∨ w.heap.size ≤ b) w.heap.size 24 1 v4 (L ++ Lk).length ((L ++ Lk).flatMap fun x => [stepsD x]) := by
     rw [List.length_append, List.flatMap_append]
     refine Own.push (HRP.out.ext (hEw.trans hBq) |>.ok fun b hb => ⟨hb.1, hb.2.1, Nat.lt_of_lt_of_le hb.2.2 (hEw.trans hBq).size⟩) (hqs.lt.ok fun b hb => ?_) hr4 hg4 ha4
     have hob := HFX.out.2.2.2.2
     rcases hb.1 with h1 | h1
     ·
      exact ⟨h1.1, h1.2, hb.2⟩
     ·
      exact ⟨.inr (by have := hX.size; have := hEw.size; omega), fun e => by have := (hob b e).2; have := hEw.size; omega, hb.2⟩
    have HNR : Hid (Own w4 (fun b => p b ∧ b < w.heap.size ∨ w.heap.size ≤ b) w.heap.size 24 1 v4 (L ++ Lk).length ((L ++ Lk).flatMap fun x => [stepsD x]) ∧ Ext w w4 ∧ (L ++ Lk) ++ belowL l (kids.drop (i + 1)) (ss.drop (i + 1)) (above ++ [nm]) path = R ∧ Rep w4 (Ap p w v4) v3n (strsD (above ++ [nm])) ∧ Rep w4 (Ap p w v4) (.slice (some ⟨gs, os, none⟩) ss.length sc) (stepsD ss) ∧ w4.heap[g5]? = some (.cells [.int .i64 a.kind, .string (bs a.name), .string (bs a.text), .slice aa a.attrs.length ac, .slice (some ⟨gk, ok, none⟩) kids.length kc].toArray 60 (0, 0)) ∧ some g5 ≠ v4.ownBlock) := by
     obtain ⟨f1, f2, f3, f4, f5⟩ := HFX.out
     have hEq := hEw.trans hBq
     have l5 := blk_lt f3
     refine Lib.hid ⟨hO4, hE4, HNX.out, ap_next f1 hEq hg4 ha4, ap_next f2 hEq hg4 ha4, ?_, ?_⟩
     ·
      rw [hg4.block g5 (Nat.lt_of_lt_of_le l5 hEq.size) f4, Below.block hEq g5 l5]; exact f3
     ·
      rcases ha4 with e | e
      ·
       rw [e]; exact f4
      ·
       rw [e]; intro e2; have := Option.some.inj e2; have := hEq.size; omega
    clear hE4 hO4 HNX HPX HCALL HFX HRP hr4 hg4 ha4 hqs hq1 hqsrc hvq hrow hrowq hPS HLB
    go_wp2_with fail
    go_roundw
    case rel => exact ⟨i + 1, L ++ Lk, v4, by go_num, rfl, by omega, HNR⟩
    case measure => simp only [downV]; omega
   ·
    have hlI : ¬ (i : Int) < (ss.length : Int) := by omega
    obtain ⟨hown, hX, hRq, _⟩ := HR.out
    have hR : L = R := by rw [← hRq, List.drop_of_length_le (l := ss) (by omega)]; cases kids.drop i <;> simp [belowL]
    have hrep := hown.rep
    have HZ := Lib.hid (And.intro hX (And.intro hR hrep))
    clear hown hRq hR hrep HR hX
    go_wp2_with fail
    go_ret
    exact ⟨⟨_, rfl, by rw [← HZ.out.2.1]; exact HZ.out.2.2.ok fun b hb => by rcases hb with hb | hb; exact hb; exact .inr hb⟩, HZ.out.1⟩

end Go.Proofs.YtkelpbbekeelcaaGreatDoor

/-
 recensionref16.Paths. Helper lemmas; no statement of the seat is proved here.
-/
namespace Go.Proofs.YtkelpbbekeelcaaGreatDoor
open Go.RowKit
set_option maxRecDepth 100000
set_option linter.unusedVariables false
set_option linter.unusedSimpArgs false

set_option maxHeartbeats 8000000 in
theorem paths_any (l : List Rule) (hok : RulesOk l) (a : Node) (p : Nat → Prop) (vl va vk : Value) (w : World) (hcnt : cntN a ≤ 1048576) (hsz : nsz a ≤ 1048576) (hnm : a.name.length ≤ 9223372036854775807) (hvl : Rep w p vl (rulesD l)) (hva : Rep w p va (attrsD a.attrs)) (hvk : Rep w p vk (nodesD a.kids)) :
  Calls Tryz.prog 41 #[vl, .agg #[.int .i64 a.kind, .string (bs a.name), .string (bs a.text), va, vk]] w fun e w' => Ret (fun _ => True) (pathsD (belowN l a [] [⟨a.name, []⟩])) e w' ∧ Ext w w' := by
 have HB := Lib.hid fun W v (hE : Ext w W) (hv : Rep W (fun _ => True) v (stepsD [⟨a.name, []⟩])) => below_any l hok (nsz a) a [] [⟨a.name, []⟩] (fun _ => True) vl va vk (.slice none 0 0) v W (Nat.le_refl _) hcnt (by simp; omega) (by simp; omega) hnm ((hvl.ext hE).ok fun _ _ => trivial) ((hva.ext hE).ok fun _ _ => trivial) ((hvk.ext hE).ok fun _ _ => trivial) (.nil 1) (hv.ok fun _ _ => trivial)
 obtain ⟨la, lc, rfl, _, _⟩ := hvl.count z_rule (by omega)
 obtain ⟨aa, ac, rfl, _, _⟩ := hva.count z_attr (by omega)
 obtain ⟨ka, kc, rfl, _, _⟩ := hvk.count z_node (by omega)
 clear hvl hva hvk hcnt hsz
 go_enter Tryz.func41, Tryz.ntmps41
 go_wp2_with fail
 obtain ⟨w1, hw1⟩ : ∃ w1, ((w.alloc (.cells #[.int .i64 a.kind, .string (bs a.name), .string (bs a.text), .slice aa a.attrs.length ac, .slice ka a.kids.length kc] 60)).alloc (.cells #[.string (bs a.name), .slice none 0 0] 76)) = w1 := ⟨_, rfl⟩
 have hE1 : Ext w w1 := by rw [← hw1]; exact ((Ext.refl w).alloc _).alloc _
 have hbo : w1.heap[w.heap.size + 1]? = some (.cells [.string (bs a.name), .slice none 0 0].toArray 76 (0, 0)) := by
  rw [← hw1]
  have := Array.getElem?_push_size (xs := (w.alloc (.cells #[.int .i64 a.kind, .string (bs a.name), .string (bs a.text), .slice aa a.attrs.length ac, .slice ka a.kids.length kc] 60)).heap) (x := (.cells [.string (bs a.name), .slice none 0 0].toArray 76 (0, 0) : Obj))
  rw [show (w.alloc (.cells #[.int .i64 a.kind, .string (bs a.name), .string (bs a.text), .slice aa a.attrs.length ac, .slice ka a.kids.length kc] 60)).heap.size = w.heap.size + 1 by simp] at this
  exact this
 have hv : Rep w1 (fun _ => True) (.slice (some ⟨w.heap.size + 1, 0, none⟩) 1 1) (stepsD [⟨a.name, []⟩]) :=
  (Own.rep (p := fun _ => True) (n := 1) ⟨_, own_one (z := 2) (base := 0) (Nat.zero_le _) rfl hbo, Reps.cons (Rep.string _ _ _ (by rw [bs_size]; exact hnm)) (Reps.cons (.nil 1) (Reps.nil _ _))⟩).ok fun _ _ => trivial
 rw [hw1]
 refine (HB.out _ _ hE1 hv).mono ?_
 rintro e w2 ⟨⟨v, rfl, hr⟩, hB2⟩
 go_wp2_with fail
 go_ret
 exact ⟨⟨v, rfl, hr.ok fun _ _ => trivial⟩, hE1.trans hB2⟩

end Go.Proofs.YtkelpbbekeelcaaGreatDoor

/-
 recensionref16.Lives. Helper lemmas; no statement of the seat is proved here.
-/
namespace Go.Proofs.YtkelpbbekeelcaaGreatDoor
open Go.RowKit
set_option maxRecDepth 100000
set_option linter.unusedVariables false
set_option linter.unusedSimpArgs false

/-- A keyed path and its versions. -/
structure Life where
 path : List Step
 vers : List Span
def lifeC (x : Life) : List DV := [stepsD x.path, spansD x.vers]
def livesD (l : List Life) : DV := .s 2 (l.flatMap lifeC)
theorem z_life (x : Life) : (lifeC x).length = 2 := rfl
theorem one_life (x : Life) : ∀ e ∈ lifeC x, e.one = true := by intro e he; simp [lifeC] at he; rcases he with rfl | rfl <;> rfl
theorem life_at {w : World} {p : Nat → Prop} {a : Option Addr} {len cap : Nat} {l : List Life} (h : Rep w p (.slice a len cap) (livesD l)) (i : Nat) (hi : i < l.length) :
  ∃ b off u v, a = some ⟨b, off, none⟩ ∧ b < w.heap.size ∧ p b ∧ w.cell? ⟨b, off + i * 2, none⟩ = some u ∧ w.cell? ⟨b, off + i * 2 + 1, none⟩ = some v ∧ Rep w p u (stepsD l[i].path) ∧ Rep w p v (spansD l[i].vers) := by
 obtain ⟨b, off, ha, hb, hp, hc⟩ := elem_at z_life h (by omega) i hi
 obtain ⟨u, hu, hr⟩ := hc 0 _ rfl
 obtain ⟨u1, hu1, hr1⟩ := hc 1 _ rfl
 exact ⟨b, off, u, u1, ha, hb, hp, hu, hu1, hr, hr1⟩
theorem steps_at {w : World} {p : Nat → Prop} {a : Option Addr} {len cap : Nat} {l : List (List Step)} (h : Rep w p (.slice a len cap) (pathsD l)) (i : Nat) (hi : i < l.length) :
  ∃ b off u, a = some ⟨b, off, none⟩ ∧ b < w.heap.size ∧ p b ∧ w.cell? ⟨b, off + i, none⟩ = some u ∧ Rep w p u (stepsD l[i]) := by
 obtain ⟨b, off, ha, hb, hp, hc⟩ := elem_at z_steps h (by omega) i hi
 obtain ⟨u, hu, hr⟩ := hc 0 _ rfl
 rw [Nat.mul_one, Nat.add_zero] at hu
 exact ⟨b, off, u, ha, hb, hp, hu, hr⟩
theorem infoLife : (Tryz.prog.info? 55).map (fun i => (i.zero, i.size, i.bytes)) = some (some (.agg #[.slice none 0 0, .slice none 0 0]), 2, 48) := by kernel_rfl
theorem unLfs : Tryz.prog.underlying 49 = some (.slice (Tryz.prog.elem 49)) := by kernel_rfl
theorem szLfs : ∀ W, (sizeOf (Tryz.prog.elem 49)).run Tryz.prog W = .ok 2 W := fun W => by rw [show Tryz.prog.elem 49 = 55 by kernel_rfl]; go_simp
/-- Where a path comes among lives. -/
def lifePos (x : List Step) (l : List Life) : Nat := l.findIdx fun y => !pathAhead y.path x
theorem lifePos_cons (x : List Step) (y : Life) (l : List Life) : lifePos x (y :: l) = if pathAhead y.path x = true then lifePos x l + 1 else 0 := by
 unfold lifePos
 rw [List.findIdx_cons]
 cases pathAhead y.path x <;> simp
theorem lifePos_le (x : List Step) (l : List Life) : lifePos x l ≤ l.length := by unfold lifePos; exact List.findIdx_le_length
/-- A path's life, if it isn't there yet. -/
def addL (l : List Rule) (ds : List Node) (x : List Step) (out : List Life) : List Life :=
 if (if h : lifePos x out < out.length then pathB out[lifePos x out].path x else false) = true then out else insAt out (lifePos x out) ⟨x, spansOf (flOf (histV l x ds 0 [] 0).1)⟩
def livesJ (l : List Rule) (ds : List Node) : List (List Step) → List Life → List Life
 | [], out => out
 | x :: r, out => livesJ l ds r (addL l ds x out)
def livesI (l : List Rule) (ds : List Node) : List Node → List Life → List Life
 | [], out => out
 | d :: r, out => livesI l ds r (livesJ l ds (belowN l d [] [⟨d.name, []⟩]) out)
mutual
theorem belowN_path (l : List Rule) : ∀ (n : Node) (above : List Bytes) (path x : List Step), x ∈ belowN l n above path → x.length + 1 ≤ path.length + nsz n
 | .mk k nm t la ks, above, path, x, h => by
  rw [belowN] at h
  rw [nsz]
  rcases List.mem_cons.1 h with e | h
  ·
   rw [e]; omega
  ·
   have := belowL_path l ks _ _ path x h; omega
theorem belowL_path (l : List Rule) : ∀ (ks : List Node) (ss : List Step) (names : List Bytes) (path x : List Step), x ∈ belowL l ks ss names path → x.length ≤ path.length + nszL ks
 | n :: r, s :: ss, names, path, x, h => by
  rw [belowL] at h
  rw [nszL]
  rcases List.mem_append.1 h with h | h
  ·
   have := belowN_path l n names (path ++ [s]) x h; rw [List.length_append] at this; simp at this; omega
  ·
   have := belowL_path l r ss names path x h; omega
 | [], _, _, _, _, h => by simp [belowL] at h
 | _ :: _, [], _, _, _, h => by simp [belowL] at h
end
set_option maxHeartbeats 32000000 in
theorem lives_any (l : List Rule) (hok : RulesOk l) (ds : List Node) (p : Nat → Prop) (vl vd : Value) (w : World) (hdl : ds.length ≤ 12) (hcnt : ∀ d ∈ ds, cntN d ≤ 1048576 ∧ nsz d ≤ 1048576) (hvl : Rep w p vl (rulesD l)) (hvd : Rep w p vd (nodesD ds)) :
  Calls Tryz.prog 17 #[vl, vd] w fun e w' => Ret (fun _ => True) (livesD (livesI l ds ds [])) e w' ∧ Ext w w' := by
 obtain ⟨la, lc, rfl, _, _⟩ := hvl.count z_rule (by omega)
 obtain ⟨da, dc, rfl, _, _⟩ := hvd.count z_node (by omega)
 obtain ⟨j0, ji, jz0, jz1, jz2⟩ := info_parts infoLife
 obtain ⟨R, hR⟩ : ∃ R, livesI l ds ds [] = R := ⟨_, rfl⟩
 rw [hR]
 have HR : Hid (livesI l ds (ds.drop 0) [] = R) := Lib.hid hR
 have HCN := Lib.hid hcnt
 have HOK := Lib.hid hok
 have HVS := Lib.hid (And.intro hvl hvd)
 clear hR hcnt hok hvl
 go_enter Tryz.func17, Tryz.ntmps17
 go_wp2_with fail
 go_loopw [5, 6, 7, 8, 9, 10, 11] (fun o t _ _ _ _ _ wr => ∃ (i : Nat) (out : List Life) (oa : Option Addr) (oc : Nat), t = .int .i64 i ∧ o = .slice oa out.length oc ∧ i ≤ ds.length ∧ out.length ≤ i * 1048576 ∧ Ext w wr ∧ Hid (Rep wr (fun _ => True) (.slice oa out.length oc) (livesD out) ∧ livesI l ds (ds.drop i) out = R)) (fun _ t _ _ _ _ _ _ => downV ds.length t)
 case atStart => exact ⟨0, [], none, 0, rfl, rfl, Nat.zero_le _, by simp, Ext.refl _, Lib.hid ⟨.nil 2, HR.out⟩⟩
 case round =>
  clear HR
  obtain ⟨i, out, oa, oc, rfl, rfl, hi, hol, hX, HI⟩ := hrel
  have hi0 : (0 : Int) ≤ (i : Int) := by omega
  by_cases hlt : i < ds.length
  ·
   have hlI : (i : Int) < (ds.length : Int) := by omega
   obtain ⟨gd, od, za, zk, rfl, lgd, _, k0, k1, k2, k3, k4, hza, hzk⟩ := node_at (hvd.ext hX) i hlt
   have hzn := node_len hvd i hlt
   have hzc := HCN.out _ (List.getElem_mem hlt)
   have HS : Hid (livesI l ds (ds.drop i) out = livesI l ds (ds.drop (i + 1)) (livesJ l ds (belowN l ds[i] [] [⟨ds[i].name, []⟩]) out)) := Lib.hid (by rw [drop_one ds i hlt, livesI])
   obtain ⟨z, hz⟩ : ∃ z, ds[i] = z := ⟨_, rfl⟩
   rw [hz] at k0 k1 k2 hza hzk hzn hzc HS
   have HPC := Lib.hid (paths_any l HOK.out z (fun _ => True) (.slice la l.length lc) za zk wr hzc.1 hzc.2 hzn.1 ((HVS.out.1.ext hX).ok fun _ _ => trivial) (hza.ok fun _ _ => trivial) (hzk.ok fun _ _ => trivial))
   have hbl := belowN_len l z [] [⟨z.name, []⟩]
   have hbp := Lib.hid fun x hx => belowN_path l z [] [⟨z.name, []⟩] x hx
   obtain ⟨zaa, zac, rfl, _, _⟩ := hza.count z_attr (by omega)
   obtain ⟨zka, zkc, rfl, _, _⟩ := hzk.count z_node (by omega)
   obtain ⟨L, hL⟩ : ∃ L, belowN l z [] [⟨z.name, []⟩] = L := ⟨_, rfl⟩
   rw [hL] at HPC HS hbl hbp
   have hLl : L.length ≤ 1048576 := by omega
   have HBP : Hid (∀ x ∈ L, x.length ≤ 1048576) := Lib.hid fun x hx => by have := hbp.out x hx; simp at this; omega
   obtain ⟨wo, hwo⟩ : ∃ wo, wo = wr := ⟨_, rfl⟩
   subst hwo
   clear hz hza hzk hzn hzc hbl hbp hL
   go_wp2_with fail
   refine HPC.out.mono ?_
   rintro e w1 ⟨⟨pv, rfl, hpv⟩, hB1⟩
   obtain ⟨pa, pc, rfl, _, _⟩ := hpv.count z_steps (by omega)
   have hX1 := hX.trans hB1
   have hi12 : i ≤ 12 := by omega
   have HM0 : Hid (Rep w1 (fun _ => True) (.slice oa out.length oc) (livesD out) ∧ livesI l ds (ds.drop (i + 1)) (livesJ l ds (L.drop 0) out) = R) := Lib.hid ⟨HI.out.1.ext hB1, by rw [List.drop_zero, ← HS.out]; exact HI.out.2⟩
   clear HPC HS HI hB1 hX k0 k1 k2 k3 k4
   go_wp2_with fail
   go_loopw [5, 8, 9, 10, 11] (fun o t _ _ _ wr => ∃ (k : Nat) (out : List Life) (oa : Option Addr) (oc : Nat), t = .int .i64 k ∧ o = .slice oa out.length oc ∧ k ≤ L.length ∧ out.length ≤ i * 1048576 + k ∧ Ext w1 wr ∧ Hid (Rep wr (fun _ => True) (.slice oa out.length oc) (livesD out) ∧ livesI l ds (ds.drop (i + 1)) (livesJ l ds (L.drop k) out) = R)) (fun _ t _ _ _ _ => downV L.length t)
   case atStart => exact ⟨0, out, oa, oc, rfl, rfl, Nat.zero_le _, Nat.le_trans hol (Nat.le_add_right _ _), Ext.refl _, HM0⟩
   case round =>
    clear HM0 hol
    obtain ⟨k, out, oa, oc, rfl, rfl, hk, hol, hQ, HM⟩ := hrel
    have hk0 : (0 : Int) ≤ (k : Int) := by omega
    by_cases hkl : k < L.length
    ·
     have hkI : (k : Int) < (L.length : Int) := by omega
     obtain ⟨gl, ol, xv, rfl, lgl1, _, x01, hxr1⟩ := steps_at hpv k hkl
     have hxb := HBP.out _ (List.getElem_mem hkl)
     have HS : Hid (livesJ l ds (L.drop k) out = livesJ l ds (L.drop (k + 1)) (addL l ds L[k] out)) := Lib.hid (by rw [drop_one L k hkl, livesJ])
     obtain ⟨x, hx⟩ : ∃ x, L[k] = x := ⟨_, rfl⟩
     rw [hx] at hxr1 hxb HS
     obtain ⟨xa, xc, rfl, _, _⟩ := hxr1.count z_step (by omega)
     obtain ⟨PO, hPO⟩ : ∃ P, lifePos x out = P := ⟨_, rfl⟩
     have HP0 : Hid (0 + lifePos x (out.drop 0) = PO) := Lib.hid (by rw [← hPO]; simp)
     have HPO := Lib.hid hPO
     have hob : out.length ≤ 16000000 := by omega
     obtain ⟨wq, hwq⟩ : ∃ wq, wq = wr := ⟨_, rfl⟩
     subst hwq
     clear hx hPO
     go_wp2_with fail
     go_loopw [9] (fun a wr => ∃ j : Nat, a = .int .i64 j ∧ j ≤ out.length ∧ Ext wq wr ∧ Hid (j + lifePos x (out.drop j) = PO)) (fun a _ => downV out.length a)
     case atStart => exact ⟨0, rfl, Nat.zero_le _, Ext.refl _, HP0⟩
     case round =>
      clear HP0
      obtain ⟨j, rfl, hj, hJ, HI⟩ := hrel
      obtain ⟨wj, hwj⟩ : ∃ wj, wj = wr := ⟨_, rfl⟩
      subst hwj
      have hj0 : (0 : Int) ≤ (j : Int) := by omega
      have hjm : j ≤ 16777216 := by omega
      have hE1j := hQ.trans hJ
      have x0 := hE1j.keep lgl1 x01
      have lgl : gl < wj.heap.size := Nat.lt_of_lt_of_le lgl1 hE1j.size
      have hxr := hxr1.ext hE1j
      have hRj := HM.out.1.ext hJ
      have HG := Lib.hid (And.intro lgl1 (And.intro x01 (And.intro hxr1 hpv)))
      clear x01 hxr1 lgl1 hpv
      go_wp2_with fail
      refine region_merge (fun ac ac' w' => ∃ (bc : Bool) (x31c : Value) (x33c : Value) (x34c : Value) (x35c : Value) (x36c : Value) (x37c : Value) (x38c : Value) (x39c : Value) (x40c : Value) (x41c : Value) (x42c : Value) (x43c : Value) (x44c : Value), ac' = ((((((((((((((((ac.put (some 30) (.int .i64 j)).put (some 31) (x31c)).put (some 32) (.int .i64 out.length)).put (some 33) (x33c)).put (some 34) (x34c)).put (some 35) (x35c)).put (some 36) (x36c)).put (some 37) (x37c)).put (some 38) (x38c)).put (some 39) (x39c)).put (some 40) (x40c)).put (some 41) (x41c)).put (some 42) (x42c)).put (some 43) (x43c)).put (some 44) (x44c)).put (some 45) (.bool bc)) ∧ Sx wj w' ∧ ((bc = true ∧ j < out.length ∧ j + 1 + lifePos x (out.drop (j + 1)) = PO) ∨ (bc = false ∧ j = PO))) ?_ ?_
      ·
       by_cases hjl : j < out.length
       ·
        have hjI : (j : Int) < (out.length : Int) := by omega
        obtain ⟨go, oo, yv, yu, eoa, lgo, _, y0, _, hyr, _⟩ := life_at hRj j hjl
        cases eoa
        obtain ⟨y, hy⟩ : ∃ y, out[j] = y := ⟨_, rfl⟩
        rw [hy] at hyr
        obtain ⟨ya, yc, rfl, _, _⟩ := hyr.count z_step (by omega)
        have HS2 : lifePos x (out.drop j) = if pathAhead y.path x = true then lifePos x (out.drop (j + 1)) + 1 else 0 := by rw [drop_one out j hjl, hy, lifePos_cons]
        have HCA := Lib.hid fun W (hE : Ext wj W) => pathahead_any _ _ y.path x (.slice ya y.path.length yc) (.slice xa x.length xc) W (hyr.ext hE) (hxr.ext hE)
        obtain ⟨B, hB⟩ : ∃ B, pathAhead y.path x = B := ⟨_, rfl⟩
        rw [hB] at HCA HS2
        have HFIN : (B = true ∧ j < out.length ∧ j + 1 + lifePos x (out.drop (j + 1)) = PO) ∨ (B = false ∧ j = PO) := by
         cases B with
         | true => exact .inl ⟨rfl, hjl, by rw [← HI.out, HS2, if_pos rfl]; omega⟩
         | false => exact .inr ⟨rfl, by rw [← HI.out, HS2, if_neg (by decide)]; omega⟩
        have HFN := Lib.hid HFIN
        clear hy hB HS2 HFIN
        refine rg_begin (S := Sx wj) (by kernel_rfl) (Sx.begin _) ?_
        have hSx : Sx wj (World.drew wj) := (Sx.begin _)
        refine rg_t 0 (some 30) (.int .i64 j) rfl hSx (fun w' hs => by rfl) ?_
        simp only [Act.put, sA, sZ, sS]
        refine rg_t 1 (some 31) (.slice (some ⟨go, oo, none⟩) out.length oc) rfl hSx (fun w' hs => by rfl) ?_
        simp only [Act.put, sA, sZ, sS]
        refine rg_t 2 (some 32) (.int .i64 out.length) rfl hSx (fun w' hs => by first | rfl | go_simp) ?_
        simp only [Act.put, sA, sZ, sS]
        refine rg_t 3 (some 33) (.bool true) rfl hSx (fun w' hs => by first | rfl | go_simp) ?_
        simp only [Act.put, sA, sZ, sS]
        refine rg_t 4 (some 34) (.bool true) rfl hSx (fun w' hs => by rfl) ?_
        simp only [Act.put, sA, sZ, sS]
        refine rg_t 5 (some 35) (.slice (some ⟨go, oo, none⟩) out.length oc) rfl hSx (fun w' hs => by rfl) ?_
        simp only [Act.put, sA, sZ, sS]
        refine rg_t 6 (some 36) (.int .i64 j) rfl hSx (fun w' hs => by rfl) ?_
        simp only [Act.put, sA, sZ, sS]
        refine rg_t 7 (some 37) (.pointer (some ⟨go, oo + j * 2, none⟩)) rfl hSx (fun w' hs => by first | rfl | go_simp) ?_
        simp only [Act.put, sA, sZ, sS]
        refine rg_t 8 (some 38) (.pointer (some ⟨go, oo + j * 2, none⟩)) rfl hSx (fun w' hs => by first | rfl | go_simp) ?_
        simp only [Act.put, sA, sZ, sS]
        refine rg_t 9 (some 39) (.slice ya y.path.length yc) rfl hSx (fun w' hs => by (have h0 := hs.cell lgo y0; go_simp)) ?_
        simp only [Act.put, sA, sZ, sS]
        refine rg_t 10 (some 40) (.slice (some ⟨gl, ol, none⟩) L.length pc) rfl hSx (fun w' hs => by rfl) ?_
        simp only [Act.put, sA, sZ, sS]
        refine rg_t 11 (some 41) (.int .i64 k) rfl hSx (fun w' hs => by rfl) ?_
        simp only [Act.put, sA, sZ, sS]
        refine rg_t 12 (some 42) (.pointer (some ⟨gl, ol + k, none⟩)) rfl hSx (fun w' hs => by first | rfl | go_simp) ?_
        simp only [Act.put, sA, sZ, sS]
        refine rg_t 13 (some 43) (.slice xa x.length xc) rfl hSx (fun w' hs => by (have h0 := hs.cell lgl x0; go_simp)) ?_
        simp only [Act.put, sA, sZ, sS]
        refine rg_call 14 (some 44) 42 #[.slice ya y.path.length yc, .slice xa x.length xc] rfl rfl (by kernel_rfl) (by rfl) (fun w' => by first | rfl | go_simp) (R := fun v w' => v = .bool B ∧ Ext (World.drew wj) w') ?_ ?_
        ·
         refine (HCA.out (World.drew wj) hSx).mono ?_
         rintro e w' ⟨rfl, h⟩
         exact ⟨_, rfl, rfl, h⟩
        rintro _ wrx1 ⟨rfl, hBrx1⟩
        have hSx1 := hSx.ext hBrx1
        refine ⟨hSx1, ?_⟩
        simp only [Act.put, sA, sZ, sS]
        refine rg_t 15 (some 45) (.bool B) rfl hSx1 (fun w' hs => by rfl) ?_
        simp only [Act.put, sA, sZ, sS]
        refine rg_done (by kernel_rfl) ?_
        exact ⟨B, (.slice (some ⟨go, oo, none⟩) out.length oc), (.bool true), (.bool true), (.slice (some ⟨go, oo, none⟩) out.length oc), (.int .i64 j), (.pointer (some ⟨go, oo + j * 2, none⟩)), (.pointer (some ⟨go, oo + j * 2, none⟩)), (.slice ya y.path.length yc), (.slice (some ⟨gl, ol, none⟩) L.length pc), (.int .i64 k), (.pointer (some ⟨gl, ol + k, none⟩)), (.slice xa x.length xc), (.bool B), (by simp only [Act.put, sA, sZ, sS]), hSx1, HFN.out⟩
       ·
        have hjI : ¬ (j : Int) < (out.length : Int) := by omega
        have HFN : Hid (j = PO) := Lib.hid (by rw [← HI.out, List.drop_of_length_le (by omega)]; simp [lifePos])
        refine rg_begin (S := Sx wj) (by kernel_rfl) (Sx.begin _) ?_
        have hSx : Sx wj (World.drew wj) := (Sx.begin _)
        refine rg_t 0 (some 30) (.int .i64 j) rfl hSx (fun w' hs => by rfl) ?_
        simp only [Act.put, sA, sZ, sS]
        refine rg_t 1 (some 31) (.slice oa out.length oc) rfl hSx (fun w' hs => by rfl) ?_
        simp only [Act.put, sA, sZ, sS]
        refine rg_t 2 (some 32) (.int .i64 out.length) rfl hSx (fun w' hs => by first | rfl | go_simp) ?_
        simp only [Act.put, sA, sZ, sS]
        refine rg_t 3 (some 33) (.bool false) rfl hSx (fun w' hs => by first | rfl | go_simp) ?_
        simp only [Act.put, sA, sZ, sS]
        refine rg_t 4 (some 34) (.bool false) rfl hSx (fun w' hs => by rfl) ?_
        simp only [Act.put, sA, sZ, sS]
        refine rg_s 5 (some 35) rfl hSx ?_
        simp only [Act.put, sA, sZ, sS]
        refine rg_s 6 (some 36) rfl hSx ?_
        simp only [Act.put, sA, sZ, sS]
        refine rg_s 7 (some 37) rfl hSx ?_
        simp only [Act.put, sA, sZ, sS]
        refine rg_s 8 (some 38) rfl hSx ?_
        simp only [Act.put, sA, sZ, sS]
        refine rg_s 9 (some 39) rfl hSx ?_
        simp only [Act.put, sA, sZ, sS]
        refine rg_s 10 (some 40) rfl hSx ?_
        simp only [Act.put, sA, sZ, sS]
        refine rg_s 11 (some 41) rfl hSx ?_
        simp only [Act.put, sA, sZ, sS]
        refine rg_s 12 (some 42) rfl hSx ?_
        simp only [Act.put, sA, sZ, sS]
        refine rg_s 13 (some 43) rfl hSx ?_
        simp only [Act.put, sA, sZ, sS]
        refine rg_s 14 (some 44) rfl hSx ?_
        simp only [Act.put, sA, sZ, sS]
        refine rg_t 15 (some 45) (.bool false) rfl hSx (fun w' hs => by rfl) ?_
        simp only [Act.put, sA, sZ, sS]
        refine rg_done (by kernel_rfl) ?_
        exact ⟨false, (.slice oa out.length oc), (.bool false), (.bool false), (undef), (undef), (undef), (undef), (undef), (undef), (undef), (undef), (undef), (undef), (by simp only [Act.put, sA, sZ, sS]), hSx, .inr ⟨rfl, HFN.out⟩⟩
      rintro _ wk ⟨bc, x31c, x33c, x34c, x35c, x36c, x37c, x38c, x39c, x40c, x41c, x42c, x43c, x44c, rfl, hSk, hPk⟩
      simp only [Act.put, sA, sZ, sS]
      have hEk : Ext wj wk := hSk
      have hJk := hJ.trans hEk
      rcases hPk with ⟨rfl, hjl, hN⟩ | ⟨rfl, hjP⟩
      ·
       have HN := Lib.hid hN
       clear hN HI hSk hRj hxr x0 lgl
       go_wp2_with fail
       go_roundw
       case rel => exact ⟨j + 1, by go_num, by omega, hJk, HN⟩
       case measure => simp only [downV]; omega
      ·
       have HJ : Hid (lifePos x out = j) := Lib.hid (by rw [HPO.out, hjP])
       have x0k := hEk.keep lgl x0
       have lglk : gl < wk.heap.size := Nat.lt_of_lt_of_le lgl hEk.size
       have hxrk := hxr.ext hEk
       have hRk := hRj.ext hEk
       clear hjP HI hSk hRj hxr x0 lgl hJ
       have x0 := x0k; have lgl := lglk; have hxr := hxrk; have hRj := hRk
       clear x0k lglk hxrk hRk
       go_wp2_with fail
       refine region_merge (fun ac ac' w' => ∃ (bd : Bool) (x49d : Value) (x51d : Value) (x52d : Value) (x53d : Value) (x54d : Value) (x55d : Value) (x56d : Value) (x57d : Value) (x58d : Value) (x59d : Value) (x60d : Value) (x61d : Value) (x62d : Value), ac' = ((((((((((((((((ac.put (some 48) (.int .i64 j)).put (some 49) (x49d)).put (some 50) (.int .i64 out.length)).put (some 51) (x51d)).put (some 52) (x52d)).put (some 53) (x53d)).put (some 54) (x54d)).put (some 55) (x55d)).put (some 56) (x56d)).put (some 57) (x57d)).put (some 58) (x58d)).put (some 59) (x59d)).put (some 60) (x60d)).put (some 61) (x61d)).put (some 62) (x62d)).put (some 63) (.bool bd)) ∧ Sx wk w' ∧ ((bd = true ∧ addL l ds x out = out) ∨ (bd = false ∧ addL l ds x out = insAt out j ⟨x, spansOf (flOf (histV l x ds 0 [] 0).1)⟩))) ?_ ?_
       ·
        by_cases hjl : j < out.length
        ·
         have hjI : (j : Int) < (out.length : Int) := by omega
         obtain ⟨go, oo, yv, yu, eoa, lgo, _, y0, _, hyr, _⟩ := life_at hRj j hjl
         cases eoa
         obtain ⟨y, hy⟩ : ∃ y, out[j] = y := ⟨_, rfl⟩
         rw [hy] at hyr
         obtain ⟨ya, yc, rfl, _, _⟩ := hyr.count z_step (by omega)
         have HCP := Lib.hid fun W (hE : Ext wk W) => path_any _ _ y.path x (.slice ya y.path.length yc) (.slice xa x.length xc) W (hyr.ext hE) (hxr.ext hE)
         obtain ⟨B, hB⟩ : ∃ B, pathB y.path x = B := ⟨_, rfl⟩
         rw [hB] at HCP
         have HFIN : (B = true ∧ addL l ds x out = out) ∨ (B = false ∧ addL l ds x out = insAt out j ⟨x, spansOf (flOf (histV l x ds 0 [] 0).1)⟩) := by
          have e : (if h : j < out.length then pathB out[j].path x else false) = B := by rw [dif_pos hjl, hy, hB]
          unfold addL
          rw [HJ.out, e]
          cases B with
          | true => exact .inl ⟨rfl, if_pos rfl⟩
          | false => exact .inr ⟨rfl, if_neg (by decide)⟩
         have HFN := Lib.hid HFIN
         clear hy hB HFIN
         refine rg_begin (S := Sx wk) (by kernel_rfl) (Sx.begin _) ?_
         have hSy : Sx wk (World.drew wk) := (Sx.begin _)
         refine rg_t 0 (some 48) (.int .i64 j) rfl hSy (fun w' hs => by rfl) ?_
         simp only [Act.put, sA, sZ, sS]
         refine rg_t 1 (some 49) (.slice (some ⟨go, oo, none⟩) out.length oc) rfl hSy (fun w' hs => by rfl) ?_
         simp only [Act.put, sA, sZ, sS]
         refine rg_t 2 (some 50) (.int .i64 out.length) rfl hSy (fun w' hs => by first | rfl | go_simp) ?_
         simp only [Act.put, sA, sZ, sS]
         refine rg_t 3 (some 51) (.bool true) rfl hSy (fun w' hs => by first | rfl | go_simp) ?_
         simp only [Act.put, sA, sZ, sS]
         refine rg_t 4 (some 52) (.bool true) rfl hSy (fun w' hs => by rfl) ?_
         simp only [Act.put, sA, sZ, sS]
         refine rg_t 5 (some 53) (.slice (some ⟨go, oo, none⟩) out.length oc) rfl hSy (fun w' hs => by rfl) ?_
         simp only [Act.put, sA, sZ, sS]
         refine rg_t 6 (some 54) (.int .i64 j) rfl hSy (fun w' hs => by rfl) ?_
         simp only [Act.put, sA, sZ, sS]
         refine rg_t 7 (some 55) (.pointer (some ⟨go, oo + j * 2, none⟩)) rfl hSy (fun w' hs => by first | rfl | go_simp) ?_
         simp only [Act.put, sA, sZ, sS]
         refine rg_t 8 (some 56) (.pointer (some ⟨go, oo + j * 2, none⟩)) rfl hSy (fun w' hs => by first | rfl | go_simp) ?_
         simp only [Act.put, sA, sZ, sS]
         refine rg_t 9 (some 57) (.slice ya y.path.length yc) rfl hSy (fun w' hs => by (have h0 := hs.cell lgo y0; go_simp)) ?_
         simp only [Act.put, sA, sZ, sS]
         refine rg_t 10 (some 58) (.slice (some ⟨gl, ol, none⟩) L.length pc) rfl hSy (fun w' hs => by rfl) ?_
         simp only [Act.put, sA, sZ, sS]
         refine rg_t 11 (some 59) (.int .i64 k) rfl hSy (fun w' hs => by rfl) ?_
         simp only [Act.put, sA, sZ, sS]
         refine rg_t 12 (some 60) (.pointer (some ⟨gl, ol + k, none⟩)) rfl hSy (fun w' hs => by first | rfl | go_simp) ?_
         simp only [Act.put, sA, sZ, sS]
         refine rg_t 13 (some 61) (.slice xa x.length xc) rfl hSy (fun w' hs => by (have h0 := hs.cell lgl x0; go_simp)) ?_
         simp only [Act.put, sA, sZ, sS]
         refine rg_call 14 (some 62) 26 #[.slice ya y.path.length yc, .slice xa x.length xc] rfl rfl (by kernel_rfl) (by rfl) (fun w' => by first | rfl | go_simp) (R := fun v w' => v = .bool B ∧ Ext (World.drew wk) w') ?_ ?_
         ·
          refine (HCP.out (World.drew wk) hSy).mono ?_
          rintro e w' ⟨rfl, h⟩
          exact ⟨_, rfl, rfl, h⟩
         rintro _ wry1 ⟨rfl, hBry1⟩
         have hSy1 := hSy.ext hBry1
         refine ⟨hSy1, ?_⟩
         simp only [Act.put, sA, sZ, sS]
         refine rg_t 15 (some 63) (.bool B) rfl hSy1 (fun w' hs => by rfl) ?_
         simp only [Act.put, sA, sZ, sS]
         refine rg_done (by kernel_rfl) ?_
         exact ⟨B, (.slice (some ⟨go, oo, none⟩) out.length oc), (.bool true), (.bool true), (.slice (some ⟨go, oo, none⟩) out.length oc), (.int .i64 j), (.pointer (some ⟨go, oo + j * 2, none⟩)), (.pointer (some ⟨go, oo + j * 2, none⟩)), (.slice ya y.path.length yc), (.slice (some ⟨gl, ol, none⟩) L.length pc), (.int .i64 k), (.pointer (some ⟨gl, ol + k, none⟩)), (.slice xa x.length xc), (.bool B), (by simp only [Act.put, sA, sZ, sS]), hSy1, HFN.out⟩
        ·
         have hjI : ¬ (j : Int) < (out.length : Int) := by omega
         have HFN : Hid (addL l ds x out = insAt out j ⟨x, spansOf (flOf (histV l x ds 0 [] 0).1)⟩) := Lib.hid (by unfold addL; rw [HJ.out, dif_neg hjl, if_neg (by decide)])
         refine rg_begin (S := Sx wk) (by kernel_rfl) (Sx.begin _) ?_
         have hSy : Sx wk (World.drew wk) := (Sx.begin _)
         refine rg_t 0 (some 48) (.int .i64 j) rfl hSy (fun w' hs => by rfl) ?_
         simp only [Act.put, sA, sZ, sS]
         refine rg_t 1 (some 49) (.slice oa out.length oc) rfl hSy (fun w' hs => by rfl) ?_
         simp only [Act.put, sA, sZ, sS]
         refine rg_t 2 (some 50) (.int .i64 out.length) rfl hSy (fun w' hs => by first | rfl | go_simp) ?_
         simp only [Act.put, sA, sZ, sS]
         refine rg_t 3 (some 51) (.bool false) rfl hSy (fun w' hs => by first | rfl | go_simp) ?_
         simp only [Act.put, sA, sZ, sS]
         refine rg_t 4 (some 52) (.bool false) rfl hSy (fun w' hs => by rfl) ?_
         simp only [Act.put, sA, sZ, sS]
         refine rg_s 5 (some 53) rfl hSy ?_
         simp only [Act.put, sA, sZ, sS]
         refine rg_s 6 (some 54) rfl hSy ?_
         simp only [Act.put, sA, sZ, sS]
         refine rg_s 7 (some 55) rfl hSy ?_
         simp only [Act.put, sA, sZ, sS]
         refine rg_s 8 (some 56) rfl hSy ?_
         simp only [Act.put, sA, sZ, sS]
         refine rg_s 9 (some 57) rfl hSy ?_
         simp only [Act.put, sA, sZ, sS]
         refine rg_s 10 (some 58) rfl hSy ?_
         simp only [Act.put, sA, sZ, sS]
         refine rg_s 11 (some 59) rfl hSy ?_
         simp only [Act.put, sA, sZ, sS]
         refine rg_s 12 (some 60) rfl hSy ?_
         simp only [Act.put, sA, sZ, sS]
         refine rg_s 13 (some 61) rfl hSy ?_
         simp only [Act.put, sA, sZ, sS]
         refine rg_s 14 (some 62) rfl hSy ?_
         simp only [Act.put, sA, sZ, sS]
         refine rg_t 15 (some 63) (.bool false) rfl hSy (fun w' hs => by rfl) ?_
         simp only [Act.put, sA, sZ, sS]
         refine rg_done (by kernel_rfl) ?_
         exact ⟨false, (.slice oa out.length oc), (.bool false), (.bool false), (undef), (undef), (undef), (undef), (undef), (undef), (undef), (undef), (undef), (undef), (by simp only [Act.put, sA, sZ, sS]), hSy, .inr ⟨rfl, HFN.out⟩⟩
       rintro _ wm ⟨bd, x49d, x51d, x52d, x53d, x54d, x55d, x56d, x57d, x58d, x59d, x60d, x61d, x62d, rfl, hSm, hPm⟩
       simp only [Act.put, sA, sZ, sS]
       have hEm : Ext wk wm := hSm
       have hQm := hQ.trans (hJk.trans hEm)
       have hRm := hRj.ext hEm
       rcases hPm with ⟨rfl, hA⟩ | ⟨rfl, hA⟩
       ·
        have HN : Hid (Rep wm (fun _ => True) (.slice oa out.length oc) (livesD out) ∧ livesI l ds (ds.drop (i + 1)) (livesJ l ds (L.drop (k + 1)) out) = R) := Lib.hid ⟨hRm, by have := HM.out.2; rw [HS.out, hA] at this; exact this⟩
        clear hA HJ hRm hRj hxr x0 lgl hSm hEm
        go_wp2_with fail
        go_roundw
        case rel => exact ⟨k + 1, out, oa, oc, by go_num, rfl, by omega, by omega, hQm, HN⟩
        case measure => simp only [downV]; omega
       ·
        have HNX : Hid (livesI l ds (ds.drop (i + 1)) (livesJ l ds (L.drop (k + 1)) (insAt out j ⟨x, spansOf (flOf (histV l x ds 0 [] 0).1)⟩)) = R) := Lib.hid (by have := HM.out.2; rw [HS.out, hA] at this; exact this)
        have hXm := hX1.trans hQm
        have HHI := Lib.hid (history_any l ds x (fun _ => True) (.slice la l.length lc) _ (.slice xa x.length xc) wm (fun d hd => (HCN.out d hd).1) HOK.out hxb (by omega) ((HVS.out.1.ext hXm).ok fun _ _ => trivial) ((HVS.out.2.ext hXm).ok fun _ _ => trivial) (hxr.ext hEm))
        have x0m := hEm.keep lgl x0
        have lglm : gl < wm.heap.size := Nat.lt_of_lt_of_le lgl hEm.size
        have hxrm := hxr.ext hEm
        obtain ⟨V, hV⟩ : ∃ V, spansOf (flOf (histV l x ds 0 [] 0).1) = V := ⟨_, rfl⟩
        obtain ⟨mo, hmo⟩ : ∃ m, (histV l x ds 0 [] 0).2 = m := ⟨_, rfl⟩
        rw [hV] at HNX HHI
        rw [hmo] at HHI
        clear hA HJ hRj hxr x0 lgl hSm hEm hV hmo HS
        go_wp2_with fail
        refine HHI.out.mono ?_
        rintro e wh ⟨⟨sv, rfl, hsv⟩, hBh⟩
        obtain ⟨va, vc, rfl, _, _⟩ := hsv.count z_span (by omega)
        have x0 := hBh.keep lglm x0m
        have lgl : gl < wh.heap.size := Nat.lt_of_lt_of_le lglm hBh.size
        have hxr := hxrm.ext hBh
        have hRh := hRm.ext hBh
        have hQh := hQm.trans hBh
        obtain ⟨us, hus, hul, hTk, hDr, _⟩ := rep_src hRh unLfs szLfs
        obtain ⟨vt, hvt, evt⟩ := hTk j hj
        obtain ⟨vd, hvd2, evd⟩ := hDr j hj
        have hvd := hvd2
        have h1u := hus.one (flat_one one_life out)
        have hjI : (j : Int) ≤ (out.length : Int) := by omega
        have HSV := Lib.hid (And.intro hsv (And.intro hxr hus))
        clear HHI x0m lglm hxrm hRm hRh hQm hTk hDr hsv hvd2 hxr hus hul
        go_wp2_with fail
        refine rg_begin (S := Sx wh) (by kernel_rfl) (Sx.begin _) ?_
        have hSs : Sx wh (World.drew wh) := (Sx.begin _)
        refine rg_t 1 (some 75) (.slice oa out.length oc) rfl hSs (fun w' hs => by rfl) ?_
        simp only [Act.put, sA, sZ, sS]
        refine rg_t 2 (some 76) (.int .i64 j) rfl hSs (fun w' hs => by rfl) ?_
        simp only [Act.put, sA, sZ, sS]
        refine rg_t 3 (some 77) (vt) rfl hSs (fun w' hs => by exact exec_slice rfl (evt w')) ?_
        simp only [Act.put, sA, sZ, sS]
        refine rg_t 5 (some 79) (.slice (some ⟨gl, ol, none⟩) L.length pc) rfl hSs (fun w' hs => by rfl) ?_
        simp only [Act.put, sA, sZ, sS]
        refine rg_t 6 (some 80) (.int .i64 k) rfl hSs (fun w' hs => by rfl) ?_
        simp only [Act.put, sA, sZ, sS]
        refine rg_t 7 (some 81) (.pointer (some ⟨gl, ol + k, none⟩)) rfl hSs (fun w' hs => by first | rfl | go_simp) ?_
        simp only [Act.put, sA, sZ, sS]
        refine rg_t 8 (some 82) (.slice xa x.length xc) rfl hSs (fun w' hs => by (have h0 := hs.cell lgl x0; go_simp)) ?_
        simp only [Act.put, sA, sZ, sS]
        refine rg_t 9 (some 83) (.slice va V.length vc) rfl hSs (fun w' hs => by rfl) ?_
        simp only [Act.put, sA, sZ, sS]
        refine rg_t 10 (some 84) (.agg #[.slice xa x.length xc, .slice va V.length vc]) rfl hSs (fun w' hs => by first | rfl | go_simp) ?_
        simp only [Act.put, sA, sZ, sS]
        refine rg_t 13 (some 87) (.slice oa out.length oc) rfl hSs (fun w' hs => by rfl) ?_
        simp only [Act.put, sA, sZ, sS]
        refine rg_t 14 (some 88) (.int .i64 j) rfl hSs (fun w' hs => by rfl) ?_
        simp only [Act.put, sA, sZ, sS]
        refine rg_t 15 (some 89) (vd) rfl hSs (fun w' hs => by exact exec_slice rfl (evd w')) ?_
        simp only [Act.put, sA, sZ, sS]
        refine rg_row 0 11 4 12 74 85 78 86 77 84 49 55 j0 (.agg #[.slice none 0 0, .slice none 0 0]) 2 48 rfl rfl rfl rfl Tryz.underlying49 ji jz0 jz1 jz2 rfl (by decide) (.agg #[.slice xa x.length xc, .slice va V.length vc]) (vt) [.slice xa x.length xc, .slice va V.length vc] (us.take (j * 2)) (j) rfl rfl (hvt.ext hSs) (fun u hu => h1u u (List.mem_of_mem_take hu)) (by intro u hu; simp at hu; rcases hu with rfl | rfl <;> rfl) rfl (by omega) (by decide) (fun w' h => hSs.ext h) (fun ev W => by first | rfl | go_simp) (fun ev W hK hX => by first | rfl | go_simp) ?_
        intro gas gbs v2s v3s wxs hEs hrs hSs
        simp only [Act.put, sA, sZ, sS]
        have hrs := (show World.ownsRow wxs wh.heap.size _ _ _ _ _ from hrs)
        refine rg_one 16 (by kernel_rfl) ?_
        refine tk_src 16 (some 90) rfl rfl (by rfl) (.tmp 86) (.tmp 89) 49 rfl wh.heap.size 55 j0 (.agg #[.slice none 0 0, .slice none 0 0]) 2 48 Tryz.underlying49 ji jz0 jz1 jz2 rfl (by decide) v3s (j + 1) (us.take (j * 2) ++ ([.slice xa x.length xc, .slice va V.length vc] : List Value)) rfl hrs vd (out.length - j) (us.drop (j * 2)) rfl (hvd.ext (show Ext wh wxs from hSs)) (fun u hu => h1u u (List.mem_of_mem_drop hu)) (by unfold maxLen; omega) (by omega) (show Ext wh wxs from hSs).size ?_
        intro v4 w4 hr4 hg4 ha4
        have hS4 : Sx wh w4 := sx_grown hSs hrs hg4
        refine ⟨hS4, ?_⟩
        simp only [Act.put, sA, sZ, sS]
        refine rg_t 17 (some 5) (v4) rfl hS4 (fun w' hs => by rfl) ?_
        simp only [Act.put, sA, sZ, sS]
        refine rg_done (by kernel_rfl) ?_
        have hE4 : Ext wh w4 := hS4
        have hins : Rep w4 (fun _ => True) v4 (livesD (insAt out j ⟨x, V⟩)) := (Rep.ins z_life HSV.out.2.2 (Reps.cons HSV.out.2.1 (Reps.cons (HSV.out.1.ok fun _ _ => trivial) (Reps.nil _ _)) : Reps wh (fun _ => True) [.slice xa x.length xc, .slice va V.length vc] (lifeC ⟨x, V⟩)) hE4 hr4).ok fun _ _ => trivial
        obtain ⟨O2, hO2⟩ : ∃ O, insAt out j ⟨x, V⟩ = O := ⟨_, rfl⟩
        have hO2l : O2.length = out.length + 1 := by rw [← hO2, insAt_len]
        rw [hO2] at hins HNX
        obtain ⟨ua, uc, rfl, _, _⟩ := hins.count z_life (by omega)
        have HN := Lib.hid (And.intro hins HNX.out)
        have hQ4 := hQh.trans hE4
        clear hins HNX HSV hr4 hg4 ha4 hvt evt hvd evd h1u hS4 hrs hSs hEs hO2
        go_wp2_with fail
        go_roundw
        case rel => exact ⟨k + 1, O2, ua, uc, by go_num, rfl, by omega, by omega, hQ4, HN⟩
        case measure => simp only [downV]; omega
    ·
     have hkI : ¬ (k : Int) < (L.length : Int) := by omega
     have HN : Hid (Rep wr (fun _ => True) (.slice oa out.length oc) (livesD out) ∧ livesI l ds (ds.drop (i + 1)) out = R) := Lib.hid ⟨HM.out.1, by have := HM.out.2; rw [List.drop_of_length_le (l := L) (by omega), livesJ] at this; exact this⟩
     have hX2 := hX1.trans hQ
     clear HM
     go_wp2_with fail
     go_roundw
     case rel => exact ⟨i + 1, out, oa, oc, by go_num, rfl, by omega, by omega, hX2, HN⟩
     case measure => simp only [downV]; omega
  ·
   have hlI : ¬ (i : Int) < (ds.length : Int) := by omega
   have HN : Hid (out = R) := Lib.hid (by have := HI.out.2; rw [List.drop_of_length_le (by omega), livesI] at this; exact this)
   have HF := Lib.hid HI.out.1
   clear HI
   go_wp2_with fail
   go_ret
   exact ⟨⟨_, rfl, by rw [← HN.out]; exact HF.out⟩, hX⟩

end Go.Proofs.YtkelpbbekeelcaaGreatDoor

/-
 ivset.First and Last, at sets that are some. Helper lemmas; no statement of the seat is proved here.
-/
namespace Go.Proofs.YtkelpbbekeelcaaGreatDoor
open Go.RowKit
set_option maxRecDepth 100000
set_option linter.unusedVariables false
set_option linter.unusedSimpArgs false

theorem mayI_of : ∀ (l : List Span) (lo ahead : Int), mayG lo l → 1 ≤ lo → (ahead < 0 ∨ ahead + 2 ≤ lo) → mayI l ahead = true
 | [], _, _, _, _, _ => rfl
 | s :: r, lo, ahead, ⟨h1, h2, h3, h4⟩, h, ha => by
  have v1 : verB s.a = true := decide_eq_true (by omega)
  have v2 : verB s.b = true := decide_eq_true (by omega)
  rw [mayI, if_pos v1, if_pos v2, if_neg (by omega), if_neg (by omega)]
  exact mayI_of r _ _ h4 (by omega) (.inr (Int.le_refl _))
theorem lastS_get : ∀ (l : List Span) (h : l.length - 1 < l.length), lastS l = l[l.length - 1].b
 | [], h => absurd h (Nat.not_lt_zero _)
 | [s], h => rfl
 | s :: t :: r, h => by
  rw [lastS, lastS_get (t :: r) (by simp)]
  simp
set_option maxHeartbeats 4000000 in
theorem first_any (x : List Span) (hm : mayG 1 x) (hne : x ≠ []) (p : Nat → Prop) (v : Value) (w : World) (h : Rep w p v (spansD x)) :
  Calls Tryz.prog 20 #[v] w fun e w' => e = .returned (.int .i64 (firstS x)) ∧ Ext w w' := by
 have HM := Lib.hid (may_set x p v w h)
 rw [mayI_of x 1 (-1) hm (by omega) (.inl (by omega))] at HM
 cases x with
 | nil => exact absurd rfl hne
 | cons s r =>
  obtain ⟨a, c, rfl, hc1, hc2⟩ := h.count z_span (by omega)
  have hl : 0 < (s :: r).length := by simp
  obtain ⟨g, o, rfl, lg, _, d0, d1⟩ := span_at h 0 hl
  rw [Nat.zero_mul, Nat.add_zero] at d0
  rw [List.getElem_cons_zero] at d0
  have HD := Lib.hid (And.intro lg d0)
  obtain ⟨n, hn⟩ : ∃ n, (s :: r).length = n := ⟨_, rfl⟩
  rw [hn] at HM hl hc1
  rw [hn]
  have q0 : ((n : Int) == 0) = false := by rw [beq_eq_false_iff_ne]; omega
  have q1 : (0 : Int) < (n : Int) := by omega
  clear h hm hne d0 d1 hn
  go_enter Tryz.func20, Tryz.ntmps20
  go_wp2_with fail
  refine HM.out.mono ?_
  rintro e w1 ⟨rfl, hB1⟩
  have d0 := hB1.keep HD.out.1 HD.out.2
  go_wp2_with fail
  go_ret
  exact ⟨rfl, hB1⟩
set_option maxHeartbeats 4000000 in
theorem last_any (x : List Span) (hm : mayG 1 x) (hne : x ≠ []) (p : Nat → Prop) (v : Value) (w : World) (h : Rep w p v (spansD x)) :
  Calls Tryz.prog 22 #[v] w fun e w' => e = .returned (.int .i64 (lastS x)) ∧ Ext w w' := by
 have HM := Lib.hid (may_set x p v w h)
 rw [mayI_of x 1 (-1) hm (by omega) (.inl (by omega))] at HM
 obtain ⟨a, c, rfl, hc1, hc2⟩ := h.count z_span (by omega)
 have hl : 0 < x.length := List.length_pos_iff.2 hne
 obtain ⟨g, o, rfl, lg, _, d0, d1⟩ := span_at h (x.length - 1) (by omega)
 have hls := lastS_get x (by omega)
 rw [← hls] at d1
 obtain ⟨L, hL⟩ : ∃ L, lastS x = L := ⟨_, rfl⟩
 rw [hL] at d1
 have HL := Lib.hid hL
 have HD := Lib.hid (And.intro lg d1)
 obtain ⟨m, hmn⟩ : ∃ m, x.length - 1 = m := ⟨_, rfl⟩
 rw [hmn] at HD
 obtain ⟨n, hn⟩ : ∃ n, x.length = n := ⟨_, rfl⟩
 have hmn' : n = m + 1 := by omega
 rw [hn] at HM hl hc1
 rw [hn]
 subst hmn'
 have q0 : (((m + 1 : Nat) : Int) == 0) = false := by rw [beq_eq_false_iff_ne]; omega
 have q5 : IntKind.i64.wrap (((m + 1 : Nat) : Int) - 1) = (m : Int) := by rw [show (((m + 1 : Nat) : Int) - 1) = (m : Int) by omega]; exact IntWalk.i64_in _ (by omega)
 have m0 : (0 : Int) ≤ (m : Int) := by omega
 have q1 : (m : Int) < ((m + 1 : Nat) : Int) := by omega
 clear h hm hne d0 d1 hn hL hmn hls
 go_enter Tryz.func22, Tryz.ntmps22
 go_wp2_with fail
 refine HM.out.mono ?_
 rintro e w1 ⟨rfl, hB1⟩
 have d0 := hB1.keep HD.out.1 HD.out.2
 go_wp2_with fail
 go_ret
 exact ⟨by rw [HL.out]; rfl, hB1⟩
end Go.Proofs.YtkelpbbekeelcaaGreatDoor
