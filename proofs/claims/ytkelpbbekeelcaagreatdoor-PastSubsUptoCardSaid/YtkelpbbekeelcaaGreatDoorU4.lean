/-
  recensionref16.Find. Helper lemmas; no statement of the seat is proved here.
-/
import Derived.Test.YtkelpbbekeelcaaGreatDoorU3
import Derived.Laws.IdiomStrings
namespace Go.Proofs.YtkelpbbekeelcaaGreatDoor
open Go.RowKit
set_option maxHeartbeats 32000000
set_option maxRecDepth 100000
set_option linter.unusedVariables false
set_option linter.unusedSimpArgs false
def lastAt (s : Step) : List Step → Nat → Int → Int
  | [], _, r => r
  | a :: x, i, r => lastAt s x (i + 1) (if stepB a s = true then (i : Int) else r)
theorem lastAt_range (s : Step) (m : Nat) : ∀ (x : List Step) (i : Nat) (r : Int), i + x.length ≤ m → r < m → -1 ≤ r → lastAt s x i r < m ∧ -1 ≤ lastAt s x i r
  | [], i, r, _, h, h' => ⟨h, h'⟩
  | a :: x, i, r, hi, h, h' => by
    rw [List.length_cons] at hi
    unfold lastAt
    split
    · exact lastAt_range s m x (i + 1) _ (by omega) (by omega) (by omega)
    · exact lastAt_range s m x (i + 1) _ (by omega) h h'
def kidAt (l : List Rule) (n : Node) (path : List Bytes) (s : Step) : Node := n.kids.getD (lastAt s (stepsS l path n.kids) 0 (-1)).toNat zeroN
def walkF (l : List Rule) : Node → List Bytes → List Step → Nat → Node × Nat
  | n, _, [], i => (n, i)
  | n, path, s :: r, i => if lastAt s (stepsS l path n.kids) 0 (-1) < 0 then (zeroN, i) else walkF l (kidAt l n path s) (path ++ [(kidAt l n path s).name]) r (i + 1)
def findF (l : List Rule) (n : Node) : List Step → Node × Nat
  | [] => (zeroN, 0)
  | s :: r => if n.kind = 1 ∧ stepB ⟨n.name, []⟩ s = true then walkF l n [n.name] r 1 else (zeroN, 0)
def RetN (p : Nat → Prop) (r : Node × Nat) (e : Ending) (w : World) : Prop :=
  ∃ xa xk, e = .returned (.tuple #[.agg #[.int .i64 r.1.kind, .string (bs r.1.name), .string (bs r.1.text), xa, xk], .int .i64 r.2]) ∧ Rep w p xa (attrsD r.1.attrs) ∧ Rep w p xk (nodesD r.1.kids)
theorem B5.block {W W' : World} {b : Nat} {n : Node} {xa xk : Value} (h : B5 W b n xa xk) (hl : W.heap.size ≤ W'.heap.size) (hb : W'.heap[b]? = W.heap[b]?) : B5 W' b n xa xk :=
  ⟨Nat.lt_of_lt_of_le h.lt hl, (World.cell?_of_block hb).trans h.c0, (World.cell?_of_block hb).trans h.c1, (World.cell?_of_block hb).trans h.c2, (World.cell?_of_block hb).trans h.c3, (World.cell?_of_block hb).trans h.c4,
   (World.frozen?_of_block hb).trans h.f0, (World.frozen?_of_block hb).trans h.f1, (World.frozen?_of_block hb).trans h.f2, (World.frozen?_of_block hb).trans h.f3, (World.frozen?_of_block hb).trans h.f4⟩
theorem st5_size (W : World) (b : Nat) (n : Node) (xa xk : Value) : (st5 W b n xa xk).heap.size = W.heap.size := by unfold st5; simp
theorem st5_block (W : World) (b : Nat) (n : Node) (xa xk : Value) {k : Nat} (h : k ≠ b) : (st5 W b n xa xk).heap[k]? = W.heap[k]? := by
  unfold st5
  rw [Below.heap_setCell _ _ _ _ (by simpa using h), Below.heap_setCell _ _ _ _ (by simpa using h), Below.heap_setCell _ _ _ _ (by simpa using h), Below.heap_setCell _ _ _ _ (by simpa using h), Below.heap_setCell _ _ _ _ (by simpa using h)]
theorem own_st5 {W : World} {base : Nat} {e : TypeId} {z : Nat} {v : Value} {k : Nat} {us : List Value} (h : W.ownsRow base e z v k us) {b : Nat} (hb : b < base) (n : Node) (xa xk : Value) : (st5 W b n xa xk).ownsRow base e z v k us :=
  ownsRow_setCell_below (ownsRow_setCell_below (ownsRow_setCell_below (ownsRow_setCell_below (ownsRow_setCell_below h hb _) hb _) hb _) hb _) hb _
theorem load_node {W : World} {b : Nat} {n : Node} {xa xk : Value} (h : B5 W b n xa xk) : (loadVar 60 ⟨b, 0, none⟩).run Tryz.prog W = .ok (.agg #[.int .i64 n.kind, .string (bs n.name), .string (bs n.text), xa, xk]) W := by
  have c0 := h.c0; have c1 := h.c1; have c2 := h.c2; have c3 := h.c3; have c4 := h.c4
  go_simp
theorem res_node {fn : Func} {t u : Tmp} {T : TypeId} (h : fn.results = #[.cell t T, .tmp u]) (tmps : Array Value) (P : Program) (w : World) (ad : Addr) {v : Value} (ha : tmps.getD t undef = .pointer (some ad)) (hl : (loadVar T ad).run P w = .ok v w) :
    (results fn tmps).run P w = .ok (.tuple #[v, tmps.getD u undef]) w := by
  have ha' : tmps[t]?.getD undef = .pointer (some ad) := by simpa using ha
  simp [results, h, ha', asAddr, hl]
theorem findf_any (l : List Rule) (a : Node) (x : List Step) (p : Nat → Prop) (vl va vk vx : Value) (w : World) (hcnt : cntN a ≤ 1048576) (hok : RulesOk l) (hxl : x.length ≤ 1048576)
    (hvl : Rep w p vl (rulesD l)) (hva : Rep w p va (attrsD a.attrs)) (hvk : Rep w p vk (nodesD a.kids)) (hvx : Rep w p vx (stepsD x)) (hnm : a.name.length ≤ 9223372036854775807) :
    Calls Tryz.prog 21 #[vl, .agg #[.int .i64 a.kind, .string (bs a.name), .string (bs a.text), va, vk], vx] w fun e w' => RetN p (findF l a x) e w' ∧ Ext w w' := by
  obtain ⟨la, lc, rfl, hlc1, hlc2⟩ := hvl.count z_rule (by omega)
  obtain ⟨ba, ca, rfl, _, _⟩ := hva.count z_attr (by omega)
  obtain ⟨bk, ck, rfl, _, _⟩ := hvk.count z_node (by omega)
  obtain ⟨bx, cx, rfl, hx1, hx2⟩ := hvx.count z_step (by omega)
  obtain ⟨i0, hi, hz0, hz1', hz2⟩ := info_parts infoStr
  obtain ⟨R, hR⟩ : ∃ R, findF l a x = R := ⟨_, rfl⟩
  rw [hR]
  by_cases hx0 : 0 < x.length
  · have hx0I : ((x.length : Int) == 0) = false := by rw [beq_eq_false_iff_ne]; omega
    have hxp : (0 : Int) < (x.length : Int) := by omega
    obtain ⟨gx, ox, kx, rfl, lgx, _, s0, s1, hrx⟩ := step_at hvx 0 hx0
    rw [Nat.zero_mul, Nat.add_zero] at s0 s1
    have HR : Hid ((if a.kind = 1 ∧ stepB ⟨a.name, []⟩ x[0] = true then walkF l a [a.name] (x.drop 1) 1 else (zeroN, 0)) = R) := Lh (by
      have e : x = x[0] :: x.drop 1 := by have := drop_one x 0 hx0; simpa using this
      rw [← hR]; conv => rhs; rw [e]
      rfl)
    obtain ⟨s, hs⟩ : ∃ s, x[0] = s := ⟨_, rfl⟩
    rw [hs] at s0 hrx HR
    clear hs hR
    by_cases hk : a.kind = 1
    · have hk1 : (a.kind != 1) = false := by rw [hk]; rfl
      obtain ⟨B, hB⟩ : ∃ B, stepB ⟨a.name, []⟩ s = B := ⟨_, rfl⟩
      have HC := Lh fun W (hE : Ext w W) => step_any p p (⟨a.name, []⟩ : Step) s (.slice none 0 0) kx W (.nil 1) (hrx.ext hE)
      rw [hB] at HC HR
      have HK := Lh hk
      clear hB hrx hk
      go_enter Tryz.func21, Tryz.ntmps21
      go_wp2_with fail
      obtain ⟨w1, hw1⟩ : ∃ w1, ((w.alloc (.cells #[.int .i64 a.kind, .string (bs a.name), .string (bs a.text), .slice ba a.attrs.length ca, .slice bk a.kids.length ck] 60)).alloc (.cells #[.int .i64 0, .string ⟨#[]⟩, .string ⟨#[]⟩, .slice none 0 0, .slice none 0 0] 60)) = w1 := ⟨_, rfl⟩
      have hE1 : Ext w w1 := by rw [← hw1]; exact ((Ext.refl w).alloc _).alloc _
      have hz1 : w1.heap.size = w.heap.size + 2 := by rw [← hw1]; simp
      have hbx : B5 w1 w.heap.size a (.slice ba a.attrs.length ca) (.slice bk a.kids.length ck) := by
        rw [← hw1]
        exact B5.ext ⟨by simp, by simp [go_sem], by simp [go_sem], by simp [go_sem], by simp [go_sem], by simp [go_sem], by simp [go_sem], by simp [go_sem], by simp [go_sem], by simp [go_sem], by simp [go_sem]⟩ ((Ext.refl _).alloc _)
      have hbr : B5 w1 (w.heap.size + 1) zeroN (.slice none 0 0) (.slice none 0 0) := by
        rw [← hw1]
        exact ⟨by simp, by simp [go_sem, zeroN, Node.kind], by simp [go_sem, zeroN, Node.name]; rfl, by simp [go_sem, zeroN, Node.text]; rfl, by simp [go_sem], by simp [go_sem], by simp [go_sem], by simp [go_sem], by simp [go_sem], by simp [go_sem], by simp [go_sem]⟩
      rw [hw1]
      clear hw1
      have b0 := hbx.c0
      have b1 := hbx.c1
      have lb := hbx.lt
      have t0 := hE1.keep lgx s0
      have t1 := hE1.keep lgx s1
      have lgx1 : gx < w1.heap.size := Nat.lt_of_lt_of_le lgx hE1.size
      have HBX := Lh hbx
      have HBR := Lh hbr
      have HE1 := Lh hE1
      clear hbx hbr s0 s1
      refine rg_begin (S := Sx w1) (by kernel_rfl) (Sx.begin _) ?_
      have hS : Sx w1 (World.drew w1) := (Sx.begin _)
      refine rg_t 0 (some 13) (.slice (some ⟨gx, ox, none⟩) x.length cx) rfl hS (fun w' hs => by rfl) ?_
      simp only [Act.put, sA, sZ, sS]
      refine rg_t 1 (some 14) (.int .i64 x.length) rfl hS (fun w' hs => by first | rfl | go_simp) ?_
      simp only [Act.put, sA, sZ, sS]
      refine rg_t 2 (some 15) (.bool false) rfl hS (fun w' hs => by first | rfl | go_simp) ?_
      simp only [Act.put, sA, sZ, sS]
      refine rg_t 3 (some 16) (.bool false) rfl hS (fun w' hs => by rfl) ?_
      simp only [Act.put, sA, sZ, sS]
      refine rg_t 4 (some 17) (.pointer (some ⟨w.heap.size, 0, none⟩)) rfl hS (fun w' hs => by first | rfl | go_simp) ?_
      simp only [Act.put, sA, sZ, sS]
      refine rg_t 5 (some 18) (.int .i64 a.kind) rfl hS (fun w' hs => by (have h0 := hs.cell lb b0; go_simp)) ?_
      simp only [Act.put, sA, sZ, sS]
      refine rg_t 6 (some 19) (.bool false) rfl hS (fun w' hs => by first | rfl | go_simp) ?_
      simp only [Act.put, sA, sZ, sS]
      refine rg_t 7 (some 20) (.bool false) rfl hS (fun w' hs => by rfl) ?_
      simp only [Act.put, sA, sZ, sS]
      refine rg_t 8 (some 21) (.bool false) rfl hS (fun w' hs => by rfl) ?_
      simp only [Act.put, sA, sZ, sS]
      refine rg_t 9 (some 22) (.pointer (some ⟨w.heap.size, 1, none⟩)) rfl hS (fun w' hs => by first | rfl | go_simp) ?_
      simp only [Act.put, sA, sZ, sS]
      refine rg_t 10 (some 23) (.string (bs a.name)) rfl hS (fun w' hs => by (have h0 := hs.cell lb b1; go_simp)) ?_
      simp only [Act.put, sA, sZ, sS]
      refine rg_t 11 (some 24) (.agg #[.string (bs a.name), .slice none 0 0]) rfl hS (fun w' hs => by first | rfl | go_simp) ?_
      simp only [Act.put, sA, sZ, sS]
      refine rg_t 12 (some 25) (.slice (some ⟨gx, ox, none⟩) x.length cx) rfl hS (fun w' hs => by rfl) ?_
      simp only [Act.put, sA, sZ, sS]
      refine rg_t 13 (some 26) (.pointer (some ⟨gx, ox, none⟩)) rfl hS (fun w' hs => by first | rfl | go_simp) ?_
      simp only [Act.put, sA, sZ, sS]
      refine rg_t 14 (some 27) (.agg #[.string (bs s.n), kx]) rfl hS (fun w' hs => by (have h0 := hs.cell lgx1 t0; have h1 := hs.cell lgx1 t1; go_simp)) ?_
      simp only [Act.put, sA, sZ, sS]
      refine rg_call 15 (some 28) 47 #[.agg #[.string (bs a.name), .slice none 0 0], .agg #[.string (bs s.n), kx]] rfl rfl (by kernel_rfl) (by rfl) (fun w' => by first | rfl | go_simp) (R := fun v w' => v = .bool B ∧ Ext (World.drew w1) w') ?_ ?_
      · refine (HC.out (World.drew w1) (HE1.out.trans hS)).mono ?_
        rintro e w' ⟨rfl, h⟩
        exact ⟨_, rfl, rfl, h⟩
      rintro _ wr1 ⟨rfl, hBr1⟩
      have hS1 := hS.ext hBr1
      refine ⟨hS1, ?_⟩
      simp only [Act.put, sA, sZ, sS]
      refine rg_t 16 (some 29) (.bool (!B)) rfl hS1 (fun w' hs => by first | rfl | go_simp) ?_
      simp only [Act.put, sA, sZ, sS]
      refine rg_t 17 (some 30) (.bool (!B)) rfl hS1 (fun w' hs => by rfl) ?_
      simp only [Act.put, sA, sZ, sS]
      refine rg_done (by kernel_rfl) ?_
      have hbr1 := HBR.out.ext hS1
      have hbx1 := HBX.out.ext hS1
      have hX1 := HE1.out.trans hS1
      have hsz1 := (show Ext w1 wr1 from hS1).size
      clear HBR HBX t0 t1 b0 b1
      cases B with
      | false =>
        have HN : Hid ((zeroN, 0) = R) := Lh (by rw [← HR.out, if_neg (by simp)])
        clear HR HC
        have HRB := Lh hbr1
        have HXX := Lh hX1
        have r0 := hbr1.c0; have q0 := hbr1.f0
        have r1 := hbr1.c1; have q1 := hbr1.f1
        have r2 := hbr1.c2; have q2 := hbr1.f2
        have r3 := hbr1.c3; have q3 := hbr1.f3
        have r4 := hbr1.c4; have q4 := hbr1.f4
        go_wp2_with fail
        (try simp only [Exit.inBlock, Exit.then])
        refine bodyPost_ret (res_node rfl _ _ _ ⟨w.heap.size + 1, 0, none⟩ ?_ (load_node (B5.put (n := zeroN) (xa := .slice none 0 0) (xk := .slice none 0 0) HRB.out))) rfl ?_
        · rfl
        rw [← HN.out]
        exact ⟨⟨_, _, rfl, .nil 2, .nil 5⟩, HXX.out.st5 (by omega) zeroN _ _⟩
      | true =>
        have HN : Hid (walkF l a [a.name] (x.drop 1) 1 = R) := Lh (by rw [← HR.out, if_pos ⟨HK.out, rfl⟩])
        clear HR HC hk1
        have b1 := hbx1.c1
        have lbr := hbx1.lt
        have HH1 := Lh (And.intro hbx1 (And.intro hbr1 (And.intro hX1 (And.intro hsz1 hz1))))
        have HOK := Lh hok
        clear hbx1 hbr1 hX1 hsz1 hz1 lgx1 hE1 HE1
        go_wp2_with fail
        go_loopw [7, 8, 9, 10, 11, 12] (fun _ nv t _ _ _ wr => ∃ (i : Nat) (N : List Bytes) (m : Node) (xa xk dv : Value), t = .int .i64 i ∧ dv = nv ∧ 1 ≤ i ∧ i ≤ x.length ∧ N.length = i ∧ Ext w wr ∧ w1.heap.size ≤ wr.heap.size ∧ Hid (B5 wr w.heap.size m xa xk ∧ B5 wr (w.heap.size + 1) zeroN (.slice none 0 0) (.slice none 0 0) ∧ Rep w p xa (attrsD m.attrs) ∧ Rep w p xk (nodesD m.kids) ∧ cntN m ≤ 1048576 ∧ wr.ownsRow w1.heap.size 9 1 dv N.length (N.map fun y => Value.string (bs y)) ∧ (∀ y ∈ N, y.length ≤ 9223372036854775807) ∧ walkF l m N (x.drop i) i = R)) (fun _ _ t _ _ _ _ => downV x.length t)
        case atStart => exact ⟨1, [a.name], a, _, _, _, rfl, rfl, Nat.le_refl _, hx0, rfl, HH1.out.2.2.1.alloc _, by have := HH1.out.2.2.2.1; simp; omega, Lh ⟨HH1.out.1.ext ((Ext.refl _).alloc _), HH1.out.2.1.ext ((Ext.refl _).alloc _), hva, hvk, hcnt, World.ownsRow_lit wr1 #[.string (bs a.name)] 1 HH1.out.2.2.2.1 (by decide) rfl, by intro y hy; simp at hy; subst hy; exact hnm, HN.out⟩⟩
        case round =>
          obtain ⟨i, N, m, xa, xk, dv, rfl, rfl, hi1, hi2, hNi, hX, hlow, HH⟩ := hrel
          have HZ1 := Lh HH1.out.2.2.2.2
          clear HH1 HN hva hvk hcnt b1 lbr hnm
          obtain ⟨hbm, hbr, hxa, hxk, hcm, hown, hNy, hW⟩ := HH.out
          clear HH
          obtain ⟨xab, xac, rfl, _, _⟩ := hxa.count z_attr (by omega)
          obtain ⟨xkb, xkc, rfl, _, _⟩ := hxk.count z_node (by omega)
          have hck := cnt_kids m
          have hckl := cntL_len m.kids
          have hi0 : (0 : Int) ≤ (i : Int) := by omega
          have c0 := hbm.c0; have c1 := hbm.c1; have c2 := hbm.c2; have c3 := hbm.c3; have c4 := hbm.c4
          by_cases hlt : i < x.length
          · have hlI : (i : Int) < (x.length : Int) := by omega
            obtain ⟨g2, o2, k2, e2, lg2, _, u0, u1, hr2⟩ := step_at hvx i hlt
            cases e2
            have HS : Hid (walkF l m N (x.drop i) i = if lastAt x[i] (stepsS l N m.kids) 0 (-1) < 0 then (zeroN, i) else walkF l (m.kids.getD (lastAt x[i] (stepsS l N m.kids) 0 (-1)).toNat zeroN) (N ++ [(m.kids.getD (lastAt x[i] (stepsS l N m.kids) 0 (-1)).toNat zeroN).name]) (x.drop (i + 1)) (i + 1)) := Lh (by rw [drop_one x i hlt, walkF]; rfl)
            obtain ⟨t, ht⟩ : ∃ t, x[i] = t := ⟨_, rfl⟩
            rw [ht] at u0 hr2 HS
            have hnames : Rep wr (fun b => False ∨ w1.heap.size ≤ b) dv (strsD N) := Own.rep (p := fun _ => False) (e := 9) (n := N.length) ⟨_, hown, strs_reps wr _ N (fun k hk => hNy _ (List.getElem_mem hk))⟩
            have HSC := Lh fun W (hE : Ext wr W) => steps_any l N m (fun _ => True) (.slice la l.length lc) dv _ _ W hcm HOK.out (by omega) (by omega) ((hvl.ext (hX.trans hE)).ok fun _ _ => trivial) ((hnames.ext hE).ok fun _ _ => trivial) ((hxa.ext (hX.trans hE)).ok fun _ _ => trivial) ((hxk.ext (hX.trans hE)).ok fun _ _ => trivial)
            have hKl := stepsS_len l N m.kids
            obtain ⟨K, hK⟩ : ∃ K, stepsS l N m.kids = K := ⟨_, rfl⟩
            rw [hK] at HSC HS hKl
            have hAr := lastAt_range t m.kids.length K 0 (-1) (by omega) (by omega) (by omega)
            obtain ⟨A0, hA0⟩ : ∃ A0, lastAt t K 0 (-1) = A0 := ⟨_, rfl⟩
            rw [hA0] at HS hAr
            have HL : Hid (lastAt t (K.drop 0) 0 (-1) = A0) := Lh hA0
            have HAR := Lh hAr
            have HB := Lh (And.intro hbm (And.intro hbr (And.intro hown (And.intro hNy (And.intro hW (And.intro hxa hxk))))))
            clear hA0 hK ht hnames hAr hbm hbr hown hNy hW hxa hxk
            go_wp2_with fail
            refine (HSC.out _ (Ext.refl _)).mono ?_
            rintro e w3 ⟨⟨v10, rfl, hr10⟩, hB3⟩
            obtain ⟨a10, c10, rfl, h101, h102⟩ := hr10.count z_step (by omega)
            have hX3 := hX.trans hB3
            have hlow3 := Nat.le_trans hlow hB3.size
            have HB3 := Lh hB3
            have v0 := hX3.keep lg2 u0
            have v1 := hX3.keep lg2 u1
            have lg3 : gx < w3.heap.size := Nat.lt_of_lt_of_le lg2 hX3.size
            have hr3 := hr2.ext hX3
            clear HSC u0 u1 hr2 hB3 c0 c1 c2 c3 c4
            go_wp2_with fail
            go_loopw [11, 12] (fun av t' wq => ∃ (j : Nat) (A : Int), av = .int .i64 A ∧ t' = .int .i64 j ∧ j ≤ K.length ∧ Ext w3 wq ∧ Hid (lastAt t (K.drop j) j A = A0)) (fun _ t' _ => downV K.length t')
            case atStart => exact ⟨0, -1, rfl, rfl, Nat.zero_le _, Ext.refl _, HL⟩
            case round =>
              obtain ⟨j, A, rfl, rfl, hj, hQ, HI⟩ := hrel
              have hj0 : (0 : Int) ≤ (j : Int) := by omega
              by_cases hjl : j < K.length
              · have hjI : (j : Int) < (K.length : Int) := by omega
                obtain ⟨g1, o1, k1, rfl, lb1, _, e10, e11, hr1⟩ := step_at (hr10.ext hQ) j hjl
                have HS2 : Hid (lastAt t (K.drop j) j A = lastAt t (K.drop (j + 1)) (j + 1) (if stepB K[j] t = true then (j : Int) else A)) := Lh (by rw [drop_one K j hjl, lastAt])
                obtain ⟨y, hy⟩ : ∃ y, K[j] = y := ⟨_, rfl⟩
                rw [hy] at e10 hr1 HS2
                have u0q := hQ.keep lg3 v0
                have u1q := hQ.keep lg3 v1
                have lgq : gx < wr.heap.size := Nat.lt_of_lt_of_le lg3 hQ.size
                have HC := Lh fun W (hE : Ext wr W) => step_any _ p y t k1 k2 W (hr1.ext hE) ((hr3.ext hQ).ext hE)
                obtain ⟨B, hB⟩ : ∃ B, stepB y t = B := ⟨_, rfl⟩
                rw [hB] at HC HS2
                obtain ⟨wz, hwz⟩ : ∃ wz, wz = wr := ⟨_, rfl⟩
                subst hwz
                clear hy hB hr1
                go_wp2_with fail
                refine rg_begin (S := Sx wz) (by kernel_rfl) (Sx.begin _) ?_
                have hSz : Sx wz (World.drew wz) := (Sx.begin _)
                refine rg_t 0 (some 51) (.slice (some ⟨g1, o1, none⟩) K.length c10) rfl hSz (fun w' hs => by rfl) ?_
                simp only [Act.put, sA, sZ, sS]
                refine rg_t 1 (some 52) (.int .i64 j) rfl hSz (fun w' hs => by rfl) ?_
                simp only [Act.put, sA, sZ, sS]
                refine rg_t 2 (some 53) (.pointer (some ⟨g1, o1 + j * 2, none⟩)) rfl hSz (fun w' hs => by first | rfl | go_simp) ?_
                simp only [Act.put, sA, sZ, sS]
                refine rg_t 3 (some 54) (.agg #[.string (bs y.n), k1]) rfl hSz (fun w' hs => by (have h0 := hs.cell lb1 e10; have h1 := hs.cell lb1 e11; go_simp)) ?_
                simp only [Act.put, sA, sZ, sS]
                refine rg_t 4 (some 55) (.slice (some ⟨gx, ox, none⟩) x.length cx) rfl hSz (fun w' hs => by rfl) ?_
                simp only [Act.put, sA, sZ, sS]
                refine rg_t 5 (some 56) (.int .i64 i) rfl hSz (fun w' hs => by rfl) ?_
                simp only [Act.put, sA, sZ, sS]
                refine rg_t 6 (some 57) (.pointer (some ⟨gx, ox + i * 2, none⟩)) rfl hSz (fun w' hs => by first | rfl | go_simp) ?_
                simp only [Act.put, sA, sZ, sS]
                refine rg_t 7 (some 58) (.agg #[.string (bs t.n), k2]) rfl hSz (fun w' hs => by (have h0 := hs.cell lgq u0q; have h1 := hs.cell lgq u1q; go_simp)) ?_
                simp only [Act.put, sA, sZ, sS]
                refine rg_call 8 (some 59) 47 #[.agg #[.string (bs y.n), k1], .agg #[.string (bs t.n), k2]] rfl rfl (by kernel_rfl) (by rfl) (fun w' => by first | rfl | go_simp) (R := fun v w' => v = .bool B ∧ Ext (World.drew wz) w') ?_ ?_
                · refine (HC.out (World.drew wz) hSz).mono ?_
                  rintro e w' ⟨rfl, h⟩
                  exact ⟨_, rfl, rfl, h⟩
                rintro _ wrz1 ⟨rfl, hBrz1⟩
                have hSz1 := hSz.ext hBrz1
                refine ⟨hSz1, ?_⟩
                simp only [Act.put, sA, sZ, sS]
                refine rg_done (by kernel_rfl) ?_
                cases B with
                | true =>
                  have HN : Hid (lastAt t (K.drop (j + 1)) (j + 1) j = A0) := Lh (by rw [← HI.out, HS2.out, if_pos rfl])
                  clear HS2 HI
                  go_wp2_with fail
                  go_roundw
                  case rel => exact ⟨j + 1, j, rfl, by go_num, by omega, hQ.trans hSz1, HN⟩
                  case measure => simp only [downV]; omega
                | false =>
                  have HN : Hid (lastAt t (K.drop (j + 1)) (j + 1) A = A0) := Lh (by rw [← HI.out, HS2.out, if_neg (by simp)])
                  clear HS2 HI
                  go_wp2_with fail
                  go_roundw
                  case rel => exact ⟨j + 1, A, rfl, by go_num, by omega, hQ.trans hSz1, HN⟩
                  case measure => simp only [downV]; omega
              · have hjI : ¬ (j : Int) < (K.length : Int) := by omega
                have hA : A = A0 := by have := HI.out; rw [List.drop_of_length_le (by omega), lastAt] at this; exact this
                have hAr := HAR.out
                rw [← hA] at hAr HS
                obtain ⟨hbm0, hbr0, hown0, hNy, hW, hxa, hxk⟩ := HB.out
                have hE0 := HB3.out.trans hQ
                have hbmq := hbm0.ext hE0
                have hbrq := hbr0.ext hE0
                have hownq := rows_ext hown0 hE0
                have hXq := hX3.trans hQ
                have hlowr : w1.heap.size ≤ wr.heap.size := Nat.le_trans hlow3 hQ.size
                clear hA HI HAR HL HB HB3 hbm0 hbr0 hown0 hE0 v0 v1 hr3 hr10
                by_cases hneg : A < 0
                · have HN : Hid ((zeroN, i) = R) := Lh (by rw [← hW, HS.out, if_pos hneg])
                  clear HS hW hAr hbmq hownq hxa hxk hNy
                  have HRB := Lh hbrq
                  have HXX := Lh hXq
                  have r0 := hbrq.c0; have q0 := hbrq.f0
                  have r1 := hbrq.c1; have q1 := hbrq.f1
                  have r2 := hbrq.c2; have q2 := hbrq.f2
                  have r3 := hbrq.c3; have q3 := hbrq.f3
                  have r4 := hbrq.c4; have q4 := hbrq.f4
                  go_wp2_with fail
                  (try simp only [Exit.inBlock, Exit.then])
                  refine bodyPost_ret (res_node rfl _ _ _ ⟨w.heap.size + 1, 0, none⟩ ?_ (load_node (B5.put (n := zeroN) (xa := .slice none 0 0) (xk := .slice none 0 0) HRB.out))) rfl ?_
                  · rfl
                  rw [← HN.out]
                  exact ⟨⟨_, _, rfl, .nil 2, .nil 5⟩, HXX.out.st5 (by omega) zeroN _ _⟩
                · obtain ⟨n, hn⟩ : ∃ n : Nat, A = (n : Int) := ⟨A.toNat, by omega⟩
                  subst hn
                  have hnl : n < m.kids.length := by omega
                  have hnI : (n : Int) < (m.kids.length : Int) := by omega
                  have hn0 : (0 : Int) ≤ (n : Int) := by omega
                  obtain ⟨gk, ok, ya, yk, rfl, lgk, _, d0, d1, d2, d3, d4, hya, hyk⟩ := node_at hxk n hnl
                  have hzc := cntL_mem m.kids n hnl
                  have hznm := (node_len hxk n hnl).1
                  have HN : Hid (walkF l m.kids[n] (N ++ [m.kids[n].name]) (x.drop (i + 1)) (i + 1) = R) := Lh (by
                    rw [← hW, HS.out, if_neg hneg, Int.toNat_natCast, List.getD_eq_getElem?_getD, List.getElem?_eq_getElem hnl]; rfl)
                  obtain ⟨z, hz⟩ : ∃ z, m.kids[n] = z := ⟨_, rfl⟩
                  rw [hz] at d0 d1 d2 hya hyk hzc hznm HN
                  obtain ⟨yab, yac, rfl, _, _⟩ := hya.count z_attr (by omega)
                  obtain ⟨ykb, ykc, rfl, _, _⟩ := hyk.count z_node (by omega)
                  have n0 := hXq.keep lgk d0; have n1 := hXq.keep lgk d1; have n2 := hXq.keep lgk d2; have n3 := hXq.keep lgk d3; have n4 := hXq.keep lgk d4
                  have p0 := hbmq.c0; have p1 := hbmq.c1; have p2 := hbmq.c2; have p3 := hbmq.c3; have p4 := hbmq.c4
                  have t0 := hbmq.f0; have t1 := hbmq.f1; have t2 := hbmq.f2; have t3 := hbmq.f3; have t4 := hbmq.f4
                  have hz1 := HZ1.out
                  have hbl : w.heap.size < w1.heap.size := by omega
                  have hs4 := st5_size wr w.heap.size z (.slice yab z.attrs.length yac) (.slice ykb z.kids.length ykc)
                  have hown4 := (own_st5 hownq hbl z (.slice yab z.attrs.length yac) (.slice ykb z.kids.length ykc)).alloc (.cells #[.string (bs z.name)] 9)
                  have hnew := new_one (w := st5 wr w.heap.size z (.slice yab z.attrs.length yac) (.slice ykb z.kids.length ykc)) (u := .string (bs z.name)) (e := 9)
                  rw [hs4] at hnew
                  have HF := Lh (And.intro hown4 (And.intro hnew (And.intro (B5.put (n := z) (xa := .slice yab z.attrs.length yac) (xk := .slice ykb z.kids.length ykc) hbmq) (And.intro hbrq (And.intro hya (And.intro hyk (And.intro hNy (And.intro hs4 hz1))))))))
                  clear hz hW HS hAr hxa hxk d0 d1 d2 d3 d4 hbmq hbrq hownq hown4 hnew hs4 hNy hya hyk hneg hz1
                  go_wp2_with (at_builtin; refine wpList_append_own_at _ rfl (.tmp 70) (.tmp 73) _ rfl w1.heap.size 9 i0 (.string ⟨#[]⟩) 1 16 Tryz.underlying29 hi hz0 hz1' hz2 rfl (by decide) dv N.length (N.map fun y => Value.string (bs y)) rfl HF.out.1 ⟨wr.heap.size, 0, none⟩ 1 1 [.string (bs z.name)] rfl rfl HF.out.2.1 (by intro u hu; simp at hu; rcases hu with rfl; rfl) (by unfold maxLen; omega) (by omega) (by simp; omega) ?_; intro v2 w5 hown5 hgrow5 _ hat5)
                  have hE4 : Ext w ((st5 wr w.heap.size z (.slice yab z.attrs.length yac) (.slice ykb z.kids.length ykc)).alloc (.cells #[.string (bs z.name)] 9)) := (hXq.st5 (Nat.le_refl _) z _ _).alloc _
                  obtain ⟨hown4, _, hbz, hbrq, hya, hyk, hNy, hs4, hz1⟩ := HF.out
                  have hne : ∀ b, b < w1.heap.size → some b ≠ dv.ownBlock := fun b hb e => by have := (hown4.lt b e.symm).1; omega
                  have hX5 : Ext w w5 := Below.grown hE4 hgrow5 (Below.size hE4) fun k hk => by have := (hown4.lt k hk).1; omega
                  have hbz4 := hbz.ext ((Ext.refl _).alloc (.cells #[.string (bs z.name)] 9))
                  have hbz5 : B5 w5 w.heap.size z _ _ := hbz4.block hgrow5.size (hgrow5.block _ hbz4.lt (hne _ hbl))
                  have hbr4 := (B5.block (W' := st5 wr w.heap.size z (.slice yab z.attrs.length yac) (.slice ykb z.kids.length ykc)) hbrq (by rw [hs4]; exact Nat.le_refl _) (st5_block _ _ _ _ _ (by omega))).ext ((Ext.refl _).alloc (.cells #[.string (bs z.name)] 9))
                  have hbr5 : B5 w5 (w.heap.size + 1) zeroN _ _ := hbr4.block hgrow5.size (hgrow5.block _ hbr4.lt (hne _ (by omega)))
                  have hlow5 : w1.heap.size ≤ w5.heap.size := Nat.le_trans (show w1.heap.size ≤ ((st5 wr w.heap.size z (.slice yab z.attrs.length yac) (.slice ykb z.kids.length ykc)).alloc (.cells #[.string (bs z.name)] 9)).heap.size from by simp [hs4]; omega) hgrow5.size
                  clear hgrow5 HF hbz4 hbr4 hbz hbrq hE4 hne hown4 hat5 n0 n1 n2 n3 n4 p0 p1 p2 p3 p4 t0 t1 t2 t3 t4
                  go_wp2_with fail
                  go_roundw
                  case rel => exact ⟨_, v2, .int .i64 ((i : Int) + 1), ⟨i + 1, by first | rfl | go_num, by omega, by omega, N ++ [z.name], by simp; omega, hX5, hlow5, z, _, _, Lh ⟨hbz5, hbr5, hya, hyk, by omega, by simpa using hown5, by intro y hy; rcases List.mem_append.1 hy with h | h; exact hNy y h; simp at h; subst h; exact hznm, HN.out⟩⟩, rfl, rfl, rfl⟩
                  case measure => simp only [downV]; omega
          · have hlI : ¬ (i : Int) < (x.length : Int) := by omega
            have hie : i = x.length := by omega
            have HN : Hid ((m, x.length) = R) := Lh (by rw [← hW, List.drop_of_length_le (by omega), walkF, hie])
            have HRB := Lh hbr
            have HXX := Lh (And.intro hX (And.intro hxa hxk))
            have r0 := hbr.c0; have q0 := hbr.f0
            have r1 := hbr.c1; have q1 := hbr.f1
            have r2 := hbr.c2; have q2 := hbr.f2
            have r3 := hbr.c3; have q3 := hbr.f3
            have r4 := hbr.c4; have q4 := hbr.f4
            clear hW hown hNy hxa hxk hbm hbr hie
            go_wp2_with fail
            (try simp only [Exit.inBlock, Exit.then])
            refine bodyPost_ret (res_node rfl _ _ _ ⟨w.heap.size + 1, 0, none⟩ ?_ (load_node (B5.put (n := m) (xa := .slice xab m.attrs.length xac) (xk := .slice xkb m.kids.length xkc) HRB.out))) rfl ?_
            · rfl
            rw [← HN.out]
            have hX6 := HXX.out.1.st5 (b := w.heap.size + 1) (by omega) m (.slice xab m.attrs.length xac) (.slice xkb m.kids.length xkc)
            exact ⟨⟨_, _, rfl, HXX.out.2.1.ext hX6, HXX.out.2.2.ext hX6⟩, hX6⟩
    · have hk1 : (a.kind != 1) = true := by rw [bne_iff_ne]; exact hk
      have HN : Hid ((zeroN, 0) = R) := Lh (by rw [← HR.out, if_neg (fun h => hk h.1)])
      clear HR hk
      go_enter Tryz.func21, Tryz.ntmps21
      go_wp2_with fail
      obtain ⟨w1, hw1⟩ : ∃ w1, ((w.alloc (.cells #[.int .i64 a.kind, .string (bs a.name), .string (bs a.text), .slice ba a.attrs.length ca, .slice bk a.kids.length ck] 60)).alloc (.cells #[.int .i64 0, .string ⟨#[]⟩, .string ⟨#[]⟩, .slice none 0 0, .slice none 0 0] 60)) = w1 := ⟨_, rfl⟩
      have hE1 : Ext w w1 := by rw [← hw1]; exact ((Ext.refl w).alloc _).alloc _
      have hz1 : w1.heap.size = w.heap.size + 2 := by rw [← hw1]; simp
      have hbx : B5 w1 w.heap.size a (.slice ba a.attrs.length ca) (.slice bk a.kids.length ck) := by
        rw [← hw1]
        exact B5.ext ⟨by simp, by simp [go_sem], by simp [go_sem], by simp [go_sem], by simp [go_sem], by simp [go_sem], by simp [go_sem], by simp [go_sem], by simp [go_sem], by simp [go_sem], by simp [go_sem]⟩ ((Ext.refl _).alloc _)
      have hbr : B5 w1 (w.heap.size + 1) zeroN (.slice none 0 0) (.slice none 0 0) := by
        rw [← hw1]
        exact ⟨by simp, by simp [go_sem, zeroN, Node.kind], by simp [go_sem, zeroN, Node.name]; rfl, by simp [go_sem, zeroN, Node.text]; rfl, by simp [go_sem], by simp [go_sem], by simp [go_sem], by simp [go_sem], by simp [go_sem], by simp [go_sem], by simp [go_sem]⟩
      rw [hw1]
      clear hw1
      have b0 := hbx.c0
      have b1 := hbx.c1
      have lb := hbx.lt
      refine rg_begin (S := Sx w1) (by kernel_rfl) (Sx.begin _) ?_
      have hS : Sx w1 (World.drew w1) := (Sx.begin _)
      refine rg_t 0 (some 13) (.slice (some ⟨gx, ox, none⟩) x.length cx) rfl hS (fun w' hs => by rfl) ?_
      simp only [Act.put, sA, sZ, sS]
      refine rg_t 1 (some 14) (.int .i64 x.length) rfl hS (fun w' hs => by first | rfl | go_simp) ?_
      simp only [Act.put, sA, sZ, sS]
      refine rg_t 2 (some 15) (.bool false) rfl hS (fun w' hs => by first | rfl | go_simp) ?_
      simp only [Act.put, sA, sZ, sS]
      refine rg_t 3 (some 16) (.bool false) rfl hS (fun w' hs => by rfl) ?_
      simp only [Act.put, sA, sZ, sS]
      refine rg_t 4 (some 17) (.pointer (some ⟨w.heap.size, 0, none⟩)) rfl hS (fun w' hs => by first | rfl | go_simp) ?_
      simp only [Act.put, sA, sZ, sS]
      refine rg_t 5 (some 18) (.int .i64 a.kind) rfl hS (fun w' hs => by (have h0 := hs.cell lb b0; go_simp)) ?_
      simp only [Act.put, sA, sZ, sS]
      refine rg_t 6 (some 19) (.bool true) rfl hS (fun w' hs => by first | rfl | go_simp) ?_
      simp only [Act.put, sA, sZ, sS]
      refine rg_t 7 (some 20) (.bool true) rfl hS (fun w' hs => by rfl) ?_
      simp only [Act.put, sA, sZ, sS]
      refine rg_t 8 (some 21) (.bool true) rfl hS (fun w' hs => by rfl) ?_
      simp only [Act.put, sA, sZ, sS]
      refine rg_s 9 (some 22) rfl hS ?_
      simp only [Act.put, sA, sZ, sS]
      refine rg_s 10 (some 23) rfl hS ?_
      simp only [Act.put, sA, sZ, sS]
      refine rg_s 11 (some 24) rfl hS ?_
      simp only [Act.put, sA, sZ, sS]
      refine rg_s 12 (some 25) rfl hS ?_
      simp only [Act.put, sA, sZ, sS]
      refine rg_s 13 (some 26) rfl hS ?_
      simp only [Act.put, sA, sZ, sS]
      refine rg_s 14 (some 27) rfl hS ?_
      simp only [Act.put, sA, sZ, sS]
      refine rg_s 15 (some 28) rfl hS ?_
      simp only [Act.put, sA, sZ, sS]
      refine rg_s 16 (some 29) rfl hS ?_
      simp only [Act.put, sA, sZ, sS]
      refine rg_t 17 (some 30) (.bool true) rfl hS (fun w' hs => by rfl) ?_
      simp only [Act.put, sA, sZ, sS]
      refine rg_done (by kernel_rfl) ?_
      have hbr1 := hbr.ext hS
      have hX1 := hE1.trans hS
      clear hS
      obtain ⟨wz, hwz⟩ : ∃ wz, World.drew w1 = wz := ⟨_, rfl⟩
      rw [hwz] at hbr1 hX1 ⊢
      clear hwz
      have HRB := Lh hbr1
      have HXX := Lh hX1
      have r0 := hbr1.c0; have q0 := hbr1.f0
      have r1 := hbr1.c1; have q1 := hbr1.f1
      have r2 := hbr1.c2; have q2 := hbr1.f2
      have r3 := hbr1.c3; have q3 := hbr1.f3
      have r4 := hbr1.c4; have q4 := hbr1.f4
      go_wp2_with fail
      (try simp only [Exit.inBlock, Exit.then])
      refine bodyPost_ret (res_node rfl _ _ _ ⟨w.heap.size + 1, 0, none⟩ ?_ (load_node (B5.put (n := zeroN) (xa := .slice none 0 0) (xk := .slice none 0 0) HRB.out))) rfl ?_
      · rfl
      rw [← HN.out]
      exact ⟨⟨_, _, rfl, .nil 2, .nil 5⟩, HXX.out.st5 (by omega) zeroN _ _⟩
  · have hx0I : ((x.length : Int) == 0) = true := by rw [beq_iff_eq]; omega
    have HN : Hid ((zeroN, 0) = R) := Lh (by
      have e : x = [] := List.eq_nil_of_length_eq_zero (by omega)
      rw [← hR, e]; rfl)
    clear hR
    go_enter Tryz.func21, Tryz.ntmps21
    go_wp2_with fail
    obtain ⟨w1, hw1⟩ : ∃ w1, ((w.alloc (.cells #[.int .i64 a.kind, .string (bs a.name), .string (bs a.text), .slice ba a.attrs.length ca, .slice bk a.kids.length ck] 60)).alloc (.cells #[.int .i64 0, .string ⟨#[]⟩, .string ⟨#[]⟩, .slice none 0 0, .slice none 0 0] 60)) = w1 := ⟨_, rfl⟩
    have hE1 : Ext w w1 := by rw [← hw1]; exact ((Ext.refl w).alloc _).alloc _
    have hz1 : w1.heap.size = w.heap.size + 2 := by rw [← hw1]; simp
    have hbx : B5 w1 w.heap.size a (.slice ba a.attrs.length ca) (.slice bk a.kids.length ck) := by
      rw [← hw1]
      exact B5.ext ⟨by simp, by simp [go_sem], by simp [go_sem], by simp [go_sem], by simp [go_sem], by simp [go_sem], by simp [go_sem], by simp [go_sem], by simp [go_sem], by simp [go_sem], by simp [go_sem]⟩ ((Ext.refl _).alloc _)
    have hbr : B5 w1 (w.heap.size + 1) zeroN (.slice none 0 0) (.slice none 0 0) := by
      rw [← hw1]
      exact ⟨by simp, by simp [go_sem, zeroN, Node.kind], by simp [go_sem, zeroN, Node.name]; rfl, by simp [go_sem, zeroN, Node.text]; rfl, by simp [go_sem], by simp [go_sem], by simp [go_sem], by simp [go_sem], by simp [go_sem], by simp [go_sem], by simp [go_sem]⟩
    rw [hw1]
    clear hw1
    have b0 := hbx.c0
    have b1 := hbx.c1
    have lb := hbx.lt
    refine rg_begin (S := Sx w1) (by kernel_rfl) (Sx.begin _) ?_
    have hS : Sx w1 (World.drew w1) := (Sx.begin _)
    refine rg_t 0 (some 13) (.slice bx x.length cx) rfl hS (fun w' hs => by rfl) ?_
    simp only [Act.put, sA, sZ, sS]
    refine rg_t 1 (some 14) (.int .i64 x.length) rfl hS (fun w' hs => by first | rfl | go_simp) ?_
    simp only [Act.put, sA, sZ, sS]
    refine rg_t 2 (some 15) (.bool true) rfl hS (fun w' hs => by first | rfl | go_simp) ?_
    simp only [Act.put, sA, sZ, sS]
    refine rg_t 3 (some 16) (.bool true) rfl hS (fun w' hs => by rfl) ?_
    simp only [Act.put, sA, sZ, sS]
    refine rg_s 4 (some 17) rfl hS ?_
    simp only [Act.put, sA, sZ, sS]
    refine rg_s 5 (some 18) rfl hS ?_
    simp only [Act.put, sA, sZ, sS]
    refine rg_s 6 (some 19) rfl hS ?_
    simp only [Act.put, sA, sZ, sS]
    refine rg_t 7 (some 20) (.bool true) rfl hS (fun w' hs => by rfl) ?_
    simp only [Act.put, sA, sZ, sS]
    refine rg_t 8 (some 21) (.bool true) rfl hS (fun w' hs => by rfl) ?_
    simp only [Act.put, sA, sZ, sS]
    refine rg_s 9 (some 22) rfl hS ?_
    simp only [Act.put, sA, sZ, sS]
    refine rg_s 10 (some 23) rfl hS ?_
    simp only [Act.put, sA, sZ, sS]
    refine rg_s 11 (some 24) rfl hS ?_
    simp only [Act.put, sA, sZ, sS]
    refine rg_s 12 (some 25) rfl hS ?_
    simp only [Act.put, sA, sZ, sS]
    refine rg_s 13 (some 26) rfl hS ?_
    simp only [Act.put, sA, sZ, sS]
    refine rg_s 14 (some 27) rfl hS ?_
    simp only [Act.put, sA, sZ, sS]
    refine rg_s 15 (some 28) rfl hS ?_
    simp only [Act.put, sA, sZ, sS]
    refine rg_s 16 (some 29) rfl hS ?_
    simp only [Act.put, sA, sZ, sS]
    refine rg_t 17 (some 30) (.bool true) rfl hS (fun w' hs => by rfl) ?_
    simp only [Act.put, sA, sZ, sS]
    refine rg_done (by kernel_rfl) ?_
    have hbr1 := hbr.ext hS
    have hX1 := hE1.trans hS
    clear hS
    obtain ⟨wz, hwz⟩ : ∃ wz, World.drew w1 = wz := ⟨_, rfl⟩
    rw [hwz] at hbr1 hX1 ⊢
    clear hwz
    have HRB := Lh hbr1
    have HXX := Lh hX1
    have r0 := hbr1.c0; have q0 := hbr1.f0
    have r1 := hbr1.c1; have q1 := hbr1.f1
    have r2 := hbr1.c2; have q2 := hbr1.f2
    have r3 := hbr1.c3; have q3 := hbr1.f3
    have r4 := hbr1.c4; have q4 := hbr1.f4
    go_wp2_with fail
    (try simp only [Exit.inBlock, Exit.then])
    refine bodyPost_ret (res_node rfl _ _ _ ⟨w.heap.size + 1, 0, none⟩ ?_ (load_node (B5.put (n := zeroN) (xa := .slice none 0 0) (xk := .slice none 0 0) HRB.out))) rfl ?_
    · rfl
    rw [← HN.out]
    exact ⟨⟨_, _, rfl, .nil 2, .nil 5⟩, HXX.out.st5 (by omega) zeroN _ _⟩
def histV (l : List Rule) (x : List Step) : List Node → Nat → List Int → Nat → List Int × Nat
 | [], _, L, m => (L, m)
 | d :: r, i, L, m => histV l x r (i + 1) (if (findF l d x).2 = x.length ∧ 0 < (findF l d x).2 then L ++ [(i : Int) + 1] else L) (max m (findF l d x).2)
theorem max_int (m g : Nat) : Value.int .i64 (if m < g then (g : Int) else (m : Int)) = .int .i64 ((max m g : Nat) : Int) := by
 congr 1
 split <;> omega
theorem ints_reps (w : World) (p : Nat → Prop) : ∀ l : List Int, Reps w p (l.map fun y => Value.int .i64 y) (l.flatMap fun y => [intD y])
 | [] => Reps.nil _ _
 | y :: r => Reps.cons (Rep.int _ _ _ _) (ints_reps w p r)
theorem history_any (l : List Rule) (ds : List Node) (x : List Step) (p : Nat → Prop) (vl vd vx : Value) (w : World) (hcnt : ∀ d ∈ ds, cntN d ≤ 1048576) (hok : RulesOk l) (hxl : x.length ≤ 1048576) (hdl : ds.length ≤ 1048576)
  (hvl : Rep w p vl (rulesD l)) (hvd : Rep w p vd (nodesD ds)) (hvx : Rep w p vx (stepsD x)) :
  Calls Tryz.prog 13 #[vl, vd, vx] w fun e w' => (∃ sv, e = .returned (.tuple #[sv, .int .i64 (histV l x ds 0 [] 0).2]) ∧ Rep w' (fun b => w.heap.size ≤ b) sv (spansD (spansOf (flOf (histV l x ds 0 [] 0).1)))) ∧ Ext w w' := by
 obtain ⟨la, lc, rfl, _, _⟩ := hvl.count z_rule (by omega)
 obtain ⟨da, dc, rfl, _, _⟩ := hvd.count z_node (by omega)
 obtain ⟨bx, cx, rfl, _, _⟩ := hvx.count z_step (by omega)
 obtain ⟨i0, hi0', hz0, hz1, hz2⟩ := info_parts infoInt
 obtain ⟨R, hR⟩ : ∃ R, histV l x ds 0 [] 0 = R := ⟨_, rfl⟩
 rw [hR]
 have HR : Hid (histV l x (ds.drop 0) 0 [] 0 = R) := Lh hR
 have HCN := Lh hcnt
 have HOK := Lh hok
 clear hR hcnt hok
 go_enter Tryz.func13, Tryz.ntmps13
 go_wp2_with fail
 go_loopw [8, 9, 10, 11, 12] (fun nv mv t _ _ wr => ∃ (i m : Nat) (L : List Int) (dv : Value), t = .int .i64 i ∧ mv = .int .i64 m ∧ dv = nv ∧ i ≤ ds.length ∧ L.length ≤ i ∧ Ext w wr ∧ Hid (wr.ownsRow w.heap.size 3 1 dv L.length (L.map fun y => Value.int .i64 y) ∧ histV l x (ds.drop i) i L m = R)) (fun _ _ t _ _ _ => downV ds.length t)
 case atStart => exact ⟨0, 0, [], _, rfl, rfl, rfl, Nat.zero_le _, Nat.le_refl _, Ext.refl _, Lh ⟨World.ownsRow_nil _ _ _ _, HR.out⟩⟩
 case round =>
  obtain ⟨i, m, L, dv, rfl, rfl, rfl, hi, hL, hX, HH⟩ := hrel
  clear HR
  have hi0 : (0 : Int) ≤ (i : Int) := by omega
  by_cases hlt : i < ds.length
  ·
   have hlI : (i : Int) < (ds.length : Int) := by omega
   obtain ⟨gd, od, ya, yk, rfl, lgd, _, d0, d1, d2, d3, d4, hya, hyk⟩ := node_at hvd i hlt
   have hcd := HCN.out _ (List.getElem_mem hlt)
   have hnm := (node_len hvd i hlt).1
   have HS : Hid (histV l x (ds.drop i) i L m = histV l x (ds.drop (i + 1)) (i + 1) (if (findF l ds[i] x).2 = x.length ∧ 0 < (findF l ds[i] x).2 then L ++ [(i : Int) + 1] else L) (max m (findF l ds[i] x).2)) := Lh (by rw [drop_one ds i hlt, histV])
   obtain ⟨d, hd⟩ : ∃ d, ds[i] = d := ⟨_, rfl⟩
   rw [hd] at d0 d1 d2 hya hyk hcd hnm HS
   have n0 := hX.keep lgd d0; have n1 := hX.keep lgd d1; have n2 := hX.keep lgd d2; have n3 := hX.keep lgd d3; have n4 := hX.keep lgd d4
   have HFC := Lh fun W (hE : Ext wr W) => findf_any l d x p _ _ _ _ W hcd HOK.out hxl (hvl.ext (hX.trans hE)) (hya.ext (hX.trans hE)) (hyk.ext (hX.trans hE)) (hvx.ext (hX.trans hE)) hnm
   obtain ⟨yab, yac, rfl, _, _⟩ := hya.count z_attr (by omega)
   obtain ⟨ykb, ykc, rfl, _, _⟩ := hyk.count z_node (by omega)
   obtain ⟨G, hG⟩ : ∃ G, findF l d x = G := ⟨_, rfl⟩
   rw [hG] at HFC HS
   obtain ⟨gn, g⟩ := G
   clear hd hG d0 d1 d2 d3 d4 hya hyk hcd
   go_wp2_with fail
   refine (HFC.out _ (Ext.refl _)).mono ?_
   rintro e w3 ⟨⟨xa, xk, rfl, hxa, hxk⟩, hB3⟩
   simp only at hxa hxk
   obtain ⟨xab, xac, rfl, _, _⟩ := hxa.count z_attr (by omega)
   obtain ⟨xkb, xkc, rfl, _, _⟩ := hxk.count z_node (by omega)
   clear hxa hxk
   have hown := HH.out.1
   have hW := HH.out.2
   have hlow : w.heap.size ≤ w3.heap.size := Nat.le_trans hX.size hB3.size
   have hX3 := hX.trans hB3
   have hE4 : Ext w ((w3.alloc (.cells #[.int .i64 gn.kind, .string (bs gn.name), .string (bs gn.text), .slice xab gn.attrs.length xac, .slice xkb gn.kids.length xkc] 60))) := hX3.alloc _
   have hown3 := (rows_ext hown hB3).alloc (.cells #[.int .i64 gn.kind, .string (bs gn.name), .string (bs gn.text), .slice xab gn.attrs.length xac, .slice xkb gn.kids.length xkc] 60)
   by_cases he : g = x.length ∧ 0 < g
   ·
    obtain ⟨he1, he2⟩ := he
    have q1 : ((g : Int) == (x.length : Int)) = true := by rw [he1]; exact beq_self_eq_true _
    have q2 : (0 : Int) < (g : Int) := by omega
    have HN : Hid (histV l x (ds.drop (i + 1)) (i + 1) (L ++ [(i : Int) + 1]) (max m g) = R) := Lh (by rw [← hW, HS.out, if_pos ⟨he1, he2⟩])
    have HO := Lh (And.intro hown3 hE4)
    clear HS hW hown hown3 hE4 HH he1 he2 hX3
    go_wp2_with (at_builtin; refine wpList_append_own_at _ rfl (.tmp 40) (.tmp 43) _ rfl w.heap.size 3 i0 (.int .i64 0) 1 8 Tryz.underlying88 hi0' hz0 hz1 hz2 rfl (by decide) dv L.length (L.map fun y => Value.int .i64 y) rfl (HO.out.1.alloc _) ⟨w3.heap.size + 1, 0, none⟩ 1 1 [.int .i64 ((i : Int) + 1)] rfl rfl (by intro j u hj; match j, hj with | 0, hj => simp at hj; subst hj; simp [go_sem]) (by intro u hu; simp at hu; rcases hu with rfl; rfl) (by unfold maxLen; omega) (by omega) (by simp; omega) ?_; intro v2 w5 hown5 hgrow5 _ hat5)
    have hX5 : Ext w w5 := Below.grown (HO.out.2.alloc (.cells #[.int .i64 ((i : Int) + 1)] 3)) hgrow5 (Below.size (HO.out.2.alloc (.cells #[.int .i64 ((i : Int) + 1)] 3))) fun k hk => ((HO.out.1.alloc (.cells #[.int .i64 ((i : Int) + 1)] 3)).lt k hk).1
    clear hgrow5 hat5 HO
    go_roundw
    case rel => exact ⟨i + 1, max m g, L ++ [(i : Int) + 1], v2, by go_num, max_int m g, rfl, by omega, by simp; omega, hX5, Lh ⟨by simpa using hown5, HN.out⟩⟩
    case measure => simp only [downV]; omega
   ·
    have HN : Hid (histV l x (ds.drop (i + 1)) (i + 1) L (max m g) = R) := Lh (by rw [← hW, HS.out, if_neg he])
    have HO := Lh (And.intro hown3 hE4)
    by_cases he1 : g = x.length
    ·
     have q1 : ((g : Int) == (x.length : Int)) = true := by rw [he1]; exact beq_self_eq_true _
     have q2 : ¬ (0 : Int) < (g : Int) := by omega
     clear HS hW hown hown3 hE4 HH he he1 hX3
     go_wp2_with fail
     go_roundw
     case rel => exact ⟨i + 1, max m g, L, dv, by go_num, max_int m g, rfl, by omega, by omega, HO.out.2, Lh ⟨HO.out.1, HN.out⟩⟩
     case measure => simp only [downV]; omega
    ·
     have q1 : ((g : Int) == (x.length : Int)) = false := by rw [beq_eq_false_iff_ne]; omega
     clear HS hW hown hown3 hE4 HH he he1 hX3
     go_wp2_with fail
     go_roundw
     case rel => exact ⟨i + 1, max m g, L, dv, by go_num, max_int m g, rfl, by omega, by omega, HO.out.2, Lh ⟨HO.out.1, HN.out⟩⟩
     case measure => simp only [downV]; omega
  ·
   have hlI : ¬ (i : Int) < (ds.length : Int) := by omega
   have HN : Hid ((L, m) = R) := Lh (by rw [← HH.out.2, List.drop_of_length_le (by omega), histV])
   have hrep : Rep wr (fun b => False ∨ w.heap.size ≤ b) dv (intsD L) := Own.rep (p := fun _ => False) (e := 3) (n := L.length) ⟨_, HH.out.1, ints_reps wr _ L⟩
   have HC := Lh (of_any _ L dv wr hrep)
   clear HH hrep
   go_wp2_with fail
   refine HC.out.mono ?_
   rintro e w3 ⟨⟨sv, rfl, hsv⟩, hB3⟩
   go_wp2_with fail
   go_ret2
   refine ⟨⟨sv, by rw [← HN.out]; rfl, ?_⟩, hX.trans hB3⟩
   rw [← HN.out]
   exact hsv.ok fun b hb => Nat.le_trans hX.size hb
def numsD (k : IntKind) (l : List Int) : DV := .s 1 (l.flatMap fun c => [.v (.int k c)])
theorem z_num (k : IntKind) (x : Int) : ([.v (.int k x)] : List DV).length = 1 := rfl
theorem num_at {w : World} {p : Nat → Prop} {a : Option Addr} {len cap : Nat} {k : IntKind} {l : List Int} (h : Rep w p (.slice a len cap) (numsD k l)) (i : Nat) (hi : i < l.length) :
  ∃ b off, a = some ⟨b, off, none⟩ ∧ b < w.heap.size ∧ p b ∧ w.cell? ⟨b, off + i, none⟩ = some (.int k l[i]) := by
 obtain ⟨b, off, ha, hb, hp, hc⟩ := elem_at (z_num k) h (by omega) i hi
 obtain ⟨u, hu, hr⟩ := hc 0 _ rfl
 rw [Nat.mul_one, Nat.add_zero] at hu
 exact ⟨b, off, ha, hb, hp, by rw [hu, hr.is]⟩
def byI (s : Bytes) : List Int := s.map fun c => (c.toNat : Int)
theorem byI_len (s : Bytes) : (byI s).length = s.length := by simp [byI]
theorem byI_at (s : Bytes) (i : Nat) (h : i < (byI s).length) : 0 ≤ (byI s)[i] ∧ (byI s)[i] < 256 := by
 have h1 : i < s.length := by simpa [byI] using h
 have h' : (byI s)[i] = ((s[i]'h1).toNat : Int) := by simp [byI]
 have := (s[i]'h1).toNat_lt
 rw [h']
 omega
theorem new_row {w : World} {e : TypeId} {cs : Array Value} {fz : Nat × Nat} {us : List Value} {z cap : Nat} {len : Nat} {es : List DV} (W : World) (hW : W.heap[w.heap.size]? = some (.cells cs e fz)) (hl : es.length = len * z) (hu : us.length = len * z) (hc : len ≤ cap) (hm : cap ≤ 9223372036854775807)
  (hcs : ∀ (k : Nat) (u : Value), us[k]? = some u → cs[k]? = some u) (hr : ∀ (k : Nat) (u : Value) (d : DV), us[k]? = some u → es[k]? = some d → Rep W (fun b => w.heap.size ≤ b) u d) :
  Rep W (fun b => w.heap.size ≤ b) (.slice (some ⟨w.heap.size, 0, none⟩) len cap) (.s z es) :=
 .row _ 0 len cap z us es (fun _ => Nat.le_refl _) hl hu hc hm (fun k u hk => by rw [Nat.zero_add]; simp [World.cell?, hW, hcs k u hk]) hr
theorem nums_reps (w : World) (p : Nat → Prop) (k : IntKind) : ∀ l : List Int, Reps w p (l.map fun y => Value.int k y) (l.flatMap fun y => [.v (.int k y)])
 | [] => Reps.nil _ _
 | y :: r => Reps.cons (Rep.int _ _ _ _) (nums_reps w p k r)
theorem conv_bytes (w : World) (s : Bytes) (h : s.length ≤ 9223372036854775807) : ∃ v W, (convert 9 157 (.string (bs s))).run Tryz.prog w = .ok v W ∧ Ext w W ∧ Rep W (fun b => w.heap.size ≤ b) v (numsD .u8 (byI s)) := by
 have hsz : (bs s).size = s.length := bs_size s
 have hl : (bs s).size ≤ maxLen := by rw [hsz]; unfold maxLen; omega
 have hg := grownCap_le_maxLen w (bs s).size 0 5 hl
 have hge := grownCap_ge w (bs s).size 0 5
 refine ⟨_, _, run_bytes_of_string w 9 157 5 (bs s) Tryz.underlying9 Tryz.underlying157 Tryz.underlying5, (Ext.refl w).drew.alloc _, ?_⟩
 rw [hsz] at hg hge ⊢
 unfold maxLen at hg
 refine new_row (us := (byI s).map fun y => Value.int .u8 y) (cs := bytesRow (bs s) (grownCap w s.length 0 5)) (e := 5) _ (Array.getElem?_push_size ..) (by rw [flat_len _ 1 (z_num .u8), byI_len]) (by simp [byI_len]) hge (by omega) (fun k u hk => ?_) (nums_reps _ _ _ _).2
 unfold bytesRow
 rw [List.getElem?_map] at hk
 have hlt : k < s.length := by
  rcases Nat.lt_or_ge k s.length with h' | h'
  ·
   exact h'
  ·
   rw [List.getElem?_eq_none (by rw [byI_len]; exact h')] at hk; cases hk
 rw [Array.getElem?_append_left (by simp [hsz, hlt])]
 rw [List.getElem?_eq_getElem (by rw [byI_len]; exact hlt)] at hk
 simp [byI, bs, hlt] at hk ⊢
 exact hk
theorem in_any (r a b : Int) (w : World) : Calls Tryz.prog 145 #[.int .i32 r, .int .i32 a, .int .i32 b] w fun e w' => SomeB (fun _ => True) e ∧ w' = w := by
 by_cases h1 : a ≤ r
 ·
  by_cases h2 : r ≤ b
  ·
   go_enter Tryz.func145, Tryz.ntmps145
   go_wp2_with fail
   go_ret
   exact ⟨⟨_, rfl, trivial⟩, rfl⟩
  ·
   go_enter Tryz.func145, Tryz.ntmps145
   go_wp2_with fail
   go_ret
   exact ⟨⟨_, rfl, trivial⟩, rfl⟩
 ·
  go_enter Tryz.func145, Tryz.ntmps145
  go_wp2_with fail
  go_ret
  exact ⟨⟨_, rfl, trivial⟩, rfl⟩
theorem begins_any (r : Int) (w : World) : Calls Tryz.prog 131 #[.int .i32 r] w fun e w' => SomeB (fun _ => True) e ∧ w' = w := by
 go_enter Tryz.func131, Tryz.ntmps131
 go_wp2_with fail
 refine (in_any _ _ _ _).mono ?_
 rintro _ _ ⟨⟨b0, rfl, _⟩, rfl⟩
 cases b0 with
 | true =>
  go_wp2_with fail
  go_ret
  exact ⟨⟨_, rfl, trivial⟩, rfl⟩
 | false =>
  by_cases h95 : r = 95
  ·
   subst h95
   go_wp2_with fail
   go_ret
   exact ⟨⟨_, rfl, trivial⟩, rfl⟩
  ·
   have e95 : (r == 95) = false := by simpa using h95
   go_wp2_with fail
   refine (in_any _ _ _ _).mono ?_
   rintro _ _ ⟨⟨b2, rfl, _⟩, rfl⟩
   cases b2 with
   | true =>
    go_wp2_with fail
    go_ret
    exact ⟨⟨_, rfl, trivial⟩, rfl⟩
   | false =>
    go_wp2_with fail
    refine (in_any _ _ _ _).mono ?_
    rintro _ _ ⟨⟨b3, rfl, _⟩, rfl⟩
    cases b3 with
    | true =>
     go_wp2_with fail
     go_ret
     exact ⟨⟨_, rfl, trivial⟩, rfl⟩
    | false =>
     go_wp2_with fail
     refine (in_any _ _ _ _).mono ?_
     rintro _ _ ⟨⟨b4, rfl, _⟩, rfl⟩
     cases b4 with
     | true =>
      go_wp2_with fail
      go_ret
      exact ⟨⟨_, rfl, trivial⟩, rfl⟩
     | false =>
      go_wp2_with fail
      refine (in_any _ _ _ _).mono ?_
      rintro _ _ ⟨⟨b5, rfl, _⟩, rfl⟩
      cases b5 with
      | true =>
       go_wp2_with fail
       go_ret
       exact ⟨⟨_, rfl, trivial⟩, rfl⟩
      | false =>
       go_wp2_with fail
       refine (in_any _ _ _ _).mono ?_
       rintro _ _ ⟨⟨b6, rfl, _⟩, rfl⟩
       cases b6 with
       | true =>
        go_wp2_with fail
        go_ret
        exact ⟨⟨_, rfl, trivial⟩, rfl⟩
       | false =>
        go_wp2_with fail
        refine (in_any _ _ _ _).mono ?_
        rintro _ _ ⟨⟨b7, rfl, _⟩, rfl⟩
        cases b7 with
        | true =>
         go_wp2_with fail
         go_ret
         exact ⟨⟨_, rfl, trivial⟩, rfl⟩
        | false =>
         go_wp2_with fail
         refine (in_any _ _ _ _).mono ?_
         rintro _ _ ⟨⟨b8, rfl, _⟩, rfl⟩
         cases b8 with
         | true =>
          go_wp2_with fail
          go_ret
          exact ⟨⟨_, rfl, trivial⟩, rfl⟩
         | false =>
          go_wp2_with fail
          refine (in_any _ _ _ _).mono ?_
          rintro _ _ ⟨⟨b9, rfl, _⟩, rfl⟩
          cases b9 with
          | true =>
           go_wp2_with fail
           go_ret
           exact ⟨⟨_, rfl, trivial⟩, rfl⟩
          | false =>
           go_wp2_with fail
           refine (in_any _ _ _ _).mono ?_
           rintro _ _ ⟨⟨b10, rfl, _⟩, rfl⟩
           cases b10 with
           | true =>
            go_wp2_with fail
            go_ret
            exact ⟨⟨_, rfl, trivial⟩, rfl⟩
           | false =>
            go_wp2_with fail
            refine (in_any _ _ _ _).mono ?_
            rintro _ _ ⟨⟨b11, rfl, _⟩, rfl⟩
            cases b11 with
            | true =>
             go_wp2_with fail
             go_ret
             exact ⟨⟨_, rfl, trivial⟩, rfl⟩
            | false =>
             go_wp2_with fail
             refine (in_any _ _ _ _).mono ?_
             rintro _ _ ⟨⟨b12, rfl, _⟩, rfl⟩
             cases b12 with
             | true =>
              go_wp2_with fail
              go_ret
              exact ⟨⟨_, rfl, trivial⟩, rfl⟩
             | false =>
              go_wp2_with fail
              refine (in_any _ _ _ _).mono ?_
              rintro _ _ ⟨⟨b13, rfl, _⟩, rfl⟩
              cases b13 with
              | true =>
               go_wp2_with fail
               go_ret
               exact ⟨⟨_, rfl, trivial⟩, rfl⟩
              | false =>
               go_wp2_with fail
               refine (in_any _ _ _ _).mono ?_
               rintro _ _ ⟨⟨b14, rfl, _⟩, rfl⟩
               go_wp2_with fail
               go_ret
               exact ⟨⟨_, rfl, trivial⟩, rfl⟩
theorem goeson_any (r : Int) (w : World) : Calls Tryz.prog 132 #[.int .i32 r] w fun e w' => SomeB (fun _ => True) e ∧ w' = w := by
 go_enter Tryz.func132, Tryz.ntmps132
 go_wp2_with fail
 refine (begins_any _ _).mono ?_
 rintro _ _ ⟨⟨b1, rfl, _⟩, rfl⟩
 cases b1 with
 | true =>
  go_wp2_with fail
  go_ret
  exact ⟨⟨_, rfl, trivial⟩, rfl⟩
 | false =>
  by_cases h45 : r = 45
  ·
   subst h45
   go_wp2_with fail
   go_ret
   exact ⟨⟨_, rfl, trivial⟩, rfl⟩
  ·
   have e45 : (r == 45) = false := by simpa using h45
   by_cases h46 : r = 46
   ·
    subst h46
    go_wp2_with fail
    go_ret
    exact ⟨⟨_, rfl, trivial⟩, rfl⟩
   ·
    have e46 : (r == 46) = false := by simpa using h46
    go_wp2_with fail
    refine (in_any _ _ _ _).mono ?_
    rintro _ _ ⟨⟨b4, rfl, _⟩, rfl⟩
    cases b4 with
    | true =>
     go_wp2_with fail
     go_ret
     exact ⟨⟨_, rfl, trivial⟩, rfl⟩
    | false =>
     by_cases h183 : r = 183
     ·
      subst h183
      go_wp2_with fail
      go_ret
      exact ⟨⟨_, rfl, trivial⟩, rfl⟩
     ·
      have e183 : (r == 183) = false := by simpa using h183
      go_wp2_with fail
      refine (in_any _ _ _ _).mono ?_
      rintro _ _ ⟨⟨b6, rfl, _⟩, rfl⟩
      cases b6 with
      | true =>
       go_wp2_with fail
       go_ret
       exact ⟨⟨_, rfl, trivial⟩, rfl⟩
      | false =>
       by_cases h8255 : r = 8255
       ·
        subst h8255
        go_wp2_with fail
        go_ret
        exact ⟨⟨_, rfl, trivial⟩, rfl⟩
       ·
        have e8255 : (r == 8255) = false := by simpa using h8255
        go_wp2_with fail
        go_ret
        exact ⟨⟨_, rfl, trivial⟩, rfl⟩
theorem char_any (r : Int) (w : World) : Calls Tryz.prog 147 #[.int .i32 r] w fun e w' => SomeB (fun _ => True) e ∧ w' = w := by
 by_cases h9 : r = 9
 ·
  subst h9; go_enter Tryz.func147, Tryz.ntmps147; go_wp2_with fail; go_ret; exact ⟨⟨_, rfl, trivial⟩, rfl⟩
 ·
  by_cases h10 : r = 10
  ·
   subst h10; go_enter Tryz.func147, Tryz.ntmps147; go_wp2_with fail; go_ret; exact ⟨⟨_, rfl, trivial⟩, rfl⟩
  ·
   by_cases h13 : r = 13
   ·
    subst h13; go_enter Tryz.func147, Tryz.ntmps147; go_wp2_with fail; go_ret; exact ⟨⟨_, rfl, trivial⟩, rfl⟩
   ·
    have e9 : (r == 9) = false := by simpa using h9
    have e10 : (r == 10) = false := by simpa using h10
    have e13 : (r == 13) = false := by simpa using h13
    by_cases a1 : 32 ≤ r <;> by_cases a2 : r ≤ 55295 <;> by_cases a3 : 57344 ≤ r <;> by_cases a4 : r ≤ 65533 <;> by_cases a5 : 65536 ≤ r <;> by_cases a6 : r ≤ 1114111 <;> first
     | omega
     | (go_enter Tryz.func147, Tryz.ntmps147; go_wp2_with fail; go_ret; exact ⟨⟨_, rfl, trivial⟩, rfl⟩)
def RetNums (k : IntKind) (m : Nat) (p : Nat → Prop) (e : Ending) (w' : World) : Prop := ∃ L : List Int, L.length ≤ m ∧ Ret p (numsD k L) e w'
theorem retNums_nil (k : IntKind) (m : Nat) (p : Nat → Prop) (w : World) : RetNums k m p (.returned (.slice none 0 0)) w := ⟨[], by simp, _, rfl, .nil 1⟩
theorem retNums_new (k : IntKind) (w : World) (e : TypeId) (l : List Int) (cs : Array Value) (hcs : cs = (l.map fun y => Value.int k y).toArray) (n : Nat) (hn : n = l.length) (hl : l.length ≤ 4) : RetNums k 4 (fun b => w.heap.size ≤ b) (.returned (.slice (some ⟨w.heap.size, 0, none⟩) n n)) (w.alloc (.cells cs e)) := by
 subst hcs hn
 refine ⟨l, hl, _, rfl, new_row (us := l.map fun y => Value.int k y) (cs := (l.map fun y => Value.int k y).toArray) (e := e) _ (Array.getElem?_push_size ..) (by rw [flat_len _ 1 (z_num k)]) (by simp) (Nat.le_refl _) (by omega) (fun j u hj => by simpa using hj) (nums_reps _ _ _ _).2⟩
theorem encode_some (m : Int) (w : World) (m1 : -2147483648 ≤ m) (m2 : m < 2147483648) : Calls Tryz.prog 146 #[.int .i32 m] w fun e w' => RetNums .u8 4 (fun b => w.heap.size ≤ b) e w' ∧ Ext w w' := by
 by_cases h1 : m < 0
 ·
  go_enter Tryz.func146, Tryz.ntmps146; go_wp2_with fail; go_ret; exact ⟨retNums_nil _ _ _ _, Ext.refl _⟩
 ·
  by_cases h2 : 1114111 < m
  ·
   go_enter Tryz.func146, Tryz.ntmps146; go_wp2_with fail; go_ret; exact ⟨retNums_nil _ _ _ _, Ext.refl _⟩
  ·
   by_cases h3 : 55296 ≤ m
   ·
    by_cases h4 : m ≤ 57343
    ·
     go_enter Tryz.func146, Tryz.ntmps146; go_wp2_with fail; go_ret; exact ⟨retNums_nil _ _ _ _, Ext.refl _⟩
    ·
     have n128 : ¬ m < 128 := by omega
     have n2048 : ¬ m < 2048 := by omega
     by_cases h5 : m < 65536
     ·
      go_enter Tryz.func146, Tryz.ntmps146; go_wp2_with fail; go_ret; exact ⟨retNums_new .u8 w _ [_, _, _] _ rfl 3 rfl (by simp), (Ext.refl _).alloc _⟩
     ·
      go_enter Tryz.func146, Tryz.ntmps146; go_wp2_with fail; go_ret; exact ⟨retNums_new .u8 w _ [_, _, _, _] _ rfl 4 rfl (by simp), (Ext.refl _).alloc _⟩
   ·
    have n65 : m < 65536 := by omega
    by_cases h5 : m < 128
    ·
     go_enter Tryz.func146, Tryz.ntmps146; go_wp2_with fail; go_ret; exact ⟨retNums_new .u8 w _ [_] _ rfl 1 rfl (by simp), (Ext.refl _).alloc _⟩
    ·
     by_cases h6 : m < 2048
     ·
      go_enter Tryz.func146, Tryz.ntmps146; go_wp2_with fail; go_ret; exact ⟨retNums_new .u8 w _ [_, _] _ rfl 2 rfl (by simp), (Ext.refl _).alloc _⟩
     ·
      go_enter Tryz.func146, Tryz.ntmps146; go_wp2_with fail; go_ret; exact ⟨retNums_new .u8 w _ [_, _, _] _ rfl 3 rfl (by simp), (Ext.refl _).alloc _⟩
end Go.Proofs.YtkelpbbekeelcaaGreatDoor
