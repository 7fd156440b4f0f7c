/-
  recensionlaw23.ValueSingles: the walk. Helper lemmas; no statement of the seat is proved here.
-/
import Derived.Test.YtmmopcceabdecaaGreatDoorV8
import Derived.Test.YtmmopcceabdecaaGreatDoorV10
namespace Go.Proofs.YtmmopcceabdecaaGreatDoor
open Go.RowKit Go.Shelf
set_option maxRecDepth 100000
set_option linter.unusedVariables false
set_option linter.unusedSimpArgs false

theorem sl_one (b off n c i : Nat) (W : World) (hi : i < n) (hc : n ≤ c) (hc2 : c ≤ 9223372036854775807) :
    (Instr.sliceAt 26 (.slice (some ⟨b, off, none⟩) n c) (some (.int .i64 i)) (some (.int .i64 (i + 1))) none).run Tryz.prog W = .ok (.slice (some ⟨b, off + i, none⟩) 1 (c - i)) W := by
  rw [run_sliceAt_slice W _ _ _ _ _ Tryz.underlying26, run_slice_lh W _ _ n c Tryz.underlying26 .i64 .i64 _ _ (by omega) (by omega) (by omega)]
  rw [show (sizeOf (Tryz.prog.elem 26)).run Tryz.prog W = .ok 1 W by rfl]
  simp only [Result.andThen, sliced]
  rw [show ((i : Int) + 1).toNat = i + 1 by omega, Int.toNat_natCast, show i + 1 - i = 1 by omega]
  by_cases h : c = i
  · omega
  · rw [if_neg h]
    simp only [Option.map_some, add_offs', Nat.mul_one]
theorem flat1 {α β : Type} (f : α → β) : ∀ l : List α, l.flatMap (fun c => [f c]) = l.map f
  | [] => rfl
  | a :: r => by rw [List.flatMap_cons, List.map_cons, flat1 f r]; rfl
theorem rep_one {w : World} {p : Nat → Prop} {b off n c : Nat} {ns : List Int} (h : Rep w p (.slice (some ⟨b, off, none⟩) n c) (numsD .i64 ns)) (i : Nat) (hi : i < ns.length) (hn : n = ns.length) (hc : n ≤ c) (hc2 : c ≤ 9223372036854775807) :
    Rep w p (.slice (some ⟨b, off + i, none⟩) 1 (c - i)) (numsD .i64 [ns[i]]) := by
  have := h.sub i (i + 1) (c - i) (by omega) (by omega) (by omega) (by omega)
  rw [show i + 1 - i = 1 by omega, Nat.mul_one] at this
  have e : ((ns.flatMap fun c => [DV.v (.int .i64 c)]).drop i).take (1 * 1) = [ns[i]].flatMap fun c => [DV.v (.int .i64 c)] := by
    rw [flat1, ← List.map_drop, drop_one ns i hi]
    rfl
  unfold numsD
  rw [← e]; exact this
theorem op_at (W : World) (g r : Nat) (hr : r < 6) (h : W.heap[g]? = some (.cells [.string ⟨#[61]⟩, .string ⟨#[33, 61]⟩, .string ⟨#[60]⟩, .string ⟨#[60, 61]⟩, .string ⟨#[62]⟩, .string ⟨#[62, 61]⟩].toArray 9 (0, 0))) : ∃ o ∈ OPS, W.cell? ⟨g, r, none⟩ = some (.string (bs o)) := by
  match r, hr with
  | 0, _ => exact ⟨_, List.mem_of_getElem? (i := 0) rfl, blk_cells h 0 rfl⟩
  | 1, _ => exact ⟨_, List.mem_of_getElem? (i := 1) rfl, blk_cells h 1 rfl⟩
  | 2, _ => exact ⟨_, List.mem_of_getElem? (i := 2) rfl, blk_cells h 2 rfl⟩
  | 3, _ => exact ⟨_, List.mem_of_getElem? (i := 3) rfl, blk_cells h 3 rfl⟩
  | 4, _ => exact ⟨_, List.mem_of_getElem? (i := 4) rfl, blk_cells h 4 rfl⟩
  | 5, _ => exact ⟨_, List.mem_of_getElem? (i := 5) rfl, blk_cells h 5 rfl⟩
set_option maxHeartbeats 16000000 in
theorem singles_walk (n : Node) (a b : VV) (op : Int) (ns : List Int) (p q : Nat → Prop) (va vk : Value) (w : World) (G : Glob w) (hop : 0 ≤ op ∧ op < 256) (hcnt : cntN n ≤ 1048576) (hva : Rep w p va (attrsD n.attrs)) (hvk : Rep w p vk (nodesD n.kids)) (hn : Rep w q a.nd (numsD .i64 ns)) (hb : ∃ o n c, b.nd = .slice o n c) (hbt : b.text.length ≤ 4294967280) :
    Calls Tryz.prog 3 #[.agg #[.int .i64 n.kind, .string (bs n.name), .string (bs n.text), va, vk], .agg (vvL a ++ vvL b).toArray, .int .u8 op] w fun e w' => e = .returned (.bool true) ∧ Ext w w' := by
  have HAW := Lib.hid fun W (hE : Ext w W) => awake_any W (G.ext hE)
  obtain ⟨ak, and', abo, anan, av, at'⟩ := a
  dsimp only at hn
  have HN := Lib.hid hn
  obtain ⟨a0, nc, rfl, hnc1, hnc2⟩ := hn.count (z_num .i64) (by omega)
  have HNC := Lib.hid (And.intro hnc1 hnc2)
  have HSM := Lib.hid fun W (hE : Ext w W) => lsmall_any n ⟨ak, .slice a0 ns.length nc, abo, anan, av, at'⟩ b p va vk W hcnt (hva.ext hE) (hvk.ext hE) a0 ns.length nc rfl hb
  have HTB := Lib.hid fun W (hE : Ext w W) => table_any n p va vk W hcnt (hva.ext hE) (hvk.ext hE)
  obtain ⟨na, nac, rfl, _, _⟩ := hva.count z_attr (by omega)
  obtain ⟨nk, nkc, rfl, _, _⟩ := hvk.count z_node (by omega)
  obtain ⟨bk, bnd, bbo, bnan, bv, bt⟩ := b
  obtain ⟨ba, bn, bc, hb⟩ := hb
  dsimp only at hb hbt
  subst hb
  unfold vvL at HSM ⊢
  dsimp only at HSM ⊢
  clear hva hvk hn hcnt hnc1 hnc2
  obtain ⟨wz, hwz⟩ : ∃ W', (w.alloc (.cells #[.int .i64 n.kind, .string (bs n.name), .string (bs n.text), .slice na n.attrs.length nac, .slice nk n.kids.length nkc] 25)).alloc (.cells #[.int .i64 ak, .slice a0 ns.length nc, .bool abo, .bool anan, .int .i64 av, .string (bs at'), .int .i64 bk, .slice ba bn bc, .bool bbo, .bool bnan, .int .i64 bv, .string (bs bt)] 31) = W' := ⟨_, rfl⟩
  have hE : Ext w wz := by rw [← hwz]; exact ((Ext.refl w).alloc _).alloc _
  have hA : wz.heap[w.heap.size]? = some (.cells [.int .i64 n.kind, .string (bs n.name), .string (bs n.text), .slice na n.attrs.length nac, .slice nk n.kids.length nkc].toArray 25 (0, 0)) := by
    rw [← hwz]; exact blk_ext (blk_new w _) ((Ext.refl _).alloc _)
  have hB : wz.heap[w.heap.size + 1]? = some (.cells [.int .i64 ak, .slice a0 ns.length nc, .bool abo, .bool anan, .int .i64 av, .string (bs at'), .int .i64 bk, .slice ba bn bc, .bool bbo, .bool bnan, .int .i64 bv, .string (bs bt)].toArray 31 (0, 0)) := by
    have h := blk_new (w.alloc (.cells #[.int .i64 n.kind, .string (bs n.name), .string (bs n.text), .slice na n.attrs.length nac, .slice nk n.kids.length nkc] 25)) (.cells #[.int .i64 ak, .slice a0 ns.length nc, .bool abo, .bool anan, .int .i64 av, .string (bs at'), .int .i64 bk, .slice ba bn bc, .bool bbo, .bool bnan, .int .i64 bv, .string (bs bt)] 31)
    rw [World.size_alloc, hwz] at h; exact h
  have HZ := Lib.hid (And.intro hA (And.intro hB hE))
  have HWZ := Lib.hid hwz
  have HG := Lib.hid G
  clear hA hB hE hwz G
  go_enter Tryz.func3, Tryz.ntmps3
  go_wp2_with fail
  rw [HWZ.out]
  refine (HAW.out _ HZ.out.2.2).mono ?_
  rintro e w1 ⟨rfl, hX1⟩
  have h1 := blk_ext HZ.out.1 hX1
  have k1 := blk_ext HZ.out.2.1 hX1
  have n0 := blk_cells h1 0 rfl; have n1 := blk_cells h1 1 rfl; have n2 := blk_cells h1 2 rfl; have n3 := blk_cells h1 3 rfl; have n4 := blk_cells h1 4 rfl
  have v0 := blk_cells k1 0 rfl; have v1 := blk_cells k1 1 rfl; have v2 := blk_cells k1 2 rfl; have v3 := blk_cells k1 3 rfl; have v4 := blk_cells k1 4 rfl; have v5 := blk_cells k1 5 rfl; have v6 := blk_cells k1 6 rfl; have v7 := blk_cells k1 7 rfl; have v8 := blk_cells k1 8 rfl; have v9 := blk_cells k1 9 rfl; have v10 := blk_cells k1 10 rfl; have v11 := blk_cells k1 11 rfl
  have HX1 := Lib.hid (And.intro h1 (And.intro k1 (HZ.out.2.2.trans hX1)))
  clear h1 k1 hX1 HAW HZ HWZ
  go_wp2_with fail
  refine (HSM.out _ HX1.out.2.2).mono ?_
  rintro e w2 ⟨S, rfl, hX2, hsm⟩
  have h2 := blk_ext HX1.out.1 hX2
  have k2 := blk_ext HX1.out.2.1 hX2
  clear n0 n1 n2 n3 n4 v0 v1 v2 v3 v4 v5 v6 v7 v8 v9 v10 v11 HSM
  have n0 := blk_cells h2 0 rfl; have n1 := blk_cells h2 1 rfl; have n2 := blk_cells h2 2 rfl; have n3 := blk_cells h2 3 rfl; have n4 := blk_cells h2 4 rfl
  have v0 := blk_cells k2 0 rfl; have v1 := blk_cells k2 1 rfl; have v2 := blk_cells k2 2 rfl; have v3 := blk_cells k2 3 rfl; have v4 := blk_cells k2 4 rfl; have v5 := blk_cells k2 5 rfl; have v6 := blk_cells k2 6 rfl; have v7 := blk_cells k2 7 rfl; have v8 := blk_cells k2 8 rfl; have v9 := blk_cells k2 9 rfl; have v10 := blk_cells k2 10 rfl; have v11 := blk_cells k2 11 rfl
  have HX2 := Lib.hid (And.intro h2 (And.intro k2 (HX1.out.2.2.trans hX2)))
  clear h2 k2 hX2 HX1
  cases S with
  | false =>
    go_wp2_with fail
    go_ret
    exact ⟨rfl, HX2.out.2.2⟩
  | true =>
  have hns : ns.length ≤ 300 := hsm rfl
  by_cases hak : ak = 1
  case neg =>
    have q1 : (ak != 1) = true := by rw [bne_iff_ne]; exact hak
    clear hak hsm
    go_wp2_with fail
    go_ret
    exact ⟨rfl, HX2.out.2.2⟩
  subst hak
  by_cases hbk : bk = 3 ∨ bk = 4
  case neg =>
    have q1 : (bk != 3) = true := by rw [bne_iff_ne]; omega
    have q2 : (bk != 4) = true := by rw [bne_iff_ne]; omega
    clear hbk hsm
    go_wp2_with fail
    go_ret
    exact ⟨rfl, HX2.out.2.2⟩
  have HBK := Lib.hid hbk
  obtain ⟨r, hr, hr6⟩ : ∃ r : Nat, op.tmod 6 = (r : Int) ∧ r < 6 := by
    obtain ⟨k, rfl⟩ := Int.eq_ofNat_of_zero_le hop.1
    exact ⟨k % 6, (Int.ofNat_tmod k 6).symm, Nat.mod_lt _ (by decide)⟩
  have KEY : ∃ x, (bk != 3) = x ∧ (x = true → (bk != 4) = false) := ⟨_, rfl, fun h => by rw [bne_iff_ne] at h; rw [bne_eq_false_iff_eq]; omega⟩
  obtain ⟨x, hx, hx4⟩ := KEY
  have hop0 := hop.1
  have hop1 := hop.2
  clear hsm hbk hop
  cases x
  case' true => have hx5 := hx4 rfl
  all_goals
    clear hx4
    go_wp2_with fail
    refine (HTB.out _ HX2.out.2.2).mono ?_
    rintro e w3 ⟨L, lv, rfl, hLl, hL, hT, hX3, hS⟩
    obtain ⟨la, lc, rfl, _, _⟩ := hL.count z_qn (by omega)
    obtain ⟨w4, hw4⟩ : ∃ W', w3.alloc (.cells #[.string ⟨#[61]⟩, .string ⟨#[33, 61]⟩, .string ⟨#[60]⟩, .string ⟨#[60, 61]⟩, .string ⟨#[62]⟩, .string ⟨#[62, 61]⟩] 9) = W' := ⟨_, rfl⟩
    have hX4 : Ext w3 w4 := by rw [← hw4]; exact (Ext.refl w3).alloc _
    obtain ⟨o, ho, oc⟩ := op_at w4 w3.heap.size r hr6 (by rw [← hw4]; exact blk_new w3 _)
    have h4 := blk_ext HX2.out.1 (hX3.trans hX4)
    have k4 := blk_ext HX2.out.2.1 (hX3.trans hX4)
    clear n0 n1 n2 n3 n4 v0 v1 v2 v3 v4 v5 v6 v7 v8 v9 v10 v11
    have v0 := blk_cells k4 0 rfl; have v1 := blk_cells k4 1 rfl; have v2 := blk_cells k4 2 rfl; have v3 := blk_cells k4 3 rfl; have v4 := blk_cells k4 4 rfl; have v5 := blk_cells k4 5 rfl; have v6 := blk_cells k4 6 rfl; have v7 := blk_cells k4 7 rfl; have v8 := blk_cells k4 8 rfl; have v9 := blk_cells k4 9 rfl; have v10 := blk_cells k4 10 rfl; have v11 := blk_cells k4 11 rfl
    have HX4 := Lib.hid (And.intro k4 (HX2.out.2.2.trans (hX3.trans hX4)))
    have HL := Lib.hid (And.intro hLl (And.intro (hL.ext hX4) (And.intro hT hS)))
    have hr0 : (0 : Int) ≤ (r : Int) := by omega
    have hr7 : (r : Int) < 6 := by omega
    clear h4 k4 hX4 hX3 hLl hL hT hS HTB HX2
    go_wp2_with fail
    have HCM := Lib.hid fun W (hE : Ext w4 W) (ms : List Int) (p' : Nat → Prop) (nv : Value) (bo' nan' : Bool) (v' : Int) (t' : Bytes) (hm : ms.length ≤ 1000) (hr : Rep W p' nv (numsD .i64 ms)) => compare_nodes L HL.out.2.2.1 HL.out.1 HL.out.2.2.2 ms hm o ho bo' nan' v' t' ⟨bk, .slice ba bn bc, bbo, bnan, bv, bt⟩ HBK.out ⟨_, _, _, rfl⟩ hbt (fun _ => True) p' (.slice la L.length lc) nv W (HG.out.ext (HX4.out.2.trans hE)) (HL.out.2.1.ext hE) hr
    unfold vvL at HCM
    dsimp only at HCM
    obtain ⟨Cm, hCm⟩ : ∃ C : List VV → Bool × Int, cmpL o ⟨bk, .slice ba bn bc, bbo, bnan, bv, bt⟩ = C := ⟨_, rfl⟩
    have HC0 : Hid (∀ l, Cm l = cmpL o ⟨bk, .slice ba bn bc, bbo, bnan, bv, bt⟩ l) := Lib.hid (fun l => by rw [hCm])
    rw [hCm] at HCM
    clear hCm ho hbt
    have HC1 := Lib.hid (HCM.out w4 (Ext.refl _) ns q _ abo anan av at' (by omega) (HN.out.ext HX4.out.2))
    obtain ⟨R, hR⟩ : ∃ R, Cm (ns.map fun i => txtV (valV L i)) = R := ⟨_, rfl⟩
    rw [hR] at HC1
    have HR := Lib.hid hR
    obtain ⟨c1, c2⟩ := R
    dsimp only at HC1
    clear hR
    refine HC1.out.mono ?_
    rintro e w5 ⟨rfl, hX5⟩
    have k5 := blk_ext HX4.out.1 hX5
    clear v0 v1 v2 v3 v4 v5 v6 v7 v8 v9 v10 v11 HC1 oc
    have v0 := blk_cells k5 0 rfl; have v1 := blk_cells k5 1 rfl; have v2 := blk_cells k5 2 rfl; have v3 := blk_cells k5 3 rfl; have v4 := blk_cells k5 4 rfl; have v5 := blk_cells k5 5 rfl; have v6 := blk_cells k5 6 rfl; have v7 := blk_cells k5 7 rfl; have v8 := blk_cells k5 8 rfl; have v9 := blk_cells k5 9 rfl; have v10 := blk_cells k5 10 rfl; have v11 := blk_cells k5 11 rfl
    have HX5 := Lib.hid (And.intro k5 hX5)
    clear k5 hX5
    go_wp2_with fail
    refine (fair_some ns q _ _ abo anan av at' w5 (by omega) (HN.out.ext (HX4.out.2.trans HX5.out.2)) ⟨_, _, _, rfl⟩).mono ?_
    rintro e w6 ⟨⟨B, rfl⟩, hX6⟩
    have k6 := blk_ext HX5.out.1 hX6
    clear v0 v1 v2 v3 v4 v5 v6 v7 v8 v9 v10 v11
    have HX6 := Lib.hid (And.intro k6 (HX5.out.2.trans hX6))
    clear k6 hX6 HX5
    cases B with
    | false =>
      go_wp2_with fail
      go_ret
      exact ⟨rfl, HX4.out.2.trans HX6.out.2⟩
    | true =>
    by_cases hc2 : c2 = 0
    case neg =>
      have q2 : (c2 != 0) = true := by rw [bne_iff_ne]; exact hc2
      clear hc2
      go_wp2_with fail
      go_ret
      exact ⟨rfl, HX4.out.2.trans HX6.out.2⟩
    subst hc2
    go_wp2_with fail
    obtain ⟨wf, hwf⟩ : ∃ W, W = w6 := ⟨_, rfl⟩
    subst hwf
    go_loopw [11, 12] (fun s t wr => ∃ (i : Nat) (sb : Bool), t = .int .i64 i ∧ s = .bool sb ∧ i ≤ ns.length ∧ Hid ((sb = false ∧ Cm ((ns.drop i).map fun i => txtV (valV L i)) = (c1, 0)) ∨ (sb = true ∧ c1 = true)) ∧ Hid (Ext wf wr)) (fun _ t _ => downV ns.length t)
    case atStart => exact ⟨0, false, rfl, rfl, Nat.zero_le _, Lib.hid (.inl ⟨rfl, by rw [List.drop_zero]; exact HR.out⟩), Lib.hid (Ext.refl _)⟩
    case round =>
      obtain ⟨i, sb, rfl, rfl, hi, HI, HX⟩ := hrel
      have hi0 : (0 : Int) ≤ (i : Int) := by omega
      have hi8 : (i : Int) ≤ 300 := by omega
      have kr := blk_ext HX6.out.1 HX.out
      have x1 := blk_cells kr 1 rfl
      by_cases hlt : i < ns.length
      · have hlI : (i : Int) < (ns.length : Int) := by omega
        obtain ⟨b0, off0, hb0, _, _⟩ := num_at (HN.out.ext (HX4.out.2.trans (HX6.out.2.trans HX.out))) i hlt
        subst hb0
        have y0 := blk_cells kr 6 rfl; have y1 := blk_cells kr 7 rfl; have y2 := blk_cells kr 8 rfl; have y3 := blk_cells kr 9 rfl; have y4 := blk_cells kr 10 rfl; have y5 := blk_cells kr 11 rfl
        have lx := blk_lt kr
        obtain ⟨o1, ho1⟩ : ∃ x, (Cm [txtV (valV L ns[i])]).1 = x := ⟨_, rfl⟩
        obtain ⟨o2, ho2⟩ : ∃ x, (Cm [txtV (valV L ns[i])]).2 = x := ⟨_, rfl⟩
        have HCO : Hid (∀ W (hE : Ext wr W), Calls Tryz.prog 7 #[.slice la L.length lc, .string (bs o), .agg #[.int .i64 1, .slice (some ⟨b0, off0 + i, none⟩) 1 (nc - i), .bool false, .bool false, .int .i64 0, .string ⟨#[]⟩], .agg #[.int .i64 bk, .slice ba bn bc, .bool bbo, .bool bnan, .int .i64 bv, .string (bs bt)]] W fun e w' => e = .returned (.tuple #[.bool o1, .int .i64 o2]) ∧ Ext W w') := Lib.hid fun W hE => by
          have h := HCM.out W (HX6.out.2.trans (HX.out.trans hE)) [ns[i]] q _ false false 0 [] (show 1 ≤ 1000 by decide) (rep_one (HN.out.ext (HX4.out.2.trans (HX6.out.2.trans (HX.out.trans hE)))) i hlt rfl HNC.out.1 HNC.out.2)
          rw [List.map_cons, List.map_nil, ho1, ho2] at h
          exact h
        have HN2 : Hid (((o1 = true ∨ sb = true) ∧ c1 = true ∧ (sb = false → o2 = 0)) ∨ (o1 = false ∧ sb = false ∧ o2 = 0 ∧ Cm ((ns.drop (i + 1)).map fun i => txtV (valV L i)) = (c1, 0))) := Lib.hid (by
          rcases HI.out with ⟨h1, h2⟩ | ⟨h1, h2⟩
          · rw [drop_one ns i hlt, List.map_cons, HC0.out] at h2
            rw [HC0.out] at ho1 ho2
            unfold cmpL at h2
            by_cases hh : (plainS o (txtV (valV L ns[i])) ⟨bk, .slice ba bn bc, bbo, bnan, bv, bt⟩).1 = true ∨ (plainS o (txtV (valV L ns[i])) ⟨bk, .slice ba bn bc, bbo, bnan, bv, bt⟩).2 ≠ 0
            · rw [if_pos hh] at h2
              unfold cmpL at ho1 ho2
              rw [if_pos hh, h2] at ho1 ho2
              rw [h2] at hh
              have hc : c1 = true := by simpa using hh
              exact .inl ⟨.inl (ho1.symm.trans hc), hc, fun _ => ho2.symm⟩
            · rw [if_neg hh] at h2
              unfold cmpL at ho1 ho2
              rw [if_neg hh] at ho1 ho2
              exact .inr ⟨ho1.symm, h1, ho2.symm, by rw [HC0.out]; exact h2⟩
          · exact .inl ⟨.inr h1, h2, fun h => by rw [h1] at h; cases h⟩)
        clear ho1 ho2 HI kr
        have WRI : IntKind.i64.wrap ((i : Int) + 1) = (i : Int) + 1 := by rw [IntKind.wrap_i64]; first | omega | (unfold wrap64; omega)
        go_wp2_with fail
        refine rg_begin (S := Sx wr) (by kernel_rfl) (Sx.begin _) ?_
        have hS : Sx wr (World.drew wr) := (Sx.begin _)
        refine rg_take 0 (some 78) (.slice la L.length lc) (oi := { dst := some 78, op := Go.Op.move (Go.Operand.tmp 7), type := 34, pos := "outright.go:25", after := #[], guard := none }) rfl rfl (by kernel_rfl) (by kernel_rfl) (by kernel_rfl) (fun _ _ _ h => h) hS (by rfl) (fun w' hs => by rfl) ?_
        simp only [Act.put, List.setIfInBounds_toArray, List.set_cons_zero, List.set_cons_succ]
        refine rg_take 1 (some 79) (.string (bs o)) (oi := { dst := some 79, op := Go.Op.move (Go.Operand.tmp 8), type := 9, pos := "outright.go:25", after := #[], guard := none }) rfl rfl (by kernel_rfl) (by kernel_rfl) (by kernel_rfl) (fun _ _ _ h => h) hS (by rfl) (fun w' hs => by rfl) ?_
        simp only [Act.put, List.setIfInBounds_toArray, List.set_cons_zero, List.set_cons_succ]
        refine rg_take 2 (some 80) (.pointer (some ⟨w.heap.size + 1, 0, none⟩)) (oi := { dst := some 80, op := Go.Op.indexAddr 31 (Go.Operand.tmp 4) (Go.Operand.const (Go.Value.int Go.IntKind.i64 0)), type := 0, pos := "outright.go:25", after := #[], guard := none }) rfl rfl (by kernel_rfl) (by kernel_rfl) (by kernel_rfl) (fun _ _ _ h => h) hS (by rfl) (fun w' hs => by first | rfl | go_simp) ?_
        simp only [Act.put, List.setIfInBounds_toArray, List.set_cons_zero, List.set_cons_succ]
        refine rg_take 3 (some 81) (.pointer (some ⟨w.heap.size + 1, 1, none⟩)) (oi := { dst := some 81, op := Go.Op.fieldAddr 30 (Go.Operand.tmp 80) 1, type := 0, pos := "outright.go:25", after := #[{ on := 2, ground := Go.Ground.data }], guard := none }) rfl rfl (by kernel_rfl) (by kernel_rfl) (by kernel_rfl) (fun _ _ _ h => h) hS (by rfl) (fun w' hs => by first | rfl | go_simp) ?_
        simp only [Act.put, List.setIfInBounds_toArray, List.set_cons_zero, List.set_cons_succ]
        refine rg_take 4 (some 82) (.slice (some ⟨b0, off0, none⟩) ns.length nc) (oi := { dst := some 82, op := Go.Op.load 26 (Go.Operand.tmp 81), type := 26, pos := "outright.go:25", after := #[{ on := 3, ground := Go.Ground.data }], guard := none }) rfl rfl (by kernel_rfl) (by kernel_rfl) (by kernel_rfl) (fun _ _ _ h => h) hS (by rfl) (fun w' hs => by (have h0 := hs.cell lx x1; go_simp)) ?_
        simp only [Act.put, List.setIfInBounds_toArray, List.set_cons_zero, List.set_cons_succ]
        refine rg_take 5 (some 83) (.int .i64 i) (oi := { dst := some 83, op := Go.Op.move (Go.Operand.tmp 12), type := 3, pos := "outright.go:25", after := #[], guard := none }) rfl rfl (by kernel_rfl) (by kernel_rfl) (by kernel_rfl) (fun _ _ _ h => h) hS (by rfl) (fun w' hs => by rfl) ?_
        simp only [Act.put, List.setIfInBounds_toArray, List.set_cons_zero, List.set_cons_succ]
        refine rg_take 6 (some 84) (.int .i64 i) (oi := { dst := some 84, op := Go.Op.move (Go.Operand.tmp 12), type := 3, pos := "outright.go:25", after := #[], guard := none }) rfl rfl (by kernel_rfl) (by kernel_rfl) (by kernel_rfl) (fun _ _ _ h => h) hS (by rfl) (fun w' hs => by rfl) ?_
        simp only [Act.put, List.setIfInBounds_toArray, List.set_cons_zero, List.set_cons_succ]
        refine rg_take 7 (some 85) (.int .i64 (i + 1)) (oi := { dst := some 85, op := Go.Op.binOp Go.BinOp.add 3 (Go.Operand.tmp 84) (Go.Operand.const (Go.Value.int Go.IntKind.i64 1)) 3, type := 3, pos := "outright.go:25", after := #[{ on := 6, ground := Go.Ground.data }], guard := none }) rfl rfl (by kernel_rfl) (by kernel_rfl) (by kernel_rfl) (fun _ _ _ h => h) hS (by rfl) (fun w' hs => by first | rfl | go_simp) ?_
        simp only [Act.put, List.setIfInBounds_toArray, List.set_cons_zero, List.set_cons_succ]
        refine rg_take 8 (some 86) (.slice (some ⟨b0, off0 + i, none⟩) 1 (nc - i)) (oi := { dst := some 86, op := Go.Op.slice 26 (Go.Operand.tmp 82) (some (Go.Operand.tmp 83)) (some (Go.Operand.tmp 85)) none, type := 26, pos := "outright.go:25", after := #[{ on := 4, ground := Go.Ground.data }, { on := 5, ground := Go.Ground.data }, { on := 7, ground := Go.Ground.data }], guard := none }) rfl rfl (by kernel_rfl) (by kernel_rfl) (by kernel_rfl) (fun _ _ _ h => h) hS (by rfl) (fun w' hs => by exact exec_slice rfl (sl_one b0 off0 ns.length nc i w' hlt HNC.out.1 HNC.out.2)) ?_
        simp only [Act.put, List.setIfInBounds_toArray, List.set_cons_zero, List.set_cons_succ]
        refine rg_take 9 (some 87) (.agg #[.int .i64 1, .slice (some ⟨b0, off0 + i, none⟩) 1 (nc - i), .bool false, .bool false, .int .i64 0, .string ⟨#[]⟩]) (oi := { dst := some 87, op := Go.Op.build 30 #[(0, Go.Operand.const (Go.Value.int Go.IntKind.i64 1)), (1, Go.Operand.tmp 86)], type := 30, pos := "outright.go:25", after := #[{ on := 8, ground := Go.Ground.data }], guard := none }) rfl rfl (by kernel_rfl) (by kernel_rfl) (by kernel_rfl) (fun _ _ _ h => h) hS (by rfl) (fun w' hs => by first | rfl | go_simp) ?_
        simp only [Act.put, List.setIfInBounds_toArray, List.set_cons_zero, List.set_cons_succ]
        refine rg_take 10 (some 88) (.pointer (some ⟨w.heap.size + 1, 6, none⟩)) (oi := { dst := some 88, op := Go.Op.indexAddr 31 (Go.Operand.tmp 4) (Go.Operand.const (Go.Value.int Go.IntKind.i64 1)), type := 0, pos := "outright.go:25", after := #[], guard := none }) rfl rfl (by kernel_rfl) (by kernel_rfl) (by kernel_rfl) (fun _ _ _ h => h) hS (by rfl) (fun w' hs => by first | rfl | go_simp) ?_
        simp only [Act.put, List.setIfInBounds_toArray, List.set_cons_zero, List.set_cons_succ]
        refine rg_take 11 (some 89) (.agg #[.int .i64 bk, .slice ba bn bc, .bool bbo, .bool bnan, .int .i64 bv, .string (bs bt)]) (oi := { dst := some 89, op := Go.Op.load 30 (Go.Operand.tmp 88), type := 30, pos := "outright.go:25", after := #[{ on := 10, ground := Go.Ground.data }], guard := none }) rfl rfl (by kernel_rfl) (by kernel_rfl) (by kernel_rfl) (fun _ _ _ h => h) hS (by rfl) (fun w' hs => by (have h0 := hs.cell lx y0; have h1 := hs.cell lx y1; have h2 := hs.cell lx y2; have h3 := hs.cell lx y3; have h4 := hs.cell lx y4; have h5 := hs.cell lx y5; go_simp)) ?_
        simp only [Act.put, List.setIfInBounds_toArray, List.set_cons_zero, List.set_cons_succ]
        refine rg_call 12 (some 90) 7 #[.slice la L.length lc, .string (bs o), .agg #[.int .i64 1, .slice (some ⟨b0, off0 + i, none⟩) 1 (nc - i), .bool false, .bool false, .int .i64 0, .string ⟨#[]⟩], .agg #[.int .i64 bk, .slice ba bn bc, .bool bbo, .bool bnan, .int .i64 bv, .string (bs bt)]] (oi := { dst := some 90, op := Go.Op.call { callee := Go.Callee.value (Go.Operand.func 7), args := #[Go.Operand.tmp 78, Go.Operand.tmp 79, Go.Operand.tmp 87, Go.Operand.tmp 89], argTypes := #[34, 9, 30, 30] }, type := 38, pos := "outright.go:25", after := #[{ on := 0, ground := Go.Ground.data }, { on := 1, ground := Go.Ground.data }, { on := 9, ground := Go.Ground.data }, { on := 11, ground := Go.Ground.data }], guard := none }) rfl rfl (by kernel_rfl) (by rfl) (fun w' => by first | rfl | go_simp) (R := fun v w' => v = .tuple #[.bool o1, .int .i64 o2] ∧ Ext (World.drew wr) w') ?_ ?_
        · refine (HCO.out (World.drew wr) hS).mono ?_
          rintro e w' ⟨rfl, h⟩
          exact ⟨_, rfl, rfl, h⟩
        rintro _ wr1 ⟨rfl, hBr1⟩
        have hS1 := hS.ext hBr1
        refine ⟨hS1, ?_⟩
        simp only [Act.put, List.setIfInBounds_toArray, List.set_cons_zero, List.set_cons_succ]
        refine rg_take 13 (some 77) (.tuple #[.bool o1, .int .i64 o2]) (oi := { dst := some 77, op := Go.Op.move (Go.Operand.tmp 90), type := 38, pos := "outright.go:25", after := #[{ on := 12, ground := Go.Ground.data }], guard := none }) rfl rfl (by kernel_rfl) (by kernel_rfl) (by kernel_rfl) (fun _ _ _ h => h) hS1 (by rfl) (fun w' hs => by rfl) ?_
        simp only [Act.put, List.setIfInBounds_toArray, List.set_cons_zero, List.set_cons_succ]
        refine rg_take 14 (some 91) (.bool o1) (oi := { dst := some 91, op := Go.Op.extract (Go.Operand.tmp 77) 0, type := 4, pos := "outright.go:25", after := #[{ on := 13, ground := Go.Ground.data }], guard := none }) rfl rfl (by kernel_rfl) (by kernel_rfl) (by kernel_rfl) (fun _ _ _ h => h) hS1 (by rfl) (fun w' hs => by first | rfl | go_simp) ?_
        simp only [Act.put, List.setIfInBounds_toArray, List.set_cons_zero, List.set_cons_succ]
        refine rg_take 15 (some 92) (.int .i64 o2) (oi := { dst := some 92, op := Go.Op.extract (Go.Operand.tmp 77) 1, type := 37, pos := "outright.go:25", after := #[{ on := 13, ground := Go.Ground.data }, { on := 16, ground := Go.Ground.gcOnly Go.Departure.lateStores }], guard := none }) rfl rfl (by kernel_rfl) (by kernel_rfl) (by kernel_rfl) (fun _ _ _ h => h) hS1 (by rfl) (fun w' hs => by first | rfl | go_simp) ?_
        simp only [Act.put, List.setIfInBounds_toArray, List.set_cons_zero, List.set_cons_succ]
        refine rg_take 16 (some 13) (.bool o1) (oi := { dst := some 13, op := Go.Op.assign (Go.Operand.tmp 91), type := 4, pos := "outright.go:25", after := #[{ on := 14, ground := Go.Ground.data }, { on := 12, ground := Go.Ground.chain }, { on := 0, ground := Go.Ground.phase }, { on := 1, ground := Go.Ground.phase }, { on := 2, ground := Go.Ground.phase }, { on := 3, ground := Go.Ground.phase }, { on := 4, ground := Go.Ground.phase }, { on := 5, ground := Go.Ground.phase }, { on := 6, ground := Go.Ground.phase }, { on := 7, ground := Go.Ground.phase }, { on := 8, ground := Go.Ground.phase }, { on := 9, ground := Go.Ground.phase }, { on := 10, ground := Go.Ground.phase }, { on := 11, ground := Go.Ground.phase }, { on := 12, ground := Go.Ground.phase }, { on := 13, ground := Go.Ground.phase }, { on := 14, ground := Go.Ground.phase }, { on := 15, ground := Go.Ground.textOnly Go.Departure.lateStores }], guard := none }) rfl rfl (by kernel_rfl) (by kernel_rfl) (by kernel_rfl) (fun _ _ _ h => h) hS1 (by rfl) (fun w' hs => by rfl) ?_
        simp only [Act.put, List.setIfInBounds_toArray, List.set_cons_zero, List.set_cons_succ]
        refine rg_take 17 (some 14) (.int .i64 o2) (oi := { dst := some 14, op := Go.Op.assign (Go.Operand.tmp 92), type := 37, pos := "outright.go:25", after := #[{ on := 15, ground := Go.Ground.data }, { on := 16, ground := Go.Ground.chain }, { on := 0, ground := Go.Ground.phase }, { on := 1, ground := Go.Ground.phase }, { on := 2, ground := Go.Ground.phase }, { on := 3, ground := Go.Ground.phase }, { on := 4, ground := Go.Ground.phase }, { on := 5, ground := Go.Ground.phase }, { on := 6, ground := Go.Ground.phase }, { on := 7, ground := Go.Ground.phase }, { on := 8, ground := Go.Ground.phase }, { on := 9, ground := Go.Ground.phase }, { on := 10, ground := Go.Ground.phase }, { on := 11, ground := Go.Ground.phase }, { on := 12, ground := Go.Ground.phase }, { on := 13, ground := Go.Ground.phase }, { on := 14, ground := Go.Ground.phase }, { on := 15, ground := Go.Ground.phase }, { on := 16, ground := Go.Ground.phase }], guard := none }) rfl rfl (by kernel_rfl) (by kernel_rfl) (by kernel_rfl) (fun _ _ _ h => h) hS1 (by rfl) (fun w' hs => by rfl) ?_
        simp only [Act.put, List.setIfInBounds_toArray, List.set_cons_zero, List.set_cons_succ]
        refine rg_done (by kernel_rfl) ?_
        have HX7 := Lib.hid (show Ext wf wr1 from HX.out.trans hS1)
        clear x1 y0 y1 y2 y3 y4 y5 HCO
        have GO : Hid (∀ sb', sb' = (sb || o1) → (sb' = false ∧ Cm ((ns.drop (i + 1)).map fun i => txtV (valV L i)) = (c1, 0)) ∨ (sb' = true ∧ c1 = true)) := Lib.hid fun sb' h => by
          rcases HN2.out with ⟨h1, h2, h3⟩ | ⟨h1, h2, h3, h4⟩
          · refine .inr ⟨?_, h2⟩
            rcases h1 with h1 | h1 <;> rw [h, h1] <;> simp
          · exact .inl ⟨by rw [h, h1, h2]; rfl, h4⟩
        cases sb with
        | true =>
          go_wp2_with fail
          go_roundw
          case rel => exact ⟨i + 1, true, by go_num, rfl, by omega, Lib.hid (GO.out _ (by simp)), HX7⟩
          case measure => simp only [downV]; omega
        | false =>
          have ho2 : o2 = 0 := by
            rcases HN2.out with ⟨_, _, h3⟩ | ⟨_, _, h3, _⟩
            · exact h3 rfl
            · exact h3
          subst ho2
          go_wp2_with fail
          go_roundw
          case rel => exact ⟨i + 1, o1, by go_num, rfl, by omega, Lib.hid (GO.out _ (by simp)), HX7⟩
          case measure => simp only [downV]; omega
      · have hlI : ¬ (i : Int) < (ns.length : Int) := by omega
        have HF : Hid (c1 = sb) := Lib.hid (by
          rcases HI.out with ⟨h1, h2⟩ | ⟨h1, h2⟩
          · rw [List.drop_of_length_le (by omega), List.map_nil, HC0.out] at h2
            have h3 : (false, (0 : Int)) = (c1, 0) := h2
            rw [h1]; exact (congrArg Prod.fst h3).symm
          · rw [h1, h2])
        have hcs : (c1 == sb) = true := by rw [beq_iff_eq]; exact HF.out
        clear HI
        go_wp2_with fail
        go_ret
        exact ⟨ret_bool (by first | exact hcs | rfl), HX4.out.2.trans (HX6.out.2.trans HX.out)⟩
end Go.Proofs.YtmmopcceabdecaaGreatDoor
