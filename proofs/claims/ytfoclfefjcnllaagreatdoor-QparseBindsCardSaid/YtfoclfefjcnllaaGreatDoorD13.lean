/-
  The parser's path. Helper lemmas; no statement of the seat is proved here.
-/
import Derived.Test.YtfoclfefjcnllaaGreatDoorD12
import Derived.Test.YtfoclfefjcnllaaGreatDoorD10
namespace Go.Proofs.YtfoclfefjcnllaaGreatDoor
open Go.RowKit
set_option maxRecDepth 100000
set_option linter.unusedVariables false
set_option linter.unusedSimpArgs false

/-- As rg_callp, of one of two operations. -/
theorem tk_callp {P : Program} {ops : Array Oper} {Q : Exit → Act → World → Prop} {K : Act → World → Prop} {a : Act} {w : World} (i : Nat) (d : Option Tmp) (f : FuncId) (vals : Array Value) {oi : Oper} (hi : ops[i]? = some oi) (hd : oi.dst = d) (hw : Region.wanted oi (yielded ops a.tmps) = true)
    (hrun : ∀ w', (execOp a.eval oi).run P w' = .ok (.enter f vals) w')
    (hc : Calls P f vals w fun e w' => (∃ v, e = .returned v ∧ K (a.put d v) w') ∨ ∃ ch, e = .panicked ch ∧ Q (.panic ch) a w') : wpOp P ops Q i K a w := by
  unfold wpOp
  simp only [hi, hw, if_true]
  refine Or.inl ?_
  unfold Oper.wp
  rw [hrun w, Oper.upon_enter]
  refine hc.mono fun e w' h => ?_
  rcases h with ⟨v, rfl, h1⟩ | ⟨ch, rfl, h⟩
  · dsimp only
    rw [hd]
    exact h1
  · exact h
theorem s1Exs : ∀ W, (sizeOf 26).run Tryz.prog W = .ok 1 W := fun W => by go_simp
theorem s1Sts : ∀ W, (sizeOf 27).run Tryz.prog W = .ok 1 W := fun W => by go_simp
theorem store_sl {W : World} {b o : Nat} {u : Value} (t : TypeId) (hs : ∀ W, (sizeOf t).run Tryz.prog W = .ok 1 W) (hc : W.cell? ⟨b, o, none⟩ = some u) (hf : W.frozen? ⟨b, o, none⟩ = false) (a : Option Addr) (l c : Nat) :
    (Instr.storeAt t (.pointer (some ⟨b, o, none⟩)) (.slice a l c)).run Tryz.prog W = .ok () (W.setCell ⟨b, o, none⟩ (.slice a l c)) := by
  go_simp
theorem Gr.set2 {g ob o : Nat} {a b : World} {cs : Array Value} {t : TypeId} (h : Gr g a b) (hn : ob ≠ g) (hc : a.heap[ob]? = some (.cells cs t)) (v : Value) : Gr g (a.setCell ⟨ob, o, none⟩ v) (b.setCell ⟨ob, o, none⟩ v) := by
  refine ⟨h.os, h.tape, h.output, ?_, fun k hk hk2 => ?_⟩
  · simp only [World.setCell]; rw [Array.size_modify, Array.size_modify]; exact h.size
  · have hk' : k < a.heap.size := by simpa [World.setCell] using hk
    by_cases e : k = ob
    · subst e
      rw [heap_setCell_same _ _ _ _ _ _ hc, heap_setCell_same _ _ _ _ _ _ (h.blk hn hc)]
    · rw [Below.heap_setCell _ _ _ _ e, Below.heap_setCell _ _ _ _ e]; exact h.block k hk' hk2
theorem slash_none (ts : List QT) (en i j : Nat) (h : slashP ts en i = (none, j)) : j = i := by
  unfold slashP at h
  split at h
  · cases h
  · split at h
    · cases h
    · exact (congrArg Prod.snd h).symm
theorem slash_root (ts : List QT) (en i : Nat) (h : isP ts en i 5 [47] = true) : (slashP ts en i).1.isSome = true := by
  unfold slashP; rw [if_pos h]; rfl
theorem pathP_eq (ts : List QT) (en f nest i : Nat) : pathP ts en (f + 1) nest i = if primaryP ts en i then
      match filterP ts en f nest i with
      | .error e => .error e
      | .ok (b, j) => match slashP ts en j with
        | (none, _) => .ok (b, j)
        | (some o, k) => match stepsP ts en f nest o k with
          | .error e => .error e
          | .ok (l, m) => .ok (.mk [112, 97, 116, 104] [] false 0 [b] false l, m)
    else
      if isP ts en i 5 [47] && !beginsP ts en (slashP ts en i).2 then .ok (.mk [112, 97, 116, 104] [] false 0 [] true [], (slashP ts en i).2)
      else match stepsP ts en f nest ((slashP ts en i).1.getD []) (slashP ts en i).2 with
        | .error e => .error e
        | .ok (l, m) => .ok (.mk [112, 97, 116, 104] [] false 0 [] (slashP ts en i).1.isSome l, m) := by rw [pathP]; rfl
section
variable {g : Nat} {W0 : World} {ts : List QT} {en : Nat}
set_option maxHeartbeats 32000000 in
theorem path_step (HV : PEnv g W0 ts en) (f : Nat) (HFI : KE g W0 ts en 116 (filterP ts en f)) (HST : KT g W0 ts en (stepsP ts en f)) : KE g W0 ts en 93 (pathP ts en (f + 1)) := by
  intro W i nst hG hP hn hF
  obtain ⟨R, hR⟩ : ∃ R, pathP ts en (f + 1) nst i = R := ⟨_, rfl⟩
  rw [hR] at hF ⊢
  rw [pathP_eq] at hR
  have HV0 := Lib.hid HV
  have HF := Lib.hid hF
  have hlt := hP.lt
  have hW0s := hG.size
  obtain ⟨w1, hw1⟩ : ∃ w, W.alloc (.cells #[.string ⟨#[]⟩, .string ⟨#[]⟩, .bool false, .int .i64 0, .slice none 0 0, .bool false, .slice none 0 0] 29) = w := ⟨_, rfl⟩
  have Ew1 : Ext W w1 := by rw [← hw1]; exact (Ext.refl W).alloc _
  have hbw1 : w1.heap[W.heap.size]? = some (.cells #[.string ⟨#[]⟩, .string ⟨#[]⟩, .bool false, .int .i64 0, .slice none 0 0, .bool false, .slice none 0 0] 29) := by rw [← hw1]; exact Array.getElem?_push_size

  obtain ⟨rr, hrr⟩ : ∃ r, W.heap.size = r := ⟨_, rfl⟩
  rw [hrr] at hbw1
  have hl1 := blk_lt hbw1
  have hrg : rr ≠ g := by omega
  have hgr : g < rr := by omega
  obtain ⟨w2, hw2⟩ : ∃ w, w1.alloc (.cells #[.string ⟨#[112, 97, 116, 104]⟩, .string ⟨#[]⟩, .bool false, .int .i64 0, .slice none 0 0, .bool false, .slice none 0 0] 29) = w := ⟨_, rfl⟩
  have Ew2 : Ext w1 w2 := by rw [← hw2]; exact (Ext.refl w1).alloc _
  have hbw2 : w2.heap[w1.heap.size]? = some (.cells #[.string ⟨#[112, 97, 116, 104]⟩, .string ⟨#[]⟩, .bool false, .int .i64 0, .slice none 0 0, .bool false, .slice none 0 0] 29) := by rw [← hw2]; exact Array.getElem?_push_size

  obtain ⟨ob, hob⟩ : ∃ r, w1.heap.size = r := ⟨_, rfl⟩
  rw [hob] at hbw2
  have hl2 := blk_lt hbw2
  have hog : ob ≠ g := by omega
  have hgo : g < ob := by omega
  have hro : rr ≠ ob := by omega
  have hor : ob ≠ rr := by omega
  have hrob : rr < ob := by omega
  have hE2 := Ew1.trans Ew2
  have hP2 := hP.ext hE2
  have HC := Lib.hid (primary_any g w2 ts en i nst HV.ok hP2)
  have HQ := Lib.hid (And.intro hE2 (And.intro hP2 (And.intro (Gr.blk (Gr.of g Ew2) hrg hbw1) (And.intro hbw2 (hG.ext hE2)))))
  obtain ⟨b, hb⟩ : ∃ b, primaryP ts en i = b := ⟨_, rfl⟩
  rw [hb] at HC hR
  have HR := Lib.hid hR
  have HW2 := Lib.hid hw2
  clear hR hF hG hP hP2 Ew1 Ew2 hE2 hbw1 hbw2 HV hb hw2
  go_enter Tryz.func93, Tryz.ntmps93
  go_wp2_with fail
  rw [HW2.out]
  refine HC.out.mono ?_
  rintro e w3 ⟨rfl, hX3⟩
  clear HC hw1 HW2
  obtain ⟨hE2, hP2, hrr2, hob2, hG2⟩ := HQ.out
  have hP3 := hP2.ext hX3
  have hG3 := hG2.ext hX3
  have hGw3 := (Gr.of g hE2).ext hX3
  have hrr3 := Gr.blk (Gr.of g hX3) hrg hrr2
  have hob3 := Gr.blk (Gr.of g hX3) hog hob2
  have hs3 := hX3.size
  clear hP2 hG2 hrr2 hob2 hE2 HQ hX3
  have hR := HR.out
  cases b with
  | true =>
    simp only [if_true] at hR
    have hnf1 : NoF (filterP ts en f nst i) := by
      have h := HF.out
      rw [← hR] at h
      revert h
      cases filterP ts en f nst i with
      | error e => exact fun h => h
      | ok x => exact fun _ => trivial
    have HC := Lib.hid (HFI w3 i nst hG3 hP3 hn hnf1)
    obtain ⟨X, hX⟩ : ∃ X, filterP ts en f nst i = X := ⟨_, rfl⟩
    rw [hX] at HC hR
    replace HR := Lib.hid hR
    have HQ := Lib.hid (And.intro hGw3 (And.intro hG3 (And.intro hrr3 hob3)))
    clear hR hnf1 hX hGw3 hG3 hrr3 hob3 hP3
    go_wp2_with fail
    refine HC.out.mono ?_
    rintro e w4 ⟨hG4, hV⟩
    clear HC
    obtain ⟨hGw3, hG3, hrr3, hob3⟩ := HQ.out
    have hR := HR.out
    rcases X with ⟨c, a⟩ | ⟨x, j⟩
    · obtain rfl := hV
      obtain rfl : _ = R := hR
      exact ⟨rfl, hGw3.trans hG4, rfl⟩
    obtain ⟨v, rfl, hx, hP4⟩ := hV
    obtain ⟨aa, ac, ad, ae, rfl, hxw⟩ := XW.of hx
    clear hx
    dsimp only at hR
    obtain ⟨wb, hwb⟩ : ∃ w, w4.alloc (.cells #[.string (bs x.op), .string (bs x.text), .bool x.nan, .int .i64 x.val, .slice aa x.args.length ac, .bool x.abs, .slice ad x.steps.length ae] 29) = w := ⟨_, rfl⟩
    have Ewb : Ext w4 wb := by rw [← hwb]; exact (Ext.refl w4).alloc _
    have hbwb : wb.heap[w4.heap.size]? = some (.cells #[.string (bs x.op), .string (bs x.text), .bool x.nan, .int .i64 x.val, .slice aa x.args.length ac, .bool x.abs, .slice ad x.steps.length ae] 29) := by rw [← hwb]; exact Array.getElem?_push_size

    obtain ⟨eb, heb⟩ : ∃ r, w4.heap.size = r := ⟨_, rfl⟩
    rw [heb] at hbwb
    have heb5 := hbwb
    have hs4 := hG4.size
    have heg : eb ≠ g := by omega
    have her : eb ≠ rr := by omega
    have hoe : ob < eb := by omega
    have hP5 := hP4.ext Ewb
    have hxb0 : XW wb (fun b => ob < b ∧ b < eb) x aa ac ad ae := (XW.ok (W := w4) (p := fun b => w3.heap.size ≤ b ∧ b < w4.heap.size) (q := fun b => ob < b ∧ b < eb) ⟨hxw.ra.lt, hxw.rs.lt, hxw.ho, hxw.ht⟩ fun b hb => by omega).ext Ewb
    have HC := Lib.hid (slash_any g wb ts en j nst HV0.out.ok hP5)
    have hsn := fun k => slash_none ts en j k
    have hss := fun (o : List St) (k : Nat) => slash_some (o := o) (k := k) ts en (i := j)
    have hsl := slash_len ts en j
    obtain ⟨S, hS⟩ : ∃ S, slashP ts en j = S := ⟨_, rfl⟩
    rw [hS] at HC hR hsl
    simp only [hS] at hsn hss
    replace HR := Lib.hid hR
    have HZ := Lib.hid (And.intro ((hGw3.trans hG4).ext Ewb) (And.intro ((hG3.trans hG4).ext Ewb) (And.intro (Gr.blk (hG4.ext Ewb) hrg hrr3) (And.intro (Gr.blk (hG4.ext Ewb) hog hob3) (And.intro heb5 hxb0)))))
    clear hR hGw3 hG3 hrr3 hob3 hG4 hP4 hxw hS Ewb hbwb hP5 heb5 hxb0 HQ
    go_wp2_with fail
    refine HC.out.mono ?_
    rintro e wz ⟨hGz, hP0, v5, rfl, ⟨sv, rfl, hO0⟩⟩
    clear HC hwb
    have hR := HR.out
    rcases S with ⟨_ | o, k⟩
    · obtain rfl : k = j := hsn k rfl
      obtain rfl : .ok (x, k) = R := hR
      obtain ⟨hGwb, _, hrr5, hob5, heb5, hxb⟩ := HZ.out
      have hrz := Gr.blk hGz hrg hrr5
      have hez := Gr.blk hGz heg heb5
      obtain ⟨r0, r1, r2, r3, r4, r5, r6⟩ := cells7 hrz
      obtain ⟨e0, e1, e2, e3, e4, e5, e6⟩ := cells7 hez
      have z0 := blk_free hrz (k := 0); have z1 := blk_free hrz (k := 1); have z2 := blk_free hrz (k := 2); have z3 := blk_free hrz (k := 3); have z4 := blk_free hrz (k := 4); have z5 := blk_free hrz (k := 5); have z6 := blk_free hrz (k := 6)
      have HW := Lib.hid (And.intro (hGwb.trans hGz) (And.intro hrz (And.intro (hxb.gr hGz (fun b hb => by omega)) hP0)))
      clear hGwb hrr5 hob5 heb5 hxb hrz hez hGz hP0 hO0 HZ hsn hss hsl HR
      dsimp only [Option.isSome]
      go_wp2_with fail
      refine fin7 rfl HW.out.2.1 rfl fun W' hG' => ⟨HW.out.1.new hG' (by rw [← hrr]; exact Nat.le_refl _), _, rfl, (((HW.out.2.2.1).gr hG' (fun b hb => by omega)).ok (fun b hb => by omega)).xv, HW.out.2.2.2.gr hG' hgr⟩
    · dsimp only at hR hP0 hsl
      simp only [Option.getD_some] at hO0 hsl
      have hnf2 : NoF (stepsP ts en f nst o k) := by
        have h := HF.out
        rw [← hR] at h
        revert h
        cases stepsP ts en f nst o k with
        | error e => exact fun h => h
        | ok x => exact fun _ => trivial
      have HKT := Lib.hid (fun W h1 h2 h3 => HST wb W k nst o sv (by have := blk_lt HZ.out.2.2.1; omega) h1 HZ.out.2.1 h2 hn h3 (by omega) hnf2)
      obtain ⟨X, hX⟩ : ∃ X, stepsP ts en f nst o k = X := ⟨_, rfl⟩
      rw [hX] at HKT hR
      obtain ⟨hGwb, _, hrr5, hob5, heb5, hxb⟩ := HZ.out
      have hez0 := Gr.blk hGz heg heb5
      have hxb0 := hxb
      obtain ⟨e0, e1, e2, e3, e4, e5, e6⟩ := cells7 hez0
      have HY := Lib.hid (And.intro hGz (And.intro hP0 (And.intro hO0 (And.intro hez0 (And.intro hxb (And.intro hob5 (And.intro hrr5 (And.intro hGwb hR))))))))
      clear hR hnf2 hX hGz hP0 hO0 hxb hob5 hrr5 hGwb HZ HR hsn hss hsl
      dsimp only [Option.isSome]
      go_wp2_with fail
      refine rg_cut (S := Sk eb wz) 6 (by kernel_rfl) (by kernel_rfl) (by kernel_rfl) (by kernel_rfl) (Sk.begin _ _) ?_
      have hSp : Sk eb wz (World.drew wz) := (Sk.begin _ _)
      refine rg_take 0 (some 23) (.agg #[.string (bs x.op), .string (bs x.text), .bool x.nan, .int .i64 x.val, .slice aa x.args.length ac, .bool x.abs, .slice ad x.steps.length ae]) (oi := { dst := some 23, op := Go.Op.load 29 (Go.Operand.tmp 4), type := 29, pos := "qparse.go:177", after := #[], guard := none }) rfl rfl (by kernel_rfl) (by kernel_rfl) (by kernel_rfl) (fun _ _ _ h => h) hSp (by rfl) (fun w' hs => by (have h0 := hs.cell trivial e0; have h1 := hs.cell trivial e1; have h2 := hs.cell trivial e2; have h3 := hs.cell trivial e3; have h4 := hs.cell trivial e4; have h5 := hs.cell trivial e5; have h6 := hs.cell trivial e6; go_simp)) ?_
      simp only [Act.put, List.setIfInBounds_toArray, List.set_cons_zero, List.set_cons_succ]
      refine rg_take 2 (some 25) (.pointer (some ⟨g, 0, none⟩)) (oi := { dst := some 25, op := Go.Op.move (Go.Operand.tmp 0), type := 45, pos := "qparse.go:177", after := #[], guard := none }) rfl rfl (by kernel_rfl) (by kernel_rfl) (by kernel_rfl) (fun _ _ _ h => h) hSp (by rfl) (fun w' hs => by rfl) ?_
      simp only [Act.put, List.setIfInBounds_toArray, List.set_cons_zero, List.set_cons_succ]
      refine rg_take 3 (some 26) (sv) (oi := { dst := some 26, op := Go.Op.move (Go.Operand.tmp 5), type := 27, pos := "qparse.go:177", after := #[], guard := none }) rfl rfl (by kernel_rfl) (by kernel_rfl) (by kernel_rfl) (fun _ _ _ h => h) hSp (by rfl) (fun w' hs => by rfl) ?_
      simp only [Act.put, List.setIfInBounds_toArray, List.set_cons_zero, List.set_cons_succ]
      refine rg_two 1 4 (by kernel_rfl) ?_ ?_
      · refine tk_new 1 (some 24) (.cells #[.string (bs x.op), .string (bs x.text), .bool x.nan, .int .i64 x.val, .slice aa x.args.length ac, .bool x.abs, .slice ad x.steps.length ae] 29) (fun n => .slice (some ⟨n, 0, none⟩) 1 1) (oi := { dst := some 24, op := Go.Op.buildSlice 26 1 #[(0, Go.Operand.tmp 23)], type := 26, pos := "qparse.go:177", after := #[{ on := 0, ground := Go.Ground.data }], guard := none }) rfl rfl (by rfl) (by first | rfl | go_simp) ?_
        intro gb xb egb hEx hzxb hC
        subst egb
        have hSb : Sk eb wz xb := hSp.ext hEx (blk_lt (w := wz) hez0)
        refine ⟨hSb, ?_⟩
        simp only [Act.put, List.setIfInBounds_toArray, List.set_cons_zero, List.set_cons_succ]
        refine rg_take 5 (some 28) (.pointer (some ⟨ob, 4, none⟩)) (oi := { dst := some 28, op := Go.Op.fieldAddr 29 (Go.Operand.tmp 3) 3, type := 0, pos := "qparse.go:177", after := #[{ on := 0, ground := Go.Ground.phase }, { on := 1, ground := Go.Ground.phase }, { on := 2, ground := Go.Ground.textOnly Go.Departure.lateStores }, { on := 3, ground := Go.Ground.textOnly Go.Departure.lateStores }, { on := 4, ground := Go.Ground.textOnly Go.Departure.lateStoresUnsure }], guard := none }) rfl rfl (by kernel_rfl) (by kernel_rfl) (by kernel_rfl) (fun _ _ _ h => h) hSb (by rfl) (fun w' hs => by first | rfl | go_simp) ?_
        simp only [Act.put, List.setIfInBounds_toArray, List.set_cons_zero, List.set_cons_succ]
        have HC := HKT.out xb ((HY.out.1.ext ((Ext.refl wz).drew)).ext hEx) ((HY.out.2.1.ext ((Ext.refl wz).drew)).ext hEx) ((HY.out.2.2.1.ext ((Ext.refl wz).drew)).ext hEx)
        refine rg_callp 4 (some 27) 118 #[.pointer (some ⟨g, 0, none⟩), sv] (oi := { dst := some 27, op := Go.Op.call { callee := Go.Callee.value (Go.Operand.func 118), args := #[Go.Operand.tmp 25, Go.Operand.tmp 26], argTypes := #[45, 27] }, type := 27, pos := "qparse.go:177", after := #[{ on := 2, ground := Go.Ground.data }, { on := 3, ground := Go.Ground.data }], guard := none }) rfl rfl (by kernel_rfl) (by rfl) (fun w' => by first | rfl | go_simp) ?_
        refine (HC).mono ?_
        rintro e w7 ⟨⟨hG7, hV⟩, hK7⟩
        clear HC
        obtain ⟨hGz, hP0, hO0, hez, hxb, hob5, hrr5, hGwb, hR⟩ := HY.out
        rcases X with ⟨c, a⟩ | ⟨l, m⟩
        · obtain rfl := hV
          obtain rfl : .error (c, a) = R := hR
          exact .inr ⟨_, rfl, ⟨rfl, hGwb.trans hG7, rfl⟩⟩
        obtain ⟨v, rfl, ⟨la, lc, rfl, hrl, hll⟩, hP7⟩ := hV
        obtain rfl : .ok (.mk [112, 97, 116, 104] [] false 0 [x] false l, m) = R := hR
        have hGw7 := hGwb.trans hG7
        have hob7 := Gr.blk hG7 hog hob5
        have hrr7 := Gr.blk hG7 hrg hrr5
        have hsb := hGwb.size
        have hez7 := Gr.blk hG7 heg heb5
        have hebl := blk_lt heb5
        have hsv := hO0.blk
        have hs0 : wb.heap.size ≤ (World.drew wz).heap.size := (hGz.ext ((Ext.refl wz).drew)).size
        have hnbx := blk_lt hC
        have hxd := ((((hxb.gr hGz (fun b hb => by omega)).ext (Ext.refl wz).drew)).reps).ok (q := fun b => ob < b ∧ b < eb) (fun b hb => hb)
        have hRe0 : Rep xb (fun b => (ob < b ∧ b < eb) ∨ b = (World.drew wz).heap.size) (.slice (some ⟨(World.drew wz).heap.size, 0, none⟩) 1 1) (exsD [x]) := by
          have h := rep_new (w := World.drew wz) (W := xb) (q := fun b => (ob < b ∧ b < eb) ∨ b = (World.drew wz).heap.size) (n := 1) (z := 7) hC hEx hxd (fun b hb => .inl hb) (.inr rfl) rfl (by decide)
          rw [show exC x = [x].flatMap exC by simp] at h
          exact h
        have hRe : Rep w7 (fun b => rr < b ∧ b ≠ ob) (.slice (some ⟨(World.drew wz).heap.size, 0, none⟩) 1 1) (exsD [x]) :=
          (hRe0.kept fun b hb hl => hK7 b hl (by omega) fun e => by
            have h1 := hsv b e.symm
            have h2 : (World.drew wz).heap.size = wz.heap.size := rfl
            omega).ok fun b hb => by omega
        have hRs : Rep w7 (fun b => rr < b ∧ b ≠ ob) (.slice la l.length lc) (stsD l) := hrl.ok fun b hb => by omega
        have hS7 : Sk eb wz w7 := hez7.trans (Gr.blk hGz heg heb5).symm
        refine .inl ⟨_, rfl, hS7, ?_⟩
        obtain ⟨nb, hnb⟩ : ∃ n, (World.drew wz).heap.size = n := ⟨_, rfl⟩
        rw [hnb] at hRe ⊢
        have hobE := hob7; have hrrE := hrr7; have hGwE := hGw7; have hPE := hP7
        simp only [Act.put, List.setIfInBounds_toArray, List.set_cons_zero, List.set_cons_succ]
        refine rg_done (by kernel_rfl) ?_
        refine rg_go 3 #[true, true, true, true, true, true, false, false, false] (by kernel_rfl) (by kernel_rfl) fun m => ?_
        obtain ⟨b0, b1, b2, b3, b4, b5, b6⟩ := cells7 hobE
        have f4 := blk_free hobE (k := 4)
        have hobA := heap_setCell_same _ ob 4 _ _ (.slice (some ⟨nb, 0, none⟩) 1 1) hobE
        simp only [List.setIfInBounds_toArray, List.set_cons_zero, List.set_cons_succ] at hobA
        refine rg_write 6 none (w7.setCell ⟨ob, 4, none⟩ (.slice (some ⟨nb, 0, none⟩) 1 1)) (oi := { dst := none, op := Go.Op.store 26 (Go.Operand.tmp 28) (Go.Operand.tmp 24), type := 0, pos := "qparse.go:177", after := #[{ on := 5, ground := Go.Ground.data }, { on := 1, ground := Go.Ground.data }, { on := 4, ground := Go.Ground.chain }, { on := 0, ground := Go.Ground.phase }, { on := 1, ground := Go.Ground.phase }, { on := 2, ground := Go.Ground.textOnly Go.Departure.lateStores }, { on := 3, ground := Go.Ground.textOnly Go.Departure.lateStores }, { on := 4, ground := Go.Ground.textOnly Go.Departure.lateStoresUnsure }], guard := none }) rfl rfl (by kernel_rfl) (by rfl) (exec_store rfl (store_sl _ s1Exs b4 f4 _ _ _)) trivial ?_
        simp only [Act.put, List.setIfInBounds_toArray, List.set_cons_zero, List.set_cons_succ]
        refine rg_take 7 (some 29) (.pointer (some ⟨ob, 6, none⟩)) (oi := { dst := some 29, op := Go.Op.fieldAddr 29 (Go.Operand.tmp 3) 5, type := 0, pos := "qparse.go:177", after := #[{ on := 0, ground := Go.Ground.phase }, { on := 1, ground := Go.Ground.phase }, { on := 2, ground := Go.Ground.phase }, { on := 3, ground := Go.Ground.phase }, { on := 4, ground := Go.Ground.phase }, { on := 5, ground := Go.Ground.phase }, { on := 6, ground := Go.Ground.phase }], guard := none }) rfl rfl (by kernel_rfl) (by kernel_rfl) (by kernel_rfl) (fun _ _ _ h => h) trivial (by rfl) (fun w' hs => by first | rfl | go_simp) ?_
        simp only [Act.put, List.setIfInBounds_toArray, List.set_cons_zero, List.set_cons_succ]
        obtain ⟨d0, d1, d2, d3, d4, d5, d6⟩ := cells7 hobA
        have f6 := blk_free hobA (k := 6)
        have hobB := heap_setCell_same _ ob 6 _ _ (.slice la l.length lc) hobA
        simp only [List.setIfInBounds_toArray, List.set_cons_zero, List.set_cons_succ] at hobB
        refine rg_write 8 none ((w7.setCell ⟨ob, 4, none⟩ (.slice (some ⟨nb, 0, none⟩) 1 1)).setCell ⟨ob, 6, none⟩ (.slice la l.length lc)) (oi := { dst := none, op := Go.Op.store 27 (Go.Operand.tmp 29) (Go.Operand.tmp 27), type := 0, pos := "qparse.go:177", after := #[{ on := 7, ground := Go.Ground.data }, { on := 4, ground := Go.Ground.data }, { on := 6, ground := Go.Ground.chain }, { on := 0, ground := Go.Ground.phase }, { on := 1, ground := Go.Ground.phase }, { on := 2, ground := Go.Ground.phase }, { on := 3, ground := Go.Ground.phase }, { on := 4, ground := Go.Ground.phase }, { on := 5, ground := Go.Ground.phase }, { on := 6, ground := Go.Ground.phase }], guard := none }) rfl rfl (by kernel_rfl) (by rfl) (exec_store rfl (store_sl _ s1Sts d6 f6 _ _ _)) trivial ?_
        simp only [Act.put, List.setIfInBounds_toArray, List.set_cons_zero, List.set_cons_succ]
        refine rg_done (by kernel_rfl) ?_
        obtain ⟨wf, hwf⟩ : ∃ w, (w7.setCell ⟨ob, 4, none⟩ (.slice (some ⟨nb, 0, none⟩) 1 1)).setCell ⟨ob, 6, none⟩ (.slice la l.length lc) = w := ⟨_, rfl⟩
        have hGf : Gr ob w7 wf := by rw [← hwf]; exact ((Gr.refl ob _).set 4 _).set 6 _
        rw [hwf] at hobB ⊢
        clear hwf b0 b1 b2 b3 b4 b5 b6 f4 d0 d1 d2 d3 d4 d5 d6 f6 hobA
        have hrf := Gr.blk hGf hro hrrE
        obtain ⟨r0, r1, r2, r3, r4, r5, r6⟩ := cells7 hrf
        obtain ⟨o0, o1, o2, o3, o4, o5, o6⟩ := cells7 hobB
        have z0 := blk_free hrf (k := 0); have z1 := blk_free hrf (k := 1); have z2 := blk_free hrf (k := 2); have z3 := blk_free hrf (k := 3); have z4 := blk_free hrf (k := 4); have z5 := blk_free hrf (k := 5); have z6 := blk_free hrf (k := 6)
        have HW := Lib.hid (And.intro (hGwE.new hGf (by omega)) (And.intro hrf (And.intro (hRe.gr (fun b hb => hb.2) hGf) (And.intro (hRs.gr (fun b hb => hb.2) hGf) (hPE.gr hGf hgo)))))
        clear hGwE hrf hRe hRs hPE hGf hobB hobE hrrE
        clear hGz hP0 hO0 hez hxb hob5 hrr5 hGwb hP7 hG7 hGw7 hob7 hrr7 hez7 hrl HY HKT heb5 hSp hsv hK7 hC hxd hRe0 hnb hEx hSb hS7
        go_wp2_with fail
        refine fin7 rfl HW.out.2.1 rfl fun W' hG' => ⟨HW.out.1.new hG' (by rw [← hrr]; exact Nat.le_refl _), _, rfl, ⟨_, _, _, _, rfl, ((HW.out.2.2.1).gr (fun b hb => by omega) hG').ok (fun b hb => by omega), ((HW.out.2.2.2.1).gr (fun b hb => by omega) hG').ok (fun b hb => by omega), (show 4 ≤ 1000 by decide), (show 0 ≤ 1000 by decide)⟩, HW.out.2.2.2.2.gr hG' hgr⟩
      · have HC := HKT.out (World.drew wz) (HY.out.1.ext ((Ext.refl wz).drew)) (HY.out.2.1.ext ((Ext.refl wz).drew)) (HY.out.2.2.1.ext ((Ext.refl wz).drew))
        refine tk_callp 4 (some 27) 118 #[.pointer (some ⟨g, 0, none⟩), sv] (oi := { dst := some 27, op := Go.Op.call { callee := Go.Callee.value (Go.Operand.func 118), args := #[Go.Operand.tmp 25, Go.Operand.tmp 26], argTypes := #[45, 27] }, type := 27, pos := "qparse.go:177", after := #[{ on := 2, ground := Go.Ground.data }, { on := 3, ground := Go.Ground.data }], guard := none }) rfl rfl (by rfl) (fun w' => by first | rfl | go_simp) ?_
        refine HC.mono ?_
        rintro e w7 ⟨⟨hG7, hV⟩, hK7⟩
        clear HC
        obtain ⟨hGz, hP0, hO0, hez, hxb, hob5, hrr5, hGwb, hR⟩ := HY.out
        rcases X with ⟨c, a⟩ | ⟨l, m⟩
        · obtain rfl := hV
          obtain rfl : .error (c, a) = R := hR
          exact .inr ⟨_, rfl, ⟨rfl, hGwb.trans hG7, rfl⟩⟩
        obtain ⟨v, rfl, ⟨la, lc, rfl, hrl, hll⟩, hP7⟩ := hV
        obtain rfl : .ok (.mk [112, 97, 116, 104] [] false 0 [x] false l, m) = R := hR
        have hGw7 := hGwb.trans hG7
        have hob7 := Gr.blk hG7 hog hob5
        have hrr7 := Gr.blk hG7 hrg hrr5
        have hsb := hGwb.size
        have hez7 := Gr.blk hG7 heg heb5
        have hebl := blk_lt heb5
        have hsv := hO0.blk
        have hS7 : Sk eb wz w7 := hez7.trans (Gr.blk hGz heg heb5).symm
        refine .inl ⟨_, rfl, hS7, ?_⟩
        simp only [Act.put, List.setIfInBounds_toArray, List.set_cons_zero, List.set_cons_succ]
        refine rg_one 1 (by kernel_rfl) ?_
        refine tk_new 1 (some 24) (.cells #[.string (bs x.op), .string (bs x.text), .bool x.nan, .int .i64 x.val, .slice aa x.args.length ac, .bool x.abs, .slice ad x.steps.length ae] 29) (fun n => .slice (some ⟨n, 0, none⟩) 1 1) (oi := { dst := some 24, op := Go.Op.buildSlice 26 1 #[(0, Go.Operand.tmp 23)], type := 26, pos := "qparse.go:177", after := #[{ on := 0, ground := Go.Ground.data }], guard := none }) rfl rfl (by rfl) (by first | rfl | go_simp) ?_
        intro gb xb egb hEx hzxb hC
        subst egb
        have hSb : Sk eb wz xb := hS7.ext hEx (blk_lt hez7)
        refine ⟨hSb, ?_⟩
        have hs7 := hG7.size
        have hnbx := blk_lt hC
        have hxd := ((hxb0.gr hG7 (fun b hb => by omega)).reps).ok (q := fun b => ob < b ∧ b < eb) (fun b hb => hb)
        have hRe : Rep xb (fun b => rr < b ∧ b ≠ ob) (.slice (some ⟨w7.heap.size, 0, none⟩) 1 1) (exsD [x]) := by
          have h := rep_new (w := w7) (W := xb) (q := fun b => rr < b ∧ b ≠ ob) (n := 1) (z := 7) hC hEx hxd (fun b hb => by omega) (by omega) rfl (by decide)
          rw [show exC x = [x].flatMap exC by simp] at h
          exact h
        have hRs : Rep xb (fun b => rr < b ∧ b ≠ ob) (.slice la l.length lc) (stsD l) := (hrl.ext hEx).ok fun b hb => by omega
        have hobE := Gr.blk (Gr.of g hEx) hog hob7; have hrrE := Gr.blk (Gr.of g hEx) hrg hrr7; have hGwE := hGw7.ext hEx; have hPE := hP7.ext hEx
        obtain ⟨nb, hnb⟩ : ∃ n, w7.heap.size = n := ⟨_, rfl⟩
        rw [hnb] at hRe ⊢
        simp only [Act.put, List.setIfInBounds_toArray, List.set_cons_zero, List.set_cons_succ]
        refine rg_take 5 (some 28) (.pointer (some ⟨ob, 4, none⟩)) (oi := { dst := some 28, op := Go.Op.fieldAddr 29 (Go.Operand.tmp 3) 3, type := 0, pos := "qparse.go:177", after := #[{ on := 0, ground := Go.Ground.phase }, { on := 1, ground := Go.Ground.phase }, { on := 2, ground := Go.Ground.textOnly Go.Departure.lateStores }, { on := 3, ground := Go.Ground.textOnly Go.Departure.lateStores }, { on := 4, ground := Go.Ground.textOnly Go.Departure.lateStoresUnsure }], guard := none }) rfl rfl (by kernel_rfl) (by kernel_rfl) (by kernel_rfl) (fun _ _ _ h => h) hSb (by rfl) (fun w' hs => by first | rfl | go_simp) ?_
        simp only [Act.put, List.setIfInBounds_toArray, List.set_cons_zero, List.set_cons_succ]
        refine rg_done (by kernel_rfl) ?_
        refine rg_go 3 #[true, true, true, true, true, true, false, false, false] (by kernel_rfl) (by kernel_rfl) fun m => ?_
        obtain ⟨b0, b1, b2, b3, b4, b5, b6⟩ := cells7 hobE
        have f4 := blk_free hobE (k := 4)
        have hobA := heap_setCell_same _ ob 4 _ _ (.slice (some ⟨nb, 0, none⟩) 1 1) hobE
        simp only [List.setIfInBounds_toArray, List.set_cons_zero, List.set_cons_succ] at hobA
        refine rg_write 6 none (xb.setCell ⟨ob, 4, none⟩ (.slice (some ⟨nb, 0, none⟩) 1 1)) (oi := { dst := none, op := Go.Op.store 26 (Go.Operand.tmp 28) (Go.Operand.tmp 24), type := 0, pos := "qparse.go:177", after := #[{ on := 5, ground := Go.Ground.data }, { on := 1, ground := Go.Ground.data }, { on := 4, ground := Go.Ground.chain }, { on := 0, ground := Go.Ground.phase }, { on := 1, ground := Go.Ground.phase }, { on := 2, ground := Go.Ground.textOnly Go.Departure.lateStores }, { on := 3, ground := Go.Ground.textOnly Go.Departure.lateStores }, { on := 4, ground := Go.Ground.textOnly Go.Departure.lateStoresUnsure }], guard := none }) rfl rfl (by kernel_rfl) (by rfl) (exec_store rfl (store_sl _ s1Exs b4 f4 _ _ _)) trivial ?_
        simp only [Act.put, List.setIfInBounds_toArray, List.set_cons_zero, List.set_cons_succ]
        refine rg_take 7 (some 29) (.pointer (some ⟨ob, 6, none⟩)) (oi := { dst := some 29, op := Go.Op.fieldAddr 29 (Go.Operand.tmp 3) 5, type := 0, pos := "qparse.go:177", after := #[{ on := 0, ground := Go.Ground.phase }, { on := 1, ground := Go.Ground.phase }, { on := 2, ground := Go.Ground.phase }, { on := 3, ground := Go.Ground.phase }, { on := 4, ground := Go.Ground.phase }, { on := 5, ground := Go.Ground.phase }, { on := 6, ground := Go.Ground.phase }], guard := none }) rfl rfl (by kernel_rfl) (by kernel_rfl) (by kernel_rfl) (fun _ _ _ h => h) trivial (by rfl) (fun w' hs => by first | rfl | go_simp) ?_
        simp only [Act.put, List.setIfInBounds_toArray, List.set_cons_zero, List.set_cons_succ]
        obtain ⟨d0, d1, d2, d3, d4, d5, d6⟩ := cells7 hobA
        have f6 := blk_free hobA (k := 6)
        have hobB := heap_setCell_same _ ob 6 _ _ (.slice la l.length lc) hobA
        simp only [List.setIfInBounds_toArray, List.set_cons_zero, List.set_cons_succ] at hobB
        refine rg_write 8 none ((xb.setCell ⟨ob, 4, none⟩ (.slice (some ⟨nb, 0, none⟩) 1 1)).setCell ⟨ob, 6, none⟩ (.slice la l.length lc)) (oi := { dst := none, op := Go.Op.store 27 (Go.Operand.tmp 29) (Go.Operand.tmp 27), type := 0, pos := "qparse.go:177", after := #[{ on := 7, ground := Go.Ground.data }, { on := 4, ground := Go.Ground.data }, { on := 6, ground := Go.Ground.chain }, { on := 0, ground := Go.Ground.phase }, { on := 1, ground := Go.Ground.phase }, { on := 2, ground := Go.Ground.phase }, { on := 3, ground := Go.Ground.phase }, { on := 4, ground := Go.Ground.phase }, { on := 5, ground := Go.Ground.phase }, { on := 6, ground := Go.Ground.phase }], guard := none }) rfl rfl (by kernel_rfl) (by rfl) (exec_store rfl (store_sl _ s1Sts d6 f6 _ _ _)) trivial ?_
        simp only [Act.put, List.setIfInBounds_toArray, List.set_cons_zero, List.set_cons_succ]
        refine rg_done (by kernel_rfl) ?_
        obtain ⟨wf, hwf⟩ : ∃ w, (xb.setCell ⟨ob, 4, none⟩ (.slice (some ⟨nb, 0, none⟩) 1 1)).setCell ⟨ob, 6, none⟩ (.slice la l.length lc) = w := ⟨_, rfl⟩
        have hGf : Gr ob xb wf := by rw [← hwf]; exact ((Gr.refl ob _).set 4 _).set 6 _
        rw [hwf] at hobB ⊢
        clear hwf b0 b1 b2 b3 b4 b5 b6 f4 d0 d1 d2 d3 d4 d5 d6 f6 hobA
        have hrf := Gr.blk hGf hro hrrE
        obtain ⟨r0, r1, r2, r3, r4, r5, r6⟩ := cells7 hrf
        obtain ⟨o0, o1, o2, o3, o4, o5, o6⟩ := cells7 hobB
        have z0 := blk_free hrf (k := 0); have z1 := blk_free hrf (k := 1); have z2 := blk_free hrf (k := 2); have z3 := blk_free hrf (k := 3); have z4 := blk_free hrf (k := 4); have z5 := blk_free hrf (k := 5); have z6 := blk_free hrf (k := 6)
        have HW := Lib.hid (And.intro (hGwE.new hGf (by omega)) (And.intro hrf (And.intro (hRe.gr (fun b hb => hb.2) hGf) (And.intro (hRs.gr (fun b hb => hb.2) hGf) (hPE.gr hGf hgo)))))
        clear hGwE hrf hRe hRs hPE hGf hobB hobE hrrE
        clear hGz hP0 hO0 hez hxb hob5 hrr5 hGwb hP7 hG7 hGw7 hob7 hrr7 hez7 hrl HY HKT heb5 hSp hsv hK7 hC hxd hnb hxb0 hEx hSb hS7
        go_wp2_with fail
        refine fin7 rfl HW.out.2.1 rfl fun W' hG' => ⟨HW.out.1.new hG' (by rw [← hrr]; exact Nat.le_refl _), _, rfl, ⟨_, _, _, _, rfl, ((HW.out.2.2.1).gr (fun b hb => by omega) hG').ok (fun b hb => by omega), ((HW.out.2.2.2.1).gr (fun b hb => by omega) hG').ok (fun b hb => by omega), (show 4 ≤ 1000 by decide), (show 0 ≤ 1000 by decide)⟩, HW.out.2.2.2.2.gr hG' hgr⟩
  | false =>
    replace hR := (if_neg (by decide)).symm.trans hR
    have HI := Lib.hid (is_any g w3 ts en i nst HV0.out.ok hP3 5 [47])
    have hroot := slash_root ts en i
    obtain ⟨b, hb⟩ : ∃ b, isP ts en i 5 [47] = b := ⟨_, rfl⟩
    rw [hb] at HI hR hroot
    replace HR := Lib.hid hR
    have HQ := Lib.hid (And.intro hGw3 (And.intro hG3 (And.intro hrr3 (And.intro hob3 hP3))))
    clear hR hGw3 hG3 hrr3 hob3 hP3 hb
    go_wp2_with fail
    refine HI.out.mono ?_
    rintro e wb ⟨rfl, hXb⟩
    clear HI
    obtain ⟨hGw3, hG3, hrr3, hob3, hP3⟩ := HQ.out
    have hPb := hP3.ext hXb
    have HC := Lib.hid (slash_any g wb ts en i nst HV0.out.ok hPb)
    have hsl := slash_len ts en i
    have HZ := Lib.hid (And.intro (hGw3.ext hXb) (And.intro (hG3.ext hXb) (And.intro (Gr.blk (Gr.of g hXb) hrg hrr3) (Gr.blk (Gr.of g hXb) hog hob3))))
    have hR := HR.out
    obtain ⟨S, hS⟩ : ∃ S, slashP ts en i = S := ⟨_, rfl⟩
    rw [hS] at HC hR hsl hroot
    obtain ⟨so, k⟩ := S
    dsimp only at HC hR hsl hroot
    obtain ⟨o, ho⟩ : ∃ o, so.getD [] = o := ⟨_, rfl⟩
    obtain ⟨ab, hab⟩ : ∃ ab, so.isSome = ab := ⟨_, rfl⟩
    rw [hab] at hR hroot
    rw [ho] at hR hsl
    replace HR := Lib.hid hR
    clear hR hGw3 hG3 hrr3 hob3 hP3 hPb hXb HQ hS
    go_wp2_with fail
    refine HC.out.mono ?_
    rintro e wz ⟨hGz, hP0, v5, rfl, ⟨sv, rfl, hO0⟩⟩
    clear HC
    rw [hab]
    rw [ho] at hO0
    clear hab ho
    obtain ⟨hGwb, hG0b, hrrb, hobb⟩ := HZ.out
    have hobz := Gr.blk hGz hog hobb
    have hrrz := Gr.blk hGz hrg hrrb
    obtain ⟨b0, b1, b2, b3, b4, b5, b6⟩ := cells7 hobz
    have f5 := blk_free hobz (k := 5)
    obtain ⟨wa, hwa⟩ : ∃ w, wz.setCell ⟨ob, 5, none⟩ (.bool ab) = w := ⟨_, rfl⟩
    obtain ⟨wc, hwc⟩ : ∃ w, wb.setCell ⟨ob, 5, none⟩ (.bool ab) = w := ⟨_, rfl⟩
    have hGca : Gr g wc wa := by rw [← hwa, ← hwc]; exact hGz.set2 hog hobb _
    have hsc : wc.heap.size = wb.heap.size := by rw [← hwc]; simp [World.setCell]
    have hoba := heap_setCell_same _ ob 5 _ _ (.bool ab) hobz
    have hobc := heap_setCell_same _ ob 5 _ _ (.bool ab) hobb
    simp only [List.setIfInBounds_toArray, List.set_cons_zero, List.set_cons_succ] at hoba hobc
    rw [hwa] at hoba
    rw [hwc] at hobc
    have hGoc : Gr ob wb wc := by rw [← hwc]; exact (Gr.refl ob _).set 5 _
    have hGoa : Gr ob wz wa := by rw [← hwa]; exact (Gr.refl ob _).set 5 _
    have hPa : PS g wa ts en k nst := hP0.gr hGoa hgo
    have hobl := blk_lt hobb
    have hW0b := blk_lt hobb
    have hG0c : Gr g W0 wc := hG0b.new hGoc (by omega)
    have hGwc : Gr g W wc := hGwb.new hGoc (by rw [hrr]; omega)
    have hrrc := Gr.blk hGoc hro hrrb
    have hOa : Own wa (fun b => wc.heap.size ≤ b) wc.heap.size 62 4 sv o.length (o.flatMap stC) := by rw [hsc]; exact hO0.gr (by omega) (fun b hb => by omega) hGoa
    have hrra := Gr.blk hGoa hro hrrz
    have HKS := Lib.hid (And.intro hGca (And.intro hG0c (And.intro hPa (And.intro hOa (And.intro hGwc (And.intro hobc hrrc))))))
    have HKB := Lib.hid (And.intro hoba hrra)
    clear hGca hG0c hPa hOa hGwc hobc hrrc hoba hrra hGoc hGoa hGz hP0 hO0 hGwb hG0b hrrb hobb hrrz hwc hobz HZ b0 b1 b2 b3 b4 b6
    cases b with
    | false =>
      have hR := HR.out
      simp only [Bool.false_and, Bool.false_eq_true, if_false] at hR
      have hnf2 : NoF (stepsP ts en f nst o k) := by
        have h := HF.out
        rw [← hR] at h
        revert h
        cases stepsP ts en f nst o k with
        | error e => exact fun h => h
        | ok x => exact fun _ => trivial
      have HC := Lib.hid (HST wc wa k nst o sv (by omega) (HKS.out.1) HKS.out.2.1 (HKS.out.2.2.1) hn (HKS.out.2.2.2.1) (by omega) hnf2)
      obtain ⟨X, hX⟩ : ∃ X, stepsP ts en f nst o k = X := ⟨_, rfl⟩
      rw [hX] at HC hR
      have HY := Lib.hid (And.intro HKS.out.2.2.2.2.1 (And.intro HKS.out.2.2.2.2.2.1 (And.intro HKS.out.2.2.2.2.2.2 hR)))
      clear hR hnf2 hX HKS HKB HR
      go_wp2_with fail
      refine HC.out.mono ?_
      rintro e w8 ⟨⟨hG8, hV⟩, _⟩
      clear HC
      obtain ⟨hGwb, hob5, hrr5, hR⟩ := HY.out
      rcases X with ⟨c, a⟩ | ⟨l, m⟩
      · obtain rfl := hV
        obtain rfl : .error (c, a) = R := hR
        exact ⟨rfl, hGwb.trans hG8, rfl⟩
      obtain ⟨v, rfl, ⟨la, lc, rfl, hrl, hll⟩, hP8⟩ := hV
      obtain rfl : .ok (.mk [112, 97, 116, 104] [] false 0 [] ab l, m) = R := hR
      have hGw8 := hGwb.trans hG8
      have hob8 := Gr.blk hG8 hog hob5
      have hrr8 := Gr.blk hG8 hrg hrr5
      have hsb := hGwb.size
      have hobl := blk_lt hob5
      obtain ⟨d0, d1, d2, d3, d4, d5, d6⟩ := cells7 hob8
      have f6 := blk_free hob8 (k := 6)
      have hobB := heap_setCell_same _ ob 6 _ _ (.slice la l.length lc) hob8
      simp only [List.setIfInBounds_toArray, List.set_cons_zero, List.set_cons_succ] at hobB
      obtain ⟨wf, hwf⟩ : ∃ w, w8.setCell ⟨ob, 6, none⟩ (.slice la l.length lc) = w := ⟨_, rfl⟩
      have hGf : Gr ob w8 wf := by rw [← hwf]; exact (Gr.refl ob _).set 6 _
      rw [hwf] at hobB
      have hrf := Gr.blk hGf hro hrr8
      obtain ⟨r0, r1, r2, r3, r4, r5, r6⟩ := cells7 hrf
      obtain ⟨o0, o1, o2, o3, o4, o5, o6⟩ := cells7 hobB
      have z0 := blk_free hrf (k := 0); have z1 := blk_free hrf (k := 1); have z2 := blk_free hrf (k := 2); have z3 := blk_free hrf (k := 3); have z4 := blk_free hrf (k := 4); have z5 := blk_free hrf (k := 5); have z6 := blk_free hrf (k := 6)
      have HW := Lib.hid (And.intro (hGw8.new hGf (by omega)) (And.intro hrf (And.intro ((hrl.ok (q := fun b => rr < b ∧ b ≠ ob) fun b hb => by omega).gr (fun b hb => hb.2) hGf) (hP8.gr hGf hgo))))
      clear hGw8 hrf hrl hP8 hGf hobB hob8 hrr8 hG8 hGwb hob5 hrr5 HY d0 d1 d2 d3 d4 d5
      go_wp2_with fail
      refine fin7 rfl HW.out.2.1 rfl fun W' hG' => ⟨HW.out.1.new hG' (by rw [← hrr]; exact Nat.le_refl _), _, rfl, ⟨none, 0, _, _, rfl, .nil _, ((HW.out.2.2.1).gr (fun b hb => by omega) hG').ok (fun b hb => by omega), (show 4 ≤ 1000 by decide), (show 0 ≤ 1000 by decide)⟩, HW.out.2.2.2.gr hG' hgr⟩
    | true =>
      obtain rfl : ab = true := hroot rfl
      have hR := HR.out
      have HB := Lib.hid (begins_tok_any g wa ts en k nst HV0.out.ok HKS.out.2.2.1)
      obtain ⟨bb, hbb⟩ : ∃ b, beginsP ts en k = b := ⟨_, rfl⟩
      rw [hbb] at HB hR
      replace HR := Lib.hid hR
      clear hR hbb
      go_wp2_with fail
      refine HB.out.mono ?_
      rintro e wd ⟨rfl, hXd⟩
      clear HB hwa b5 f5
      cases bb with
      | false =>
        obtain rfl : .ok (.mk [112, 97, 116, 104] [] false 0 [] true [], k) = R := HR.out
        obtain ⟨hGca, hG0c, hPa, hOa, hGwc, hobc, hrrc⟩ := HKS.out
        have hrz := Gr.blk (Gr.of g hXd) hrg HKB.out.2
        have hoz := Gr.blk (Gr.of g hXd) hog HKB.out.1
        obtain ⟨r0, r1, r2, r3, r4, r5, r6⟩ := cells7 hrz
        obtain ⟨e0, e1, e2, e3, e4, e5, e6⟩ := cells7 hoz
        have z0 := blk_free hrz (k := 0); have z1 := blk_free hrz (k := 1); have z2 := blk_free hrz (k := 2); have z3 := blk_free hrz (k := 3); have z4 := blk_free hrz (k := 4); have z5 := blk_free hrz (k := 5); have z6 := blk_free hrz (k := 6)
        have HW := Lib.hid (And.intro ((hGwc.trans hGca).ext hXd) (And.intro hrz (hPa.ext hXd)))
        clear hGca hG0c hPa hOa hGwc hobc hrrc hrz hoz hXd HKS HKB HR
        go_wp2_with fail
        refine fin7 rfl HW.out.2.1 rfl fun W' hG' => ⟨HW.out.1.new hG' (by rw [← hrr]; exact Nat.le_refl _), _, rfl, ⟨none, 0, none, 0, rfl, .nil _, .nil _, (show 4 ≤ 1000 by decide), (show 0 ≤ 1000 by decide)⟩, HW.out.2.2.gr hG' hgr⟩
      | true =>
        have hR := HR.out
        simp only [Bool.not_true, Bool.and_false, Bool.false_eq_true, if_false] at hR
        have hnf2 : NoF (stepsP ts en f nst o k) := by
          have h := HF.out
          rw [← hR] at h
          revert h
          cases stepsP ts en f nst o k with
          | error e => exact fun h => h
          | ok x => exact fun _ => trivial
        have HC := Lib.hid (HST wc wd k nst o sv (by omega) (HKS.out.1.ext hXd) HKS.out.2.1 (HKS.out.2.2.1.ext hXd) hn (HKS.out.2.2.2.1.ext hXd) (by omega) hnf2)
        obtain ⟨X, hX⟩ : ∃ X, stepsP ts en f nst o k = X := ⟨_, rfl⟩
        rw [hX] at HC hR
        have HY := Lib.hid (And.intro HKS.out.2.2.2.2.1 (And.intro HKS.out.2.2.2.2.2.1 (And.intro HKS.out.2.2.2.2.2.2 hR)))
        clear hR hnf2 hX HKS HKB HR
        clear hXd
        go_wp2_with fail
        refine HC.out.mono ?_
        rintro e w8 ⟨⟨hG8, hV⟩, _⟩
        clear HC
        obtain ⟨hGwb, hob5, hrr5, hR⟩ := HY.out
        rcases X with ⟨c, a⟩ | ⟨l, m⟩
        · obtain rfl := hV
          obtain rfl : .error (c, a) = R := hR
          exact ⟨rfl, hGwb.trans hG8, rfl⟩
        obtain ⟨v, rfl, ⟨la, lc, rfl, hrl, hll⟩, hP8⟩ := hV
        obtain rfl : .ok (.mk [112, 97, 116, 104] [] false 0 [] true l, m) = R := hR
        have hGw8 := hGwb.trans hG8
        have hob8 := Gr.blk hG8 hog hob5
        have hrr8 := Gr.blk hG8 hrg hrr5
        have hsb := hGwb.size
        have hobl := blk_lt hob5
        obtain ⟨d0, d1, d2, d3, d4, d5, d6⟩ := cells7 hob8
        have f6 := blk_free hob8 (k := 6)
        have hobB := heap_setCell_same _ ob 6 _ _ (.slice la l.length lc) hob8
        simp only [List.setIfInBounds_toArray, List.set_cons_zero, List.set_cons_succ] at hobB
        obtain ⟨wf, hwf⟩ : ∃ w, w8.setCell ⟨ob, 6, none⟩ (.slice la l.length lc) = w := ⟨_, rfl⟩
        have hGf : Gr ob w8 wf := by rw [← hwf]; exact (Gr.refl ob _).set 6 _
        rw [hwf] at hobB
        have hrf := Gr.blk hGf hro hrr8
        obtain ⟨r0, r1, r2, r3, r4, r5, r6⟩ := cells7 hrf
        obtain ⟨o0, o1, o2, o3, o4, o5, o6⟩ := cells7 hobB
        have z0 := blk_free hrf (k := 0); have z1 := blk_free hrf (k := 1); have z2 := blk_free hrf (k := 2); have z3 := blk_free hrf (k := 3); have z4 := blk_free hrf (k := 4); have z5 := blk_free hrf (k := 5); have z6 := blk_free hrf (k := 6)
        have HW := Lib.hid (And.intro (hGw8.new hGf (by omega)) (And.intro hrf (And.intro ((hrl.ok (q := fun b => rr < b ∧ b ≠ ob) fun b hb => by omega).gr (fun b hb => hb.2) hGf) (hP8.gr hGf hgo))))
        clear hGw8 hrf hrl hP8 hGf hobB hob8 hrr8 hG8 hGwb hob5 hrr5 HY d0 d1 d2 d3 d4 d5
        go_wp2_with fail
        refine fin7 rfl HW.out.2.1 rfl fun W' hG' => ⟨HW.out.1.new hG' (by rw [← hrr]; exact Nat.le_refl _), _, rfl, ⟨none, 0, _, _, rfl, .nil _, ((HW.out.2.2.1).gr (fun b hb => by omega) hG').ok (fun b hb => by omega), (show 4 ≤ 1000 by decide), (show 0 ≤ 1000 by decide)⟩, HW.out.2.2.2.gr hG' hgr⟩
end

end Go.Proofs.YtfoclfefjcnllaaGreatDoor

/-
  The parser's call. Helper lemmas; no statement of the seat is proved here.
-/
namespace Go.Proofs.YtfoclfefjcnllaaGreatDoor
open Go.RowKit
set_option maxRecDepth 100000
set_option linter.unusedVariables false
set_option linter.unusedSimpArgs false

theorem tk_app7 {ops : Array Oper} {Q : Exit → Act → World → Prop} {K : Act → World → Prop} {a : Act} {w : World} (i : Nat) (dt : Option Tmp) {oi : Oper} (hi' : ops[i]? = some oi) (hd : oi.dst = dt) (hw : Region.wanted oi (yielded ops a.tmps) = true) (s x : Operand) (ho : oi.op = .call { callee := .builtin .append, args := #[s, x], argTypes := #[26, 26] })
    {p : Nat → Prop} {base n m cap gb : Nat} {d : Value} {es ds : List DV} {us : List Value} (hs : a.eval s = d) (hown : Own w p base 29 7 d n es) (hx : a.eval x = .slice (some ⟨gb, 0, none⟩) m cap)
    (hc : ∀ (j : Nat) (u : Value), us[j]? = some u → w.cell? ⟨gb, j, none⟩ = some u) (hr : Reps w (fun b => p b ∧ some b ≠ d.ownBlock ∧ b < w.heap.size) us ds) (h1 : ∀ e ∈ ds, e.one = true) (hl : us.length = m * 7) (hm : n + m ≤ 1000000) (hb : base ≤ w.heap.size)
    (h : ∀ d' w', Own w' p base 29 7 d' (n + m) (es ++ ds) → w.grownBy w' d.ownBlock → K (a.put dt d') w') : wpOp Tryz.prog ops Q i K a w := by
  obtain ⟨i0, ii, iz0, iz1, iz2⟩ := info_parts infoEx
  obtain ⟨vs, ho1, ho2⟩ := hown
  refine tk_app i dt hi' hd hw s x 26 ho base 29 i0 (.agg #[.string ⟨#[]⟩, .string ⟨#[]⟩, .bool false, .int .i64 0, .slice none 0 0, .bool false, .slice none 0 0]) 7 104 Tryz.underlying26 ii iz0 iz1 iz2 rfl (by decide) d n vs hs ho1 ⟨gb, 0, none⟩ m cap us hx hl (fun j u hj => by rw [add_offs', Nat.zero_add]; exact hc j u hj) (hr.one h1) (by unfold maxLen; omega) (by omega) hb ?_
  intro v' w' q1 q2 q3
  exact h v' w' (Own.push ho2 hr q1 q2 q3) q2
theorem blk_grown {w w' : World} {b base : Nat} {o : Obj} {row : Option Nat} (h : w.heap[b]? = some o) (k : w.grownBy w' row) (hr : ∀ x, row = some x → base ≤ x) (hb : b < base) : w'.heap[b]? = some o :=
  (k.block b (blk_lt h) fun e => by have := hr b e.symm; omega).trans h
theorem callP_eq (ts : List QT) (en f nest : Nat) (o : List Ex) (i : Nat) : callP ts en (f + 1) nest false o i = match exprP ts en f nest i with
      | .error e => .error e
      | .ok (e, j) => if isP ts en j 6 [44] = true then callP ts en f nest false (o ++ [e]) (j + 1) else .ok (o ++ [e], j) := by rw [callP]; rfl
theorem callP_none (ts : List QT) (en f nest : Nat) (o : List Ex) (i : Nat) : callP ts en (f + 1) nest true o i = .ok (o, i) := by rw [callP]; rfl
section
variable {g : Nat} {W0 : World} {ts : List QT} {en : Nat}
set_option maxHeartbeats 32000000 in
theorem call_step (HV : PEnv g W0 ts en) (f : Nat) (HE : ∀ k, k < f → KE g W0 ts en 29 (exprP ts en k)) : KC g W0 ts en (callR ts en f) := by
  intro W i nst hG hP hn hF hk2
  obtain ⟨R, hR⟩ : ∃ R, callR ts en f nst i = R := ⟨_, rfl⟩
  rw [hR] at hF ⊢
  unfold callR at hR
  have HV0 := Lib.hid HV
  have HF := Lib.hid hF
  have HE0 := Lib.hid HE
  have hlt := hP.lt
  have hlen := HV.ok.len
  have htx := tokP_tx HV.ok i
  have hil : i < ts.length := kind_lt ts en i (by omega)
  obtain ⟨x, hx⟩ : ∃ x, tokP ts en i = x := ⟨_, rfl⟩
  rw [hx] at hR htx ⊢
  obtain ⟨w1, hw1⟩ : ∃ w, W.alloc (.cells #[.int .i64 x.kind, .int .i64 x.at', .string (bs x.text)] 111) = w := ⟨_, rfl⟩
  have Ew1 : Ext W w1 := by rw [← hw1]; exact (Ext.refl W).alloc _
  have hbw1 : w1.heap[W.heap.size]? = some (.cells #[.int .i64 x.kind, .int .i64 x.at', .string (bs x.text)] 111) := by rw [← hw1]; exact Array.getElem?_push_size

  obtain ⟨tb, htb⟩ : ∃ r, W.heap.size = r := ⟨_, rfl⟩
  rw [htb] at hbw1
  have hl1 := blk_lt hbw1
  obtain ⟨w2, hw2⟩ : ∃ w, w1.alloc (.cells #[.string ⟨#[]⟩, .string ⟨#[]⟩, .bool false, .int .i64 0, .slice none 0 0, .bool false, .slice none 0 0] 29) = w := ⟨_, rfl⟩
  have Ew2 : Ext w1 w2 := by rw [← hw2]; exact (Ext.refl w1).alloc _
  have hbw2 : w2.heap[w1.heap.size]? = some (.cells #[.string ⟨#[]⟩, .string ⟨#[]⟩, .bool false, .int .i64 0, .slice none 0 0, .bool false, .slice none 0 0] 29) := by rw [← hw2]; exact Array.getElem?_push_size

  obtain ⟨rr, hrr⟩ : ∃ r, w1.heap.size = r := ⟨_, rfl⟩
  rw [hrr] at hbw2
  have hl2 := blk_lt hbw2
  have htg : tb ≠ g := by omega
  have hrg : rr ≠ g := by omega
  have hgr : g < rr := by omega
  have htr : tb ≠ rr := by omega
  have hgt : g < tb := by omega
  have htrl : tb < rr := by omega
  have hE2 := Ew1.trans Ew2
  have hP2 := hP.ext hE2
  have ht2 := Gr.blk (Gr.of g Ew2) htg hbw1
  obtain ⟨t0, t1, t2⟩ := cells3 ht2
  have HC := Lib.hid (arguments_any x.text w2)
  have HQ := Lib.hid (And.intro hE2 (And.intro hP2 (And.intro hbw2 (And.intro ht2 (hG.ext hE2)))))
  have hW0s := hG.size
  obtain ⟨A, hA⟩ : ∃ A, argsS x.text = A := ⟨_, rfl⟩
  unfold argsR at HC
  rw [hA] at HC hR
  have HR := Lib.hid hR
  clear hR hF hG hP hP2 Ew1 Ew2 hE2 hbw1 hbw2 HV hx hA ht2 hk2 HE
  go_enter Tryz.func131, Tryz.ntmps131
  go_wp2_with fail
  refine HC.out.mono ?_
  rintro e w3 ⟨rfl, hX3⟩
  clear HC hw1 hw2
  obtain ⟨hE2, hP2, hr2, ht2, hG2⟩ := HQ.out
  have hP3 := hP2.ext hX3
  have hG3 := hG2.ext hX3
  have hGw3 := (Gr.of g hE2).ext hX3
  have hr3 := Gr.blk (Gr.of g hX3) hrg hr2
  have ht3 := Gr.blk (Gr.of g hX3) htg ht2
  have hs3 := hX3.size
  clear hP2 hG2 hr2 ht2 hE2 HQ hX3 t0 t1 t2
  have hR := HR.out
  rcases A with _ | ⟨lo, hi⟩
  · obtain rfl : failP ts en 63 i = R := hR
    have HC := Lib.hid (fail_any g w3 ts en i nst HV0.out.ok hP3 63)
    have HW := Lib.hid hGw3
    clear hP3 hG3 hGw3 hr3 ht3 HR
    go_wp2_with fail
    refine HC.out.mono ?_
    rintro e w6 ⟨rfl, hX6⟩
    exact ⟨rfl, HW.out.ext hX6, rfl⟩
  dsimp only at hR
  have c1 := hP3.c1; have f1 := hP3.f1
  have hiI : (i : Int) ≤ 1000 := by omega
  obtain ⟨wz, hwz⟩ : ∃ w, w3.setCell ⟨g, 1, none⟩ (.int .i64 (i + 1 : Nat)) = w := ⟨_, rfl⟩
  have hwz' : w3.setCell ⟨g, 1, none⟩ (.int .i64 ((i : Int) + 1)) = wz := hwz
  have hPz : PS g wz ts en (i + 1) nst := by rw [← hwz]; exact hP3.set (i + 1) hil
  have hGz : Gr g w3 wz := by rw [← hwz]; exact (Gr.refl g w3).set 1 _
  have hrz := Gr.blk hGz hrg hr3
  obtain ⟨r0, r1, r2, r3, r4, r5, r6⟩ := cells7 hrz
  have z0 := blk_free hrz (k := 0); have z1 := blk_free hrz (k := 1); have z2 := blk_free hrz (k := 2); have z3 := blk_free hrz (k := 3); have z4 := blk_free hrz (k := 4); have z5 := blk_free hrz (k := 5); have z6 := blk_free hrz (k := 6)

  have htz := Gr.blk hGz htg ht3
  have HM := Lib.hid (must_any g wz ts en (i + 1) nst HV0.out.ok hPz [40])
  obtain ⟨M, hM⟩ : ∃ M, mustP ts en (i + 1) [40] = M := ⟨_, rfl⟩
  have hmk : ∀ y, M = .ok y → y.2 = i + 1 + 1 := fun y hy => (must_ok ts en (hM.trans hy)).1
  rw [hM] at HM hR
  replace HR := Lib.hid hR
  have HQ := Lib.hid (And.intro (hGw3.trans hGz) (And.intro (hG3.trans hGz) (And.intro hrz htz)))
  have hsz3 := hGz.size
  clear hR hM hP3 hG3 hGw3 hr3 ht3 hPz hGz hrz htz hwz r0 r1 r2 r3 r4 r5 r6 z0 z1 z2 z3 z4 z5 z6
  dsimp only [argsR]
  go_wp2_with fail
  refine HM.out.mono ?_
  rintro e w5 ⟨hG5, hV⟩
  clear HM c1 f1 hwz'
  obtain ⟨hGz, hG0z, hrz, htz⟩ := HQ.out
  have hR := HR.out
  rcases M with ⟨c, a⟩ | ⟨u, j0⟩
  · obtain rfl := hV
    obtain rfl : _ = R := hR
    exact ⟨rfl, hGz.trans hG5, rfl⟩
  obtain ⟨v, rfl, rfl, hP5⟩ := hV
  obtain rfl : j0 = i + 1 + 1 := hmk _ rfl
  obtain ⟨j0, hj0⟩ : ∃ j, i + 1 + 1 = j := ⟨_, rfl⟩
  rw [hj0] at hP5 hR
  dsimp only at hR
  have ht5 := Gr.blk hG5 htg htz
  obtain ⟨t0, t1, t2⟩ := cells3 ht5
  clear hmk
  obtain ⟨w6, hw6⟩ : ∃ w, w5.alloc (.cells #[.string ⟨#[99, 97, 108, 108]⟩, .string (bs x.text), .bool false, .int .i64 0, .slice none 0 0, .bool false, .slice none 0 0] 29) = w := ⟨_, rfl⟩
  have Ew6 : Ext w5 w6 := by rw [← hw6]; exact (Ext.refl w5).alloc _
  have hbw6 : w6.heap[w5.heap.size]? = some (.cells #[.string ⟨#[99, 97, 108, 108]⟩, .string (bs x.text), .bool false, .int .i64 0, .slice none 0 0, .bool false, .slice none 0 0] 29) := by rw [← hw6]; exact Array.getElem?_push_size

  obtain ⟨ob, hob⟩ : ∃ r, w5.heap.size = r := ⟨_, rfl⟩
  rw [hob] at hbw6
  have hs5 := hG5.size
  have hl6 := blk_lt hbw6
  have hog : ob ≠ g := by omega
  have hgo : g < ob := by omega
  have hto : tb ≠ ob := by omega
  have hro : rr ≠ ob := by omega
  have hor : ob ≠ rr := by omega
  have hrol : rr < ob := by omega
  have hP6 := hP5.ext Ew6
  have HC := Lib.hid (is_any g w6 ts en j0 nst HV0.out.ok hP6 6 [41])
  obtain ⟨B, hB⟩ : ∃ b, isP ts en j0 6 [41] = b := ⟨_, rfl⟩
  rw [hB] at HC hR
  replace HR := Lib.hid hR
  have HQ := Lib.hid (And.intro ((hGz.trans hG5).ext Ew6) (And.intro ((hG0z.trans hG5).ext Ew6) (And.intro hP6 (And.intro hbw6 (And.intro (Gr.blk (hG5.ext Ew6) hrg hrz) (Gr.blk (Gr.of g Ew6) htg ht5))))))
  have HW6 := Lib.hid hw6
  clear hR hB hG5 hP5 hGz hG0z hrz htz ht5 hP6 Ew6 hbw6 hw6
  go_wp2_with fail
  rw [HW6.out]
  refine HC.out.mono ?_
  rintro e wz ⟨rfl, hXz⟩
  clear HC HW6 t0 t1 t2
  obtain ⟨B0, hB0⟩ : ∃ b, w6.heap.size = b := ⟨_, rfl⟩
  have HB0 := Lib.hid (show g < tb ∧ tb < rr ∧ rr < ob ∧ ob < B0 ∧ W.heap.size = tb ∧ W0.heap.size ≤ tb by omega)
  have HBz := Lib.hid (show B0 ≤ wz.heap.size by rw [← hB0]; exact hXz.size)
  obtain ⟨hGw, hG0, hP6, hob6, hr6, ht6⟩ := HQ.out
  have HS : Hid (Gr g W wz ∧ Gr g W0 wz ∧ PS g wz ts en j0 nst ∧ wz.heap[ob]? = some (.cells #[.string ⟨#[99, 97, 108, 108]⟩, .string (bs x.text), .bool false, .int .i64 0, .slice none 0 0, .bool false, .slice none 0 0] 29) ∧ wz.heap[rr]? = some (.cells #[.string ⟨#[]⟩, .string ⟨#[]⟩, .bool false, .int .i64 0, .slice none 0 0, .bool false, .slice none 0 0] 29) ∧ wz.heap[tb]? = some (.cells #[.int .i64 x.kind, .int .i64 x.at', .string (bs x.text)] 111) ∧ Own wz (fun b => B0 ≤ b) B0 29 7 (.slice none 0 0) ([] : List Ex).length (([] : List Ex).flatMap exC)) := Lib.hid ⟨hGw.ext hXz, hG0.ext hXz, hP6.ext hXz, Gr.blk (Gr.of g hXz) hog hob6, Gr.blk (Gr.of g hXz) hrg hr6, Gr.blk (Gr.of g hXz) htg ht6, Own.nil _ _ _ _ _⟩
  clear hGw hG0 hP6 hob6 hr6 ht6 hXz HQ hB0
  have hR := HR.out
  have hnf1 : NoF (callP ts en f nst B [] j0) := by
    have h := HF.out
    rw [← hR] at h
    revert h
    cases callP ts en f nst B [] j0 with
    | error e => exact fun h => h
    | ok x => exact fun _ => trivial
  have hnf : ∃ k, f = k + 1 := by
    cases f with
    | zero => rw [callP] at hnf1; exact absurd rfl hnf1
    | succ k => exact ⟨k, rfl⟩
  obtain ⟨k, hkf⟩ := hnf
  cases B with
  | true =>
    rw [hkf, callP_none] at hR
    dsimp only at hR
    obtain ⟨hGT, _, hPT, hobT, hrT, htT, hOT⟩ := HS.out
    clear HS hnf1
    have HM := Lib.hid (must_any g wz ts en j0 nst HV0.out.ok hPT [41])
    obtain ⟨M, hM⟩ : ∃ M, mustP ts en j0 [41] = M := ⟨_, rfl⟩
    rw [hM] at HM hR
    replace HR := Lib.hid hR
    have HT := Lib.hid (And.intro hGT (And.intro hobT (And.intro hrT (And.intro htT hOT))))
    clear hR hM hGT hobT hrT htT hOT hPT
    go_wp2_with fail
    refine HM.out.mono ?_
    rintro e w9 ⟨hG9, hV⟩
    clear HM
    obtain ⟨hGT, hobT, hrT, htT, hOT⟩ := HT.out
    have hR := HR.out
    rcases M with ⟨c, a⟩ | ⟨u, m⟩
    · obtain rfl := hV
      obtain rfl : _ = R := hR
      exact ⟨rfl, hGT.trans hG9, rfl⟩
    obtain ⟨v, rfl, rfl, hP9⟩ := hV
    dsimp only at hR
    have hBz := HB0.out
    have hob9 := Gr.blk hG9 hog hobT
    have hr9 := Gr.blk hG9 hrg hrT
    have ht9 := Gr.blk hG9 htg htT
    have hO9 := hOT.gr (g := g) (by omega) (fun b hb => by omega) hG9
    obtain ⟨o0, o1, o2, o3, o4, o5, o6⟩ := cells7 hob9
    obtain ⟨t0, t1, t2⟩ := cells3 ht9
    have HW := Lib.hid (And.intro (hGT.trans hG9) (And.intro hr9 (And.intro hP9 hO9)))
    clear hGT hobT hrT htT hOT hG9 hP9 hO9 HT hob9 ht9
    by_cases hlo : 0 < lo
    · obtain rfl : .error (64, (x.at' : Int)) = R := (if_pos (.inl hlo)).symm.trans hR
      have qlo : (0 : Int) < (lo : Int) := by omega
      clear hlo HR hr9
      go_wp2_with fail
      exact ⟨rfl, HW.out.1, rfl⟩
    have qlo : ¬ (0 : Int) < (lo : Int) := by omega
    by_cases hhi : hi < 0
    · exact absurd hhi (Nat.not_lt_zero _)
    have qhi : ¬ (hi : Int) < (0 : Int) := by omega
    obtain rfl : .ok (.mk [99, 97, 108, 108] x.text false 0 [] false [], m) = R := (if_neg (by first | omega | (simp only [List.length_nil]; omega))).symm.trans hR
    obtain ⟨r0, r1, r2, r3, r4, r5, r6⟩ := cells7 hr9
    have z0 := blk_free hr9 (k := 0); have z1 := blk_free hr9 (k := 1); have z2 := blk_free hr9 (k := 2); have z3 := blk_free hr9 (k := 3); have z4 := blk_free hr9 (k := 4); have z5 := blk_free hr9 (k := 5); have z6 := blk_free hr9 (k := 6)
    clear hlo hhi HR hR hr9
    go_wp2_with fail
    refine fin7 rfl HW.out.2.1 rfl fun W' hG' => ⟨HW.out.1.new hG' (by omega), _, rfl, ⟨_, _, none, 0, rfl, (HW.out.2.2.2.rep.gr (fun b hb => by omega) hG').ok (fun b hb => by omega), .nil _, (show 4 ≤ 1000 by decide), htx⟩, HW.out.2.2.1.gr hG' hgr⟩
  | false =>
    obtain ⟨X, hX⟩ : ∃ X, callP ts en f nst false [] j0 = X := ⟨_, rfl⟩
    rw [hX] at hR hnf1
    rw [hkf, callP_eq] at hX
    have hnf2 : NoF (exprP ts en k nst j0) := by
      have h := hnf1
      rw [← hX] at h
      revert h
      cases exprP ts en k nst j0 with
      | error e => exact fun h => h
      | ok x => exact fun _ => trivial
    have hmn := mono_expr ts en k nst j0
    have HC := Lib.hid (HE0.out k (by omega) (World.drew wz) j0 nst (HS.out.2.1.ext (Ext.refl wz).drew) (HS.out.2.2.1.ext (Ext.refl wz).drew) hn hnf2)
    obtain ⟨Y, hY⟩ : ∃ Y, exprP ts en k nst j0 = Y := ⟨_, rfl⟩
    rw [hY] at HC hX hmn
    have o4 := blk_cell HS.out.2.2.2.1 (k := 4) rfl
    replace HR := Lib.hid hR
    have HNX := Lib.hid hnf1
    obtain ⟨jj, hjj0⟩ : ∃ j, j0 = j := ⟨_, rfl⟩
    rw [hjj0] at HS hmn
    have HY := Lib.hid (And.intro HS.out (And.intro (show ([] : List Ex).length + 1 ≤ jj by rw [← hjj0, ← hj0]; simp) (And.intro (show k < f by omega) (And.intro hX hmn))))
    have hkl : ([] : List Ex).length ≤ 1000 := by simp
    clear hR hnf1 hnf2 hX hY HS hmn hkf
    go_wp2_with fail
    refine rg_cut (S := Sk ob wz) 5 (by kernel_rfl) (by kernel_rfl) (by kernel_rfl) (by kernel_rfl) (Sk.begin _ _) ?_
    have hSp : Sk ob wz (World.drew wz) := (Sk.begin _ _)
    refine rg_take 0 (some 35) (.pointer (some ⟨ob, 4, none⟩)) (oi := { dst := some 35, op := Go.Op.fieldAddr 29 (Go.Operand.tmp 8) 3, type := 0, pos := "qparse.go:303", after := #[], guard := none }) rfl rfl (by kernel_rfl) (by kernel_rfl) (by kernel_rfl) (fun _ _ _ h => h) hSp (by rfl) (fun w' hs => by first | rfl | go_simp) ?_
    simp only [Act.put, List.setIfInBounds_toArray, List.set_cons_zero, List.set_cons_succ]
    refine rg_take 1 (some 36) (.slice none 0 0) (oi := { dst := some 36, op := Go.Op.load 26 (Go.Operand.tmp 35), type := 26, pos := "qparse.go:303", after := #[{ on := 0, ground := Go.Ground.data }], guard := none }) rfl rfl (by kernel_rfl) (by kernel_rfl) (by kernel_rfl) (fun _ _ _ h => h) hSp (by rfl) (fun w' hs => by (have h0 := hs.cell trivial o4; go_simp)) ?_
    simp only [Act.put, List.setIfInBounds_toArray, List.set_cons_zero, List.set_cons_succ]
    refine rg_take 2 (some 37) (.pointer (some ⟨g, 0, none⟩)) (oi := { dst := some 37, op := Go.Op.move (Go.Operand.tmp 0), type := 45, pos := "qparse.go:303", after := #[], guard := none }) rfl rfl (by kernel_rfl) (by kernel_rfl) (by kernel_rfl) (fun _ _ _ h => h) hSp (by rfl) (fun w' hs => by rfl) ?_
    simp only [Act.put, List.setIfInBounds_toArray, List.set_cons_zero, List.set_cons_succ]
    refine rg_callp 3 (some 38) 29 #[.pointer (some ⟨g, 0, none⟩)] (oi := { dst := some 38, op := Go.Op.call { callee := Go.Callee.value (Go.Operand.func 29), args := #[Go.Operand.tmp 37], argTypes := #[45] }, type := 29, pos := "qparse.go:303", after := #[{ on := 2, ground := Go.Ground.data }], guard := none }) rfl rfl (by kernel_rfl) (by rfl) (fun w' => by first | rfl | go_simp) ?_
    refine (HC.out).mono ?_
    rintro e w6 ⟨hG6, hV⟩
    clear HC
    obtain ⟨⟨hGw, hG0, hP, hob, hrb, htk, hO⟩, hll, hkf, hX, hmn⟩ := HY.out
    rcases Y with ⟨c, a⟩ | ⟨z, j2⟩
    · obtain rfl := hV
      obtain rfl : .error (c, a) = X := hX
      obtain rfl : .error (c, a) = R := HR.out
      exact .inr ⟨_, rfl, ⟨rfl, (hGw.ext (Ext.refl wz).drew).trans hG6, rfl⟩⟩
    obtain ⟨v, rfl, hz, hP6⟩ := hV
    obtain ⟨aa, ac, ad, ae, rfl, hzw⟩ := XW.of hz
    clear hz
    have hG6' : Gr g wz w6 := (Gr.of g (Ext.refl wz).drew).trans hG6
    have hS6 : Sk ob wz w6 := Sk.gr (Sk.begin ob wz) hG6 (blk_lt (w := wz) hob) hog
    have hob6 := Gr.blk hG6' hog hob
    have hlo6 := blk_lt hob6
    refine .inl ⟨_, rfl, hS6, ?_⟩
    simp only [Act.put, List.setIfInBounds_toArray, List.set_cons_zero, List.set_cons_succ]
    refine rg_one 4 (by kernel_rfl) ?_
    refine tk_new 4 (some 39) (.cells #[.string (bs z.op), .string (bs z.text), .bool z.nan, .int .i64 z.val, .slice aa z.args.length ac, .bool z.abs, .slice ad z.steps.length ae] 29) (fun n => .slice (some ⟨n, 0, none⟩) 1 1) (oi := { dst := some 39, op := Go.Op.buildSlice 26 1 #[(0, Go.Operand.tmp 38)], type := 26, pos := "qparse.go:303", after := #[{ on := 3, ground := Go.Ground.data }], guard := none }) rfl rfl (by rfl) (by first | rfl | go_simp) ?_
    intro gb xb egb hEx hzxb hC
    subst egb
    have hSb : Sk ob wz xb := hS6.ext hEx hlo6
    refine ⟨hSb, ?_⟩
    simp only [Act.put, List.setIfInBounds_toArray, List.set_cons_zero, List.set_cons_succ]
    refine rg_done (by kernel_rfl) ?_
    refine rg_go 3 #[true, true, true, true, true, false, false, false] (by kernel_rfl) (by kernel_rfl) fun m => ?_
    have hdb := hO.blk
    have hBz := HB0.out
    have hsz : wz.heap.size ≤ w6.heap.size := hG6'.size
    have hsx := hEx.size
    have hszz : B0 ≤ wz.heap.size := by have := HBz.out; omega
    have hOx := (hO.gr (g := g) (by omega) (fun b hb => by omega) hG6').ext hEx
    have hrx := ((hzw.reps.lt.ext hEx)).ok (q := fun b => B0 ≤ b ∧ some b ≠ (Value.slice none 0 0).ownBlock ∧ b < xb.heap.size) (fun b hb => by
      have h1 : wz.heap.size ≤ b := hb.1
      exact ⟨by omega, fun e => by have := (hdb b e.symm).2; omega, by omega⟩)
    refine rg_one 5 (by kernel_rfl) ?_
    refine tk_app7 5 (some 40) (oi := { dst := some 40, op := Go.Op.call { callee := Go.Callee.builtin Go.Builtin.append, args := #[Go.Operand.tmp 36, Go.Operand.tmp 39], argTypes := #[26, 26] }, type := 26, pos := "qparse.go:303", after := #[{ on := 1, ground := Go.Ground.data }, { on := 4, ground := Go.Ground.data }, { on := 3, ground := Go.Ground.chain }], guard := none }) rfl rfl (by rfl) (.tmp 36) (.tmp 39) rfl (hs := rfl) (hown := hOx) (hx := rfl) (hc := fun j u hj => blk_cells (xs := (exU z (.slice aa z.args.length ac) (.slice ad z.steps.length ae))) hC j hj) (hr := hrx) (h1 := one_ex z) (hl := rfl) (hm := by first | omega | (simp only [List.length_nil]; omega)) (hb := by omega) ?_
    intro d2 w7 hO7 hg7
    refine ⟨trivial, ?_⟩
    obtain ⟨da2, dc2, rfl, _, _⟩ := hO7.form
    have hrow : ∀ y, (Value.slice none 0 0).ownBlock = some y → B0 ≤ y := fun y hy => (hdb y hy).1
    have hGx := hGw.trans (hG6'.ext hEx)
    have hob7 := blk_grown (Gr.blk (Gr.of g hEx) hog hob6) hg7 hrow (by omega)
    have hrb7 := blk_grown (Gr.blk (hG6'.ext hEx) hrg hrb) hg7 hrow (by omega)
    have htk7 := blk_grown (Gr.blk (hG6'.ext hEx) htg htk) hg7 hrow (by omega)
    have hP7 := (hP6.ext hEx).grown hg7 fun y hy => by have := hrow y hy; omega
    have hGw7 := (hGw.trans (hG6'.ext hEx)).grown hg7 fun y hy => by have := hrow y hy; omega
    have hG07 := (hG0.trans (hG6'.ext hEx)).grown hg7 fun y hy => by have := hrow y hy; omega
    simp only [Act.put, List.setIfInBounds_toArray, List.set_cons_zero, List.set_cons_succ]
    refine rg_take 6 (some 41) (.pointer (some ⟨ob, 4, none⟩)) (oi := { dst := some 41, op := Go.Op.fieldAddr 29 (Go.Operand.tmp 8) 3, type := 0, pos := "qparse.go:303", after := #[{ on := 0, ground := Go.Ground.phase }, { on := 1, ground := Go.Ground.phase }, { on := 2, ground := Go.Ground.phase }, { on := 3, ground := Go.Ground.phase }, { on := 4, ground := Go.Ground.phase }, { on := 5, ground := Go.Ground.phase }], guard := none }) rfl rfl (by kernel_rfl) (by kernel_rfl) (by kernel_rfl) (fun _ _ _ h => h) trivial (by rfl) (fun w' hs => by first | rfl | go_simp) ?_
    simp only [Act.put, List.setIfInBounds_toArray, List.set_cons_zero, List.set_cons_succ]
    obtain ⟨b0, b1, b2, b3, b4, b5, b6⟩ := cells7 hob7
    have f4 := blk_free hob7 (k := 4)
    have hobA := heap_setCell_same _ ob 4 _ _ (.slice da2 (([] : List Ex).length + 1) dc2) hob7
    simp only [List.setIfInBounds_toArray, List.set_cons_zero, List.set_cons_succ] at hobA
    refine rg_write 7 none (w7.setCell ⟨ob, 4, none⟩ (.slice da2 (([] : List Ex).length + 1) dc2)) (oi := { dst := none, op := Go.Op.store 26 (Go.Operand.tmp 41) (Go.Operand.tmp 40), type := 0, pos := "qparse.go:303", after := #[{ on := 6, ground := Go.Ground.data }, { on := 5, ground := Go.Ground.data }, { on := 5, ground := Go.Ground.chain }, { on := 0, ground := Go.Ground.phase }, { on := 1, ground := Go.Ground.phase }, { on := 2, ground := Go.Ground.phase }, { on := 3, ground := Go.Ground.phase }, { on := 4, ground := Go.Ground.phase }, { on := 5, ground := Go.Ground.phase }], guard := none }) rfl rfl (by kernel_rfl) (by rfl) (exec_store rfl (store_sl _ s1Exs b4 f4 _ _ _)) trivial ?_
    simp only [Act.put, List.setIfInBounds_toArray, List.set_cons_zero, List.set_cons_succ]
    refine rg_done (by kernel_rfl) ?_
    obtain ⟨wf, hwf⟩ : ∃ w, w7.setCell ⟨ob, 4, none⟩ (.slice da2 (([] : List Ex).length + 1) dc2) = w := ⟨_, rfl⟩
    have hGf : Gr ob w7 wf := by rw [← hwf]; exact (Gr.refl ob _).set 4 _
    rw [hwf] at hobA ⊢
    clear b0 b1 b2 b3 b4 b5 b6 f4 hwf o4
    obtain ⟨l2, hl2⟩ : ∃ l2, ([] : List Ex) ++ [z] = l2 := ⟨_, rfl⟩
    have hl2l : l2.length = ([] : List Ex).length + 1 := by rw [← hl2]; simp
    have hO7' : Own w7 (fun b => B0 ≤ b) B0 29 7 (.slice da2 l2.length dc2) l2.length (l2.flatMap exC) := by
      rw [hl2l, ← hl2, List.flatMap_append, List.flatMap_cons, List.flatMap_nil, List.append_nil]; exact hO7
    rw [← hl2l] at hobA ⊢
    have hjj : jj ≤ j2 := hmn
    have hj2 := hP6.hi
    have HN : Hid ((Gr g W wf ∧ Gr g W0 wf ∧ PS g wf ts en j2 nst ∧ wf.heap[ob]? = some (.cells #[.string ⟨#[99, 97, 108, 108]⟩, .string (bs x.text), .bool false, .int .i64 0, .slice da2 l2.length dc2, .bool false, .slice none 0 0] 29) ∧ wf.heap[rr]? = some (.cells #[.string ⟨#[]⟩, .string ⟨#[]⟩, .bool false, .int .i64 0, .slice none 0 0, .bool false, .slice none 0 0] 29) ∧ wf.heap[tb]? = some (.cells #[.int .i64 x.kind, .int .i64 x.at', .string (bs x.text)] 111) ∧ Own wf (fun b => B0 ≤ b) B0 29 7 (.slice da2 l2.length dc2) l2.length (l2.flatMap exC)) ∧ l2.length ≤ j2 ∧ ∃ f', f' ≤ f ∧ (if isP ts en j2 6 [44] = true then callP ts en f' nst false l2 (j2 + 1) else .ok (l2, j2)) = X) :=
      Lib.hid ⟨⟨hGw7.new hGf (by omega), hG07.new hGf (by omega), hP7.gr hGf hgo, hobA, Gr.blk hGf hro hrb7, Gr.blk hGf hto htk7, hO7'.gr (g := ob) (by omega) (fun b hb => by omega) hGf⟩, by omega, k, by omega, by rw [← hl2]; exact hX⟩
    have hPf := hP7.gr hGf hgo
    have hM2 : atQ ts.length wf g = ts.length - j2 := by simp [atQ, hPf.c1]
    have hs7 : wz.heap.size ≤ wf.heap.size := Nat.le_trans (Nat.le_trans hsz hsx) (Nat.le_trans hg7.size hGf.size)
    clear hPf hobA hGf hGw7 hG07 hob7 hrb7 htk7 hP7 hO7 hO7' hg7 hC hrx hOx hzw hX hGw hG0 hP hob hrb htk hO hGx hdb hP6 hob6 hG6 hG6' hS6 hSb hEx hSp hrow HY
    go_wp2_with fail
    go_loopw [] (fun wr => ∃ (l : List Ex) (j : Nat) (da : Option Addr) (dc : Nat), j ≤ ts.length ∧ B0 ≤ wr.heap.size ∧ Hid ((Gr g W wr ∧ Gr g W0 wr ∧ PS g wr ts en j nst ∧ wr.heap[ob]? = some (.cells #[.string ⟨#[99, 97, 108, 108]⟩, .string (bs x.text), .bool false, .int .i64 0, .slice da l.length dc, .bool false, .slice none 0 0] 29) ∧ wr.heap[rr]? = some (.cells #[.string ⟨#[]⟩, .string ⟨#[]⟩, .bool false, .int .i64 0, .slice none 0 0, .bool false, .slice none 0 0] 29) ∧ wr.heap[tb]? = some (.cells #[.int .i64 x.kind, .int .i64 x.at', .string (bs x.text)] 111) ∧ Own wr (fun b => B0 ≤ b) B0 29 7 (.slice da l.length dc) l.length (l.flatMap exC)) ∧ l.length ≤ j ∧ ∃ f', f' ≤ f ∧ (if isP ts en j 6 [44] = true then callP ts en f' nst false l (j + 1) else .ok (l, j)) = X)) (fun wr => atQ ts.length wr g)
    case atStart => exact ⟨l2, j2, da2, dc2, hj2, by omega, HN⟩
    case round =>
      clear HN hM2 hjj hjj0 hj0 hs7 hl2 hl2l hj2 HBz
      obtain ⟨l, j, da, dc, hj, hBr, HS⟩ := hrel
      obtain ⟨⟨hGw, hG0, hP, hobr, hrb, htk, hO⟩, hll, f', hf', hX⟩ := HS.out
      have hM : atQ ts.length wr g = ts.length - j := by simp [atQ, hP.c1]
      have HT := Lib.hid (take_any g wr ts en j nst HV0.out.ok hP 6 (by decide) [44])
      obtain ⟨b, hb⟩ : ∃ b, isP ts en j 6 [44] = b := ⟨_, rfl⟩
      rw [hb] at HT hX
      have HQ := Lib.hid (And.intro hGw (And.intro hG0 (And.intro hobr (And.intro hrb (And.intro htk (And.intro hO (And.intro hll (And.intro hf' (And.intro hX hM)))))))))
      clear hGw hG0 hP hobr hrb htk hO hll hf' hX hM HS hb
      go_wp2_with fail
      refine HT.out.mono ?_
      rintro e wz ⟨rfl, hGz, hPz⟩
      clear HT
      obtain ⟨hGw, hG0, hobr, hrb, htk, hO, hll, hf', hX, hM⟩ := HQ.out
      have hBz := HB0.out
      have hobz := Gr.blk hGz hog hobr
      have hrz := Gr.blk hGz hrg hrb
      have htz := Gr.blk hGz htg htk
      have hOz := hO.gr (g := g) (by omega) (fun b hb => by omega) hGz
      have hszr := hGz.size
      cases b with
      | false =>
        obtain rfl : .ok (l, j) = X := hX
        have hR := HR.out
        dsimp only at hR
        have hGT := hGw.trans hGz
        simp only [Bool.false_eq_true, if_false] at hPz
        have hPT := hPz
        have hobT := hobz; have hrT := hrz; have htT := htz; have hOT := hOz
        clear hPz hobz hrz htz hOz hGw hG0 hobr hrb htk hO hGz HQ hM
        have HM := Lib.hid (must_any g wz ts en j nst HV0.out.ok hPT [41])
        obtain ⟨M, hM⟩ : ∃ M, mustP ts en j [41] = M := ⟨_, rfl⟩
        rw [hM] at HM hR
        replace HR := Lib.hid hR
        have HT := Lib.hid (And.intro hGT (And.intro hobT (And.intro hrT (And.intro htT hOT))))
        clear hR hM hGT hobT hrT htT hOT hPT
        go_wp2_with fail
        refine HM.out.mono ?_
        rintro e w9 ⟨hG9, hV⟩
        clear HM
        obtain ⟨hGT, hobT, hrT, htT, hOT⟩ := HT.out
        have hR := HR.out
        rcases M with ⟨c, a⟩ | ⟨u, m⟩
        · obtain rfl := hV
          obtain rfl : _ = R := hR
          exact ⟨rfl, hGT.trans hG9, rfl⟩
        obtain ⟨v, rfl, rfl, hP9⟩ := hV
        dsimp only at hR
        have hBz := HB0.out
        have hob9 := Gr.blk hG9 hog hobT
        have hr9 := Gr.blk hG9 hrg hrT
        have ht9 := Gr.blk hG9 htg htT
        have hO9 := hOT.gr (g := g) (by omega) (fun b hb => by omega) hG9
        obtain ⟨o0, o1, o2, o3, o4, o5, o6⟩ := cells7 hob9
        obtain ⟨t0, t1, t2⟩ := cells3 ht9
        have HW := Lib.hid (And.intro (hGT.trans hG9) (And.intro hr9 (And.intro hP9 hO9)))
        clear hGT hobT hrT htT hOT hG9 hP9 hO9 HT hob9 ht9
        by_cases hlo : l.length < lo
        · obtain rfl : .error (64, (x.at' : Int)) = R := (if_pos (.inl hlo)).symm.trans hR
          have qlo : (l.length : Int) < (lo : Int) := by omega
          clear hlo HR hr9
          go_wp2_with fail
          exact ⟨rfl, HW.out.1, rfl⟩
        have qlo : ¬ (l.length : Int) < (lo : Int) := by omega
        by_cases hhi : hi < l.length
        · obtain rfl : .error (64, (x.at' : Int)) = R := (if_pos (.inr hhi)).symm.trans hR
          have qhi : (hi : Int) < (l.length : Int) := by omega
          clear hlo hhi HR hr9
          go_wp2_with fail
          exact ⟨rfl, HW.out.1, rfl⟩
        have qhi : ¬ (hi : Int) < (l.length : Int) := by omega
        obtain rfl : .ok (.mk [99, 97, 108, 108] x.text false 0 l false [], m) = R := (if_neg (by first | omega | (simp only [List.length_nil]; omega))).symm.trans hR
        obtain ⟨r0, r1, r2, r3, r4, r5, r6⟩ := cells7 hr9
        have z0 := blk_free hr9 (k := 0); have z1 := blk_free hr9 (k := 1); have z2 := blk_free hr9 (k := 2); have z3 := blk_free hr9 (k := 3); have z4 := blk_free hr9 (k := 4); have z5 := blk_free hr9 (k := 5); have z6 := blk_free hr9 (k := 6)
        clear hlo hhi HR hR hr9
        go_wp2_with fail
        refine fin7 rfl HW.out.2.1 rfl fun W' hG' => ⟨HW.out.1.new hG' (by omega), _, rfl, ⟨_, _, none, 0, rfl, (HW.out.2.2.2.rep.gr (fun b hb => by omega) hG').ok (fun b hb => by omega), .nil _, (show 4 ≤ 1000 by decide), htx⟩, HW.out.2.2.1.gr hG' hgr⟩
      | true =>
        simp only [if_true] at hX hPz
        have hnf : ∃ k, f' = k + 1 := by
          cases f' with
          | zero =>
            have h := HNX.out
            rw [← hX, callP] at h
            exact absurd rfl h
          | succ k => exact ⟨k, rfl⟩
        obtain ⟨k, rfl⟩ := hnf
        rw [callP_eq] at hX
        obtain ⟨jj, hjj⟩ : ∃ jj, j + 1 = jj := ⟨_, rfl⟩
        rw [hjj] at hX hPz
        have hnf2 : NoF (exprP ts en k nst jj) := by
          have h := HNX.out
          rw [← hX] at h
          revert h
          cases exprP ts en k nst jj with
          | error e => exact fun h => h
          | ok x => exact fun _ => trivial
        have hmn := mono_expr ts en k nst jj
        have HC := Lib.hid (HE0.out k (by omega) (World.drew wz) jj nst ((hG0.trans hGz).ext (Ext.refl wz).drew) (hPz.ext (Ext.refl wz).drew) hn hnf2)
        obtain ⟨Y, hY⟩ : ∃ Y, exprP ts en k nst jj = Y := ⟨_, rfl⟩
        rw [hY] at HC hX hmn
        have o4 := blk_cell hobz (k := 4) rfl
        have HBz := Lib.hid (show B0 ≤ wz.heap.size by omega)
        have hkl : l.length ≤ 1000 := by omega
        have hjl := hPz.hi
        have HY := Lib.hid (And.intro (And.intro (hGw.trans hGz) (And.intro (hG0.trans hGz) (And.intro hPz (And.intro hobz (And.intro hrz (And.intro htz hOz)))))) (And.intro (show l.length + 1 ≤ jj by omega) (And.intro (show k < f by omega) (And.intro hX hmn))))
        have HMR := Lib.hid (And.intro hM hjj)
        clear hM hjj hX hY hmn hnf2 hobz hrz htz hOz hGw hG0 hobr hrb htk hO hGz HQ hPz hll hf' hszr
        go_wp2_with fail
        refine rg_cut (S := Sk ob wz) 5 (by kernel_rfl) (by kernel_rfl) (by kernel_rfl) (by kernel_rfl) (Sk.begin _ _) ?_
        have hSp : Sk ob wz (World.drew wz) := (Sk.begin _ _)
        refine rg_take 0 (some 44) (.pointer (some ⟨ob, 4, none⟩)) (oi := { dst := some 44, op := Go.Op.fieldAddr 29 (Go.Operand.tmp 8) 3, type := 0, pos := "qparse.go:305", after := #[], guard := none }) rfl rfl (by kernel_rfl) (by kernel_rfl) (by kernel_rfl) (fun _ _ _ h => h) hSp (by rfl) (fun w' hs => by first | rfl | go_simp) ?_
        simp only [Act.put, List.setIfInBounds_toArray, List.set_cons_zero, List.set_cons_succ]
        refine rg_take 1 (some 45) (.slice da l.length dc) (oi := { dst := some 45, op := Go.Op.load 26 (Go.Operand.tmp 44), type := 26, pos := "qparse.go:305", after := #[{ on := 0, ground := Go.Ground.data }], guard := none }) rfl rfl (by kernel_rfl) (by kernel_rfl) (by kernel_rfl) (fun _ _ _ h => h) hSp (by rfl) (fun w' hs => by (have h0 := hs.cell trivial o4; go_simp)) ?_
        simp only [Act.put, List.setIfInBounds_toArray, List.set_cons_zero, List.set_cons_succ]
        refine rg_take 2 (some 46) (.pointer (some ⟨g, 0, none⟩)) (oi := { dst := some 46, op := Go.Op.move (Go.Operand.tmp 0), type := 45, pos := "qparse.go:305", after := #[], guard := none }) rfl rfl (by kernel_rfl) (by kernel_rfl) (by kernel_rfl) (fun _ _ _ h => h) hSp (by rfl) (fun w' hs => by rfl) ?_
        simp only [Act.put, List.setIfInBounds_toArray, List.set_cons_zero, List.set_cons_succ]
        refine rg_callp 3 (some 47) 29 #[.pointer (some ⟨g, 0, none⟩)] (oi := { dst := some 47, op := Go.Op.call { callee := Go.Callee.value (Go.Operand.func 29), args := #[Go.Operand.tmp 46], argTypes := #[45] }, type := 29, pos := "qparse.go:305", after := #[{ on := 2, ground := Go.Ground.data }], guard := none }) rfl rfl (by kernel_rfl) (by rfl) (fun w' => by first | rfl | go_simp) ?_
        refine (HC.out).mono ?_
        rintro e w6 ⟨hG6, hV⟩
        clear HC
        obtain ⟨⟨hGw, hG0, hP, hob, hrb, htk, hO⟩, hll, hkf, hX, hmn⟩ := HY.out
        rcases Y with ⟨c, a⟩ | ⟨z, j2⟩
        · obtain rfl := hV
          obtain rfl : .error (c, a) = X := hX
          obtain rfl : .error (c, a) = R := HR.out
          exact .inr ⟨_, rfl, ⟨rfl, (hGw.ext (Ext.refl wz).drew).trans hG6, rfl⟩⟩
        obtain ⟨v, rfl, hz, hP6⟩ := hV
        obtain ⟨aa, ac, ad, ae, rfl, hzw⟩ := XW.of hz
        clear hz
        have hG6' : Gr g wz w6 := (Gr.of g (Ext.refl wz).drew).trans hG6
        have hS6 : Sk ob wz w6 := Sk.gr (Sk.begin ob wz) hG6 (blk_lt (w := wz) hob) hog
        have hob6 := Gr.blk hG6' hog hob
        have hlo6 := blk_lt hob6
        refine .inl ⟨_, rfl, hS6, ?_⟩
        simp only [Act.put, List.setIfInBounds_toArray, List.set_cons_zero, List.set_cons_succ]
        refine rg_one 4 (by kernel_rfl) ?_
        refine tk_new 4 (some 48) (.cells #[.string (bs z.op), .string (bs z.text), .bool z.nan, .int .i64 z.val, .slice aa z.args.length ac, .bool z.abs, .slice ad z.steps.length ae] 29) (fun n => .slice (some ⟨n, 0, none⟩) 1 1) (oi := { dst := some 48, op := Go.Op.buildSlice 26 1 #[(0, Go.Operand.tmp 47)], type := 26, pos := "qparse.go:305", after := #[{ on := 3, ground := Go.Ground.data }], guard := none }) rfl rfl (by rfl) (by first | rfl | go_simp) ?_
        intro gb xb egb hEx hzxb hC
        subst egb
        have hSb : Sk ob wz xb := hS6.ext hEx hlo6
        refine ⟨hSb, ?_⟩
        simp only [Act.put, List.setIfInBounds_toArray, List.set_cons_zero, List.set_cons_succ]
        refine rg_done (by kernel_rfl) ?_
        refine rg_go 3 #[true, true, true, true, true, false, false, false] (by kernel_rfl) (by kernel_rfl) fun m => ?_
        have hdb := hO.blk
        have hBz := HB0.out
        have hsz : wz.heap.size ≤ w6.heap.size := hG6'.size
        have hsx := hEx.size
        have hszz : B0 ≤ wz.heap.size := by have := HBz.out; omega
        have hOx := (hO.gr (g := g) (by omega) (fun b hb => by omega) hG6').ext hEx
        have hrx := ((hzw.reps.lt.ext hEx)).ok (q := fun b => B0 ≤ b ∧ some b ≠ (Value.slice da l.length dc).ownBlock ∧ b < xb.heap.size) (fun b hb => by
          have h1 : wz.heap.size ≤ b := hb.1
          exact ⟨by omega, fun e => by have := (hdb b e.symm).2; omega, by omega⟩)
        refine rg_one 5 (by kernel_rfl) ?_
        refine tk_app7 5 (some 49) (oi := { dst := some 49, op := Go.Op.call { callee := Go.Callee.builtin Go.Builtin.append, args := #[Go.Operand.tmp 45, Go.Operand.tmp 48], argTypes := #[26, 26] }, type := 26, pos := "qparse.go:305", after := #[{ on := 1, ground := Go.Ground.data }, { on := 4, ground := Go.Ground.data }, { on := 3, ground := Go.Ground.chain }], guard := none }) rfl rfl (by rfl) (.tmp 45) (.tmp 48) rfl (hs := rfl) (hown := hOx) (hx := rfl) (hc := fun j u hj => blk_cells (xs := (exU z (.slice aa z.args.length ac) (.slice ad z.steps.length ae))) hC j hj) (hr := hrx) (h1 := one_ex z) (hl := rfl) (hm := by first | omega | (simp only [List.length_nil]; omega)) (hb := by omega) ?_
        intro d2 w7 hO7 hg7
        refine ⟨trivial, ?_⟩
        obtain ⟨da2, dc2, rfl, _, _⟩ := hO7.form
        have hrow : ∀ y, (Value.slice da l.length dc).ownBlock = some y → B0 ≤ y := fun y hy => (hdb y hy).1
        have hGx := hGw.trans (hG6'.ext hEx)
        have hob7 := blk_grown (Gr.blk (Gr.of g hEx) hog hob6) hg7 hrow (by omega)
        have hrb7 := blk_grown (Gr.blk (hG6'.ext hEx) hrg hrb) hg7 hrow (by omega)
        have htk7 := blk_grown (Gr.blk (hG6'.ext hEx) htg htk) hg7 hrow (by omega)
        have hP7 := (hP6.ext hEx).grown hg7 fun y hy => by have := hrow y hy; omega
        have hGw7 := (hGw.trans (hG6'.ext hEx)).grown hg7 fun y hy => by have := hrow y hy; omega
        have hG07 := (hG0.trans (hG6'.ext hEx)).grown hg7 fun y hy => by have := hrow y hy; omega
        simp only [Act.put, List.setIfInBounds_toArray, List.set_cons_zero, List.set_cons_succ]
        refine rg_take 6 (some 50) (.pointer (some ⟨ob, 4, none⟩)) (oi := { dst := some 50, op := Go.Op.fieldAddr 29 (Go.Operand.tmp 8) 3, type := 0, pos := "qparse.go:305", after := #[{ on := 0, ground := Go.Ground.phase }, { on := 1, ground := Go.Ground.phase }, { on := 2, ground := Go.Ground.phase }, { on := 3, ground := Go.Ground.phase }, { on := 4, ground := Go.Ground.phase }, { on := 5, ground := Go.Ground.phase }], guard := none }) rfl rfl (by kernel_rfl) (by kernel_rfl) (by kernel_rfl) (fun _ _ _ h => h) trivial (by rfl) (fun w' hs => by first | rfl | go_simp) ?_
        simp only [Act.put, List.setIfInBounds_toArray, List.set_cons_zero, List.set_cons_succ]
        obtain ⟨b0, b1, b2, b3, b4, b5, b6⟩ := cells7 hob7
        have f4 := blk_free hob7 (k := 4)
        have hobA := heap_setCell_same _ ob 4 _ _ (.slice da2 (l.length + 1) dc2) hob7
        simp only [List.setIfInBounds_toArray, List.set_cons_zero, List.set_cons_succ] at hobA
        refine rg_write 7 none (w7.setCell ⟨ob, 4, none⟩ (.slice da2 (l.length + 1) dc2)) (oi := { dst := none, op := Go.Op.store 26 (Go.Operand.tmp 50) (Go.Operand.tmp 49), type := 0, pos := "qparse.go:305", after := #[{ on := 6, ground := Go.Ground.data }, { on := 5, ground := Go.Ground.data }, { on := 5, ground := Go.Ground.chain }, { on := 0, ground := Go.Ground.phase }, { on := 1, ground := Go.Ground.phase }, { on := 2, ground := Go.Ground.phase }, { on := 3, ground := Go.Ground.phase }, { on := 4, ground := Go.Ground.phase }, { on := 5, ground := Go.Ground.phase }], guard := none }) rfl rfl (by kernel_rfl) (by rfl) (exec_store rfl (store_sl _ s1Exs b4 f4 _ _ _)) trivial ?_
        simp only [Act.put, List.setIfInBounds_toArray, List.set_cons_zero, List.set_cons_succ]
        refine rg_done (by kernel_rfl) ?_
        obtain ⟨wf, hwf⟩ : ∃ w, w7.setCell ⟨ob, 4, none⟩ (.slice da2 (l.length + 1) dc2) = w := ⟨_, rfl⟩
        have hGf : Gr ob w7 wf := by rw [← hwf]; exact (Gr.refl ob _).set 4 _
        rw [hwf] at hobA ⊢
        clear b0 b1 b2 b3 b4 b5 b6 f4 hwf o4
        obtain ⟨l2, hl2⟩ : ∃ l2, l ++ [z] = l2 := ⟨_, rfl⟩
        have hl2l : l2.length = l.length + 1 := by rw [← hl2]; simp
        have hO7' : Own w7 (fun b => B0 ≤ b) B0 29 7 (.slice da2 l2.length dc2) l2.length (l2.flatMap exC) := by
          rw [hl2l, ← hl2, List.flatMap_append, List.flatMap_cons, List.flatMap_nil, List.append_nil]; exact hO7
        rw [← hl2l] at hobA ⊢
        have hjj : jj ≤ j2 := hmn
        have hj2 := hP6.hi
        have HN : Hid ((Gr g W wf ∧ Gr g W0 wf ∧ PS g wf ts en j2 nst ∧ wf.heap[ob]? = some (.cells #[.string ⟨#[99, 97, 108, 108]⟩, .string (bs x.text), .bool false, .int .i64 0, .slice da2 l2.length dc2, .bool false, .slice none 0 0] 29) ∧ wf.heap[rr]? = some (.cells #[.string ⟨#[]⟩, .string ⟨#[]⟩, .bool false, .int .i64 0, .slice none 0 0, .bool false, .slice none 0 0] 29) ∧ wf.heap[tb]? = some (.cells #[.int .i64 x.kind, .int .i64 x.at', .string (bs x.text)] 111) ∧ Own wf (fun b => B0 ≤ b) B0 29 7 (.slice da2 l2.length dc2) l2.length (l2.flatMap exC)) ∧ l2.length ≤ j2 ∧ ∃ f', f' ≤ f ∧ (if isP ts en j2 6 [44] = true then callP ts en f' nst false l2 (j2 + 1) else .ok (l2, j2)) = X) :=
          Lib.hid ⟨⟨hGw7.new hGf (by omega), hG07.new hGf (by omega), hP7.gr hGf hgo, hobA, Gr.blk hGf hro hrb7, Gr.blk hGf hto htk7, hO7'.gr (g := ob) (by omega) (fun b hb => by omega) hGf⟩, by omega, k, by omega, by rw [← hl2]; exact hX⟩
        have hPf := hP7.gr hGf hgo
        have hM2 : atQ ts.length wf g = ts.length - j2 := by simp [atQ, hPf.c1]
        have hs7 : wz.heap.size ≤ wf.heap.size := Nat.le_trans (Nat.le_trans hsz hsx) (Nat.le_trans hg7.size hGf.size)
        clear hPf hobA hGf hGw7 hG07 hob7 hrb7 htk7 hP7 hO7 hO7' hg7 hC hrx hOx hzw hX hGw hG0 hP hob hrb htk hO hGx hdb hP6 hob6 hG6 hG6' hS6 hSb hEx hSp hrow HY
        have HM := Lib.hid (show atQ ts.length wf g < atQ ts.length wr g by rw [hM2, HMR.out.1]; have := HMR.out.2; omega)
        go_wp2_with fail
        go_roundw
        case rel => exact ⟨l2, j2, da2, dc2, hj2, by have := HBz.out; omega, HN⟩
        case measure => exact HM.out
end

end Go.Proofs.YtfoclfefjcnllaaGreatDoor

/-
  The parser, over the fuel. Helper lemmas; no statement of the seat is proved here.
-/
namespace Go.Proofs.YtfoclfefjcnllaaGreatDoor
open Go.RowKit
set_option maxRecDepth 100000
set_option linter.unusedVariables false
set_option linter.unusedSimpArgs false

/-- All contracts at one fuel. -/
structure KAll (g : Nat) (W0 : World) (ts : List QT) (en f : Nat) : Prop where
  e : KE g W0 ts en 29 (exprP ts en f)
  b : KB g W0 ts en (binP ts en f)
  n : KE g W0 ts en 72 (negP ts en f)
  p : KE g W0 ts en 93 (pathP ts en f)
  s : KS g W0 ts en (stepP ts en f)
  l : KE g W0 ts en 116 (filterP ts en f)
  o : KE g W0 ts en 126 (oneP ts en f)
theorem parser_all {g : Nat} {W0 : World} {ts : List QT} {en : Nat} (HV : PEnv g W0 ts en) : ∀ f, KAll g W0 ts en f := by
  intro f
  induction f using Nat.strongRecOn with
  | ind f ih =>
    cases f with
    | zero =>
      refine ⟨?_, ?_, ?_, ?_, ?_, ?_, ?_⟩
      · intro W i nst _ _ _ h; rw [exprP] at h; exact absurd rfl h
      · intro W i nst lev _ _ _ _ h; rw [binP] at h; exact absurd rfl h
      · intro W i nst _ _ _ h; rw [negP] at h; exact absurd rfl h
      · intro W i nst _ _ _ h; rw [pathP] at h; exact absurd rfl h
      · intro W i nst _ _ _ h; rw [stepP] at h; exact absurd rfl h
      · intro W i nst _ _ _ h; rw [filterP] at h; exact absurd rfl h
      · intro W i nst _ _ _ h; rw [oneP] at h; exact absurd rfl h
    | succ k =>
      have hk := ih k (Nat.lt_succ_self k)
      have HP := preds_step HV k fun m hm => (ih m (by omega)).e
      exact ⟨expr_step HV k hk.b, bin_step HV k hk.n fun m hm => (ih m (by omega)).b, neg_step HV k fun m hm => (ih m (by omega)).p,
        path_step HV k hk.l (steps_step HV k fun m hm => (ih m (by omega)).s), step_step HV k HP, filter_step HV k hk.o HP,
        one_step HV k (call_step HV k fun m hm => (ih m (by omega)).e) hk.e⟩

end Go.Proofs.YtfoclfefjcnllaaGreatDoor
