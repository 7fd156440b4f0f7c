/-
  The parser's filters. Helper lemmas; no statement of the seat is proved here.
-/
import Derived.Test.YtfoclfefjcnllaaGreatDoorD9
namespace Go.Proofs.YtfoclfefjcnllaaGreatDoor
open Go.RowKit
set_option maxRecDepth 100000
set_option linter.unusedVariables false
set_option linter.unusedSimpArgs false

/-- What a tree's arguments and steps read as. -/
structure XW (W : World) (p : Nat → Prop) (x : Ex) (aa : Option Addr) (ac : Nat) (sa : Option Addr) (sc : Nat) : Prop where
  ra : Rep W p (.slice aa x.args.length ac) (exsD x.args)
  rs : Rep W p (.slice sa x.steps.length sc) (stsD x.steps)
  ho : x.op.length ≤ 1000
  ht : x.text.length ≤ 1000
section
variable {W W' : World} {p q : Nat → Prop} {x : Ex} {aa sa : Option Addr} {ac sc : Nat}
theorem XW.of {v : Value} (h : XV W p x v) : ∃ aa ac sa sc, v = .agg #[.string (bs x.op), .string (bs x.text), .bool x.nan, .int .i64 x.val, .slice aa x.args.length ac, .bool x.abs, .slice sa x.steps.length sc] ∧ XW W p x aa ac sa sc := by
  obtain ⟨aa, ac, sa, sc, h0, h1, h2, h3, h4⟩ := h
  exact ⟨aa, ac, sa, sc, h0, h1, h2, h3, h4⟩
theorem XW.xv (h : XW W p x aa ac sa sc) : XV W p x (.agg #[.string (bs x.op), .string (bs x.text), .bool x.nan, .int .i64 x.val, .slice aa x.args.length ac, .bool x.abs, .slice sa x.steps.length sc]) := ⟨aa, ac, sa, sc, rfl, h.ra, h.rs, h.ho, h.ht⟩
theorem XW.ext (h : XW W p x aa ac sa sc) (k : Ext W W') : XW W' p x aa ac sa sc := ⟨h.ra.ext k, h.rs.ext k, h.ho, h.ht⟩
theorem XW.ok (h : XW W p x aa ac sa sc) (k : ∀ b, p b → q b) : XW W q x aa ac sa sc := ⟨h.ra.ok k, h.rs.ok k, h.ho, h.ht⟩
theorem XW.gr {g : Nat} (h : XW W p x aa ac sa sc) (k : Gr g W W') (hp : ∀ b, p b → b ≠ g) : XW W' p x aa ac sa sc := ⟨h.ra.gr hp k, h.rs.gr hp k, h.ho, h.ht⟩
theorem XW.grown {row : Option Nat} (h : XW W p x aa ac sa sc) (k : W.grownBy W' row) (hp : ∀ b, p b → some b ≠ row) : XW W' p x aa ac sa sc :=
  ⟨h.ra.kept fun b hb hl => k.block b hl (hp b hb), h.rs.kept fun b hb hl => k.block b hl (hp b hb), h.ho, h.ht⟩
theorem XW.reps (h : XW W p x aa ac sa sc) : Reps W p (exU x (.slice aa x.args.length ac) (.slice sa x.steps.length sc)) (exC x) := ex_reps h.ra h.rs h.ho h.ht
end
theorem wpList_apps7 {ops : Array Oper} {Q : Exit → Act → World → Prop} {a : Act} {w : World} {rest : List Oper} {o : Oper} (hgd : o.guard = none) (s x : Operand) (ho : o.op = .call { callee := .builtin .append, args := #[s, x], argTypes := #[26, 26] })
    {p : Nat → Prop} {base n m cap : Nat} {ad : Addr} {d : Value} {es ds : List DV} (hs : a.eval s = d) (hown : Own w p base 29 7 d n es) (hx : a.eval x = .slice (some ad) m cap)
    (hr : Rep w (fun b => p b ∧ some b ≠ d.ownBlock ∧ b < w.heap.size) (.slice (some ad) m cap) (.s 7 ds)) (h1 : ∀ e ∈ ds, e.one = true) (hm : n + m ≤ 1000000) (hb : base ≤ w.heap.size)
    (h : ∀ d' w', Own w' p base 29 7 d' (n + m) (es ++ ds) → w.grownBy w' d.ownBlock → wpList Tryz.prog ops Q rest (a.put o.dst d') w') : wpList Tryz.prog ops Q (o :: rest) a w := by
  obtain ⟨i0, ii, iz0, iz1, iz2⟩ := info_parts infoEx
  obtain ⟨vs, ho1, ho2⟩ := hown
  obtain ⟨us, hru, hul, huc⟩ := rep_some hr
  refine wpList_append_own_at w hgd s x 26 ho base 29 i0 (.agg #[.string ⟨#[]⟩, .string ⟨#[]⟩, .bool false, .int .i64 0, .slice none 0 0, .bool false, .slice none 0 0]) 7 104 Tryz.underlying26 ii iz0 iz1 iz2 rfl (by decide) d n vs hs ho1 ad m cap us hx hul huc (hru.one h1) (by unfold maxLen; omega) (by omega) hb ?_
  intro v' w' q1 q2 _ q3
  exact h v' w' (Own.push ho2 hru q1 q2 q3) q2
theorem wpList_apps4 {ops : Array Oper} {Q : Exit → Act → World → Prop} {a : Act} {w : World} {rest : List Oper} {o : Oper} (hgd : o.guard = none) (s x : Operand) (ho : o.op = .call { callee := .builtin .append, args := #[s, x], argTypes := #[27, 27] })
    {p : Nat → Prop} {base n m cap : Nat} {ad : Addr} {d : Value} {es ds : List DV} (hs : a.eval s = d) (hown : Own w p base 62 4 d n es) (hx : a.eval x = .slice (some ad) m cap)
    (hr : Rep w (fun b => p b ∧ some b ≠ d.ownBlock ∧ b < w.heap.size) (.slice (some ad) m cap) (.s 4 ds)) (h1 : ∀ e ∈ ds, e.one = true) (hm : n + m ≤ 1000000) (hb : base ≤ w.heap.size)
    (h : ∀ d' w', Own w' p base 62 4 d' (n + m) (es ++ ds) → w.grownBy w' d.ownBlock → wpList Tryz.prog ops Q rest (a.put o.dst d') w') : wpList Tryz.prog ops Q (o :: rest) a w := by
  obtain ⟨i0, ii, iz0, iz1, iz2⟩ := info_parts infoSt
  obtain ⟨vs, ho1, ho2⟩ := hown
  obtain ⟨us, hru, hul, huc⟩ := rep_some hr
  refine wpList_append_own_at w hgd s x 27 ho base 62 i0 (.agg #[.string ⟨#[]⟩, .string ⟨#[]⟩, .string ⟨#[]⟩, .slice none 0 0]) 4 72 Tryz.underlying27 ii iz0 iz1 iz2 rfl (by decide) d n vs hs ho1 ad m cap us hx hul huc (hru.one h1) (by unfold maxLen; omega) (by omega) hb ?_
  intro v' w' q1 q2 _ q3
  exact h v' w' (Own.push ho2 hru q1 q2 q3) q2
theorem one_exs (l : List Ex) : ∀ e ∈ l.flatMap exC, e.one = true := flat_one (fun x => one_ex x) l
theorem one_sts (l : List St) : ∀ e ∈ l.flatMap stC, e.one = true := flat_one (fun x => one_st x) l
theorem filterP_eq (ts : List QT) (en f nest i : Nat) : filterP ts en (f + 1) nest i = match oneP ts en f nest i with
    | .error e => .error e
    | .ok (e, j) => match predsP ts en f nest [] j with
      | .error e => .error e
      | .ok (l, k) => .ok (if l.isEmpty then e else exP [102, 105, 108, 116, 101, 114] (e :: l), k) := by rw [filterP]; rfl
section
variable {g : Nat} {W0 : World} {ts : List QT} {en : Nat}
set_option maxHeartbeats 16000000 in
theorem filter_step (HV : PEnv g W0 ts en) (f : Nat) (HO : KE g W0 ts en 126 (oneP ts en f)) (HPR : KP g W0 ts en (fun nst i => predsP ts en f nst [] i)) : KE g W0 ts en 116 (filterP ts en (f + 1)) := by
  intro W i nst hG hP hn hF
  obtain ⟨R, hR⟩ : ∃ R, filterP ts en (f + 1) nst i = R := ⟨_, rfl⟩
  rw [hR] at hF ⊢
  rw [filterP_eq] at hR
  have hlt := hP.lt
  obtain ⟨w1, hw1⟩ : ∃ w, W.alloc (.cells #[.string ⟨#[]⟩, .string ⟨#[]⟩, .bool false, .int .i64 0, .slice none 0 0, .bool false, .slice none 0 0] 29) = w := ⟨_, rfl⟩
  have Ew1 : Ext W w1 := by rw [← hw1]; exact (Ext.refl W).alloc _
  have hbw1 : w1.heap[W.heap.size]? = some (.cells #[.string ⟨#[]⟩, .string ⟨#[]⟩, .bool false, .int .i64 0, .slice none 0 0, .bool false, .slice none 0 0] 29) := by rw [← hw1]; exact Array.getElem?_push_size
  have hrg : W.heap.size ≠ g := by omega

  have hP1 := hP.ext Ew1
  have hnf1 : NoF (oneP ts en f nst i) := by
    have h := hF
    rw [← hR] at h
    revert h
    cases oneP ts en f nst i with
    | error e => exact fun h => h
    | ok x => exact fun _ => trivial
  have HC := Lib.hid (HO w1 i nst (hG.ext Ew1) hP1 hn hnf1)
  obtain ⟨X, hX⟩ : ∃ X, oneP ts en f nst i = X := ⟨_, rfl⟩
  rw [hX] at HC hR
  have HY := Lib.hid (And.intro hG (And.intro Ew1 (And.intro hbw1 (And.intro hF hR))))
  clear hG hP hF hR hP1 hnf1 Ew1 hbw1 hX
  go_enter Tryz.func116, Tryz.ntmps116
  go_wp2_with fail
  refine HC.out.mono ?_
  rintro e w2 ⟨hG2, hV⟩
  clear HC hw1
  obtain ⟨hG, E1, hb1, hF, hR⟩ := HY.out
  have hGw2 : Gr g W w2 := (Gr.of g E1).trans hG2
  rcases X with ⟨c, a⟩ | ⟨x, j⟩
  · obtain rfl := hV
    obtain rfl : _ = R := hR
    exact ⟨rfl, hGw2, rfl⟩
  · obtain ⟨v, rfl, hx, hP2⟩ := hV
    obtain ⟨aa, ac, ad, ae, rfl, hxw⟩ := XW.of hx
    replace hx := hxw
    clear hxw
    dsimp only at hR
    have hnf2 : NoF (predsP ts en f nst [] j) := by
      have h := hF
      rw [← hR] at h
      revert h
      cases predsP ts en f nst [] j with
      | error e => exact fun h => h
      | ok x => exact fun _ => trivial
    obtain ⟨w3, hw3⟩ : ∃ w, w2.alloc (.cells #[.string (bs x.op), .string (bs x.text), .bool x.nan, .int .i64 x.val, .slice aa x.args.length ac, .bool x.abs, .slice ad x.steps.length ae] 29) = w := ⟨_, rfl⟩
    have Ew3 : Ext w2 w3 := by rw [← hw3]; exact (Ext.refl w2).alloc _
    have hbw3 : w3.heap[w2.heap.size]? = some (.cells #[.string (bs x.op), .string (bs x.text), .bool x.nan, .int .i64 x.val, .slice aa x.args.length ac, .bool x.abs, .slice ad x.steps.length ae] 29) := by rw [← hw3]; exact Array.getElem?_push_size

    have HPC := Lib.hid (HPR w3 j nst (hG.trans (hGw2.ext Ew3)) (hP2.ext Ew3) hn hnf2)
    obtain ⟨L, hL⟩ : ∃ L, predsP ts en f nst [] j = L := ⟨_, rfl⟩
    dsimp only at HPC
    rw [hL] at HPC hR
    have hs12 : W.heap.size < w1.heap.size := blk_lt hb1
    have HZ := Lib.hid (And.intro (hGw2.ext Ew3) (And.intro hbw3 (And.intro (hx.ext Ew3) (And.intro (Gr.blk (hG2.ext Ew3) hrg hb1) (And.intro hR (And.intro hs12 hG2.size))))))
    clear HY hG E1 hb1 hF hR hGw2 hG2 hx hP2 hnf2 Ew3 hbw3 hL hs12
    go_wp2_with fail
    refine HPC.out.mono ?_
    rintro e w4 ⟨hG4, hV⟩
    clear HPC hw3
    obtain ⟨hGw3, hb3, hx, hr3, hR, hs12, hs2⟩ := HZ.out
    rcases L with ⟨c, a⟩ | ⟨l, k⟩
    · obtain rfl := hV
      obtain rfl : _ = R := hR
      exact ⟨rfl, hGw3.trans hG4, rfl⟩
    · obtain ⟨v, rfl, ⟨pa, pc, rfl, hrp, hl1⟩, hP4⟩ := hV
      have hlt3 : w2.heap.size < w3.heap.size := blk_lt hb3
      have heg : w2.heap.size ≠ g := by have := hP4.lt; omega
      have her : w2.heap.size ≠ W.heap.size := by omega
      have her' : W.heap.size ≠ w2.heap.size := by omega
      have hx4 := hx.gr hG4 (fun b hb => by omega)
      have hb4 := Gr.blk hG4 heg hb3
      have hr4 := Gr.blk hG4 hrg hr3
      obtain ⟨e0, e1, e2, e3, e4, e5, e6⟩ := cells7 hb4
      by_cases hl0 : l.length = 0
      · obtain rfl : l = [] := List.eq_nil_of_length_eq_zero hl0
        obtain rfl : .ok (x, k) = R := hR
        have hl0I : ¬ (0 : Int) < 0 := by omega
        obtain ⟨r0, r1, r2, r3, r4, r5, r6⟩ := cells7 hr4
        have z0 := blk_free hr4 (k := 0); have z1 := blk_free hr4 (k := 1); have z2 := blk_free hr4 (k := 2); have z3 := blk_free hr4 (k := 3); have z4 := blk_free hr4 (k := 4); have z5 := blk_free hr4 (k := 5); have z6 := blk_free hr4 (k := 6)
        have HW := Lib.hid (And.intro (hGw3.trans hG4) (And.intro hr4 (And.intro hx4 hP4)))
        clear hGw3 hG4 hr4 hx4 hP4 hx hb3 hr3 HZ hb4 hrp hl0
        simp only [List.length_nil]
        go_wp2_with fail
        refine fin7 rfl HW.out.2.1 rfl fun W' hG' => ⟨HW.out.1.new hG' (Nat.le_refl _), _, rfl, (((HW.out.2.2.1).gr hG' (fun b hb => by omega)).ok (fun b hb => by omega)).xv, HW.out.2.2.2.gr hG' hlt⟩
      · have hlp : l.isEmpty = false := by cases l with
          | nil => exact absurd rfl hl0
          | cons a b => rfl
        obtain rfl : .ok (exP [102, 105, 108, 116, 101, 114] (x :: l), k) = R := by rw [← hR]; simp [hlp]
        have hl0I : (0 : Int) < (l.length : Int) := by omega
        have hpa : ∃ ad, pa = some ad := by
          cases pa with
          | none => exact absurd (rep_none hrp).1 hl0
          | some ad => exact ⟨ad, rfl⟩
        obtain ⟨pad, rfl⟩ := hpa
        obtain ⟨w5, hw5⟩ : ∃ w, w4.alloc (.cells #[.string (bs x.op), .string (bs x.text), .bool x.nan, .int .i64 x.val, .slice aa x.args.length ac, .bool x.abs, .slice ad x.steps.length ae] 29) = w := ⟨_, rfl⟩
        have Ew5 : Ext w4 w5 := by rw [← hw5]; exact (Ext.refl w4).alloc _
        have hbw5 : w5.heap[w4.heap.size]? = some (.cells #[.string (bs x.op), .string (bs x.text), .bool x.nan, .int .i64 x.val, .slice aa x.args.length ac, .bool x.abs, .slice ad x.steps.length ae] 29) := by rw [← hw5]; exact Array.getElem?_push_size

        have hO5 : Own w5 (fun b => W.heap.size < b) (W.heap.size + 1) 29 7 (.slice (some ⟨w4.heap.size, 0, none⟩) 1 1) 1 (exC x) :=
          own_new (us := (exU x (.slice aa x.args.length ac) (.slice ad x.steps.length ae))) hbw5 Ew5 (hx4.reps.lt.ok fun b hb => ⟨by omega, hb.2⟩) (by have := hG4.size; omega) rfl (by decide)
        have hrp5 : Rep w5 (fun b => W.heap.size < b ∧ some b ≠ (Value.slice (some ⟨w4.heap.size, 0, none⟩) 1 1).ownBlock ∧ b < w5.heap.size) (.slice (some pad) l.length pc) (exsD l) :=
          (hrp.lt.ext Ew5).ok fun b hb => ⟨by omega, fun e => by have e2 : b = w4.heap.size := Option.some.inj e; omega, Nat.lt_of_lt_of_le hb.2 Ew5.size⟩
        have hr5 := Gr.blk (Gr.of g Ew5) hrg hr4
        have HW := Lib.hid (And.intro ((hGw3.trans hG4).ext Ew5) (And.intro hr5 (And.intro (hP4.ext Ew5) (And.intro hO5 hrp5))))
        have hs5 : W.heap.size + 1 ≤ w5.heap.size := by have := hG4.size; have := Ew5.size; omega
        have hs45 : W.heap.size < w4.heap.size := by have := hG4.size; omega
        clear hGw3 hG4 hr4 hx4 hP4 hx hb3 hr3 HZ hb4 hrp hl0 hR hO5 hrp5 hr5 Ew5 hbw5
        go_wp2_with (at_builtin; refine wpList_apps7 rfl (.tmp 13) (.tmp 14) rfl (hs := rfl) (hown := HW.out.2.2.2.1) (hx := rfl) (hr := HW.out.2.2.2.2) (h1 := one_exs l) (hm := by omega) (hb := hs5) ?_; intro d' w6 hO6 hg6; obtain ⟨da, dc, rfl, _, _⟩ := hO6.form; have hr6 := hg6.block W.heap.size (blk_lt HW.out.2.1) (fun e => by have e2 : W.heap.size = w4.heap.size := Option.some.inj e; omega); rw [HW.out.2.1] at hr6; obtain ⟨r0, r1, r2, r3, r4, r5, r6⟩ := cells7 hr6; have z0 := blk_free hr6 (k := 0); have z1 := blk_free hr6 (k := 1); have z2 := blk_free hr6 (k := 2); have z3 := blk_free hr6 (k := 3); have z4 := blk_free hr6 (k := 4); have z5 := blk_free hr6 (k := 5); have z6 := blk_free hr6 (k := 6); clear hw5 e0 e1 e2 e3 e4 e5 e6)
        have hG6 := HW.out.1.grown hg6 fun x hx => by have e2 : w4.heap.size = x := Option.some.inj hx; omega
        have hP6 := HW.out.2.2.1.grown hg6 fun x hx => by have e2 : w4.heap.size = x := Option.some.inj hx; omega
        refine fin7 rfl hr6 rfl fun W' hG' => ⟨hG6.new hG' (Nat.le_refl _), _, rfl, ?_, hP6.gr hG' hlt⟩
        have hrep : Rep w6 (fun b => W.heap.size < b) (.slice da (1 + l.length) dc) (exsD (x :: l)) := by
          have h := hO6.rep
          rw [show exC x ++ l.flatMap exC = (x :: l).flatMap exC from (List.flatMap_cons ..).symm] at h
          exact h.ok fun b hb => by rcases hb with h | h <;> omega
        have hrep' := (hrep.gr (g := W.heap.size) (fun b hb => by omega) hG').ok (q := fun b => W.heap.size ≤ b) fun b hb => by omega
        rw [Nat.add_comm] at hrep'
        exact ⟨da, dc, none, 0, by rw [Nat.add_comm 1]; rfl, hrep', .nil _, (show 6 ≤ 1000 by decide), Nat.zero_le _⟩
end

end Go.Proofs.YtfoclfefjcnllaaGreatDoor

/-
  The parser's steps. Helper lemmas; no statement of the seat is proved here.
-/
namespace Go.Proofs.YtfoclfefjcnllaaGreatDoor
open Go.RowKit
set_option maxRecDepth 100000
set_option linter.unusedVariables false
set_option linter.unusedSimpArgs false

structure Kp (g : Nat) (W : World) (r : Option Nat) (w : World) (r' : Option Nat) : Prop where
  size : W.heap.size ≤ w.heap.size
  block : ∀ k, k < W.heap.size → k ≠ g → some k ≠ r → w.heap[k]? = W.heap[k]?
  row : r' = r ∨ ∀ x, r' = some x → W.heap.size ≤ x
theorem Kp.refl (g : Nat) (W : World) (r : Option Nat) : Kp g W r W r := ⟨Nat.le_refl _, fun _ _ _ _ => rfl, .inl rfl⟩
theorem Kp.gr {g : Nat} {W w w2 : World} {r r' : Option Nat} (h : Kp g W r w r') (k : Gr g w w2) : Kp g W r w2 r' :=
  ⟨Nat.le_trans h.size k.size, fun x hx h1 h2 => (k.block x (Nat.lt_of_lt_of_le hx h.size) fun e => h1 (Option.some.inj e)).trans (h.block x hx h1 h2), h.row⟩
theorem Kp.app {g : Nat} {W w w2 : World} {r r' r2 : Option Nat} (h : Kp g W r w r') (k : w.grownBy w2 r') (q : r2 = r' ∨ r2 = some w.heap.size) : Kp g W r w2 r2 := by
  refine ⟨Nat.le_trans h.size k.size, fun x hx h1 h2 => (k.block x (Nat.lt_of_lt_of_le hx h.size) fun e => ?_).trans (h.block x hx h1 h2), ?_⟩
  · rcases h.row with e2 | e2
    · exact h2 (e.trans e2)
    · have := e2 x e.symm; omega
  · rcases q with rfl | rfl
    · exact h.row
    · exact .inr fun x e => by have := Option.some.inj e; have := h.size; omega
theorem wpList_app4k {ops : Array Oper} {Q : Exit → Act → World → Prop} {a : Act} {w : World} {rest : List Oper} {o : Oper} (hgd : o.guard = none) (s x : Operand) (ho : o.op = .call { callee := .builtin .append, args := #[s, x], argTypes := #[27, 27] })
    {p : Nat → Prop} {base n m cap gb : Nat} {d : Value} {es ds : List DV} {us : List Value} (hs : a.eval s = d) (hown : Own w p base 62 4 d n es) (hx : a.eval x = .slice (some ⟨gb, 0, none⟩) m cap)
    (hc : ∀ (j : Nat) (u : Value), us[j]? = some u → w.cell? ⟨gb, j, none⟩ = some u) (hr : Reps w (fun b => p b ∧ some b ≠ d.ownBlock ∧ b < w.heap.size) us ds) (h1 : ∀ e ∈ ds, e.one = true) (hl : us.length = m * 4) (hm : n + m ≤ 1000000) (hb : base ≤ w.heap.size)
    (h : ∀ d' w', Own w' p base 62 4 d' (n + m) (es ++ ds) → w.grownBy w' d.ownBlock → (d'.ownBlock = d.ownBlock ∨ d'.ownBlock = some w.heap.size) → wpList Tryz.prog ops Q rest (a.put o.dst d') w') : wpList Tryz.prog ops Q (o :: rest) a w := by
  obtain ⟨i0, ii, iz0, iz1, iz2⟩ := info_parts infoSt
  obtain ⟨vs, ho1, ho2⟩ := hown
  refine wpList_append_own_at w hgd s x 27 ho base 62 i0 (.agg #[.string ⟨#[]⟩, .string ⟨#[]⟩, .string ⟨#[]⟩, .slice none 0 0]) 4 72 Tryz.underlying27 ii iz0 iz1 iz2 rfl (by decide) d n vs hs ho1 ⟨gb, 0, none⟩ m cap us hx hl (fun j u hj => by rw [add_offs', Nat.zero_add]; exact hc j u hj) (hr.one h1) (by unfold maxLen; omega) (by omega) hb ?_
  intro v' w' q1 q2 _ q3
  exact h v' w' (Own.push ho2 hr q1 q2 q3) q2 q3
theorem wpList_apps4k {ops : Array Oper} {Q : Exit → Act → World → Prop} {a : Act} {w : World} {rest : List Oper} {o : Oper} (hgd : o.guard = none) (s x : Operand) (ho : o.op = .call { callee := .builtin .append, args := #[s, x], argTypes := #[27, 27] })
    {p : Nat → Prop} {base n m cap : Nat} {ad : Addr} {d : Value} {es ds : List DV} (hs : a.eval s = d) (hown : Own w p base 62 4 d n es) (hx : a.eval x = .slice (some ad) m cap)
    (hr : Rep w (fun b => p b ∧ some b ≠ d.ownBlock ∧ b < w.heap.size) (.slice (some ad) m cap) (.s 4 ds)) (h1 : ∀ e ∈ ds, e.one = true) (hm : n + m ≤ 1000000) (hb : base ≤ w.heap.size)
    (h : ∀ d' w', Own w' p base 62 4 d' (n + m) (es ++ ds) → w.grownBy w' d.ownBlock → (d'.ownBlock = d.ownBlock ∨ d'.ownBlock = some w.heap.size) → wpList Tryz.prog ops Q rest (a.put o.dst d') w') : wpList Tryz.prog ops Q (o :: rest) a w := by
  obtain ⟨i0, ii, iz0, iz1, iz2⟩ := info_parts infoSt
  obtain ⟨vs, ho1, ho2⟩ := hown
  obtain ⟨us, hru, hul, huc⟩ := rep_some hr
  refine wpList_append_own_at w hgd s x 27 ho base 62 i0 (.agg #[.string ⟨#[]⟩, .string ⟨#[]⟩, .string ⟨#[]⟩, .slice none 0 0]) 4 72 Tryz.underlying27 ii iz0 iz1 iz2 rfl (by decide) d n vs hs ho1 ad m cap us hx hul huc (hru.one h1) (by unfold maxLen; omega) (by omega) hb ?_
  intro v' w' q1 q2 _ q3
  exact h v' w' (Own.push ho2 hru q1 q2 q3) q2 q3
theorem wpList_appm4k {ops : Array Oper} {Q : Exit → Act → World → Prop} {a : Act} {w : World} {rest : List Oper} {o : Oper} (hgd : o.guard = none) (s x : Operand) (ho : o.op = .call { callee := .builtin .append, args := #[s, x], argTypes := #[27, 27] })
    {p : Nat → Prop} {base n m cap : Nat} {xa : Option Addr} {d : Value} {es ds : List DV} (hs : a.eval s = d) (hown : Own w p base 62 4 d n es) (hx : a.eval x = .slice xa m cap)
    (hr : Rep w (fun b => p b ∧ some b ≠ d.ownBlock ∧ b < w.heap.size) (.slice xa m cap) (.s 4 ds)) (h1 : ∀ e ∈ ds, e.one = true) (hm : n + m ≤ 1000000) (hb : base ≤ w.heap.size)
    (h : ∀ d' w', Own w' p base 62 4 d' (n + m) (es ++ ds) → w.grownBy w' d.ownBlock → (d'.ownBlock = d.ownBlock ∨ d'.ownBlock = some w.heap.size) → wpList Tryz.prog ops Q rest (a.put o.dst d') w') : wpList Tryz.prog ops Q (o :: rest) a w := by
  cases xa with
  | some ad => exact wpList_apps4k hgd s x ho hs hown hx hr h1 hm hb h
  | none =>
    obtain ⟨i0, ii, iz0, iz1, iz2⟩ := info_parts infoSt
    obtain ⟨rfl, rfl, rfl⟩ := rep_none hr
    refine wpList_plain hgd fun K hK => ?_
    obtain ⟨vs, ho1, ho2⟩ := hown
    have hrun := run_append_owned_none (P := Tryz.prog) (w := w) base 27 o.type 62 i0 4 Tryz.underlying27 ii d n vs ho1
    unfold Oper.wp execOp
    simp only [ho, resolve, invoke, builtin, Sem.run_bind, Sem.run_pure, Result.andThen_ok, List.map_toArray, List.map_cons, List.map_nil, hs, hx, hrun]
    rw [Oper.upon_value]
    exact hK _ _ (h _ _ (by rw [Nat.add_zero, List.append_nil]; exact ⟨vs, ho1, ho2⟩) (grown_refl _ _) (.inl rfl))
theorem wpList_appm4 {ops : Array Oper} {Q : Exit → Act → World → Prop} {a : Act} {w : World} {rest : List Oper} {o : Oper} (hgd : o.guard = none) (s x : Operand) (ho : o.op = .call { callee := .builtin .append, args := #[s, x], argTypes := #[27, 27] })
    {p : Nat → Prop} {base n m cap : Nat} {xa : Option Addr} {d : Value} {es ds : List DV} (hs : a.eval s = d) (hown : Own w p base 62 4 d n es) (hx : a.eval x = .slice xa m cap)
    (hr : Rep w (fun b => p b ∧ some b ≠ d.ownBlock ∧ b < w.heap.size) (.slice xa m cap) (.s 4 ds)) (h1 : ∀ e ∈ ds, e.one = true) (hm : n + m ≤ 1000000) (hb : base ≤ w.heap.size)
    (h : ∀ d' w', Own w' p base 62 4 d' (n + m) (es ++ ds) → w.grownBy w' d.ownBlock → wpList Tryz.prog ops Q rest (a.put o.dst d') w') : wpList Tryz.prog ops Q (o :: rest) a w := by
  cases xa with
  | some ad => exact wpList_apps4 hgd s x ho hs hown hx hr h1 hm hb h
  | none =>
    obtain ⟨i0, ii, iz0, iz1, iz2⟩ := info_parts infoSt
    obtain ⟨rfl, rfl, rfl⟩ := rep_none hr
    refine wpList_plain hgd fun K hK => ?_
    obtain ⟨vs, ho1, ho2⟩ := hown
    have hrun := run_append_owned_none (P := Tryz.prog) (w := w) base 27 o.type 62 i0 4 Tryz.underlying27 ii d n vs ho1
    unfold Oper.wp execOp
    simp only [ho, resolve, invoke, builtin, Sem.run_bind, Sem.run_pure, Result.andThen_ok, List.map_toArray, List.map_cons, List.map_nil, hs, hx, hrun]
    rw [Oper.upon_value]
    exact hK _ _ (h _ _ (by rw [Nat.add_zero, List.append_nil]; exact ⟨vs, ho1, ho2⟩) (grown_refl _ _))
theorem stepsP_eq (ts : List QT) (en f nest : Nat) (o : List St) (i : Nat) : stepsP ts en (f + 1) nest o i = match stepP ts en f nest i with
    | .error e => .error e
    | .ok (s, j) => match slashP ts en j with
      | (none, _) => .ok (o ++ [s], j)
      | (some m, k) => stepsP ts en f nest (o ++ [s] ++ m) k := by rw [stepsP]; rfl
theorem slash_len (ts : List QT) (en i : Nat) : ((slashP ts en i).1.getD []).length ≤ 1 := by
  unfold slashP; split
  · exact Nat.zero_le _
  · split
    · exact Nat.le_refl _
    · exact Nat.zero_le _
theorem Own.grown {w w' : World} {p : Nat → Prop} {base z n : Nat} {e : TypeId} {v : Value} {es : List DV} {row : Option Nat} (h : Own w p base e z v n es) (k : w.grownBy w' row) (hr : ∀ x, row = some x → some x ≠ v.ownBlock) (hp : ∀ b, p b → some b ≠ row) : Own w' p base e z v n es := by
  obtain ⟨us, h1, h2⟩ := h
  refine ⟨us, h1.kept (row := row) k ?_, (h2.kept fun b hb hlt => k.block b hlt (hp b hb.1)).ok fun b hb => ⟨hb.1, hb.2.1, Nat.lt_of_lt_of_le hb.2.2 k.size⟩⟩
  cases ho : v.ownBlock with
  | none => exact .inl rfl
  | some x => exact .inr fun e => hr x e.symm ho.symm
section
variable {g : Nat} {W0 : World} {ts : List QT} {en : Nat}
/-- The contract of steps: it appends to the row that it is given. -/
def KT (g : Nat) (W0 : World) (ts : List QT) (en : Nat) (r : Nat → List St → Nat → PR (List St)) : Prop := ∀ (Wb W : World) (i nst : Nat) (o : List St) (d : Value), g < Wb.heap.size → Gr g Wb W → Gr g W0 Wb → PS g W ts en i nst → nst ≤ 25 → Own W (fun b => Wb.heap.size ≤ b) Wb.heap.size 62 4 d o.length (o.flatMap stC) → o.length ≤ 2 * i + 1 → NoF (r nst o i) →
  Calls Tryz.prog 118 #[.pointer (some ⟨g, 0, none⟩), d] W fun e w' => PX g Wb ts en nst (SsV (fun b => Wb.heap.size ≤ b)) (r nst o i) e w' ∧ ∀ k, k < W.heap.size → k ≠ g → some k ≠ d.ownBlock → w'.heap[k]? = W.heap[k]?
set_option maxHeartbeats 16000000 in
theorem steps_step (HV : PEnv g W0 ts en) (f : Nat) (HS : ∀ k, k < f → KS g W0 ts en (stepP ts en k)) : KT g W0 ts en (stepsP ts en f) := by
  intro Wb W i nst o d hgb hGb hG hP hn hO hol hF
  obtain ⟨R, hR⟩ : ∃ R, stepsP ts en f nst o i = R := ⟨_, rfl⟩
  rw [hR] at hF ⊢
  have HF := Lib.hid hF
  obtain ⟨r0, hr0⟩ : ∃ r, d.ownBlock = r := ⟨_, rfl⟩
  rw [hr0]
  have HK0 : Hid (Kp g W r0 W d.ownBlock) := by rw [hr0]; exact Lib.hid (Kp.refl g W r0)
  clear hr0
  have HQ := Lib.hid (And.intro hG (And.intro HV HS))
  have HS0 : Hid (Gr g Wb W ∧ Gr g W W ∧ PS g W ts en i nst ∧ Own W (fun b => Wb.heap.size ≤ b) Wb.heap.size 62 4 d o.length (o.flatMap stC) ∧ o.length ≤ 2 * i + 1 ∧ ∃ f', f' ≤ f ∧ stepsP ts en f' nst o i = R) := Lib.hid ⟨hGb, Gr.refl g W, hP, hO, hol, f, Nat.le_refl _, hR⟩
  have hPi := hP.hi
  clear hR hF hG HS hP hO hol hGb HV
  go_enter Tryz.func118, Tryz.ntmps118
  go_wp2_with fail
  go_loopw [1, 5, 6] (fun sv _ _ wr => ∃ (d : Value) (o : List St) (j : Nat), d = sv ∧ j ≤ ts.length ∧ Hid (Kp g W r0 wr d.ownBlock) ∧ Hid (Gr g Wb wr ∧ Gr g W0 wr ∧ PS g wr ts en j nst ∧ Own wr (fun b => Wb.heap.size ≤ b) Wb.heap.size 62 4 d o.length (o.flatMap stC) ∧ o.length ≤ 2 * j + 1 ∧ ∃ f', f' ≤ f ∧ stepsP ts en f' nst o j = R)) (fun _ _ _ wr => atQ ts.length wr g)
  case atStart => exact ⟨_, _, _, rfl, hPi, HK0, Lib.hid ⟨HS0.out.1, HQ.out.1.trans HS0.out.1, HS0.out.2.2⟩⟩
  case round =>
    clear HS0 hPi HK0
    obtain ⟨d, o, j, rfl, hj, HK, HS⟩ := hrel
    obtain ⟨hGb, hG0, hP, hO, hol, f', hf', hR⟩ := HS.out
    have hM : atQ ts.length wr g = ts.length - j := by simp [atQ, hP.c1]
    have hlen := HQ.out.2.1.ok.len
    have hnf : ∃ k, f' = k + 1 := by
      cases f' with
      | zero =>
        have h := HF.out
        rw [← hR, stepsP] at h
        exact absurd rfl h
      | succ k => exact ⟨k, rfl⟩
    obtain ⟨k, rfl⟩ := hnf
    rw [stepsP_eq] at hR
    have hnf2 : NoF (stepP ts en k nst j) := by
      have h := HF.out
      rw [← hR] at h
      revert h
      cases stepP ts en k nst j with
      | error e => exact fun h => h
      | ok x => exact fun _ => trivial
    have hmn : Mn j (stepP ts en k nst j) := (mono_all ts en k).2.2.2.2.2.2.2.1 nst j
    have HC := Lib.hid (HQ.out.2.2 k (by omega) wr j nst hG0 hP hn hnf2)
    obtain ⟨X, hX⟩ : ∃ X, stepP ts en k nst j = X := ⟨_, rfl⟩
    rw [hX] at HC hR hmn
    have HY := Lib.hid (And.intro hGb (And.intro hG0 (And.intro hO (And.intro hol (And.intro (show k < f by omega) (And.intro hR (And.intro hM hmn)))))))
    clear hGb hG0 hP hO hol hf' hR hM hmn hnf2 hX HS
    go_wp2_with fail
    refine HC.out.mono ?_
    rintro e w2 ⟨hG2, hV⟩
    clear HC
    rcases X with ⟨c, a⟩ | ⟨x, j2⟩
    · obtain rfl := hV
      obtain ⟨hG, _, _, _, _, hR, _⟩ := HY.out
      obtain rfl : _ = R := hR
      exact ⟨rfl, ⟨hG.trans hG2, rfl⟩, (HK.out.gr hG2).block⟩
    · obtain ⟨v, rfl, ⟨pa, pc, rfl, hrp, ha, ht, hnm⟩, hP2⟩ := hV
      obtain ⟨hGb, hG0, hO, hol, hkf, hR, hM, hmn⟩ := HY.out
      obtain ⟨w3, hw3⟩ : ∃ w, w2.alloc (.cells #[.string (bs x.axis), .string (bs x.test), .string (bs x.name), .slice pa x.preds.length pc] 62) = w := ⟨_, rfl⟩
      have Ew3 : Ext w2 w3 := by rw [← hw3]; exact (Ext.refl w2).alloc _
      have hbw3 : w3.heap[w2.heap.size]? = some (.cells #[.string (bs x.axis), .string (bs x.test), .string (bs x.name), .slice pa x.preds.length pc] 62) := by rw [← hw3]; exact Array.getElem?_push_size
      have hO3 := (hO.gr hgb (fun b hb => by omega) hG2).ext Ew3
      have hdb := hO.blk
      have hbs := hGb.size
      have hrx := ((st_reps hrp ha ht hnm).lt.ext Ew3).ok (q := fun b => Wb.heap.size ≤ b ∧ some b ≠ d.ownBlock ∧ b < w3.heap.size) (fun b hb => ⟨Nat.le_trans hbs hb.1, fun e => by have := (hdb b e.symm).2; omega, Nat.lt_of_lt_of_le hb.2 Ew3.size⟩)
      have hol2 : o.length ≤ 2001 := by omega
      have HSL := Lib.hid fun w h => slash_any g w ts en j2 nst HQ.out.2.1.ok h
      have HA := Lib.hid (And.intro hO3 (And.intro hbw3 (And.intro hrx (And.intro ((hGb.trans hG2).ext Ew3) (And.intro ((hG0.trans hG2).ext Ew3) (And.intro (hP2.ext Ew3) hdb))))))
      have hK3 := (HK.out.gr hG2).gr (Gr.of g Ew3)
      replace HK := Lib.hid hK3
      clear hK3
      clear hrp ha ht hnm hP2 Ew3 hbw3 hO3 hrx hGb hG0 hO hol hkf hR hM hmn hdb hbs
      go_wp2_with (at_builtin; refine wpList_app4k rfl (.tmp 7) (.tmp 10) rfl (hs := rfl) (hown := HA.out.1) (hx := rfl) (hc := fun j u hj => blk_cells (xs := stU x (.slice pa x.preds.length pc)) HA.out.2.1 j hj) (hr := HA.out.2.2.1) (h1 := one_st x) (hl := rfl) (hm := by omega) (hb := HA.out.2.2.2.1.size) ?_; intro d' w4 hO4 hg4 hq4)
      have hG4 := HA.out.2.2.2.1.grown hg4 fun y hy => (HA.out.2.2.2.2.2.2 y hy).1
      have hG40 : Gr g W0 w4 := HA.out.2.2.2.2.1.grown hg4 fun y hy => Nat.le_trans HQ.out.1.size (HA.out.2.2.2.2.2.2 y hy).1
      have hP4 := HA.out.2.2.2.2.2.1.grown hg4 fun y hy => by have := (HA.out.2.2.2.2.2.2 y hy).1; omega
      have hdb4 := hO4.blk
      replace HK := Lib.hid (HK.out.app hg4 hq4)
      clear HA hg4 hw3 hq4
      have hC5 := HSL.out _ hP4
      clear HSL
      obtain ⟨_, _, _, hol, hkf, hR, hM, hmn⟩ := HY.out
      have hml := slash_len ts en j2
      have hsl := slash_le ts en j2
      have hss := fun (o : List St) (k : Nat) => slash_some (o := o) (k := k) ts en (i := j2)
      obtain ⟨S, hS⟩ : ∃ S, slashP ts en j2 = S := ⟨_, rfl⟩
      rw [hS] at hC5 hR hml hsl
      simp only [hS] at hss
      refine hC5.mono ?_
      rintro e w5 ⟨hG5, hP5, v5, rfl, ⟨sv, rfl, hsv⟩⟩
      clear hC5
      have hO5 := hO4.gr hgb (fun b hb => by omega) hG5
      have hjj : j ≤ j2 := hmn
      replace HK := Lib.hid (HK.out.gr hG5)
      rcases S with ⟨_ | m, j3⟩
      · obtain rfl : .ok (o ++ [x], j2) = R := hR
        obtain ⟨da, dc, rfl, _, _⟩ := hO5.form
        have hj3 : j3 = j2 := by
          have h := congrArg Prod.snd hS
          unfold slashP at hS
          split at hS
          · cases hS
          · split at hS
            · cases hS
            · exact (congrArg Prod.snd hS).symm
        obtain rfl := hj3
        have HZ := Lib.hid (And.intro (hG4.trans hG5) (And.intro hP5 hO5))
        have hol3 : (o ++ [x]).length ≤ 3000 := by simp; omega
        have hol4 : (o ++ [x]).length = o.length + 1 := by simp
        clear hG4 hG5 hP5 hO5 hO4 hP4 hG40 hM hmn hol HY hsv hS hss hdb4
        go_wp2_with fail
        go_ret
        refine ⟨⟨HZ.out.1, _, rfl, ⟨da, dc, by rw [hol4]; rfl, ?_, hol3⟩, HZ.out.2.1⟩, HK.out.block⟩
        have h := HZ.out.2.2.rep
        rw [show o.flatMap stC ++ stC x = (o ++ [x]).flatMap stC by rw [List.flatMap_append, List.flatMap_cons, List.flatMap_nil, List.append_nil]] at h
        rw [hol4]
        exact h.ok fun b hb => by rcases hb with h | h <;> exact h
      · obtain ⟨hj3, hj2l⟩ := hss m j3 rfl
        dsimp only at hP5 hR hml
        simp only [Option.getD_some] at hsv hml
        obtain ⟨ma, mc, rfl, _, _⟩ := hsv.form
        have hb5 := hO5.blk
        have hmo : o.length + 1 ≤ 3000 := by omega
        have hmr : Rep w5 (fun b => Wb.heap.size ≤ b ∧ some b ≠ d'.ownBlock ∧ b < w5.heap.size) (.slice ma m.length mc) (stsD m) :=
          (hsv.rep.lt).ok fun b hb => by
            have hb1 : w4.heap.size ≤ b := by rcases hb.1 with h | h <;> exact h
            exact ⟨Nat.le_trans (hG4.size) hb1, fun e => by have := (hdb4 b e.symm).2; omega, hb.2⟩
        have HZ := Lib.hid (And.intro (hG4.trans hG5) (And.intro (hG40.trans hG5) (And.intro hP5 (And.intro hO5 (And.intro hmr (And.intro hb5 (And.intro hol (And.intro hkf (And.intro hR hM)))))))))
        clear hG4 hG5 hP5 hO5 hO4 hP4 hG40 hR hM hmn hol HY hsv hS hss hdb4 hmr hb5 hkf
        go_wp2_with (at_builtin; refine wpList_appm4k rfl (.tmp 20) (.tmp 21) rfl (hs := rfl) (hown := HZ.out.2.2.2.1) (hx := rfl) (hr := HZ.out.2.2.2.2.1) (h1 := one_sts m) (hm := by omega) (hb := HZ.out.1.size) ?_; intro d6 w6 hO6 hg6 hq6)
        obtain ⟨hGb, hG0, hP, _, _, hb5, hol, hkf, hR, hM⟩ := HZ.out
        have hGb6 := hGb.grown hg6 fun y hy => (hb5 y hy).1
        have hG06 := hG0.grown hg6 fun y hy => Nat.le_trans HQ.out.1.size (hb5 y hy).1
        have hP6 := hP.grown hg6 fun y hy => by have := (hb5 y hy).1; omega
        have hj3l := hP6.hi
        replace HK := Lib.hid (HK.out.app hg6 hq6)
        clear hq6
        have HN : Hid (Gr g Wb w6 ∧ Gr g W0 w6 ∧ PS g w6 ts en j3 nst ∧ Own w6 (fun b => Wb.heap.size ≤ b) Wb.heap.size 62 4 d6 (o ++ [x] ++ m).length ((o ++ [x] ++ m).flatMap stC) ∧ (o ++ [x] ++ m).length ≤ 2 * j3 + 1 ∧ ∃ f', f' ≤ f ∧ stepsP ts en f' nst (o ++ [x] ++ m) j3 = R) :=
          Lib.hid ⟨hGb6, hG06, hP6, by
            rw [List.length_append, List.length_append, List.flatMap_append, List.flatMap_append, List.flatMap_cons, List.flatMap_nil, List.append_nil]; exact hO6, by simp; omega, k, by omega, hR⟩
        have HM := Lib.hid (show atQ ts.length w6 g < atQ ts.length wr g by rw [hM]; simp only [atQ, hP6.c1]; simp; omega)
        clear hGb hG0 hP hb5 hol hkf hR hM hGb6 hG06 hP6 hO6 hg6
        go_roundw
        case rel => exact ⟨_, _, _, rfl, hj3l, HK, HN⟩
        case measure => exact HM.out
end

end Go.Proofs.YtfoclfefjcnllaaGreatDoor

/-
  A step's test. Helper lemmas; no statement of the seat is proved here.
-/
namespace Go.Proofs.YtfoclfefjcnllaaGreatDoor
open Go.RowKit
set_option maxRecDepth 100000
set_option linter.unusedVariables false
set_option linter.unusedSimpArgs false

/-- All but two blocks is as it was. -/
structure G2 (g s : Nat) (a w : World) : Prop where
  os : w.os = a.os
  tape : w.tape = a.tape
  output : w.output = a.output
  size : a.heap.size ≤ w.heap.size
  block : ∀ k, k < a.heap.size → k ≠ g → k ≠ s → w.heap[k]? = a.heap[k]?
theorem G2.of {g s : Nat} {a w : World} (h : Gr g a w) : G2 g s a w := ⟨h.os, h.tape, h.output, h.size, fun k hk h1 _ => h.block k hk fun e => h1 (Option.some.inj e)⟩
theorem G2.trans {g s : Nat} {a b c : World} (h : G2 g s a b) (k : G2 g s b c) : G2 g s a c :=
  ⟨k.os.trans h.os, k.tape.trans h.tape, k.output.trans h.output, Nat.le_trans h.size k.size, fun x hx h1 h2 => (k.block x (Nat.lt_of_lt_of_le hx h.size) h1 h2).trans (h.block x hx h1 h2)⟩
theorem G2.setS (g s : Nat) (w : World) (o : Nat) (u : Value) : G2 g s w (w.setCell ⟨s, o, none⟩ u) :=
  ⟨rfl, rfl, rfl, by simp [World.setCell], fun k _ _ h => Below.heap_setCell _ _ _ _ h⟩
theorem G2.setG (g s : Nat) (w : World) (o : Nat) (u : Value) : G2 g s w (w.setCell ⟨g, o, none⟩ u) :=
  ⟨rfl, rfl, rfl, by simp [World.setCell], fun k _ h _ => Below.heap_setCell _ _ _ _ h⟩
theorem G2.blk {g s : Nat} {a w : World} (h : G2 g s a w) {b : Nat} (h1 : b ≠ g) (h2 : b ≠ s) {o : Obj} (hc : a.heap[b]? = some o) : w.heap[b]? = some o := (h.block b (blk_lt hc) h1 h2).trans hc
theorem Gr.g2 {g s : Nat} {a b c : World} (h : Gr g a b) (k : G2 g s b c) (hs : a.heap.size ≤ s) : Gr g a c :=
  ⟨k.os.trans h.os, k.tape.trans h.tape, k.output.trans h.output, Nat.le_trans h.size k.size, fun x hx hn => (k.block x (Nat.lt_of_lt_of_le hx h.size) (fun e => hn (by rw [e])) (by omega)).trans (h.block x hx hn)⟩
theorem PS.setS {g s : Nat} {W : World} {ts : List QT} {en i nst : Nat} (h : PS g W ts en i nst) (hs : g < s) (o : Nat) (u : Value) : PS g (W.setCell ⟨s, o, none⟩ u) ts en i nst := h.gr ((Gr.refl s W).set o u) hs
theorem Gr.cell {g : Nat} {a w : World} (h : Gr g a w) {b o : Nat} {v : Value} (hb : b ≠ g ∧ b < a.heap.size) (hc : a.cell? ⟨b, o, none⟩ = some v) : w.cell? ⟨b, o, none⟩ = some v :=
  (World.cell?_of_block (a := ⟨b, o, none⟩) (h.block b hb.2 fun e => hb.1 (Option.some.inj e))).trans hc
theorem s1Str : ∀ W, (sizeOf 9).run Tryz.prog W = .ok 1 W := fun W => by go_simp
theorem store_str {W : World} {b o : Nat} {u : Value} (t : TypeId) (hs : ∀ W, (sizeOf t).run Tryz.prog W = .ok 1 W) (hc : W.cell? ⟨b, o, none⟩ = some u) (hf : W.frozen? ⟨b, o, none⟩ = false) (s : ByteArray) :
    (Instr.storeAt t (.pointer (some ⟨b, o, none⟩)) (.string s)).run Tryz.prog W = .ok () (W.setCell ⟨b, o, none⟩ (.string s)) := by
  go_simp
def TestP (g sb : Nat) (W : World) (ts : List QT) (en nst : Nat) (ax : List UInt8) (r : PR (List UInt8 × List UInt8)) (e : Ending) (w' : World) : Prop :=
  G2 g sb W w' ∧ match r with
    | .error (c, a) => e = Wrong c a
    | .ok ((t, n), j) => e = .returned (.tuple #[]) ∧ PS g w' ts en j nst ∧ w'.heap[sb]? = some (.cells #[.string (bs ax), .string (bs t), .string (bs n), .slice none 0 0] 62) ∧ t.length ≤ 1000 ∧ n.length ≤ 1000
section
variable {g : Nat} {W0 : World} {ts : List QT} {en : Nat}
set_option maxHeartbeats 16000000 in
theorem test_any (hT : TsOk ts en) (sb : Nat) (W : World) (i nst : Nat) (ax : List UInt8) (hP : PS g W ts en i nst) (hsg' : g < sb) (hsb : W.heap[sb]? = some (.cells #[.string (bs ax), .string ⟨#[]⟩, .string ⟨#[]⟩, .slice none 0 0] 62)) :
    Calls Tryz.prog 134 #[.pointer (some ⟨g, 0, none⟩), .pointer (some ⟨sb, 0, none⟩)] W (TestP g sb W ts en nst ax (testP ts en i)) := by
  obtain ⟨R, hR⟩ : ∃ R, testP ts en i = R := ⟨_, rfl⟩
  rw [hR]
  unfold testP at hR
  have HC := Lib.hid (tok_any g W ts en i nst hT hP)
  have htx := tokP_tx hT i
  have hkl := kind_lt ts en i
  have hlen := hT.len
  obtain ⟨x, hx⟩ : ∃ x, tokP ts en i = x := ⟨_, rfl⟩
  rw [hx] at HC hR htx hkl
  unfold tokV at HC
  have hsg : sb ≠ g := by omega
  have HR := Lib.hid hR
  have HP := Lib.hid (And.intro hP hsb)
  have hlt := hP.lt
  clear hR hx hP hsb
  go_enter Tryz.func134, Tryz.ntmps134
  go_wp2_with fail
  refine HC.out.mono ?_
  rintro e w1 ⟨rfl, hX⟩
  clear HC
  obtain ⟨w2, hw2⟩ : ∃ w, w1.alloc (.cells #[.int .i64 x.kind, .int .i64 x.at', .string (bs x.text)] 111) = w := ⟨_, rfl⟩
  have Ew2 : Ext w1 w2 := by rw [← hw2]; exact (Ext.refl w1).alloc _
  have hbw2 : w2.heap[w1.heap.size]? = some (.cells #[.int .i64 x.kind, .int .i64 x.at', .string (bs x.text)] 111) := by rw [← hw2]; exact Array.getElem?_push_size
  have hG2 : Gr g W w2 := (Gr.of g hX).ext Ew2
  have hP2 := HP.out.1.ext (hX.trans Ew2)
  have hsb2 := Gr.blk hG2 hsg HP.out.2
  obtain ⟨tb, htb⟩ : ∃ t, w1.heap.size = t := ⟨_, rfl⟩
  rw [htb] at hbw2
  have hbl := blk_lt HP.out.2
  have htg : tb ≠ g := by have := hX.size; omega
  have hts : tb ≠ sb := by have := hX.size; omega
  obtain ⟨t0, t1, t2⟩ := cells3 hbw2
  have hltb := blk_lt hbw2
  have HG := Lib.hid (And.intro hG2 (And.intro hP2 hsb2))
  have c1 := hP2.c1; have f1 := hP2.f1
  clear hG2 hP2 hX Ew2 HP hbl hsb2
  by_cases h1 : x.kind = 1
  · obtain rfl : .ok (([110, 97, 109, 101], x.text), i + 1) = R := (if_pos h1).symm.trans HR.out
    have hil : i < ts.length := hkl (by omega)
    have q1 : ((x.kind : Int) == 1) = true := by rw [beq_iff_eq]; omega
    have hiI : (i : Int) ≤ 1000 := by omega
    obtain ⟨wz, hwz⟩ : ∃ w, w2.setCell ⟨g, 1, none⟩ (.int .i64 (i + 1 : Nat)) = w := ⟨_, rfl⟩
    have hwz' : w2.setCell ⟨g, 1, none⟩ (.int .i64 ((i : Int) + 1)) = wz := hwz
    have hPz : PS g wz ts en (i + 1) nst := by rw [← hwz]; exact HG.out.2.1.set (i + 1) hil
    have hGz : Gr g w2 wz := by rw [← hwz]; exact (Gr.refl g w2).set 1 _
    have hsb := Gr.blk hGz hsg HG.out.2.2
    have htz := Gr.blk hGz htg hbw2
    have HZ := Lib.hid (And.intro (HG.out.1.trans hGz) hPz)
    clear HG HR hPz hGz h1 hwz hkl
    go_wp2_with fail
    clear hwz' c1 f1 t0 t1 t2 hw2 hbw2 hltb
    have d2 := blk_cell htz (k := 2) rfl
    have ltb := blk_lt htz
    refine rg_begin (S := Gr sb wz) (by kernel_rfl) (Gr.of sb (Ext.refl wz).drew) ?_
    have hSp : Gr sb wz (World.drew wz) := (Gr.of sb (Ext.refl wz).drew)
    refine rg_take 0 (some 21) (.pointer (some ⟨sb, 0, none⟩)) (oi := { dst := some 21, op := Go.Op.move (Go.Operand.tmp 1), type := 194, pos := "qparse.go:241", after := #[], guard := none }) rfl rfl (by kernel_rfl) (by kernel_rfl) (by kernel_rfl) (fun _ _ _ h => h) hSp (by rfl) (fun w' hs => by rfl) ?_
    simp only [Act.put, List.setIfInBounds_toArray, List.set_cons_zero, List.set_cons_succ]
    refine rg_take 1 (some 22) (.pointer (some ⟨sb, 0, none⟩)) (oi := { dst := some 22, op := Go.Op.move (Go.Operand.tmp 1), type := 194, pos := "qparse.go:241", after := #[{ on := 6, ground := Go.Ground.gcOnly Go.Departure.lateStores }], guard := none }) rfl rfl (by kernel_rfl) (by kernel_rfl) (by kernel_rfl) (fun _ _ _ h => h) hSp (by rfl) (fun w' hs => by rfl) ?_
    simp only [Act.put, List.setIfInBounds_toArray, List.set_cons_zero, List.set_cons_succ]
    refine rg_take 2 (some 23) (.pointer (some ⟨tb, 2, none⟩)) (oi := { dst := some 23, op := Go.Op.fieldAddr 111 (Go.Operand.tmp 4) 2, type := 0, pos := "qparse.go:241", after := #[{ on := 6, ground := Go.Ground.gcOnly Go.Departure.lateStores }], guard := none }) rfl rfl (by kernel_rfl) (by kernel_rfl) (by kernel_rfl) (fun _ _ _ h => h) hSp (by rfl) (fun w' hs => by first | rfl | go_simp) ?_
    simp only [Act.put, List.setIfInBounds_toArray, List.set_cons_zero, List.set_cons_succ]
    refine rg_take 3 (some 24) (.string (bs x.text)) (oi := { dst := some 24, op := Go.Op.load 9 (Go.Operand.tmp 23), type := 9, pos := "qparse.go:241", after := #[{ on := 2, ground := Go.Ground.data }, { on := 6, ground := Go.Ground.gcOnly Go.Departure.lateStores }], guard := none }) rfl rfl (by kernel_rfl) (by kernel_rfl) (by kernel_rfl) (fun _ _ _ h => h) hSp (by rfl) (fun w' hs => by (have h0 := hs.cell ⟨hts, ltb⟩ d2; go_simp)) ?_
    simp only [Act.put, List.setIfInBounds_toArray, List.set_cons_zero, List.set_cons_succ]
    refine rg_take 4 (some 25) (.pointer (some ⟨sb, 0, none⟩)) (oi := { dst := some 25, op := Go.Op.nilCheck (Go.Operand.tmp 21), type := 0, pos := "qparse.go:241", after := #[{ on := 0, ground := Go.Ground.data }, { on := 0, ground := Go.Ground.phase }, { on := 1, ground := Go.Ground.textOnly Go.Departure.lateStores }, { on := 2, ground := Go.Ground.textOnly Go.Departure.lateStores }, { on := 3, ground := Go.Ground.textOnly Go.Departure.lateStores }], guard := none }) rfl rfl (by kernel_rfl) (by kernel_rfl) (by kernel_rfl) (fun _ _ _ h => h) hSp (by rfl) (fun w' hs => by first | rfl | go_simp) ?_
    simp only [Act.put, List.setIfInBounds_toArray, List.set_cons_zero, List.set_cons_succ]
    refine rg_take 5 (some 26) (.pointer (some ⟨sb, 1, none⟩)) (oi := { dst := some 26, op := Go.Op.fieldAddr 62 (Go.Operand.tmp 25) 1, type := 0, pos := "qparse.go:241", after := #[{ on := 4, ground := Go.Ground.data }, { on := 0, ground := Go.Ground.phase }, { on := 1, ground := Go.Ground.textOnly Go.Departure.lateStores }, { on := 2, ground := Go.Ground.textOnly Go.Departure.lateStores }, { on := 3, ground := Go.Ground.textOnly Go.Departure.lateStores }], guard := none }) rfl rfl (by kernel_rfl) (by kernel_rfl) (by kernel_rfl) (fun _ _ _ h => h) hSp (by rfl) (fun w' hs => by first | rfl | go_simp) ?_
    simp only [Act.put, List.setIfInBounds_toArray, List.set_cons_zero, List.set_cons_succ]
    have b1 := Gr.blk (Gr.of g (Ext.refl wz).drew) hsg hsb
    obtain ⟨q0, q1, q2, q3⟩ := cells4 b1
    have u1 := blk_free b1 (k := 1)
    refine rg_write 6 none ((World.drew wz).setCell ⟨sb, 1, none⟩ (.string ⟨#[110, 97, 109, 101]⟩)) (oi := { dst := none, op := Go.Op.store 9 (Go.Operand.tmp 26) (Go.Operand.const (Go.Value.string { data := #[110, 97, 109, 101] })), type := 0, pos := "qparse.go:241", after := #[{ on := 5, ground := Go.Ground.data }, { on := 0, ground := Go.Ground.phase }, { on := 1, ground := Go.Ground.textOnly Go.Departure.lateStores }, { on := 2, ground := Go.Ground.textOnly Go.Departure.lateStores }, { on := 3, ground := Go.Ground.textOnly Go.Departure.lateStores }], guard := none }) rfl rfl (by kernel_rfl) (by rfl) (exec_store rfl (store_str _ s1Str q1 u1 _)) ((hSp).set _ _) ?_
    have hS6 : Gr sb wz ((World.drew wz).setCell ⟨sb, 1, none⟩ (.string ⟨#[110, 97, 109, 101]⟩)) := (hSp).set _ _
    simp only [Act.put, List.setIfInBounds_toArray, List.set_cons_zero, List.set_cons_succ]
    have b2 := heap_setCell_same _ sb 1 _ _ (.string ⟨#[110, 97, 109, 101]⟩) b1
    simp only [List.setIfInBounds_toArray, List.set_cons_zero, List.set_cons_succ] at b2
    obtain ⟨p0, p1, p2, p3⟩ := cells4 b2
    have u2 := blk_free b2 (k := 2)
    refine rg_take 7 (some 27) (.pointer (some ⟨sb, 0, none⟩)) (oi := { dst := some 27, op := Go.Op.nilCheck (Go.Operand.tmp 22), type := 0, pos := "qparse.go:241", after := #[{ on := 1, ground := Go.Ground.data }, { on := 0, ground := Go.Ground.phase }, { on := 1, ground := Go.Ground.phase }, { on := 2, ground := Go.Ground.phase }, { on := 3, ground := Go.Ground.phase }, { on := 4, ground := Go.Ground.phase }, { on := 5, ground := Go.Ground.phase }, { on := 6, ground := Go.Ground.phase }], guard := none }) rfl rfl (by kernel_rfl) (by kernel_rfl) (by kernel_rfl) (fun _ _ _ h => h) hS6 (by rfl) (fun w' hs => by first | rfl | go_simp) ?_
    simp only [Act.put, List.setIfInBounds_toArray, List.set_cons_zero, List.set_cons_succ]
    refine rg_take 8 (some 28) (.pointer (some ⟨sb, 2, none⟩)) (oi := { dst := some 28, op := Go.Op.fieldAddr 62 (Go.Operand.tmp 27) 2, type := 0, pos := "qparse.go:241", after := #[{ on := 7, ground := Go.Ground.data }, { on := 0, ground := Go.Ground.phase }, { on := 1, ground := Go.Ground.phase }, { on := 2, ground := Go.Ground.phase }, { on := 3, ground := Go.Ground.phase }, { on := 4, ground := Go.Ground.phase }, { on := 5, ground := Go.Ground.phase }, { on := 6, ground := Go.Ground.phase }], guard := none }) rfl rfl (by kernel_rfl) (by kernel_rfl) (by kernel_rfl) (fun _ _ _ h => h) hS6 (by rfl) (fun w' hs => by first | rfl | go_simp) ?_
    simp only [Act.put, List.setIfInBounds_toArray, List.set_cons_zero, List.set_cons_succ]
    refine rg_write 9 none (((World.drew wz).setCell ⟨sb, 1, none⟩ (.string ⟨#[110, 97, 109, 101]⟩)).setCell ⟨sb, 2, none⟩ (.string (bs x.text))) (oi := { dst := none, op := Go.Op.store 9 (Go.Operand.tmp 28) (Go.Operand.tmp 24), type := 0, pos := "qparse.go:241", after := #[{ on := 8, ground := Go.Ground.data }, { on := 3, ground := Go.Ground.data }, { on := 6, ground := Go.Ground.chain }, { on := 0, ground := Go.Ground.phase }, { on := 1, ground := Go.Ground.phase }, { on := 2, ground := Go.Ground.phase }, { on := 3, ground := Go.Ground.phase }, { on := 4, ground := Go.Ground.phase }, { on := 5, ground := Go.Ground.phase }, { on := 6, ground := Go.Ground.phase }], guard := none }) rfl rfl (by kernel_rfl) (by rfl) (exec_store rfl (store_str _ s1Str p2 u2 _)) ((hS6).set _ _) ?_
    have hS9 : Gr sb wz (((World.drew wz).setCell ⟨sb, 1, none⟩ (.string ⟨#[110, 97, 109, 101]⟩)).setCell ⟨sb, 2, none⟩ (.string (bs x.text))) := (hS6).set _ _
    simp only [Act.put, List.setIfInBounds_toArray, List.set_cons_zero, List.set_cons_succ]
    refine rg_done (by kernel_rfl) ?_
    have b3 := heap_setCell_same _ sb 2 _ _ (.string (bs x.text)) b2
    simp only [List.setIfInBounds_toArray, List.set_cons_zero, List.set_cons_succ] at b3
    have hSd := (Ext.refl wz).drew
    clear d2
    exact ⟨rfl, _, results_none rfl _ _ _, (G2.of (HZ.out.1.ext hSd)).trans ((G2.setS g sb _ _ _).trans (G2.setS g sb _ _ _)), rfl, ((HZ.out.2.ext hSd).setS hsg' _ _).setS hsg' _ _, b3, by decide, htx⟩
  · have q1 : ((x.kind : Int) == 1) = false := by rw [beq_eq_false_iff_ne]; omega
    replace HR := Lib.hid ((if_neg h1).symm.trans HR.out)
    by_cases h3 : x.kind = 3
    · have hil : i < ts.length := hkl (by omega)
      have q3 : ((x.kind : Int) == 3) = true := by rw [beq_iff_eq]; omega
      replace HR := Lib.hid ((if_pos h3).symm.trans HR.out)
      have hiI : (i : Int) ≤ 1000 := by omega
      obtain ⟨wz, hwz⟩ : ∃ w, w2.setCell ⟨g, 1, none⟩ (.int .i64 (i + 1 : Nat)) = w := ⟨_, rfl⟩
      have hwz' : w2.setCell ⟨g, 1, none⟩ (.int .i64 ((i : Int) + 1)) = wz := hwz
      have hPz : PS g wz ts en (i + 1) nst := by rw [← hwz]; exact HG.out.2.1.set (i + 1) hil
      have hGz : Gr g w2 wz := by rw [← hwz]; exact (Gr.refl g w2).set 1 _
      have HM := Lib.hid (must_any g wz ts en (i + 1) nst hT hPz [40])
      have HZ := Lib.hid (And.intro (HG.out.1.trans hGz) (And.intro (Gr.blk hGz hsg HG.out.2.2) (Gr.blk hGz htg hbw2)))
      clear HG hPz hGz h1 h3 hwz hkl
      go_wp2_with fail
      refine HM.out.mono ?_
      rintro e w3 ⟨hG3, hV⟩
      clear HM hwz' c1 f1 t0 t1 t2 hw2 hbw2 hltb
      have hR := HR.out
      obtain ⟨M, hM⟩ : ∃ M, mustP ts en (i + 1) [40] = M := ⟨_, rfl⟩
      rw [hM] at hV hR
      clear hM HR
      rcases M with ⟨c, a⟩ | ⟨u, j⟩
      · obtain rfl := hV
        obtain rfl : _ = R := hR
        exact ⟨rfl, G2.of (HZ.out.1.trans hG3), rfl⟩
      · obtain ⟨v, rfl, rfl, hP3⟩ := hV
        dsimp only at hR
        obtain ⟨hGw, hs, ht⟩ := HZ.out
        have hs3 := Gr.blk hG3 hsg hs
        have ht3 := Gr.blk hG3 htg ht
        have hN3 := G2.of (s := sb) (hGw.trans hG3)
        clear hGw hs ht hG3 HZ
        obtain ⟨s0, s1, s2, s3⟩ := cells4 hs3
        have z1 := blk_free hs3 (k := 1)
        obtain ⟨t0, t1, t2⟩ := cells3 ht3
        obtain ⟨w4, hw4⟩ : ∃ w, w3.setCell ⟨sb, 1, none⟩ (.string (bs x.text)) = w := ⟨_, rfl⟩
        have hs4 : w4.heap[sb]? = some (.cells #[.string (bs ax), .string (bs x.text), .string ⟨#[]⟩, .slice none 0 0] 62) := by
          have h := heap_setCell_same w3 sb 1 _ _ (.string (bs x.text)) hs3
          simp only [List.setIfInBounds_toArray, List.set_cons_zero, List.set_cons_succ] at h
          rw [← hw4]; exact h
        have Nw4 : G2 g sb w3 w4 := by rw [← hw4]; exact G2.setS _ _ _ _ _
        have hP4 : PS g w4 ts en j nst := by rw [← hw4]; exact hP3.setS hsg' _ _
        have ht4 := Nw4.blk (g := g) (s := sb) htg hts ht3
        have k2 := blk_cell ht4 (k := 2) rfl
        have HZ := Lib.hid (And.intro (hN3.trans Nw4) (And.intro hP4 (And.intro hs4 ht4)))
        obtain ⟨y0, y1, y2, y3⟩ := cells4 hs4
        have v1 := blk_free hs4 (k := 1)
        by_cases hpi : x.text = [112, 114, 111, 99, 101, 115, 115, 105, 110, 103, 45, 105, 110, 115, 116, 114, 117, 99, 116, 105, 111, 110]
        · replace hR := (if_pos hpi).symm.trans hR
          have qpi : ((bs x.text).toList == [112, 114, 111, 99, 101, 115, 115, 105, 110, 103, 45, 105, 110, 115, 116, 114, 117, 99, 116, 105, 111, 110]) = true := by rw [bs_toList, beq_iff_eq]; exact hpi
          obtain ⟨w5, hw5⟩ : ∃ w, w4.setCell ⟨sb, 1, none⟩ (.string ⟨#[112, 105]⟩) = w := ⟨_, rfl⟩
          have hs5 : w5.heap[sb]? = some (.cells #[.string (bs ax), .string ⟨#[112, 105]⟩, .string ⟨#[]⟩, .slice none 0 0] 62) := by
            have h := heap_setCell_same w4 sb 1 _ _ (.string ⟨#[112, 105]⟩) hs4
            simp only [List.setIfInBounds_toArray, List.set_cons_zero, List.set_cons_succ] at h
            rw [← hw5]; exact h
          have Nw5 : G2 g sb w4 w5 := by rw [← hw5]; exact G2.setS _ _ _ _ _
          have hP5 : PS g w5 ts en j nst := by rw [← hw5]; exact hP4.setS hsg' _ _
          have HTK := Lib.hid (tok_any g w5 ts en j nst hT hP5)
          have htx2 := tokP_tx hT j
          have hkl2 := kind_lt ts en j
          obtain ⟨y, hy⟩ : ∃ y, tokP ts en j = y := ⟨_, rfl⟩
          rw [hy] at HTK hR htx2 hkl2
          unfold tokV at HTK
          replace HZ := Lib.hid (And.intro ((hN3.trans Nw4).trans Nw5) (And.intro hP5 hs5))
          have HR := Lib.hid hR
          clear hN3 Nw4 Nw5 hP4 hP5 hP3 hs3 hs4 hs5 ht3 ht4 hR hy hpi
          go_wp2_with fail
          refine HTK.out.mono ?_
          rintro e w6 ⟨rfl, hX6⟩
          clear HTK hw4 hw5 s0 s1 s2 s3 t0 t1 t2 k2 y0 y1 y2 y3 v1 z1
          obtain ⟨w7, hw7⟩ : ∃ w, w6.alloc (.cells #[.int .i64 y.kind, .int .i64 y.at', .string (bs y.text)] 111) = w := ⟨_, rfl⟩
          have Ew7 : Ext w6 w7 := by rw [← hw7]; exact (Ext.refl w6).alloc _
          have hbw7 : w7.heap[w6.heap.size]? = some (.cells #[.int .i64 y.kind, .int .i64 y.at', .string (bs y.text)] 111) := by rw [← hw7]; exact Array.getElem?_push_size
          have hN7 := HZ.out.1.trans (G2.of (Gr.of g (hX6.trans Ew7)))
          have hP7 := HZ.out.2.1.ext (hX6.trans Ew7)
          have hs7 := Gr.blk (Gr.of g (hX6.trans Ew7)) hsg HZ.out.2.2
          have hbg := blk_lt HZ.out.2.2
          obtain ⟨tc, htc⟩ : ∃ t, w6.heap.size = t := ⟨_, rfl⟩
          rw [htc] at hbw7
          have hcg : tc ≠ g := by have := hX6.size; omega
          have hcs : tc ≠ sb := by have := hX6.size; omega
          obtain ⟨u0, u1, u2⟩ := cells3 hbw7
          have hlc := blk_lt hbw7
          have c1 := hP7.c1; have f1 := hP7.f1
          have hjl := hP7.hi
          by_cases h7 : y.kind = 7
          · replace HR := Lib.hid ((if_pos h7).symm.trans HR.out)
            have q7 : ((y.kind : Int) == 7) = true := by rw [beq_iff_eq]; omega
            have hjj : j < ts.length := hkl2 (by omega)
            have hjI : (j : Int) ≤ 1000 := by omega
            obtain ⟨w8, hw8⟩ : ∃ w, w7.setCell ⟨g, 1, none⟩ (.int .i64 (j + 1 : Nat)) = w := ⟨_, rfl⟩
            have hw8' : w7.setCell ⟨g, 1, none⟩ (.int .i64 ((j : Int) + 1)) = w8 := hw8
            have hP8 : PS g w8 ts en (j + 1) nst := by rw [← hw8]; exact hP7.set (j + 1) hjj
            have hG8 : Gr g w7 w8 := by rw [← hw8]; exact (Gr.refl g w7).set 1 _
            have hs8 := Gr.blk hG8 hsg hs7
            have hc8 := Gr.blk hG8 hcg hbw7
            obtain ⟨a0, a1, a2, a3⟩ := cells4 hs8
            have v2 := blk_free hs8 (k := 2)
            have d2 := blk_cell hc8 (k := 2) rfl
            obtain ⟨w9, hw9⟩ : ∃ w, w8.setCell ⟨sb, 2, none⟩ (.string (bs y.text)) = w := ⟨_, rfl⟩
            have hs9 : w9.heap[sb]? = some (.cells #[.string (bs ax), .string ⟨#[112, 105]⟩, .string (bs y.text), .slice none 0 0] 62) := by
              have h := heap_setCell_same w8 sb 2 _ _ (.string (bs y.text)) hs8
              simp only [List.setIfInBounds_toArray, List.set_cons_zero, List.set_cons_succ] at h
              rw [← hw9]; exact h
            have Nw9 : G2 g sb w8 w9 := by rw [← hw9]; exact G2.setS _ _ _ _ _
            have hP9 : PS g w9 ts en (j + 1) nst := by rw [← hw9]; exact hP8.setS hsg' _ _
            have HM := Lib.hid (must_any g w9 ts en (j + 1) nst hT hP9 [41])
            replace HZ := Lib.hid (And.intro ((hN7.trans (G2.of hG8)).trans Nw9) hs9)
            clear hN7 hG8 Nw9 hP7 hP8 hP9 hs7 hs8 hc8 hs9 hbw7 hw8 h7 hkl2
            go_wp2_with fail
            refine HM.out.mono ?_
            rintro e w10 ⟨hG10, hV⟩
            clear HM
            have hR := HR.out
            obtain ⟨M, hM⟩ : ∃ M, mustP ts en (j + 1) [41] = M := ⟨_, rfl⟩
            rw [hM] at hV hR
            rcases M with ⟨c, a⟩ | ⟨u, j2⟩
            · obtain rfl := hV
              obtain rfl : _ = R := hR
              exact ⟨rfl, HZ.out.1.trans (G2.of hG10), rfl⟩
            · obtain ⟨v, rfl, rfl, hP10⟩ := hV
              obtain rfl : _ = R := hR
              have hs10 := Gr.blk hG10 hsg HZ.out.2
              have hN10 := HZ.out.1.trans (G2.of hG10)
              have HW := Lib.hid (And.intro hN10 (And.intro hP10 hs10))
              clear hP10 hs10 hN10 hG10 HZ
              go_wp2_with fail
              exact ⟨rfl, _, results_none rfl _ _ _, HW.out.1, rfl, HW.out.2.1, HW.out.2.2, by decide, htx2⟩
          · replace HR := Lib.hid ((if_neg h7).symm.trans HR.out)
            have q7 : ((y.kind : Int) == 7) = false := by rw [beq_eq_false_iff_ne]; omega
            have HM := Lib.hid (must_any g w7 ts en j nst hT hP7 [41])
            replace HZ := Lib.hid (And.intro hN7 hs7)
            clear hN7 hP7 hs7 h7 hkl2
            go_wp2_with fail
            refine HM.out.mono ?_
            rintro e w10 ⟨hG10, hV⟩
            clear HM
            have hR := HR.out
            obtain ⟨M, hM⟩ : ∃ M, mustP ts en j [41] = M := ⟨_, rfl⟩
            rw [hM] at hV hR
            rcases M with ⟨c, a⟩ | ⟨u, j2⟩
            · obtain rfl := hV
              obtain rfl : _ = R := hR
              exact ⟨rfl, HZ.out.1.trans (G2.of hG10), rfl⟩
            · obtain ⟨v, rfl, rfl, hP10⟩ := hV
              obtain rfl : _ = R := hR
              have hs10 := Gr.blk hG10 hsg HZ.out.2
              have hN10 := HZ.out.1.trans (G2.of hG10)
              have HW := Lib.hid (And.intro hN10 (And.intro hP10 hs10))
              clear hP10 hs10 hN10 hG10 HZ
              go_wp2_with fail
              exact ⟨rfl, _, results_none rfl _ _ _, HW.out.1, rfl, HW.out.2.1, HW.out.2.2, by decide, by decide⟩
        · replace hR := (if_neg hpi).symm.trans hR
          have qpi : ((bs x.text).toList == [112, 114, 111, 99, 101, 115, 115, 105, 110, 103, 45, 105, 110, 115, 116, 114, 117, 99, 116, 105, 111, 110]) = false := by rw [bs_toList, beq_eq_false_iff_ne]; exact hpi
          have HM := Lib.hid (must_any g w4 ts en j nst hT hP4 [41])
          have HR := Lib.hid hR
          clear hN3 Nw4 hP4 hP3 hs3 hs4 ht3 ht4 hR hpi
          go_wp2_with fail
          refine HM.out.mono ?_
          rintro e w10 ⟨hG10, hV⟩
          clear HM
          have hR := HR.out
          obtain ⟨M, hM⟩ : ∃ M, mustP ts en j [41] = M := ⟨_, rfl⟩
          rw [hM] at hV hR
          rcases M with ⟨c, a⟩ | ⟨u, j2⟩
          · obtain rfl := hV
            obtain rfl : _ = R := hR
            exact ⟨rfl, HZ.out.1.trans (G2.of hG10), rfl⟩
          · obtain ⟨v, rfl, rfl, hP10⟩ := hV
            obtain rfl : _ = R := hR
            have hs10 := Gr.blk hG10 hsg HZ.out.2.2.1
            have hN10 := HZ.out.1.trans (G2.of hG10)
            have HW := Lib.hid (And.intro hN10 (And.intro hP10 hs10))
            clear hP10 hs10 hN10 hG10 HZ
            go_wp2_with fail
            exact ⟨rfl, _, results_none rfl _ _ _, HW.out.1, rfl, HW.out.2.1, HW.out.2.2, htx, by decide⟩
    · obtain rfl : failP ts en 61 i = R := (if_neg h3).symm.trans HR.out
      have q3 : ((x.kind : Int) == 3) = false := by rw [beq_eq_false_iff_ne]; omega
      have HF := Lib.hid (fail_any g w2 ts en i nst hT HG.out.2.1 61)
      have HZ := Lib.hid HG.out.1
      clear HG h1 h3 hkl
      go_wp2_with fail
      refine HF.out.mono ?_
      rintro e w3 ⟨rfl, hX3⟩
      exact ⟨rfl, G2.of (HZ.out.ext hX3), rfl⟩
end

end Go.Proofs.YtfoclfefjcnllaaGreatDoor

/-
  The parser's step. Helper lemmas; no statement of the seat is proved here.
-/
namespace Go.Proofs.YtfoclfefjcnllaaGreatDoor
open Go.RowKit
set_option maxRecDepth 100000
set_option linter.unusedVariables false
set_option linter.unusedSimpArgs false

theorem stepP_eq (ts : List QT) (en f nest i : Nat) : stepP ts en (f + 1) nest i = match axisP ts en i with
    | .error e => .error e
    | .ok (.inl s, j) => .ok (s, j)
    | .ok (.inr a, j) => match testP ts en j with
      | .error e => .error e
      | .ok ((t, n), k) => match predsP ts en f nest [] k with
        | .error e => .error e
        | .ok (l, m) => .ok (.mk a t n l, m) := by rw [stepP]; rfl
section
variable {g : Nat} {W0 : World} {ts : List QT} {en : Nat}
set_option maxHeartbeats 32000000 in
theorem step_step (HV : PEnv g W0 ts en) (f : Nat) (HPR : KP g W0 ts en (fun nst i => predsP ts en f nst [] i)) : KS g W0 ts en (stepP ts en (f + 1)) := by
  intro W i nst hG hP hn hF
  obtain ⟨R, hR⟩ : ∃ R, stepP ts en (f + 1) nst i = R := ⟨_, rfl⟩
  rw [hR] at hF ⊢
  rw [stepP_eq] at hR
  obtain ⟨A, hA⟩ : ∃ A, axisP ts en i = A := ⟨_, rfl⟩
  rw [hA] at hR
  unfold axisP at hA
  have HF := Lib.hid hF
  have HG0 := Lib.hid hG
  have hlt := hP.lt
  obtain ⟨w1, hw1⟩ : ∃ w, W.alloc (.cells #[.string ⟨#[]⟩, .string ⟨#[]⟩, .string ⟨#[]⟩, .slice none 0 0] 62) = w := ⟨_, rfl⟩
  have Ew1 : Ext W w1 := by rw [← hw1]; exact (Ext.refl W).alloc _
  have hbw1 : w1.heap[W.heap.size]? = some (.cells #[.string ⟨#[]⟩, .string ⟨#[]⟩, .string ⟨#[]⟩, .slice none 0 0] 62) := by rw [← hw1]; exact Array.getElem?_push_size
  obtain ⟨w2, hw2⟩ : ∃ w, w1.alloc (.cells #[.string ⟨#[99, 104, 105, 108, 100]⟩, .string ⟨#[]⟩, .string ⟨#[]⟩, .slice none 0 0] 62) = w := ⟨_, rfl⟩
  have Ew2 : Ext w1 w2 := by rw [← hw2]; exact (Ext.refl w1).alloc _
  have hbw2 : w2.heap[w1.heap.size]? = some (.cells #[.string ⟨#[99, 104, 105, 108, 100]⟩, .string ⟨#[]⟩, .string ⟨#[]⟩, .slice none 0 0] 62) := by rw [← hw2]; exact Array.getElem?_push_size
  have hE2 := Ew1.trans Ew2
  have HC := Lib.hid (tok_any g w2 ts en i nst HV.ok (hP.ext hE2))
  have htx := tokP_tx HV.ok i
  have hkl := kind_lt ts en i
  have hlen := HV.ok.len
  have HT1 := Lib.hid fun w h => take_any g w ts en i nst HV.ok h 6 (by decide) [46]
  have HT2 := Lib.hid fun w h => take_any g w ts en i nst HV.ok h 6 (by decide) [46, 46]
  have HT3 := Lib.hid fun w h => take_any g w ts en i nst HV.ok h 6 (by decide) [64]
  have HFA := Lib.hid fun w h => fail_any g w ts en i nst HV.ok h 61
  have HMU := Lib.hid fun w h => must_any g w ts en (i + 1) nst HV.ok h [58, 58]
  unfold failP at hA
  obtain ⟨x, hx⟩ : ∃ x, tokP ts en i = x := ⟨_, rfl⟩
  obtain ⟨b1, hb1⟩ : ∃ b, isP ts en i 6 [46] = b := ⟨_, rfl⟩
  obtain ⟨b2, hb2⟩ : ∃ b, isP ts en i 6 [46, 46] = b := ⟨_, rfl⟩
  obtain ⟨b3, hb3⟩ : ∃ b, isP ts en i 6 [64] = b := ⟨_, rfl⟩
  rw [hb1] at HT1 hA
  rw [hb2] at HT2 hA
  rw [hb3] at HT3 hA
  rw [hx] at HC hA htx hkl HFA
  unfold tokV at HC
  obtain ⟨rr, hrr⟩ : ∃ r, W.heap.size = r := ⟨_, rfl⟩
  obtain ⟨sb, hsbn⟩ : ∃ r, w1.heap.size = r := ⟨_, rfl⟩
  rw [hrr] at hbw1
  rw [hsbn] at hbw2
  have hl1 := blk_lt hbw1
  have hl2 := blk_lt hbw2
  have hgr : g < rr := by omega
  have hrg : rr ≠ g := by omega
  have hsg' : g < sb := by omega
  have hsg : sb ≠ g := by omega
  have hrne : rr ≠ sb := by omega
  have hrs : W.heap.size ≤ sb := by omega
  have HR := Lib.hid hR
  have HA := Lib.hid hA
  clear hA
  have HZ0 := Lib.hid (And.intro (Gr.of g hE2) (And.intro (hP.ext hE2) (And.intro hbw2 (Gr.blk (Gr.of g Ew2) hrg hbw1))))
  clear hR hF hG hP Ew1 Ew2 hE2 hbw1 hbw2 hx hb1 hb2 hb3
  have HW2 := Lib.hid hw2
  clear hw2
  go_enter Tryz.func129, Tryz.ntmps129
  go_wp2_with fail
  rw [HW2.out]
  refine HC.out.mono ?_
  rintro e w3 ⟨rfl, hX3⟩
  clear HC
  obtain ⟨w4, hw4⟩ : ∃ w, w3.alloc (.cells #[.int .i64 x.kind, .int .i64 x.at', .string (bs x.text)] 111) = w := ⟨_, rfl⟩
  have Ew4 : Ext w3 w4 := by rw [← hw4]; exact (Ext.refl w3).alloc _
  have hbw4 : w4.heap[w3.heap.size]? = some (.cells #[.int .i64 x.kind, .int .i64 x.at', .string (bs x.text)] 111) := by rw [← hw4]; exact Array.getElem?_push_size
  have hE4 := hX3.trans Ew4
  obtain ⟨tb, htb⟩ : ∃ t, w3.heap.size = t := ⟨_, rfl⟩
  rw [htb] at hbw4
  have htg : tb ≠ g := by have := hX3.size; omega
  have HZ4 := Lib.hid (And.intro (HZ0.out.1.ext hE4) (And.intro (HZ0.out.2.1.ext hE4) (And.intro (Gr.blk (Gr.of g hE4) hsg HZ0.out.2.2.1) (And.intro (Gr.blk (Gr.of g hE4) hrg HZ0.out.2.2.2) hbw4))))
  clear HZ0 hX3 Ew4 hE4 hbw4
  go_wp2_with fail
  refine (HT1.out _ HZ4.out.2.1).mono ?_
  rintro e w5 ⟨rfl, hG5, hP5⟩
  clear HT1 hw4 hw1 HW2
  have hZ5 := And.intro (HZ4.out.1.trans hG5) (And.intro hP5 (And.intro (Gr.blk hG5 hsg HZ4.out.2.2.1) (And.intro (Gr.blk hG5 hrg HZ4.out.2.2.2.1) (Gr.blk hG5 htg HZ4.out.2.2.2.2))))
  clear HZ4 hG5 hP5
  cases b1 with
  | true =>
    have HZ := Lib.hid (show Gr g W w5 ∧ PS g w5 ts en (i + 1) nst ∧ w5.heap[sb]? = some (.cells #[.string ⟨#[99, 104, 105, 108, 100]⟩, .string ⟨#[]⟩, .string ⟨#[]⟩, .slice none 0 0] 62) ∧ w5.heap[rr]? = some (.cells #[.string ⟨#[]⟩, .string ⟨#[]⟩, .string ⟨#[]⟩, .slice none 0 0] 62) from ⟨hZ5.1, hZ5.2.1, hZ5.2.2.1, hZ5.2.2.2.1⟩)
    clear hZ5 HT2 HT3 HFA HMU
    obtain rfl : .ok (.inl (St.mk [115, 101, 108, 102] [110, 111, 100, 101] [] []), i + 1) = A := HA.out
    obtain rfl : .ok (St.mk [115, 101, 108, 102] [110, 111, 100, 101] [] [], i + 1) = R := HR.out
    have hr5 := HZ.out.2.2.2
    obtain ⟨r0, r1, r2, r3⟩ := cells4 hr5
    have z0 := blk_free hr5 (k := 0); have z1 := blk_free hr5 (k := 1); have z2 := blk_free hr5 (k := 2); have z3 := blk_free hr5 (k := 3)
    clear hr5
    go_wp2_with fail
    refine fin4 rfl HZ.out.2.2.2 rfl fun W' hG' => ⟨HZ.out.1.new hG' (by rw [← hrr]; exact Nat.le_refl _), _, rfl, ⟨none, 0, rfl, .nil _, by decide, by decide, by decide⟩, HZ.out.2.1.gr hG' hgr⟩
  | false =>
    have HZ5 := Lib.hid (show Gr g W w5 ∧ PS g w5 ts en i nst ∧ w5.heap[sb]? = some (.cells #[.string ⟨#[99, 104, 105, 108, 100]⟩, .string ⟨#[]⟩, .string ⟨#[]⟩, .slice none 0 0] 62) ∧ w5.heap[rr]? = some (.cells #[.string ⟨#[]⟩, .string ⟨#[]⟩, .string ⟨#[]⟩, .slice none 0 0] 62) ∧ w5.heap[tb]? = some (.cells #[.int .i64 x.kind, .int .i64 x.at', .string (bs x.text)] 111) from hZ5)
    clear hZ5
    go_wp2_with fail
    refine (HT2.out _ HZ5.out.2.1).mono ?_
    rintro e w6 ⟨rfl, hG5, hP5⟩
    clear HT2
    have hZ6 := And.intro (HZ5.out.1.trans hG5) (And.intro hP5 (And.intro (Gr.blk hG5 hsg HZ5.out.2.2.1) (And.intro (Gr.blk hG5 hrg HZ5.out.2.2.2.1) (Gr.blk hG5 htg HZ5.out.2.2.2.2))))
    clear HZ5 hG5 hP5
    cases b2 with
    | true =>
      have HZ := Lib.hid (show Gr g W w6 ∧ PS g w6 ts en (i + 1) nst ∧ w6.heap[sb]? = some (.cells #[.string ⟨#[99, 104, 105, 108, 100]⟩, .string ⟨#[]⟩, .string ⟨#[]⟩, .slice none 0 0] 62) ∧ w6.heap[rr]? = some (.cells #[.string ⟨#[]⟩, .string ⟨#[]⟩, .string ⟨#[]⟩, .slice none 0 0] 62) from ⟨hZ6.1, hZ6.2.1, hZ6.2.2.1, hZ6.2.2.2.1⟩)
      clear hZ6 HT3 HFA HMU
      obtain rfl : .ok (.inl (St.mk [112, 97, 114, 101, 110, 116] [110, 111, 100, 101] [] []), i + 1) = A := HA.out
      obtain rfl : .ok (St.mk [112, 97, 114, 101, 110, 116] [110, 111, 100, 101] [] [], i + 1) = R := HR.out
      have hr5 := HZ.out.2.2.2
      obtain ⟨r0, r1, r2, r3⟩ := cells4 hr5
      have z0 := blk_free hr5 (k := 0); have z1 := blk_free hr5 (k := 1); have z2 := blk_free hr5 (k := 2); have z3 := blk_free hr5 (k := 3)
      clear hr5
      go_wp2_with fail
      refine fin4 rfl HZ.out.2.2.2 rfl fun W' hG' => ⟨HZ.out.1.new hG' (by rw [← hrr]; exact Nat.le_refl _), _, rfl, ⟨none, 0, rfl, .nil _, by decide, by decide, by decide⟩, HZ.out.2.1.gr hG' hgr⟩
    | false =>
      have HZ6 := Lib.hid (show Gr g W w6 ∧ PS g w6 ts en i nst ∧ w6.heap[sb]? = some (.cells #[.string ⟨#[99, 104, 105, 108, 100]⟩, .string ⟨#[]⟩, .string ⟨#[]⟩, .slice none 0 0] 62) ∧ w6.heap[rr]? = some (.cells #[.string ⟨#[]⟩, .string ⟨#[]⟩, .string ⟨#[]⟩, .slice none 0 0] 62) ∧ w6.heap[tb]? = some (.cells #[.int .i64 x.kind, .int .i64 x.at', .string (bs x.text)] 111) from hZ6)
      clear hZ6
      go_wp2_with fail
      refine (HT3.out _ HZ6.out.2.1).mono ?_
      rintro e w7 ⟨rfl, hG5, hP5⟩
      clear HT3
      have hZ7 := And.intro (HZ6.out.1.trans hG5) (And.intro hP5 (And.intro (Gr.blk hG5 hsg HZ6.out.2.2.1) (And.intro (Gr.blk hG5 hrg HZ6.out.2.2.2.1) (Gr.blk hG5 htg HZ6.out.2.2.2.2))))
      clear HZ6 hG5 hP5
      cases b3 with
      | true =>
        obtain ⟨s0, s1, s2, s3⟩ := cells4 hZ7.2.2.1
        have sz := blk_free hZ7.2.2.1 (k := 0)
        obtain ⟨wa, hwa⟩ : ∃ w, w7.setCell ⟨sb, 0, none⟩ (.string ⟨#[97, 116, 116, 114, 105, 98, 117, 116, 101]⟩) = w := ⟨_, rfl⟩
        have hGa : Gr sb w7 wa := by rw [← hwa]; exact (Gr.refl sb w7).set 0 _
        have hsa : wa.heap[sb]? = some (.cells #[.string (bs [97, 116, 116, 114, 105, 98, 117, 116, 101]), .string ⟨#[]⟩, .string ⟨#[]⟩, .slice none 0 0] 62) := by
          have h := heap_setCell_same w7 sb 0 _ _ (.string ⟨#[97, 116, 116, 114, 105, 98, 117, 116, 101]⟩) hZ7.2.2.1
          simp only [List.setIfInBounds_toArray, List.set_cons_zero, List.set_cons_succ] at h
          rw [← hwa]; exact h
        have HZ := Lib.hid (show Gr g W wa ∧ PS g wa ts en (i + 1) nst ∧ wa.heap[sb]? = some (.cells #[.string (bs [97, 116, 116, 114, 105, 98, 117, 116, 101]), .string ⟨#[]⟩, .string ⟨#[]⟩, .slice none 0 0] 62) ∧ wa.heap[rr]? = some (.cells #[.string ⟨#[]⟩, .string ⟨#[]⟩, .string ⟨#[]⟩, .slice none 0 0] 62) from ⟨hZ7.1.new hGa hrs, PS.gr hZ7.2.1 hGa hsg', hsa, Gr.blk hGa hrne hZ7.2.2.2.1⟩)
        have hax : ([97, 116, 116, 114, 105, 98, 117, 116, 101] : List UInt8).length ≤ 1000 := by decide
        obtain rfl : .ok (.inr [97, 116, 116, 114, 105, 98, 117, 116, 101], i + 1) = A := HA.out
        replace HR := Lib.hid (show (match testP ts en (i + 1) with | .error e => .error e | .ok ((t, n), k) => match predsP ts en f nst [] k with | .error e => .error e | .ok (l, m) => .ok (St.mk [97, 116, 116, 114, 105, 98, 117, 116, 101] t n l, m)) = R from HR.out)
        clear hZ7 hGa hsa HFA HMU
        have HTE := Lib.hid (test_any HV.ok sb wa (i + 1) nst [97, 116, 116, 114, 105, 98, 117, 116, 101] HZ.out.2.1 hsg' HZ.out.2.2.1)
        obtain ⟨T, hT⟩ : ∃ T, testP ts en (i + 1) = T := ⟨_, rfl⟩
        have hR := HR.out
        rw [hT] at HTE hR
        clear hT HR
        have HR := Lib.hid hR
        clear hR
        go_wp2_with fail
        refine HTE.out.mono ?_
        rintro e wt ⟨hNt, hV⟩
        clear HTE
        have hR := HR.out
        rcases T with ⟨c, a⟩ | ⟨⟨t, n⟩, k⟩
        · obtain rfl := hV
          obtain rfl : _ = R := hR
          exact ⟨rfl, HZ.out.1.g2 hNt hrs, rfl⟩
        · obtain ⟨rfl, hPt, hst, htl, hnl⟩ := hV
          replace hR : (match predsP ts en f nst [] k with | .error e => .error e | .ok (l, m) => .ok (St.mk [97, 116, 116, 114, 105, 98, 117, 116, 101] t n l, m)) = R := hR
          have hnf2 : NoF (predsP ts en f nst [] k) := by
            have h := HF.out
            rw [← hR] at h
            revert h
            cases predsP ts en f nst [] k with
            | error e => exact fun h => h
            | ok x => exact fun _ => trivial
          have hGt := HZ.out.1.g2 hNt hrs
          have hrt := hNt.blk hrg hrne HZ.out.2.2.2
          have HPC := Lib.hid (HPR wt k nst (HG0.out.trans hGt) hPt hn hnf2)
          dsimp only at HPC
          obtain ⟨L, hL⟩ : ∃ L, predsP ts en f nst [] k = L := ⟨_, rfl⟩
          rw [hL] at HPC hR
          have HY := Lib.hid (And.intro hGt (And.intro hst (And.intro hrt (And.intro htl (And.intro hnl hR)))))
          clear hGt hst hrt htl hnl hR HR hNt hPt hnf2 hL HZ
          go_wp2_with fail
          refine HPC.out.mono ?_
          rintro e w8 ⟨hG8, hV⟩
          clear HPC
          obtain ⟨hGt, hst, hrt, htl, hnl, hR⟩ := HY.out
          rcases L with ⟨c, a⟩ | ⟨l, k2⟩
          · obtain rfl := hV
            obtain rfl : _ = R := hR
            exact ⟨rfl, hGt.trans hG8, rfl⟩
          · obtain ⟨v, rfl, ⟨pa, pc, rfl, hrp, hl1⟩, hP8⟩ := hV
            obtain rfl : .ok (St.mk [97, 116, 116, 114, 105, 98, 117, 116, 101] t n l, k2) = R := hR
            have hs8 := Gr.blk hG8 hsg hst
            have hr8 := Gr.blk hG8 hrg hrt
            obtain ⟨w9, hw9⟩ : ∃ w, w8.setCell ⟨sb, 3, none⟩ (.slice pa l.length pc) = w := ⟨_, rfl⟩
            have hG9 : Gr sb w8 w9 := by rw [← hw9]; exact (Gr.refl sb w8).set 3 _
            have hs9 : w9.heap[sb]? = some (.cells #[.string (bs [97, 116, 116, 114, 105, 98, 117, 116, 101]), .string (bs t), .string (bs n), .slice pa l.length pc] 62) := by
              have h := heap_setCell_same w8 sb 3 _ _ (.slice pa l.length pc) hs8
              simp only [List.setIfInBounds_toArray, List.set_cons_zero, List.set_cons_succ] at h
              rw [← hw9]; exact h
            have hr9 := Gr.blk hG9 hrne hr8
            obtain ⟨s0, s1, s2, s3⟩ := cells4 hs9
            obtain ⟨p0, p1, p2, p3⟩ := cells4 hs8
            have pz := blk_free hs8 (k := 3)
            obtain ⟨r0, r1, r2, r3⟩ := cells4 hr9
            have z0 := blk_free hr9 (k := 0); have z1 := blk_free hr9 (k := 1); have z2 := blk_free hr9 (k := 2); have z3 := blk_free hr9 (k := 3)
            have hsz : sb < wt.heap.size := blk_lt hst
            have HW := Lib.hid (And.intro ((hGt.trans hG8).new hG9 hrs) (And.intro hr9 (And.intro (hP8.gr hG9 hsg') (And.intro (hrp.gr (g := sb) (fun b hb => by omega) hG9) (And.intro htl (And.intro hnl (And.intro hGt.size hax)))))))
            clear hGt hst hrt htl hnl hs8 hr8 hs9 hr9 hG9 hG8 hP8 hrp HY
            go_wp2_with fail
            refine fin4 rfl HW.out.2.1 rfl fun W' hG' => ⟨HW.out.1.new hG' (by rw [← hrr]; exact Nat.le_refl _), _, rfl, ⟨pa, pc, rfl, ?_, HW.out.2.2.2.2.2.2.2, HW.out.2.2.2.2.1, HW.out.2.2.2.2.2.1⟩, HW.out.2.2.1.gr hG' hgr⟩
            have hsz2 := HW.out.2.2.2.2.2.2.1
            exact (HW.out.2.2.2.1.gr (g := rr) (fun b hb => by omega) hG').ok fun b hb => by omega
      | false =>
        replace hZ7 : Gr g W w7 ∧ PS g w7 ts en i nst ∧ w7.heap[sb]? = some (.cells #[.string ⟨#[99, 104, 105, 108, 100]⟩, .string ⟨#[]⟩, .string ⟨#[]⟩, .slice none 0 0] 62) ∧ w7.heap[rr]? = some (.cells #[.string ⟨#[]⟩, .string ⟨#[]⟩, .string ⟨#[]⟩, .slice none 0 0] 62) ∧ w7.heap[tb]? = some (.cells #[.int .i64 x.kind, .int .i64 x.at', .string (bs x.text)] 111) := hZ7
        obtain ⟨t0, t1, t2⟩ := cells3 hZ7.2.2.2.2
        by_cases h4 : x.kind = 4
        · have q4 : ((x.kind : Int) == 4) = true := by rw [beq_iff_eq]; omega
          have hil : i < ts.length := hkl (by omega)
          have hA : (if x.kind = 4 then (if axesS.contains x.text = true then (match mustP ts en (i + 1) [58, 58] with | .error e => (.error e : PR (St ⊕ List UInt8)) | .ok (_, j) => .ok (.inr x.text, j)) else .error (61, (x.at' : Int))) else .ok (.inr [99, 104, 105, 108, 100], i)) = A := HA.out
          rw [if_pos h4] at hA
          have HAX := Lib.hid (axis_any x.text w7 (HV.sp w7 (HG0.out.trans hZ7.1)))
          obtain ⟨bx, hbx⟩ : ∃ b, axesS.contains x.text = b := ⟨_, rfl⟩
          rw [hbx] at HAX hA
          replace HA := Lib.hid hA
          have HZ7 := Lib.hid hZ7
          clear hA h4 hkl hbx hZ7
          go_wp2_with fail
          refine HAX.out.mono ?_
          rintro e wx ⟨rfl, hXx⟩
          clear HAX t0 t1 t2
          have hPx := HZ7.out.2.1.ext hXx
          have hsx := Gr.blk (Gr.of g hXx) hsg HZ7.out.2.2.1
          have hrx := Gr.blk (Gr.of g hXx) hrg HZ7.out.2.2.2.1
          have htx7 := Gr.blk (Gr.of g hXx) htg HZ7.out.2.2.2.2
          have hGx := HZ7.out.1.ext hXx
          cases bx with
          | false =>
            obtain rfl : .error (61, (x.at' : Int)) = A := HA.out
            obtain rfl : .error (61, (x.at' : Int)) = R := HR.out
            have HC := Lib.hid (HFA.out wx hPx)
            have HGx := Lib.hid hGx
            clear hPx hsx hrx htx7 hGx hXx HFA HMU HZ7
            go_wp2_with fail
            refine HC.out.mono ?_
            rintro e wf ⟨rfl, hXf⟩
            exact ⟨rfl, HGx.out.ext hXf, rfl⟩
          | true =>
            have c1 := hPx.c1; have f1 := hPx.f1
            have hiI : (i : Int) ≤ 1000 := by omega
            obtain ⟨wn, hwn⟩ : ∃ w, wx.setCell ⟨g, 1, none⟩ (.int .i64 (i + 1 : Nat)) = w := ⟨_, rfl⟩
            have hwn' : wx.setCell ⟨g, 1, none⟩ (.int .i64 ((i : Int) + 1)) = wn := hwn
            have hPn : PS g wn ts en (i + 1) nst := by rw [← hwn]; exact hPx.set (i + 1) hil
            have hGn : Gr g wx wn := by rw [← hwn]; exact (Gr.refl g wx).set 1 _
            have HM := Lib.hid (HMU.out wn hPn)
            have hA : (match mustP ts en (i + 1) [58, 58] with | .error e => (.error e : PR (St ⊕ List UInt8)) | .ok (_, j) => .ok (.inr x.text, j)) = A := HA.out
            obtain ⟨M, hM⟩ : ∃ M, mustP ts en (i + 1) [58, 58] = M := ⟨_, rfl⟩
            rw [hM] at HM hA
            replace HA := Lib.hid hA
            have HN := Lib.hid (And.intro (hGx.trans hGn) (And.intro (Gr.blk hGn hsg hsx) (And.intro (Gr.blk hGn hrg hrx) (Gr.blk hGn htg htx7))))
            clear hPx hsx hrx htx7 hGx hXx HFA HMU HZ7 hPn hGn hA hM hwn
            go_wp2_with fail
            refine HM.out.mono ?_
            rintro e wm ⟨hGm, hV⟩
            clear HM hwn' c1 f1
            rcases M with ⟨c, a⟩ | ⟨u, j⟩
            · obtain rfl := hV
              obtain rfl : .error (c, a) = A := HA.out
              obtain rfl : .error (c, a) = R := HR.out
              exact ⟨rfl, HN.out.1.trans hGm, rfl⟩
            · obtain ⟨v, rfl, rfl, hPm⟩ := hV
              have hsm := Gr.blk hGm hsg HN.out.2.1
              have hrm := Gr.blk hGm hrg HN.out.2.2.1
              have htm := Gr.blk hGm htg HN.out.2.2.2
              obtain ⟨s0, s1, s2, s3⟩ := cells4 hsm
              have sz := blk_free hsm (k := 0)
              have t2 := blk_cell htm (k := 2) rfl
              obtain ⟨wa, hwa⟩ : ∃ w, wm.setCell ⟨sb, 0, none⟩ (.string (bs x.text)) = w := ⟨_, rfl⟩
              have hGa : Gr sb wm wa := by rw [← hwa]; exact (Gr.refl sb wm).set 0 _
              have hsa : wa.heap[sb]? = some (.cells #[.string (bs x.text), .string ⟨#[]⟩, .string ⟨#[]⟩, .slice none 0 0] 62) := by
                have h := heap_setCell_same wm sb 0 _ _ (.string (bs x.text)) hsm
                simp only [List.setIfInBounds_toArray, List.set_cons_zero, List.set_cons_succ] at h
                rw [← hwa]; exact h
              have HZ := Lib.hid (show Gr g W wa ∧ PS g wa ts en j nst ∧ wa.heap[sb]? = some (.cells #[.string (bs x.text), .string ⟨#[]⟩, .string ⟨#[]⟩, .slice none 0 0] 62) ∧ wa.heap[rr]? = some (.cells #[.string ⟨#[]⟩, .string ⟨#[]⟩, .string ⟨#[]⟩, .slice none 0 0] 62) from ⟨(HN.out.1.trans hGm).new hGa hrs, hPm.gr hGa hsg', hsa, Gr.blk hGa hrne hrm⟩)
              have hax := htx
              obtain rfl : .ok (.inr x.text, j) = A := HA.out
              replace HR := Lib.hid (show (match testP ts en j with | .error e => .error e | .ok ((t, n), k) => match predsP ts en f nst [] k with | .error e => .error e | .ok (l, m) => .ok (St.mk x.text t n l, m)) = R from HR.out)
              clear hGa hsa hsm hrm htm hPm hGm HN
              have HTE := Lib.hid (test_any HV.ok sb wa j nst x.text HZ.out.2.1 hsg' HZ.out.2.2.1)
              obtain ⟨T, hT⟩ : ∃ T, testP ts en j = T := ⟨_, rfl⟩
              have hR := HR.out
              rw [hT] at HTE hR
              clear hT HR
              have HR := Lib.hid hR
              clear hR
              go_wp2_with fail
              refine HTE.out.mono ?_
              rintro e wt ⟨hNt, hV⟩
              clear HTE
              have hR := HR.out
              rcases T with ⟨c, a⟩ | ⟨⟨t, n⟩, k⟩
              · obtain rfl := hV
                obtain rfl : _ = R := hR
                exact ⟨rfl, HZ.out.1.g2 hNt hrs, rfl⟩
              · obtain ⟨rfl, hPt, hst, htl, hnl⟩ := hV
                replace hR : (match predsP ts en f nst [] k with | .error e => .error e | .ok (l, m) => .ok (St.mk x.text t n l, m)) = R := hR
                have hnf2 : NoF (predsP ts en f nst [] k) := by
                  have h := HF.out
                  rw [← hR] at h
                  revert h
                  cases predsP ts en f nst [] k with
                  | error e => exact fun h => h
                  | ok x => exact fun _ => trivial
                have hGt := HZ.out.1.g2 hNt hrs
                have hrt := hNt.blk hrg hrne HZ.out.2.2.2
                have HPC := Lib.hid (HPR wt k nst (HG0.out.trans hGt) hPt hn hnf2)
                dsimp only at HPC
                obtain ⟨L, hL⟩ : ∃ L, predsP ts en f nst [] k = L := ⟨_, rfl⟩
                rw [hL] at HPC hR
                have HY := Lib.hid (And.intro hGt (And.intro hst (And.intro hrt (And.intro htl (And.intro hnl hR)))))
                clear hGt hst hrt htl hnl hR HR hNt hPt hnf2 hL HZ
                go_wp2_with fail
                refine HPC.out.mono ?_
                rintro e w8 ⟨hG8, hV⟩
                clear HPC
                obtain ⟨hGt, hst, hrt, htl, hnl, hR⟩ := HY.out
                rcases L with ⟨c, a⟩ | ⟨l, k2⟩
                · obtain rfl := hV
                  obtain rfl : _ = R := hR
                  exact ⟨rfl, hGt.trans hG8, rfl⟩
                · obtain ⟨v, rfl, ⟨pa, pc, rfl, hrp, hl1⟩, hP8⟩ := hV
                  obtain rfl : .ok (St.mk x.text t n l, k2) = R := hR
                  have hs8 := Gr.blk hG8 hsg hst
                  have hr8 := Gr.blk hG8 hrg hrt
                  obtain ⟨w9, hw9⟩ : ∃ w, w8.setCell ⟨sb, 3, none⟩ (.slice pa l.length pc) = w := ⟨_, rfl⟩
                  have hG9 : Gr sb w8 w9 := by rw [← hw9]; exact (Gr.refl sb w8).set 3 _
                  have hs9 : w9.heap[sb]? = some (.cells #[.string (bs x.text), .string (bs t), .string (bs n), .slice pa l.length pc] 62) := by
                    have h := heap_setCell_same w8 sb 3 _ _ (.slice pa l.length pc) hs8
                    simp only [List.setIfInBounds_toArray, List.set_cons_zero, List.set_cons_succ] at h
                    rw [← hw9]; exact h
                  have hr9 := Gr.blk hG9 hrne hr8
                  obtain ⟨s0, s1, s2, s3⟩ := cells4 hs9
                  obtain ⟨p0, p1, p2, p3⟩ := cells4 hs8
                  have pz := blk_free hs8 (k := 3)
                  obtain ⟨r0, r1, r2, r3⟩ := cells4 hr9
                  have z0 := blk_free hr9 (k := 0); have z1 := blk_free hr9 (k := 1); have z2 := blk_free hr9 (k := 2); have z3 := blk_free hr9 (k := 3)
                  have hsz : sb < wt.heap.size := blk_lt hst
                  have HW := Lib.hid (And.intro ((hGt.trans hG8).new hG9 hrs) (And.intro hr9 (And.intro (hP8.gr hG9 hsg') (And.intro (hrp.gr (g := sb) (fun b hb => by omega) hG9) (And.intro htl (And.intro hnl (And.intro hGt.size hax)))))))
                  clear hGt hst hrt htl hnl hs8 hr8 hs9 hr9 hG9 hG8 hP8 hrp HY
                  go_wp2_with fail
                  refine fin4 rfl HW.out.2.1 rfl fun W' hG' => ⟨HW.out.1.new hG' (by rw [← hrr]; exact Nat.le_refl _), _, rfl, ⟨pa, pc, rfl, ?_, HW.out.2.2.2.2.2.2.2, HW.out.2.2.2.2.1, HW.out.2.2.2.2.2.1⟩, HW.out.2.2.1.gr hG' hgr⟩
                  have hsz2 := HW.out.2.2.2.2.2.2.1
                  exact (HW.out.2.2.2.1.gr (g := rr) (fun b hb => by omega) hG').ok fun b hb => by omega
        · have q4 : ((x.kind : Int) == 4) = false := by rw [beq_eq_false_iff_ne]; omega
          have hA : (if x.kind = 4 then (if axesS.contains x.text = true then (match mustP ts en (i + 1) [58, 58] with | .error e => (.error e : PR (St ⊕ List UInt8)) | .ok (_, j) => .ok (.inr x.text, j)) else .error (61, (x.at' : Int))) else .ok (.inr [99, 104, 105, 108, 100], i)) = A := HA.out
          rw [if_neg h4] at hA
          subst hA
          have HZ := Lib.hid (show Gr g W w7 ∧ PS g w7 ts en i nst ∧ w7.heap[sb]? = some (.cells #[.string (bs [99, 104, 105, 108, 100]), .string ⟨#[]⟩, .string ⟨#[]⟩, .slice none 0 0] 62) ∧ w7.heap[rr]? = some (.cells #[.string ⟨#[]⟩, .string ⟨#[]⟩, .string ⟨#[]⟩, .slice none 0 0] 62) from ⟨hZ7.1, hZ7.2.1, hZ7.2.2.1, hZ7.2.2.2.1⟩)
          have hax : ([99, 104, 105, 108, 100] : List UInt8).length ≤ 1000 := by decide
          replace HR := Lib.hid (show (match testP ts en i with | .error e => .error e | .ok ((t, n), k) => match predsP ts en f nst [] k with | .error e => .error e | .ok (l, m) => .ok (St.mk [99, 104, 105, 108, 100] t n l, m)) = R from HR.out)
          clear hZ7 HFA HMU h4
          have HTE := Lib.hid (test_any HV.ok sb w7 i nst [99, 104, 105, 108, 100] HZ.out.2.1 hsg' HZ.out.2.2.1)
          obtain ⟨T, hT⟩ : ∃ T, testP ts en i = T := ⟨_, rfl⟩
          have hR := HR.out
          rw [hT] at HTE hR
          clear hT HR
          have HR := Lib.hid hR
          clear hR
          go_wp2_with fail
          refine HTE.out.mono ?_
          rintro e wt ⟨hNt, hV⟩
          clear HTE
          have hR := HR.out
          rcases T with ⟨c, a⟩ | ⟨⟨t, n⟩, k⟩
          · obtain rfl := hV
            obtain rfl : _ = R := hR
            exact ⟨rfl, HZ.out.1.g2 hNt hrs, rfl⟩
          · obtain ⟨rfl, hPt, hst, htl, hnl⟩ := hV
            replace hR : (match predsP ts en f nst [] k with | .error e => .error e | .ok (l, m) => .ok (St.mk [99, 104, 105, 108, 100] t n l, m)) = R := hR
            have hnf2 : NoF (predsP ts en f nst [] k) := by
              have h := HF.out
              rw [← hR] at h
              revert h
              cases predsP ts en f nst [] k with
              | error e => exact fun h => h
              | ok x => exact fun _ => trivial
            have hGt := HZ.out.1.g2 hNt hrs
            have hrt := hNt.blk hrg hrne HZ.out.2.2.2
            have HPC := Lib.hid (HPR wt k nst (HG0.out.trans hGt) hPt hn hnf2)
            dsimp only at HPC
            obtain ⟨L, hL⟩ : ∃ L, predsP ts en f nst [] k = L := ⟨_, rfl⟩
            rw [hL] at HPC hR
            have HY := Lib.hid (And.intro hGt (And.intro hst (And.intro hrt (And.intro htl (And.intro hnl hR)))))
            clear hGt hst hrt htl hnl hR HR hNt hPt hnf2 hL HZ
            go_wp2_with fail
            refine HPC.out.mono ?_
            rintro e w8 ⟨hG8, hV⟩
            clear HPC
            obtain ⟨hGt, hst, hrt, htl, hnl, hR⟩ := HY.out
            rcases L with ⟨c, a⟩ | ⟨l, k2⟩
            · obtain rfl := hV
              obtain rfl : _ = R := hR
              exact ⟨rfl, hGt.trans hG8, rfl⟩
            · obtain ⟨v, rfl, ⟨pa, pc, rfl, hrp, hl1⟩, hP8⟩ := hV
              obtain rfl : .ok (St.mk [99, 104, 105, 108, 100] t n l, k2) = R := hR
              have hs8 := Gr.blk hG8 hsg hst
              have hr8 := Gr.blk hG8 hrg hrt
              obtain ⟨w9, hw9⟩ : ∃ w, w8.setCell ⟨sb, 3, none⟩ (.slice pa l.length pc) = w := ⟨_, rfl⟩
              have hG9 : Gr sb w8 w9 := by rw [← hw9]; exact (Gr.refl sb w8).set 3 _
              have hs9 : w9.heap[sb]? = some (.cells #[.string (bs [99, 104, 105, 108, 100]), .string (bs t), .string (bs n), .slice pa l.length pc] 62) := by
                have h := heap_setCell_same w8 sb 3 _ _ (.slice pa l.length pc) hs8
                simp only [List.setIfInBounds_toArray, List.set_cons_zero, List.set_cons_succ] at h
                rw [← hw9]; exact h
              have hr9 := Gr.blk hG9 hrne hr8
              obtain ⟨s0, s1, s2, s3⟩ := cells4 hs9
              obtain ⟨p0, p1, p2, p3⟩ := cells4 hs8
              have pz := blk_free hs8 (k := 3)
              obtain ⟨r0, r1, r2, r3⟩ := cells4 hr9
              have z0 := blk_free hr9 (k := 0); have z1 := blk_free hr9 (k := 1); have z2 := blk_free hr9 (k := 2); have z3 := blk_free hr9 (k := 3)
              have hsz : sb < wt.heap.size := blk_lt hst
              have HW := Lib.hid (And.intro ((hGt.trans hG8).new hG9 hrs) (And.intro hr9 (And.intro (hP8.gr hG9 hsg') (And.intro (hrp.gr (g := sb) (fun b hb => by omega) hG9) (And.intro htl (And.intro hnl (And.intro hGt.size hax)))))))
              clear hGt hst hrt htl hnl hs8 hr8 hs9 hr9 hG9 hG8 hP8 hrp HY
              go_wp2_with fail
              refine fin4 rfl HW.out.2.1 rfl fun W' hG' => ⟨HW.out.1.new hG' (by rw [← hrr]; exact Nat.le_refl _), _, rfl, ⟨pa, pc, rfl, ?_, HW.out.2.2.2.2.2.2.2, HW.out.2.2.2.2.1, HW.out.2.2.2.2.2.1⟩, HW.out.2.2.1.gr hG' hgr⟩
              have hsz2 := HW.out.2.2.2.2.2.2.1
              exact (HW.out.2.2.2.1.gr (g := rr) (fun b hb => by omega) hG').ok fun b hb => by omega
end

end Go.Proofs.YtfoclfefjcnllaaGreatDoor
