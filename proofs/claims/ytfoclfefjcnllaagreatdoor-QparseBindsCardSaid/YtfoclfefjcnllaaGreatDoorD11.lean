/-
  A region with a call that may panic; laws of neg. Helper lemmas; no statement of the seat is proved here.
-/
import Derived.Test.YtfoclfefjcnllaaGreatDoorD10
namespace Go.Proofs.YtfoclfefjcnllaaGreatDoor
open Go.RowKit
set_option maxRecDepth 100000
set_option linter.unusedVariables false
set_option linter.unusedSimpArgs false

/-- A block is as it was. -/
def Sk (b : Nat) (a w : World) : Prop := w.heap[b]? = a.heap[b]?
theorem Sk.begin (b : Nat) (w : World) : Sk b w (World.drew w) := rfl
theorem Sk.ext {b : Nat} {a w w' : World} (h : Sk b a w) (k : Ext w w') (hb : b < w.heap.size) : Sk b a w' := (Below.block k b hb).trans h
theorem Sk.cell {b o : Nat} {a w : World} {v : Value} (h : Sk b a w) (_ : True) (hc : a.cell? ⟨b, o, none⟩ = some v) : w.cell? ⟨b, o, none⟩ = some v := (World.cell?_of_block (a := ⟨b, o, none⟩) h).trans hc
theorem Sk.gr {g b : Nat} {a w w' : World} (h : Sk b a w) (k : Gr g w w') (hb : b < w.heap.size) (hg : b ≠ g) : Sk b a w' := (k.block b hb fun e => hg (Option.some.inj e)).trans h
section
variable {P : Program} {ops : Array Oper} {Q : Exit → Act → World → Prop} {S : World → Prop} {fuel : Nat} {listed : Array Bool} {a : Act} {w : World}
/-- As rg_call, of a function that may leave by a panic. -/
theorem rg_callp (i : Nat) (d : Option Tmp) (f : FuncId) (vals : Array Value) {oi : Oper} (hi : ops[i]? = some oi) (hd : oi.dst = d) (hr : Region.ready .any ops listed = [i]) (hw : Region.wanted oi (yielded ops a.tmps) = true)
    (hrun : ∀ w', (execOp a.eval oi).run P w' = .ok (.enter f vals) w')
    (hc : Calls P f vals w fun e w' => (∃ v, e = .returned v ∧ S w' ∧ wpAnyH P .any ops Q S fuel (listed.setIfInBounds i true) (a.put d v) w') ∨ ∃ ch, e = .panicked ch ∧ Q (.panic ch) a w') : wpAnyH P .any ops Q S (fuel + 1) listed a w := by
  refine wpAnyH_all hr (by simp) fun j hj => ?_
  obtain rfl : j = i := by simpa using hj
  unfold wpOp
  simp only [hi, hw, if_true]
  refine Or.inl ?_
  unfold Oper.wp
  rw [hrun w, Oper.upon_enter]
  refine hc.mono fun e w' h => ?_
  rcases h with ⟨v, rfl, h1, h2⟩ | ⟨ch, rfl, h⟩
  · dsimp only
    rw [hd]
    exact ⟨h1, h2⟩
  · exact h
end
theorem store_ex {W : World} {b : Nat} {c0 c1 c2 c3 c4 c5 c6 : Value} (h : W.heap[b]? = some (.cells #[c0, c1, c2, c3, c4, c5, c6] 29)) (o t : ByteArray) (n : Bool) (v : Int) (aa : Option Addr) (al ac : Nat) (ab : Bool) (sa : Option Addr) (sl sc : Nat) :
    (Instr.storeAt 29 (.pointer (some ⟨b, 0, none⟩)) (.agg #[.string o, .string t, .bool n, .int .i64 v, .slice aa al ac, .bool ab, .slice sa sl sc])).run Tryz.prog W = .ok () (stc7 W b (.string o) (.string t) (.bool n) (.int .i64 v) (.slice aa al ac) (.bool ab) (.slice sa sl sc)) := by
  obtain ⟨e0, e1, e2, e3, e4, e5, e6⟩ := cells7 h
  have z0 := blk_free h (k := 0); have z1 := blk_free h (k := 1); have z2 := blk_free h (k := 2); have z3 := blk_free h (k := 3); have z4 := blk_free h (k := 4); have z5 := blk_free h (k := 5); have z6 := blk_free h (k := 6)
  unfold stc7
  go_simp
theorem minusP_ge (ts : List QT) (en f i : Nat) (h : ts.length ≤ i) : minusP ts en f i = 0 := by
  cases f with
  | zero => rfl
  | succ f =>
    rw [minusP, if_neg]
    intro hc
    have := isP_lt ts en i 5 _ (by decide) hc
    omega
theorem minusP_le (ts : List QT) (en : Nat) : ∀ f i : Nat, i ≤ ts.length → i + minusP ts en f i ≤ ts.length
  | 0, i, h => by rw [minusP]; exact h
  | f + 1, i, h => by
    rw [minusP]
    split
    · rename_i hc
      have h1 := isP_lt ts en i 5 _ (by decide) hc
      have := minusP_le ts en f (i + 1) h1
      omega
    · exact h
theorem negP_eq (ts : List QT) (en f nest i : Nat) : negP ts en (f + 1) nest i = match pathP ts en f nest (i + minusP ts en ts.length i) with
    | .error e => .error e
    | .ok (e, j) => match unionP ts en f nest e j with
      | .error e => .error e
      | .ok (e, k) => .ok (wrapNeg (minusP ts en ts.length i) e, k) := by rw [negP]; rfl
theorem unionP_eq (ts : List QT) (en f nest : Nat) (e : Ex) (i : Nat) : unionP ts en (f + 1) nest e i = if isP ts en i 5 [124] then
      match pathP ts en f nest (i + 1) with
      | .error e => .error e
      | .ok (r, j) => unionP ts en f nest (exP [124] [e, r]) j
    else .ok (e, i) := by rw [unionP]; rfl

end Go.Proofs.YtfoclfefjcnllaaGreatDoor

/-
  The parser's neg. Helper lemmas; no statement of the seat is proved here.
-/
namespace Go.Proofs.YtfoclfefjcnllaaGreatDoor
open Go.RowKit
set_option maxRecDepth 100000
set_option linter.unusedVariables false
set_option linter.unusedSimpArgs false

section
variable {g : Nat} {W0 : World} {ts : List QT} {en : Nat}
set_option maxHeartbeats 32000000 in
theorem neg_step (HV : PEnv g W0 ts en) (f : Nat) (HPA : ∀ k, k ≤ f → KE g W0 ts en 93 (pathP ts en k)) : KE g W0 ts en 72 (negP ts en (f + 1)) := by
  intro W i nst hG hP hn hF
  obtain ⟨R, hR⟩ : ∃ R, negP ts en (f + 1) nst i = R := ⟨_, rfl⟩
  rw [hR] at hF ⊢
  rw [negP_eq] at hR
  have HF := Lib.hid hF
  have HG0 := Lib.hid hG
  have hlt := hP.lt
  have hlen := HV.ok.len
  have hml := minusP_le ts en ts.length i hP.hi
  obtain ⟨w1, hw1⟩ : ∃ w, W.alloc (.cells #[.string ⟨#[]⟩, .string ⟨#[]⟩, .bool false, .int .i64 0, .slice none 0 0, .bool false, .slice none 0 0] 29) = w := ⟨_, rfl⟩
  have Ew1 : Ext W w1 := by rw [← hw1]; exact (Ext.refl W).alloc _
  have hbw1 : w1.heap[W.heap.size]? = some (.cells #[.string ⟨#[]⟩, .string ⟨#[]⟩, .bool false, .int .i64 0, .slice none 0 0, .bool false, .slice none 0 0] 29) := by rw [← hw1]; exact Array.getElem?_push_size

  obtain ⟨rr, hrr⟩ : ∃ r, W.heap.size = r := ⟨_, rfl⟩
  rw [hrr] at hbw1
  have hl1 := blk_lt hbw1
  have hrg : rr ≠ g := by omega
  have hgr : g < rr := by omega
  obtain ⟨N, hN⟩ : ∃ N, minusP ts en ts.length i = N := ⟨_, rfl⟩
  rw [hN] at hR hml
  have HT := Lib.hid fun w j h => take_any g w ts en j nst HV.ok h 5 (by decide) [45]
  have HT2 := Lib.hid fun w j h => take_any g w ts en j nst HV.ok h 5 (by decide) [124]
  have HR := Lib.hid hR
  have HS0 : Hid (Gr g W w1 ∧ PS g w1 ts en i nst ∧ w1.heap[rr]? = some (.cells #[.string ⟨#[]⟩, .string ⟨#[]⟩, .bool false, .int .i64 0, .slice none 0 0, .bool false, .slice none 0 0] 29) ∧ i = i + 0 ∧ ∃ f', ts.length ≤ f' + i ∧ 0 + minusP ts en f' i = N) := Lib.hid ⟨Gr.of g Ew1, hP.ext Ew1, hbw1, rfl, ts.length, Nat.le_add_right _ _, by rw [Nat.zero_add]; exact hN⟩
  clear hR hF hG hP Ew1 hbw1 hN HV
  go_enter Tryz.func72, Tryz.ntmps72
  go_wp2_with fail
  go_loopw [3] (fun t wr => ∃ m j : Nat, t = .int .i64 m ∧ j ≤ ts.length ∧ Hid (Gr g W wr ∧ PS g wr ts en j nst ∧ wr.heap[rr]? = some (.cells #[.string ⟨#[]⟩, .string ⟨#[]⟩, .bool false, .int .i64 0, .slice none 0 0, .bool false, .slice none 0 0] 29) ∧ j = i + m ∧ ∃ f', ts.length ≤ f' + j ∧ m + minusP ts en f' j = N)) (fun t _ => downQ ts.length t)
  case atStart => exact ⟨0, i, rfl, by omega, HS0⟩
  case round =>
    clear HS0 hw1
    obtain ⟨m, j, rfl, hj, HS⟩ := hrel
    obtain ⟨hGw, hPw, hrw, hjm, f', hf', hmN⟩ := HS.out
    have HC := Lib.hid (HT.out wr j hPw)
    obtain ⟨b, hb⟩ : ∃ b, isP ts en j 5 [45] = b := ⟨_, rfl⟩
    rw [hb] at HC
    have hlb : b = true → j < ts.length := fun h => isP_lt ts en j 5 _ (by decide) (hb.trans h)
    have hN2 : if b = true then ∃ f2, f' = f2 + 1 ∧ m + (1 + minusP ts en f2 (j + 1)) = N else m = N := by
      cases f' with
      | zero =>
        rw [minusP_ge ts en 0 j (by omega)] at hmN
        cases b with
        | true => have := hlb rfl; omega
        | false => exact hmN
      | succ f2 =>
        rw [minusP, hb] at hmN
        cases b with
        | true => exact ⟨f2, rfl, hmN⟩
        | false => exact hmN
    have HY := Lib.hid (And.intro hGw (And.intro hrw (And.intro hjm (And.intro hf' (And.intro hN2 hlb)))))
    clear hGw hPw hrw hf' hmN HS hb hN2 hlb
    go_wp2_with fail
    refine HC.out.mono ?_
    rintro e w2 ⟨rfl, hG2, hP2⟩
    clear HC
    obtain ⟨hGw, hrw, hjm, hf', hN2, hlb⟩ := HY.out
    cases b with
    | true =>
      obtain ⟨f2, rfl, hm2⟩ := hN2
      have hjl := hlb rfl
      have hmI : (m : Int) ≤ 1000 := by omega
      have HN : Hid (Gr g W w2 ∧ PS g w2 ts en (j + 1) nst ∧ w2.heap[rr]? = some (.cells #[.string ⟨#[]⟩, .string ⟨#[]⟩, .bool false, .int .i64 0, .slice none 0 0, .bool false, .slice none 0 0] 29) ∧ j + 1 = i + (m + 1) ∧ ∃ f', ts.length ≤ f' + (j + 1) ∧ (m + 1) + minusP ts en f' (j + 1) = N) := Lib.hid ⟨hGw.trans hG2, hP2, Gr.blk hG2 hrg hrw, by omega, f2, by omega, by omega⟩
      clear hGw hrw hf' hG2 hP2 HY hm2 hlb
      go_wp2_with fail
      go_roundw
      case rel => exact ⟨m + 1, j + 1, by go_num, hjl, HN⟩
      case measure => simp only [downQ]; omega
    | false =>
      obtain rfl : m = N := hN2
      obtain rfl : j = i + m := hjm
      have hnf1 : NoF (pathP ts en f nst (i + m)) := by
        have h := HF.out
        rw [← HR.out] at h
        revert h
        cases pathP ts en f nst (i + m) with
        | error e => exact fun h => h
        | ok x => exact fun _ => trivial
      have hGw2 := hGw.trans hG2
      have HC := Lib.hid (HPA f (Nat.le_refl _) w2 (i + m) nst (HG0.out.trans hGw2) hP2 hn hnf1)
      have hR := HR.out
      obtain ⟨X0, hX0⟩ : ∃ X, pathP ts en f nst (i + m) = X := ⟨_, rfl⟩
      rw [hX0] at HC hR
      have HY2 := Lib.hid (And.intro hGw2 (And.intro (Gr.blk hG2 hrg hrw) hR))
      clear hGw hrw hf' hG2 hP2 HY hlb hnf1 hGw2 hR hX0 HR HT
      go_wp2_with fail
      refine HC.out.mono ?_
      rintro e w3 ⟨hG3, hV⟩
      clear HC
      obtain ⟨hGw2, hrw2, hR⟩ := HY2.out
      rcases X0 with ⟨c, a⟩ | ⟨x0, j0⟩
      · obtain rfl := hV
        obtain rfl : _ = R := hR
        exact ⟨rfl, hGw2.trans hG3, rfl⟩
      · obtain ⟨v, rfl, hx0, hP3⟩ := hV
        obtain ⟨aa, ac, ad, ae, rfl, hxw⟩ := XW.of hx0
        clear hx0
        obtain ⟨w4, hw4⟩ : ∃ w, w3.alloc (.cells #[.string (bs x0.op), .string (bs x0.text), .bool x0.nan, .int .i64 x0.val, .slice aa x0.args.length ac, .bool x0.abs, .slice ad x0.steps.length ae] 29) = w := ⟨_, rfl⟩
        have Ew4 : Ext w3 w4 := by rw [← hw4]; exact (Ext.refl w3).alloc _
        have hbw4 : w4.heap[w3.heap.size]? = some (.cells #[.string (bs x0.op), .string (bs x0.text), .bool x0.nan, .int .i64 x0.val, .slice aa x0.args.length ac, .bool x0.abs, .slice ad x0.steps.length ae] 29) := by rw [← hw4]; exact Array.getElem?_push_size

        obtain ⟨eb, heb⟩ : ∃ r, w3.heap.size = r := ⟨_, rfl⟩
        rw [heb] at hbw4
        have hrw3 := Gr.blk hG3 hrg hrw2
        have hl3 := blk_lt hrw3
        have heg : eb ≠ g := by have := hP3.lt; omega
        have hge : g < eb := by have := hP3.lt; omega
        have hre : rr ≠ eb := by omega
        have hs2 := blk_lt hrw2
        have hrs : rr < eb := by omega
        have hxw4 : XW w4 (fun b => rr < b ∧ b ≠ eb) x0 aa ac ad ae := by
          refine XW.ext (XW.ok (W := w3) (p := fun b => w2.heap.size ≤ b ∧ b < w3.heap.size) ⟨hxw.ra.lt, hxw.rs.lt, hxw.ho, hxw.ht⟩ fun b hb => ⟨by omega, by omega⟩) Ew4
        have hR2 : (match unionP ts en f nst x0 j0 with | .error e => .error e | .ok (e, k) => .ok (wrapNeg m e, k)) = R := hR
        obtain ⟨U, hU⟩ : ∃ U, unionP ts en f nst x0 j0 = U := ⟨_, rfl⟩
        rw [hU] at hR2
        have HR := Lib.hid hR2
        have hj0 := hP3.hi
        have HS2 : Hid (Gr g W w4 ∧ Gr g W0 w4 ∧ PS g w4 ts en j0 nst ∧ w4.heap[eb]? = some (.cells #[.string (bs x0.op), .string (bs x0.text), .bool x0.nan, .int .i64 x0.val, .slice aa x0.args.length ac, .bool x0.abs, .slice ad x0.steps.length ae] 29) ∧ w4.heap[rr]? = some (.cells #[.string ⟨#[]⟩, .string ⟨#[]⟩, .bool false, .int .i64 0, .slice none 0 0, .bool false, .slice none 0 0] 29) ∧ XW w4 (fun b => rr < b ∧ b ≠ eb) x0 aa ac ad ae ∧ ∃ f', f' ≤ f ∧ unionP ts en f' nst x0 j0 = U) :=
          Lib.hid ⟨(hGw2.trans hG3).ext Ew4, HG0.out.trans ((hGw2.trans hG3).ext Ew4), hP3.ext Ew4, hbw4, Gr.blk (Gr.of g Ew4) hrg hrw3, hxw4, f, Nat.le_refl _, hU⟩
        clear hGw2 hG3 hrw2 hR hxw hbw4 hrw3 hxw4 hR2 Ew4 HY2 hU hP3
        go_wp2_with fail
        go_loopw [] (fun wr => ∃ (x : Ex) (j : Nat) (aa : Option Addr) (ac : Nat) (ad : Option Addr) (ae : Nat), j ≤ ts.length ∧ Hid (Gr g W wr ∧ Gr g W0 wr ∧ PS g wr ts en j nst ∧ wr.heap[eb]? = some (.cells #[.string (bs x.op), .string (bs x.text), .bool x.nan, .int .i64 x.val, .slice aa x.args.length ac, .bool x.abs, .slice ad x.steps.length ae] 29) ∧ wr.heap[rr]? = some (.cells #[.string ⟨#[]⟩, .string ⟨#[]⟩, .bool false, .int .i64 0, .slice none 0 0, .bool false, .slice none 0 0] 29) ∧ XW wr (fun b => rr < b ∧ b ≠ eb) x aa ac ad ae ∧ ∃ f', f' ≤ f ∧ unionP ts en f' nst x j = U)) (fun wr => atQ ts.length wr g)
        case atStart => exact ⟨x0, j0, aa, ac, ad, ae, hj0, HS2⟩
        case round =>
          clear HS2 hw4 hj0
          obtain ⟨x, j, aa, ac, ad, ae, hj, HS⟩ := hrel
          obtain ⟨hGw, hG0, hP, hb, hrb, hx, f', hf', hU⟩ := HS.out
          have hM : atQ ts.length wr g = ts.length - j := by simp [atQ, hP.c1]
          have hnf : ∃ k, f' = k + 1 := by
            cases f' with
            | zero =>
              have h := HF.out
              rw [← HR.out, ← hU, unionP] at h
              exact absurd rfl h
            | succ k => exact ⟨k, rfl⟩
          obtain ⟨k, rfl⟩ := hnf
          rw [unionP_eq] at hU
          have HC := Lib.hid (HT2.out wr j hP)
          obtain ⟨b, hbb⟩ : ∃ b, isP ts en j 5 [124] = b := ⟨_, rfl⟩
          rw [hbb] at HC hU
          have HY := Lib.hid (And.intro hGw (And.intro hG0 (And.intro hb (And.intro hrb (And.intro hx (And.intro hf' (And.intro hU hM)))))))
          clear hGw hG0 hP hb hrb hx hf' hU hM HS hbb
          go_wp2_with fail
          refine HC.out.mono ?_
          rintro e wz ⟨rfl, hGz, hPz⟩
          clear HC
          obtain ⟨hGw, hG0, hb, hrb, hx, hf', hU, hM⟩ := HY.out
          have hbz := Gr.blk hGz heg hb
          have hrz := Gr.blk hGz hrg hrb
          have hxz := hx.gr hGz (fun b hb => by omega)
          have hGwz := hGw.trans hGz
          have hG0z := hG0.trans hGz
          clear HY
          cases b with
          | true =>
            have hU2 : (match pathP ts en k nst (j + 1) with | .error e => .error e | .ok (r, j) => unionP ts en k nst (exP [124] [x, r]) j) = U := hU
            have hmn : Mn (j + 1) (pathP ts en k nst (j + 1)) := (mono_all ts en k).2.2.2.2.2.1 nst (j + 1)
            have hnf1 : NoF (pathP ts en k nst (j + 1)) := by
              have h := HF.out
              rw [← HR.out, ← hU2] at h
              revert h
              cases pathP ts en k nst (j + 1) with
              | error e => exact fun h => h
              | ok x => exact fun _ => trivial
            have HC := Lib.hid (HPA k (by omega) (World.drew wz) (j + 1) nst (hG0z.ext (Ext.refl wz).drew) (PS.ext hPz (Ext.refl wz).drew) hn hnf1)
            obtain ⟨X, hX⟩ : ∃ X, pathP ts en k nst (j + 1) = X := ⟨_, rfl⟩
            rw [hX] at HC hU2 hmn
            obtain ⟨e0, e1, e2, e3, e4, e5, e6⟩ := cells7 hbz
            have HRB := Lib.hid hrz
            have HY := Lib.hid (And.intro hGwz (And.intro hG0z (And.intro hxz (And.intro hbz (And.intro hU2 (And.intro (show k < f by omega) (And.intro hM hmn)))))))
            clear hGw hG0 hb hrb hx hf' hU hM hbz hrz hxz hGwz hG0z hGz hPz hU2 hmn hnf1 hX
            go_wp2_with fail
            refine rg_cut (S := Sk eb wz) 5 (by kernel_rfl) (by kernel_rfl) (by kernel_rfl) (by kernel_rfl) (Sk.begin _ _) ?_
            have hSp : Sk eb wz (World.drew wz) := (Sk.begin _ _)
            refine rg_take 0 (some 13) (.agg #[.string (bs x.op), .string (bs x.text), .bool x.nan, .int .i64 x.val, .slice aa x.args.length ac, .bool x.abs, .slice ad x.steps.length ae]) (oi := { dst := some 13, op := Go.Op.load 29 (Go.Operand.tmp 4), type := 29, pos := "qparse.go:125", after := #[], guard := none }) rfl rfl (by kernel_rfl) (by kernel_rfl) (by kernel_rfl) (fun _ _ _ h => h) hSp (by rfl) (fun w' hs => by (have h0 := hs.cell trivial e0; have h1 := hs.cell trivial e1; have h2 := hs.cell trivial e2; have h3 := hs.cell trivial e3; have h4 := hs.cell trivial e4; have h5 := hs.cell trivial e5; have h6 := hs.cell trivial e6; go_simp)) ?_
            simp only [Act.put, List.setIfInBounds_toArray, List.set_cons_zero, List.set_cons_succ]
            refine rg_take 1 (some 14) (.pointer (some ⟨g, 0, none⟩)) (oi := { dst := some 14, op := Go.Op.move (Go.Operand.tmp 0), type := 45, pos := "qparse.go:125", after := #[], guard := none }) rfl rfl (by kernel_rfl) (by kernel_rfl) (by kernel_rfl) (fun _ _ _ h => h) hSp (by rfl) (fun w' hs => by rfl) ?_
            simp only [Act.put, List.setIfInBounds_toArray, List.set_cons_zero, List.set_cons_succ]
            refine rg_callp 2 (some 15) 93 #[.pointer (some ⟨g, 0, none⟩)] (oi := { dst := some 15, op := Go.Op.call { callee := Go.Callee.value (Go.Operand.func 93), args := #[Go.Operand.tmp 14], argTypes := #[45] }, type := 29, pos := "qparse.go:125", after := #[{ on := 1, ground := Go.Ground.data }], guard := none }) rfl rfl (by kernel_rfl) (by rfl) (fun w' => by first | rfl | go_simp) ?_
            refine (HC.out).mono ?_
            rintro e w6 ⟨hG6, hV⟩
            clear HC
            obtain ⟨hGw, hG0, hx, hb, hR, hkf, hM, hmn⟩ := HY.out
            rcases X with ⟨c, a⟩ | ⟨y, j2⟩
            · obtain rfl := hV
              obtain rfl : .error (c, a) = U := hR
              obtain rfl : .error (c, a) = R := HR.out
              exact .inr ⟨_, rfl, ⟨rfl, (hGw.ext (Ext.refl wz).drew).trans hG6, rfl⟩⟩
            obtain ⟨v, rfl, hy, hP6⟩ := hV
            obtain ⟨ba, bc, bd, be, rfl, hyw⟩ := XW.of hy
            clear hy
            have hG6' : Gr g wz w6 := (Gr.of g (Ext.refl wz).drew).trans hG6
            have hb6 := Gr.blk hG6' heg hb
            have hlb6 := blk_lt hb6
            have hSk6 : Sk eb wz w6 := Sk.gr (Sk.begin eb wz) hG6 (blk_lt (Gr.blk (Gr.of g (Ext.refl wz).drew) heg hb)) heg
            refine .inl ⟨_, rfl, hSk6, ?_⟩
            simp only [Act.put, List.setIfInBounds_toArray, List.set_cons_zero, List.set_cons_succ]
            refine rg_one 3 (by kernel_rfl) ?_
            refine tk_new 3 (some 16) (.cells #[.string (bs x.op), .string (bs x.text), .bool x.nan, .int .i64 x.val, .slice aa x.args.length ac, .bool x.abs, .slice ad x.steps.length ae, .string (bs y.op), .string (bs y.text), .bool y.nan, .int .i64 y.val, .slice ba y.args.length bc, .bool y.abs, .slice bd y.steps.length be] 29) (fun n => .slice (some ⟨n, 0, none⟩) 2 2) (oi := { dst := some 16, op := Go.Op.buildSlice 26 2 #[(0, Go.Operand.tmp 13), (1, Go.Operand.tmp 15)], type := 26, pos := "qparse.go:125", after := #[{ on := 0, ground := Go.Ground.data }, { on := 2, ground := Go.Ground.data }], guard := none }) rfl rfl (by rfl) (by first | rfl | go_simp) ?_
            intro gb xb egb hxb hzxb hC
            subst egb
            have hSb : Sk eb wz xb := hSk6.ext hxb hlb6
            refine ⟨hSb, ?_⟩
            simp only [Act.put, List.setIfInBounds_toArray, List.set_cons_zero, List.set_cons_succ]
            refine rg_take 4 (some 17) (.agg #[.string ⟨#[124]⟩, .string ⟨#[]⟩, .bool false, .int .i64 0, .slice (some ⟨w6.heap.size, 0, none⟩) 2 2, .bool false, .slice none 0 0]) (oi := { dst := some 17, op := Go.Op.build 29 #[(0, Go.Operand.const (Go.Value.string { data := #[124] })), (3, Go.Operand.tmp 16)], type := 29, pos := "qparse.go:125", after := #[{ on := 3, ground := Go.Ground.data }], guard := none }) rfl rfl (by kernel_rfl) (by kernel_rfl) (by kernel_rfl) (fun _ _ _ h => h) hSb (by rfl) (fun w' hs => by first | rfl | go_simp) ?_
            simp only [Act.put, List.setIfInBounds_toArray, List.set_cons_zero, List.set_cons_succ]
            have hbx := Gr.blk (Gr.of g hxb) heg hb6
            refine rg_done (by kernel_rfl) ?_
            refine rg_go 1 #[true, true, true, true, true, false] (by kernel_rfl) (by kernel_rfl) fun m => ?_
            refine rg_write 5 none (stc7 xb eb (.string ⟨#[124]⟩) (.string ⟨#[]⟩) (.bool false) (.int .i64 0) (.slice (some ⟨w6.heap.size, 0, none⟩) 2 2) (.bool false) (.slice none 0 0)) (oi := { dst := none, op := Go.Op.store 29 (Go.Operand.tmp 4) (Go.Operand.tmp 17), type := 0, pos := "qparse.go:125", after := #[{ on := 4, ground := Go.Ground.data }, { on := 2, ground := Go.Ground.chain }, { on := 0, ground := Go.Ground.phase }, { on := 1, ground := Go.Ground.phase }, { on := 2, ground := Go.Ground.phase }, { on := 3, ground := Go.Ground.phase }, { on := 4, ground := Go.Ground.phase }], guard := none }) rfl rfl (by kernel_rfl) (by rfl) (exec_store rfl (store_ex hbx ⟨#[124]⟩ ⟨#[]⟩ false 0 (some ⟨w6.heap.size, 0, none⟩) 2 2 false none 0 0)) trivial ?_
            simp only [Act.put, List.setIfInBounds_toArray, List.set_cons_zero, List.set_cons_succ]
            refine rg_done (by kernel_rfl) ?_
            dsimp only at hR
            have hjj : j + 1 ≤ j2 := hmn
            obtain ⟨hb8, hG8, hs8⟩ := stc7_blk (v0 := .string ⟨#[124]⟩) (v1 := .string ⟨#[]⟩) (v2 := .bool false) (v3 := .int .i64 0) (v4 := .slice (some ⟨w6.heap.size, 0, none⟩) 2 2) (v5 := .bool false) (v6 := .slice none 0 0) hbx
            obtain ⟨w8, hw8⟩ : ∃ w, stc7 xb eb (.string ⟨#[124]⟩) (.string ⟨#[]⟩) (.bool false) (.int .i64 0) (.slice (some ⟨w6.heap.size, 0, none⟩) 2 2) (.bool false) (.slice none 0 0) = w := ⟨_, rfl⟩
            rw [hw8] at hb8 hG8 hs8 ⊢
            have hsw := hG6'.size
            have hdz : eb < (World.drew wz).heap.size := blk_lt (w := wz) hb
            have hsb := hxb.size
            have hx6 := (hx.gr hG6' (fun b hb => by omega))
            have hxy : XW w8 (fun b => rr < b ∧ b ≠ eb) (exP [124] [x, y]) (some ⟨w6.heap.size, 0, none⟩) 2 none 0 := by
              refine ⟨Rep.gr ?_ (fun b hb => hb.2) hG8, .nil _, (show 1 ≤ 1000 by decide), Nat.zero_le _⟩
              have h := rep_new (w := w6) (W := xb) (p := fun b => rr < b ∧ b ≠ eb) (q := fun b => rr < b ∧ b ≠ eb) (us := (exU x (.slice aa x.args.length ac) (.slice ad x.steps.length ae)) ++ (exU y (.slice ba y.args.length bc) (.slice bd y.steps.length be))) (es := exC x ++ exC y) (n := 2) (z := 7) hC hxb (hx6.reps.app (hyw.reps.ok fun b hb => by omega)) (fun b hb => hb) ⟨by omega, by omega⟩ rfl (by decide)
              rw [show exC x ++ exC y = [x, y].flatMap exC by simp] at h
              exact h
            have hP8 := (hP6.ext hxb).gr hG8 hge
            have hGw8 := ((hGw.trans hG6').ext hxb).new hG8 (by omega)
            have hj2 := hP8.hi
            have HN : Hid (Gr g W w8 ∧ Gr g W0 w8 ∧ PS g w8 ts en j2 nst ∧ w8.heap[eb]? = some (.cells #[.string (bs (exP [124] [x, y]).op), .string (bs (exP [124] [x, y]).text), .bool (exP [124] [x, y]).nan, .int .i64 (exP [124] [x, y]).val, .slice (some ⟨w6.heap.size, 0, none⟩) (exP [124] [x, y]).args.length 2, .bool (exP [124] [x, y]).abs, .slice none (exP [124] [x, y]).steps.length 0] 29) ∧ w8.heap[rr]? = some (.cells #[.string ⟨#[]⟩, .string ⟨#[]⟩, .bool false, .int .i64 0, .slice none 0 0, .bool false, .slice none 0 0] 29) ∧ XW w8 (fun b => rr < b ∧ b ≠ eb) (exP [124] [x, y]) (some ⟨w6.heap.size, 0, none⟩) 2 none 0 ∧ ∃ f', f' ≤ f ∧ unionP ts en f' nst (exP [124] [x, y]) j2 = U) :=
              Lib.hid ⟨hGw8, HG0.out.trans hGw8, hP8, hb8, Gr.blk hG8 hre (Gr.blk (Gr.of g hxb) hrg (Gr.blk hG6' hrg HRB.out)), hxy, k, by omega, hR⟩
            have HM := Lib.hid (show atQ ts.length w8 g < atQ ts.length wr g by rw [hM]; simp only [atQ, hP8.c1]; simp; omega)
            clear hb8 hG8 hs8 hxy hP8 hGw8 hx6 hC hbx hSb hSk6 hb6 hG6 hG6' hyw hP6 hx hb hR hM hGw hG0

            go_wp2_with fail
            go_roundw
            case rel => exact ⟨exP [124] [x, y], j2, _, _, _, _, hj2, HN⟩
            case measure => exact HM.out
          | false =>
            obtain rfl : .ok (x, j) = U := hU
            obtain rfl : .ok (wrapNeg m x, j) = R := HR.out
            have hmI : (m : Int) ≤ 1000 := by omega
            have HS3 : Hid (Gr g W wz ∧ PS g wz ts en j nst ∧ wz.heap[eb]? = some (.cells #[.string (bs x.op), .string (bs x.text), .bool x.nan, .int .i64 x.val, .slice aa x.args.length ac, .bool x.abs, .slice ad x.steps.length ae] 29) ∧ wz.heap[rr]? = some (.cells #[.string ⟨#[]⟩, .string ⟨#[]⟩, .bool false, .int .i64 0, .slice none 0 0, .bool false, .slice none 0 0] 29) ∧ XW wz (fun b => rr < b ∧ b ≠ eb) x aa ac ad ae ∧ wrapNeg (m - 0) x = wrapNeg m x) := Lib.hid ⟨hGwz, hPz, hbz, hrz, hxz, rfl⟩
            obtain ⟨E, hE⟩ : ∃ E, wrapNeg m x = E := ⟨_, rfl⟩
            rw [hE] at HS3
            have HE := Lib.hid hE
            clear hGw hG0 hb hrb hx hf' hM hbz hrz hxz hGwz hG0z hGz hPz HR
            go_wp2_with fail
            go_loopw [19] (fun t wr => ∃ (k : Nat) (x : Ex) (aa : Option Addr) (ac : Nat) (ad : Option Addr) (ae : Nat), t = .int .i64 k ∧ k ≤ m ∧ Hid (Gr g W wr ∧ PS g wr ts en j nst ∧ wr.heap[eb]? = some (.cells #[.string (bs x.op), .string (bs x.text), .bool x.nan, .int .i64 x.val, .slice aa x.args.length ac, .bool x.abs, .slice ad x.steps.length ae] 29) ∧ wr.heap[rr]? = some (.cells #[.string ⟨#[]⟩, .string ⟨#[]⟩, .bool false, .int .i64 0, .slice none 0 0, .bool false, .slice none 0 0] 29) ∧ XW wr (fun b => rr < b ∧ b ≠ eb) x aa ac ad ae ∧ wrapNeg (m - k) x = E)) (fun t _ => downQ m t)
            case atStart => exact ⟨0, x, _, _, _, _, rfl, Nat.zero_le _, HS3⟩
            case round =>
              clear HS3 hE
              obtain ⟨k, x, aa, ac, ad, ae, rfl, hk, HS⟩ := hrel
              obtain ⟨hGw, hP, hb, hrb, hx, hW⟩ := HS.out
              by_cases hkm : k < m
              · have hkI : (k : Int) < (m : Int) := by omega
                obtain ⟨wa, hwa⟩ : ∃ w, wr.alloc (.cells #[.string (bs x.op), .string (bs x.text), .bool x.nan, .int .i64 x.val, .slice aa x.args.length ac, .bool x.abs, .slice ad x.steps.length ae] 29) = w := ⟨_, rfl⟩
                have Ewa : Ext wr wa := by rw [← hwa]; exact (Ext.refl wr).alloc _
                have hbwa : wa.heap[wr.heap.size]? = some (.cells #[.string (bs x.op), .string (bs x.text), .bool x.nan, .int .i64 x.val, .slice aa x.args.length ac, .bool x.abs, .slice ad x.steps.length ae] 29) := by rw [← hwa]; exact Array.getElem?_push_size

                have hba := Gr.blk (Gr.of g Ewa) heg hb
                have hra := Gr.blk (Gr.of g Ewa) hrg hrb
                obtain ⟨e0, e1, e2, e3, e4, e5, e6⟩ := cells7 hb
                obtain ⟨a0, a1, a2, a3, a4, a5, a6⟩ := cells7 hba
                have z0 := blk_free hba (k := 0); have z1 := blk_free hba (k := 1); have z2 := blk_free hba (k := 2); have z3 := blk_free hba (k := 3); have z4 := blk_free hba (k := 4); have z5 := blk_free hba (k := 5); have z6 := blk_free hba (k := 6)
                obtain ⟨hb8, hG8, hs8⟩ := stc7_blk (v0 := .string ⟨#[110, 101, 103]⟩) (v1 := .string ⟨#[]⟩) (v2 := .bool false) (v3 := .int .i64 0) (v4 := .slice (some ⟨wr.heap.size, 0, none⟩) 1 1) (v5 := .bool false) (v6 := .slice none 0 0) hba
                obtain ⟨w8, hw8⟩ : ∃ w, stc7 wa eb (.string ⟨#[110, 101, 103]⟩) (.string ⟨#[]⟩) (.bool false) (.int .i64 0) (.slice (some ⟨wr.heap.size, 0, none⟩) 1 1) (.bool false) (.slice none 0 0) = w := ⟨_, rfl⟩
                rw [hw8] at hb8 hG8 hs8
                unfold stc7 at hw8
                have hsr := blk_lt hb
                have hxy : XW w8 (fun b => rr < b ∧ b ≠ eb) (exP [110, 101, 103] [x]) (some ⟨wr.heap.size, 0, none⟩) 1 none 0 := by
                  refine ⟨Rep.gr ?_ (fun b hb => hb.2) hG8, .nil _, (show 3 ≤ 1000 by decide), Nat.zero_le _⟩
                  have h := rep_new (w := wr) (W := wa) (p := fun b => rr < b ∧ b ≠ eb) (q := fun b => rr < b ∧ b ≠ eb) (us := (exU x (.slice aa x.args.length ac) (.slice ad x.steps.length ae))) (es := exC x) (n := 1) (z := 7) hbwa Ewa hx.reps (fun b hb => hb) ⟨by omega, by omega⟩ rfl (by decide)
                  rw [show exC x = [x].flatMap exC by simp] at h
                  exact h
                have HN : Hid (Gr g W w8 ∧ PS g w8 ts en j nst ∧ w8.heap[eb]? = some (.cells #[.string (bs (exP [110, 101, 103] [x]).op), .string (bs (exP [110, 101, 103] [x]).text), .bool (exP [110, 101, 103] [x]).nan, .int .i64 (exP [110, 101, 103] [x]).val, .slice (some ⟨wr.heap.size, 0, none⟩) (exP [110, 101, 103] [x]).args.length 1, .bool (exP [110, 101, 103] [x]).abs, .slice none (exP [110, 101, 103] [x]).steps.length 0] 29) ∧ w8.heap[rr]? = some (.cells #[.string ⟨#[]⟩, .string ⟨#[]⟩, .bool false, .int .i64 0, .slice none 0 0, .bool false, .slice none 0 0] 29) ∧ XW w8 (fun b => rr < b ∧ b ≠ eb) (exP [110, 101, 103] [x]) (some ⟨wr.heap.size, 0, none⟩) 1 none 0 ∧ wrapNeg (m - (k + 1)) (exP [110, 101, 103] [x]) = E) :=
                  Lib.hid ⟨(hGw.ext Ewa).new hG8 (by omega), (hP.ext Ewa).gr hG8 hge, hb8, Gr.blk hG8 hre hra, hxy, by
                    rw [← hW, show m - k = (m - (k + 1)) + 1 by omega]; rfl⟩
                clear hGw hP hb hrb hx hW HS Ewa hbwa hba hra hb8 hG8 hs8 hxy
                go_wp2_with fail
                go_roundw
                case rel => exact ⟨k + 1, exP [110, 101, 103] [x], _, _, _, _, by go_num, by omega, HN⟩
                case measure => simp only [downQ]; omega
              · have hkI : ¬ (k : Int) < (m : Int) := by omega
                obtain rfl : x = E := by rw [← hW, show m - k = 0 by omega]; rfl
                obtain ⟨e0, e1, e2, e3, e4, e5, e6⟩ := cells7 hb
                obtain ⟨r0, r1, r2, r3, r4, r5, r6⟩ := cells7 hrb
                have z0 := blk_free hrb (k := 0); have z1 := blk_free hrb (k := 1); have z2 := blk_free hrb (k := 2); have z3 := blk_free hrb (k := 3); have z4 := blk_free hrb (k := 4); have z5 := blk_free hrb (k := 5); have z6 := blk_free hrb (k := 6)
                have hre' : eb ≠ rr := fun e => hre e.symm
                have HW := Lib.hid (And.intro hGw (And.intro hrb (And.intro hx hP)))
                clear hGw hP hb hrb hx hW HS
                go_wp2_with fail
                refine fin7 rfl HW.out.2.1 rfl fun W' hG' => ⟨HW.out.1.new hG' (by rw [← hrr]; exact Nat.le_refl _), _, rfl, ?_, HW.out.2.2.2.gr hG' hgr⟩
                show XV W' _ _ _
                rw [HE.out]
                exact (((HW.out.2.2.1).gr hG' (fun b hb => by omega)).ok (q := fun b => rr ≤ b) (fun b hb => by omega)).xv
end

end Go.Proofs.YtfoclfefjcnllaaGreatDoor

/-
  levels. Helper lemmas; no statement of the seat is proved here.
-/
namespace Go.Proofs.YtfoclfefjcnllaaGreatDoor
open Go.RowKit
set_option maxRecDepth 100000
set_option linter.unusedVariables false
set_option linter.unusedSimpArgs false

theorem rep_strs2 {w W : World} {l : List Bytes} {us : List Value} {e : TypeId} {n : Nat} (hus : us = l.map fun t => Value.string (bs t)) (hn : n = l.length) (hW : W.heap[w.heap.size]? = some (.cells us.toArray e (0, 0))) (hE : Ext w W) (hb : ∀ t ∈ l, t.length ≤ 1000) (hl : l.length ≤ 1000) : Rep W (fun b => b = w.heap.size) (.slice (some ⟨w.heap.size, 0, none⟩) n n) (strsD l) := by
  subst hus hn
  refine rep_new (p := fun _ => False) hW hE ?_ (fun b h => h.elim) rfl (by simp) (by omega)
  clear hl hW
  induction l with
  | nil => exact Reps.nil _ _
  | cons t l ih => exact Reps.cons (Rep.string _ _ (bs t) (by rw [bs_size]; have := hb t (List.mem_cons_self ..); omega)) (ih fun u hu => hb u (List.mem_cons_of_mem _ hu))
set_option maxHeartbeats 8000000 in
theorem levels_any (W : World) : Calls Tryz.prog 71 #[] W fun e w' => Ext W w' ∧ ∃ b0 b1 b2 b3 b4 b5 : Nat, e = .returned (.agg #[.slice (some ⟨b0, 0, none⟩) 1 1, .slice (some ⟨b1, 0, none⟩) 1 1, .slice (some ⟨b2, 0, none⟩) 2 2, .slice (some ⟨b3, 0, none⟩) 4 4, .slice (some ⟨b4, 0, none⟩) 2 2, .slice (some ⟨b5, 0, none⟩) 3 3]) ∧ (W.heap.size < b0 ∧ W.heap.size < b1 ∧ W.heap.size < b2 ∧ W.heap.size < b3 ∧ W.heap.size < b4 ∧ W.heap.size < b5) ∧ Rep w' (fun b => b = b0) (.slice (some ⟨b0, 0, none⟩) 1 1) (strsD [[111, 114]]) ∧ Rep w' (fun b => b = b1) (.slice (some ⟨b1, 0, none⟩) 1 1) (strsD [[97, 110, 100]]) ∧ Rep w' (fun b => b = b2) (.slice (some ⟨b2, 0, none⟩) 2 2) (strsD [[61], [33, 61]]) ∧ Rep w' (fun b => b = b3) (.slice (some ⟨b3, 0, none⟩) 4 4) (strsD [[60], [60, 61], [62], [62, 61]]) ∧ Rep w' (fun b => b = b4) (.slice (some ⟨b4, 0, none⟩) 2 2) (strsD [[43], [45]]) ∧ Rep w' (fun b => b = b5) (.slice (some ⟨b5, 0, none⟩) 3 3) (strsD [[42], [100, 105, 118], [109, 111, 100]]) := by
  obtain ⟨w0, hw0⟩ : ∃ w, W.alloc (.cells #[.slice (some ⟨W.heap.size + 1, 0, none⟩) 1 1, .slice (some ⟨W.heap.size + 1 + 1, 0, none⟩) 1 1, .slice (some ⟨W.heap.size + 1 + 1 + 1, 0, none⟩) 2 2, .slice (some ⟨W.heap.size + 1 + 1 + 1 + 1, 0, none⟩) 4 4, .slice (some ⟨W.heap.size + 1 + 1 + 1 + 1 + 1, 0, none⟩) 2 2, .slice (some ⟨W.heap.size + 1 + 1 + 1 + 1 + 1 + 1, 0, none⟩) 3 3] 142) = w := ⟨_, rfl⟩
  have hE0 : Ext W w0 := by rw [← hw0]; exact (Ext.refl W).alloc _
  have hz0 : w0.heap.size = W.heap.size + 1 := by rw [← hw0]; simp
  have hb0 : w0.heap[W.heap.size]? = some (.cells #[.slice (some ⟨W.heap.size + 1, 0, none⟩) 1 1, .slice (some ⟨W.heap.size + 1 + 1, 0, none⟩) 1 1, .slice (some ⟨W.heap.size + 1 + 1 + 1, 0, none⟩) 2 2, .slice (some ⟨W.heap.size + 1 + 1 + 1 + 1, 0, none⟩) 4 4, .slice (some ⟨W.heap.size + 1 + 1 + 1 + 1 + 1, 0, none⟩) 2 2, .slice (some ⟨W.heap.size + 1 + 1 + 1 + 1 + 1 + 1, 0, none⟩) 3 3] 142) := by rw [← hw0]; exact Array.getElem?_push_size
  obtain ⟨w1, hw1⟩ : ∃ w, w0.alloc (.cells #[.string ⟨#[111, 114]⟩] 9) = w := ⟨_, rfl⟩
  have hE1 : Ext w0 w1 := by rw [← hw1]; exact (Ext.refl w0).alloc _
  have hz1 : w1.heap.size = w0.heap.size + 1 := by rw [← hw1]; simp
  have hr0 : Rep w1 (fun b => b = w0.heap.size) (.slice (some ⟨w0.heap.size, 0, none⟩) 1 1) (strsD [[111, 114]]) := rep_strs2 (us := [[111, 114]].map fun t => Value.string (bs t)) rfl rfl (by rw [← hw1]; exact Array.getElem?_push_size) hE1 (by decide) (by decide)
  obtain ⟨w2, hw2⟩ : ∃ w, w1.alloc (.cells #[.string ⟨#[97, 110, 100]⟩] 9) = w := ⟨_, rfl⟩
  have hE2 : Ext w1 w2 := by rw [← hw2]; exact (Ext.refl w1).alloc _
  have hz2 : w2.heap.size = w1.heap.size + 1 := by rw [← hw2]; simp
  have hr1 : Rep w2 (fun b => b = w1.heap.size) (.slice (some ⟨w1.heap.size, 0, none⟩) 1 1) (strsD [[97, 110, 100]]) := rep_strs2 (us := [[97, 110, 100]].map fun t => Value.string (bs t)) rfl rfl (by rw [← hw2]; exact Array.getElem?_push_size) hE2 (by decide) (by decide)
  obtain ⟨w3, hw3⟩ : ∃ w, w2.alloc (.cells #[.string ⟨#[61]⟩, .string ⟨#[33, 61]⟩] 9) = w := ⟨_, rfl⟩
  have hE3 : Ext w2 w3 := by rw [← hw3]; exact (Ext.refl w2).alloc _
  have hz3 : w3.heap.size = w2.heap.size + 1 := by rw [← hw3]; simp
  have hr2 : Rep w3 (fun b => b = w2.heap.size) (.slice (some ⟨w2.heap.size, 0, none⟩) 2 2) (strsD [[61], [33, 61]]) := rep_strs2 (us := [[61], [33, 61]].map fun t => Value.string (bs t)) rfl rfl (by rw [← hw3]; exact Array.getElem?_push_size) hE3 (by decide) (by decide)
  obtain ⟨w4, hw4⟩ : ∃ w, w3.alloc (.cells #[.string ⟨#[60]⟩, .string ⟨#[60, 61]⟩, .string ⟨#[62]⟩, .string ⟨#[62, 61]⟩] 9) = w := ⟨_, rfl⟩
  have hE4 : Ext w3 w4 := by rw [← hw4]; exact (Ext.refl w3).alloc _
  have hz4 : w4.heap.size = w3.heap.size + 1 := by rw [← hw4]; simp
  have hr3 : Rep w4 (fun b => b = w3.heap.size) (.slice (some ⟨w3.heap.size, 0, none⟩) 4 4) (strsD [[60], [60, 61], [62], [62, 61]]) := rep_strs2 (us := [[60], [60, 61], [62], [62, 61]].map fun t => Value.string (bs t)) rfl rfl (by rw [← hw4]; exact Array.getElem?_push_size) hE4 (by decide) (by decide)
  obtain ⟨w5, hw5⟩ : ∃ w, w4.alloc (.cells #[.string ⟨#[43]⟩, .string ⟨#[45]⟩] 9) = w := ⟨_, rfl⟩
  have hE5 : Ext w4 w5 := by rw [← hw5]; exact (Ext.refl w4).alloc _
  have hz5 : w5.heap.size = w4.heap.size + 1 := by rw [← hw5]; simp
  have hr4 : Rep w5 (fun b => b = w4.heap.size) (.slice (some ⟨w4.heap.size, 0, none⟩) 2 2) (strsD [[43], [45]]) := rep_strs2 (us := [[43], [45]].map fun t => Value.string (bs t)) rfl rfl (by rw [← hw5]; exact Array.getElem?_push_size) hE5 (by decide) (by decide)
  obtain ⟨w6, hw6⟩ : ∃ w, w5.alloc (.cells #[.string ⟨#[42]⟩, .string ⟨#[100, 105, 118]⟩, .string ⟨#[109, 111, 100]⟩] 9) = w := ⟨_, rfl⟩
  have hE6 : Ext w5 w6 := by rw [← hw6]; exact (Ext.refl w5).alloc _
  have hz6 : w6.heap.size = w5.heap.size + 1 := by rw [← hw6]; simp
  have hr5 : Rep w6 (fun b => b = w5.heap.size) (.slice (some ⟨w5.heap.size, 0, none⟩) 3 3) (strsD [[42], [100, 105, 118], [109, 111, 100]]) := rep_strs2 (us := [[42], [100, 105, 118], [109, 111, 100]].map fun t => Value.string (bs t)) rfl rfl (by rw [← hw6]; exact Array.getElem?_push_size) hE6 (by decide) (by decide)
  have hEA : Ext w0 w6 := (hE1.trans (hE2.trans (hE3.trans (hE4.trans (hE5.trans hE6)))))
  replace hr0 := hr0.ext ((hE2.trans (hE3.trans (hE4.trans (hE5.trans hE6)))))
  replace hr1 := hr1.ext ((hE3.trans (hE4.trans (hE5.trans hE6))))
  replace hr2 := hr2.ext ((hE4.trans (hE5.trans hE6)))
  replace hr3 := hr3.ext ((hE5.trans hE6))
  replace hr4 := hr4.ext (hE6)
  replace hr5 := hr5.ext (Ext.refl w6)
  have HA := Lib.hid (And.intro (hE0.trans hEA) (Gr.blk (Gr.of (W.heap.size + 100) hEA) (by omega) hb0))
  have HWW := Lib.hid (show (((((((W.alloc (.cells #[.slice (some ⟨W.heap.size + 1, 0, none⟩) 1 1, .slice (some ⟨W.heap.size + 1 + 1, 0, none⟩) 1 1, .slice (some ⟨W.heap.size + 1 + 1 + 1, 0, none⟩) 2 2, .slice (some ⟨W.heap.size + 1 + 1 + 1 + 1, 0, none⟩) 4 4, .slice (some ⟨W.heap.size + 1 + 1 + 1 + 1 + 1, 0, none⟩) 2 2, .slice (some ⟨W.heap.size + 1 + 1 + 1 + 1 + 1 + 1, 0, none⟩) 3 3] 142)).alloc (.cells #[.string ⟨#[111, 114]⟩] 9)).alloc (.cells #[.string ⟨#[97, 110, 100]⟩] 9)).alloc (.cells #[.string ⟨#[61]⟩, .string ⟨#[33, 61]⟩] 9)).alloc (.cells #[.string ⟨#[60]⟩, .string ⟨#[60, 61]⟩, .string ⟨#[62]⟩, .string ⟨#[62, 61]⟩] 9)).alloc (.cells #[.string ⟨#[43]⟩, .string ⟨#[45]⟩] 9)).alloc (.cells #[.string ⟨#[42]⟩, .string ⟨#[100, 105, 118]⟩, .string ⟨#[109, 111, 100]⟩] 9)) = w6 by rw [hw0, hw1, hw2, hw3, hw4, hw5, hw6])
  have HRR := Lib.hid (And.intro hr0 (And.intro hr1 (And.intro hr2 (And.intro hr3 (And.intro hr4 hr5)))))
  have HZZ := Lib.hid (And.intro hz0 (And.intro hz1 (And.intro hz2 (And.intro hz3 (And.intro hz4 hz5)))))
  clear hw0 hw1 hw2 hw3 hw4 hw5 hw6 hE0 hE1 hE2 hE3 hE4 hE5 hE6 hz0 hz1 hz2 hz3 hz4 hz5 hz6 hb0 hr0 hr1 hr2 hr3 hr4 hr5 hEA
  go_enter Tryz.func71, Tryz.ntmps71
  go_wp2_with fail
  rw [HWW.out]
  obtain ⟨z0, z1, z2, z3, z4, z5⟩ := HZZ.out
  obtain ⟨r0, r1, r2, r3, r4, r5⟩ := HRR.out
  refine bodyPost_ret (results_cell_row rfl _ _ W.heap.size 142 _ (0, 0) _ rfl HA.out.2 Tryz.underlying142 rfl (by kernel_rfl)) rfl ⟨HA.out.1, w0.heap.size, w1.heap.size, w2.heap.size, w3.heap.size, w4.heap.size, w5.heap.size, ?_, by omega, r0, r1, r2, r3, r4, r5⟩
  rw [z5, z4, z3, z2, z1, z0]

end Go.Proofs.YtfoclfefjcnllaaGreatDoor
