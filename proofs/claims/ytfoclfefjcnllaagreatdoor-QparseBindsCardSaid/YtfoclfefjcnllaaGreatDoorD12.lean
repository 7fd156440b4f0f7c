/-
  The parser's binary. Helper lemmas; no statement of the seat is proved here.
-/
import Derived.Test.YtfoclfefjcnllaaGreatDoorD11
import Derived.Test.YtfoclfefjcnllaaGreatDoorD9
import Derived.Test.YtfoclfefjcnllaaGreatDoorD7
namespace Go.Proofs.YtfoclfefjcnllaaGreatDoor
open Go.RowKit
set_option maxRecDepth 100000
set_option linter.unusedVariables false
set_option linter.unusedSimpArgs false

theorem binP_eq (ts : List QT) (en f nest lev i : Nat) : binP ts en (f + 1) nest lev i = if 6 ≤ lev then negP ts en f nest i else match binP ts en f nest (lev + 1) i with
    | .error e => .error e
    | .ok (e, j) => binLoop ts en f nest lev e j := by rw [binP]; rfl
theorem binLoop_eq (ts : List QT) (en f nest lev : Nat) (e : Ex) (i : Nat) : binLoop ts en (f + 1) nest lev e i = if (tokP ts en i).kind = 5 ∧ (levelsS.getD lev []).contains (tokP ts en i).text = true then
      match binP ts en f nest (lev + 1) (i + 1) with
      | .error e => .error e
      | .ok (r, j) => binLoop ts en f nest lev (exP (tokP ts en i).text [e, r]) j
    else .ok (e, i) := by rw [binLoop]; rfl
/-- Two blocks are as they were. -/
def Sk2 (b c : Nat) (a w : World) : Prop := Sk b a w ∧ Sk c a w
theorem Sk2.begin (b c : Nat) (w : World) : Sk2 b c w (World.drew w) := ⟨rfl, rfl⟩
theorem Sk2.cell {b c o d : Nat} {a w : World} {v : Value} (h : Sk2 b c a w) (hd : d = b ∨ d = c) (hc : a.cell? ⟨d, o, none⟩ = some v) : w.cell? ⟨d, o, none⟩ = some v := by
  rcases hd with rfl | rfl
  · exact h.1.cell trivial hc
  · exact h.2.cell trivial hc
theorem row_lt {w : World} {c n : Nat} {l : List Bytes} (h : Rep w (fun b => b = c) (.slice (some ⟨c, 0, none⟩) n n) (strsD l)) (hl : 0 < l.length) : c < w.heap.size := by
  obtain ⟨b', o', e', hlt', _⟩ := str_at h 0 hl
  cases e'
  exact hlt'
/-- The row of a level. -/
theorem lev_pick {w w2 : World} {lb b0 b1 b2 b3 b4 b5 lo : Nat} {e : TypeId} (lev : Nat) (hl : lev < 6) (h : w.heap[lb]? = some (.cells #[.slice (some ⟨b0, 0, none⟩) 1 1, .slice (some ⟨b1, 0, none⟩) 1 1, .slice (some ⟨b2, 0, none⟩) 2 2, .slice (some ⟨b3, 0, none⟩) 4 4, .slice (some ⟨b4, 0, none⟩) 2 2, .slice (some ⟨b5, 0, none⟩) 3 3] e)) (hb : lo < b0 ∧ lo < b1 ∧ lo < b2 ∧ lo < b3 ∧ lo < b4 ∧ lo < b5) (hr : Rep w2 (fun b => b = b0) (.slice (some ⟨b0, 0, none⟩) 1 1) (strsD [[111, 114]]) ∧ Rep w2 (fun b => b = b1) (.slice (some ⟨b1, 0, none⟩) 1 1) (strsD [[97, 110, 100]]) ∧ Rep w2 (fun b => b = b2) (.slice (some ⟨b2, 0, none⟩) 2 2) (strsD [[61], [33, 61]]) ∧ Rep w2 (fun b => b = b3) (.slice (some ⟨b3, 0, none⟩) 4 4) (strsD [[60], [60, 61], [62], [62, 61]]) ∧ Rep w2 (fun b => b = b4) (.slice (some ⟨b4, 0, none⟩) 2 2) (strsD [[43], [45]]) ∧ Rep w2 (fun b => b = b5) (.slice (some ⟨b5, 0, none⟩) 3 3) (strsD [[42], [100, 105, 118], [109, 111, 100]])) :
    ∃ bl nl, w.cell? ⟨lb, lev, none⟩ = some (.slice (some ⟨bl, 0, none⟩) nl nl) ∧ (#[.slice (some ⟨b0, 0, none⟩) 1 1, .slice (some ⟨b1, 0, none⟩) 1 1, .slice (some ⟨b2, 0, none⟩) 2 2, .slice (some ⟨b3, 0, none⟩) 4 4, .slice (some ⟨b4, 0, none⟩) 2 2, .slice (some ⟨b5, 0, none⟩) 3 3] : Array Value)[lev]? = some (.slice (some ⟨bl, 0, none⟩) nl nl) ∧ lo < bl ∧ bl < w2.heap.size ∧ Rep w2 (fun b => b = bl) (.slice (some ⟨bl, 0, none⟩) nl nl) (strsD (levelsS.getD lev [])) ∧ 0 < (levelsS.getD lev []).length ∧ (levelsS.getD lev []).length ≤ 1000 := by
  obtain ⟨r0, r1, r2, r3, r4, r5⟩ := hr
  obtain ⟨h0, h1, h2, h3, h4, h5⟩ := hb
  match lev, hl with
  | 0, _ => exact ⟨b0, _, blk_cell h rfl, rfl, h0, row_lt r0 (by decide), r0, by decide, by decide⟩
  | 1, _ => exact ⟨b1, _, blk_cell h rfl, rfl, h1, row_lt r1 (by decide), r1, by decide, by decide⟩
  | 2, _ => exact ⟨b2, _, blk_cell h rfl, rfl, h2, row_lt r2 (by decide), r2, by decide, by decide⟩
  | 3, _ => exact ⟨b3, _, blk_cell h rfl, rfl, h3, row_lt r3 (by decide), r3, by decide, by decide⟩
  | 4, _ => exact ⟨b4, _, blk_cell h rfl, rfl, h4, row_lt r4 (by decide), r4, by decide, by decide⟩
  | 5, _ => exact ⟨b5, _, blk_cell h rfl, rfl, h5, row_lt r5 (by decide), r5, by decide, by decide⟩
section
variable {g : Nat} {W0 : World} {ts : List QT} {en : Nat}
set_option maxHeartbeats 32000000 in
theorem bin_step (HV : PEnv g W0 ts en) (f : Nat) (HN0 : KE g W0 ts en 72 (negP ts en f)) (HB : ∀ k, k ≤ f → KB g W0 ts en (binP ts en k)) : KB g W0 ts en (binP ts en (f + 1)) := by
  intro W i nst lev hlev hG hP hn hF
  obtain ⟨R, hR⟩ : ∃ R, binP ts en (f + 1) nst lev i = R := ⟨_, rfl⟩
  rw [hR] at hF ⊢
  rw [binP_eq] at hR
  have HF := Lib.hid hF
  have HG0 := Lib.hid hG
  have HV0 := Lib.hid HV
  have hlt := hP.lt
  have hlen := HV.ok.len
  have hlevI : (lev : Int) ≤ 6 := by omega
  obtain ⟨w1, hw1⟩ : ∃ w, W.alloc (.cells #[.string ⟨#[]⟩, .string ⟨#[]⟩, .bool false, .int .i64 0, .slice none 0 0, .bool false, .slice none 0 0] 29) = w := ⟨_, rfl⟩
  have Ew1 : Ext W w1 := by rw [← hw1]; exact (Ext.refl W).alloc _
  have hbw1 : w1.heap[W.heap.size]? = some (.cells #[.string ⟨#[]⟩, .string ⟨#[]⟩, .bool false, .int .i64 0, .slice none 0 0, .bool false, .slice none 0 0] 29) := by rw [← hw1]; exact Array.getElem?_push_size

  obtain ⟨rr, hrr⟩ : ∃ r, W.heap.size = r := ⟨_, rfl⟩
  rw [hrr] at hbw1
  have hl1 := blk_lt hbw1
  have hrg : rr ≠ g := by omega
  have hgr : g < rr := by omega
  have HL := Lib.hid (levels_any w1)
  have HR := Lib.hid hR
  have HX := Lib.hid (And.intro hP (And.intro Ew1 hbw1))
  clear hR hF hG hP Ew1 hbw1 HV
  go_enter Tryz.func47, Tryz.ntmps47
  go_wp2_with fail
  refine HL.out.mono ?_
  rintro e w2 ⟨hX2, b0, b1, b2, b3, b4, b5, rfl, hbb, hrp⟩
  clear HL hw1
  obtain ⟨w3, hw3⟩ : ∃ w, w2.alloc (.cells #[.slice (some ⟨b0, 0, none⟩) 1 1, .slice (some ⟨b1, 0, none⟩) 1 1, .slice (some ⟨b2, 0, none⟩) 2 2, .slice (some ⟨b3, 0, none⟩) 4 4, .slice (some ⟨b4, 0, none⟩) 2 2, .slice (some ⟨b5, 0, none⟩) 3 3] 142) = w := ⟨_, rfl⟩
  have Ew3 : Ext w2 w3 := by rw [← hw3]; exact (Ext.refl w2).alloc _
  have hbw3 : w3.heap[w2.heap.size]? = some (.cells #[.slice (some ⟨b0, 0, none⟩) 1 1, .slice (some ⟨b1, 0, none⟩) 1 1, .slice (some ⟨b2, 0, none⟩) 2 2, .slice (some ⟨b3, 0, none⟩) 4 4, .slice (some ⟨b4, 0, none⟩) 2 2, .slice (some ⟨b5, 0, none⟩) 3 3] 142) := by rw [← hw3]; exact Array.getElem?_push_size

  obtain ⟨lb, hlb⟩ : ∃ r, w2.heap.size = r := ⟨_, rfl⟩
  rw [hlb] at hbw3
  have hE3 := HX.out.2.1.trans (hX2.trans Ew3)
  have hP3 := HX.out.1.ext hE3
  have hr3 := Gr.blk (Gr.of g (hX2.trans Ew3)) hrg HX.out.2.2
  have hs12 := hX2.size
  have hlbg : lb ≠ g := by omega
  have hlbr : rr < lb := by omega
  have hltb3 := blk_lt hbw3
  have hGw3 := Gr.of g hE3
  by_cases h6 : lev = 6
  · have q6 : ((lev : Int) == 6) = true := by rw [beq_iff_eq]; omega
    have hR : negP ts en f nst i = R := by have := HR.out; rw [if_pos (by omega)] at this; exact this
    have HC := Lib.hid (HN0 w3 i nst (HG0.out.trans hGw3) hP3 hn (by rw [hR]; exact HF.out))
    rw [hR] at HC
    have HY := Lib.hid (And.intro hGw3 hr3)
    clear hP3 hr3 hGw3 hbw3 Ew3 hX2 hE3 hR h6 hrp hbb HX HR
    go_wp2_with fail
    refine HC.out.mono ?_
    rintro e w4 ⟨hG4, hV⟩
    clear HC hw3
    rcases R with ⟨c, a⟩ | ⟨x, j⟩
    · obtain rfl := hV
      exact ⟨rfl, HY.out.1.trans hG4, rfl⟩
    · obtain ⟨v, rfl, hx, hP4⟩ := hV
      obtain ⟨aa, ac, ad, ae, rfl, hxw⟩ := XW.of hx
      clear hx
      have hr4 := Gr.blk hG4 hrg HY.out.2
      obtain ⟨r0, r1, r2, r3, r4, r5, r6⟩ := cells7 hr4
      have z0 := blk_free hr4 (k := 0); have z1 := blk_free hr4 (k := 1); have z2 := blk_free hr4 (k := 2); have z3 := blk_free hr4 (k := 3); have z4 := blk_free hr4 (k := 4); have z5 := blk_free hr4 (k := 5); have z6 := blk_free hr4 (k := 6)
      have HW := Lib.hid (And.intro (HY.out.1.trans hG4) (And.intro hr4 (And.intro hxw hP4)))
      clear hr4 hxw hP4 hG4 HY
      go_wp2_with fail
      refine fin7 rfl HW.out.2.1 rfl fun W' hG' => ⟨HW.out.1.new hG' (by rw [← hrr]; exact Nat.le_refl _), _, rfl, (((HW.out.2.2.1).gr hG' (fun b hb => by omega)).ok (q := fun b => W.heap.size ≤ b) (fun b hb => by omega)).xv, HW.out.2.2.2.gr hG' hgr⟩
  · have q6 : ((lev : Int) == 6) = false := by rw [beq_eq_false_iff_ne]; omega
    have hl6 : lev < 6 := by omega
    have hl6I : (lev : Int) < 6 := by omega
    have hl0I : (0 : Int) ≤ (lev : Int) := by omega
    have hR := HR.out
    rw [if_neg (by omega)] at hR
    obtain ⟨bl, nl, hlc, hlp, hblo, hblt2, hrl2, hln0, hln⟩ := lev_pick lev hl6 hbw3 hbb hrp
    have hblt : bl < lb := by omega
    have hrl := hrl2.ext Ew3
    obtain ⟨l1, hl1e⟩ : ∃ l1, lev + 1 = l1 := ⟨_, rfl⟩
    have hl1I : (lev : Int) + 1 = (l1 : Int) := by omega
    have hnf1 : NoF (binP ts en f nst (lev + 1) i) := by
      have h := HF.out
      rw [← hR] at h
      revert h
      cases binP ts en f nst (lev + 1) i with
      | error e => exact fun h => h
      | ok x => exact fun _ => trivial
    have HC := Lib.hid (HB f (Nat.le_refl _) w3 i nst (lev + 1) (by omega) (HG0.out.trans hGw3) hP3 hn hnf1)
    obtain ⟨X0, hX0⟩ : ∃ X, binP ts en f nst (lev + 1) i = X := ⟨_, rfl⟩
    rw [hX0] at HC hR
    rw [hl1e] at HC
    obtain ⟨LVC, hLVC⟩ : ∃ c, (#[.slice (some ⟨b0, 0, none⟩) 1 1, .slice (some ⟨b1, 0, none⟩) 1 1, .slice (some ⟨b2, 0, none⟩) 2 2, .slice (some ⟨b3, 0, none⟩) 4 4, .slice (some ⟨b4, 0, none⟩) 2 2, .slice (some ⟨b5, 0, none⟩) 3 3] : Array Value) = c := ⟨_, rfl⟩
    rw [hLVC] at hbw3 hlp
    clear hLVC
    have HY := Lib.hid (And.intro hGw3 (And.intro hr3 (And.intro hbw3 (And.intro hrl hR))))
    clear hP3 hr3 hGw3 hbw3 Ew3 hX2 hE3 hR h6 hrp hbb HX HR hlc hrl hnf1 hX0
    go_wp2_with fail
    refine HC.out.mono ?_
    rintro e w4 ⟨hG4, hV⟩
    clear HC hw3
    obtain ⟨hGw3, hr3, hl3, hrl3, hR⟩ := HY.out
    rcases X0 with ⟨c, a⟩ | ⟨x0, j0⟩
    · obtain rfl := hV
      obtain rfl : _ = R := hR
      exact ⟨rfl, hGw3.trans hG4, rfl⟩
    · obtain ⟨v, rfl, hx, hP4⟩ := hV
      obtain ⟨aa, ac, ad, ae, rfl, hxw⟩ := XW.of hx
      clear hx
      have hU : binLoop ts en f nst lev x0 j0 = R := hR
      obtain ⟨w5, hw5⟩ : ∃ w, w4.alloc (.cells #[.string (bs x0.op), .string (bs x0.text), .bool x0.nan, .int .i64 x0.val, .slice aa x0.args.length ac, .bool x0.abs, .slice ad x0.steps.length ae] 29) = w := ⟨_, rfl⟩
      have Ew5 : Ext w4 w5 := by rw [← hw5]; exact (Ext.refl w4).alloc _
      have hbw5 : w5.heap[w4.heap.size]? = some (.cells #[.string (bs x0.op), .string (bs x0.text), .bool x0.nan, .int .i64 x0.val, .slice aa x0.args.length ac, .bool x0.abs, .slice ad x0.steps.length ae] 29) := by rw [← hw5]; exact Array.getElem?_push_size

      obtain ⟨eb, heb⟩ : ∃ r, w4.heap.size = r := ⟨_, rfl⟩
      rw [heb] at hbw5
      have hs4 := hG4.size
      have hlw3 := blk_lt hl3
      have heg : eb ≠ g := by have := hP4.lt; omega
      have hge : g < eb := by have := hP4.lt; omega
      have hre : rr ≠ eb := by omega
      have hrs : rr < eb := by omega
      have hlbe : lb ≠ eb := by omega
      have hlblt : lb < eb := by omega
      have HTK := Lib.hid (tok_any g w5 ts en j0 nst HV0.out.ok (hP4.ext Ew5))
      unfold tokV at HTK
      have hGw5 := (hGw3.trans hG4).ext Ew5
      have HY5 := Lib.hid (And.intro hGw5 (And.intro (hP4.ext Ew5) (And.intro hbw5 (And.intro (Gr.blk (Gr.of g Ew5) hrg (Gr.blk hG4 hrg hr3)) (And.intro (XW.ext (XW.ok (W := w4) (p := fun b => w3.heap.size ≤ b ∧ b < w4.heap.size) (q := fun b => rr < b ∧ b ≠ eb ∧ b < eb) ⟨hxw.ra.lt, hxw.rs.lt, hxw.ho, hxw.ht⟩ fun b hb => by omega) Ew5) (And.intro (Gr.blk (Gr.of g Ew5) hlbg (Gr.blk hG4 hlbg hl3)) ((hrl3.gr (g := g) (fun b hb => by omega) hG4).ext Ew5)))))))
      obtain ⟨y0, hy0⟩ : ∃ y, tokP ts en j0 = y := ⟨_, rfl⟩
      rw [hy0] at HTK
      clear hGw3 hr3 hl3 hrl3 hR hG4 hP4 hxw Ew5 hbw5 hGw5 HY
      go_wp2_with fail
      refine HTK.out.mono ?_
      rintro e w6 ⟨rfl, hX6⟩
      clear HTK hw5
      obtain ⟨w7, hw7⟩ : ∃ w, w6.alloc (.cells #[.int .i64 y0.kind, .int .i64 y0.at', .string (bs y0.text)] 111) = w := ⟨_, rfl⟩
      have Ew7 : Ext w6 w7 := by rw [← hw7]; exact (Ext.refl w6).alloc _
      have hbw7 : w7.heap[w6.heap.size]? = some (.cells #[.int .i64 y0.kind, .int .i64 y0.at', .string (bs y0.text)] 111) := by rw [← hw7]; exact Array.getElem?_push_size

      obtain ⟨tb, htb⟩ : ∃ r, w6.heap.size = r := ⟨_, rfl⟩
      rw [htb] at hbw7
      have hE57 := hX6.trans Ew7
      obtain ⟨hGw5, hP5, hb5, hr5, hx5, hl5, hrl5⟩ := HY5.out
      have hlt5 := blk_lt hb5
      have hs6 := hX6.size
      have hGw7 := hGw5.ext hE57
      have hj0 := hP5.hi
      have hebt : eb < tb := by omega
      have HS2 : Hid ((Gr g W w7 ∧ Gr g W0 w7 ∧ PS g w7 ts en j0 nst ∧ w7.heap[eb]? = some (.cells #[.string (bs x0.op), .string (bs x0.text), .bool x0.nan, .int .i64 x0.val, .slice aa x0.args.length ac, .bool x0.abs, .slice ad x0.steps.length ae] 29) ∧ w7.heap[rr]? = some (.cells #[.string ⟨#[]⟩, .string ⟨#[]⟩, .bool false, .int .i64 0, .slice none 0 0, .bool false, .slice none 0 0] 29) ∧ XW w7 (fun b => rr < b ∧ b < tb ∧ b ≠ eb) x0 aa ac ad ae ∧ w7.heap[tb]? = some (.cells #[.int .i64 (tokP ts en j0).kind, .int .i64 (tokP ts en j0).at', .string (bs (tokP ts en j0).text)] 111) ∧ w7.heap[lb]? = some (.cells LVC 142) ∧ Rep w7 (fun b => b = bl) (.slice (some ⟨bl, 0, none⟩) nl nl) (strsD (levelsS.getD lev []))) ∧ eb < tb ∧ ∃ f', f' ≤ f ∧ binLoop ts en f' nst lev x0 j0 = R) := by
        rw [hy0]
        exact Lib.hid ⟨⟨hGw7, HG0.out.trans hGw7, hP5.ext hE57, Gr.blk (Gr.of g hE57) heg hb5, Gr.blk (Gr.of g hE57) hrg hr5, (hx5.ext hE57).ok (fun b hb => by omega), hbw7, Gr.blk (Gr.of g hE57) hlbg hl5, hrl5.ext hE57⟩, hebt, f, Nat.le_refl _, hU⟩
      clear hGw5 hP5 hb5 hr5 hx5 hl5 hrl5 hlt5 hGw7 hE57 Ew7 hX6 hbw7 hU HY5 hy0
      obtain ⟨U, hUU⟩ : ∃ U, R = U := ⟨_, rfl⟩
      go_wp2_with fail
      go_loopw [7] (fun t wr => ∃ (x : Ex) (j tb : Nat) (aa : Option Addr) (ac : Nat) (ad : Option Addr) (ae : Nat), t = .pointer (some ⟨tb, 0, none⟩) ∧ j ≤ ts.length ∧ Hid ((Gr g W wr ∧ Gr g W0 wr ∧ PS g wr ts en j nst ∧ wr.heap[eb]? = some (.cells #[.string (bs x.op), .string (bs x.text), .bool x.nan, .int .i64 x.val, .slice aa x.args.length ac, .bool x.abs, .slice ad x.steps.length ae] 29) ∧ wr.heap[rr]? = some (.cells #[.string ⟨#[]⟩, .string ⟨#[]⟩, .bool false, .int .i64 0, .slice none 0 0, .bool false, .slice none 0 0] 29) ∧ XW wr (fun b => rr < b ∧ b < tb ∧ b ≠ eb) x aa ac ad ae ∧ wr.heap[tb]? = some (.cells #[.int .i64 (tokP ts en j).kind, .int .i64 (tokP ts en j).at', .string (bs (tokP ts en j).text)] 111) ∧ wr.heap[lb]? = some (.cells LVC 142) ∧ Rep wr (fun b => b = bl) (.slice (some ⟨bl, 0, none⟩) nl nl) (strsD (levelsS.getD lev []))) ∧ eb < tb ∧ ∃ f', f' ≤ f ∧ binLoop ts en f' nst lev x j = R)) (fun _ wr => atQ ts.length wr g)
      case atStart => exact ⟨x0, j0, tb, aa, ac, ad, ae, rfl, hj0, HS2⟩
      case round =>
        clear HS2 hw7 hj0 hebt
        subst hUU
        obtain ⟨U, hUU⟩ : ∃ U, U = R := ⟨_, rfl⟩
        subst hUU
        obtain ⟨x, j, tb, aa, ac, ad, ae, rfl, hj, HS⟩ := hrel
        obtain ⟨⟨hGw, hG0, hP, hb, hrb, hx, ht, hl, hrl⟩, hebt, f', hf', hU⟩ := HS.out
        have hM : atQ ts.length wr g = ts.length - j := by simp [atQ, hP.c1]
        have hnf : ∃ k, f' = k + 1 := by
          cases f' with
          | zero =>
            have h := HF.out
            rw [← hU, binLoop] at h
            exact absurd rfl h
          | succ k => exact ⟨k, rfl⟩
        obtain ⟨k, rfl⟩ := hnf
        rw [binLoop_eq] at hU
        have hytx := tokP_tx HV0.out.ok j
        have hkl := kind_lt ts en j
        obtain ⟨y, hy⟩ : ∃ y, tokP ts en j = y := ⟨_, rfl⟩
        rw [hy] at ht hU hytx hkl
        have htg : tb ≠ g := by omega
        have hte : tb ≠ eb := by omega
        obtain ⟨t0, t1, t2⟩ := cells3 ht
        have ltb := blk_lt ht
        have llb := blk_lt hl
        have lc : wr.cell? ⟨lb, lev, none⟩ = some (.slice (some ⟨bl, 0, none⟩) nl nl) := blk_cell hl hlp
        have HCT := Lib.hid fun W (h : Ext wr W) => conts_any (levelsS.getD lev []) hln0 y.text _ _ W hln (hrl.ext h)
        obtain ⟨B, hB⟩ : ∃ B, (levelsS.getD lev []).contains y.text = B := ⟨_, rfl⟩
        rw [hB] at HCT hU
        have HQ := Lib.hid (And.intro hGw (And.intro hG0 (And.intro hP (And.intro hb (And.intro hrb (And.intro hx (And.intro ht (And.intro hl (And.intro hrl (And.intro hf' (And.intro hU hM)))))))))))
        clear hGw hG0 hP hb hrb hx ht hl hrl hf' hU hM HS hB hy
        by_cases h5 : y.kind = 5
        · cases B with
          | true =>
            go_wp2_with fail
            refine rg_begin (S := Sx wr) (by kernel_rfl) (Sx.begin _) ?_
            have hS : Sx wr (World.drew wr) := (Sx.begin _)
            refine rg_take 0 (some 19) (.pointer (some ⟨tb, 0, none⟩)) (oi := { dst := some 19, op := Go.Op.fieldAddr 111 (Go.Operand.tmp 7) 0, type := 0, pos := "qparse.go:110", after := #[], guard := none }) rfl rfl (by kernel_rfl) (by kernel_rfl) (by kernel_rfl) (fun _ _ _ h => h) hS (by rfl) (fun w' hs => by first | rfl | go_simp) ?_
            simp only [Act.put, List.setIfInBounds_toArray, List.set_cons_zero, List.set_cons_succ]
            refine rg_take 1 (some 20) (.int .i64 y.kind) (oi := { dst := some 20, op := Go.Op.load 3 (Go.Operand.tmp 19), type := 3, pos := "qparse.go:110", after := #[{ on := 0, ground := Go.Ground.data }], guard := none }) rfl rfl (by kernel_rfl) (by kernel_rfl) (by kernel_rfl) (fun _ _ _ h => h) hS (by rfl) (fun w' hs => by (have h0 := hs.cell ltb t0; go_simp)) ?_
            simp only [Act.put, List.setIfInBounds_toArray, List.set_cons_zero, List.set_cons_succ]
            refine rg_take 2 (some 21) (.bool true) (oi := { dst := some 21, op := Go.Op.binOp Go.BinOp.eql 3 (Go.Operand.tmp 20) (Go.Operand.const (Go.Value.int Go.IntKind.i64 5)) 3, type := 4, pos := "qparse.go:110", after := #[{ on := 1, ground := Go.Ground.data }], guard := none }) rfl rfl (by kernel_rfl) (by kernel_rfl) (by kernel_rfl) (fun _ _ _ h => h) hS (by rfl) (fun w' hs => by exact exec_eql (i := y.kind) (j := 5) rfl rfl rfl (decide_eq_true (by omega)) _) ?_
            simp only [Act.put, List.setIfInBounds_toArray, List.set_cons_zero, List.set_cons_succ]
            refine rg_take 3 (some 22) (.bool true) (oi := { dst := some 22, op := Go.Op.move (Go.Operand.tmp 21), type := 4, pos := "qparse.go:110", after := #[{ on := 2, ground := Go.Ground.data }], guard := none }) rfl rfl (by kernel_rfl) (by kernel_rfl) (by kernel_rfl) (fun _ _ _ h => h) hS (by rfl) (fun w' hs => by rfl) ?_
            simp only [Act.put, List.setIfInBounds_toArray, List.set_cons_zero, List.set_cons_succ]
            refine rg_take 4 (some 23) (.int .i64 lev) (oi := { dst := some 23, op := Go.Op.move (Go.Operand.tmp 1), type := 3, pos := "qparse.go:110", after := #[{ on := 3, ground := Go.Ground.guard }], guard := some (3, true) }) rfl rfl (by kernel_rfl) (by kernel_rfl) (by kernel_rfl) (fun _ _ _ h => h) hS (by rfl) (fun w' hs => by rfl) ?_
            simp only [Act.put, List.setIfInBounds_toArray, List.set_cons_zero, List.set_cons_succ]
            refine rg_take 5 (some 24) (.pointer (some ⟨lb, lev, none⟩)) (oi := { dst := some 24, op := Go.Op.indexAddr 142 (Go.Operand.tmp 5) (Go.Operand.tmp 23), type := 0, pos := "qparse.go:110", after := #[{ on := 4, ground := Go.Ground.data }, { on := 3, ground := Go.Ground.guard }], guard := some (3, true) }) rfl rfl (by kernel_rfl) (by kernel_rfl) (by kernel_rfl) (fun _ _ _ h => h) hS (by rfl) (fun w' hs => by first | rfl | go_simp) ?_
            simp only [Act.put, List.setIfInBounds_toArray, List.set_cons_zero, List.set_cons_succ]
            refine rg_take 6 (some 25) (.slice (some ⟨bl, 0, none⟩) nl nl) (oi := { dst := some 25, op := Go.Op.load 23 (Go.Operand.tmp 24), type := 23, pos := "qparse.go:110", after := #[{ on := 5, ground := Go.Ground.data }, { on := 3, ground := Go.Ground.guard }], guard := some (3, true) }) rfl rfl (by kernel_rfl) (by kernel_rfl) (by kernel_rfl) (fun _ _ _ h => h) hS (by rfl) (fun w' hs => by (have h0 := hs.cell llb lc; go_simp)) ?_
            simp only [Act.put, List.setIfInBounds_toArray, List.set_cons_zero, List.set_cons_succ]
            refine rg_take 7 (some 26) (.pointer (some ⟨tb, 2, none⟩)) (oi := { dst := some 26, op := Go.Op.fieldAddr 111 (Go.Operand.tmp 7) 2, type := 0, pos := "qparse.go:110", after := #[{ on := 3, ground := Go.Ground.guard }], guard := some (3, true) }) rfl rfl (by kernel_rfl) (by kernel_rfl) (by kernel_rfl) (fun _ _ _ h => h) hS (by rfl) (fun w' hs => by first | rfl | go_simp) ?_
            simp only [Act.put, List.setIfInBounds_toArray, List.set_cons_zero, List.set_cons_succ]
            refine rg_take 8 (some 27) (.string (bs y.text)) (oi := { dst := some 27, op := Go.Op.load 9 (Go.Operand.tmp 26), type := 9, pos := "qparse.go:110", after := #[{ on := 7, ground := Go.Ground.data }, { on := 3, ground := Go.Ground.guard }], guard := some (3, true) }) rfl rfl (by kernel_rfl) (by kernel_rfl) (by kernel_rfl) (fun _ _ _ h => h) hS (by rfl) (fun w' hs => by (have h0 := hs.cell ltb t2; go_simp)) ?_
            simp only [Act.put, List.setIfInBounds_toArray, List.set_cons_zero, List.set_cons_succ]
            refine rg_call 9 (some 28) 73 #[.slice (some ⟨bl, 0, none⟩) nl nl, .string (bs y.text)] (oi := { dst := some 28, op := Go.Op.call { callee := Go.Callee.value (Go.Operand.func 73), args := #[Go.Operand.tmp 25, Go.Operand.tmp 27], argTypes := #[23, 9] }, type := 4, pos := "qparse.go:110", after := #[{ on := 6, ground := Go.Ground.data }, { on := 8, ground := Go.Ground.data }, { on := 3, ground := Go.Ground.chain }, { on := 3, ground := Go.Ground.guard }], guard := some (3, true) }) rfl rfl (by kernel_rfl) (by rfl) (fun w' => by first | rfl | go_simp) (R := fun v w' => v = .bool true ∧ Ext (World.drew wr) w') ?_ ?_
            · refine (HCT.out (World.drew wr) hS).mono ?_
              rintro e w' ⟨rfl, h⟩
              exact ⟨_, rfl, rfl, h⟩
            rintro _ wr1 ⟨rfl, hBr1⟩
            have hS1 := hS.ext hBr1
            refine ⟨hS1, ?_⟩
            simp only [Act.put, List.setIfInBounds_toArray, List.set_cons_zero, List.set_cons_succ]
            refine rg_take 10 (some 29) (.bool true) (oi := { dst := some 29, op := Go.Op.pick (Go.Operand.tmp 22) (Go.Operand.tmp 28) (Go.Operand.const (Go.Value.bool false)), type := 4, pos := "qparse.go:110", after := #[{ on := 3, ground := Go.Ground.data }, { on := 9, ground := Go.Ground.data }], guard := none }) rfl rfl (by kernel_rfl) (by kernel_rfl) (by kernel_rfl) (fun _ _ _ h => h) hS1 (by rfl) (fun w' hs => by rfl) ?_
            simp only [Act.put, List.setIfInBounds_toArray, List.set_cons_zero, List.set_cons_succ]
            refine rg_done (by kernel_rfl) ?_
            have hX6 : Ext wr wr1 := hS1
            obtain ⟨hGw, hG0, hP, hb, hrb, hx, ht, hl, hrl, hf', hU, hM⟩ := HQ.out
            have hU2 : (match binP ts en k nst (lev + 1) (j + 1) with | .error e => .error e | .ok (r, j) => binLoop ts en k nst lev (exP y.text [x, r]) j) = U := by rw [← hU, if_pos ⟨h5, by trivial⟩]
            have hjl := hkl (by omega)
            have hjI : (j : Int) ≤ 1000 := by omega
            obtain ⟨wo, hwo⟩ : ∃ w, wr1 = w := ⟨_, rfl⟩
            have hXo : Ext wr wo := by rw [← hwo]; exact hX6
            rw [hwo]
            have hPo := hP.ext hXo
            have c1 := hPo.c1; have f1 := hPo.f1
            obtain ⟨wz, hwz⟩ : ∃ w, wo.setCell ⟨g, 1, none⟩ (.int .i64 (j + 1 : Nat)) = w := ⟨_, rfl⟩
            have hwz' : wo.setCell ⟨g, 1, none⟩ (.int .i64 ((j : Int) + 1)) = wz := hwz
            have hPz : PS g wz ts en (j + 1) nst := by rw [← hwz]; exact hPo.set (j + 1) hjl
            have hGz : Gr g wr wz := by rw [← hwz]; exact (Gr.of g hXo).set 1 _
            have hbz := Gr.blk hGz heg hb
            have hrz := Gr.blk hGz hrg hrb
            have htz := Gr.blk hGz htg ht
            have hlz := Gr.blk hGz hlbg hl
            have hxz := hx.gr hGz (fun b hb => by omega)
            have hrlz := hrl.gr (g := g) (fun b hb => by omega) hGz
            have hmn : Mn (j + 1) (binP ts en k nst (lev + 1) (j + 1)) := (mono_all ts en k).2.1 nst (lev + 1) (j + 1)
            have hnf1 : NoF (binP ts en k nst (lev + 1) (j + 1)) := by
              have h := HF.out
              rw [← hU2] at h
              revert h
              cases binP ts en k nst (lev + 1) (j + 1) with
              | error e => exact fun h => h
              | ok x => exact fun _ => trivial
            have HC := Lib.hid (HB k (by omega) (World.drew wz) (j + 1) nst (lev + 1) (by omega) ((hG0.trans hGz).ext (Ext.refl wz).drew) (PS.ext hPz (Ext.refl wz).drew) hn hnf1)
            obtain ⟨X, hX⟩ : ∃ X, binP ts en k nst (lev + 1) (j + 1) = X := ⟨_, rfl⟩
            rw [hX] at HC hU2 hmn
            have HRB := Lib.hid (And.intro hrz (And.intro hlz hrlz))
            have HY := Lib.hid (And.intro (hGw.trans hGz) (And.intro (hG0.trans hGz) (And.intro hxz (And.intro hbz (And.intro htz (And.intro hU2 (And.intro (show k < f by omega) (And.intro hM hmn))))))))
            clear hGw hG0 hP hb hrb hx ht hl hrl hf' hU hM HQ hPo hPz hGz hrz hlz hrlz hxz hU2 hnf1 hX hwz hmn t0 t1 t2 lc HCT ltb llb hX6 hS1 hS hBr1 h5
            go_wp2_with fail
            clear hwz' c1 f1 hwo hXo
            obtain ⟨e0, e1, e2, e3, e4, e5, e6⟩ := cells7 hbz
            obtain ⟨t0, t1, t2⟩ := cells3 htz
            clear hbz htz
            refine rg_cut (S := Sk2 eb tb wz) 9 (by kernel_rfl) (by kernel_rfl) (by kernel_rfl) (by kernel_rfl) (Sk2.begin _ _ _) ?_
            have hSp : Sk2 eb tb wz (World.drew wz) := (Sk2.begin _ _ _)
            refine rg_take 0 (some 39) (.pointer (some ⟨tb, 2, none⟩)) (oi := { dst := some 39, op := Go.Op.fieldAddr 111 (Go.Operand.tmp 7) 2, type := 0, pos := "qparse.go:112", after := #[], guard := none }) rfl rfl (by kernel_rfl) (by kernel_rfl) (by kernel_rfl) (fun _ _ _ h => h) hSp (by rfl) (fun w' hs => by first | rfl | go_simp) ?_
            simp only [Act.put, List.setIfInBounds_toArray, List.set_cons_zero, List.set_cons_succ]
            refine rg_take 1 (some 40) (.string (bs y.text)) (oi := { dst := some 40, op := Go.Op.load 9 (Go.Operand.tmp 39), type := 9, pos := "qparse.go:112", after := #[{ on := 0, ground := Go.Ground.data }], guard := none }) rfl rfl (by kernel_rfl) (by kernel_rfl) (by kernel_rfl) (fun _ _ _ h => h) hSp (by rfl) (fun w' hs => by (have h0 := hs.cell (.inr rfl) t2; go_simp)) ?_
            simp only [Act.put, List.setIfInBounds_toArray, List.set_cons_zero, List.set_cons_succ]
            refine rg_take 2 (some 41) (.agg #[.string (bs x.op), .string (bs x.text), .bool x.nan, .int .i64 x.val, .slice aa x.args.length ac, .bool x.abs, .slice ad x.steps.length ae]) (oi := { dst := some 41, op := Go.Op.load 29 (Go.Operand.tmp 6), type := 29, pos := "qparse.go:112", after := #[], guard := none }) rfl rfl (by kernel_rfl) (by kernel_rfl) (by kernel_rfl) (fun _ _ _ h => h) hSp (by rfl) (fun w' hs => by (have h0 := hs.cell (.inl rfl) e0; have h1 := hs.cell (.inl rfl) e1; have h2 := hs.cell (.inl rfl) e2; have h3 := hs.cell (.inl rfl) e3; have h4 := hs.cell (.inl rfl) e4; have h5 := hs.cell (.inl rfl) e5; have h6 := hs.cell (.inl rfl) e6; go_simp)) ?_
            simp only [Act.put, List.setIfInBounds_toArray, List.set_cons_zero, List.set_cons_succ]
            refine rg_take 3 (some 42) (.pointer (some ⟨g, 0, none⟩)) (oi := { dst := some 42, op := Go.Op.move (Go.Operand.tmp 0), type := 45, pos := "qparse.go:112", after := #[], guard := none }) rfl rfl (by kernel_rfl) (by kernel_rfl) (by kernel_rfl) (fun _ _ _ h => h) hSp (by rfl) (fun w' hs => by rfl) ?_
            simp only [Act.put, List.setIfInBounds_toArray, List.set_cons_zero, List.set_cons_succ]
            refine rg_take 4 (some 43) (.int .i64 lev) (oi := { dst := some 43, op := Go.Op.move (Go.Operand.tmp 1), type := 3, pos := "qparse.go:112", after := #[], guard := none }) rfl rfl (by kernel_rfl) (by kernel_rfl) (by kernel_rfl) (fun _ _ _ h => h) hSp (by rfl) (fun w' hs => by rfl) ?_
            simp only [Act.put, List.setIfInBounds_toArray, List.set_cons_zero, List.set_cons_succ]
            refine rg_take 5 (some 44) (.int .i64 (lev + 1 : Nat)) (oi := { dst := some 44, op := Go.Op.binOp Go.BinOp.add 3 (Go.Operand.tmp 43) (Go.Operand.const (Go.Value.int Go.IntKind.i64 1)) 3, type := 3, pos := "qparse.go:112", after := #[{ on := 4, ground := Go.Ground.data }], guard := none }) rfl rfl (by kernel_rfl) (by kernel_rfl) (by kernel_rfl) (fun _ _ _ h => h) hSp (by rfl) (fun w' hs => by exact exec_add (i := lev) (j := 1) rfl rfl rfl (by omega) _) ?_
            simp only [Act.put, List.setIfInBounds_toArray, List.set_cons_zero, List.set_cons_succ]
            refine rg_callp 6 (some 45) 47 #[.pointer (some ⟨g, 0, none⟩), .int .i64 (lev + 1 : Nat)] (oi := { dst := some 45, op := Go.Op.call { callee := Go.Callee.value (Go.Operand.func 47), args := #[Go.Operand.tmp 42, Go.Operand.tmp 44], argTypes := #[45, 3] }, type := 29, pos := "qparse.go:112", after := #[{ on := 3, ground := Go.Ground.data }, { on := 5, ground := Go.Ground.data }], guard := none }) rfl rfl (by kernel_rfl) (by rfl) (fun w' => by first | rfl | go_simp) ?_
            refine (HC.out).mono ?_
            rintro e w6 ⟨hG6, hV⟩
            clear HC
            obtain ⟨hGw, hG0, hx, hb, htb, hR, hkf, hM, hmn⟩ := HY.out
            rcases X with ⟨c, a⟩ | ⟨z, j2⟩
            · obtain rfl := hV
              obtain rfl : .error (c, a) = U := hR
              exact .inr ⟨_, rfl, ⟨rfl, (hGw.ext (Ext.refl wz).drew).trans hG6, rfl⟩⟩
            obtain ⟨v, rfl, hy, hP6⟩ := hV
            obtain ⟨ba, bc, bd, be, rfl, hyw⟩ := XW.of hy
            clear hy
            have hG6' : Gr g wz w6 := (Gr.of g (Ext.refl wz).drew).trans hG6
            have hb6 := Gr.blk hG6' heg hb
            have htb6 := Gr.blk hG6' htg htb
            have hlb6 := blk_lt hb6
            have hltb6 := blk_lt htb6
            have hSk6 : Sk2 eb tb wz w6 := ⟨Sk.gr (Sk.begin eb wz) hG6 (blk_lt (w := wz) hb) heg, Sk.gr (Sk.begin tb wz) hG6 (blk_lt (w := wz) htb) htg⟩
            refine .inl ⟨_, rfl, hSk6, ?_⟩
            simp only [Act.put, List.setIfInBounds_toArray, List.set_cons_zero, List.set_cons_succ]
            refine rg_one 7 (by kernel_rfl) ?_
            refine tk_new 7 (some 46) (.cells #[.string (bs x.op), .string (bs x.text), .bool x.nan, .int .i64 x.val, .slice aa x.args.length ac, .bool x.abs, .slice ad x.steps.length ae, .string (bs z.op), .string (bs z.text), .bool z.nan, .int .i64 z.val, .slice ba z.args.length bc, .bool z.abs, .slice bd z.steps.length be] 29) (fun n => .slice (some ⟨n, 0, none⟩) 2 2) (oi := { dst := some 46, op := Go.Op.buildSlice 26 2 #[(0, Go.Operand.tmp 41), (1, Go.Operand.tmp 45)], type := 26, pos := "qparse.go:112", after := #[{ on := 2, ground := Go.Ground.data }, { on := 6, ground := Go.Ground.data }], guard := none }) rfl rfl (by rfl) (by first | rfl | go_simp) ?_
            intro gb xb egb hxb hzxb hC
            subst egb
            have hSb : Sk2 eb tb wz xb := ⟨hSk6.1.ext hxb hlb6, hSk6.2.ext hxb hltb6⟩
            refine ⟨hSb, ?_⟩
            simp only [Act.put, List.setIfInBounds_toArray, List.set_cons_zero, List.set_cons_succ]
            refine rg_take 8 (some 47) (.agg #[.string (bs y.text), .string ⟨#[]⟩, .bool false, .int .i64 0, .slice (some ⟨w6.heap.size, 0, none⟩) 2 2, .bool false, .slice none 0 0]) (oi := { dst := some 47, op := Go.Op.build 29 #[(0, Go.Operand.tmp 40), (3, Go.Operand.tmp 46)], type := 29, pos := "qparse.go:112", after := #[{ on := 1, ground := Go.Ground.data }, { on := 7, ground := Go.Ground.data }], guard := none }) rfl rfl (by kernel_rfl) (by kernel_rfl) (by kernel_rfl) (fun _ _ _ h => h) hSb (by rfl) (fun w' hs => by first | rfl | go_simp) ?_
            simp only [Act.put, List.setIfInBounds_toArray, List.set_cons_zero, List.set_cons_succ]
            have hbx := Gr.blk (Gr.of g hxb) heg hb6
            refine rg_done (by kernel_rfl) ?_
            refine rg_go 1 #[true, true, true, true, true, true, true, true, true, false] (by kernel_rfl) (by kernel_rfl) fun m => ?_
            refine rg_write 9 none (stc7 xb eb (.string (bs y.text)) (.string ⟨#[]⟩) (.bool false) (.int .i64 0) (.slice (some ⟨w6.heap.size, 0, none⟩) 2 2) (.bool false) (.slice none 0 0)) (oi := { dst := none, op := Go.Op.store 29 (Go.Operand.tmp 6) (Go.Operand.tmp 47), type := 0, pos := "qparse.go:112", after := #[{ on := 8, ground := Go.Ground.data }, { on := 6, ground := Go.Ground.chain }, { on := 0, ground := Go.Ground.phase }, { on := 1, ground := Go.Ground.phase }, { on := 2, ground := Go.Ground.phase }, { on := 3, ground := Go.Ground.phase }, { on := 4, ground := Go.Ground.phase }, { on := 5, ground := Go.Ground.phase }, { on := 6, ground := Go.Ground.phase }, { on := 7, ground := Go.Ground.phase }, { on := 8, ground := Go.Ground.phase }], guard := none }) rfl rfl (by kernel_rfl) (by rfl) (exec_store rfl (store_ex hbx (bs y.text) ⟨#[]⟩ false 0 (some ⟨w6.heap.size, 0, none⟩) 2 2 false none 0 0)) trivial ?_
            simp only [Act.put, List.setIfInBounds_toArray, List.set_cons_zero, List.set_cons_succ]
            refine rg_done (by kernel_rfl) ?_
            dsimp only at hR
            obtain ⟨hb8, hG8, hs8⟩ := stc7_blk (v0 := .string (bs y.text)) (v1 := .string ⟨#[]⟩) (v2 := .bool false) (v3 := .int .i64 0) (v4 := .slice (some ⟨w6.heap.size, 0, none⟩) 2 2) (v5 := .bool false) (v6 := .slice none 0 0) hbx
            obtain ⟨w8, hw8⟩ : ∃ w, stc7 xb eb (.string (bs y.text)) (.string ⟨#[]⟩) (.bool false) (.int .i64 0) (.slice (some ⟨w6.heap.size, 0, none⟩) 2 2) (.bool false) (.slice none 0 0) = w := ⟨_, rfl⟩
            rw [hw8] at hb8 hG8 hs8 ⊢
            have hsw := hG6'.size
            have hdz : tb < (World.drew wz).heap.size := blk_lt (w := wz) htb
            have hsb := hxb.size
            have hsg := hG6.size
            have hltx := blk_lt hC
            have hx6 := (hx.gr hG6' (fun b hb => by omega))
            have hxy : XW w8 (fun b => rr < b ∧ b < w8.heap.size ∧ b ≠ eb) (exP y.text [x, z]) (some ⟨w6.heap.size, 0, none⟩) 2 none 0 := by
              refine ⟨Rep.gr ?_ (fun b hb => hb.2.2) hG8, .nil _, hytx, Nat.zero_le _⟩
              have h := rep_new (w := w6) (W := xb) (p := fun b => rr < b ∧ b < w6.heap.size ∧ b ≠ eb) (q := fun b => rr < b ∧ b < w8.heap.size ∧ b ≠ eb) (us := (exU x (.slice aa x.args.length ac) (.slice ad x.steps.length ae)) ++ (exU z (.slice ba z.args.length bc) (.slice bd z.steps.length be))) (es := exC x ++ exC z) (n := 2) (z := 7) hC hxb ((hx6.reps.ok (fun b hb => by omega)).app (hyw.reps.lt.ok fun b hb => by omega)) (fun b hb => by omega) ⟨by omega, by omega, by omega⟩ rfl (by decide)
              rw [show exC x ++ exC z = [x, z].flatMap exC by simp] at h
              exact h
            have hP8 := (hP6.ext hxb).gr hG8 hge
            have hGw8 := ((hGw.trans hG6').ext hxb).new hG8 (by omega)
            have hr8 := Gr.blk hG8 hre (Gr.blk (Gr.of g hxb) hrg (Gr.blk hG6' hrg HRB.out.1))
            have hl8 := Gr.blk hG8 hlbe (Gr.blk (Gr.of g hxb) hlbg (Gr.blk hG6' hlbg HRB.out.2.1))
            have hrl8 := ((HRB.out.2.2.gr (g := g) (fun b hb => by omega) hG6').ext hxb).gr (g := eb) (fun b hb => by omega) hG8
            have ht8 := Gr.blk hG8 hte (Gr.blk (Gr.of g hxb) htg htb6)
            have hj2 := hP8.hi
            have hjj : j + 1 ≤ j2 := hmn
            obtain ⟨k0, k1, k2⟩ := cells3 ht8
            obtain ⟨w9, hw9⟩ : ∃ w, w8.alloc (.cells #[.int .i64 y.kind, .int .i64 y.at', .string (bs y.text)] 111) = w := ⟨_, rfl⟩
            have Ew9 : Ext w8 w9 := by rw [← hw9]; exact (Ext.refl w8).alloc _
            have hbw9 : w9.heap[w8.heap.size]? = some (.cells #[.int .i64 y.kind, .int .i64 y.at', .string (bs y.text)] 111) := by rw [← hw9]; exact Array.getElem?_push_size

            obtain ⟨tb2, htb2⟩ : ∃ r, w8.heap.size = r := ⟨_, rfl⟩
            rw [htb2] at hbw9
            have htg2 : tb2 ≠ g := by have := hP8.lt; omega
            have hgt2 : g < tb2 := by have := hP8.lt; omega
            have hltw8 := blk_lt hr8
            have hlew8 := blk_lt hb8
            have hllw8 := blk_lt hl8
            have hltw9 := blk_lt hbw9
            have HTK := Lib.hid (tok_any g w9 ts en j2 nst HV0.out.ok (hP8.ext Ew9))
            have HQ := Lib.hid (And.intro (hGw8.ext Ew9) (And.intro (hP8.ext Ew9) (And.intro (Gr.blk (Gr.of g Ew9) heg hb8) (And.intro (Gr.blk (Gr.of g Ew9) hrg hr8) (And.intro (hxy.ext Ew9) (And.intro hbw9 (And.intro (Gr.blk (Gr.of g Ew9) hlbg hl8) (And.intro (hrl8.ext Ew9) (And.intro hR (And.intro hkf hM))))))))))
            have hbl8 := hG8.size
            clear hb8 hG8 hs8 hxy hP8 hGw8 hx6 hC hbx hSb hSk6 hb6 hG6 hG6' hyw hP6 hx hb hR hM hGw hG0 hr8 hl8 hrl8 ht8 htb htb6 hlb6 hltb6 Ew9 hbw9 hltx HRB HY
            unfold tokV at HTK
            obtain ⟨y2, hy2⟩ : ∃ y, tokP ts en j2 = y := ⟨_, rfl⟩
            rw [hy2] at HTK
            go_wp2_with fail
            refine HTK.out.mono ?_
            rintro e w10 ⟨rfl, hX10⟩
            clear HTK k0 k1 k2 hw9
            obtain ⟨hGw, hP, hb, hr, hx, ht, hl, hrl, hR, hkf, hM⟩ := HQ.out
            have ht10 := Gr.blk (Gr.of g hX10) htg2 ht
            obtain ⟨u0, u1, u2⟩ := cells3 ht10
            have v0 := blk_free ht10 (k := 0); have v1 := blk_free ht10 (k := 1); have v2 := blk_free ht10 (k := 2)
            obtain ⟨h11a, h11b, _⟩ := stc3_blk (v0 := .int .i64 y2.kind) (v1 := .int .i64 y2.at') (v2 := .string (bs y2.text)) ht10
            obtain ⟨w11, hw11⟩ : ∃ w, stc3 w10 tb2 (.int .i64 y2.kind) (.int .i64 y2.at') (.string (bs y2.text)) = w := ⟨_, rfl⟩
            rw [hw11] at h11a h11b
            unfold stc3 at hw11
            have h2e : eb ≠ tb2 := by omega
            have h2r : rr ≠ tb2 := by omega
            have h2l : lb ≠ tb2 := by omega
            have hbl2 : bl ≠ tb2 := by omega
            have hGw11 := (hGw.ext hX10).new h11b (by omega)
            have hP11 := (hP.ext hX10).gr h11b hgt2
            have HN : Hid ((Gr g W w11 ∧ Gr g W0 w11 ∧ PS g w11 ts en j2 nst ∧ w11.heap[eb]? = some (.cells #[.string (bs (exP y.text [x, z]).op), .string (bs (exP y.text [x, z]).text), .bool (exP y.text [x, z]).nan, .int .i64 (exP y.text [x, z]).val, .slice (some ⟨w6.heap.size, 0, none⟩) (exP y.text [x, z]).args.length 2, .bool (exP y.text [x, z]).abs, .slice none (exP y.text [x, z]).steps.length 0] 29) ∧ w11.heap[rr]? = some (.cells #[.string ⟨#[]⟩, .string ⟨#[]⟩, .bool false, .int .i64 0, .slice none 0 0, .bool false, .slice none 0 0] 29) ∧ XW w11 (fun b => rr < b ∧ b < tb2 ∧ b ≠ eb) (exP y.text [x, z]) (some ⟨w6.heap.size, 0, none⟩) 2 none 0 ∧ w11.heap[tb2]? = some (.cells #[.int .i64 (tokP ts en j2).kind, .int .i64 (tokP ts en j2).at', .string (bs (tokP ts en j2).text)] 111) ∧ w11.heap[lb]? = some (.cells LVC 142) ∧ Rep w11 (fun b => b = bl) (.slice (some ⟨bl, 0, none⟩) nl nl) (strsD (levelsS.getD lev []))) ∧ eb < tb2 ∧ ∃ f', f' ≤ f ∧ binLoop ts en f' nst lev (exP y.text [x, z]) j2 = U) := by
              rw [hy2]
              exact Lib.hid ⟨⟨hGw11, HG0.out.trans hGw11, hP11, Gr.blk h11b h2e (Gr.blk (Gr.of g hX10) heg hb), Gr.blk h11b h2r (Gr.blk (Gr.of g hX10) hrg hr), ((hx.ext hX10).gr h11b (fun b hb => by omega)).ok (fun b hb => by omega), h11a, Gr.blk h11b h2l (Gr.blk (Gr.of g hX10) hlbg hl), (hrl.ext hX10).gr (fun b hb => by omega) h11b⟩, by omega, k, by omega, hR⟩
            have HM := Lib.hid (show atQ ts.length w11 g < atQ ts.length wr g by rw [hM]; simp only [atQ, hP11.c1]; simp; omega)
            clear hGw hP hb hr hx ht hl hrl hR hM ht10 h11a h11b hGw11 hP11 HQ hX10

            go_wp2_with fail
            go_roundw
            case rel => exact ⟨exP y.text [x, z], j2, tb2, _, _, _, _, rfl, hj2, HN⟩
            case measure => exact HM.out
          | false =>
            go_wp2_with fail
            refine rg_begin (S := Sx wr) (by kernel_rfl) (Sx.begin _) ?_
            have hS : Sx wr (World.drew wr) := (Sx.begin _)
            refine rg_take 0 (some 19) (.pointer (some ⟨tb, 0, none⟩)) (oi := { dst := some 19, op := Go.Op.fieldAddr 111 (Go.Operand.tmp 7) 0, type := 0, pos := "qparse.go:110", after := #[], guard := none }) rfl rfl (by kernel_rfl) (by kernel_rfl) (by kernel_rfl) (fun _ _ _ h => h) hS (by rfl) (fun w' hs => by first | rfl | go_simp) ?_
            simp only [Act.put, List.setIfInBounds_toArray, List.set_cons_zero, List.set_cons_succ]
            refine rg_take 1 (some 20) (.int .i64 y.kind) (oi := { dst := some 20, op := Go.Op.load 3 (Go.Operand.tmp 19), type := 3, pos := "qparse.go:110", after := #[{ on := 0, ground := Go.Ground.data }], guard := none }) rfl rfl (by kernel_rfl) (by kernel_rfl) (by kernel_rfl) (fun _ _ _ h => h) hS (by rfl) (fun w' hs => by (have h0 := hs.cell ltb t0; go_simp)) ?_
            simp only [Act.put, List.setIfInBounds_toArray, List.set_cons_zero, List.set_cons_succ]
            refine rg_take 2 (some 21) (.bool true) (oi := { dst := some 21, op := Go.Op.binOp Go.BinOp.eql 3 (Go.Operand.tmp 20) (Go.Operand.const (Go.Value.int Go.IntKind.i64 5)) 3, type := 4, pos := "qparse.go:110", after := #[{ on := 1, ground := Go.Ground.data }], guard := none }) rfl rfl (by kernel_rfl) (by kernel_rfl) (by kernel_rfl) (fun _ _ _ h => h) hS (by rfl) (fun w' hs => by exact exec_eql (i := y.kind) (j := 5) rfl rfl rfl (decide_eq_true (by omega)) _) ?_
            simp only [Act.put, List.setIfInBounds_toArray, List.set_cons_zero, List.set_cons_succ]
            refine rg_take 3 (some 22) (.bool true) (oi := { dst := some 22, op := Go.Op.move (Go.Operand.tmp 21), type := 4, pos := "qparse.go:110", after := #[{ on := 2, ground := Go.Ground.data }], guard := none }) rfl rfl (by kernel_rfl) (by kernel_rfl) (by kernel_rfl) (fun _ _ _ h => h) hS (by rfl) (fun w' hs => by rfl) ?_
            simp only [Act.put, List.setIfInBounds_toArray, List.set_cons_zero, List.set_cons_succ]
            refine rg_take 4 (some 23) (.int .i64 lev) (oi := { dst := some 23, op := Go.Op.move (Go.Operand.tmp 1), type := 3, pos := "qparse.go:110", after := #[{ on := 3, ground := Go.Ground.guard }], guard := some (3, true) }) rfl rfl (by kernel_rfl) (by kernel_rfl) (by kernel_rfl) (fun _ _ _ h => h) hS (by rfl) (fun w' hs => by rfl) ?_
            simp only [Act.put, List.setIfInBounds_toArray, List.set_cons_zero, List.set_cons_succ]
            refine rg_take 5 (some 24) (.pointer (some ⟨lb, lev, none⟩)) (oi := { dst := some 24, op := Go.Op.indexAddr 142 (Go.Operand.tmp 5) (Go.Operand.tmp 23), type := 0, pos := "qparse.go:110", after := #[{ on := 4, ground := Go.Ground.data }, { on := 3, ground := Go.Ground.guard }], guard := some (3, true) }) rfl rfl (by kernel_rfl) (by kernel_rfl) (by kernel_rfl) (fun _ _ _ h => h) hS (by rfl) (fun w' hs => by first | rfl | go_simp) ?_
            simp only [Act.put, List.setIfInBounds_toArray, List.set_cons_zero, List.set_cons_succ]
            refine rg_take 6 (some 25) (.slice (some ⟨bl, 0, none⟩) nl nl) (oi := { dst := some 25, op := Go.Op.load 23 (Go.Operand.tmp 24), type := 23, pos := "qparse.go:110", after := #[{ on := 5, ground := Go.Ground.data }, { on := 3, ground := Go.Ground.guard }], guard := some (3, true) }) rfl rfl (by kernel_rfl) (by kernel_rfl) (by kernel_rfl) (fun _ _ _ h => h) hS (by rfl) (fun w' hs => by (have h0 := hs.cell llb lc; go_simp)) ?_
            simp only [Act.put, List.setIfInBounds_toArray, List.set_cons_zero, List.set_cons_succ]
            refine rg_take 7 (some 26) (.pointer (some ⟨tb, 2, none⟩)) (oi := { dst := some 26, op := Go.Op.fieldAddr 111 (Go.Operand.tmp 7) 2, type := 0, pos := "qparse.go:110", after := #[{ on := 3, ground := Go.Ground.guard }], guard := some (3, true) }) rfl rfl (by kernel_rfl) (by kernel_rfl) (by kernel_rfl) (fun _ _ _ h => h) hS (by rfl) (fun w' hs => by first | rfl | go_simp) ?_
            simp only [Act.put, List.setIfInBounds_toArray, List.set_cons_zero, List.set_cons_succ]
            refine rg_take 8 (some 27) (.string (bs y.text)) (oi := { dst := some 27, op := Go.Op.load 9 (Go.Operand.tmp 26), type := 9, pos := "qparse.go:110", after := #[{ on := 7, ground := Go.Ground.data }, { on := 3, ground := Go.Ground.guard }], guard := some (3, true) }) rfl rfl (by kernel_rfl) (by kernel_rfl) (by kernel_rfl) (fun _ _ _ h => h) hS (by rfl) (fun w' hs => by (have h0 := hs.cell ltb t2; go_simp)) ?_
            simp only [Act.put, List.setIfInBounds_toArray, List.set_cons_zero, List.set_cons_succ]
            refine rg_call 9 (some 28) 73 #[.slice (some ⟨bl, 0, none⟩) nl nl, .string (bs y.text)] (oi := { dst := some 28, op := Go.Op.call { callee := Go.Callee.value (Go.Operand.func 73), args := #[Go.Operand.tmp 25, Go.Operand.tmp 27], argTypes := #[23, 9] }, type := 4, pos := "qparse.go:110", after := #[{ on := 6, ground := Go.Ground.data }, { on := 8, ground := Go.Ground.data }, { on := 3, ground := Go.Ground.chain }, { on := 3, ground := Go.Ground.guard }], guard := some (3, true) }) rfl rfl (by kernel_rfl) (by rfl) (fun w' => by first | rfl | go_simp) (R := fun v w' => v = .bool false ∧ Ext (World.drew wr) w') ?_ ?_
            · refine (HCT.out (World.drew wr) hS).mono ?_
              rintro e w' ⟨rfl, h⟩
              exact ⟨_, rfl, rfl, h⟩
            rintro _ wr1 ⟨rfl, hBr1⟩
            have hS1 := hS.ext hBr1
            refine ⟨hS1, ?_⟩
            simp only [Act.put, List.setIfInBounds_toArray, List.set_cons_zero, List.set_cons_succ]
            refine rg_take 10 (some 29) (.bool false) (oi := { dst := some 29, op := Go.Op.pick (Go.Operand.tmp 22) (Go.Operand.tmp 28) (Go.Operand.const (Go.Value.bool false)), type := 4, pos := "qparse.go:110", after := #[{ on := 3, ground := Go.Ground.data }, { on := 9, ground := Go.Ground.data }], guard := none }) rfl rfl (by kernel_rfl) (by kernel_rfl) (by kernel_rfl) (fun _ _ _ h => h) hS1 (by rfl) (fun w' hs => by rfl) ?_
            simp only [Act.put, List.setIfInBounds_toArray, List.set_cons_zero, List.set_cons_succ]
            refine rg_done (by kernel_rfl) ?_
            have hX6 : Ext wr wr1 := hS1
            obtain ⟨hGw, hG0, hP, hb, hrb, hx, ht, hl, hrl, hf', hU, hM⟩ := HQ.out
            obtain rfl : .ok (x, j) = U := by rw [← hU, if_neg (by simp )]
            have hb2 := Gr.blk (Gr.of g hX6) heg hb
            have hr2 := Gr.blk (Gr.of g hX6) hrg hrb
            obtain ⟨wo, hwo⟩ : ∃ w, wr1 = w := ⟨_, rfl⟩
            rw [hwo] at hX6 hb2 hr2 ⊢
            obtain ⟨e0, e1, e2, e3, e4, e5, e6⟩ := cells7 hb2
            obtain ⟨r0, r1, r2, r3, r4, r5, r6⟩ := cells7 hr2
            have z0 := blk_free hr2 (k := 0); have z1 := blk_free hr2 (k := 1); have z2 := blk_free hr2 (k := 2); have z3 := blk_free hr2 (k := 3); have z4 := blk_free hr2 (k := 4); have z5 := blk_free hr2 (k := 5); have z6 := blk_free hr2 (k := 6)
            have hre' : eb ≠ rr := fun e => hre e.symm
            have HW := Lib.hid (And.intro (hGw.ext hX6) (And.intro hr2 (And.intro (hx.ext hX6) (hP.ext hX6))))
            clear hGw hG0 hP hb hrb hx ht hl hrl hf' hM hb2 hr2 hX6 HQ t0 t1 t2 lc
            go_wp2_with fail

            refine fin7 rfl HW.out.2.1 rfl fun W' hG' => ⟨HW.out.1.new hG' (by rw [← hrr]; exact Nat.le_refl _), _, rfl, (((HW.out.2.2.1).gr hG' (fun b hb => by omega)).ok (q := fun b => W.heap.size ≤ b) (fun b hb => by omega)).xv, HW.out.2.2.2.gr hG' hgr⟩
        · go_wp2_with fail
          refine rg_begin (S := Sx wr) (by kernel_rfl) (Sx.begin _) ?_
          have hS : Sx wr (World.drew wr) := (Sx.begin _)
          refine rg_take 0 (some 19) (.pointer (some ⟨tb, 0, none⟩)) (oi := { dst := some 19, op := Go.Op.fieldAddr 111 (Go.Operand.tmp 7) 0, type := 0, pos := "qparse.go:110", after := #[], guard := none }) rfl rfl (by kernel_rfl) (by kernel_rfl) (by kernel_rfl) (fun _ _ _ h => h) hS (by rfl) (fun w' hs => by first | rfl | go_simp) ?_
          simp only [Act.put, List.setIfInBounds_toArray, List.set_cons_zero, List.set_cons_succ]
          refine rg_take 1 (some 20) (.int .i64 y.kind) (oi := { dst := some 20, op := Go.Op.load 3 (Go.Operand.tmp 19), type := 3, pos := "qparse.go:110", after := #[{ on := 0, ground := Go.Ground.data }], guard := none }) rfl rfl (by kernel_rfl) (by kernel_rfl) (by kernel_rfl) (fun _ _ _ h => h) hS (by rfl) (fun w' hs => by (have h0 := hs.cell ltb t0; go_simp)) ?_
          simp only [Act.put, List.setIfInBounds_toArray, List.set_cons_zero, List.set_cons_succ]
          refine rg_take 2 (some 21) (.bool false) (oi := { dst := some 21, op := Go.Op.binOp Go.BinOp.eql 3 (Go.Operand.tmp 20) (Go.Operand.const (Go.Value.int Go.IntKind.i64 5)) 3, type := 4, pos := "qparse.go:110", after := #[{ on := 1, ground := Go.Ground.data }], guard := none }) rfl rfl (by kernel_rfl) (by kernel_rfl) (by kernel_rfl) (fun _ _ _ h => h) hS (by rfl) (fun w' hs => by exact exec_eql (i := y.kind) (j := 5) rfl rfl rfl (decide_eq_false (by omega)) _) ?_
          simp only [Act.put, List.setIfInBounds_toArray, List.set_cons_zero, List.set_cons_succ]
          refine rg_take 3 (some 22) (.bool false) (oi := { dst := some 22, op := Go.Op.move (Go.Operand.tmp 21), type := 4, pos := "qparse.go:110", after := #[{ on := 2, ground := Go.Ground.data }], guard := none }) rfl rfl (by kernel_rfl) (by kernel_rfl) (by kernel_rfl) (fun _ _ _ h => h) hS (by rfl) (fun w' hs => by rfl) ?_
          simp only [Act.put, List.setIfInBounds_toArray, List.set_cons_zero, List.set_cons_succ]
          refine rg_skip 4 (some 23) (oi := { dst := some 23, op := Go.Op.move (Go.Operand.tmp 1), type := 3, pos := "qparse.go:110", after := #[{ on := 3, ground := Go.Ground.guard }], guard := some (3, true) }) rfl rfl (by kernel_rfl) (by kernel_rfl) (by kernel_rfl) (fun _ _ _ h => h) hS (by rfl) ?_
          simp only [Act.put, List.setIfInBounds_toArray, List.set_cons_zero, List.set_cons_succ]
          refine rg_skip 5 (some 24) (oi := { dst := some 24, op := Go.Op.indexAddr 142 (Go.Operand.tmp 5) (Go.Operand.tmp 23), type := 0, pos := "qparse.go:110", after := #[{ on := 4, ground := Go.Ground.data }, { on := 3, ground := Go.Ground.guard }], guard := some (3, true) }) rfl rfl (by kernel_rfl) (by kernel_rfl) (by kernel_rfl) (fun _ _ _ h => h) hS (by rfl) ?_
          simp only [Act.put, List.setIfInBounds_toArray, List.set_cons_zero, List.set_cons_succ]
          refine rg_skip 6 (some 25) (oi := { dst := some 25, op := Go.Op.load 23 (Go.Operand.tmp 24), type := 23, pos := "qparse.go:110", after := #[{ on := 5, ground := Go.Ground.data }, { on := 3, ground := Go.Ground.guard }], guard := some (3, true) }) rfl rfl (by kernel_rfl) (by kernel_rfl) (by kernel_rfl) (fun _ _ _ h => h) hS (by rfl) ?_
          simp only [Act.put, List.setIfInBounds_toArray, List.set_cons_zero, List.set_cons_succ]
          refine rg_skip 7 (some 26) (oi := { dst := some 26, op := Go.Op.fieldAddr 111 (Go.Operand.tmp 7) 2, type := 0, pos := "qparse.go:110", after := #[{ on := 3, ground := Go.Ground.guard }], guard := some (3, true) }) rfl rfl (by kernel_rfl) (by kernel_rfl) (by kernel_rfl) (fun _ _ _ h => h) hS (by rfl) ?_
          simp only [Act.put, List.setIfInBounds_toArray, List.set_cons_zero, List.set_cons_succ]
          refine rg_skip 8 (some 27) (oi := { dst := some 27, op := Go.Op.load 9 (Go.Operand.tmp 26), type := 9, pos := "qparse.go:110", after := #[{ on := 7, ground := Go.Ground.data }, { on := 3, ground := Go.Ground.guard }], guard := some (3, true) }) rfl rfl (by kernel_rfl) (by kernel_rfl) (by kernel_rfl) (fun _ _ _ h => h) hS (by rfl) ?_
          simp only [Act.put, List.setIfInBounds_toArray, List.set_cons_zero, List.set_cons_succ]
          refine rg_skip 9 (some 28) (oi := { dst := some 28, op := Go.Op.call { callee := Go.Callee.value (Go.Operand.func 73), args := #[Go.Operand.tmp 25, Go.Operand.tmp 27], argTypes := #[23, 9] }, type := 4, pos := "qparse.go:110", after := #[{ on := 6, ground := Go.Ground.data }, { on := 8, ground := Go.Ground.data }, { on := 3, ground := Go.Ground.chain }, { on := 3, ground := Go.Ground.guard }], guard := some (3, true) }) rfl rfl (by kernel_rfl) (by kernel_rfl) (by kernel_rfl) (fun _ _ _ h => h) hS (by rfl) ?_
          simp only [Act.put, List.setIfInBounds_toArray, List.set_cons_zero, List.set_cons_succ]
          refine rg_take 10 (some 29) (.bool false) (oi := { dst := some 29, op := Go.Op.pick (Go.Operand.tmp 22) (Go.Operand.tmp 28) (Go.Operand.const (Go.Value.bool false)), type := 4, pos := "qparse.go:110", after := #[{ on := 3, ground := Go.Ground.data }, { on := 9, ground := Go.Ground.data }], guard := none }) rfl rfl (by kernel_rfl) (by kernel_rfl) (by kernel_rfl) (fun _ _ _ h => h) hS (by rfl) (fun w' hs => by rfl) ?_
          simp only [Act.put, List.setIfInBounds_toArray, List.set_cons_zero, List.set_cons_succ]
          refine rg_done (by kernel_rfl) ?_
          have hX6 : Ext wr (World.drew wr) := hS
          obtain ⟨hGw, hG0, hP, hb, hrb, hx, ht, hl, hrl, hf', hU, hM⟩ := HQ.out
          obtain rfl : .ok (x, j) = U := by rw [← hU, if_neg (by simp [h5])]
          have hb2 := Gr.blk (Gr.of g hX6) heg hb
          have hr2 := Gr.blk (Gr.of g hX6) hrg hrb
          obtain ⟨wo, hwo⟩ : ∃ w, (World.drew wr) = w := ⟨_, rfl⟩
          rw [hwo] at hX6 hb2 hr2 ⊢
          obtain ⟨e0, e1, e2, e3, e4, e5, e6⟩ := cells7 hb2
          obtain ⟨r0, r1, r2, r3, r4, r5, r6⟩ := cells7 hr2
          have z0 := blk_free hr2 (k := 0); have z1 := blk_free hr2 (k := 1); have z2 := blk_free hr2 (k := 2); have z3 := blk_free hr2 (k := 3); have z4 := blk_free hr2 (k := 4); have z5 := blk_free hr2 (k := 5); have z6 := blk_free hr2 (k := 6)
          have hre' : eb ≠ rr := fun e => hre e.symm
          have HW := Lib.hid (And.intro (hGw.ext hX6) (And.intro hr2 (And.intro (hx.ext hX6) (hP.ext hX6))))
          clear hGw hG0 hP hb hrb hx ht hl hrl hf' hM hb2 hr2 hX6 HQ t0 t1 t2 lc
          go_wp2_with fail

          refine fin7 rfl HW.out.2.1 rfl fun W' hG' => ⟨HW.out.1.new hG' (by rw [← hrr]; exact Nat.le_refl _), _, rfl, (((HW.out.2.2.1).gr hG' (fun b hb => by omega)).ok (q := fun b => W.heap.size ≤ b) (fun b hb => by omega)).xv, HW.out.2.2.2.gr hG' hgr⟩
end

end Go.Proofs.YtfoclfefjcnllaaGreatDoor

/-
  The parser's one. Helper lemmas; no statement of the seat is proved here.
-/
namespace Go.Proofs.YtfoclfefjcnllaaGreatDoor
open Go.RowKit
set_option maxRecDepth 100000
set_option linter.unusedVariables false
set_option linter.unusedSimpArgs false

def callR (ts : List QT) (en f nest i : Nat) : PR Ex := match argsS (tokP ts en i).text with
      | none => failP ts en 63 i
      | some (lo, hi) => match mustP ts en (i + 1) [40] with
        | .error e => .error e
        | .ok (_, j) => match callP ts en f nest (isP ts en j 6 [41]) [] j with
          | .error e => .error e
          | .ok (l, k) => match mustP ts en k [41] with
            | .error e => .error e
            | .ok (_, m) => if l.length < lo ∨ hi < l.length then .error (64, ((tokP ts en i).at' : Int)) else .ok (.mk [99, 97, 108, 108] (tokP ts en i).text false 0 l false [], m)
theorem oneP_eq (ts : List QT) (en f nest i : Nat) : oneP ts en (f + 1) nest i = if (tokP ts en i).kind = 7 then .ok (.mk [108, 105, 116] (tokP ts en i).text false 0 [] false [], i + 1)
    else if (tokP ts en i).kind = 8 then
      if (parseS (tokP ts en i).text).2 = 0 then .ok (.mk [110, 117, 109] [] (parseS (tokP ts en i).text).1.1 (parseS (tokP ts en i).text).1.2 [] false [], i + 1) else failP ts en (parseS (tokP ts en i).text).2 i
    else if (tokP ts en i).kind = 9 then failP ts en 62 i
    else if (tokP ts en i).kind = 2 then callR ts en f nest i
    else match mustP ts en i [40] with
      | .error e => .error e
      | .ok (_, j) => match exprP ts en f nest j with
        | .error e => .error e
        | .ok (e, k) => match mustP ts en k [41] with
          | .error e => .error e
          | .ok (_, m) => .ok (e, m) := by rw [oneP]; rfl
def KC (g : Nat) (W0 : World) (ts : List QT) (en : Nat) (r : Nat → Nat → PR Ex) : Prop := ∀ (W : World) (i nst : Nat), Gr g W0 W → PS g W ts en i nst → nst ≤ 25 → NoF (r nst i) → (tokP ts en i).kind = 2 →
  Calls Tryz.prog 131 #[.pointer (some ⟨g, 0, none⟩), .agg #[.int .i64 (tokP ts en i).kind, .int .i64 (tokP ts en i).at', .string (bs (tokP ts en i).text)]] W (PX g W ts en nst (fun w' x v => XV w' (fun b => W.heap.size ≤ b) x v) (r nst i))
section
variable {g : Nat} {W0 : World} {ts : List QT} {en : Nat}
set_option maxHeartbeats 32000000 in
theorem one_step (HV : PEnv g W0 ts en) (f : Nat) (HCL : KC g W0 ts en (callR ts en f)) (HE : KE g W0 ts en 29 (exprP ts en f)) : KE g W0 ts en 126 (oneP ts en (f + 1)) := by
  intro W i nst hG hP hn hF
  obtain ⟨R, hR⟩ : ∃ R, oneP ts en (f + 1) nst i = R := ⟨_, rfl⟩
  rw [hR] at hF ⊢
  rw [oneP_eq] at hR
  have HV0 := Lib.hid HV
  have HF := Lib.hid hF
  have hlt := hP.lt
  have hlen := HV.ok.len
  obtain ⟨w1, hw1⟩ : ∃ w, W.alloc (.cells #[.string ⟨#[]⟩, .string ⟨#[]⟩, .bool false, .int .i64 0, .slice none 0 0, .bool false, .slice none 0 0] 29) = w := ⟨_, rfl⟩
  have Ew1 : Ext W w1 := by rw [← hw1]; exact (Ext.refl W).alloc _
  have hbw1 : w1.heap[W.heap.size]? = some (.cells #[.string ⟨#[]⟩, .string ⟨#[]⟩, .bool false, .int .i64 0, .slice none 0 0, .bool false, .slice none 0 0] 29) := by rw [← hw1]; exact Array.getElem?_push_size

  obtain ⟨rr, hrr⟩ : ∃ r, W.heap.size = r := ⟨_, rfl⟩
  rw [hrr] at hbw1
  have hl1 := blk_lt hbw1
  have hrg : rr ≠ g := by omega
  have hgr : g < rr := by omega
  have HTK := Lib.hid (tok_any g w1 ts en i nst HV.ok (hP.ext Ew1))
  have htx := tokP_tx HV.ok i
  have hkl := kind_lt ts en i
  have HCL2 := Lib.hid fun W => HCL W i nst
  unfold tokV at HTK
  obtain ⟨x, hx⟩ : ∃ x, tokP ts en i = x := ⟨_, rfl⟩
  rw [hx] at HTK hR htx hkl HCL2
  have HX := Lib.hid (And.intro hP (And.intro Ew1 (And.intro hbw1 hG)))
  have HR := Lib.hid hR
  clear hR hF hG hP Ew1 hbw1 HV hx
  go_enter Tryz.func126, Tryz.ntmps126
  go_wp2_with fail
  refine HTK.out.mono ?_
  rintro e w2 ⟨rfl, hX2⟩
  clear HTK hw1
  obtain ⟨w3, hw3⟩ : ∃ w, w2.alloc (.cells #[.int .i64 x.kind, .int .i64 x.at', .string (bs x.text)] 111) = w := ⟨_, rfl⟩
  have Ew3 : Ext w2 w3 := by rw [← hw3]; exact (Ext.refl w2).alloc _
  have hbw3 : w3.heap[w2.heap.size]? = some (.cells #[.int .i64 x.kind, .int .i64 x.at', .string (bs x.text)] 111) := by rw [← hw3]; exact Array.getElem?_push_size

  obtain ⟨tb, htb⟩ : ∃ r, w2.heap.size = r := ⟨_, rfl⟩
  rw [htb] at hbw3
  have hE3 := HX.out.2.1.trans (hX2.trans Ew3)
  have hs12 := hX2.size
  have htg : tb ≠ g := by omega
  have htr : tb ≠ rr := by omega
  have hrt : rr < tb := by omega
  have hltb := blk_lt hbw3
  have hr3 := Gr.blk (Gr.of g (hX2.trans Ew3)) hrg HX.out.2.2.1
  have hP3 := HX.out.1.ext hE3
  have HG := Lib.hid (And.intro hE3 (And.intro hP3 (And.intro hr3 hbw3)))
  have hG03 := HX.out.2.2.2.ext hE3
  have HG0 := Lib.hid hG03
  obtain ⟨t0, t1, t2⟩ := cells3 hbw3
  have c1 := hP3.c1; have f1 := hP3.f1
  clear hE3 hP3 hr3 hbw3 Ew3 hX2 HX hG03
  by_cases h7 : x.kind = 7
  · obtain rfl : .ok (.mk [108, 105, 116] x.text false 0 [] false [], i + 1) = R := (if_pos h7).symm.trans HR.out
    have hil : i < ts.length := hkl (by omega)
    have q7 : ((x.kind : Int) == 7) = true := by rw [beq_iff_eq]; omega
    have hiI : (i : Int) ≤ 1000 := by omega
    obtain ⟨wz, hwz⟩ : ∃ w, w3.setCell ⟨g, 1, none⟩ (.int .i64 (i + 1 : Nat)) = w := ⟨_, rfl⟩
    have hwz' : w3.setCell ⟨g, 1, none⟩ (.int .i64 ((i : Int) + 1)) = wz := hwz
    have hPz : PS g wz ts en (i + 1) nst := by rw [← hwz]; exact HG.out.2.1.set (i + 1) hil
    have hGz : Gr g w3 wz := by rw [← hwz]; exact (Gr.refl g w3).set 1 _
    have hrz := Gr.blk hGz hrg HG.out.2.2.1
    obtain ⟨r0, r1, r2, r3, r4, r5, r6⟩ := cells7 hrz
    have z0 := blk_free hrz (k := 0); have z1 := blk_free hrz (k := 1); have z2 := blk_free hrz (k := 2); have z3 := blk_free hrz (k := 3); have z4 := blk_free hrz (k := 4); have z5 := blk_free hrz (k := 5); have z6 := blk_free hrz (k := 6)

    have htz := Gr.blk hGz htg HG.out.2.2.2
    have d2 := blk_cell htz (k := 2) rfl
    have HW := Lib.hid (And.intro ((Gr.of g HG.out.1).trans hGz) (And.intro hrz hPz))
    clear hPz hGz hrz htz hwz HG HR h7 hkl HCL2
    go_wp2_with fail
    refine fin7 rfl HW.out.2.1 rfl fun W' hG' => ⟨HW.out.1.new hG' (by rw [← hrr]; exact Nat.le_refl _), _, rfl, ⟨none, 0, none, 0, rfl, .nil _, .nil _, (show 3 ≤ 1000 by decide), htx⟩, HW.out.2.2.gr hG' hgr⟩
  · have q7 : ((x.kind : Int) == 7) = false := by rw [beq_eq_false_iff_ne]; omega
    replace HR := Lib.hid ((if_neg h7).symm.trans HR.out)
    by_cases h8 : x.kind = 8
    · have hil : i < ts.length := hkl (by omega)
      have q8 : ((x.kind : Int) == 8) = true := by rw [beq_iff_eq]; omega
      replace HR := Lib.hid ((if_pos h8).symm.trans HR.out)
      have HC := Lib.hid (parse_any (bs x.text) w3 (HV0.out.gl w3 HG0.out) (by rw [bs_size]; omega))
      rw [show (bs x.text).data.toList = x.text from by simp [bs]] at HC
      obtain ⟨Q, hQ⟩ : ∃ Q, parseS x.text = Q := ⟨_, rfl⟩
      rw [hQ] at HC
      have hR := HR.out
      rw [hQ] at hR
      obtain ⟨⟨pn, pv⟩, pc⟩ := Q
      dsimp only at hR HC
      clear h7 h8 hkl HCL2 HR hQ
      go_wp2_with fail
      refine HC.out.mono ?_
      rintro e w4 ⟨rfl, hX4⟩
      clear HC hw3
      obtain ⟨w5, hw5⟩ : ∃ w, w4.alloc (.cells #[.bool pn, .int .i64 pv] 25) = w := ⟨_, rfl⟩
      have Ew5 : Ext w4 w5 := by rw [← hw5]; exact (Ext.refl w4).alloc _
      have hbw5 : w5.heap[w4.heap.size]? = some (.cells #[.bool pn, .int .i64 pv] 25) := by rw [← hw5]; exact Array.getElem?_push_size

      have hE5 := hX4.trans Ew5
      have hP5 := HG.out.2.1.ext hE5
      have hr5 := Gr.blk (Gr.of g hE5) hrg HG.out.2.2.1
      have hGW5 := (Gr.of g HG.out.1).ext hE5
      have n0 := blk_cell hbw5 (k := 0) rfl
      have n1 := blk_cell hbw5 (k := 1) rfl
      obtain ⟨nb, hnb⟩ : ∃ r, w4.heap.size = r := ⟨_, rfl⟩
      rw [hnb] at hbw5 n0 n1
      have hs4 := hX4.size
      have hng : nb ≠ g := by omega
      clear Ew5 hX4 t0 t1 t2 c1 f1 hE5
      by_cases h0 : pc = 0
      · obtain rfl : .ok (.mk [110, 117, 109] [] pn pv [] false [], i + 1) = R := (if_pos h0).symm.trans hR
        subst h0
        have c1 := hP5.c1; have f1 := hP5.f1
        have hiI : (i : Int) ≤ 1000 := by omega
        obtain ⟨wz, hwz⟩ : ∃ w, w5.setCell ⟨g, 1, none⟩ (.int .i64 (i + 1 : Nat)) = w := ⟨_, rfl⟩
        have hwz' : w5.setCell ⟨g, 1, none⟩ (.int .i64 ((i : Int) + 1)) = wz := hwz
        have hPz : PS g wz ts en (i + 1) nst := by rw [← hwz]; exact hP5.set (i + 1) hil
        have hGz : Gr g w5 wz := by rw [← hwz]; exact (Gr.refl g w5).set 1 _
        have hrz := Gr.blk hGz hrg hr5
        obtain ⟨r0, r1, r2, r3, r4, r5, r6⟩ := cells7 hrz
        have z0 := blk_free hrz (k := 0); have z1 := blk_free hrz (k := 1); have z2 := blk_free hrz (k := 2); have z3 := blk_free hrz (k := 3); have z4 := blk_free hrz (k := 4); have z5 := blk_free hrz (k := 5); have z6 := blk_free hrz (k := 6)

        have hnz := Gr.blk hGz hng hbw5
        have d0 := blk_cell hnz (k := 0) rfl
        have d1 := blk_cell hnz (k := 1) rfl
        have HW := Lib.hid (And.intro (hGW5.trans hGz) (And.intro hrz hPz))
        clear hPz hGz hrz hnz hwz n0 n1 hbw5 hP5 hr5 hGW5 HG hR
        go_wp2_with fail
        refine fin7 rfl HW.out.2.1 rfl fun W' hG' => ⟨HW.out.1.new hG' (by rw [← hrr]; exact Nat.le_refl _), _, rfl, ⟨none, 0, none, 0, rfl, .nil _, .nil _, (show 3 ≤ 1000 by decide), (show 0 ≤ 1000 by decide)⟩, HW.out.2.2.gr hG' hgr⟩
      · obtain rfl : failP ts en pc i = R := (if_neg h0).symm.trans hR
        have q0 : ((pc : Int) == 0) = false := by rw [beq_eq_false_iff_ne]; exact h0
        have HC := Lib.hid (fail_any g w5 ts en i nst HV0.out.ok hP5 pc)
        have HW := Lib.hid hGW5
        clear hP5 hGW5 hr5 hR HG h0
        go_wp2_with fail
        refine HC.out.mono ?_
        rintro e w6 ⟨rfl, hX6⟩
        exact ⟨rfl, HW.out.ext hX6, rfl⟩
    · have q8 : ((x.kind : Int) == 8) = false := by rw [beq_eq_false_iff_ne]; omega
      replace HR := Lib.hid ((if_neg h8).symm.trans HR.out)
      by_cases h9 : x.kind = 9
      · have q9 : ((x.kind : Int) == 9) = true := by rw [beq_iff_eq]; omega
        obtain rfl : failP ts en 62 i = R := (if_pos h9).symm.trans HR.out
        have HC := Lib.hid (fail_any g w3 ts en i nst HV0.out.ok HG.out.2.1 62)
        clear h7 h8 h9 hkl HR HCL2 c1 f1
        go_wp2_with fail
        refine HC.out.mono ?_
        rintro e w6 ⟨rfl, hX6⟩
        exact ⟨rfl, (Gr.of g HG.out.1).ext hX6, rfl⟩
      · have q9 : ((x.kind : Int) == 9) = false := by rw [beq_eq_false_iff_ne]; omega
        replace HR := Lib.hid ((if_neg h9).symm.trans HR.out)
        by_cases h2 : x.kind = 2
        · have q2 : ((x.kind : Int) == 2) = true := by rw [beq_iff_eq]; omega
          have hR := (if_pos h2).symm.trans HR.out
          have HC := Lib.hid (HCL2.out w3 HG0.out HG.out.2.1 hn (by rw [hR]; exact HF.out) h2)
          rw [hR] at HC
          clear h7 h8 h9 h2 hkl HR HCL2 c1 f1 hR
          go_wp2_with fail
          refine HC.out.mono ?_
          rintro e w4 ⟨hG4, hV⟩
          clear HC hw3 t0 t1 t2
          rcases R with ⟨c, a⟩ | ⟨z, j⟩
          · obtain rfl := hV
            exact ⟨rfl, (Gr.of g HG.out.1).trans hG4, rfl⟩
          · obtain ⟨v, rfl, hz, hP4⟩ := hV
            obtain ⟨aa, ac, ad, ae, rfl, hxw⟩ := XW.of hz
            clear hz
            have hr4 := Gr.blk hG4 hrg HG.out.2.2.1
            obtain ⟨r0, r1, r2, r3, r4, r5, r6⟩ := cells7 hr4
            have z0 := blk_free hr4 (k := 0); have z1 := blk_free hr4 (k := 1); have z2 := blk_free hr4 (k := 2); have z3 := blk_free hr4 (k := 3); have z4 := blk_free hr4 (k := 4); have z5 := blk_free hr4 (k := 5); have z6 := blk_free hr4 (k := 6)
            have HW := Lib.hid (And.intro ((Gr.of g HG.out.1).trans hG4) (And.intro hr4 (And.intro hxw hP4)))
            clear hr4 hxw hP4 hG4 HG
            go_wp2_with fail
            refine fin7 rfl HW.out.2.1 rfl fun W' hG' => ⟨HW.out.1.new hG' (by rw [← hrr]; exact Nat.le_refl _), _, rfl, (((HW.out.2.2.1).gr hG' (fun b hb => by omega)).ok (q := fun b => W.heap.size ≤ b) (fun b hb => by omega)).xv, HW.out.2.2.2.gr hG' hgr⟩
        · have q2 : ((x.kind : Int) == 2) = false := by rw [beq_eq_false_iff_ne]; omega
          have hR := (if_neg h2).symm.trans HR.out
          have HM := Lib.hid (must_any g w3 ts en i nst HV0.out.ok HG.out.2.1 [40])
          obtain ⟨M, hM⟩ : ∃ M, mustP ts en i [40] = M := ⟨_, rfl⟩
          rw [hM] at HM hR
          replace HR := Lib.hid hR
          clear h7 h8 h9 h2 hkl HCL2 c1 f1 hR hM
          go_wp2_with fail
          refine HM.out.mono ?_
          rintro e w4 ⟨hG4, hV⟩
          clear HM hw3 t0 t1 t2
          have hR := HR.out
          rcases M with ⟨c, a⟩ | ⟨u, j⟩
          · obtain rfl := hV
            obtain rfl : _ = R := hR
            exact ⟨rfl, (Gr.of g HG.out.1).trans hG4, rfl⟩
          · obtain ⟨v, rfl, rfl, hP4⟩ := hV
            dsimp only at hR
            have hnf1 : NoF (exprP ts en f nst j) := by
              have h := HF.out
              rw [← hR] at h
              revert h
              cases exprP ts en f nst j with
              | error e => exact fun h => h
              | ok x => exact fun _ => trivial
            have HC := Lib.hid (HE w4 j nst (HG0.out.trans hG4) hP4 hn hnf1)
            obtain ⟨X, hX⟩ : ∃ X, exprP ts en f nst j = X := ⟨_, rfl⟩
            rw [hX] at HC hR
            replace HR := Lib.hid hR
            have HY := Lib.hid (And.intro ((Gr.of g HG.out.1).trans hG4) (Gr.blk hG4 hrg HG.out.2.2.1))
            have hs4 := hG4.size
            clear hR hnf1 hX hG4 hP4 HG
            go_wp2_with fail
            refine HC.out.mono ?_
            rintro e w5 ⟨hG5, hV⟩
            clear HC
            have hR := HR.out
            rcases X with ⟨c, a⟩ | ⟨z, k⟩
            · obtain rfl := hV
              obtain rfl : _ = R := hR
              exact ⟨rfl, HY.out.1.trans hG5, rfl⟩
            · obtain ⟨v, rfl, hz, hP5⟩ := hV
              obtain ⟨aa, ac, ad, ae, rfl, hxw⟩ := XW.of hz
              clear hz
              dsimp only at hR
              obtain ⟨w6, hw6⟩ : ∃ w, w5.alloc (.cells #[.string (bs z.op), .string (bs z.text), .bool z.nan, .int .i64 z.val, .slice aa z.args.length ac, .bool z.abs, .slice ad z.steps.length ae] 29) = w := ⟨_, rfl⟩
              have Ew6 : Ext w5 w6 := by rw [← hw6]; exact (Ext.refl w5).alloc _
              have hbw6 : w6.heap[w5.heap.size]? = some (.cells #[.string (bs z.op), .string (bs z.text), .bool z.nan, .int .i64 z.val, .slice aa z.args.length ac, .bool z.abs, .slice ad z.steps.length ae] 29) := by rw [← hw6]; exact Array.getElem?_push_size

              obtain ⟨eb, heb⟩ : ∃ r, w5.heap.size = r := ⟨_, rfl⟩
              rw [heb] at hbw6
              have hs5 := hG5.size
              have heg : eb ≠ g := by have := hP5.lt; omega
              have HM := Lib.hid (must_any g w6 ts en k nst HV0.out.ok (hP5.ext Ew6) [41])
              obtain ⟨M, hM⟩ : ∃ M, mustP ts en k [41] = M := ⟨_, rfl⟩
              rw [hM] at HM hR
              replace HR := Lib.hid hR
              have HZ := Lib.hid (And.intro ((HY.out.1.trans hG5).ext Ew6) (And.intro (Gr.blk (hG5.ext Ew6) hrg HY.out.2) (And.intro (hxw.ext Ew6) hbw6)))
              clear hR hM hG5 hP5 hxw Ew6 hbw6 HY
              go_wp2_with fail
              refine HM.out.mono ?_
              rintro e w7 ⟨hG7, hV⟩
              clear HM hw6
              have hR := HR.out
              rcases M with ⟨c, a⟩ | ⟨u, m⟩
              · obtain rfl := hV
                obtain rfl : _ = R := hR
                exact ⟨rfl, HZ.out.1.trans hG7, rfl⟩
              · obtain ⟨v, rfl, rfl, hP7⟩ := hV
                obtain rfl : .ok (z, m) = R := hR
                obtain ⟨hGz, hrz, hxz, hbz⟩ := HZ.out
                have hr7 := Gr.blk hG7 hrg hrz
                have hb7 := Gr.blk hG7 heg hbz
                obtain ⟨r0, r1, r2, r3, r4, r5, r6⟩ := cells7 hr7
                obtain ⟨e0, e1, e2, e3, e4, e5, e6⟩ := cells7 hb7
                have z0 := blk_free hr7 (k := 0); have z1 := blk_free hr7 (k := 1); have z2 := blk_free hr7 (k := 2); have z3 := blk_free hr7 (k := 3); have z4 := blk_free hr7 (k := 4); have z5 := blk_free hr7 (k := 5); have z6 := blk_free hr7 (k := 6)
                have her : eb ≠ rr := by omega
                have HW := Lib.hid (And.intro (hGz.trans hG7) (And.intro hr7 (And.intro (hxz.gr hG7 (fun b hb => by omega)) hP7)))
                clear hGz hrz hxz hbz hr7 hb7 hG7 hP7 HZ
                go_wp2_with fail
                refine fin7 rfl HW.out.2.1 rfl fun W' hG' => ⟨HW.out.1.new hG' (by rw [← hrr]; exact Nat.le_refl _), _, rfl, (((HW.out.2.2.1).gr hG' (fun b hb => by omega)).ok (q := fun b => W.heap.size ≤ b) (fun b hb => by omega)).xv, HW.out.2.2.2.gr hG' hgr⟩
end

end Go.Proofs.YtfoclfefjcnllaaGreatDoor
