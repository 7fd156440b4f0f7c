/-
 past.Parts. Helper lemmas; no statement of the seat is proved here.
-/
import Derived.Test.YtkelpbbekeelcaaGreatDoorU14
import Derived.Test.YtkelpbbekeelcaaGreatDoorU18
import Derived.Test.YtkelpbbekeelcaaGreatDoorU12
import Derived.Test.YtkelpbbekeelcaaGreatDoorU17
namespace Go.Proofs.YtkelpbbekeelcaaGreatDoor
open Go.RowKit
set_option maxRecDepth 100000
set_option linter.unusedVariables false
set_option linter.unusedSimpArgs false

/-- Sets, one behind another. -/
def setsD (l : List (List Span)) : DV := .s 1 (l.flatMap fun x => [spansD x])
theorem z_spans (x : List Span) : ([spansD x] : List DV).length = 1 := rfl
theorem one_spans (x : List Span) : ∀ e ∈ ([spansD x] : List DV), e.one = true := by intro e he; simp at he; subst he; rfl
theorem spans_at {w : World} {p : Nat → Prop} {a : Option Addr} {len cap : Nat} {l : List (List Span)} (h : Rep w p (.slice a len cap) (setsD l)) (i : Nat) (hi : i < l.length) :
  ∃ b off u, a = some ⟨b, off, none⟩ ∧ b < w.heap.size ∧ p b ∧ w.cell? ⟨b, off + i, none⟩ = some u ∧ Rep w p u (spansD l[i]) := by
 obtain ⟨b, off, ha, hb, hp, hc⟩ := elem_at z_spans h (by omega) i hi
 obtain ⟨u, hu, hr⟩ := hc 0 _ rfl
 rw [Nat.mul_one, Nat.add_zero] at hu
 exact ⟨b, off, u, ha, hb, hp, hu, hr⟩
theorem infoSpans : (Tryz.prog.info? 30).map (fun i => (i.zero, i.size, i.bytes)) = some (some (.slice none 0 0), 1, 24) := by kernel_rfl
/-- What Parts tells: the versions of the parts, or an error of a place. -/
def RetPs (q : Nat → Prop) (r : Option (ANode × List Span) × Nat) (e : Ending) (w : World) : Prop :=
 match r.1 with
 | some (n, vs) => ∃ sv, e = .returned (.tuple #[sv, .nilIface]) ∧ Rep w q sv (setsD (n.parts.map fun p => eitherS p.vers vs))
 | none => ∃ ev, e = .returned (.tuple #[.slice none 0 0, ev]) ∧ ∃ lo, ErrV w lo 32 r.2 ev
set_option maxHeartbeats 8000000 in
theorem pparts_any (last : Int) (root : ANode) (x : List Step) (p : Nat → Prop) (vk vv vp vc vx : Value) (w : World) (hb : vB root = true) (hxl : x.length ≤ 1048576)
  (hpb : ∀ n vs, (findA last root x).1 = some (n, vs) → n.parts.length ≤ 1048576 ∧ vs.length ≤ 1048576 ∧ ∀ q ∈ n.parts, q.vers.length ≤ 1048576)
  (hvk : Rep w p vk (strsD root.key)) (hvv : Rep w p vv (spansD root.vers)) (hvp : Rep w p vp (partsD root.parts)) (hvc : Rep w p vc (anodesD root.kids)) (hvx : Rep w p vx (stepsD x)) :
  Calls Tryz.prog 18 #[.agg #[.int .i64 last, .string (bs root.name), vk, vv, vp, vc], vx] w fun e w' => RetPs (fun _ => True) (findA last root x) e w' ∧ Ext w w' := by
 have hE1 : Ext w (w.alloc (.cells #[.int .i64 last, .string (bs root.name), vk, vv, vp, vc] 36)) := (Ext.refl w).alloc _
 have HC := Lib.hid (find_any last root x (fun b => b < w.heap.size) vk vv vp vc vx _ hb hxl ((hvk.lt.ext hE1).ok fun b hb => hb.2) ((hvv.lt.ext hE1).ok fun b hb => hb.2) ((hvp.lt.ext hE1).ok fun b hb => hb.2) ((hvc.lt.ext hE1).ok fun b hb => hb.2) ((hvx.lt.ext hE1).ok fun b hb => hb.2))
 obtain ⟨rk, rkc, rfl, _, _⟩ := hvk.count z_str (by omega)
 obtain ⟨rv, rvc, rfl, _, _⟩ := hvv.count z_span (by omega)
 obtain ⟨rp, rpc, rfl, _, _⟩ := hvp.count z_part (by omega)
 obtain ⟨rc, rcc, rfl, _, _⟩ := hvc.count z_anode (by omega)
 obtain ⟨xa, xc, rfl, hx1, hx2⟩ := hvx.count z_step (by omega)
 obtain ⟨R, hR⟩ : ∃ R, findA last root x = R := ⟨_, rfl⟩
 rw [hR] at HC hpb ⊢
 have HE1 := Lib.hid hE1
 have HPB := Lib.hid hpb
 clear hR hb hvk hvv hvp hvc hvx hE1 hpb
 go_enter Tryz.func18, Tryz.ntmps18
 go_wp2_with fail
 refine HC.out.mono ?_
 rintro e w2 ⟨hr, hB2⟩
 have hE2 := HE1.out.trans hB2
 obtain ⟨o, j⟩ := R
 cases o with
 | none =>
  obtain ⟨ev, rfl, lo, hev⟩ := hr
  have HEV := Lib.hid hev
  obtain ⟨eb1, eb2, rfl, _⟩ := hev
  go_wp2_with fail
  go_ret2
  exact ⟨⟨_, rfl, lo, HEV.out.ext ((Ext.refl w2).alloc _)⟩, hE2.alloc _⟩
 | some nv =>
  obtain ⟨n, vs⟩ := nv
  obtain ⟨hpl, hvl, hpv⟩ := HPB.out n vs rfl
  obtain ⟨k, v, pa, c, kc, vc', pc, cc, sv, rfl, hk, hv, hpa, hc, hsv⟩ := hr
  obtain ⟨sa, sc, rfl, _, _⟩ := hsv.count z_span (by omega)
  obtain ⟨ps, hps⟩ : ∃ ps, n.parts = ps := ⟨_, rfl⟩
  obtain ⟨m0, mi, mz0, mz1, mz2⟩ := info_parts infoSpans
  simp only [hps] at hpl hpv hpa ⊢
  have HPS := Lib.hid hps
  have HPV := Lib.hid hpv
  obtain ⟨R, hR⟩ : ∃ R, (ps.map fun p => eitherS p.vers vs) = R := ⟨_, rfl⟩
  have HR : Hid (ps.map (fun p => eitherS p.vers vs) = R) := Lib.hid hR
  clear HC HPB HE1 hk hv hc hpv hps hB2 hR
  go_wp2_with fail
  obtain ⟨w3, hw3⟩ : ∃ w3, (w2.alloc (.cells #[.string (bs n.name), .slice k n.key.length kc, .slice v n.vers.length vc', .slice pa ps.length pc, .slice c n.kids.length cc] 34)) = w3 := ⟨_, rfl⟩
  have hE3 : Ext w w3 := by rw [← hw3]; exact hE2.alloc _
  have hsv3 : Rep w3 (fun b => b < w3.heap.size) (.slice sa vs.length sc) (spansD vs) := by rw [← hw3]; exact ((hsv.ext ((Ext.refl w2).alloc _)).lt.ok fun b hb => hb.2)
  have hpa3 : Rep w3 (fun b => b < w3.heap.size) (.slice pa ps.length pc) (partsD ps) := by rw [← hw3]; exact ((hpa.ext ((Ext.refl w2).alloc _)).lt.ok fun b hb => hb.2)
  rw [hw3]
  clear hw3 hsv hpa hE2
  go_loopw [9, 11, 25] (fun o _ t wr => ∃ (i : Nat) (L : List (List Span)) (dv : Value), t = .int .i64 i ∧ dv = o ∧ i ≤ ps.length ∧ Ext w3 wr ∧ Hid (L = (ps.take i).map (fun p => eitherS p.vers vs) ∧ Own wr (fun b => w3.heap.size ≤ b) w3.heap.size 30 1 dv L.length (L.flatMap fun x => [spansD x]))) (fun _ _ t _ => downV ps.length t)
  case atStart => exact ⟨0, [], _, rfl, rfl, Nat.zero_le _, Ext.refl _, Lib.hid ⟨by simp, Own.nil _ _ _ _ _⟩⟩
  case round =>
   obtain ⟨i, L, dv, rfl, rfl, hi2, hX, HI⟩ := hrel
   have hi0 : (0 : Int) ≤ (i : Int) := by omega
   have hwz := hX.size
   by_cases hlt : i < ps.length
   ·
    have hlI : (i : Int) < (ps.length : Int) := by omega
    obtain ⟨g, o, x0, x1, x2, rfl, lg, _, d0, d1, d2, hx0, hx1, hx2⟩ := part_at (hpa3.ext hX) i hlt
    have hvq := HPV.out ps[i] (List.getElem_mem hlt)
    have HN : Hid (L ++ [eitherS ps[i].vers vs] = (ps.take (i + 1)).map (fun p => eitherS p.vers vs)) := Lib.hid (by rw [List.take_add_one, List.getElem?_eq_getElem hlt, List.map_append, HI.out.1]; rfl)
    obtain ⟨q, hq⟩ : ∃ q, ps[i] = q := ⟨_, rfl⟩
    rw [hq] at hx0 hx1 hx2 hvq HN
    have HEI := Lib.hid fun W (hE : Ext wr W) => either_any q.vers vs _ _ x0 (.slice sa vs.length sc) W hvq hvl (hx0.ext hE) (hsv3.ext (hX.trans hE))
    obtain ⟨y0, y0c, rfl, _, _⟩ := hx0.count z_span (by omega)
    obtain ⟨y1, y1c, rfl, _, _⟩ := hx1.count z_attr (by omega)
    obtain ⟨y2, y2c, rfl, _, _⟩ := hx2.count z_node (by omega)
    have hLl : L.length ≤ 1048576 := by rw [HI.out.1]; simp; omega
    have hown := HI.out.2
    have HLI : Hid (L.length = i) := Lib.hid (by rw [HI.out.1]; simp; omega)
    obtain ⟨us, hrow, hreps⟩ := hown.rows
    clear hq HI hx0 hx1 hx2 hown
    go_wp2_with fail
    refine (HEI.out _ ((Ext.refl wr).alloc _)).mono ?_
    rintro e w4 ⟨⟨u, rfl, hu⟩, hB4⟩
    obtain ⟨es, hes⟩ : ∃ E, eitherS q.vers vs = E := ⟨_, rfl⟩
    rw [hes] at hu HN
    obtain ⟨ua, uc, rfl, _, _⟩ := hu.count z_span (by omega)
    have hXr4 := ((Ext.refl wr).alloc (.cells #[.slice y0 q.vers.length y0c, .slice y1 q.attrs.length y1c, .slice y2 q.kids.length y2c] 100)).trans hB4
    have hrow4 := rows_ext hrow hXr4
    have hw4 := hXr4.size
    have hgr := hB4.size
    have hu := hu.ok (q := fun b => wr.heap.size < b) fun b hb => by simp at hb; omega
    have hgr2 : wr.heap.size < w4.heap.size := by simp at hgr; omega
    go_wp2_with (at_builtin; refine wpList_append_own_at _ rfl (.tmp 29) (.tmp 34) _ rfl w3.heap.size 30 m0 (.slice none 0 0) 1 24 Tryz.underlying51 mi mz0 mz1 mz2 rfl (by decide) dv L.length us rfl (hrow4.alloc _) ⟨w4.heap.size, 0, none⟩ 1 1 [.slice ua es.length uc] rfl rfl new_one (by intro v hv; simp at hv; rcases hv with rfl; rfl) (by unfold maxLen; omega) (by omega) (by simp; omega) ?_; intro v2 w5 hown2 hgrow2 _ hat2)
    have hX5 : Ext w3 w5 := (hX.trans hXr4).grown_own (hrow4) hgrow2
    have hO5 : Own w5 (fun b => w3.heap.size ≤ b) w3.heap.size 30 1 v2 (L ++ [es]).length ((L ++ [es]).flatMap fun x => [spansD x]) := by
     rw [List.length_append, List.flatMap_append]
     refine Own.push (w := w4.alloc (.cells #[.slice ua es.length uc] 30)) (((hreps.ext hXr4).ext ((Ext.refl w4).alloc _)).ok fun b hb => ⟨hb.1, hb.2.1, by simp; omega⟩) (Reps.cons ((hu.lt.ext ((Ext.refl w4).alloc _)).ok fun b hb => ⟨by omega, fun e => by have := (own_lt hrow e).2; omega, by simp; omega⟩) (Reps.nil _ _)) hown2 hgrow2 hat2
    have HN2 := Lib.hid (And.intro HN.out hO5)
    clear hown2 hgrow2 hrow hrow4 hreps hat2 hO5 hu HEI HN
    go_wp2_with fail
    go_roundw
    case rel => exact ⟨i + 1, L ++ [es], v2, by go_num, rfl, by omega, hX5, HN2⟩
    case measure => simp only [downV]; omega
   ·
    have hlI : ¬ (i : Int) < (ps.length : Int) := by omega
    have hL : L = ps.map fun p => eitherS p.vers vs := by rw [HI.out.1, List.take_of_length_le (by omega)]
    have hrep := HI.out.2.rep
    have HZ := Lib.hid (And.intro hL hrep)
    clear HI hL hrep
    go_wp2_with fail
    go_ret2
    refine ⟨⟨_, rfl, ?_⟩, hE3.trans hX⟩
    rw [HPS.out, ← HZ.out.1]
    exact HZ.out.2.ok fun _ _ => trivial
end Go.Proofs.YtkelpbbekeelcaaGreatDoor

/-
 ivset.First and Last, at sets that are some. Helper lemmas; no statement of the seat is proved here.
-/
namespace Go.Proofs.YtkelpbbekeelcaaGreatDoor
open Go.RowKit
set_option maxRecDepth 100000
set_option linter.unusedVariables false
set_option linter.unusedSimpArgs false

theorem mayI_of : ∀ (l : List Span) (lo ahead : Int), mayG lo l → 1 ≤ lo → (ahead < 0 ∨ ahead + 2 ≤ lo) → mayI l ahead = true
 | [], _, _, _, _, _ => rfl
 | s :: r, lo, ahead, ⟨h1, h2, h3, h4⟩, h, ha => by
  have v1 : verB s.a = true := decide_eq_true (by omega)
  have v2 : verB s.b = true := decide_eq_true (by omega)
  rw [mayI, if_pos v1, if_pos v2, if_neg (by omega), if_neg (by omega)]
  exact mayI_of r _ _ h4 (by omega) (.inr (Int.le_refl _))
theorem lastS_get : ∀ (l : List Span) (h : l.length - 1 < l.length), lastS l = l[l.length - 1].b
 | [], h => absurd h (Nat.not_lt_zero _)
 | [s], h => rfl
 | s :: t :: r, h => by
  rw [lastS, lastS_get (t :: r) (by simp)]
  simp
set_option maxHeartbeats 4000000 in
theorem first_any (x : List Span) (hm : mayG 1 x) (hne : x ≠ []) (p : Nat → Prop) (v : Value) (w : World) (h : Rep w p v (spansD x)) :
  Calls Tryz.prog 20 #[v] w fun e w' => e = .returned (.int .i64 (firstS x)) ∧ Ext w w' := by
 have HM := Lib.hid (may_set x p v w h)
 rw [mayI_of x 1 (-1) hm (by omega) (.inl (by omega))] at HM
 cases x with
 | nil => exact absurd rfl hne
 | cons s r =>
  obtain ⟨a, c, rfl, hc1, hc2⟩ := h.count z_span (by omega)
  have hl : 0 < (s :: r).length := by simp
  obtain ⟨g, o, rfl, lg, _, d0, d1⟩ := span_at h 0 hl
  rw [Nat.zero_mul, Nat.add_zero] at d0
  rw [List.getElem_cons_zero] at d0
  have HD := Lib.hid (And.intro lg d0)
  obtain ⟨n, hn⟩ : ∃ n, (s :: r).length = n := ⟨_, rfl⟩
  rw [hn] at HM hl hc1
  rw [hn]
  have q0 : ((n : Int) == 0) = false := by rw [beq_eq_false_iff_ne]; omega
  have q1 : (0 : Int) < (n : Int) := by omega
  clear h hm hne d0 d1 hn
  go_enter Tryz.func20, Tryz.ntmps20
  go_wp2_with fail
  refine HM.out.mono ?_
  rintro e w1 ⟨rfl, hB1⟩
  have d0 := hB1.keep HD.out.1 HD.out.2
  go_wp2_with fail
  go_ret
  exact ⟨rfl, hB1⟩
set_option maxHeartbeats 4000000 in
theorem last_any (x : List Span) (hm : mayG 1 x) (hne : x ≠ []) (p : Nat → Prop) (v : Value) (w : World) (h : Rep w p v (spansD x)) :
  Calls Tryz.prog 22 #[v] w fun e w' => e = .returned (.int .i64 (lastS x)) ∧ Ext w w' := by
 have HM := Lib.hid (may_set x p v w h)
 rw [mayI_of x 1 (-1) hm (by omega) (.inl (by omega))] at HM
 obtain ⟨a, c, rfl, hc1, hc2⟩ := h.count z_span (by omega)
 have hl : 0 < x.length := List.length_pos_iff.2 hne
 obtain ⟨g, o, rfl, lg, _, d0, d1⟩ := span_at h (x.length - 1) (by omega)
 have hls := lastS_get x (by omega)
 rw [← hls] at d1
 obtain ⟨L, hL⟩ : ∃ L, lastS x = L := ⟨_, rfl⟩
 rw [hL] at d1
 have HL := Lib.hid hL
 have HD := Lib.hid (And.intro lg d1)
 obtain ⟨m, hmn⟩ : ∃ m, x.length - 1 = m := ⟨_, rfl⟩
 rw [hmn] at HD
 obtain ⟨n, hn⟩ : ∃ n, x.length = n := ⟨_, rfl⟩
 have hmn' : n = m + 1 := by omega
 rw [hn] at HM hl hc1
 rw [hn]
 subst hmn'
 have q0 : (((m + 1 : Nat) : Int) == 0) = false := by rw [beq_eq_false_iff_ne]; omega
 have q5 : IntKind.i64.wrap (((m + 1 : Nat) : Int) - 1) = (m : Int) := by rw [show (((m + 1 : Nat) : Int) - 1) = (m : Int) by omega]; exact IntWalk.i64_in _ (by omega)
 have m0 : (0 : Int) ≤ (m : Int) := by omega
 have q1 : (m : Int) < ((m + 1 : Nat) : Int) := by omega
 clear h hm hne d0 d1 hn hL hmn hls
 go_enter Tryz.func22, Tryz.ntmps22
 go_wp2_with fail
 refine HM.out.mono ?_
 rintro e w1 ⟨rfl, hB1⟩
 have d0 := hB1.keep HD.out.1 HD.out.2
 go_wp2_with fail
 go_ret
 exact ⟨by rw [HL.out]; rfl, hB1⟩
end Go.Proofs.YtkelpbbekeelcaaGreatDoor

/-
 The parts of an element of the archive of documents, plain: what their versions are. Helper lemmas; no statement of the seat is proved here.
-/
namespace Go.Proofs.YtkelpbbekeelcaaGreatDoor
open Go.RowKit
set_option maxRecDepth 100000
set_option linter.unusedVariables false
set_option linter.unusedSimpArgs false

theorem lastP_at (la : List Attr) (ks : List Node) : ∀ (x : List Part) (i : Nat) (r : Int), lastP la ks x i r = r ∨ ∃ (j : Nat) (h : j < x.length), lastP la ks x i r = ((i + j : Nat) : Int) ∧ x[j].attrs = la ∧ x[j].kids = ks
 | [], i, r => .inl rfl
 | a :: x, i, r => by
  rw [lastP]
  rcases lastP_at la ks x (i + 1) (if attrsS a.attrs la = true ∧ sameL a.kids ks = true then (i : Int) else r) with h | ⟨j, hj, h1, h2, h3⟩
  ·
   rw [h]
   split
   ·
    rename_i c
    exact .inr ⟨0, by simp, by simp, (attrsS_iff _ _).1 c.1, (sameL_iff _ _).1 c.2⟩
   ·
    exact .inl rfl
  ·
   exact .inr ⟨j + 1, by simpa using hj, by rw [h1]; congr 1; omega, by simpa using h2, by simpa using h3⟩
/-- What parts are, on the way. -/
structure PInv (whole : Bool) (done : List Held) (g : List Part × List (List Int)) : Prop where
 len : g.1.length = g.2.length
 short : g.2.length ≤ done.length
 bare : ∀ p ∈ g.1, p.vers = []
 ne : ∀ L ∈ g.2, L ≠ []
 of : ∀ (k : Nat) (h : k < g.2.length) (h' : k < g.1.length) (v : Int), v ∈ g.2[k] → ∃ d ∈ done, d.v = v ∧ d.n.attrs = g.1[k].attrs ∧ kidsW whole d.n = g.1[k].kids
 all : ∀ d ∈ done, ∃ (k : Nat) (h : k < g.2.length), d.v ∈ g.2[k]
 rise : ∀ (i k : Nat) (hi : i < g.2.length) (hk : k < g.2.length), i < k → ∃ u ∈ g.2[i], ∀ v ∈ g.2[k], u < v
 apart : ∀ (i k : Nat) (hi : i < g.2.length) (hk : k < g.2.length), i < k → ∀ v ∈ g.2[i], v ∉ g.2[k]
theorem PInv.ver {whole : Bool} {done : List Held} {g : List Part × List (List Int)} (h : PInv whole done g) {h0 : Held} (hlt : ∀ d ∈ done, d.v < h0.v) {k : Nat} (hk : k < g.2.length) {v : Int} (hv : v ∈ g.2[k]) : v < h0.v := by
 obtain ⟨d, hd, e, _⟩ := h.of k hk (by rw [h.len]; exact hk) v hv
 rw [← e]; exact hlt d hd
theorem addP_inv (whole : Bool) (done : List Held) (g : List Part × List (List Int)) (h : Held) (hi : PInv whole done g) (hlt : ∀ d ∈ done, d.v < h.v) : PInv whole (done ++ [h]) (addP whole h g) := by
 obtain ⟨S, V⟩ := g
 have hlen := hi.len
 have hver : ∀ {k : Nat} (hk : k < V.length) {v : Int}, v ∈ V[k] → v < h.v := fun {k} hk {v} hv => hi.ver hlt hk hv
 simp only at hlen
 by_cases hc : lastP h.n.attrs (kidsW whole h.n) S 0 (-1) < 0
 ·
  have ha : addP whole h (S, V) = (S ++ [⟨[], h.n.attrs, kidsW whole h.n⟩], V ++ [[h.v]]) := by unfold addP; rw [if_pos hc]
  rw [ha]
  refine ⟨by simp [hlen], by have := hi.short; simp only [List.length_append, List.length_cons, List.length_nil] at this ⊢; omega, fun p hp => ?_, fun L hL => ?_, fun k hk hk' v hv => ?_, fun d hd => ?_, fun i k hik hkk hlt' => ?_, fun i k hik hkk hlt' v hv => ?_⟩
  ·
   rcases List.mem_append.1 hp with hp | hp
   ·
    exact hi.bare p hp
   ·
    rw [List.mem_singleton.1 hp]
  ·
   rcases List.mem_append.1 hL with hL | hL
   ·
    exact hi.ne L hL
   ·
    rw [List.mem_singleton.1 hL]; simp
  ·
   by_cases hk2 : k < V.length
   ·
    simp only [List.getElem_append_left hk2] at hv
    obtain ⟨d, hd, e1, e2, e3⟩ := hi.of k hk2 (by simp only; omega) v hv
    simp only [List.getElem_append_left (show k < S.length by omega)]
    exact ⟨d, List.mem_append_left _ hd, e1, e2, e3⟩
   ·
    have hkk : k = V.length := by simp at hk; omega
    subst hkk
    simp only [List.getElem_append_right (Nat.le_refl _), Nat.sub_self, List.getElem_cons_zero, List.mem_singleton] at hv
    have hs : S.length = V.length := hlen
    refine ⟨h, by simp, hv.symm, ?_, ?_⟩
    ·
     simp only [List.getElem_append_right (show S.length ≤ V.length by omega), hs, Nat.sub_self, List.getElem_cons_zero]
    ·
     simp only [List.getElem_append_right (show S.length ≤ V.length by omega), hs, Nat.sub_self, List.getElem_cons_zero]
  ·
   rcases List.mem_append.1 hd with hd | hd
   ·
    obtain ⟨k, hk, hv⟩ := hi.all d hd
    exact ⟨k, by simp only [List.length_append]; simp only at hk; omega, by simp only [List.getElem_append_left hk]; exact hv⟩
   ·
    rw [List.mem_singleton.1 hd]
    exact ⟨V.length, by simp, by simp⟩
  ·
   have hiV : i < V.length := by simp only [List.length_append, List.length_cons, List.length_nil] at hkk; omega
   simp only [List.getElem_append_left hiV]
   by_cases hk2 : k < V.length
   ·
    simp only [List.getElem_append_left hk2]
    exact hi.rise i k hiV hk2 hlt'
   ·
    have hkk : k = V.length := by simp at hkk; omega
    subst hkk
    obtain ⟨u, hu⟩ := List.exists_mem_of_ne_nil _ (hi.ne V[i] (List.getElem_mem hiV))
    refine ⟨u, hu, fun v hv => ?_⟩
    simp only [List.getElem_append_right (Nat.le_refl _), Nat.sub_self, List.getElem_cons_zero, List.mem_singleton] at hv
    rw [hv]; exact hver hiV hu
  ·
   have hiV : i < V.length := by simp only [List.length_append, List.length_cons, List.length_nil] at hkk; omega
   simp only [List.getElem_append_left hiV] at hv
   by_cases hk2 : k < V.length
   ·
    simp only [List.getElem_append_left hk2]
    exact hi.apart i k hiV hk2 hlt' v hv
   ·
    have hkk : k = V.length := by simp at hkk; omega
    subst hkk
    simp only [List.getElem_append_right (Nat.le_refl _), Nat.sub_self, List.getElem_cons_zero, List.mem_singleton]
    have := hver hiV hv; omega
 ·
  obtain ⟨j, hj, e1, e2, e3⟩ : ∃ (j : Nat) (hj : j < S.length), lastP h.n.attrs (kidsW whole h.n) S 0 (-1) = (j : Int) ∧ S[j].attrs = h.n.attrs ∧ S[j].kids = kidsW whole h.n := by
   rcases lastP_at h.n.attrs (kidsW whole h.n) S 0 (-1) with e | ⟨j, hj, e1, e2, e3⟩
   ·
    rw [e] at hc; exact absurd (by decide) hc
   ·
    exact ⟨j, hj, by rw [e1]; congr 1; omega, e2, e3⟩
  have ha : addP whole h (S, V) = (S, V.modify j (· ++ [h.v])) := by unfold addP; rw [if_neg hc, e1, Int.toNat_natCast]
  rw [ha]
  have hmem : ∀ (k : Nat) (hk : k < (V.modify j (· ++ [h.v])).length) (hk' : k < V.length) (v : Int), v ∈ (V.modify j (· ++ [h.v]))[k] ↔ v ∈ V[k] ∨ (j = k ∧ v = h.v) := by
   intro k hk hk' v
   rw [List.getElem_modify]
   split
   ·
    rename_i e; simp [e]
   ·
    rename_i e; simp [e]
  have hml : (V.modify j (· ++ [h.v])).length = V.length := by simp
  refine ⟨by rw [hml]; exact hlen, by rw [hml]; have := hi.short; simp only [List.length_append] at this ⊢; simp only [List.length_cons, List.length_nil]; omega, fun p hp => hi.bare p hp, fun L hL => ?_, fun k hk hk' v hv => ?_, fun d hd => ?_, fun i k hik hkk hlt' => ?_, fun i k hik hkk hlt' v hv => ?_⟩
  ·
   obtain ⟨k, hk, rfl⟩ := List.getElem_of_mem hL
   simp only [hml] at hk
   obtain ⟨u, hu⟩ := List.exists_mem_of_ne_nil _ (hi.ne V[k] (List.getElem_mem hk))
   exact List.ne_nil_of_mem ((hmem k (by rw [hml]; exact hk) hk u).2 (.inl hu))
  ·
   simp only [hml] at hk
   rcases (hmem k (by rw [hml]; exact hk) hk v).1 hv with hq | ⟨e, hq⟩
   ·
    obtain ⟨d, hd, a, b, c⟩ := hi.of k hk (by simp only; omega) v hq
    exact ⟨d, List.mem_append_left _ hd, a, b, c⟩
   ·
    subst e
    exact ⟨h, by simp, hq.symm, e2.symm, e3.symm⟩
  ·
   rcases List.mem_append.1 hd with hd | hd
   ·
    obtain ⟨k, hk, hv⟩ := hi.all d hd
    simp only at hk hv
    exact ⟨k, by rw [hml]; exact hk, (hmem k (by rw [hml]; exact hk) hk _).2 (.inl hv)⟩
   ·
    rw [List.mem_singleton.1 hd]
    have hjV : j < V.length := by omega
    exact ⟨j, by rw [hml]; exact hjV, (hmem j (by rw [hml]; exact hjV) hjV _).2 (.inr ⟨rfl, rfl⟩)⟩
  ·
   simp only [hml] at hik hkk
   obtain ⟨u, hu, huv⟩ := hi.rise i k hik hkk hlt'
   refine ⟨u, (hmem i (by rw [hml]; exact hik) hik u).2 (.inl hu), fun v hv => ?_⟩
   rcases (hmem k (by rw [hml]; exact hkk) hkk v).1 hv with hv | ⟨_, hv⟩
   ·
    exact huv v hv
   ·
    rw [hv]; exact hver hik hu
  ·
   simp only [hml] at hik hkk
   intro hv2
   rcases (hmem i (by rw [hml]; exact hik) hik v).1 hv with hv | ⟨e, hv⟩
   ·
    rcases (hmem k (by rw [hml]; exact hkk) hkk v).1 hv2 with hv2 | ⟨_, hv2⟩
    ·
     exact hi.apart i k hik hkk hlt' v hv hv2
    ·
     have := hver hik hv; omega
   ·
    rcases (hmem k (by rw [hml]; exact hkk) hkk v).1 hv2 with hv2 | ⟨e2, _⟩
    ·
     have := hver hkk hv2; omega
    ·
     omega
theorem partsG_inv (whole : Bool) : ∀ (hs done : List Held) (g : List Part × List (List Int)), PInv whole done g → (∀ d ∈ done, ∀ h ∈ hs, d.v < h.v) → hs.Pairwise (fun a b => a.v < b.v) → PInv whole (done ++ hs) (partsG whole hs g)
 | [], done, g, hi, _, _ => by rw [List.append_nil]; exact hi
 | h :: r, done, g, hi, hd, hp => by
  rw [List.pairwise_cons] at hp
  rw [partsG, show done ++ h :: r = (done ++ [h]) ++ r by simp]
  refine partsG_inv whole r _ _ (addP_inv whole done g h hi fun d hm => hd d hm h List.mem_cons_self) (fun d hm k hk => ?_) hp.2
  rcases List.mem_append.1 hm with hm | hm
  ·
   exact hd d hm k (List.mem_cons_of_mem _ hk)
  ·
   rw [List.mem_singleton.1 hm]; exact hp.1 k hk
theorem partsG_all (whole : Bool) (hs : List Held) (hp : hs.Pairwise (fun a b => a.v < b.v)) : PInv whole hs (partsG whole hs ([], [])) := by
 have h0 : PInv whole [] ([], []) := ⟨rfl, Nat.le_refl _, fun p h => (by cases h), fun p h => (by cases h), fun k h => absurd h (Nat.not_lt_zero _), fun d h => (by cases h), fun i k h => absurd h (Nat.not_lt_zero _), fun i k h => absurd h (Nat.not_lt_zero _)⟩
 have := partsG_inv whole hs [] ([], []) h0 (fun d h => (by cases h)) hp
 simpa using this
theorem setV_map (vs : List Span) : ∀ (a : List Part) (s : List (List Int)), a.length = s.length → (setV a s).map (fun p => eitherS p.vers vs) = s.map fun L => eitherS (spansOf (flOf L)) vs
 | [], [], _ => rfl
 | [], _ :: _, h => by cases h
 | _ :: _, [], h => by cases h
 | p :: x, s :: y, h => by rw [setV, List.map_cons, List.map_cons, setV_map vs x y (by simpa using h)]
theorem setV_vers : ∀ (a : List Part) (s : List (List Int)) (p : Part), p ∈ setV a s → p.vers.length ≤ 1048576
 | [], _, p, h => by simp [setV] at h
 | _ :: _, [], p, h => by simp [setV] at h
 | q :: x, s :: y, p, h => by
  rw [setV] at h
  rcases List.mem_cons.1 h with e | h
  ·
   rw [e]; exact Nat.le_trans (spansV_len _ 200 1) (by omega)
  ·
   exact setV_vers x y p h
theorem setV_le : ∀ (a : List Part) (s : List (List Int)), (setV a s).length ≤ s.length
 | [], _ => by simp [setV]
 | _ :: _, [] => by simp [setV]
 | q :: x, s :: y => by rw [setV, List.length_cons, List.length_cons]; have := setV_le x y; omega
theorem flOf_mem (L : List Int) (j : Nat) : flOf L j = true ↔ 1 ≤ j ∧ j ≤ 200 ∧ (j : Int) ∈ L := by unfold flOf; exact decide_eq_true_iff
theorem partsP_len (whole : Bool) (hs : List Held) (hp : hs.Pairwise (fun a b => a.v < b.v)) : (partsP whole hs).length ≤ hs.length ∧ ∀ p ∈ partsP whole hs, p.vers.length ≤ 1048576 := by
 have hi := partsG_all whole hs hp
 have h1 := setV_le (partsG whole hs ([], [])).1 (partsG whole hs ([], [])).2
 have h2 := hi.short
 have h3 := hi.len
 unfold partsP
 split
 ·
  exact ⟨by omega, fun p h => setV_vers _ _ p h⟩
 ·
  exact ⟨by omega, fun p h => by rw [hi.bare p h]; exact Nat.zero_le _⟩
/-- The versions of the parts, as Parts tells them. -/
theorem parts_law (whole : Bool) (hs : List Held) (hp : hs.Pairwise (fun a b => a.v < b.v)) (h0 : hs ≠ []) (hv : ∀ h ∈ hs, 1 ≤ h.v ∧ h.v ≤ 200) :
  (partsP whole hs).map (fun p => eitherS p.vers (ownV hs)) = (partsG whole hs ([], [])).2.map (fun L => spansOf (flOf L)) := by
 have hi := partsG_all whole hs hp
 have hne : ∀ L ∈ (partsG whole hs ([], [])).2, spansOf (flOf L) ≠ [] := fun L hL => by
  obtain ⟨k, hk, rfl⟩ := List.getElem_of_mem hL
  obtain ⟨u, hu⟩ := List.exists_mem_of_ne_nil _ (hi.ne _ (List.getElem_mem hk))
  obtain ⟨d, hd, e, _⟩ := hi.of k hk (by rw [hi.len]; exact hk) u hu
  have := hv d hd
  exact spansOf_ne _ u hu (by omega) (by omega)
 unfold partsP
 by_cases hc : 1 < (partsG whole hs ([], [])).1.length
 ·
  rw [if_pos hc, setV_map _ _ _ hi.len]
  refine List.map_congr_left fun L hL => ?_
  unfold eitherS
  rw [if_neg fun e => hne L hL (List.eq_nil_of_length_eq_zero e)]
 ·
  rw [if_neg hc]
  obtain ⟨h, hm⟩ := List.exists_mem_of_ne_nil _ h0
  obtain ⟨k, hk, _⟩ := hi.all h hm
  have hlen := hi.len
  obtain ⟨G, hG⟩ : ∃ G, partsG whole hs ([], []) = G := ⟨_, rfl⟩
  rw [hG] at hi hne hc hk hlen ⊢
  obtain ⟨S, V⟩ := G
  simp only at hlen hc hk ⊢
  obtain ⟨p, rfl⟩ := List.length_eq_one_iff.1 (show S.length = 1 by omega)
  obtain ⟨L, rfl⟩ := List.length_eq_one_iff.1 (show V.length = 1 by simp at hlen; omega)
  ·
   have hb := hi.bare p (by simp)
   simp only [List.map_cons, List.map_nil, List.cons.injEq, and_true]
   unfold eitherS
   rw [hb, if_pos (show ([] : List Span).length = 0 from rfl)]
   unfold ownV
   refine spansOf_ext _ _ fun j h1 h2 => ?_
   rw [Bool.eq_iff_iff, flOf_mem, flOf_mem]
   constructor
   ·
    rintro ⟨a, b, c⟩
    obtain ⟨d, hd, e⟩ := List.mem_map.1 c
    obtain ⟨k, hk, hvk⟩ := hi.all d hd
    simp only [List.length_cons, List.length_nil] at hk
    obtain rfl : k = 0 := by omega
    exact ⟨a, b, by rw [← e]; exact hvk⟩
   ·
    rintro ⟨a, b, c⟩
    obtain ⟨d, hd, e, _⟩ := hi.of 0 (by simp) (by simp) j c
    exact ⟨a, b, List.mem_map.2 ⟨d, hd, e⟩⟩
theorem idxA_at (t : Step) : ∀ (K : List ANode) (i : Nat), ¬ idxA t K i < 0 → ∃ (j : Nat) (h : j < K.length), idxA t K i = ((i + j : Nat) : Int) ∧ isB K[j] t = true
 | [], i, h => by rw [idxA] at h; exact absurd (by decide) h
 | n :: r, i, h => by
  rw [idxA] at h ⊢
  by_cases hb : isB n t = true
  ·
   rw [if_pos hb]; exact ⟨0, by simp, by simp, hb⟩
  ·
   rw [if_neg hb] at h ⊢
   obtain ⟨j, hj, e, hb2⟩ := idxA_at t r (i + 1) h
   exact ⟨j + 1, by simpa using hj, by rw [e]; congr 1; omega, by simpa using hb2⟩
theorem selH_sub (l : List Rule) (path : List Bytes) (t : Step) (hs : List Held) (hr : ∀ h ∈ hs, Rising (stepsS l path h.n.kids)) : ((selH l path t hs).map (·.v)).Sublist (hs.map (·.v)) := by
 have := selH_filter l path t (fun h => (lookK t (stepsS l path h.n.kids) h.n.kids).isSome) (fun _ => true) hs fun h hm => ⟨hr h hm, fun e => by rw [e]; rfl, fun k e => by rw [e]; rfl⟩
 rw [List.filter_eq_self.2 (fun _ _ => rfl)] at this
 rw [this]
 exact List.Sublist.map _ List.filter_sublist
/-- Where the archive has an element of a path, it is made of the documents' elements of that path. -/
theorem walk_held (l : List Rule) : ∀ (x : List Step) (N : Nat) (path : List Bytes) (s : Step) (hs : List Held) (above : List Span) (i : Nat), hs ≠ [] → (∀ h ∈ hs, wfN l h.n path ∧ nsz h.n ≤ N ∧ 1 ≤ h.v ∧ h.v ≤ 200) →
  ∀ n vs m, walkA (nodeP l N path s hs above) (ownV hs) x i = (some (n, vs), m) →
  ∃ (N' : Nat) (path' : List Bytes) (s' : Step) (hs' : List Held) (above' : List Span), n = nodeP l (N' + 1) path' s' hs' above' ∧ vs = ownV hs' ∧ hs' ≠ [] ∧ (hs'.map (·.v)).Sublist (hs.map (·.v)) ∧
   ∀ g ∈ hs', ∃ h ∈ hs, g.v = h.v ∧ walkF l h.n path x i = (g.n, i + x.length)
 | [], N, path, s, hs, above, i, h0, hh, n, vs, m, e => by
  rw [walkA] at e
  injection e with e1 e2
  injection e1 with e1
  injection e1 with e1 e3
  obtain ⟨h, hm⟩ := List.exists_mem_of_ne_nil hs h0
  have h1 := (hh h hm).2.1
  have h2 := nsz_pos h.n
  cases N with
  | zero => omega
  | succ N => exact ⟨N, path, s, hs, above, e1.symm, e3.symm, h0, List.Sublist.refl _, fun g hg => ⟨g, hg, rfl, by rw [walkF]; rfl⟩⟩
 | t :: r, 0, path, s, hs, above, i, h0, hh, n, vs, m, e => by
  obtain ⟨h, hm⟩ := List.exists_mem_of_ne_nil hs h0
  have := (hh h hm).2.1
  have := nsz_pos h.n
  omega
 | t :: r, N + 1, path, s, hs, above, i, h0, hh, n, vs, m, e => by
  have hG := gather_all l path hs
  rw [walkA] at e
  by_cases hc : idxA t (nodeP l (N + 1) path s hs above).kids 0 < 0
  ·
   rw [if_pos hc] at e; cases e
  ·
   rw [if_neg hc] at e
   obtain ⟨j, hj, ej, hb⟩ := idxA_at t _ 0 hc
   rw [Nat.zero_add] at ej
   have hk := nodeP_kids l N path s hs above
   cases hf : frontS l path with
   | true =>
    exfalso
    rw [hk, hf, if_pos rfl] at hj
    simp at hj
   | false =>
    rw [hf, if_neg (by decide)] at hk
    have hget : (nodeP l (N + 1) path s hs above).kids.getD (idxA t (nodeP l (N + 1) path s hs above).kids 0).toNat zeroA = (nodeP l (N + 1) path s hs above).kids[j] := by
     rw [ej, Int.toNat_natCast, List.getD_eq_getElem?_getD, List.getElem?_eq_getElem hj]; rfl
    rw [hget] at e
    obtain ⟨K, hK⟩ : ∃ K, (nodeP l (N + 1) path s hs above).kids = K := ⟨_, rfl⟩
    simp only [hK] at hj hb e
    rw [hK] at hk
    subst hk
    rw [List.length_map] at hj
    rw [List.getElem_map] at hb e
    have hzm := List.getElem_mem hj
    obtain ⟨p, hp⟩ : ∃ p, ((gather l path hs ([], [])).1.zip (gather l path hs ([], [])).2)[j] = p := ⟨_, rfl⟩
    rw [hp] at hb e hzm
    rw [nodeP_is] at hb
    have hpt := (stepB_iff _ _).1 hb
    have hp2 : p.2 = selH l path p.1 hs := hG.eq p hzm
    have ht : p.1 ∈ (gather l path hs ([], [])).1 := (List.of_mem_zip hzm).1
    have hs0 : selH l path p.1 hs ≠ [] := (hG.iff p.1).2 ht
    rw [hp2, hpt] at e
    rw [hpt] at hs0
    have hris : ∀ h ∈ hs, Rising (stepsS l path h.n.kids) := fun h hm => by
     have := (wfN_eq l h.n path).1 (hh h hm).1
     exact (this.2 hf).2.1
    have hmem := selH_mem l path t hs hris
    have hh' : ∀ g ∈ selH l path t hs, wfN l g.n (path ++ [t.n]) ∧ nsz g.n ≤ N ∧ 1 ≤ g.v ∧ g.v ≤ 200 := fun g hg => by
     obtain ⟨h, hm, hk, hv⟩ := (hmem g).1 hg
     obtain ⟨hk1, hk2, _⟩ := (walkF_step l h.n path t r i (hh h hm).1).2 _ hk
     have hw := (((wfN_eq l h.n path).1 (hh h hm).1).2 hf).2.2
     have := wfL_mem l path _ _ hw hk1
     rw [hk2] at this
     have h6 := nsz_mem _ _ hk1
     have h7 := (hh h hm).2.1
     exact ⟨this, by omega, by rw [hv]; exact (hh h hm).2.2⟩
    have hvers : eitherS (nodeP l N (path ++ [t.n]) t (selH l path t hs) (ownV hs)).vers (ownV hs) = ownV (selH l path t hs) := by
     rw [nodeP_vers]; exact either_vers _ _ hs0 fun g hg => (hh' g hg).2.2
    rw [hvers] at e
    obtain ⟨N', path', s', hs', above', e1, e2, e3, e4, e5⟩ := walk_held l r N (path ++ [t.n]) t (selH l path t hs) (ownV hs) (i + 1) hs0 hh' n vs m e
    refine ⟨N', path', s', hs', above', e1, e2, e3, e4.trans (selH_sub l path t hs hris), fun g hg => ?_⟩
    obtain ⟨g', hg', a, b⟩ := e5 g hg
    obtain ⟨h, hm, hk, hv⟩ := (hmem g').1 hg'
    refine ⟨h, hm, a.trans hv, ?_⟩
    rw [((walkF_step l h.n path t r i (hh h hm).1).2 _ hk).2.2, b, List.length_cons]
    congr 1; omega
theorem heldsOf_rise : ∀ (ds : List Node) (i : Nat), (heldsOf ds i).Pairwise (fun a b => a.v < b.v)
 | [], i => List.Pairwise.nil
 | d :: r, i => by
  rw [heldsOf, List.pairwise_cons]
  refine ⟨fun h hm => ?_, heldsOf_rise r (i + 1)⟩
  have := (heldsOf_mem r (i + 1) h hm).2.1
  simp only; omega
theorem heldsOf_at : ∀ (ds : List Node) (i : Nat) (h : Held), h ∈ heldsOf ds i → ∃ (j : Nat) (hj : j < ds.length), h.v = ((i + j : Nat) : Int) + 1 ∧ h.n = ds[j]
 | [], i, h, hm => by cases hm
 | d :: r, i, h, hm => by
  rw [heldsOf] at hm
  rcases List.mem_cons.1 hm with e | hm
  ·
   rw [e]; exact ⟨0, by simp, by simp, rfl⟩
  ·
   obtain ⟨j, hj, e1, e2⟩ := heldsOf_at r (i + 1) h hm
   exact ⟨j + 1, by simpa using hj, by rw [e1]; congr 2; omega, by simpa using e2⟩
end Go.Proofs.YtkelpbbekeelcaaGreatDoor

/-
 Lives: each is a path of a document; what the parts of its element are; plain. Helper lemmas; no statement of the seat is proved here.
-/
namespace Go.Proofs.YtkelpbbekeelcaaGreatDoor
open Go.RowKit
set_option maxRecDepth 100000
set_option linter.unusedVariables false
set_option linter.unusedSimpArgs false

theorem lookK_at (s : Step) (k : Node) : ∀ (ss : List Step) (ks : List Node) (j : Nat), Rising ss → ss[j]? = some s → ks[j]? = some k → lookK s ss ks = some k
 | [], _, j, _, h, _ => by simp at h
 | _ :: _, [], j, _, _, h => by simp at h
 | a :: ss, b :: ks, 0, _, h1, h2 => by simp at h1 h2; rw [lookK, if_pos h1.symm, h2]
 | a :: ss, b :: ks, j + 1, hr, h1, h2 => by
  have h3 : s ∈ ss := List.mem_of_getElem? (by simpa using h1)
  rw [lookK, if_neg (fun e => rising_head hr (by rw [← e]; exact h3))]
  exact lookK_at s k ss ks j (rising_tail hr) (by simpa using h1) (by simpa using h2)
theorem belowL_mem (l : List Rule) (x : List Step) : ∀ (ks : List Node) (ss : List Step) (names : List Bytes) (path : List Step), x ∈ belowL l ks ss names path → ∃ (j : Nat) (k : Node) (s : Step), ks[j]? = some k ∧ ss[j]? = some s ∧ x ∈ belowN l k names (path ++ [s])
 | n :: r, s :: ss, names, path, h => by
  rw [belowL] at h
  rcases List.mem_append.1 h with h | h
  ·
   exact ⟨0, n, s, by simp, by simp, h⟩
  ·
   obtain ⟨j, k, t, a, b, c⟩ := belowL_mem l x r ss names path h
   exact ⟨j + 1, k, t, by simpa using a, by simpa using b, c⟩
 | [], _, _, _, h => by simp [belowL] at h
 | _ :: _, [], _, _, h => by simp [belowL] at h
theorem below_found (l : List Rule) (x : List Step) : ∀ (N : Nat) (n : Node) (above : List Bytes) (path : List Step), nsz n ≤ N → wfN l n (above ++ [n.name]) → x ∈ belowN l n above path →
  ∃ r, x = path ++ r ∧ ∀ i, (walkF l n (above ++ [n.name]) r i).2 = i + r.length
 | 0, n, above, path, h, _, _ => by have := nsz_pos n; omega
 | N + 1, n, above, path, h, hw, hx => by
  have hbn : belowN l n above path = path :: belowL l n.kids (stepsS l (above ++ [n.name]) n.kids) (above ++ [n.name]) path := by cases n; rw [belowN]; rfl
  rw [hbn] at hx
  rcases List.mem_cons.1 hx with e | hx
  ·
   exact ⟨[], by rw [e, List.append_nil], fun i => by rw [walkF]; rfl⟩
  ·
   obtain ⟨j, k, s, hk, hs, hm⟩ := belowL_mem l x _ _ _ _ hx
   have hkm := List.mem_of_getElem? hk
   cases hf : frontS l (above ++ [n.name]) with
   | true =>
    rw [front_steps l _ hf] at hs
    simp at hs
   | false =>
    obtain ⟨h1, h2, h3⟩ := ((wfN_eq l n _).1 hw).2 hf
    have hlk := lookK_at s k _ _ j h2 hs hk
    obtain ⟨_, hn, _⟩ := (walkF_step l n (above ++ [n.name]) s [] 0 hw).2 k hlk
    have hwk := wfL_mem l _ _ k h3 hkm
    have hsz := nsz_mem n k hkm
    obtain ⟨r, er, hr⟩ := below_found l x N k (above ++ [n.name]) (path ++ [s]) (by omega) hwk hm
    refine ⟨s :: r, by rw [er, List.append_assoc]; rfl, fun i => ?_⟩
    rw [((walkF_step l n (above ++ [n.name]) s r i hw).2 k hlk).2.2, ← hn, hr, List.length_cons]
    omega
/-- What lives are. -/
def LInv (l : List Rule) (ds : List Node) (out : List Life) : Prop :=
 ∀ y ∈ out, y.vers = spansOf (flOf (histV l y.path ds 0 [] 0).1) ∧ y.path.length ≤ 1048576 ∧ ∃ d ∈ ds, (findF l d y.path).2 = y.path.length ∧ 0 < y.path.length
theorem addL_inv (l : List Rule) (ds : List Node) (x : List Step) (out : List Life) (h : LInv l ds out) (hl : x.length ≤ 1048576) (hx : ∃ d ∈ ds, (findF l d x).2 = x.length ∧ 0 < x.length) : LInv l ds (addL l ds x out) := by
 unfold addL
 by_cases c : (if h : lifePos x out < out.length then pathB out[lifePos x out].path x else false) = true
 ·
  rw [if_pos c]; exact h
 ·
  rw [if_neg c]
  intro y hy
  rcases (mem_insAt _ _ _ _).1 hy with e | hy
  ·
   rw [e]; exact ⟨rfl, hl, hx⟩
  ·
   exact h y hy
theorem livesJ_inv (l : List Rule) (ds : List Node) : ∀ (L : List (List Step)) (out : List Life), LInv l ds out → (∀ x ∈ L, x.length ≤ 1048576 ∧ ∃ d ∈ ds, (findF l d x).2 = x.length ∧ 0 < x.length) → LInv l ds (livesJ l ds L out)
 | [], out, h, _ => h
 | x :: r, out, h, hx => livesJ_inv l ds r _ (addL_inv l ds x out h (hx x List.mem_cons_self).1 (hx x List.mem_cons_self).2) fun y hy => hx y (List.mem_cons_of_mem _ hy)
theorem root_paths (l : List Rule) (d : Node) (hw : wfN l d [d.name]) (hsz : nsz d ≤ 1048576) (x : List Step) (hx : x ∈ belowN l d [] [⟨d.name, []⟩]) : x.length ≤ 1048576 ∧ (findF l d x).2 = x.length ∧ 0 < x.length := by
 have h1 := belowN_path l d [] [⟨d.name, []⟩] x hx
 obtain ⟨r, er, hr⟩ := below_found l x _ d [] [⟨d.name, []⟩] (Nat.le_refl _) hw hx
 simp only [List.length_cons, List.length_nil] at h1
 refine ⟨by omega, ?_, by rw [er]; simp⟩
 rw [er, List.singleton_append, findF, if_pos ⟨((wfN_eq l d _).1 hw).1, (stepB_iff _ _).2 rfl⟩]
 have := hr 1
 rw [List.nil_append] at this
 rw [this, List.length_cons]; omega
theorem livesI_inv (l : List Rule) (ds : List Node) (hd : ∀ d ∈ ds, wfN l d [d.name] ∧ nsz d ≤ 1048576) : ∀ (L : List Node) (out : List Life), (∀ d ∈ L, d ∈ ds) → LInv l ds out → LInv l ds (livesI l ds L out)
 | [], out, _, h => h
 | d :: r, out, hs, h => livesI_inv l ds hd r _ (fun k hk => hs k (List.mem_cons_of_mem _ hk)) (livesJ_inv l ds _ out h fun x hx => by
   have hm := hs d List.mem_cons_self
   obtain ⟨a, b, c⟩ := root_paths l d (hd d hm).1 (hd d hm).2 x hx
   exact ⟨a, d, hm, b, c⟩)
theorem heldsOf_has : ∀ (ds : List Node) (i : Nat) (d : Node), d ∈ ds → ∃ h ∈ heldsOf ds i, h.n = d
 | [], _, _, h => by cases h
 | a :: r, i, d, h => by
  rcases List.mem_cons.1 h with e | h
  ·
   exact ⟨_, List.mem_cons_self, e.symm⟩
  ·
   obtain ⟨k, hk, e⟩ := heldsOf_has r (i + 1) d h
   exact ⟨k, List.mem_cons_of_mem _ hk, e⟩
theorem hist_ne (l : List Rule) (ds : List Node) (x : List Step) (h : ∃ d ∈ ds, (findF l d x).2 = x.length ∧ 0 < x.length) : (histV l x ds 0 [] 0).1 ≠ [] := by
 obtain ⟨d, hd, h1, h2⟩ := h
 obtain ⟨k, hk, e⟩ := heldsOf_has ds 0 d hd
 obtain ⟨e1, _⟩ := histV_law l x ds 0 [] 0
 rw [e1, List.nil_append]
 intro e2
 rw [List.map_eq_nil_iff, List.filter_eq_nil_iff] at e2
 exact e2 k hk (by rw [e]; exact decide_eq_true ⟨h1, by omega⟩)
/-- What the law asks of the versions of an element's parts. -/
structure PartsOK (l : List Rule) (ds : List Node) (x : List Step) (Q : List (List Int)) (A : Nat → List Attr) : Prop where
 some : Q ≠ []
 ne : ∀ L ∈ Q, L ≠ [] ∧ ∀ v ∈ L, 1 ≤ v ∧ v ≤ 200
 rise : ∀ (i k : Nat) (hi : i < Q.length) (hk : k < Q.length), i < k → ∃ u ∈ Q[i], ∀ v ∈ Q[k], u < v
 apart : ∀ (i k : Nat) (hi : i < Q.length) (hk : k < Q.length), i < k → ∀ v ∈ Q[i], v ∉ Q[k]
 same : ∀ (k : Nat) (hk : k < Q.length) (v : Int), v ∈ Q[k] → ∃ (j : Nat) (hj : j < ds.length), v = (j : Int) + 1 ∧ (findF l ds[j] x).1.attrs = A k
 all : ∀ j : Nat, 1 ≤ j → j ≤ 200 → (Q.any fun L => flOf L j) = flOf (histV l x ds 0 [] 0).1 j
theorem life_law (l : List Rule) (nm : Bytes) (ds : List Node) (x : List Step) (hw : ∀ d ∈ ds, wfN l d [nm] ∧ d.name = nm) (h200 : ds.length ≤ 200) (hne : (histV l x ds 0 [] 0).1 ≠ []) :
  ∃ (n : ANode) (vs : List Span) (j : Nat) (Q : List (List Int)) (A : Nat → List Attr), findA ds.length (rootP l nm ds) x = (some (n, vs), j) ∧ vs = spansOf (flOf (histV l x ds 0 [] 0).1) ∧
   (n.parts.map fun p => eitherS p.vers vs) = Q.map (fun L => spansOf (flOf L)) ∧ PartsOK l ds x Q A ∧ n.parts.length ≤ 200 ∧ vs.length ≤ 1048576 ∧ ∀ q ∈ n.parts, q.vers.length ≤ 1048576 := by
 obtain ⟨_, h2⟩ := find_law l nm ds x hw h200
 obtain ⟨n, j, hf⟩ := h2 hne
 obtain ⟨vs, hvs⟩ : ∃ vs, spansOf (flOf (histV l x ds 0 [] 0).1) = vs := ⟨_, rfl⟩
 have hvl : vs.length ≤ 1048576 := by rw [← hvs]; exact Nat.le_trans (spansV_len _ 200 1) (by omega)
 rw [hvs] at hf
 cases x with
 | nil => rw [findA] at hf; cases hf
 | cons t r =>
  have hf0 := hf
  rw [findA] at hf
  by_cases hc : (ds.length : Int) < 1 ∨ isB (rootP l nm ds) t = false
  ·
   rw [if_pos hc] at hf; cases hf
  ·
   rw [if_neg hc] at hf
   have hd : ds ≠ [] := by intro e; subst e; exact hc (.inl (by simp))
   have hroot : rootP l nm ds = nodeP l (nszL ds + 1) [nm] ⟨nm, []⟩ (heldsOf ds 0) [] := by unfold rootP; rw [if_neg hd]
   have hhne : heldsOf ds 0 ≠ [] := by cases ds with | nil => exact absurd rfl hd | cons d r => intro e; rw [heldsOf] at e; cases e
   have hall : ∀ h ∈ heldsOf ds 0, wfN l h.n [nm] ∧ nsz h.n ≤ nszL ds + 1 ∧ 1 ≤ h.v ∧ h.v ≤ 200 := fun h hm => by
    obtain ⟨a, b, c⟩ := heldsOf_mem ds 0 h hm
    have := nszL_le ds h.n a
    exact ⟨(hw _ a).1, by omega, by omega, by omega⟩
   have hst : stepB ⟨nm, []⟩ t = true := by
    cases hb : stepB ⟨nm, []⟩ t with
    | true => rfl
    | false => exact absurd (.inr (by rw [hroot, nodeP_is]; exact hb)) hc
   have hev : eitherS (rootP l nm ds).vers [] = ownV (heldsOf ds 0) := by
    rw [hroot, nodeP_vers]; exact either_vers _ _ hhne fun h hm => (hall h hm).2.2
   rw [hev, hroot] at hf
   obtain ⟨N', path', s', hs', above', e1, e2, e3, e4, e5⟩ := walk_held l r (nszL ds + 1) [nm] ⟨nm, []⟩ (heldsOf ds 0) [] 1 hhne hall n vs j hf
   have hfd : ∀ h ∈ heldsOf ds 0, findF l h.n (t :: r) = walkF l h.n [nm] r 1 := fun h hm => by
    obtain ⟨a, _, _⟩ := heldsOf_mem ds 0 h hm
    obtain ⟨b, c⟩ := hw _ a
    rw [wfN_eq] at b
    rw [findF, c, if_pos ⟨b.1, hst⟩]
   have hris : hs'.Pairwise (fun a b => a.v < b.v) := by
    have h1 := heldsOf_rise ds 0
    have h2 : ((heldsOf ds 0).map (·.v)).Pairwise (· < ·) := List.pairwise_map.2 h1
    exact List.pairwise_map.1 (h2.sublist e4)
   have hv : ∀ g ∈ hs', 1 ≤ g.v ∧ g.v ≤ 200 := fun g hg => by
    obtain ⟨h, hm, a, _⟩ := e5 g hg
    rw [a]; exact (hall h hm).2.2
   have hlen : hs'.length ≤ ds.length := by
    have := e4.length_le
    rw [List.length_map, List.length_map] at this
    have hl : ∀ (L : List Node) (i : Nat), (heldsOf L i).length = L.length := by
     intro L
     induction L with
     | nil => intro i; rfl
     | cons a L ih => intro i; rw [heldsOf, List.length_cons, List.length_cons, ih]
    rw [hl] at this; exact this
   have hparts : n.parts = partsP (frontS l path') hs' := by rw [e1]; rfl
   have hi := partsG_all (frontS l path') hs' hris
   have hlaw := parts_law (frontS l path') hs' hris e3 hv
   obtain ⟨b1, b2⟩ := partsP_len (frontS l path') hs' hris
   obtain ⟨G, hG⟩ : ∃ G, partsG (frontS l path') hs' ([], []) = G := ⟨_, rfl⟩
   rw [hG] at hi hlaw
   refine ⟨n, vs, j, G.2, fun k => (G.1.getD k ⟨[], [], []⟩).attrs, hf0, hvs.symm, by rw [hparts, e2]; exact hlaw, ?_, by rw [hparts]; omega, hvl, by rw [hparts]; exact b2⟩
   have hof : ∀ (k : Nat) (hk : k < G.2.length) (v : Int), v ∈ G.2[k] → ∃ g ∈ hs', g.v = v ∧ g.n.attrs = (G.1.getD k ⟨[], [], []⟩).attrs := fun k hk v hv => by
    have hk1 : k < G.1.length := by rw [hi.len]; exact hk
    obtain ⟨g, hg, a, b, _⟩ := hi.of k hk hk1 v hv
    refine ⟨g, hg, a, ?_⟩
    rw [b, List.getD_eq_getElem?_getD, List.getElem?_eq_getElem hk1]; rfl
   refine ⟨?_, fun L hL => ⟨hi.ne L hL, fun v hvL => ?_⟩, hi.rise, hi.apart, fun k hk v hvk => ?_, fun q h1 h2 => ?_⟩
   ·
    obtain ⟨g, hg⟩ := List.exists_mem_of_ne_nil _ e3
    obtain ⟨k, hk, _⟩ := hi.all g hg
    exact List.ne_nil_of_length_pos (by omega)
   ·
    obtain ⟨k, hk, rfl⟩ := List.getElem_of_mem hL
    obtain ⟨g, hg, a, _⟩ := hof k hk v hvL
    rw [← a]; exact hv g hg
   ·
    obtain ⟨g, hg, a, b⟩ := hof k hk v hvk
    obtain ⟨h, hm, c, d⟩ := e5 g hg
    obtain ⟨q, hq, e6, e7⟩ := heldsOf_at ds 0 h hm
    refine ⟨q, hq, by rw [← a, c, e6]; simp, ?_⟩
    rw [← e7, hfd h hm, d]; exact b
   ·
    have hvq : flOf (histV l (t :: r) ds 0 [] 0).1 q = flOf (hs'.map (·.v)) q := by
     have h3 := inS_spansOf (flOf (histV l (t :: r) ds 0 [] 0).1) q h1 h2
     rw [hvs, e2] at h3
     unfold ownV at h3
     rw [inS_spansOf _ q h1 h2] at h3
     exact h3.symm
    rw [hvq, Bool.eq_iff_iff, List.any_eq_true, flOf_mem]
    constructor
    ·
     rintro ⟨L, hL, hq⟩
     obtain ⟨k, hk, rfl⟩ := List.getElem_of_mem hL
     obtain ⟨g, hg, a, _⟩ := hof k hk q ((flOf_mem _ _).1 hq).2.2
     exact ⟨h1, h2, List.mem_map.2 ⟨g, hg, a⟩⟩
    ·
     rintro ⟨_, _, hq⟩
     obtain ⟨g, hg, a⟩ := List.mem_map.1 hq
     obtain ⟨k, hk, hvk⟩ := hi.all g hg
     exact ⟨_, List.getElem_mem hk, (flOf_mem _ _).2 ⟨h1, h2, by rw [← a]; exact hvk⟩⟩
end Go.Proofs.YtkelpbbekeelcaaGreatDoor

/-
 Parts' versions, one by one, plain. Helper lemmas; no statement of the seat is proved here.
-/
namespace Go.Proofs.YtkelpbbekeelcaaGreatDoor
open Go.RowKit
set_option maxRecDepth 100000
set_option linter.unusedVariables false
set_option linter.unusedSimpArgs false

/-- What the first parts have. -/
def uptoU (Q : List (List Int)) (k : Nat) (j : Nat) : Bool := (Q.take k).any fun L => flOf L j
theorem uptoU_step (Q : List (List Int)) (k : Nat) (h : k < Q.length) (j : Nat) : uptoU Q (k + 1) j = (uptoU Q k j || flOf Q[k] j) := by
 unfold uptoU
 rw [List.take_add_one, List.getElem?_eq_getElem h, List.any_append]
 simp
theorem uptoU_zero (Q : List (List Int)) : spansOf (uptoU Q 0) = [] := spansOf_nil _ fun j _ _ => by simp [uptoU]
variable {l : List Rule} {ds : List Node} {x : List Step} {Q : List (List Int)} {A : Nat → List Attr}
theorem PartsOK.set_ne (h : PartsOK l ds x Q A) (k : Nat) (hk : k < Q.length) : spansOf (flOf Q[k]) ≠ [] := by
 obtain ⟨h1, h2⟩ := h.ne Q[k] (List.getElem_mem hk)
 obtain ⟨v, hv⟩ := List.exists_mem_of_ne_nil _ h1
 exact spansOf_ne _ v hv (h2 v hv).1 (h2 v hv).2
theorem PartsOK.two1 (h : PartsOK l ds x Q A) (k : Nat) (hk : k < Q.length) : spansOf (twoF 1 (spansOf (uptoU Q k)) (spansOf (flOf Q[k]))) = [] := by
 refine spansOf_nil _ fun j h1 h2 => ?_
 unfold twoF
 rw [if_neg (by decide), inS_spansOf _ j h1 h2, inS_spansOf _ j h1 h2]
 cases hu : uptoU Q k j with
 | false => rfl
 | true =>
  rw [Bool.true_and]
  unfold uptoU at hu
  obtain ⟨L, hL, hf⟩ := List.any_eq_true.1 hu
  obtain ⟨i, hi, rfl⟩ := List.getElem_of_mem hL
  rw [List.length_take] at hi
  rw [List.getElem_take] at hf
  cases hq : flOf Q[k] j with
  | false => rfl
  | true => exact absurd ((flOf_mem _ _).1 hq).2.2 (h.apart i k (by omega) hk (by omega) _ ((flOf_mem _ _).1 hf).2.2)
theorem PartsOK.two0 (k : Nat) (hk : k < Q.length) : spansOf (twoF 0 (spansOf (uptoU Q k)) (spansOf (flOf Q[k]))) = spansOf (uptoU Q (k + 1)) := by
 refine spansOf_ext _ _ fun j h1 h2 => ?_
 unfold twoF
 rw [if_pos rfl, inS_spansOf _ j h1 h2, inS_spansOf _ j h1 h2, uptoU_step Q k hk]
theorem flOf_in {L : List Int} {v : Int} (h : inS (spansOf (flOf L)) v = true) : v ∈ L := by
 rw [inS_of, Bool.and_eq_true, decide_eq_true_eq] at h
 have := ((flOf_mem _ _).1 h.2).2.2
 rw [Int.toNat_of_nonneg (by omega)] at this; exact this
theorem PartsOK.first (h : PartsOK l ds x Q A) (k : Nat) (hk : k < Q.length) : firstS (spansOf (flOf Q[k])) ∈ Q[k] ∧ ∀ v ∈ Q[k], firstS (spansOf (flOf Q[k])) ≤ v := by
 obtain ⟨h1, _, _, h4⟩ := firstS_in _ 1 (spansOf_may (flOf Q[k])) (h.set_ne k hk)
 refine ⟨flOf_in h1, fun v hv => h4 v ?_⟩
 have hr := (h.ne _ (List.getElem_mem hk)).2 v hv
 rw [inS_of, Bool.and_eq_true, decide_eq_true_eq, flOf_mem]
 exact ⟨hr, by omega, by omega, by rw [Int.toNat_of_nonneg (by omega)]; exact hv⟩
theorem PartsOK.last (h : PartsOK l ds x Q A) (k : Nat) (hk : k < Q.length) : lastS (spansOf (flOf Q[k])) ∈ Q[k] :=
 flOf_in (lastS_in _ 1 (spansOf_may (flOf Q[k])) (h.set_ne k hk)).1
theorem PartsOK.lt (h : PartsOK l ds x Q A) (k : Nat) (hk : k + 1 < Q.length) : firstS (spansOf (flOf Q[k])) < firstS (spansOf (flOf Q[k + 1])) := by
 obtain ⟨u, hu, huv⟩ := h.rise k (k + 1) (by omega) hk (by omega)
 have h1 := (h.first k (by omega)).2 u hu
 have h2 := huv _ (h.first (k + 1) hk).1
 omega
theorem PartsOK.sum (h : PartsOK l ds x Q A) : spansOf (uptoU Q Q.length) = spansOf (flOf (histV l x ds 0 [] 0).1) :=
 spansOf_ext _ _ fun j h1 h2 => by
  unfold uptoU
  rw [List.take_length]; exact h.all j h1 h2
theorem same_attrs (la : List Attr) : sameN (.mk 0 [] [] la []) (.mk 0 [] [] la []) = true := (sameN_iff _ _).2 rfl
end Go.Proofs.YtkelpbbekeelcaaGreatDoor
