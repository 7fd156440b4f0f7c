/-
 past.find. Helper lemmas; no statement of the seat is proved here.
-/
import Derived.Test.YtkelpbbekeelcaaGreatDoorU10
namespace Go.Proofs.YtkelpbbekeelcaaGreatDoor
open Go.RowKit
set_option maxHeartbeats 32000000
set_option maxRecDepth 100000
set_option linter.unusedVariables false
set_option linter.unusedSimpArgs false
mutual
def vB : ANode → Bool
 | .mk _ _ v _ ks => decide (v.length ≤ 1048576) && vBL ks
def vBL : List ANode → Bool
 | [] => true
 | n :: r => vB n && vBL r
end
theorem vBL_get : ∀ (l : List ANode) (i : Nat) (h : i < l.length), vBL l = true → vB l[i] = true
 | [], i, h, _ => absurd h (Nat.not_lt_zero _)
 | n :: r, 0, h, hb => by rw [vBL, Bool.and_eq_true] at hb; exact hb.1
 | n :: r, i + 1, h, hb => by rw [vBL, Bool.and_eq_true] at hb; exact vBL_get r i (by simpa using h) hb.2
theorem vB_own (n : ANode) (h : vB n = true) : n.vers.length ≤ 1048576 ∧ vBL n.kids = true := by
 cases n; rw [vB, Bool.and_eq_true] at h; exact ⟨of_decide_eq_true h.1, h.2⟩
def RetF (p q : Nat → Prop) (r : Option (ANode × List Span) × Nat) (e : Ending) (w : World) : Prop :=
 match r.1 with
 | some (n, vs) => ∃ (k v pa c : Option Addr) (kc vc pc cc : Nat) (sv : Value), e = .returned (.tuple #[.agg #[.string (bs n.name), .slice k n.key.length kc, .slice v n.vers.length vc, .slice pa n.parts.length pc, .slice c n.kids.length cc], sv, .nilIface]) ∧ Rep w p (.slice k n.key.length kc) (strsD n.key) ∧ Rep w p (.slice v n.vers.length vc) (spansD n.vers) ∧ Rep w p (.slice pa n.parts.length pc) (partsD n.parts) ∧ Rep w p (.slice c n.kids.length cc) (anodesD n.kids) ∧ Rep w q sv (spansD vs)
 | none => ∃ ev, e = .returned (.tuple #[.agg #[.string ⟨#[]⟩, .slice none 0 0, .slice none 0 0, .slice none 0 0, .slice none 0 0], .slice none 0 0, ev]) ∧ ∃ lo, ErrV w lo 32 r.2 ev
def FFact (w wr : World) (p : Nat → Prop) (g7 br : Nat) (n : ANode) (vs : List Span) (xk xv xp xc sv : Value) (rest : List Step) (i : Nat) (R : Option (ANode × List Span) × Nat) : Prop :=
 A5 wr g7 n xk xv xp xc ∧ A5 wr br zeroA (.slice none 0 0) (.slice none 0 0) (.slice none 0 0) (.slice none 0 0) ∧ Rep w p xk (strsD n.key) ∧ Rep w p xv (spansD n.vers) ∧ Rep w p xp (partsD n.parts) ∧ Rep w p xc (anodesD n.kids) ∧
  Rep wr (fun b => w.heap.size + 2 ≤ b ∧ b ≠ g7) sv (spansD vs) ∧ vB n = true ∧ vs.length ≤ 1048576 ∧ walkA n vs rest (i + 1) = R
theorem find_any (last : Int) (root : ANode) (x : List Step) (p : Nat → Prop) (vk vv vp vc vx : Value) (w : World) (hb : vB root = true) (hxl : x.length ≤ 1048576)
  (hvk : Rep w p vk (strsD root.key)) (hvv : Rep w p vv (spansD root.vers)) (hvp : Rep w p vp (partsD root.parts)) (hvc : Rep w p vc (anodesD root.kids)) (hvx : Rep w p vx (stepsD x)) :
  Calls Tryz.prog 38 #[.agg #[.int .i64 last, .string (bs root.name), vk, vv, vp, vc], vx] w fun e w' => RetF p (fun b => w.heap.size ≤ b) (findA last root x) e w' ∧ Ext w w' := by
 obtain ⟨rk, rkc, rfl, _, _⟩ := hvk.count z_str (by omega)
 obtain ⟨rv, rvc, rfl, _, _⟩ := hvv.count z_span (by omega)
 obtain ⟨rp, rpc, rfl, _, _⟩ := hvp.count z_part (by omega)
 obtain ⟨rc, rcc, rfl, _, _⟩ := hvc.count z_anode (by omega)
 obtain ⟨xa, xc, rfl, hx1, hx2⟩ := hvx.count z_step (by omega)
 obtain ⟨R, hR⟩ : ∃ R, findA last root x = R := ⟨_, rfl⟩
 rw [hR]
 have HR := Lh hR
 have HVB := Lh hb
 clear hR hb
 go_enter Tryz.func38, Tryz.ntmps38
 go_wp2_with fail
 obtain ⟨w1, hw1⟩ : ∃ w1, (w.alloc (.cells #[.int .i64 last, .string (bs root.name), .slice rk root.key.length rkc, .slice rv root.vers.length rvc, .slice rp root.parts.length rpc, .slice rc root.kids.length rcc] 36)).alloc (.cells #[.string ⟨#[]⟩, .slice none 0 0, .slice none 0 0, .slice none 0 0, .slice none 0 0] 34) = w1 := ⟨_, rfl⟩
 have hE1 : Ext w w1 := by rw [← hw1]; exact ((Ext.refl w).alloc _).alloc _
 have hz1 : w1.heap.size = w.heap.size + 2 := by rw [← hw1]; simp
 have hEm : Ext (w.alloc (.cells #[.int .i64 last, .string (bs root.name), .slice rk root.key.length rkc, .slice rv root.vers.length rvc, .slice rp root.parts.length rpc, .slice rc root.kids.length rcc] 36)) w1 := by rw [← hw1]; exact (Ext.refl _).alloc _
 have x0 : w1.cell? ⟨w.heap.size, 0, none⟩ = some (.int .i64 last) := hEm.keep (by simp) (by simp [go_sem])
 have x1 : w1.cell? ⟨w.heap.size, 1, none⟩ = some (.string (bs root.name)) := hEm.keep (by simp) (by simp [go_sem])
 have x2 : w1.cell? ⟨w.heap.size, 2, none⟩ = some (.slice rk root.key.length rkc) := hEm.keep (by simp) (by simp [go_sem])
 have x3 : w1.cell? ⟨w.heap.size, 3, none⟩ = some (.slice rv root.vers.length rvc) := hEm.keep (by simp) (by simp [go_sem])
 have x4 : w1.cell? ⟨w.heap.size, 4, none⟩ = some (.slice rp root.parts.length rpc) := hEm.keep (by simp) (by simp [go_sem])
 have x5 : w1.cell? ⟨w.heap.size, 5, none⟩ = some (.slice rc root.kids.length rcc) := hEm.keep (by simp) (by simp [go_sem])
 have lx : w.heap.size < w1.heap.size := by omega
 have hbr : A5 w1 (w.heap.size + 1) zeroA (.slice none 0 0) (.slice none 0 0) (.slice none 0 0) (.slice none 0 0) := by
  rw [← hw1]
  exact ⟨by simp, by simp [go_sem, zeroA, ANode.name]; rfl, by simp [go_sem], by simp [go_sem], by simp [go_sem], by simp [go_sem], by simp [go_sem], by simp [go_sem], by simp [go_sem], by simp [go_sem], by simp [go_sem]⟩
 rw [hw1]
 have HBR := Lh hbr
 have HE1 := Lh hE1
 have HZ1 := Lh hz1
 clear hw1 hbr hE1 hz1 hEm
 by_cases hl1 : last < 1
 ·
  have HN : Hid (((none : Option (ANode × List Span)), 0) = R) := Lh (by
   rw [← HR.out]
   cases x with
   | nil => rfl
   | cons s r => rw [findA, if_pos (.inl hl1)])
  refine rg_begin (S := Sx w1) (by kernel_rfl) (Sx.begin _) ?_
  have hS : Sx w1 (World.drew w1) := (Sx.begin _)
  refine rg_t 0 (some 12) (.pointer (some ⟨w.heap.size, 0, none⟩)) rfl hS (fun w' hs => by first | rfl | go_simp) ?_
  simp only [Act.put, sA, sZ, sS]
  refine rg_t 1 (some 13) (.int .i64 last) rfl hS (fun w' hs => by (have h0 := hs.cell lx x0; go_simp)) ?_
  simp only [Act.put, sA, sZ, sS]
  refine rg_t 2 (some 14) (.bool true) rfl hS (fun w' hs => by first | rfl | go_simp) ?_
  simp only [Act.put, sA, sZ, sS]
  refine rg_t 3 (some 15) (.bool true) rfl hS (fun w' hs => by rfl) ?_
  simp only [Act.put, sA, sZ, sS]
  refine rg_s 4 (some 16) rfl hS ?_
  simp only [Act.put, sA, sZ, sS]
  refine rg_s 5 (some 17) rfl hS ?_
  simp only [Act.put, sA, sZ, sS]
  refine rg_s 6 (some 18) rfl hS ?_
  simp only [Act.put, sA, sZ, sS]
  refine rg_t 7 (some 19) (.bool true) rfl hS (fun w' hs => by rfl) ?_
  simp only [Act.put, sA, sZ, sS]
  refine rg_t 8 (some 20) (.bool true) rfl hS (fun w' hs => by rfl) ?_
  simp only [Act.put, sA, sZ, sS]
  refine rg_s 9 (some 21) rfl hS ?_
  simp only [Act.put, sA, sZ, sS]
  refine rg_s 10 (some 22) rfl hS ?_
  simp only [Act.put, sA, sZ, sS]
  refine rg_s 11 (some 23) rfl hS ?_
  simp only [Act.put, sA, sZ, sS]
  refine rg_s 12 (some 24) rfl hS ?_
  simp only [Act.put, sA, sZ, sS]
  refine rg_s 13 (some 25) rfl hS ?_
  simp only [Act.put, sA, sZ, sS]
  refine rg_s 14 (some 26) rfl hS ?_
  simp only [Act.put, sA, sZ, sS]
  refine rg_s 15 (some 27) rfl hS ?_
  simp only [Act.put, sA, sZ, sS]
  refine rg_t 16 (some 28) (.bool true) rfl hS (fun w' hs => by rfl) ?_
  simp only [Act.put, sA, sZ, sS]
  refine rg_done (by kernel_rfl) ?_
  have HLO : Hid (w.heap.size + 2 ≤ (World.drew w1).heap.size) := Lh (Nat.le_of_eq HZ1.out.symm)
  go_wp2_with fail
  refine (pfail_any 32 0 (by decide) _).mono ?_
  rintro e wE ⟨⟨ev, rfl, hev⟩, hBE⟩
  have HRB := Lh ((HBR.out.ext (Ext.refl w1).drew).ext hBE)
  have HXX := Lh ((HE1.out.drew).trans hBE)
  have HEV := Lh hev
  have rc0 := HRB.out.c0
  have rf0 := HRB.out.f0
  have rc1 := HRB.out.c1
  have rf1 := HRB.out.f1
  have rc2 := HRB.out.c2
  have rf2 := HRB.out.f2
  have rc3 := HRB.out.c3
  have rf3 := HRB.out.f3
  have rc4 := HRB.out.c4
  have rf4 := HRB.out.f4
  obtain ⟨eb1, eb2, rfl, _⟩ := hev
  go_wp2_with fail
  (try simp only [Exit.inBlock, Exit.then])
  refine bodyPost_ret (res_node3 rfl _ _ _ ⟨w.heap.size + 1, 0, none⟩ ?_ (load_anode (A5.put (n := zeroA) (xk := .slice none 0 0) (xv := .slice none 0 0) (xp := .slice none 0 0) (xc := .slice none 0 0) HRB.out))) rfl ?_
  ·
   rfl
  rw [← HN.out]
  exact ⟨⟨_, rfl, _, HEV.out.exc (by have := HLO.out; omega) ((Exc.refl _ _).sa5 zeroA _ _ _ _)⟩, HXX.out.sa5 (by omega) zeroA _ _ _ _⟩
 ·
  by_cases hx0 : x.length = 0
  ·
   have hx0I : ((x.length : Int) == 0) = true := by rw [hx0]; rfl
   have HN : Hid (((none : Option (ANode × List Span)), 0) = R) := Lh (by
    rw [← HR.out, List.eq_nil_of_length_eq_zero hx0]; rfl)
   clear hx0
   refine rg_begin (S := Sx w1) (by kernel_rfl) (Sx.begin _) ?_
   have hS : Sx w1 (World.drew w1) := (Sx.begin _)
   refine rg_t 0 (some 12) (.pointer (some ⟨w.heap.size, 0, none⟩)) rfl hS (fun w' hs => by first | rfl | go_simp) ?_
   simp only [Act.put, sA, sZ, sS]
   refine rg_t 1 (some 13) (.int .i64 last) rfl hS (fun w' hs => by (have h0 := hs.cell lx x0; go_simp)) ?_
   simp only [Act.put, sA, sZ, sS]
   refine rg_t 2 (some 14) (.bool false) rfl hS (fun w' hs => by first | rfl | go_simp) ?_
   simp only [Act.put, sA, sZ, sS]
   refine rg_t 3 (some 15) (.bool false) rfl hS (fun w' hs => by rfl) ?_
   simp only [Act.put, sA, sZ, sS]
   refine rg_t 4 (some 16) (.slice xa x.length xc) rfl hS (fun w' hs => by rfl) ?_
   simp only [Act.put, sA, sZ, sS]
   refine rg_t 5 (some 17) (.int .i64 x.length) rfl hS (fun w' hs => by first | rfl | go_simp) ?_
   simp only [Act.put, sA, sZ, sS]
   refine rg_t 6 (some 18) (.bool true) rfl hS (fun w' hs => by first | rfl | go_simp) ?_
   simp only [Act.put, sA, sZ, sS]
   refine rg_t 7 (some 19) (.bool true) rfl hS (fun w' hs => by rfl) ?_
   simp only [Act.put, sA, sZ, sS]
   refine rg_t 8 (some 20) (.bool true) rfl hS (fun w' hs => by rfl) ?_
   simp only [Act.put, sA, sZ, sS]
   refine rg_s 9 (some 21) rfl hS ?_
   simp only [Act.put, sA, sZ, sS]
   refine rg_s 10 (some 22) rfl hS ?_
   simp only [Act.put, sA, sZ, sS]
   refine rg_s 11 (some 23) rfl hS ?_
   simp only [Act.put, sA, sZ, sS]
   refine rg_s 12 (some 24) rfl hS ?_
   simp only [Act.put, sA, sZ, sS]
   refine rg_s 13 (some 25) rfl hS ?_
   simp only [Act.put, sA, sZ, sS]
   refine rg_s 14 (some 26) rfl hS ?_
   simp only [Act.put, sA, sZ, sS]
   refine rg_s 15 (some 27) rfl hS ?_
   simp only [Act.put, sA, sZ, sS]
   refine rg_t 16 (some 28) (.bool true) rfl hS (fun w' hs => by rfl) ?_
   simp only [Act.put, sA, sZ, sS]
   refine rg_done (by kernel_rfl) ?_
   have HLO : Hid (w.heap.size + 2 ≤ (World.drew w1).heap.size) := Lh (Nat.le_of_eq HZ1.out.symm)
   go_wp2_with fail
   refine (pfail_any 32 0 (by decide) _).mono ?_
   rintro e wE ⟨⟨ev, rfl, hev⟩, hBE⟩
   have HRB := Lh ((HBR.out.ext (Ext.refl w1).drew).ext hBE)
   have HXX := Lh ((HE1.out.drew).trans hBE)
   have HEV := Lh hev
   have rc0 := HRB.out.c0
   have rf0 := HRB.out.f0
   have rc1 := HRB.out.c1
   have rf1 := HRB.out.f1
   have rc2 := HRB.out.c2
   have rf2 := HRB.out.f2
   have rc3 := HRB.out.c3
   have rf3 := HRB.out.f3
   have rc4 := HRB.out.c4
   have rf4 := HRB.out.f4
   obtain ⟨eb1, eb2, rfl, _⟩ := hev
   go_wp2_with fail
   (try simp only [Exit.inBlock, Exit.then])
   refine bodyPost_ret (res_node3 rfl _ _ _ ⟨w.heap.size + 1, 0, none⟩ ?_ (load_anode (A5.put (n := zeroA) (xk := .slice none 0 0) (xv := .slice none 0 0) (xp := .slice none 0 0) (xc := .slice none 0 0) HRB.out))) rfl ?_
   ·
    rfl
   rw [← HN.out]
   exact ⟨⟨_, rfl, _, HEV.out.exc (by have := HLO.out; omega) ((Exc.refl _ _).sa5 zeroA _ _ _ _)⟩, HXX.out.sa5 (by omega) zeroA _ _ _ _⟩
  ·
   have hx0I : ((x.length : Int) == 0) = false := by rw [beq_eq_false_iff_ne]; omega
   have hxp : (0 : Int) < (x.length : Int) := by omega
   have hxne : x ≠ [] := by intro e; rw [e] at hx0; exact hx0 rfl
   obtain ⟨gx, ox, sk, rfl, lgx0, _, s0, s1, hsk⟩ := step_at hvx 0 (by omega)
   rw [Nat.zero_mul, Nat.add_zero] at s0 s1
   have HR2 : Hid ((if last < 1 ∨ isB root x[0] = false then (none, 0) else walkA root (eitherS root.vers []) (x.drop 1) 1) = R) := Lh (by
    have e : x = x[0] :: x.drop 1 := by have := drop_one x 0 (by omega); simpa using this
    rw [← HR.out]; conv => rhs; rw [e]
    rfl)
   obtain ⟨s, hs⟩ : ∃ s, x[0] = s := ⟨_, rfl⟩
   rw [hs] at s0 hsk HR2
   obtain ⟨ska, skc, rfl, _, _⟩ := hsk.count z_str (by omega)
   have HC := Lh fun W (hE : Ext w W) => is_any p p root s _ (.slice rv root.vers.length rvc) (.slice rp root.parts.length rpc) (.slice rc root.kids.length rcc) _ W (hvk.ext hE) (hsk.ext hE) rfl rfl rfl
   obtain ⟨B, hB⟩ : ∃ B, isB root s = B := ⟨_, rfl⟩
   rw [hB] at HC HR2
   have u0 := HE1.out.keep lgx0 s0
   have u1 := HE1.out.keep lgx0 s1
   have lgx : gx < w1.heap.size := Nat.lt_of_lt_of_le lgx0 HE1.out.size
   clear hs hB hsk s0 s1 HR hx0
   refine rg_begin (S := Sx w1) (by kernel_rfl) (Sx.begin _) ?_
   have hS : Sx w1 (World.drew w1) := (Sx.begin _)
   refine rg_t 0 (some 12) (.pointer (some ⟨w.heap.size, 0, none⟩)) rfl hS (fun w' hs => by first | rfl | go_simp) ?_
   simp only [Act.put, sA, sZ, sS]
   refine rg_t 1 (some 13) (.int .i64 last) rfl hS (fun w' hs => by (have h0 := hs.cell lx x0; go_simp)) ?_
   simp only [Act.put, sA, sZ, sS]
   refine rg_t 2 (some 14) (.bool false) rfl hS (fun w' hs => by first | rfl | go_simp) ?_
   simp only [Act.put, sA, sZ, sS]
   refine rg_t 3 (some 15) (.bool false) rfl hS (fun w' hs => by rfl) ?_
   simp only [Act.put, sA, sZ, sS]
   refine rg_t 4 (some 16) (.slice (some ⟨gx, ox, none⟩) x.length xc) rfl hS (fun w' hs => by rfl) ?_
   simp only [Act.put, sA, sZ, sS]
   refine rg_t 5 (some 17) (.int .i64 x.length) rfl hS (fun w' hs => by first | rfl | go_simp) ?_
   simp only [Act.put, sA, sZ, sS]
   refine rg_t 6 (some 18) (.bool false) rfl hS (fun w' hs => by first | rfl | go_simp) ?_
   simp only [Act.put, sA, sZ, sS]
   refine rg_t 7 (some 19) (.bool false) rfl hS (fun w' hs => by rfl) ?_
   simp only [Act.put, sA, sZ, sS]
   refine rg_t 8 (some 20) (.bool false) rfl hS (fun w' hs => by rfl) ?_
   simp only [Act.put, sA, sZ, sS]
   refine rg_t 9 (some 21) (.pointer (some ⟨w.heap.size, 1, none⟩)) rfl hS (fun w' hs => by first | rfl | go_simp) ?_
   simp only [Act.put, sA, sZ, sS]
   refine rg_t 10 (some 22) (.agg #[.string (bs root.name), .slice rk root.key.length rkc, .slice rv root.vers.length rvc, .slice rp root.parts.length rpc, .slice rc root.kids.length rcc]) rfl hS (fun w' hs => by (have h0 := hs.cell lx x1; have h1 := hs.cell lx x2; have h2 := hs.cell lx x3; have h3 := hs.cell lx x4; have h4 := hs.cell lx x5; go_simp)) ?_
   simp only [Act.put, sA, sZ, sS]
   refine rg_t 11 (some 23) (.slice (some ⟨gx, ox, none⟩) x.length xc) rfl hS (fun w' hs => by rfl) ?_
   simp only [Act.put, sA, sZ, sS]
   refine rg_t 12 (some 24) (.pointer (some ⟨gx, ox, none⟩)) rfl hS (fun w' hs => by first | rfl | go_simp) ?_
   simp only [Act.put, sA, sZ, sS]
   refine rg_t 13 (some 25) (.agg #[.string (bs s.n), .slice ska s.key.length skc]) rfl hS (fun w' hs => by (have h0 := hs.cell lgx u0; have h1 := hs.cell lgx u1; go_simp)) ?_
   simp only [Act.put, sA, sZ, sS]
   refine rg_call 14 (some 26) 71 #[.agg #[.string (bs root.name), .slice rk root.key.length rkc, .slice rv root.vers.length rvc, .slice rp root.parts.length rpc, .slice rc root.kids.length rcc], .agg #[.string (bs s.n), .slice ska s.key.length skc]] rfl rfl (by kernel_rfl) (by rfl) (fun w' => by first | rfl | go_simp) (R := fun v w' => v = .bool B ∧ Ext (World.drew w1) w') ?_ ?_
   ·
    refine (HC.out (World.drew w1) (HE1.out.trans hS)).mono ?_
    rintro e w' ⟨rfl, h⟩
    exact ⟨_, rfl, rfl, h⟩
   rintro _ wr1 ⟨rfl, hBr1⟩
   have hS1 := hS.ext hBr1
   refine ⟨hS1, ?_⟩
   simp only [Act.put, sA, sZ, sS]
   refine rg_t 15 (some 27) (.bool (!B)) rfl hS1 (fun w' hs => by first | rfl | go_simp) ?_
   simp only [Act.put, sA, sZ, sS]
   refine rg_t 16 (some 28) (.bool (!B)) rfl hS1 (fun w' hs => by rfl) ?_
   simp only [Act.put, sA, sZ, sS]
   refine rg_done (by kernel_rfl) ?_
   cases B with
   | false =>
    have HN : Hid (((none : Option (ANode × List Span)), 0) = R) := Lh (by rw [← HR2.out, if_pos (.inr rfl)])
    have HLO : Hid (w.heap.size + 2 ≤ wr1.heap.size) := Lh (by have := HZ1.out; have := (show Ext w1 wr1 from hS1).size; omega)
    go_wp2_with fail
    refine (pfail_any 32 0 (by decide) _).mono ?_
    rintro e wE ⟨⟨ev, rfl, hev⟩, hBE⟩
    have HRB := Lh ((HBR.out.ext hS1).ext hBE)
    have HXX := Lh ((HE1.out.trans hS1).trans hBE)
    have HEV := Lh hev
    have rc0 := HRB.out.c0
    have rf0 := HRB.out.f0
    have rc1 := HRB.out.c1
    have rf1 := HRB.out.f1
    have rc2 := HRB.out.c2
    have rf2 := HRB.out.f2
    have rc3 := HRB.out.c3
    have rf3 := HRB.out.f3
    have rc4 := HRB.out.c4
    have rf4 := HRB.out.f4
    obtain ⟨eb1, eb2, rfl, _⟩ := hev
    go_wp2_with fail
    (try simp only [Exit.inBlock, Exit.then])
    refine bodyPost_ret (res_node3 rfl _ _ _ ⟨w.heap.size + 1, 0, none⟩ ?_ (load_anode (A5.put (n := zeroA) (xk := .slice none 0 0) (xv := .slice none 0 0) (xp := .slice none 0 0) (xc := .slice none 0 0) HRB.out))) rfl ?_
    ·
     rfl
    rw [← HN.out]
    exact ⟨⟨_, rfl, _, HEV.out.exc (by have := HLO.out; omega) ((Exc.refl _ _).sa5 zeroA _ _ _ _)⟩, HXX.out.sa5 (by omega) zeroA _ _ _ _⟩
   | true =>
    have HW : Hid (walkA root (eitherS root.vers []) (x.drop 1) 1 = R) := Lh (by rw [← HR2.out, if_neg (by simp; omega)])
    have hX1 := HE1.out.trans hS1
    have hvb := vB_own root HVB.out
    have HEI := Lh fun W (hE : Ext wr1 W) => either_any root.vers [] p (fun _ => False) _ (.slice none 0 0) W hvb.1 (by simp) (hvv.ext (hX1.trans hE)) (.nil 2)
    have y1 := hS1.keep lx x1
    have y2 := hS1.keep lx x2
    have y3 := hS1.keep lx x3
    have y4 := hS1.keep lx x4
    have y5 := hS1.keep lx x5
    have ly : w.heap.size < wr1.heap.size := Nat.lt_of_lt_of_le lx (show Ext w1 wr1 from hS1).size
    have hz1' : w.heap.size + 2 ≤ wr1.heap.size := by have := HZ1.out; have := (show Ext w1 wr1 from hS1).size; omega
    clear HR2 HC u0 u1 x0 x1 x2 x3 x4 x5 hvb
    go_wp2_with fail
    refine region_merge (fun ac ac' w' => ∃ (g7 : Nat) (sa : Option Addr) (sn : Nat) (sc : Nat), ac' = ((((((((ac.put (some 31) (.pointer (some ⟨w.heap.size, 1, none⟩))).put (some 32) (.agg #[.string (bs root.name), .slice rk root.key.length rkc, .slice rv root.vers.length rvc, .slice rp root.parts.length rpc, .slice rc root.kids.length rcc])).put (some 33) (.pointer (some ⟨w.heap.size, 1, none⟩))).put (some 34) (.pointer (some ⟨w.heap.size, 3, none⟩))).put (some 35) (.slice rv root.vers.length rvc)).put (some 36) (.slice sa sn sc)).put (some 7) (.pointer (some ⟨g7, 0, none⟩))).put (some 8) (.slice sa sn sc)) ∧ Hid (A5 w' g7 root (.slice rk root.key.length rkc) (.slice rv root.vers.length rvc) (.slice rp root.parts.length rpc) (.slice rc root.kids.length rcc) ∧ A5 w' (w.heap.size + 1) zeroA (.slice none 0 0) (.slice none 0 0) (.slice none 0 0) (.slice none 0 0) ∧ wr1.heap.size ≤ g7 ∧ Ext wr1 w' ∧ Rep w' (fun b => w.heap.size + 2 ≤ b ∧ b ≠ g7) (.slice sa sn sc) (spansD (eitherS root.vers [])))) ?_ ?_
    ·
     refine rg_begin (S := Sx wr1) (by kernel_rfl) (Sx.begin _) ?_
     have hSb : Sx wr1 (World.drew wr1) := (Sx.begin _)
     refine rg_t 0 (some 31) (.pointer (some ⟨w.heap.size, 1, none⟩)) rfl hSb (fun w' hs => by first | rfl | go_simp) ?_
     simp only [Act.put, sA, sZ, sS]
     refine rg_t 1 (some 32) (.agg #[.string (bs root.name), .slice rk root.key.length rkc, .slice rv root.vers.length rvc, .slice rp root.parts.length rpc, .slice rc root.kids.length rcc]) rfl hSb (fun w' hs => by (have h0 := hs.cell ly y1; have h1 := hs.cell ly y2; have h2 := hs.cell ly y3; have h3 := hs.cell ly y4; have h4 := hs.cell ly y5; go_simp)) ?_
     simp only [Act.put, sA, sZ, sS]
     refine rg_t 2 (some 33) (.pointer (some ⟨w.heap.size, 1, none⟩)) rfl hSb (fun w' hs => by first | rfl | go_simp) ?_
     simp only [Act.put, sA, sZ, sS]
     refine rg_t 3 (some 34) (.pointer (some ⟨w.heap.size, 3, none⟩)) rfl hSb (fun w' hs => by first | rfl | go_simp) ?_
     simp only [Act.put, sA, sZ, sS]
     refine rg_t 4 (some 35) (.slice rv root.vers.length rvc) rfl hSb (fun w' hs => by (have h0 := hs.cell ly y3; go_simp)) ?_
     simp only [Act.put, sA, sZ, sS]
     refine rg_two 5 6 (by kernel_rfl) ?_ ?_
     ·
      refine tk_call 5 (some 36) 43 #[.slice rv root.vers.length rvc, .slice none 0 0] rfl rfl (by rfl) (fun w' => by first | rfl | go_simp) (R := fun v w' => ∃ (o : Option Addr) (n c : Nat), v = .slice o n c ∧ Rep w' (fun b => (World.drew wr1).heap.size ≤ b) v (spansD (eitherS root.vers [])) ∧ Ext (World.drew wr1) w') ?_ ?_
      ·
       refine (HEI.out _ hSb).mono ?_
       rintro e w' ⟨⟨v, rfl, hv⟩, h⟩
       obtain ⟨o, c, rfl, _, _⟩ := hv.count z_span (by omega)
       exact ⟨_, rfl, o, _, c, rfl, hv, h⟩
      rintro _ wc ⟨sa, sn, sc, rfl, hua, hBc⟩
      have hSc : Sx wr1 wc := hSb.ext hBc
      refine ⟨hSc, ?_⟩
      simp only [Act.put, sA, sZ, sS]
      refine rg_one 6 (by kernel_rfl) ?_
      refine tk_new 6 (some 7) (.cells #[.string ⟨#[]⟩, .slice none 0 0, .slice none 0 0, .slice none 0 0, .slice none 0 0] 34) (fun n => .pointer (some ⟨n, 0, none⟩)) rfl rfl (by rfl) (by first | rfl | go_simp) ?_
      intro g7 xg eg hxg hzg hC
      have hSg : Sx wr1 xg := hSc.ext hxg
      refine ⟨hSg, ?_⟩
      simp only [Act.put, sA, sZ, sS]
      have lC : g7 < xg.heap.size := blk_lt hC
      have hua' : Rep xg (fun b => w.heap.size + 2 ≤ b ∧ b ≠ g7) (.slice sa sn sc) (spansD (eitherS root.vers [])) := (hua.lt.ext hxg).ok fun b hb => ⟨by have := (Sx.begin wr1 : Ext wr1 _).size; omega, by omega⟩
      refine rg_one 7 (by kernel_rfl) ?_
      have hbz : A5 xg g7 zeroA (.slice none 0 0) (.slice none 0 0) (.slice none 0 0) (.slice none 0 0) := ⟨blk_lt hC, blk_cell hC rfl, blk_cell hC rfl, blk_cell hC rfl, blk_cell hC rfl, blk_cell hC rfl, blk_free hC, blk_free hC, blk_free hC, blk_free hC, blk_free hC⟩
      refine tk_write 7 none (sa5 xg g7 root (.slice rk root.key.length rkc) (.slice rv root.vers.length rvc) (.slice rp root.parts.length rpc) (.slice rc root.kids.length rcc)) rfl rfl (by rfl) (exec_store rfl (store_anodeS (m := root) hbz _ _ _ _ _ _ _ _ _ _ _ _)) ?_
      have hge : wr1.heap.size ≤ g7 := by rw [eg]; exact (show Ext wr1 _ from hSc).size
      have hSs : Sx wr1 (sa5 xg g7 root (.slice rk root.key.length rkc) (.slice rv root.vers.length rvc) (.slice rp root.parts.length rpc) (.slice rc root.kids.length rcc)) := Ext.sa5 hSg hge _ _ _ _ _
      refine ⟨hSs, ?_⟩
      simp only [Act.put, sA, sZ, sS]
      have hbs := hbz.put (n := root) (xk := .slice rk root.key.length rkc) (xv := .slice rv root.vers.length rvc) (xp := .slice rp root.parts.length rpc) (xc := .slice rc root.kids.length rcc)
      have hus : Rep (sa5 xg g7 root (.slice rk root.key.length rkc) (.slice rv root.vers.length rvc) (.slice rp root.parts.length rpc) (.slice rc root.kids.length rcc)) (fun b => w.heap.size + 2 ≤ b ∧ b ≠ g7) (.slice sa sn sc) (spansD (eitherS root.vers [])) := hua'.kept fun b hb _ => sa5_block _ _ _ _ _ _ _ hb.2
      refine rg_t 8 (some 8) (.slice sa sn sc) rfl hSs (fun w' hs => by rfl) ?_
      simp only [Act.put, sA, sZ, sS]
      refine rg_done (by kernel_rfl) ?_
      exact ⟨g7, sa, sn, sc, (by simp only [Act.put, sA, sZ, sS]), Lh ⟨hbs, (HBR.out.ext hS1).ext hSs, hge, hSs, hus⟩⟩
     ·
      refine tk_new 6 (some 7) (.cells #[.string ⟨#[]⟩, .slice none 0 0, .slice none 0 0, .slice none 0 0, .slice none 0 0] 34) (fun n => .pointer (some ⟨n, 0, none⟩)) rfl rfl (by rfl) (by first | rfl | go_simp) ?_
      intro g7 xg eg hxg hzg hC
      have hSg : Sx wr1 xg := hSb.ext hxg
      refine ⟨hSg, ?_⟩
      simp only [Act.put, sA, sZ, sS]
      have lC : g7 < xg.heap.size := blk_lt hC
      refine rg_one 5 (by kernel_rfl) ?_
      refine tk_call 5 (some 36) 43 #[.slice rv root.vers.length rvc, .slice none 0 0] rfl rfl (by rfl) (fun w' => by first | rfl | go_simp) (R := fun v w' => ∃ (o : Option Addr) (n c : Nat), v = .slice o n c ∧ Rep w' (fun b => xg.heap.size ≤ b) v (spansD (eitherS root.vers [])) ∧ Ext xg w') ?_ ?_
      ·
       refine (HEI.out _ hSg).mono ?_
       rintro e w' ⟨⟨v, rfl, hv⟩, h⟩
       obtain ⟨o, c, rfl, _, _⟩ := hv.count z_span (by omega)
       exact ⟨_, rfl, o, _, c, rfl, hv, h⟩
      rintro _ wc ⟨sa, sn, sc, rfl, hua, hBc⟩
      have hSc : Sx wr1 wc := hSg.ext hBc
      refine ⟨hSc, ?_⟩
      simp only [Act.put, sA, sZ, sS]
      have hC' := (Below.block hBc g7 lC).trans hC
      clear hC
      have hC := hC'
      clear hC'
      have hua' : Rep wc (fun b => w.heap.size + 2 ≤ b ∧ b ≠ g7) (.slice sa sn sc) (spansD (eitherS root.vers [])) := hua.ok fun b hb => by have := (show Ext wr1 _ from hSg).size; omega
      refine rg_one 7 (by kernel_rfl) ?_
      have hbz : A5 wc g7 zeroA (.slice none 0 0) (.slice none 0 0) (.slice none 0 0) (.slice none 0 0) := ⟨blk_lt hC, blk_cell hC rfl, blk_cell hC rfl, blk_cell hC rfl, blk_cell hC rfl, blk_cell hC rfl, blk_free hC, blk_free hC, blk_free hC, blk_free hC, blk_free hC⟩
      refine tk_write 7 none (sa5 wc g7 root (.slice rk root.key.length rkc) (.slice rv root.vers.length rvc) (.slice rp root.parts.length rpc) (.slice rc root.kids.length rcc)) rfl rfl (by rfl) (exec_store rfl (store_anodeS (m := root) hbz _ _ _ _ _ _ _ _ _ _ _ _)) ?_
      have hge : wr1.heap.size ≤ g7 := by rw [eg]; exact (show Ext wr1 _ from hSb).size
      have hSs : Sx wr1 (sa5 wc g7 root (.slice rk root.key.length rkc) (.slice rv root.vers.length rvc) (.slice rp root.parts.length rpc) (.slice rc root.kids.length rcc)) := Ext.sa5 hSc hge _ _ _ _ _
      refine ⟨hSs, ?_⟩
      simp only [Act.put, sA, sZ, sS]
      have hbs := hbz.put (n := root) (xk := .slice rk root.key.length rkc) (xv := .slice rv root.vers.length rvc) (xp := .slice rp root.parts.length rpc) (xc := .slice rc root.kids.length rcc)
      have hus : Rep (sa5 wc g7 root (.slice rk root.key.length rkc) (.slice rv root.vers.length rvc) (.slice rp root.parts.length rpc) (.slice rc root.kids.length rcc)) (fun b => w.heap.size + 2 ≤ b ∧ b ≠ g7) (.slice sa sn sc) (spansD (eitherS root.vers [])) := hua'.kept fun b hb _ => sa5_block _ _ _ _ _ _ _ hb.2
      refine rg_t 8 (some 8) (.slice sa sn sc) rfl hSs (fun w' hs => by rfl) ?_
      simp only [Act.put, sA, sZ, sS]
      refine rg_done (by kernel_rfl) ?_
      exact ⟨g7, sa, sn, sc, (by simp only [Act.put, sA, sZ, sS]), Lh ⟨hbs, (HBR.out.ext hS1).ext hSs, hge, hSs, hus⟩⟩
    rintro _ w3 ⟨g7, sa, sn, sc, rfl, HF⟩
    simp only [Act.put, sA, sZ, sS]
    have hxn1 : (1 : Int) ≤ (x.length : Int) := by omega
    by_cases hxc : xc = 1
    ·
     subst hxc
     have HX1 : Hid (Rep w p (.slice (some ⟨gx, ox, none⟩) 0 0) (stepsD (x.drop 1)) ∧ (x.drop 1).length = 0) := Lh (by
      have e : x.drop 1 = [] := List.drop_of_length_le (by omega)
      rw [e]; exact ⟨.row _ _ 0 0 2 [] [] (fun h => by simp at h) rfl rfl (Nat.le_refl _) (by omega) (fun k u h => by simp at h) (fun k u e h => by simp at h), rfl⟩)
     go_wp2_with fail
     obtain ⟨X1, hXX1⟩ : ∃ X, x.drop 1 = X := ⟨_, rfl⟩
     rw [hXX1] at HX1 HW
     have HXS : Hid (Rep w p (.slice (some ⟨gx, ox, none⟩) 0 0) (stepsD X1)) := Lh HX1.out.1
     have HXL : Hid (X1.length = 0) := Lh HX1.out.2
     have hg7' : w.heap.size + 2 ≤ g7 := Nat.le_trans hz1' HF.out.2.2.1
     have hX3 : Ext w w3 := hX1.trans HF.out.2.2.2.1
     have h30 : FFact w w3 p g7 (w.heap.size + 1) root (eitherS root.vers []) (.slice rk root.key.length rkc) (.slice rv root.vers.length rvc) (.slice rp root.parts.length rpc) (.slice rc root.kids.length rcc) (.slice sa sn sc) X1 0 R := ⟨HF.out.1, HF.out.2.1, hvk, hvv, hvp, hvc, HF.out.2.2.2.2, HVB.out, by have := (vB_own root HVB.out).1; unfold eitherS; split <;> simp <;> omega, HW.out⟩
     have H30 := Lh h30
     clear hXX1 HX1 HF HW h30 hvk hvv hvp hvc hvx HEI y1 y2 y3 y4 y5 HBR HE1 HZ1 hS1
     go_loopw [8, 40] (fun sv t wr => ∃ (i : Nat) (n : ANode) (vs : List Span) (k v pa c sva : Option Addr) (kc vc pc cc svc : Nat), t = .int .i64 i ∧ sv = .slice sva vs.length svc ∧ i ≤ X1.length ∧ Ext w wr ∧ Hid (FFact w wr p g7 (w.heap.size + 1) n vs (.slice k n.key.length kc) (.slice v n.vers.length vc) (.slice pa n.parts.length pc) (.slice c n.kids.length cc) (.slice sva vs.length svc) (X1.drop i) i R)) (fun _ t _ => downV X1.length t)
     case atStart =>
      obtain ⟨a1, c1, e1, _, _⟩ := H30.out.2.2.2.2.2.2.1.count z_span (by omega)
      cases e1
      exact ⟨0, root, _, rk, rv, rp, rc, sa, rkc, rvc, rpc, rcc, sc, rfl, rfl, Nat.zero_le _, hX3, H30⟩
     case round =>
      clear H30
      obtain ⟨i, n, vs, k, v, pa, c, sva, kc, vc, pc, cc, svc, rfl, rfl, hi, hX, HH⟩ := hrel
      obtain ⟨hA, hBR, hk, hv, hpa, hc, hsv, hvb, hvl, hW⟩ := HH.out
      clear HH
      have hi0 : (0 : Int) ≤ (i : Int) := by omega
      have hibd : i ≤ 1048576 := by have := HXL.out; omega
      have hA4 := hA.c4
      have hg7l := hA.lt
      by_cases hlt : i < X1.length
      ·
       exact absurd hlt (by have := HXL.out; omega)
      ·
       have hlI : ¬ (i : Int) < ((0 : Nat) : Int) := by have := HXL.out; omega
       have HN : Hid ((some (n, vs), i + 1) = R) := Lh (by rw [← hW, List.drop_of_length_le (by omega), walkA])
       have HRB := Lh hBR
       have HXX := Lh (And.intro hX (And.intro hk (And.intro hv (And.intro hpa (And.intro hc hsv)))))
       have p0 := hA.c0; have q0 := hA.f0
       have p1 := hA.c1; have q1 := hA.f1
       have p2 := hA.c2; have q2 := hA.f2
       have p3 := hA.c3; have q3 := hA.f3
       have p4 := hA.c4; have q4 := hA.f4
       have r0 := hBR.c0; have s0 := hBR.f0
       have r1 := hBR.c1; have s1 := hBR.f1
       have r2 := hBR.c2; have s2 := hBR.f2
       have r3 := hBR.c3; have s3 := hBR.f3
       have r4 := hBR.c4; have s4 := hBR.f4
       clear hW hA hBR hk hv hpa hc hsv hA4 hvb HXS
       go_wp2_with fail
       (try simp only [Exit.inBlock, Exit.then])
       refine bodyPost_ret (res_node3 rfl _ _ _ ⟨w.heap.size + 1, 0, none⟩ ?_ (load_anode (A5.put (n := n) (xk := .slice k n.key.length kc) (xv := .slice v n.vers.length vc) (xp := .slice pa n.parts.length pc) (xc := .slice c n.kids.length cc) HRB.out))) rfl ?_
       ·
        rfl
       rw [← HN.out]
       obtain ⟨hx, hk, hv, hpa, hc, hsv⟩ := HXX.out
       have hX6 := hx.sa5 (b := w.heap.size + 1) (by omega) n (.slice k n.key.length kc) (.slice v n.vers.length vc) (.slice pa n.parts.length pc) (.slice c n.kids.length cc)
       exact ⟨⟨k, v, pa, c, kc, vc, pc, cc, _, rfl, hk.ext hX6, hv.ext hX6, hpa.ext hX6, hc.ext hX6, (hsv.kept fun b hb _ => sa5_block _ _ _ _ _ _ _ (by omega)).ok fun b hb => by omega⟩, hX6⟩
    ·
     have HX1 : Hid (Rep w p (.slice (some ⟨gx, ox + 2, none⟩) (x.length - 1) (xc - 1)) (stepsD (x.drop 1)) ∧ (x.drop 1).length = x.length - 1) := Lh (by
      have h1 := hvx.sub 1 x.length (xc - 1) (by omega) (Nat.le_refl _) (by omega) (by omega)
      rw [flat_drop _ 2 z_step, ] at h1
      have h2 : (x.drop 1).flatMap stepC = ((x.drop 1).flatMap stepC).take ((x.length - 1) * 2) := by rw [List.take_of_length_le]; rw [flat_len _ 2 z_step, List.length_drop]; exact Nat.le_refl _
      rw [← h2] at h1
      rw [show ox + 1 * 2 = ox + 2 by omega] at h1
      exact ⟨h1, by simp⟩)
     go_wp2_with fail
     obtain ⟨X1, hXX1⟩ : ∃ X, x.drop 1 = X := ⟨_, rfl⟩
     rw [hXX1] at HX1 HW
     have HXS : Hid (Rep w p (.slice (some ⟨gx, ox + 2, none⟩) (x.length - 1) (xc - 1)) (stepsD X1)) := Lh HX1.out.1
     have HXL : Hid (X1.length = (x.length - 1)) := Lh HX1.out.2
     have hg7' : w.heap.size + 2 ≤ g7 := Nat.le_trans hz1' HF.out.2.2.1
     have hX3 : Ext w w3 := hX1.trans HF.out.2.2.2.1
     have h30 : FFact w w3 p g7 (w.heap.size + 1) root (eitherS root.vers []) (.slice rk root.key.length rkc) (.slice rv root.vers.length rvc) (.slice rp root.parts.length rpc) (.slice rc root.kids.length rcc) (.slice sa sn sc) X1 0 R := ⟨HF.out.1, HF.out.2.1, hvk, hvv, hvp, hvc, HF.out.2.2.2.2, HVB.out, by have := (vB_own root HVB.out).1; unfold eitherS; split <;> simp <;> omega, HW.out⟩
     have H30 := Lh h30
     clear hXX1 HX1 HF HW h30 hvk hvv hvp hvc hvx HEI y1 y2 y3 y4 y5 HBR HE1 HZ1 hS1
     go_loopw [8, 40] (fun sv t wr => ∃ (i : Nat) (n : ANode) (vs : List Span) (k v pa c sva : Option Addr) (kc vc pc cc svc : Nat), t = .int .i64 i ∧ sv = .slice sva vs.length svc ∧ i ≤ X1.length ∧ Ext w wr ∧ Hid (FFact w wr p g7 (w.heap.size + 1) n vs (.slice k n.key.length kc) (.slice v n.vers.length vc) (.slice pa n.parts.length pc) (.slice c n.kids.length cc) (.slice sva vs.length svc) (X1.drop i) i R)) (fun _ t _ => downV X1.length t)
     case atStart =>
      obtain ⟨a1, c1, e1, _, _⟩ := H30.out.2.2.2.2.2.2.1.count z_span (by omega)
      cases e1
      exact ⟨0, root, _, rk, rv, rp, rc, sa, rkc, rvc, rpc, rcc, sc, rfl, rfl, Nat.zero_le _, hX3, H30⟩
     case round =>
      clear H30
      obtain ⟨i, n, vs, k, v, pa, c, sva, kc, vc, pc, cc, svc, rfl, rfl, hi, hX, HH⟩ := hrel
      obtain ⟨hA, hBR, hk, hv, hpa, hc, hsv, hvb, hvl, hW⟩ := HH.out
      clear HH
      have hi0 : (0 : Int) ≤ (i : Int) := by omega
      have hibd : i ≤ 1048576 := by have := HXL.out; omega
      have hA4 := hA.c4
      have hg7l := hA.lt
      by_cases hlt : i < X1.length
      ·
       have hlI : (i : Int) < (((x.length - 1) : Nat) : Int) := by have := HXL.out; omega
       obtain ⟨g2, o2, k2, e2, lg2, _, u0, u1, hr2⟩ := step_at HXS.out i hlt
       cases e2
       have HS : Hid (walkA n vs (X1.drop i) (i + 1) = if idxA X1[i] n.kids 0 < 0 then (none, i + 1) else walkA (n.kids.getD (idxA X1[i] n.kids 0).toNat zeroA) (eitherS (n.kids.getD (idxA X1[i] n.kids 0).toNat zeroA).vers vs) (X1.drop (i + 1)) (i + 1 + 1)) := Lh (by rw [drop_one X1 i hlt, walkA])
       obtain ⟨t, ht⟩ : ∃ t, X1[i] = t := ⟨_, rfl⟩
       rw [ht] at u0 hr2 HS
       obtain ⟨k2a, k2c, rfl, _, _⟩ := hr2.count z_str (by omega)
       have n0 := hX.keep lg2 u0
       have n1 := hX.keep lg2 u1
       have lgr : gx < wr.heap.size := Nat.lt_of_lt_of_le lg2 hX.size
       have hEa : Ext wr (wr.alloc (.cells #[.string (bs t.n), .slice k2a t.key.length k2c] 76)) := (Ext.refl wr).alloc _
       have HIX := Lh (indexa_any p p n.kids t (.slice c n.kids.length cc) k2a t.key.length k2c wr.heap.size _ (hc.ext (hX.trans hEa)) (hr2.ext (hX.trans hEa)) (by simp) (by simp [go_sem]) (by simp [go_sem]))
       have hrg := idxA_range t n.kids 0
       obtain ⟨J, hJ⟩ : ∃ J, idxA t n.kids 0 = J := ⟨_, rfl⟩
       rw [hJ] at HIX hrg HS
       have HRG := Lh hrg
       have HEA := Lh hEa
       clear hJ ht u0 u1 hr2 hrg hEa
       go_wp2_with fail
       refine HIX.out.mono ?_
       rintro e w4 ⟨rfl, hB4⟩
       have hE4 : Ext wr w4 := HEA.out.trans hB4
       have hX4 := hX.trans hE4
       have hA4' := hA.ext hE4
       have hBR4 := hBR.ext hE4
       have hsv4 := hsv.ext hE4
       clear HIX HEA n0 n1 hB4 hA hBR hsv hA4
       by_cases hneg : J < 0
       ·
        have HN : Hid (((none : Option (ANode × List Span)), i + 1) = R) := Lh (by rw [← hW, HS.out, if_pos hneg])
        have HLO : Hid (w.heap.size + 2 ≤ w4.heap.size) := Lh (by have := hA4'.lt; omega)
        clear HS hW HRG
        go_wp2_with fail
        refine (pfail_any 32 ((i : Int) + 1) (by decide) _).mono ?_
        rintro e wE ⟨⟨ev, rfl, hev⟩, hBE⟩
        have HRB := Lh ((hBR4).ext hBE)
        have HXX := Lh ((hX4).trans hBE)
        have HEV := Lh hev
        have rc0 := HRB.out.c0
        have rf0 := HRB.out.f0
        have rc1 := HRB.out.c1
        have rf1 := HRB.out.f1
        have rc2 := HRB.out.c2
        have rf2 := HRB.out.f2
        have rc3 := HRB.out.c3
        have rf3 := HRB.out.f3
        have rc4 := HRB.out.c4
        have rf4 := HRB.out.f4
        obtain ⟨eb1, eb2, rfl, _⟩ := hev
        go_wp2_with fail
        (try simp only [Exit.inBlock, Exit.then])
        refine bodyPost_ret (res_node3 rfl _ _ _ ⟨w.heap.size + 1, 0, none⟩ ?_ (load_anode (A5.put (n := zeroA) (xk := .slice none 0 0) (xv := .slice none 0 0) (xp := .slice none 0 0) (xc := .slice none 0 0) HRB.out))) rfl ?_
        ·
         rfl
        rw [← HN.out]
        exact ⟨⟨_, rfl, _, HEV.out.exc (by have := HLO.out; omega) ((Exc.refl _ _).sa5 zeroA _ _ _ _)⟩, HXX.out.sa5 (by omega) zeroA _ _ _ _⟩
       ·
        obtain ⟨j, rfl⟩ : ∃ j : Nat, J = (j : Int) := ⟨J.toNat, by omega⟩
        have hjl : j < n.kids.length := by have := HRG.out; omega
        have hjI : (j : Int) < (n.kids.length : Int) := by omega
        have hj0 : (0 : Int) ≤ (j : Int) := by omega
        obtain ⟨gk, ok, xk, xv, xp, xc', e5, lgk, _, d0, d1, d2, d3, d4, hdk, hdv, hdp, hdc⟩ := anode_at hc j hjl
        cases e5
        have hvz := vBL_get n.kids j hjl (vB_own n hvb).2
        have HN : Hid (walkA n.kids[j] (eitherS n.kids[j].vers vs) (X1.drop (i + 1)) (i + 1 + 1) = R) := Lh (by
         rw [← hW, HS.out, if_neg hneg, Int.toNat_natCast, List.getD_eq_getElem?_getD, List.getElem?_eq_getElem hjl]; rfl)
        obtain ⟨z, hz⟩ : ∃ z, n.kids[j] = z := ⟨_, rfl⟩
        rw [hz] at d0 hdk hdv hdp hdc hvz HN
        obtain ⟨ka, kac, rfl, _, _⟩ := hdk.count z_str (by omega)
        obtain ⟨va, vac, rfl, _, _⟩ := hdv.count z_span (by omega)
        obtain ⟨qa, qac, rfl, _, _⟩ := hdp.count z_part (by omega)
        obtain ⟨ca, cac, rfl, _, _⟩ := hdc.count z_anode (by omega)
        have n0 := hX4.keep lgk d0; have n1 := hX4.keep lgk d1; have n2 := hX4.keep lgk d2; have n3 := hX4.keep lgk d3; have n4 := hX4.keep lgk d4
        have p0 := hA4'.c0; have q0 := hA4'.f0
        have p1 := hA4'.c1; have q1 := hA4'.f1
        have p2 := hA4'.c2; have q2 := hA4'.f2
        have p3 := hA4'.c3; have q3 := hA4'.f3
        have p4 := hA4'.c4; have q4 := hA4'.f4
        have hX5 : Ext w (sa5 w4 g7 z (.slice ka z.key.length kac) (.slice va z.vers.length vac) (.slice qa z.parts.length qac) (.slice ca z.kids.length cac)) := Ext.sa5 hX4 (by omega) _ _ _ _ _
        have hA5 := hA4'.put (n := z) (xk := .slice ka z.key.length kac) (xv := .slice va z.vers.length vac) (xp := .slice qa z.parts.length qac) (xc := .slice ca z.kids.length cac)
        have hBR5 : A5 (sa5 w4 g7 z (.slice ka z.key.length kac) (.slice va z.vers.length vac) (.slice qa z.parts.length qac) (.slice ca z.kids.length cac)) (w.heap.size + 1) zeroA (.slice none 0 0) (.slice none 0 0) (.slice none 0 0) (.slice none 0 0) := hBR4.block (by rw [sa5_size]; exact Nat.le_refl _) (sa5_block _ _ _ _ _ _ _ (by omega))
        have hsv5 : Rep (sa5 w4 g7 z (.slice ka z.key.length kac) (.slice va z.vers.length vac) (.slice qa z.parts.length qac) (.slice ca z.kids.length cac)) (fun b => w.heap.size + 2 ≤ b ∧ b ≠ g7) (.slice sva vs.length svc) (spansD vs) := hsv4.kept fun b hb _ => sa5_block _ _ _ _ _ _ _ hb.2
        have hvz1 := vB_own z hvz
        have HEI := Lh (either_any z.vers vs p _ _ _ _ hvz1.1 hvl (hdv.ext hX5) hsv5)
        have hs5 := sa5_size w4 g7 z (.slice ka z.key.length kac) (.slice va z.vers.length vac) (.slice qa z.parts.length qac) (.slice ca z.kids.length cac)
        have hlt7 := hA4'.lt
        have HF5 := Lh (And.intro hX5 (And.intro hA5 (And.intro hBR5 (And.intro hs5 (And.intro hdk (And.intro hdv (And.intro hdp (And.intro hdc hvz))))))))
        have hvl6 : (eitherS z.vers vs).length ≤ 1048576 := by unfold eitherS; split <;> omega
        obtain ⟨vs', hvs'⟩ : ∃ vs', eitherS z.vers vs = vs' := ⟨_, rfl⟩
        rw [hvs'] at HEI HN hvl6
        clear hz hvs' HS hW hX5 hA5 hBR5 hsv5 hs5 hdk hdv hdp hdc hvz hvz1 hA4' hBR4 hsv4 d0 d1 d2 d3 d4 hk hv hpa hc hvb HRG hneg
        go_wp2_with fail
        refine HEI.out.mono ?_
        rintro e w6 ⟨⟨v6, rfl, hv6⟩, hB6⟩
        obtain ⟨v6a, v6c, rfl, _, _⟩ := hv6.count z_span (by omega)
        have H6 : Hid (Ext w w6 ∧ FFact w w6 p g7 (w.heap.size + 1) z vs' (.slice ka z.key.length kac) (.slice va z.vers.length vac) (.slice qa z.parts.length qac) (.slice ca z.kids.length cac) (.slice v6a vs'.length v6c) (X1.drop (i + 1)) (i + 1) R) := Lh (by
         obtain ⟨h1, h2, h3, h4, h5, h6, h7, h8, h9⟩ := HF5.out
         exact ⟨h1.trans hB6, h2.ext hB6, h3.ext hB6, h5, h6, h7, h8, hv6.ok fun b hb => (by have hb' : (sa5 w4 g7 z (.slice ka z.key.length kac) (.slice va z.vers.length vac) (.slice qa z.parts.length qac) (.slice ca z.kids.length cac)).heap.size ≤ b := hb; rw [h4] at hb'; omega), h9, hvl6, HN.out⟩)
        clear HF5 HEI hv6 hB6 n0 n1 n2 n3 n4 p0 p1 p2 p3 p4 q0 q1 q2 q3 q4 HN
        go_wp2_with fail
        go_roundw
        case rel => exact ⟨i + 1, z, vs', ka, va, qa, ca, v6a, kac, vac, qac, cac, v6c, by go_num, rfl, by omega, H6.out.1, Lh H6.out.2⟩
        case measure => simp only [downV]; omega
      ·
       have hlI : ¬ (i : Int) < (((x.length - 1) : Nat) : Int) := by have := HXL.out; omega
       have HN : Hid ((some (n, vs), i + 1) = R) := Lh (by rw [← hW, List.drop_of_length_le (by omega), walkA])
       have HRB := Lh hBR
       have HXX := Lh (And.intro hX (And.intro hk (And.intro hv (And.intro hpa (And.intro hc hsv)))))
       have p0 := hA.c0; have q0 := hA.f0
       have p1 := hA.c1; have q1 := hA.f1
       have p2 := hA.c2; have q2 := hA.f2
       have p3 := hA.c3; have q3 := hA.f3
       have p4 := hA.c4; have q4 := hA.f4
       have r0 := hBR.c0; have s0 := hBR.f0
       have r1 := hBR.c1; have s1 := hBR.f1
       have r2 := hBR.c2; have s2 := hBR.f2
       have r3 := hBR.c3; have s3 := hBR.f3
       have r4 := hBR.c4; have s4 := hBR.f4
       clear hW hA hBR hk hv hpa hc hsv hA4 hvb HXS
       go_wp2_with fail
       (try simp only [Exit.inBlock, Exit.then])
       refine bodyPost_ret (res_node3 rfl _ _ _ ⟨w.heap.size + 1, 0, none⟩ ?_ (load_anode (A5.put (n := n) (xk := .slice k n.key.length kc) (xv := .slice v n.vers.length vc) (xp := .slice pa n.parts.length pc) (xc := .slice c n.kids.length cc) HRB.out))) rfl ?_
       ·
        rfl
       rw [← HN.out]
       obtain ⟨hx, hk, hv, hpa, hc, hsv⟩ := HXX.out
       have hX6 := hx.sa5 (b := w.heap.size + 1) (by omega) n (.slice k n.key.length kc) (.slice v n.vers.length vc) (.slice pa n.parts.length pc) (.slice c n.kids.length cc)
       exact ⟨⟨k, v, pa, c, kc, vc, pc, cc, _, rfl, hk.ext hX6, hv.ext hX6, hpa.ext hX6, hc.ext hX6, (hsv.kept fun b hb _ => sa5_block _ _ _ _ _ _ _ (by omega)).ok fun b hb => by omega⟩, hX6⟩
end Go.Proofs.YtkelpbbekeelcaaGreatDoor
