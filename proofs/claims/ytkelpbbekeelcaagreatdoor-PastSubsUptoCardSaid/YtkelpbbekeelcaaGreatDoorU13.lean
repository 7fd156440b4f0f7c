/-
 past.History. Helper lemmas; no statement of the seat is proved here.
-/
import Derived.Test.YtkelpbbekeelcaaGreatDoorU12
import Derived.Test.YtkelpbbekeelcaaGreatDoorU11
namespace Go.Proofs.YtkelpbbekeelcaaGreatDoor
open Go.RowKit
set_option maxHeartbeats 32000000
set_option maxRecDepth 100000
set_option linter.unusedVariables false
set_option linter.unusedSimpArgs false
def RetH (q : Nat → Prop) (r : Option (ANode × List Span) × Nat) (e : Ending) (w : World) : Prop :=
 match r.1 with
 | some (n, vs) => ∃ sv, e = .returned (.tuple #[sv, .nilIface]) ∧ Rep w q sv (spansD vs)
 | none => ∃ ev, e = .returned (.tuple #[.slice none 0 0, ev]) ∧ ∃ lo, ErrV w lo 32 r.2 ev
theorem phist_any (last : Int) (root : ANode) (x : List Step) (p : Nat → Prop) (vk vv vp vc vx : Value) (w : World) (hb : vB root = true) (hxl : x.length ≤ 1048576)
  (hvk : Rep w p vk (strsD root.key)) (hvv : Rep w p vv (spansD root.vers)) (hvp : Rep w p vp (partsD root.parts)) (hvc : Rep w p vc (anodesD root.kids)) (hvx : Rep w p vx (stepsD x)) :
  Calls Tryz.prog 12 #[.agg #[.int .i64 last, .string (bs root.name), vk, vv, vp, vc], vx] w fun e w' => RetH (fun b => w.heap.size ≤ b) (findA last root x) e w' ∧ Ext w w' := by
 have hE1 : Ext w (w.alloc (.cells #[.int .i64 last, .string (bs root.name), vk, vv, vp, vc] 36)) := (Ext.refl w).alloc _
 have HC := Lh (find_any last root x p vk vv vp vc vx _ hb hxl (hvk.ext hE1) (hvv.ext hE1) (hvp.ext hE1) (hvc.ext hE1) (hvx.ext hE1))
 obtain ⟨rk, rkc, rfl, _, _⟩ := hvk.count z_str (by omega)
 obtain ⟨rv, rvc, rfl, _, _⟩ := hvv.count z_span (by omega)
 obtain ⟨rp, rpc, rfl, _, _⟩ := hvp.count z_part (by omega)
 obtain ⟨rc, rcc, rfl, _, _⟩ := hvc.count z_anode (by omega)
 obtain ⟨xa, xc, rfl, hx1, hx2⟩ := hvx.count z_step (by omega)
 obtain ⟨R, hR⟩ : ∃ R, findA last root x = R := ⟨_, rfl⟩
 rw [hR] at HC ⊢
 have HE1 := Lh hE1
 clear hR hb hvk hvv hvp hvc hvx hE1
 go_enter Tryz.func12, Tryz.ntmps12
 go_wp2_with fail
 refine HC.out.mono ?_
 rintro e w2 ⟨hr, hB2⟩
 have hE2 := HE1.out.trans hB2
 obtain ⟨o, j⟩ := R
 cases o with
 | none =>
  obtain ⟨ev, rfl, lo, hev⟩ := hr
  have HEV := Lh hev
  obtain ⟨eb1, eb2, rfl, _⟩ := hev
  go_wp2_with fail
  go_ret2
  exact ⟨⟨_, rfl, lo, HEV.out.ext ((Ext.refl w2).alloc _)⟩, hE2.alloc _⟩
 | some nv =>
  obtain ⟨n, vs⟩ := nv
  obtain ⟨k, v, pa, c, kc, vc', pc, cc, sv, rfl, hk, hv, hpa, hc, hsv⟩ := hr
  obtain ⟨sa, sc, rfl, _, _⟩ := hsv.count z_span (by omega)
  go_wp2_with fail
  go_ret2
  exact ⟨⟨_, rfl, (hsv.ext ((Ext.refl w2).alloc _)).ok fun b hb => Nat.le_trans HE1.out.size hb⟩, hE2.alloc _⟩
end Go.Proofs.YtkelpbbekeelcaaGreatDoor
