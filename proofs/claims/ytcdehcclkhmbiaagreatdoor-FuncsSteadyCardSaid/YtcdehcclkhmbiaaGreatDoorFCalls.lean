/-
  funcs.Call at the functions that the laws ask. Helper lemmas; no statement of the seat is proved here.
-/
import Derived.Test.YtcdehcclkhmbiaaGreatDoorFTold
import Derived.Test.YtcdehcclkhmbiaaGreatDoorFCall
import Derived.Test.YtcdehcclkhmbiaaGreatDoorFText
namespace Go.Proofs.YtcdehcclkhmbiaaGreatDoor
open Go.RowKit
set_option maxRecDepth 100000
set_option linter.unusedVariables false
set_option linter.unusedSimpArgs false

/-- A caller of the laws: asked of no node. -/
abbrev CAt (w : World) (q ab n cp : Nat) : Prop := CallerAt w q (.slice none 0 0) 0 0 0 0 (.slice (some ⟨ab, 0, none⟩) n cp)
theorem textOf_text {w : World} {q ab n cp i : Nat} {b nn : Bool} {nv : Int} {s : List UInt8} (hi : i < n) (hn : n ≤ 1000000) (hC : CAt w q ab n cp) (hA : ArgAt w ab i 4 b nn nv (bs s)) : Hid (TextOf w q i (bs s)) :=
  Lib.hid fun W hX => ctext_any q none 0 0 0 0 0 0 ab n cp i 4 b nn nv (bs s) W hi hn (hC.ext hX) (hA.ext hX) (bs s) (Lib.hid fun W' hX' => vtext_text none 0 0 b nn nv (bs s) W')
theorem textOf_num {w : World} {q ab n cp i : Nat} {b nn : Bool} {nv : Int} {s : List UInt8} (hi : i < n) (hn : n ≤ 1000000) (hC : CAt w q ab n cp) (hA : ArgAt w ab i 3 b nn nv (bs s)) (G : Glob w) : Hid (TextOf w q i (bs (textS nn nv))) :=
  Lib.hid fun W hX => ctext_any q none 0 0 0 0 0 0 ab n cp i 3 b nn nv (bs s) W hi hn (hC.ext hX) (hA.ext hX) (bs (textS nn nv)) (Lib.hid fun W' hX' => vtext_num none 0 0 b nn nv (bs s) W' (G.ext (hX.trans hX')))
theorem numOf_num {w : World} {q ab n cp i : Nat} {b nn : Bool} {nv : Int} {s : List UInt8} (hi : i < n) (hn : n ≤ 1000000) (hC : CAt w q ab n cp) (hA : ArgAt w ab i 3 b nn nv (bs s)) : Hid (NumOf w q i nn nv 0) :=
  Lib.hid fun W hX => cnumber_any q none 0 0 0 0 0 0 ab n cp i 3 b nn nv (bs s) W hi hn (hC.ext hX) (hA.ext hX) nn nv 0 (Lib.hid fun W' hX' => vnum_num none 0 0 b nn nv (bs s) W')
theorem numOf_text {w : World} {q ab n cp i : Nat} {b nn : Bool} {nv : Int} {s : List UInt8} (hi : i < n) (hn : n ≤ 1000000) (hC : CAt w q ab n cp) (hA : ArgAt w ab i 4 b nn nv (bs s)) (G : Glob w) (hs : s.length ≤ 4294967280) {r1 : Bool} {r2 r3 : Int} (hr : parseS s = ((r1, r2), r3)) : Hid (NumOf w q i r1 r2 r3) :=
  Lib.hid fun W hX => cnumber_any q none 0 0 0 0 0 0 ab n cp i 4 b nn nv (bs s) W hi hn (hC.ext hX) (hA.ext hX) r1 r2 r3 (Lib.hid fun W' hX' => vnum_text none 0 0 b nn nv (bs s) W' (G.ext (hX.trans hX')) (by rw [bs_size]; exact hs) hr)

theorem c_before (s p : List UInt8) (h0 : s.length ≤ 4294967280)  (ab cp : Nat) (w : World) (G : Glob w) (A0 : ArgAt w ab 0 4 false false 0 (bs s)) (A1 : ArgAt w ab 1 4 false false 0 (bs p)) :
    Calls Tryz.prog 9 #[.slice none 0 0, .agg #[.int .i64 0, .int .i64 0, .int .i64 0, .int .i64 0], .string ⟨#[115, 117, 98, 115, 116, 114, 105, 110, 103, 45, 98, 101, 102, 111, 114, 101]⟩, .slice (some ⟨ab, 0, none⟩) 2 cp] w fun e w' => e = .returned (.tuple #[valV 4 false false 0 (bs (cutS s p).1), .int .i64 0]) ∧ Ext w w' :=
  call_hit1 ⟨#[115, 117, 98, 115, 116, 114, 105, 110, 103, 45, 98, 101, 102, 111, 114, 101]⟩ none 0 0 0 0 0 0 (some ⟨ab, 0, none⟩) 2 cp w 2 2 43 (enters Tryz.func43 (by kernel_rfl) rfl) 5 (fun _ _ _ _ => rfl) rfl (by decide) (by decide) (by decide) 4 false false 0 (bs (cutS s p).1) 0 (Lib.hid fun W q hX hC =>
    fn_before q (bs (cutS s p).1) (bs (cutS s p).2) W (Lib.hid fun W' hX' => ccut_any q (bs s) (bs p) W' (textOf_text (by decide) (by decide) (hC.ext hX') ((A0.ext hX).ext hX')) (textOf_text (by decide) (by decide) (hC.ext hX') ((A1.ext hX).ext hX')) (G.ext (hX.trans hX')) (by rw [bs_size]; exact h0)))
theorem c_after (s p : List UInt8) (h0 : s.length ≤ 4294967280)  (ab cp : Nat) (w : World) (G : Glob w) (A0 : ArgAt w ab 0 4 false false 0 (bs s)) (A1 : ArgAt w ab 1 4 false false 0 (bs p)) :
    Calls Tryz.prog 9 #[.slice none 0 0, .agg #[.int .i64 0, .int .i64 0, .int .i64 0, .int .i64 0], .string ⟨#[115, 117, 98, 115, 116, 114, 105, 110, 103, 45, 97, 102, 116, 101, 114]⟩, .slice (some ⟨ab, 0, none⟩) 2 cp] w fun e w' => e = .returned (.tuple #[valV 4 false false 0 (bs (cutS s p).2), .int .i64 0]) ∧ Ext w w' :=
  call_hit1 ⟨#[115, 117, 98, 115, 116, 114, 105, 110, 103, 45, 97, 102, 116, 101, 114]⟩ none 0 0 0 0 0 0 (some ⟨ab, 0, none⟩) 2 cp w 2 2 45 (enters Tryz.func45 (by kernel_rfl) rfl) 6 (fun _ _ _ _ => rfl) rfl (by decide) (by decide) (by decide) 4 false false 0 (bs (cutS s p).2) 0 (Lib.hid fun W q hX hC =>
    fn_after q (bs (cutS s p).1) (bs (cutS s p).2) W (Lib.hid fun W' hX' => ccut_any q (bs s) (bs p) W' (textOf_text (by decide) (by decide) (hC.ext hX') ((A0.ext hX).ext hX')) (textOf_text (by decide) (by decide) (hC.ext hX') ((A1.ext hX).ext hX')) (G.ext (hX.trans hX')) (by rw [bs_size]; exact h0)))
theorem c_contains (s p : List UInt8) (h0 : s.length ≤ 4294967280)  (ab cp : Nat) (w : World) (G : Glob w) (A0 : ArgAt w ab 0 4 false false 0 (bs s)) (A1 : ArgAt w ab 1 4 false false 0 (bs p)) :
    Calls Tryz.prog 9 #[.slice none 0 0, .agg #[.int .i64 0, .int .i64 0, .int .i64 0, .int .i64 0], .string ⟨#[99, 111, 110, 116, 97, 105, 110, 115]⟩, .slice (some ⟨ab, 0, none⟩) 2 cp] w fun e w' => e = .returned (.tuple #[valV 2 (Lib.contains s p) false 0 ⟨#[]⟩, .int .i64 0]) ∧ Ext w w' :=
  call_hit2 ⟨#[99, 111, 110, 116, 97, 105, 110, 115]⟩ none 0 0 0 0 0 0 (some ⟨ab, 0, none⟩) 2 cp w 2 2 62 (enters Tryz.func62 (by kernel_rfl) rfl) 7 (fun _ _ _ _ => rfl) rfl rfl (by decide) (by decide) (by decide) 2 (Lib.contains s p) false 0 ⟨#[]⟩ 0 (Lib.hid fun W q hX hC =>
    fn_contains q (bs s) (bs p) W (textOf_text (by decide) (by decide) hC (A0.ext hX)) (textOf_text (by decide) (by decide) hC (A1.ext hX)) (G.ext hX) (by rw [bs_size]; exact h0))
theorem c_starts (s p : List UInt8)  (ab cp : Nat) (w : World) (A0 : ArgAt w ab 0 4 false false 0 (bs s)) (A1 : ArgAt w ab 1 4 false false 0 (bs p)) :
    Calls Tryz.prog 9 #[.slice none 0 0, .agg #[.int .i64 0, .int .i64 0, .int .i64 0, .int .i64 0], .string ⟨#[115, 116, 97, 114, 116, 115, 45, 119, 105, 116, 104]⟩, .slice (some ⟨ab, 0, none⟩) 2 cp] w fun e w' => e = .returned (.tuple #[valV 2 (Lib.hasPrefix s p) false 0 ⟨#[]⟩, .int .i64 0]) ∧ Ext w w' :=
  call_hit2 ⟨#[115, 116, 97, 114, 116, 115, 45, 119, 105, 116, 104]⟩ none 0 0 0 0 0 0 (some ⟨ab, 0, none⟩) 2 cp w 2 2 60 (enters Tryz.func60 (by kernel_rfl) rfl) 6 (fun _ _ _ _ => rfl) rfl rfl (by decide) (by decide) (by decide) 2 (Lib.hasPrefix s p) false 0 ⟨#[]⟩ 0 (Lib.hid fun W q hX hC =>
    fn_starts q (bs s) (bs p) W (textOf_text (by decide) (by decide) hC (A0.ext hX)) (textOf_text (by decide) (by decide) hC (A1.ext hX)))
theorem c_space (s : List UInt8) (h0 : s.length ≤ 4294967280) (hN : (Lib.goFieldsP blankB (bs s)).length ≤ 140737488355328) (hlen : (spacesL (bs s)).length ≤ 140737488355328)  (ab cp : Nat) (w : World) (A0 : ArgAt w ab 0 4 false false 0 (bs s)) :
    Calls Tryz.prog 9 #[.slice none 0 0, .agg #[.int .i64 0, .int .i64 0, .int .i64 0, .int .i64 0], .string ⟨#[110, 111, 114, 109, 97, 108, 105, 122, 101, 45, 115, 112, 97, 99, 101]⟩, .slice (some ⟨ab, 0, none⟩) 1 cp] w fun e w' => e = .returned (.tuple #[valV 4 false false 0 (bs (spacesL (bs s))), .int .i64 0]) ∧ Ext w w' :=
  call_hit1 ⟨#[110, 111, 114, 109, 97, 108, 105, 122, 101, 45, 115, 112, 97, 99, 101]⟩ none 0 0 0 0 0 0 (some ⟨ab, 0, none⟩) 1 cp w 0 1 47 (enters Tryz.func47 (by kernel_rfl) rfl) 8 (fun _ _ _ _ => rfl) rfl (by decide) (by decide) (by decide) 4 false false 0 (bs (spacesL (bs s))) 0 (Lib.hid fun W q hX hC =>
    fn_spaces q (bs s) W (textOf_text (by decide) (by decide) hC (A0.ext hX)) (by rw [bs_size]; exact h0) hN hlen)
theorem c_translate (a b c : List UInt8) (ha : a.length ≤ 1000000000) (hb : b.length ≤ 1000000000) (hc : c.length ≤ 1000000000)  (ab cp : Nat) (w : World) (U : GlobU w) (A0 : ArgAt w ab 0 4 false false 0 (bs a)) (A1 : ArgAt w ab 1 4 false false 0 (bs b)) (A2 : ArgAt w ab 2 4 false false 0 (bs c)) :
    Calls Tryz.prog 9 #[.slice none 0 0, .agg #[.int .i64 0, .int .i64 0, .int .i64 0, .int .i64 0], .string ⟨#[116, 114, 97, 110, 115, 108, 97, 116, 101]⟩, .slice (some ⟨ab, 0, none⟩) 3 cp] w fun e w' => e = .returned (.tuple #[valV 4 false false 0 (bs (trL (Pc.pieces a) (Pc.pieces b) (Pc.pieces c))), .int .i64 0]) ∧ Ext w w' :=
  call_hit1 ⟨#[116, 114, 97, 110, 115, 108, 97, 116, 101]⟩ none 0 0 0 0 0 0 (some ⟨ab, 0, none⟩) 3 cp w 3 3 49 (enters Tryz.func49 (by kernel_rfl) rfl) 9 (fun _ _ _ _ => rfl) rfl (by decide) (by decide) (by decide) 4 false false 0 (bs (trL (Pc.pieces a) (Pc.pieces b) (Pc.pieces c))) 0 (Lib.hid fun W q hX hC =>
    fn_translate q a b c W (textOf_text (by decide) (by decide) hC (A0.ext hX)) (textOf_text (by decide) (by decide) hC (A1.ext hX)) (textOf_text (by decide) (by decide) hC (A2.ext hX)) (U.ext hX) ha hb hc)
theorem c_concat (a b c : List UInt8) (hlen : (Lib.join [a, b, c] []).length ≤ 140737488355328)  (ab cp : Nat) (w : World) (A0 : ArgAt w ab 0 4 false false 0 (bs a)) (A1 : ArgAt w ab 1 4 false false 0 (bs b)) (A2 : ArgAt w ab 2 4 false false 0 (bs c)) :
    Calls Tryz.prog 9 #[.slice none 0 0, .agg #[.int .i64 0, .int .i64 0, .int .i64 0, .int .i64 0], .string ⟨#[99, 111, 110, 99, 97, 116]⟩, .slice (some ⟨ab, 0, none⟩) 3 cp] w fun e w' => e = .returned (.tuple #[valV 4 false false 0 (bs (Lib.join [a, b, c] [])), .int .i64 0]) ∧ Ext w w' :=
  call_hit1 ⟨#[99, 111, 110, 99, 97, 116]⟩ none 0 0 0 0 0 0 (some ⟨ab, 0, none⟩) 3 cp w 2 1000 40 (enters Tryz.func40 (by kernel_rfl) rfl) 4 (fun _ _ _ _ => rfl) rfl (by decide) (by decide) (by decide) 4 false false 0 (bs (Lib.join [a, b, c] [])) 0 (Lib.hid fun W q hX hC =>
    fn_concat q [a, b, c] W (Lib.hid fun W' hX' => texts_any q _ 0 0 0 0 (some ⟨ab, 0, none⟩) cp [a, b, c] W' (by simp) (hC.ext hX') (Lib.hid fun j hj => by
      have hX2 := hX.trans hX'
      match j, hj with
      | 0, _ => exact (textOf_text (by decide) (by decide) (hC.ext hX') (A0.ext hX2)).out
      | 1, _ => exact (textOf_text (by decide) (by decide) (hC.ext hX') (A1.ext hX2)).out
      | 2, _ => exact (textOf_text (by decide) (by decide) (hC.ext hX') (A2.ext hX2)).out)) (by simp) hlen)
theorem c_length (s : List UInt8) (h0 : s.length ≤ 1000000000)  (ab cp : Nat) (w : World) (U : GlobU w) (A0 : ArgAt w ab 0 4 false false 0 (bs s)) :
    Calls Tryz.prog 9 #[.slice none 0 0, .agg #[.int .i64 0, .int .i64 0, .int .i64 0, .int .i64 0], .string ⟨#[115, 116, 114, 105, 110, 103, 45, 108, 101, 110, 103, 116, 104]⟩, .slice (some ⟨ab, 0, none⟩) 1 cp] w fun e w' => e = .returned (.tuple #[valV 3 false false ((Pc.pieces s).length * 1000000) ⟨#[]⟩, .int .i64 0]) ∧ Ext w w' :=
  call_hit0 ⟨#[115, 116, 114, 105, 110, 103, 45, 108, 101, 110, 103, 116, 104]⟩ none 0 0 0 0 0 0 (some ⟨ab, 0, none⟩) 1 cp w 0 1 25 (enters Tryz.func25 (by kernel_rfl) rfl) 4 (fun _ _ _ _ => rfl) (by decide) (by decide) (by decide) 3 false false ((Pc.pieces s).length * 1000000) ⟨#[]⟩ 0 (Lib.hid fun W q hX hC =>
    fn_length q (bs s) W (textOf_text (by decide) (by decide) hC (A0.ext hX)) (U.ext hX) (by rw [bs_size]; omega) (by have := Pc.pieces_len s; rw [bs_list]; omega))
theorem c_string (nn : Bool) (nv : Int)  (ab cp : Nat) (w : World) (G : Glob w) (A0 : ArgAt w ab 0 3 false nn nv (bs [])) :
    Calls Tryz.prog 9 #[.slice none 0 0, .agg #[.int .i64 0, .int .i64 0, .int .i64 0, .int .i64 0], .string ⟨#[115, 116, 114, 105, 110, 103]⟩, .slice (some ⟨ab, 0, none⟩) 1 cp] w fun e w' => e = .returned (.tuple #[valV 4 false false 0 (bs (textS nn nv)), .int .i64 0]) ∧ Ext w w' :=
  call_hit1 ⟨#[115, 116, 114, 105, 110, 103]⟩ none 0 0 0 0 0 0 (some ⟨ab, 0, none⟩) 1 cp w 0 1 39 (enters Tryz.func39 (by kernel_rfl) rfl) 3 (fun _ _ _ _ => rfl) rfl (by decide) (by decide) (by decide) 4 false false 0 (bs (textS nn nv)) 0 (Lib.hid fun W q hX hC =>
    fn_string q (bs (textS nn nv)) W (textOf_num (by decide) (by decide) hC (A0.ext hX) (G.ext hX)))
theorem c_sub2 (s : List UInt8) (v1 f : Int) (h0 : s.length ≤ 100000000) (hf : roundS false v1 = ((false, f), 0))  (ab cp : Nat) (w : World) (U : GlobU w) (A0 : ArgAt w ab 0 4 false false 0 (bs s)) (A1 : ArgAt w ab 1 3 false false v1 (bs [])) :
    Calls Tryz.prog 9 #[.slice none 0 0, .agg #[.int .i64 0, .int .i64 0, .int .i64 0, .int .i64 0], .string ⟨#[115, 117, 98, 115, 116, 114, 105, 110, 103]⟩, .slice (some ⟨ab, 0, none⟩) 2 cp] w fun e w' => e = .returned (.tuple #[valV 4 false false 0 (bs (subT (Pc.pieces s) f 1000000000000000 (Pc.pieces s).length)), .int .i64 0]) ∧ Ext w w' :=
  call_hit1 ⟨#[115, 117, 98, 115, 116, 114, 105, 110, 103]⟩ none 0 0 0 0 0 0 (some ⟨ab, 0, none⟩) 2 cp w 2 3 46 (enters Tryz.func46 (by kernel_rfl) rfl) 7 (fun _ _ _ _ => rfl) rfl (by decide) (by decide) (by decide) 4 false false 0 (bs (subT (Pc.pieces s) f 1000000000000000 (Pc.pieces s).length)) 0 (Lib.hid fun W q hX hC =>
    fsub2_any q _ 0 0 0 0 (some ⟨ab, 0, none⟩) cp s f W (U.ext hX) h0 hC (textOf_text (by decide) (by decide) hC (A0.ext hX)) (Lib.hid fun W' hX' => by have := fround_any q 1 false v1 W' (numOf_num (by decide) (by decide) (hC.ext hX') (A1.ext (hX.trans hX'))); rw [hf] at this; exact this))
theorem c_sub3 (s : List UInt8) (v1 v2 f g t : Int) (h0 : s.length ≤ 100000000) (hf : roundS false v1 = ((false, f), 0)) (hg : roundS false v2 = ((false, g), 0)) (ht : two false false f g (fitS (f + g)) = ((false, t), 0))  (ab cp : Nat) (w : World) (U : GlobU w) (A0 : ArgAt w ab 0 4 false false 0 (bs s)) (A1 : ArgAt w ab 1 3 false false v1 (bs [])) (A2 : ArgAt w ab 2 3 false false v2 (bs [])) :
    Calls Tryz.prog 9 #[.slice none 0 0, .agg #[.int .i64 0, .int .i64 0, .int .i64 0, .int .i64 0], .string ⟨#[115, 117, 98, 115, 116, 114, 105, 110, 103]⟩, .slice (some ⟨ab, 0, none⟩) 3 cp] w fun e w' => e = .returned (.tuple #[valV 4 false false 0 (bs (subT (Pc.pieces s) f t (Pc.pieces s).length)), .int .i64 0]) ∧ Ext w w' :=
  call_hit1 ⟨#[115, 117, 98, 115, 116, 114, 105, 110, 103]⟩ none 0 0 0 0 0 0 (some ⟨ab, 0, none⟩) 3 cp w 2 3 46 (enters Tryz.func46 (by kernel_rfl) rfl) 7 (fun _ _ _ _ => rfl) rfl (by decide) (by decide) (by decide) 4 false false 0 (bs (subT (Pc.pieces s) f t (Pc.pieces s).length)) 0 (Lib.hid fun W q hX hC =>
    fsub3_any q _ 0 0 0 0 (some ⟨ab, 0, none⟩) cp s f g t W (U.ext hX) h0 hC (textOf_text (by decide) (by decide) hC (A0.ext hX)) (Lib.hid fun W' hX' => by have := fround_any q 1 false v1 W' (numOf_num (by decide) (by decide) (hC.ext hX') (A1.ext (hX.trans hX'))); rw [hf] at this; exact this) (Lib.hid fun W' hX' => by have := fround_any q 2 false v2 W' (numOf_num (by decide) (by decide) (hC.ext hX') (A2.ext (hX.trans hX'))); rw [hg] at this; exact this) (Lib.hid fun W' hX' => by have := add_any false false f g W'; rw [ht] at this; exact this))
theorem c_floor_ok (nn x1 : Bool) (nv x2 : Int) (hr : one nn nv (fitS (floorV nv)) = ((x1, x2), 0))  (ab cp : Nat) (w : World) (A0 : ArgAt w ab 0 3 false nn nv (bs [])) :
    Calls Tryz.prog 9 #[.slice none 0 0, .agg #[.int .i64 0, .int .i64 0, .int .i64 0, .int .i64 0], .string ⟨#[102, 108, 111, 111, 114]⟩, .slice (some ⟨ab, 0, none⟩) 1 cp] w fun e w' => e = .returned (.tuple #[valV 3 false x1 x2 ⟨#[]⟩, .int .i64 0]) ∧ Ext w w' :=
  call_reckon ⟨#[102, 108, 111, 111, 114]⟩ none 0 0 0 0 0 0 (some ⟨ab, 0, none⟩) 1 cp w 1 1 31 7 (Or.inr (Or.inl ⟨rfl, (fun _ _ _ _ => rfl)⟩)) (by decide) (by decide) (by decide) 3 false x1 x2 ⟨#[]⟩ 0 (Lib.hid fun W q bx hX hC hb cb =>
    freckon_ok q bx 31 nn x1 nv x2 W (numOf_num (by decide) (by decide) hC (A0.ext hX)) (enters Tryz.func31 (by kernel_rfl) rfl) hb cb (Lib.hid fun W' hX' => by have := floor_any nn nv W'; rw [hr] at this; exact this))
theorem c_floor_no (nn x1 : Bool) (nv x2 c : Int) (hr : one nn nv (fitS (floorV nv)) = ((x1, x2), c)) (hc : ((c : Int) != 0) = true)  (ab cp : Nat) (w : World) (A0 : ArgAt w ab 0 3 false nn nv (bs [])) :
    Calls Tryz.prog 9 #[.slice none 0 0, .agg #[.int .i64 0, .int .i64 0, .int .i64 0, .int .i64 0], .string ⟨#[102, 108, 111, 111, 114]⟩, .slice (some ⟨ab, 0, none⟩) 1 cp] w fun e w' => e = .returned (.tuple #[valV 0 false false 0 ⟨#[]⟩, .int .i64 c]) ∧ Ext w w' :=
  call_reckon ⟨#[102, 108, 111, 111, 114]⟩ none 0 0 0 0 0 0 (some ⟨ab, 0, none⟩) 1 cp w 1 1 31 7 (Or.inr (Or.inl ⟨rfl, (fun _ _ _ _ => rfl)⟩)) (by decide) (by decide) (by decide) 0 false false 0 ⟨#[]⟩ c (Lib.hid fun W q bx hX hC hb cb =>
    freckon_no q bx 31 nn x1 nv x2 c W (numOf_num (by decide) (by decide) hC (A0.ext hX)) hc (enters Tryz.func31 (by kernel_rfl) rfl) hb cb (Lib.hid fun W' hX' => by have := floor_any nn nv W'; rw [hr] at this; exact this))
theorem c_ceiling_ok (nn x1 : Bool) (nv x2 : Int) (hr : ceilS nn nv = ((x1, x2), 0))  (ab cp : Nat) (w : World) (A0 : ArgAt w ab 0 3 false nn nv (bs [])) :
    Calls Tryz.prog 9 #[.slice none 0 0, .agg #[.int .i64 0, .int .i64 0, .int .i64 0, .int .i64 0], .string ⟨#[99, 101, 105, 108, 105, 110, 103]⟩, .slice (some ⟨ab, 0, none⟩) 1 cp] w fun e w' => e = .returned (.tuple #[valV 3 false x1 x2 ⟨#[]⟩, .int .i64 0]) ∧ Ext w w' :=
  call_reckon ⟨#[99, 101, 105, 108, 105, 110, 103]⟩ none 0 0 0 0 0 0 (some ⟨ab, 0, none⟩) 1 cp w 1 1 32 8 (Or.inr (Or.inr (Or.inl ⟨rfl, (fun _ _ _ _ => rfl)⟩))) (by decide) (by decide) (by decide) 3 false x1 x2 ⟨#[]⟩ 0 (Lib.hid fun W q bx hX hC hb cb =>
    freckon_ok q bx 32 nn x1 nv x2 W (numOf_num (by decide) (by decide) hC (A0.ext hX)) (enters Tryz.func32 (by kernel_rfl) rfl) hb cb (Lib.hid fun W' hX' => by have := ceil_any nn nv W'; rw [hr] at this; exact this))
theorem c_ceiling_no (nn x1 : Bool) (nv x2 c : Int) (hr : ceilS nn nv = ((x1, x2), c)) (hc : ((c : Int) != 0) = true)  (ab cp : Nat) (w : World) (A0 : ArgAt w ab 0 3 false nn nv (bs [])) :
    Calls Tryz.prog 9 #[.slice none 0 0, .agg #[.int .i64 0, .int .i64 0, .int .i64 0, .int .i64 0], .string ⟨#[99, 101, 105, 108, 105, 110, 103]⟩, .slice (some ⟨ab, 0, none⟩) 1 cp] w fun e w' => e = .returned (.tuple #[valV 0 false false 0 ⟨#[]⟩, .int .i64 c]) ∧ Ext w w' :=
  call_reckon ⟨#[99, 101, 105, 108, 105, 110, 103]⟩ none 0 0 0 0 0 0 (some ⟨ab, 0, none⟩) 1 cp w 1 1 32 8 (Or.inr (Or.inr (Or.inl ⟨rfl, (fun _ _ _ _ => rfl)⟩))) (by decide) (by decide) (by decide) 0 false false 0 ⟨#[]⟩ c (Lib.hid fun W q bx hX hC hb cb =>
    freckon_no q bx 32 nn x1 nv x2 c W (numOf_num (by decide) (by decide) hC (A0.ext hX)) hc (enters Tryz.func32 (by kernel_rfl) rfl) hb cb (Lib.hid fun W' hX' => by have := ceil_any nn nv W'; rw [hr] at this; exact this))
theorem c_round_ok (nn x1 : Bool) (nv x2 : Int) (hr : roundS nn nv = ((x1, x2), 0))  (ab cp : Nat) (w : World) (A0 : ArgAt w ab 0 3 false nn nv (bs [])) :
    Calls Tryz.prog 9 #[.slice none 0 0, .agg #[.int .i64 0, .int .i64 0, .int .i64 0, .int .i64 0], .string ⟨#[114, 111, 117, 110, 100]⟩, .slice (some ⟨ab, 0, none⟩) 1 cp] w fun e w' => e = .returned (.tuple #[valV 3 false x1 x2 ⟨#[]⟩, .int .i64 0]) ∧ Ext w w' :=
  call_reckon ⟨#[114, 111, 117, 110, 100]⟩ none 0 0 0 0 0 0 (some ⟨ab, 0, none⟩) 1 cp w 1 1 33 9 (Or.inr (Or.inr (Or.inr ⟨rfl, (fun _ _ _ _ => rfl)⟩))) (by decide) (by decide) (by decide) 3 false x1 x2 ⟨#[]⟩ 0 (Lib.hid fun W q bx hX hC hb cb =>
    freckon_ok q bx 33 nn x1 nv x2 W (numOf_num (by decide) (by decide) hC (A0.ext hX)) (enters Tryz.func33 (by kernel_rfl) rfl) hb cb (Lib.hid fun W' hX' => by have := round_any nn nv W'; rw [← show roundS nn nv = one nn nv (fitS (floorV (nv + 500000))) from rfl] at this; rw [hr] at this; exact this))
theorem c_round_no (nn x1 : Bool) (nv x2 c : Int) (hr : roundS nn nv = ((x1, x2), c)) (hc : ((c : Int) != 0) = true)  (ab cp : Nat) (w : World) (A0 : ArgAt w ab 0 3 false nn nv (bs [])) :
    Calls Tryz.prog 9 #[.slice none 0 0, .agg #[.int .i64 0, .int .i64 0, .int .i64 0, .int .i64 0], .string ⟨#[114, 111, 117, 110, 100]⟩, .slice (some ⟨ab, 0, none⟩) 1 cp] w fun e w' => e = .returned (.tuple #[valV 0 false false 0 ⟨#[]⟩, .int .i64 c]) ∧ Ext w w' :=
  call_reckon ⟨#[114, 111, 117, 110, 100]⟩ none 0 0 0 0 0 0 (some ⟨ab, 0, none⟩) 1 cp w 1 1 33 9 (Or.inr (Or.inr (Or.inr ⟨rfl, (fun _ _ _ _ => rfl)⟩))) (by decide) (by decide) (by decide) 0 false false 0 ⟨#[]⟩ c (Lib.hid fun W q bx hX hC hb cb =>
    freckon_no q bx 33 nn x1 nv x2 c W (numOf_num (by decide) (by decide) hC (A0.ext hX)) hc (enters Tryz.func33 (by kernel_rfl) rfl) hb cb (Lib.hid fun W' hX' => by have := round_any nn nv W'; rw [← show roundS nn nv = one nn nv (fitS (floorV (nv + 500000))) from rfl] at this; rw [hr] at this; exact this))
set_option maxHeartbeats 2000000 in
theorem same_any (r1 : Bool) (r2 : Int) (w : World) : Calls Tryz.prog 30 #[.agg #[.bool r1, .int .i64 r2]] w fun e w' => e = .returned (.tuple #[.agg #[.bool r1, .int .i64 r2], .int .i64 0]) ∧ Ext w w' := by
  go_enter Tryz.func30, Tryz.ntmps30
  go_wp2_with fail
  refine bodyPost_ret (v := .tuple #[.agg #[.bool r1, .int .i64 r2], .int .i64 0]) (by simp [results, Tryz.results30, go_sem]) rfl ⟨rfl, ?_⟩
  repeat refine Ext.set ?_ (by dsimp only; omega) _
  repeat refine Ext.alloc ?_ _
  exact Ext.refl _
theorem c_number (s : List UInt8) (x1 : Bool) (x2 : Int) (h0 : s.length ≤ 4294967280) (hr : parseS s = ((x1, x2), 0))  (ab cp : Nat) (w : World) (G : Glob w) (A0 : ArgAt w ab 0 4 false false 0 (bs s)) :
    Calls Tryz.prog 9 #[.slice none 0 0, .agg #[.int .i64 0, .int .i64 0, .int .i64 0, .int .i64 0], .string ⟨#[110, 117, 109, 98, 101, 114]⟩, .slice (some ⟨ab, 0, none⟩) 1 cp] w fun e w' => e = .returned (.tuple #[valV 3 false x1 x2 ⟨#[]⟩, .int .i64 0]) ∧ Ext w w' :=
  call_reckon ⟨#[110, 117, 109, 98, 101, 114]⟩ none 0 0 0 0 0 0 (some ⟨ab, 0, none⟩) 1 cp w 0 1 30 6 (Or.inl ⟨rfl, (fun _ _ _ _ => rfl)⟩) (by decide) (by decide) (by decide) 3 false x1 x2 ⟨#[]⟩ 0 (Lib.hid fun W q bx hX hC hb cb =>
    freckon_ok q bx 30 x1 x1 x2 x2 W (numOf_text (by decide) (by decide) hC (A0.ext hX) (G.ext hX) h0 hr) (enters Tryz.func30 (by kernel_rfl) rfl) hb cb (Lib.hid fun W' hX' => same_any x1 x2 W'))
theorem c_none (w : World) : Calls Tryz.prog 9 #[.slice none 0 0, .agg #[.int .i64 0, .int .i64 0, .int .i64 0, .int .i64 0], .string ⟨#[102]⟩, .slice none 0 0] w fun e w' => e = .returned (.tuple #[valV 0 false false 0 ⟨#[]⟩, .int .i64 63]) ∧ Ext w w' :=
  call_none ⟨#[102]⟩ none 0 0 0 0 0 0 none 0 0 w (fun _ _ _ _ => rfl) rfl rfl
end Go.Proofs.YtcdehcclkhmbiaaGreatDoor
