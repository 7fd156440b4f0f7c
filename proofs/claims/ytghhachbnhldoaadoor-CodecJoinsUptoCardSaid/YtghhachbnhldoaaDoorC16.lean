/-
  The reader's edits. Helper lemmas; no statement of the seat is proved here.
-/
import Derived.Test.YtghhachbnhldoaaDoorC15
namespace Go.Proofs.YtghhachbnhldoaaDoor
open Go.RowKit
set_option maxRecDepth 100000
set_option linter.unusedVariables false
set_option linter.unusedSimpArgs false

theorem infoEdit : (Tryd.prog.info? 54).map (fun i => (i.zero, i.size, i.bytes)) = some (some (.agg #[.int .i64 0, .slice none 0 0, .slice none 0 0, .slice none 0 0, .int .i64 0, .string ⟨#[]⟩, .string ⟨#[]⟩, .slice none 0 0, .slice none 0 0]), 9, 168) := by kernel_rfl
set_option maxHeartbeats 16000000 in
theorem redits_some (w0 W : World) (inp : Bytes) (deep : Int) (b : Bool) (l : List Edit) (rest : Bytes) (hl : l.length ≤ 1000000000) (hi : b = false → inp = editsB l ++ rest) (h : RS w0 W inp deep b)
    (HX0 : ∀ x ∈ l, ∀ (W : World) (inp : Bytes) (b : Bool) (rest : Bytes), (b = false → inp = editB x ++ rest) → RS w0 W inp deep b → Calls Tryd.prog 27 #[.pointer (some ⟨w0.heap.size, 0, none⟩)] W (RPost w0 W (b || !fitE x) rest deep fun v w => EditV W.heap.size (b || !fitE x) x v w)) :
    Calls Tryd.prog 26 #[.pointer (some ⟨w0.heap.size, 0, none⟩), .func (.func 27) #[.pointer (some ⟨w0.heap.size, 0, none⟩)] #[]] W (RPost w0 W (b || !l.all fitE) rest deep fun v w => SlV W.heap.size (b || !l.all fitE) (editsD l) v w) := by
  have HC := Lib.hid (rcount_any w0 W inp deep b l.length (l.flatMap editB ++ rest) (by omega) (by rw [List.length_append]; have := flat_le editB editB_pos l; omega) (fun hb => by rw [hi hb]; show (numB l.length ++ l.flatMap editB) ++ rest = _; rw [List.append_assoc]) h)
  have hlt := h.lt
  have HX := Lib.hid HX0
  obtain ⟨B, hB⟩ : ∃ B, l.all fitE = B := ⟨_, rfl⟩
  rw [hB]
  have HB := Lib.hid hB
  obtain ⟨i0, hi0', hz0, hz1, hz2⟩ := info_parts infoEdit
  clear h hi hB HX0
  go_enter Tryd.func26, Tryd.ntmps26
  go_wp2_with fail
  refine HC.out.mono ?_
  rintro e w1 ⟨v, rfl, rfl, ⟨inp1, hS, hin⟩, hXc⟩
  clear HC
  cases b with
  | true =>
    have HR := Lib.hid (show RPost w0 W (true || !B) rest deep (fun v w => SlV W.heap.size (true || !B) (editsD l) v w) (.returned (.slice none 0 0)) w1 from ⟨_, rfl, slV_nil _ _ _, ⟨_, hS, fun h => by cases h⟩, hXc⟩)
    clear hS hin hXc
    go_wp2_with fail
    go_loopw [5, 6, 9] (fun nv _ t wr => t = .int .i64 0 ∧ nv = .slice none 0 0 ∧ wr = w1) (fun _ _ t _ => downV 1 t)
    case atStart => exact ⟨rfl, rfl, rfl⟩
    case round =>
      obtain ⟨rfl, rfl, rfl⟩ := hrel
      go_wp2_with fail
      go_ret
      exact HR.out
  | false =>
    obtain rfl := hin rfl
    have H1 := Lib.hid (And.intro hS hXc)
    clear hS hin hXc
    go_wp2_with fail
    go_loopw [5, 6, 9] (fun nv _ t wr => ∃ i : Nat, t = .int .i64 i ∧ ∃ dv : Value, dv = nv ∧ i ≤ l.length ∧ Hid (RS w0 wr ((l.drop i).flatMap editB ++ rest) deep false ∧ Own wr (fun k => W.heap.size ≤ k) W.heap.size 54 9 dv i ((l.take i).flatMap editC) ∧ Exc w0.heap.size W wr ∧ (l.take i).all fitE = true)) (fun _ _ t _ => downV l.length t)
    case atStart => exact ⟨0, rfl, _, rfl, Nat.zero_le _, Lib.hid ⟨H1.out.1, Own.nil _ _ _ _ _, H1.out.2, rfl⟩⟩
    case round =>
      obtain ⟨i, rfl, dv, rfl, hi, HH⟩ := hrel
      clear H1
      have hi0 : (0 : Int) ≤ (i : Int) := by omega
      have hi12 : (i : Int) ≤ 1000000000 := by omega
      by_cases hil : i < l.length
      · have hlI : (i : Int) < (l.length : Int) := by omega
        have HON := Lib.hid (HX.out l[i] (List.getElem_mem hil) wr _ false ((l.drop (i + 1)).flatMap editB ++ rest) (fun _ => by rw [drop_one l i hil, List.flatMap_cons, List.append_assoc]) HH.out.1)
        rw [Bool.false_or] at HON
        have HT := Lib.hid (show l.take (i + 1) = l.take i ++ [l[i]] from List.take_succ_eq_append_getElem hil)
        have HA := Lib.hid (show l.all fitE = true → fitE l[i] = true from fun h => List.all_eq_true.1 h _ (List.getElem_mem hil))
        obtain ⟨x, hx⟩ : ∃ x, l[i] = x := ⟨_, rfl⟩
        rw [hx] at HON HT HA
        obtain ⟨ft, hft⟩ : ∃ y, fitE x = y := ⟨_, rfl⟩
        rw [hft] at HON HA
        have HFT := Lib.hid hft
        clear hx hft
        go_wp2_with fail
        refine HON.out.mono ?_
        rintro e w3 ⟨v, rfl, ⟨k, a1, n1, c1, a2, n2, c2, a3, n3, c3, k4, s, t, a7, n7, c7, a8, n8, c8, rfl, l1, l2, e1⟩, ⟨inp3, hS3, hin3⟩, hX3⟩
        clear HON
        have hX4 := HH.out.2.2.1.trans hX3
        cases ft with
        | false =>
          obtain rfl : B = false := by
            cases B with
            | false => rfl
            | true => have := HA.out HB.out; cases this
          have hS4 : RS w0 (w3.alloc (.cells #[.int .i64 k, .slice a1 n1 c1, .slice a2 n2 c2, .slice a3 n3 c3, .int .i64 k4, .string (bs s), .string (bs t), .slice a7 n7 c7, .slice a8 n8 c8] 54)) inp3 deep true := hS3.step ((Ext.refl w3).alloc _)
          have k2 := hS4.c2
          have HR := Lib.hid (show RPost w0 W (!false) rest deep (fun v w => SlV W.heap.size (!false) (editsD l) v w) (.returned (.slice none 0 0)) (w3.alloc (.cells #[.int .i64 k, .slice a1 n1 c1, .slice a2 n2 c2, .slice a3 n3 c3, .int .i64 k4, .string (bs s), .string (bs t), .slice a7 n7 c7, .slice a8 n8 c8] 54)) from ⟨_, rfl, slV_nil _ _ _, ⟨_, hS4, fun h => by cases h⟩, hX4.ext ((Ext.refl w3).alloc _)⟩)
          clear hS4 hX4 hS3
          go_wp2_with fail
          go_ret
          exact HR.out
        | true =>
          obtain rfl := hin3 rfl
          have hbw : ∀ k, dv.ownBlock = some k → k < wr.heap.size := fun k hk => by
            obtain ⟨us', hr', _⟩ := HH.out.2.1
            exact (hr'.lt k hk).2
          have hszr := HH.out.2.2.1.1
          obtain ⟨rfl, hk1, hk2, hk3, rfl, rfl, rfl, hk7, hk8⟩ := e1 rfl
          have HG := Lib.hid (show Reps w3 (fun k => W.heap.size ≤ k ∧ some k ≠ dv.ownBlock) [.int .i64 x.kind, .slice a1 n1 c1, .slice a2 n2 c2, .slice a3 n3 c3, .int .i64 x.node.kind, .string (bs x.node.name), .string (bs x.node.text), .slice a7 n7 c7, .slice a8 n8 c8] (editC x) from
            Reps.cons (Rep.int _ _ _ _) (Reps.cons (hk1.ok fun k hk => ⟨by omega, fun e => by have := hbw k e.symm; omega⟩) (Reps.cons (hk2.ok fun k hk => ⟨by omega, fun e => by have := hbw k e.symm; omega⟩) (Reps.cons (hk3.ok fun k hk => ⟨by omega, fun e => by have := hbw k e.symm; omega⟩) (Reps.cons (Rep.int _ _ _ _) (Reps.cons (Rep.string _ _ _ (by rw [bs_size]; exact l1)) (Reps.cons (Rep.string _ _ _ (by rw [bs_size]; exact l2)) (Reps.cons (hk7.ok fun k hk => ⟨by omega, fun e => by have := hbw k e.symm; omega⟩) (Reps.cons (hk8.ok fun k hk => ⟨by omega, fun e => by have := hbw k e.symm; omega⟩) (Reps.nil _ _))))))))))
          clear hk1 hk2 hk3 hk7 hk8
          clear hbw hszr
          have hS4 : RS w0 (w3.alloc (.cells #[.int .i64 x.kind, .slice a1 n1 c1, .slice a2 n2 c2, .slice a3 n3 c3, .int .i64 x.node.kind, .string (bs x.node.name), .string (bs x.node.text), .slice a7 n7 c7, .slice a8 n8 c8] 54)) _ deep false := hS3.step ((Ext.refl w3).alloc _)
          have k2 := hS4.c2
          have hE4 : Ext w3 ((w3.alloc (.cells #[.int .i64 x.kind, .slice a1 n1 c1, .slice a2 n2 c2, .slice a3 n3 c3, .int .i64 x.node.kind, .string (bs x.node.name), .string (bs x.node.text), .slice a7 n7 c7, .slice a8 n8 c8] 54)).alloc (.cells #[.int .i64 x.kind, .slice a1 n1 c1, .slice a2 n2 c2, .slice a3 n3 c3, .int .i64 x.node.kind, .string (bs x.node.name), .string (bs x.node.text), .slice a7 n7 c7, .slice a8 n8 c8] 54)) := ((Ext.refl w3).alloc _).alloc _
          obtain ⟨us, hr, hu⟩ := (HH.out.2.1.exc hX3 hlt (fun _ h => by omega)).ext hE4
          have hS5 := hS3.step hE4
          have hX5 := hX4.ext hE4
          have hbl : ∀ k, dv.ownBlock = some k → W.heap.size ≤ k ∧ k < w3.heap.size := fun k hk => by
            obtain ⟨us', hr', _⟩ := HH.out.2.1.exc hX3 hlt (fun _ h => by omega)
            exact hr'.lt k hk
          have hn : Reps ((w3.alloc (.cells #[.int .i64 x.kind, .slice a1 n1 c1, .slice a2 n2 c2, .slice a3 n3 c3, .int .i64 x.node.kind, .string (bs x.node.name), .string (bs x.node.text), .slice a7 n7 c7, .slice a8 n8 c8] 54)).alloc (.cells #[.int .i64 x.kind, .slice a1 n1 c1, .slice a2 n2 c2, .slice a3 n3 c3, .int .i64 x.node.kind, .string (bs x.node.name), .string (bs x.node.text), .slice a7 n7 c7, .slice a8 n8 c8] 54)) (fun k => (W.heap.size ≤ k) ∧ some k ≠ dv.ownBlock ∧ k < ((w3.alloc (.cells #[.int .i64 x.kind, .slice a1 n1 c1, .slice a2 n2 c2, .slice a3 n3 c3, .int .i64 x.node.kind, .string (bs x.node.name), .string (bs x.node.text), .slice a7 n7 c7, .slice a8 n8 c8] 54)).alloc (.cells #[.int .i64 x.kind, .slice a1 n1 c1, .slice a2 n2 c2, .slice a3 n3 c3, .int .i64 x.node.kind, .string (bs x.node.name), .string (bs x.node.text), .slice a7 n7 c7, .slice a8 n8 c8] 54)).heap.size) [.int .i64 x.kind, .slice a1 n1 c1, .slice a2 n2 c2, .slice a3 n3 c3, .int .i64 x.node.kind, .string (bs x.node.name), .string (bs x.node.text), .slice a7 n7 c7, .slice a8 n8 c8] (editC x) :=
            ((HG.out.ext hE4).lt).ok fun k hk => ⟨hk.1.1, hk.1.2, hk.2⟩
          have HO := Lib.hid (And.intro hr (And.intro hu (And.intro hn (And.intro hS5 (And.intro hX5 hbl)))))
          have hszW : W.heap.size ≤ w3.heap.size := hX4.1
          clear hr hu hn hS5 hX5 hbl hS4 hX4 hS3 hE4
          go_wp2_with (at_builtin; refine wpList_append_own_at _ rfl (.tmp 17) (.tmp 19) _ rfl W.heap.size 54 i0 (.agg #[.int .i64 0, .slice none 0 0, .slice none 0 0, .slice none 0 0, .int .i64 0, .string ⟨#[]⟩, .string ⟨#[]⟩, .slice none 0 0, .slice none 0 0]) 9 168 Tryd.underlying22 hi0' hz0 hz1 hz2 rfl (by decide) dv i us rfl HO.out.1 ⟨w3.heap.size + 1, 0, none⟩ 1 1 [.int .i64 x.kind, .slice a1 n1 c1, .slice a2 n2 c2, .slice a3 n3 c3, .int .i64 x.node.kind, .string (bs x.node.name), .string (bs x.node.text), .slice a7 n7 c7, .slice a8 n8 c8] rfl rfl (by intro j u hj; match j, hj with | 0, hj => simp at hj; subst hj; simp [go_sem] | 1, hj => simp at hj; subst hj; simp [go_sem] | 2, hj => simp at hj; subst hj; simp [go_sem] | 3, hj => simp at hj; subst hj; simp [go_sem] | 4, hj => simp at hj; subst hj; simp [go_sem] | 5, hj => simp at hj; subst hj; simp [go_sem] | 6, hj => simp at hj; subst hj; simp [go_sem] | 7, hj => simp at hj; subst hj; simp [go_sem] | 8, hj => simp at hj; subst hj; simp [go_sem] | j + 9, hj => simp at hj) (by intro u hu; simp at hu; rcases hu with rfl | rfl | rfl | rfl | rfl | rfl | rfl | rfl | rfl <;> rfl) (by unfold maxLen; omega) (by omega) (by simp; omega) ?_; intro v2 w5 hown5 hgrow5 _ hat5)
          have HO5 := Lib.hid (And.intro hown5 (And.intro hgrow5 hat5))
          clear hown5 hgrow5 hat5
          go_roundw
          case rel =>
            obtain ⟨hr, hu, hn, hS5, hX5, hbl⟩ := HO.out
            obtain ⟨hown5, hgrow5, hat5⟩ := HO5.out
            refine ⟨i + 1, by go_num, v2, rfl, by omega, Lib.hid ⟨hS5.grown hgrow5 fun k hk => by have := (hbl k hk).1; omega, ?_, hX5.grown hgrow5 fun k hk => (hbl k hk).1, ?_⟩⟩
            · rw [HT.out, List.flatMap_append, show [x].flatMap editC = editC x by simp]
              exact Own.push hu hn hown5 hgrow5 hat5
            · rw [HT.out, List.all_append, HH.out.2.2.2, List.all_cons, HFT.out]; rfl
          case measure => simp only [downV]; omega
      · have hlI : ¬ (i : Int) < (l.length : Int) := by omega
        have hie : i = l.length := by omega
        have HR := Lib.hid (show RPost w0 W (!B) rest deep (fun v w => SlV W.heap.size (!B) (editsD l) v w) (.returned dv) wr from by
          obtain ⟨h1, h2, h3, h4⟩ := HH.out
          rw [hie, List.take_length] at h2 h4
          rw [hie, List.drop_length, List.flatMap_nil, List.nil_append] at h1
          obtain rfl : B = true := by rw [← HB.out, h4]
          obtain ⟨a, c, e, _, _⟩ := h2.form
          exact ⟨_, rfl, ⟨a, _, c, e, fun _ => h2.rep.ok fun k hk => by
            rcases hk with hk | hk <;> exact hk⟩, ⟨_, h1, fun _ => rfl⟩, h3⟩)
        clear HH
        go_wp2_with fail
        go_ret
        exact HR.out

end Go.Proofs.YtghhachbnhldoaaDoor
