/-
  The reader's lists of attributes and steps; down. Helper lemmas; no statement of the seat is proved here.
-/
import Derived.Test.YtghhachbnhldoaaDoorC11
namespace Go.Proofs.YtghhachbnhldoaaDoor
open Go.RowKit
set_option maxRecDepth 100000
set_option linter.unusedVariables false
set_option linter.unusedSimpArgs false

set_option maxHeartbeats 16000000 in
theorem rattrs_some (w0 W : World) (inp : Bytes) (deep : Int) (b : Bool) (l : List Attr) (rest : Bytes) (hl : l.length ≤ 1000000000000) (hi : b = false → inp = attrsB l ++ rest) (h : RS w0 W inp deep b)
    (HX0 : ∀ x ∈ l, ∀ (W : World) (inp : Bytes) (b : Bool) (rest : Bytes), (b = false → inp = attrB x ++ rest) → RS w0 W inp deep b → Calls Tryd.prog 55 #[.pointer (some ⟨w0.heap.size, 0, none⟩)] W (RPost w0 W (b || !(@yes Attr) x) rest deep fun v w => AttrV W.heap.size (b || !(@yes Attr) x) x v w)) :
    Calls Tryd.prog 54 #[.pointer (some ⟨w0.heap.size, 0, none⟩), .func (.func 55) #[.pointer (some ⟨w0.heap.size, 0, none⟩)] #[]] W (RPost w0 W (b || !l.all (@yes Attr)) rest deep fun v w => SlV W.heap.size (b || !l.all (@yes Attr)) (attrsD l) v w) := by
  have HC := Lib.hid (rcount_any w0 W inp deep b l.length (l.flatMap attrB ++ rest) (by omega) (by rw [List.length_append]; have := flat_le attrB attrB_pos l; omega) (fun hb => by rw [hi hb]; show (numB l.length ++ l.flatMap attrB) ++ rest = _; rw [List.append_assoc]) h)
  have hlt := h.lt
  have HX := Lib.hid HX0
  obtain ⟨B, hB⟩ : ∃ B, l.all (@yes Attr) = B := ⟨_, rfl⟩
  rw [hB]
  have HB := Lib.hid hB
  obtain ⟨i0, hi0', hz0, hz1, hz2⟩ := info_parts infoAttr
  clear h hi hB HX0
  go_enter Tryd.func54, Tryd.ntmps54
  go_wp2_with fail
  refine HC.out.mono ?_
  rintro e w1 ⟨v, rfl, rfl, ⟨inp1, hS, hin⟩, hXc⟩
  clear HC
  cases b with
  | true =>
    have HR := Lib.hid (show RPost w0 W (true || !B) rest deep (fun v w => SlV W.heap.size (true || !B) (attrsD l) v w) (.returned (.slice none 0 0)) w1 from ⟨_, rfl, slV_nil _ _ _, ⟨_, hS, fun h => by cases h⟩, hXc⟩)
    clear hS hin hXc
    go_wp2_with fail
    go_loopw [5, 6, 9] (fun nv _ t wr => t = .int .i64 0 ∧ nv = .slice none 0 0 ∧ wr = w1) (fun _ _ t _ => downV 1 t)
    case atStart => exact ⟨rfl, rfl, rfl⟩
    case round =>
      obtain ⟨rfl, rfl, rfl⟩ := hrel
      go_wp2_with fail
      go_ret
      exact HR.out
  | false =>
    obtain rfl := hin rfl
    have H1 := Lib.hid (And.intro hS hXc)
    clear hS hin hXc
    go_wp2_with fail
    go_loopw [5, 6, 9] (fun nv _ t wr => ∃ i : Nat, t = .int .i64 i ∧ ∃ dv : Value, dv = nv ∧ i ≤ l.length ∧ Hid (RS w0 wr ((l.drop i).flatMap attrB ++ rest) deep false ∧ Own wr (fun k => W.heap.size ≤ k) W.heap.size 101 2 dv i ((l.take i).flatMap attrC) ∧ Exc w0.heap.size W wr ∧ (l.take i).all (@yes Attr) = true)) (fun _ _ t _ => downV l.length t)
    case atStart => exact ⟨0, rfl, _, rfl, Nat.zero_le _, Lib.hid ⟨H1.out.1, Own.nil _ _ _ _ _, H1.out.2, rfl⟩⟩
    case round =>
      obtain ⟨i, rfl, dv, rfl, hi, HH⟩ := hrel
      clear H1
      have hi0 : (0 : Int) ≤ (i : Int) := by omega
      have hi12 : (i : Int) ≤ 1000000000000 := by omega
      by_cases hil : i < l.length
      · have hlI : (i : Int) < (l.length : Int) := by omega
        have HON := Lib.hid (HX.out l[i] (List.getElem_mem hil) wr _ false ((l.drop (i + 1)).flatMap attrB ++ rest) (fun _ => by rw [drop_one l i hil, List.flatMap_cons, List.append_assoc]) HH.out.1)
        rw [Bool.false_or] at HON
        have HT := Lib.hid (show l.take (i + 1) = l.take i ++ [l[i]] from List.take_succ_eq_append_getElem hil)
        have HA := Lib.hid (show l.all (@yes Attr) = true → (@yes Attr) l[i] = true from fun h => List.all_eq_true.1 h _ (List.getElem_mem hil))
        obtain ⟨x, hx⟩ : ∃ x, l[i] = x := ⟨_, rfl⟩
        rw [hx] at HON HT HA
        obtain ⟨ft, hft⟩ : ∃ y, (@yes Attr) x = y := ⟨_, rfl⟩
        rw [hft] at HON HA
        have HFT := Lib.hid hft
        clear hx hft
        go_wp2_with fail
        refine HON.out.mono ?_
        rintro e w3 ⟨v, rfl, ⟨s1, s2, rfl, l1, l2, e1⟩, ⟨inp3, hS3, hin3⟩, hX3⟩
        clear HON
        have hX4 := HH.out.2.2.1.trans hX3
        cases ft with
        | false =>
          obtain rfl : B = false := by
            cases B with
            | false => rfl
            | true => have := HA.out HB.out; cases this
          have hS4 : RS w0 (w3.alloc (.cells #[.string (bs s1), .string (bs s2)] 101)) inp3 deep true := hS3.step ((Ext.refl w3).alloc _)
          have k2 := hS4.c2
          have HR := Lib.hid (show RPost w0 W (!false) rest deep (fun v w => SlV W.heap.size (!false) (attrsD l) v w) (.returned (.slice none 0 0)) (w3.alloc (.cells #[.string (bs s1), .string (bs s2)] 101)) from ⟨_, rfl, slV_nil _ _ _, ⟨_, hS4, fun h => by cases h⟩, hX4.ext ((Ext.refl w3).alloc _)⟩)
          clear hS4 hX4 hS3
          go_wp2_with fail
          go_ret
          exact HR.out
        | true =>
          obtain rfl := hin3 rfl
          have hbw : ∀ k, dv.ownBlock = some k → k < wr.heap.size := fun k hk => by
            obtain ⟨us', hr', _⟩ := HH.out.2.1
            exact (hr'.lt k hk).2
          have hszr := HH.out.2.2.1.1
          obtain ⟨rfl, rfl⟩ := e1 rfl
          have HG := Lib.hid (show Reps w3 (fun k => W.heap.size ≤ k ∧ some k ≠ dv.ownBlock) [.string (bs x.n), .string (bs x.v)] (attrC x) from Reps.cons (Rep.string _ _ _ (by rw [bs_size]; exact l1)) (Reps.cons (Rep.string _ _ _ (by rw [bs_size]; exact l2)) (Reps.nil _ _)))
          clear hbw hszr
          have hS4 : RS w0 (w3.alloc (.cells #[.string (bs x.n), .string (bs x.v)] 101)) _ deep false := hS3.step ((Ext.refl w3).alloc _)
          have k2 := hS4.c2
          have hE4 : Ext w3 ((w3.alloc (.cells #[.string (bs x.n), .string (bs x.v)] 101)).alloc (.cells #[.string (bs x.n), .string (bs x.v)] 101)) := ((Ext.refl w3).alloc _).alloc _
          obtain ⟨us, hr, hu⟩ := (HH.out.2.1.exc hX3 hlt (fun _ h => by omega)).ext hE4
          have hS5 := hS3.step hE4
          have hX5 := hX4.ext hE4
          have hbl : ∀ k, dv.ownBlock = some k → W.heap.size ≤ k ∧ k < w3.heap.size := fun k hk => by
            obtain ⟨us', hr', _⟩ := HH.out.2.1.exc hX3 hlt (fun _ h => by omega)
            exact hr'.lt k hk
          have hn : Reps ((w3.alloc (.cells #[.string (bs x.n), .string (bs x.v)] 101)).alloc (.cells #[.string (bs x.n), .string (bs x.v)] 101)) (fun k => (W.heap.size ≤ k) ∧ some k ≠ dv.ownBlock ∧ k < ((w3.alloc (.cells #[.string (bs x.n), .string (bs x.v)] 101)).alloc (.cells #[.string (bs x.n), .string (bs x.v)] 101)).heap.size) [.string (bs x.n), .string (bs x.v)] (attrC x) :=
            ((HG.out.ext hE4).lt).ok fun k hk => ⟨hk.1.1, hk.1.2, hk.2⟩
          have HO := Lib.hid (And.intro hr (And.intro hu (And.intro hn (And.intro hS5 (And.intro hX5 hbl)))))
          have hszW : W.heap.size ≤ w3.heap.size := hX4.1
          clear hr hu hn hS5 hX5 hbl hS4 hX4 hS3 hE4
          go_wp2_with (at_builtin; refine wpList_append_own_at _ rfl (.tmp 17) (.tmp 19) _ rfl W.heap.size 101 i0 (.agg #[.string ⟨#[]⟩, .string ⟨#[]⟩]) 2 32 Tryd.underlying49 hi0' hz0 hz1 hz2 rfl (by decide) dv i us rfl HO.out.1 ⟨w3.heap.size + 1, 0, none⟩ 1 1 [.string (bs x.n), .string (bs x.v)] rfl rfl (by intro j u hj; match j, hj with | 0, hj => simp at hj; subst hj; simp [go_sem] | 1, hj => simp at hj; subst hj; simp [go_sem] | j + 2, hj => simp at hj) (by intro u hu; simp at hu; rcases hu with rfl | rfl <;> rfl) (by unfold maxLen; omega) (by omega) (by simp; omega) ?_; intro v2 w5 hown5 hgrow5 _ hat5)
          have HO5 := Lib.hid (And.intro hown5 (And.intro hgrow5 hat5))
          clear hown5 hgrow5 hat5
          go_roundw
          case rel =>
            obtain ⟨hr, hu, hn, hS5, hX5, hbl⟩ := HO.out
            obtain ⟨hown5, hgrow5, hat5⟩ := HO5.out
            refine ⟨i + 1, by go_num, v2, rfl, by omega, Lib.hid ⟨hS5.grown hgrow5 fun k hk => by have := (hbl k hk).1; omega, ?_, hX5.grown hgrow5 fun k hk => (hbl k hk).1, ?_⟩⟩
            · rw [HT.out, List.flatMap_append, show [x].flatMap attrC = attrC x by simp]
              exact Own.push hu hn hown5 hgrow5 hat5
            · rw [HT.out, List.all_append, HH.out.2.2.2, List.all_cons, HFT.out]; rfl
          case measure => simp only [downV]; omega
      · have hlI : ¬ (i : Int) < (l.length : Int) := by omega
        have hie : i = l.length := by omega
        have HR := Lib.hid (show RPost w0 W (!B) rest deep (fun v w => SlV W.heap.size (!B) (attrsD l) v w) (.returned dv) wr from by
          obtain ⟨h1, h2, h3, h4⟩ := HH.out
          rw [hie, List.take_length] at h2 h4
          rw [hie, List.drop_length, List.flatMap_nil, List.nil_append] at h1
          obtain rfl : B = true := by rw [← HB.out, h4]
          obtain ⟨a, c, e, _, _⟩ := h2.form
          exact ⟨_, rfl, ⟨a, _, c, e, fun _ => h2.rep.ok fun k hk => by
            rcases hk with hk | hk <;> exact hk⟩, ⟨_, h1, fun _ => rfl⟩, h3⟩)
        clear HH
        go_wp2_with fail
        go_ret
        exact HR.out
set_option maxHeartbeats 16000000 in
theorem rsteps_some (w0 W : World) (inp : Bytes) (deep : Int) (b : Bool) (l : List Step) (rest : Bytes) (hl : l.length ≤ 1000000000000) (hi : b = false → inp = stepsB' l ++ rest) (h : RS w0 W inp deep b)
    (HX0 : ∀ x ∈ l, ∀ (W : World) (inp : Bytes) (b : Bool) (rest : Bytes), (b = false → inp = stepB' x ++ rest) → RS w0 W inp deep b → Calls Tryd.prog 53 #[.pointer (some ⟨w0.heap.size, 0, none⟩)] W (RPost w0 W (b || !(@yes Step) x) rest deep fun v w => StepV W.heap.size (b || !(@yes Step) x) x v w)) :
    Calls Tryd.prog 52 #[.pointer (some ⟨w0.heap.size, 0, none⟩), .func (.func 53) #[.pointer (some ⟨w0.heap.size, 0, none⟩)] #[]] W (RPost w0 W (b || !l.all (@yes Step)) rest deep fun v w => SlV W.heap.size (b || !l.all (@yes Step)) (stepsD l) v w) := by
  have HC := Lib.hid (rcount_any w0 W inp deep b l.length (l.flatMap stepB' ++ rest) (by omega) (by rw [List.length_append]; have := flat_le stepB' stepB'_pos l; omega) (fun hb => by rw [hi hb]; show (numB l.length ++ l.flatMap stepB') ++ rest = _; rw [List.append_assoc]) h)
  have hlt := h.lt
  have HX := Lib.hid HX0
  obtain ⟨B, hB⟩ : ∃ B, l.all (@yes Step) = B := ⟨_, rfl⟩
  rw [hB]
  have HB := Lib.hid hB
  obtain ⟨i0, hi0', hz0, hz1, hz2⟩ := info_parts infoStep
  clear h hi hB HX0
  go_enter Tryd.func52, Tryd.ntmps52
  go_wp2_with fail
  refine HC.out.mono ?_
  rintro e w1 ⟨v, rfl, rfl, ⟨inp1, hS, hin⟩, hXc⟩
  clear HC
  cases b with
  | true =>
    have HR := Lib.hid (show RPost w0 W (true || !B) rest deep (fun v w => SlV W.heap.size (true || !B) (stepsD l) v w) (.returned (.slice none 0 0)) w1 from ⟨_, rfl, slV_nil _ _ _, ⟨_, hS, fun h => by cases h⟩, hXc⟩)
    clear hS hin hXc
    go_wp2_with fail
    go_loopw [5, 6, 9] (fun nv _ t wr => t = .int .i64 0 ∧ nv = .slice none 0 0 ∧ wr = w1) (fun _ _ t _ => downV 1 t)
    case atStart => exact ⟨rfl, rfl, rfl⟩
    case round =>
      obtain ⟨rfl, rfl, rfl⟩ := hrel
      go_wp2_with fail
      go_ret
      exact HR.out
  | false =>
    obtain rfl := hin rfl
    have H1 := Lib.hid (And.intro hS hXc)
    clear hS hin hXc
    go_wp2_with fail
    go_loopw [5, 6, 9] (fun nv _ t wr => ∃ i : Nat, t = .int .i64 i ∧ ∃ dv : Value, dv = nv ∧ i ≤ l.length ∧ Hid (RS w0 wr ((l.drop i).flatMap stepB' ++ rest) deep false ∧ Own wr (fun k => W.heap.size ≤ k) W.heap.size 47 2 dv i ((l.take i).flatMap stepC) ∧ Exc w0.heap.size W wr ∧ (l.take i).all (@yes Step) = true)) (fun _ _ t _ => downV l.length t)
    case atStart => exact ⟨0, rfl, _, rfl, Nat.zero_le _, Lib.hid ⟨H1.out.1, Own.nil _ _ _ _ _, H1.out.2, rfl⟩⟩
    case round =>
      obtain ⟨i, rfl, dv, rfl, hi, HH⟩ := hrel
      clear H1
      have hi0 : (0 : Int) ≤ (i : Int) := by omega
      have hi12 : (i : Int) ≤ 1000000000000 := by omega
      by_cases hil : i < l.length
      · have hlI : (i : Int) < (l.length : Int) := by omega
        have HON := Lib.hid (HX.out l[i] (List.getElem_mem hil) wr _ false ((l.drop (i + 1)).flatMap stepB' ++ rest) (fun _ => by rw [drop_one l i hil, List.flatMap_cons, List.append_assoc]) HH.out.1)
        rw [Bool.false_or] at HON
        have HT := Lib.hid (show l.take (i + 1) = l.take i ++ [l[i]] from List.take_succ_eq_append_getElem hil)
        have HA := Lib.hid (show l.all (@yes Step) = true → (@yes Step) l[i] = true from fun h => List.all_eq_true.1 h _ (List.getElem_mem hil))
        obtain ⟨x, hx⟩ : ∃ x, l[i] = x := ⟨_, rfl⟩
        rw [hx] at HON HT HA
        obtain ⟨ft, hft⟩ : ∃ y, (@yes Step) x = y := ⟨_, rfl⟩
        rw [hft] at HON HA
        have HFT := Lib.hid hft
        clear hx hft
        go_wp2_with fail
        refine HON.out.mono ?_
        rintro e w3 ⟨v, rfl, ⟨s1, a, n, c, rfl, l1, e1⟩, ⟨inp3, hS3, hin3⟩, hX3⟩
        clear HON
        have hX4 := HH.out.2.2.1.trans hX3
        cases ft with
        | false =>
          obtain rfl : B = false := by
            cases B with
            | false => rfl
            | true => have := HA.out HB.out; cases this
          have hS4 : RS w0 (w3.alloc (.cells #[.string (bs s1), .slice a n c] 47)) inp3 deep true := hS3.step ((Ext.refl w3).alloc _)
          have k2 := hS4.c2
          have HR := Lib.hid (show RPost w0 W (!false) rest deep (fun v w => SlV W.heap.size (!false) (stepsD l) v w) (.returned (.slice none 0 0)) (w3.alloc (.cells #[.string (bs s1), .slice a n c] 47)) from ⟨_, rfl, slV_nil _ _ _, ⟨_, hS4, fun h => by cases h⟩, hX4.ext ((Ext.refl w3).alloc _)⟩)
          clear hS4 hX4 hS3
          go_wp2_with fail
          go_ret
          exact HR.out
        | true =>
          obtain rfl := hin3 rfl
          have hbw : ∀ k, dv.ownBlock = some k → k < wr.heap.size := fun k hk => by
            obtain ⟨us', hr', _⟩ := HH.out.2.1
            exact (hr'.lt k hk).2
          have hszr := HH.out.2.2.1.1
          obtain ⟨rfl, hk⟩ := e1 rfl
          have HG := Lib.hid (show Reps w3 (fun k => W.heap.size ≤ k ∧ some k ≠ dv.ownBlock) [.string (bs x.n), .slice a n c] (stepC x) from Reps.cons (Rep.string _ _ _ (by rw [bs_size]; exact l1)) (Reps.cons (hk.ok fun k hk => ⟨by omega, fun e => by have := hbw k e.symm; omega⟩) (Reps.nil _ _)))
          clear hk
          clear hbw hszr
          have hS4 : RS w0 (w3.alloc (.cells #[.string (bs x.n), .slice a n c] 47)) _ deep false := hS3.step ((Ext.refl w3).alloc _)
          have k2 := hS4.c2
          have hE4 : Ext w3 ((w3.alloc (.cells #[.string (bs x.n), .slice a n c] 47)).alloc (.cells #[.string (bs x.n), .slice a n c] 47)) := ((Ext.refl w3).alloc _).alloc _
          obtain ⟨us, hr, hu⟩ := (HH.out.2.1.exc hX3 hlt (fun _ h => by omega)).ext hE4
          have hS5 := hS3.step hE4
          have hX5 := hX4.ext hE4
          have hbl : ∀ k, dv.ownBlock = some k → W.heap.size ≤ k ∧ k < w3.heap.size := fun k hk => by
            obtain ⟨us', hr', _⟩ := HH.out.2.1.exc hX3 hlt (fun _ h => by omega)
            exact hr'.lt k hk
          have hn : Reps ((w3.alloc (.cells #[.string (bs x.n), .slice a n c] 47)).alloc (.cells #[.string (bs x.n), .slice a n c] 47)) (fun k => (W.heap.size ≤ k) ∧ some k ≠ dv.ownBlock ∧ k < ((w3.alloc (.cells #[.string (bs x.n), .slice a n c] 47)).alloc (.cells #[.string (bs x.n), .slice a n c] 47)).heap.size) [.string (bs x.n), .slice a n c] (stepC x) :=
            ((HG.out.ext hE4).lt).ok fun k hk => ⟨hk.1.1, hk.1.2, hk.2⟩
          have HO := Lib.hid (And.intro hr (And.intro hu (And.intro hn (And.intro hS5 (And.intro hX5 hbl)))))
          have hszW : W.heap.size ≤ w3.heap.size := hX4.1
          clear hr hu hn hS5 hX5 hbl hS4 hX4 hS3 hE4
          go_wp2_with (at_builtin; refine wpList_append_own_at _ rfl (.tmp 17) (.tmp 19) _ rfl W.heap.size 47 i0 (.agg #[.string ⟨#[]⟩, .slice none 0 0]) 2 40 Tryd.underlying48 hi0' hz0 hz1 hz2 rfl (by decide) dv i us rfl HO.out.1 ⟨w3.heap.size + 1, 0, none⟩ 1 1 [.string (bs x.n), .slice a n c] rfl rfl (by intro j u hj; match j, hj with | 0, hj => simp at hj; subst hj; simp [go_sem] | 1, hj => simp at hj; subst hj; simp [go_sem] | j + 2, hj => simp at hj) (by intro u hu; simp at hu; rcases hu with rfl | rfl <;> rfl) (by unfold maxLen; omega) (by omega) (by simp; omega) ?_; intro v2 w5 hown5 hgrow5 _ hat5)
          have HO5 := Lib.hid (And.intro hown5 (And.intro hgrow5 hat5))
          clear hown5 hgrow5 hat5
          go_roundw
          case rel =>
            obtain ⟨hr, hu, hn, hS5, hX5, hbl⟩ := HO.out
            obtain ⟨hown5, hgrow5, hat5⟩ := HO5.out
            refine ⟨i + 1, by go_num, v2, rfl, by omega, Lib.hid ⟨hS5.grown hgrow5 fun k hk => by have := (hbl k hk).1; omega, ?_, hX5.grown hgrow5 fun k hk => (hbl k hk).1, ?_⟩⟩
            · rw [HT.out, List.flatMap_append, show [x].flatMap stepC = stepC x by simp]
              exact Own.push hu hn hown5 hgrow5 hat5
            · rw [HT.out, List.all_append, HH.out.2.2.2, List.all_cons, HFT.out]; rfl
          case measure => simp only [downV]; omega
      · have hlI : ¬ (i : Int) < (l.length : Int) := by omega
        have hie : i = l.length := by omega
        have HR := Lib.hid (show RPost w0 W (!B) rest deep (fun v w => SlV W.heap.size (!B) (stepsD l) v w) (.returned dv) wr from by
          obtain ⟨h1, h2, h3, h4⟩ := HH.out
          rw [hie, List.take_length] at h2 h4
          rw [hie, List.drop_length, List.flatMap_nil, List.nil_append] at h1
          obtain rfl : B = true := by rw [← HB.out, h4]
          obtain ⟨a, c, e, _, _⟩ := h2.form
          exact ⟨_, rfl, ⟨a, _, c, e, fun _ => h2.rep.ok fun k hk => by
            rcases hk with hk | hk <;> exact hk⟩, ⟨_, h1, fun _ => rfl⟩, h3⟩)
        clear HH
        go_wp2_with fail
        go_ret
        exact HR.out
theorem yes_all {α : Type} (b : Bool) (l : List α) : (b || !l.all (@yes α)) = b := by rw [(List.all_eq_true.2 fun _ _ => rfl : l.all (@yes α) = true)]; simp
theorem yes_one {α : Type} (b : Bool) (x : α) : (b || !(@yes α) x) = b := by simp [yes]
theorem rattrs_any (w0 W : World) (inp : Bytes) (deep : Int) (b : Bool) (l : List Attr) (rest : Bytes) (hl : l.length ≤ 1000000000000) (hs : ∀ s ∈ l, s.n.length ≤ 1000000000000 ∧ s.v.length ≤ 1000000000000) (hi : b = false → inp = attrsB l ++ rest) (h : RS w0 W inp deep b) :
    Calls Tryd.prog 54 #[.pointer (some ⟨w0.heap.size, 0, none⟩), .func (.func 55) #[.pointer (some ⟨w0.heap.size, 0, none⟩)] #[]] W (RPost w0 W b rest deep fun v w => SlV W.heap.size b (attrsD l) v w) := by
  have h1 := rattrs_some w0 W inp deep b l rest hl hi h fun x hx W inp b rest hi h => by
    rw [yes_one]; exact rattr_any w0 W inp deep b x rest (hs x hx).1 (hs x hx).2 hi h
  rw [yes_all] at h1
  exact h1
theorem rsteps_any (w0 W : World) (inp : Bytes) (deep : Int) (b : Bool) (l : List Step) (rest : Bytes) (hl : l.length ≤ 1000000000000) (hs : ∀ s ∈ l, s.n.length ≤ 1000000000000 ∧ s.key.length ≤ 1000000000000 ∧ ∀ t ∈ s.key, t.length ≤ 1000000000000) (hi : b = false → inp = stepsB' l ++ rest) (h : RS w0 W inp deep b) :
    Calls Tryd.prog 52 #[.pointer (some ⟨w0.heap.size, 0, none⟩), .func (.func 53) #[.pointer (some ⟨w0.heap.size, 0, none⟩)] #[]] W (RPost w0 W b rest deep fun v w => SlV W.heap.size b (stepsD l) v w) := by
  have h1 := rsteps_some w0 W inp deep b l rest hl hi h fun x hx W inp b rest hi h => by
    rw [yes_one]; exact rstep_any w0 W inp deep b x rest (hs x hx).1 (hs x hx).2.1 (hs x hx).2.2 hi h
  rw [yes_all] at h1
  exact h1
set_option maxHeartbeats 8000000 in
theorem rdown_any (w0 W : World) (inp : Bytes) (d : Nat) (b : Bool) (hd : d ≤ 10000000) (h : RS w0 W inp d b) :
    Calls Tryd.prog 75 #[.pointer (some ⟨w0.heap.size, 0, none⟩)] W fun e w' => e = .returned (.bool !(b || decide (100 < d + 1))) ∧ RS w0 w' inp ((d + 1 : Nat) : Int) (b || decide (100 < d + 1)) ∧ Exc w0.heap.size W w' := by
  have c1 := h.c1; have c2 := h.c2; have g1 := h.f1; have g2 := h.f2
  have hS := fun x => (h.setDeep ((d : Int) + 1)).setBad x
  have HS := Lib.hid hS
  have hcast : ((d + 1 : Nat) : Int) = (d : Int) + 1 := by omega
  rw [hcast]
  obtain ⟨B, hBd⟩ : ∃ B, decide (100 < d + 1) = B := ⟨_, rfl⟩
  rw [hBd]
  obtain ⟨dd, hdd⟩ : ∃ x, (d : Int) = x := ⟨_, rfl⟩
  rw [hdd] at c1 HS ⊢
  have hd0 : (0 : Int) ≤ dd := by omega
  have hd1 : dd ≤ 10000000 := by omega
  have hT : B = true → (100 : Int) < dd + 1 := fun e => by rw [e] at hBd; have := of_decide_eq_true hBd; omega
  have hF : B = false → ¬ (100 : Int) < dd + 1 := fun e => by rw [e] at hBd; have := of_decide_eq_false hBd; omega
  clear h hS hcast hBd hdd hd
  cases b with
  | true =>
    rw [Bool.true_or]
    clear hT hF
    go_enter Tryd.func75, Tryd.ntmps75
    go_wp2_with fail
    go_ret
    exact ⟨rfl, HS.out true, ((Exc.refl _ _).set (p := ⟨w0.heap.size, 1, none⟩) rfl _).set (p := ⟨w0.heap.size, 2, none⟩) rfl _⟩
  | false =>
    rw [Bool.false_or]
    cases B with
    | true =>
      have hI := hT rfl
      clear hT hF
      go_enter Tryd.func75, Tryd.ntmps75
      go_wp2_with fail
      go_ret
      exact ⟨rfl, HS.out true, ((Exc.refl _ _).set (p := ⟨w0.heap.size, 1, none⟩) rfl _).set (p := ⟨w0.heap.size, 2, none⟩) rfl _⟩
    | false =>
      have hI := hF rfl
      clear hT hF
      go_enter Tryd.func75, Tryd.ntmps75
      go_wp2_with fail
      go_ret
      exact ⟨rfl, HS.out false, ((Exc.refl _ _).set (p := ⟨w0.heap.size, 1, none⟩) rfl _).set (p := ⟨w0.heap.size, 2, none⟩) rfl _⟩

end Go.Proofs.YtghhachbnhldoaaDoor
