/-
  The reference's reader: texts, attributes. Helper lemmas; no statement of the seat is proved here.
-/
import Derived.Test.YtghhachbnhldoaaDoorC21
namespace Go.Proofs.YtghhachbnhldoaaDoor
open Go.RowKit
set_option maxRecDepth 100000
set_option linter.unusedVariables false
set_option linter.unusedSimpArgs false

set_option maxHeartbeats 16000000 in
theorem qtexts_any (w0 W : World) (inp : Bytes) (b : Bool) (l : List Bytes) (rest : Bytes) (hl : l.length ≤ 1000000000000) (hi : b = false → inp = txtsB l ++ rest) (h : QS w0 W inp b)
    (hx0 : ∀ x ∈ l, x.length ≤ 1000000000000) :
    Calls Tryd.prog 32 #[.pointer (some ⟨w0.heap.size, 0, none⟩)] W (QPost w0 W (b || !l.all (@yes Bytes)) rest fun v w => SlV W.heap.size (b || !l.all (@yes Bytes)) (strsD l) v w) := by
  have HC := Lib.hid (qmany_any w0 W inp b l.length (l.flatMap txtB ++ rest) (by omega) (by rw [List.length_append]; have := flat_le txtB txtB_pos l; omega) (fun hb => by rw [hi hb]; show (numB l.length ++ l.flatMap txtB) ++ rest = _; rw [List.append_assoc]) h)
  have hlt := h.lt
  have HX := Lib.hid hx0
  obtain ⟨B, hB⟩ : ∃ B, l.all (@yes Bytes) = B := ⟨_, rfl⟩
  rw [hB]
  have HB := Lib.hid hB
  obtain ⟨i0, hi0', hz0, hz1, hz2⟩ := info_parts infoStr
  clear h hi hB hx0
  go_enter Tryd.func32, Tryd.ntmps32
  go_wp2_with fail
  refine HC.out.mono ?_
  rintro e w1 ⟨v, rfl, rfl, ⟨inp1, hS, hin⟩, hXc⟩
  clear HC
  cases b with
  | true =>
    have HR := Lib.hid (show QPost w0 W (true || !B) rest (fun v w => SlV W.heap.size (true || !B) (strsD l) v w) (.returned (.slice none 0 0)) w1 from ⟨_, rfl, slV_nil _ _ _, ⟨_, hS, fun h => by cases h⟩, hXc⟩)
    clear hS hin hXc
    go_wp2_with fail
    go_loopw [3, 5] (fun nv t wr => t = .int .i64 0 ∧ nv = .slice none 0 0 ∧ wr = w1) (fun _ t _ => downV 1 t)
    case atStart => exact ⟨rfl, rfl, rfl⟩
    case round =>
      obtain ⟨rfl, rfl, rfl⟩ := hrel
      go_wp2_with fail
      go_ret
      exact HR.out
  | false =>
    obtain rfl := hin rfl
    have H1 := Lib.hid (And.intro hS hXc)
    clear hS hin hXc
    go_wp2_with fail
    go_loopw [3, 5] (fun nv t wr => ∃ (i : Nat) (f : Bool), t = .int .i64 i ∧ ∃ dv : Value, dv = nv ∧ i ≤ l.length ∧ Hid ((∃ inp', QS w0 wr inp' f ∧ (f = false → inp' = (l.drop i).flatMap txtB ++ rest)) ∧ (f = false → Own wr (fun k => W.heap.size ≤ k) W.heap.size 9 1 dv i ((l.take i).flatMap (fun x => [strD x]))) ∧ Exc w0.heap.size W wr ∧ (f = false → (l.take i).all (@yes Bytes) = true) ∧ (f = true → B = false) ∧ ∃ a n c, dv = .slice a n c)) (fun _ t _ => downV l.length t)
    case atStart => exact ⟨0, false, rfl, _, rfl, Nat.zero_le _, Lib.hid ⟨⟨_, H1.out.1, fun _ => rfl⟩, fun _ => Own.nil _ _ _ _ _, H1.out.2, fun _ => rfl, fun h => (by cases h), _, _, _, rfl⟩⟩
    case round =>
      obtain ⟨i, f, rfl, dv, rfl, hi, HH⟩ := hrel
      clear H1
      have hi0 : (0 : Int) ≤ (i : Int) := by omega
      have hi12 : (i : Int) ≤ 1000000000000 := by omega
      obtain ⟨inp', hS', hin'⟩ := HH.out.1
      have c2 := hS'.c2
      cases f with
      | true =>
        obtain ⟨a, n', c, hdv⟩ := HH.out.2.2.2.2.2
        obtain rfl := HH.out.2.2.2.2.1 (by trivial)
        have HR := Lib.hid (show QPost w0 W (false || !false) rest (fun v w => SlV W.heap.size (false || !false) (strsD l) v w) (.returned dv) wr from ⟨_, rfl, ⟨a, n', c, hdv, fun h => by cases h⟩, ⟨_, hS', fun h => by cases h⟩, HH.out.2.2.1⟩)
        clear HH hS' hin' hdv
        by_cases hil : i < l.length
        · have hlI : (i : Int) < (l.length : Int) := by omega
          go_wp2_with fail
          go_ret
          exact HR.out
        · have hlI : ¬ (i : Int) < (l.length : Int) := by omega
          go_wp2_with fail
          go_ret
          exact HR.out
      | false =>
        obtain rfl := hin' rfl
        clear hin'
        by_cases hil : i < l.length
        · have hlI : (i : Int) < (l.length : Int) := by omega
          have HT := Lib.hid (show l.take (i + 1) = l.take i ++ [l[i]] from List.take_succ_eq_append_getElem hil)
          have HA := Lib.hid (show l.all (@yes Bytes) = true → (@yes Bytes) l[i] = true from fun h => List.all_eq_true.1 h _ (List.getElem_mem hil))
          have hdr : (l.drop i).flatMap txtB ++ rest = txtB l[i] ++ ((l.drop (i + 1)).flatMap txtB ++ rest) := by rw [drop_one l i hil, List.flatMap_cons, List.append_assoc]
          have HXi := Lib.hid (HX.out l[i] (List.getElem_mem hil))
          obtain ⟨REST, hRE⟩ : ∃ x, (l.drop (i + 1)).flatMap txtB ++ rest = x := ⟨_, rfl⟩
          rw [hRE] at hdr
          obtain ⟨x, hx⟩ : ∃ x, l[i] = x := ⟨_, rfl⟩
          rw [hx] at HT HA HXi hdr
          obtain ⟨ft, hft⟩ : ∃ y, (@yes Bytes) x = y := ⟨_, rfl⟩
          have HFT := Lib.hid hft
          have HRE := Lib.hid hRE
          have HQ := Lib.hid (And.intro hS' (And.intro (fun _ : false = false => hdr) (Exc.refl w0.heap.size wr)))
          clear hx hft hdr hRE hS'
          have HON := Lib.hid (qtext_any w0 wr _ false x REST HXi.out HQ.out.2.1 HQ.out.1)
          go_wp2_with fail
          refine HON.out.mono ?_
          rintro e v0 ⟨v, rfl, ⟨s', rfl, hv1, hv2⟩, ⟨inp0, hS0, hin0⟩, hX0⟩
          have hXX0 := HQ.out.2.2.trans hX0
          clear HON HQ
          have HQ := Lib.hid (And.intro hS0 (And.intro hin0 hXX0))
          clear hS0 hin0 hXX0 hX0
          obtain rfl := (hv2 rfl).symm
          have hX3 := HQ.out.2.2
          have hX4 := HH.out.2.2.1.trans hX3
          have hE4 : Ext v0 (v0.alloc (.cells #[.string (bs x)] 9)) := (Ext.refl v0).alloc _
          have how := HH.out.2.1 (by trivial)
          obtain ⟨us, hr, hu⟩ := (how.exc hX3 hlt (fun _ h => by omega)).ext hE4
          have hbl : ∀ k, dv.ownBlock = some k → W.heap.size ≤ k ∧ k < v0.heap.size := fun k hk => by
            obtain ⟨us', hr', _⟩ := how.exc hX3 hlt (fun _ h => by omega)
            exact hr'.lt k hk
          have hbw : ∀ k, dv.ownBlock = some k → k < wr.heap.size := fun k hk => by
            obtain ⟨us', hr', _⟩ := how
            exact (hr'.lt k hk).2
          have hszr := HH.out.2.2.1.1
          have hG : ft = true → Reps v0 (fun k => W.heap.size ≤ k ∧ some k ≠ dv.ownBlock) [.string (bs x)] ((fun x => [strD x]) x) := fun hf => by
            exact Reps.cons (Rep.string _ _ _ (by rw [bs_size]; exact hv1)) (Reps.nil _ _)
          have HO := Lib.hid (And.intro hr (And.intro hu (And.intro (HQ.out.1.step hE4) (And.intro (hX4.ext hE4) (And.intro hbl (And.intro hE4 hG))))))
          have hszW : W.heap.size ≤ v0.heap.size := hX4.1
          clear hr hu hbl hX4 hX3 hE4 how hbw hszr hG
          go_wp2_with (at_builtin; refine wpList_append_own_at _ rfl (.tmp 20) (.tmp 23) _ rfl W.heap.size 9 i0 (.string ⟨#[]⟩) 1 16 Tryd.underlying38 hi0' hz0 hz1 hz2 rfl (by decide) dv i us rfl HO.out.1 ⟨v0.heap.size, 0, none⟩ 1 1 [.string (bs x)] rfl rfl (by intro j u hj; match j, hj with | 0, hj => simp at hj; subst hj; simp [go_sem] | j + 1, hj => simp at hj) (by intro u hu; simp at hu; rcases hu with rfl; rfl) (by unfold maxLen; omega) (by omega) (by simp; omega) ?_; intro x2 w5 hown5 hgrow5 _ hat5)
          have HO5 := Lib.hid (And.intro hown5 (And.intro hgrow5 hat5))
          clear hown5 hgrow5 hat5
          go_roundw
          case rel =>
            obtain ⟨hr, hu, hS5, hX5, hbl, hE4, hG⟩ := HO.out
            obtain ⟨hown5, hgrow5, hat5⟩ := HO5.out
            refine ⟨i + 1, !ft, by go_num, x2, rfl, by omega, Lib.hid ⟨⟨_, (show QS w0 w5 _ (!ft) from by have h := hS5.grown hgrow5 fun k hk => (by have := (hbl k hk).1; omega); exact (by rw [show (!ft) = false by rw [← HFT.out]; rfl]; exact h)), fun hf => by rw [HRE.out]; exact HQ.out.2.1 (by trivial)⟩, fun hf => ?_, hX5.grown hgrow5 fun k hk => (hbl k hk).1, fun hf => ?_, fun hf => ?_, ?_⟩⟩
            · have hft : ft = true := by simpa using hf
              have hn : Reps (v0.alloc (.cells #[.string (bs x)] 9)) (fun k => (W.heap.size ≤ k) ∧ some k ≠ dv.ownBlock ∧ k < (v0.alloc (.cells #[.string (bs x)] 9)).heap.size) [.string (bs x)] ((fun x => [strD x]) x) := (((hG hft).ext hE4).lt).ok fun k hk => ⟨hk.1.1, hk.1.2, hk.2⟩
              rw [HT.out, List.flatMap_append, show [x].flatMap (fun x => [strD x]) = (fun x => [strD x]) x by simp]
              exact Own.push hu hn hown5 hgrow5 hat5
            · have hft : ft = true := by simpa using hf
              rw [HT.out, List.all_append, HH.out.2.2.2.1 (by trivial), List.all_cons, HFT.out, hft]; rfl
            · cases hB : B with
              | false => rfl
              | true => have := HA.out (HB.out.trans hB); rw [HFT.out] at this; rw [this] at hf; cases hf
            · obtain ⟨a, c, e⟩ := own_slice hown5
              exact ⟨a, _, c, e⟩
          case measure => simp only [downV]; omega
        · have hlI : ¬ (i : Int) < (l.length : Int) := by omega
          have hie : i = l.length := by omega
          have HR := Lib.hid (show QPost w0 W (false || !B) rest (fun v w => SlV W.heap.size (false || !B) (strsD l) v w) (.returned dv) wr from by
            obtain ⟨_, h2, h3, h4, _⟩ := HH.out
            have h2 := h2 rfl
            have h4 := h4 rfl
            rw [hie, List.take_length] at h2 h4
            rw [hie, List.drop_length, List.flatMap_nil, List.nil_append] at hS'
            obtain rfl : B = true := by rw [← HB.out, h4]
            obtain ⟨a, c, e, _, _⟩ := h2.form
            exact ⟨_, rfl, ⟨a, _, c, e, fun _ => h2.rep.ok fun k hk => by rcases hk with hk | hk <;> exact hk⟩, ⟨_, hS', fun _ => rfl⟩, h3⟩)
          clear HH hS'
          go_wp2_with fail
          go_ret
          exact HR.out
set_option maxHeartbeats 16000000 in
theorem qattrs_any (w0 W : World) (inp : Bytes) (b : Bool) (l : List Attr) (rest : Bytes) (hl : l.length ≤ 1000000000000) (hi : b = false → inp = attrsB l ++ rest) (h : QS w0 W inp b)
    (hx0 : ∀ x ∈ l, x.n.length ≤ 1000000000000 ∧ x.v.length ≤ 1000000000000) :
    Calls Tryd.prog 33 #[.pointer (some ⟨w0.heap.size, 0, none⟩)] W (QPost w0 W (b || !l.all (@yes Attr)) rest fun v w => SlV W.heap.size (b || !l.all (@yes Attr)) (attrsD l) v w) := by
  have HC := Lib.hid (qmany_any w0 W inp b l.length (l.flatMap attrB ++ rest) (by omega) (by rw [List.length_append]; have := flat_le attrB attrB_pos l; omega) (fun hb => by rw [hi hb]; show (numB l.length ++ l.flatMap attrB) ++ rest = _; rw [List.append_assoc]) h)
  have hlt := h.lt
  have HX := Lib.hid hx0
  obtain ⟨B, hB⟩ : ∃ B, l.all (@yes Attr) = B := ⟨_, rfl⟩
  rw [hB]
  have HB := Lib.hid hB
  obtain ⟨i0, hi0', hz0, hz1, hz2⟩ := info_parts infoAttr
  clear h hi hB hx0
  go_enter Tryd.func33, Tryd.ntmps33
  go_wp2_with fail
  refine HC.out.mono ?_
  rintro e w1 ⟨v, rfl, rfl, ⟨inp1, hS, hin⟩, hXc⟩
  clear HC
  cases b with
  | true =>
    have HR := Lib.hid (show QPost w0 W (true || !B) rest (fun v w => SlV W.heap.size (true || !B) (attrsD l) v w) (.returned (.slice none 0 0)) w1 from ⟨_, rfl, slV_nil _ _ _, ⟨_, hS, fun h => by cases h⟩, hXc⟩)
    clear hS hin hXc
    go_wp2_with fail
    go_loopw [3, 5, 6, 7] (fun nv t _ _ wr => t = .int .i64 0 ∧ nv = .slice none 0 0 ∧ wr = w1) (fun _ t _ _ _ => downV 1 t)
    case atStart => exact ⟨rfl, rfl, rfl⟩
    case round =>
      obtain ⟨rfl, rfl, rfl⟩ := hrel
      go_wp2_with fail
      go_ret
      exact HR.out
  | false =>
    obtain rfl := hin rfl
    have H1 := Lib.hid (And.intro hS hXc)
    clear hS hin hXc
    go_wp2_with fail
    go_loopw [3, 5, 6, 7] (fun nv t _ _ wr => ∃ (i : Nat) (f : Bool), t = .int .i64 i ∧ ∃ dv : Value, dv = nv ∧ i ≤ l.length ∧ Hid ((∃ inp', QS w0 wr inp' f ∧ (f = false → inp' = (l.drop i).flatMap attrB ++ rest)) ∧ (f = false → Own wr (fun k => W.heap.size ≤ k) W.heap.size 101 2 dv i ((l.take i).flatMap attrC)) ∧ Exc w0.heap.size W wr ∧ (f = false → (l.take i).all (@yes Attr) = true) ∧ (f = true → B = false) ∧ ∃ a n c, dv = .slice a n c)) (fun _ t _ _ _ => downV l.length t)
    case atStart => exact ⟨0, false, rfl, _, rfl, Nat.zero_le _, Lib.hid ⟨⟨_, H1.out.1, fun _ => rfl⟩, fun _ => Own.nil _ _ _ _ _, H1.out.2, fun _ => rfl, fun h => (by cases h), _, _, _, rfl⟩⟩
    case round =>
      obtain ⟨i, f, rfl, dv, rfl, hi, HH⟩ := hrel
      clear H1
      have hi0 : (0 : Int) ≤ (i : Int) := by omega
      have hi12 : (i : Int) ≤ 1000000000000 := by omega
      obtain ⟨inp', hS', hin'⟩ := HH.out.1
      have c2 := hS'.c2
      cases f with
      | true =>
        obtain ⟨a, n', c, hdv⟩ := HH.out.2.2.2.2.2
        obtain rfl := HH.out.2.2.2.2.1 (by trivial)
        have HR := Lib.hid (show QPost w0 W (false || !false) rest (fun v w => SlV W.heap.size (false || !false) (attrsD l) v w) (.returned dv) wr from ⟨_, rfl, ⟨a, n', c, hdv, fun h => by cases h⟩, ⟨_, hS', fun h => by cases h⟩, HH.out.2.2.1⟩)
        clear HH hS' hin' hdv
        by_cases hil : i < l.length
        · have hlI : (i : Int) < (l.length : Int) := by omega
          go_wp2_with fail
          go_ret
          exact HR.out
        · have hlI : ¬ (i : Int) < (l.length : Int) := by omega
          go_wp2_with fail
          go_ret
          exact HR.out
      | false =>
        obtain rfl := hin' rfl
        clear hin'
        by_cases hil : i < l.length
        · have hlI : (i : Int) < (l.length : Int) := by omega
          have HT := Lib.hid (show l.take (i + 1) = l.take i ++ [l[i]] from List.take_succ_eq_append_getElem hil)
          have HA := Lib.hid (show l.all (@yes Attr) = true → (@yes Attr) l[i] = true from fun h => List.all_eq_true.1 h _ (List.getElem_mem hil))
          have hdr : (l.drop i).flatMap attrB ++ rest = attrB l[i] ++ ((l.drop (i + 1)).flatMap attrB ++ rest) := by rw [drop_one l i hil, List.flatMap_cons, List.append_assoc]
          have HXi := Lib.hid (HX.out l[i] (List.getElem_mem hil))
          obtain ⟨REST, hRE⟩ : ∃ x, (l.drop (i + 1)).flatMap attrB ++ rest = x := ⟨_, rfl⟩
          rw [hRE] at hdr
          obtain ⟨x, hx⟩ : ∃ x, l[i] = x := ⟨_, rfl⟩
          rw [hx] at HT HA HXi hdr
          obtain ⟨ft, hft⟩ : ∃ y, (@yes Attr) x = y := ⟨_, rfl⟩
          have HFT := Lib.hid hft
          have HRE := Lib.hid hRE
          have HQ := Lib.hid (And.intro hS' (And.intro (fun _ : false = false => hdr) (Exc.refl w0.heap.size wr)))
          clear hx hft hdr hRE hS'
          have HON := Lib.hid (qtext_any w0 wr _ false x.n (txtB x.v ++ REST) HXi.out.1 (fun hb => by rw [HQ.out.2.1 hb]; unfold attrB; rw [List.append_assoc]) HQ.out.1)
          go_wp2_with fail
          refine HON.out.mono ?_
          rintro e v0 ⟨v, rfl, ⟨s', rfl, hv1, hv2⟩, ⟨inp0, hS0, hin0⟩, hX0⟩
          have hXX0 := HQ.out.2.2.trans hX0
          clear HON HQ
          have HQ := Lib.hid (And.intro hS0 (And.intro hin0 hXX0))
          clear hS0 hin0 hXX0 hX0
          obtain rfl := (hv2 rfl).symm
          have HON := Lib.hid (qtext_any w0 v0 _ false x.v REST HXi.out.2 HQ.out.2.1 HQ.out.1)
          go_wp2_with fail
          refine HON.out.mono ?_
          rintro e v1 ⟨v, rfl, ⟨t', rfl, hu1, hu2⟩, ⟨inp1, hS1, hin1⟩, hX1⟩
          have hXX1 := HQ.out.2.2.trans hX1
          clear HON HQ
          have HQ := Lib.hid (And.intro hS1 (And.intro hin1 hXX1))
          clear hS1 hin1 hXX1 hX1
          obtain rfl := (hu2 rfl).symm
          have hX3 := HQ.out.2.2
          have hX4 := HH.out.2.2.1.trans hX3
          have hE4 : Ext v1 (v1.alloc (.cells #[.string (bs x.n), .string (bs x.v)] 101)) := (Ext.refl v1).alloc _
          have how := HH.out.2.1 (by trivial)
          obtain ⟨us, hr, hu⟩ := (how.exc hX3 hlt (fun _ h => by omega)).ext hE4
          have hbl : ∀ k, dv.ownBlock = some k → W.heap.size ≤ k ∧ k < v1.heap.size := fun k hk => by
            obtain ⟨us', hr', _⟩ := how.exc hX3 hlt (fun _ h => by omega)
            exact hr'.lt k hk
          have hbw : ∀ k, dv.ownBlock = some k → k < wr.heap.size := fun k hk => by
            obtain ⟨us', hr', _⟩ := how
            exact (hr'.lt k hk).2
          have hszr := HH.out.2.2.1.1
          have hG : ft = true → Reps v1 (fun k => W.heap.size ≤ k ∧ some k ≠ dv.ownBlock) [.string (bs x.n), .string (bs x.v)] (attrC x) := fun hf => by
            exact Reps.cons (Rep.string _ _ _ (by rw [bs_size]; exact hv1)) (Reps.cons (Rep.string _ _ _ (by rw [bs_size]; exact hu1)) (Reps.nil _ _))
          have HO := Lib.hid (And.intro hr (And.intro hu (And.intro (HQ.out.1.step hE4) (And.intro (hX4.ext hE4) (And.intro hbl (And.intro hE4 hG))))))
          have hszW : W.heap.size ≤ v1.heap.size := hX4.1
          clear hr hu hbl hX4 hX3 hE4 how hbw hszr hG
          go_wp2_with (at_builtin; refine wpList_append_own_at _ rfl (.tmp 26) (.tmp 30) _ rfl W.heap.size 101 i0 (.agg #[.string ⟨#[]⟩, .string ⟨#[]⟩]) 2 32 Tryd.underlying49 hi0' hz0 hz1 hz2 rfl (by decide) dv i us rfl HO.out.1 ⟨v1.heap.size, 0, none⟩ 1 1 [.string (bs x.n), .string (bs x.v)] rfl rfl (by intro j u hj; match j, hj with | 0, hj => simp at hj; subst hj; simp [go_sem] | 1, hj => simp at hj; subst hj; simp [go_sem] | j + 2, hj => simp at hj) (by intro u hu; simp at hu; rcases hu with rfl | rfl <;> rfl) (by unfold maxLen; omega) (by omega) (by simp; omega) ?_; intro x2 w5 hown5 hgrow5 _ hat5)
          have HO5 := Lib.hid (And.intro hown5 (And.intro hgrow5 hat5))
          clear hown5 hgrow5 hat5
          go_roundw
          case rel =>
            obtain ⟨hr, hu, hS5, hX5, hbl, hE4, hG⟩ := HO.out
            obtain ⟨hown5, hgrow5, hat5⟩ := HO5.out
            refine ⟨i + 1, !ft, by go_num, x2, rfl, by omega, Lib.hid ⟨⟨_, (show QS w0 w5 _ (!ft) from by have h := hS5.grown hgrow5 fun k hk => (by have := (hbl k hk).1; omega); exact (by rw [show (!ft) = false by rw [← HFT.out]; rfl]; exact h)), fun hf => by rw [HRE.out]; exact HQ.out.2.1 (by trivial)⟩, fun hf => ?_, hX5.grown hgrow5 fun k hk => (hbl k hk).1, fun hf => ?_, fun hf => ?_, ?_⟩⟩
            · have hft : ft = true := by simpa using hf
              have hn : Reps (v1.alloc (.cells #[.string (bs x.n), .string (bs x.v)] 101)) (fun k => (W.heap.size ≤ k) ∧ some k ≠ dv.ownBlock ∧ k < (v1.alloc (.cells #[.string (bs x.n), .string (bs x.v)] 101)).heap.size) [.string (bs x.n), .string (bs x.v)] (attrC x) := (((hG hft).ext hE4).lt).ok fun k hk => ⟨hk.1.1, hk.1.2, hk.2⟩
              rw [HT.out, List.flatMap_append, show [x].flatMap attrC = attrC x by simp]
              exact Own.push hu hn hown5 hgrow5 hat5
            · have hft : ft = true := by simpa using hf
              rw [HT.out, List.all_append, HH.out.2.2.2.1 (by trivial), List.all_cons, HFT.out, hft]; rfl
            · cases hB : B with
              | false => rfl
              | true => have := HA.out (HB.out.trans hB); rw [HFT.out] at this; rw [this] at hf; cases hf
            · obtain ⟨a, c, e⟩ := own_slice hown5
              exact ⟨a, _, c, e⟩
          case measure => simp only [downV]; omega
        · have hlI : ¬ (i : Int) < (l.length : Int) := by omega
          have hie : i = l.length := by omega
          have HR := Lib.hid (show QPost w0 W (false || !B) rest (fun v w => SlV W.heap.size (false || !B) (attrsD l) v w) (.returned dv) wr from by
            obtain ⟨_, h2, h3, h4, _⟩ := HH.out
            have h2 := h2 rfl
            have h4 := h4 rfl
            rw [hie, List.take_length] at h2 h4
            rw [hie, List.drop_length, List.flatMap_nil, List.nil_append] at hS'
            obtain rfl : B = true := by rw [← HB.out, h4]
            obtain ⟨a, c, e, _, _⟩ := h2.form
            exact ⟨_, rfl, ⟨a, _, c, e, fun _ => h2.rep.ok fun k hk => by rcases hk with hk | hk <;> exact hk⟩, ⟨_, hS', fun _ => rfl⟩, h3⟩)
          clear HH hS'
          go_wp2_with fail
          go_ret
          exact HR.out

end Go.Proofs.YtghhachbnhldoaaDoor
