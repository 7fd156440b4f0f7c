/-
  The reader's lists. Helper lemmas; no statement of the seat is proved here.
-/
import Derived.Test.YtghhachbnhldoaaDoorC9
namespace Go.Proofs.YtghhachbnhldoaaDoor
open Go.RowKit
set_option maxRecDepth 100000
set_option linter.unusedVariables false
set_option linter.unusedSimpArgs false

theorem infoStr : (Tryd.prog.info? 9).map (fun i => (i.zero, i.size, i.bytes)) = some (some (.string ⟨#[]⟩), 1, 16) := by kernel_rfl
theorem infoStep : (Tryd.prog.info? 47).map (fun i => (i.zero, i.size, i.bytes)) = some (some (.agg #[.string ⟨#[]⟩, .slice none 0 0]), 2, 40) := by kernel_rfl
theorem infoAttr : (Tryd.prog.info? 101).map (fun i => (i.zero, i.size, i.bytes)) = some (some (.agg #[.string ⟨#[]⟩, .string ⟨#[]⟩]), 2, 32) := by kernel_rfl
theorem infoNode : (Tryd.prog.info? 52).map (fun i => (i.zero, i.size, i.bytes)) = some (some (.agg #[.int .i64 0, .string ⟨#[]⟩, .string ⟨#[]⟩, .slice none 0 0, .slice none 0 0]), 5, 88) := by kernel_rfl
theorem res_cell {fn : Func} {t : Tmp} {T : TypeId} (h : fn.results = #[.cell t T]) (tmps : Array Value) (P : Program) (w : World) (ad : Addr) {v : Value} (ha : tmps.getD t undef = .pointer (some ad)) (hl : (loadVar T ad).run P w = .ok v w) :
    (results fn tmps).run P w = .ok v w := by
  have ha' : tmps[t]?.getD undef = .pointer (some ad) := by simpa using ha
  simp [results, h, ha', asAddr, hl]
theorem rows_exc {g : Nat} {w w' : World} {base z n : Nat} {e : TypeId} {v : Value} {us : List Value} (h : w.ownsRow base e z v n us) (hX : Exc g w w') (hg : g < base) : w'.ownsRow base e z v n us := by
  refine ⟨h.1, ?_⟩
  rcases h.2 with h | ⟨k, cap, cur, hv, hb, hk, h⟩
  · exact .inl h
  · exact .inr ⟨k, cap, cur, hv, hb, by rw [hX.2 k (by omega) (blk_lt hk)]; exact hk, h⟩
theorem Own.exc {g : Nat} {w w' : World} {p : Nat → Prop} {base z n : Nat} {e : TypeId} {v : Value} {es : List DV} (h : Own w p base e z v n es) (hX : Exc g w w') (hg : g < base) (hp : ∀ b, p b → b ≠ g) : Own w' p base e z v n es := by
  obtain ⟨us, h1, h2⟩ := h
  exact ⟨us, rows_exc h1 hX hg, (h2.kept fun b hb hlt => hX.2 b (hp b hb.1) hlt).ok fun b hb => ⟨hb.1, hb.2.1, Nat.lt_of_lt_of_le hb.2.2 hX.1⟩⟩
theorem Exc.grown {g : Nat} {a w w' : World} {row : Option Nat} (h : Exc g a w) (hg : w.grownBy w' row) (hr : ∀ k, row = some k → a.heap.size ≤ k) : Exc g a w' :=
  ⟨Nat.le_trans h.1 hg.size, fun b h1 h2 => (hg.block b (Nat.lt_of_lt_of_le h2 h.1) fun e => by have := hr b e.symm; omega).trans (h.2 b h1 h2)⟩
theorem RS.grown {w0 W W' : World} {inp : Bytes} {deep : Int} {bad : Bool} {row : Option Nat} (h : RS w0 W inp deep bad) (hg : W.grownBy W' row) (hr : ∀ k, row = some k → w0.heap.size < k) : RS w0 W' inp deep bad := by
  have hb : W'.heap[w0.heap.size]? = W.heap[w0.heap.size]? := hg.block _ h.lt fun e => by have := hr _ e.symm; omega
  obtain ⟨bb, off, c, h1, h2⟩ := h.row
  exact ⟨Below.grown h.ext hg (Below.size h.ext) fun k hk => by have := hr k hk; omega, ⟨bb, off, c, (World.cell?_of_block hb).trans h1, h2⟩, (World.cell?_of_block hb).trans h.c1, (World.cell?_of_block hb).trans h.c2, (World.frozen?_of_block hb).trans h.f0, (World.frozen?_of_block hb).trans h.f1, (World.frozen?_of_block hb).trans h.f2⟩
/-- A slice that was read. -/
def SlV (base : Nat) (b : Bool) (d : DV) (v : Value) (w : World) : Prop := ∃ a n c, v = .slice a n c ∧ (b = false → Rep w (fun k => base ≤ k) v d)
theorem slV_nil (g : Nat) (d : DV) (w : World) : SlV g true d (.slice none 0 0) w := ⟨_, _, _, rfl, fun h => by cases h⟩
theorem SlV.exc {g base : Nat} {b : Bool} {d : DV} {v : Value} {w w' : World} (h : SlV base b d v w) (hX : Exc g w w') (hg : g < base) : SlV base b d v w' := by
  obtain ⟨a, n, c, e, h2⟩ := h
  exact ⟨a, n, c, e, fun hb => (h2 hb).exc (fun _ h => by omega) hX⟩
def strC (x : Bytes) : List DV := [strD x]
def yes {α : Type} (_ : α) : Bool := true
def TxtW (_ : Nat) (b : Bool) (s : Bytes) (v : Value) (_ : World) : Prop := TxtV b s v
set_option maxHeartbeats 16000000 in
theorem rtexts_some (w0 W : World) (inp : Bytes) (deep : Int) (b : Bool) (l : List Bytes) (rest : Bytes) (hl : l.length ≤ 1000000000000) (hi : b = false → inp = txtsB l ++ rest) (h : RS w0 W inp deep b)
    (HX0 : ∀ x ∈ l, ∀ (W : World) (inp : Bytes) (b : Bool) (rest : Bytes), (b = false → inp = txtB x ++ rest) → RS w0 W inp deep b → Calls Tryd.prog 73 #[.pointer (some ⟨w0.heap.size, 0, none⟩)] W (RPost w0 W (b || !(@yes Bytes) x) rest deep fun v w => TxtW W.heap.size (b || !(@yes Bytes) x) x v w)) :
    Calls Tryd.prog 74 #[.pointer (some ⟨w0.heap.size, 0, none⟩), .func (.func 73) #[.pointer (some ⟨w0.heap.size, 0, none⟩)] #[]] W (RPost w0 W (b || !l.all (@yes Bytes)) rest deep fun v w => SlV W.heap.size (b || !l.all (@yes Bytes)) (strsD l) v w) := by
  have HC := Lib.hid (rcount_any w0 W inp deep b l.length (l.flatMap txtB ++ rest) (by omega) (by rw [List.length_append]; have := flat_le txtB txtB_pos l; omega) (fun hb => by rw [hi hb]; show (numB l.length ++ l.flatMap txtB) ++ rest = _; rw [List.append_assoc]) h)
  have hlt := h.lt
  have HX := Lib.hid HX0
  obtain ⟨B, hB⟩ : ∃ B, l.all (@yes Bytes) = B := ⟨_, rfl⟩
  rw [hB]
  have HB := Lib.hid hB
  obtain ⟨i0, hi0', hz0, hz1, hz2⟩ := info_parts infoStr
  clear h hi hB HX0
  go_enter Tryd.func74, Tryd.ntmps74
  go_wp2_with fail
  refine HC.out.mono ?_
  rintro e w1 ⟨v, rfl, rfl, ⟨inp1, hS, hin⟩, hXc⟩
  clear HC
  cases b with
  | true =>
    have HR := Lib.hid (show RPost w0 W (true || !B) rest deep (fun v w => SlV W.heap.size (true || !B) (strsD l) v w) (.returned (.slice none 0 0)) w1 from ⟨_, rfl, slV_nil _ _ _, ⟨_, hS, fun h => by cases h⟩, hXc⟩)
    clear hS hin hXc
    go_wp2_with fail
    go_loopw [5, 6, 9] (fun nv _ t wr => t = .int .i64 0 ∧ nv = .slice none 0 0 ∧ wr = w1) (fun _ _ t _ => downV 1 t)
    case atStart => exact ⟨rfl, rfl, rfl⟩
    case round =>
      obtain ⟨rfl, rfl, rfl⟩ := hrel
      go_wp2_with fail
      go_ret
      exact HR.out
  | false =>
    obtain rfl := hin rfl
    have H1 := Lib.hid (And.intro hS hXc)
    clear hS hin hXc
    go_wp2_with fail
    go_loopw [5, 6, 9] (fun nv _ t wr => ∃ i : Nat, t = .int .i64 i ∧ ∃ dv : Value, dv = nv ∧ i ≤ l.length ∧ Hid (RS w0 wr ((l.drop i).flatMap txtB ++ rest) deep false ∧ Own wr (fun k => W.heap.size ≤ k) W.heap.size 9 1 dv i ((l.take i).flatMap (fun x => [strD x])) ∧ Exc w0.heap.size W wr ∧ (l.take i).all (@yes Bytes) = true)) (fun _ _ t _ => downV l.length t)
    case atStart => exact ⟨0, rfl, _, rfl, Nat.zero_le _, Lib.hid ⟨H1.out.1, Own.nil _ _ _ _ _, H1.out.2, rfl⟩⟩
    case round =>
      obtain ⟨i, rfl, dv, rfl, hi, HH⟩ := hrel
      clear H1
      have hi0 : (0 : Int) ≤ (i : Int) := by omega
      have hi12 : (i : Int) ≤ 1000000000000 := by omega
      by_cases hil : i < l.length
      · have hlI : (i : Int) < (l.length : Int) := by omega
        have HON := Lib.hid (HX.out l[i] (List.getElem_mem hil) wr _ false ((l.drop (i + 1)).flatMap txtB ++ rest) (fun _ => by rw [drop_one l i hil, List.flatMap_cons, List.append_assoc]) HH.out.1)
        rw [Bool.false_or] at HON
        have HT := Lib.hid (show l.take (i + 1) = l.take i ++ [l[i]] from List.take_succ_eq_append_getElem hil)
        have HA := Lib.hid (show l.all (@yes Bytes) = true → (@yes Bytes) l[i] = true from fun h => List.all_eq_true.1 h _ (List.getElem_mem hil))
        obtain ⟨x, hx⟩ : ∃ x, l[i] = x := ⟨_, rfl⟩
        rw [hx] at HON HT HA
        obtain ⟨ft, hft⟩ : ∃ y, (@yes Bytes) x = y := ⟨_, rfl⟩
        rw [hft] at HON HA
        have HFT := Lib.hid hft
        clear hx hft
        go_wp2_with fail
        refine HON.out.mono ?_
        rintro e w3 ⟨v, rfl, ⟨s', rfl, hv1, hv2⟩, ⟨inp3, hS3, hin3⟩, hX3⟩
        clear HON
        have hX4 := HH.out.2.2.1.trans hX3
        cases ft with
        | false =>
          obtain rfl : B = false := by
            cases B with
            | false => rfl
            | true => have := HA.out HB.out; cases this
          have hS4 : RS w0 w3 inp3 deep true := hS3
          have k2 := hS4.c2
          have HR := Lib.hid (show RPost w0 W (!false) rest deep (fun v w => SlV W.heap.size (!false) (strsD l) v w) (.returned (.slice none 0 0)) w3 from ⟨_, rfl, slV_nil _ _ _, ⟨_, hS4, fun h => by cases h⟩, hX4⟩)
          clear hS4 hX4 hS3
          go_wp2_with fail
          go_ret
          exact HR.out
        | true =>
          obtain rfl := hin3 rfl
          have hbw : ∀ k, dv.ownBlock = some k → k < wr.heap.size := fun k hk => by
            obtain ⟨us', hr', _⟩ := HH.out.2.1
            exact (hr'.lt k hk).2
          have hszr := HH.out.2.2.1.1
          obtain rfl := hv2 rfl
          have HG := Lib.hid (show Reps w3 (fun k => W.heap.size ≤ k ∧ some k ≠ dv.ownBlock) [.string (bs s')] [strD s'] from Reps.cons (Rep.string _ _ _ (by rw [bs_size]; exact hv1)) (Reps.nil _ _))
          clear hbw hszr
          have hS4 : RS w0 w3 _ deep false := hS3
          have k2 := hS4.c2
          have hE4 : Ext w3 (w3.alloc (.cells #[.string (bs s')] 9)) := (Ext.refl w3).alloc _
          obtain ⟨us, hr, hu⟩ := (HH.out.2.1.exc hX3 hlt (fun _ h => by omega)).ext hE4
          have hS5 := hS3.step hE4
          have hX5 := hX4.ext hE4
          have hbl : ∀ k, dv.ownBlock = some k → W.heap.size ≤ k ∧ k < w3.heap.size := fun k hk => by
            obtain ⟨us', hr', _⟩ := HH.out.2.1.exc hX3 hlt (fun _ h => by omega)
            exact hr'.lt k hk
          have hn : Reps (w3.alloc (.cells #[.string (bs s')] 9)) (fun k => (W.heap.size ≤ k) ∧ some k ≠ dv.ownBlock ∧ k < (w3.alloc (.cells #[.string (bs s')] 9)).heap.size) [.string (bs s')] ((fun x => [strD x]) s') :=
            ((HG.out.ext hE4).lt).ok fun k hk => ⟨hk.1.1, hk.1.2, hk.2⟩
          have HO := Lib.hid (And.intro hr (And.intro hu (And.intro hn (And.intro hS5 (And.intro hX5 hbl)))))
          have hszW : W.heap.size ≤ w3.heap.size := hX4.1
          clear hr hu hn hS5 hX5 hbl hS4 hX4 hS3 hE4
          go_wp2_with (at_builtin; refine wpList_append_own_at _ rfl (.tmp 17) (.tmp 19) _ rfl W.heap.size 9 i0 (.string ⟨#[]⟩) 1 16 Tryd.underlying38 hi0' hz0 hz1 hz2 rfl (by decide) dv i us rfl HO.out.1 ⟨w3.heap.size, 0, none⟩ 1 1 [.string (bs s')] rfl rfl (by intro j u hj; match j, hj with | 0, hj => simp at hj; subst hj; simp [go_sem] | j + 1, hj => simp at hj) (by intro u hu; simp at hu; rcases hu with rfl; rfl) (by unfold maxLen; omega) (by omega) (by simp; omega) ?_; intro v2 w5 hown5 hgrow5 _ hat5)
          have HO5 := Lib.hid (And.intro hown5 (And.intro hgrow5 hat5))
          clear hown5 hgrow5 hat5
          go_roundw
          case rel =>
            obtain ⟨hr, hu, hn, hS5, hX5, hbl⟩ := HO.out
            obtain ⟨hown5, hgrow5, hat5⟩ := HO5.out
            refine ⟨i + 1, by go_num, v2, rfl, by omega, Lib.hid ⟨hS5.grown hgrow5 fun k hk => by have := (hbl k hk).1; omega, ?_, hX5.grown hgrow5 fun k hk => (hbl k hk).1, ?_⟩⟩
            · rw [HT.out, List.flatMap_append, show [s'].flatMap (fun x => [strD x]) = (fun x => [strD x]) s' by simp]
              exact Own.push hu hn hown5 hgrow5 hat5
            · rw [HT.out, List.all_append, HH.out.2.2.2, List.all_cons, HFT.out]; rfl
          case measure => simp only [downV]; omega
      · have hlI : ¬ (i : Int) < (l.length : Int) := by omega
        have hie : i = l.length := by omega
        have HR := Lib.hid (show RPost w0 W (!B) rest deep (fun v w => SlV W.heap.size (!B) (strsD l) v w) (.returned dv) wr from by
          obtain ⟨h1, h2, h3, h4⟩ := HH.out
          rw [hie, List.take_length] at h2 h4
          rw [hie, List.drop_length, List.flatMap_nil, List.nil_append] at h1
          obtain rfl : B = true := by rw [← HB.out, h4]
          obtain ⟨a, c, e, _, _⟩ := h2.form
          exact ⟨_, rfl, ⟨a, _, c, e, fun _ => h2.rep.ok fun k hk => by
            rcases hk with hk | hk <;> exact hk⟩, ⟨_, h1, fun _ => rfl⟩, h3⟩)
        clear HH
        go_wp2_with fail
        go_ret
        exact HR.out

end Go.Proofs.YtghhachbnhldoaaDoor
