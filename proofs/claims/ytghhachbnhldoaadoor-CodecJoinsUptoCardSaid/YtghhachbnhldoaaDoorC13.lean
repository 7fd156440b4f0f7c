/-
  The reader's lists of nodes. Helper lemmas; no statement of the seat is proved here.
-/
import Derived.Test.YtghhachbnhldoaaDoorC12
namespace Go.Proofs.YtghhachbnhldoaaDoor
open Go.RowKit
set_option maxRecDepth 100000
set_option linter.unusedVariables false
set_option linter.unusedSimpArgs false

/-- Cells of a block, one behind the other. -/
def putAll : World → Nat → Nat → List Value → World
  | W, _, _, [] => W
  | W, b, o, v :: r => putAll (W.setCell ⟨b, o, none⟩ v) b (o + 1) r
theorem RS.putAll {w0 : World} {inp : Bytes} {deep : Int} {bad : Bool} {b : Nat} (hb : b ≠ w0.heap.size) (hge : w0.heap.size ≤ b) : ∀ (vs : List Value) (o : Nat) (W : World), RS w0 W inp deep bad → RS w0 (putAll W b o vs) inp deep bad
  | [], _, _, h => h
  | v :: r, o, W, h => RS.putAll hb hge r (o + 1) _ (h.other (p := ⟨b, o, none⟩) hb hge v)
theorem Exc.putAll {g b : Nat} {a : World} (hb : a.heap.size ≤ b) : ∀ (vs : List Value) (o : Nat) (W : World), Exc g a W → Exc g a (putAll W b o vs)
  | [], _, _, h => h
  | v :: r, o, W, h => Exc.putAll hb r (o + 1) _ (h.new (p := ⟨b, o, none⟩) hb v)
theorem Rep.putAll {p : Nat → Prop} {u : Value} {d : DV} {b : Nat} (hq : ∀ k, p k → k ≠ b) : ∀ (vs : List Value) (o : Nat) (W : World), Rep W p u d → Rep (putAll W b o vs) p u d
  | [], _, _, h => h
  | v :: r, o, W, h => Rep.putAll hq r (o + 1) _ (h.set (q := ⟨b, o, none⟩) hq v)
theorem heap_putAll {b k : Nat} (hk : k ≠ b) : ∀ (vs : List Value) (o : Nat) (W : World), (putAll W b o vs).heap[k]? = W.heap[k]?
  | [], _, _ => rfl
  | v :: r, o, W => (heap_putAll hk r (o + 1) _).trans (Below.heap_setCell _ _ _ _ hk)
theorem blk_put {w : World} {b k : Nat} {xs : List Value} {e : TypeId} (h : w.heap[b]? = some (.cells xs.toArray e (0, 0))) (v : Value) : (w.setCell ⟨b, k, none⟩ v).heap[b]? = some (.cells (xs.set k v).toArray e (0, 0)) := by
  simp [World.setCell, Array.getElem?_modify, h]
theorem blk_putAll {b : Nat} {e : TypeId} : ∀ (vs : List Value) (o : Nat) (W : World) (xs : List Value), W.heap[b]? = some (.cells xs.toArray e (0, 0)) → ∃ ys : List Value, (putAll W b o vs).heap[b]? = some (.cells ys.toArray e (0, 0)) ∧ ys.length = xs.length ∧ (∀ k, k < o → ys[k]? = xs[k]?) ∧ ∀ k, k < vs.length → o + k < xs.length → ys[o + k]? = vs[k]?
  | [], o, W, xs, h => ⟨xs, h, rfl, fun _ _ => rfl, fun k hk => absurd hk (Nat.not_lt_zero _)⟩
  | v :: r, o, W, xs, h => by
    obtain ⟨ys, h1, h2, h3, h4⟩ := blk_putAll r (o + 1) _ _ (blk_put (k := o) h v)
    refine ⟨ys, h1, by rw [h2, List.length_set], fun k hk => ?_, fun k hk ho => ?_⟩
    · rw [h3 k (by omega), List.getElem?_set_ne (by omega)]
    · cases k with
      | zero => rw [Nat.add_zero, h3 o (by omega), List.getElem?_set_self (by omega)]; rfl
      | succ k =>
        have := h4 k (by simpa using hk) (by rw [List.length_set]; omega)
        rw [show o + (k + 1) = o + 1 + k by omega, this]; rfl
theorem blk_all {b : Nat} {e : TypeId} (vs : List Value) (W : World) (xs : List Value) (hl : xs.length = vs.length) (h : W.heap[b]? = some (.cells xs.toArray e (0, 0))) : (putAll W b 0 vs).heap[b]? = some (.cells vs.toArray e (0, 0)) := by
  obtain ⟨ys, h1, h2, _, h4⟩ := blk_putAll vs 0 W xs h
  rw [h1]
  congr 3
  apply List.ext_getElem?
  intro k
  by_cases hk : k < vs.length
  · have := h4 k hk (by omega)
    rwa [Nat.zero_add] at this
  · rw [List.getElem?_eq_none (by omega), List.getElem?_eq_none (by omega)]
theorem load_nodeL {W : World} {b : Nat} {v0 v1 v2 v3 v4 : Value} (h : W.heap[b]? = some (.cells [v0, v1, v2, v3, v4].toArray 52 (0, 0))) (h0 : ∃ k, v0 = .int .i64 k) (h1 : ∃ s, v1 = .string s) (h2 : ∃ s, v2 = .string s) (h3 : ∃ a n c, v3 = .slice a n c) (h4 : ∃ a n c, v4 = .slice a n c) :
    (loadVar 52 ⟨b, 0, none⟩).run Tryd.prog W = .ok (.agg #[v0, v1, v2, v3, v4]) W := by
  obtain ⟨_, rfl⟩ := h0
  obtain ⟨_, rfl⟩ := h1
  obtain ⟨_, rfl⟩ := h2
  obtain ⟨_, _, _, rfl⟩ := h3
  obtain ⟨_, _, _, rfl⟩ := h4
  have c0 := blk_cells h 0 rfl; have c1 := blk_cells h 1 rfl; have c2 := blk_cells h 2 rfl; have c3 := blk_cells h 3 rfl; have c4 := blk_cells h 4 rfl
  go_simp
/-- What was read as a node. -/
def NodeV (base : Nat) (b : Bool) (x : Node) (v : Value) (w : World) : Prop := ∃ (k : Int) (s t : Bytes) (a1 : Option Addr) (n1 c1 : Nat) (a2 : Option Addr) (n2 c2 : Nat), v = .agg #[.int .i64 k, .string (bs s), .string (bs t), .slice a1 n1 c1, .slice a2 n2 c2] ∧ s.length ≤ 9223372036854775807 ∧ t.length ≤ 9223372036854775807 ∧
  (b = false → k = x.kind ∧ s = x.name ∧ t = x.text ∧ Rep w (fun k => base ≤ k) (.slice a1 n1 c1) (attrsD x.attrs) ∧ Rep w (fun k => base ≤ k) (.slice a2 n2 c2) (nodesD x.kids))
theorem nodeV_zero (base : Nat) (x : Node) (w : World) : NodeV base true x (.agg #[.int .i64 0, .string ⟨#[]⟩, .string ⟨#[]⟩, .slice none 0 0, .slice none 0 0]) w := ⟨0, [], [], none, 0, 0, none, 0, 0, rfl, by decide, by decide, fun h => by cases h⟩
mutual
/-- Does a node, so deep within others, go into what can be read? -/
def fitN : Nat → Node → Bool
  | d, .mk k _ _ _ ks => decide (d + 1 ≤ 100) && (decide (k ≤ 4611686018427387904) && fitL (d + 1) ks)
def fitL : Nat → List Node → Bool
  | _, [] => true
  | d, n :: r => fitN d n && fitL d r
end
theorem fitL_eq (d : Nat) : ∀ l : List Node, fitL d l = l.all (fitN d)
  | [] => by rw [fitL]; rfl
  | n :: r => by rw [fitL, List.all_cons, fitL_eq d r]
theorem fitN_eq (d : Nat) (x : Node) : fitN d x = (decide (d + 1 ≤ 100) && (decide (x.kind ≤ 4611686018427387904) && x.kids.all (fitN (d + 1)))) := by
  cases x
  rw [fitN, fitL_eq]; rfl
mutual
/-- No number below 0 or too great for an int, nothing longer than a store may hold. -/
def okN : Node → Bool
  | .mk k n t la ks => decide (0 ≤ k ∧ k < 9223372036854775808 ∧ n.length ≤ 1000000000000 ∧ t.length ≤ 1000000000000 ∧ la.length ≤ 1000000000000 ∧ ks.length ≤ 1000000000000) && (la.all (fun s => decide (s.n.length ≤ 1000000000000 ∧ s.v.length ≤ 1000000000000)) && okL ks)
def okL : List Node → Bool
  | [] => true
  | n :: r => okN n && okL r
end
theorem okL_eq : ∀ l : List Node, okL l = l.all okN
  | [] => by rw [okL]; rfl
  | n :: r => by rw [okL, List.all_cons, okL_eq r]
theorem okN_own {x : Node} (h : okN x = true) : (0 ≤ x.kind ∧ x.kind < 9223372036854775808 ∧ x.name.length ≤ 1000000000000 ∧ x.text.length ≤ 1000000000000 ∧ x.attrs.length ≤ 1000000000000 ∧ x.kids.length ≤ 1000000000000) ∧ (∀ s ∈ x.attrs, s.n.length ≤ 1000000000000 ∧ s.v.length ≤ 1000000000000) ∧ ∀ y ∈ x.kids, okN y = true := by
  cases x
  rw [okN, Bool.and_eq_true, Bool.and_eq_true, okL_eq] at h
  exact ⟨of_decide_eq_true h.1, fun s hs => of_decide_eq_true (List.all_eq_true.1 h.2.1 s hs), fun y hy => List.all_eq_true.1 h.2.2 y hy⟩
def RNode (w0 : World) (d : Nat) (x : Node) : Prop := ∀ (W : World) (inp : Bytes) (b : Bool) (rest : Bytes), (b = false → inp = nodeB x ++ rest) → RS w0 W inp d b →
  Calls Tryd.prog 57 #[.pointer (some ⟨w0.heap.size, 0, none⟩)] W (RPost w0 W (b || !fitN d x) rest d fun v w => NodeV W.heap.size (b || !fitN d x) x v w)
set_option maxHeartbeats 16000000 in
theorem rnodes_some (w0 W : World) (inp : Bytes) (d : Nat) (deep : Int) (b : Bool) (l : List Node) (rest : Bytes) (hl : l.length ≤ 1000000000000) (hi : b = false → inp = nodesB l ++ rest) (h : RS w0 W inp deep b)
    (HX0 : ∀ x ∈ l, ∀ (W : World) (inp : Bytes) (b : Bool) (rest : Bytes), (b = false → inp = nodeB x ++ rest) → RS w0 W inp deep b → Calls Tryd.prog 57 #[.pointer (some ⟨w0.heap.size, 0, none⟩)] W (RPost w0 W (b || !(fitN d) x) rest deep fun v w => NodeV W.heap.size (b || !(fitN d) x) x v w)) :
    Calls Tryd.prog 56 #[.pointer (some ⟨w0.heap.size, 0, none⟩), .func (.func 57) #[.pointer (some ⟨w0.heap.size, 0, none⟩)] #[]] W (RPost w0 W (b || !l.all (fitN d)) rest deep fun v w => SlV W.heap.size (b || !l.all (fitN d)) (nodesD l) v w) := by
  have HC := Lib.hid (rcount_any w0 W inp deep b l.length (l.flatMap nodeB ++ rest) hl (by rw [List.length_append]; have := flat_le nodeB nodeB_pos l; omega) (fun hb => by rw [hi hb]; show (numB l.length ++ l.flatMap nodeB) ++ rest = _; rw [List.append_assoc]) h)
  have hlt := h.lt
  have HX := Lib.hid HX0
  obtain ⟨B, hB⟩ : ∃ B, l.all (fitN d) = B := ⟨_, rfl⟩
  rw [hB]
  have HB := Lib.hid hB
  obtain ⟨i0, hi0', hz0, hz1, hz2⟩ := info_parts infoNode
  clear h hi hB HX0
  go_enter Tryd.func56, Tryd.ntmps56
  go_wp2_with fail
  refine HC.out.mono ?_
  rintro e w1 ⟨v, rfl, rfl, ⟨inp1, hS, hin⟩, hXc⟩
  clear HC
  cases b with
  | true =>
    have HR := Lib.hid (show RPost w0 W (true || !B) rest deep (fun v w => SlV W.heap.size (true || !B) (nodesD l) v w) (.returned (.slice none 0 0)) w1 from ⟨_, rfl, slV_nil _ _ _, ⟨_, hS, fun h => by cases h⟩, hXc⟩)
    clear hS hin hXc
    go_wp2_with fail
    go_loopw [5, 6, 9] (fun nv _ t wr => t = .int .i64 0 ∧ nv = .slice none 0 0 ∧ wr = w1) (fun _ _ t _ => downV 1 t)
    case atStart => exact ⟨rfl, rfl, rfl⟩
    case round =>
      obtain ⟨rfl, rfl, rfl⟩ := hrel
      go_wp2_with fail
      go_ret
      exact HR.out
  | false =>
    obtain rfl := hin rfl
    have H1 := Lib.hid (And.intro hS hXc)
    clear hS hin hXc
    go_wp2_with fail
    go_loopw [5, 6, 9] (fun nv _ t wr => ∃ i : Nat, t = .int .i64 i ∧ ∃ dv : Value, dv = nv ∧ i ≤ l.length ∧ Hid (RS w0 wr ((l.drop i).flatMap nodeB ++ rest) deep false ∧ Own wr (fun k => W.heap.size ≤ k) W.heap.size 52 5 dv i ((l.take i).flatMap nodeC) ∧ Exc w0.heap.size W wr ∧ (l.take i).all (fitN d) = true)) (fun _ _ t _ => downV l.length t)
    case atStart => exact ⟨0, rfl, _, rfl, Nat.zero_le _, Lib.hid ⟨H1.out.1, Own.nil _ _ _ _ _, H1.out.2, rfl⟩⟩
    case round =>
      obtain ⟨i, rfl, dv, rfl, hi, HH⟩ := hrel
      clear H1
      have hi0 : (0 : Int) ≤ (i : Int) := by omega
      have hi12 : (i : Int) ≤ 1000000000000 := by omega
      by_cases hil : i < l.length
      · have hlI : (i : Int) < (l.length : Int) := by omega
        have HON := Lib.hid (HX.out l[i] (List.getElem_mem hil) wr _ false ((l.drop (i + 1)).flatMap nodeB ++ rest) (fun _ => by rw [drop_one l i hil, List.flatMap_cons, List.append_assoc]) HH.out.1)
        rw [Bool.false_or] at HON
        have HT := Lib.hid (show l.take (i + 1) = l.take i ++ [l[i]] from List.take_succ_eq_append_getElem hil)
        have HA := Lib.hid (show l.all (fitN d) = true → (fitN d) l[i] = true from fun h => List.all_eq_true.1 h _ (List.getElem_mem hil))
        obtain ⟨x, hx⟩ : ∃ x, l[i] = x := ⟨_, rfl⟩
        rw [hx] at HON HT HA
        obtain ⟨ft, hft⟩ : ∃ y, (fitN d) x = y := ⟨_, rfl⟩
        rw [hft] at HON HA
        have HFT := Lib.hid hft
        clear hx hft
        go_wp2_with fail
        refine HON.out.mono ?_
        rintro e w3 ⟨v, rfl, ⟨k, s1, s2, a1, n1, c1, a2, n2, c2, rfl, l1, l2, e1⟩, ⟨inp3, hS3, hin3⟩, hX3⟩
        clear HON
        have hX4 := HH.out.2.2.1.trans hX3
        cases ft with
        | false =>
          obtain rfl : B = false := by
            cases B with
            | false => rfl
            | true => have := HA.out HB.out; cases this
          have hS4 : RS w0 (w3.alloc (.cells #[.int .i64 k, .string (bs s1), .string (bs s2), .slice a1 n1 c1, .slice a2 n2 c2] 52)) inp3 deep true := hS3.step ((Ext.refl w3).alloc _)
          have k2 := hS4.c2
          have HR := Lib.hid (show RPost w0 W (!false) rest deep (fun v w => SlV W.heap.size (!false) (nodesD l) v w) (.returned (.slice none 0 0)) (w3.alloc (.cells #[.int .i64 k, .string (bs s1), .string (bs s2), .slice a1 n1 c1, .slice a2 n2 c2] 52)) from ⟨_, rfl, slV_nil _ _ _, ⟨_, hS4, fun h => by cases h⟩, hX4.ext ((Ext.refl w3).alloc _)⟩)
          clear hS4 hX4 hS3
          go_wp2_with fail
          go_ret
          exact HR.out
        | true =>
          obtain rfl := hin3 rfl
          have hbw : ∀ k, dv.ownBlock = some k → k < wr.heap.size := fun k hk => by
            obtain ⟨us', hr', _⟩ := HH.out.2.1
            exact (hr'.lt k hk).2
          have hszr := HH.out.2.2.1.1
          obtain ⟨rfl, rfl, rfl, hk1, hk2⟩ := e1 rfl
          have HG := Lib.hid (show Reps w3 (fun k => W.heap.size ≤ k ∧ some k ≠ dv.ownBlock) [.int .i64 x.kind, .string (bs x.name), .string (bs x.text), .slice a1 n1 c1, .slice a2 n2 c2] (nodeC x) by
            rw [nodeC_eq]
            exact Reps.cons (Rep.int _ _ _ _) (Reps.cons (Rep.string _ _ _ (by rw [bs_size]; exact l1)) (Reps.cons (Rep.string _ _ _ (by rw [bs_size]; exact l2)) (Reps.cons (hk1.ok fun k hk => ⟨by omega, fun e => by have := hbw k e.symm; omega⟩) (Reps.cons (hk2.ok fun k hk => ⟨by omega, fun e => by have := hbw k e.symm; omega⟩) (Reps.nil _ _))))))
          clear hk1 hk2
          clear hbw hszr
          have hS4 : RS w0 (w3.alloc (.cells #[.int .i64 x.kind, .string (bs x.name), .string (bs x.text), .slice a1 n1 c1, .slice a2 n2 c2] 52)) _ deep false := hS3.step ((Ext.refl w3).alloc _)
          have k2 := hS4.c2
          have hE4 : Ext w3 ((w3.alloc (.cells #[.int .i64 x.kind, .string (bs x.name), .string (bs x.text), .slice a1 n1 c1, .slice a2 n2 c2] 52)).alloc (.cells #[.int .i64 x.kind, .string (bs x.name), .string (bs x.text), .slice a1 n1 c1, .slice a2 n2 c2] 52)) := ((Ext.refl w3).alloc _).alloc _
          obtain ⟨us, hr, hu⟩ := (HH.out.2.1.exc hX3 hlt (fun _ h => by omega)).ext hE4
          have hS5 := hS3.step hE4
          have hX5 := hX4.ext hE4
          have hbl : ∀ k, dv.ownBlock = some k → W.heap.size ≤ k ∧ k < w3.heap.size := fun k hk => by
            obtain ⟨us', hr', _⟩ := HH.out.2.1.exc hX3 hlt (fun _ h => by omega)
            exact hr'.lt k hk
          have hn : Reps ((w3.alloc (.cells #[.int .i64 x.kind, .string (bs x.name), .string (bs x.text), .slice a1 n1 c1, .slice a2 n2 c2] 52)).alloc (.cells #[.int .i64 x.kind, .string (bs x.name), .string (bs x.text), .slice a1 n1 c1, .slice a2 n2 c2] 52)) (fun k => (W.heap.size ≤ k) ∧ some k ≠ dv.ownBlock ∧ k < ((w3.alloc (.cells #[.int .i64 x.kind, .string (bs x.name), .string (bs x.text), .slice a1 n1 c1, .slice a2 n2 c2] 52)).alloc (.cells #[.int .i64 x.kind, .string (bs x.name), .string (bs x.text), .slice a1 n1 c1, .slice a2 n2 c2] 52)).heap.size) [.int .i64 x.kind, .string (bs x.name), .string (bs x.text), .slice a1 n1 c1, .slice a2 n2 c2] (nodeC x) :=
            ((HG.out.ext hE4).lt).ok fun k hk => ⟨hk.1.1, hk.1.2, hk.2⟩
          have HO := Lib.hid (And.intro hr (And.intro hu (And.intro hn (And.intro hS5 (And.intro hX5 hbl)))))
          have hszW : W.heap.size ≤ w3.heap.size := hX4.1
          clear hr hu hn hS5 hX5 hbl hS4 hX4 hS3 hE4
          go_wp2_with (at_builtin; refine wpList_append_own_at _ rfl (.tmp 17) (.tmp 19) _ rfl W.heap.size 52 i0 (.agg #[.int .i64 0, .string ⟨#[]⟩, .string ⟨#[]⟩, .slice none 0 0, .slice none 0 0]) 5 88 Tryd.underlying50 hi0' hz0 hz1 hz2 rfl (by decide) dv i us rfl HO.out.1 ⟨w3.heap.size + 1, 0, none⟩ 1 1 [.int .i64 x.kind, .string (bs x.name), .string (bs x.text), .slice a1 n1 c1, .slice a2 n2 c2] rfl rfl (by intro j u hj; match j, hj with | 0, hj => simp at hj; subst hj; simp [go_sem] | 1, hj => simp at hj; subst hj; simp [go_sem] | 2, hj => simp at hj; subst hj; simp [go_sem] | 3, hj => simp at hj; subst hj; simp [go_sem] | 4, hj => simp at hj; subst hj; simp [go_sem] | j + 5, hj => simp at hj) (by intro u hu; simp at hu; rcases hu with rfl | rfl | rfl | rfl | rfl <;> rfl) (by unfold maxLen; omega) (by omega) (by simp; omega) ?_; intro v2 w5 hown5 hgrow5 _ hat5)
          have HO5 := Lib.hid (And.intro hown5 (And.intro hgrow5 hat5))
          clear hown5 hgrow5 hat5
          go_roundw
          case rel =>
            obtain ⟨hr, hu, hn, hS5, hX5, hbl⟩ := HO.out
            obtain ⟨hown5, hgrow5, hat5⟩ := HO5.out
            refine ⟨i + 1, by go_num, v2, rfl, by omega, Lib.hid ⟨hS5.grown hgrow5 fun k hk => by have := (hbl k hk).1; omega, ?_, hX5.grown hgrow5 fun k hk => (hbl k hk).1, ?_⟩⟩
            · rw [HT.out, List.flatMap_append, show [x].flatMap nodeC = nodeC x by simp]
              exact Own.push hu hn hown5 hgrow5 hat5
            · rw [HT.out, List.all_append, HH.out.2.2.2, List.all_cons, HFT.out]; rfl
          case measure => simp only [downV]; omega
      · have hlI : ¬ (i : Int) < (l.length : Int) := by omega
        have hie : i = l.length := by omega
        have HR := Lib.hid (show RPost w0 W (!B) rest deep (fun v w => SlV W.heap.size (!B) (nodesD l) v w) (.returned dv) wr from by
          obtain ⟨h1, h2, h3, h4⟩ := HH.out
          rw [hie, List.take_length] at h2 h4
          rw [hie, List.drop_length, List.flatMap_nil, List.nil_append] at h1
          obtain rfl : B = true := by rw [← HB.out, h4]
          obtain ⟨a, c, e, _, _⟩ := h2.form
          exact ⟨_, rfl, ⟨a, _, c, e, fun _ => h2.rep.ok fun k hk => by
            rcases hk with hk | hk <;> exact hk⟩, ⟨_, h1, fun _ => rfl⟩, h3⟩)
        clear HH
        go_wp2_with fail
        go_ret
        exact HR.out

end Go.Proofs.YtghhachbnhldoaaDoor
