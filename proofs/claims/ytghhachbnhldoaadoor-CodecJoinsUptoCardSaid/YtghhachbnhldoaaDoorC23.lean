/-
  The reference's reader: nodes. Helper lemmas; no statement of the seat is proved here.
-/
import Derived.Test.YtghhachbnhldoaaDoorC22
namespace Go.Proofs.YtghhachbnhldoaaDoor
open Go.RowKit
set_option maxRecDepth 100000
set_option linter.unusedVariables false
set_option linter.unusedSimpArgs false

/-- A record that is being read: its block is the first behind wa's. -/
structure NQ (w0 wa : World) (T : TypeId) (cur : World) (inp : Bytes) (f : Bool) (vals : List Value) : Prop where
  S : QS w0 cur inp f
  X : Exc w0.heap.size wa cur
  N : cur.heap[wa.heap.size]? = some (.cells vals.toArray T (0, 0))
  ne : w0.heap.size < wa.heap.size
section
variable {w0 wa cur u : World} {T : TypeId} {inp inp' : Bytes} {f f' : Bool} {vals : List Value}
theorem NQ.cell (h : NQ w0 wa T cur inp f vals) (hX : Exc w0.heap.size cur u) : u.heap[wa.heap.size]? = some (.cells vals.toArray T (0, 0)) :=
  (hX.2 _ (by have := h.ne; omega) (blk_lt h.N)).trans h.N
theorem NQ.call (h : NQ w0 wa T cur inp f vals) (hS : QS w0 u inp' f') (hX : Exc w0.heap.size cur u) : NQ w0 wa T u inp' f' vals := ⟨hS, h.X.trans hX, h.cell hX, h.ne⟩
theorem NQ.put (h : NQ w0 wa T u inp f vals) (k : Nat) (v : Value) : NQ w0 wa T (u.setCell ⟨wa.heap.size, k, none⟩ v) inp f (vals.set k v) :=
  ⟨h.S.other (p := ⟨wa.heap.size, k, none⟩) (by have := h.ne; simp only; omega) (by have := h.ne; simp only; omega) v, h.X.new (p := ⟨wa.heap.size, k, none⟩) (Nat.le_refl _) v, blk_put h.N v, h.ne⟩
theorem NQ.low (h : NQ w0 wa T cur inp f vals) : wa.heap.size < cur.heap.size := blk_lt h.N
theorem NQ.rep (h : NQ w0 wa T cur inp f vals) {v : Value} {d : DV} (hR : Rep cur (fun k => wa.heap.size < k) v d) (hX : Exc w0.heap.size cur u) : Rep u (fun k => wa.heap.size < k) v d := hR.exc (fun k hk => by have := h.ne; omega) hX
end
theorem QS.putAll {w0 : World} {inp : Bytes} {bad : Bool} {b : Nat} (hb : b ≠ w0.heap.size) (hge : w0.heap.size ≤ b) : ∀ (vs : List Value) (o : Nat) (W : World), QS w0 W inp bad → QS w0 (putAll W b o vs) inp bad
  | [], _, _, h => h
  | v :: r, o, W, h => QS.putAll hb hge r (o + 1) _ (h.other (p := ⟨b, o, none⟩) hb hge v)
theorem qedit_end {w0 W wl : World} {inp' : Bytes} {f : Bool} {zs : List Value} {T : TypeId} (hlw : w0.heap.size < W.heap.size) (hS : QS w0 wl inp' f) (hX : Exc w0.heap.size W wl) (hba : wl.heap[W.heap.size]? = some (.cells zs.toArray T (0, 0))) (vs : List Value) (hl : zs.length = vs.length) :
    QS w0 (putAll wl W.heap.size 0 vs) inp' f ∧ Exc w0.heap.size W (putAll wl W.heap.size 0 vs) ∧ (putAll wl W.heap.size 0 vs).heap[W.heap.size]? = some (.cells vs.toArray T (0, 0)) :=
  ⟨QS.putAll (by omega) (Nat.le_of_lt hlw) _ _ _ hS, Exc.putAll (Nat.le_refl _) _ _ _ hX, blk_all _ _ zs hl hba⟩
set_option maxHeartbeats 16000000 in
theorem qnodes_any (w0 W : World) (inp : Bytes) (b : Bool) (l : List Node) (rest : Bytes) (d : Nat) (deep : Int) (hl : l.length ≤ 1000000000000) (hi : b = false → inp = nodesB l ++ rest) (h : QS w0 W inp b)
    (hx0 : ∀ x ∈ l, ∀ (W : World) (inp : Bytes) (b : Bool) (rest : Bytes), (b = false → inp = nodeB x ++ rest) → QS w0 W inp b → Calls Tryd.prog 35 #[.pointer (some ⟨w0.heap.size, 0, none⟩), .int .i64 deep] W (QPost w0 W (b || !fitN d x) rest fun v w => NodeV W.heap.size (b || !fitN d x) x v w)) :
    Calls Tryd.prog 34 #[.pointer (some ⟨w0.heap.size, 0, none⟩), .int .i64 deep] W (QPost w0 W (b || !l.all (fitN d)) rest fun v w => SlV W.heap.size (b || !l.all (fitN d)) (nodesD l) v w) := by
  have HC := Lib.hid (qmany_any w0 W inp b l.length (l.flatMap nodeB ++ rest) (by omega) (by rw [List.length_append]; have := flat_le nodeB nodeB_pos l; omega) (fun hb => by rw [hi hb]; show (numB l.length ++ l.flatMap nodeB) ++ rest = _; rw [List.append_assoc]) h)
  have hlt := h.lt
  have HX := Lib.hid hx0
  obtain ⟨B, hB⟩ : ∃ B, l.all (fitN d) = B := ⟨_, rfl⟩
  rw [hB]
  have HB := Lib.hid hB
  obtain ⟨i0, hi0', hz0, hz1, hz2⟩ := info_parts infoNode
  clear h hi hB hx0
  go_enter Tryd.func34, Tryd.ntmps34
  go_wp2_with fail
  refine HC.out.mono ?_
  rintro e w1 ⟨v, rfl, rfl, ⟨inp1, hS, hin⟩, hXc⟩
  clear HC
  cases b with
  | true =>
    have HR := Lib.hid (show QPost w0 W (true || !B) rest (fun v w => SlV W.heap.size (true || !B) (nodesD l) v w) (.returned (.slice none 0 0)) w1 from ⟨_, rfl, slV_nil _ _ _, ⟨_, hS, fun h => by cases h⟩, hXc⟩)
    clear hS hin hXc
    go_wp2_with fail
    go_loopw [5, 7] (fun nv t wr => t = .int .i64 0 ∧ nv = .slice none 0 0 ∧ wr = w1) (fun _ t _ => downV 1 t)
    case atStart => exact ⟨rfl, rfl, rfl⟩
    case round =>
      obtain ⟨rfl, rfl, rfl⟩ := hrel
      go_wp2_with fail
      go_ret
      exact HR.out
  | false =>
    obtain rfl := hin rfl
    have H1 := Lib.hid (And.intro hS hXc)
    clear hS hin hXc
    go_wp2_with fail
    go_loopw [5, 7] (fun nv t wr => ∃ (i : Nat) (f : Bool), t = .int .i64 i ∧ ∃ dv : Value, dv = nv ∧ i ≤ l.length ∧ Hid ((∃ inp', QS w0 wr inp' f ∧ (f = false → inp' = (l.drop i).flatMap nodeB ++ rest)) ∧ (f = false → Own wr (fun k => W.heap.size ≤ k) W.heap.size 52 5 dv i ((l.take i).flatMap nodeC)) ∧ Exc w0.heap.size W wr ∧ (f = false → (l.take i).all (fitN d) = true) ∧ (f = true → B = false) ∧ ∃ a n c, dv = .slice a n c)) (fun _ t _ => downV l.length t)
    case atStart => exact ⟨0, false, rfl, _, rfl, Nat.zero_le _, Lib.hid ⟨⟨_, H1.out.1, fun _ => rfl⟩, fun _ => Own.nil _ _ _ _ _, H1.out.2, fun _ => rfl, fun h => (by cases h), _, _, _, rfl⟩⟩
    case round =>
      obtain ⟨i, f, rfl, dv, rfl, hi, HH⟩ := hrel
      clear H1
      have hi0 : (0 : Int) ≤ (i : Int) := by omega
      have hi12 : (i : Int) ≤ 1000000000000 := by omega
      obtain ⟨inp', hS', hin'⟩ := HH.out.1
      have c2 := hS'.c2
      cases f with
      | true =>
        obtain ⟨a, n', c, hdv⟩ := HH.out.2.2.2.2.2
        obtain rfl := HH.out.2.2.2.2.1 (by trivial)
        have HR := Lib.hid (show QPost w0 W (false || !false) rest (fun v w => SlV W.heap.size (false || !false) (nodesD l) v w) (.returned dv) wr from ⟨_, rfl, ⟨a, n', c, hdv, fun h => by cases h⟩, ⟨_, hS', fun h => by cases h⟩, HH.out.2.2.1⟩)
        clear HH hS' hin' hdv
        by_cases hil : i < l.length
        · have hlI : (i : Int) < (l.length : Int) := by omega
          go_wp2_with fail
          go_ret
          exact HR.out
        · have hlI : ¬ (i : Int) < (l.length : Int) := by omega
          go_wp2_with fail
          go_ret
          exact HR.out
      | false =>
        obtain rfl := hin' rfl
        clear hin'
        by_cases hil : i < l.length
        · have hlI : (i : Int) < (l.length : Int) := by omega
          have HT := Lib.hid (show l.take (i + 1) = l.take i ++ [l[i]] from List.take_succ_eq_append_getElem hil)
          have HA := Lib.hid (show l.all (fitN d) = true → (fitN d) l[i] = true from fun h => List.all_eq_true.1 h _ (List.getElem_mem hil))
          have hdr : (l.drop i).flatMap nodeB ++ rest = nodeB l[i] ++ ((l.drop (i + 1)).flatMap nodeB ++ rest) := by rw [drop_one l i hil, List.flatMap_cons, List.append_assoc]
          have HXi := Lib.hid (HX.out l[i] (List.getElem_mem hil))
          obtain ⟨REST, hRE⟩ : ∃ x, (l.drop (i + 1)).flatMap nodeB ++ rest = x := ⟨_, rfl⟩
          rw [hRE] at hdr
          obtain ⟨x, hx⟩ : ∃ x, l[i] = x := ⟨_, rfl⟩
          rw [hx] at HT HA HXi hdr
          obtain ⟨ft, hft⟩ : ∃ y, (fitN d) x = y := ⟨_, rfl⟩
          have HFT := Lib.hid hft
          have HRE := Lib.hid hRE
          have HQ := Lib.hid (And.intro hS' (And.intro (fun _ : false = false => hdr) (Exc.refl w0.heap.size wr)))
          clear hx hft hdr hRE hS'
          have HON := Lib.hid ((by have h := HXi.out wr _ false REST HQ.out.2.1 HQ.out.1; rw [HFT.out, Bool.false_or] at h; exact h))
          go_wp2_with fail
          refine HON.out.mono ?_
          rintro e v0 ⟨v, rfl, ⟨kk, s1, s2, a1, n1, c1, a2, n2, c2, rfl, l1, l2, e1⟩, ⟨inp0, hS0, hin0⟩, hX0⟩
          have hXX0 := HQ.out.2.2.trans hX0
          clear HON HQ
          have HQ := Lib.hid (And.intro hS0 (And.intro hin0 hXX0))
          clear hS0 hin0 hXX0 hX0
          have hX3 := HQ.out.2.2
          have hX4 := HH.out.2.2.1.trans hX3
          have hE4 : Ext v0 (v0.alloc (.cells #[.int .i64 kk, .string (bs s1), .string (bs s2), .slice a1 n1 c1, .slice a2 n2 c2] 52)) := (Ext.refl v0).alloc _
          have how := HH.out.2.1 (by trivial)
          obtain ⟨us, hr, hu⟩ := (how.exc hX3 hlt (fun _ h => by omega)).ext hE4
          have hbl : ∀ k, dv.ownBlock = some k → W.heap.size ≤ k ∧ k < v0.heap.size := fun k hk => by
            obtain ⟨us', hr', _⟩ := how.exc hX3 hlt (fun _ h => by omega)
            exact hr'.lt k hk
          have hbw : ∀ k, dv.ownBlock = some k → k < wr.heap.size := fun k hk => by
            obtain ⟨us', hr', _⟩ := how
            exact (hr'.lt k hk).2
          have hszr := HH.out.2.2.1.1
          have hG : ft = true → Reps v0 (fun k => W.heap.size ≤ k ∧ some k ≠ dv.ownBlock) [.int .i64 kk, .string (bs s1), .string (bs s2), .slice a1 n1 c1, .slice a2 n2 c2] (nodeC x) := fun hf => by
            obtain ⟨rfl, rfl, rfl, h4, h5⟩ := e1 (by rw [hf]; rfl)
            rw [nodeC_eq]
            exact Reps.cons (Rep.int _ _ _ _) (Reps.cons (Rep.string _ _ _ (by rw [bs_size]; exact l1)) (Reps.cons (Rep.string _ _ _ (by rw [bs_size]; exact l2)) (Reps.cons (h4.ok fun k hk => ⟨by omega, fun e => by have := hbw k e.symm; omega⟩) (Reps.cons (h5.ok fun k hk => ⟨by omega, fun e => by have := hbw k e.symm; omega⟩) (Reps.nil _ _)))))
          have HO := Lib.hid (And.intro hr (And.intro hu (And.intro (HQ.out.1.step hE4) (And.intro (hX4.ext hE4) (And.intro hbl (And.intro hE4 hG))))))
          have hszW : W.heap.size ≤ v0.heap.size := hX4.1
          clear hr hu hbl hX4 hX3 hE4 how hbw hszr hG
          go_wp2_with (at_builtin; refine wpList_append_own_at _ rfl (.tmp 22) (.tmp 26) _ rfl W.heap.size 52 i0 (.agg #[.int .i64 0, .string ⟨#[]⟩, .string ⟨#[]⟩, .slice none 0 0, .slice none 0 0]) 5 88 Tryd.underlying50 hi0' hz0 hz1 hz2 rfl (by decide) dv i us rfl HO.out.1 ⟨v0.heap.size, 0, none⟩ 1 1 [.int .i64 kk, .string (bs s1), .string (bs s2), .slice a1 n1 c1, .slice a2 n2 c2] rfl rfl (by intro j u hj; match j, hj with | 0, hj => simp at hj; subst hj; simp [go_sem] | 1, hj => simp at hj; subst hj; simp [go_sem] | 2, hj => simp at hj; subst hj; simp [go_sem] | 3, hj => simp at hj; subst hj; simp [go_sem] | 4, hj => simp at hj; subst hj; simp [go_sem] | j + 5, hj => simp at hj) (by intro u hu; simp at hu; rcases hu with rfl | rfl | rfl | rfl | rfl <;> rfl) (by unfold maxLen; omega) (by omega) (by simp; omega) ?_; intro x2 w5 hown5 hgrow5 _ hat5)
          have HO5 := Lib.hid (And.intro hown5 (And.intro hgrow5 hat5))
          clear hown5 hgrow5 hat5
          go_roundw
          case rel =>
            obtain ⟨hr, hu, hS5, hX5, hbl, hE4, hG⟩ := HO.out
            obtain ⟨hown5, hgrow5, hat5⟩ := HO5.out
            refine ⟨i + 1, !ft, by go_num, x2, rfl, by omega, Lib.hid ⟨⟨_, (show QS w0 w5 _ (!ft) from by have h := hS5.grown hgrow5 fun k hk => (by have := (hbl k hk).1; omega); exact h), fun hf => by rw [HRE.out]; exact HQ.out.2.1 hf⟩, fun hf => ?_, hX5.grown hgrow5 fun k hk => (hbl k hk).1, fun hf => ?_, fun hf => ?_, ?_⟩⟩
            · have hft : ft = true := by simpa using hf
              have hn : Reps (v0.alloc (.cells #[.int .i64 kk, .string (bs s1), .string (bs s2), .slice a1 n1 c1, .slice a2 n2 c2] 52)) (fun k => (W.heap.size ≤ k) ∧ some k ≠ dv.ownBlock ∧ k < (v0.alloc (.cells #[.int .i64 kk, .string (bs s1), .string (bs s2), .slice a1 n1 c1, .slice a2 n2 c2] 52)).heap.size) [.int .i64 kk, .string (bs s1), .string (bs s2), .slice a1 n1 c1, .slice a2 n2 c2] (nodeC x) := (((hG hft).ext hE4).lt).ok fun k hk => ⟨hk.1.1, hk.1.2, hk.2⟩
              rw [HT.out, List.flatMap_append, show [x].flatMap nodeC = nodeC x by simp]
              exact Own.push hu hn hown5 hgrow5 hat5
            · have hft : ft = true := by simpa using hf
              rw [HT.out, List.all_append, HH.out.2.2.2.1 (by trivial), List.all_cons, HFT.out, hft]; rfl
            · cases hB : B with
              | false => rfl
              | true => have := HA.out (HB.out.trans hB); rw [HFT.out] at this; rw [this] at hf; cases hf
            · obtain ⟨a, c, e⟩ := own_slice hown5
              exact ⟨a, _, c, e⟩
          case measure => simp only [downV]; omega
        · have hlI : ¬ (i : Int) < (l.length : Int) := by omega
          have hie : i = l.length := by omega
          have HR := Lib.hid (show QPost w0 W (false || !B) rest (fun v w => SlV W.heap.size (false || !B) (nodesD l) v w) (.returned dv) wr from by
            obtain ⟨_, h2, h3, h4, _⟩ := HH.out
            have h2 := h2 rfl
            have h4 := h4 rfl
            rw [hie, List.take_length] at h2 h4
            rw [hie, List.drop_length, List.flatMap_nil, List.nil_append] at hS'
            obtain rfl : B = true := by rw [← HB.out, h4]
            obtain ⟨a, c, e, _, _⟩ := h2.form
            exact ⟨_, rfl, ⟨a, _, c, e, fun _ => h2.rep.ok fun k hk => by rcases hk with hk | hk <;> exact hk⟩, ⟨_, hS', fun _ => rfl⟩, h3⟩)
          clear HH hS'
          go_wp2_with fail
          go_ret
          exact HR.out
def QNode (w0 : World) (d : Nat) (x : Node) : Prop := ∀ (W : World) (inp : Bytes) (b : Bool) (rest : Bytes), (b = false → inp = nodeB x ++ rest) → QS w0 W inp b → Calls Tryd.prog 35 #[.pointer (some ⟨w0.heap.size, 0, none⟩), .int .i64 d] W (QPost w0 W (b || !fitN d x) rest fun v w => NodeV W.heap.size (b || !fitN d x) x v w)
set_option maxHeartbeats 32000000 in
theorem qnode_step (w0 W : World) (inp : Bytes) (d : Nat) (b : Bool) (x : Node) (rest : Bytes) (hd : d ≤ 10000000) (hok : okN x = true) (hi : b = false → inp = nodeB x ++ rest) (h : QS w0 W inp b) (HX0 : ∀ y ∈ x.kids, QNode w0 (d + 1) y) :
    Calls Tryd.prog 35 #[.pointer (some ⟨w0.heap.size, 0, none⟩), .int .i64 d] W (QPost w0 W (b || !fitN d x) rest fun v w => NodeV W.heap.size (b || !fitN d x) x v w) := by
  obtain ⟨wa, hwa⟩ : ∃ W', W.alloc (.cells #[.int .i64 0, .string ⟨#[]⟩, .string ⟨#[]⟩, .slice none 0 0, .slice none 0 0] 52) = W' := ⟨_, rfl⟩
  obtain ⟨wb, hwb⟩ : ∃ W', wa.alloc (.cells #[.int .i64 0, .string ⟨#[]⟩, .string ⟨#[]⟩, .slice none 0 0, .slice none 0 0] 52) = W' := ⟨_, rfl⟩
  have hEa : Ext W wa := by rw [← hwa]; exact (Ext.refl W).alloc _
  have hEb : Ext wa wb := by rw [← hwb]; exact (Ext.refl wa).alloc _
  have hba0 : wa.heap[W.heap.size]? = some (.cells [.int .i64 0, .string ⟨#[]⟩, .string ⟨#[]⟩, .slice none 0 0, .slice none 0 0].toArray 52 (0, 0)) := by rw [← hwa]; exact Array.getElem?_push_size
  have hbn0 : wb.heap[wa.heap.size]? = some (.cells [.int .i64 0, .string ⟨#[]⟩, .string ⟨#[]⟩, .slice none 0 0, .slice none 0 0].toArray 52 (0, 0)) := by rw [← hwb]; exact Array.getElem?_push_size
  have hlw := h.lt
  have hlab := blk_lt hba0
  have hS0 := h.step (hEa.trans hEb)
  have hd0 : (0 : Int) ≤ (d : Int) := by omega
  have hd1 : (d : Int) ≤ 10000000 := by omega
  by_cases hdp : 100 ≤ d
  · have hI : (100 : Int) ≤ (d : Int) := by omega
    obtain rfl2 : (b || !fitN d x) = true := by rw [fitN_eq, decide_eq_false (by omega)]; simp
    rw [rfl2]
    clear rfl2
    have hbn := hbn0
    have hba := (hEb.block _ hlab).trans hba0
    have c2 := hS0.c2
    have f2 := hS0.f2
    have m0 := blk_cells hbn 0 rfl; have m1 := blk_cells hbn 1 rfl; have m2 := blk_cells hbn 2 rfl; have m3 := blk_cells hbn 3 rfl; have m4 := blk_cells hbn 4 rfl
    have r0 := blk_cells hba 0 rfl; have r1 := blk_cells hba 1 rfl; have r2 := blk_cells hba 2 rfl; have r3 := blk_cells hba 3 rfl; have r4 := blk_cells hba 4 rfl
    have z0 := blk_free hba (k := 0); have z1 := blk_free hba (k := 1); have z2 := blk_free hba (k := 2); have z3 := blk_free hba (k := 3); have z4 := blk_free hba (k := 4)
    have y1 : ¬ w0.heap.size = W.heap.size := by omega
    have y2 : ¬ W.heap.size = w0.heap.size := by omega
    have y3 : ¬ w0.heap.size = wa.heap.size := by omega
    have y4 : ¬ wa.heap.size = w0.heap.size := by omega
    have y5 : ¬ W.heap.size = wa.heap.size := by omega
    have y6 : ¬ wa.heap.size = W.heap.size := by omega
    have HL : Hid ((wb.setCell ⟨w0.heap.size, 2, none⟩ (.bool true)).heap[W.heap.size]? = some (.cells [.int .i64 0, .string ⟨#[]⟩, .string ⟨#[]⟩, .slice none 0 0, .slice none 0 0].toArray 52 (0, 0))) := Lib.hid (by rw [Below.heap_setCell _ _ _ _ (by simp only; omega)]; exact hba)
    have HS := Lib.hid (hS0.setBad true)
    have HXc := Lib.hid (((Exc.of w0.heap.size (hEa.trans hEb))).set (p := ⟨w0.heap.size, 2, none⟩) rfl (.bool true))
    clear h hi hok HX0 hS0 hba0 hbn0 hba hbn hEa hEb hdp
    go_enter Tryd.func35, Tryd.ntmps35
    go_wp2_with fail
    obtain ⟨q1, q2, q3⟩ := qedit_end hlw HS.out HXc.out HL.out [.int .i64 0, .string ⟨#[]⟩, .string ⟨#[]⟩, .slice none 0 0, .slice none 0 0] rfl
    simp only [putAll, Nat.zero_add, Nat.reduceAdd] at q1 q2 q3
    refine bodyPost_ret (res_cell rfl _ _ _ ⟨W.heap.size, 0, none⟩ (by rfl) (load_nodeL q3 ⟨_, rfl⟩ ⟨_, rfl⟩ ⟨_, rfl⟩ ⟨_, _, _, rfl⟩ ⟨_, _, _, rfl⟩)) rfl ?_
    exact ⟨_, rfl, nodeV_zero _ _ _, ⟨_, q1, fun h => by cases h⟩, q2⟩
  · have hI : ¬ (100 : Int) ≤ (d : Int) := by omega
    have hoks := okN_own hok
    obtain ⟨A, hA⟩ : ∃ A, x.kids.all (fitN (d + 1)) = A := ⟨_, rfl⟩
    obtain ⟨F, hF⟩ : ∃ F, (b || decide (4611686018427387904 < x.kind.toNat)) = F := ⟨_, rfl⟩
    have hbF : (b || !fitN d x) = (F || !A) := by
      rw [fitN_eq, decide_eq_true (by omega), ← hF, hA]
      by_cases c : x.kind ≤ 4611686018427387904
      · rw [decide_eq_true c, decide_eq_false (by omega)]; cases b <;> cases A <;> rfl
      · rw [decide_eq_false c, decide_eq_true (by omega)]; cases b <;> cases A <;> rfl
    rw [hbF]
    have hnz : numZ x.kind = numB x.kind.toNat := by unfold numZ; congr 1; omega
    have h1 := qnum_any w0 wb inp b x.kind.toNat (txtB x.name ++ (txtB x.text ++ (attrsB x.attrs ++ (nodesB x.kids ++ rest)))) (by omega) (fun hb => by rw [hi hb, nodeB_eq, hnz]; simp only [List.append_assoc]) hS0
    rw [hF] at h1
    have hN0 : NQ w0 wa 52 wb inp b [.int .i64 0, .string ⟨#[]⟩, .string ⟨#[]⟩, .slice none 0 0, .slice none 0 0] := ⟨hS0, Exc.of _ hEb, hbn0, by have := hEa.size; omega⟩
    have HN := Lib.hid hN0
    have H1 := Lib.hid h1
    have HOKS := Lib.hid (And.intro hoks.1.2.2.1 (And.intro hoks.1.2.2.2.1 (And.intro hoks.1.2.2.2.2.1 (And.intro hoks.1.2.2.2.2.2 (And.intro hoks.2.1 hoks.1.1)))))
    obtain ⟨D, hD⟩ : ∃ D, (d : Int) = D := ⟨_, rfl⟩
    have HXK : Hid (∀ y ∈ x.kids, ∀ (W : World) (inp : Bytes) (b : Bool) (rest : Bytes), (b = false → inp = nodeB y ++ rest) → QS w0 W inp b → Calls Tryd.prog 35 #[.pointer (some ⟨w0.heap.size, 0, none⟩), .int .i64 (D + 1)] W (QPost w0 W (b || !fitN (d + 1) y) rest fun v w => NodeV W.heap.size (b || !fitN (d + 1) y) y v w)) := Lib.hid fun y hy => by
      have h := HX0 y hy
      unfold QNode at h
      rw [show ((d + 1 : Nat) : Int) = D + 1 by omega] at h
      exact h
    rw [hD] at hI hd0 hd1 ⊢
    have HBA := Lib.hid (And.intro hEa (And.intro hba0 (And.intro hlw hlab)))
    clear h hi hok HX0 hEa hEb hba0 hbn0 hlw hlab hS0 hoks hF hbF hnz h1 hN0 hD hdp hd
    go_enter Tryd.func35, Tryd.ntmps35
    have HC := Lib.hid (H1.out)
    go_wp2_with fail
    refine HC.out.mono ?_
    rintro e u1 ⟨v, rfl, ⟨k0, rfl, kr1, kr2, ek⟩, ⟨inp1, hS, hin⟩, hX⟩
    have hb := HN.out.cell hX
    have k1_0 := blk_cells hb 0 rfl
    have g1_0 := blk_free hb (k := 0)
    obtain ⟨x1, hx1⟩ : ∃ W', (u1.setCell ⟨wa.heap.size, 0, none⟩ (.int .i64 k0)) = W' := ⟨_, rfl⟩
    have hN2 : NQ w0 wa 52 x1 inp1  (F) [.int .i64 k0, .string ⟨#[]⟩, .string ⟨#[]⟩, .slice none 0 0, .slice none 0 0] := by rw [← hx1]; exact ((HN.out.call hS hX).put 0 _)
    have HIN := Lib.hid hin
    clear HN HC hS hX hin hb
    have HN := Lib.hid hN2
    clear hN2
    have HC := Lib.hid (qtext_any w0 x1 inp1 F x.name (txtB x.text ++ (attrsB x.attrs ++ (nodesB x.kids ++ rest))) HOKS.out.1 HIN.out HN.out.S)
    go_wp2_with fail
    refine HC.out.mono ?_
    rintro e u2 ⟨v, rfl, ⟨s1, rfl, l1, e1⟩, ⟨inp2, hS, hin⟩, hX⟩
    have hb := HN.out.cell hX
    have k2_0 := blk_cells hb 1 rfl
    have g2_0 := blk_free hb (k := 1)
    obtain ⟨x2, hx2⟩ : ∃ W', (u2.setCell ⟨wa.heap.size, 1, none⟩ (.string (bs s1))) = W' := ⟨_, rfl⟩
    have hN2 : NQ w0 wa 52 x2 inp2  (F) [.int .i64 k0, .string (bs s1), .string ⟨#[]⟩, .slice none 0 0, .slice none 0 0] := by rw [← hx2]; exact ((HN.out.call hS hX).put 1 _)
    have HIN := Lib.hid hin
    clear HN HC hS hX hin hb
    have HN := Lib.hid hN2
    clear hN2
    have HC := Lib.hid (qtext_any w0 x2 inp2 F x.text (attrsB x.attrs ++ (nodesB x.kids ++ rest)) HOKS.out.2.1 HIN.out HN.out.S)
    go_wp2_with fail
    refine HC.out.mono ?_
    rintro e u3 ⟨v, rfl, ⟨s2, rfl, l2, e2⟩, ⟨inp3, hS, hin⟩, hX⟩
    have hb := HN.out.cell hX
    have k3_0 := blk_cells hb 2 rfl
    have g3_0 := blk_free hb (k := 2)
    obtain ⟨x3, hx3⟩ : ∃ W', (u3.setCell ⟨wa.heap.size, 2, none⟩ (.string (bs s2))) = W' := ⟨_, rfl⟩
    have hN2 : NQ w0 wa 52 x3 inp3  (F) [.int .i64 k0, .string (bs s1), .string (bs s2), .slice none 0 0, .slice none 0 0] := by rw [← hx3]; exact ((HN.out.call hS hX).put 2 _)
    have HIN := Lib.hid hin
    clear HN HC hS hX hin hb
    have HN := Lib.hid hN2
    clear hN2
    have HC := Lib.hid ((by have h := qattrs_any w0 x3 inp3 F x.attrs (nodesB x.kids ++ rest) HOKS.out.2.2.1 HIN.out HN.out.S HOKS.out.2.2.2.2.1; rw [yes_all] at h; exact h))
    go_wp2_with fail
    refine HC.out.mono ?_
    rintro e u4 ⟨v, rfl, ⟨a1, n1, c1, rfl, e3⟩, ⟨inp4, hS, hin⟩, hX⟩
    have hb := HN.out.cell hX
    have k4_0 := blk_cells hb 3 rfl
    have g4_0 := blk_free hb (k := 3)
    obtain ⟨x4, hx4⟩ : ∃ W', (u4.setCell ⟨wa.heap.size, 3, none⟩ (.slice a1 n1 c1)) = W' := ⟨_, rfl⟩
    have hN2 : NQ w0 wa 52 x4 inp4  (F) [.int .i64 k0, .string (bs s1), .string (bs s2), .slice a1 n1 c1, .slice none 0 0] := by rw [← hx4]; exact ((HN.out.call hS hX).put 3 _)
    have hlo := HN.out.low
    have HRA : Hid ((F) = false → Rep x4 (fun k => wa.heap.size < k) (.slice a1 n1 c1) (attrsD x.attrs)) := Lib.hid fun hf => by rw [← hx4]; exact (rep_put ((e3 hf).ok fun k hk => by omega) 3 _)
    clear hlo e3
    have HIN := Lib.hid hin
    clear HN HC hS hX hin hb
    have HN := Lib.hid hN2
    clear hN2
    have HC := Lib.hid ((by have h := qnodes_any w0 x4 inp4 F x.kids rest (d + 1) (D + 1) HOKS.out.2.2.2.1 HIN.out HN.out.S HXK.out; rw [hA] at h; exact h))
    go_wp2_with fail
    refine HC.out.mono ?_
    rintro e u5 ⟨v, rfl, ⟨a2, n2, c2, rfl, e4⟩, ⟨inp5, hS, hin⟩, hX⟩
    have hb := HN.out.cell hX
    have k5_0 := blk_cells hb 4 rfl
    have g5_0 := blk_free hb (k := 4)
    obtain ⟨x5, hx5⟩ : ∃ W', (u5.setCell ⟨wa.heap.size, 4, none⟩ (.slice a2 n2 c2)) = W' := ⟨_, rfl⟩
    have hN2 : NQ w0 wa 52 x5 inp5  (F || !A) [.int .i64 k0, .string (bs s1), .string (bs s2), .slice a1 n1 c1, .slice a2 n2 c2] := by rw [← hx5]; exact ((HN.out.call hS hX).put 4 _)
    have HRA2 : Hid ((F || !A) = false → Rep x5 (fun k => wa.heap.size < k) (.slice a1 n1 c1) (attrsD x.attrs)) := Lib.hid fun hf => by rw [← hx5]; exact (rep_put (HN.out.rep (HRA.out (by first | exact hf | exact (Bool.or_eq_false_iff.1 hf).1)) hX) 4 _)
    clear HRA
    have HRA := HRA2
    clear HRA2
    have hlo := HN.out.low
    have HRK : Hid ((F || !A) = false → Rep x5 (fun k => wa.heap.size < k) (.slice a2 n2 c2) (nodesD x.kids)) := Lib.hid fun hf => by rw [← hx5]; exact (rep_put ((e4 hf).ok fun k hk => by omega) 4 _)
    clear hlo e4
    have HIN := Lib.hid hin
    clear HN HC hS hX hin hb
    have HN := Lib.hid hN2
    clear hN2
    obtain ⟨hEa, hba0, hlw, hlab⟩ := HBA.out
    have hba := (HN.out.X.2 W.heap.size (by omega) hlab).trans hba0
    have m0 := blk_cells HN.out.N 0 rfl; have m1 := blk_cells HN.out.N 1 rfl; have m2 := blk_cells HN.out.N 2 rfl; have m3 := blk_cells HN.out.N 3 rfl; have m4 := blk_cells HN.out.N 4 rfl
    have r0 := blk_cells hba 0 rfl; have r1 := blk_cells hba 1 rfl; have r2 := blk_cells hba 2 rfl; have r3 := blk_cells hba 3 rfl; have r4 := blk_cells hba 4 rfl
    have z0 := blk_free hba (k := 0); have z1 := blk_free hba (k := 1); have z2 := blk_free hba (k := 2); have z3 := blk_free hba (k := 3); have z4 := blk_free hba (k := 4)
    have y3 : ¬ w0.heap.size = wa.heap.size := by have := HN.out.ne; omega
    have y4 : ¬ wa.heap.size = w0.heap.size := by omega
    have y5 : ¬ W.heap.size = wa.heap.size := by omega
    have y6 : ¬ wa.heap.size = W.heap.size := by omega
    have HL := Lib.hid hba
    have HE := Lib.hid (show (F = false → k0 = x.kind) ∧ (F = false → s1 = x.name) ∧ (F = false → s2 = x.text) from ⟨fun hf => by have := ek hf; have := HOKS.out.2.2.2.2.2; omega, e1, e2⟩)
    clear hba hba0 hEa ek e1 e2
    go_wp2_with fail
    obtain ⟨q1, q2, q3⟩ := qedit_end hlw HN.out.S ((Exc.of _ HBA.out.1).trans HN.out.X) HL.out [.int .i64 k0, .string (bs s1), .string (bs s2), .slice a1 n1 c1, .slice a2 n2 c2] rfl
    simp only [putAll, Nat.zero_add, Nat.reduceAdd] at q1 q2 q3
    refine bodyPost_ret (res_cell rfl _ _ _ ⟨W.heap.size, 0, none⟩ (by rfl) (load_nodeL q3 ⟨_, rfl⟩ ⟨_, rfl⟩ ⟨_, rfl⟩ ⟨_, _, _, rfl⟩ ⟨_, _, _, rfl⟩)) rfl ?_
    exact ⟨_, rfl, ⟨k0, s1, s2, a1, n1, c1, a2, n2, c2, rfl, l1, l2, fun hf => ⟨HE.out.1 (Bool.or_eq_false_iff.1 hf).1, HE.out.2.1 (Bool.or_eq_false_iff.1 hf).1, HE.out.2.2 (Bool.or_eq_false_iff.1 hf).1, (Rep.putAll (b := W.heap.size) (fun k hk => by omega) [.int .i64 k0, .string (bs s1), .string (bs s2), .slice a1 n1 c1, .slice a2 n2 c2] 0 _ (HRA.out hf)).ok fun k hk => by omega, (Rep.putAll (b := W.heap.size) (fun k hk => by omega) [.int .i64 k0, .string (bs s1), .string (bs s2), .slice a1 n1 c1, .slice a2 n2 c2] 0 _ (HRK.out hf)).ok fun k hk => by omega⟩⟩, ⟨_, q1, HIN.out⟩, q2⟩
theorem qnode_any (w0 : World) : ∀ (N d : Nat) (x : Node), nsz x ≤ N → d + N ≤ 10000000 → okN x = true → QNode w0 d x
  | 0, d, x, h, _, _ => by cases x; rw [nsz] at h; omega
  | N + 1, d, x, h, hd, hok => fun W inp b rest hi hS => by
    refine qnode_step w0 W inp d b x rest (by omega) hok hi hS fun y hy => ?_
    obtain ⟨i, hi', e⟩ := List.getElem_of_mem hy
    have := kid_lt x i hi'
    exact qnode_any w0 N (d + 1) y (by rw [← e]; omega) (by omega) ((okN_own hok).2.2 y hy)

end Go.Proofs.YtghhachbnhldoaaDoor
