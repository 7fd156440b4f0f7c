/-
  Edits as an argument, opened, with their bulk. Helper lemmas; no statement of the seat is proved here.
-/
import Derived.Test.YtghhachbnhldoaaDoorOpen
import Derived.Test.YtghhachbnhldoaaDoorC36
namespace Go.Proofs.YtghhachbnhldoaaDoor
open Go.RowKit Go.Deep
set_option linter.unusedVariables false
set_option maxRecDepth 100000

theorem nszc (x : Node) : nsz x ≤ cntN x := nsz_cnt x
section
variable {H : Type} {enc : TypeId × Value → H} {w : World} {base : Nat} {held : Bool}
instance : Inhabited Attr := ⟨⟨[], []⟩⟩
instance : Inhabited Step := ⟨⟨[], []⟩⟩
instance : Inhabited Node := ⟨.mk 0 [] [] [] []⟩
instance : Inhabited Edit := ⟨⟨0, [], [], [], .mk 0 [] [] [] []⟩⟩
def QB (y : Bytes) (d : DataW H) : Prop := d = .lit (.string y)
def QA (a : Attr) (d : DataW H) : Prop := d = .agg [.lit (.string a.n), .lit (.string a.v)]
def QT (s : Step) (d : DataW H) : Prop := ∃ dk, d = .agg [.lit (.string s.n), dk] ∧ QSd QB s.key dk
def QN (n : Node) (d : DataW H) : Prop := cntN n ≤ Rows.uptoBulk d ∧ (Rows.uptoBulk d ≤ 1048576 → rngN n = true)
theorem bs_data (s : ByteArray) : bs s.data.toList = s := by cases s; simp [bs]
theorem open_bytes {t : TypeId} (ht : Tryd.prog.underlying t = some .string) {spare : Nat → Bool} {n : Nat} {v : Value} {x : DataW H × List MemPlace} (h : DataW.trod enc Tryd.prog w base spare held n t [v] = some x) : ∃ y : Bytes, Rep w (fun _ => True) v (strD y) ∧ x.1 = .lit (.string y) := by
  obtain ⟨s, h1, h2, h3⟩ := DataW.trod_string ht h
  cases h1
  refine ⟨s.data.toList, ?_, by rw [h2]⟩
  unfold strD
  rw [bs_data]
  exact Rep.string _ _ _ (by unfold maxLen at h3; omega)
theorem one_of {l : List Value} (h : l.length = 1) : ∃ v, l = [v] := List.length_eq_one_iff.1 h
theorem open_texts {n : Nat} {cs : List Value} {x : DataW H × List MemPlace} (h : DataW.trod enc Tryd.prog w base (fun _ => true) held n 38 cs = some x) : ∃ (v : Value) (l : List Bytes), cs = [v] ∧ Rep w (fun _ => True) v (strsD l) ∧ QSd QB l x.1 :=
  open_rep (f := fun x => [strD x]) (z := 1) z_str QB Tryd.underlying38 (by kernel_rfl) (by omega) (fun n cs x _ h => by
    obtain ⟨s, rfl, _⟩ := DataW.trod_string Tryd.underlying9 h
    obtain ⟨y, h1, h2⟩ := open_bytes Tryd.underlying9 h
    exact ⟨y, Reps.cons h1 (Reps.nil _ _), h2⟩) h
theorem open_attr {n : Nat} {cs : List Value} {x : DataW H × List MemPlace} (h : DataW.trod enc Tryd.prog w base (fun _ => true) held n 101 cs = some x) : ∃ a : Attr, Reps w (fun _ => True) cs (attrC a) ∧ QA a x.1 := by
  obtain ⟨xs, m, _, hx, hl, hxl, hf⟩ := open_fields Tryd.underlying101 (by kernel_rfl) (by intro i f hf; match i, hf with | 0, hf => cases hf; exact ⟨rfl, by kernel_rfl⟩ | 1, hf => cases hf; exact ⟨rfl, by kernel_rfl⟩ | i + 2, hf => simp at hf) h
  obtain ⟨v0, y0, a0, b0, c0⟩ := hf 0 _ rfl
  obtain ⟨v1, y1, a1, b1, c1⟩ := hf 1 _ rfl
  match cs, hl, xs, hxl with
  | [_, _], _, [_, _], _ =>
    cases a0; cases a1; cases b0; cases b1
    obtain ⟨n0, r0, e0⟩ := open_bytes Tryd.underlying9 c0
    obtain ⟨n1, r1, e1⟩ := open_bytes Tryd.underlying9 c1
    exact ⟨⟨n0, n1⟩, Reps.cons r0 (Reps.cons r1 (Reps.nil _ _)), by rw [hx]; simp [QA, e0, e1]⟩
theorem open_attrs {n : Nat} {cs : List Value} {x : DataW H × List MemPlace} (h : DataW.trod enc Tryd.prog w base (fun _ => true) held n 49 cs = some x) : ∃ (v : Value) (l : List Attr), cs = [v] ∧ Rep w (fun _ => True) v (attrsD l) ∧ QSd QA l x.1 :=
  open_rep z_attr QA Tryd.underlying49 (by kernel_rfl) (by omega) (fun n cs x _ h => open_attr h) h
theorem open_step {n : Nat} {cs : List Value} {x : DataW H × List MemPlace} (h : DataW.trod enc Tryd.prog w base (fun _ => true) held n 47 cs = some x) : ∃ a : Step, Reps w (fun _ => True) cs (stepC a) ∧ QT a x.1 := by
  obtain ⟨xs, m, _, hx, hl, hxl, hf⟩ := open_fields Tryd.underlying47 (by kernel_rfl) (by intro i f hf; match i, hf with | 0, hf => cases hf; exact ⟨rfl, by kernel_rfl⟩ | 1, hf => cases hf; exact ⟨rfl, by kernel_rfl⟩ | i + 2, hf => simp at hf) h
  obtain ⟨v0, y0, a0, b0, c0⟩ := hf 0 _ rfl
  obtain ⟨v1, y1, a1, b1, c1⟩ := hf 1 _ rfl
  match cs, hl, xs, hxl with
  | [_, _], _, [_, _], _ =>
    cases a0; cases a1; cases b0; cases b1
    obtain ⟨n0, r0, e0⟩ := open_bytes Tryd.underlying9 c0
    obtain ⟨v, k, e, r1, q1⟩ := open_texts c1
    cases e
    exact ⟨⟨n0, k⟩, Reps.cons r0 (Reps.cons r1 (Reps.nil _ _)), _, by rw [hx]; simp [e0], q1⟩
theorem open_steps {n : Nat} {cs : List Value} {x : DataW H × List MemPlace} (h : DataW.trod enc Tryd.prog w base (fun _ => true) held n 48 cs = some x) : ∃ (v : Value) (l : List Step), cs = [v] ∧ Rep w (fun _ => True) v (stepsD l) ∧ QSd QT l x.1 :=
  open_rep z_step QT Tryd.underlying48 (by kernel_rfl) (by omega) (fun n cs x _ h => open_step h) h
-- bulk
theorem bulk_attrs : ∀ (l : List Attr) (es : List (DataW H)), QLd QA l es → cntA l ≤ Rows.uptoBulkAll es
  | [], [], _ => Nat.le_refl _
  | [], _ :: _, h => by have := h.1; simp at this
  | _ :: _, [], h => by have := h.1; simp at this
  | a :: l, e :: es, h => by
    have h1 := h.2 0 a e rfl rfl
    have h2 := bulk_attrs l es ⟨by have := h.1; simpa using this, fun i y e' hy he => h.2 (i + 1) y e' (by simpa using hy) (by simpa using he)⟩
    rw [cntA, Rows.uptoBulkAll, h1]
    simp only [Rows.uptoBulk, Rows.uptoBulkAll]
    omega
theorem bulk_nodes : ∀ (l : List Node) (es : List (DataW H)), QLd QN l es → cntL l ≤ Rows.uptoBulkAll es
  | [], [], _ => Nat.le_refl _
  | [], _ :: _, h => by have := h.1; simp at this
  | _ :: _, [], h => by have := h.1; simp at this
  | a :: l, e :: es, h => by
    have h1 := (h.2 0 a e rfl rfl).1
    have h2 := bulk_nodes l es ⟨by have := h.1; simpa using this, fun i y e' hy he => h.2 (i + 1) y e' (by simpa using hy) (by simpa using he)⟩
    rw [cntL, Rows.uptoBulkAll]
    omega
theorem bulk_slice {α : Type} {Q : α → DataW H → Prop} {l : List α} {d : DataW H} (m : List α → Nat) (h0 : m [] = 0) (hm : ∀ es, QLd Q l es → m l ≤ Rows.uptoBulkAll es) (h : QSd Q l d) : m l + 1 ≤ Rows.uptoBulk d := by
  rcases h with ⟨rfl, rfl⟩ | ⟨es, sp, rfl, hq⟩
  · rw [h0]; simp [Rows.uptoBulk]
  · have := hm es hq; simp only [Rows.uptoBulk]; omega
theorem ql_len {α : Type} {Q : α → DataW H → Prop} {l : List α} {es : List (DataW H)} (h : QLd Q l es) : l.length ≤ Rows.uptoBulkAll es := by
  have h1 : ∀ es : List (DataW H), es.length ≤ Rows.uptoBulkAll es := fun es => by
    induction es with
    | nil => simp [Rows.uptoBulkAll]
    | cons e r ih => rw [Rows.uptoBulkAll, List.length_cons]; have : 1 ≤ Rows.uptoBulk e := by cases e with
        | lit l => cases l <;> simp [Rows.uptoBulk]
        | _ => simp [Rows.uptoBulk]
                     omega
  rw [← h.1]; exact h1 es
theorem part_le : ∀ (es : List (DataW H)) (e : DataW H), e ∈ es → Rows.uptoBulk e ≤ Rows.uptoBulkAll es
  | [], _, h => by cases h
  | a :: r, e, h => by
    rw [Rows.uptoBulkAll]
    rcases List.mem_cons.1 h with h | h
    · rw [h]; omega
    · have := part_le r e h; omega
theorem qs_len {α : Type} {Q : α → DataW H → Prop} {l : List α} {d : DataW H} (h : QSd Q l d) : l.length ≤ Rows.uptoBulk d := by
  have := bulk_slice List.length rfl (fun es => ql_len (es := es)) h; omega
theorem qs_mem {α : Type} {Q : α → DataW H → Prop} {l : List α} {d : DataW H} (h : QSd Q l d) (y : α) (hy : y ∈ l) : ∃ e, Q y e ∧ Rows.uptoBulk e ≤ Rows.uptoBulk d := by
  rcases h with ⟨rfl, rfl⟩ | ⟨es, sp, rfl, hq⟩
  · cases hy
  · obtain ⟨i, hi, rfl⟩ := List.mem_iff_getElem.1 hy
    have hie : i < es.length := by rw [hq.1]; exact hi
    refine ⟨es[i], hq.2 i _ _ (List.getElem?_eq_getElem hi) (List.getElem?_eq_getElem hie), ?_⟩
    have := part_le es es[i] (List.getElem_mem hie)
    simp only [Rows.uptoBulk]; omega
theorem texts_bulk {l : List Bytes} {d : DataW H} (h : QSd QB l d) (y : Bytes) (hy : y ∈ l) : y.length ≤ Rows.uptoBulk d := by
  obtain ⟨e, he, hb⟩ := qs_mem h y hy
  have he' : e = .lit (.string y) := he
  rw [he'] at hb
  simp only [Rows.uptoBulk] at hb; omega
theorem wf64 {n : Int} (h : (Lit.int .i64 n).wf = true) : -9223372036854775808 ≤ n ∧ n < 9223372036854775808 := by
  have e1 : IntKind.i64.min = -9223372036854775808 := by kernel_rfl
  have e2 : IntKind.i64.max = 9223372036854775807 := by kernel_rfl
  unfold Lit.wf at h
  rw [Bool.and_eq_true, e1, e2] at h
  have h1 := of_decide_eq_true h.1
  have h2 := of_decide_eq_true h.2
  omega
theorem qs_attrs {la : List Attr} {d : DataW H} (h : QSd QA la d) (hd : Rows.uptoBulk d ≤ 1048576) : (la.all fun s => decide (s.n.length ≤ 1000000000000 ∧ s.v.length ≤ 1000000000000)) = true := List.all_eq_true.2 fun s hs => by
  obtain ⟨e, he, hb⟩ := qs_mem h s hs
  have he' : e = .agg [.lit (.string s.n), .lit (.string s.v)] := he
  rw [he'] at hb
  simp only [Rows.uptoBulk, Rows.uptoBulkAll] at hb
  exact decide_eq_true (by omega)
theorem qs_kids {ks : List Node} {d : DataW H} (h : QSd QN ks d) (hd : Rows.uptoBulk d ≤ 1048576) : ∀ y ∈ ks, cntN y ≤ 1048576 ∧ rngN y = true := fun y hy => by
  obtain ⟨e, he, hb⟩ := qs_mem h y hy
  have h1 := he.1
  exact ⟨by omega, he.2 (by omega)⟩
theorem open_node : ∀ (N : Nat) {n : Nat} {cs : List Value} {x : DataW H × List MemPlace}, n ≤ N → DataW.trod enc Tryd.prog w base (fun _ => true) held n 52 cs = some x → ∃ a : Node, Reps w (fun _ => True) cs (nodeC a) ∧ QN a x.1 := by
  intro N
  induction N with
  | zero =>
    intro n cs x hn h
    obtain rfl : n = 0 := (by omega)
    simp [DataW.trod] at h
  | succ N ih =>
    intro n cs x hn h
    obtain ⟨xs, m, hm, hx, hl, hxl, hf⟩ := open_fields Tryd.underlying52 (by kernel_rfl) (by intro i f hf; match i, hf with | 0, hf => cases hf; exact ⟨rfl, by kernel_rfl⟩ | 1, hf => cases hf; exact ⟨rfl, by kernel_rfl⟩ | 2, hf => cases hf; exact ⟨rfl, by kernel_rfl⟩ | 3, hf => cases hf; exact ⟨rfl, by kernel_rfl⟩ | 4, hf => cases hf; exact ⟨rfl, by kernel_rfl⟩ | i + 5, hf => simp at hf) h
    obtain ⟨v0, y0, a0, b0, c0⟩ := hf 0 _ rfl
    obtain ⟨v1, y1, a1, b1, c1⟩ := hf 1 _ rfl
    obtain ⟨v2, y2, a2, b2, c2⟩ := hf 2 _ rfl
    obtain ⟨v3, y3, a3, b3, c3⟩ := hf 3 _ rfl
    obtain ⟨v4, y4, a4, b4, c4⟩ := hf 4 _ rfl
    match cs, hl, xs, hxl with
    | [_, _, _, _, _], _, [_, _, _, _, _], _ =>
      cases a0; cases a1; cases a2; cases a3; cases a4; cases b0; cases b1; cases b2; cases b3; cases b4
      obtain ⟨k, e, e0, hk⟩ := DataW.trod_int Tryd.underlying3 c0
      cases e
      obtain ⟨n1, r1, e1⟩ := open_bytes Tryd.underlying9 c1
      obtain ⟨n2, r2, e2⟩ := open_bytes Tryd.underlying9 c2
      obtain ⟨v, la, e, r3, q3⟩ := open_attrs c3
      cases e
      obtain ⟨v, ks, e, r4, q4⟩ := open_rep z_node QN Tryd.underlying50 (by kernel_rfl) (by omega) (fun n' cs' x' hn' h' => ih (by omega) h') c4
      cases e
      refine ⟨.mk k n1 n2 la ks, ?_, ?_⟩
      · rw [nodeC_eq]
        exact Reps.cons (Rep.int _ _ _ _) (Reps.cons r1 (Reps.cons r2 (Reps.cons r3 (Reps.cons r4 (Reps.nil _ _)))))
      · have h3 := bulk_slice cntA rfl (fun es => bulk_attrs la es) q3
        have h4 := bulk_slice cntL rfl (fun es => bulk_nodes ks es) q4
        have h5 := qs_len q3
        have h6 := qs_len q4
        have h7 := wf64 hk
        unfold QN
        rw [hx, cntN]
        simp only [List.map_cons, List.map_nil, e0, e1, e2, Rows.uptoBulk, Rows.uptoBulkAll]
        refine ⟨by omega, fun hb => ?_⟩
        rw [rngN, Bool.and_eq_true, Bool.and_eq_true, rngL_eq]
        exact ⟨decide_eq_true ⟨h7.1, h7.2, by omega, by omega, by omega, by omega⟩, qs_attrs q3 (by omega), List.all_eq_true.2 fun y hy => (qs_kids q4 (by omega) y hy).2⟩
theorem open_nodes {n : Nat} {cs : List Value} {x : DataW H × List MemPlace} (h : DataW.trod enc Tryd.prog w base (fun _ => true) held n 50 cs = some x) : ∃ (v : Value) (l : List Node), cs = [v] ∧ Rep w (fun _ => True) v (nodesD l) ∧ QSd QN l x.1 :=
  open_rep z_node QN Tryd.underlying50 (by kernel_rfl) (by omega) (fun n' cs' x' _ h' => open_node n' (Nat.le_refl _) h') h
/-- The bytes of a list are no more than so many for each of its bulk. -/
theorem flat_b {α : Type} {Q : α → DataW H → Prop} {f : α → Bytes} (c : Nat) (h : ∀ y e, Q y e → (f y).length ≤ c * Rows.uptoBulk e) {l : List α} {d : DataW H} (hq : QSd Q l d) : (l.flatMap f).length + c ≤ c * Rows.uptoBulk d := by
  have hl : ∀ (l : List α) (es : List (DataW H)), QLd Q l es → (l.flatMap f).length ≤ c * Rows.uptoBulkAll es := by
    intro l
    induction l with
    | nil => intro es _; simp
    | cons a l ih =>
      intro es hh
      cases es with
      | nil => have := hh.1; simp at this
      | cons e es =>
        have h1 := h _ _ (hh.2 0 a e rfl rfl)
        have h2 := ih es ⟨by have := hh.1; simpa using this, fun i y e' hy he => hh.2 (i + 1) y e' (by simpa using hy) (by simpa using he)⟩
        rw [List.flatMap_cons, List.length_append, Rows.uptoBulkAll, Nat.mul_add]; omega
  rcases hq with ⟨rfl, rfl⟩ | ⟨es, sp, rfl, hq⟩
  · simp [Rows.uptoBulk]
  · have := hl l es hq
    simp only [Rows.uptoBulk, Nat.mul_add]
    omega
theorem txtB_b (s : Bytes) : (txtB s).length ≤ 10 + s.length := by unfold txtB; rw [List.length_append]; have := numB_len s.length; omega
theorem text_b (y : Bytes) (e : DataW H) (h : QB y e) : (txtB y).length ≤ 10 * Rows.uptoBulk e := by
  have h' : e = .lit (.string y) := h
  have := txtB_b y
  rw [h']; simp only [Rows.uptoBulk]; omega
theorem attr_b (y : Attr) (e : DataW H) (h : QA y e) : (attrB y).length ≤ 20 * Rows.uptoBulk e := by
  have h' : e = .agg [.lit (.string y.n), .lit (.string y.v)] := h
  have h1 := txtB_b y.n
  have h2 := txtB_b y.v
  unfold attrB
  rw [h', List.length_append]; simp only [Rows.uptoBulk, Rows.uptoBulkAll]; omega
theorem step_b (y : Step) (e : DataW H) (h : QT y e) : (stepB' y).length ≤ 10 * Rows.uptoBulk e := by
  obtain ⟨dk, rfl, hk⟩ := h
  have h1 := txtB_b y.n
  have h2 := flat_b 10 text_b hk
  have h3 := numB_len y.key.length
  unfold stepB' txtsB
  rw [List.length_append, List.length_append]; simp only [Rows.uptoBulk, Rows.uptoBulkAll]; omega
theorem attrs_cnt : ∀ l : List Attr, (l.flatMap attrB).length ≤ 20 * cntA l
  | [] => by simp [cntA]
  | a :: r => by
    have h1 := txtB_b a.n
    have h2 := txtB_b a.v
    have h3 := attrs_cnt r
    have h4 : (attrB a).length = (txtB a.n).length + (txtB a.v).length := by unfold attrB; rw [List.length_append]
    rw [List.flatMap_cons, List.length_append, cntA]; omega
mutual
theorem nodeB_b : ∀ x : Node, (nodeB x).length ≤ 60 * cntN x
  | .mk k n t la ks => by
    have h1 := txtB_b n
    have h2 := txtB_b t
    have h3 := attrs_cnt la
    have h4 := nodesB_b ks
    have h5 := numB_len (k % 18446744073709551616).toNat
    have h6 := numB_len la.length
    have h7 := numB_len ks.length
    rw [nodeB_eq]
    simp only [Node.kind, Node.name, Node.text, Node.attrs, Node.kids, attrsB, nodesB, numZ, List.length_append]
    rw [cntN]
    omega
theorem nodesB_b : ∀ l : List Node, (l.flatMap nodeB).length ≤ 60 * cntL l
  | [] => by simp [cntL]
  | a :: r => by
    have h1 := nodeB_b a
    have h2 := nodesB_b r
    rw [List.flatMap_cons, List.length_append, cntL]; omega
end
def QE (x : Edit) (d : DataW H) : Prop := (editB x).length ≤ 60 * Rows.uptoBulk d ∧ cntN x.node + cntL x.kids + cntA x.attrs + 1 ≤ Rows.uptoBulk d ∧ (Rows.uptoBulk d ≤ 1048576 → rngE x = true)
theorem open_edit {n : Nat} {cs : List Value} {x : DataW H × List MemPlace} (h : DataW.trod enc Tryd.prog w base (fun _ => true) held n 54 cs = some x) : ∃ a : Edit, Reps w (fun _ => True) cs (editC a) ∧ QE a x.1 := by
  obtain ⟨xs, m, rfl, hx, hl, hxl, hf⟩ := DataW.trod_struct Tryd.underlying54 h
  have f0 : DataW.trod enc Tryd.prog w base (fun _ => true) held m 3 ((cs.drop 0).take (Tryd.prog.cellsOf 3)) = xs[0]? := hf 0 _ rfl
  have f1 : DataW.trod enc Tryd.prog w base (fun _ => true) held m 48 ((cs.drop 1).take (Tryd.prog.cellsOf 48)) = xs[1]? := hf 1 _ rfl
  have f2 : DataW.trod enc Tryd.prog w base (fun _ => true) held m 49 ((cs.drop 2).take (Tryd.prog.cellsOf 49)) = xs[2]? := hf 2 _ rfl
  have f3 : DataW.trod enc Tryd.prog w base (fun _ => true) held m 50 ((cs.drop 3).take (Tryd.prog.cellsOf 50)) = xs[3]? := hf 3 _ rfl
  have f4 : DataW.trod enc Tryd.prog w base (fun _ => true) held m 52 ((cs.drop 4).take (Tryd.prog.cellsOf 52)) = xs[4]? := hf 4 _ rfl
  have c1 : Tryd.prog.cellsOf 3 = 1 := by kernel_rfl
  have c2 : Tryd.prog.cellsOf 48 = 1 := by kernel_rfl
  have c3 : Tryd.prog.cellsOf 49 = 1 := by kernel_rfl
  have c4 : Tryd.prog.cellsOf 50 = 1 := by kernel_rfl
  have c5 : Tryd.prog.cellsOf 52 = 5 := by kernel_rfl
  have c6 : Tryd.prog.cellsOf 54 = 9 := by kernel_rfl
  rw [c6] at hl
  rw [c1] at f0
  rw [c2] at f1
  rw [c3] at f2
  rw [c4] at f3
  rw [c5] at f4
  match cs, hl, xs, hxl with
  | [v0, v1, v2, v3, v4, v5, v6, v7, v8], _, [y0, y1, y2, y3, y4], _ =>
    simp only [List.drop_succ_cons, List.drop_zero, List.take_succ_cons, List.take_zero, List.getElem?_cons_zero, List.getElem?_cons_succ] at f0 f1 f2 f3 f4
    obtain ⟨k, e, e0, hk⟩ := DataW.trod_int Tryd.underlying3 f0
    cases e
    obtain ⟨v, lp, e, r1, q1⟩ := open_steps f1
    cases e
    obtain ⟨v, la, e, r2, q2⟩ := open_attrs f2
    cases e
    obtain ⟨v, ks, e, r3, q3⟩ := open_nodes f3
    cases e
    obtain ⟨nd, r4, q4⟩ := open_node m (Nat.le_refl _) f4
    refine ⟨⟨k, lp, la, ks, nd⟩, ?_, ?_⟩
    · have e9 : editC ⟨k, lp, la, ks, nd⟩ = [intD k, stepsD lp, attrsD la, nodesD ks] ++ nodeC nd := by rw [nodeC_eq]; rfl
      rw [e9]
      exact Reps.append (us := [.int .i64 k, v1, v2, v3]) (Reps.cons (Rep.int _ _ _ _) (Reps.cons r1 (Reps.cons r2 (Reps.cons r3 (Reps.nil _ _))))) r4
    · have h1 := flat_b 10 step_b q1
      have h2 := flat_b 20 attr_b q2
      have h3 := flat_b (f := nodeB) 60 (fun y e (hq : QN y e) => by have := nodeB_b y; have := hq.1; omega) q3
      have h4 := nodeB_b nd
      have h5 := q4.1
      have h6 := numB_len (k % 18446744073709551616).toNat
      have h7 := numB_len lp.length
      have h8 := numB_len la.length
      have h9 := numB_len ks.length
      have g1 := bulk_slice cntA rfl (fun es => bulk_attrs la es) q2
      have g2 := bulk_slice cntL rfl (fun es => bulk_nodes ks es) q3
      have g3 := qs_len q1
      have g4 := qs_len q2
      have g5 := qs_len q3
      have g6 := wf64 hk
      unfold QE editB
      rw [hx]
      simp only [List.map_cons, List.map_nil, e0, Rows.uptoBulk, Rows.uptoBulkAll, List.length_append, stepsB', attrsB, nodesB, numZ]
      refine ⟨by omega, by omega, fun hb => ?_⟩
      unfold rngE
      simp only [Bool.and_eq_true]
      refine ⟨decide_eq_true ⟨g6.1, g6.2, by omega, by omega, by omega⟩, List.all_eq_true.2 fun s hs => ?_, qs_attrs q2 (by omega), List.all_eq_true.2 fun y hy => ?_, decide_eq_true (by have := nszc nd; omega), q4.2 (by omega)⟩
      · obtain ⟨e, ⟨dk, rfl, qk⟩, hb2⟩ := qs_mem q1 s hs
        simp only [Rows.uptoBulk, Rows.uptoBulkAll] at hb2
        have := qs_len qk
        rw [Bool.and_eq_true]
        exact ⟨decide_eq_true (by omega), List.all_eq_true.2 fun t ht => decide_eq_true (by have := texts_bulk qk t ht; omega)⟩
      · obtain ⟨k1, k2⟩ := qs_kids q3 (by omega) y hy
        rw [Bool.and_eq_true]
        exact ⟨decide_eq_true (by have := nszc y; omega), k2⟩
theorem open_edits {n : Nat} {cs : List Value} {x : DataW H × List MemPlace} (h : DataW.trod enc Tryd.prog w base (fun _ => true) held n 22 cs = some x) : ∃ (v : Value) (l : List Edit), cs = [v] ∧ Rep w (fun _ => True) v (editsD l) ∧ QSd QE l x.1 :=
  open_rep z_edit QE Tryd.underlying22 (by kernel_rfl) (by omega) (fun n cs x _ h => open_edit h) h
theorem edits_b {l : List Edit} {d : DataW H} (h : QSd QE l d) (hd : Rows.uptoBulk d ≤ 1048576) : EOK l := by
  have h1 := qs_len h
  have h2 := flat_b (f := editB) 60 (fun y e (hq : QE y e) => hq.1) h
  have h3 := numB_len l.length
  refine ⟨by omega, ?_, fun x hx => ?_, fun x hx => ?_⟩
  · unfold editsB; rw [List.length_append]; omega
  · obtain ⟨e, he, hb⟩ := qs_mem h x hx
    exact he.2.2 (by omega)
  · obtain ⟨e, he, hb⟩ := qs_mem h x hx
    have := he.2.1
    rw [cntN]
    simp only [List.length_nil]
    omega
end
end Go.Proofs.YtghhachbnhldoaaDoor
