/-
  The laws' arguments, opened: rules, documents, paths; their bulk. Helper lemmas; no statement of the seat is proved here.
-/
import Derived.Test.YtkelpbbekeelcaaGreatDoorOpen
import Derived.Test.YtkelpbbekeelcaaGreatDoorU6
namespace Go.Proofs.YtkelpbbekeelcaaGreatDoor
open Go.RowKit Go.Deep
set_option linter.unusedVariables false
section
variable {H : Type} {enc : TypeId × Value → H} {w : World} {base : Nat} {held : Bool}
instance : Inhabited Attr := ⟨⟨[], []⟩⟩
instance : Inhabited Step := ⟨⟨[], []⟩⟩
instance : Inhabited Rule := ⟨⟨[], []⟩⟩
instance : Inhabited Node := ⟨zeroN⟩
def QB (y : Bytes) (d : DataW H) : Prop := d = .lit (.string y)
def QA (a : Attr) (d : DataW H) : Prop := d = .agg [.lit (.string a.n), .lit (.string a.v)]
def QT (s : Step) (d : DataW H) : Prop := ∃ dk, d = .agg [.lit (.string s.n), dk] ∧ QS QB s.key dk
def QR (r : Rule) (d : DataW H) : Prop := ∃ d1 d2, d = .agg [d1, d2] ∧ QS QB r.path d1 ∧ QS QB r.keys d2
def QN (n : Node) (d : DataW H) : Prop := cntN n ≤ Rows.uptoBulk d
theorem bs_data (s : ByteArray) : bs s.data.toList = s := by cases s; simp [bs]
theorem open_bytes {t : TypeId} (ht : Tryz.prog.underlying t = some .string) {spare : Nat → Bool} {n : Nat} {v : Value} {x : DataW H × List MemPlace} (h : DataW.trod enc Tryz.prog w base spare held n t [v] = some x) : ∃ y : Bytes, Rep w (fun _ => True) v (strD y) ∧ x.1 = .lit (.string y) := by
  obtain ⟨s, h1, h2, h3⟩ := DataW.trod_string ht h
  cases h1
  refine ⟨s.data.toList, ?_, by rw [h2]⟩
  unfold strD
  rw [bs_data]
  exact Rep.string _ _ _ (by unfold maxLen at h3; omega)
theorem open_texts {n : Nat} {cs : List Value} {x : DataW H × List MemPlace} (h : DataW.trod enc Tryz.prog w base (fun _ => true) held n 29 cs = some x) : ∃ (v : Value) (l : List Bytes), cs = [v] ∧ Rep w (fun _ => True) v (strsD l) ∧ QS QB l x.1 :=
  open_rep (f := fun x => [strD x]) (z := 1) z_str QB Tryz.underlying29 (by kernel_rfl) (by omega) (fun n cs x _ h => by
    obtain ⟨s, rfl, _⟩ := DataW.trod_string Tryz.underlying9 h
    obtain ⟨y, h1, h2⟩ := open_bytes Tryz.underlying9 h
    exact ⟨y, Reps.cons h1 (Reps.nil _ _), h2⟩) h
theorem open_attr {n : Nat} {cs : List Value} {x : DataW H × List MemPlace} (h : DataW.trod enc Tryz.prog w base (fun _ => true) held n 74 cs = some x) : ∃ a : Attr, Reps w (fun _ => True) cs (attrC a) ∧ QA a x.1 := by
  obtain ⟨xs, m, _, hx, hl, hxl, hf⟩ := open_fields Tryz.underlying74 (by kernel_rfl) (by intro i f hf; match i, hf with | 0, hf => cases hf; exact ⟨rfl, by kernel_rfl⟩ | 1, hf => cases hf; exact ⟨rfl, by kernel_rfl⟩ | i + 2, hf => simp at hf) h
  obtain ⟨v0, y0, a0, b0, c0⟩ := hf 0 _ rfl
  obtain ⟨v1, y1, a1, b1, c1⟩ := hf 1 _ rfl
  match cs, hl, xs, hxl with
  | [_, _], _, [_, _], _ =>
    cases a0; cases a1; cases b0; cases b1
    obtain ⟨n0, r0, e0⟩ := open_bytes Tryz.underlying9 c0
    obtain ⟨n1, r1, e1⟩ := open_bytes Tryz.underlying9 c1
    exact ⟨⟨n0, n1⟩, Reps.cons r0 (Reps.cons r1 (Reps.nil _ _)), by rw [hx]; simp [QA, e0, e1]⟩
theorem open_attrs {n : Nat} {cs : List Value} {x : DataW H × List MemPlace} (h : DataW.trod enc Tryz.prog w base (fun _ => true) held n 58 cs = some x) : ∃ (v : Value) (l : List Attr), cs = [v] ∧ Rep w (fun _ => True) v (attrsD l) ∧ QS QA l x.1 :=
  open_rep z_attr QA Tryz.underlying58 (by kernel_rfl) (by omega) (fun n cs x _ h => open_attr h) h
theorem open_step {n : Nat} {cs : List Value} {x : DataW H × List MemPlace} (h : DataW.trod enc Tryz.prog w base (fun _ => true) held n 76 cs = some x) : ∃ a : Step, Reps w (fun _ => True) cs (stepC a) ∧ QT a x.1 := by
  obtain ⟨xs, m, _, hx, hl, hxl, hf⟩ := open_fields Tryz.underlying76 (by kernel_rfl) (by intro i f hf; match i, hf with | 0, hf => cases hf; exact ⟨rfl, by kernel_rfl⟩ | 1, hf => cases hf; exact ⟨rfl, by kernel_rfl⟩ | i + 2, hf => simp at hf) h
  obtain ⟨v0, y0, a0, b0, c0⟩ := hf 0 _ rfl
  obtain ⟨v1, y1, a1, b1, c1⟩ := hf 1 _ rfl
  match cs, hl, xs, hxl with
  | [_, _], _, [_, _], _ =>
    cases a0; cases a1; cases b0; cases b1
    obtain ⟨n0, r0, e0⟩ := open_bytes Tryz.underlying9 c0
    obtain ⟨v, k, e, r1, q1⟩ := open_texts c1
    cases e
    exact ⟨⟨n0, k⟩, Reps.cons r0 (Reps.cons r1 (Reps.nil _ _)), _, by rw [hx]; simp [e0], q1⟩
theorem open_steps {n : Nat} {cs : List Value} {x : DataW H × List MemPlace} (h : DataW.trod enc Tryz.prog w base (fun _ => true) held n 24 cs = some x) : ∃ (v : Value) (l : List Step), cs = [v] ∧ Rep w (fun _ => True) v (stepsD l) ∧ QS QT l x.1 :=
  open_rep z_step QT Tryz.underlying24 (by kernel_rfl) (by omega) (fun n cs x _ h => open_step h) h
theorem open_rule {n : Nat} {cs : List Value} {x : DataW H × List MemPlace} (h : DataW.trod enc Tryz.prog w base (fun _ => true) held n 72 cs = some x) : ∃ a : Rule, Reps w (fun _ => True) cs (ruleC a) ∧ QR a x.1 := by
  obtain ⟨xs, m, _, hx, hl, hxl, hf⟩ := open_fields Tryz.underlying72 (by kernel_rfl) (by intro i f hf; match i, hf with | 0, hf => cases hf; exact ⟨rfl, by kernel_rfl⟩ | 1, hf => cases hf; exact ⟨rfl, by kernel_rfl⟩ | i + 2, hf => simp at hf) h
  obtain ⟨v0, y0, a0, b0, c0⟩ := hf 0 _ rfl
  obtain ⟨v1, y1, a1, b1, c1⟩ := hf 1 _ rfl
  match cs, hl, xs, hxl with
  | [_, _], _, [_, _], _ =>
    cases a0; cases a1; cases b0; cases b1
    obtain ⟨v, k, e, r1, q1⟩ := open_texts c0
    cases e
    obtain ⟨v, k', e, r2, q2⟩ := open_texts c1
    cases e
    exact ⟨⟨k, k'⟩, Reps.cons r1 (Reps.cons r2 (Reps.nil _ _)), _, _, by rw [hx]; simp, q1, q2⟩
theorem open_rules {n : Nat} {cs : List Value} {x : DataW H × List MemPlace} (h : DataW.trod enc Tryz.prog w base (fun _ => true) held n 22 cs = some x) : ∃ (v : Value) (l : List Rule), cs = [v] ∧ Rep w (fun _ => True) v (rulesD l) ∧ QS QR l x.1 :=
  open_rep z_rule QR Tryz.underlying22 (by kernel_rfl) (by omega) (fun n cs x _ h => open_rule h) h
-- bulk
theorem bulk_attrs : ∀ (l : List Attr) (es : List (DataW H)), QL QA l es → cntA l ≤ Rows.uptoBulkAll es
  | [], [], _ => Nat.le_refl _
  | [], _ :: _, h => by have := h.1; simp at this
  | _ :: _, [], h => by have := h.1; simp at this
  | a :: l, e :: es, h => by
    have h1 := h.2 0 a e rfl rfl
    have h2 := bulk_attrs l es ⟨by have := h.1; simpa using this, fun i y e' hy he => h.2 (i + 1) y e' (by simpa using hy) (by simpa using he)⟩
    rw [cntA, Rows.uptoBulkAll, h1]
    simp only [Rows.uptoBulk, Rows.uptoBulkAll]
    omega
theorem bulk_nodes : ∀ (l : List Node) (es : List (DataW H)), QL QN l es → cntL l ≤ Rows.uptoBulkAll es
  | [], [], _ => Nat.le_refl _
  | [], _ :: _, h => by have := h.1; simp at this
  | _ :: _, [], h => by have := h.1; simp at this
  | a :: l, e :: es, h => by
    have h1 := h.2 0 a e rfl rfl
    have h2 := bulk_nodes l es ⟨by have := h.1; simpa using this, fun i y e' hy he => h.2 (i + 1) y e' (by simpa using hy) (by simpa using he)⟩
    rw [cntL, Rows.uptoBulkAll]
    unfold QN at h1
    omega
theorem bulk_slice {α : Type} {Q : α → DataW H → Prop} {l : List α} {d : DataW H} (m : List α → Nat) (h0 : m [] = 0) (hm : ∀ es, QL Q l es → m l ≤ Rows.uptoBulkAll es) (h : QS Q l d) : m l + 1 ≤ Rows.uptoBulk d := by
  rcases h with ⟨rfl, rfl⟩ | ⟨es, sp, rfl, hq⟩
  · rw [h0]; simp [Rows.uptoBulk]
  · have := hm es hq; simp only [Rows.uptoBulk]; omega
theorem open_node : ∀ (N : Nat) {n : Nat} {cs : List Value} {x : DataW H × List MemPlace}, n ≤ N → DataW.trod enc Tryz.prog w base (fun _ => true) held n 60 cs = some x → ∃ a : Node, Reps w (fun _ => True) cs (nodeC a) ∧ QN a x.1 := by
  intro N
  induction N with
  | zero =>
    intro n cs x hn h
    obtain rfl : n = 0 := (by omega)
    simp [DataW.trod] at h
  | succ N ih =>
    intro n cs x hn h
    obtain ⟨xs, m, hm, hx, hl, hxl, hf⟩ := open_fields Tryz.underlying60 (by kernel_rfl) (by intro i f hf; match i, hf with | 0, hf => cases hf; exact ⟨rfl, by kernel_rfl⟩ | 1, hf => cases hf; exact ⟨rfl, by kernel_rfl⟩ | 2, hf => cases hf; exact ⟨rfl, by kernel_rfl⟩ | 3, hf => cases hf; exact ⟨rfl, by kernel_rfl⟩ | 4, hf => cases hf; exact ⟨rfl, by kernel_rfl⟩ | i + 5, hf => simp at hf) h
    obtain ⟨v0, y0, a0, b0, c0⟩ := hf 0 _ rfl
    obtain ⟨v1, y1, a1, b1, c1⟩ := hf 1 _ rfl
    obtain ⟨v2, y2, a2, b2, c2⟩ := hf 2 _ rfl
    obtain ⟨v3, y3, a3, b3, c3⟩ := hf 3 _ rfl
    obtain ⟨v4, y4, a4, b4, c4⟩ := hf 4 _ rfl
    match cs, hl, xs, hxl with
    | [_, _, _, _, _], _, [_, _, _, _, _], _ =>
      cases a0; cases a1; cases a2; cases a3; cases a4; cases b0; cases b1; cases b2; cases b3; cases b4
      obtain ⟨k, e, e0, _⟩ := DataW.trod_int Tryz.underlying3 c0
      cases e
      obtain ⟨n1, r1, e1⟩ := open_bytes Tryz.underlying9 c1
      obtain ⟨n2, r2, e2⟩ := open_bytes Tryz.underlying9 c2
      obtain ⟨v, la, e, r3, q3⟩ := open_attrs c3
      cases e
      obtain ⟨v, ks, e, r4, q4⟩ := open_rep z_node QN Tryz.underlying23 (by kernel_rfl) (by omega) (fun n' cs' x' hn' h' => ih (by omega) h') c4
      cases e
      refine ⟨.mk k n1 n2 la ks, ?_, ?_⟩
      · rw [nodeC_eq]
        exact Reps.cons (Rep.int _ _ _ _) (Reps.cons r1 (Reps.cons r2 (Reps.cons r3 (Reps.cons r4 (Reps.nil _ _)))))
      · have h3 := bulk_slice cntA rfl (fun es => bulk_attrs la es) q3
        have h4 := bulk_slice cntL rfl (fun es => bulk_nodes ks es) q4
        unfold QN
        rw [hx, cntN]
        simp only [List.map_cons, List.map_nil, e0, e1, e2, Rows.uptoBulk, Rows.uptoBulkAll]
        omega
theorem open_nodes {n : Nat} {cs : List Value} {x : DataW H × List MemPlace} (h : DataW.trod enc Tryz.prog w base (fun _ => true) held n 23 cs = some x) : ∃ (v : Value) (l : List Node), cs = [v] ∧ Rep w (fun _ => True) v (nodesD l) ∧ QS QN l x.1 :=
  open_rep z_node QN Tryz.underlying23 (by kernel_rfl) (by omega) (fun n' cs' x' _ h' => open_node n' (Nat.le_refl _) h') h
theorem ql_len {α : Type} {Q : α → DataW H → Prop} {l : List α} {es : List (DataW H)} (h : QL Q l es) : l.length ≤ Rows.uptoBulkAll es := by
  have h1 : ∀ es : List (DataW H), es.length ≤ Rows.uptoBulkAll es := fun es => by
    induction es with
    | nil => simp [Rows.uptoBulkAll]
    | cons e r ih => rw [Rows.uptoBulkAll, List.length_cons]; have : 1 ≤ Rows.uptoBulk e := by cases e with
        | lit l => cases l <;> simp [Rows.uptoBulk]
        | _ => simp [Rows.uptoBulk]
                     omega
  rw [← h.1]; exact h1 es
theorem part_le : ∀ (es : List (DataW H)) (e : DataW H), e ∈ es → Rows.uptoBulk e ≤ Rows.uptoBulkAll es
  | [], _, h => by cases h
  | a :: r, e, h => by
    rw [Rows.uptoBulkAll]
    rcases List.mem_cons.1 h with h | h
    · rw [h]; omega
    · have := part_le r e h; omega
theorem qs_len {α : Type} {Q : α → DataW H → Prop} {l : List α} {d : DataW H} (h : QS Q l d) : l.length ≤ Rows.uptoBulk d := by
  have := bulk_slice List.length rfl (fun es => ql_len (es := es)) h; omega
theorem qs_mem {α : Type} {Q : α → DataW H → Prop} {l : List α} {d : DataW H} (h : QS Q l d) (y : α) (hy : y ∈ l) : ∃ e, Q y e ∧ Rows.uptoBulk e ≤ Rows.uptoBulk d := by
  rcases h with ⟨rfl, rfl⟩ | ⟨es, sp, rfl, hq⟩
  · cases hy
  · obtain ⟨i, hi, rfl⟩ := List.mem_iff_getElem.1 hy
    have hie : i < es.length := by rw [hq.1]; exact hi
    refine ⟨es[i], hq.2 i _ _ (List.getElem?_eq_getElem hi) (List.getElem?_eq_getElem hie), ?_⟩
    have := part_le es es[i] (List.getElem_mem hie)
    simp only [Rows.uptoBulk]; omega
theorem texts_bulk {l : List Bytes} {d : DataW H} (h : QS QB l d) (y : Bytes) (hy : y ∈ l) : y.length ≤ Rows.uptoBulk d := by
  obtain ⟨e, he, hb⟩ := qs_mem h y hy
  have he' : e = .lit (.string y) := he
  rw [he'] at hb
  simp only [Rows.uptoBulk] at hb; omega
theorem rules_b {l : List Rule} {d : DataW H} (h : QS QR l d) (hd : Rows.uptoBulk d ≤ 1048576) : RulesB l := fun r hr => by
  obtain ⟨e, ⟨d1, d2, rfl, q1, q2⟩, hb⟩ := qs_mem h r hr
  simp only [Rows.uptoBulk, Rows.uptoBulkAll] at hb
  have h1 := qs_len q1
  have h2 := qs_len q2
  exact ⟨by omega, by omega, fun x hx => by have := texts_bulk q1 x hx; omega, fun x hx => by have := texts_bulk q2 x hx; omega⟩
theorem nodes_b {l : List Node} {d : DataW H} (h : QS QN l d) (hd : Rows.uptoBulk d ≤ 1048576) : ∀ n ∈ l, cntN n ≤ 1048576 := fun n hn => by
  obtain ⟨e, he, hb⟩ := qs_mem h n hn
  unfold QN at he; omega
end
end Go.Proofs.YtkelpbbekeelcaaGreatDoor
