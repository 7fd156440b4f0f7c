/-
  The law's arguments, opened: a tree, two values; their bulk. Helper lemmas; no statement of the seat is proved here.
-/
import Derived.Test.YtmmopcceabdecaaGreatDoorOpen
import Derived.Test.YtmmopcceabdecaaGreatDoorV11
import Derived.OpenShut
namespace Go.Proofs.YtmmopcceabdecaaGreatDoor
open Go.RowKit Go.Deep
set_option linter.unusedVariables false
set_option maxRecDepth 100000

section
variable {H : Type} {enc : TypeId × Value → H} {w : World} {base : Nat} {held : Bool}
instance : Inhabited Attr := ⟨⟨[], []⟩⟩
instance : Inhabited Node := ⟨.mk 0 [] [] [] []⟩
def QB (y : Bytes) (d : DataW H) : Prop := d = .lit (.string y)
def QA (a : Attr) (d : DataW H) : Prop := d = .agg [.lit (.string a.n), .lit (.string a.v)]
def QNd (n : Node) (d : DataW H) : Prop := cntN n ≤ Rows.uptoBulk d
theorem bs_data (s : ByteArray) : bs s.data.toList = s := by cases s; simp [bs]
theorem open_bytes {t : TypeId} (ht : Tryz.prog.underlying t = some .string) {spare : Nat → Bool} {n : Nat} {v : Value} {x : DataW H × List MemPlace} (h : DataW.trod enc Tryz.prog w base spare held n t [v] = some x) : ∃ y : Bytes, Rep w (fun _ => True) v (strD y) ∧ x.1 = .lit (.string y) := by
  obtain ⟨s, h1, h2, h3⟩ := DataW.trod_string ht h
  cases h1
  refine ⟨s.data.toList, ?_, by rw [h2]⟩
  unfold strD
  rw [bs_data]
  exact Rep.string _ _ _ (by unfold maxLen at h3; omega)
theorem open_attr {n : Nat} {cs : List Value} {x : DataW H × List MemPlace} (h : DataW.trod enc Tryz.prog w base (fun _ => true) held n 89 cs = some x) : ∃ a : Attr, Reps w (fun _ => True) cs (attrC a) ∧ QA a x.1 := by
  obtain ⟨xs, m, _, hx, hl, hxl, hf⟩ := open_fields Tryz.underlying89 (by kernel_rfl) (by intro i f hf; match i, hf with | 0, hf => cases hf; exact ⟨rfl, by kernel_rfl⟩ | 1, hf => cases hf; exact ⟨rfl, by kernel_rfl⟩ | i + 2, hf => simp at hf) h
  obtain ⟨v0, y0, a0, b0, c0⟩ := hf 0 _ rfl
  obtain ⟨v1, y1, a1, b1, c1⟩ := hf 1 _ rfl
  match cs, hl, xs, hxl with
  | [_, _], _, [_, _], _ =>
    cases a0; cases a1; cases b0; cases b1
    obtain ⟨n0, r0, e0⟩ := open_bytes Tryz.underlying9 c0
    obtain ⟨n1, r1, e1⟩ := open_bytes Tryz.underlying9 c1
    exact ⟨⟨n0, n1⟩, Reps.cons r0 (Reps.cons r1 (Reps.nil _ _)), by rw [hx]; simp [QA, e0, e1]⟩
theorem open_attrs {n : Nat} {cs : List Value} {x : DataW H × List MemPlace} (h : DataW.trod enc Tryz.prog w base (fun _ => true) held n 22 cs = some x) : ∃ (v : Value) (l : List Attr), cs = [v] ∧ Rep w (fun _ => True) v (attrsD l) ∧ QS QA l x.1 :=
  open_rep z_attr QA Tryz.underlying22 (by kernel_rfl) (by omega) (fun n cs x _ h => open_attr h) h
theorem bulk_attrs : ∀ (l : List Attr) (es : List (DataW H)), QL QA l es → cntA l ≤ Rows.uptoBulkAll es
  | [], [], _ => Nat.le_refl _
  | [], _ :: _, h => by have := h.1; simp at this
  | _ :: _, [], h => by have := h.1; simp at this
  | a :: l, e :: es, h => by
    have h1 := h.2 0 a e rfl rfl
    have h2 := bulk_attrs l es ⟨by have := h.1; simpa using this, fun i y e' hy he => h.2 (i + 1) y e' (by simpa using hy) (by simpa using he)⟩
    rw [cntA, Rows.uptoBulkAll, h1]
    simp only [Rows.uptoBulk, Rows.uptoBulkAll]
    omega
theorem bulk_nodes : ∀ (l : List Node) (es : List (DataW H)), QL QNd l es → cntL l ≤ Rows.uptoBulkAll es
  | [], [], _ => Nat.le_refl _
  | [], _ :: _, h => by have := h.1; simp at this
  | _ :: _, [], h => by have := h.1; simp at this
  | a :: l, e :: es, h => by
    have h1 := h.2 0 a e rfl rfl
    have h2 := bulk_nodes l es ⟨by have := h.1; simpa using this, fun i y e' hy he => h.2 (i + 1) y e' (by simpa using hy) (by simpa using he)⟩
    rw [cntL, Rows.uptoBulkAll]
    unfold QNd at h1
    omega
theorem bulk_slice {α : Type} {Q : α → DataW H → Prop} {l : List α} {d : DataW H} (m : List α → Nat) (h0 : m [] = 0) (hm : ∀ es, QL Q l es → m l ≤ Rows.uptoBulkAll es) (h : QS Q l d) : m l + 1 ≤ Rows.uptoBulk d := by
  rcases h with ⟨rfl, rfl⟩ | ⟨es, sp, rfl, hq⟩
  · rw [h0]; simp [Rows.uptoBulk]
  · have := hm es hq; simp only [Rows.uptoBulk]; omega
theorem open_node : ∀ (N : Nat) {n : Nat} {cs : List Value} {x : DataW H × List MemPlace}, n ≤ N → DataW.trod enc Tryz.prog w base (fun _ => true) held n 25 cs = some x → ∃ a : Node, Reps w (fun _ => True) cs (nodeC a) ∧ QNd a x.1 := by
  intro N
  induction N with
  | zero =>
    intro n cs x hn h
    obtain rfl : n = 0 := (by omega)
    simp [DataW.trod] at h
  | succ N ih =>
    intro n cs x hn h
    obtain ⟨xs, m, hm, hx, hl, hxl, hf⟩ := open_fields Tryz.underlying25 (by kernel_rfl) (by intro i f hf; match i, hf with | 0, hf => cases hf; exact ⟨rfl, by kernel_rfl⟩ | 1, hf => cases hf; exact ⟨rfl, by kernel_rfl⟩ | 2, hf => cases hf; exact ⟨rfl, by kernel_rfl⟩ | 3, hf => cases hf; exact ⟨rfl, by kernel_rfl⟩ | 4, hf => cases hf; exact ⟨rfl, by kernel_rfl⟩ | i + 5, hf => simp at hf) h
    obtain ⟨v0, y0, a0, b0, c0⟩ := hf 0 _ rfl
    obtain ⟨v1, y1, a1, b1, c1⟩ := hf 1 _ rfl
    obtain ⟨v2, y2, a2, b2, c2⟩ := hf 2 _ rfl
    obtain ⟨v3, y3, a3, b3, c3⟩ := hf 3 _ rfl
    obtain ⟨v4, y4, a4, b4, c4⟩ := hf 4 _ rfl
    match cs, hl, xs, hxl with
    | [_, _, _, _, _], _, [_, _, _, _, _], _ =>
      cases a0; cases a1; cases a2; cases a3; cases a4; cases b0; cases b1; cases b2; cases b3; cases b4
      obtain ⟨k, e, e0, _⟩ := DataW.trod_int Tryz.underlying3 c0
      cases e
      obtain ⟨n1, r1, e1⟩ := open_bytes Tryz.underlying9 c1
      obtain ⟨n2, r2, e2⟩ := open_bytes Tryz.underlying9 c2
      obtain ⟨v, la, e, r3, q3⟩ := open_attrs c3
      cases e
      obtain ⟨v, ks, e, r4, q4⟩ := open_rep z_node QNd Tryz.underlying23 (by kernel_rfl) (by omega) (fun n' cs' x' hn' h' => ih (by omega) h') c4
      cases e
      refine ⟨.mk k n1 n2 la ks, ?_, ?_⟩
      · rw [nodeC_eq]
        exact Reps.cons (Rep.int _ _ _ _) (Reps.cons r1 (Reps.cons r2 (Reps.cons r3 (Reps.cons r4 (Reps.nil _ _)))))
      · have h3 := bulk_slice cntA rfl (fun es => bulk_attrs la es) q3
        have h4 := bulk_slice cntL rfl (fun es => bulk_nodes ks es) q4
        unfold QNd
        rw [hx, cntN]
        simp only [List.map_cons, List.map_nil, e0, e1, e2, Rows.uptoBulk, Rows.uptoBulkAll]
        omega
theorem open_nodeV {n : Nat} {cs : List Value} {x : DataW H × List MemPlace} (h : DataW.trod enc Tryz.prog w base (fun _ => true) held n 25 cs = some x) : ∃ (a : Node) (va vk : Value), cs = [.int .i64 a.kind, .string (bs a.name), .string (bs a.text), va, vk] ∧ Rep w (fun _ => True) va (attrsD a.attrs) ∧ Rep w (fun _ => True) vk (nodesD a.kids) ∧ QNd a x.1 := by
  obtain ⟨a, hr, hq⟩ := open_node n (Nat.le_refl _) h
  rw [nodeC_eq] at hr
  have hl : cs.length = 5 := hr.1
  match cs, hl with
  | [c0, c1, c2, c3, c4], _ =>
    have r0 : Rep w (fun _ => True) c0 (intD a.kind) := hr.2 0 _ _ rfl rfl
    have r1 : Rep w (fun _ => True) c1 (strD a.name) := hr.2 1 _ _ rfl rfl
    have r2 : Rep w (fun _ => True) c2 (strD a.text) := hr.2 2 _ _ rfl rfl
    refine ⟨a, c3, c4, ?_, hr.2 3 _ _ rfl rfl, hr.2 4 _ _ rfl rfl, hq⟩
    rw [Rep.is r0, Rep.is r1, Rep.is r2]
def QI (y : Int) (d : DataW H) : Prop := True
theorem open_ints {n : Nat} {cs : List Value} {x : DataW H × List MemPlace} (h : DataW.trod enc Tryz.prog w base (fun _ => true) held n 26 cs = some x) : ∃ (v : Value) (l : List Int), cs = [v] ∧ Rep w (fun _ => True) v (numsD .i64 l) ∧ QS QI l x.1 :=
  open_rep (f := fun x => [.v (.int .i64 x)]) (z := 1) (z_num .i64) QI Tryz.underlying26 (by kernel_rfl) (by omega) (fun n cs x _ h => by
    obtain ⟨k, rfl, hx, hk⟩ := DataW.trod_int Tryz.underlying3 h
    exact ⟨k, Reps.cons (Rep.int _ _ _ _) (Reps.nil _ _), trivial⟩) h
theorem cellsI : Tryz.prog.cellsOf 3 = 1 := by kernel_rfl
theorem cellsIs : Tryz.prog.cellsOf 26 = 1 := by kernel_rfl
theorem cellsB : Tryz.prog.cellsOf 4 = 1 := by kernel_rfl
theorem cellsN : Tryz.prog.cellsOf 28 = 2 := by kernel_rfl
theorem cellsL : Tryz.prog.cellsOf 2 = 1 := by kernel_rfl
theorem cellsS : Tryz.prog.cellsOf 9 = 1 := by kernel_rfl
theorem cellsV : Tryz.prog.cellsOf 30 = 6 := by kernel_rfl
theorem cellsVs : Tryz.prog.cellsOf 31 = 12 := by kernel_rfl
theorem open_val {n : Nat} {cs : List Value} {x : DataW H × List MemPlace} (h : DataW.trod enc Tryz.prog w base (fun _ => true) held n 30 cs = some x) : ∃ (b : VV) (ns : List Int), cs = vvL b ∧ Rep w (fun _ => True) b.nd (numsD .i64 ns) ∧ b.text.length ≤ Rows.uptoBulk x.1 := by
  obtain ⟨xs, m, rfl, rfl, hl, hxl, hf⟩ := DataW.trod_struct Tryz.underlying30 h
  rw [cellsV] at hl
  match cs, hl, xs, hxl with
  | [c0, c1, c2, c3, c4, c5], _, [y0, y1, y2, y3, y4], _ =>
    have f0 := hf 0 _ rfl; have f1 := hf 1 _ rfl; have f2 := hf 2 _ rfl; have f3 := hf 3 _ rfl; have f4 := hf 4 _ rfl
    replace f0 : DataW.trod enc Tryz.prog w base (fun _ => true) held m 3 (List.take (Tryz.prog.cellsOf 3) (List.drop 0 [c0, c1, c2, c3, c4, c5])) = some y0 := f0
    rw [cellsI] at f0
    replace f0 : DataW.trod enc Tryz.prog w base (fun _ => true) held m 3 [c0] = some y0 := f0
    replace f1 : DataW.trod enc Tryz.prog w base (fun _ => true) held m 26 (List.take (Tryz.prog.cellsOf 26) (List.drop 1 [c0, c1, c2, c3, c4, c5])) = some y1 := f1
    rw [cellsIs] at f1
    replace f1 : DataW.trod enc Tryz.prog w base (fun _ => true) held m 26 [c1] = some y1 := f1
    replace f2 : DataW.trod enc Tryz.prog w base (fun _ => true) held m 4 (List.take (Tryz.prog.cellsOf 4) (List.drop 2 [c0, c1, c2, c3, c4, c5])) = some y2 := f2
    rw [cellsB] at f2
    replace f2 : DataW.trod enc Tryz.prog w base (fun _ => true) held m 4 [c2] = some y2 := f2
    replace f3 : DataW.trod enc Tryz.prog w base (fun _ => true) held m 28 (List.take (Tryz.prog.cellsOf 28) (List.drop 3 [c0, c1, c2, c3, c4, c5])) = some y3 := f3
    rw [cellsN] at f3
    replace f3 : DataW.trod enc Tryz.prog w base (fun _ => true) held m 28 [c3, c4] = some y3 := f3
    replace f4 : DataW.trod enc Tryz.prog w base (fun _ => true) held m 9 (List.take (Tryz.prog.cellsOf 9) (List.drop 5 [c0, c1, c2, c3, c4, c5])) = some y4 := f4
    rw [cellsS] at f4
    replace f4 : DataW.trod enc Tryz.prog w base (fun _ => true) held m 9 [c5] = some y4 := f4
    obtain ⟨k, e0, _⟩ := DataW.trod_int Tryz.underlying3 f0
    obtain ⟨nv, ns, e1, r1, _⟩ := open_ints f1
    obtain ⟨bo, e2, _⟩ := DataW.trod_bool Tryz.underlying4 f2
    obtain ⟨zs, m', rfl, _, _, hzl, hz⟩ := DataW.trod_struct Tryz.underlying28 f3
    obtain ⟨t, r4, e4⟩ := open_bytes Tryz.underlying9 f4
    match zs, hzl with
    | [z0, z1], _ =>
      have g0 := hz 0 _ rfl; have g1 := hz 1 _ rfl
      replace g0 : DataW.trod enc Tryz.prog w base (fun _ => true) held m' 4 (List.take (Tryz.prog.cellsOf 4) (List.drop 0 [c3, c4])) = some z0 := g0
      rw [cellsB] at g0
      replace g0 : DataW.trod enc Tryz.prog w base (fun _ => true) held m' 4 [c3] = some z0 := g0
      replace g1 : DataW.trod enc Tryz.prog w base (fun _ => true) held m' 2 (List.take (Tryz.prog.cellsOf 2) (List.drop 1 [c3, c4])) = some z1 := g1
      rw [cellsL] at g1
      replace g1 : DataW.trod enc Tryz.prog w base (fun _ => true) held m' 2 [c4] = some z1 := g1
      obtain ⟨nan, e5, _⟩ := DataW.trod_bool Tryz.underlying4 g0
      obtain ⟨v, e6, _⟩ := DataW.trod_int Tryz.underlying2 g1
      cases e0; cases e1; cases e2; cases e5; cases e6
      obtain rfl := Rep.is r4
      refine ⟨⟨k, _, bo, nan, v, t⟩, ns, rfl, r1, ?_⟩
      simp only [List.map_cons, List.map_nil, Rows.uptoBulk, Rows.uptoBulkAll, e4]
      omega
theorem open_vals {n : Nat} {cs : List Value} {x : DataW H × List MemPlace} (h : DataW.trod enc Tryz.prog w base (fun _ => true) held n 31 cs = some x) : ∃ (a b : VV) (na nb : List Int), cs = vvL a ++ vvL b ∧ Rep w (fun _ => True) a.nd (numsD .i64 na) ∧ Rep w (fun _ => True) b.nd (numsD .i64 nb) ∧ b.text.length ≤ Rows.uptoBulk x.1 := by
  obtain ⟨xs, m, rfl, rfl, hl, hxl, hf⟩ := DataW.trod_array Tryz.underlying31 h
  rw [cellsVs] at hl
  rw [cellsV] at hf
  match xs, hxl with
  | [y0, y1], _ =>
    obtain ⟨a, na, ea, ra, _⟩ := open_val (x := y0) (hf 0 (by decide))
    obtain ⟨b, nb, eb, rb, hb⟩ := open_val (x := y1) (hf 1 (by decide))
    refine ⟨a, b, na, nb, ?_, ra, rb, ?_⟩
    · rw [← ea, ← eb, Nat.zero_mul, List.drop_zero, Nat.one_mul, List.take_of_length_le (l := cs.drop 6) (by rw [List.length_drop]; omega), List.take_append_drop]
    · simp only [List.map_cons, List.map_nil, Rows.uptoBulk, Rows.uptoBulkAll]
      omega
end
end Go.Proofs.YtmmopcceabdecaaGreatDoor
