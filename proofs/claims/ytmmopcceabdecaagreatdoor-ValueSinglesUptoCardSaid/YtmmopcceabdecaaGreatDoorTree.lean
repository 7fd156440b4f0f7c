/-
  The data of the statements, plain, and what they read as in memory. Helper lemmas; no statement of the seat is proved here.
-/
import Derived.Test.YtmmopcceabdecaaGreatDoorStr
import Derived.Test.YtmmopcceabdecaaGreatDoorRep
namespace Go.Proofs.YtmmopcceabdecaaGreatDoor
open Go.RowKit
set_option linter.unusedVariables false

abbrev Bytes := List UInt8
structure Attr where
  n : Bytes
  v : Bytes
structure Span where
  a : Int
  b : Int
structure Step where
  n : Bytes
  key : List Bytes
structure Rule where
  path : List Bytes
  keys : List Bytes
inductive Node
  | mk (kind : Int) (name text : Bytes) (attrs : List Attr) (kids : List Node)
structure Part where
  vers : List Span
  attrs : List Attr
  kids : List Node
inductive ANode
  | mk (name : Bytes) (key : List Bytes) (vers : List Span) (parts : List Part) (kids : List ANode)
def Node.kind : Node → Int | .mk k _ _ _ _ => k
def Node.name : Node → Bytes | .mk _ n _ _ _ => n
def Node.text : Node → Bytes | .mk _ _ t _ _ => t
def Node.attrs : Node → List Attr | .mk _ _ _ a _ => a
def Node.kids : Node → List Node | .mk _ _ _ _ k => k
def ANode.name : ANode → Bytes | .mk n _ _ _ _ => n
def ANode.key : ANode → List Bytes | .mk _ k _ _ _ => k
def ANode.vers : ANode → List Span | .mk _ _ v _ _ => v
def ANode.parts : ANode → List Part | .mk _ _ _ p _ => p
def ANode.kids : ANode → List ANode | .mk _ _ _ _ k => k

def strD (l : Bytes) : DV := .v (.string (bs l))
def intD (n : Int) : DV := .v (.int .i64 n)
def strsD (l : List Bytes) : DV := .s 1 (l.flatMap fun x => [strD x])
def attrC (a : Attr) : List DV := [strD a.n, strD a.v]
def attrsD (l : List Attr) : DV := .s 2 (l.flatMap attrC)
def spanC (s : Span) : List DV := [intD s.a, intD s.b]
def spansD (l : List Span) : DV := .s 2 (l.flatMap spanC)
def stepC (s : Step) : List DV := [strD s.n, strsD s.key]
def stepsD (l : List Step) : DV := .s 2 (l.flatMap stepC)
def ruleC (r : Rule) : List DV := [strsD r.path, strsD r.keys]
def rulesD (l : List Rule) : DV := .s 2 (l.flatMap ruleC)
mutual
def nodeC : Node → List DV
  | .mk k n t la ks => [intD k, strD n, strD t, attrsD la, .s 5 (nodesC ks)]
def nodesC : List Node → List DV
  | [] => []
  | n :: r => nodeC n ++ nodesC r
end
def nodesD (l : List Node) : DV := .s 5 (l.flatMap nodeC)
theorem nodesC_eq : ∀ l : List Node, nodesC l = l.flatMap nodeC
  | [] => rfl
  | n :: r => by rw [nodesC, List.flatMap_cons, nodesC_eq r]
theorem nodeC_eq (n : Node) : nodeC n = [intD n.kind, strD n.name, strD n.text, attrsD n.attrs, nodesD n.kids] := by
  cases n
  rw [nodeC, nodesC_eq]; rfl
def partC (p : Part) : List DV := [spansD p.vers, attrsD p.attrs, nodesD p.kids]
def partsD (l : List Part) : DV := .s 3 (l.flatMap partC)
mutual
def anodeC : ANode → List DV
  | .mk n k v p ks => [strD n, strsD k, spansD v, partsD p, .s 5 (anodesC ks)]
def anodesC : List ANode → List DV
  | [] => []
  | n :: r => anodeC n ++ anodesC r
end
def anodesD (l : List ANode) : DV := .s 5 (l.flatMap anodeC)
theorem anodesC_eq : ∀ l : List ANode, anodesC l = l.flatMap anodeC
  | [] => rfl
  | n :: r => by rw [anodesC, List.flatMap_cons, anodesC_eq r]
theorem anodeC_eq (n : ANode) : anodeC n = [strD n.name, strsD n.key, spansD n.vers, partsD n.parts, anodesD n.kids] := by
  cases n
  rw [anodeC, anodesC_eq]; rfl

theorem flat_len {α : Type} (f : α → List DV) (z : Nat) (hz : ∀ x, (f x).length = z) : ∀ l : List α, (l.flatMap f).length = l.length * z
  | [] => by simp
  | x :: r => by rw [List.flatMap_cons, List.length_append, hz, flat_len f z hz r, List.length_cons, Nat.add_mul]; omega
theorem flat_get {α : Type} (f : α → List DV) (z : Nat) (hz : ∀ x, (f x).length = z) : ∀ (l : List α) (i : Nat) (hi : i < l.length) (j : Nat), j < z → (l.flatMap f)[i * z + j]? = (f l[i])[j]?
  | [], i, hi, j, hj => absurd hi (Nat.not_lt_zero _)
  | x :: r, 0, hi, j, hj => by rw [List.flatMap_cons, Nat.zero_mul, Nat.zero_add, List.getElem?_append_left (by rw [hz]; exact hj)]; rfl
  | x :: r, i + 1, hi, j, hj => by
    rw [List.flatMap_cons, List.getElem?_append_right (by rw [hz, Nat.add_mul]; omega), hz, show (i + 1) * z + j - z = i * z + j by rw [Nat.add_mul]; omega, flat_get f z hz r i (by simpa using hi) j hj]
    rfl
/-- Element i of a slice: where its cells lie, and what they read as. -/
theorem elem_at {α : Type} {f : α → List DV} {z : Nat} (hz : ∀ x, (f x).length = z) {w : World} {p : Nat → Prop} {a : Option Addr} {len cap : Nat} {l : List α} (h : Rep w p (.slice a len cap) (.s z (l.flatMap f))) (h0 : 0 < z) (i : Nat) (hi : i < l.length) :
    ∃ b off, a = some ⟨b, off, none⟩ ∧ b < w.heap.size ∧ p b ∧ ∀ j e, (f l[i])[j]? = some e → ∃ u, w.cell? ⟨b, off + (i * z + j), none⟩ = some u ∧ Rep w p u e := by
  have hlen := flat_len f z hz l
  have hpos : 0 < (l.flatMap f).length := by
    rw [hlen]; exact Nat.mul_pos (by omega) h0
  obtain ⟨b, off, ha, hb, hp, hall⟩ := h.all hpos
  refine ⟨b, off, ha, hb, hp, fun j e he => hall _ _ ?_⟩
  have hj : j < z := by rw [← hz l[i]]; exact (List.getElem?_eq_some_iff.1 he).1
  rw [flat_get f z hz l i hi j hj]; exact he
theorem Rep.count {α : Type} {f : α → List DV} {z : Nat} (hz : ∀ x, (f x).length = z) {w : World} {p : Nat → Prop} {v : Value} {l : List α} (h : Rep w p v (.s z (l.flatMap f))) (h0 : 0 < z) : ∃ a cap, v = .slice a l.length cap ∧ l.length ≤ cap ∧ cap ≤ 9223372036854775807 := by
  obtain ⟨a, len, cap, rfl, hl, hc, hm, _⟩ := h.slice
  rw [flat_len f z hz] at hl
  have : l.length = len := Nat.eq_of_mul_eq_mul_right h0 hl
  subst this
  exact ⟨a, cap, rfl, hc, hm⟩
theorem z_str (x : Bytes) : (([strD x] : List DV)).length = 1 := rfl
theorem z_attr (x : Attr) : (attrC x).length = 2 := rfl
theorem z_span (x : Span) : (spanC x).length = 2 := rfl
theorem z_step (x : Step) : (stepC x).length = 2 := rfl
theorem z_rule (x : Rule) : (ruleC x).length = 2 := rfl
theorem z_part (x : Part) : (partC x).length = 3 := rfl
theorem z_node (x : Node) : (nodeC x).length = 5 := by rw [nodeC_eq]; rfl
theorem z_anode (x : ANode) : (anodeC x).length = 5 := by rw [anodeC_eq]; rfl
/-- The cells of an element, by kinds. -/
theorem str_at {w : World} {p : Nat → Prop} {a : Option Addr} {len cap : Nat} {l : List Bytes} (h : Rep w p (.slice a len cap) (strsD l)) (i : Nat) (hi : i < l.length) :
    ∃ b off, a = some ⟨b, off, none⟩ ∧ b < w.heap.size ∧ p b ∧ w.cell? ⟨b, off + i, none⟩ = some (.string (bs l[i])) := by
  obtain ⟨b, off, ha, hb, hp, hc⟩ := elem_at z_str h (by omega) i hi
  obtain ⟨u, hu, hr⟩ := hc 0 _ rfl
  rw [Nat.mul_one, Nat.add_zero] at hu
  exact ⟨b, off, ha, hb, hp, by rw [hu, hr.is]⟩
theorem attr_at {w : World} {p : Nat → Prop} {a : Option Addr} {len cap : Nat} {l : List Attr} (h : Rep w p (.slice a len cap) (attrsD l)) (i : Nat) (hi : i < l.length) :
    ∃ b off, a = some ⟨b, off, none⟩ ∧ b < w.heap.size ∧ p b ∧ w.cell? ⟨b, off + i * 2, none⟩ = some (.string (bs l[i].n)) ∧ w.cell? ⟨b, off + i * 2 + 1, none⟩ = some (.string (bs l[i].v)) := by
  obtain ⟨b, off, ha, hb, hp, hc⟩ := elem_at z_attr h (by omega) i hi
  obtain ⟨u, hu, hr⟩ := hc 0 _ rfl
  obtain ⟨u1, hu1, hr1⟩ := hc 1 _ rfl
  exact ⟨b, off, ha, hb, hp, by rw [← hr.is]; exact hu, by rw [← hr1.is]; exact hu1⟩
theorem span_at {w : World} {p : Nat → Prop} {a : Option Addr} {len cap : Nat} {l : List Span} (h : Rep w p (.slice a len cap) (spansD l)) (i : Nat) (hi : i < l.length) :
    ∃ b off, a = some ⟨b, off, none⟩ ∧ b < w.heap.size ∧ p b ∧ w.cell? ⟨b, off + i * 2, none⟩ = some (.int .i64 l[i].a) ∧ w.cell? ⟨b, off + i * 2 + 1, none⟩ = some (.int .i64 l[i].b) := by
  obtain ⟨b, off, ha, hb, hp, hc⟩ := elem_at z_span h (by omega) i hi
  obtain ⟨u, hu, hr⟩ := hc 0 _ rfl
  obtain ⟨u1, hu1, hr1⟩ := hc 1 _ rfl
  exact ⟨b, off, ha, hb, hp, by rw [← hr.is]; exact hu, by rw [← hr1.is]; exact hu1⟩
theorem step_at {w : World} {p : Nat → Prop} {a : Option Addr} {len cap : Nat} {l : List Step} (h : Rep w p (.slice a len cap) (stepsD l)) (i : Nat) (hi : i < l.length) :
    ∃ b off k, a = some ⟨b, off, none⟩ ∧ b < w.heap.size ∧ p b ∧ w.cell? ⟨b, off + i * 2, none⟩ = some (.string (bs l[i].n)) ∧ w.cell? ⟨b, off + i * 2 + 1, none⟩ = some k ∧ Rep w p k (strsD l[i].key) := by
  obtain ⟨b, off, ha, hb, hp, hc⟩ := elem_at z_step h (by omega) i hi
  obtain ⟨u, hu, hr⟩ := hc 0 _ rfl
  obtain ⟨u1, hu1, hr1⟩ := hc 1 _ rfl
  exact ⟨b, off, u1, ha, hb, hp, by rw [← hr.is]; exact hu, hu1, hr1⟩
theorem rule_at {w : World} {p : Nat → Prop} {a : Option Addr} {len cap : Nat} {l : List Rule} (h : Rep w p (.slice a len cap) (rulesD l)) (i : Nat) (hi : i < l.length) :
    ∃ b off x y, a = some ⟨b, off, none⟩ ∧ b < w.heap.size ∧ p b ∧ w.cell? ⟨b, off + i * 2, none⟩ = some x ∧ w.cell? ⟨b, off + i * 2 + 1, none⟩ = some y ∧ Rep w p x (strsD l[i].path) ∧ Rep w p y (strsD l[i].keys) := by
  obtain ⟨b, off, ha, hb, hp, hc⟩ := elem_at z_rule h (by omega) i hi
  obtain ⟨u, hu, hr⟩ := hc 0 _ rfl
  obtain ⟨u1, hu1, hr1⟩ := hc 1 _ rfl
  exact ⟨b, off, u, u1, ha, hb, hp, hu, hu1, hr, hr1⟩
theorem node_at {w : World} {p : Nat → Prop} {a : Option Addr} {len cap : Nat} {l : List Node} (h : Rep w p (.slice a len cap) (nodesD l)) (i : Nat) (hi : i < l.length) :
    ∃ b off x y, a = some ⟨b, off, none⟩ ∧ b < w.heap.size ∧ p b ∧ w.cell? ⟨b, off + i * 5, none⟩ = some (.int .i64 l[i].kind) ∧ w.cell? ⟨b, off + i * 5 + 1, none⟩ = some (.string (bs l[i].name)) ∧ w.cell? ⟨b, off + i * 5 + 2, none⟩ = some (.string (bs l[i].text)) ∧
      w.cell? ⟨b, off + i * 5 + 3, none⟩ = some x ∧ w.cell? ⟨b, off + i * 5 + 4, none⟩ = some y ∧ Rep w p x (attrsD l[i].attrs) ∧ Rep w p y (nodesD l[i].kids) := by
  obtain ⟨b, off, ha, hb, hp, hc⟩ := elem_at z_node h (by omega) i hi
  rw [nodeC_eq] at hc
  obtain ⟨u, hu, hr⟩ := hc 0 _ rfl
  obtain ⟨u1, hu1, hr1⟩ := hc 1 _ rfl
  obtain ⟨u2, hu2, hr2⟩ := hc 2 _ rfl
  obtain ⟨u3, hu3, hr3⟩ := hc 3 _ rfl
  obtain ⟨u4, hu4, hr4⟩ := hc 4 _ rfl
  exact ⟨b, off, u3, u4, ha, hb, hp, by rw [← hr.is]; exact hu, by rw [← hr1.is]; exact hu1, by rw [← hr2.is]; exact hu2, hu3, hu4, hr3, hr4⟩
theorem Rep.len {w : World} {p : Nat → Prop} {u : Value} {l : Bytes} (h : Rep w p u (strD l)) : l.length ≤ 9223372036854775807 := by have := h.bound; rw [bs_size] at this; exact this
theorem strs_len {w : World} {p : Nat → Prop} {v : Value} {l : List Bytes} (h : Rep w p v (strsD l)) (i : Nat) (hi : i < l.length) : l[i].length ≤ 9223372036854775807 := by
  obtain ⟨a, c, rfl, _, _⟩ := h.count z_str (by omega)
  obtain ⟨b, off, ha, hb, hp, hc⟩ := elem_at z_str h (by omega) i hi
  obtain ⟨u, hu, hr⟩ := hc 0 _ rfl
  exact hr.len
theorem attr_len {w : World} {p : Nat → Prop} {v : Value} {l : List Attr} (h : Rep w p v (attrsD l)) (i : Nat) (hi : i < l.length) : l[i].n.length ≤ 9223372036854775807 ∧ l[i].v.length ≤ 9223372036854775807 := by
  obtain ⟨a, c, rfl, _, _⟩ := h.count z_attr (by omega)
  obtain ⟨b, off, ha, hb, hp, hc⟩ := elem_at z_attr h (by omega) i hi
  obtain ⟨u, hu, hr⟩ := hc 0 _ rfl
  obtain ⟨u1, hu1, hr1⟩ := hc 1 _ rfl
  exact ⟨hr.len, hr1.len⟩
theorem step_len {w : World} {p : Nat → Prop} {v : Value} {l : List Step} (h : Rep w p v (stepsD l)) (i : Nat) (hi : i < l.length) : l[i].n.length ≤ 9223372036854775807 := by
  obtain ⟨a, c, rfl, _, _⟩ := h.count z_step (by omega)
  obtain ⟨b, off, ha, hb, hp, hc⟩ := elem_at z_step h (by omega) i hi
  obtain ⟨u, hu, hr⟩ := hc 0 _ rfl
  exact hr.len
theorem node_len {w : World} {p : Nat → Prop} {v : Value} {l : List Node} (h : Rep w p v (nodesD l)) (i : Nat) (hi : i < l.length) : l[i].name.length ≤ 9223372036854775807 ∧ l[i].text.length ≤ 9223372036854775807 := by
  obtain ⟨a, c, rfl, _, _⟩ := h.count z_node (by omega)
  obtain ⟨b, off, ha, hb, hp, hc⟩ := elem_at z_node h (by omega) i hi
  rw [nodeC_eq] at hc
  obtain ⟨u, hu, hr⟩ := hc 1 _ rfl
  obtain ⟨u1, hu1, hr1⟩ := hc 2 _ rfl
  exact ⟨hr.len, hr1.len⟩
end Go.Proofs.YtmmopcceabdecaaGreatDoor
