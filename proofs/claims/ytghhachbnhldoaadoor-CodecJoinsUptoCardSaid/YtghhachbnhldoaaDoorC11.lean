/-
  The reader's attributes and steps. Helper lemmas; no statement of the seat is proved here.
-/
import Derived.Test.YtghhachbnhldoaaDoorC10
namespace Go.Proofs.YtghhachbnhldoaaDoor
open Go.RowKit
set_option maxRecDepth 100000
set_option linter.unusedVariables false
set_option linter.unusedSimpArgs false

theorem RS.other {w0 W : World} {inp : Bytes} {deep : Int} {bad : Bool} (h : RS w0 W inp deep bad) {p : Addr} (hp : p.block ≠ w0.heap.size) (hb : w0.heap.size ≤ p.block) (v : Value) : RS w0 (W.setCell p v) inp deep bad := by
  have e : (W.setCell p v).heap[w0.heap.size]? = W.heap[w0.heap.size]? := Below.heap_setCell _ _ _ _ fun e => hp e.symm
  obtain ⟨bb, off, c, h1, h2⟩ := h.row
  exact ⟨h.ext.set hb _, ⟨bb, off, c, (World.cell?_of_block e).trans h1, h2⟩, (World.cell?_of_block e).trans h.c1, (World.cell?_of_block e).trans h.c2, (World.frozen?_of_block e).trans h.f0, (World.frozen?_of_block e).trans h.f1, (World.frozen?_of_block e).trans h.f2⟩
theorem Exc.new {g : Nat} {a w : World} (h : Exc g a w) {p : Addr} (hp : a.heap.size ≤ p.block) (v : Value) : Exc g a (w.setCell p v) := ⟨by simpa using h.1, fun b h1 h2 => by rw [Below.heap_setCell _ _ _ _ (by omega)]; exact h.2 b h1 h2⟩
theorem Rep.set {w : World} {p : Nat → Prop} {v : Value} {d : DV} (h : Rep w p v d) {q : Addr} (hq : ∀ b, p b → b ≠ q.block) (u : Value) : Rep (w.setCell q u) p v d := h.kept fun b hb _ => Below.heap_setCell _ _ _ _ (hq b hb)
def AttrV (_ : Nat) (b : Bool) (x : Attr) (v : Value) (_ : World) : Prop := ∃ s1 s2 : Bytes, v = .agg #[.string (bs s1), .string (bs s2)] ∧ s1.length ≤ 9223372036854775807 ∧ s2.length ≤ 9223372036854775807 ∧ (b = false → s1 = x.n ∧ s2 = x.v)
def StepV (base : Nat) (b : Bool) (x : Step) (v : Value) (w : World) : Prop := ∃ (s1 : Bytes) (a : Option Addr) (n c : Nat), v = .agg #[.string (bs s1), .slice a n c] ∧ s1.length ≤ 9223372036854775807 ∧ (b = false → s1 = x.n ∧ Rep w (fun k => base ≤ k) (.slice a n c) (strsD x.key))
set_option maxHeartbeats 8000000 in
theorem rattr_any (w0 W : World) (inp : Bytes) (deep : Int) (b : Bool) (x : Attr) (rest : Bytes) (hx1 : x.n.length ≤ 1000000000000) (hx2 : x.v.length ≤ 1000000000000) (hi : b = false → inp = attrB x ++ rest) (h : RS w0 W inp deep b) :
    Calls Tryd.prog 55 #[.pointer (some ⟨w0.heap.size, 0, none⟩)] W (RPost w0 W b rest deep fun v w => AttrV W.heap.size b x v w) := by
  obtain ⟨wb, hwb⟩ : ∃ wb, W.alloc (.cells #[.string ⟨#[]⟩, .string ⟨#[]⟩] 101) = wb := ⟨_, rfl⟩
  have hEb : Ext W wb := by rw [← hwb]; exact (Ext.refl W).alloc _
  have hblk : wb.heap[W.heap.size]? = some (.cells [.string ⟨#[]⟩, .string ⟨#[]⟩].toArray 101 (0, 0)) := by rw [← hwb]; exact Array.getElem?_push_size
  have hne : W.heap.size ≠ w0.heap.size := by have := h.lt; omega
  have hge : w0.heap.size ≤ W.heap.size := Nat.le_of_lt h.lt
  have HC := Lib.hid (rtext_any w0 wb inp deep b x.n (txtB x.v ++ rest) (by omega) (fun hb => by rw [hi hb]; unfold attrB; rw [List.append_assoc]) (h.step hEb))
  have HB := Lib.hid (And.intro hEb (And.intro hblk (And.intro hne hge)))
  clear hEb hblk hne hge h hi
  go_enter Tryd.func55, Tryd.ntmps55
  go_wp2_with fail
  refine HC.out.mono ?_
  rintro e w1 ⟨v, rfl, ⟨s1, rfl, l1, e1⟩, ⟨inp1, hS1, hin1⟩, hX1⟩
  have HC2 := Lib.hid (rtext_any w0 w1 inp1 deep b x.v rest (by omega) (fun hb => hin1 hb) hS1)
  have H1 := Lib.hid hX1
  clear HC hS1 hin1 hX1
  go_wp2_with fail
  refine HC2.out.mono ?_
  rintro e w2 ⟨v, rfl, ⟨s2, rfl, l2, e2⟩, ⟨inp2, hS2, hin2⟩, hX2⟩
  obtain ⟨hEb, hblk, hne, hge⟩ := HB.out
  have hX12 := H1.out.trans hX2
  have hb2 := (hX12.2 _ hne (blk_lt hblk)).trans hblk
  have k0 := blk_cells hb2 0 rfl
  have k1 := blk_cells hb2 1 rfl
  have g0 := blk_free hb2 (k := 0)
  have g1 := blk_free hb2 (k := 1)
  have hXW := (Exc.of w0.heap.size hEb).trans hX12

  have HF := Lib.hid (And.intro hS2 (And.intro hin2 (And.intro hXW (And.intro hne (And.intro hge hX2)))))
  have HB2 := Lib.hid (show W.heap.size < w1.heap.size from Nat.lt_of_lt_of_le (blk_lt hblk) H1.out.1)
  clear HC2 H1 hS2 hin2 hXW hX12 hb2 hblk hne hge hEb hX2
  go_wp2_with fail
  refine bodyPost_ret (res_cell rfl _ _ _ ⟨W.heap.size, 0, none⟩ (by rfl) (v := .agg #[.string (bs s1), .string (bs s2)]) (by go_simp)) rfl ?_
  obtain ⟨hS2, hin2, hXW, hne, hge, hX2⟩ := HF.out
  exact ⟨_, rfl, ⟨s1, s2, rfl, l1, l2, fun hb => ⟨e1 hb, e2 hb⟩⟩, ⟨_, (hS2.other (p := ⟨W.heap.size, 0, none⟩) hne hge _).other (p := ⟨W.heap.size, 1, none⟩) hne hge _, hin2⟩, (hXW.new (p := ⟨W.heap.size, 0, none⟩) (Nat.le_refl _) _).new (p := ⟨W.heap.size, 1, none⟩) (Nat.le_refl _) _⟩
theorem rtexts_any (w0 W : World) (inp : Bytes) (deep : Int) (b : Bool) (l : List Bytes) (rest : Bytes) (hl : l.length ≤ 1000000000000) (hs : ∀ s ∈ l, s.length ≤ 1000000000000) (hi : b = false → inp = txtsB l ++ rest) (h : RS w0 W inp deep b) :
    Calls Tryd.prog 74 #[.pointer (some ⟨w0.heap.size, 0, none⟩), .func (.func 73) #[.pointer (some ⟨w0.heap.size, 0, none⟩)] #[]] W (RPost w0 W b rest deep fun v w => SlV W.heap.size b (strsD l) v w) := by
  have h1 := rtexts_some w0 W inp deep b l rest hl hi h fun x hx W inp b rest hi h => by
    have h2 := rtext_any w0 W inp deep b x rest (hs x hx) hi h
    rw [show (b || !(@yes Bytes) x) = b by simp [yes]]
    exact h2
  rw [show (b || !l.all (@yes Bytes)) = b by rw [(List.all_eq_true.2 fun _ _ => rfl : l.all (@yes Bytes) = true)]; simp] at h1
  exact h1
set_option maxHeartbeats 8000000 in
theorem rstep_any (w0 W : World) (inp : Bytes) (deep : Int) (b : Bool) (x : Step) (rest : Bytes) (hx1 : x.n.length ≤ 1000000000000) (hx2 : x.key.length ≤ 1000000000000) (hx3 : ∀ s ∈ x.key, s.length ≤ 1000000000000) (hi : b = false → inp = stepB' x ++ rest) (h : RS w0 W inp deep b) :
    Calls Tryd.prog 53 #[.pointer (some ⟨w0.heap.size, 0, none⟩)] W (RPost w0 W b rest deep fun v w => StepV W.heap.size b x v w) := by
  obtain ⟨wb, hwb⟩ : ∃ wb, W.alloc (.cells #[.string ⟨#[]⟩, .slice none 0 0] 47) = wb := ⟨_, rfl⟩
  have hEb : Ext W wb := by rw [← hwb]; exact (Ext.refl W).alloc _
  have hblk : wb.heap[W.heap.size]? = some (.cells [.string ⟨#[]⟩, .slice none 0 0].toArray 47 (0, 0)) := by rw [← hwb]; exact Array.getElem?_push_size
  have hne : W.heap.size ≠ w0.heap.size := by have := h.lt; omega
  have hge : w0.heap.size ≤ W.heap.size := Nat.le_of_lt h.lt
  have HC := Lib.hid (rtext_any w0 wb inp deep b x.n (txtsB x.key ++ rest) (by omega) (fun hb => by rw [hi hb]; unfold stepB'; rw [List.append_assoc]) (h.step hEb))
  have HB := Lib.hid (And.intro hEb (And.intro hblk (And.intro hne hge)))
  clear hEb hblk hne hge h hi
  go_enter Tryd.func53, Tryd.ntmps53
  go_wp2_with fail
  refine HC.out.mono ?_
  rintro e w1 ⟨v, rfl, ⟨s1, rfl, l1, e1⟩, ⟨inp1, hS1, hin1⟩, hX1⟩
  have HC2 := Lib.hid (rtexts_any w0 w1 inp1 deep b x.key rest hx2 hx3 (fun hb => hin1 hb) hS1)
  have H1 := Lib.hid hX1
  clear HC hS1 hin1 hX1
  go_wp2_with fail
  refine HC2.out.mono ?_
  rintro e w2 ⟨v, rfl, ⟨a, n, c, rfl, e2⟩, ⟨inp2, hS2, hin2⟩, hX2⟩
  obtain ⟨hEb, hblk, hne, hge⟩ := HB.out
  have hX12 := H1.out.trans hX2
  have hb2 := (hX12.2 _ hne (blk_lt hblk)).trans hblk
  have k0 := blk_cells hb2 0 rfl
  have k1 := blk_cells hb2 1 rfl
  have g0 := blk_free hb2 (k := 0)
  have g1 := blk_free hb2 (k := 1)
  have hXW := (Exc.of w0.heap.size hEb).trans hX12

  have HF := Lib.hid (And.intro hS2 (And.intro hin2 (And.intro hXW (And.intro hne (And.intro hge hX2)))))
  have HB2 := Lib.hid (show W.heap.size < w1.heap.size from Nat.lt_of_lt_of_le (blk_lt hblk) H1.out.1)
  clear HC2 H1 hS2 hin2 hXW hX12 hb2 hblk hne hge hEb hX2
  go_wp2_with fail
  refine bodyPost_ret (res_cell rfl _ _ _ ⟨W.heap.size, 0, none⟩ (by rfl) (v := .agg #[.string (bs s1), .slice a n c]) (by go_simp)) rfl ?_
  obtain ⟨hS2, hin2, hXW, hne, hge, hX2⟩ := HF.out
  exact ⟨_, rfl, ⟨s1, a, n, c, rfl, l1, fun hb => ⟨e1 hb, (((e2 hb).set (q := ⟨W.heap.size, 0, none⟩) (fun k hk => by have := HB2.out; simp only; omega) _).set (q := ⟨W.heap.size, 1, none⟩) (fun k hk => by have := HB2.out; simp only; omega) _).ok fun k hk => by have := HB2.out; omega⟩⟩, ⟨_, (hS2.other (p := ⟨W.heap.size, 0, none⟩) hne hge _).other (p := ⟨W.heap.size, 1, none⟩) hne hge _, hin2⟩, (hXW.new (p := ⟨W.heap.size, 0, none⟩) (Nat.le_refl _) _).new (p := ⟨W.heap.size, 1, none⟩) (Nat.le_refl _) _⟩

end Go.Proofs.YtghhachbnhldoaaDoor
