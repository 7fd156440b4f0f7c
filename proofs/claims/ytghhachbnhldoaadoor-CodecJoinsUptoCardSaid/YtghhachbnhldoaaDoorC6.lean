/-
  The reader's state. Helper lemmas; no statement of the seat is proved here.
-/
import Derived.Test.YtghhachbnhldoaaDoorC5
namespace Go.Proofs.YtghhachbnhldoaaDoor
open Go.RowKit
set_option maxRecDepth 100000
set_option linter.unusedVariables false
set_option linter.unusedSimpArgs false

theorem Exc.trans {g : Nat} {a b c : World} (h : Exc g a b) (k : Exc g b c) : Exc g a c := ⟨Nat.le_trans h.1 k.1, fun x h1 h2 => (k.2 x h1 (Nat.lt_of_lt_of_le h2 h.1)).trans (h.2 x h1 h2)⟩
theorem Exc.of (g : Nat) {a b : World} (h : Ext a b) : Exc g a b := (Exc.refl g a).ext h
/-- The cells of a row of bytes. -/
theorem by_at {w : World} {p : Nat → Prop} {a : Option Addr} {len cap : Nat} {L : Bytes} (h : Rep w p (.slice a len cap) (numsD .u8 (byI L))) (i : Nat) (hi : i < L.length) :
    ∃ b off, a = some ⟨b, off, none⟩ ∧ b < w.heap.size ∧ w.cell? ⟨b, off + i, none⟩ = some (.int .u8 (L[i].toNat : Int)) := by
  obtain ⟨b, off, ha, hb, hp, hc⟩ := elem_at (f := fun c => [.v (.int .u8 c)]) (z_num .u8) h (by omega) i (by rw [byI_len]; exact hi)
  obtain ⟨u, hu, hr⟩ := hc 0 _ rfl
  rw [Nat.mul_one, Nat.add_zero] at hu
  refine ⟨b, off, ha, hb, ?_⟩
  rw [hu, hr.is]
  simp [byI]
theorem by_count {w : World} {p : Nat → Prop} {v : Value} {L : Bytes} (h : Rep w p v (numsD .u8 (byI L))) : ∃ a cap, v = .slice a L.length cap ∧ L.length ≤ cap ∧ cap ≤ 9223372036854775807 := by
  have := h.count (f := fun c => [.v (.int .u8 c)]) (z_num .u8) (by omega)
  rw [byI_len] at this
  exact this
/-- What is behind the first i bytes. -/
theorem by_drop {w : World} {p : Nat → Prop} {b off len cap : Nat} {L : Bytes} (h : Rep w p (.slice (some ⟨b, off, none⟩) len cap) (numsD .u8 (byI L))) (i : Nat) (hi : i ≤ L.length) (hl : len = L.length) (hc : cap ≤ 9223372036854775807) (hc2 : len ≤ cap) :
    Rep w p (.slice (some ⟨b, off + i, none⟩) (len - i) (cap - i)) (numsD .u8 (byI (L.drop i))) := by
  have h1 := Rep.sub h i len (cap - i) (by omega) (Nat.le_refl _) (by omega) (by omega)
  rw [Nat.mul_one, Nat.mul_one] at h1
  have e : (List.drop i (List.flatMap (fun c => [DV.v (.int .u8 c)]) (byI L))).take (len - i) = List.flatMap (fun c => [DV.v (.int .u8 c)]) (byI (L.drop i)) := by
    rw [List.take_of_length_le]
    · simp only [byI, List.map_drop, List.flatMap_singleton']
      rw [show ∀ l : List Int, l.flatMap (fun c => [DV.v (.int .u8 c)]) = l.map fun c => DV.v (.int .u8 c) from fun l => by induction l <;> simp_all, show ∀ l : List Int, l.flatMap (fun c => [DV.v (.int .u8 c)]) = l.map fun c => DV.v (.int .u8 c) from fun l => by induction l <;> simp_all, List.map_drop]
    · rw [List.length_drop, flat_len (fun c => [DV.v (.int .u8 c)]) 1 (z_num .u8), byI_len]; omega
  rw [e] at h1
  exact h1
/-- The reader: its block, the first behind w0's, the bytes that are left, how deep it is, whether something was wrong. -/
structure RS (w0 W : World) (inp : Bytes) (deep : Int) (bad : Bool) : Prop where
  ext : Ext w0 W
  row : ∃ bb off c, W.cell? ⟨w0.heap.size, 0, none⟩ = some (.slice (some ⟨bb, off, none⟩) inp.length c) ∧ Rep w0 (fun _ => True) (.slice (some ⟨bb, off, none⟩) inp.length c) (numsD .u8 (byI inp)) ∧ inp.length ≤ c ∧ c ≤ 9223372036854775807
  c1 : W.cell? ⟨w0.heap.size, 1, none⟩ = some (.int .i64 deep)
  c2 : W.cell? ⟨w0.heap.size, 2, none⟩ = some (.bool bad)
  f0 : W.frozen? ⟨w0.heap.size, 0, none⟩ = false
  f1 : W.frozen? ⟨w0.heap.size, 1, none⟩ = false
  f2 : W.frozen? ⟨w0.heap.size, 2, none⟩ = false
section
variable {w0 W : World} {inp : Bytes} {deep : Int} {bad : Bool}
theorem RS.lt (h : RS w0 W inp deep bad) : w0.heap.size < W.heap.size := World.block_lt_of_cell? W _ h.c1
theorem RS.step {W' : World} (h : RS w0 W inp deep bad) (hE : Ext W W') : RS w0 W' inp deep bad := by
  have hl := h.lt
  obtain ⟨bb, off, c, h1, h2⟩ := h.row
  exact ⟨h.ext.trans hE, ⟨bb, off, c, hE.keep hl h1, h2⟩, hE.keep hl h.c1, hE.keep hl h.c2, hE.free hl h.f0, hE.free hl h.f1, hE.free hl h.f2⟩
theorem RS.setBad (h : RS w0 W inp deep bad) (b : Bool) : RS w0 (W.setCell ⟨w0.heap.size, 2, none⟩ (.bool b)) inp deep b := by
  obtain ⟨bb, off, c, h1, h2⟩ := h.row
  have c1 := h.c1; have c2 := h.c2; have f0 := h.f0; have f1 := h.f1; have f2 := h.f2
  exact ⟨h.ext.set (p := ⟨w0.heap.size, 2, none⟩) (Nat.le_refl _) _, ⟨bb, off, c, by simp [go_sem, h1], h2⟩, by simp [go_sem, c1], by simp [go_sem, c2], by simp [go_sem, f0], by simp [go_sem, f1], by simp [go_sem, f2]⟩
theorem RS.setDeep (h : RS w0 W inp deep bad) (d : Int) : RS w0 (W.setCell ⟨w0.heap.size, 1, none⟩ (.int .i64 d)) inp d bad := by
  obtain ⟨bb, off, c, h1, h2⟩ := h.row
  have c1 := h.c1; have c2 := h.c2; have f0 := h.f0; have f1 := h.f1; have f2 := h.f2
  exact ⟨h.ext.set (p := ⟨w0.heap.size, 1, none⟩) (Nat.le_refl _) _, ⟨bb, off, c, by simp [go_sem, h1], h2⟩, by simp [go_sem, c1], by simp [go_sem, c2], by simp [go_sem, f0], by simp [go_sem, f1], by simp [go_sem, f2]⟩
theorem RS.setInp (h : RS w0 W inp deep bad) {bb off l c : Nat} {inp' : Bytes} (hl : l = inp'.length) (hv : Rep w0 (fun _ => True) (.slice (some ⟨bb, off, none⟩) l c) (numsD .u8 (byI inp'))) (hc : inp'.length ≤ c) (hc2 : c ≤ 9223372036854775807) : RS w0 (W.setCell ⟨w0.heap.size, 0, none⟩ (.slice (some ⟨bb, off, none⟩) l c)) inp' deep bad := by
  subst hl
  obtain ⟨b0, o0, c0, h1, h2⟩ := h.row
  have c1 := h.c1; have c2 := h.c2; have f0 := h.f0; have f1 := h.f1; have f2 := h.f2
  exact ⟨h.ext.set (p := ⟨w0.heap.size, 0, none⟩) (Nat.le_refl _) _, ⟨bb, off, c, by simp [go_sem, h1], hv, hc, hc2⟩, by simp [go_sem, c1], by simp [go_sem, c2], by simp [go_sem, f0], by simp [go_sem, f1], by simp [go_sem, f2]⟩
/-- The first n bytes are passed. -/
theorem RS.pass (h : RS w0 W inp deep bad) {bb off c : Nat} (hv : Rep w0 (fun _ => True) (.slice (some ⟨bb, off, none⟩) inp.length c) (numsD .u8 (byI inp))) (hl : inp.length ≤ c) (hc : c ≤ 9223372036854775807) (n : Nat) (hn : n ≤ inp.length) :
    RS w0 (W.setCell ⟨w0.heap.size, 0, none⟩ (.slice (some ⟨bb, off + n, none⟩) (inp.length - n) (c - n))) (inp.drop n) deep bad :=
  h.setInp (by rw [List.length_drop]) (by_drop hv n hn rfl hc hl) (by rw [List.length_drop]; omega) (by omega)
theorem RS.passAll (h : RS w0 W inp deep bad) {bb off : Nat} (n : Nat) (hn : inp.length ≤ n) : RS w0 (W.setCell ⟨w0.heap.size, 0, none⟩ (.slice (some ⟨bb, off, none⟩) 0 0)) (inp.drop n) deep bad := by
  rw [List.drop_of_length_le hn]
  exact h.setInp rfl (.emp _ 1) (Nat.le_refl _) (by omega)
end
theorem by_conv {w : World} {p : Nat → Prop} {b off cap : Nat} {L : Bytes} (h : Rep w p (.slice (some ⟨b, off, none⟩) L.length cap) (numsD .u8 (byI L))) (n : Nat) (hn : n ≤ L.length) {W : World} (hE : Ext w W) (c : Nat) :
    (convert 25 9 (.slice (some ⟨b, off, none⟩) n c)).run Tryd.prog W = .ok (.string (bs (L.take n))) W := by
  have e : (L.take n).length = n := by rw [List.length_take]; omega
  have h1 := run_convert_bytes_back (P := Tryd.prog) W 25 9 5 ⟨b, off, none⟩ c (L.take n) Tryd.underlying25 Tryd.underlying5 Tryd.underlying9 (fun j hj => by
    have hj' : j < L.length := by rw [e] at hj; omega
    obtain ⟨b', o', e', hbl, hcell⟩ := by_at h j hj'
    injection e' with e'
    injection e' with e1 e2
    subst e1 e2
    have ea : (⟨b, off, none⟩ : Addr).add j = ⟨b, off + j, none⟩ := by unfold Addr.add; split <;> simp_all
    rw [ea, hE.keep hbl hcell]
    simp)
  rw [e] at h1
  exact h1
theorem and128 (m : Nat) (h : m < 256) : bits .andNot .u8 (m : Int) 128 = ((m % 128 : Nat) : Int) := by
  have : ∀ m : Fin 256, bits .andNot .u8 (m.val : Int) 128 = ((m.val % 128 : Nat) : Int) := by decide +kernel
  exact this ⟨m, h⟩
theorem or_add (k a c : Nat) (ha : a < 2 ^ k) (h : a + c * 2 ^ k < 18446744073709551616) : bits .or .u64 (a : Int) ((c * 2 ^ k : Nat) : Int) = ((a + c * 2 ^ k : Nat) : Int) := by
  have e : a ||| c * 2 ^ k = a + c * 2 ^ k := by
    have := Nat.two_pow_add_eq_or_of_lt ha c
    rw [Nat.mul_comm, Nat.or_comm, ← this, Nat.mul_comm, Nat.add_comm]
  unfold bits
  simp only [BitVec.ofInt_natCast, BitVec.toNat_or, BitVec.toNat_ofNat]
  rw [u64_wrap]
  have h1 : a % 2 ^ IntKind.u64.bits = a := Nat.mod_eq_of_lt (by show a < 18446744073709551616; omega)
  have h2 : (c * 2 ^ k) % 2 ^ IntKind.u64.bits = c * 2 ^ k := Nat.mod_eq_of_lt (by show c * 2 ^ k < 18446744073709551616; omega)
  rw [h1, h2, e]
  omega

end Go.Proofs.YtghhachbnhldoaaDoor
