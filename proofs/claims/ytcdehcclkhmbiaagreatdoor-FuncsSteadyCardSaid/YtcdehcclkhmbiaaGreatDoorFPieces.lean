/-
  The contract of funcs.pieces: a text's runes, each as it stands; rows of texts. Helper lemmas; no statement of the seat is proved here.
-/
import Derived.Test.YtcdehcclkhmbiaaGreatDoorDeciQ
import Derived.Test.YtcdehcclkhmbiaaGreatDoorPieces
import Derived.Test.YtcdehcclkhmbiaaGreatDoorShelf
import Derived.LoopTactic
import Derived.Lib.OthersKept
namespace Go.Proofs.YtcdehcclkhmbiaaGreatDoor
open Go.RowKit
set_option maxRecDepth 100000
set_option linter.unusedVariables false
set_option linter.unusedSimpArgs false

/-- The tables of unicode/utf8 are as they are laid. -/
def GlobU (w : World) : Prop := Lib.Utf8Tabs 0 1 w
theorem GlobU.ext {w w' : World} (h : GlobU w) (hB : Ext w w') : GlobU w' :=
  ⟨fun c hc => hB.keep (World.block_lt_of_cell? w _ (h.1 c hc)) (h.1 c hc),
   fun i hi => ⟨hB.keep (World.block_lt_of_cell? w _ (h.2 i hi).1) (h.2 i hi).1, hB.keep (World.block_lt_of_cell? w _ (h.2 i hi).2) (h.2 i hi).2⟩⟩
def strV (L : List (List UInt8)) : List Value := L.map fun p => Value.string (bs p)
theorem strV_snoc (L : List (List UInt8)) (p : List UInt8) : strV (L ++ [p]) = strV L ++ [Value.string (bs p)] := by unfold strV; simp
theorem strV_at (L : List (List UInt8)) (j : Nat) (h : j < L.length) : (strV L)[j]? = some (Value.string (bs L[j])) := by unfold strV; simp [h]
/-- A row of texts, as it lies in memory. -/
structure StrRow (w : World) (v : Value) (L : List (List UInt8)) : Prop where
  form : (v = .slice none 0 0 ∧ L = []) ∨ ∃ g cap, v = .slice (some ⟨g, 0, none⟩) L.length cap ∧ L.length ≤ cap ∧ cap ≤ 9223372036854775807 ∧ (∃ cur, w.heap[g]? = some (.cells cur 9 (0, 0))) ∧ ∀ j (h : j < L.length), w.cell? ⟨g, j, none⟩ = some (.string (bs L[j]))
theorem StrRow.ext {w w' : World} {v : Value} {L : List (List UInt8)} (h : StrRow w v L) (hB : Ext w w') : StrRow w' v L := by
  rcases h.form with h | ⟨g, cap, h1, h2, h3, h4, h5⟩
  · exact ⟨Or.inl h⟩
  · obtain ⟨cur, hc⟩ := h4
    have hlt : g < w.heap.size := (Array.getElem?_eq_some_iff.1 hc).1
    exact ⟨Or.inr ⟨g, cap, h1, h2, h3, ⟨cur, by rw [Below.block hB g hlt]; exact hc⟩, fun j hj => hB.keep hlt (h5 j hj)⟩⟩
/-- What leaves all rows of texts as they are. -/
theorem StrRow.kept {w w' : World} {v : Value} {L : List (List UInt8)} {b : Nat} (h : StrRow w v L) (hb : w.shape? b = some (96, 2)) (hK : Lib.OthersKept 5 (some b) w w') : StrRow w' v L := by
  rcases h.form with h | ⟨g, cap, h1, h2, h3, ⟨cur, h4⟩, h5⟩
  · exact ⟨Or.inl h⟩
  · have hg : w'.heap[g]? = some (.cells cur 9 (0, 0)) := hK g _ h4 (fun e => by
      have e : g = b := by simpa using e
      subst e
      simp [World.shape?, h4] at hb) (fun c fz e => by simp at e)
    refine ⟨Or.inr ⟨g, cap, h1, h2, h3, ⟨cur, hg⟩, fun j hj => ?_⟩⟩
    have := h5 j hj
    unfold World.cell? at this ⊢
    rw [hg]; rw [h4] at this; exact this
theorem add_offs (g k : Nat) : (⟨g, 0, none⟩ : Addr).add k = ⟨g, k, none⟩ := by unfold Addr.add; split <;> simp_all
theorem StrRow.of_own {w : World} {B : Nat} {v : Value} {L : List (List UInt8)} (h : w.ownsRow B 9 1 v L.length (strV L)) : StrRow w v L := by
  rcases h.2 with ⟨hv, h0⟩ | ⟨g, cap, cur, hv, hb, hg, hc, hm, _⟩
  · exact ⟨Or.inl ⟨hv, List.eq_nil_of_length_eq_zero h0⟩⟩
  · refine ⟨Or.inr ⟨g, cap, hv, hc, by simpa only [maxLen] using hm, ⟨cur, hg⟩, fun j hj => ?_⟩⟩
    rw [← add_offs]; exact h.cells (g := g) (by rw [hv]; rfl) j _ (strV_at L j hj)
theorem Ext.grown {a w w' : World} {row : Option Nat} (h : Ext a w) (hg : w.grownBy w' row) (hr : ∀ k, row = some k → a.heap.size ≤ k) : Ext a w' := Below.grown h hg (Below.size h) hr
theorem Ext.grown_own {a w w' : World} {o : Obj} {e : TypeId} {n s : Nat} {v : Value} {xs : List Value} (h : Ext a w) (hown : w.ownsRow a.heap.size e s v n xs) (hg : (w.alloc o).grownBy w' v.ownBlock) : Ext a w' :=
  Ext.grown (h.alloc o) hg (fun k hk => (hown.lt k hk).1)
theorem new_one {w : World} {u : Value} {e : TypeId} : ∀ (j : Nat) (v : Value), [u][j]? = some v → (w.alloc (.cells #[u] e)).cell? ((⟨w.heap.size, 0, none⟩ : Addr).add j) = some v := by
  intro j v hj
  match j, hj with
  | 0, hj => simp at hj; subst hj; simp [Addr.add, go_sem]
theorem one_str {s : ByteArray} : ∀ u ∈ [Value.string s], u.oneCell' = true := by
  intro u hu; simp at hu; subst hu; rfl
theorem infoStr : (Tryz.prog.info? 9).map (fun i => (i.zero, i.size, i.bytes)) = some (some (.string ⟨#[]⟩), 1, 16) := by kernel_rfl
theorem get_bs (l : List UInt8) (i : Nat) : (bs l).get! i = l.getD i 0 := by
  unfold bs
  simp [ByteArray.get!, List.getD]
  rfl
theorem decode_bs (l : List UInt8) (h : l ≠ []) : (Lib.decodeGo (bs l)).2 = Pc.szU l := by
  have hp := Pc.len_pos h
  unfold Lib.decodeGo Pc.szU Pc.gb
  rw [if_neg (by rw [bs_size]; omega), Lib.decode_at, bs_size, Nat.sub_zero, get_bs, get_bs, get_bs, get_bs]
theorem dec_any (l : List UInt8) (w : World) (h : l ≠ []) (U : GlobU w) : Calls Tryz.prog 67 #[.string (bs l)] w fun e w' => (∃ x : Int, e = .returned (.tuple #[.int .i32 x, .int .i64 (Pc.szU l)])) ∧ Ext w w' := by
  refine (Tryz.utf8_DecodeRuneInString (bs l) w U).mono fun e w' ⟨he, hB⟩ => ⟨⟨(Lib.decodeGo (bs l)).1, ?_⟩, hB⟩
  rw [he, decode_bs l h]
def lenV : Value → Nat
  | .string s => s.size
  | _ => 0
set_option maxHeartbeats 4000000 in
theorem pieces_any (s : ByteArray) (w : World) (U : GlobU w) (hs : s.size ≤ 4294967280) :
    Calls Tryz.prog 26 #[.string s] w fun e w' => ∃ v, e = .returned v ∧ StrRow w' v (Pc.pieces s.data.toList) ∧ Ext w w' := by
  obtain ⟨l, hl⟩ : ∃ l, s.data.toList = l := ⟨_, rfl⟩
  have es : s = bs l := by rw [← hl]; exact str_ext s
  have hl2 : l.length ≤ 4294967280 := by rw [es, bs_size] at hs; exact hs
  rw [hl]
  subst es
  clear hl
  have hpl := Pc.pieces_len l
  obtain ⟨Z, hZ⟩ : ∃ Z, Pc.pieces l = Z := ⟨_, rfl⟩
  rw [hZ] at hpl ⊢
  have HZ := Lib.hid hZ; clear hZ
  have U' := Lib.hid U; clear U
  obtain ⟨i0, hi, hz0, hz1, hz2⟩ := info_parts infoStr
  go_enter Tryz.func26, Tryz.ntmps26
  go_wp2
  go_loopw [0, 3] (fun t o wr => ∃ (r : List UInt8) (L : List (List UInt8)) (dv : Value), t = .string (bs r) ∧ dv = o ∧ wr.ownsRow w.heap.size 9 1 dv L.length (strV L) ∧ Ext w wr ∧ r.length ≤ 4294967280 ∧ Hid (L ++ Pc.pieces r = Z)) (fun t _ _ => lenV t)
  case atStart => exact ⟨l, [], _, rfl, rfl, World.ownsRow_nil _ _ _ _, Ext.refl _, hl2, HZ⟩
  case round =>
    obtain ⟨r, L, dv, rfl, rfl, hown, hX, hr, HL⟩ := hrel
    have hlen : L.length ≤ 4294967280 := by
      have := congrArg List.length HL.out
      rw [List.length_append] at this; omega
    have hsz := hX.size
    by_cases hne : r = []
    · have he : (bs r).toList.isEmpty = true := by rw [bs_toList, hne]; rfl
      have HT : Hid (L = Z) := by
        have := HL.out
        rw [hne, Pc.pieces_nil, List.append_nil] at this; exact this
      clear hne HL
      go_wp2
      go_ret
      refine ⟨dv, rfl, ?_, hX⟩
      rw [← HT.out]; exact StrRow.of_own hown
    · have he : (bs r).toList.isEmpty = false := by rw [bs_toList]; simpa [List.isEmpty_iff] using hne
      obtain ⟨a1, a2, a3⟩ := Pc.szU_le r hne
      have HN : Hid ((L ++ [r.take (Pc.szU r)]) ++ Pc.pieces (r.drop (Pc.szU r)) = Z) := by
        have := HL.out
        rw [Pc.pieces_cons r hne] at this
        rw [List.append_assoc]; exact this
      have HD := Lib.hid (dec_any r wr hne (U'.out.ext hX))
      obtain ⟨k, hk⟩ : ∃ k, Pc.szU r = k := ⟨_, rfl⟩
      rw [hk] at a1 a2 a3 HN HD
      have hk2 : k ≤ (bs r).size := by rw [bs_size]; exact a2
      have hbr : (bs r).size ≤ 4294967280 := by rw [bs_size]; exact hr
      have hp0 : 0 < (bs r).size := by omega
      clear hne hk HL
      have E1 : Hid ((bs r).extract 0 k = bs (r.take k)) := by refine Lib.hid ?_; rw [bs_extract, List.drop_zero, Nat.sub_zero]
      have E2 : Hid ((bs r).extract k (bs r).size = bs (r.drop k)) := by
        refine Lib.hid ?_; rw [bs_extract, bs_size, List.take_of_length_le (by rw [List.length_drop]; exact Nat.le_refl _)]
      go_wp2_with fail
      refine HD.out.mono ?_
      rintro e w1 ⟨⟨x, rfl⟩, hB1⟩
      have hX1 := hX.trans hB1
      have hsz1 := hX1.size
      have hown1 : w1.ownsRow w.heap.size 9 1 dv L.length (strV L) := hown.kept (row := none) ⟨hB1.os, hB1.tape, hB1.output, hB1.size, fun i hi _ => hB1.block i hi⟩ (by cases dv.ownBlock <;> simp)
      clear hown hX hB1 hsz
      go_wp2_with (at_builtin; refine wpList_append_own _ rfl (.tmp 13) (.tmp 17) _ rfl w.heap.size 9 i0 (.string ⟨#[]⟩) 1 16 Tryz.underlying37 hi hz0 hz1 hz2 rfl (by decide) dv L.length (strV L) rfl (hown1.alloc _) ⟨w1.heap.size, 0, none⟩ 1 1 [_] rfl rfl new_one one_str (by unfold maxLen; omega) (by omega) (by simp; omega) ?_; intro v2 w2 hown2 hgrow2 _)
      have hX2 := hX1.grown_own hown1 hgrow2
      have hO2 : w2.ownsRow w.heap.size 9 1 v2 (L ++ [r.take k]).length (strV (L ++ [r.take k])) := by
        rw [strV_snoc, List.length_append, ← E1.out]; exact hown2
      clear hown1 hown2 hgrow2 hX1
      go_wp2
      rw [E2.out]
      go_roundw
      case rel => exact ⟨r.drop k, L ++ [r.take k], v2, rfl, rfl, hO2, hX2, by rw [List.length_drop]; omega, HN⟩
      case measure => simp only [lenV, bs_size, List.length_drop]; omega
end Go.Proofs.YtcdehcclkhmbiaaGreatDoor
