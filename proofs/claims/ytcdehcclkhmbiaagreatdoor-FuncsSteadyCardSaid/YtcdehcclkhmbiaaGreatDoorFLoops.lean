/-
  The loops of package funcs: all arguments as texts, runes by others, runes from a place on. Helper lemmas; no statement of the seat is proved here.
-/
import Derived.Test.YtcdehcclkhmbiaaGreatDoorFMore
import Derived.Shelf.Strings.BuilderK
namespace Go.Proofs.YtcdehcclkhmbiaaGreatDoor
open Go.RowKit
set_option maxRecDepth 100000
set_option linter.unusedVariables false
set_option linter.unusedSimpArgs false

/-- What is left of a count. -/
def downV (N : Nat) : Value → Nat
  | .int _ k => (N - k).toNat
  | _ => 0
theorem take_one {α : Type} (L : List α) (j : Nat) (h : j < L.length) : L.take (j + 1) = L.take j ++ [L[j]] := by
  rw [List.take_add_one, List.getElem?_eq_getElem h]; rfl
theorem builder_WS (B b : Nat) (bs : List Value) (s : ByteArray) (w : World) (h : Lib.IsBuilderF 96 5 B b bs w) (hlen : bs.length + s.size ≤ 140737488355328) (hBw : B ≤ w.heap.size) :
    Calls Tryz.prog 80 #[.pointer (some ⟨b, 0, none⟩), .string s] w fun e w' => e = .returned (.tuple #[.int .i64 s.size, .nilIface]) ∧ (Lib.IsBuilderF 96 5 B b (bs ++ Lib.strCells s) w' ∧ Below B w w' ∧ Lib.OthersKept 5 (some b) w w') :=
  (Any.Builder_WriteString_k { Tryz.lays156 with } Tryz.Builder_Extra_156 B b bs s w h hlen hBw).mono fun e w' ⟨he, h1, h2⟩ => ⟨he, Or.inr h1, h2⟩
theorem builder_S (B b : Nat) (l : List UInt8) (w : World) (h : Lib.IsBuilderF 96 5 B b (Lib.byteCells l) w) (hBw : B ≤ w.heap.size) :
    Calls Tryz.prog 81 #[.pointer (some ⟨b, 0, none⟩)] w fun e w' => e = .returned (.string (bs l)) ∧ Below B w w' :=
  (Any.Builder_String_any_k Tryz.lays169 Tryz.Builder_Extra_169 B b l w h hBw).mono fun e w' ⟨he, h1, h2, h3⟩ => ⟨he, h2⟩
/-- The place of a piece among others; -1: it isn't there. -/
def idxA (A : List (List UInt8)) (p : List UInt8) : Int := Lib.idxOfS (A.map bs) (bs p)
theorem idxFrom_lt (x : ByteArray) : ∀ (zs : List ByteArray) (i : Nat), Lib.idxFromS zs x i < ((i + zs.length : Nat) : Int) ∧ (-1 : Int) ≤ Lib.idxFromS zs x i
  | [], i => by simp only [Lib.idxFromS, List.length_nil]; omega
  | z :: zs, i => by
    have ih := idxFrom_lt x zs (i + 1)
    simp only [Lib.idxFromS, List.length_cons]
    split <;> omega
theorem idxA_lt (A : List (List UInt8)) (p : List UInt8) : idxA A p < (A.length : Int) ∧ (-1 : Int) ≤ idxA A p := by
  have := idxFrom_lt (bs p) (A.map bs) 0
  unfold idxA Lib.idxOfS
  rw [List.length_map] at this
  omega
theorem idx_any (v : Value) (A : List (List UInt8)) (p : List UInt8) (w : World) (h : StrRow w v A) :
    Calls Tryz.prog 86 #[v, .string (bs p)] w fun e w' => e = .returned (.int .i64 (idxA A p)) ∧ w' = w := by
  rcases h.form with ⟨h1, h2⟩ | ⟨g, cap, h1, h2, h3, h4, h5⟩
  · subst h1 h2
    exact Tryz.slices_Index_string_empty none 0 (bs p) w
  · subst h1
    have := Tryz.slices_Index_string g 0 A.length cap (A.map bs) (bs p) w (by rw [List.length_map]; exact Nat.le_refl _) (by omega) (fun j hj => by
      rw [List.length_map] at hj
      rw [Nat.zero_add, h5 j hj]
      simp [hj])
    rw [List.take_of_length_le (by rw [List.length_map]; exact Nat.le_refl _)] at this
    exact this
theorem join_any (v : Value) (L : List (List UInt8)) (sep : List UInt8) (w : World) (h : StrRow w v L) (hN : L.length ≤ 140737488355328) (hlen : (Lib.join L sep).length ≤ 140737488355328) :
    Calls Tryz.prog 41 #[v, .string (bs sep)] w fun e w' => e = .returned (.string (bs (Lib.join L sep))) ∧ Ext w w' := by
  rcases h.form with ⟨h1, h2⟩ | ⟨g, cap, h1, h2, h3, ⟨cur, h4⟩, h5⟩
  · subst h1 h2
    refine (Tryz.strings_Join_none none 0 (bs sep) w).mono fun e w' ⟨he, hw⟩ => ⟨he, ?_⟩
    subst hw; exact Ext.refl _
  · subst h1
    have eL : (L.map bs).map (·.data.toList) = L := by
      rw [List.map_map]; exact (List.map_congr_left (fun x _ => by simp [bs_list])).trans (List.map_id _)
    have := Tryz.strings_Join g 0 cap (L.map bs) (bs sep) w (fun j x hj => by
      rw [List.getElem?_map] at hj
      obtain ⟨y, hy, rfl⟩ := Option.map_eq_some_iff.1 hj
      obtain ⟨hj2, rfl⟩ := List.getElem?_eq_some_iff.1 hy
      rw [Nat.zero_add]; exact h5 j hj2) (Array.getElem?_eq_some_iff.1 h4).1 (by rw [List.length_map]; exact hN) (by rw [List.length_map]; exact h2) (by rw [eL]; exact hlen)
    rw [eL, List.length_map] at this
    exact this
theorem StrRow.at {w : World} {a : Option Addr} {n c : Nat} {L : List (List UInt8)} (h : StrRow w (.slice a n c) L) (j : Nat) (hj : j < L.length) : ∃ g, a = some ⟨g, 0, none⟩ ∧ w.cell? ⟨g, j, none⟩ = some (.string (bs L[j])) := by
  rcases h.form with ⟨h1, h2⟩ | ⟨g, cap, h1, h2, h3, h4, h5⟩
  · subst h2; exact absurd hj (Nat.not_lt_zero _)
  · injection h1 with h1 _ _
    exact ⟨g, h1, h5 j hj⟩
theorem builderF_shape {T e : TypeId} {B b : Nat} {l : List Value} {w : World} (h : Lib.IsBuilderF T e B b l w) : w.shape? b = some (T, 2) := by
  rcases h with ⟨_, v, hb, _⟩ | ⟨_, v, hb, _⟩ <;> simp [World.shape?, hb]
/-- What translate tells: each piece's other, by two rows. -/
def trOne (A B : List (List UInt8)) (p : List UInt8) : List UInt8 := if idxA A p < 0 then p else B.getD (idxA A p).toNat []
def trL (Z A B : List (List UInt8)) : List UInt8 := (Z.map (trOne A B)).flatten
theorem trL_snoc (Z A B : List (List UInt8)) (p : List UInt8) : trL (Z ++ [p]) A B = trL Z A B ++ trOne A B p := by unfold trL; simp
theorem byteCells_append (a b : List UInt8) : Lib.byteCells (a ++ b) = Lib.byteCells a ++ Lib.byteCells b := by unfold Lib.byteCells; simp
theorem pieces_sum (A B Z : List (List UInt8)) (hZ : ∀ p ∈ Z, p.length ≤ 4) (hB : ∀ p ∈ B, p.length ≤ 4) : (trL Z A B).length ≤ 4 * Z.length := by
  unfold trL
  induction Z with
  | nil => simp
  | cons p Z ih =>
    have h1 : (trOne A B p).length ≤ 4 := by
      unfold trOne
      split
      · exact hZ p (List.mem_cons_self ..)
      · rw [List.getD_eq_getElem?_getD]
        cases h : B[(idxA A p).toNat]? with
        | none => simp
        | some x => exact hB x (List.mem_of_getElem? h)
    have := ih (fun q hq => hZ q (List.mem_cons_of_mem _ hq))
    rw [List.map_cons, List.flatten_cons, List.length_append, List.length_cons]; omega
set_option maxHeartbeats 4000000 in
/-- (*caller).texts -/
theorem texts_any (q : Nat) (T : Value) (c0 c1 c2 c3 : Int) (ad : Option Addr) (cp : Nat) (R : List (List UInt8)) (w : World) (hn : R.length ≤ 1000000)
    (hC : CallerAt w q T c0 c1 c2 c3 (.slice ad R.length cp)) (hT : Hid (∀ (j : Nat) (h : j < R.length), TextOf w q j (bs R[j]))) :
    Calls Tryz.prog 42 #[.pointer (some ⟨q, 0, none⟩)] w fun e w' => ∃ v, e = .returned v ∧ StrRow w' v R ∧ Ext w w' := by
  have a5 := hC.a; have hq := hC.lt
  clear hC
  obtain ⟨i0, hi, hz0, hz1, hz2⟩ := info_parts infoStr
  go_enter Tryz.func42, Tryz.ntmps42
  go_wp2
  go_loopw [3, 10] (fun o t wr => ∃ (j : Nat) (dv : Value), dv = o ∧ t = .int .i64 j ∧ j ≤ R.length ∧ wr.ownsRow w.heap.size 9 1 dv (R.take j).length (strV (R.take j)) ∧ Ext w wr) (fun _ t _ => downV R.length t)
  case atStart => exact ⟨0, _, rfl, rfl, Nat.zero_le _, World.ownsRow_nil _ _ _ _, Ext.refl _⟩
  case round =>
    obtain ⟨j, dv, rfl, rfl, hj, hown, hX⟩ := hrel
    have hsz := hX.size
    by_cases hlt : j < R.length
    · have hI : (j : Int) < (R.length : Int) := by omega
      have HD := Lib.hid (hT.out j hlt wr hX)
      have hL : (R.take j).length = j := by rw [List.length_take]; omega
      go_wp2_with fail
      refine HD.out.mono ?_
      rintro e w1 ⟨rfl, hB1⟩
      have hX1 := hX.trans hB1
      have hsz1 := hX1.size
      have hown1 : w1.ownsRow w.heap.size 9 1 dv (R.take j).length (strV (R.take j)) := hown.kept (row := none) ⟨hB1.os, hB1.tape, hB1.output, hB1.size, fun i hi _ => Below.block hB1 i hi⟩ (by cases dv.ownBlock <;> simp)
      clear hown hX hB1 hsz
      go_wp2_with (at_builtin; refine wpList_append_own _ rfl (.tmp 13) (.tmp 17) _ rfl w.heap.size 9 i0 (.string ⟨#[]⟩) 1 16 Tryz.underlying37 hi hz0 hz1 hz2 rfl (by decide) dv (R.take j).length (strV (R.take j)) rfl (hown1.alloc _) ⟨w1.heap.size, 0, none⟩ 1 1 [_] rfl rfl new_one one_str (by unfold maxLen; omega) (by omega) (by simp; omega) ?_; intro v2 w2 hown2 hgrow2 _)
      have hX2 := hX1.grown_own hown1 hgrow2
      have hO2 : w2.ownsRow w.heap.size 9 1 v2 (R.take (j + 1)).length (strV (R.take (j + 1))) := by
        rw [take_one R j hlt, strV_snoc, List.length_append]; exact hown2
      clear hown1 hown2 hgrow2 hX1
      go_wp2
      go_roundw
      case rel => exact ⟨j + 1, v2, rfl, by push_cast; rfl, hlt, hO2, hX2⟩
      case measure => simp only [downV]; omega
    · have hI : ¬ ((j : Int) < (R.length : Int)) := by omega
      have hR : R.take j = R := List.take_of_length_le (by omega)
      rw [hR] at hown
      go_wp2
      go_ret
      exact ⟨dv, rfl, StrRow.of_own hown, hX⟩
set_option maxHeartbeats 4000000 in
/-- translate -/
theorem translate_any (s a b : List UInt8) (w : World) (U : GlobU w) (hs : s.length ≤ 1000000000) (ha : a.length ≤ 1000000000) (hb : b.length ≤ 1000000000) :
    Calls Tryz.prog 50 #[.string (bs s), .string (bs a), .string (bs b)] w fun e w' => e = .returned (.string (bs (trL (Pc.pieces s) (Pc.pieces a) (Pc.pieces b)))) ∧ Ext w w' := by
  have HP : Hid (∀ (l : List UInt8) W, l.length ≤ 1000000000 → Ext w W → Calls Tryz.prog 26 #[.string (bs l)] W fun e w' => ∃ v, e = .returned v ∧ StrRow w' v (Pc.pieces l) ∧ Ext W w') := Lib.hid fun l W hl hX => pieces_any (bs l) W (U.ext hX) (by rw [bs_size]; omega)
  have k1 := Pc.pieces_ne s
  have k2 := Pc.pieces_ne b
  have k3 := Pc.pieces_len s
  obtain ⟨Z, hZ⟩ : ∃ Z, Pc.pieces s = Z := ⟨_, rfl⟩
  obtain ⟨A, hA⟩ : ∃ A, Pc.pieces a = A := ⟨_, rfl⟩
  obtain ⟨B, hB⟩ : ∃ B, Pc.pieces b = B := ⟨_, rfl⟩
  rw [hZ] at k1 k3 ⊢
  rw [hB] at k2 ⊢
  rw [hA]
  have HP1 := Lib.hid (hA ▸ HP.out a); have HP2 := Lib.hid (hB ▸ HP.out b); have HP3 := Lib.hid (hZ ▸ HP.out s)
  have hZn : Z.length ≤ 1000000000 := by omega
  have HS : Hid (∀ j, (trL (Z.take j) A B).length ≤ 4 * j) := Lib.hid fun j => by
    have := pieces_sum A B (Z.take j) (fun p hp => (k1 p (List.mem_of_mem_take hp)).2) (fun p hp => (k2 p hp).2)
    rw [List.length_take] at this; omega
  have HL : Hid (∀ p ∈ Z, p.length ≤ 4) := Lib.hid fun p hp => (k1 p hp).2
  have HLB : Hid (∀ p ∈ B, p.length ≤ 4) := Lib.hid fun p hp => (k2 p hp).2
  clear HP hA hB hZ k1 k2 k3 U
  go_enter Tryz.func50, Tryz.ntmps50
  go_wp2_with fail
  refine (HP1.out _ ha (Ext.refl _)).mono ?_
  rintro e w1 ⟨v1, rfl, hS1, hB1⟩
  go_wp2_with fail
  refine (HP2.out _ hb hB1).mono ?_
  rintro e w2 ⟨v2, rfl, hS2, hB2⟩
  have hE2 := hB1.trans hB2
  have hS1' := hS1.ext hB2
  obtain ⟨a1, c1, e1⟩ := hS1'.slice
  obtain ⟨a2, c2, e2⟩ := hS2.slice
  subst e1 e2
  go_wp2_with fail
  refine (HP3.out _ hs (hE2.alloc _)).mono ?_
  rintro e w3 ⟨v3, rfl, hS3, hB3⟩
  obtain ⟨a3, c3, e3⟩ := hS3.slice
  subst e3
  have hsz := hB3.size
  have hb3 : w3.heap[w2.heap.size]? = some (.cells #[.pointer none, .slice none 0 0] 96 (0, 0)) := by
    rw [Below.block hB3 _ (by show w2.heap.size < (w2.heap.push _).size; rw [Array.size_push]; omega)]
    exact Array.getElem?_push_size
  have hI : Lib.IsBuilderF 96 5 w2.heap.size w2.heap.size (Lib.byteCells (trL [] A B)) w3 := Lib.IsBuilderF.of (Or.inl ⟨Nat.le_refl _, _, hb3, World.ownsRow_nil _ _ _ _, by simp [Value.ownBlock]⟩)
  have hE3 : Ext w2 w3 := ((Ext.refl w2).alloc _).trans hB3
  clear hb3 hB3 hsz hB1 hB2 hS1 HP1 HP2 HP3
  go_wp2
  go_loopw [20] (fun t wr => ∃ j : Nat, t = .int .i64 j ∧ j ≤ Z.length ∧ Lib.IsBuilderF 96 5 w2.heap.size w2.heap.size (Lib.byteCells (trL (Z.take j) A B)) wr ∧ Ext w2 wr ∧ StrRow wr (.slice a3 Z.length c3) Z) (fun t _ => downV Z.length t)
  case atStart => exact ⟨0, rfl, Nat.zero_le _, hI, hE3, hS3⟩
  case round =>
    obtain ⟨j, rfl, hj, hI, hX, hS⟩ := hrel
    have hsz := hX.size
    by_cases hlt : j < Z.length
    · have hjI : (j : Int) < (Z.length : Int) := by omega
      have hj0 : (0 : Int) ≤ (j : Int) := by omega
      obtain ⟨g, rfl, hc⟩ := hS.at j hlt
      have hp4 := HL.out _ (List.getElem_mem hlt)
      have hIX := idx_any _ A Z[j] wr (hS1'.ext hX)
      have hlim := HS.out j
      have hsnoc : trL (Z.take (j + 1)) A B = trL (Z.take j) A B ++ trOne A B Z[j] := by rw [take_one Z j hlt, trL_snoc]
      have hone : trOne A B Z[j] = if idxA A Z[j] < 0 then Z[j] else B.getD (idxA A Z[j]).toNat [] := rfl
      obtain ⟨p, hp⟩ : ∃ p, Z[j] = p := ⟨_, rfl⟩
      rw [hp] at hc hp4 hIX hsnoc hone
      have hi := idxA_lt A p
      obtain ⟨ix, hix⟩ : ∃ ix, idxA A p = ix := ⟨_, rfl⟩
      rw [hix] at hIX hone hi
      have HIX := Lib.hid hIX
      obtain ⟨one, h1⟩ : ∃ one, trOne A B p = one := ⟨_, rfl⟩
      rw [h1] at hsnoc hone
      have HSN := Lib.hid hsnoc
      have hsh := builderF_shape hI
      clear hIX hix h1 hp hsnoc
      by_cases hneg : ix < 0
      · rw [if_pos hneg] at hone
        subst hone
        go_wp2_with fail
        refine HIX.out.mono ?_
        rintro e w4 ⟨rfl, rfl⟩
        go_wp2_with fail
        refine (builder_WS w2.heap.size w2.heap.size _ (bs one) _ hI (by rw [Lib.byteCells_length, bs_size]; omega) hsz).mono ?_
        rintro e w5 ⟨rfl, hI5, hB5, hK5⟩
        have hX5 : Ext w2 w5 := Below.trans hX hB5
        have hS5 := hS.kept hsh hK5
        have hI6 : Lib.IsBuilderF 96 5 w2.heap.size w2.heap.size (Lib.byteCells (trL (Z.take (j + 1)) A B)) w5 := by rw [HSN.out, byteCells_append]; exact hI5
        clear hI hX hS hI5 hB5 hK5
        go_wp2
        go_roundw
        case rel => exact ⟨j + 1, by push_cast; rfl, hlt, hI6, hX5, hS5⟩
        case measure => simp only [downV]; omega
      · rw [if_neg hneg] at hone
        by_cases hin : ix < (B.length : Int)
        · obtain ⟨i, rfl⟩ : ∃ i : Nat, ix = (i : Int) := ⟨ix.toNat, by omega⟩
          have hib : i < B.length := by omega
          obtain ⟨g2, rfl, hc2⟩ := (hS2.ext hX).at i hib
          have ho : one = B[i] := by rw [hone, Int.toNat_natCast, List.getD_eq_getElem?_getD, List.getElem?_eq_getElem hib]; rfl
          have ho4 := HLB.out _ (List.getElem_mem hib)
          rw [← ho] at hc2 ho4
          have hi0 : (0 : Int) ≤ (i : Int) := by omega
          clear ho hone
          go_wp2_with fail
          refine HIX.out.mono ?_
          rintro e w4 ⟨rfl, rfl⟩
          go_wp2_with fail
          refine (builder_WS w2.heap.size w2.heap.size _ (bs one) _ hI (by rw [Lib.byteCells_length, bs_size]; omega) hsz).mono ?_
          rintro e w5 ⟨rfl, hI5, hB5, hK5⟩
          have hX5 : Ext w2 w5 := Below.trans hX hB5
          have hS5 := hS.kept hsh hK5
          have hI6 : Lib.IsBuilderF 96 5 w2.heap.size w2.heap.size (Lib.byteCells (trL (Z.take (j + 1)) A B)) w5 := by rw [HSN.out, byteCells_append]; exact hI5
          clear hI hX hS hI5 hB5 hK5
          go_wp2
          go_roundw
          case rel => exact ⟨j + 1, by push_cast; rfl, hlt, hI6, hX5, hS5⟩
          case measure => simp only [downV]; omega
        · have ho : one = [] := by rw [hone, List.getD_eq_getElem?_getD, List.getElem?_eq_none (by omega)]; rfl
          have hI6 : Lib.IsBuilderF 96 5 w2.heap.size w2.heap.size (Lib.byteCells (trL (Z.take (j + 1)) A B)) wr := by rw [HSN.out, ho, List.append_nil]; exact hI
          clear ho hone hI
          go_wp2_with fail
          refine HIX.out.mono ?_
          rintro e w4 ⟨rfl, rfl⟩
          go_wp2
          go_roundw
          case rel => exact ⟨j + 1, by push_cast; rfl, hlt, hI6, hX, hS⟩
          case measure => simp only [downV]; omega
    · have hjI : ¬ ((j : Int) < (Z.length : Int)) := by omega
      rw [List.take_of_length_le (by omega)] at hI
      go_wp2_with fail
      refine (builder_S w2.heap.size w2.heap.size _ _ hI hsz).mono ?_
      rintro e w4 ⟨rfl, hB4⟩
      go_wp2_with fail
      go_ret
      exact ⟨rfl, hE2.trans (show Ext w2 w4 from Below.trans hX hB4)⟩
end Go.Proofs.YtcdehcclkhmbiaaGreatDoor
