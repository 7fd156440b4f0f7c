/-
  The contracts of deci.Parse and deci.Text at every text, every number. Helper lemmas; no statement of the seat is proved here.
-/
import Derived.Test.YtcdehcclkhmbiaaGreatDoorDeciP
import Derived.Test.YtcdehcclkhmbiaaGreatDoorTextPlain
namespace Go.Proofs.YtcdehcclkhmbiaaGreatDoor
open Go.RowKit
set_option linter.unusedVariables false

/-- a list of bytes as a text -/
def bs (l : List UInt8) : ByteArray := ⟨l.toArray⟩
theorem bs_list (l : List UInt8) : (bs l).data.toList = l := rfl
theorem bs_size (l : List UInt8) : (bs l).size = l.length := by simp [bs, ByteArray.size]
theorem bs_toList (l : List UInt8) : (bs l).toList = l := Lib.toList_data _
theorem bs_append (l m : List UInt8) : bs l ++ bs m = bs (l ++ m) := by
  apply ByteArray.ext; simp [bs]
theorem bs_extract (l : List UInt8) (a b : Nat) : (bs l).extract a b = bs ((l.drop a).take (b - a)) := by
  apply ByteArray.ext
  simp [bs, ByteArray.data_extract, List.extract_toArray]
theorem str_ext (s : ByteArray) : s = bs s.data.toList := by apply ByteArray.ext; simp [bs]

def six : List UInt8 := [48, 48, 48, 48, 48, 48]
def parseS (l : List UInt8) : Out :=
  if (Lib.cut (Lib.trimPrefix (Lib.trimS l [9, 10, 13, 32]) [45]) [46]).1 ++ (Lib.cut (Lib.trimPrefix (Lib.trimS l [9, 10, 13, 32]) [45]) [46]).2.1 = [] then noneS
  else if (Lib.cut (Lib.trimPrefix (Lib.trimS l [9, 10, 13, 32]) [45]) [46]).1.all KText.isDig = false then noneS
  else if (Lib.cut (Lib.trimPrefix (Lib.trimS l [9, 10, 13, 32]) [45]) [46]).2.1.all KText.isDig = false then noneS
  else if 10 < (Lib.trimLeftS (Lib.cut (Lib.trimPrefix (Lib.trimS l [9, 10, 13, 32]) [45]) [46]).1 [48]).length then ((false, 0), 66)
  else fitS (signed (Lib.hasPrefix (Lib.trimS l [9, 10, 13, 32]) [45]) (KText.val 0 ([48] ++ Lib.trimLeftS (Lib.cut (Lib.trimPrefix (Lib.trimS l [9, 10, 13, 32]) [45]) [46]).1 [48] ++ ((Lib.cut (Lib.trimPrefix (Lib.trimS l [9, 10, 13, 32]) [45]) [46]).2.1 ++ six).take 6)))

theorem trimS_len (l cs : List UInt8) : (Lib.trimS l cs).length ≤ l.length := by
  unfold Lib.trimS Lib.trimLeftS Lib.trimRightS
  refine Nat.le_trans (List.dropWhile_sublist _).length_le ?_
  rw [List.length_reverse]
  refine Nat.le_trans (List.dropWhile_sublist _).length_le ?_
  rw [List.length_reverse]; exact Nat.le_refl _
theorem trimPrefix_len (l p : List UInt8) : (Lib.trimPrefix l p).length ≤ l.length := by
  unfold Lib.trimPrefix; split
  · rw [List.length_drop]; omega
  · exact Nat.le_refl _
theorem cut_len (l p : List UInt8) : (Lib.cut l p).1.length ≤ l.length ∧ (Lib.cut l p).2.1.length ≤ l.length := by
  unfold Lib.cut; split
  · simp only [List.length_take, List.length_drop]; omega
  · simp

theorem parse_any (s : ByteArray) (w : World) (G : Glob w) (hs : s.size ≤ 4294967280) :
    Calls Tryz.prog 70 #[.string s] w fun e w' => e = .returned (.tuple #[.agg #[.bool (parseS s.data.toList).1.1, .int .i64 (parseS s.data.toList).1.2], .int .i64 (parseS s.data.toList).2]) ∧ Ext w w' := by
  have hs' : s.data.toList.length ≤ 4294967280 := by rw [Array.length_toList]; exact hs
  generalize hl : s.data.toList = l at hs' ⊢
  unfold parseS
  have k0 := trimS_len l [9, 10, 13, 32]
  generalize et0 : Lib.trimS l [9, 10, 13, 32] = t0 at k0 ⊢
  have k1 := trimPrefix_len t0 [45]
  generalize eneg : Lib.hasPrefix t0 [45] = neg
  generalize et1 : Lib.trimPrefix t0 [45] = t1 at k1 ⊢
  obtain ⟨k2, k3⟩ := cut_len t1 [46]
  generalize ef : (Lib.cut t1 [46]).2.2 = fnd
  generalize ewh : (Lib.cut t1 [46]).1 = wh at k2 ⊢
  generalize epl : (Lib.cut t1 [46]).2.1 = pl at k3 ⊢
  have H0 : Hid (∀ w, Calls Tryz.prog 94 #[.string s] w fun e w' => e = .returned (.string (bs t0)) ∧ Ext w w') := fun w => by
    have h := trim_any s w (by omega)
    rw [hl, et0] at h
    exact h
  have H1 : Hid (∀ w, Calls Tryz.prog 95 #[.string (bs t0), .string ⟨#[45]⟩] w fun e w' => e = .returned (.tuple #[.string (bs t1), .bool neg]) ∧ w = w') := fun w => by
    have h := Tryz.strings_CutPrefix (bs t0) ⟨#[45]⟩ w
    refine h.mono fun e w' ⟨he, hw⟩ => ⟨?_, hw.symm⟩
    rw [he, bs_list, show (⟨#[45]⟩ : ByteArray).data.toList = [45] from rfl, et1, eneg]; rfl
  have H2 : Hid (∀ w, Glob w → Calls Tryz.prog 82 #[.string (bs t1), .string ⟨#[46]⟩] w fun e w' => e = .returned (.tuple #[.string (bs wh), .string (bs pl), .bool fnd]) ∧ Ext w w') := fun w G => by
    obtain ⟨m, hm⟩ := G.m
    have h := Tryz.strings_Cut (bs t1) ⟨#[46]⟩ m w (by rw [bs_size]; omega) hm
    refine h.mono fun e w' ⟨he, n, hw⟩ => ⟨?_, by rw [hw]; exact (Ext.refl _).drewN n⟩
    rw [he, bs_list, show (⟨#[46]⟩ : ByteArray).data.toList = [46] from rfl, ewh, epl, ef]; rfl
  have H3 : ∀ l : List UInt8, l.length ≤ 4294967296 → Hid (∀ w, Calls Tryz.prog 96 #[.string (bs l)] w fun e w' => e = .returned (.bool (l.all KText.isDig)) ∧ Ext w w') := fun l hl w => by
    have h := digits_any (bs l) w (by rw [bs_size]; omega)
    unfold digL at h
    rw [bs_list, KText.digits_all] at h
    exact h
  have eapp : (bs wh ++ bs pl).toList = wh ++ pl := by rw [bs_append, bs_toList]
  have b1 : (bs wh).size ≤ 4294967296 := by rw [bs_size]; omega
  have b2 : (bs pl).size ≤ 4294967296 := by rw [bs_size]; omega
  have h3 := H3 wh (by omega)
  have h4 := H3 pl (by omega)
  by_cases c1 : wh ++ pl = []
  · rw [if_pos c1]
    exact parse_empty s (bs t0) (bs t1) (bs wh) (bs pl) neg fnd w G b1 b2 H0 H1 H2 (by rw [eapp, c1]; rfl)
  rw [if_neg c1]
  have hne : (bs wh ++ bs pl).toList.isEmpty = false := by rw [eapp]; simpa [List.isEmpty_iff] using c1
  by_cases c2 : wh.all KText.isDig = false
  · rw [if_pos c2]; rw [c2] at h3
    exact parse_bad1 s (bs t0) (bs t1) (bs wh) (bs pl) neg fnd w G b1 b2 H0 H1 H2 h3 hne
  rw [if_neg c2]
  have c2' : wh.all KText.isDig = true := by simpa using c2
  rw [c2'] at h3
  by_cases c3 : pl.all KText.isDig = false
  · rw [if_pos c3]; rw [c3] at h4
    exact parse_bad2 s (bs t0) (bs t1) (bs wh) (bs pl) neg fnd w G b1 b2 H0 H1 H2 h3 h4 hne
  rw [if_neg c3]
  have c3' : pl.all KText.isDig = true := by simpa using c3
  rw [c3'] at h4
  have k4 : (Lib.trimLeftS wh [48]).length ≤ wh.length := (List.dropWhile_sublist _).length_le
  generalize ewz : Lib.trimLeftS wh [48] = wz at k4 ⊢
  have H5 : Hid (∀ w, Calls Tryz.prog 97 #[.string (bs wh), .string ⟨#[48]⟩] w fun e w' => e = .returned (.string (bs wz)) ∧ Ext w w') := fun w => by
    have hcon := Any.strings_TrimLeft_laid Tryz.lays161 (by kernel_rfl) (bs wh) ⟨#[48]⟩ w (by decide) (ascii_of_all (by decide))
    change Calls Tryz.prog 97 _ _ (fun e w' => e = .returned (.string ⟨(Lib.trimLeftS wh [48]).toArray⟩) ∧ Below w.heap.size w w') at hcon
    rw [ewz] at hcon
    exact hcon
  by_cases c4 : 10 < wz.length
  · rw [if_pos c4]
    exact parse_over s (bs t0) (bs t1) (bs wh) (bs pl) neg fnd w G b1 b2 (bs wz) (by rw [bs_size]; exact c4) (by rw [bs_size]; omega) H0 H1 H2 h3 h4 H5 hne
  rw [if_neg c4]
  obtain ⟨⟨⟨r1, r2⟩, r3⟩, hr⟩ : ∃ r, fitS (signed neg (KText.val 0 ([48] ++ wz ++ (pl ++ six).take 6))) = r := ⟨_, rfl⟩
  rw [hr]
  have enum : ({ data := #[48] } ++ bs wz ++ (bs pl ++ { data := #[48, 48, 48, 48, 48, 48] }).extract 0 6 : ByteArray) = bs ([48] ++ wz ++ (pl ++ six).take 6) := by
    rw [show ({ data := #[48] } : ByteArray) = bs [48] from rfl, show ({ data := #[48, 48, 48, 48, 48, 48] } : ByteArray) = bs six from rfl, bs_append, bs_append, bs_extract, List.drop_zero, Nat.sub_zero, bs_append]
  have H6 : Hid (∀ w, Calls Tryz.prog 98 #[.string ({ data := #[48] } ++ bs wz ++ (bs pl ++ { data := #[48, 48, 48, 48, 48, 48] }).extract 0 6), .int .i64 10, .int .i64 64] w fun e w' => e = .returned (.tuple #[.int .u64 (KText.val 0 ([48] ++ wz ++ (pl ++ six).take 6)), .nilIface]) ∧ Ext w w') := fun w => by
    rw [enum]
    have hlen : ([48] ++ wz ++ (pl ++ six).take 6).length ≤ 17 := by simp only [List.length_append, List.length_take, List.length_singleton]; omega
    have hdig : ∀ c ∈ [48] ++ wz ++ (pl ++ six).take 6, KText.isDig c = true := by
      intro c hc
      rw [List.all_eq_true] at c2' c3'
      rw [List.mem_append, List.mem_append] at hc
      rcases hc with (hc | hc) | hc
      · simp at hc; subst hc; rfl
      · rw [← ewz] at hc
        exact c2' c ((List.dropWhile_sublist _).mem hc)
      · have := List.mem_of_mem_take hc
        rw [List.mem_append] at this
        rcases this with h | h
        · exact c3' c h
        · simp [six] at h; subst h; rfl
    have h := Tryz.strconv_ParseUint_10_at64_ok (bs ([48] ++ wz ++ (pl ++ six).take 6)) (by rw [bs_size]; omega) (KText.val 0 ([48] ++ wz ++ (pl ++ six).take 6)) (KText.parseB_ok ([48] ++ wz ++ (pl ++ six).take 6) (by simp) hdig (by omega)) w
    refine h.mono fun e w' ⟨he, hw⟩ => ⟨he, ?_⟩
    rcases hw with rfl | rfl
    · exact Ext.refl _
    · exact Joins.below_bytesWorld _ _ _ _ (Nat.le_refl _)
  exact parse_ok s (bs t0) (bs t1) (bs wh) (bs pl) neg fnd w G b1 b2 (bs wz) (by rw [bs_size]; omega) _ (Int.natCast_nonneg _) _ rfl r1 r2 r3 hr H0 H1 H2 h3 h4 H5 H6 hne
/-- the places of a number, without the last noughts -/
def placesS (a : Nat) : List UInt8 := Lib.trimRightS (KText.low 6 (a % 1000000)).reverse [48]
def bodyS (a : Nat) : List UInt8 := if placesS a = [] then Lib.decDigits (a / 1000000) else Lib.decDigits (a / 1000000) ++ ([46] ++ placesS a)
def textS (n : Bool) (v : Int) : List UInt8 := if oddB n v = true then [78, 97, 78] else if v < 0 then [45] ++ bodyS v.natAbs else bodyS v.natAbs
theorem dec_len (u : Nat) (h : u < 18446744073709551616) : (Lib.decDigits u).length ≤ 20 := by
  rw [Lib.decDigits_length]
  by_cases h1 : 1 ≤ u
  · have := Lib.numDigits_eq u h1 h; split at this <;> omega
  · rw [Lib.nDigits_small (by omega)]; omega
theorem text_any (an : Bool) (av : Int) (w : World) (G : Glob w) :
    Calls Tryz.prog 87 #[.agg #[.bool an, .int .i64 av]] w fun e w' => e = .returned (.string (bs (textS an av))) ∧ Ext w w' := by
  by_cases ho : oddB an av = true
  · rw [textS, if_pos ho]; exact text_odd an av w ho
  rw [textS, if_neg ho]
  have ho' : oddB an av = false := by simpa using ho
  obtain ⟨rfl, a1, a2⟩ := oddB_false ho'
  have hA : av.natAbs ≤ 1000000000000000 := by omega
  unfold bodyS
  generalize ea : av.natAbs = a at hA ⊢
  have eI : absI av = (a : Int) := by unfold absI; rw [ea]
  have F1 : Hid (∀ w, Glob w → Calls Tryz.prog 103 #[.int .u64 (absI av / 1000000), .int .i64 10] w fun e w' => e = .returned (.string (bs (Lib.decDigits (a / 1000000)))) ∧ Ext w w') := fun w G => by
    rw [eI, show (a : Int) / 1000000 = ((a / 1000000 : Nat) : Int) by omega]
    exact fmt_any _ (by omega) w G.tab
  have F2 : Hid (∀ w, Glob w → Calls Tryz.prog 103 #[.int .u64 (absI av % 1000000 + 1000000), .int .i64 10] w fun e w' => e = .returned (.string (bs (49 :: (KText.low 6 (a % 1000000)).reverse))) ∧ Ext w w') := fun w G => by
    rw [eI, show (a : Int) % 1000000 + 1000000 = ((a % 1000000 + 1000000 : Nat) : Int) by omega]
    have h := fmt_any (a % 1000000 + 1000000) (by omega) w G.tab
    rw [KText.dec_million _ (by omega)] at h
    exact h
  have hpl : (KText.low 6 (a % 1000000)).reverse.length = 6 := by rw [List.length_reverse, KText.low_length]
  have F3 : Hid (∀ w, Calls Tryz.prog 104 #[.string ((bs (49 :: (KText.low 6 (a % 1000000)).reverse)).extract 1 (bs (49 :: (KText.low 6 (a % 1000000)).reverse)).size), .string ⟨#[48]⟩] w fun e w' => e = .returned (.string (bs (placesS a))) ∧ Ext w w') := fun w => by
    have e1 : (bs (49 :: (KText.low 6 (a % 1000000)).reverse)).extract 1 (bs (49 :: (KText.low 6 (a % 1000000)).reverse)).size = bs (KText.low 6 (a % 1000000)).reverse := by
      rw [bs_extract, bs_size, List.drop_one, List.tail_cons, List.length_cons, Nat.add_sub_cancel, List.take_length]
    rw [e1]
    have hcon := Any.strings_TrimRight_laid Tryz.lays162 (by kernel_rfl) (bs (KText.low 6 (a % 1000000)).reverse) ⟨#[48]⟩ w (by rw [bs_size]; omega) (by decide) (ascii_of_all (by decide))
    exact hcon
  have b1 : (bs (Lib.decDigits (a / 1000000))).size ≤ 4294967296 := by rw [bs_size]; have := dec_len (a / 1000000) (by omega); omega
  have hp6 : (placesS a).length ≤ 6 := by
    unfold placesS Lib.trimRightS
    rw [List.length_reverse]
    refine Nat.le_trans (List.dropWhile_sublist _).length_le ?_
    rw [List.length_reverse]; omega
  have b2 : (bs (placesS a)).size ≤ 4294967296 := by rw [bs_size]; omega
  have b3 : (bs (49 :: (KText.low 6 (a % 1000000)).reverse)).size = 7 := by rw [bs_size, List.length_cons, hpl]
  by_cases hp : placesS a = []
  · rw [if_pos hp]
    have ht : (bs (placesS a)).toList.isEmpty = true := by rw [bs_toList, hp]; rfl
    by_cases hs : av < 0
    · rw [if_pos hs, ← bs_append]
      exact text_neg_whole av w G ho' hs _ _ _ b1 b2 (by omega) (by omega) F1 F2 F3 ht
    · rw [if_neg hs]
      exact text_pos_whole av w G ho' (by omega) _ _ _ b1 b2 (by omega) (by omega) F1 F2 F3 ht
  · rw [if_neg hp]
    have ht : (bs (placesS a)).toList.isEmpty = false := by rw [bs_toList]; simpa [List.isEmpty_iff] using hp
    by_cases hs : av < 0
    · rw [if_pos hs, ← bs_append, ← bs_append, ← bs_append]
      exact text_neg_parts av w G ho' hs _ _ _ b1 b2 (by omega) (by omega) F1 F2 F3 ht
    · rw [if_neg hs, ← bs_append, ← bs_append]
      exact text_pos_parts av w G ho' (by omega) _ _ _ b1 b2 (by omega) (by omega) F1 F2 F3 ht
end Go.Proofs.YtcdehcclkhmbiaaGreatDoor
