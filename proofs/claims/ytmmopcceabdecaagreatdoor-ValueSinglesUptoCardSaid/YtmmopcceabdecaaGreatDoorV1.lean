/-
  Tables: recensionref22.nodes, as far as a value needs it. Helper lemmas; no statement of the seat is proved here.
-/
import Derived.Test.YtmmopcceabdecaaGreatDoorV0
import Derived.Test.YtmmopcceabdecaaGreatDoorVD
import Derived.Laws.OwnMore
namespace Go.Proofs.YtmmopcceabdecaaGreatDoor
open Go.RowKit
set_option maxRecDepth 100000
set_option linter.unusedVariables false
set_option linter.unusedSimpArgs false

/-- A row of a table. -/
structure QN where
  kind : Int
  name : Bytes
  text : Bytes
  par : Int
  fin : Int
  path : Bytes
def qnC (q : QN) : List DV := [intD q.kind, strD q.name, strD q.text, intD q.par, intD q.fin, strD q.path]
def qnsD (l : List QN) : DV := .s 6 (l.flatMap qnC)
theorem z_qn (q : QN) : (qnC q).length = 6 := rfl
def qnV (q : QN) : List Value := [.int .i64 q.kind, .string (bs q.name), .string (bs q.text), .int .i64 q.par, .int .i64 q.fin, .string (bs q.path)]
def qnF (q : QN) : Prop := q.name.length ≤ 1048576 ∧ q.text.length ≤ 1048576 ∧ q.path.length ≤ 2000000000000
theorem qnV_reps (w : World) (p : Nat → Prop) : ∀ L : List QN, (∀ q ∈ L, qnF q) → Reps w p (L.flatMap qnV) (L.flatMap qnC)
  | [], _ => Reps.nil _ _
  | q :: L, h => by
    rw [List.flatMap_cons, List.flatMap_cons]
    obtain ⟨h1, h2, h3⟩ := h q (List.mem_cons_self ..)
    exact Reps.append (us := qnV q) (es := qnC q) (Reps.cons (Rep.int _ _ _ _) (Reps.cons (Rep.string _ _ _ (by rw [bs_size]; omega)) (Reps.cons (Rep.string _ _ _ (by rw [bs_size]; omega)) (Reps.cons (Rep.int _ _ _ _) (Reps.cons (Rep.int _ _ _ _) (Reps.cons (Rep.string _ _ _ (by rw [bs_size]; omega)) (Reps.nil _ _))))))) (qnV_reps w p L fun x hx => h x (List.mem_cons_of_mem _ hx))
theorem qnV_len : ∀ L : List QN, (L.flatMap qnV).length = L.length * 6
  | [] => rfl
  | q :: L => by rw [List.flatMap_cons, List.length_append, qnV_len L]; show 6 + _ = (L.length + 1) * 6; omega
/-- The rows behind the first one end behind themselves, at b the latest; the first one doesn't yet say where it ends. -/
def TI (a b : Int) (L : List QN) : Prop := ∀ (j : Nat) (q : QN), L[j]? = some q → qnF q ∧ (0 < j → a + j < q.fin ∧ q.fin ≤ b)
/-- A table from a on, to b. -/
def TOk (a b : Int) (L : List QN) : Prop := ∀ (j : Nat) (q : QN), L[j]? = some q → qnF q ∧ a + j < q.fin ∧ q.fin ≤ b
theorem TI.one {a b : Int} {q : QN} (h : qnF q) : TI a b [q] := fun j x hj => by
  match j, hj with
  | 0, hj => cases hj; exact ⟨h, fun h0 => by omega⟩
  | j + 1, hj => simp at hj
theorem TI.app {a b c : Int} {L M : List QN} (h : TI a b L) (hb : b ≤ c) (hL : 0 < L.length) (k : TOk (a + L.length) c M) : TI a c (L ++ M) := fun j q hj => by
  by_cases hlt : j < L.length
  · rw [List.getElem?_append_left hlt] at hj
    obtain ⟨h1, h2⟩ := h j q hj
    exact ⟨h1, fun h0 => by have := h2 h0; omega⟩
  · rw [List.getElem?_append_right (by omega)] at hj
    obtain ⟨h1, h2, h3⟩ := k _ q hj
    exact ⟨h1, fun h0 => by omega⟩
theorem TOk.one {a : Int} {q : QN} (h : qnF q) (hf : q.fin = a + 1) : TOk a (a + 1) [q] := fun j x hj => by
  match j, hj with
  | 0, hj => cases hj; exact ⟨h, by omega, by omega⟩
  | j + 1, hj => simp at hj
theorem TI.shut {a : Int} {q : QN} {L : List QN} (h : TI a (a + (q :: L).length) (q :: L)) : TOk a (a + (q :: L).length) ({ q with fin := a + (q :: L).length } :: L) := fun j x hj => by
  match j, hj with
  | 0, hj =>
    cases hj
    exact ⟨(h 0 q rfl).1, by simp only [List.length_cons]; omega, Int.le_refl _⟩
  | j + 1, hj =>
    obtain ⟨h1, h2⟩ := h (j + 1) x hj
    exact ⟨h1, h2 (by omega)⟩
theorem TI.snoc {a : Int} {L : List QN} {q : QN} (h : TI a (a + L.length) L) (hL : 0 < L.length) (hq : qnF q) (hf : q.fin = a + L.length + 1) : TI a (a + (L ++ [q]).length) (L ++ [q]) :=
  h.app (by rw [List.length_append]; simp; omega) hL (by rw [show a + ((L ++ [q]).length : Int) = (a + L.length) + 1 by rw [List.length_append]; simp; omega]; exact TOk.one hq hf)
theorem attr_le : ∀ (l : List Attr) (i : Nat) (h : i < l.length), l[i].n.length + l[i].v.length + 1 ≤ cntA l
  | [], i, h => absurd h (Nat.not_lt_zero _)
  | a :: r, 0, h => by rw [cntA]; simp only [List.getElem_cons_zero]; omega
  | a :: r, i + 1, h => by have := attr_le r i (by simpa using h); rw [cntA]; simp only [List.getElem_cons_succ]; omega
theorem kid_le : ∀ (l : List Node) (i : Nat) (h : i < l.length), cntN l[i] ≤ cntL l
  | [], i, h => absurd h (Nat.not_lt_zero _)
  | a :: r, 0, h => by rw [cntL]; simp only [List.getElem_cons_zero]; omega
  | a :: r, i + 1, h => by have := kid_le r i (by simpa using h); rw [cntL]; simp only [List.getElem_cons_succ]; omega
theorem cntN_own' (n : Node) : 1 ≤ cntN n := by cases n; rw [cntN]; omega
theorem cntL_len' : ∀ l : List Node, l.length ≤ cntL l
  | [] => by simp
  | n :: r => by have := cntL_len' r; have := cntN_own' n; rw [cntL, List.length_cons]; omega
theorem cntN_own (n : Node) : n.name.length + n.text.length + cntA n.attrs + cntL n.kids + 1 = cntN n := by cases n; rw [cntN]; simp only [Node.name, Node.text, Node.attrs, Node.kids]; omega
theorem cntA_len : ∀ l : List Attr, l.length ≤ cntA l
  | [] => by simp
  | a :: r => by have := cntA_len r; rw [cntA, List.length_cons]; omega
/-- So many letters the texts of a table have. -/
def totT (L : List QN) : Nat := (L.map fun q => q.text.length).sum
theorem totT_app (L M : List QN) : totT (L ++ M) = totT L + totT M := by simp [totT]
theorem cntA_drop (l : List Attr) (i : Nat) (h : i < l.length) : cntA (l.drop i) = 1 + l[i].n.length + l[i].v.length + cntA (l.drop (i + 1)) := by rw [drop_one l i h, cntA]
theorem infoQN : (Tryz.prog.info? 66).map (fun i => (i.zero, i.size, i.bytes)) = some (some (.agg #[.int .i64 0, .string ⟨#[]⟩, .string ⟨#[]⟩, .int .i64 0, .int .i64 0, .string ⟨#[]⟩]), 6, 72) := by kernel_rfl
/-- A sum of texts, in a region. -/
theorem exec_cat {ev : Operand → Value} {oi : Oper} {x y : Operand} {a b : ByteArray} {W : World} (ho : oi.op = .binOp .add 9 x y 9) (hx : ev x = .string a) (hy : ev y = .string b) (h : a.size + b.size ≤ 9223372036854775807) :
    (execOp ev oi).run Tryz.prog W = .ok (.value (.string (a ++ b))) W := by
  have h' : ¬ 9223372036854775807 < a.size + b.size := by omega
  unfold execOp
  simp only [ho, hx, hy]
  go_simp
theorem one_qn (q : QN) : ∀ u ∈ qnV q, u.oneCell' = true := by intro u hu; simp [qnV] at hu; rcases hu with rfl | rfl | rfl | rfl | rfl | rfl <;> rfl
theorem one_qns (L : List QN) : ∀ u ∈ L.flatMap qnV, u.oneCell' = true := fun u hu => by
  obtain ⟨q, _, h⟩ := List.mem_flatMap.1 hu
  exact one_qn q u h
set_option maxHeartbeats 4000000 in
theorem itoa_any (n : Int) (h0 : 0 ≤ n) (h : n ≤ 4294967296) (w : World) :
    Calls Tryz.prog 45 #[.int .i64 n] w fun e w' => (∃ s : Bytes, e = .returned (.string (bs s)) ∧ s.length ≤ 50) ∧ Ext w w' := by
  have hn0 : ¬ n < 0 := by omega
  by_cases hz : n = 0
  · subst hz
    go_enter Tryz.func45, Tryz.ntmps45
    go_wp2_with fail
    go_ret
    exact ⟨⟨[48], rfl, by decide⟩, Ext.refl _⟩
  · have hz' : (n == 0) = false := by rw [beq_eq_false_iff_ne]; exact hz
    have HZ := Lib.hid hz
    clear hz
    go_enter Tryz.func45, Tryz.ntmps45
    go_wp2_with fail
    go_loopw [3, 4, 5] (fun s t _ wr => ∃ (v : Nat) (S : Bytes) (k : Nat), t = .int .i64 v ∧ s = .string (bs S) ∧ v ≤ 4294967296 ∧ v < 10 ^ (20 - k) ∧ k ≤ 20 ∧ S.length ≤ k ∧ Ext w wr) (fun _ t _ _ => match t with | .int _ k => k.toNat | _ => 0)
    case atStart => exact ⟨n.toNat, [], 0, by rw [show ((n.toNat : Nat) : Int) = n by omega], rfl, by omega, by omega, by omega, by simp, Ext.refl _⟩
    case round =>
      obtain ⟨v, S, k, rfl, rfl, hv, hvk, hk, hS, hX⟩ := hrel
      have hv0 : (0 : Int) ≤ (v : Int) := by omega
      have hv1 : (v : Int) ≤ 4294967296 := by omega
      by_cases hv2 : v = 0
      · subst hv2
        have q0 : (((0 : Nat) : Int) != 0) = false := rfl
        go_wp2_with fail
        go_ret
        exact ⟨⟨S, rfl, by omega⟩, hX⟩
      · have q0 : ((v : Int) != 0) = true := by rw [bne_iff_ne]; omega
        have hm0 : ¬ (v : Int) % 10 < 0 := by omega
        have hm1 : (0 : Int) ≤ 48 + (v : Int) % 10 := by omega
        have hm2 : 48 + (v : Int) % 10 ≤ 57 := by omega
        have hk1 : k < 20 := by
          rcases Nat.lt_or_ge k 20 with h | h
          · exact h
          · have e : 20 - k = 0 := by omega
            rw [e] at hvk; simp at hvk; omega
        have hq : v / 10 < 10 ^ (20 - (k + 1)) := by
          have e : 20 - k = (20 - (k + 1)) + 1 := by omega
          rw [e, Nat.pow_succ] at hvk
          exact Nat.div_lt_of_lt_mul (by omega)
        have HQ := Lib.hid (And.intro hq (And.intro hk1 hv2))
        clear hq hvk hk1 hv2
        obtain ⟨c, hc⟩ : ∃ c : UInt8, (c.toNat : Int) = 48 + (v : Int) % 10 := ⟨UInt8.ofNat (48 + v % 10), by rw [UInt8.toNat_ofNat']; omega⟩
        have hcv := by_conv (p := fun _ => True) (L := [c]) (rep_lit (w := wr) (cs := #[.int .u8 (c.toNat : Int)]) (e := 5) (n := 1) (z := 1) (es := (byI [c]).flatMap fun y => [.v (.int .u8 y)]) rfl rfl (by decide) (Reps.cons (Rep.int _ _ _ _) (Reps.nil _ _))) 1 (Nat.le_refl _) (Ext.refl _) 1
        rw [hc] at hcv
        have hsz : ¬ 9223372036854775807 < (bs (([c] : Bytes).take 1)).size + (bs S).size := by rw [bs_size, bs_size]; simp; omega
        have HX := Lib.hid hX
        have HS := Lib.hid hS
        clear hX hc hS
        go_wp2_with fail
        go_roundw
        case rel => exact ⟨v / 10, [c] ++ S, k + 1, by simp, by rw [← bs_append], by omega, HQ.out.1, by have := HQ.out.2.1; omega, by simp; have := HS.out; omega, HX.out.alloc _⟩
        case measure => simp only []; have := HQ.out.2.2; omega
theorem own_pos {w : World} {base z n : Nat} {e : TypeId} {v : Value} {us : List Value} (h : w.ownsRow base e z v n us) (hn : 0 < n) : ∃ g cap, v = .slice (some ⟨g, 0, none⟩) n cap ∧ base ≤ g ∧ g < w.heap.size := by
  rcases h.2 with ⟨rfl, rfl⟩ | ⟨g, cap, cur, rfl, hb, _⟩
  · omega
  · exact ⟨g, cap, rfl, hb, (h.lt g rfl).2⟩
theorem own_form {w : World} {base z n : Nat} {e : TypeId} {v : Value} {us : List Value} (h : w.ownsRow base e z v n us) : ∃ o c, v = .slice o n c := by
  rcases h.2 with ⟨rfl, rfl⟩ | ⟨g, cap, cur, rfl, _⟩
  · exact ⟨_, _, rfl⟩
  · exact ⟨_, _, rfl⟩
/-- What the rows of a node are. -/
def TblRet (w : World) (n : Node) (a : Int) (e : Ending) (w' : World) : Prop := ∃ (L : List QN) (rv : Value), e = .returned rv ∧ 0 < L.length ∧ L.length ≤ cntN n ∧ w'.ownsRow w.heap.size 66 6 rv L.length (L.flatMap qnV) ∧ TOk a (a + L.length) L ∧ Ext w w' ∧ totT L ≤ cntN n
def NOk (rv : Value) (w : World) (nv : Value) : Prop := nv = .slice none 0 0 ∨ ∃ b c, nv = .slice (some b) 1 c ∧ ∀ W, Ext w W → Calls Tryz.prog 43 #[rv, nv] W fun e w' => e = .returned (.bool true) ∧ Ext W w'
set_option maxHeartbeats 64000000 in
theorem tnodes_any (rv : Value) : ∀ (N : Nat) (n : Node) (p : Nat → Prop) (a par : Int) (path : Bytes) (va vk nv : Value) (w : World), nsz n ≤ N → cntN n ≤ 1048576 → Rep w p va (attrsD n.attrs) → Rep w p vk (nodesD n.kids) → 0 ≤ a → a + cntN n ≤ 4194304 → path.length + 60 * nsz n ≤ 200000000 → NOk rv w nv →
    Calls Tryz.prog 25 #[rv, .agg #[.int .i64 n.kind, .string (bs n.name), .string (bs n.text), va, vk], .int .i64 a, .int .i64 par, .string (bs path), nv] w (TblRet w n a) := by
  intro N
  induction N with
  | zero => intro n p a par path va vk nv w hN; cases n; rw [nsz] at hN; omega
  | succ N ih =>
    intro n p a par path va vk nv w hN hcnt hva hvk ha0 ha1 hpl hnv
    obtain ⟨ba, ca, rfl, _, _⟩ := hva.count z_attr (by omega)
    obtain ⟨bk, ck, rfl, _, _⟩ := hvk.count z_node (by omega)
    have hown := cntN_own n
    have hal := cntA_len n.attrs
    have hp8 : path.length ≤ 200000000 := by omega
    have HKL := Lib.hid fun i (hi : i < n.kids.length) => (show nsz n.kids[i] ≤ N ∧ path.length + 60 + 60 * nsz n.kids[i] ≤ 200000000 by have := kid_lt n i hi; omega)
    have HCA := Lib.hid fun i (hi : i < n.attrs.length) => attr_le n.attrs i hi
    have HCK := Lib.hid fun i (hi : i < n.kids.length) => kid_le n.kids i hi
    have IH := Lib.hid (ih)
    have HNV := Lib.hid hnv
    have HVA := Lib.hid hva
    have HVK := Lib.hid hvk
    obtain ⟨i0, hin0, hq0, hq1, hq2⟩ := info_parts infoQN
    obtain ⟨wz, hwz⟩ : ∃ W', w.alloc (.cells #[.int .i64 n.kind, .string (bs n.name), .string (bs n.text), .slice ba n.attrs.length ca, .slice bk n.kids.length ck] 25) = W' := ⟨_, rfl⟩
    have hE : Ext w wz := by rw [← hwz]; exact (Ext.refl w).alloc _
    have hblk : wz.heap[w.heap.size]? = some (.cells [.int .i64 n.kind, .string (bs n.name), .string (bs n.text), .slice ba n.attrs.length ca, .slice bk n.kids.length ck].toArray 25 (0, 0)) := by rw [← hwz]; exact Array.getElem?_push_size
    have hbl := blk_lt hblk
    have HB := Lib.hid hblk
    have b0 := blk_cells hblk 0 rfl; have b1 := blk_cells hblk 1 rfl; have b2 := blk_cells hblk 2 rfl
    have HE := Lib.hid hE
    have hrow := World.ownsRow_lit (base := wz.heap.size) (e := 66) (size := 6) wz #[.int .i64 n.kind, .string (bs n.name), .string (bs n.text), .int .i64 par, .int .i64 0, .string (bs path)] 1 (Nat.le_refl _) (by unfold maxLen; decide) rfl
    have HR0 := Lib.hid hrow
    have HOW := Lib.hid hown
    have hal8 : (n.attrs.length : Int) ≤ 1048576 := by omega
    clear ih hnv hN hva hvk hE hblk hrow hown
    go_enter Tryz.func25, Tryz.ntmps25
    go_wp2_with fail
    go_loopw [13, 14] (fun dv t wr => ∃ (i : Nat) (L : List QN) (d : Value), t = .int .i64 i ∧ d = dv ∧ i ≤ n.attrs.length ∧ L.length ≤ 1048576 ∧ Hid (wr.ownsRow wz.heap.size 66 6 d L.length (L.flatMap qnV) ∧ TI a (a + L.length) L ∧ L.length = 1 + i ∧ totT L + cntA (n.attrs.drop i) ≤ n.text.length + cntA n.attrs) ∧ Hid (Ext wz wr)) (fun _ t _ => downV n.attrs.length t)
    case atStart =>
      exact ⟨0, [⟨n.kind, n.name, n.text, par, 0, path⟩], _, rfl, rfl, Nat.zero_le _, by simp, Lib.hid ⟨HR0.out, TI.one ⟨by have := HOW.out; simp only []; omega, by have := HOW.out; simp only []; omega, by simp only []; omega⟩, rfl, by simp [totT]⟩, Lib.hid ((Ext.refl wz).alloc _)⟩
    case round =>
      obtain ⟨i, L, d, rfl, rfl, hi, hL8, HO, HX⟩ := hrel
      obtain ⟨oo, oc, rfl⟩ := own_form HO.out.1
      have hi0 : (0 : Int) ≤ (i : Int) := by omega
      have hi8 : (i : Int) ≤ 1048576 := by omega
      clear HR0
      by_cases hlt : i < n.attrs.length
      · have hlI : (i : Int) < (n.attrs.length : Int) := by omega
        obtain ⟨ga, oa, hga, lga, _, d0, d1⟩ := attr_at HVA.out i hlt
        subst hga
        have hax := HCA.out i hlt
        have hda := cntA_drop n.attrs i hlt
        obtain ⟨x, hx⟩ : ∃ x, n.attrs[i] = x := ⟨_, rfl⟩
        rw [hx] at d0 d1 hax hda
        have HDA := Lib.hid hda
        clear hda
        have n0 := HE.out.keep lga d0
        have n1 := HE.out.keep lga d1
        have b3 := blk_cells HB.out 3 rfl
        have lgz : ga < wz.heap.size := Nat.lt_of_lt_of_le lga HE.out.size
        have c3 := HX.out.keep hbl b3
        have hw1 : IntKind.i64.wrap (a + (L.length : Int)) = a + L.length := IntWalk.i64_in _ (by have := HOW.out; omega)
        have hw2 : IntKind.i64.wrap (a + (L.length : Int) + 1) = a + L.length + 1 := IntWalk.i64_in _ (by have := HOW.out; omega)
        have hxn : x.n.length ≤ 1048576 := by have := HOW.out; omega
        have hxv : x.v.length ≤ 1048576 := by have := HOW.out; omega
        clear hx d0 d1 hax
        go_wp2_with fail
        refine rg_begin (S := Sx wz) (by kernel_rfl) (HX.out.drew) ?_
        have hSa : Sx wz (World.drew wr) := (HX.out.drew)
        refine rg_take 0 (some 37) (.slice oo L.length oc) (oi := { dst := some 37, op := Go.Op.move (Go.Operand.tmp 13), type := 34, pos := "ref.go:39", after := #[], guard := none }) rfl rfl (by kernel_rfl) (by kernel_rfl) (by kernel_rfl) (fun _ _ _ h => h) hSa (by rfl) (fun w' hs => by rfl) ?_
        simp only [Act.put, List.setIfInBounds_toArray, List.set_cons_zero, List.set_cons_succ]
        refine rg_take 1 (some 38) (.pointer (some ⟨w.heap.size, 3, none⟩)) (oi := { dst := some 38, op := Go.Op.fieldAddr 25 (Go.Operand.tmp 7) 3, type := 0, pos := "ref.go:39", after := #[], guard := none }) rfl rfl (by kernel_rfl) (by kernel_rfl) (by kernel_rfl) (fun _ _ _ h => h) hSa (by rfl) (fun w' hs => by first | rfl | go_simp) ?_
        simp only [Act.put, List.setIfInBounds_toArray, List.set_cons_zero, List.set_cons_succ]
        refine rg_take 2 (some 39) (.slice (some ⟨ga, oa, none⟩) n.attrs.length ca) (oi := { dst := some 39, op := Go.Op.load 22 (Go.Operand.tmp 38), type := 22, pos := "ref.go:39", after := #[{ on := 1, ground := Go.Ground.data }], guard := none }) rfl rfl (by kernel_rfl) (by kernel_rfl) (by kernel_rfl) (fun _ _ _ h => h) hSa (by rfl) (fun w' hs => by (have h0 := hs.cell hbl b3; go_simp)) ?_
        simp only [Act.put, List.setIfInBounds_toArray, List.set_cons_zero, List.set_cons_succ]
        refine rg_take 3 (some 40) (.int .i64 i) (oi := { dst := some 40, op := Go.Op.move (Go.Operand.tmp 14), type := 3, pos := "ref.go:39", after := #[], guard := none }) rfl rfl (by kernel_rfl) (by kernel_rfl) (by kernel_rfl) (fun _ _ _ h => h) hSa (by rfl) (fun w' hs => by rfl) ?_
        simp only [Act.put, List.setIfInBounds_toArray, List.set_cons_zero, List.set_cons_succ]
        refine rg_take 4 (some 41) (.pointer (some ⟨ga, oa + i * 2, none⟩)) (oi := { dst := some 41, op := Go.Op.indexAddr 22 (Go.Operand.tmp 39) (Go.Operand.tmp 40), type := 0, pos := "ref.go:39", after := #[{ on := 2, ground := Go.Ground.data }, { on := 3, ground := Go.Ground.data }], guard := none }) rfl rfl (by kernel_rfl) (by kernel_rfl) (by kernel_rfl) (fun _ _ _ h => h) hSa (by rfl) (fun w' hs => by first | rfl | go_simp) ?_
        simp only [Act.put, List.setIfInBounds_toArray, List.set_cons_zero, List.set_cons_succ]
        refine rg_take 5 (some 42) (.pointer (some ⟨ga, oa + i * 2, none⟩)) (oi := { dst := some 42, op := Go.Op.fieldAddr 89 (Go.Operand.tmp 41) 0, type := 0, pos := "ref.go:39", after := #[{ on := 4, ground := Go.Ground.data }], guard := none }) rfl rfl (by kernel_rfl) (by kernel_rfl) (by kernel_rfl) (fun _ _ _ h => h) hSa (by rfl) (fun w' hs => by first | rfl | go_simp) ?_
        simp only [Act.put, List.setIfInBounds_toArray, List.set_cons_zero, List.set_cons_succ]
        refine rg_take 6 (some 43) (.string (bs x.n)) (oi := { dst := some 43, op := Go.Op.load 9 (Go.Operand.tmp 42), type := 9, pos := "ref.go:39", after := #[{ on := 5, ground := Go.Ground.data }], guard := none }) rfl rfl (by kernel_rfl) (by kernel_rfl) (by kernel_rfl) (fun _ _ _ h => h) hSa (by rfl) (fun w' hs => by (have h0 := hs.cell lgz n0; go_simp)) ?_
        simp only [Act.put, List.setIfInBounds_toArray, List.set_cons_zero, List.set_cons_succ]
        refine rg_take 7 (some 44) (.pointer (some ⟨w.heap.size, 3, none⟩)) (oi := { dst := some 44, op := Go.Op.fieldAddr 25 (Go.Operand.tmp 7) 3, type := 0, pos := "ref.go:39", after := #[], guard := none }) rfl rfl (by kernel_rfl) (by kernel_rfl) (by kernel_rfl) (fun _ _ _ h => h) hSa (by rfl) (fun w' hs => by first | rfl | go_simp) ?_
        simp only [Act.put, List.setIfInBounds_toArray, List.set_cons_zero, List.set_cons_succ]
        refine rg_take 8 (some 45) (.slice (some ⟨ga, oa, none⟩) n.attrs.length ca) (oi := { dst := some 45, op := Go.Op.load 22 (Go.Operand.tmp 44), type := 22, pos := "ref.go:39", after := #[{ on := 7, ground := Go.Ground.data }], guard := none }) rfl rfl (by kernel_rfl) (by kernel_rfl) (by kernel_rfl) (fun _ _ _ h => h) hSa (by rfl) (fun w' hs => by (have h0 := hs.cell hbl b3; go_simp)) ?_
        simp only [Act.put, List.setIfInBounds_toArray, List.set_cons_zero, List.set_cons_succ]
        refine rg_take 9 (some 46) (.int .i64 i) (oi := { dst := some 46, op := Go.Op.move (Go.Operand.tmp 14), type := 3, pos := "ref.go:39", after := #[], guard := none }) rfl rfl (by kernel_rfl) (by kernel_rfl) (by kernel_rfl) (fun _ _ _ h => h) hSa (by rfl) (fun w' hs => by rfl) ?_
        simp only [Act.put, List.setIfInBounds_toArray, List.set_cons_zero, List.set_cons_succ]
        refine rg_take 10 (some 47) (.pointer (some ⟨ga, oa + i * 2, none⟩)) (oi := { dst := some 47, op := Go.Op.indexAddr 22 (Go.Operand.tmp 45) (Go.Operand.tmp 46), type := 0, pos := "ref.go:39", after := #[{ on := 8, ground := Go.Ground.data }, { on := 9, ground := Go.Ground.data }], guard := none }) rfl rfl (by kernel_rfl) (by kernel_rfl) (by kernel_rfl) (fun _ _ _ h => h) hSa (by rfl) (fun w' hs => by first | rfl | go_simp) ?_
        simp only [Act.put, List.setIfInBounds_toArray, List.set_cons_zero, List.set_cons_succ]
        refine rg_take 11 (some 48) (.pointer (some ⟨ga, oa + i * 2 + 1, none⟩)) (oi := { dst := some 48, op := Go.Op.fieldAddr 89 (Go.Operand.tmp 47) 1, type := 0, pos := "ref.go:39", after := #[{ on := 10, ground := Go.Ground.data }], guard := none }) rfl rfl (by kernel_rfl) (by kernel_rfl) (by kernel_rfl) (fun _ _ _ h => h) hSa (by rfl) (fun w' hs => by first | rfl | go_simp) ?_
        simp only [Act.put, List.setIfInBounds_toArray, List.set_cons_zero, List.set_cons_succ]
        refine rg_take 12 (some 49) (.string (bs x.v)) (oi := { dst := some 49, op := Go.Op.load 9 (Go.Operand.tmp 48), type := 9, pos := "ref.go:39", after := #[{ on := 11, ground := Go.Ground.data }], guard := none }) rfl rfl (by kernel_rfl) (by kernel_rfl) (by kernel_rfl) (fun _ _ _ h => h) hSa (by rfl) (fun w' hs => by (have h0 := hs.cell lgz n1; go_simp)) ?_
        simp only [Act.put, List.setIfInBounds_toArray, List.set_cons_zero, List.set_cons_succ]
        refine rg_take 13 (some 50) (.int .i64 a) (oi := { dst := some 50, op := Go.Op.move (Go.Operand.tmp 2), type := 3, pos := "ref.go:39", after := #[], guard := none }) rfl rfl (by kernel_rfl) (by kernel_rfl) (by kernel_rfl) (fun _ _ _ h => h) hSa (by rfl) (fun w' hs => by rfl) ?_
        simp only [Act.put, List.setIfInBounds_toArray, List.set_cons_zero, List.set_cons_succ]
        refine rg_take 14 (some 51) (.int .i64 a) (oi := { dst := some 51, op := Go.Op.move (Go.Operand.tmp 2), type := 3, pos := "ref.go:39", after := #[], guard := none }) rfl rfl (by kernel_rfl) (by kernel_rfl) (by kernel_rfl) (fun _ _ _ h => h) hSa (by rfl) (fun w' hs => by rfl) ?_
        simp only [Act.put, List.setIfInBounds_toArray, List.set_cons_zero, List.set_cons_succ]
        refine rg_take 15 (some 52) (.slice oo L.length oc) (oi := { dst := some 52, op := Go.Op.move (Go.Operand.tmp 13), type := 34, pos := "ref.go:39", after := #[], guard := none }) rfl rfl (by kernel_rfl) (by kernel_rfl) (by kernel_rfl) (fun _ _ _ h => h) hSa (by rfl) (fun w' hs => by rfl) ?_
        simp only [Act.put, List.setIfInBounds_toArray, List.set_cons_zero, List.set_cons_succ]
        refine rg_take 16 (some 53) (.int .i64 L.length) (oi := { dst := some 53, op := Go.Op.call { callee := Go.Callee.builtin Go.Builtin.len, args := #[Go.Operand.tmp 52], argTypes := #[34] }, type := 3, pos := "ref.go:39", after := #[{ on := 15, ground := Go.Ground.data }], guard := none }) rfl rfl (by kernel_rfl) (by kernel_rfl) (by kernel_rfl) (fun _ _ _ h => h) hSa (by rfl) (fun w' hs => by first | rfl | go_simp) ?_
        simp only [Act.put, List.setIfInBounds_toArray, List.set_cons_zero, List.set_cons_succ]
        refine rg_take 17 (some 54) (.int .i64 (a + L.length)) (oi := { dst := some 54, op := Go.Op.binOp Go.BinOp.add 3 (Go.Operand.tmp 51) (Go.Operand.tmp 53) 3, type := 3, pos := "ref.go:39", after := #[{ on := 14, ground := Go.Ground.data }, { on := 16, ground := Go.Ground.data }], guard := none }) rfl rfl (by kernel_rfl) (by kernel_rfl) (by kernel_rfl) (fun _ _ _ h => h) hSa (by rfl) (fun w' hs => by first | rfl | go_simp) ?_
        simp only [Act.put, List.setIfInBounds_toArray, List.set_cons_zero, List.set_cons_succ]
        refine rg_take 18 (some 55) (.int .i64 (a + L.length + 1)) (oi := { dst := some 55, op := Go.Op.binOp Go.BinOp.add 3 (Go.Operand.tmp 54) (Go.Operand.const (Go.Value.int Go.IntKind.i64 1)) 3, type := 3, pos := "ref.go:39", after := #[{ on := 17, ground := Go.Ground.data }], guard := none }) rfl rfl (by kernel_rfl) (by kernel_rfl) (by kernel_rfl) (fun _ _ _ h => h) hSa (by rfl) (fun w' hs => by first | rfl | go_simp) ?_
        simp only [Act.put, List.setIfInBounds_toArray, List.set_cons_zero, List.set_cons_succ]
        refine rg_take 19 (some 56) (.string (bs path)) (oi := { dst := some 56, op := Go.Op.move (Go.Operand.tmp 4), type := 9, pos := "ref.go:39", after := #[], guard := none }) rfl rfl (by kernel_rfl) (by kernel_rfl) (by kernel_rfl) (fun _ _ _ h => h) hSa (by rfl) (fun w' hs => by rfl) ?_
        simp only [Act.put, List.setIfInBounds_toArray, List.set_cons_zero, List.set_cons_succ]
        refine rg_take 20 (some 57) (.string (bs path ++ ⟨#[47, 64]⟩)) (oi := { dst := some 57, op := Go.Op.binOp Go.BinOp.add 9 (Go.Operand.tmp 56) (Go.Operand.const (Go.Value.string { data := #[47, 64] })) 9, type := 9, pos := "ref.go:39", after := #[{ on := 19, ground := Go.Ground.data }], guard := none }) rfl rfl (by kernel_rfl) (by kernel_rfl) (by kernel_rfl) (fun _ _ _ h => h) hSa (by rfl) (fun w' hs => by exact exec_cat rfl rfl rfl (by rw [bs_size]; show _ + 2 ≤ _; omega)) ?_
        simp only [Act.put, List.setIfInBounds_toArray, List.set_cons_zero, List.set_cons_succ]
        refine rg_take 21 (some 58) (.pointer (some ⟨w.heap.size, 3, none⟩)) (oi := { dst := some 58, op := Go.Op.fieldAddr 25 (Go.Operand.tmp 7) 3, type := 0, pos := "ref.go:39", after := #[], guard := none }) rfl rfl (by kernel_rfl) (by kernel_rfl) (by kernel_rfl) (fun _ _ _ h => h) hSa (by rfl) (fun w' hs => by first | rfl | go_simp) ?_
        simp only [Act.put, List.setIfInBounds_toArray, List.set_cons_zero, List.set_cons_succ]
        refine rg_take 22 (some 59) (.slice (some ⟨ga, oa, none⟩) n.attrs.length ca) (oi := { dst := some 59, op := Go.Op.load 22 (Go.Operand.tmp 58), type := 22, pos := "ref.go:39", after := #[{ on := 21, ground := Go.Ground.data }], guard := none }) rfl rfl (by kernel_rfl) (by kernel_rfl) (by kernel_rfl) (fun _ _ _ h => h) hSa (by rfl) (fun w' hs => by (have h0 := hs.cell hbl b3; go_simp)) ?_
        simp only [Act.put, List.setIfInBounds_toArray, List.set_cons_zero, List.set_cons_succ]
        refine rg_take 23 (some 60) (.int .i64 i) (oi := { dst := some 60, op := Go.Op.move (Go.Operand.tmp 14), type := 3, pos := "ref.go:39", after := #[], guard := none }) rfl rfl (by kernel_rfl) (by kernel_rfl) (by kernel_rfl) (fun _ _ _ h => h) hSa (by rfl) (fun w' hs => by rfl) ?_
        simp only [Act.put, List.setIfInBounds_toArray, List.set_cons_zero, List.set_cons_succ]
        refine rg_take 24 (some 61) (.pointer (some ⟨ga, oa + i * 2, none⟩)) (oi := { dst := some 61, op := Go.Op.indexAddr 22 (Go.Operand.tmp 59) (Go.Operand.tmp 60), type := 0, pos := "ref.go:39", after := #[{ on := 22, ground := Go.Ground.data }, { on := 23, ground := Go.Ground.data }], guard := none }) rfl rfl (by kernel_rfl) (by kernel_rfl) (by kernel_rfl) (fun _ _ _ h => h) hSa (by rfl) (fun w' hs => by first | rfl | go_simp) ?_
        simp only [Act.put, List.setIfInBounds_toArray, List.set_cons_zero, List.set_cons_succ]
        refine rg_take 25 (some 62) (.pointer (some ⟨ga, oa + i * 2, none⟩)) (oi := { dst := some 62, op := Go.Op.fieldAddr 89 (Go.Operand.tmp 61) 0, type := 0, pos := "ref.go:39", after := #[{ on := 24, ground := Go.Ground.data }], guard := none }) rfl rfl (by kernel_rfl) (by kernel_rfl) (by kernel_rfl) (fun _ _ _ h => h) hSa (by rfl) (fun w' hs => by first | rfl | go_simp) ?_
        simp only [Act.put, List.setIfInBounds_toArray, List.set_cons_zero, List.set_cons_succ]
        refine rg_take 26 (some 63) (.string (bs x.n)) (oi := { dst := some 63, op := Go.Op.load 9 (Go.Operand.tmp 62), type := 9, pos := "ref.go:39", after := #[{ on := 25, ground := Go.Ground.data }], guard := none }) rfl rfl (by kernel_rfl) (by kernel_rfl) (by kernel_rfl) (fun _ _ _ h => h) hSa (by rfl) (fun w' hs => by (have h0 := hs.cell lgz n0; go_simp)) ?_
        simp only [Act.put, List.setIfInBounds_toArray, List.set_cons_zero, List.set_cons_succ]
        refine rg_take 27 (some 64) (.string ((bs path ++ ⟨#[47, 64]⟩) ++ bs x.n)) (oi := { dst := some 64, op := Go.Op.binOp Go.BinOp.add 9 (Go.Operand.tmp 57) (Go.Operand.tmp 63) 9, type := 9, pos := "ref.go:39", after := #[{ on := 20, ground := Go.Ground.data }, { on := 26, ground := Go.Ground.data }], guard := none }) rfl rfl (by kernel_rfl) (by kernel_rfl) (by kernel_rfl) (fun _ _ _ h => h) hSa (by rfl) (fun w' hs => by exact exec_cat rfl rfl rfl (by rw [ByteArray.size_append, bs_size, bs_size]; show _ + 2 + _ ≤ _; omega)) ?_
        simp only [Act.put, List.setIfInBounds_toArray, List.set_cons_zero, List.set_cons_succ]
        refine rg_take 28 (some 65) (.agg #[.int .i64 5, .string (bs x.n), .string (bs x.v), .int .i64 a, .int .i64 (a + L.length + 1), .string ((bs path ++ ⟨#[47, 64]⟩) ++ bs x.n)]) (oi := { dst := some 65, op := Go.Op.build 66 #[(0, Go.Operand.const (Go.Value.int Go.IntKind.i64 5)), (1, Go.Operand.tmp 43), (2, Go.Operand.tmp 49), (3, Go.Operand.tmp 50), (4, Go.Operand.tmp 55), (5, Go.Operand.tmp 64)], type := 66, pos := "ref.go:39", after := #[{ on := 6, ground := Go.Ground.data }, { on := 12, ground := Go.Ground.data }, { on := 13, ground := Go.Ground.data }, { on := 18, ground := Go.Ground.data }, { on := 27, ground := Go.Ground.data }], guard := none }) rfl rfl (by kernel_rfl) (by kernel_rfl) (by kernel_rfl) (fun _ _ _ h => h) hSa (by rfl) (fun w' hs => by first | rfl | go_simp) ?_
        simp only [Act.put, List.setIfInBounds_toArray, List.set_cons_zero, List.set_cons_succ]
        refine rg_one 29 (by kernel_rfl) ?_
        refine tk_new 29 (some 66) (.cells #[.int .i64 5, .string (bs x.n), .string (bs x.v), .int .i64 a, .int .i64 (a + L.length + 1), .string ((bs path ++ ⟨#[47, 64]⟩) ++ bs x.n)] 66) (fun n => .slice (some ⟨n, 0, none⟩) 1 1) rfl rfl (by rfl) (by first | rfl | go_simp) ?_
        intro g xg eg hxg hzg hC
        have hSg : Sx wz xg := hSa.ext hxg
        refine ⟨hSg, ?_⟩
        simp only [Act.put, List.setIfInBounds_toArray, List.set_cons_zero, List.set_cons_succ]
        refine rg_one 30 (by kernel_rfl) ?_
        refine tk_app 30 (some 67) rfl rfl (by rfl) (.tmp 37) (.tmp 66) 34 rfl wz.heap.size 66 i0 (.agg #[.int .i64 0, .string ⟨#[]⟩, .string ⟨#[]⟩, .int .i64 0, .int .i64 0, .string ⟨#[]⟩]) 6 72 Tryz.underlying34 hin0 hq0 hq1 hq2 rfl (by decide) _ L.length (L.flatMap qnV) rfl (rows_ext HO.out.1.drew hxg) ⟨g, 0, none⟩ 1 1 [.int .i64 5, .string (bs x.n), .string (bs x.v), .int .i64 a, .int .i64 (a + L.length + 1), .string ((bs path ++ ⟨#[47, 64]⟩) ++ bs x.n)] rfl rfl (fun j u hj => by rw [add_offs', Nat.zero_add]; exact blk_cells hC j hj) (by intro u hu; simp at hu; rcases hu with rfl | rfl | rfl | rfl | rfl | rfl <;> rfl) (by unfold maxLen; omega) (by omega) (show Ext wz xg from hSg).size ?_
        intro v' w' own' hg' _
        have hS' : Sx wz w' := sx_grown hSg (rows_ext HO.out.1.drew hxg) hg'
        refine ⟨hS', ?_⟩
        simp only [Act.put, List.setIfInBounds_toArray, List.set_cons_zero, List.set_cons_succ]
        refine rg_take 31 (some 13) (v') (oi := { dst := some 13, op := Go.Op.assign (Go.Operand.tmp 67), type := 34, pos := "ref.go:39", after := #[{ on := 30, ground := Go.Ground.data }, { on := 30, ground := Go.Ground.chain }, { on := 0, ground := Go.Ground.phase }, { on := 1, ground := Go.Ground.phase }, { on := 2, ground := Go.Ground.phase }, { on := 3, ground := Go.Ground.phase }, { on := 4, ground := Go.Ground.phase }, { on := 5, ground := Go.Ground.phase }, { on := 6, ground := Go.Ground.phase }, { on := 7, ground := Go.Ground.phase }, { on := 8, ground := Go.Ground.phase }, { on := 9, ground := Go.Ground.phase }, { on := 10, ground := Go.Ground.phase }, { on := 11, ground := Go.Ground.phase }, { on := 12, ground := Go.Ground.phase }, { on := 13, ground := Go.Ground.phase }, { on := 14, ground := Go.Ground.phase }, { on := 15, ground := Go.Ground.phase }, { on := 16, ground := Go.Ground.phase }, { on := 17, ground := Go.Ground.phase }, { on := 18, ground := Go.Ground.phase }, { on := 19, ground := Go.Ground.phase }, { on := 20, ground := Go.Ground.phase }, { on := 21, ground := Go.Ground.phase }, { on := 22, ground := Go.Ground.phase }, { on := 23, ground := Go.Ground.phase }, { on := 24, ground := Go.Ground.phase }, { on := 25, ground := Go.Ground.phase }, { on := 26, ground := Go.Ground.phase }, { on := 27, ground := Go.Ground.phase }, { on := 28, ground := Go.Ground.phase }, { on := 29, ground := Go.Ground.phase }, { on := 30, ground := Go.Ground.phase }], guard := none }) rfl rfl (by kernel_rfl) (by kernel_rfl) (by kernel_rfl) (fun _ _ _ h => h) hS' (by rfl) (fun w' hs => by rfl) ?_
        simp only [Act.put, List.setIfInBounds_toArray, List.set_cons_zero, List.set_cons_succ]
        refine rg_done (by kernel_rfl) ?_
        have HN : Hid (w'.ownsRow wz.heap.size 66 6 v' (L ++ [(⟨5, x.n, x.v, a, a + L.length + 1, path ++ [47, 64] ++ x.n⟩ : QN)]).length ((L ++ [(⟨5, x.n, x.v, a, a + L.length + 1, path ++ [47, 64] ++ x.n⟩ : QN)]).flatMap qnV) ∧ TI a (a + (L ++ [(⟨5, x.n, x.v, a, a + L.length + 1, path ++ [47, 64] ++ x.n⟩ : QN)]).length) (L ++ [(⟨5, x.n, x.v, a, a + L.length + 1, path ++ [47, 64] ++ x.n⟩ : QN)]) ∧ (L ++ [(⟨5, x.n, x.v, a, a + L.length + 1, path ++ [47, 64] ++ x.n⟩ : QN)]).length = 1 + (i + 1) ∧ totT (L ++ [(⟨5, x.n, x.v, a, a + L.length + 1, path ++ [47, 64] ++ x.n⟩ : QN)]) + cntA (n.attrs.drop (i + 1)) ≤ n.text.length + cntA n.attrs) := Lib.hid ⟨by
          rw [List.length_append, List.flatMap_append]
          have e : [(⟨5, x.n, x.v, a, a + L.length + 1, path ++ [47, 64] ++ x.n⟩ : QN)].flatMap qnV = [.int .i64 5, .string (bs x.n), .string (bs x.v), .int .i64 a, .int .i64 (a + L.length + 1), .string ((bs path ++ ⟨#[47, 64]⟩) ++ bs x.n)] := by
            show qnV _ ++ [] = _
            unfold qnV
            rw [← bs_append, ← bs_append]; rfl
          rw [e]; exact own', HO.out.2.1.snoc (by have := HO.out.2.2.1; omega) ⟨hxn, hxv, by simp; omega⟩ rfl, by rw [List.length_append, HO.out.2.2.1]; simp; omega, by rw [totT_app]; simp only [totT, List.map_cons, List.map_nil, List.sum_cons, List.sum_nil]; have := HO.out.2.2.2; have := HDA.out; unfold totT at this; first | omega | (have h9 := HO.out.2.2.2; unfold totT at h9; omega)⟩
        have HXN := Lib.hid (show Ext wz w' from hS')
        clear HO HX own' hg' hS'
        go_wp2_with fail
        go_roundw
        case rel => exact ⟨i + 1, _, v', by go_num, rfl, by omega, by have := HN.out.2.2.1; have := HOW.out; omega, HN, HXN⟩
        case measure => simp only [downV]; omega
      · have hlI : ¬ (i : Int) < (n.attrs.length : Int) := by omega
        have HO2 := Lib.hid (show wr.ownsRow wz.heap.size 66 6 (.slice oo L.length oc) L.length (L.flatMap qnV) ∧ TI a (a + L.length) L ∧ 0 < L.length ∧ L.length + cntL (n.kids.drop 0) ≤ cntN n ∧ totT L + cntL (n.kids.drop 0) ≤ cntN n from ⟨HO.out.1, HO.out.2.1, by have := HO.out.2.2.1; omega, by rw [List.drop_zero]; have := HO.out.2.2.1; have := HOW.out; omega, by rw [List.drop_zero]; have h1 := HO.out.2.2.2; have h2 := HOW.out; omega⟩)
        have c3 := HX.out.keep hbl (blk_cells HB.out 3 rfl)
        clear HO
        rcases HNV.out with rfl | ⟨nb, nc, rfl, HF⟩
        · clear HNV
          go_wp2_with fail
          obtain ⟨wf, hwf⟩ : ∃ W, W = wr := ⟨_, rfl⟩
          subst hwf
          have HXf := HX
          have HO2' := HO2
          clear HX HO2
          go_loopw [13, 17, 18, 19] (fun dv t _ _ wr => ∃ (i : Nat) (L : List QN) (d : Value), t = .int .i64 i ∧ d = dv ∧ i ≤ n.kids.length ∧ L.length ≤ 1048576 ∧ Hid (wr.ownsRow wz.heap.size 66 6 d L.length (L.flatMap qnV) ∧ TI a (a + L.length) L ∧ 0 < L.length ∧ L.length + cntL (n.kids.drop i) ≤ cntN n ∧ totT L + cntL (n.kids.drop i) ≤ cntN n) ∧ Hid (Ext wz wr)) (fun _ t _ _ _ => downV n.kids.length t)
          case atStart => exact ⟨0, L, _, rfl, rfl, Nat.zero_le _, hL8, HO2', HXf⟩
          case round =>
            obtain ⟨j, M, d, rfl, rfl, hj, hM8, HO, HX⟩ := hrel
            obtain ⟨g, cm, rfl, hbg, hlg⟩ := own_pos HO.out.1 HO.out.2.2.1
            have HG := Lib.hid (And.intro hbg hlg)
            have hj0 : (0 : Int) ≤ (j : Int) := by omega
            have hj8 : (j : Int) ≤ 1048576 := by have := cntL_len' n.kids; have := HOW.out; omega
            have c4 := HX.out.keep hbl (blk_cells HB.out 4 rfl)
            have haM : a + (M.length : Int) ≤ 4194304 := by have := HO.out.2.2.2.1; omega
            clear HO2' HXf hbg hlg
            by_cases hlk : j < n.kids.length
            · have hlI : (j : Int) < (n.kids.length : Int) := by omega
              obtain ⟨gk, ok, ku, nu, hgk, lgk, _, d0, d1, d2, d3, d4, hku, hnu⟩ := node_at HVK.out j hlk
              subst hgk
              have hky := HKL.out j hlk
              have hcy := HCK.out j hlk
              have hdr : cntL (n.kids.drop j) = cntN n.kids[j] + cntL (n.kids.drop (j + 1)) := by rw [drop_one n.kids j hlk, cntL]
              obtain ⟨y, hy⟩ : ∃ y, n.kids[j] = y := ⟨_, rfl⟩
              rw [hy] at d0 d1 d2 hku hnu hky hcy hdr
              have HDR := Lib.hid hdr
              have hXw := HE.out.trans HX.out
              have n0 := hXw.keep lgk d0
              have n1 := hXw.keep lgk d1
              have n2 := hXw.keep lgk d2
              have n3 := hXw.keep lgk d3
              have n4 := hXw.keep lgk d4
              have HIT := Lib.hid (itoa_any ((j : Int) + 1) (by omega) (by omega) wr)
              have HD := Lib.hid (And.intro d0 (And.intro d1 (And.intro d2 (And.intro d3 (And.intro d4 (And.intro hku (And.intro hnu lgk)))))))
              have HKY := Lib.hid (And.intro hky hcy)
              have r1 : ¬ 9223372036854775807 < (bs path).size + 2 := by rw [bs_size]; omega
              have HXw := Lib.hid hXw
              clear hdr hy d0 d1 d2 d3 d4 hku hnu hky hcy hXw
              go_wp2_with fail
              refine HIT.out.mono ?_
              rintro e w5 ⟨⟨s, rfl, hs⟩, hX5⟩
              have hXw5 := HXw.out.trans hX5
              have HO5 := Lib.hid (rows_ext HO.out.1 hX5)
              have HX5 := Lib.hid (HX.out.trans hX5)
              have m0 := hXw5.keep HD.out.2.2.2.2.2.2.2 HD.out.1
              have m1 := hXw5.keep HD.out.2.2.2.2.2.2.2 HD.out.2.1
              have m2 := hXw5.keep HD.out.2.2.2.2.2.2.2 HD.out.2.2.1
              have m3 := hXw5.keep HD.out.2.2.2.2.2.2.2 HD.out.2.2.2.1
              have m4 := hXw5.keep HD.out.2.2.2.2.2.2.2 HD.out.2.2.2.2.1
              have c4' := HX5.out.keep hbl (blk_cells HB.out 4 rfl)
              have r2 : ¬ 9223372036854775807 < (bs path ++ (⟨#[47, 35]⟩ : ByteArray)).size + (bs s).size := by rw [ByteArray.size_append, bs_size, bs_size]; show ¬ _ < _ + 2 + _; omega
              have HNX := Lib.hid (IH.out y p (a + M.length) a (path ++ [47, 35] ++ s) ku nu (.slice none 0 0) w5 HKY.out.1.1 (by have := HKY.out.2; have := HOW.out; omega) (HD.out.2.2.2.2.2.1.ext hXw5) (HD.out.2.2.2.2.2.2.1.ext hXw5) (by omega) (by have := HO.out.2.2.2.1; have := HDR.out; omega) (by have := HKY.out.1.2; simp only [List.length_append, List.length_cons, List.length_nil]; omega) (.inl rfl))
              rw [← bs_append, ← bs_append, show bs [47, 35] = ⟨#[47, 35]⟩ from rfl] at HNX
              clear n0 n1 n2 n3 n4 c4 HIT hX5 hXw5 hs r1
              go_wp2_with fail
              refine HNX.out.mono ?_
              rintro e w6 ⟨M2, rv2, rfl, h20, h2c, h2o, h2t, hX6, h2s⟩
              obtain ⟨g2, c2, rfl, _, _⟩ := own_pos h2o h20
              have HO6 := Lib.hid (And.intro (rows_ext HO5.out hX6) (And.intro h2o (And.intro h2t h20)))
              have HX6 := Lib.hid (HX5.out.trans hX6)
              have hM2 : M2.length ≤ 1048576 := by have := HKY.out.2; have := HOW.out; omega
              have HC2 := Lib.hid h2c
              have HS2 := Lib.hid h2s
              clear HNX h2s h20 h2c h2o h2t hX6 m0 m1 m2 m3 m4 r2 HO5 HX5
              go_wp2_with (at_builtin; refine wpList_append_own_at _ rfl (.tmp 115) (.tmp 129) _ rfl wz.heap.size 66 i0 (.agg #[.int .i64 0, .string ⟨#[]⟩, .string ⟨#[]⟩, .int .i64 0, .int .i64 0, .string ⟨#[]⟩]) 6 72 Tryz.underlying34 hin0 hq0 hq1 hq2 rfl (by decide) (.slice (some ⟨g, 0, none⟩) M.length cm) M.length (M.flatMap qnV) rfl HO6.out.1 ⟨g2, 0, none⟩ M2.length c2 (M2.flatMap qnV) rfl (qnV_len M2) (HO6.out.2.1.cells (g := g2) rfl) (one_qns M2) (by unfold maxLen; omega) (by omega) HX6.out.size ?_; intro v7 w7 hown7 hgrow7 _ hat7; have HO7 := Lib.hid (And.intro hown7 hgrow7); clear hown7 hgrow7 hat7)
              have HX7 := Lib.hid (show Ext wz w7 from Below.grown HX6.out HO7.out.2 (Below.size HX6.out) fun k hk => (HO6.out.1.lt k hk).1)
              go_roundw
              case rel => exact ⟨j + 1, M ++ M2, v7, by go_num, rfl, by omega, by have := HO.out.2.2.2.1; have := HDR.out; have := HC2.out; rw [List.length_append]; omega, Lib.hid ⟨by rw [List.length_append, List.flatMap_append]; exact HO7.out.1, HO.out.2.1.app (by rw [List.length_append]; omega) HO.out.2.2.1 (by rw [List.length_append, show a + ((M.length + M2.length : Nat) : Int) = a + M.length + M2.length by omega]; exact HO6.out.2.2.1), by have := HO.out.2.2.1; rw [List.length_append]; omega, by have := HO.out.2.2.2.1; have := HDR.out; have := HC2.out; rw [List.length_append]; omega, by have h1 := HO.out.2.2.2.2; have h2 := HDR.out; have h3 := HS2.out; rw [totT_app]; omega⟩, HX7⟩
              case measure => simp only [downV]; omega
            · have hlI : ¬ (j : Int) < (n.kids.length : Int) := by omega
              obtain ⟨q0, Mr, hM⟩ : ∃ q r, M = q :: r := by
                cases M with
                | nil => have := HO.out.2.2.1; simp at this
                | cons q r => exact ⟨q, r, rfl⟩
              have e4 : wr.cell? ⟨g, 4, none⟩ = some (.int .i64 q0.fin) := by
                rw [HO.out.1.cellAt 4 (by have := HO.out.2.2.1; omega), hM]; rfl
              have f4 := HO.out.1.frozenAt 4
              have hM0 : (0 : Int) < (M.length : Int) := by have := HO.out.2.2.1; omega
              have HM := Lib.hid hM
              clear hM
              go_wp2_with fail
              go_ret
              refine ⟨{ q0 with fin := a + M.length } :: Mr, _, rfl, by simp, ?_, ?_, ?_, ?_, ?_⟩
              · have h1 := HO.out.2.2.2.1; rw [HM.out] at h1; simp only [List.length_cons] at h1 ⊢; omega
              · have h1 := (HO.out.1.stored 4 (.int .i64 (a + M.length))).1
                have e1 : (M.flatMap qnV).set 4 (.int .i64 (a + M.length)) = ({ q0 with fin := a + M.length } :: Mr).flatMap qnV := by
                  obtain ⟨m, hm⟩ : ∃ m : Int, a + M.length = m := ⟨_, rfl⟩
                  rw [hm, HM.out]; rfl
                rw [e1] at h1
                have e2 : ({ q0 with fin := a + M.length } :: Mr).length = M.length := by rw [HM.out]; rfl
                rw [e2]
                exact rows_mono h1 HE.out.size
              · have h1 := HO.out.2.1
                have e2 : ({ q0 with fin := a + M.length } :: Mr).length = M.length := by rw [HM.out]; rfl
                rw [e2]
                obtain ⟨m, hm⟩ : ∃ m : Int, a + M.length = m := ⟨_, rfl⟩
                have hm' := hm
                rw [hm] at h1 ⊢
                rw [HM.out] at h1 hm'
                subst hm'
                exact h1.shut
              · exact HE.out.trans (HX.out.set (p := ⟨g, 4, none⟩) HG.out.1 _)
              · have h1 := HO.out.2.2.2.2
                have e1 : totT ({ q0 with fin := a + M.length } :: Mr) = totT M := by
                  obtain ⟨m, hm⟩ : ∃ m : Int, a + M.length = m := ⟨_, rfl⟩
                  rw [hm, HM.out]; rfl
                rw [e1]; omega
        · have HF := Lib.hid (HF wr (HE.out.trans HX.out))
          clear HNV
          go_wp2_with fail
          refine HF.out.mono ?_
          rintro e wf ⟨rfl, hXf⟩
          have HXf := Lib.hid (HX.out.trans hXf)
          have HO2' := Lib.hid (And.intro (rows_ext HO2.out.1 hXf) HO2.out.2)
          clear HF HX HO2 hXf
          go_wp2_with fail
          go_loopw [13, 17, 18, 19] (fun dv t _ _ wr => ∃ (i : Nat) (L : List QN) (d : Value), t = .int .i64 i ∧ d = dv ∧ i ≤ n.kids.length ∧ L.length ≤ 1048576 ∧ Hid (wr.ownsRow wz.heap.size 66 6 d L.length (L.flatMap qnV) ∧ TI a (a + L.length) L ∧ 0 < L.length ∧ L.length + cntL (n.kids.drop i) ≤ cntN n ∧ totT L + cntL (n.kids.drop i) ≤ cntN n) ∧ Hid (Ext wz wr)) (fun _ t _ _ _ => downV n.kids.length t)
          case atStart => exact ⟨0, L, _, rfl, rfl, Nat.zero_le _, hL8, HO2', HXf⟩
          case round =>
            obtain ⟨j, M, d, rfl, rfl, hj, hM8, HO, HX⟩ := hrel
            obtain ⟨g, cm, rfl, hbg, hlg⟩ := own_pos HO.out.1 HO.out.2.2.1
            have HG := Lib.hid (And.intro hbg hlg)
            have hj0 : (0 : Int) ≤ (j : Int) := by omega
            have hj8 : (j : Int) ≤ 1048576 := by have := cntL_len' n.kids; have := HOW.out; omega
            have c4 := HX.out.keep hbl (blk_cells HB.out 4 rfl)
            have haM : a + (M.length : Int) ≤ 4194304 := by have := HO.out.2.2.2.1; omega
            clear HO2' HXf hbg hlg
            by_cases hlk : j < n.kids.length
            · have hlI : (j : Int) < (n.kids.length : Int) := by omega
              obtain ⟨gk, ok, ku, nu, hgk, lgk, _, d0, d1, d2, d3, d4, hku, hnu⟩ := node_at HVK.out j hlk
              subst hgk
              have hky := HKL.out j hlk
              have hcy := HCK.out j hlk
              have hdr : cntL (n.kids.drop j) = cntN n.kids[j] + cntL (n.kids.drop (j + 1)) := by rw [drop_one n.kids j hlk, cntL]
              obtain ⟨y, hy⟩ : ∃ y, n.kids[j] = y := ⟨_, rfl⟩
              rw [hy] at d0 d1 d2 hku hnu hky hcy hdr
              have HDR := Lib.hid hdr
              have hXw := HE.out.trans HX.out
              have n0 := hXw.keep lgk d0
              have n1 := hXw.keep lgk d1
              have n2 := hXw.keep lgk d2
              have n3 := hXw.keep lgk d3
              have n4 := hXw.keep lgk d4
              have HIT := Lib.hid (itoa_any ((j : Int) + 1) (by omega) (by omega) wr)
              have HD := Lib.hid (And.intro d0 (And.intro d1 (And.intro d2 (And.intro d3 (And.intro d4 (And.intro hku (And.intro hnu lgk)))))))
              have HKY := Lib.hid (And.intro hky hcy)
              have r1 : ¬ 9223372036854775807 < (bs path).size + 2 := by rw [bs_size]; omega
              have HXw := Lib.hid hXw
              clear hdr hy d0 d1 d2 d3 d4 hku hnu hky hcy hXw
              go_wp2_with fail
              refine HIT.out.mono ?_
              rintro e w5 ⟨⟨s, rfl, hs⟩, hX5⟩
              have hXw5 := HXw.out.trans hX5
              have HO5 := Lib.hid (rows_ext HO.out.1 hX5)
              have HX5 := Lib.hid (HX.out.trans hX5)
              have m0 := hXw5.keep HD.out.2.2.2.2.2.2.2 HD.out.1
              have m1 := hXw5.keep HD.out.2.2.2.2.2.2.2 HD.out.2.1
              have m2 := hXw5.keep HD.out.2.2.2.2.2.2.2 HD.out.2.2.1
              have m3 := hXw5.keep HD.out.2.2.2.2.2.2.2 HD.out.2.2.2.1
              have m4 := hXw5.keep HD.out.2.2.2.2.2.2.2 HD.out.2.2.2.2.1
              have c4' := HX5.out.keep hbl (blk_cells HB.out 4 rfl)
              have r2 : ¬ 9223372036854775807 < (bs path ++ (⟨#[47, 35]⟩ : ByteArray)).size + (bs s).size := by rw [ByteArray.size_append, bs_size, bs_size]; show ¬ _ < _ + 2 + _; omega
              have HNX := Lib.hid (IH.out y p (a + M.length) a (path ++ [47, 35] ++ s) ku nu (.slice none 0 0) w5 HKY.out.1.1 (by have := HKY.out.2; have := HOW.out; omega) (HD.out.2.2.2.2.2.1.ext hXw5) (HD.out.2.2.2.2.2.2.1.ext hXw5) (by omega) (by have := HO.out.2.2.2.1; have := HDR.out; omega) (by have := HKY.out.1.2; simp only [List.length_append, List.length_cons, List.length_nil]; omega) (.inl rfl))
              rw [← bs_append, ← bs_append, show bs [47, 35] = ⟨#[47, 35]⟩ from rfl] at HNX
              clear n0 n1 n2 n3 n4 c4 HIT hX5 hXw5 hs r1
              go_wp2_with fail
              refine HNX.out.mono ?_
              rintro e w6 ⟨M2, rv2, rfl, h20, h2c, h2o, h2t, hX6, h2s⟩
              obtain ⟨g2, c2, rfl, _, _⟩ := own_pos h2o h20
              have HO6 := Lib.hid (And.intro (rows_ext HO5.out hX6) (And.intro h2o (And.intro h2t h20)))
              have HX6 := Lib.hid (HX5.out.trans hX6)
              have hM2 : M2.length ≤ 1048576 := by have := HKY.out.2; have := HOW.out; omega
              have HC2 := Lib.hid h2c
              have HS2 := Lib.hid h2s
              clear HNX h2s h20 h2c h2o h2t hX6 m0 m1 m2 m3 m4 r2 HO5 HX5
              go_wp2_with (at_builtin; refine wpList_append_own_at _ rfl (.tmp 115) (.tmp 129) _ rfl wz.heap.size 66 i0 (.agg #[.int .i64 0, .string ⟨#[]⟩, .string ⟨#[]⟩, .int .i64 0, .int .i64 0, .string ⟨#[]⟩]) 6 72 Tryz.underlying34 hin0 hq0 hq1 hq2 rfl (by decide) (.slice (some ⟨g, 0, none⟩) M.length cm) M.length (M.flatMap qnV) rfl HO6.out.1 ⟨g2, 0, none⟩ M2.length c2 (M2.flatMap qnV) rfl (qnV_len M2) (HO6.out.2.1.cells (g := g2) rfl) (one_qns M2) (by unfold maxLen; omega) (by omega) HX6.out.size ?_; intro v7 w7 hown7 hgrow7 _ hat7; have HO7 := Lib.hid (And.intro hown7 hgrow7); clear hown7 hgrow7 hat7)
              have HX7 := Lib.hid (show Ext wz w7 from Below.grown HX6.out HO7.out.2 (Below.size HX6.out) fun k hk => (HO6.out.1.lt k hk).1)
              go_roundw
              case rel => exact ⟨j + 1, M ++ M2, v7, by go_num, rfl, by omega, by have := HO.out.2.2.2.1; have := HDR.out; have := HC2.out; rw [List.length_append]; omega, Lib.hid ⟨by rw [List.length_append, List.flatMap_append]; exact HO7.out.1, HO.out.2.1.app (by rw [List.length_append]; omega) HO.out.2.2.1 (by rw [List.length_append, show a + ((M.length + M2.length : Nat) : Int) = a + M.length + M2.length by omega]; exact HO6.out.2.2.1), by have := HO.out.2.2.1; rw [List.length_append]; omega, by have := HO.out.2.2.2.1; have := HDR.out; have := HC2.out; rw [List.length_append]; omega, by have h1 := HO.out.2.2.2.2; have h2 := HDR.out; have h3 := HS2.out; rw [totT_app]; omega⟩, HX7⟩
              case measure => simp only [downV]; omega
            · have hlI : ¬ (j : Int) < (n.kids.length : Int) := by omega
              obtain ⟨q0, Mr, hM⟩ : ∃ q r, M = q :: r := by
                cases M with
                | nil => have := HO.out.2.2.1; simp at this
                | cons q r => exact ⟨q, r, rfl⟩
              have e4 : wr.cell? ⟨g, 4, none⟩ = some (.int .i64 q0.fin) := by
                rw [HO.out.1.cellAt 4 (by have := HO.out.2.2.1; omega), hM]; rfl
              have f4 := HO.out.1.frozenAt 4
              have hM0 : (0 : Int) < (M.length : Int) := by have := HO.out.2.2.1; omega
              have HM := Lib.hid hM
              clear hM
              go_wp2_with fail
              go_ret
              refine ⟨{ q0 with fin := a + M.length } :: Mr, _, rfl, by simp, ?_, ?_, ?_, ?_, ?_⟩
              · have h1 := HO.out.2.2.2.1; rw [HM.out] at h1; simp only [List.length_cons] at h1 ⊢; omega
              · have h1 := (HO.out.1.stored 4 (.int .i64 (a + M.length))).1
                have e1 : (M.flatMap qnV).set 4 (.int .i64 (a + M.length)) = ({ q0 with fin := a + M.length } :: Mr).flatMap qnV := by
                  obtain ⟨m, hm⟩ : ∃ m : Int, a + M.length = m := ⟨_, rfl⟩
                  rw [hm, HM.out]; rfl
                rw [e1] at h1
                have e2 : ({ q0 with fin := a + M.length } :: Mr).length = M.length := by rw [HM.out]; rfl
                rw [e2]
                exact rows_mono h1 HE.out.size
              · have h1 := HO.out.2.1
                have e2 : ({ q0 with fin := a + M.length } :: Mr).length = M.length := by rw [HM.out]; rfl
                rw [e2]
                obtain ⟨m, hm⟩ : ∃ m : Int, a + M.length = m := ⟨_, rfl⟩
                have hm' := hm
                rw [hm] at h1 ⊢
                rw [HM.out] at h1 hm'
                subst hm'
                exact h1.shut
              · exact HE.out.trans (HX.out.set (p := ⟨g, 4, none⟩) HG.out.1 _)
              · have h1 := HO.out.2.2.2.2
                have e1 : totT ({ q0 with fin := a + M.length } :: Mr) = totT M := by
                  obtain ⟨m, hm⟩ : ∃ m : Int, a + M.length = m := ⟨_, rfl⟩
                  rw [hm, HM.out]; rfl
                rw [e1]; omega

end Go.Proofs.YtmmopcceabdecaaGreatDoor
