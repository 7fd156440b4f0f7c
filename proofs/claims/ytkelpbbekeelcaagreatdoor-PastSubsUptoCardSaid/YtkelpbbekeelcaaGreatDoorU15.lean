/-
 recensionref15.node: plain bounds, what is told. Helper lemmas; no statement of the seat is proved here.
-/
import Derived.Test.YtkelpbbekeelcaaGreatDoorU14
namespace Go.Proofs.YtkelpbbekeelcaaGreatDoor
open Go.RowKit
set_option maxHeartbeats 32000000
set_option maxRecDepth 100000
set_option linter.unusedVariables false
set_option linter.unusedSimpArgs false
theorem infoANode : (Tryz.prog.info? 34).map (fun i => (i.zero, i.size, i.bytes)) = some (some (.agg #[.string ⟨#[]⟩, .slice none 0 0, .slice none 0 0, .slice none 0 0, .slice none 0 0]), 5, 112) := by kernel_rfl
theorem infoHeld : (Tryz.prog.info? 84).map (fun i => (i.zero, i.size, i.bytes)) = some (some (.agg #[.int .i64 0, .int .i64 0, .string ⟨#[]⟩, .string ⟨#[]⟩, .slice none 0 0, .slice none 0 0]), 6, 96) := by kernel_rfl
theorem infoHelds : (Tryz.prog.info? 82).map (fun i => (i.zero, i.size, i.bytes)) = some (some (.slice none 0 0), 1, 24) := by kernel_rfl
theorem s1Helds : ∀ W, (sizeOf 82).run Tryz.prog W = .ok 1 W := fun W => by go_simp
theorem s1Anodes : ∀ W, (sizeOf 32).run Tryz.prog W = .ok 1 W := fun W => by go_simp
theorem szHelds : ∀ W, (sizeOf (Tryz.prog.elem 128)).run Tryz.prog W = .ok 1 W := fun W => by rw [show Tryz.prog.elem 128 = 82 by kernel_rfl]; go_simp
theorem unHelds : Tryz.prog.underlying 128 = some (.slice (Tryz.prog.elem 128)) := by kernel_rfl
def hszL : List Held → Nat
 | [] => 0
 | h :: r => nsz h.n + hszL r
theorem hszL_app : ∀ a b : List Held, hszL (a ++ b) = hszL a + hszL b
 | [], b => by simp [hszL]
 | h :: a, b => by rw [List.cons_append, hszL, hszL, hszL_app a b]; omega
theorem hszL_drop (hs : List Held) (i : Nat) (h : i < hs.length) : hszL (hs.drop i) = nsz hs[i].n + hszL (hs.drop (i + 1)) := by rw [drop_one hs i h, hszL]
theorem kids_len : ∀ ks : List Node, ks.length ≤ nszL ks
 | [] => Nat.zero_le _
 | k :: r => by rw [nszL, List.length_cons]; have := kids_len r; have := nsz_pos k; omega
theorem kids_lt (n : Node) : n.kids.length < nsz n := by cases n with | mk k nm t la ks => rw [nsz]; have := kids_len ks; simp only [Node.kids]; omega
theorem hszL_selK (t : Step) (v : Int) : ∀ (ss : List Step) (ks : List Node), hszL (selK t v ss ks) ≤ nszL ks
 | [], ks => by cases ks <;> simp [selK, hszL]
 | _ :: _, [] => by simp [selK, hszL]
 | s :: ss, k :: ks => by
  rw [selK, hszL_app, nszL]
  have := hszL_selK t v ss ks
  split
  ·
   simp only [hszL]; omega
  ·
   simp only [hszL]; omega
theorem hszL_selH (l : List Rule) (path : List Bytes) (t : Step) : ∀ hs : List Held, hszL (selH l path t hs) ≤ hszL hs
 | [] => Nat.le_refl _
 | h :: r => by
  rw [selH, hszL_app, hszL]
  have h1 := hszL_selK t h.v (stepsS l path h.n.kids) h.n.kids
  have h2 := hszL_selH l path t r
  have h3 : nszL h.n.kids ≤ nsz h.n := by cases h.n; rw [nsz]; simp only [Node.kids]; omega
  omega
theorem selH_len (l : List Rule) (path : List Bytes) (t : Step) : ∀ hs : List Held, (∀ h ∈ hs, Rising (stepsS l path h.n.kids)) → (selH l path t hs).length ≤ hs.length
 | [], _ => Nat.le_refl _
 | h :: r, hr => by
  rw [selH, List.length_append, List.length_cons, selK_look _ _ _ _ (hr h List.mem_cons_self)]
  have := selH_len l path t r fun h hm => hr h (List.mem_cons_of_mem _ hm)
  cases (lookK t (stepsS l path h.n.kids) h.n.kids) <;> simp <;> omega
theorem gatherK_nil (v : Int) (ks : List Node) (g : List Step × List (List Held)) : gatherK v [] ks g = g := by cases ks <;> rfl
theorem insAt_at {α : Type} (l : List α) (k : Nat) (x : α) (h : k ≤ l.length) : (insAt l k x)[k]? = some x := by
 unfold insAt
 rw [List.getElem?_append_right (by rw [List.length_take]; omega), List.length_take, Nat.min_eq_left h, Nat.sub_self]; rfl
theorem insAt_set {α : Type} (l : List α) (k : Nat) (x y : α) (h : k ≤ l.length) : (insAt l k x).set k y = insAt l k y := by
 unfold insAt
 rw [List.set_append_right _ _ (by rw [List.length_take]; omega), List.length_take, Nat.min_eq_left h, Nat.sub_self]; rfl
theorem gather_cons (l : List Rule) (path : List Bytes) (hs : List Held) (i : Nat) (h : i < hs.length) (g : List Step × List (List Held)) : gather l path (hs.drop i) g = gather l path (hs.drop (i + 1)) (gatherK hs[i].v (stepsS l path hs[i].n.kids) hs[i].n.kids g) := by rw [drop_one hs i h, gather]
def RetA (q : Nat → Prop) (n : ANode) (e : Ending) (w : World) : Prop :=
 ∃ (k v pa c : Option Addr) (kc vc pc cc : Nat), e = .returned (.agg #[.string (bs n.name), .slice k n.key.length kc, .slice v n.vers.length vc, .slice pa n.parts.length pc, .slice c n.kids.length cc]) ∧ Rep w q (.slice k n.key.length kc) (strsD n.key) ∧ Rep w q (.slice v n.vers.length vc) (spansD n.vers) ∧ Rep w q (.slice pa n.parts.length pc) (partsD n.parts) ∧ Rep w q (.slice c n.kids.length cc) (anodesD n.kids)
theorem A5.set {W : World} {b : Nat} {n m : ANode} {xk xv xp xc : Value} (h : A5 W b n xk xv xp xc) (hn : m.name = n.name) : (∀ u, A5 (W.setCell ⟨b, 2, none⟩ u) b m xk u xp xc) ∧ (∀ u, A5 (W.setCell ⟨b, 3, none⟩ u) b m xk xv u xc) ∧ (∀ u, A5 (W.setCell ⟨b, 4, none⟩ u) b m xk xv xp u) := by
 have hlt := h.lt
 have c0 := h.c0; have c1 := h.c1; have c2 := h.c2; have c3 := h.c3; have c4 := h.c4
 have f0 := h.f0; have f1 := h.f1; have f2 := h.f2; have f3 := h.f3; have f4 := h.f4
 refine ⟨fun u => ?_, fun u => ?_, fun u => ?_⟩
 all_goals exact ⟨by simpa using hlt, by rw [hn]; simp [go_sem, *], by simp [go_sem, *], by simp [go_sem, *], by simp [go_sem, *], by simp [go_sem, *], by simp [go_sem, *], by simp [go_sem, *], by simp [go_sem, *], by simp [go_sem, *], by simp [go_sem, *]⟩
theorem res_one {fn : Func} {t : Tmp} {T : TypeId} (h : fn.results = #[.cell t T]) (tmps : Array Value) (P : Program) (w : World) (ad : Addr) {v : Value} (ha : tmps.getD t undef = .pointer (some ad)) (hl : (loadVar T ad).run P w = .ok v w) :
  (results fn tmps).run P w = .ok v w := by
 have ha' : tmps[t]?.getD undef = .pointer (some ad) := by simpa using ha
 simp [results, h, ha', asAddr, hl]
def outA (s : Step) : ANode := .mk s.n [] [] [] []
def GS (p : Nat → Prop) (w w3 wr : World) (sv dv : Value) (vs : List Value) (g : List Step × List (List Held)) (c : Nat) : Prop :=
 Rep wr (fun b => w3.heap.size ≤ b ∧ ¬ Mut dv vs b) sv (stepsD g.1) ∧ F2 wr (fun b => p b ∧ b < w.heap.size) w3.heap.size 82 84 6 heldC dv vs g.2 ∧ g.1.length = g.2.length ∧ g.1.length ≤ c ∧ ∀ m ∈ g.2, m.length ≤ c
theorem GS.ext {p : Nat → Prop} {w w3 wr W : World} {sv dv : Value} {vs : List Value} {g : List Step × List (List Held)} {c : Nat} (h : GS p w w3 wr sv dv vs g c) (hB : Ext wr W) : GS p w w3 W sv dv vs g c := ⟨h.1.ext hB, h.2.1.ext hB, h.2.2⟩
def NodeOK (l : List Rule) (N : Nat) : Prop := ∀ (path : List Bytes) (s : Step) (hs : List Held) (above : List Span) (p : Nat → Prop) (vl vp vk vh va : Value) (w : World), hs ≠ [] →
  (∀ h ∈ hs, wfN l h.n path ∧ nsz h.n ≤ N ∧ cntN h.n ≤ 1048576 ∧ path.length + nsz h.n ≤ 1048577) → hszL hs ≤ 16777216 → hs.length ≤ 1048576 → 0 < path.length → s.n.length ≤ 9223372036854775807 →
  Rep w p vl (rulesD l) → Rep w p vp (strsD path) → Rep w p vk (strsD s.key) → Rep w p vh (heldsD hs) → Rep w p va (spansD above) →
  Calls Tryz.prog 37 #[vl, vp, .agg #[.string (bs s.n), vk], vh, va] w fun e w' => RetA (fun b => p b ∨ w.heap.size ≤ b) (nodeP l N path s hs above) e w' ∧ Ext w w'
end Go.Proofs.YtkelpbbekeelcaaGreatDoor
