/-
  Package qparse as plain functions. Helper lemmas; no statement of the seat is proved here.
-/
import Derived.Test.YtfoclfefjcnllaaGreatDoorD7
import Derived.Test.YtfoclfefjcnllaaGreatDoorD3
import Derived.Laws.Rows
namespace Go.Proofs.YtfoclfefjcnllaaGreatDoor
set_option linter.unusedVariables false

mutual
inductive Ex
  | mk (op text : List UInt8) (nan : Bool) (v : Int) (args : List Ex) (abs : Bool) (steps : List St)
inductive St
  | mk (axis test name : List UInt8) (preds : List Ex)
end
-- qparse
def levelsS : List (List (List UInt8)) := [[[111, 114]], [[97, 110, 100]], [[61], [33, 61]], [[60], [60, 61], [62], [62, 61]], [[43], [45]], [[42], [100, 105, 118], [109, 111, 100]]]
def axesS : List (List UInt8) := [[97, 110, 99, 101, 115, 116, 111, 114], [97, 110, 99, 101, 115, 116, 111, 114, 45, 111, 114, 45, 115, 101, 108, 102], [97, 116, 116, 114, 105, 98, 117, 116, 101], [99, 104, 105, 108, 100], [100, 101, 115, 99, 101, 110, 100, 97, 110, 116], [100, 101, 115, 99, 101, 110, 100, 97, 110, 116, 45, 111, 114, 45, 115, 101, 108, 102], [102, 111, 108, 108, 111, 119, 105, 110, 103], [102, 111, 108, 108, 111, 119, 105, 110, 103, 45, 115, 105, 98, 108, 105, 110, 103], [110, 97, 109, 101, 115, 112, 97, 99, 101], [112, 97, 114, 101, 110, 116], [112, 114, 101, 99, 101, 100, 105, 110, 103], [112, 114, 101, 99, 101, 100, 105, 110, 103, 45, 115, 105, 98, 108, 105, 110, 103], [115, 101, 108, 102]]
def argsS (n : List UInt8) : Option (Nat × Nat) :=
  if ([[108, 97, 115, 116], [112, 111, 115, 105, 116, 105, 111, 110], [116, 114, 117, 101], [102, 97, 108, 115, 101], [118, 101, 114, 115, 105, 111, 110]] : List (List UInt8)).contains n then some (0, 0)
  else if ([[108, 111, 99, 97, 108, 45, 110, 97, 109, 101], [110, 97, 109, 101, 115, 112, 97, 99, 101, 45, 117, 114, 105], [110, 97, 109, 101], [115, 116, 114, 105, 110, 103], [115, 116, 114, 105, 110, 103, 45, 108, 101, 110, 103, 116, 104], [110, 111, 114, 109, 97, 108, 105, 122, 101, 45, 115, 112, 97, 99, 101], [110, 117, 109, 98, 101, 114]] : List (List UInt8)).contains n then some (0, 1)
  else if ([[99, 111, 117, 110, 116], [105, 100], [98, 111, 111, 108, 101, 97, 110], [110, 111, 116], [108, 97, 110, 103], [115, 117, 109], [102, 108, 111, 111, 114], [99, 101, 105, 108, 105, 110, 103], [114, 111, 117, 110, 100]] : List (List UInt8)).contains n then some (1, 1)
  else if ([[115, 116, 97, 114, 116, 115, 45, 119, 105, 116, 104], [99, 111, 110, 116, 97, 105, 110, 115], [115, 117, 98, 115, 116, 114, 105, 110, 103, 45, 98, 101, 102, 111, 114, 101], [115, 117, 98, 115, 116, 114, 105, 110, 103, 45, 97, 102, 116, 101, 114]] : List (List UInt8)).contains n then some (2, 2)
  else if ([[115, 117, 98, 115, 116, 114, 105, 110, 103]] : List (List UInt8)).contains n then some (2, 3)
  else if ([[116, 114, 97, 110, 115, 108, 97, 116, 101]] : List (List UInt8)).contains n then some (3, 3)
  else if ([[99, 111, 110, 99, 97, 116]] : List (List UInt8)).contains n then some (2, 1000)
  else none
abbrev PR (α : Type) := Except (Int × Int) (α × Nat)
section
variable (ts : List QT) (en : Nat)
def tokP (i : Nat) : QT := ts.getD i ⟨0, en, []⟩
def isP (i k : Nat) (t : List UInt8) : Bool := (tokP ts en i).kind == k && (tokP ts en i).text == t
def failP {α : Type} (c : Int) (i : Nat) : PR α := .error (c, ((tokP ts en i).at' : Int))
def mustP (i : Nat) (t : List UInt8) : PR Unit := if isP ts en i 6 t then .ok ((), i + 1) else failP ts en 61 i
def exP (op : List UInt8) (args : List Ex) : Ex := .mk op [] false 0 args false []
def deepS : St := .mk [100, 101, 115, 99, 101, 110, 100, 97, 110, 116, 45, 111, 114, 45, 115, 101, 108, 102] [110, 111, 100, 101] [] []
def slashP (i : Nat) : Option (List St) × Nat := if isP ts en i 5 [47] then (some [], i + 1) else if isP ts en i 5 [47, 47] then (some [deepS], i + 1) else (none, i)
def primaryP (i : Nat) : Bool := if (tokP ts en i).kind = 7 ∨ (tokP ts en i).kind = 8 ∨ (tokP ts en i).kind = 9 ∨ (tokP ts en i).kind = 2 then true else isP ts en i 6 [40]
def beginsP (i : Nat) : Bool := if (tokP ts en i).kind = 1 ∨ (tokP ts en i).kind = 4 ∨ (tokP ts en i).kind = 3 then true else if (tokP ts en i).kind = 6 then (tokP ts en i).text == [46] || (tokP ts en i).text == [46, 46] || (tokP ts en i).text == [64] else false
/-- How many minuses stand from a token on (at most f). -/
def minusP : Nat → Nat → Nat
  | 0, _ => 0
  | f + 1, i => if isP ts en i 5 [45] then 1 + minusP f (i + 1) else 0
def wrapNeg : Nat → Ex → Ex
  | 0, e => e
  | n + 1, e => wrapNeg n (exP [110, 101, 103] [e])
/-- A step's test: its test, its name. -/
def testP (i : Nat) : PR (List UInt8 × List UInt8) :=
  if (tokP ts en i).kind = 1 then .ok (([110, 97, 109, 101], (tokP ts en i).text), i + 1)
  else if (tokP ts en i).kind = 3 then
    match mustP ts en (i + 1) [40] with
    | .error e => .error e
    | .ok (_, j) =>
      if (tokP ts en i).text = [112, 114, 111, 99, 101, 115, 115, 105, 110, 103, 45, 105, 110, 115, 116, 114, 117, 99, 116, 105, 111, 110] then
        if (tokP ts en j).kind = 7 then
          match mustP ts en (j + 1) [41] with
          | .error e => .error e
          | .ok (_, k) => .ok (([112, 105], (tokP ts en j).text), k)
        else match mustP ts en j [41] with
          | .error e => .error e
          | .ok (_, k) => .ok (([112, 105], []), k)
      else match mustP ts en j [41] with
        | .error e => .error e
        | .ok (_, k) => .ok (((tokP ts en i).text, []), k)
  else failP ts en 61 i
/-- What stands ahead of a step's test: a whole step, or the axis. -/
def axisP (i : Nat) : PR (St ⊕ List UInt8) :=
  if isP ts en i 6 [46] then .ok (.inl (.mk [115, 101, 108, 102] [110, 111, 100, 101] [] []), i + 1)
  else if isP ts en i 6 [46, 46] then .ok (.inl (.mk [112, 97, 114, 101, 110, 116] [110, 111, 100, 101] [] []), i + 1)
  else if isP ts en i 6 [64] then .ok (.inr [97, 116, 116, 114, 105, 98, 117, 116, 101], i + 1)
  else if (tokP ts en i).kind = 4 then
    if axesS.contains (tokP ts en i).text then
      match mustP ts en (i + 1) [58, 58] with
      | .error e => .error e
      | .ok (_, j) => .ok (.inr (tokP ts en i).text, j)
    else failP ts en 61 i
  else .ok (.inr [99, 104, 105, 108, 100], i)
mutual
def exprP : Nat → Nat → Nat → PR Ex
  | 0, _, i => failP ts en 0 i
  | f + 1, nest, i => if 24 < nest then failP ts en 7 i else binP f (nest + 1) 0 i
def binP : Nat → Nat → Nat → Nat → PR Ex
  | 0, _, _, i => failP ts en 0 i
  | f + 1, nest, lev, i =>
    if 6 ≤ lev then negP f nest i
    else match binP f nest (lev + 1) i with
      | .error e => .error e
      | .ok (e, j) => binLoop f nest lev e j
def binLoop : Nat → Nat → Nat → Ex → Nat → PR Ex
  | 0, _, _, _, i => failP ts en 0 i
  | f + 1, nest, lev, e, i =>
    if (tokP ts en i).kind = 5 ∧ (levelsS.getD lev []).contains (tokP ts en i).text = true then
      match binP f nest (lev + 1) (i + 1) with
      | .error e => .error e
      | .ok (r, j) => binLoop f nest lev (exP (tokP ts en i).text [e, r]) j
    else .ok (e, i)
def negP : Nat → Nat → Nat → PR Ex
  | 0, _, i => failP ts en 0 i
  | f + 1, nest, i =>
    match pathP f nest (i + minusP ts en ts.length i) with
    | .error e => .error e
    | .ok (e, j) => match unionP f nest e j with
      | .error e => .error e
      | .ok (e, k) => .ok (wrapNeg (minusP ts en ts.length i) e, k)
def unionP : Nat → Nat → Ex → Nat → PR Ex
  | 0, _, _, i => failP ts en 0 i
  | f + 1, nest, e, i =>
    if isP ts en i 5 [124] then
      match pathP f nest (i + 1) with
      | .error e => .error e
      | .ok (r, j) => unionP f nest (exP [124] [e, r]) j
    else .ok (e, i)
def pathP : Nat → Nat → Nat → PR Ex
  | 0, _, i => failP ts en 0 i
  | f + 1, nest, i =>
    if primaryP ts en i then
      match filterP f nest i with
      | .error e => .error e
      | .ok (b, j) => match slashP ts en j with
        | (none, _) => .ok (b, j)
        | (some o, k) => match stepsP f nest o k with
          | .error e => .error e
          | .ok (l, m) => .ok (.mk [112, 97, 116, 104] [] false 0 [b] false l, m)
    else
      if isP ts en i 5 [47] && !beginsP ts en (slashP ts en i).2 then .ok (.mk [112, 97, 116, 104] [] false 0 [] true [], (slashP ts en i).2)
      else match stepsP f nest ((slashP ts en i).1.getD []) (slashP ts en i).2 with
        | .error e => .error e
        | .ok (l, m) => .ok (.mk [112, 97, 116, 104] [] false 0 [] (slashP ts en i).1.isSome l, m)
def stepsP : Nat → Nat → List St → Nat → PR (List St)
  | 0, _, _, i => failP ts en 0 i
  | f + 1, nest, o, i =>
    match stepP f nest i with
    | .error e => .error e
    | .ok (s, j) => match slashP ts en j with
      | (none, _) => .ok (o ++ [s], j)
      | (some m, k) => stepsP f nest (o ++ [s] ++ m) k
def stepP : Nat → Nat → Nat → PR St
  | 0, _, i => failP ts en 0 i
  | f + 1, nest, i =>
    match axisP ts en i with
    | .error e => .error e
    | .ok (.inl s, j) => .ok (s, j)
    | .ok (.inr a, j) => match testP ts en j with
      | .error e => .error e
      | .ok ((t, n), k) => match predsP f nest [] k with
        | .error e => .error e
        | .ok (l, m) => .ok (.mk a t n l, m)
def predsP : Nat → Nat → List Ex → Nat → PR (List Ex)
  | 0, _, _, i => failP ts en 0 i
  | f + 1, nest, o, i =>
    if isP ts en i 6 [91] then
      match exprP f nest (i + 1) with
      | .error e => .error e
      | .ok (e, j) => match mustP ts en j [93] with
        | .error e => .error e
        | .ok (_, k) => predsP f nest (o ++ [e]) k
    else .ok (o, i)
def filterP : Nat → Nat → Nat → PR Ex
  | 0, _, i => failP ts en 0 i
  | f + 1, nest, i =>
    match oneP f nest i with
    | .error e => .error e
    | .ok (e, j) => match predsP f nest [] j with
      | .error e => .error e
      | .ok (l, k) => .ok (if l.isEmpty then e else exP [102, 105, 108, 116, 101, 114] (e :: l), k)
def oneP : Nat → Nat → Nat → PR Ex
  | 0, _, i => failP ts en 0 i
  | f + 1, nest, i =>
    if (tokP ts en i).kind = 7 then .ok (.mk [108, 105, 116] (tokP ts en i).text false 0 [] false [], i + 1)
    else if (tokP ts en i).kind = 8 then
      if (parseS (tokP ts en i).text).2 = 0 then .ok (.mk [110, 117, 109] [] (parseS (tokP ts en i).text).1.1 (parseS (tokP ts en i).text).1.2 [] false [], i + 1) else failP ts en (parseS (tokP ts en i).text).2 i
    else if (tokP ts en i).kind = 9 then failP ts en 62 i
    else if (tokP ts en i).kind = 2 then
      match argsS (tokP ts en i).text with
      | none => failP ts en 63 i
      | some (lo, hi) => match mustP ts en (i + 1) [40] with
        | .error e => .error e
        | .ok (_, j) => match callP f nest (isP ts en j 6 [41]) [] j with
          | .error e => .error e
          | .ok (l, k) => match mustP ts en k [41] with
            | .error e => .error e
            | .ok (_, m) => if l.length < lo ∨ hi < l.length then .error (64, ((tokP ts en i).at' : Int)) else .ok (.mk [99, 97, 108, 108] (tokP ts en i).text false 0 l false [], m)
    else match mustP ts en i [40] with
      | .error e => .error e
      | .ok (_, j) => match exprP f nest j with
        | .error e => .error e
        | .ok (e, k) => match mustP ts en k [41] with
          | .error e => .error e
          | .ok (_, m) => .ok (e, m)
/-- Arguments: none; or one, and more behind commas. -/
def callP : Nat → Nat → Bool → List Ex → Nat → PR (List Ex)
  | 0, _, _, _, i => failP ts en 0 i
  | f + 1, nest, none', o, i =>
    if none' then .ok (o, i)
    else match exprP f nest i with
      | .error e => .error e
      | .ok (e, j) => if isP ts en j 6 [44] then callP f nest false (o ++ [e]) (j + 1) else .ok (o ++ [e], j)
end
end
def fuelP (ts : List QT) : Nat := 16 * ts.length + 64
def parseP (s : List UInt8) : Except (Int × Int) Ex :=
  match allS s with
  | .error e => .error e
  | .ok ts => match exprP ts s.length (fuelP ts) 0 0 with
    | .error e => .error e
    | .ok (e, i) => if i < ts.length then .error (61, ((tokP ts s.length i).at' : Int)) else .ok e
-- a tree written out
def quoteT (s : List UInt8) : List UInt8 := if s.contains 34 then [39] ++ s ++ [39] else [34] ++ s ++ [34]
def joinT (sep : List UInt8) : List (List UInt8) → List UInt8
  | [] => []
  | [a] => a
  | a :: b :: r => a ++ sep ++ joinT sep (b :: r)
def testT (t n : List UInt8) : List UInt8 :=
  if t = [110, 97, 109, 101] then n else if t = [112, 105] then (if n = [] then [112, 114, 111, 99, 101, 115, 115, 105, 110, 103, 45, 105, 110, 115, 116, 114, 117, 99, 116, 105, 111, 110] ++ [40, 41] else [112, 114, 111, 99, 101, 115, 115, 105, 110, 103, 45, 105, 110, 115, 116, 114, 117, 99, 116, 105, 111, 110] ++ [40] ++ quoteT n ++ [41]) else t ++ [40, 41]
def bracketsT (l : List (List UInt8)) : List UInt8 := l.flatMap fun t => [91] ++ t ++ [93]
mutual
def txE : Ex → List UInt8
  | .mk op text nan v args abs steps =>
    if op = [110, 117, 109] then textS nan v
    else if op = [108, 105, 116] then quoteT text
    else if op = [110, 101, 103] then [40, 45] ++ (txL args).headD [] ++ [41]
    else if op = [99, 97, 108, 108] then text ++ [40] ++ joinT [44, 32] (txL args) ++ [41]
    else if op = [102, 105, 108, 116, 101, 114] then [40] ++ (txL args).headD [] ++ [41] ++ bracketsT (txL args).tail
    else if op = [112, 97, 116, 104] then
      (if args.isEmpty = false then [40] ++ (txL args).headD [] ++ [41, 47] ++ joinT [47] (txS steps)
      else if abs = true ∧ steps.isEmpty = true then [40, 47, 41]
      else if abs = true then [47] ++ joinT [47] (txS steps) else joinT [47] (txS steps))
    else [40] ++ (txL args).headD [] ++ [32] ++ op ++ [32] ++ (txL args).tail.headD [] ++ [41]
def txL : List Ex → List (List UInt8)
  | [] => []
  | e :: r => txE e :: txL r
def txT : St → List UInt8
  | .mk a t n preds => a ++ [58, 58] ++ testT t n ++ bracketsT (txL preds)
def txS : List St → List (List UInt8)
  | [] => []
  | s :: r => txT s :: txS r
end
mutual
def sameE : Ex → Ex → Bool
  | .mk o t n v a b s, .mk o' t' n' v' a' b' s' => o == o' && t == t' && n == n' && v == v' && b == b' && sameEs a a' && sameSs s s'
def sameEs : List Ex → List Ex → Bool
  | [], [] => true
  | x :: l, y :: m => sameE x y && sameEs l m
  | _, _ => false
def sameT : St → St → Bool
  | .mk a t n p, .mk a' t' n' p' => a == a' && t == t' && n == n' && sameEs p p'
def sameSs : List St → List St → Bool
  | [], [] => true
  | x :: l, y :: m => sameT x y && sameSs l m
  | _, _ => false
end
end Go.Proofs.YtfoclfefjcnllaaGreatDoor

/-
  The parser's plain functions have fuel enough. Helper lemmas; no statement of the seat is proved here.
-/
namespace Go.Proofs.YtfoclfefjcnllaaGreatDoor
set_option linter.unusedVariables false

/-- No lack of fuel; on success it has not gone back. -/
def Good (i : Nat) {α : Type} (r : PR α) : Prop :=
  match r with
  | .error e => e.1 ≠ 0
  | .ok x => i ≤ x.2
theorem Good.mono {i j : Nat} {α : Type} {r : PR α} (h : Good j r) (hij : i ≤ j) : Good i r := by
  cases r with
  | error e => exact h
  | ok x => exact Nat.le_trans hij h
section
variable (ts : List QT) (en : Nat)
theorem kind_lt (i : Nat) (h : (tokP ts en i).kind ≠ 0) : i < ts.length := by
  rcases Nat.lt_or_ge i ts.length with h' | h'
  · exact h'
  · unfold tokP at h
    rw [List.getD_eq_getElem?_getD, List.getElem?_eq_none h'] at h
    exact absurd rfl h
theorem isP_lt (i k : Nat) (t : List UInt8) (hk : k ≠ 0) (h : isP ts en i k t = true) : i < ts.length := by
  unfold isP at h
  rw [Bool.and_eq_true, beq_iff_eq] at h
  exact kind_lt ts en i (by rw [h.1]; exact hk)
theorem good_fail {α : Type} (c : Int) (i j : Nat) (h : c ≠ 0) : Good j (failP ts en c i : PR α) := h
theorem must_good (i : Nat) (t : List UInt8) : Good i (mustP ts en i t) := by
  unfold mustP
  split
  · exact Nat.le_succ i
  · exact good_fail ts en 61 i i (by decide)
theorem must_ok {i : Nat} {t : List UInt8} {x : Unit × Nat} (h : mustP ts en i t = .ok x) : x.2 = i + 1 ∧ i < ts.length := by
  unfold mustP at h
  split at h
  · rename_i h1
    cases h
    exact ⟨rfl, isP_lt ts en i 6 t (by decide) h1⟩
  · cases h
theorem slash_le (i : Nat) : i ≤ (slashP ts en i).2 := by
  unfold slashP
  split
  · exact Nat.le_succ i
  · split
    · exact Nat.le_succ i
    · exact Nat.le_refl i
theorem slash_some {i k : Nat} {o : List St} (h : slashP ts en i = (some o, k)) : k = i + 1 ∧ i < ts.length := by
  unfold slashP at h
  split at h
  · rename_i h1; cases h; exact ⟨rfl, isP_lt ts en i 5 _ (by decide) h1⟩
  · split at h
    · rename_i h1; cases h; exact ⟨rfl, isP_lt ts en i 5 _ (by decide) h1⟩
    · cases h
theorem test_good (i : Nat) : Good i (testP ts en i) := by
  have h1 := must_good ts en (i + 1) [40]
  unfold testP
  split
  · exact Nat.le_succ i
  · split
    · split
      · rename_i e h2; rw [h2] at h1; exact h1
      · rename_i x j h2
        have := (must_ok ts en h2).1
        dsimp only at this
        split
        · split
          · split
            · rename_i e h3; have := must_good ts en (j + 1) [41]; rw [h3] at this; exact this
            · rename_i y k h3; have := (must_ok ts en h3).1; show i ≤ k; dsimp only at this; omega
          · split
            · rename_i e h3; have := must_good ts en j [41]; rw [h3] at this; exact this
            · rename_i y k h3; have := (must_ok ts en h3).1; show i ≤ k; dsimp only at this; omega
        · split
          · rename_i e h3; have := must_good ts en j [41]; rw [h3] at this; exact this
          · rename_i y k h3; have := (must_ok ts en h3).1; show i ≤ k; dsimp only at this; omega
    · exact good_fail ts en 61 i i (by decide)
theorem axis_good (i : Nat) : Good i (axisP ts en i) := by
  unfold axisP
  split
  · exact Nat.le_succ i
  · split
    · exact Nat.le_succ i
    · split
      · exact Nat.le_succ i
      · split
        · split
          · split
            · rename_i e h3; have := must_good ts en (i + 1) [58, 58]; rw [h3] at this; exact this
            · rename_i y k h3; have := (must_ok ts en h3).1; show i ≤ k; dsimp only at this; omega
          · exact good_fail ts en 61 i i (by decide)
        · exact Nat.le_refl i
set_option maxHeartbeats 1000000 in
theorem good_all : ∀ f : Nat,
    (∀ nest i, 16 * (ts.length - i) + 14 ≤ f → Good i (exprP ts en f nest i)) ∧
    (∀ nest lev i, 16 * (ts.length - i) + (7 + (6 - lev)) ≤ f → Good i (binP ts en f nest lev i)) ∧
    (∀ nest lev e i, 16 * (ts.length - i) + 1 ≤ f → Good i (binLoop ts en f nest lev e i)) ∧
    (∀ nest i, 16 * (ts.length - i) + 6 ≤ f → Good i (negP ts en f nest i)) ∧
    (∀ nest e i, 16 * (ts.length - i) + 1 ≤ f → Good i (unionP ts en f nest e i)) ∧
    (∀ nest i, 16 * (ts.length - i) + 5 ≤ f → Good i (pathP ts en f nest i)) ∧
    (∀ nest o i, 16 * (ts.length - i) + 4 ≤ f → Good i (stepsP ts en f nest o i)) ∧
    (∀ nest i, 16 * (ts.length - i) + 3 ≤ f → Good i (stepP ts en f nest i)) ∧
    (∀ nest o i, 16 * (ts.length - i) + 2 ≤ f → Good i (predsP ts en f nest o i)) ∧
    (∀ nest i, 16 * (ts.length - i) + 3 ≤ f → Good i (filterP ts en f nest i)) ∧
    (∀ nest i, 16 * (ts.length - i) + 1 ≤ f → Good i (oneP ts en f nest i)) ∧
    (∀ nest b o i, 16 * (ts.length - i) + 15 ≤ f → Good i (callP ts en f nest b o i)) := by
  intro f
  induction f with
  | zero => exact ⟨fun _ i h => absurd h (by omega), fun _ _ i h => absurd h (by omega), fun _ _ _ i h => absurd h (by omega), fun _ i h => absurd h (by omega), fun _ _ i h => absurd h (by omega), fun _ i h => absurd h (by omega), fun _ _ i h => absurd h (by omega), fun _ i h => absurd h (by omega), fun _ _ i h => absurd h (by omega), fun _ i h => absurd h (by omega), fun _ i h => absurd h (by omega), fun _ _ _ i h => absurd h (by omega)⟩
  | succ f ih =>
    obtain ⟨h1, h2, h3, h4, h5, h6, h7, h8, h9, h10, h11, h12⟩ := ih
    refine ⟨?_, ?_, ?_, ?_, ?_, ?_, ?_, ?_, ?_, ?_, ?_, ?_⟩
    · intro nest i h
      rw [exprP]; split
      · exact good_fail ts en 7 i i (by decide)
      · exact h2 (nest + 1) 0 i (by omega)
    · intro nest lev i h
      rw [binP]; split
      · exact h4 nest i (by omega)
      · have a := h2 nest (lev + 1) i (by omega)
        split
        · rename_i e q; rw [q] at a; exact a
        · rename_i e j q; rw [q] at a; have a' : i ≤ j := a; exact (h3 nest lev e j (by omega)).mono a'
    · intro nest lev e i h
      rw [binLoop]; split
      · rename_i hc
        have hl := kind_lt ts en i (by rw [hc.1]; decide)
        have a := h2 nest (lev + 1) (i + 1) (by omega)
        split
        · rename_i e q; rw [q] at a; exact a
        · rename_i r j q; rw [q] at a; have a' : i + 1 ≤ j := a; exact (h3 nest lev _ j (by omega)).mono (by omega)
      · exact Nat.le_refl i
    · intro nest i h
      rw [negP]
      have a := h6 nest (i + minusP ts en ts.length i) (by omega)
      split
      · rename_i e q; rw [q] at a; exact a
      · rename_i e j q; rw [q] at a; have a' : i + minusP ts en ts.length i ≤ j := a
        have b := h5 nest e j (by omega)
        split
        · rename_i e2 q2; rw [q2] at b; exact b
        · rename_i e2 k q2; rw [q2] at b; have b' : j ≤ k := b; show i ≤ k; omega
    · intro nest e i h
      rw [unionP]; split
      · rename_i hc
        have hl := isP_lt ts en i 5 _ (by decide) hc
        have a := h6 nest (i + 1) (by omega)
        split
        · rename_i e q; rw [q] at a; exact a
        · rename_i r j q; rw [q] at a; have a' : i + 1 ≤ j := a; exact (h5 nest _ j (by omega)).mono (by omega)
      · exact Nat.le_refl i
    · intro nest i h
      rw [pathP]; split
      · have a := h10 nest i (by omega)
        split
        · rename_i e q; rw [q] at a; exact a
        · rename_i b j q; rw [q] at a; have a' : i ≤ j := a
          split
          · exact a'
          · rename_i o k q2
            obtain ⟨hk, hj⟩ := slash_some ts en q2
            have c := h7 nest o k (by omega)
            split
            · rename_i e q3; rw [q3] at c; exact c
            · rename_i l m q3; rw [q3] at c; have c' : k ≤ m := c; show i ≤ m; omega
      · have hs := slash_le ts en i
        split
        · exact hs
        · have c := h7 nest ((slashP ts en i).1.getD []) (slashP ts en i).2 (by omega)
          split
          · rename_i e q3; rw [q3] at c; exact c
          · rename_i l m q3; rw [q3] at c; have c' : (slashP ts en i).2 ≤ m := c; show i ≤ m; omega
    · intro nest o i h
      rw [stepsP]
      have a := h8 nest i (by omega)
      split
      · rename_i e q; rw [q] at a; exact a
      · rename_i s j q; rw [q] at a; have a' : i ≤ j := a
        split
        · exact a'
        · rename_i m k q2
          obtain ⟨hk, hj⟩ := slash_some ts en q2
          exact (h7 nest _ k (by omega)).mono (by omega)
    · intro nest i h
      rw [stepP]
      have a := axis_good ts en i
      split
      · rename_i e q; rw [q] at a; exact a
      · rename_i s j q; rw [q] at a; exact a
      · rename_i x j q; rw [q] at a; have a' : i ≤ j := a
        have b := test_good ts en j
        split
        · rename_i e q2; rw [q2] at b; exact b
        · rename_i t n k q2; rw [q2] at b; have b' : j ≤ k := b
          have c := h9 nest [] k (by omega)
          split
          · rename_i e q3; rw [q3] at c; exact c
          · rename_i l m q3; rw [q3] at c; have c' : k ≤ m := c; show i ≤ m; omega
    · intro nest o i h
      rw [predsP]; split
      · rename_i hc
        have hl := isP_lt ts en i 6 _ (by decide) hc
        have a := h1 nest (i + 1) (by omega)
        split
        · rename_i e q; rw [q] at a; exact a
        · rename_i e j q; rw [q] at a; have a' : i + 1 ≤ j := a
          have b := must_good ts en j [93]
          split
          · rename_i e q2; rw [q2] at b; exact b
          · rename_i u k q2
            obtain ⟨hk, hj⟩ := must_ok ts en q2
            dsimp only at hk
            exact (h9 nest _ k (by omega)).mono (by omega)
      · exact Nat.le_refl i
    · intro nest i h
      rw [filterP]
      have a := h11 nest i (by omega)
      split
      · rename_i e q; rw [q] at a; exact a
      · rename_i e j q; rw [q] at a; have a' : i ≤ j := a
        have c := h9 nest [] j (by omega)
        split
        · rename_i e q3; rw [q3] at c; exact c
        · rename_i l m q3; rw [q3] at c; have c' : j ≤ m := c; show i ≤ m; omega
    · intro nest i h
      rw [oneP]; split
      · exact Nat.le_succ i
      · split
        · split
          · exact Nat.le_succ i
          · rename_i hz; exact good_fail ts en _ i i hz
        · split
          · exact good_fail ts en 62 i i (by decide)
          · split
            · rename_i hk2
              have hl := kind_lt ts en i (by rw [hk2]; decide)
              split
              · exact good_fail ts en 63 i i (by decide)
              · rename_i lo hi q0
                have b := must_good ts en (i + 1) [40]
                split
                · rename_i e q2; rw [q2] at b; exact b
                · rename_i u j q2
                  obtain ⟨hk, hj⟩ := must_ok ts en q2
                  dsimp only at hk
                  have c := h12 nest (isP ts en j 6 [41]) [] j (by omega)
                  split
                  · rename_i e q3; rw [q3] at c; exact c
                  · rename_i l k q3; rw [q3] at c; have c' : j ≤ k := c
                    have d := must_good ts en k [41]
                    split
                    · rename_i e q4; rw [q4] at d; exact d
                    · rename_i u m q4
                      obtain ⟨hm, _⟩ := must_ok ts en q4
                      dsimp only at hm
                      split
                      · show (64 : Int) ≠ 0; decide
                      · show i ≤ m; omega
            · have b := must_good ts en i [40]
              split
              · rename_i e q2; rw [q2] at b; exact b
              · rename_i u j q2
                obtain ⟨hk, hj⟩ := must_ok ts en q2
                dsimp only at hk
                have c := h1 nest j (by omega)
                split
                · rename_i e q3; rw [q3] at c; exact c
                · rename_i e k q3; rw [q3] at c; have c' : j ≤ k := c
                  have d := must_good ts en k [41]
                  split
                  · rename_i e q4; rw [q4] at d; exact d
                  · rename_i u m q4
                    obtain ⟨hm, _⟩ := must_ok ts en q4
                    dsimp only at hm
                    show i ≤ m; omega
    · intro nest b o i h
      rw [callP]; split
      · exact Nat.le_refl i
      · have a := h1 nest i (by omega)
        split
        · rename_i e q; rw [q] at a; exact a
        · rename_i e j q; rw [q] at a; have a' : i ≤ j := a
          split
          · rename_i hc
            have hl := isP_lt ts en j 6 _ (by decide) hc
            exact (h12 nest false _ (j + 1) (by omega)).mono (by omega)
          · exact a'
end
theorem fuel_ok (ts : List QT) (en : Nat) : Good 0 (exprP ts en (fuelP ts) 0 0) := (good_all ts en (fuelP ts)).1 0 0 (by unfold fuelP; omega)
-- alike
mutual
theorem sameE_iff : ∀ a b : Ex, sameE a b = true ↔ a = b
  | .mk o t n v a b s, .mk o' t' n' v' a' b' s' => by
    rw [sameE]
    simp only [Bool.and_eq_true, beq_iff_eq, sameEs_iff a a', sameSs_iff s s', Ex.mk.injEq]
    constructor
    · rintro ⟨⟨⟨⟨⟨⟨h1, h2⟩, h3⟩, h4⟩, h5⟩, h6⟩, h7⟩; exact ⟨h1, h2, h3, h4, h6, h5, h7⟩
    · rintro ⟨h1, h2, h3, h4, h6, h5, h7⟩; exact ⟨⟨⟨⟨⟨⟨h1, h2⟩, h3⟩, h4⟩, h5⟩, h6⟩, h7⟩
theorem sameEs_iff : ∀ a b : List Ex, sameEs a b = true ↔ a = b
  | [], [] => by simp [sameEs]
  | [], _ :: _ => by simp [sameEs]
  | _ :: _, [] => by simp [sameEs]
  | x :: l, y :: m => by rw [sameEs, Bool.and_eq_true, sameE_iff x y, sameEs_iff l m, List.cons.injEq]
theorem sameT_iff : ∀ a b : St, sameT a b = true ↔ a = b
  | .mk a t n p, .mk a' t' n' p' => by
    rw [sameT]
    simp only [Bool.and_eq_true, beq_iff_eq, sameEs_iff p p', St.mk.injEq]
    constructor
    · rintro ⟨⟨⟨h1, h2⟩, h3⟩, h4⟩; exact ⟨h1, h2, h3, h4⟩
    · rintro ⟨h1, h2, h3, h4⟩; exact ⟨⟨⟨h1, h2⟩, h3⟩, h4⟩
theorem sameSs_iff : ∀ a b : List St, sameSs a b = true ↔ a = b
  | [], [] => by simp [sameSs]
  | [], _ :: _ => by simp [sameSs]
  | _ :: _, [] => by simp [sameSs]
  | x :: l, y :: m => by rw [sameSs, Bool.and_eq_true, sameT_iff x y, sameSs_iff l m, List.cons.injEq]
end
theorem same_refl (x : Ex) : sameE x x = true := (sameE_iff x x).2 rfl
theorem same_text {x y : Ex} (h : sameE x y = true) : txE x = txE y := by rw [(sameE_iff x y).1 h]
end Go.Proofs.YtfoclfefjcnllaaGreatDoor

/-
  The parser's state. Helper lemmas; no statement of the seat is proved here.
-/
namespace Go.Proofs.YtfoclfefjcnllaaGreatDoor
open Go.RowKit
set_option maxRecDepth 100000
set_option linter.unusedVariables false
set_option linter.unusedSimpArgs false

/-- All but block g is as it was. -/
def Gr (g : Nat) (a w : World) : Prop := a.grownBy w (some g)
theorem Gr.of (g : Nat) {a w : World} (h : Ext a w) : Gr g a w := ⟨h.os, h.tape, h.output, h.size, fun k hk _ => Below.block h k hk⟩
theorem Gr.refl (g : Nat) (a : World) : Gr g a a := Gr.of g (Ext.refl a)
theorem Gr.trans {g : Nat} {a b c : World} (h : Gr g a b) (k : Gr g b c) : Gr g a c :=
  ⟨k.os.trans h.os, k.tape.trans h.tape, k.output.trans h.output, Nat.le_trans h.size k.size, fun x hx hn => (k.block x (Nat.lt_of_lt_of_le hx h.size) hn).trans (h.block x hx hn)⟩
theorem Gr.ext {g : Nat} {a b c : World} (h : Gr g a b) (k : Ext b c) : Gr g a c := h.trans (Gr.of g k)
theorem Gr.set {g : Nat} {a b : World} (h : Gr g a b) (o : Nat) (u : Value) : Gr g a (b.setCell ⟨g, o, none⟩ u) :=
  h.trans ⟨rfl, rfl, rfl, by simp [World.setCell], fun k _ hn => Below.heap_setCell _ _ _ _ (fun e => hn (by rw [e]))⟩
theorem Gr.blk {g : Nat} {a w : World} (h : Gr g a w) {b : Nat} (hb : b ≠ g) {o : Obj} (hc : a.heap[b]? = some o) : w.heap[b]? = some o :=
  (h.block b (blk_lt hc) (fun e => hb (Option.some.inj e))).trans hc
theorem Rep.gr {g : Nat} {a w : World} {p : Nat → Prop} {v : Value} {d : DV} (h : Rep a p v d) (hp : ∀ b, p b → b ≠ g) (hm : Gr g a w) : Rep w p v d :=
  h.kept fun b hb hlt => hm.block b hlt fun e => hp b hb (Option.some.inj e)
/-- The parser: block g: the tokens, the next one, the end, how deep. -/
structure PS (g : Nat) (W : World) (ts : List QT) (en i nest : Nat) : Prop where
  row : ∃ a c, W.cell? ⟨g, 0, none⟩ = some (.slice a ts.length c) ∧ Rep W (fun b => b < g) (.slice a ts.length c) (toksD ts)
  c1 : W.cell? ⟨g, 1, none⟩ = some (.int .i64 i)
  c2 : W.cell? ⟨g, 2, none⟩ = some (.int .i64 en)
  c3 : W.cell? ⟨g, 3, none⟩ = some (.int .i64 nest)
  f1 : W.frozen? ⟨g, 1, none⟩ = false
  f3 : W.frozen? ⟨g, 3, none⟩ = false
  hi : i ≤ ts.length
section
variable {g : Nat} {W W' : World} {ts : List QT} {en i nst : Nat}
theorem PS.lt (h : PS g W ts en i nst) : g < W.heap.size := World.block_lt_of_cell? W _ h.c1
theorem PS.ext (h : PS g W ts en i nst) (hE : Ext W W') : PS g W' ts en i nst := by
  have hl := h.lt
  obtain ⟨a, c, h1, h2⟩ := h.row
  exact ⟨⟨a, c, hE.keep hl h1, h2.ext hE⟩, hE.keep hl h.c1, hE.keep hl h.c2, hE.keep hl h.c3, hE.free hl h.f1, hE.free hl h.f3, h.hi⟩
theorem PS.set (h : PS g W ts en i nst) (j : Nat) (hj : j ≤ ts.length) : PS g (W.setCell ⟨g, 1, none⟩ (.int .i64 j)) ts en j nst := by
  obtain ⟨a, c, h1, h2⟩ := h.row
  have c1 := h.c1; have c2 := h.c2; have c3 := h.c3; have f1 := h.f1; have f3 := h.f3
  exact ⟨⟨a, c, by simp [go_sem, h1], h2.gr (g := g) (fun _ h => Nat.ne_of_lt h) ((Gr.refl g W).set 1 _)⟩, by simp [go_sem, c1], by simp [go_sem, c2], by simp [go_sem, c3], by simp [go_sem, f1], by simp [go_sem, f3], hj⟩
theorem PS.nest (h : PS g W ts en i nst) (n : Nat) : PS g (W.setCell ⟨g, 3, none⟩ (.int .i64 n)) ts en i n := by
  obtain ⟨a, c, h1, h2⟩ := h.row
  have c1 := h.c1; have c2 := h.c2; have c3 := h.c3; have f1 := h.f1; have f3 := h.f3
  exact ⟨⟨a, c, by simp [go_sem, h1], h2.gr (g := g) (fun _ h => Nat.ne_of_lt h) ((Gr.refl g W).set 3 _)⟩, by simp [go_sem, c1], by simp [go_sem, c2], by simp [go_sem, c3], by simp [go_sem, f1], by simp [go_sem, f3], h.hi⟩
end
theorem Ext.gr {r : Nat} {a b c : World} (h : Ext a b) (k : Gr r b c) (hr : a.heap.size ≤ r) : Ext a c := Below.grown h k (Below.size h) fun x e => by have := Option.some.inj e; omega
theorem Gr.new {g r : Nat} {a b c : World} (h : Gr g a b) (k : Gr r b c) (hr : a.heap.size ≤ r) : Gr g a c :=
  ⟨k.os.trans h.os, k.tape.trans h.tape, k.output.trans h.output, Nat.le_trans h.size k.size, fun x hx hn => (k.block x (Nat.lt_of_lt_of_le hx h.size) (fun e => by have := Option.some.inj e; omega)).trans (h.block x hx hn)⟩
theorem PS.gr {g r : Nat} {W W' : World} {ts : List QT} {en i nst : Nat} (h : PS g W ts en i nst) (k : Gr r W W') (hr : g < r) : PS g W' ts en i nst := by
  have hl := h.lt
  have hb := k.block g hl (fun e => by have := Option.some.inj e; omega)
  obtain ⟨a, c, h1, h2⟩ := h.row
  exact ⟨⟨a, c, (World.cell?_of_block (a := ⟨g, 0, none⟩) hb).trans h1, h2.gr (g := r) (fun b hb => by omega) k⟩, (World.cell?_of_block (a := ⟨g, 1, none⟩) hb).trans h.c1, (World.cell?_of_block (a := ⟨g, 2, none⟩) hb).trans h.c2, (World.cell?_of_block (a := ⟨g, 3, none⟩) hb).trans h.c3, (World.frozen?_of_block (a := ⟨g, 1, none⟩) hb).trans h.f1, (World.frozen?_of_block (a := ⟨g, 3, none⟩) hb).trans h.f3, h.hi⟩
def stc3 (w : World) (r : Nat) (v0 v1 v2 : Value) : World := ((w.setCell ⟨r, 0, none⟩ v0).setCell ⟨r, 1, none⟩ v1).setCell ⟨r, 2, none⟩ v2
theorem stc3_blk {w : World} {r : Nat} {t : TypeId} {c0 c1 c2 v0 v1 v2 : Value} (h : w.heap[r]? = some (.cells #[c0, c1, c2] t (0, 0))) : (stc3 w r v0 v1 v2).heap[r]? = some (.cells #[v0, v1, v2] t (0, 0)) ∧ Gr r w (stc3 w r v0 v1 v2) ∧ (stc3 w r v0 v1 v2).heap.size = w.heap.size := by
  unfold stc3
  refine ⟨?_, ((((Gr.refl r w).set 0 _).set 1 _).set 2 _), by simp [World.setCell]⟩
  have h0 := heap_setCell_same _ r 0 _ _ v0 h
  simp only [List.setIfInBounds_toArray, List.set_cons_zero, List.set_cons_succ] at h0
  have h1 := heap_setCell_same _ r 1 _ _ v1 h0
  simp only [List.setIfInBounds_toArray, List.set_cons_zero, List.set_cons_succ] at h1
  have h2 := heap_setCell_same _ r 2 _ _ v2 h1
  simp only [List.setIfInBounds_toArray, List.set_cons_zero, List.set_cons_succ] at h2
  exact h2
theorem cells3 {w : World} {r : Nat} {t : TypeId} {c0 c1 c2 : Value} (h : w.heap[r]? = some (.cells #[c0, c1, c2] t (0, 0))) : w.cell? ⟨r, 0, none⟩ = some c0 ∧ w.cell? ⟨r, 1, none⟩ = some c1 ∧ w.cell? ⟨r, 2, none⟩ = some c2 := ⟨blk_cell h rfl, blk_cell h rfl, blk_cell h rfl⟩
theorem fin3 {fn : Func} {p : Tmp} (h : fn.results = #[.cell p 111]) {tmps : Array Value} {w : World} {r : Nat} {t : TypeId} {c0 c1 c2 v0 v1 v2 : Value} (hr : w.heap[r]? = some (.cells #[c0, c1, c2] t (0, 0))) (hp : tmps.getD p undef = .pointer (some ⟨r, 0, none⟩)) {R : Ending → World → Prop}
    (hR : ∀ W', Gr r w W' → R (.returned (.agg #[v0, v1, v2])) W') : bodyPost Tryz.prog fn R .ret { tmps := tmps, defers := [] } (((w.setCell ⟨r, 0, none⟩ v0).setCell ⟨r, 1, none⟩ v1).setCell ⟨r, 2, none⟩ v2) := by
  obtain ⟨h1, h2, _⟩ := stc3_blk (v0 := v0) (v1 := v1) (v2 := v2) hr
  unfold stc3 at h1 h2
  exact bodyPost_ret (results_cell_row h tmps _ r t _ (0, 0) _ hp h1 Tryz.underlying111 rfl (by kernel_rfl)) rfl (hR _ h2)
def stc7 (w : World) (r : Nat) (v0 v1 v2 v3 v4 v5 v6 : Value) : World := ((((((w.setCell ⟨r, 0, none⟩ v0).setCell ⟨r, 1, none⟩ v1).setCell ⟨r, 2, none⟩ v2).setCell ⟨r, 3, none⟩ v3).setCell ⟨r, 4, none⟩ v4).setCell ⟨r, 5, none⟩ v5).setCell ⟨r, 6, none⟩ v6
theorem stc7_blk {w : World} {r : Nat} {t : TypeId} {c0 c1 c2 c3 c4 c5 c6 v0 v1 v2 v3 v4 v5 v6 : Value} (h : w.heap[r]? = some (.cells #[c0, c1, c2, c3, c4, c5, c6] t (0, 0))) : (stc7 w r v0 v1 v2 v3 v4 v5 v6).heap[r]? = some (.cells #[v0, v1, v2, v3, v4, v5, v6] t (0, 0)) ∧ Gr r w (stc7 w r v0 v1 v2 v3 v4 v5 v6) ∧ (stc7 w r v0 v1 v2 v3 v4 v5 v6).heap.size = w.heap.size := by
  unfold stc7
  refine ⟨?_, ((((((((Gr.refl r w).set 0 _).set 1 _).set 2 _).set 3 _).set 4 _).set 5 _).set 6 _), by simp [World.setCell]⟩
  have h0 := heap_setCell_same _ r 0 _ _ v0 h
  simp only [List.setIfInBounds_toArray, List.set_cons_zero, List.set_cons_succ] at h0
  have h1 := heap_setCell_same _ r 1 _ _ v1 h0
  simp only [List.setIfInBounds_toArray, List.set_cons_zero, List.set_cons_succ] at h1
  have h2 := heap_setCell_same _ r 2 _ _ v2 h1
  simp only [List.setIfInBounds_toArray, List.set_cons_zero, List.set_cons_succ] at h2
  have h3 := heap_setCell_same _ r 3 _ _ v3 h2
  simp only [List.setIfInBounds_toArray, List.set_cons_zero, List.set_cons_succ] at h3
  have h4 := heap_setCell_same _ r 4 _ _ v4 h3
  simp only [List.setIfInBounds_toArray, List.set_cons_zero, List.set_cons_succ] at h4
  have h5 := heap_setCell_same _ r 5 _ _ v5 h4
  simp only [List.setIfInBounds_toArray, List.set_cons_zero, List.set_cons_succ] at h5
  have h6 := heap_setCell_same _ r 6 _ _ v6 h5
  simp only [List.setIfInBounds_toArray, List.set_cons_zero, List.set_cons_succ] at h6
  exact h6
theorem cells7 {w : World} {r : Nat} {t : TypeId} {c0 c1 c2 c3 c4 c5 c6 : Value} (h : w.heap[r]? = some (.cells #[c0, c1, c2, c3, c4, c5, c6] t (0, 0))) : w.cell? ⟨r, 0, none⟩ = some c0 ∧ w.cell? ⟨r, 1, none⟩ = some c1 ∧ w.cell? ⟨r, 2, none⟩ = some c2 ∧ w.cell? ⟨r, 3, none⟩ = some c3 ∧ w.cell? ⟨r, 4, none⟩ = some c4 ∧ w.cell? ⟨r, 5, none⟩ = some c5 ∧ w.cell? ⟨r, 6, none⟩ = some c6 := ⟨blk_cell h rfl, blk_cell h rfl, blk_cell h rfl, blk_cell h rfl, blk_cell h rfl, blk_cell h rfl, blk_cell h rfl⟩
theorem fin7 {fn : Func} {p : Tmp} (h : fn.results = #[.cell p 29]) {tmps : Array Value} {w : World} {r : Nat} {t : TypeId} {c0 c1 c2 c3 c4 c5 c6 v0 v1 v2 v3 v4 v5 v6 : Value} (hr : w.heap[r]? = some (.cells #[c0, c1, c2, c3, c4, c5, c6] t (0, 0))) (hp : tmps.getD p undef = .pointer (some ⟨r, 0, none⟩)) {R : Ending → World → Prop}
    (hR : ∀ W', Gr r w W' → R (.returned (.agg #[v0, v1, v2, v3, v4, v5, v6])) W') : bodyPost Tryz.prog fn R .ret { tmps := tmps, defers := [] } (((((((w.setCell ⟨r, 0, none⟩ v0).setCell ⟨r, 1, none⟩ v1).setCell ⟨r, 2, none⟩ v2).setCell ⟨r, 3, none⟩ v3).setCell ⟨r, 4, none⟩ v4).setCell ⟨r, 5, none⟩ v5).setCell ⟨r, 6, none⟩ v6) := by
  obtain ⟨h1, h2, _⟩ := stc7_blk (v0 := v0) (v1 := v1) (v2 := v2) (v3 := v3) (v4 := v4) (v5 := v5) (v6 := v6) hr
  unfold stc7 at h1 h2
  exact bodyPost_ret (results_cell_row h tmps _ r t _ (0, 0) _ hp h1 Tryz.underlying29 rfl (by kernel_rfl)) rfl (hR _ h2)
def stc4 (w : World) (r : Nat) (v0 v1 v2 v3 : Value) : World := (((w.setCell ⟨r, 0, none⟩ v0).setCell ⟨r, 1, none⟩ v1).setCell ⟨r, 2, none⟩ v2).setCell ⟨r, 3, none⟩ v3
theorem stc4_blk {w : World} {r : Nat} {t : TypeId} {c0 c1 c2 c3 v0 v1 v2 v3 : Value} (h : w.heap[r]? = some (.cells #[c0, c1, c2, c3] t (0, 0))) : (stc4 w r v0 v1 v2 v3).heap[r]? = some (.cells #[v0, v1, v2, v3] t (0, 0)) ∧ Gr r w (stc4 w r v0 v1 v2 v3) ∧ (stc4 w r v0 v1 v2 v3).heap.size = w.heap.size := by
  unfold stc4
  refine ⟨?_, (((((Gr.refl r w).set 0 _).set 1 _).set 2 _).set 3 _), by simp [World.setCell]⟩
  have h0 := heap_setCell_same _ r 0 _ _ v0 h
  simp only [List.setIfInBounds_toArray, List.set_cons_zero, List.set_cons_succ] at h0
  have h1 := heap_setCell_same _ r 1 _ _ v1 h0
  simp only [List.setIfInBounds_toArray, List.set_cons_zero, List.set_cons_succ] at h1
  have h2 := heap_setCell_same _ r 2 _ _ v2 h1
  simp only [List.setIfInBounds_toArray, List.set_cons_zero, List.set_cons_succ] at h2
  have h3 := heap_setCell_same _ r 3 _ _ v3 h2
  simp only [List.setIfInBounds_toArray, List.set_cons_zero, List.set_cons_succ] at h3
  exact h3
theorem cells4 {w : World} {r : Nat} {t : TypeId} {c0 c1 c2 c3 : Value} (h : w.heap[r]? = some (.cells #[c0, c1, c2, c3] t (0, 0))) : w.cell? ⟨r, 0, none⟩ = some c0 ∧ w.cell? ⟨r, 1, none⟩ = some c1 ∧ w.cell? ⟨r, 2, none⟩ = some c2 ∧ w.cell? ⟨r, 3, none⟩ = some c3 := ⟨blk_cell h rfl, blk_cell h rfl, blk_cell h rfl, blk_cell h rfl⟩
theorem fin4 {fn : Func} {p : Tmp} (h : fn.results = #[.cell p 62]) {tmps : Array Value} {w : World} {r : Nat} {t : TypeId} {c0 c1 c2 c3 v0 v1 v2 v3 : Value} (hr : w.heap[r]? = some (.cells #[c0, c1, c2, c3] t (0, 0))) (hp : tmps.getD p undef = .pointer (some ⟨r, 0, none⟩)) {R : Ending → World → Prop}
    (hR : ∀ W', Gr r w W' → R (.returned (.agg #[v0, v1, v2, v3])) W') : bodyPost Tryz.prog fn R .ret { tmps := tmps, defers := [] } ((((w.setCell ⟨r, 0, none⟩ v0).setCell ⟨r, 1, none⟩ v1).setCell ⟨r, 2, none⟩ v2).setCell ⟨r, 3, none⟩ v3) := by
  obtain ⟨h1, h2, _⟩ := stc4_blk (v0 := v0) (v1 := v1) (v2 := v2) (v3 := v3) hr
  unfold stc4 at h1 h2
  exact bodyPost_ret (results_cell_row h tmps _ r t _ (0, 0) _ hp h1 Tryz.underlying62 rfl (by kernel_rfl)) rfl (hR _ h2)
/-- What leaves the parser. -/
def wrongV (c a : Int) : Value := .iface 74 (.agg #[.int .i64 c, .int .i64 a])
def Wrong (c a : Int) : Ending := .panicked [{ v := wrongV c a, recovered := false }]
end Go.Proofs.YtfoclfefjcnllaaGreatDoor

/-
  The parser's small functions. Helper lemmas; no statement of the seat is proved here.
-/
namespace Go.Proofs.YtfoclfefjcnllaaGreatDoor
open Go.RowKit
set_option maxRecDepth 100000
set_option linter.unusedVariables false
set_option linter.unusedSimpArgs false

def tokV (x : QT) : Value := .agg #[.int .i64 x.kind, .int .i64 x.at', .string (bs x.text)]
theorem st3_blk {W : World} {b : Nat} {k a : Int} {s : ByteArray} (h : W.heap[b]? = some (.cells #[.int .i64 k, .int .i64 a, .string s] 111)) (t : QT) : (st3 W b t).heap[b]? = some (.cells #[.int .i64 t.kind, .int .i64 t.at', .string (bs t.text)] 111) := by
  unfold st3
  have h1 := heap_setCell_same W b 0 _ _ (.int .i64 t.kind) h
  have h2 := heap_setCell_same _ b 1 _ _ (.int .i64 t.at') h1
  exact heap_setCell_same _ b 2 _ _ (.string (bs t.text)) h2
/-- A parser over tokens that aren't too great. -/
structure TsOk (ts : List QT) (en : Nat) : Prop where
  len : ts.length ≤ 1000
  en : en ≤ 1000
  tx : ∀ t ∈ ts, t.text.length ≤ 1000
theorem tokP_lt {ts : List QT} {en i : Nat} (h : i < ts.length) : tokP ts en i = ts[i] := by
  unfold tokP; rw [List.getD_eq_getElem?_getD, List.getElem?_eq_getElem h]; rfl
theorem tokP_ge {ts : List QT} {en i : Nat} (h : ¬ i < ts.length) : tokP ts en i = ⟨0, en, []⟩ := by
  unfold tokP; rw [List.getD_eq_getElem?_getD, List.getElem?_eq_none (by omega)]; rfl
theorem tokP_tx {ts : List QT} {en : Nat} (h : TsOk ts en) (i : Nat) : (tokP ts en i).text.length ≤ 1000 := by
  by_cases hl : i < ts.length
  · rw [tokP_lt hl]; exact h.tx _ (List.getElem_mem hl)
  · rw [tokP_ge hl]; exact Nat.zero_le _
set_option maxHeartbeats 8000000 in
theorem tok_any (g : Nat) (W : World) (ts : List QT) (en i nest : Nat) (hT : TsOk ts en) (h : PS g W ts en i nest) :
    Calls Tryz.prog 48 #[.pointer (some ⟨g, 0, none⟩)] W fun e w' => e = .returned (tokV (tokP ts en i)) ∧ Ext W w' := by
  have hlt := h.lt
  obtain ⟨wz, hwz⟩ : ∃ W', W.alloc (.cells #[.int .i64 0, .int .i64 0, .string ⟨#[]⟩] 111) = W' := ⟨_, rfl⟩
  have hE : Ext W wz := by rw [← hwz]; exact (Ext.refl W).alloc _
  have hblk : wz.heap[W.heap.size]? = some (.cells #[.int .i64 0, .int .i64 0, .string ⟨#[]⟩] 111) := by rw [← hwz]; exact Array.getElem?_push_size
  obtain ⟨rb, hrb⟩ : ∃ r, W.heap.size = r := ⟨_, rfl⟩
  have hrg : rb ≠ g := by omega
  have hltr : rb < wz.heap.size := by rw [← hrb]; exact blk_lt hblk
  have hP := h.ext hE
  obtain ⟨a, c, c0, hrep⟩ := hP.row
  have c1 := hP.c1; have c2 := hP.c2
  have hlw := hP.lt
  have hi := h.hi
  have HE := Lib.hid (And.intro hE hrb)
  have hLn := hT.len
  have hlen : (ts.length : Int) ≤ 1000 := by omega
  rw [hrb] at hblk
  by_cases hlI : i < ts.length
  · obtain ⟨tb, tf, rfl, ltb, d0, d1, d2⟩ := tok_at hrep i hlI
    have htk : tokP ts en i = ts[i] := tokP_lt hlI
    obtain ⟨x, hx⟩ : ∃ x, ts[i] = x := ⟨_, rfl⟩
    rw [hx] at d0 d1 d2 htk
    rw [htk]
    have hiI : (i : Int) < (ts.length : Int) := by omega
    have HW := Lib.hid hwz
    clear h hP hrep hx htk hE hwz
    go_enter Tryz.func48, Tryz.ntmps48
    go_wp2_with fail
    rw [HW.out]
    clear hrb
    have hlt := hlw
    refine rg_begin (S := Sx wz) (by kernel_rfl) (Sx.begin _) ?_
    have hS : Sx wz (World.drew wz) := (Sx.begin _)
    refine rg_take 0 (some 3) (.pointer (some ⟨g, 0, none⟩)) (oi := { dst := some 3, op := Go.Op.move (Go.Operand.tmp 0), type := 45, pos := "qparse.go:61", after := #[], guard := none }) rfl rfl (by kernel_rfl) (by kernel_rfl) (by kernel_rfl) (fun _ _ _ h => h) hS (by rfl) (fun w' hs => by rfl) ?_
    simp only [Act.put, List.setIfInBounds_toArray, List.set_cons_zero, List.set_cons_succ]
    refine rg_take 1 (some 4) (.pointer (some ⟨g, 0, none⟩)) (oi := { dst := some 4, op := Go.Op.nilCheck (Go.Operand.tmp 3), type := 0, pos := "qparse.go:61", after := #[{ on := 0, ground := Go.Ground.data }], guard := none }) rfl rfl (by kernel_rfl) (by kernel_rfl) (by kernel_rfl) (fun _ _ _ h => h) hS (by rfl) (fun w' hs => by first | rfl | go_simp) ?_
    simp only [Act.put, List.setIfInBounds_toArray, List.set_cons_zero, List.set_cons_succ]
    refine rg_take 2 (some 5) (.pointer (some ⟨g, 1, none⟩)) (oi := { dst := some 5, op := Go.Op.fieldAddr 47 (Go.Operand.tmp 4) 1, type := 0, pos := "qparse.go:61", after := #[{ on := 1, ground := Go.Ground.data }], guard := none }) rfl rfl (by kernel_rfl) (by kernel_rfl) (by kernel_rfl) (fun _ _ _ h => h) hS (by rfl) (fun w' hs => by first | rfl | go_simp) ?_
    simp only [Act.put, List.setIfInBounds_toArray, List.set_cons_zero, List.set_cons_succ]
    refine rg_take 3 (some 6) (.int .i64 i) (oi := { dst := some 6, op := Go.Op.load 3 (Go.Operand.tmp 5), type := 3, pos := "qparse.go:61", after := #[{ on := 2, ground := Go.Ground.data }], guard := none }) rfl rfl (by kernel_rfl) (by kernel_rfl) (by kernel_rfl) (fun _ _ _ h => h) hS (by rfl) (fun w' hs => by (have h0 := hs.cell hlt c1; go_simp)) ?_
    simp only [Act.put, List.setIfInBounds_toArray, List.set_cons_zero, List.set_cons_succ]
    refine rg_take 4 (some 7) (.pointer (some ⟨g, 0, none⟩)) (oi := { dst := some 7, op := Go.Op.move (Go.Operand.tmp 0), type := 45, pos := "qparse.go:61", after := #[], guard := none }) rfl rfl (by kernel_rfl) (by kernel_rfl) (by kernel_rfl) (fun _ _ _ h => h) hS (by rfl) (fun w' hs => by rfl) ?_
    simp only [Act.put, List.setIfInBounds_toArray, List.set_cons_zero, List.set_cons_succ]
    refine rg_take 5 (some 8) (.pointer (some ⟨g, 0, none⟩)) (oi := { dst := some 8, op := Go.Op.nilCheck (Go.Operand.tmp 7), type := 0, pos := "qparse.go:61", after := #[{ on := 4, ground := Go.Ground.data }], guard := none }) rfl rfl (by kernel_rfl) (by kernel_rfl) (by kernel_rfl) (fun _ _ _ h => h) hS (by rfl) (fun w' hs => by first | rfl | go_simp) ?_
    simp only [Act.put, List.setIfInBounds_toArray, List.set_cons_zero, List.set_cons_succ]
    refine rg_take 6 (some 9) (.pointer (some ⟨g, 0, none⟩)) (oi := { dst := some 9, op := Go.Op.fieldAddr 47 (Go.Operand.tmp 8) 0, type := 0, pos := "qparse.go:61", after := #[{ on := 5, ground := Go.Ground.data }], guard := none }) rfl rfl (by kernel_rfl) (by kernel_rfl) (by kernel_rfl) (fun _ _ _ h => h) hS (by rfl) (fun w' hs => by first | rfl | go_simp) ?_
    simp only [Act.put, List.setIfInBounds_toArray, List.set_cons_zero, List.set_cons_succ]
    refine rg_take 7 (some 10) (.slice (some ⟨tb, tf, none⟩) ts.length c) (oi := { dst := some 10, op := Go.Op.load 42 (Go.Operand.tmp 9), type := 42, pos := "qparse.go:61", after := #[{ on := 6, ground := Go.Ground.data }], guard := none }) rfl rfl (by kernel_rfl) (by kernel_rfl) (by kernel_rfl) (fun _ _ _ h => h) hS (by rfl) (fun w' hs => by (have h0 := hs.cell hlt c0; go_simp)) ?_
    simp only [Act.put, List.setIfInBounds_toArray, List.set_cons_zero, List.set_cons_succ]
    refine rg_take 8 (some 11) (.int .i64 ts.length) (oi := { dst := some 11, op := Go.Op.call { callee := Go.Callee.builtin Go.Builtin.len, args := #[Go.Operand.tmp 10], argTypes := #[42] }, type := 3, pos := "qparse.go:61", after := #[{ on := 7, ground := Go.Ground.data }], guard := none }) rfl rfl (by kernel_rfl) (by kernel_rfl) (by kernel_rfl) (fun _ _ _ h => h) hS (by rfl) (fun w' hs => by exact exec_len3 rfl rfl _) ?_
    simp only [Act.put, List.setIfInBounds_toArray, List.set_cons_zero, List.set_cons_succ]
    refine rg_take 9 (some 12) (.bool true) (oi := { dst := some 12, op := Go.Op.binOp Go.BinOp.lss 3 (Go.Operand.tmp 6) (Go.Operand.tmp 11) 3, type := 4, pos := "qparse.go:61", after := #[{ on := 3, ground := Go.Ground.data }, { on := 8, ground := Go.Ground.data }], guard := none }) rfl rfl (by kernel_rfl) (by kernel_rfl) (by kernel_rfl) (fun _ _ _ h => h) hS (by rfl) (fun w' hs => by exact exec_lss (i := i) (j := ts.length) rfl rfl rfl (decide_eq_true (by omega)) _) ?_
    simp only [Act.put, List.setIfInBounds_toArray, List.set_cons_zero, List.set_cons_succ]
    refine rg_done (by kernel_rfl) ?_
    have hS1 : Ext wz (World.drew wz) := hS
    have e0 := hS1.keep hlw c0; have e1 := hS1.keep hlw c1
    have e2 := hS1.keep ltb d0; have e3 := hS1.keep ltb d1; have e4 := hS1.keep ltb d2
    have eb := Gr.blk (Gr.of g hS1) hrg hblk
    have lg := Nat.lt_of_lt_of_le hlw hS1.size; have lt2 := Nat.lt_of_lt_of_le ltb hS1.size
    have HS := Lib.hid (HE.out.1.trans hS1)
    clear c0 c1 c2 d0 d1 d2 hblk
    obtain ⟨wy, hwy⟩ : ∃ wy, wy = World.drew wz := ⟨_, rfl⟩
    rw [← hwy] at e0 e1 e2 e3 e4 eb lg lt2 HS ⊢
    have HM := Lib.hid HE.out.2
    clear hwy hS1 hS HW HE hlw ltb hlt hltr
    have c0 := e0; have c1 := e1; have d0 := e2; have d1 := e3; have d2 := e4; have hblk := eb; have hlt := lg; have ltb := lt2
    clear e0 e1 e2 e3 e4 eb lg lt2
    go_wp2_with fail
    refine rg_cut (S := Sx wy) 10 (by kernel_rfl) (by kernel_rfl) (by kernel_rfl) (by kernel_rfl) (Sx.begin _) ?_
    have hSp : Sx wy (World.drew wy) := (Sx.begin _)
    refine rg_take 0 (some 13) (.pointer (some ⟨g, 0, none⟩)) (oi := { dst := some 13, op := Go.Op.move (Go.Operand.tmp 0), type := 45, pos := "qparse.go:62", after := #[], guard := none }) rfl rfl (by kernel_rfl) (by kernel_rfl) (by kernel_rfl) (fun _ _ _ h => h) hSp (by rfl) (fun w' hs => by rfl) ?_
    simp only [Act.put, List.setIfInBounds_toArray, List.set_cons_zero, List.set_cons_succ]
    refine rg_take 1 (some 14) (.pointer (some ⟨g, 0, none⟩)) (oi := { dst := some 14, op := Go.Op.nilCheck (Go.Operand.tmp 13), type := 0, pos := "qparse.go:62", after := #[{ on := 0, ground := Go.Ground.data }], guard := none }) rfl rfl (by kernel_rfl) (by kernel_rfl) (by kernel_rfl) (fun _ _ _ h => h) hSp (by rfl) (fun w' hs => by first | rfl | go_simp) ?_
    simp only [Act.put, List.setIfInBounds_toArray, List.set_cons_zero, List.set_cons_succ]
    refine rg_take 2 (some 15) (.pointer (some ⟨g, 0, none⟩)) (oi := { dst := some 15, op := Go.Op.fieldAddr 47 (Go.Operand.tmp 14) 0, type := 0, pos := "qparse.go:62", after := #[{ on := 1, ground := Go.Ground.data }], guard := none }) rfl rfl (by kernel_rfl) (by kernel_rfl) (by kernel_rfl) (fun _ _ _ h => h) hSp (by rfl) (fun w' hs => by first | rfl | go_simp) ?_
    simp only [Act.put, List.setIfInBounds_toArray, List.set_cons_zero, List.set_cons_succ]
    refine rg_take 3 (some 16) (.slice (some ⟨tb, tf, none⟩) ts.length c) (oi := { dst := some 16, op := Go.Op.load 42 (Go.Operand.tmp 15), type := 42, pos := "qparse.go:62", after := #[{ on := 2, ground := Go.Ground.data }], guard := none }) rfl rfl (by kernel_rfl) (by kernel_rfl) (by kernel_rfl) (fun _ _ _ h => h) hSp (by rfl) (fun w' hs => by (have h0 := hs.cell hlt c0; go_simp)) ?_
    simp only [Act.put, List.setIfInBounds_toArray, List.set_cons_zero, List.set_cons_succ]
    refine rg_take 4 (some 17) (.pointer (some ⟨g, 0, none⟩)) (oi := { dst := some 17, op := Go.Op.move (Go.Operand.tmp 0), type := 45, pos := "qparse.go:62", after := #[], guard := none }) rfl rfl (by kernel_rfl) (by kernel_rfl) (by kernel_rfl) (fun _ _ _ h => h) hSp (by rfl) (fun w' hs => by rfl) ?_
    simp only [Act.put, List.setIfInBounds_toArray, List.set_cons_zero, List.set_cons_succ]
    refine rg_take 5 (some 18) (.pointer (some ⟨g, 0, none⟩)) (oi := { dst := some 18, op := Go.Op.nilCheck (Go.Operand.tmp 17), type := 0, pos := "qparse.go:62", after := #[{ on := 4, ground := Go.Ground.data }], guard := none }) rfl rfl (by kernel_rfl) (by kernel_rfl) (by kernel_rfl) (fun _ _ _ h => h) hSp (by rfl) (fun w' hs => by first | rfl | go_simp) ?_
    simp only [Act.put, List.setIfInBounds_toArray, List.set_cons_zero, List.set_cons_succ]
    refine rg_take 6 (some 19) (.pointer (some ⟨g, 1, none⟩)) (oi := { dst := some 19, op := Go.Op.fieldAddr 47 (Go.Operand.tmp 18) 1, type := 0, pos := "qparse.go:62", after := #[{ on := 5, ground := Go.Ground.data }], guard := none }) rfl rfl (by kernel_rfl) (by kernel_rfl) (by kernel_rfl) (fun _ _ _ h => h) hSp (by rfl) (fun w' hs => by first | rfl | go_simp) ?_
    simp only [Act.put, List.setIfInBounds_toArray, List.set_cons_zero, List.set_cons_succ]
    refine rg_take 7 (some 20) (.int .i64 i) (oi := { dst := some 20, op := Go.Op.load 3 (Go.Operand.tmp 19), type := 3, pos := "qparse.go:62", after := #[{ on := 6, ground := Go.Ground.data }], guard := none }) rfl rfl (by kernel_rfl) (by kernel_rfl) (by kernel_rfl) (fun _ _ _ h => h) hSp (by rfl) (fun w' hs => by (have h0 := hs.cell hlt c1; go_simp)) ?_
    simp only [Act.put, List.setIfInBounds_toArray, List.set_cons_zero, List.set_cons_succ]
    refine rg_take 8 (some 21) (.pointer (some ⟨tb, tf + i * 3, none⟩)) (oi := { dst := some 21, op := Go.Op.indexAddr 42 (Go.Operand.tmp 16) (Go.Operand.tmp 20), type := 0, pos := "qparse.go:62", after := #[{ on := 3, ground := Go.Ground.data }, { on := 7, ground := Go.Ground.data }], guard := none }) rfl rfl (by kernel_rfl) (by kernel_rfl) (by kernel_rfl) (fun _ _ _ h => h) hSp (by rfl) (fun w' hs => by first | rfl | go_simp) ?_
    simp only [Act.put, List.setIfInBounds_toArray, List.set_cons_zero, List.set_cons_succ]
    refine rg_take 9 (some 22) (.agg #[.int .i64 x.kind, .int .i64 x.at', .string (bs x.text)]) (oi := { dst := some 22, op := Go.Op.load 111 (Go.Operand.tmp 21), type := 111, pos := "qparse.go:62", after := #[{ on := 8, ground := Go.Ground.data }], guard := none }) rfl rfl (by kernel_rfl) (by kernel_rfl) (by kernel_rfl) (fun _ _ _ h => h) hSp (by rfl) (fun w' hs => by (have h0 := hs.cell ltb d0; have h1 := hs.cell ltb d1; have h2 := hs.cell ltb d2; go_simp)) ?_
    simp only [Act.put, List.setIfInBounds_toArray, List.set_cons_zero, List.set_cons_succ]
    have hblk' := Gr.blk (Gr.of g hSp) hrg hblk
    refine rg_done (by kernel_rfl) ?_
    refine rg_go 1 #[true, true, true, true, true, true, true, true, true, true, false] (by kernel_rfl) (by kernel_rfl) fun m => ?_
    refine rg_write 10 none ((((World.drew wy).setCell ⟨rb, 0, none⟩ (.int .i64 x.kind)).setCell ⟨rb, 1, none⟩ (.int .i64 x.at')).setCell ⟨rb, 2, none⟩ (.string (bs x.text))) (oi := { dst := none, op := Go.Op.store 111 (Go.Operand.tmp 2) (Go.Operand.tmp 22), type := 0, pos := "qparse.go:62", after := #[{ on := 9, ground := Go.Ground.data }, { on := 0, ground := Go.Ground.phase }, { on := 1, ground := Go.Ground.phase }, { on := 2, ground := Go.Ground.phase }, { on := 3, ground := Go.Ground.phase }, { on := 4, ground := Go.Ground.phase }, { on := 5, ground := Go.Ground.phase }, { on := 6, ground := Go.Ground.phase }, { on := 7, ground := Go.Ground.phase }, { on := 8, ground := Go.Ground.phase }, { on := 9, ground := Go.Ground.phase }], guard := none }) rfl rfl (by kernel_rfl) (by rfl) (exec_store rfl (store_tok hblk' x)) trivial ?_
    simp only [Act.put, List.setIfInBounds_toArray, List.set_cons_zero, List.set_cons_succ]
    refine rg_done (by kernel_rfl) ?_
    go_wp2_with fail
    refine fin3 rfl hblk' rfl fun W' hG => ⟨rfl, ?_⟩
    exact (HS.out.trans hSp).gr hG (by rw [HM.out]; exact Nat.le_refl _)
  · have htk : tokP ts en i = ⟨0, en, []⟩ := tokP_ge hlI
    rw [htk]
    have HW := Lib.hid hwz
    clear h hP hrep htk hE hwz
    go_enter Tryz.func48, Tryz.ntmps48
    go_wp2_with fail
    rw [HW.out]
    clear hrb
    have hlt := hlw
    refine rg_begin (S := Sx wz) (by kernel_rfl) (Sx.begin _) ?_
    have hS : Sx wz (World.drew wz) := (Sx.begin _)
    refine rg_take 0 (some 3) (.pointer (some ⟨g, 0, none⟩)) (oi := { dst := some 3, op := Go.Op.move (Go.Operand.tmp 0), type := 45, pos := "qparse.go:61", after := #[], guard := none }) rfl rfl (by kernel_rfl) (by kernel_rfl) (by kernel_rfl) (fun _ _ _ h => h) hS (by rfl) (fun w' hs => by rfl) ?_
    simp only [Act.put, List.setIfInBounds_toArray, List.set_cons_zero, List.set_cons_succ]
    refine rg_take 1 (some 4) (.pointer (some ⟨g, 0, none⟩)) (oi := { dst := some 4, op := Go.Op.nilCheck (Go.Operand.tmp 3), type := 0, pos := "qparse.go:61", after := #[{ on := 0, ground := Go.Ground.data }], guard := none }) rfl rfl (by kernel_rfl) (by kernel_rfl) (by kernel_rfl) (fun _ _ _ h => h) hS (by rfl) (fun w' hs => by first | rfl | go_simp) ?_
    simp only [Act.put, List.setIfInBounds_toArray, List.set_cons_zero, List.set_cons_succ]
    refine rg_take 2 (some 5) (.pointer (some ⟨g, 1, none⟩)) (oi := { dst := some 5, op := Go.Op.fieldAddr 47 (Go.Operand.tmp 4) 1, type := 0, pos := "qparse.go:61", after := #[{ on := 1, ground := Go.Ground.data }], guard := none }) rfl rfl (by kernel_rfl) (by kernel_rfl) (by kernel_rfl) (fun _ _ _ h => h) hS (by rfl) (fun w' hs => by first | rfl | go_simp) ?_
    simp only [Act.put, List.setIfInBounds_toArray, List.set_cons_zero, List.set_cons_succ]
    refine rg_take 3 (some 6) (.int .i64 i) (oi := { dst := some 6, op := Go.Op.load 3 (Go.Operand.tmp 5), type := 3, pos := "qparse.go:61", after := #[{ on := 2, ground := Go.Ground.data }], guard := none }) rfl rfl (by kernel_rfl) (by kernel_rfl) (by kernel_rfl) (fun _ _ _ h => h) hS (by rfl) (fun w' hs => by (have h0 := hs.cell hlt c1; go_simp)) ?_
    simp only [Act.put, List.setIfInBounds_toArray, List.set_cons_zero, List.set_cons_succ]
    refine rg_take 4 (some 7) (.pointer (some ⟨g, 0, none⟩)) (oi := { dst := some 7, op := Go.Op.move (Go.Operand.tmp 0), type := 45, pos := "qparse.go:61", after := #[], guard := none }) rfl rfl (by kernel_rfl) (by kernel_rfl) (by kernel_rfl) (fun _ _ _ h => h) hS (by rfl) (fun w' hs => by rfl) ?_
    simp only [Act.put, List.setIfInBounds_toArray, List.set_cons_zero, List.set_cons_succ]
    refine rg_take 5 (some 8) (.pointer (some ⟨g, 0, none⟩)) (oi := { dst := some 8, op := Go.Op.nilCheck (Go.Operand.tmp 7), type := 0, pos := "qparse.go:61", after := #[{ on := 4, ground := Go.Ground.data }], guard := none }) rfl rfl (by kernel_rfl) (by kernel_rfl) (by kernel_rfl) (fun _ _ _ h => h) hS (by rfl) (fun w' hs => by first | rfl | go_simp) ?_
    simp only [Act.put, List.setIfInBounds_toArray, List.set_cons_zero, List.set_cons_succ]
    refine rg_take 6 (some 9) (.pointer (some ⟨g, 0, none⟩)) (oi := { dst := some 9, op := Go.Op.fieldAddr 47 (Go.Operand.tmp 8) 0, type := 0, pos := "qparse.go:61", after := #[{ on := 5, ground := Go.Ground.data }], guard := none }) rfl rfl (by kernel_rfl) (by kernel_rfl) (by kernel_rfl) (fun _ _ _ h => h) hS (by rfl) (fun w' hs => by first | rfl | go_simp) ?_
    simp only [Act.put, List.setIfInBounds_toArray, List.set_cons_zero, List.set_cons_succ]
    refine rg_take 7 (some 10) (.slice a ts.length c) (oi := { dst := some 10, op := Go.Op.load 42 (Go.Operand.tmp 9), type := 42, pos := "qparse.go:61", after := #[{ on := 6, ground := Go.Ground.data }], guard := none }) rfl rfl (by kernel_rfl) (by kernel_rfl) (by kernel_rfl) (fun _ _ _ h => h) hS (by rfl) (fun w' hs => by (have h0 := hs.cell hlt c0; go_simp)) ?_
    simp only [Act.put, List.setIfInBounds_toArray, List.set_cons_zero, List.set_cons_succ]
    refine rg_take 8 (some 11) (.int .i64 ts.length) (oi := { dst := some 11, op := Go.Op.call { callee := Go.Callee.builtin Go.Builtin.len, args := #[Go.Operand.tmp 10], argTypes := #[42] }, type := 3, pos := "qparse.go:61", after := #[{ on := 7, ground := Go.Ground.data }], guard := none }) rfl rfl (by kernel_rfl) (by kernel_rfl) (by kernel_rfl) (fun _ _ _ h => h) hS (by rfl) (fun w' hs => by exact exec_len3 rfl rfl _) ?_
    simp only [Act.put, List.setIfInBounds_toArray, List.set_cons_zero, List.set_cons_succ]
    refine rg_take 9 (some 12) (.bool false) (oi := { dst := some 12, op := Go.Op.binOp Go.BinOp.lss 3 (Go.Operand.tmp 6) (Go.Operand.tmp 11) 3, type := 4, pos := "qparse.go:61", after := #[{ on := 3, ground := Go.Ground.data }, { on := 8, ground := Go.Ground.data }], guard := none }) rfl rfl (by kernel_rfl) (by kernel_rfl) (by kernel_rfl) (fun _ _ _ h => h) hS (by rfl) (fun w' hs => by exact exec_lss (i := i) (j := ts.length) rfl rfl rfl (decide_eq_false (by omega)) _) ?_
    simp only [Act.put, List.setIfInBounds_toArray, List.set_cons_zero, List.set_cons_succ]
    refine rg_done (by kernel_rfl) ?_
    have hS1 : Ext wz (World.drew wz) := hS
    have e2 := hS1.keep hlw c2
    have eb := Gr.blk (Gr.of g hS1) hrg hblk
    have HS := Lib.hid (HE.out.1.trans hS1)
    clear c0 c1 c2 hblk
    obtain ⟨wy, hwy⟩ : ∃ wy, wy = World.drew wz := ⟨_, rfl⟩
    rw [← hwy] at e2 eb HS ⊢
    have HM := Lib.hid HE.out.2
    have hlwy := World.block_lt_of_cell? wy _ e2
    clear hwy hS1 hS HW HE hlw hlt hltr
    obtain ⟨b0, b1, b2⟩ := cells3 eb
    have g0 := blk_free eb (k := 0); have g1 := blk_free eb (k := 1); have g2 := blk_free eb (k := 2)
    have HB := Lib.hid eb
    clear eb
    go_wp2_with fail
    refine fin3 rfl HB.out rfl fun W' hG => ⟨rfl, ?_⟩
    exact HS.out.gr hG (by rw [HM.out]; exact Nat.le_refl _)

end Go.Proofs.YtfoclfefjcnllaaGreatDoor

/-
  The parser's small functions. Helper lemmas; no statement of the seat is proved here.
-/
namespace Go.Proofs.YtfoclfefjcnllaaGreatDoor
open Go.RowKit
set_option maxRecDepth 100000
set_option linter.unusedVariables false
set_option linter.unusedSimpArgs false

theorem fail_any (g : Nat) (W : World) (ts : List QT) (en i nst : Nat) (hT : TsOk ts en) (h : PS g W ts en i nst) (c : Int) :
    Calls Tryz.prog 30 #[.pointer (some ⟨g, 0, none⟩), .int .i64 c] W fun e w' => e = Wrong c ((tokP ts en i).at' : Nat) ∧ Ext W w' := by
  have HC := Lib.hid (tok_any g W ts en i nst hT h)
  obtain ⟨x, hx⟩ : ∃ x, tokP ts en i = x := ⟨_, rfl⟩
  rw [hx] at HC ⊢
  unfold tokV at HC
  have hfld : ∀ W, (Instr.field 111 (.agg #[.int .i64 x.kind, .int .i64 x.at', .string (bs x.text)]) 1).run Tryz.prog W = .ok (.int .i64 x.at') W := fun W => by kernel_rfl
  clear h hT hx
  go_enter Tryz.func30, Tryz.ntmps30
  go_wp2_with fail
  refine HC.out.mono ?_
  rintro e w1 ⟨rfl, hX⟩
  go_wp2_with fail
  exact ⟨rfl, rfl, hX⟩
set_option maxHeartbeats 4000000 in
theorem is_any (g : Nat) (W : World) (ts : List QT) (en i nst : Nat) (hT : TsOk ts en) (h : PS g W ts en i nst) (k : Nat) (t : List UInt8) :
    Calls Tryz.prog 114 #[.pointer (some ⟨g, 0, none⟩), .int .i64 k, .string (bs t)] W fun e w' => e = .returned (.bool (isP ts en i k t)) ∧ Ext W w' := by
  have HC := Lib.hid (tok_any g W ts en i nst hT h)
  unfold isP
  obtain ⟨x, hx⟩ : ∃ x, tokP ts en i = x := ⟨_, rfl⟩
  rw [hx] at HC ⊢
  unfold tokV at HC
  clear h hT hx
  obtain ⟨b1, h1⟩ : ∃ b, (x.kind == k) = b := ⟨_, rfl⟩
  obtain ⟨b2, h2⟩ : ∃ b, (x.text == t) = b := ⟨_, rfl⟩
  have q1 : ((x.kind : Int) == (k : Int)) = b1 := by rw [← h1, Bool.eq_iff_iff, beq_iff_eq, beq_iff_eq]; exact Int.ofNat_inj
  have q2 : ((bs x.text).toList == (bs t).toList) = b2 := by rw [bs_eqv]; exact h2
  rw [h1, h2]
  clear h1 h2
  go_enter Tryz.func114, Tryz.ntmps114
  go_wp2_with fail
  refine HC.out.mono ?_
  rintro e w1 ⟨rfl, hX⟩
  cases b1 with
  | true =>
    go_wp2_with fail
    go_ret
    exact ⟨ret_bool (Bool.true_and b2), hX.alloc _⟩
  | false =>
    go_wp2_with fail
    go_ret
    exact ⟨ret_bool (Bool.false_and b2), hX.alloc _⟩
set_option maxHeartbeats 4000000 in
theorem take_any (g : Nat) (W : World) (ts : List QT) (en i nst : Nat) (hT : TsOk ts en) (h : PS g W ts en i nst) (k : Nat) (hk : k ≠ 0) (t : List UInt8) :
    Calls Tryz.prog 92 #[.pointer (some ⟨g, 0, none⟩), .int .i64 k, .string (bs t)] W fun e w' => e = .returned (.bool (isP ts en i k t)) ∧ Gr g W w' ∧ PS g w' ts en (if isP ts en i k t = true then i + 1 else i) nst := by
  have HC := Lib.hid (is_any g W ts en i nst hT h k t)
  have hlt := isP_lt ts en i k t hk
  have hlen := hT.len
  obtain ⟨b, hb⟩ : ∃ b, isP ts en i k t = b := ⟨_, rfl⟩
  rw [hb] at HC hlt ⊢
  have HP := Lib.hid h
  clear h hT hb
  go_enter Tryz.func92, Tryz.ntmps92
  go_wp2_with fail
  refine HC.out.mono ?_
  rintro e w1 ⟨rfl, hX⟩
  have hP := HP.out.ext hX
  cases b with
  | false =>
    have HX := Lib.hid (And.intro hX hP)
    clear hX hP
    go_wp2_with fail
    go_ret
    exact ⟨rfl, Gr.of g HX.out.1, HX.out.2⟩
  | true =>
    have c1 := hP.c1; have f1 := hP.f1
    have hl := hlt rfl
    have hiI : (i : Int) ≤ 1000 := by omega
    have HX := Lib.hid (And.intro hX hP)
    clear hX hP hlt
    go_wp2_with fail
    go_ret
    exact ⟨rfl, (Gr.of g HX.out.1).set 1 _, HX.out.2.set (i + 1) hl⟩
/-- What a function of the parser leaves. -/
def PX {α : Type} (g : Nat) (W : World) (ts : List QT) (en nst : Nat) (V : World → α → Value → Prop) (r : PR α) (e : Ending) (w' : World) : Prop :=
  Gr g W w' ∧ match r with
    | .error (c, a) => e = Wrong c a
    | .ok (x, j) => ∃ v, e = .returned v ∧ V w' x v ∧ PS g w' ts en j nst
set_option maxHeartbeats 4000000 in
theorem must_any (g : Nat) (W : World) (ts : List QT) (en i nst : Nat) (hT : TsOk ts en) (h : PS g W ts en i nst) (t : List UInt8) :
    Calls Tryz.prog 132 #[.pointer (some ⟨g, 0, none⟩), .string (bs t)] W (PX g W ts en nst (fun _ _ v => v = .tuple #[]) (mustP ts en i t)) := by
  have HC := Lib.hid (take_any g W ts en i nst hT h 6 (by decide) t)
  have HF := Lib.hid fun w h => fail_any g w ts en i nst hT h 61
  unfold mustP failP
  obtain ⟨b, hb⟩ : ∃ b, isP ts en i 6 t = b := ⟨_, rfl⟩
  rw [hb] at HC ⊢
  clear h hT hb
  go_enter Tryz.func132, Tryz.ntmps132
  go_wp2_with fail
  refine HC.out.mono ?_
  rintro e w1 ⟨rfl, hG, hP⟩
  have HX := Lib.hid (And.intro hG hP)
  clear hG hP HC
  cases b with
  | true =>
    go_wp2_with fail
    exact ⟨rfl, _, results_none rfl _ _ _, HX.out.1, _, rfl, rfl, HX.out.2⟩
  | false =>
    go_wp2_with fail
    refine (HF.out _ HX.out.2).mono ?_
    rintro e w2 ⟨rfl, hX2⟩
    exact ⟨rfl, HX.out.1.ext hX2, rfl⟩

end Go.Proofs.YtfoclfefjcnllaaGreatDoor

/-
  Trees and steps in memory. Helper lemmas; no statement of the seat is proved here.
-/
namespace Go.Proofs.YtfoclfefjcnllaaGreatDoor
open Go.RowKit
set_option maxRecDepth 100000
set_option linter.unusedVariables false
set_option linter.unusedSimpArgs false

def Ex.op : Ex → List UInt8 | .mk o _ _ _ _ _ _ => o
def Ex.text : Ex → List UInt8 | .mk _ t _ _ _ _ _ => t
def Ex.nan : Ex → Bool | .mk _ _ n _ _ _ _ => n
def Ex.val : Ex → Int | .mk _ _ _ v _ _ _ => v
def Ex.args : Ex → List Ex | .mk _ _ _ _ a _ _ => a
def Ex.abs : Ex → Bool | .mk _ _ _ _ _ b _ => b
def Ex.steps : Ex → List St | .mk _ _ _ _ _ _ s => s
def St.axis : St → List UInt8 | .mk a _ _ _ => a
def St.test : St → List UInt8 | .mk _ t _ _ => t
def St.name : St → List UInt8 | .mk _ _ n _ => n
def St.preds : St → List Ex | .mk _ _ _ p => p
mutual
def exC : Ex → List DV
  | .mk o t n v a b s => [strD o, strD t, .v (.bool n), .v (.int .i64 v), .s 7 (exL a), .v (.bool b), .s 4 (stL s)]
def exL : List Ex → List DV
  | [] => []
  | e :: r => exC e ++ exL r
def stC : St → List DV
  | .mk a t n p => [strD a, strD t, strD n, .s 7 (exL p)]
def stL : List St → List DV
  | [] => []
  | s :: r => stC s ++ stL r
end
theorem exL_eq : ∀ l : List Ex, exL l = l.flatMap exC
  | [] => rfl
  | e :: r => by rw [exL, exL_eq r]; rfl
theorem stL_eq : ∀ l : List St, stL l = l.flatMap stC
  | [] => rfl
  | e :: r => by rw [stL, stL_eq r]; rfl
def exsD (l : List Ex) : DV := .s 7 (l.flatMap exC)
def stsD (l : List St) : DV := .s 4 (l.flatMap stC)
theorem exC_eq (x : Ex) : exC x = [strD x.op, strD x.text, .v (.bool x.nan), .v (.int .i64 x.val), exsD x.args, .v (.bool x.abs), stsD x.steps] := by
  cases x; rw [exC, exL_eq, stL_eq]; rfl
theorem stC_eq (x : St) : stC x = [strD x.axis, strD x.test, strD x.name, exsD x.preds] := by
  cases x; rw [stC, exL_eq]; rfl
theorem z_ex (x : Ex) : (exC x).length = 7 := by rw [exC_eq]; rfl
theorem z_st (x : St) : (stC x).length = 4 := by rw [stC_eq]; rfl
/-- The cells of a tree, as a value: where its arguments and steps lie. -/
def exU (x : Ex) (va vs : Value) : List Value := [.string (bs x.op), .string (bs x.text), .bool x.nan, .int .i64 x.val, va, .bool x.abs, vs]
def stU (x : St) (vp : Value) : List Value := [.string (bs x.axis), .string (bs x.test), .string (bs x.name), vp]
/-- A value is a tree. -/
def XV (W : World) (p : Nat → Prop) (x : Ex) (v : Value) : Prop :=
  ∃ aa ac sa sc, v = .agg #[.string (bs x.op), .string (bs x.text), .bool x.nan, .int .i64 x.val, .slice aa x.args.length ac, .bool x.abs, .slice sa x.steps.length sc] ∧ Rep W p (.slice aa x.args.length ac) (exsD x.args) ∧ Rep W p (.slice sa x.steps.length sc) (stsD x.steps) ∧ x.op.length ≤ 1000 ∧ x.text.length ≤ 1000
def SV (W : World) (p : Nat → Prop) (x : St) (v : Value) : Prop :=
  ∃ pa pc, v = .agg #[.string (bs x.axis), .string (bs x.test), .string (bs x.name), .slice pa x.preds.length pc] ∧ Rep W p (.slice pa x.preds.length pc) (exsD x.preds) ∧ x.axis.length ≤ 1000 ∧ x.test.length ≤ 1000 ∧ x.name.length ≤ 1000
theorem rep_bs (W : World) (p : Nat → Prop) (l : List UInt8) (h : l.length ≤ 1000) : Rep W p (.string (bs l)) (strD l) := Rep.string W p (bs l) (by rw [bs_size]; omega)
theorem ex_reps {W : World} {p : Nat → Prop} {x : Ex} {va vs : Value} (h1 : Rep W p va (exsD x.args)) (h2 : Rep W p vs (stsD x.steps)) (h3 : x.op.length ≤ 1000) (h4 : x.text.length ≤ 1000) : Reps W p (exU x va vs) (exC x) := by
  rw [exC_eq]
  exact Reps.cons (rep_bs W p _ h3) (Reps.cons (rep_bs W p _ h4) (Reps.cons (Rep.bool _ _ _) (Reps.cons (Rep.int _ _ _ _) (Reps.cons h1 (Reps.cons (Rep.bool _ _ _) (Reps.cons h2 (Reps.nil _ _)))))))
theorem st_reps {W : World} {p : Nat → Prop} {x : St} {vp : Value} (h1 : Rep W p vp (exsD x.preds)) (h2 : x.axis.length ≤ 1000) (h3 : x.test.length ≤ 1000) (h4 : x.name.length ≤ 1000) : Reps W p (stU x vp) (stC x) := by
  rw [stC_eq]
  exact Reps.cons (rep_bs W p _ h2) (Reps.cons (rep_bs W p _ h3) (Reps.cons (rep_bs W p _ h4) (Reps.cons h1 (Reps.nil _ _))))
theorem XV.gr {g : Nat} {a w : World} {p : Nat → Prop} {x : Ex} {v : Value} (h : XV a p x v) (hp : ∀ b, p b → b ≠ g) (hm : Gr g a w) : XV w p x v := by
  obtain ⟨aa, ac, sa, sc, h0, h1, h2, h3⟩ := h
  exact ⟨aa, ac, sa, sc, h0, h1.gr hp hm, h2.gr hp hm, h3⟩
theorem XV.ok {a : World} {p q : Nat → Prop} {x : Ex} {v : Value} (h : XV a p x v) (hp : ∀ b, p b → q b) : XV a q x v := by
  obtain ⟨aa, ac, sa, sc, h0, h1, h2, h3⟩ := h
  exact ⟨aa, ac, sa, sc, h0, h1.ok hp, h2.ok hp, h3⟩
theorem XV.ext {a w : World} {p : Nat → Prop} {x : Ex} {v : Value} (h : XV a p x v) (hE : Ext a w) : XV w p x v := by
  obtain ⟨aa, ac, sa, sc, h0, h1, h2, h3⟩ := h
  exact ⟨aa, ac, sa, sc, h0, h1.ext hE, h2.ext hE, h3⟩
theorem SV.gr {g : Nat} {a w : World} {p : Nat → Prop} {x : St} {v : Value} (h : SV a p x v) (hp : ∀ b, p b → b ≠ g) (hm : Gr g a w) : SV w p x v := by
  obtain ⟨aa, ac, h0, h1, h2⟩ := h
  exact ⟨aa, ac, h0, h1.gr hp hm, h2⟩
/-- A row that the code writes out: a block of the cells given. -/
theorem rep_new {w W : World} {p q : Nat → Prop} {us : List Value} {es : List DV} {e : TypeId} {n z : Nat} {fz : Nat × Nat} (hW : W.heap[w.heap.size]? = some (.cells us.toArray e fz)) (hE : Ext w W) (hr : Reps w p us es) (hp : ∀ b, p b → q b) (hq : q w.heap.size) (hl : us.length = n * z) (hn : n ≤ 9223372036854775807) :
    Rep W q (.slice (some ⟨w.heap.size, 0, none⟩) n n) (.s z es) :=
  .row _ 0 n n z us es (fun _ => hq) (by rw [← hr.1]; exact hl) hl (Nat.le_refl _) hn (fun k u hk => by
    rw [Nat.zero_add]
    have : us.toArray[k]? = some u := by simpa using hk
    simp [World.cell?, hW, this]) (fun k u d hu hd => ((hr.2 k u d hu hd).ext hE).ok hp)
/-- A row of the call's own that the code writes out. -/
theorem own_new {w W : World} {p : Nat → Prop} {us : List Value} {es : List DV} {e : TypeId} {n z base : Nat} (hW : W.heap[w.heap.size]? = some (.cells us.toArray e (0, 0))) (hE : Ext w W) (hr : Reps w (fun b => p b ∧ b < w.heap.size) us es) (hb : base ≤ w.heap.size) (hl : us.length = n * z) (hn : n ≤ 1000000) :
    Own W p base e z (.slice (some ⟨w.heap.size, 0, none⟩) n n) n es :=
  ⟨us, ⟨hl, .inr ⟨w.heap.size, n, us.toArray, rfl, hb, hW, Nat.le_refl _, by unfold maxLen; omega, by simp [hl], by rw [← hl]; simp⟩⟩, ((hr.ext hE).ok fun b hb => ⟨hb.1, fun e => by have e2 : b = w.heap.size := Option.some.inj e; have := hb.2; omega, Nat.lt_of_lt_of_le hb.2 hE.size⟩)⟩
theorem Reps.app {W : World} {p : Nat → Prop} {a b : List Value} {x y : List DV} (h : Reps W p a x) (k : Reps W p b y) : Reps W p (a ++ b) (x ++ y) := h.append k
end Go.Proofs.YtfoclfefjcnllaaGreatDoor
