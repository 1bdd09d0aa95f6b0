/- What lex computes, on lists of bytes. No program here. -/
namespace Go.LexS

def isLetter (n : Int) : Bool := decide (97 ≤ n) && decide (n ≤ 122) || decide (65 ≤ n) && decide (n ≤ 90)
def isDigit (n : Int) : Bool := decide (48 ≤ n) && decide (n ≤ 57)
def isInner (n : Int) : Bool := isLetter n || isDigit n || (n == 95)
def isSpace (n : Int) : Bool := n == 32 || n == 9 || n == 10 || n == 13
def lt (c : UInt8) : Bool := isLetter c.toNat
def dg (c : UInt8) : Bool := isDigit c.toNat
def inn (c : UInt8) : Bool := isInner c.toNat
def sp (c : UInt8) : Bool := isSpace c.toNat

/-- how many bytes are skipped; true: within a comment -/
def skipC : Bool → List UInt8 → Nat
  | false, [] => 0
  | false, c :: cs => if sp c then 1 + skipC false cs else if c = 47 ∧ cs.head? = some 47 then 1 + skipC true cs else 0
  | true, [] => 0
  | true, c :: cs => if c = 10 then 1 + skipC false cs else 1 + skipC true cs

theorem skipC_le : ∀ (b : Bool) (l : List UInt8), skipC b l ≤ l.length
  | false, [] => Nat.le_refl _
  | true, [] => Nat.le_refl _
  | false, c :: cs => by
    have h1 := skipC_le false cs
    have h2 := skipC_le true cs
    simp only [skipC, List.length_cons]
    split
    · omega
    · split <;> omega
  | true, c :: cs => by
    have h1 := skipC_le false cs
    have h2 := skipC_le true cs
    simp only [skipC, List.length_cons]
    split <;> omega

/-- within a comment: the line feed at place n -/
theorem skip_lf : ∀ (l : List UInt8) (n : Nat), l[n]? = some 10 → (∀ k, k < n → l[k]? ≠ some 10) → skipC true l = n + 1 + skipC false (l.drop (n + 1))
  | [], n, h, _ => by simp at h
  | c :: cs, 0, h, _ => by simp at h; subst h; simp [skipC]
  | c :: cs, n + 1, h, hk => by
    have hc : c ≠ 10 := fun e => hk 0 (by omega) (by simp [e])
    have := skip_lf cs n (by simpa using h) (fun k hlt => by have := hk (k + 1) (by omega); simpa using this)
    simp only [skipC, if_neg hc, List.drop_succ_cons]
    rw [this]; omega
theorem skip_nolf : ∀ (l : List UInt8), (∀ k : Nat, l[k]? ≠ some 10) → skipC true l = l.length
  | [], _ => rfl
  | c :: cs, hk => by
    have hc : c ≠ 10 := fun e => hk 0 (by simp [e])
    have := skip_nolf cs (fun k => by have := hk (k + 1); simpa using this)
    simp only [skipC, if_neg hc, List.length_cons]
    rw [this]; omega

/-- a token without its place -/
structure T where
  kind : Nat
  text : List UInt8
  val : Nat
  deriving DecidableEq
def numV (d : List UInt8) : Nat := d.foldl (fun v c => 10 * v + (c.toNat - 48)) 0
def nameS (l : List UInt8) : Except Int (T × Nat) :=
  if 16 < (l.takeWhile inn).length then .error 6 else .ok (⟨1, l.takeWhile inn, 0⟩, (l.takeWhile inn).length)
def numS (l : List UInt8) : Except Int (T × Nat) :=
  if (l.drop (l.takeWhile dg).length).head?.any inn then .error 3
  else if 6 < (l.takeWhile dg).length ∨ 1 < (l.takeWhile dg).length ∧ l.head? = some 48 then .error 2
  else .ok (⟨2, [], numV (l.takeWhile dg)⟩, (l.takeWhile dg).length)
/-- a text behind its quote: its bytes, and how many bytes were read with the closing quote; from acc on -/
def elemsS : List UInt8 → List UInt8 → Nat → Option (List UInt8 × Nat)
  | [], _, _ => none
  | c :: cs, acc, n =>
    if c = 34 then some (acc, n + 1)
    else if c = 92 then match cs with
      | [] => none
      | d :: ds => if d = 34 ∨ d = 92 then elemsS ds (acc ++ [d]) (n + 2) else none
    else if c.toNat < 32 ∨ 126 < c.toNat then none
    else elemsS cs (acc ++ [c]) (n + 1)
def textR (r : Option (List UInt8 × Nat)) : Except Int (T × Nat) :=
  match r with
  | none => .error 3
  | some (t, n) => if 40 < t.length then .error 6 else .ok (⟨3, t, 0⟩, n)
def textS (l : List UInt8) : Except Int (T × Nat) := textR (elemsS (l.drop 1) [] 1)
def twos : List (List UInt8) := [[45, 62], [46, 46], [60, 61], [62, 61], [61, 61], [33, 61], [38, 38], [124, 124]]
def ones : List UInt8 := [40, 41, 123, 125, 44, 59, 58, 46, 43, 45, 42, 47, 37, 60, 62, 61, 33]
def markS (l : List UInt8) : Except Int (T × Nat) :=
  if l.take 2 ∈ twos then .ok (⟨4, l.take 2, 0⟩, 2)
  else match l with
    | [] => .error 3
    | c :: _ => if c ∈ ones then .ok (⟨4, [c], 0⟩, 1) else .error 3
/-- the token that begins a list that is not empty -/
def tokenS (l : List UInt8) : Except Int (T × Nat) :=
  match l with
  | [] => .error 3
  | c :: _ => if lt c then nameS l else if dg c then numS l else if c = 34 then textS l else markS l
/-- all tokens with their places, behind k bytes -/
def toks (k : Nat) (l : List UInt8) : Except (Nat × Int) (List (T × Nat)) :=
  match hl : l.drop (skipC false l) with
  | [] => .ok []
  | c :: cs => match tokenS (c :: cs) with
    | .error e => .error (k + skipC false l, e)
    | .ok (t, n) => match toks (k + skipC false l + n) (cs.drop (n - 1)) with
      | .error e => .error e
      | .ok r => .ok ((t, k + skipC false l) :: r)
termination_by l.length
decreasing_by
  have := congrArg List.length hl
  simp only [List.length_drop, List.length_cons] at *
  omega
theorem toks_nil {k : Nat} {l : List UInt8} (h : l.drop (skipC false l) = []) : toks k l = .ok [] := by
  rw [toks]; split
  · rfl
  · rename_i c cs h'; rw [h] at h'; cases h'
theorem toks_cons {k : Nat} {l cs : List UInt8} {c : UInt8} (h : l.drop (skipC false l) = c :: cs) : toks k l = match tokenS (c :: cs) with
    | .error e => .error (k + skipC false l, e)
    | .ok (t, n) => match toks (k + skipC false l + n) (cs.drop (n - 1)) with
      | .error e => .error e
      | .ok r => .ok ((t, k + skipC false l) :: r) := by
  rw [toks]; split
  · rename_i h'; rw [h] at h'; cases h'
  · rename_i c' cs' h'; rw [h] at h'; cases h'; rfl
end Go.LexS
