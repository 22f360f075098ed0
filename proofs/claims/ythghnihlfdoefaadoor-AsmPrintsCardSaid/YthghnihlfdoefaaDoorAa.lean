/- Programs of bytes, plain: the instruction at a place, and all of them. -/
import Derived.Test.YthghnihlfdoefaaDoorRows
namespace Go.Proofs.YthghnihlfdoefaaDoor
set_option linter.unusedVariables false
set_option linter.unusedSimpArgs false

/-- An instruction. -/
structure AOp where
  code : Nat
  operand : Int
/-- The shapes of opcodes' operands: 0 none, 1 of one byte with a sign, 2 of two, 3 of eight, 4 a kind, 5 of one byte, 6 of two. -/
def shapeL : List Nat := [0, 1, 2, 3, 0, 0, 0, 0, 0, 0, 0, 0, 0, 0, 0, 0, 0, 0, 0, 0, 0, 0, 0, 4, 2, 2, 6, 0, 5, 0, 0, 0, 0, 5, 5, 5, 5, 5, 5, 5, 5]
def shapeF (c : Nat) : Nat := shapeL.getD c 0
def widthF (sh : Nat) : Nat := if sh = 1 ∨ sh = 4 ∨ sh = 5 then 1 else if sh = 2 ∨ sh = 6 then 2 else if sh = 3 then 8 else 0
/-- Bytes as a number, the least first. -/
def leF : List Nat → Nat
  | [] => 0
  | b :: r => b + 256 * leF r
theorem leF_snoc (l : List Nat) (b : Nat) : leF (l ++ [b]) = leF l + 256 ^ l.length * b := by
  induction l with
  | nil => simp [leF]
  | cons x r ih =>
    rw [List.cons_append, leF, leF, ih, List.length_cons, Nat.pow_succ, Nat.mul_add, Nat.add_assoc, Nat.mul_comm (256 ^ r.length) 256, Nat.mul_assoc]
theorem leF_lt (l : List Nat) (h : ∀ b ∈ l, b < 256) : leF l < 256 ^ l.length := by
  induction l with
  | nil => simp [leF]
  | cons x r ih =>
    have h1 := ih fun b hb => h b (List.mem_cons_of_mem _ hb)
    have h2 := h x (by simp)
    rw [leF, List.length_cons, Nat.pow_succ]
    omega
/-- The number that bits of a shape are. -/
def valueF (sh n : Nat) : Int := if sh = 1 then (if n < 128 then (n : Int) else n - 256) else if sh = 2 then (if n < 32768 then (n : Int) else n - 65536) else if sh = 3 then (if n < 9223372036854775808 then (n : Int) else n - 18446744073709551616) else n
/-- May a number be an operand of a shape? -/
def fitsF (sh : Nat) (n : Int) : Bool :=
  if sh = 1 then decide (-128 ≤ n ∧ n ≤ 127) else if sh = 2 then decide (-32768 ≤ n ∧ n ≤ 32767) else if sh = 3 then true
  else if sh = 4 then decide (0 ≤ n ∧ n < 6) else if sh = 5 then decide (0 ≤ n ∧ n ≤ 255) else if sh = 6 then decide (0 ≤ n ∧ n ≤ 65535) else decide (n = 0)
/-- The instruction at a place, and how many bytes it has. -/
def atF (s : List Nat) (i : Nat) : Option (AOp × Nat) :=
  if i < s.length then
    (let c := s.getD i 0
     if c < 41 then
       (let w := widthF (shapeF c)
        if w ≤ s.length - (i + 1) then
          (let o := valueF (shapeF c) (leF ((s.drop (i + 1)).take w))
           if fitsF (shapeF c) o = true then some (⟨c, o⟩, 1 + w) else none)
        else none)
     else none)
  else none
/-- All of them from a place on; what is wrong, at which byte. -/
def decF (s : List Nat) : Nat → Nat → Except Nat (List AOp)
  | 0, i => .ok []
  | f + 1, i => if i < s.length then
      (match atF s i with
       | none => .error i
       | some (o, k) => match decF s f (i + k) with
         | .ok r => .ok (o :: r)
         | .error e => .error e)
      else .ok []
theorem shape_cases (c : Nat) (h : c < 41) : (c = 1 ∧ shapeF c = 1) ∨ ((c = 2 ∨ c = 24 ∨ c = 25) ∧ shapeF c = 2) ∨ (c = 3 ∧ shapeF c = 3) ∨ (c = 23 ∧ shapeF c = 4) ∨ ((c = 28 ∨ 33 ≤ c) ∧ shapeF c = 5) ∨ (c = 26 ∧ shapeF c = 6) ∨ ((c ≠ 1 ∧ c ≠ 2 ∧ c ≠ 3 ∧ c ≠ 23 ∧ c ≠ 24 ∧ c ≠ 25 ∧ c ≠ 26 ∧ c ≠ 28 ∧ c < 33) ∧ shapeF c = 0) := by
  have key : ∀ k, k < 41 → (k = 1 ∧ shapeF k = 1) ∨ ((k = 2 ∨ k = 24 ∨ k = 25) ∧ shapeF k = 2) ∨ (k = 3 ∧ shapeF k = 3) ∨ (k = 23 ∧ shapeF k = 4) ∨ ((k = 28 ∨ 33 ≤ k) ∧ shapeF k = 5) ∨ (k = 26 ∧ shapeF k = 6) ∨ ((k ≠ 1 ∧ k ≠ 2 ∧ k ≠ 3 ∧ k ≠ 23 ∧ k ≠ 24 ∧ k ≠ 25 ∧ k ≠ 26 ∧ k ≠ 28 ∧ k < 33) ∧ shapeF k = 0) := by decide
  exact key c h
end Go.Proofs.YthghnihlfdoefaaDoor
