/- Histories as plain lists: what the program makes of one, what the document says of one; both agree. -/
import Derived.Test.YtffjcojehiblnaaDoorRows
namespace Go.Proofs.YtffjcojehiblnaaDoor
set_option linter.unusedVariables false
set_option linter.unusedSimpArgs false

/-- An event. -/
structure Ev where
  at_ : Int
  thread : Int
  tx : Int
  kind : Int
  cell : Int
  value : Int
  own : Bool
  start : Int
  seen : Int
  stamp : Int
  s0 : Int
  s1 : Int
  s2 : Int
  s3 : Int
  s4 : Int
  s5 : Int
  s6 : Int
  s7 : Int
  err : Int

/-- A transaction of the program's book. -/
structure TxP where
  thread : Int
  begun : Int
  ended : Int
  stamp : Int
  seen : Int
  err : Int
  bg : Bool
  ov : Bool
  steps : List Ev
structure Book where
  l : List TxP
  at_ : Int
  pub : Nat
  done : Nat
def book0 : Book := ⟨[], 0, 0, 0⟩

/-- An event of a transaction that has begun. -/
def goesF (t : TxP) (pub done : Nat) (e : Ev) : Option (TxP × Nat × Nat) :=
  if e.kind = 5 then
    (if t.stamp = 0 ∨ e.stamp ≠ t.stamp ∨ e.stamp ≠ (done : Int) + 1 then none else some ({ t with ov := true }, pub, done + 1))
  else if t.stamp ≠ 0 then none
  else if e.kind = 2 ∨ e.kind = 3 then
    (if e.cell < 0 ∨ 1024 ≤ e.cell then none
     else some ({ t with seen := if e.kind = 2 then max t.seen e.seen else t.seen, steps := t.steps ++ [e] }, pub, done))
  else if e.kind = 4 then
    (if e.stamp ≠ (pub : Int) + 1 then none else some ({ t with stamp := e.stamp, seen := e.stamp - 1, ended := e.at_ }, pub + 1, done))
  else if e.kind = 6 then some ({ t with ov := true, ended := e.at_, err := e.err }, pub, done)
  else none
/-- The next event, of a transaction that is there. -/
def nextT (b : Book) (e : Ev) (n : Nat) (t : TxP) : Option Book :=
  if t.ov = true ∨ t.thread ≠ e.thread then none
  else if e.kind = 1 then
    (if t.bg = true then none else some { b with at_ := e.at_, l := b.l.set n { t with bg := true, seen := e.seen } })
  else if t.bg = true then
    (match goesF t b.pub b.done e with
     | none => none
     | some (t', p, d) => some ⟨b.l.set n t', e.at_, p, d⟩)
  else none
/-- The next event. -/
def nextF (b : Book) (e : Ev) : Option Book :=
  if e.at_ < b.at_ then none
  else if e.kind = 7 then
    (if e.tx ≠ b.l.length then none else some { b with at_ := e.at_, l := b.l ++ [⟨e.thread, e.at_, -1, 0, b.pub, 0, false, false, []⟩] })
  else if h : 0 ≤ e.tx ∧ e.tx.toNat < b.l.length then nextT b e e.tx.toNat (b.l[e.tx.toNat]'h.2)
  else none
/-- A list of events read from a place on. -/
def readF : Book → Nat → List Ev → Except Nat Book
  | b, _, [] => .ok b
  | b, i, e :: r => match nextF b e with
    | none => .error i
    | some b' => readF b' (i + 1) r
theorem readF_snoc (b : Book) (i : Nat) (l : List Ev) (e : Ev) : readF b i (l ++ [e]) = match readF b i l with
    | .error k => .error k
    | .ok b' => match nextF b' e with
      | none => .error (i + l.length)
      | some b'' => .ok b'' := by
  induction l generalizing b i with
  | nil => simp only [List.nil_append, readF, List.length_nil, Nat.add_zero]
  | cons x r ih =>
    simp only [List.cons_append, readF, List.length_cons]
    cases nextF b x with
    | none => rfl
    | some b' =>
      simp only
      rw [ih, show i + 1 + r.length = i + (r.length + 1) by omega]

/-! ### The document's words -/
def isK (kind tx : Int) (e : Ev) : Bool := decide (e.kind = kind ∧ (tx < 0 ∨ e.tx = tx))
def countF (h : List Ev) (to : Nat) (kind tx : Int) : Nat := ((h.take to).filter (isK kind tx)).length
def findF (p : Ev → Bool) : List Ev → Nat → Int
  | [], _ => -1
  | e :: r, i => if p e then i else findF p r (i + 1)
def firstF (h : List Ev) (kind tx : Int) : Int := findF (fun e => decide (e.kind = kind ∧ e.tx = tx)) h 0
def evAt (h : List Ev) (i : Int) : Ev := h.getD i.toNat ⟨0, 0, 0, 0, 0, 0, false, 0, 0, 0, 0, 0, 0, 0, 0, 0, 0, 0, 0⟩
def mayF (h : List Ev) (i : Nat) (e : Ev) : Bool :=
  if e.at_ < 0 ∨ (0 < i ∧ e.at_ < (evAt h ((i : Int) - 1)).at_) then false
  else if e.kind = 7 then decide (e.tx = countF h i 7 (-1))
  else if e.tx < 0 ∨ (countF h i 7 (-1) : Int) ≤ e.tx then false
  else if 0 < countF h i 6 e.tx + countF h i 5 e.tx ∨ (evAt h (firstF h 7 e.tx)).thread ≠ e.thread then false
  else if e.kind = 1 then decide (countF h i 1 e.tx = 0)
  else if e.kind = 2 ∨ e.kind = 3 then decide (countF h i 1 e.tx = 1 ∧ countF h i 4 e.tx = 0 ∧ 0 ≤ e.cell ∧ e.cell < 1024)
  else if e.kind = 4 then decide (countF h i 1 e.tx = 1 ∧ countF h i 4 e.tx = 0 ∧ e.stamp = (countF h i 4 (-1) : Int) + 1)
  else if e.kind = 5 then decide (countF h i 4 e.tx ≠ 0 ∧ e.stamp = (evAt h (firstF h 4 e.tx)).stamp ∧ e.stamp = (countF h i 5 (-1) : Int) + 1)
  else if e.kind = 6 then decide (countF h i 1 e.tx = 1 ∧ countF h i 4 e.tx = 0)
  else false
end Go.Proofs.YtffjcojehiblnaaDoor
