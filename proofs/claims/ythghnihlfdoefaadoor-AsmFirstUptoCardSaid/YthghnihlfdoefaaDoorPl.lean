/- A program's text read, plain. -/
import Derived.Test.YthghnihlfdoefaaDoorBa
import Derived.Test.YthghnihlfdoefaaDoorAi
import Derived.Test.YthghnihlfdoefaaDoorAp
import Derived.Test.YthghnihlfdoefaaDoorAc
import Derived.Test.YthghnihlfdoefaaDoorOw
import Derived.Deep.LoopGhost
import Derived.WalkLawsBesides
namespace Go.Proofs.YthghnihlfdoefaaDoor
open Go Go.Lib
set_option linter.unusedVariables false
set_option linter.unusedSimpArgs false

def isLet (c : UInt8) : Bool := c == 95 || (decide (97 ≤ c.toNat) && decide (c.toNat ≤ 122)) || (decide (65 ≤ c.toNat) && decide (c.toNat ≤ 90))
def chF (i : Nat) (c : UInt8) : Bool := isLet c || (decide (0 < i) && isDig c)
/-- Is a text a name? -/
def nameF (s : List UInt8) : Bool := !s.isEmpty && decide (s.length ≤ 16) && (List.range s.length).all fun i => chF i (s.getD i 0)
/-- An opcode's number. -/
def codeF (s : List UInt8) : Option Nat := (List.range 41).find? fun i => wordsB.getD i [] == s
structure Ins where
  code : Nat
  operand : Int
  pos : Nat
  name : Tok
def noTok : Tok := ⟨[], 0⟩
structure RSt where
  labels : List (List UInt8 × Nat)
  ins : List Ins
def Ins.op (x : Ins) : AOp := ⟨x.code, x.operand⟩
def RSt.size (r : RSt) : Nat := sizeF (r.ins.map Ins.op)
def labF2 (l : List (List UInt8 × Nat)) (n : List UInt8) : Option Nat := (l.find? fun p => p.1 == n).map (·.2)
/-- An operand: the number, the name; what is wrong. -/
def oprL (c : Nat) (u : Tok) : Except Nat (Int × Tok) := match numF u.s with
  | some n => if fitsF (shapeF c) n then .ok (n, noTok) else .error 12
  | none => if leadsF c && nameF u.s then .ok (0, u) else .error 9
/-- An instruction and nothing behind it. -/
def endL (r : RSt) (t : Tok) (c : Nat) (o : Int) (nm : Tok) (rest : List Tok) : Except (Nat × Nat) RSt := match rest with
  | x :: _ => .error (9, x.pos)
  | [] => if 512 < r.size + (1 + widthF (shapeF c)) then .error (2, t.pos) else .ok ⟨r.labels, r.ins ++ [⟨c, o, r.size, nm⟩]⟩
def insL (r : RSt) (t : Tok) (rest : List Tok) : Except (Nat × Nat) RSt := match codeF t.s with
  | none => .error (9, t.pos)
  | some c => if 0 < widthF (shapeF c) then (match rest with
      | [] => .error (9, t.pos + t.s.length)
      | u :: rest' => match oprL c u with
        | .error e => .error (e, u.pos)
        | .ok (o, nm) => endL r t c o nm rest')
    else endL r t c 0 noTok rest
/-- A line. -/
def lineL (r : RSt) (l : List Tok) : Except (Nat × Nat) RSt := match l with
  | [] => .ok r
  | t :: rest => if t.s.getLast? == some 58 then (
      if nameF t.s.dropLast = false then .error (9, t.pos)
      else if (labF2 r.labels t.s.dropLast).isSome then .error (11, t.pos)
      else match rest with
        | [] => .ok ⟨r.labels ++ [(t.s.dropLast, r.size)], r.ins⟩
        | u :: rest' => insL ⟨r.labels ++ [(t.s.dropLast, r.size)], r.ins⟩ u rest')
    else insL r t rest
def linesL : RSt → List (List Tok) → Except (Nat × Nat) RSt
  | r, [] => .ok r
  | r, l :: ls => match lineL r l with
    | .error e => .error e
    | .ok r' => linesL r' ls
def resOne (labels : List (List UInt8 × Nat)) (x : Ins) : Except (Nat × Nat) AOp :=
  if x.name.s = [] then .ok x.op else match labF2 labels x.name.s with
    | none => .error (11, x.name.pos)
    | some k => .ok ⟨x.code, if x.code = 26 then (k : Int) else (k : Int) - (x.pos + 3)⟩
def resL (labels : List (List UInt8 × Nat)) : List Ins → Except (Nat × Nat) (List AOp)
  | [] => .ok []
  | x :: r => match resOne labels x with
    | .error e => .error e
    | .ok o => match resL labels r with
      | .error e => .error e
      | .ok L => .ok (o :: L)
/-- A text as bytes; what is wrong, where. -/
def parseF (t : List UInt8) : Except (Nat × Nat) (List AOp) := match linesL ⟨[], []⟩ (lineToks t) with
  | .error e => .error e
  | .ok r => resL r.labels r.ins
end Go.Proofs.YthghnihlfdoefaaDoor

/- asm.fail, asm.named, (asm.token).end. -/
namespace Go.Proofs.YthghnihlfdoefaaDoor
open Go.RowKit Go.Joins Go.ChangeShapes Go.WideShapes Go.Deep
set_option linter.unusedVariables false
set_option linter.unusedSimpArgs false
set_option maxRecDepth 100000

def faultV (e at_ : Int) : Value := .iface 59 (.agg #[.int .i64 e, .int .i64 at_])
theorem fail_any (e p : Int) (w : World) : Calls Tryd.prog 32 #[.int .i64 e, .int .i64 p] w fun r w' => r = .panicked [{ v := faultV e p, recovered := false }] ∧ w' = w := by
  go_enter Tryd.func32, Tryd.ntmps32
  go_wp2
  exact ⟨rfl, rfl, rfl⟩
theorem end_any (s : ByteArray) (p : Nat) (hp : p + s.size ≤ 9223372036854775807) (w : World) : Calls Tryd.prog 69 #[.agg #[.string s, .int .i64 p]] w fun r w' => r = .returned (.int .i64 ((p + s.size : Nat) : Int)) ∧ Below w.heap.size w w' := by
  go_enter Tryd.func69, Tryd.ntmps69
  go_wp2
  go_ret
  exact ⟨by simp, by repeat (first | with_reducible exact Below.refl _ _ | with_reducible refine Below.drew ?_ | with_reducible refine below_drewN ?_ _ | ((with_reducible refine Below.alloc ?_ ?_ _); (rotate_left; focus (first | with_reducible exact Nat.le_refl _ | omega | (simp; done) | (simp; omega) | (simp [World.setCell]; done) | (simp [World.setCell]; omega)))) | ((with_reducible refine Below.setCell ?_ ?_ _); (rotate_left; focus (first | with_reducible exact Nat.le_refl _ | omega | (simp; done) | (simp; omega) | (simp [World.setCell]; done) | (simp [World.setCell]; omega)))))⟩
end Go.Proofs.YthghnihlfdoefaaDoor
