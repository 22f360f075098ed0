/- carouselref14: Code, label, number. -/
import Derived.Test.YtiheggkkgbfndaaGreatDoorK06
import Derived.Test.YtiheggkkgbfndaaGreatDoorK19
import Derived.Test.YtiheggkkgbfndaaGreatDoorK07
import Derived.Test.YtiheggkkgbfndaaGreatDoorK17
import Derived.Test.YtiheggkkgbfndaaGreatDoorK10
import Derived.Test.YtiheggkkgbfndaaGreatDoorK01
import Derived.BigQuiet
namespace Go.Proofs.YtiheggkkgbfndaaGreatDoor
open Go.RowKit Go.Joins Go.ChangeShapes Go.WideShapes Go.Deep
set_option linter.unusedVariables false
set_option linter.unusedSimpArgs false
set_option maxRecDepth 100000
section
variable {B : Nat} {W WA w3 : World} {ab gg cap : Nat} {ov av nv lv : Value} {z : Int} {Lo : List AOp} {La : List Nat} {Ln Ll : List Tok}
end
def labL (r : RSt) (l : List Tok) : Except (Nat × Nat) (List Tok × RSt) := match l with
 | [] => .ok ([], r)
 | t :: rest => if t.s.getLast? == some 58 then (
   if nameF t.s.dropLast = false then .error (9, t.pos)
   else if (labF2 r.labels t.s.dropLast).isSome then .error (11, t.pos)
   else .ok (rest, ⟨r.labels ++ [(t.s.dropLast, r.size)], r.ins⟩))
  else .ok (t :: rest, r)
theorem lineL_labL (r : RSt) (l : List Tok) : lineL r l = match labL r l with
  | .error e => .error e
  | .ok ([], r') => .ok r'
  | .ok (t :: rest, r') => insL r' t rest := by
 unfold lineL labL
 cases l with
 | nil => rfl
 | cons t rest =>
  simp only
  split
  ·split
   ·rfl
   ·split
    ·rfl
    ·cases rest <;> rfl
  ·rfl
end Go.Proofs.YtiheggkkgbfndaaGreatDoor
