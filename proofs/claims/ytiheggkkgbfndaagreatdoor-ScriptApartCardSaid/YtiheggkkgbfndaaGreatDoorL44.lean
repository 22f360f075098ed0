/- carouselref22.Refuses: walked. -/
import Derived.Test.YtiheggkkgbfndaaGreatDoorL41
import Derived.Test.YtiheggkkgbfndaaGreatDoorL43
import Derived.Test.YtiheggkkgbfndaaGreatDoorL34
namespace Go.Proofs.YtiheggkkgbfndaaGreatDoor
open Go.RowKit Go.Joins Go.ChangeShapes Go.WideShapes Go.Deep
set_option linter.unusedVariables false
set_option linter.unusedSimpArgs false
set_option maxRecDepth 100000
theorem steps_take (l:List PLine) (i:Nat) (x:PLine) (h:l[i]?=some x):stepsN (l.take (i + 1))=stepsN (l.take i) + x.thr.length:=by
 unfold stepsN
 rw [List.take_add_one,h]
 simp
theorem steps_le (l:List PLine) (i:Nat):stepsN (l.take i) ≤ stepsN l:=by
 unfold stepsN
 have h:(l.map fun x=>x.thr.length).sum=((l.take i).map fun x=>x.thr.length).sum + ((l.drop i).map fun x=>x.thr.length).sum:=by
  rw [← List.sum_append,← List.map_append,List.take_append_drop]
 omega
end Go.Proofs.YtiheggkkgbfndaaGreatDoor
namespace Go.Proofs.YtiheggkkgbfndaaGreatDoor
open Go.RowKit Go.Joins Go.ChangeShapes Go.WideShapes Go.ChangeAt Go.Deep
set_option linter.unusedVariables false
set_option linter.unusedSimpArgs false
set_option maxRecDepth 100000

section
variable {H:Type} {enc:TypeId × Value→H} {w:World} {base:Nat} {spare:Nat→Bool} {held:Bool}

end


instance:Inhabited Reg:=⟨⟨0,0⟩⟩
end Go.Proofs.YtiheggkkgbfndaaGreatDoor
