/- carouselref14: number. -/
import Derived.Test.YtiheggkkgbfndaaGreatDoorK20
import Derived.Test.YtiheggkkgbfndaaGreatDoorK04
import Derived.Test.YtiheggkkgbfndaaGreatDoorK17
import Derived.Test.YtiheggkkgbfndaaGreatDoorK19
namespace Go.Proofs.YtiheggkkgbfndaaGreatDoor
open Go.RowKit Go.Joins Go.ChangeShapes Go.WideShapes Go.Deep
set_option linter.unusedVariables false
set_option linter.unusedSimpArgs false
set_option maxRecDepth 100000
theorem labL_err {r : RSt} {l : List Tok} {y : Nat × Nat} (h : labL r l = .error y) : y.1 = 9 ∨ y.1 = 11 := by
 unfold labL at h
 split at h
 ·cases h
 ·split at h
  ·split at h
   ·injection h with h; subst h; exact .inl rfl
   ·split at h
    ·injection h with h; subst h; exact .inr rfl
    ·cases h
  ·cases h
end Go.Proofs.YtiheggkkgbfndaaGreatDoor
