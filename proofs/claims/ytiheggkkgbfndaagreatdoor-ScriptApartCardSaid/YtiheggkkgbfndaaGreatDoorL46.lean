/- carousellaw24: ScriptBack, walked. -/
import Derived.Test.YtiheggkkgbfndaaGreatDoorL45
namespace Go.Proofs.YtiheggkkgbfndaaGreatDoor
open Go.RowKit Go.Joins Go.ChangeShapes Go.WideShapes Go.Deep
set_option linter.unusedVariables false
set_option linter.unusedSimpArgs false
set_option maxRecDepth 100000

end Go.Proofs.YtiheggkkgbfndaaGreatDoor
