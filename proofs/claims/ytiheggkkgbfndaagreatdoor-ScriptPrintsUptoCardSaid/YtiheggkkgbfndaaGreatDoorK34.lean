/- carouselref24.Parse. -/
import Derived.Test.YtiheggkkgbfndaaGreatDoorK32
import Derived.Test.YtiheggkkgbfndaaGreatDoorK30
import Derived.Test.YtiheggkkgbfndaaGreatDoorK31
import Derived.Test.YtiheggkkgbfndaaGreatDoorK33
namespace Go.Proofs.YtiheggkkgbfndaaGreatDoor
open Go.RowKit Go.Joins Go.ChangeShapes Go.WideShapes Go.Deep
set_option linter.unusedVariables false
set_option linter.unusedSimpArgs false
set_option maxRecDepth 100000

def nilC : Value := .slice none 0 0
theorem SetAt.lower {B B' : Nat} {w : World} {x : SSt} {rv pv tv lv : Value} {T : List (Value × List (PJob × Value))} {L : List (PLine × Value)} (h : SetAt B w x rv pv tv lv T L) (hB : B' ≤ B) : SetAt B' w x rv pv tv lv T L :=
 ⟨own_lower h.regs hB, own_lower h.progs hB, own_lower h.thr hB, ⟨fun y hy => own_lower (h.jobs.own y hy) hB, h.jobs.ne⟩, ⟨fun y hy => own_lower (h.args.own y hy) hB, h.args.ne⟩, h.thrEq, own_lower h.lines hB, ⟨fun y hy => own_lower (h.steps.own y hy) hB, h.steps.ne⟩, h.linesEq⟩
theorem SetAt.drew {B : Nat} {w : World} {x : SSt} {rv pv tv lv : Value} {T : List (Value × List (PJob × Value))} {L : List (PLine × Value)} (h : SetAt B w x rv pv tv lv T L) : SetAt B w.drew x rv pv tv lv T L :=
 ⟨own_drewN (k := 1) h.regs, own_drewN (k := 1) h.progs, own_drewN (k := 1) h.thr, ⟨fun y hy => own_drewN (k := 1) (h.jobs.own y hy), h.jobs.ne⟩, ⟨fun y hy => own_drewN (k := 1) (h.args.own y hy), h.args.ne⟩, h.thrEq, own_drewN (k := 1) h.lines, ⟨fun y hy => own_drewN (k := 1) (h.steps.own y hy), h.steps.ne⟩, h.linesEq⟩
end Go.Proofs.YtiheggkkgbfndaaGreatDoor
