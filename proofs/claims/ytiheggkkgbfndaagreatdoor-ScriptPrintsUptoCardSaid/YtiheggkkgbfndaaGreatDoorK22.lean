/- carouselref14: lists of lists of tokens in memory. -/
import Derived.Test.YtiheggkkgbfndaaGreatDoorK20
import Derived.BigRegion
import Derived.Deep.CutRange
import Derived.Laws.Concat
import Derived.Test.YtiheggkkgbfndaaGreatDoorK10
import Derived.StillTailTactics
import Derived.Test.YtiheggkkgbfndaaGreatDoorK21
namespace Go.Proofs.YtiheggkkgbfndaaGreatDoor
open Go.RowKit Go.Joins Go.ChangeShapes Go.WideShapes Go.Deep
set_option linter.unusedVariables false
set_option linter.unusedSimpArgs false
set_option maxRecDepth 100000
theorem endL_err {r : RSt} {t nm : Tok} {c : Nat} {o : Int} {rest : List Tok} {y : Nat × Nat} (h : endL r t c o nm rest = .error y) : y.1 = 9 ∨ y.1 = 2 := by
 unfold endL at h
 split at h
 ·injection h with h; subst h; exact .inl rfl
 ·split at h
  ·injection h with h; subst h; exact .inr rfl
  ·cases h
theorem insL_err {r : RSt} {t : Tok} {rest : List Tok} {y : Nat × Nat} (h : insL r t rest = .error y) : y.1 = 9 ∨ y.1 = 2 ∨ y.1 = 12 := by
 unfold insL at h
 split at h
 ·injection h with h; subst h; exact .inl rfl
 ·split at h
  ·split at h
   ·injection h with h; subst h; exact .inl rfl
   ·rename_i u rest'
    split at h
    ·rename_i e he
     injection h with h
     subst h
     unfold oprL at he
     split at he
     ·split at he
      ·cases he
      ·injection he with he; subst he; exact .inr (.inr rfl)
     ·split at he
      ·cases he
      ·injection he with he; subst he; exact .inl rfl
    ·rcases endL_err h with h | h
     ·exact .inl h
     ·exact .inr (.inl h)
  ·rcases endL_err h with h | h
   ·exact .inl h
   ·exact .inr (.inl h)
theorem lineL_err {r : RSt} {l : List Tok} {y : Nat × Nat} (h : lineL r l = .error y) : y.1 = 9 ∨ y.1 = 2 ∨ y.1 = 12 ∨ y.1 = 11 := by
 rw [lineL_labL] at h
 cases hx : labL r l with
 | error e =>
  rw [hx] at h
  injection h with h
  subst h
  rcases labL_err hx with h | h
  ·exact .inl h
  ·exact .inr (.inr (.inr h))
 | ok x =>
  obtain ⟨l', r'⟩ := x
  rw [hx] at h
  cases l' with
  | nil => cases h
  | cons t rest =>
   rcases insL_err h with h | h | h
   ·exact .inl h
   ·exact .inr (.inl h)
   ·exact .inr (.inr (.inl h))
end Go.Proofs.YtiheggkkgbfndaaGreatDoor
