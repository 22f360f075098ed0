/- The aux blocks of a machine lie in the heap. -/
import Derived.Test.YtjggcidaolnmbaaDm
namespace Go.Proofs.Ytjggcidaolnmbaa
open Go.RowKit Go.Joins Go.ChangeShapes Go.WideShapes Go.Deep
set_option linter.unusedVariables false
theorem MIs.bound {w : World} {b : Nat} {s : DS} {S : Nat → Prop} (h : MIs w b s S) : MIs w b s (fun g => S g ∧ g < w.heap.size) := by
  obtain ⟨tv, nv, h1, h2, h3⟩ := h
  refine ⟨tv, nv, h1, ?_, ?_⟩
  · rcases h2 with h | ⟨g, off, cap, cs, h1, h2, h3, h4, h5, h6⟩
    · exact .inl h
    · exact .inr ⟨g, off, cap, cs, h1, h2, h3, h4, ⟨h5, h4.lt⟩, h6⟩
  · cases hth : s.thn with
    | fin x =>
      rw [hth] at h3
      obtain ⟨g, h1, h2, h3⟩ := h3
      exact ⟨g, h1, ⟨h2, h3.lt⟩, h3⟩
    | _ => rw [hth] at h3; exact h3

end Go.Proofs.Ytjggcidaolnmbaa
