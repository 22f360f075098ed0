/- The walk of (*book).next, whatever comes. -/
import Derived.Test.YtffjcojehiblnaaDoorHw8
namespace Go.Proofs.YtffjcojehiblnaaDoor
open Go.RowKit Go.Joins Go.ChangeShapes Go.WideShapes Go.Deep
set_option linter.unusedVariables false
set_option linter.unusedSimpArgs false
set_option maxRecDepth 100000

theorem next_any (e : Ev) {s base : Nat} {w : World} {lv : Value} {b : Book} {l : List TxM} (h : BookAt w base s lv b l) (hd : b.done ≤ 4611686018427387904) (hp : b.pub ≤ 4611686018427387904) (hl : (b.l.length + 1) * 8 ≤ 140737488355328) (hst : ∀ t ∈ b.l, (t.steps.length + 1) * 152 ≤ 140737488355328) :
    Calls Tryd.prog 27 #[.pointer (some ⟨s, 0, none⟩), .agg (evcs e)] w (NPost w base s (nextF b e)) := by
  unfold nextF
  by_cases c1 : e.at_ < b.at_
  · rw [if_pos c1]
    exact next_low e h c1
  rw [if_neg c1]
  by_cases k7 : e.kind = 7
  · rw [if_pos k7]
    by_cases c2 : e.tx = b.l.length
    · rw [if_neg (by simpa using c2)]
      exact next_open e h c1 k7 c2 hl
    · rw [if_pos c2]
      exact next_open0 e h c1 k7 c2
  rw [if_neg k7]
  by_cases hx : 0 ≤ e.tx ∧ e.tx.toNat < b.l.length
  · rw [dif_pos hx]
    have ct : b.l[e.tx.toNat]? = some (b.l[e.tx.toNat]'hx.2) := List.getElem?_eq_getElem hx.2
    have hst' : ∀ t, b.l[e.tx.toNat]? = some t → (t.steps.length + 1) * 152 ≤ 140737488355328 := fun t ht => hst t (List.mem_of_getElem? ht)
    unfold nextT
    by_cases ho : (b.l[e.tx.toNat]'hx.2).ov = true ∨ (b.l[e.tx.toNat]'hx.2).thread ≠ e.thread
    · rw [if_pos ho]
      exact next_none e h c1 k7 (by unfold ofF; rw [dif_pos hx, if_pos ho])
    rw [if_neg ho]
    have hof : ofF b e = some e.tx.toNat := by unfold ofF; rw [dif_pos hx, if_neg ho]
    by_cases k1 : e.kind = 1
    · rw [if_pos k1]
      cases hbg : (b.l[e.tx.toNat]'hx.2).bg with
      | true => exact next_begun0 e h c1 k7 hof ct k1 hbg
      | false => exact next_begun e h c1 k7 hof ct k1 hbg
    · rw [if_neg k1]
      cases hbg : (b.l[e.tx.toNat]'hx.2).bg with
      | true =>
        simp only [if_true]
        cases hgo : goesF (b.l[e.tx.toNat]'hx.2) b.pub b.done e with
        | none => exact next_goes0 e h c1 k7 hof ct hd hp hst' k1 hbg hgo
        | some z => exact next_goes1 e h c1 k7 hof ct hd hp hst' k1 hbg hgo
      | false => exact next_dead e h c1 k7 hof ct k1 hbg
  · rw [dif_neg hx]
    exact next_none e h c1 k7 (by unfold ofF; rw [dif_neg hx])
end Go.Proofs.YtffjcojehiblnaaDoor
