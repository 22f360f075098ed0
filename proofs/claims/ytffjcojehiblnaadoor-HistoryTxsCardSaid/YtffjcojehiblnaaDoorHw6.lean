/- The walk of (*book).goes, whatever comes. -/
import Derived.Test.YtffjcojehiblnaaDoorHw5
namespace Go.Proofs.YtffjcojehiblnaaDoor
open Go.RowKit Go.Joins Go.ChangeShapes Go.WideShapes Go.Deep
set_option linter.unusedVariables false
set_option linter.unusedSimpArgs false
set_option maxRecDepth 100000

theorem goes_any (e : Ev) {s base : Nat} {w : World} {lv : Value} {at_ : Int} {pub done : Nat} {x : TxM} (hB : Blk w s 76 #[lv, .int .i64 at_, .int .i64 pub, .int .i64 done]) (hT : TxAt w base x) (hd : done ≤ 4611686018427387904) (hp : pub ≤ 4611686018427387904) (hst : (x.t.steps.length + 1) * 152 ≤ 140737488355328) :
    Calls Tryd.prog 44 #[.pointer (some ⟨s, 0, none⟩), .pointer (some ⟨x.g, 0, none⟩), .agg (evcs e)] w (fun r w' => match goesF x.t pub done e with
      | none => r = .returned (.bool false) ∧ Below w.heap.size w w'
      | some (t', p', d') => GPost w base s lv at_ x t' p' d' r w') := by
  have c3 : w.cell? ⟨x.g, 3, none⟩ = some (.int .i64 x.t.stamp) := (hT.blk.cell 3).trans rfl
  have y2 : w.cell? ⟨s, 2, none⟩ = some (.int .i64 pub) := (hB.cell 2).trans rfl
  have y3 : w.cell? ⟨s, 3, none⟩ = some (.int .i64 done) := (hB.cell 3).trans rfl
  unfold goesF
  by_cases k5 : e.kind = 5
  · rw [if_pos k5]
    by_cases h0 : x.t.stamp = 0
    · rw [if_pos (.inl h0)]
      rw [h0] at c3
      exact goes_c0 e s x.g w k5 c3
    by_cases h1 : e.stamp = x.t.stamp
    · by_cases h2 : x.t.stamp = (done : Int) + 1
      · rw [if_neg (by rintro (h | h | h); exact h0 h; exact h h1; exact h (h1.trans h2))]
        exact goes_done e hB hT hd hp k5 h0 h1 h2
      · rw [if_pos (.inr (.inr (by rw [h1]; exact h2)))]
        exact goes_c2 e s x.g w x.t.stamp done hd k5 h0 h1 h2 c3 y3
    · rw [if_pos (.inr (.inl h1))]
      exact goes_c1 e s x.g w x.t.stamp k5 h0 h1 c3
  rw [if_neg k5]
  by_cases h0 : x.t.stamp = 0
  · rw [if_neg (by simpa using h0)]
    have c30 := c3
    rw [h0] at c30
    by_cases k2 : e.kind = 2
    · rw [if_pos (.inl k2)]
      by_cases d0 : e.cell < 0
      · rw [if_pos (.inl d0)]
        exact goes_cell0 e s x.g w k2 d0 c30
      by_cases d1 : 1024 ≤ e.cell
      · rw [if_pos (.inr d1)]
        exact goes_cell1 e s x.g w k2 d0 d1 c30
      rw [if_neg (by rintro (h | h); exact d0 h; exact d1 h), if_pos k2]
      exact goes_read e hB hT hd hp k2 h0 (by omega) (by omega) hst
    by_cases k3 : e.kind = 3
    · rw [if_pos (.inr k3)]
      by_cases d0 : e.cell < 0
      · rw [if_pos (.inl d0)]
        exact goes_cell2 e s x.g w k3 d0 c30
      by_cases d1 : 1024 ≤ e.cell
      · rw [if_pos (.inr d1)]
        exact goes_cell3 e s x.g w k3 d0 d1 c30
      rw [if_neg (by rintro (h | h); exact d0 h; exact d1 h), if_neg k2]
      exact goes_wrote e hB hT hd hp k3 h0 (by omega) (by omega) hst
    rw [if_neg (by rintro (h | h); exact k2 h; exact k3 h)]
    by_cases k4 : e.kind = 4
    · rw [if_pos k4]
      by_cases h2 : e.stamp = (pub : Int) + 1
      · rw [if_neg (by simpa using h2)]
        exact goes_publish e hB hT hd hp k4 h0 h2
      · rw [if_pos h2]
        exact goes_stamp e s x.g w pub hp k4 h2 c30 y2
    rw [if_neg k4]
    by_cases k6 : e.kind = 6
    · rw [if_pos k6]
      exact goes_end e hB hT hd hp k6 h0
    rw [if_neg k6]
    exact goes_other e s x.g w k5 k2 k3 k4 k6 c30
  · rw [if_pos h0]
    exact goes_pub e s x.g w x.t.stamp k5 h0 c3
end Go.Proofs.YtffjcojehiblnaaDoor
