/- slices.Sort at two ints, 0 and 1 in either order. -/
import Derived.Test.YtffjcojehiblnaaDoorHk9
namespace Go.Proofs.YtffjcojehiblnaaDoor
open Go.RowKit Go.Joins Go.ChangeShapes Go.WideShapes Go.Deep
set_option linter.unusedVariables false
set_option linter.unusedSimpArgs false
set_option maxRecDepth 100000

theorem less_any (a b : Int) (w : World) : Calls Tryd.prog 78 #[.int .i64 a, .int .i64 b] w fun r w' => r = .returned (.bool (decide (a < b))) ∧ w' = w := by
  go_enter Tryd.func78, Tryd.ntmps78
  go_wp2
  go_ret
  exact ⟨rfl, rfl⟩
set_option maxHeartbeats 1000000 in
theorem iso_right {w : World} {g c : Nat} (h0 : w.cell? ⟨g, 0, none⟩ = some (.int .i64 0)) (h1 : w.cell? ⟨g, 1, none⟩ = some (.int .i64 1)) :
    Calls Tryd.prog 72 #[.slice (some ⟨g, 0, none⟩) 2 c, .int .i64 0, .int .i64 2] w fun r w' => r = .returned (.tuple #[]) ∧ w'.cell? ⟨g, 0, none⟩ = some (.int .i64 0) ∧ w'.cell? ⟨g, 1, none⟩ = some (.int .i64 1) ∧ ∀ B, B ≤ g → Below B w w' := by
  have HL : Hid (∀ W, Calls Tryd.prog 78 #[.int .i64 1, .int .i64 0] W fun r w' => r = .returned (.bool false) ∧ w' = W) := Lib.hid (less_any 1 0)
  go_enter Tryd.func72, Tryd.ntmps72
  go_wp2_with fail
  refine wp_loop_rounds 2 ?_
  rw [rounds_succ]
  go_wp2_with fail
  refine wp_loop_rounds 1 ?_
  rw [rounds_succ]
  go_wp2_with fail
  go_quiet (exact Calls.quiet_of_same (HL.out _))
  go_wp2_with fail
  rw [rounds_succ]
  go_wp2_with fail
  go_end0
  exact ⟨rfl, h0, h1, fun B _ => below_drewN (Below.refl _ _) _⟩
set_option maxHeartbeats 1000000 in
theorem iso_wrong {w : World} {g c : Nat} {cs : Array Value} (hG : Blk w g 3 cs) (e0 : cs[0]? = some (.int .i64 1)) (e1 : cs[1]? = some (.int .i64 0)) :
    Calls Tryd.prog 72 #[.slice (some ⟨g, 0, none⟩) 2 c, .int .i64 0, .int .i64 2] w fun r w' => r = .returned (.tuple #[]) ∧ w'.cell? ⟨g, 0, none⟩ = some (.int .i64 0) ∧ w'.cell? ⟨g, 1, none⟩ = some (.int .i64 1) ∧ ∀ B, B ≤ g → Below B w w' := by
  have h0 : w.cell? ⟨g, 0, none⟩ = some (.int .i64 1) := (hG.cell 0).trans e0
  have h1 : w.cell? ⟨g, 1, none⟩ = some (.int .i64 0) := (hG.cell 1).trans e1
  have hf : ∀ i, w.frozen? ⟨g, i, none⟩ = false := hG.frozen
  have HG := Lib.hid hG
  have HE := Lib.hid (And.intro e0 e1)
  clear hG e0 e1
  have HL : Hid (∀ W, Calls Tryd.prog 78 #[.int .i64 0, .int .i64 1] W fun r w' => r = .returned (.bool true) ∧ w' = W) := Lib.hid (less_any 0 1)
  go_enter Tryd.func72, Tryd.ntmps72
  go_wp2_with fail
  refine wp_loop_rounds 2 ?_
  rw [rounds_succ]
  go_wp2_with fail
  refine wp_loop_rounds 2 ?_
  rw [rounds_succ]
  go_wp2_with fail
  go_quiet (exact Calls.quiet_of_same (HL.out _))
  go_wp2_with fail
  refine wp_world fun W2 hW2 => ?_
  have q0 : W2.cell? ⟨g, 0, none⟩ = some (.int .i64 1) := by rw [hW2]; exact h0
  have q1 : W2.cell? ⟨g, 1, none⟩ = some (.int .i64 0) := by rw [hW2]; exact h1
  have qf : ∀ i, W2.frozen? ⟨g, i, none⟩ = false := fun i => by rw [hW2]; exact hf i
  have HB : Hid (∀ B, Below B w W2) := Lib.hid fun B => by rw [hW2]; exact below_drewN (Below.refl _ _) _
  have HG2 : Hid (Blk W2 g 3 cs) := Lib.hid (by rw [hW2]; exact HG.out.drewN _)
  clear hW2 h0 h1 hf HL HG
  go_region
  go_wp2_with fail
  rw [rounds_succ]
  go_wp2_with fail
  go_quiet (fail)
  go_wp2_with fail
  rw [rounds_succ]
  go_wp2_with fail
  go_end0
  have l0 : 1 < cs.size := by
    have h := HE.out.2
    rcases Nat.lt_or_ge 1 cs.size with hh | hh
    · exact hh
    · rw [Array.getElem?_eq_none hh] at h; simp at h
  refine ⟨rfl, ((((HG2.out.set_ 1 (.int .i64 1)).set_ 0 (.int .i64 0)).drewN _).cell 0).trans (by rw [Array.getElem?_setIfInBounds, if_pos rfl, if_pos (by rw [Array.size_setIfInBounds]; omega)]), ((((HG2.out.set_ 1 (.int .i64 1)).set_ 0 (.int .i64 0)).drewN _).cell 1).trans (by rw [Array.getElem?_setIfInBounds, Array.getElem?_setIfInBounds]; simp [l0]), fun B hB => below_drewN (Below.setCell (Below.setCell (HB.out B) hB _) hB _) _⟩
/-- slices.Sort at two ints, 0 and 1 in either order. -/
theorem sort_ints {w : World} {g c : Nat} {a b : Int} {cs : Array Value} (hB : Blk w g 3 cs) (e0 : cs[0]? = some (.int .i64 a)) (e1 : cs[1]? = some (.int .i64 b)) (hab : a = 0 ∧ b = 1 ∨ a = 1 ∧ b = 0) :
    Calls Tryd.prog 51 #[.slice (some ⟨g, 0, none⟩) 2 c] w fun r w' => r = .returned (.tuple #[]) ∧ w'.cell? ⟨g, 0, none⟩ = some (.int .i64 0) ∧ w'.cell? ⟨g, 1, none⟩ = some (.int .i64 1) ∧ ∀ B, B ≤ g → Below B w w' := by
  have HI : Hid (Calls Tryd.prog 72 #[.slice (some ⟨g, 0, none⟩) 2 c, .int .i64 0, .int .i64 2] w fun r w' => r = .returned (.tuple #[]) ∧ w'.cell? ⟨g, 0, none⟩ = some (.int .i64 0) ∧ w'.cell? ⟨g, 1, none⟩ = some (.int .i64 1) ∧ ∀ B, B ≤ g → Below B w w') := by
    refine Lib.hid ?_
    rcases hab with ⟨rfl, rfl⟩ | ⟨rfl, rfl⟩
    · exact iso_right ((hB.cell 0).trans e0) ((hB.cell 1).trans e1)
    · exact iso_wrong hB e0 e1
  clear hB hab e0 e1
  have HPD : Hid (∀ li : Int, Calls Tryd.prog 65 #[.slice (some ⟨g, 0, none⟩) 2 c, .int .i64 0, .int .i64 2, .int .i64 li] w fun r w' => r = .returned (.tuple #[]) ∧ w'.cell? ⟨g, 0, none⟩ = some (.int .i64 0) ∧ w'.cell? ⟨g, 1, none⟩ = some (.int .i64 1) ∧ ∀ B, B ≤ g → Below B w w') := by
    refine Lib.hid fun li => ?_
    go_enter Tryd.func65, Tryd.ntmps65
    go_wp2_with fail
    refine wp_loop_rounds 1 ?_
    rw [rounds_succ]
    go_wp2_with (go_at_call 72; refine HI.out.mono ?_; rintro r w1 ⟨hr, hw1⟩; subst hr)
    refine bodyPost_ret (results_none rfl _ _ _) rfl ?_
    exact ⟨rfl, hw1⟩
  have HLEN : Hid (∀ W, Calls Tryd.prog 41 #[.int .u64 2] W fun r w' => r = .returned (.int .i64 2) ∧ w' = W) := by
    refine Lib.hid fun W => ?_
    go_enter Tryd.func41, Tryd.ntmps41
    go_wp2
    go_ret
    exact ⟨by kernel_rfl, rfl⟩
  go_enter Tryd.func51, Tryd.ntmps51
  go_wp2_with (first
    | (go_at_call 41; refine (HLEN.out _).mono ?_; rintro r w1 ⟨hr, hw⟩; subst hr; subst hw)
    | (go_at_call 65; refine (HPD.out _).mono ?_; rintro r w1 ⟨hr, hw1⟩; subst hr))
  go_end0
  exact ⟨rfl, hw1⟩
end Go.Proofs.YtffjcojehiblnaaDoor
