/- The walk of (*book).goes: what may not come. -/
import Derived.Test.YtffjcojehiblnaaDoorHw1
namespace Go.Proofs.YtffjcojehiblnaaDoor
open Go.RowKit Go.Joins Go.ChangeShapes Go.WideShapes Go.Deep
set_option linter.unusedVariables false
set_option linter.unusedSimpArgs false
set_option maxRecDepth 100000

theorem wrap_small {a : Int} (h0 : -9223372036854775808 ≤ a) (h1 : a ≤ 9223372036854775807) : IntKind.i64.wrap a = a := IntWalk.i64_in _ ⟨h0, h1⟩

set_option maxHeartbeats 4000000 in
theorem goes_c0 (e : Ev) (s g : Nat) (w : World) (hk : e.kind = 5) (c0 : w.cell? ⟨g, 3, none⟩ = some (.int .i64 0)) :
    Calls Tryd.prog 44 #[.pointer (some ⟨s, 0, none⟩), .pointer (some ⟨g, 0, none⟩), .agg (evcs e)] w fun r w' => r = .returned (.bool false) ∧ Below w.heap.size w w' := by
  have v3 : (w.alloc (.cells (evcs e) 35)).cell? ⟨w.heap.size, 3, none⟩ = some (.int .i64 e.kind) := box_ev e w 3
  have d0 := old_ev e w c0
  have hk5 : decide (e.kind = 5) = true := by simp [hk]
  have hbel : Below w.heap.size w (w.alloc (.cells (evcs e) 35)) := by repeat (first | with_reducible exact Below.refl _ _ | with_reducible refine Below.drew ?_ | with_reducible refine below_drewN ?_ _ | ((with_reducible refine Below.alloc ?_ ?_ _); (rotate_left; focus (first | with_reducible exact Nat.le_refl _ | omega | (simp; done) | (simp; omega) | (simp [World.setCell]; done) | (simp [World.setCell]; omega)))) | ((with_reducible refine Below.setCell ?_ ?_ _); (rotate_left; focus (first | with_reducible exact Nat.le_refl _ | omega | (simp; done) | (simp; omega) | (simp [World.setCell]; done) | (simp [World.setCell]; omega)))))
  clear c0
  go_enter Tryd.func44, Tryd.ntmps44
  go_wp2_with fail
  generalize w.alloc (.cells (evcs e) 35) = W1 at *
  go_quiet (fail)
  go_wp2
  go_ret
  exact ⟨rfl, by first | exact hbel | exact below_drewN hbel _ | exact below_drewN (below_drewN hbel _) _⟩

set_option maxHeartbeats 4000000 in
theorem goes_c1 (e : Ev) (s g : Nat) (w : World) (st : Int) (hk : e.kind = 5) (h0 : ¬ st = 0) (h1 : ¬ e.stamp = st) (c0 : w.cell? ⟨g, 3, none⟩ = some (.int .i64 st)) :
    Calls Tryd.prog 44 #[.pointer (some ⟨s, 0, none⟩), .pointer (some ⟨g, 0, none⟩), .agg (evcs e)] w fun r w' => r = .returned (.bool false) ∧ Below w.heap.size w w' := by
  have v3 : (w.alloc (.cells (evcs e) 35)).cell? ⟨w.heap.size, 3, none⟩ = some (.int .i64 e.kind) := box_ev e w 3
  have v9 : (w.alloc (.cells (evcs e) 35)).cell? ⟨w.heap.size, 9, none⟩ = some (.int .i64 e.stamp) := box_ev e w 9
  have d0 := old_ev e w c0
  have hk5 : decide (e.kind = 5) = true := by simp [hk]
  have hs0 : decide (st = 0) = false := by simp [h0]
  have hs1 : decide (e.stamp = st) = false := by simp [h1]
  have hbel : Below w.heap.size w (w.alloc (.cells (evcs e) 35)) := by repeat (first | with_reducible exact Below.refl _ _ | with_reducible refine Below.drew ?_ | with_reducible refine below_drewN ?_ _ | ((with_reducible refine Below.alloc ?_ ?_ _); (rotate_left; focus (first | with_reducible exact Nat.le_refl _ | omega | (simp; done) | (simp; omega) | (simp [World.setCell]; done) | (simp [World.setCell]; omega)))) | ((with_reducible refine Below.setCell ?_ ?_ _); (rotate_left; focus (first | with_reducible exact Nat.le_refl _ | omega | (simp; done) | (simp; omega) | (simp [World.setCell]; done) | (simp [World.setCell]; omega)))))
  clear c0
  go_enter Tryd.func44, Tryd.ntmps44
  go_wp2_with fail
  generalize w.alloc (.cells (evcs e) 35) = W1 at *
  go_quiet (fail)
  go_wp2
  go_ret
  exact ⟨rfl, by first | exact hbel | exact below_drewN hbel _ | exact below_drewN (below_drewN hbel _) _⟩

set_option maxHeartbeats 4000000 in
theorem goes_c2 (e : Ev) (s g : Nat) (w : World) (st : Int) (done : Nat) (hd : done ≤ 4611686018427387904) (hk : e.kind = 5) (h0 : ¬ st = 0) (h1 : e.stamp = st) (h2 : ¬ st = (done : Int) + 1) (c0 : w.cell? ⟨g, 3, none⟩ = some (.int .i64 st)) (c1 : w.cell? ⟨s, 3, none⟩ = some (.int .i64 done)) :
    Calls Tryd.prog 44 #[.pointer (some ⟨s, 0, none⟩), .pointer (some ⟨g, 0, none⟩), .agg (evcs e)] w fun r w' => r = .returned (.bool false) ∧ Below w.heap.size w w' := by
  have v3 : (w.alloc (.cells (evcs e) 35)).cell? ⟨w.heap.size, 3, none⟩ = some (.int .i64 e.kind) := box_ev e w 3
  have v9 : (w.alloc (.cells (evcs e) 35)).cell? ⟨w.heap.size, 9, none⟩ = some (.int .i64 e.stamp) := box_ev e w 9
  have d0 := old_ev e w c0
  have d1 := old_ev e w c1
  have hk5 : decide (e.kind = 5) = true := by simp [hk]
  have hs0 : decide (st = 0) = false := by simp [h0]
  rw [h1] at v9
  have hwr : IntKind.i64.wrap ((done : Int) + 1) = (done : Int) + 1 := wrap_small (by omega) (by omega)
  have hb0 : (st == 0) = false := by simp [h0]
  have hb2 : (st != IntKind.i64.wrap ((done : Int) + 1)) = true := by rw [hwr]; simp [h2]
  have hbel : Below w.heap.size w (w.alloc (.cells (evcs e) 35)) := by repeat (first | with_reducible exact Below.refl _ _ | with_reducible refine Below.drew ?_ | with_reducible refine below_drewN ?_ _ | ((with_reducible refine Below.alloc ?_ ?_ _); (rotate_left; focus (first | with_reducible exact Nat.le_refl _ | omega | (simp; done) | (simp; omega) | (simp [World.setCell]; done) | (simp [World.setCell]; omega)))) | ((with_reducible refine Below.setCell ?_ ?_ _); (rotate_left; focus (first | with_reducible exact Nat.le_refl _ | omega | (simp; done) | (simp; omega) | (simp [World.setCell]; done) | (simp [World.setCell]; omega)))))
  clear c0 c1
  go_enter Tryd.func44, Tryd.ntmps44
  go_wp2_with fail
  generalize w.alloc (.cells (evcs e) 35) = W1 at *
  go_quiet (fail)
  go_wp2
  all_goals (try (exfalso; rename (_ = false ∧ _ = false) => hh; exact absurd hh.2 (by rw [hb2]; decide)))
  go_ret
  exact ⟨rfl, by first | exact hbel | exact below_drewN hbel _ | exact below_drewN (below_drewN hbel _) _⟩

set_option maxHeartbeats 4000000 in
theorem goes_pub (e : Ev) (s g : Nat) (w : World) (st : Int) (hk : ¬ e.kind = 5) (h0 : ¬ st = 0) (c0 : w.cell? ⟨g, 3, none⟩ = some (.int .i64 st)) :
    Calls Tryd.prog 44 #[.pointer (some ⟨s, 0, none⟩), .pointer (some ⟨g, 0, none⟩), .agg (evcs e)] w fun r w' => r = .returned (.bool false) ∧ Below w.heap.size w w' := by
  have v3 : (w.alloc (.cells (evcs e) 35)).cell? ⟨w.heap.size, 3, none⟩ = some (.int .i64 e.kind) := box_ev e w 3
  have d0 := old_ev e w c0
  have hk5 : decide (e.kind = 5) = false := by simp [hk]
  have hs0 : decide (st = 0) = false := by simp [h0]
  have hbel : Below w.heap.size w (w.alloc (.cells (evcs e) 35)) := by repeat (first | with_reducible exact Below.refl _ _ | with_reducible refine Below.drew ?_ | with_reducible refine below_drewN ?_ _ | ((with_reducible refine Below.alloc ?_ ?_ _); (rotate_left; focus (first | with_reducible exact Nat.le_refl _ | omega | (simp; done) | (simp; omega) | (simp [World.setCell]; done) | (simp [World.setCell]; omega)))) | ((with_reducible refine Below.setCell ?_ ?_ _); (rotate_left; focus (first | with_reducible exact Nat.le_refl _ | omega | (simp; done) | (simp; omega) | (simp [World.setCell]; done) | (simp [World.setCell]; omega)))))
  clear c0
  go_enter Tryd.func44, Tryd.ntmps44
  go_wp2_with fail
  generalize w.alloc (.cells (evcs e) 35) = W1 at *
  go_wp2
  go_ret
  exact ⟨rfl, by first | exact hbel | exact below_drewN hbel _ | exact below_drewN (below_drewN hbel _) _⟩

set_option maxHeartbeats 4000000 in
theorem goes_cell0 (e : Ev) (s g : Nat) (w : World) (hk : e.kind = 2) (hc : e.cell < 0) (c0 : w.cell? ⟨g, 3, none⟩ = some (.int .i64 0)) :
    Calls Tryd.prog 44 #[.pointer (some ⟨s, 0, none⟩), .pointer (some ⟨g, 0, none⟩), .agg (evcs e)] w fun r w' => r = .returned (.bool false) ∧ Below w.heap.size w w' := by
  have v3 : (w.alloc (.cells (evcs e) 35)).cell? ⟨w.heap.size, 3, none⟩ = some (.int .i64 e.kind) := box_ev e w 3
  have v4 : (w.alloc (.cells (evcs e) 35)).cell? ⟨w.heap.size, 4, none⟩ = some (.int .i64 e.cell) := box_ev e w 4
  have d0 := old_ev e w c0
  rw [hk] at v3
  have hs1 : decide (e.cell < 0) = true := by simp [hc]
  have hbel : Below w.heap.size w (w.alloc (.cells (evcs e) 35)) := by repeat (first | with_reducible exact Below.refl _ _ | with_reducible refine Below.drew ?_ | with_reducible refine below_drewN ?_ _ | ((with_reducible refine Below.alloc ?_ ?_ _); (rotate_left; focus (first | with_reducible exact Nat.le_refl _ | omega | (simp; done) | (simp; omega) | (simp [World.setCell]; done) | (simp [World.setCell]; omega)))) | ((with_reducible refine Below.setCell ?_ ?_ _); (rotate_left; focus (first | with_reducible exact Nat.le_refl _ | omega | (simp; done) | (simp; omega) | (simp [World.setCell]; done) | (simp [World.setCell]; omega)))))
  clear c0
  go_enter Tryd.func44, Tryd.ntmps44
  go_wp2_with fail
  generalize w.alloc (.cells (evcs e) 35) = W1 at *
  go_wp2
  go_ret
  exact ⟨rfl, by first | exact hbel | exact below_drewN hbel _ | exact below_drewN (below_drewN hbel _) _⟩

set_option maxHeartbeats 4000000 in
theorem goes_cell1 (e : Ev) (s g : Nat) (w : World) (hk : e.kind = 2) (hc0 : ¬ e.cell < 0) (hc : 1024 ≤ e.cell) (c0 : w.cell? ⟨g, 3, none⟩ = some (.int .i64 0)) :
    Calls Tryd.prog 44 #[.pointer (some ⟨s, 0, none⟩), .pointer (some ⟨g, 0, none⟩), .agg (evcs e)] w fun r w' => r = .returned (.bool false) ∧ Below w.heap.size w w' := by
  have v3 : (w.alloc (.cells (evcs e) 35)).cell? ⟨w.heap.size, 3, none⟩ = some (.int .i64 e.kind) := box_ev e w 3
  have v4 : (w.alloc (.cells (evcs e) 35)).cell? ⟨w.heap.size, 4, none⟩ = some (.int .i64 e.cell) := box_ev e w 4
  have d0 := old_ev e w c0
  rw [hk] at v3
  have hs1 : decide (e.cell < 0) = false := by simp [hc0]
  have hs2 : decide (1024 ≤ e.cell) = true := by simp [hc]
  have hbel : Below w.heap.size w (w.alloc (.cells (evcs e) 35)) := by repeat (first | with_reducible exact Below.refl _ _ | with_reducible refine Below.drew ?_ | with_reducible refine below_drewN ?_ _ | ((with_reducible refine Below.alloc ?_ ?_ _); (rotate_left; focus (first | with_reducible exact Nat.le_refl _ | omega | (simp; done) | (simp; omega) | (simp [World.setCell]; done) | (simp [World.setCell]; omega)))) | ((with_reducible refine Below.setCell ?_ ?_ _); (rotate_left; focus (first | with_reducible exact Nat.le_refl _ | omega | (simp; done) | (simp; omega) | (simp [World.setCell]; done) | (simp [World.setCell]; omega)))))
  clear c0
  go_enter Tryd.func44, Tryd.ntmps44
  go_wp2_with fail
  generalize w.alloc (.cells (evcs e) 35) = W1 at *
  go_wp2
  go_ret
  exact ⟨rfl, by first | exact hbel | exact below_drewN hbel _ | exact below_drewN (below_drewN hbel _) _⟩

set_option maxHeartbeats 4000000 in
theorem goes_cell2 (e : Ev) (s g : Nat) (w : World) (hk : e.kind = 3) (hc : e.cell < 0) (c0 : w.cell? ⟨g, 3, none⟩ = some (.int .i64 0)) :
    Calls Tryd.prog 44 #[.pointer (some ⟨s, 0, none⟩), .pointer (some ⟨g, 0, none⟩), .agg (evcs e)] w fun r w' => r = .returned (.bool false) ∧ Below w.heap.size w w' := by
  have v3 : (w.alloc (.cells (evcs e) 35)).cell? ⟨w.heap.size, 3, none⟩ = some (.int .i64 e.kind) := box_ev e w 3
  have v4 : (w.alloc (.cells (evcs e) 35)).cell? ⟨w.heap.size, 4, none⟩ = some (.int .i64 e.cell) := box_ev e w 4
  have d0 := old_ev e w c0
  rw [hk] at v3
  have hs1 : decide (e.cell < 0) = true := by simp [hc]
  have hbel : Below w.heap.size w (w.alloc (.cells (evcs e) 35)) := by repeat (first | with_reducible exact Below.refl _ _ | with_reducible refine Below.drew ?_ | with_reducible refine below_drewN ?_ _ | ((with_reducible refine Below.alloc ?_ ?_ _); (rotate_left; focus (first | with_reducible exact Nat.le_refl _ | omega | (simp; done) | (simp; omega) | (simp [World.setCell]; done) | (simp [World.setCell]; omega)))) | ((with_reducible refine Below.setCell ?_ ?_ _); (rotate_left; focus (first | with_reducible exact Nat.le_refl _ | omega | (simp; done) | (simp; omega) | (simp [World.setCell]; done) | (simp [World.setCell]; omega)))))
  clear c0
  go_enter Tryd.func44, Tryd.ntmps44
  go_wp2_with fail
  generalize w.alloc (.cells (evcs e) 35) = W1 at *
  go_wp2
  go_ret
  exact ⟨rfl, by first | exact hbel | exact below_drewN hbel _ | exact below_drewN (below_drewN hbel _) _⟩

set_option maxHeartbeats 4000000 in
theorem goes_cell3 (e : Ev) (s g : Nat) (w : World) (hk : e.kind = 3) (hc0 : ¬ e.cell < 0) (hc : 1024 ≤ e.cell) (c0 : w.cell? ⟨g, 3, none⟩ = some (.int .i64 0)) :
    Calls Tryd.prog 44 #[.pointer (some ⟨s, 0, none⟩), .pointer (some ⟨g, 0, none⟩), .agg (evcs e)] w fun r w' => r = .returned (.bool false) ∧ Below w.heap.size w w' := by
  have v3 : (w.alloc (.cells (evcs e) 35)).cell? ⟨w.heap.size, 3, none⟩ = some (.int .i64 e.kind) := box_ev e w 3
  have v4 : (w.alloc (.cells (evcs e) 35)).cell? ⟨w.heap.size, 4, none⟩ = some (.int .i64 e.cell) := box_ev e w 4
  have d0 := old_ev e w c0
  rw [hk] at v3
  have hs1 : decide (e.cell < 0) = false := by simp [hc0]
  have hs2 : decide (1024 ≤ e.cell) = true := by simp [hc]
  have hbel : Below w.heap.size w (w.alloc (.cells (evcs e) 35)) := by repeat (first | with_reducible exact Below.refl _ _ | with_reducible refine Below.drew ?_ | with_reducible refine below_drewN ?_ _ | ((with_reducible refine Below.alloc ?_ ?_ _); (rotate_left; focus (first | with_reducible exact Nat.le_refl _ | omega | (simp; done) | (simp; omega) | (simp [World.setCell]; done) | (simp [World.setCell]; omega)))) | ((with_reducible refine Below.setCell ?_ ?_ _); (rotate_left; focus (first | with_reducible exact Nat.le_refl _ | omega | (simp; done) | (simp; omega) | (simp [World.setCell]; done) | (simp [World.setCell]; omega)))))
  clear c0
  go_enter Tryd.func44, Tryd.ntmps44
  go_wp2_with fail
  generalize w.alloc (.cells (evcs e) 35) = W1 at *
  go_wp2
  go_ret
  exact ⟨rfl, by first | exact hbel | exact below_drewN hbel _ | exact below_drewN (below_drewN hbel _) _⟩

set_option maxHeartbeats 4000000 in
theorem goes_stamp (e : Ev) (s g : Nat) (w : World) (pub : Nat) (hd : pub ≤ 4611686018427387904) (hk : e.kind = 4) (h2 : ¬ e.stamp = (pub : Int) + 1) (c0 : w.cell? ⟨g, 3, none⟩ = some (.int .i64 0)) (c1 : w.cell? ⟨s, 2, none⟩ = some (.int .i64 pub)) :
    Calls Tryd.prog 44 #[.pointer (some ⟨s, 0, none⟩), .pointer (some ⟨g, 0, none⟩), .agg (evcs e)] w fun r w' => r = .returned (.bool false) ∧ Below w.heap.size w w' := by
  have v3 : (w.alloc (.cells (evcs e) 35)).cell? ⟨w.heap.size, 3, none⟩ = some (.int .i64 e.kind) := box_ev e w 3
  have v9 : (w.alloc (.cells (evcs e) 35)).cell? ⟨w.heap.size, 9, none⟩ = some (.int .i64 e.stamp) := box_ev e w 9
  have d0 := old_ev e w c0
  have d1 := old_ev e w c1
  rw [hk] at v3
  have hwr : IntKind.i64.wrap ((pub : Int) + 1) = (pub : Int) + 1 := wrap_small (by omega) (by omega)
  have hs2 : decide (e.stamp = IntKind.i64.wrap ((pub : Int) + 1)) = false := by rw [hwr]; simp [h2]
  have hbel : Below w.heap.size w (w.alloc (.cells (evcs e) 35)) := by repeat (first | with_reducible exact Below.refl _ _ | with_reducible refine Below.drew ?_ | with_reducible refine below_drewN ?_ _ | ((with_reducible refine Below.alloc ?_ ?_ _); (rotate_left; focus (first | with_reducible exact Nat.le_refl _ | omega | (simp; done) | (simp; omega) | (simp [World.setCell]; done) | (simp [World.setCell]; omega)))) | ((with_reducible refine Below.setCell ?_ ?_ _); (rotate_left; focus (first | with_reducible exact Nat.le_refl _ | omega | (simp; done) | (simp; omega) | (simp [World.setCell]; done) | (simp [World.setCell]; omega)))))
  clear c0 c1
  go_enter Tryd.func44, Tryd.ntmps44
  go_wp2_with fail
  generalize w.alloc (.cells (evcs e) 35) = W1 at *
  go_wp2
  go_quiet (fail)
  go_wp2
  go_ret
  exact ⟨rfl, by first | exact hbel | exact below_drewN hbel _ | exact below_drewN (below_drewN hbel _) _⟩

set_option maxHeartbeats 4000000 in
theorem goes_other (e : Ev) (s g : Nat) (w : World) (k5 : ¬ e.kind = 5) (k2 : ¬ e.kind = 2) (k3 : ¬ e.kind = 3) (k4 : ¬ e.kind = 4) (k6 : ¬ e.kind = 6) (c0 : w.cell? ⟨g, 3, none⟩ = some (.int .i64 0)) :
    Calls Tryd.prog 44 #[.pointer (some ⟨s, 0, none⟩), .pointer (some ⟨g, 0, none⟩), .agg (evcs e)] w fun r w' => r = .returned (.bool false) ∧ Below w.heap.size w w' := by
  have v3 : (w.alloc (.cells (evcs e) 35)).cell? ⟨w.heap.size, 3, none⟩ = some (.int .i64 e.kind) := box_ev e w 3
  have d0 := old_ev e w c0
  have hk5 : decide (e.kind = 5) = false := by simp [k5]
  have hk2 : decide (e.kind = 2) = false := by simp [k2]
  have hk3 : decide (e.kind = 3) = false := by simp [k3]
  have hk4 : decide (e.kind = 4) = false := by simp [k4]
  have hk6 : decide (e.kind = 6) = false := by simp [k6]
  have hbel : Below w.heap.size w (w.alloc (.cells (evcs e) 35)) := by repeat (first | with_reducible exact Below.refl _ _ | with_reducible refine Below.drew ?_ | with_reducible refine below_drewN ?_ _ | ((with_reducible refine Below.alloc ?_ ?_ _); (rotate_left; focus (first | with_reducible exact Nat.le_refl _ | omega | (simp; done) | (simp; omega) | (simp [World.setCell]; done) | (simp [World.setCell]; omega)))) | ((with_reducible refine Below.setCell ?_ ?_ _); (rotate_left; focus (first | with_reducible exact Nat.le_refl _ | omega | (simp; done) | (simp; omega) | (simp [World.setCell]; done) | (simp [World.setCell]; omega)))))
  clear c0
  go_enter Tryd.func44, Tryd.ntmps44
  go_wp2_with fail
  generalize w.alloc (.cells (evcs e) 35) = W1 at *
  go_wp2
  go_ret
  exact ⟨rfl, by first | exact hbel | exact below_drewN hbel _ | exact below_drewN (below_drewN hbel _) _⟩
end Go.Proofs.YtffjcojehiblnaaDoor
