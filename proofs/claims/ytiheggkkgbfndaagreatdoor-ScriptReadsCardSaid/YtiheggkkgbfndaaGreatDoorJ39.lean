/- A configuration as plain data; what place.Check, place.Size, and the document's Check and Size do. -/
import Derived.Test.YtiheggkkgbfndaaGreatDoorJ01
import Derived.Test.YtiheggkkgbfndaaGreatDoorJ38
import Derived.BigQuiet
import Derived.Deep.QuietTactic
import Derived.Deep.DeepMust
import Derived.Deep.RegionWith
import Derived.Deep.LoopGhost
namespace Go.Proofs.YtiheggkkgbfndaaGreatDoor
open Go.RowKit Go.Joins Go.ChangeShapes Go.WideShapes Go.Deep
set_option linter.unusedVariables false
set_option linter.unusedSimpArgs false
set_option maxRecDepth 100000
def Reg.cells (r : Reg) : List Value := [.int .i64 r.kind, .int .i64 r.cap]
def sizeI (r : Reg) : Int := if r.kind = 1 then r.cap else if r.kind = 2 then r.cap + 2 else if r.kind = 3 then 3 * r.cap + 1 else 2 * r.cap + 3
def checkF (c : Cfg) (l : List Reg) : Int := if cfgOk c l then 0 else 13

theorem within_any (n a b : Int) (w : World) : Calls Tryz.prog 47 #[.int .i64 n, .int .i64 a, .int .i64 b] w fun e w' => e = .returned (.bool (decide (a ≤ n ∧ n ≤ b))) ∧ w = w' := by
 by_cases h1 : a ≤ n
 ·by_cases h2 : n ≤ b
  ·have hr : decide (a ≤ n ∧ n ≤ b) = true := by simp [h1, h2]
   rw [hr]
   go_enter Tryz.func47, Tryz.ntmps47
   go_wp2
   go_ret
   exact ⟨rfl, rfl⟩
  ·have hr : decide (a ≤ n ∧ n ≤ b) = false := by simp [h2]
   rw [hr]
   have e2 : decide (n ≤ b) = false := by simp [h2]
   clear hr
   go_enter Tryz.func47, Tryz.ntmps47
   go_wp2
   go_ret
   exact ⟨rfl, rfl⟩
 ·have hr : decide (a ≤ n ∧ n ≤ b) = false := by simp [h1]
  rw [hr]
  have e1 : decide (a ≤ n) = false := by simp [h1]
  clear hr
  go_enter Tryz.func47, Tryz.ntmps47
  go_wp2
  go_ret
  exact ⟨rfl, rfl⟩
theorem within64_any (n a b : Int) (w : World) : Calls Tryz.prog 48 #[.int .i64 n, .int .i64 a, .int .i64 b] w fun e w' => e = .returned (.bool (decide (a ≤ n ∧ n ≤ b))) ∧ w = w' := by
 by_cases h1 : a ≤ n
 ·by_cases h2 : n ≤ b
  ·have hr : decide (a ≤ n ∧ n ≤ b) = true := by simp [h1, h2]
   rw [hr]
   go_enter Tryz.func48, Tryz.ntmps48
   go_wp2
   go_ret
   exact ⟨rfl, rfl⟩
  ·have hr : decide (a ≤ n ∧ n ≤ b) = false := by simp [h2]
   rw [hr]
   have e2 : decide (n ≤ b) = false := by simp [h2]
   clear hr
   go_enter Tryz.func48, Tryz.ntmps48
   go_wp2
   go_ret
   exact ⟨rfl, rfl⟩
 ·have hr : decide (a ≤ n ∧ n ≤ b) = false := by simp [h1]
  rw [hr]
  have e1 : decide (a ≤ n) = false := by simp [h1]
  clear hr
  go_enter Tryz.func48, Tryz.ntmps48
  go_wp2
  go_ret
  exact ⟨rfl, rfl⟩

theorem csize_any (m : Int) (w : World) (h0 : 0 ≤ m) (h1 : m ≤ 16) : Calls Tryz.prog 82 #[.int .i64 m] w fun e w' => e = .returned (.int .i64 (m)) ∧ w = w' := by
 have g1 : decide (m < 0) = false := by simp; omega
 have g2 : decide (16 < m) = false := by simp; omega
 go_enter Tryz.func82, Tryz.ntmps82
 go_wp2
 go_ret
 exact ⟨rfl, rfl⟩
theorem qsize_any (m : Int) (w : World) (h0 : 0 ≤ m) (h1 : m ≤ 16) : Calls Tryz.prog 83 #[.int .i64 m] w fun e w' => e = .returned (.int .i64 (m + 2)) ∧ w = w' := by
 have g1 : decide (m < 0) = false := by simp; omega
 have g2 : decide (16 < m) = false := by simp; omega
 go_enter Tryz.func83, Tryz.ntmps83
 go_wp2
 go_ret
 exact ⟨rfl, rfl⟩
theorem dsize_any (m : Int) (w : World) (h0 : 0 ≤ m) (h1 : m ≤ 16) : Calls Tryz.prog 84 #[.int .i64 m] w fun e w' => e = .returned (.int .i64 (3 * m + 1)) ∧ w = w' := by
 have g1 : decide (m < 0) = false := by simp; omega
 have g2 : decide (16 < m) = false := by simp; omega
 go_enter Tryz.func84, Tryz.ntmps84
 go_wp2
 go_ret
 exact ⟨rfl, rfl⟩
theorem hsize_any (m : Int) (w : World) (h0 : 0 ≤ m) (h1 : m ≤ 16) : Calls Tryz.prog 85 #[.int .i64 m] w fun e w' => e = .returned (.int .i64 (2 * m + 3)) ∧ w = w' := by
 have g1 : decide (m < 0) = false := by simp; omega
 have g2 : decide (16 < m) = false := by simp; omega
 go_enter Tryz.func85, Tryz.ntmps85
 go_wp2
 go_ret
 exact ⟨rfl, rfl⟩
theorem right_any (m : Int) (w : World) : Calls Tryz.prog 90 #[.int .i64 m] w fun e w' => e = .returned (.bool (decide (0 ≤ m ∧ m ≤ 16))) ∧ w = w' := by
 by_cases h1 : 0 ≤ m
 ·by_cases h2 : m ≤ 16
  ·have hr : decide (0 ≤ m ∧ m ≤ 16) = true := by simp [h1, h2]
   rw [hr]
   go_enter Tryz.func90, Tryz.ntmps90
   go_wp2
   go_ret
   exact ⟨rfl, rfl⟩
  ·have hr : decide (0 ≤ m ∧ m ≤ 16) = false := by simp [h2]
   rw [hr]
   have e2 : decide (m ≤ 16) = false := by simp [h2]
   clear hr
   go_enter Tryz.func90, Tryz.ntmps90
   go_wp2
   go_ret
   exact ⟨rfl, rfl⟩
 ·have hr : decide (0 ≤ m ∧ m ≤ 16) = false := by simp [h1]
  rw [hr]
  have e1 : decide (0 ≤ m) = false := by simp [h1]
  clear hr
  go_enter Tryz.func90, Tryz.ntmps90
  go_wp2
  go_ret
  exact ⟨rfl, rfl⟩

theorem r15size_any (m : Int) (w : World) (h0 : 0 ≤ m) (h1 : m ≤ 16) : Calls Tryz.prog 91 #[.int .i64 m] w fun e w' => e = .returned (.int .i64 (m)) ∧ w = w' := by
 have em : decide (0 ≤ m ∧ m ≤ 16) = true := by simp [h0, h1]
 have HR := right_any m
 rw [em] at HR
 clear em
 go_enter Tryz.func91, Tryz.ntmps91
 go_wp2_with fail
 refine (HR _).mono ?_
 rintro e w2 ⟨rfl, rfl⟩
 go_wp2_with fail
 go_ret
 exact ⟨rfl, rfl⟩
theorem r16size_any (m : Int) (w : World) (h0 : 0 ≤ m) (h1 : m ≤ 16) : Calls Tryz.prog 92 #[.int .i64 m] w fun e w' => e = .returned (.int .i64 (m + 2)) ∧ w = w' := by
 have em : decide (0 ≤ m ∧ m ≤ 16) = true := by simp [h0, h1]
 have HR := right_any m
 rw [em] at HR
 clear em
 go_enter Tryz.func92, Tryz.ntmps92
 go_wp2_with fail
 refine (HR _).mono ?_
 rintro e w2 ⟨rfl, rfl⟩
 go_wp2_with fail
 go_ret
 exact ⟨rfl, rfl⟩
theorem r17size_any (m : Int) (w : World) (h0 : 0 ≤ m) (h1 : m ≤ 16) : Calls Tryz.prog 93 #[.int .i64 m] w fun e w' => e = .returned (.int .i64 (3 * m + 1)) ∧ w = w' := by
 have em : decide (0 ≤ m ∧ m ≤ 16) = true := by simp [h0, h1]
 have HR := right_any m
 rw [em] at HR
 clear em
 go_enter Tryz.func93, Tryz.ntmps93
 go_wp2_with fail
 refine (HR _).mono ?_
 rintro e w2 ⟨rfl, rfl⟩
 go_wp2_with fail
 go_ret
 exact ⟨rfl, rfl⟩
theorem r18size_any (m : Int) (w : World) (h0 : 0 ≤ m) (h1 : m ≤ 16) : Calls Tryz.prog 94 #[.int .i64 m] w fun e w' => e = .returned (.int .i64 (2 * m + 3)) ∧ w = w' := by
 have em : decide (0 ≤ m ∧ m ≤ 16) = true := by simp [h0, h1]
 have HR := right_any m
 rw [em] at HR
 clear em
 go_enter Tryz.func94, Tryz.ntmps94
 go_wp2_with fail
 refine (HR _).mono ?_
 rintro e w2 ⟨rfl, rfl⟩
 go_wp2_with fail
 go_ret
 exact ⟨rfl, rfl⟩
def sizeE (r : Reg) : Int := if regOk r then 0 else 13
def sizeV (r : Reg) : Int := if regOk r then sizeI r else 0

theorem psize_1 (cap : Int) (w : World) (h0 : 0 ≤ cap) (h1 : cap ≤ 16) : Calls Tryz.prog 49 #[.agg #[.int .i64 1, .int .i64 cap]] w fun e w' => e = .returned (.tuple #[.int .i64 (cap), .int .i64 0]) ∧ Below w.heap.size w w' := by
 have em : decide ((0 : Int) ≤ cap ∧ cap ≤ 16) = true := by simp [h0, h1]
 have HW := within_any cap 0 16
 rw [em] at HW
 have HK := within_any 1 1 4
 rw [show decide ((1 : Int) ≤ 1 ∧ (1 : Int) ≤ 4) = true from by decide] at HK
 clear em
 go_enter Tryz.func49, Tryz.ntmps49
 go_wp2_with fail
 refine (HK _).mono ?_
 rintro e w2 ⟨rfl, rfl⟩
 go_wp2_with fail
 refine (HW _).mono ?_
 rintro e w2 ⟨rfl, rfl⟩
 clear HW HK
 go_wp2_with fail
 go_quiet (exact Calls.quiet_of_same ((csize_any cap _ h0 h1).mono fun _ _ h => ⟨h.1, h.2.symm⟩))
 go_wp2
 go_ret2
 exact ⟨rfl, by repeat (first | with_reducible exact Below.refl _ _ | with_reducible refine Below.drew ?_ | with_reducible refine below_drewN ?_ _ | ((with_reducible refine Below.alloc ?_ ?_ _); (rotate_left; focus (first | with_reducible exact Nat.le_refl _ | omega | (simp; done) | (simp; omega) | (simp [World.setCell]; done) | (simp [World.setCell]; omega)))) | ((with_reducible refine Below.setCell ?_ ?_ _); (rotate_left; focus (first | with_reducible exact Nat.le_refl _ | omega | (simp; done) | (simp; omega) | (simp [World.setCell]; done) | (simp [World.setCell]; omega)))))⟩
theorem psize_2 (cap : Int) (w : World) (h0 : 0 ≤ cap) (h1 : cap ≤ 16) : Calls Tryz.prog 49 #[.agg #[.int .i64 2, .int .i64 cap]] w fun e w' => e = .returned (.tuple #[.int .i64 (cap + 2), .int .i64 0]) ∧ Below w.heap.size w w' := by
 have em : decide ((0 : Int) ≤ cap ∧ cap ≤ 16) = true := by simp [h0, h1]
 have HW := within_any cap 0 16
 rw [em] at HW
 have HK := within_any 2 1 4
 rw [show decide ((1 : Int) ≤ 2 ∧ (2 : Int) ≤ 4) = true from by decide] at HK
 clear em
 go_enter Tryz.func49, Tryz.ntmps49
 go_wp2_with fail
 refine (HK _).mono ?_
 rintro e w2 ⟨rfl, rfl⟩
 go_wp2_with fail
 refine (HW _).mono ?_
 rintro e w2 ⟨rfl, rfl⟩
 clear HW HK
 go_wp2_with fail
 go_quiet (exact Calls.quiet_of_same ((qsize_any cap _ h0 h1).mono fun _ _ h => ⟨h.1, h.2.symm⟩))
 go_wp2
 go_ret2
 exact ⟨rfl, by repeat (first | with_reducible exact Below.refl _ _ | with_reducible refine Below.drew ?_ | with_reducible refine below_drewN ?_ _ | ((with_reducible refine Below.alloc ?_ ?_ _); (rotate_left; focus (first | with_reducible exact Nat.le_refl _ | omega | (simp; done) | (simp; omega) | (simp [World.setCell]; done) | (simp [World.setCell]; omega)))) | ((with_reducible refine Below.setCell ?_ ?_ _); (rotate_left; focus (first | with_reducible exact Nat.le_refl _ | omega | (simp; done) | (simp; omega) | (simp [World.setCell]; done) | (simp [World.setCell]; omega)))))⟩
theorem psize_3 (cap : Int) (w : World) (h0 : 0 ≤ cap) (h1 : cap ≤ 16) : Calls Tryz.prog 49 #[.agg #[.int .i64 3, .int .i64 cap]] w fun e w' => e = .returned (.tuple #[.int .i64 (3 * cap + 1), .int .i64 0]) ∧ Below w.heap.size w w' := by
 have em : decide ((0 : Int) ≤ cap ∧ cap ≤ 16) = true := by simp [h0, h1]
 have HW := within_any cap 0 16
 rw [em] at HW
 have HK := within_any 3 1 4
 rw [show decide ((1 : Int) ≤ 3 ∧ (3 : Int) ≤ 4) = true from by decide] at HK
 clear em
 go_enter Tryz.func49, Tryz.ntmps49
 go_wp2_with fail
 refine (HK _).mono ?_
 rintro e w2 ⟨rfl, rfl⟩
 go_wp2_with fail
 refine (HW _).mono ?_
 rintro e w2 ⟨rfl, rfl⟩
 clear HW HK
 go_wp2_with fail
 go_quiet (exact Calls.quiet_of_same ((dsize_any cap _ h0 h1).mono fun _ _ h => ⟨h.1, h.2.symm⟩))
 go_wp2
 go_ret2
 exact ⟨rfl, by repeat (first | with_reducible exact Below.refl _ _ | with_reducible refine Below.drew ?_ | with_reducible refine below_drewN ?_ _ | ((with_reducible refine Below.alloc ?_ ?_ _); (rotate_left; focus (first | with_reducible exact Nat.le_refl _ | omega | (simp; done) | (simp; omega) | (simp [World.setCell]; done) | (simp [World.setCell]; omega)))) | ((with_reducible refine Below.setCell ?_ ?_ _); (rotate_left; focus (first | with_reducible exact Nat.le_refl _ | omega | (simp; done) | (simp; omega) | (simp [World.setCell]; done) | (simp [World.setCell]; omega)))))⟩
theorem psize_4 (cap : Int) (w : World) (h0 : 0 ≤ cap) (h1 : cap ≤ 16) : Calls Tryz.prog 49 #[.agg #[.int .i64 4, .int .i64 cap]] w fun e w' => e = .returned (.tuple #[.int .i64 (2 * cap + 3), .int .i64 0]) ∧ Below w.heap.size w w' := by
 have em : decide ((0 : Int) ≤ cap ∧ cap ≤ 16) = true := by simp [h0, h1]
 have HW := within_any cap 0 16
 rw [em] at HW
 have HK := within_any 4 1 4
 rw [show decide ((1 : Int) ≤ 4 ∧ (4 : Int) ≤ 4) = true from by decide] at HK
 clear em
 go_enter Tryz.func49, Tryz.ntmps49
 go_wp2_with fail
 refine (HK _).mono ?_
 rintro e w2 ⟨rfl, rfl⟩
 go_wp2_with fail
 refine (HW _).mono ?_
 rintro e w2 ⟨rfl, rfl⟩
 clear HW HK
 go_wp2_with fail
 go_quiet (exact Calls.quiet_of_same ((hsize_any cap _ h0 h1).mono fun _ _ h => ⟨h.1, h.2.symm⟩))
 go_wp2
 go_ret2
 exact ⟨rfl, by repeat (first | with_reducible exact Below.refl _ _ | with_reducible refine Below.drew ?_ | with_reducible refine below_drewN ?_ _ | ((with_reducible refine Below.alloc ?_ ?_ _); (rotate_left; focus (first | with_reducible exact Nat.le_refl _ | omega | (simp; done) | (simp; omega) | (simp [World.setCell]; done) | (simp [World.setCell]; omega)))) | ((with_reducible refine Below.setCell ?_ ?_ _); (rotate_left; focus (first | with_reducible exact Nat.le_refl _ | omega | (simp; done) | (simp; omega) | (simp [World.setCell]; done) | (simp [World.setCell]; omega)))))⟩
theorem psize_no (kind cap : Int) (w : World) (hno : ¬ regOk ⟨kind, cap⟩) : Calls Tryz.prog 49 #[.agg #[.int .i64 kind, .int .i64 cap]] w fun e w' => e = .returned (.tuple #[.int .i64 0, .int .i64 13]) ∧ Below w.heap.size w w' := by
 by_cases hk : 1 ≤ kind ∧ kind ≤ 4
 ·have hc : ¬ (0 ≤ cap ∧ cap ≤ 16) := fun h => hno ⟨hk.1, hk.2, h.1, h.2⟩
  have HK := within_any kind 1 4
  rw [show decide (1 ≤ kind ∧ kind ≤ 4) = true from by simpa using hk] at HK
  have HW := within_any cap 0 16
  rw [show decide (0 ≤ cap ∧ cap ≤ 16) = false from decide_eq_false hc] at HW
  clear hno hk hc
  go_enter Tryz.func49, Tryz.ntmps49
  go_wp2_with fail
  refine (HK _).mono ?_
  rintro e w2 ⟨rfl, rfl⟩
  go_wp2_with fail
  refine (HW _).mono ?_
  rintro e w2 ⟨rfl, rfl⟩
  go_wp2_with fail
  go_ret2
  exact ⟨rfl, by repeat (first | with_reducible exact Below.refl _ _ | with_reducible refine Below.drew ?_ | with_reducible refine below_drewN ?_ _ | ((with_reducible refine Below.alloc ?_ ?_ _); (rotate_left; focus (first | with_reducible exact Nat.le_refl _ | omega | (simp; done) | (simp; omega) | (simp [World.setCell]; done) | (simp [World.setCell]; omega)))) | ((with_reducible refine Below.setCell ?_ ?_ _); (rotate_left; focus (first | with_reducible exact Nat.le_refl _ | omega | (simp; done) | (simp; omega) | (simp [World.setCell]; done) | (simp [World.setCell]; omega)))))⟩
 ·have HK := within_any kind 1 4
  rw [show decide (1 ≤ kind ∧ kind ≤ 4) = false from decide_eq_false hk] at HK
  clear hno hk
  go_enter Tryz.func49, Tryz.ntmps49
  go_wp2_with fail
  refine (HK _).mono ?_
  rintro e w2 ⟨rfl, rfl⟩
  go_wp2_with fail
  go_ret2
  exact ⟨rfl, by repeat (first | with_reducible exact Below.refl _ _ | with_reducible refine Below.drew ?_ | with_reducible refine below_drewN ?_ _ | ((with_reducible refine Below.alloc ?_ ?_ _); (rotate_left; focus (first | with_reducible exact Nat.le_refl _ | omega | (simp; done) | (simp; omega) | (simp [World.setCell]; done) | (simp [World.setCell]; omega)))) | ((with_reducible refine Below.setCell ?_ ?_ _); (rotate_left; focus (first | with_reducible exact Nat.le_refl _ | omega | (simp; done) | (simp; omega) | (simp [World.setCell]; done) | (simp [World.setCell]; omega)))))⟩

theorem psize_any (r : Reg) (w : World) : Calls Tryz.prog 49 #[.agg #[.int .i64 r.kind, .int .i64 r.cap]] w fun e w' => e = .returned (.tuple #[.int .i64 (sizeV r), .int .i64 (sizeE r)]) ∧ Below w.heap.size w w' := by
 obtain ⟨kind, cap⟩ := r
 by_cases hok : regOk ⟨kind, cap⟩
 ·have h := hok
  obtain ⟨h1, h2, h3, h4⟩ := hok
  simp only at h1 h2 h3 h4
  have e2 : sizeE ⟨kind, cap⟩ = 0 := by simp [sizeE, h]
  have e1 : sizeV ⟨kind, cap⟩ = sizeI ⟨kind, cap⟩ := by simp [sizeV, h]
  rw [e1, e2]
  clear h e1 e2
  rcases show kind = 1 ∨ kind = 2 ∨ kind = 3 ∨ kind = 4 by omega with rfl | rfl | rfl | rfl
  ·exact psize_1 cap w h3 h4
  ·exact psize_2 cap w h3 h4
  ·exact psize_3 cap w h3 h4
  ·exact psize_4 cap w h3 h4
 ·have e2 : sizeE ⟨kind, cap⟩ = 13 := by simp [sizeE, hok]
  have e1 : sizeV ⟨kind, cap⟩ = 0 := by simp [sizeV, hok]
  rw [e1, e2]
  exact psize_no kind cap w hok

theorem rsize_1 (cap : Int) (w : World) (h0 : 0 ≤ cap) (h1 : cap ≤ 16) : Calls Tryz.prog 59 #[.agg #[.int .i64 1, .int .i64 cap]] w fun e w' => e = .returned (.tuple #[.int .i64 (cap), .int .i64 0]) ∧ Below w.heap.size w w' := by
 have HW := right_any cap
 rw [show decide ((0 : Int) ≤ cap ∧ cap ≤ 16) = true from by simp [h0, h1]] at HW
 go_enter Tryz.func59, Tryz.ntmps59
 go_wp2_with fail
 refine (HW _).mono ?_
 rintro e w2 ⟨rfl, rfl⟩
 clear HW
 go_wp2_with fail
 refine (r15size_any cap _ h0 h1).mono ?_
 rintro e w2 ⟨rfl, rfl⟩
 go_wp2_with fail
 go_ret2
 exact ⟨rfl, by repeat (first | with_reducible exact Below.refl _ _ | with_reducible refine Below.drew ?_ | with_reducible refine below_drewN ?_ _ | ((with_reducible refine Below.alloc ?_ ?_ _); (rotate_left; focus (first | with_reducible exact Nat.le_refl _ | omega | (simp; done) | (simp; omega) | (simp [World.setCell]; done) | (simp [World.setCell]; omega)))) | ((with_reducible refine Below.setCell ?_ ?_ _); (rotate_left; focus (first | with_reducible exact Nat.le_refl _ | omega | (simp; done) | (simp; omega) | (simp [World.setCell]; done) | (simp [World.setCell]; omega)))))⟩
theorem rsize_2 (cap : Int) (w : World) (h0 : 0 ≤ cap) (h1 : cap ≤ 16) : Calls Tryz.prog 59 #[.agg #[.int .i64 2, .int .i64 cap]] w fun e w' => e = .returned (.tuple #[.int .i64 (cap + 2), .int .i64 0]) ∧ Below w.heap.size w w' := by
 have HW := right_any cap
 rw [show decide ((0 : Int) ≤ cap ∧ cap ≤ 16) = true from by simp [h0, h1]] at HW
 go_enter Tryz.func59, Tryz.ntmps59
 go_wp2_with fail
 refine (HW _).mono ?_
 rintro e w2 ⟨rfl, rfl⟩
 clear HW
 go_wp2_with fail
 refine (r16size_any cap _ h0 h1).mono ?_
 rintro e w2 ⟨rfl, rfl⟩
 go_wp2_with fail
 go_ret2
 exact ⟨rfl, by repeat (first | with_reducible exact Below.refl _ _ | with_reducible refine Below.drew ?_ | with_reducible refine below_drewN ?_ _ | ((with_reducible refine Below.alloc ?_ ?_ _); (rotate_left; focus (first | with_reducible exact Nat.le_refl _ | omega | (simp; done) | (simp; omega) | (simp [World.setCell]; done) | (simp [World.setCell]; omega)))) | ((with_reducible refine Below.setCell ?_ ?_ _); (rotate_left; focus (first | with_reducible exact Nat.le_refl _ | omega | (simp; done) | (simp; omega) | (simp [World.setCell]; done) | (simp [World.setCell]; omega)))))⟩
theorem rsize_3 (cap : Int) (w : World) (h0 : 0 ≤ cap) (h1 : cap ≤ 16) : Calls Tryz.prog 59 #[.agg #[.int .i64 3, .int .i64 cap]] w fun e w' => e = .returned (.tuple #[.int .i64 (3 * cap + 1), .int .i64 0]) ∧ Below w.heap.size w w' := by
 have HW := right_any cap
 rw [show decide ((0 : Int) ≤ cap ∧ cap ≤ 16) = true from by simp [h0, h1]] at HW
 go_enter Tryz.func59, Tryz.ntmps59
 go_wp2_with fail
 refine (HW _).mono ?_
 rintro e w2 ⟨rfl, rfl⟩
 clear HW
 go_wp2_with fail
 refine (r17size_any cap _ h0 h1).mono ?_
 rintro e w2 ⟨rfl, rfl⟩
 go_wp2_with fail
 go_ret2
 exact ⟨rfl, by repeat (first | with_reducible exact Below.refl _ _ | with_reducible refine Below.drew ?_ | with_reducible refine below_drewN ?_ _ | ((with_reducible refine Below.alloc ?_ ?_ _); (rotate_left; focus (first | with_reducible exact Nat.le_refl _ | omega | (simp; done) | (simp; omega) | (simp [World.setCell]; done) | (simp [World.setCell]; omega)))) | ((with_reducible refine Below.setCell ?_ ?_ _); (rotate_left; focus (first | with_reducible exact Nat.le_refl _ | omega | (simp; done) | (simp; omega) | (simp [World.setCell]; done) | (simp [World.setCell]; omega)))))⟩
theorem rsize_4 (cap : Int) (w : World) (h0 : 0 ≤ cap) (h1 : cap ≤ 16) : Calls Tryz.prog 59 #[.agg #[.int .i64 4, .int .i64 cap]] w fun e w' => e = .returned (.tuple #[.int .i64 (2 * cap + 3), .int .i64 0]) ∧ Below w.heap.size w w' := by
 have HW := right_any cap
 rw [show decide ((0 : Int) ≤ cap ∧ cap ≤ 16) = true from by simp [h0, h1]] at HW
 go_enter Tryz.func59, Tryz.ntmps59
 go_wp2_with fail
 refine (HW _).mono ?_
 rintro e w2 ⟨rfl, rfl⟩
 clear HW
 go_wp2_with fail
 refine (r18size_any cap _ h0 h1).mono ?_
 rintro e w2 ⟨rfl, rfl⟩
 go_wp2_with fail
 go_ret2
 exact ⟨rfl, by repeat (first | with_reducible exact Below.refl _ _ | with_reducible refine Below.drew ?_ | with_reducible refine below_drewN ?_ _ | ((with_reducible refine Below.alloc ?_ ?_ _); (rotate_left; focus (first | with_reducible exact Nat.le_refl _ | omega | (simp; done) | (simp; omega) | (simp [World.setCell]; done) | (simp [World.setCell]; omega)))) | ((with_reducible refine Below.setCell ?_ ?_ _); (rotate_left; focus (first | with_reducible exact Nat.le_refl _ | omega | (simp; done) | (simp; omega) | (simp [World.setCell]; done) | (simp [World.setCell]; omega)))))⟩
theorem rsize_no (kind cap : Int) (w : World) (hno : ¬ regOk ⟨kind, cap⟩) : Calls Tryz.prog 59 #[.agg #[.int .i64 kind, .int .i64 cap]] w fun e w' => e = .returned (.tuple #[.int .i64 0, .int .i64 13]) ∧ Below w.heap.size w w' := by
 by_cases hc : 0 ≤ cap ∧ cap ≤ 16
 ·have HW := right_any cap
  rw [show decide (0 ≤ cap ∧ cap ≤ 16) = true from by simpa using hc] at HW
  have e1 : (kind == 1) = false := by simp; rintro rfl; exact hno ⟨by simp, by simp, hc.1, hc.2⟩
  have e2 : (kind == 2) = false := by simp; rintro rfl; exact hno ⟨by simp, by simp, hc.1, hc.2⟩
  have e3 : (kind == 3) = false := by simp; rintro rfl; exact hno ⟨by simp, by simp, hc.1, hc.2⟩
  have e4 : (kind == 4) = false := by simp; rintro rfl; exact hno ⟨by simp, by simp, hc.1, hc.2⟩
  clear hno hc
  go_enter Tryz.func59, Tryz.ntmps59
  go_wp2_with fail
  refine (HW _).mono ?_
  rintro e w2 ⟨rfl, rfl⟩
  go_wp2_with fail
  go_ret2
  exact ⟨rfl, by repeat (first | with_reducible exact Below.refl _ _ | with_reducible refine Below.drew ?_ | with_reducible refine below_drewN ?_ _ | ((with_reducible refine Below.alloc ?_ ?_ _); (rotate_left; focus (first | with_reducible exact Nat.le_refl _ | omega | (simp; done) | (simp; omega) | (simp [World.setCell]; done) | (simp [World.setCell]; omega)))) | ((with_reducible refine Below.setCell ?_ ?_ _); (rotate_left; focus (first | with_reducible exact Nat.le_refl _ | omega | (simp; done) | (simp; omega) | (simp [World.setCell]; done) | (simp [World.setCell]; omega)))))⟩
 ·have HW := right_any cap
  rw [show decide (0 ≤ cap ∧ cap ≤ 16) = false from decide_eq_false hc] at HW
  clear hno hc
  go_enter Tryz.func59, Tryz.ntmps59
  go_wp2_with fail
  refine (HW _).mono ?_
  rintro e w2 ⟨rfl, rfl⟩
  go_wp2_with fail
  go_ret2
  exact ⟨rfl, by repeat (first | with_reducible exact Below.refl _ _ | with_reducible refine Below.drew ?_ | with_reducible refine below_drewN ?_ _ | ((with_reducible refine Below.alloc ?_ ?_ _); (rotate_left; focus (first | with_reducible exact Nat.le_refl _ | omega | (simp; done) | (simp; omega) | (simp [World.setCell]; done) | (simp [World.setCell]; omega)))) | ((with_reducible refine Below.setCell ?_ ?_ _); (rotate_left; focus (first | with_reducible exact Nat.le_refl _ | omega | (simp; done) | (simp; omega) | (simp [World.setCell]; done) | (simp [World.setCell]; omega)))))⟩

theorem rsize_any (r : Reg) (w : World) : Calls Tryz.prog 59 #[.agg #[.int .i64 r.kind, .int .i64 r.cap]] w fun e w' => e = .returned (.tuple #[.int .i64 (sizeV r), .int .i64 (sizeE r)]) ∧ Below w.heap.size w w' := by
 obtain ⟨kind, cap⟩ := r
 by_cases hok : regOk ⟨kind, cap⟩
 ·have h := hok
  obtain ⟨h1, h2, h3, h4⟩ := hok
  simp only at h1 h2 h3 h4
  have e2 : sizeE ⟨kind, cap⟩ = 0 := by simp [sizeE, h]
  have e1 : sizeV ⟨kind, cap⟩ = sizeI ⟨kind, cap⟩ := by simp [sizeV, h]
  rw [e1, e2]
  clear h e1 e2
  rcases show kind = 1 ∨ kind = 2 ∨ kind = 3 ∨ kind = 4 by omega with rfl | rfl | rfl | rfl
  ·exact rsize_1 cap w h3 h4
  ·exact rsize_2 cap w h3 h4
  ·exact rsize_3 cap w h3 h4
  ·exact rsize_4 cap w h3 h4
 ·have e2 : sizeE ⟨kind, cap⟩ = 13 := by simp [sizeE, hok]
  have e1 : sizeV ⟨kind, cap⟩ = 0 := by simp [sizeV, hok]
  rw [e1, e2]
  exact rsize_no kind cap w hok

theorem regs_cell {w : World} {b off n : Nat} {l : List Reg} (hl : l.length = n) (hc : ∀ (j : Nat) u, (rows Reg.cells l)[j]? = some u → w.cell? ⟨b, off + j, none⟩ = some u) {k : Nat} (hk : k < n) :
  w.cell? ⟨b, off + k * 2, none⟩ = some (.int .i64 (l[k]'(by omega)).kind) ∧ w.cell? ⟨b, off + k * 2 + 1, none⟩ = some (.int .i64 (l[k]'(by omega)).cap) := by
 have h0 := rows_at Reg.cells 2 (fun _ => rfl) l k 0 (by omega) (by omega)
 have h1 := rows_at Reg.cells 2 (fun _ => rfl) l k 1 (by omega) (by omega)
 exact ⟨hc (k * 2) _ h0, by rw [Nat.add_assoc]; exact hc (k * 2 + 1) _ h1⟩

theorem checkF_no {c : Cfg} {l : List Reg} (h : ¬ cfgOk c l) : checkF c l = 13 := by simp [checkF, h]
theorem checkF_yes {c : Cfg} {l : List Reg} (h : cfgOk c l) : checkF c l = 0 := by simp [checkF, h]

def RelC (l : List Reg) (n : Nat) (w : World) (gk : Nat) (i : Value) (wr : World) : Prop :=
 ∃ k : Nat, i = .int .i64 k ∧ k ≤ n ∧ gk = n - k ∧ (∀ j (h : j < l.length), j < k → regOk l[j]) ∧ Below w.heap.size w wr

set_option maxHeartbeats 2000000 in
theorem pcheck_any (c : Cfg) (l : List Reg) (A : Option Addr) (n nc : Nat) (w : World) (B : Nat) (hl : l.length = n) (hn : n ≤ 9223372036854775807) (hB : B ≤ w.heap.size) (hA : Reads w B 2 A n (rows Reg.cells l)) :
  Calls Tryz.prog 19 #[.agg #[.int .i64 c.raw, .int .i64 c.ring, .int .i64 c.writes, .int .i64 c.stamps, .bool c.multi, .int .i64 c.tries, .slice A n nc]] w fun e w' => e = .returned (.int .i64 (checkF c l)) ∧ Below w.heap.size w w' := by
 obtain ⟨raw, ring, writes, stamps, multi, tries⟩ := c
 have HL := Lib.hid hl
 simp only
 clear hl
 go_enter Tryz.func19, Tryz.ntmps19
 go_wp2_with fail
 refine (within_any raw 1 64 _).mono ?_
 rintro e w1 ⟨rfl, rfl⟩
 by_cases h0 : 1 ≤ raw ∧ raw ≤ 64
 rotate_left
 ·rw [decide_eq_false h0]
  have H0 := Lib.hid h0
  clear h0
  go_wp2_with fail
  go_ret
  exact ⟨congrArg (fun z => Ending.returned (.int .i64 z)) (checkF_no (fun h => H0.out ⟨h.1, h.2.1⟩)).symm, by repeat (first | with_reducible exact Below.refl _ _ | with_reducible refine Below.drew ?_ | with_reducible refine below_drewN ?_ _ | ((with_reducible refine Below.alloc ?_ ?_ _); (rotate_left; focus (first | with_reducible exact Nat.le_refl _ | omega | (simp; done) | (simp; omega) | (simp [World.setCell]; done) | (simp [World.setCell]; omega)))) | ((with_reducible refine Below.setCell ?_ ?_ _); (rotate_left; focus (first | with_reducible exact Nat.le_refl _ | omega | (simp; done) | (simp; omega) | (simp [World.setCell]; done) | (simp [World.setCell]; omega)))))⟩
 rw [decide_eq_true h0]
 have H0 := Lib.hid h0
 clear h0
 go_wp2_with fail
 refine (within_any ring 1 16 _).mono ?_
 rintro e w1 ⟨rfl, rfl⟩
 by_cases h1 : 1 ≤ ring ∧ ring ≤ 16
 rotate_left
 ·rw [decide_eq_false h1]
  have H1 := Lib.hid h1
  clear h1
  go_wp2_with fail
  go_ret
  exact ⟨congrArg (fun z => Ending.returned (.int .i64 z)) (checkF_no (fun h => H1.out ⟨h.2.2.1, h.2.2.2.1⟩)).symm, by repeat (first | with_reducible exact Below.refl _ _ | with_reducible refine Below.drew ?_ | with_reducible refine below_drewN ?_ _ | ((with_reducible refine Below.alloc ?_ ?_ _); (rotate_left; focus (first | with_reducible exact Nat.le_refl _ | omega | (simp; done) | (simp; omega) | (simp [World.setCell]; done) | (simp [World.setCell]; omega)))) | ((with_reducible refine Below.setCell ?_ ?_ _); (rotate_left; focus (first | with_reducible exact Nat.le_refl _ | omega | (simp; done) | (simp; omega) | (simp [World.setCell]; done) | (simp [World.setCell]; omega)))))⟩
 rw [decide_eq_true h1]
 have H1 := Lib.hid h1
 clear h1
 go_wp2_with fail
 refine (within_any writes 1 24 _).mono ?_
 rintro e w1 ⟨rfl, rfl⟩
 by_cases h2 : 1 ≤ writes ∧ writes ≤ 24
 rotate_left
 ·rw [decide_eq_false h2]
  have H2 := Lib.hid h2
  clear h2
  go_wp2_with fail
  go_ret
  exact ⟨congrArg (fun z => Ending.returned (.int .i64 z)) (checkF_no (fun h => H2.out ⟨h.2.2.2.2.1, h.2.2.2.2.2.1⟩)).symm, by repeat (first | with_reducible exact Below.refl _ _ | with_reducible refine Below.drew ?_ | with_reducible refine below_drewN ?_ _ | ((with_reducible refine Below.alloc ?_ ?_ _); (rotate_left; focus (first | with_reducible exact Nat.le_refl _ | omega | (simp; done) | (simp; omega) | (simp [World.setCell]; done) | (simp [World.setCell]; omega)))) | ((with_reducible refine Below.setCell ?_ ?_ _); (rotate_left; focus (first | with_reducible exact Nat.le_refl _ | omega | (simp; done) | (simp; omega) | (simp [World.setCell]; done) | (simp [World.setCell]; omega)))))⟩
 rw [decide_eq_true h2]
 have H2 := Lib.hid h2
 clear h2
 go_wp2_with fail
 refine (within64_any stamps 1 1099511627776 _).mono ?_
 rintro e w1 ⟨rfl, rfl⟩
 by_cases h3 : 1 ≤ stamps ∧ stamps ≤ 1099511627776
 rotate_left
 ·rw [decide_eq_false h3]
  have H3 := Lib.hid h3
  clear h3
  go_wp2_with fail
  go_ret
  exact ⟨congrArg (fun z => Ending.returned (.int .i64 z)) (checkF_no (fun h => H3.out ⟨h.2.2.2.2.2.2.1, h.2.2.2.2.2.2.2.1⟩)).symm, by repeat (first | with_reducible exact Below.refl _ _ | with_reducible refine Below.drew ?_ | with_reducible refine below_drewN ?_ _ | ((with_reducible refine Below.alloc ?_ ?_ _); (rotate_left; focus (first | with_reducible exact Nat.le_refl _ | omega | (simp; done) | (simp; omega) | (simp [World.setCell]; done) | (simp [World.setCell]; omega)))) | ((with_reducible refine Below.setCell ?_ ?_ _); (rotate_left; focus (first | with_reducible exact Nat.le_refl _ | omega | (simp; done) | (simp; omega) | (simp [World.setCell]; done) | (simp [World.setCell]; omega)))))⟩
 rw [decide_eq_true h3]
 have H3 := Lib.hid h3
 clear h3
 go_wp2_with fail
 refine (within_any tries 1 255 _).mono ?_
 rintro e w1 ⟨rfl, rfl⟩
 by_cases h4 : 1 ≤ tries ∧ tries ≤ 255
 rotate_left
 ·rw [decide_eq_false h4]
  have H4 := Lib.hid h4
  clear h4
  go_wp2_with fail
  go_ret
  exact ⟨congrArg (fun z => Ending.returned (.int .i64 z)) (checkF_no (fun h => H4.out ⟨h.2.2.2.2.2.2.2.2.1, h.2.2.2.2.2.2.2.2.2.1⟩)).symm, by repeat (first | with_reducible exact Below.refl _ _ | with_reducible refine Below.drew ?_ | with_reducible refine below_drewN ?_ _ | ((with_reducible refine Below.alloc ?_ ?_ _); (rotate_left; focus (first | with_reducible exact Nat.le_refl _ | omega | (simp; done) | (simp; omega) | (simp [World.setCell]; done) | (simp [World.setCell]; omega)))) | ((with_reducible refine Below.setCell ?_ ?_ _); (rotate_left; focus (first | with_reducible exact Nat.le_refl _ | omega | (simp; done) | (simp; omega) | (simp [World.setCell]; done) | (simp [World.setCell]; omega)))))⟩
 rw [decide_eq_true h4]
 have H4 := Lib.hid h4
 clear h4
 by_cases h5 : n ≤ 8
 rotate_left
 ·have e5 : decide ((8 : Int) < (n : Int)) = true := by simp; omega
  have H5 := Lib.hid h5
  clear h5
  go_wp2_with fail
  go_ret
  exact ⟨congrArg (fun z => Ending.returned (.int .i64 z)) (checkF_no (fun h => H5.out (by have := h.2.2.2.2.2.2.2.2.2.2.1; rw [HL.out] at this; exact this))).symm, by repeat (first | with_reducible exact Below.refl _ _ | with_reducible refine Below.drew ?_ | with_reducible refine below_drewN ?_ _ | ((with_reducible refine Below.alloc ?_ ?_ _); (rotate_left; focus (first | with_reducible exact Nat.le_refl _ | omega | (simp; done) | (simp; omega) | (simp [World.setCell]; done) | (simp [World.setCell]; omega)))) | ((with_reducible refine Below.setCell ?_ ?_ _); (rotate_left; focus (first | with_reducible exact Nat.le_refl _ | omega | (simp; done) | (simp; omega) | (simp [World.setCell]; done) | (simp [World.setCell]; omega)))))⟩
 have e5 : decide ((8 : Int) < (n : Int)) = false := by simp; omega
 go_wp2_with fail
 clear e5
 go_loopg [44] n (fun gk i wr => RelC l n w gk i wr)
 case atStart => exact ⟨0, rfl, Nat.zero_le _, rfl, fun j _ h => by omega, by repeat (first | with_reducible exact Below.refl _ _ | with_reducible refine Below.drew ?_ | with_reducible refine below_drewN ?_ _ | ((with_reducible refine Below.alloc ?_ ?_ _); (rotate_left; focus (first | with_reducible exact Nat.le_refl _ | omega | (simp; done) | (simp; omega) | (simp [World.setCell]; done) | (simp [World.setCell]; omega)))) | ((with_reducible refine Below.setCell ?_ ?_ _); (rotate_left; focus (first | with_reducible exact Nat.le_refl _ | omega | (simp; done) | (simp; omega) | (simp [World.setCell]; done) | (simp [World.setCell]; omega)))))⟩
 case round =>
  obtain ⟨k, rfl, hk, hgk, hreg, hbel⟩ := hrel
  have HG := Lib.hid hgk
  have HREG := Lib.hid hreg
  clear hgk hreg
  by_cases hkn : k < n
  ·obtain ⟨b, off, rfl, hb, hc⟩ := reads_flat hA (by omega) (by omega)
   obtain ⟨d0, d1⟩ := regs_cell HL.out hc hkn
   have hkl : k < l.length := by rw [HL.out]; exact hkn
   obtain ⟨r, hr⟩ : ∃ r, r = l[k] := ⟨_, rfl⟩
   rw [← hr] at d0 d1
   have g0 : wr.cell? ⟨b, off + k * 2, none⟩ = some (.int .i64 r.kind) := (hbel.cell (p := ⟨b, off + k * 2, none⟩) (by simp; omega)).trans d0
   have g1 : wr.cell? ⟨b, off + k * 2 + 1, none⟩ = some (.int .i64 r.cap) := (hbel.cell (p := ⟨b, off + k * 2 + 1, none⟩) (by simp; omega)).trans d1
   have HR := Lib.hid hr
   clear d0 d1 hc hr
   go_wp2_with fail
   refine (psize_any r _).mono ?_
   rintro e w2 ⟨rfl, hb2⟩
   have hbel2 : Below w.heap.size w w2 := (hbel.alloc hbel.size _).trans (hb2.mono (by have := hbel.size; simp; omega))
   clear hb2
   by_cases hok : regOk r
   ·have e0 : (sizeE r != 0) = false := by simp [sizeE, hok]
    have HOK := Lib.hid hok
    clear hok
    go_wp2_with fail
    go_roundg (n - (k + 1))
    case measure => have := HG.out; omega
    case rel =>
     refine ⟨k + 1, by go_num, by omega, rfl, fun j h hj => ?_, hbel2⟩
     by_cases hjk : j < k
     ·exact HREG.out j h hjk
     ·obtain rfl : j = k := by omega
      rw [← HR.out]
      exact HOK.out
   ·have e0 : (sizeE r != 0) = true := by simp [sizeE, hok]
    have e1 : sizeE r = 13 := by simp [sizeE, hok]
    have HOK := Lib.hid hok
    clear hok
    go_wp2_with fail
    go_ret
    exact ⟨congrArg (fun z => Ending.returned (.int .i64 z)) (checkF_no (fun h => HOK.out (h.2.2.2.2.2.2.2.2.2.2.2 r (by rw [HR.out]; exact List.getElem_mem _)))).symm, hbel2⟩
  ·obtain rfl : k = n := by omega
   go_wp2_with fail
   go_ret
   refine ⟨congrArg (fun z => Ending.returned (.int .i64 z)) (checkF_yes ?_).symm, hbel⟩
   exact ⟨H0.out.1, H0.out.2, H1.out.1, H1.out.2, H2.out.1, H2.out.2, H3.out.1, H3.out.2, H4.out.1, H4.out.2, by rw [HL.out]; exact h5, fun r hr => by
    obtain ⟨j, hj, rfl⟩ := List.getElem_of_mem hr
    exact HREG.out j hj (by rw [← HL.out]; exact hj)⟩

set_option maxHeartbeats 4000000 in
theorem rcheck_any (c : Cfg) (l : List Reg) (A : Option Addr) (n nc : Nat) (w : World) (B : Nat) (hl : l.length = n) (hn : n ≤ 9223372036854775807) (hB : B ≤ w.heap.size) (hA : Reads w B 2 A n (rows Reg.cells l)) :
  Calls Tryz.prog 23 #[.agg #[.int .i64 c.raw, .int .i64 c.ring, .int .i64 c.writes, .int .i64 c.stamps, .bool c.multi, .int .i64 c.tries, .slice A n nc]] w fun e w' => e = .returned (.int .i64 (checkF c l)) ∧ Below w.heap.size w w' := by
 obtain ⟨raw, ring, writes, stamps, multi, tries⟩ := c
 have HL := Lib.hid hl
 simp only
 clear hl
 by_cases t0 : raw < 1
 ·rw [checkF_no (fun h => by have := h.1; simp only at this; omega)]
  have f0 : decide (raw < 1) = true := decide_eq_true t0
  go_enter Tryz.func23, Tryz.ntmps23
  go_wp2_with fail
  go_ret
  exact ⟨rfl, by repeat (first | with_reducible exact Below.refl _ _ | with_reducible refine Below.drew ?_ | with_reducible refine below_drewN ?_ _ | ((with_reducible refine Below.alloc ?_ ?_ _); (rotate_left; focus (first | with_reducible exact Nat.le_refl _ | omega | (simp; done) | (simp; omega) | (simp [World.setCell]; done) | (simp [World.setCell]; omega)))) | ((with_reducible refine Below.setCell ?_ ?_ _); (rotate_left; focus (first | with_reducible exact Nat.le_refl _ | omega | (simp; done) | (simp; omega) | (simp [World.setCell]; done) | (simp [World.setCell]; omega)))))⟩
 have f0 : decide (raw < 1) = false := decide_eq_false t0
 by_cases t1 : 64 < raw
 ·rw [checkF_no (fun h => by have := h.2.1; simp only at this; omega)]
  have f1 : decide (64 < raw) = true := decide_eq_true t1
  go_enter Tryz.func23, Tryz.ntmps23
  go_wp2_with fail
  go_ret
  exact ⟨rfl, by repeat (first | with_reducible exact Below.refl _ _ | with_reducible refine Below.drew ?_ | with_reducible refine below_drewN ?_ _ | ((with_reducible refine Below.alloc ?_ ?_ _); (rotate_left; focus (first | with_reducible exact Nat.le_refl _ | omega | (simp; done) | (simp; omega) | (simp [World.setCell]; done) | (simp [World.setCell]; omega)))) | ((with_reducible refine Below.setCell ?_ ?_ _); (rotate_left; focus (first | with_reducible exact Nat.le_refl _ | omega | (simp; done) | (simp; omega) | (simp [World.setCell]; done) | (simp [World.setCell]; omega)))))⟩
 have f1 : decide (64 < raw) = false := decide_eq_false t1
 by_cases t2 : ring < 1
 ·rw [checkF_no (fun h => by have := h.2.2.1; simp only at this; omega)]
  have f2 : decide (ring < 1) = true := decide_eq_true t2
  go_enter Tryz.func23, Tryz.ntmps23
  go_wp2_with fail
  go_ret
  exact ⟨rfl, by repeat (first | with_reducible exact Below.refl _ _ | with_reducible refine Below.drew ?_ | with_reducible refine below_drewN ?_ _ | ((with_reducible refine Below.alloc ?_ ?_ _); (rotate_left; focus (first | with_reducible exact Nat.le_refl _ | omega | (simp; done) | (simp; omega) | (simp [World.setCell]; done) | (simp [World.setCell]; omega)))) | ((with_reducible refine Below.setCell ?_ ?_ _); (rotate_left; focus (first | with_reducible exact Nat.le_refl _ | omega | (simp; done) | (simp; omega) | (simp [World.setCell]; done) | (simp [World.setCell]; omega)))))⟩
 have f2 : decide (ring < 1) = false := decide_eq_false t2
 by_cases t3 : 16 < ring
 ·rw [checkF_no (fun h => by have := h.2.2.2.1; simp only at this; omega)]
  have f3 : decide (16 < ring) = true := decide_eq_true t3
  go_enter Tryz.func23, Tryz.ntmps23
  go_wp2_with fail
  go_ret
  exact ⟨rfl, by repeat (first | with_reducible exact Below.refl _ _ | with_reducible refine Below.drew ?_ | with_reducible refine below_drewN ?_ _ | ((with_reducible refine Below.alloc ?_ ?_ _); (rotate_left; focus (first | with_reducible exact Nat.le_refl _ | omega | (simp; done) | (simp; omega) | (simp [World.setCell]; done) | (simp [World.setCell]; omega)))) | ((with_reducible refine Below.setCell ?_ ?_ _); (rotate_left; focus (first | with_reducible exact Nat.le_refl _ | omega | (simp; done) | (simp; omega) | (simp [World.setCell]; done) | (simp [World.setCell]; omega)))))⟩
 have f3 : decide (16 < ring) = false := decide_eq_false t3
 by_cases t4 : writes < 1
 ·rw [checkF_no (fun h => by have := h.2.2.2.2.1; simp only at this; omega)]
  have f4 : decide (writes < 1) = true := decide_eq_true t4
  go_enter Tryz.func23, Tryz.ntmps23
  go_wp2_with fail
  go_ret
  exact ⟨rfl, by repeat (first | with_reducible exact Below.refl _ _ | with_reducible refine Below.drew ?_ | with_reducible refine below_drewN ?_ _ | ((with_reducible refine Below.alloc ?_ ?_ _); (rotate_left; focus (first | with_reducible exact Nat.le_refl _ | omega | (simp; done) | (simp; omega) | (simp [World.setCell]; done) | (simp [World.setCell]; omega)))) | ((with_reducible refine Below.setCell ?_ ?_ _); (rotate_left; focus (first | with_reducible exact Nat.le_refl _ | omega | (simp; done) | (simp; omega) | (simp [World.setCell]; done) | (simp [World.setCell]; omega)))))⟩
 have f4 : decide (writes < 1) = false := decide_eq_false t4
 by_cases t5 : 24 < writes
 ·rw [checkF_no (fun h => by have := h.2.2.2.2.2.1; simp only at this; omega)]
  have f5 : decide (24 < writes) = true := decide_eq_true t5
  go_enter Tryz.func23, Tryz.ntmps23
  go_wp2_with fail
  go_ret
  exact ⟨rfl, by repeat (first | with_reducible exact Below.refl _ _ | with_reducible refine Below.drew ?_ | with_reducible refine below_drewN ?_ _ | ((with_reducible refine Below.alloc ?_ ?_ _); (rotate_left; focus (first | with_reducible exact Nat.le_refl _ | omega | (simp; done) | (simp; omega) | (simp [World.setCell]; done) | (simp [World.setCell]; omega)))) | ((with_reducible refine Below.setCell ?_ ?_ _); (rotate_left; focus (first | with_reducible exact Nat.le_refl _ | omega | (simp; done) | (simp; omega) | (simp [World.setCell]; done) | (simp [World.setCell]; omega)))))⟩
 have f5 : decide (24 < writes) = false := decide_eq_false t5
 by_cases t6 : stamps < 1
 ·rw [checkF_no (fun h => by have := h.2.2.2.2.2.2.1; simp only at this; omega)]
  have f6 : decide (stamps < 1) = true := decide_eq_true t6
  go_enter Tryz.func23, Tryz.ntmps23
  go_wp2_with fail
  go_ret
  exact ⟨rfl, by repeat (first | with_reducible exact Below.refl _ _ | with_reducible refine Below.drew ?_ | with_reducible refine below_drewN ?_ _ | ((with_reducible refine Below.alloc ?_ ?_ _); (rotate_left; focus (first | with_reducible exact Nat.le_refl _ | omega | (simp; done) | (simp; omega) | (simp [World.setCell]; done) | (simp [World.setCell]; omega)))) | ((with_reducible refine Below.setCell ?_ ?_ _); (rotate_left; focus (first | with_reducible exact Nat.le_refl _ | omega | (simp; done) | (simp; omega) | (simp [World.setCell]; done) | (simp [World.setCell]; omega)))))⟩
 have f6 : decide (stamps < 1) = false := decide_eq_false t6
 by_cases t7 : 1099511627776 < stamps
 ·rw [checkF_no (fun h => by have := h.2.2.2.2.2.2.2.1; simp only at this; omega)]
  have f7 : decide (1099511627776 < stamps) = true := decide_eq_true t7
  go_enter Tryz.func23, Tryz.ntmps23
  go_wp2_with fail
  go_ret
  exact ⟨rfl, by repeat (first | with_reducible exact Below.refl _ _ | with_reducible refine Below.drew ?_ | with_reducible refine below_drewN ?_ _ | ((with_reducible refine Below.alloc ?_ ?_ _); (rotate_left; focus (first | with_reducible exact Nat.le_refl _ | omega | (simp; done) | (simp; omega) | (simp [World.setCell]; done) | (simp [World.setCell]; omega)))) | ((with_reducible refine Below.setCell ?_ ?_ _); (rotate_left; focus (first | with_reducible exact Nat.le_refl _ | omega | (simp; done) | (simp; omega) | (simp [World.setCell]; done) | (simp [World.setCell]; omega)))))⟩
 have f7 : decide (1099511627776 < stamps) = false := decide_eq_false t7
 by_cases t8 : tries < 1
 ·rw [checkF_no (fun h => by have := h.2.2.2.2.2.2.2.2.1; simp only at this; omega)]
  have f8 : decide (tries < 1) = true := decide_eq_true t8
  go_enter Tryz.func23, Tryz.ntmps23
  go_wp2_with fail
  go_ret
  exact ⟨rfl, by repeat (first | with_reducible exact Below.refl _ _ | with_reducible refine Below.drew ?_ | with_reducible refine below_drewN ?_ _ | ((with_reducible refine Below.alloc ?_ ?_ _); (rotate_left; focus (first | with_reducible exact Nat.le_refl _ | omega | (simp; done) | (simp; omega) | (simp [World.setCell]; done) | (simp [World.setCell]; omega)))) | ((with_reducible refine Below.setCell ?_ ?_ _); (rotate_left; focus (first | with_reducible exact Nat.le_refl _ | omega | (simp; done) | (simp; omega) | (simp [World.setCell]; done) | (simp [World.setCell]; omega)))))⟩
 have f8 : decide (tries < 1) = false := decide_eq_false t8
 by_cases t9 : 255 < tries
 ·rw [checkF_no (fun h => by have := h.2.2.2.2.2.2.2.2.2.1; simp only at this; omega)]
  have f9 : decide (255 < tries) = true := decide_eq_true t9
  go_enter Tryz.func23, Tryz.ntmps23
  go_wp2_with fail
  go_ret
  exact ⟨rfl, by repeat (first | with_reducible exact Below.refl _ _ | with_reducible refine Below.drew ?_ | with_reducible refine below_drewN ?_ _ | ((with_reducible refine Below.alloc ?_ ?_ _); (rotate_left; focus (first | with_reducible exact Nat.le_refl _ | omega | (simp; done) | (simp; omega) | (simp [World.setCell]; done) | (simp [World.setCell]; omega)))) | ((with_reducible refine Below.setCell ?_ ?_ _); (rotate_left; focus (first | with_reducible exact Nat.le_refl _ | omega | (simp; done) | (simp; omega) | (simp [World.setCell]; done) | (simp [World.setCell]; omega)))))⟩
 have f9 : decide (255 < tries) = false := decide_eq_false t9
 by_cases t10 : (8 : Int) < (n : Int)
 ·rw [checkF_no (fun h => by have := h.2.2.2.2.2.2.2.2.2.2.1; rw [HL.out] at this; omega)]
  have f10 : decide ((8 : Int) < (n : Int)) = true := decide_eq_true t10
  go_enter Tryz.func23, Tryz.ntmps23
  go_wp2_with fail
  go_ret
  exact ⟨rfl, by repeat (first | with_reducible exact Below.refl _ _ | with_reducible refine Below.drew ?_ | with_reducible refine below_drewN ?_ _ | ((with_reducible refine Below.alloc ?_ ?_ _); (rotate_left; focus (first | with_reducible exact Nat.le_refl _ | omega | (simp; done) | (simp; omega) | (simp [World.setCell]; done) | (simp [World.setCell]; omega)))) | ((with_reducible refine Below.setCell ?_ ?_ _); (rotate_left; focus (first | with_reducible exact Nat.le_refl _ | omega | (simp; done) | (simp; omega) | (simp [World.setCell]; done) | (simp [World.setCell]; omega)))))⟩
 have f10 : decide ((8 : Int) < (n : Int)) = false := decide_eq_false t10
 go_enter Tryz.func23, Tryz.ntmps23
 go_wp2_with fail
 clear f0 f1 f2 f3 f4 f5 f6 f7 f8 f9 f10
 go_loopg [3] n (fun gk i wr => RelC l n w gk i wr ∧ Blk wr w.heap.size 25 #[.int .i64 raw, .int .i64 ring, .int .i64 writes, .int .i64 stamps, .bool multi, .int .i64 tries, .slice A n nc])
 case atStart => exact ⟨⟨0, rfl, Nat.zero_le _, rfl, fun j _ h => by omega, by repeat (first | with_reducible exact Below.refl _ _ | with_reducible refine Below.drew ?_ | with_reducible refine below_drewN ?_ _ | ((with_reducible refine Below.alloc ?_ ?_ _); (rotate_left; focus (first | with_reducible exact Nat.le_refl _ | omega | (simp; done) | (simp; omega) | (simp [World.setCell]; done) | (simp [World.setCell]; omega)))) | ((with_reducible refine Below.setCell ?_ ?_ _); (rotate_left; focus (first | with_reducible exact Nat.le_refl _ | omega | (simp; done) | (simp; omega) | (simp [World.setCell]; done) | (simp [World.setCell]; omega)))))⟩, Blk.new _ _ _⟩
 case round =>
  obtain ⟨⟨k, rfl, hk, hgk, hreg, hbel⟩, hBk⟩ := hrel
  have HG := Lib.hid hgk
  have HREG := Lib.hid hreg
  have c6 : wr.cell? ⟨w.heap.size, 6, none⟩ = some (.slice A n nc) := (hBk.cell 6).trans rfl
  have hlt := hBk.lt
  clear hgk hreg
  by_cases hkn : k < n
  ·obtain ⟨b, off, rfl, hb, hc⟩ := reads_flat hA (by omega) (by omega)
   obtain ⟨d0, d1⟩ := regs_cell HL.out hc hkn
   have hkl : k < l.length := by rw [HL.out]; exact hkn
   obtain ⟨r, hr⟩ : ∃ r, r = l[k] := ⟨_, rfl⟩
   rw [← hr] at d0 d1
   have g0 : wr.cell? ⟨b, off + k * 2, none⟩ = some (.int .i64 r.kind) := (hbel.cell (p := ⟨b, off + k * 2, none⟩) (by simp; omega)).trans d0
   have g1 : wr.cell? ⟨b, off + k * 2 + 1, none⟩ = some (.int .i64 r.cap) := (hbel.cell (p := ⟨b, off + k * 2 + 1, none⟩) (by simp; omega)).trans d1
   have HR := Lib.hid hr
   clear d0 d1 hc hr
   go_wp2_with fail
   refine (rsize_any r _).mono ?_
   rintro e w2 ⟨rfl, hb2⟩
   have hbel2 : Below w.heap.size w w2 := hbel.trans (hb2.mono hbel.size)
   have hB2 := hBk.below hb2 hlt
   clear hb2 c6
   by_cases hok : regOk r
   ·have e0 : (sizeE r != 0) = false := by simp [sizeE, hok]
    have HOK := Lib.hid hok
    clear hok
    go_wp2_with fail
    go_roundg (n - (k + 1))
    case measure => have := HG.out; omega
    case rel =>
     refine ⟨⟨k + 1, by go_num, by omega, rfl, fun j h hj => ?_, hbel2⟩, hB2⟩
     by_cases hjk : j < k
     ·exact HREG.out j h hjk
     ·obtain rfl : j = k := by omega
      rw [← HR.out]
      exact HOK.out
   ·have e0 : (sizeE r != 0) = true := by simp [sizeE, hok]
    have e1 : sizeE r = 13 := by simp [sizeE, hok]
    have HOK := Lib.hid hok
    clear hok
    go_wp2_with fail
    go_ret
    exact ⟨congrArg (fun z => Ending.returned (.int .i64 z)) (checkF_no (fun h => HOK.out (h.2.2.2.2.2.2.2.2.2.2.2 r (by rw [HR.out]; exact List.getElem_mem _)))).symm, hbel2⟩
  ·obtain rfl : k = n := by omega
   go_wp2_with fail
   go_ret
   refine ⟨congrArg (fun z => Ending.returned (.int .i64 z)) (checkF_yes ?_).symm, hbel⟩
   exact ⟨by simp only; omega, by simp only; omega, by simp only; omega, by simp only; omega, by simp only; omega, by simp only; omega, by simp only; omega, by simp only; omega, by simp only; omega, by simp only; omega, by rw [HL.out]; omega, fun r hr => by
    obtain ⟨j, hj, rfl⟩ := List.getElem_of_mem hr
    exact HREG.out j hj (by rw [← HL.out]; exact hj)⟩
end Go.Proofs.YtiheggkkgbfndaaGreatDoor
