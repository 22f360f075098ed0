/- carouselref24: a line, walked. -/
import Derived.Test.YtiheggkkgbfndaaGreatDoorK28
import Derived.Test.YtiheggkkgbfndaaGreatDoorK01
import Derived.SizedLaws
import Derived.Carry
import Derived.BigQuiet
import Derived.Deep.QuietTactic
import Derived.Deep.DeepMust
import Derived.Deep.RegionWith
import Derived.Deep.LoopGhost
namespace Go.Proofs.YtiheggkkgbfndaaGreatDoor
open Go.RowKit Go.Joins Go.ChangeShapes Go.WideShapes Go.Deep
set_option linter.unusedVariables false
set_option linter.unusedSimpArgs false
set_option maxRecDepth 100000
end Go.Proofs.YtiheggkkgbfndaaGreatDoor
namespace Go.Proofs.YtiheggkkgbfndaaGreatDoor
open Go.RowKit Go.Joins Go.ChangeShapes Go.WideShapes Go.ChangeAt Go.Deep
set_option linter.unusedVariables false
set_option linter.unusedSimpArgs false
theorem own : ownKnob Tryz.prog.godebug = none := by kernel_rfl
theorem laidOut : laidOutB Tryz.prog = true := by kernel_rfl


section
variable {H : Type} {enc : TypeId × Value → H} {P : Program} {w : World}

theorem Below.trodAll {ts : List TypeId} {vs : List Value} {ds : List (DataW H)} {p : List MemPlace} (hl : laidOutB P = true) (hr : ∀ t ∈ ts, P.readableRec t = true ∧ t < P.types.size) {W W' : World}
  (h : DataW.TrodAll enc P W 0 (fun _ => true) true ts vs ds p) (hb : Below W.heap.size W W') (hlt : ∀ x ∈ p, x.block < W.heap.size) :
  DataW.TrodAll enc P W' 0 (fun b => decide (b < W.heap.size)) true ts vs ds p := by
 induction ts generalizing vs ds p with
 | nil =>
  obtain ⟨rfl, rfl, rfl⟩ := trodAll_nil h
  exact trodAll_mk0
 | cons t ts ih =>
  obtain ⟨v0, vs0, d0, ds0, p0, q0, rfl, rfl, rfl, h0, r0⟩ := trodAll_cons h
  have ht := hr t (by simp)
  exact trodAll_cons_mk (Below.trod hl ht.1 ht.2 h0 hb (fun x hx => hlt x (by simp [hx]))) (ih (fun u hu => hr u (by simp [hu])) r0 (fun x hx => hlt x (by simp [hx])))

end
end Go.Proofs.YtiheggkkgbfndaaGreatDoor
namespace Go.Proofs.YtiheggkkgbfndaaGreatDoor
open Go.RowKit Go.Joins Go.ChangeShapes Go.WideShapes Go.Deep
set_option linter.unusedVariables false
set_option linter.unusedSimpArgs false
set_option maxRecDepth 100000
def Reg.cells (r : Reg) : List Value := [.int .i64 r.kind, .int .i64 r.cap]
def sizeI (r : Reg) : Int := if r.kind = 1 then r.cap else if r.kind = 2 then r.cap + 2 else if r.kind = 3 then 3 * r.cap + 1 else 2 * r.cap + 3
def checkF (c : Cfg) (l : List Reg) : Int := if cfgOk c l then 0 else 13

theorem within_any (n a b : Int) (w : World) : Calls Tryz.prog 47 #[.int .i64 n, .int .i64 a, .int .i64 b] w fun e w' => e = .returned (.bool (decide (a ≤ n ∧ n ≤ b))) ∧ w = w' := by
 by_cases h1 : a ≤ n
 ·by_cases h2 : n ≤ b
  ·have hr : decide (a ≤ n ∧ n ≤ b) = true := by simp [h1, h2]
   rw [hr]
   go_enter Tryz.func47, Tryz.ntmps47
   go_wp2
   go_ret
   exact ⟨rfl, rfl⟩
  ·have hr : decide (a ≤ n ∧ n ≤ b) = false := by simp [h2]
   rw [hr]
   have e2 : decide (n ≤ b) = false := by simp [h2]
   clear hr
   go_enter Tryz.func47, Tryz.ntmps47
   go_wp2
   go_ret
   exact ⟨rfl, rfl⟩
 ·have hr : decide (a ≤ n ∧ n ≤ b) = false := by simp [h1]
  rw [hr]
  have e1 : decide (a ≤ n) = false := by simp [h1]
  clear hr
  go_enter Tryz.func47, Tryz.ntmps47
  go_wp2
  go_ret
  exact ⟨rfl, rfl⟩
theorem within64_any (n a b : Int) (w : World) : Calls Tryz.prog 48 #[.int .i64 n, .int .i64 a, .int .i64 b] w fun e w' => e = .returned (.bool (decide (a ≤ n ∧ n ≤ b))) ∧ w = w' := by
 by_cases h1 : a ≤ n
 ·by_cases h2 : n ≤ b
  ·have hr : decide (a ≤ n ∧ n ≤ b) = true := by simp [h1, h2]
   rw [hr]
   go_enter Tryz.func48, Tryz.ntmps48
   go_wp2
   go_ret
   exact ⟨rfl, rfl⟩
  ·have hr : decide (a ≤ n ∧ n ≤ b) = false := by simp [h2]
   rw [hr]
   have e2 : decide (n ≤ b) = false := by simp [h2]
   clear hr
   go_enter Tryz.func48, Tryz.ntmps48
   go_wp2
   go_ret
   exact ⟨rfl, rfl⟩
 ·have hr : decide (a ≤ n ∧ n ≤ b) = false := by simp [h1]
  rw [hr]
  have e1 : decide (a ≤ n) = false := by simp [h1]
  clear hr
  go_enter Tryz.func48, Tryz.ntmps48
  go_wp2
  go_ret
  exact ⟨rfl, rfl⟩

theorem csize_any (m : Int) (w : World) (h0 : 0 ≤ m) (h1 : m ≤ 16) : Calls Tryz.prog 82 #[.int .i64 m] w fun e w' => e = .returned (.int .i64 (m)) ∧ w = w' := by
 have g1 : decide (m < 0) = false := by simp; omega
 have g2 : decide (16 < m) = false := by simp; omega
 go_enter Tryz.func82, Tryz.ntmps82
 go_wp2
 go_ret
 exact ⟨rfl, rfl⟩
theorem qsize_any (m : Int) (w : World) (h0 : 0 ≤ m) (h1 : m ≤ 16) : Calls Tryz.prog 83 #[.int .i64 m] w fun e w' => e = .returned (.int .i64 (m + 2)) ∧ w = w' := by
 have g1 : decide (m < 0) = false := by simp; omega
 have g2 : decide (16 < m) = false := by simp; omega
 go_enter Tryz.func83, Tryz.ntmps83
 go_wp2
 go_ret
 exact ⟨rfl, rfl⟩
theorem dsize_any (m : Int) (w : World) (h0 : 0 ≤ m) (h1 : m ≤ 16) : Calls Tryz.prog 84 #[.int .i64 m] w fun e w' => e = .returned (.int .i64 (3 * m + 1)) ∧ w = w' := by
 have g1 : decide (m < 0) = false := by simp; omega
 have g2 : decide (16 < m) = false := by simp; omega
 go_enter Tryz.func84, Tryz.ntmps84
 go_wp2
 go_ret
 exact ⟨rfl, rfl⟩
theorem hsize_any (m : Int) (w : World) (h0 : 0 ≤ m) (h1 : m ≤ 16) : Calls Tryz.prog 85 #[.int .i64 m] w fun e w' => e = .returned (.int .i64 (2 * m + 3)) ∧ w = w' := by
 have g1 : decide (m < 0) = false := by simp; omega
 have g2 : decide (16 < m) = false := by simp; omega
 go_enter Tryz.func85, Tryz.ntmps85
 go_wp2
 go_ret
 exact ⟨rfl, rfl⟩
theorem right_any (m : Int) (w : World) : Calls Tryz.prog 90 #[.int .i64 m] w fun e w' => e = .returned (.bool (decide (0 ≤ m ∧ m ≤ 16))) ∧ w = w' := by
 by_cases h1 : 0 ≤ m
 ·by_cases h2 : m ≤ 16
  ·have hr : decide (0 ≤ m ∧ m ≤ 16) = true := by simp [h1, h2]
   rw [hr]
   go_enter Tryz.func90, Tryz.ntmps90
   go_wp2
   go_ret
   exact ⟨rfl, rfl⟩
  ·have hr : decide (0 ≤ m ∧ m ≤ 16) = false := by simp [h2]
   rw [hr]
   have e2 : decide (m ≤ 16) = false := by simp [h2]
   clear hr
   go_enter Tryz.func90, Tryz.ntmps90
   go_wp2
   go_ret
   exact ⟨rfl, rfl⟩
 ·have hr : decide (0 ≤ m ∧ m ≤ 16) = false := by simp [h1]
  rw [hr]
  have e1 : decide (0 ≤ m) = false := by simp [h1]
  clear hr
  go_enter Tryz.func90, Tryz.ntmps90
  go_wp2
  go_ret
  exact ⟨rfl, rfl⟩

theorem r15size_any (m : Int) (w : World) (h0 : 0 ≤ m) (h1 : m ≤ 16) : Calls Tryz.prog 91 #[.int .i64 m] w fun e w' => e = .returned (.int .i64 (m)) ∧ w = w' := by
 have em : decide (0 ≤ m ∧ m ≤ 16) = true := by simp [h0, h1]
 have HR := right_any m
 rw [em] at HR
 clear em
 go_enter Tryz.func91, Tryz.ntmps91
 go_wp2_with fail
 refine (HR _).mono ?_
 rintro e w2 ⟨rfl, rfl⟩
 go_wp2_with fail
 go_ret
 exact ⟨rfl, rfl⟩
theorem r16size_any (m : Int) (w : World) (h0 : 0 ≤ m) (h1 : m ≤ 16) : Calls Tryz.prog 92 #[.int .i64 m] w fun e w' => e = .returned (.int .i64 (m + 2)) ∧ w = w' := by
 have em : decide (0 ≤ m ∧ m ≤ 16) = true := by simp [h0, h1]
 have HR := right_any m
 rw [em] at HR
 clear em
 go_enter Tryz.func92, Tryz.ntmps92
 go_wp2_with fail
 refine (HR _).mono ?_
 rintro e w2 ⟨rfl, rfl⟩
 go_wp2_with fail
 go_ret
 exact ⟨rfl, rfl⟩
theorem r17size_any (m : Int) (w : World) (h0 : 0 ≤ m) (h1 : m ≤ 16) : Calls Tryz.prog 93 #[.int .i64 m] w fun e w' => e = .returned (.int .i64 (3 * m + 1)) ∧ w = w' := by
 have em : decide (0 ≤ m ∧ m ≤ 16) = true := by simp [h0, h1]
 have HR := right_any m
 rw [em] at HR
 clear em
 go_enter Tryz.func93, Tryz.ntmps93
 go_wp2_with fail
 refine (HR _).mono ?_
 rintro e w2 ⟨rfl, rfl⟩
 go_wp2_with fail
 go_ret
 exact ⟨rfl, rfl⟩
theorem r18size_any (m : Int) (w : World) (h0 : 0 ≤ m) (h1 : m ≤ 16) : Calls Tryz.prog 94 #[.int .i64 m] w fun e w' => e = .returned (.int .i64 (2 * m + 3)) ∧ w = w' := by
 have em : decide (0 ≤ m ∧ m ≤ 16) = true := by simp [h0, h1]
 have HR := right_any m
 rw [em] at HR
 clear em
 go_enter Tryz.func94, Tryz.ntmps94
 go_wp2_with fail
 refine (HR _).mono ?_
 rintro e w2 ⟨rfl, rfl⟩
 go_wp2_with fail
 go_ret
 exact ⟨rfl, rfl⟩
def sizeE (r : Reg) : Int := if regOk r then 0 else 13
def sizeV (r : Reg) : Int := if regOk r then sizeI r else 0

theorem psize_1 (cap : Int) (w : World) (h0 : 0 ≤ cap) (h1 : cap ≤ 16) : Calls Tryz.prog 49 #[.agg #[.int .i64 1, .int .i64 cap]] w fun e w' => e = .returned (.tuple #[.int .i64 (cap), .int .i64 0]) ∧ Below w.heap.size w w' := by
 have em : decide ((0 : Int) ≤ cap ∧ cap ≤ 16) = true := by simp [h0, h1]
 have HW := within_any cap 0 16
 rw [em] at HW
 have HK := within_any 1 1 4
 rw [show decide ((1 : Int) ≤ 1 ∧ (1 : Int) ≤ 4) = true from by decide] at HK
 clear em
 go_enter Tryz.func49, Tryz.ntmps49
 go_wp2_with fail
 refine (HK _).mono ?_
 rintro e w2 ⟨rfl, rfl⟩
 go_wp2_with fail
 refine (HW _).mono ?_
 rintro e w2 ⟨rfl, rfl⟩
 clear HW HK
 go_wp2_with fail
 go_quiet (exact Calls.quiet_of_same ((csize_any cap _ h0 h1).mono fun _ _ h => ⟨h.1, h.2.symm⟩))
 go_wp2
 go_ret2
 exact ⟨rfl, by repeat (first | with_reducible exact Below.refl _ _ | with_reducible refine Below.drew ?_ | with_reducible refine below_drewN ?_ _ | ((with_reducible refine Below.alloc ?_ ?_ _); (rotate_left; focus (first | with_reducible exact Nat.le_refl _ | omega | (simp; done) | (simp; omega) | (simp [World.setCell]; done) | (simp [World.setCell]; omega)))) | ((with_reducible refine Below.setCell ?_ ?_ _); (rotate_left; focus (first | with_reducible exact Nat.le_refl _ | omega | (simp; done) | (simp; omega) | (simp [World.setCell]; done) | (simp [World.setCell]; omega)))))⟩
theorem psize_2 (cap : Int) (w : World) (h0 : 0 ≤ cap) (h1 : cap ≤ 16) : Calls Tryz.prog 49 #[.agg #[.int .i64 2, .int .i64 cap]] w fun e w' => e = .returned (.tuple #[.int .i64 (cap + 2), .int .i64 0]) ∧ Below w.heap.size w w' := by
 have em : decide ((0 : Int) ≤ cap ∧ cap ≤ 16) = true := by simp [h0, h1]
 have HW := within_any cap 0 16
 rw [em] at HW
 have HK := within_any 2 1 4
 rw [show decide ((1 : Int) ≤ 2 ∧ (2 : Int) ≤ 4) = true from by decide] at HK
 clear em
 go_enter Tryz.func49, Tryz.ntmps49
 go_wp2_with fail
 refine (HK _).mono ?_
 rintro e w2 ⟨rfl, rfl⟩
 go_wp2_with fail
 refine (HW _).mono ?_
 rintro e w2 ⟨rfl, rfl⟩
 clear HW HK
 go_wp2_with fail
 go_quiet (exact Calls.quiet_of_same ((qsize_any cap _ h0 h1).mono fun _ _ h => ⟨h.1, h.2.symm⟩))
 go_wp2
 go_ret2
 exact ⟨rfl, by repeat (first | with_reducible exact Below.refl _ _ | with_reducible refine Below.drew ?_ | with_reducible refine below_drewN ?_ _ | ((with_reducible refine Below.alloc ?_ ?_ _); (rotate_left; focus (first | with_reducible exact Nat.le_refl _ | omega | (simp; done) | (simp; omega) | (simp [World.setCell]; done) | (simp [World.setCell]; omega)))) | ((with_reducible refine Below.setCell ?_ ?_ _); (rotate_left; focus (first | with_reducible exact Nat.le_refl _ | omega | (simp; done) | (simp; omega) | (simp [World.setCell]; done) | (simp [World.setCell]; omega)))))⟩
theorem psize_3 (cap : Int) (w : World) (h0 : 0 ≤ cap) (h1 : cap ≤ 16) : Calls Tryz.prog 49 #[.agg #[.int .i64 3, .int .i64 cap]] w fun e w' => e = .returned (.tuple #[.int .i64 (3 * cap + 1), .int .i64 0]) ∧ Below w.heap.size w w' := by
 have em : decide ((0 : Int) ≤ cap ∧ cap ≤ 16) = true := by simp [h0, h1]
 have HW := within_any cap 0 16
 rw [em] at HW
 have HK := within_any 3 1 4
 rw [show decide ((1 : Int) ≤ 3 ∧ (3 : Int) ≤ 4) = true from by decide] at HK
 clear em
 go_enter Tryz.func49, Tryz.ntmps49
 go_wp2_with fail
 refine (HK _).mono ?_
 rintro e w2 ⟨rfl, rfl⟩
 go_wp2_with fail
 refine (HW _).mono ?_
 rintro e w2 ⟨rfl, rfl⟩
 clear HW HK
 go_wp2_with fail
 go_quiet (exact Calls.quiet_of_same ((dsize_any cap _ h0 h1).mono fun _ _ h => ⟨h.1, h.2.symm⟩))
 go_wp2
 go_ret2
 exact ⟨rfl, by repeat (first | with_reducible exact Below.refl _ _ | with_reducible refine Below.drew ?_ | with_reducible refine below_drewN ?_ _ | ((with_reducible refine Below.alloc ?_ ?_ _); (rotate_left; focus (first | with_reducible exact Nat.le_refl _ | omega | (simp; done) | (simp; omega) | (simp [World.setCell]; done) | (simp [World.setCell]; omega)))) | ((with_reducible refine Below.setCell ?_ ?_ _); (rotate_left; focus (first | with_reducible exact Nat.le_refl _ | omega | (simp; done) | (simp; omega) | (simp [World.setCell]; done) | (simp [World.setCell]; omega)))))⟩
theorem psize_4 (cap : Int) (w : World) (h0 : 0 ≤ cap) (h1 : cap ≤ 16) : Calls Tryz.prog 49 #[.agg #[.int .i64 4, .int .i64 cap]] w fun e w' => e = .returned (.tuple #[.int .i64 (2 * cap + 3), .int .i64 0]) ∧ Below w.heap.size w w' := by
 have em : decide ((0 : Int) ≤ cap ∧ cap ≤ 16) = true := by simp [h0, h1]
 have HW := within_any cap 0 16
 rw [em] at HW
 have HK := within_any 4 1 4
 rw [show decide ((1 : Int) ≤ 4 ∧ (4 : Int) ≤ 4) = true from by decide] at HK
 clear em
 go_enter Tryz.func49, Tryz.ntmps49
 go_wp2_with fail
 refine (HK _).mono ?_
 rintro e w2 ⟨rfl, rfl⟩
 go_wp2_with fail
 refine (HW _).mono ?_
 rintro e w2 ⟨rfl, rfl⟩
 clear HW HK
 go_wp2_with fail
 go_quiet (exact Calls.quiet_of_same ((hsize_any cap _ h0 h1).mono fun _ _ h => ⟨h.1, h.2.symm⟩))
 go_wp2
 go_ret2
 exact ⟨rfl, by repeat (first | with_reducible exact Below.refl _ _ | with_reducible refine Below.drew ?_ | with_reducible refine below_drewN ?_ _ | ((with_reducible refine Below.alloc ?_ ?_ _); (rotate_left; focus (first | with_reducible exact Nat.le_refl _ | omega | (simp; done) | (simp; omega) | (simp [World.setCell]; done) | (simp [World.setCell]; omega)))) | ((with_reducible refine Below.setCell ?_ ?_ _); (rotate_left; focus (first | with_reducible exact Nat.le_refl _ | omega | (simp; done) | (simp; omega) | (simp [World.setCell]; done) | (simp [World.setCell]; omega)))))⟩
theorem psize_no (kind cap : Int) (w : World) (hno : ¬ regOk ⟨kind, cap⟩) : Calls Tryz.prog 49 #[.agg #[.int .i64 kind, .int .i64 cap]] w fun e w' => e = .returned (.tuple #[.int .i64 0, .int .i64 13]) ∧ Below w.heap.size w w' := by
 by_cases hk : 1 ≤ kind ∧ kind ≤ 4
 ·have hc : ¬ (0 ≤ cap ∧ cap ≤ 16) := fun h => hno ⟨hk.1, hk.2, h.1, h.2⟩
  have HK := within_any kind 1 4
  rw [show decide (1 ≤ kind ∧ kind ≤ 4) = true from by simpa using hk] at HK
  have HW := within_any cap 0 16
  rw [show decide (0 ≤ cap ∧ cap ≤ 16) = false from decide_eq_false hc] at HW
  clear hno hk hc
  go_enter Tryz.func49, Tryz.ntmps49
  go_wp2_with fail
  refine (HK _).mono ?_
  rintro e w2 ⟨rfl, rfl⟩
  go_wp2_with fail
  refine (HW _).mono ?_
  rintro e w2 ⟨rfl, rfl⟩
  go_wp2_with fail
  go_ret2
  exact ⟨rfl, by repeat (first | with_reducible exact Below.refl _ _ | with_reducible refine Below.drew ?_ | with_reducible refine below_drewN ?_ _ | ((with_reducible refine Below.alloc ?_ ?_ _); (rotate_left; focus (first | with_reducible exact Nat.le_refl _ | omega | (simp; done) | (simp; omega) | (simp [World.setCell]; done) | (simp [World.setCell]; omega)))) | ((with_reducible refine Below.setCell ?_ ?_ _); (rotate_left; focus (first | with_reducible exact Nat.le_refl _ | omega | (simp; done) | (simp; omega) | (simp [World.setCell]; done) | (simp [World.setCell]; omega)))))⟩
 ·have HK := within_any kind 1 4
  rw [show decide (1 ≤ kind ∧ kind ≤ 4) = false from decide_eq_false hk] at HK
  clear hno hk
  go_enter Tryz.func49, Tryz.ntmps49
  go_wp2_with fail
  refine (HK _).mono ?_
  rintro e w2 ⟨rfl, rfl⟩
  go_wp2_with fail
  go_ret2
  exact ⟨rfl, by repeat (first | with_reducible exact Below.refl _ _ | with_reducible refine Below.drew ?_ | with_reducible refine below_drewN ?_ _ | ((with_reducible refine Below.alloc ?_ ?_ _); (rotate_left; focus (first | with_reducible exact Nat.le_refl _ | omega | (simp; done) | (simp; omega) | (simp [World.setCell]; done) | (simp [World.setCell]; omega)))) | ((with_reducible refine Below.setCell ?_ ?_ _); (rotate_left; focus (first | with_reducible exact Nat.le_refl _ | omega | (simp; done) | (simp; omega) | (simp [World.setCell]; done) | (simp [World.setCell]; omega)))))⟩

theorem psize_any (r : Reg) (w : World) : Calls Tryz.prog 49 #[.agg #[.int .i64 r.kind, .int .i64 r.cap]] w fun e w' => e = .returned (.tuple #[.int .i64 (sizeV r), .int .i64 (sizeE r)]) ∧ Below w.heap.size w w' := by
 obtain ⟨kind, cap⟩ := r
 by_cases hok : regOk ⟨kind, cap⟩
 ·have h := hok
  obtain ⟨h1, h2, h3, h4⟩ := hok
  simp only at h1 h2 h3 h4
  have e2 : sizeE ⟨kind, cap⟩ = 0 := by simp [sizeE, h]
  have e1 : sizeV ⟨kind, cap⟩ = sizeI ⟨kind, cap⟩ := by simp [sizeV, h]
  rw [e1, e2]
  clear h e1 e2
  rcases show kind = 1 ∨ kind = 2 ∨ kind = 3 ∨ kind = 4 by omega with rfl | rfl | rfl | rfl
  ·exact psize_1 cap w h3 h4
  ·exact psize_2 cap w h3 h4
  ·exact psize_3 cap w h3 h4
  ·exact psize_4 cap w h3 h4
 ·have e2 : sizeE ⟨kind, cap⟩ = 13 := by simp [sizeE, hok]
  have e1 : sizeV ⟨kind, cap⟩ = 0 := by simp [sizeV, hok]
  rw [e1, e2]
  exact psize_no kind cap w hok

theorem rsize_1 (cap : Int) (w : World) (h0 : 0 ≤ cap) (h1 : cap ≤ 16) : Calls Tryz.prog 59 #[.agg #[.int .i64 1, .int .i64 cap]] w fun e w' => e = .returned (.tuple #[.int .i64 (cap), .int .i64 0]) ∧ Below w.heap.size w w' := by
 have HW := right_any cap
 rw [show decide ((0 : Int) ≤ cap ∧ cap ≤ 16) = true from by simp [h0, h1]] at HW
 go_enter Tryz.func59, Tryz.ntmps59
 go_wp2_with fail
 refine (HW _).mono ?_
 rintro e w2 ⟨rfl, rfl⟩
 clear HW
 go_wp2_with fail
 refine (r15size_any cap _ h0 h1).mono ?_
 rintro e w2 ⟨rfl, rfl⟩
 go_wp2_with fail
 go_ret2
 exact ⟨rfl, by repeat (first | with_reducible exact Below.refl _ _ | with_reducible refine Below.drew ?_ | with_reducible refine below_drewN ?_ _ | ((with_reducible refine Below.alloc ?_ ?_ _); (rotate_left; focus (first | with_reducible exact Nat.le_refl _ | omega | (simp; done) | (simp; omega) | (simp [World.setCell]; done) | (simp [World.setCell]; omega)))) | ((with_reducible refine Below.setCell ?_ ?_ _); (rotate_left; focus (first | with_reducible exact Nat.le_refl _ | omega | (simp; done) | (simp; omega) | (simp [World.setCell]; done) | (simp [World.setCell]; omega)))))⟩
theorem rsize_2 (cap : Int) (w : World) (h0 : 0 ≤ cap) (h1 : cap ≤ 16) : Calls Tryz.prog 59 #[.agg #[.int .i64 2, .int .i64 cap]] w fun e w' => e = .returned (.tuple #[.int .i64 (cap + 2), .int .i64 0]) ∧ Below w.heap.size w w' := by
 have HW := right_any cap
 rw [show decide ((0 : Int) ≤ cap ∧ cap ≤ 16) = true from by simp [h0, h1]] at HW
 go_enter Tryz.func59, Tryz.ntmps59
 go_wp2_with fail
 refine (HW _).mono ?_
 rintro e w2 ⟨rfl, rfl⟩
 clear HW
 go_wp2_with fail
 refine (r16size_any cap _ h0 h1).mono ?_
 rintro e w2 ⟨rfl, rfl⟩
 go_wp2_with fail
 go_ret2
 exact ⟨rfl, by repeat (first | with_reducible exact Below.refl _ _ | with_reducible refine Below.drew ?_ | with_reducible refine below_drewN ?_ _ | ((with_reducible refine Below.alloc ?_ ?_ _); (rotate_left; focus (first | with_reducible exact Nat.le_refl _ | omega | (simp; done) | (simp; omega) | (simp [World.setCell]; done) | (simp [World.setCell]; omega)))) | ((with_reducible refine Below.setCell ?_ ?_ _); (rotate_left; focus (first | with_reducible exact Nat.le_refl _ | omega | (simp; done) | (simp; omega) | (simp [World.setCell]; done) | (simp [World.setCell]; omega)))))⟩
theorem rsize_3 (cap : Int) (w : World) (h0 : 0 ≤ cap) (h1 : cap ≤ 16) : Calls Tryz.prog 59 #[.agg #[.int .i64 3, .int .i64 cap]] w fun e w' => e = .returned (.tuple #[.int .i64 (3 * cap + 1), .int .i64 0]) ∧ Below w.heap.size w w' := by
 have HW := right_any cap
 rw [show decide ((0 : Int) ≤ cap ∧ cap ≤ 16) = true from by simp [h0, h1]] at HW
 go_enter Tryz.func59, Tryz.ntmps59
 go_wp2_with fail
 refine (HW _).mono ?_
 rintro e w2 ⟨rfl, rfl⟩
 clear HW
 go_wp2_with fail
 refine (r17size_any cap _ h0 h1).mono ?_
 rintro e w2 ⟨rfl, rfl⟩
 go_wp2_with fail
 go_ret2
 exact ⟨rfl, by repeat (first | with_reducible exact Below.refl _ _ | with_reducible refine Below.drew ?_ | with_reducible refine below_drewN ?_ _ | ((with_reducible refine Below.alloc ?_ ?_ _); (rotate_left; focus (first | with_reducible exact Nat.le_refl _ | omega | (simp; done) | (simp; omega) | (simp [World.setCell]; done) | (simp [World.setCell]; omega)))) | ((with_reducible refine Below.setCell ?_ ?_ _); (rotate_left; focus (first | with_reducible exact Nat.le_refl _ | omega | (simp; done) | (simp; omega) | (simp [World.setCell]; done) | (simp [World.setCell]; omega)))))⟩
theorem rsize_4 (cap : Int) (w : World) (h0 : 0 ≤ cap) (h1 : cap ≤ 16) : Calls Tryz.prog 59 #[.agg #[.int .i64 4, .int .i64 cap]] w fun e w' => e = .returned (.tuple #[.int .i64 (2 * cap + 3), .int .i64 0]) ∧ Below w.heap.size w w' := by
 have HW := right_any cap
 rw [show decide ((0 : Int) ≤ cap ∧ cap ≤ 16) = true from by simp [h0, h1]] at HW
 go_enter Tryz.func59, Tryz.ntmps59
 go_wp2_with fail
 refine (HW _).mono ?_
 rintro e w2 ⟨rfl, rfl⟩
 clear HW
 go_wp2_with fail
 refine (r18size_any cap _ h0 h1).mono ?_
 rintro e w2 ⟨rfl, rfl⟩
 go_wp2_with fail
 go_ret2
 exact ⟨rfl, by repeat (first | with_reducible exact Below.refl _ _ | with_reducible refine Below.drew ?_ | with_reducible refine below_drewN ?_ _ | ((with_reducible refine Below.alloc ?_ ?_ _); (rotate_left; focus (first | with_reducible exact Nat.le_refl _ | omega | (simp; done) | (simp; omega) | (simp [World.setCell]; done) | (simp [World.setCell]; omega)))) | ((with_reducible refine Below.setCell ?_ ?_ _); (rotate_left; focus (first | with_reducible exact Nat.le_refl _ | omega | (simp; done) | (simp; omega) | (simp [World.setCell]; done) | (simp [World.setCell]; omega)))))⟩
theorem rsize_no (kind cap : Int) (w : World) (hno : ¬ regOk ⟨kind, cap⟩) : Calls Tryz.prog 59 #[.agg #[.int .i64 kind, .int .i64 cap]] w fun e w' => e = .returned (.tuple #[.int .i64 0, .int .i64 13]) ∧ Below w.heap.size w w' := by
 by_cases hc : 0 ≤ cap ∧ cap ≤ 16
 ·have HW := right_any cap
  rw [show decide (0 ≤ cap ∧ cap ≤ 16) = true from by simpa using hc] at HW
  have e1 : (kind == 1) = false := by simp; rintro rfl; exact hno ⟨by simp, by simp, hc.1, hc.2⟩
  have e2 : (kind == 2) = false := by simp; rintro rfl; exact hno ⟨by simp, by simp, hc.1, hc.2⟩
  have e3 : (kind == 3) = false := by simp; rintro rfl; exact hno ⟨by simp, by simp, hc.1, hc.2⟩
  have e4 : (kind == 4) = false := by simp; rintro rfl; exact hno ⟨by simp, by simp, hc.1, hc.2⟩
  clear hno hc
  go_enter Tryz.func59, Tryz.ntmps59
  go_wp2_with fail
  refine (HW _).mono ?_
  rintro e w2 ⟨rfl, rfl⟩
  go_wp2_with fail
  go_ret2
  exact ⟨rfl, by repeat (first | with_reducible exact Below.refl _ _ | with_reducible refine Below.drew ?_ | with_reducible refine below_drewN ?_ _ | ((with_reducible refine Below.alloc ?_ ?_ _); (rotate_left; focus (first | with_reducible exact Nat.le_refl _ | omega | (simp; done) | (simp; omega) | (simp [World.setCell]; done) | (simp [World.setCell]; omega)))) | ((with_reducible refine Below.setCell ?_ ?_ _); (rotate_left; focus (first | with_reducible exact Nat.le_refl _ | omega | (simp; done) | (simp; omega) | (simp [World.setCell]; done) | (simp [World.setCell]; omega)))))⟩
 ·have HW := right_any cap
  rw [show decide (0 ≤ cap ∧ cap ≤ 16) = false from decide_eq_false hc] at HW
  clear hno hc
  go_enter Tryz.func59, Tryz.ntmps59
  go_wp2_with fail
  refine (HW _).mono ?_
  rintro e w2 ⟨rfl, rfl⟩
  go_wp2_with fail
  go_ret2
  exact ⟨rfl, by repeat (first | with_reducible exact Below.refl _ _ | with_reducible refine Below.drew ?_ | with_reducible refine below_drewN ?_ _ | ((with_reducible refine Below.alloc ?_ ?_ _); (rotate_left; focus (first | with_reducible exact Nat.le_refl _ | omega | (simp; done) | (simp; omega) | (simp [World.setCell]; done) | (simp [World.setCell]; omega)))) | ((with_reducible refine Below.setCell ?_ ?_ _); (rotate_left; focus (first | with_reducible exact Nat.le_refl _ | omega | (simp; done) | (simp; omega) | (simp [World.setCell]; done) | (simp [World.setCell]; omega)))))⟩

theorem rsize_any (r : Reg) (w : World) : Calls Tryz.prog 59 #[.agg #[.int .i64 r.kind, .int .i64 r.cap]] w fun e w' => e = .returned (.tuple #[.int .i64 (sizeV r), .int .i64 (sizeE r)]) ∧ Below w.heap.size w w' := by
 obtain ⟨kind, cap⟩ := r
 by_cases hok : regOk ⟨kind, cap⟩
 ·have h := hok
  obtain ⟨h1, h2, h3, h4⟩ := hok
  simp only at h1 h2 h3 h4
  have e2 : sizeE ⟨kind, cap⟩ = 0 := by simp [sizeE, h]
  have e1 : sizeV ⟨kind, cap⟩ = sizeI ⟨kind, cap⟩ := by simp [sizeV, h]
  rw [e1, e2]
  clear h e1 e2
  rcases show kind = 1 ∨ kind = 2 ∨ kind = 3 ∨ kind = 4 by omega with rfl | rfl | rfl | rfl
  ·exact rsize_1 cap w h3 h4
  ·exact rsize_2 cap w h3 h4
  ·exact rsize_3 cap w h3 h4
  ·exact rsize_4 cap w h3 h4
 ·have e2 : sizeE ⟨kind, cap⟩ = 13 := by simp [sizeE, hok]
  have e1 : sizeV ⟨kind, cap⟩ = 0 := by simp [sizeV, hok]
  rw [e1, e2]
  exact rsize_no kind cap w hok
end Go.Proofs.YtiheggkkgbfndaaGreatDoor
