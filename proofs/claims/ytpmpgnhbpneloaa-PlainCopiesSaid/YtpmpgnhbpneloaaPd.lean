/- What place.Size and the document's Size do. -/
import Derived.Test.YtpmpgnhbpneloaaPc
namespace Go.Proofs.Ytpmpgnhbpneloaa
open Go.RowKit Go.Joins Go.ChangeShapes Go.WideShapes Go.Deep
set_option linter.unusedVariables false
set_option maxRecDepth 100000

def sizeE (r : Reg) : Int := if regOk r then 0 else 13
def sizeV (r : Reg) : Int := if regOk r then sizeI r else 0

theorem psize_1 (cap : Int) (w : World) (h0 : 0 ≤ cap) (h1 : cap ≤ 16) : Calls Try.prog 63 #[.agg #[.int .i64 1, .int .i64 cap]] w fun e w' => e = .returned (.tuple #[.int .i64 (cap), .int .i64 0]) ∧ Below w.heap.size w w' := by
  have em : decide ((0 : Int) ≤ cap ∧ cap ≤ 16) = true := by simp [h0, h1]
  have HW := within_any cap 0 16
  rw [em] at HW
  have HK := within_any 1 1 4
  rw [show decide ((1 : Int) ≤ 1 ∧ (1 : Int) ≤ 4) = true from by decide] at HK
  clear em
  go_enter Try.func63, Try.ntmps63
  go_wp2_with fail
  refine (HK _).mono ?_
  rintro e w2 ⟨rfl, rfl⟩
  go_wp2_with fail
  refine (HW _).mono ?_
  rintro e w2 ⟨rfl, rfl⟩
  clear HW HK
  go_wp2_with fail
  go_quiet (exact Calls.quiet_of_same ((csize_any cap _ h0 h1).mono fun _ _ h => ⟨h.1, h.2.symm⟩))
  go_wp2
  go_ret2
  exact ⟨rfl, by repeat (first | with_reducible exact Below.refl _ _ | with_reducible refine Below.drew ?_ | with_reducible refine below_drewN ?_ _ | ((with_reducible refine Below.alloc ?_ ?_ _); (rotate_left; focus (first | with_reducible exact Nat.le_refl _ | omega | (simp; done) | (simp; omega) | (simp [World.setCell]; done) | (simp [World.setCell]; omega)))) | ((with_reducible refine Below.setCell ?_ ?_ _); (rotate_left; focus (first | with_reducible exact Nat.le_refl _ | omega | (simp; done) | (simp; omega) | (simp [World.setCell]; done) | (simp [World.setCell]; omega)))))⟩
theorem psize_2 (cap : Int) (w : World) (h0 : 0 ≤ cap) (h1 : cap ≤ 16) : Calls Try.prog 63 #[.agg #[.int .i64 2, .int .i64 cap]] w fun e w' => e = .returned (.tuple #[.int .i64 (cap + 2), .int .i64 0]) ∧ Below w.heap.size w w' := by
  have em : decide ((0 : Int) ≤ cap ∧ cap ≤ 16) = true := by simp [h0, h1]
  have HW := within_any cap 0 16
  rw [em] at HW
  have HK := within_any 2 1 4
  rw [show decide ((1 : Int) ≤ 2 ∧ (2 : Int) ≤ 4) = true from by decide] at HK
  clear em
  go_enter Try.func63, Try.ntmps63
  go_wp2_with fail
  refine (HK _).mono ?_
  rintro e w2 ⟨rfl, rfl⟩
  go_wp2_with fail
  refine (HW _).mono ?_
  rintro e w2 ⟨rfl, rfl⟩
  clear HW HK
  go_wp2_with fail
  go_quiet (exact Calls.quiet_of_same ((qsize_any cap _ h0 h1).mono fun _ _ h => ⟨h.1, h.2.symm⟩))
  go_wp2
  go_ret2
  exact ⟨rfl, by repeat (first | with_reducible exact Below.refl _ _ | with_reducible refine Below.drew ?_ | with_reducible refine below_drewN ?_ _ | ((with_reducible refine Below.alloc ?_ ?_ _); (rotate_left; focus (first | with_reducible exact Nat.le_refl _ | omega | (simp; done) | (simp; omega) | (simp [World.setCell]; done) | (simp [World.setCell]; omega)))) | ((with_reducible refine Below.setCell ?_ ?_ _); (rotate_left; focus (first | with_reducible exact Nat.le_refl _ | omega | (simp; done) | (simp; omega) | (simp [World.setCell]; done) | (simp [World.setCell]; omega)))))⟩
theorem psize_3 (cap : Int) (w : World) (h0 : 0 ≤ cap) (h1 : cap ≤ 16) : Calls Try.prog 63 #[.agg #[.int .i64 3, .int .i64 cap]] w fun e w' => e = .returned (.tuple #[.int .i64 (3 * cap + 1), .int .i64 0]) ∧ Below w.heap.size w w' := by
  have em : decide ((0 : Int) ≤ cap ∧ cap ≤ 16) = true := by simp [h0, h1]
  have HW := within_any cap 0 16
  rw [em] at HW
  have HK := within_any 3 1 4
  rw [show decide ((1 : Int) ≤ 3 ∧ (3 : Int) ≤ 4) = true from by decide] at HK
  clear em
  go_enter Try.func63, Try.ntmps63
  go_wp2_with fail
  refine (HK _).mono ?_
  rintro e w2 ⟨rfl, rfl⟩
  go_wp2_with fail
  refine (HW _).mono ?_
  rintro e w2 ⟨rfl, rfl⟩
  clear HW HK
  go_wp2_with fail
  go_quiet (exact Calls.quiet_of_same ((dsize_any cap _ h0 h1).mono fun _ _ h => ⟨h.1, h.2.symm⟩))
  go_wp2
  go_ret2
  exact ⟨rfl, by repeat (first | with_reducible exact Below.refl _ _ | with_reducible refine Below.drew ?_ | with_reducible refine below_drewN ?_ _ | ((with_reducible refine Below.alloc ?_ ?_ _); (rotate_left; focus (first | with_reducible exact Nat.le_refl _ | omega | (simp; done) | (simp; omega) | (simp [World.setCell]; done) | (simp [World.setCell]; omega)))) | ((with_reducible refine Below.setCell ?_ ?_ _); (rotate_left; focus (first | with_reducible exact Nat.le_refl _ | omega | (simp; done) | (simp; omega) | (simp [World.setCell]; done) | (simp [World.setCell]; omega)))))⟩
theorem psize_4 (cap : Int) (w : World) (h0 : 0 ≤ cap) (h1 : cap ≤ 16) : Calls Try.prog 63 #[.agg #[.int .i64 4, .int .i64 cap]] w fun e w' => e = .returned (.tuple #[.int .i64 (2 * cap + 3), .int .i64 0]) ∧ Below w.heap.size w w' := by
  have em : decide ((0 : Int) ≤ cap ∧ cap ≤ 16) = true := by simp [h0, h1]
  have HW := within_any cap 0 16
  rw [em] at HW
  have HK := within_any 4 1 4
  rw [show decide ((1 : Int) ≤ 4 ∧ (4 : Int) ≤ 4) = true from by decide] at HK
  clear em
  go_enter Try.func63, Try.ntmps63
  go_wp2_with fail
  refine (HK _).mono ?_
  rintro e w2 ⟨rfl, rfl⟩
  go_wp2_with fail
  refine (HW _).mono ?_
  rintro e w2 ⟨rfl, rfl⟩
  clear HW HK
  go_wp2_with fail
  go_quiet (exact Calls.quiet_of_same ((hsize_any cap _ h0 h1).mono fun _ _ h => ⟨h.1, h.2.symm⟩))
  go_wp2
  go_ret2
  exact ⟨rfl, by repeat (first | with_reducible exact Below.refl _ _ | with_reducible refine Below.drew ?_ | with_reducible refine below_drewN ?_ _ | ((with_reducible refine Below.alloc ?_ ?_ _); (rotate_left; focus (first | with_reducible exact Nat.le_refl _ | omega | (simp; done) | (simp; omega) | (simp [World.setCell]; done) | (simp [World.setCell]; omega)))) | ((with_reducible refine Below.setCell ?_ ?_ _); (rotate_left; focus (first | with_reducible exact Nat.le_refl _ | omega | (simp; done) | (simp; omega) | (simp [World.setCell]; done) | (simp [World.setCell]; omega)))))⟩
theorem psize_no (kind cap : Int) (w : World) (hno : ¬ regOk ⟨kind, cap⟩) : Calls Try.prog 63 #[.agg #[.int .i64 kind, .int .i64 cap]] w fun e w' => e = .returned (.tuple #[.int .i64 0, .int .i64 13]) ∧ Below w.heap.size w w' := by
  by_cases hk : 1 ≤ kind ∧ kind ≤ 4
  · have hc : ¬ (0 ≤ cap ∧ cap ≤ 16) := fun h => hno ⟨hk.1, hk.2, h.1, h.2⟩
    have HK := within_any kind 1 4
    rw [show decide (1 ≤ kind ∧ kind ≤ 4) = true from by simpa using hk] at HK
    have HW := within_any cap 0 16
    rw [show decide (0 ≤ cap ∧ cap ≤ 16) = false from decide_eq_false hc] at HW
    clear hno hk hc
    go_enter Try.func63, Try.ntmps63
    go_wp2_with fail
    refine (HK _).mono ?_
    rintro e w2 ⟨rfl, rfl⟩
    go_wp2_with fail
    refine (HW _).mono ?_
    rintro e w2 ⟨rfl, rfl⟩
    go_wp2_with fail
    go_ret2
    exact ⟨rfl, by repeat (first | with_reducible exact Below.refl _ _ | with_reducible refine Below.drew ?_ | with_reducible refine below_drewN ?_ _ | ((with_reducible refine Below.alloc ?_ ?_ _); (rotate_left; focus (first | with_reducible exact Nat.le_refl _ | omega | (simp; done) | (simp; omega) | (simp [World.setCell]; done) | (simp [World.setCell]; omega)))) | ((with_reducible refine Below.setCell ?_ ?_ _); (rotate_left; focus (first | with_reducible exact Nat.le_refl _ | omega | (simp; done) | (simp; omega) | (simp [World.setCell]; done) | (simp [World.setCell]; omega)))))⟩
  · have HK := within_any kind 1 4
    rw [show decide (1 ≤ kind ∧ kind ≤ 4) = false from decide_eq_false hk] at HK
    clear hno hk
    go_enter Try.func63, Try.ntmps63
    go_wp2_with fail
    refine (HK _).mono ?_
    rintro e w2 ⟨rfl, rfl⟩
    go_wp2_with fail
    go_ret2
    exact ⟨rfl, by repeat (first | with_reducible exact Below.refl _ _ | with_reducible refine Below.drew ?_ | with_reducible refine below_drewN ?_ _ | ((with_reducible refine Below.alloc ?_ ?_ _); (rotate_left; focus (first | with_reducible exact Nat.le_refl _ | omega | (simp; done) | (simp; omega) | (simp [World.setCell]; done) | (simp [World.setCell]; omega)))) | ((with_reducible refine Below.setCell ?_ ?_ _); (rotate_left; focus (first | with_reducible exact Nat.le_refl _ | omega | (simp; done) | (simp; omega) | (simp [World.setCell]; done) | (simp [World.setCell]; omega)))))⟩

theorem psize_any (r : Reg) (w : World) : Calls Try.prog 63 #[.agg #[.int .i64 r.kind, .int .i64 r.cap]] w fun e w' => e = .returned (.tuple #[.int .i64 (sizeV r), .int .i64 (sizeE r)]) ∧ Below w.heap.size w w' := by
  obtain ⟨kind, cap⟩ := r
  by_cases hok : regOk ⟨kind, cap⟩
  · have h := hok
    obtain ⟨h1, h2, h3, h4⟩ := hok
    simp only at h1 h2 h3 h4
    have e2 : sizeE ⟨kind, cap⟩ = 0 := by simp [sizeE, h]
    have e1 : sizeV ⟨kind, cap⟩ = sizeI ⟨kind, cap⟩ := by simp [sizeV, h]
    rw [e1, e2]
    clear h e1 e2
    rcases show kind = 1 ∨ kind = 2 ∨ kind = 3 ∨ kind = 4 by omega with rfl | rfl | rfl | rfl
    · exact psize_1 cap w h3 h4
    · exact psize_2 cap w h3 h4
    · exact psize_3 cap w h3 h4
    · exact psize_4 cap w h3 h4
  · have e2 : sizeE ⟨kind, cap⟩ = 13 := by simp [sizeE, hok]
    have e1 : sizeV ⟨kind, cap⟩ = 0 := by simp [sizeV, hok]
    rw [e1, e2]
    exact psize_no kind cap w hok

theorem rsize_1 (cap : Int) (w : World) (h0 : 0 ≤ cap) (h1 : cap ≤ 16) : Calls Try.prog 64 #[.agg #[.int .i64 1, .int .i64 cap]] w fun e w' => e = .returned (.tuple #[.int .i64 (cap), .int .i64 0]) ∧ Below w.heap.size w w' := by
  have HW := right_any cap
  rw [show decide ((0 : Int) ≤ cap ∧ cap ≤ 16) = true from by simp [h0, h1]] at HW
  go_enter Try.func64, Try.ntmps64
  go_wp2_with fail
  refine (HW _).mono ?_
  rintro e w2 ⟨rfl, rfl⟩
  clear HW
  go_wp2_with fail
  refine (r15size_any cap _ h0 h1).mono ?_
  rintro e w2 ⟨rfl, rfl⟩
  go_wp2_with fail
  go_ret2
  exact ⟨rfl, by repeat (first | with_reducible exact Below.refl _ _ | with_reducible refine Below.drew ?_ | with_reducible refine below_drewN ?_ _ | ((with_reducible refine Below.alloc ?_ ?_ _); (rotate_left; focus (first | with_reducible exact Nat.le_refl _ | omega | (simp; done) | (simp; omega) | (simp [World.setCell]; done) | (simp [World.setCell]; omega)))) | ((with_reducible refine Below.setCell ?_ ?_ _); (rotate_left; focus (first | with_reducible exact Nat.le_refl _ | omega | (simp; done) | (simp; omega) | (simp [World.setCell]; done) | (simp [World.setCell]; omega)))))⟩
theorem rsize_2 (cap : Int) (w : World) (h0 : 0 ≤ cap) (h1 : cap ≤ 16) : Calls Try.prog 64 #[.agg #[.int .i64 2, .int .i64 cap]] w fun e w' => e = .returned (.tuple #[.int .i64 (cap + 2), .int .i64 0]) ∧ Below w.heap.size w w' := by
  have HW := right_any cap
  rw [show decide ((0 : Int) ≤ cap ∧ cap ≤ 16) = true from by simp [h0, h1]] at HW
  go_enter Try.func64, Try.ntmps64
  go_wp2_with fail
  refine (HW _).mono ?_
  rintro e w2 ⟨rfl, rfl⟩
  clear HW
  go_wp2_with fail
  refine (r16size_any cap _ h0 h1).mono ?_
  rintro e w2 ⟨rfl, rfl⟩
  go_wp2_with fail
  go_ret2
  exact ⟨rfl, by repeat (first | with_reducible exact Below.refl _ _ | with_reducible refine Below.drew ?_ | with_reducible refine below_drewN ?_ _ | ((with_reducible refine Below.alloc ?_ ?_ _); (rotate_left; focus (first | with_reducible exact Nat.le_refl _ | omega | (simp; done) | (simp; omega) | (simp [World.setCell]; done) | (simp [World.setCell]; omega)))) | ((with_reducible refine Below.setCell ?_ ?_ _); (rotate_left; focus (first | with_reducible exact Nat.le_refl _ | omega | (simp; done) | (simp; omega) | (simp [World.setCell]; done) | (simp [World.setCell]; omega)))))⟩
theorem rsize_3 (cap : Int) (w : World) (h0 : 0 ≤ cap) (h1 : cap ≤ 16) : Calls Try.prog 64 #[.agg #[.int .i64 3, .int .i64 cap]] w fun e w' => e = .returned (.tuple #[.int .i64 (3 * cap + 1), .int .i64 0]) ∧ Below w.heap.size w w' := by
  have HW := right_any cap
  rw [show decide ((0 : Int) ≤ cap ∧ cap ≤ 16) = true from by simp [h0, h1]] at HW
  go_enter Try.func64, Try.ntmps64
  go_wp2_with fail
  refine (HW _).mono ?_
  rintro e w2 ⟨rfl, rfl⟩
  clear HW
  go_wp2_with fail
  refine (r17size_any cap _ h0 h1).mono ?_
  rintro e w2 ⟨rfl, rfl⟩
  go_wp2_with fail
  go_ret2
  exact ⟨rfl, by repeat (first | with_reducible exact Below.refl _ _ | with_reducible refine Below.drew ?_ | with_reducible refine below_drewN ?_ _ | ((with_reducible refine Below.alloc ?_ ?_ _); (rotate_left; focus (first | with_reducible exact Nat.le_refl _ | omega | (simp; done) | (simp; omega) | (simp [World.setCell]; done) | (simp [World.setCell]; omega)))) | ((with_reducible refine Below.setCell ?_ ?_ _); (rotate_left; focus (first | with_reducible exact Nat.le_refl _ | omega | (simp; done) | (simp; omega) | (simp [World.setCell]; done) | (simp [World.setCell]; omega)))))⟩
theorem rsize_4 (cap : Int) (w : World) (h0 : 0 ≤ cap) (h1 : cap ≤ 16) : Calls Try.prog 64 #[.agg #[.int .i64 4, .int .i64 cap]] w fun e w' => e = .returned (.tuple #[.int .i64 (2 * cap + 3), .int .i64 0]) ∧ Below w.heap.size w w' := by
  have HW := right_any cap
  rw [show decide ((0 : Int) ≤ cap ∧ cap ≤ 16) = true from by simp [h0, h1]] at HW
  go_enter Try.func64, Try.ntmps64
  go_wp2_with fail
  refine (HW _).mono ?_
  rintro e w2 ⟨rfl, rfl⟩
  clear HW
  go_wp2_with fail
  refine (r18size_any cap _ h0 h1).mono ?_
  rintro e w2 ⟨rfl, rfl⟩
  go_wp2_with fail
  go_ret2
  exact ⟨rfl, by repeat (first | with_reducible exact Below.refl _ _ | with_reducible refine Below.drew ?_ | with_reducible refine below_drewN ?_ _ | ((with_reducible refine Below.alloc ?_ ?_ _); (rotate_left; focus (first | with_reducible exact Nat.le_refl _ | omega | (simp; done) | (simp; omega) | (simp [World.setCell]; done) | (simp [World.setCell]; omega)))) | ((with_reducible refine Below.setCell ?_ ?_ _); (rotate_left; focus (first | with_reducible exact Nat.le_refl _ | omega | (simp; done) | (simp; omega) | (simp [World.setCell]; done) | (simp [World.setCell]; omega)))))⟩
theorem rsize_no (kind cap : Int) (w : World) (hno : ¬ regOk ⟨kind, cap⟩) : Calls Try.prog 64 #[.agg #[.int .i64 kind, .int .i64 cap]] w fun e w' => e = .returned (.tuple #[.int .i64 0, .int .i64 13]) ∧ Below w.heap.size w w' := by
  by_cases hc : 0 ≤ cap ∧ cap ≤ 16
  · have HW := right_any cap
    rw [show decide (0 ≤ cap ∧ cap ≤ 16) = true from by simpa using hc] at HW
    have e1 : (kind == 1) = false := by simp; rintro rfl; exact hno ⟨by simp, by simp, hc.1, hc.2⟩
    have e2 : (kind == 2) = false := by simp; rintro rfl; exact hno ⟨by simp, by simp, hc.1, hc.2⟩
    have e3 : (kind == 3) = false := by simp; rintro rfl; exact hno ⟨by simp, by simp, hc.1, hc.2⟩
    have e4 : (kind == 4) = false := by simp; rintro rfl; exact hno ⟨by simp, by simp, hc.1, hc.2⟩
    clear hno hc
    go_enter Try.func64, Try.ntmps64
    go_wp2_with fail
    refine (HW _).mono ?_
    rintro e w2 ⟨rfl, rfl⟩
    go_wp2_with fail
    go_ret2
    exact ⟨rfl, by repeat (first | with_reducible exact Below.refl _ _ | with_reducible refine Below.drew ?_ | with_reducible refine below_drewN ?_ _ | ((with_reducible refine Below.alloc ?_ ?_ _); (rotate_left; focus (first | with_reducible exact Nat.le_refl _ | omega | (simp; done) | (simp; omega) | (simp [World.setCell]; done) | (simp [World.setCell]; omega)))) | ((with_reducible refine Below.setCell ?_ ?_ _); (rotate_left; focus (first | with_reducible exact Nat.le_refl _ | omega | (simp; done) | (simp; omega) | (simp [World.setCell]; done) | (simp [World.setCell]; omega)))))⟩
  · have HW := right_any cap
    rw [show decide (0 ≤ cap ∧ cap ≤ 16) = false from decide_eq_false hc] at HW
    clear hno hc
    go_enter Try.func64, Try.ntmps64
    go_wp2_with fail
    refine (HW _).mono ?_
    rintro e w2 ⟨rfl, rfl⟩
    go_wp2_with fail
    go_ret2
    exact ⟨rfl, by repeat (first | with_reducible exact Below.refl _ _ | with_reducible refine Below.drew ?_ | with_reducible refine below_drewN ?_ _ | ((with_reducible refine Below.alloc ?_ ?_ _); (rotate_left; focus (first | with_reducible exact Nat.le_refl _ | omega | (simp; done) | (simp; omega) | (simp [World.setCell]; done) | (simp [World.setCell]; omega)))) | ((with_reducible refine Below.setCell ?_ ?_ _); (rotate_left; focus (first | with_reducible exact Nat.le_refl _ | omega | (simp; done) | (simp; omega) | (simp [World.setCell]; done) | (simp [World.setCell]; omega)))))⟩

theorem rsize_any (r : Reg) (w : World) : Calls Try.prog 64 #[.agg #[.int .i64 r.kind, .int .i64 r.cap]] w fun e w' => e = .returned (.tuple #[.int .i64 (sizeV r), .int .i64 (sizeE r)]) ∧ Below w.heap.size w w' := by
  obtain ⟨kind, cap⟩ := r
  by_cases hok : regOk ⟨kind, cap⟩
  · have h := hok
    obtain ⟨h1, h2, h3, h4⟩ := hok
    simp only at h1 h2 h3 h4
    have e2 : sizeE ⟨kind, cap⟩ = 0 := by simp [sizeE, h]
    have e1 : sizeV ⟨kind, cap⟩ = sizeI ⟨kind, cap⟩ := by simp [sizeV, h]
    rw [e1, e2]
    clear h e1 e2
    rcases show kind = 1 ∨ kind = 2 ∨ kind = 3 ∨ kind = 4 by omega with rfl | rfl | rfl | rfl
    · exact rsize_1 cap w h3 h4
    · exact rsize_2 cap w h3 h4
    · exact rsize_3 cap w h3 h4
    · exact rsize_4 cap w h3 h4
  · have e2 : sizeE ⟨kind, cap⟩ = 13 := by simp [sizeE, hok]
    have e1 : sizeV ⟨kind, cap⟩ = 0 := by simp [sizeV, hok]
    rw [e1, e2]
    exact rsize_no kind cap w hok

end Go.Proofs.Ytpmpgnhbpneloaa
