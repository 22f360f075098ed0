/- What may be: 'right' and what it calls. -/
import Derived.Test.YtjggcidaolnmbaaDw9
namespace Go.Proofs.Ytjggcidaolnmbaa
open Go.RowKit Go.Joins Go.ChangeShapes Go.WideShapes Go.Deep
set_option linter.unusedVariables false
set_option maxRecDepth 100000

theorem right15_any (most : Int) (w : World) : Calls Try.prog 28 #[.int .i64 most] w fun e w' => e = .returned (.bool (decide (0 ≤ most ∧ most ≤ 16))) ∧ w = w' := by
  by_cases h1 : 0 ≤ most
  · by_cases h2 : most ≤ 16
    · have hr : decide (0 ≤ most ∧ most ≤ 16) = true := by simp [h1, h2]
      rw [hr]
      clear hr
      go_enter Try.func28, Try.ntmps28
      go_wp2
      go_ret
      exact ⟨rfl, rfl⟩
    · have hr : decide (0 ≤ most ∧ most ≤ 16) = false := by simp [h2]
      have g2 : decide (most ≤ 16) = false := by simp [h2]
      rw [hr]
      clear hr h2
      go_enter Try.func28, Try.ntmps28
      go_wp2
      go_ret
      exact ⟨rfl, rfl⟩
  · have hr : decide (0 ≤ most ∧ most ≤ 16) = false := by simp [h1]
    have g2 : decide (0 ≤ most) = false := by simp [h1]
    rw [hr]
    clear hr h1
    go_enter Try.func28, Try.ntmps28
    go_wp2
    go_ret
    exact ⟨rfl, rfl⟩

theorem takes_no (base most want args : Int) (w : World) (h : ¬ (0 ≤ base ∧ base ≤ 1024 ∧ 0 ≤ most ∧ most ≤ 16 ∧ want = args)) :
    Calls Try.prog 32 #[.int .i64 base, .int .i64 most, .int .i64 want, .int .i64 args] w fun e w' => e = .returned (.bool false) ∧ w = w' := by
  by_cases hm : 0 ≤ most ∧ most ≤ 16
  · have em : decide (0 ≤ most ∧ most ≤ 16) = true := by simp [hm]
    have HR := (right15_any most)
    rw [em] at HR
    clear em
    by_cases h1 : 0 ≤ base
    · by_cases h2 : base ≤ 1024
      · have h3 : (want == args) = false := by
          simp only [beq_eq_false_iff_ne, ne_eq]
          intro e
          exact h ⟨h1, h2, hm.1, hm.2, e⟩
        clear h hm
        go_enter Try.func32, Try.ntmps32
        go_wp2_with fail
        refine (HR _).mono ?_
        rintro e w1 ⟨rfl, rfl⟩
        go_wp2_with fail
        go_ret
        exact ⟨rfl, rfl⟩
      · have g2 : decide (base ≤ 1024) = false := by simp [h2]
        clear h hm h2
        go_enter Try.func32, Try.ntmps32
        go_wp2_with fail
        refine (HR _).mono ?_
        rintro e w1 ⟨rfl, rfl⟩
        go_wp2_with fail
        go_ret
        exact ⟨rfl, rfl⟩
    · have g2 : decide (0 ≤ base) = false := by simp [h1]
      clear h hm h1
      go_enter Try.func32, Try.ntmps32
      go_wp2_with fail
      refine (HR _).mono ?_
      rintro e w1 ⟨rfl, rfl⟩
      go_wp2_with fail
      go_ret
      exact ⟨rfl, rfl⟩
  · have em : decide (0 ≤ most ∧ most ≤ 16) = false := by simp only [decide_eq_false_iff_not]; exact hm
    have HR := (right15_any most)
    rw [em] at HR
    clear em h hm
    go_enter Try.func32, Try.ntmps32
    go_wp2_with fail
    refine (HR _).mono ?_
    rintro e w1 ⟨rfl, rfl⟩
    go_wp2_with fail
    go_ret
    exact ⟨rfl, rfl⟩

theorem takes_yes (base most want args : Int) (w : World) (h : 0 ≤ base ∧ base ≤ 1024 ∧ 0 ≤ most ∧ most ≤ 16 ∧ want = args) :
    Calls Try.prog 32 #[.int .i64 base, .int .i64 most, .int .i64 want, .int .i64 args] w fun e w' => e = .returned (.bool true) ∧ w = w' := by
  obtain ⟨h1, h2, h3, h4, h5⟩ := h
  have h6 : (want == args) = true := by simp [h5]
  have em : decide (0 ≤ most ∧ most ≤ 16) = true := by simp [h3, h4]
  have HR := (right15_any most)
  rw [em] at HR
  clear em h5
  go_enter Try.func32, Try.ntmps32
  go_wp2_with fail
  refine (HR _).mono ?_
  rintro e w1 ⟨rfl, rfl⟩
  go_wp2_with fail
  go_ret
  exact ⟨rfl, rfl⟩

theorem right_no (base most call : Int) (args : List Int) (A : Option Addr) (n c B : Nat) (w : World) (hA : Reads w B 1 A n (ints args)) (hno : ¬ callOk base most call args) :
    Calls Try.prog 15 #[.int .i64 base, .int .i64 most, .int .i64 call, .slice A n c] w fun e w' => e = .returned (.bool false) ∧ w = w' := by
  have hlen : args.length = n := by have := hA.1; simpa [ints] using this
  unfold callOk at hno
  rw [hlen] at hno
  have HN := Lib.hid hno
  clear hno hlen
  go_enter Try.func15, Try.ntmps15
  go_wp2_with fail
  refine (rarity_any call _).mono ?_
  rintro e w1 ⟨rfl, rfl⟩
  go_wp2_with fail
  refine (takes_no base most (arityI call) n _ HN.out).mono ?_
  rintro e w1 ⟨rfl, rfl⟩
  go_wp2_with fail
  go_ret
  exact ⟨rfl, rfl⟩
theorem right_yes (base most call : Int) (args : List Int) (A : Option Addr) (n c B : Nat) (w : World) (hA : Reads w B 1 A n (ints args)) (hok : callOk base most call args) :
    Calls Try.prog 15 #[.int .i64 base, .int .i64 most, .int .i64 call, .slice A n c] w fun e w' => e = .returned (.bool true) ∧ w = w' := by
  have hlen : args.length = n := by have := hA.1; simpa [ints] using this
  unfold callOk at hok
  rw [hlen] at hok
  have HN := Lib.hid hok
  clear hok hlen
  go_enter Try.func15, Try.ntmps15
  go_wp2_with fail
  refine (rarity_any call _).mono ?_
  rintro e w1 ⟨rfl, rfl⟩
  go_wp2_with fail
  refine (takes_yes base most (arityI call) n _ HN.out).mono ?_
  rintro e w1 ⟨rfl, rfl⟩
  go_wp2_with fail
  go_ret
  exact ⟨rfl, rfl⟩

theorem size_any (most : Int) (w : World) (h0 : 0 ≤ most) (h1 : most ≤ 16) :
    Calls Try.prog 12 #[.int .i64 most] w fun e w' => e = .returned (.int .i64 (3 * most + 1)) ∧ w = w' := by
  have g1 : decide (most < 0) = false := by simp; omega
  have g2 : decide (16 < most) = false := by simp; omega
  go_enter Try.func12, Try.ntmps12
  go_wp2
  go_ret
  exact ⟨rfl, rfl⟩
end Go.Proofs.Ytjggcidaolnmbaa
