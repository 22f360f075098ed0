/- What dict.New does. -/
import Derived.Test.YtjggcidaolnmbaaDw7
namespace Go.Proofs.Ytjggcidaolnmbaa
open Go.RowKit Go.Joins Go.ChangeShapes Go.WideShapes Go.Deep
set_option linter.unusedVariables false
set_option maxRecDepth 100000

/-- The first slot on a key's way. -/
def firstI (k most : Int) : Int :=
  wrap64 (IntKind.u64.wrap (IntKind.u64.wrap (IntKind.u64.wrap k * 11400714819323198485) / 4294967296 * most) / 4294967296)
theorem firstI_bd (k most : Int) (h0 : 0 ≤ most) (h1 : most ≤ 16) : 0 ≤ firstI k most ∧ (firstI k most < most ∨ most = 0) ∧ firstI k most ≤ 16 := by
  unfold firstI
  generalize IntKind.u64.wrap k * 11400714819323198485 = x
  rw [IntKind.wrap_u64, IntKind.wrap_u64]
  obtain ⟨m, rfl⟩ := Int.eq_ofNat_of_zero_le h0
  obtain ⟨y, hy⟩ : ∃ y, y = x % 18446744073709551616 / 4294967296 := ⟨_, rfl⟩
  rw [← hy]
  have hy0 : 0 ≤ y := by omega
  have hy1 : y < 4294967296 := by omega
  have hz : y * (m : Int) ≤ 4294967295 * m := Int.mul_le_mul_of_nonneg_right (by omega) (by omega)
  have hz0 : 0 ≤ y * (m : Int) := Int.mul_nonneg hy0 (by omega)
  generalize y * (m : Int) = z at *
  have e1 : z % 18446744073709551616 = z := by omega
  rw [e1]
  have hw : wrap64 (z / 4294967296) = z / 4294967296 := IntWalk.wrap64_in _ ⟨by omega, by omega⟩
  rw [hw]
  refine ⟨by omega, ?_, by omega⟩
  by_cases hm : (m : Int) = 0
  · exact .inr hm
  · left
    omega
theorem first_any (k most : Int) (w : World) (h0 : 0 ≤ most) (h1 : most ≤ 16) :
    Calls Try.prog 31 #[.int .i64 k, .int .i64 most] w fun e w' => e = .returned (.int .i64 (firstI k most)) ∧ w = w' := by
  go_enter Try.func31, Try.ntmps31
  go_wp2
  go_ret
  exact ⟨rfl, rfl⟩
theorem rfirst_any (k most : Int) (w : World) (h0 : 0 ≤ most) (h1 : most ≤ 16) :
    Calls Try.prog 52 #[.int .i64 k, .int .i64 most] w fun e w' => e = .returned (.int .i64 (firstI k most)) ∧ w = w' := by
  go_enter Try.func52, Try.ntmps52
  go_wp2
  go_ret
  exact ⟨rfl, rfl⟩
/-- How many arguments a call has; -1: there is no such call. -/
def arityI (c : Int) : Int := if c = 3 then 2 else if c = 2 ∨ c = 4 then 1 else if c = 5 then 0 else -1
theorem arity_any (c : Int) (w : World) :
    Calls Try.prog 29 #[.int .i64 c] w fun e w' => e = .returned (.int .i64 (arityI c)) ∧ w = w' := by
  by_cases h3 : c = 3
  · subst h3
    go_enter Try.func29, Try.ntmps29
    go_wp2
    go_ret
    exact ⟨rfl, rfl⟩
  · have e3 : (c == 3) = false := by simp [h3]
    by_cases h2 : c = 2
    · subst h2
      go_enter Try.func29, Try.ntmps29
      go_wp2
      go_ret
      exact ⟨rfl, rfl⟩
    · have e2 : (c == 2) = false := by simp [h2]
      by_cases h4 : c = 4
      · subst h4
        go_enter Try.func29, Try.ntmps29
        go_wp2
        go_ret
        exact ⟨rfl, rfl⟩
      · have e4 : (c == 4) = false := by simp [h4]
        by_cases h5 : c = 5
        · subst h5
          go_enter Try.func29, Try.ntmps29
          go_wp2
          go_ret
          exact ⟨rfl, rfl⟩
        · have e5 : (c == 5) = false := by simp [h5]
          have hr : arityI c = -1 := by simp [arityI, h2, h3, h4, h5]
          rw [hr]
          clear hr h2 h3 h4 h5
          go_enter Try.func29, Try.ntmps29
          go_wp2
          go_ret
          exact ⟨rfl, rfl⟩
theorem rarity_any (c : Int) (w : World) :
    Calls Try.prog 25 #[.int .i64 c] w fun e w' => e = .returned (.int .i64 (arityI c)) ∧ w = w' := by
  by_cases h3 : c = 3
  · subst h3
    go_enter Try.func25, Try.ntmps25
    go_wp2
    go_ret
    exact ⟨rfl, rfl⟩
  · have e3 : (c == 3) = false := by simp [h3]
    by_cases h2 : c = 2
    · subst h2
      go_enter Try.func25, Try.ntmps25
      go_wp2
      go_ret
      exact ⟨rfl, rfl⟩
    · have e2 : (c == 2) = false := by simp [h2]
      by_cases h4 : c = 4
      · subst h4
        go_enter Try.func25, Try.ntmps25
        go_wp2
        go_ret
        exact ⟨rfl, rfl⟩
      · have e4 : (c == 4) = false := by simp [h4]
        by_cases h5 : c = 5
        · subst h5
          go_enter Try.func25, Try.ntmps25
          go_wp2
          go_ret
          exact ⟨rfl, rfl⟩
        · have e5 : (c == 5) = false := by simp [h5]
          have hr : arityI c = -1 := by simp [arityI, h2, h3, h4, h5]
          rw [hr]
          clear hr h2 h3 h4 h5
          go_enter Try.func25, Try.ntmps25
          go_wp2
          go_ret
          exact ⟨rfl, rfl⟩

/-- A machine at its beginning. -/
def startF (base most call : Int) (args : List Int) : DS :=
  match args with
  | [] => ⟨base, most, call, 0, 0, 0, 0, -1, [], .begin⟩
  | [k] => ⟨base, most, call, k, 0, firstI k most, 0, -1, [], .begin⟩
  | k :: v :: _ => ⟨base, most, call, k, v, firstI k most, 0, -1, [], .begin⟩
def callOk (base most call : Int) (args : List Int) : Prop := 0 ≤ base ∧ base ≤ 1024 ∧ 0 ≤ most ∧ most ≤ 16 ∧ arityI call = args.length

theorem startF_ok (base most call : Int) (args : List Int) (h : callOk base most call args) : (startF base most call args).Ok := by
  obtain ⟨h1, h2, h3, h4, h5⟩ := h
  match args with
  | [] => exact ⟨h1, h2, h3, h4, by show (0 : Int) ≤ 0; omega, by show (0 : Int) < most ∨ most = 0; omega, by show (0 : Int) ≤ 16; omega, by show (0 : Int) ≤ 0; omega, h3, by show (-1 : Int) ≤ -1; omega, by show (-1 : Int) ≤ 16; omega, by show (-1 : Int) < most; omega⟩
  | [k] =>
    have hb := firstI_bd k most h3 h4
    exact ⟨h1, h2, h3, h4, hb.1, hb.2.1, hb.2.2, by show (0 : Int) ≤ 0; omega, h3, by show (-1 : Int) ≤ -1; omega, by show (-1 : Int) ≤ 16; omega, by show (-1 : Int) < most; omega⟩
  | k :: v :: l =>
    have hb := firstI_bd k most h3 h4
    exact ⟨h1, h2, h3, h4, hb.1, hb.2.1, hb.2.2, by show (0 : Int) ≤ 0; omega, h3, by show (-1 : Int) ≤ -1; omega, by show (-1 : Int) ≤ 16; omega, by show (-1 : Int) < most; omega⟩
end Go.Proofs.Ytjggcidaolnmbaa
