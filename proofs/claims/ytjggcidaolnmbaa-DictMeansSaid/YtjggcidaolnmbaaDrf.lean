/- What the document's inner functions do: Read, Put, End, Find. -/
import Derived.Test.YtjggcidaolnmbaaDp2
import Derived.Test.YtjggcidaolnmbaaArg
import Derived.Test.YtjggcidaolnmbaaDw9
namespace Go.Proofs.Ytjggcidaolnmbaa
open Go.RowKit Go.Joins Go.ChangeShapes Go.WideShapes Go.Deep
set_option linter.unusedVariables false
set_option maxRecDepth 100000

theorem rRead_any (c : Int) (w : World) : Calls Try.prog 44 #[.int .i64 c] w fun e w' => e = .returned (.agg #[.int .i64 2, .int .i64 c, .int .i64 0, .int .i64 0]) ∧ Below w.heap.size w w' := by
  go_enter Try.func44, Try.ntmps44
  go_wp2
  refine bodyPost_ret (v := .agg #[.int .i64 2, .int .i64 c, .int .i64 0, .int .i64 0]) (by simp [results, Try.results44, go_sem]) rfl ?_
  exact ⟨rfl, (Below.refl _ _).alloc (Nat.le_refl _) _⟩
theorem rPut_any (c v : Int) (w : World) : Calls Try.prog 48 #[.int .i64 c, .int .i64 v] w fun e w' => e = .returned (.agg #[.int .i64 3, .int .i64 c, .int .i64 v, .int .i64 0]) ∧ Below w.heap.size w w' := by
  go_enter Try.func48, Try.ntmps48
  go_wp2
  refine bodyPost_ret (v := .agg #[.int .i64 3, .int .i64 c, .int .i64 v, .int .i64 0]) (by simp [results, Try.results48, go_sem]) rfl ?_
  exact ⟨rfl, (Below.refl _ _).alloc (Nat.le_refl _) _⟩
theorem rEnd_any (v c : Int) (w : World) : Calls Try.prog 45 #[.int .i64 v, .int .i64 c] w fun e w' => e = .returned (.agg #[.int .i64 6, .int .i64 0, .int .i64 (endW v c).value, .int .i64 c]) ∧ Below w.heap.size w w' := by
  by_cases hc : c = 0
  · have e1 : (c != 0) = false := by simp [hc]
    have hr : (endW v c).value = v := by simp [endW, hc]
    rw [hr]
    clear hr hc
    go_enter Try.func45, Try.ntmps45
    go_wp2
    refine bodyPost_ret (v := .agg #[.int .i64 6, .int .i64 0, .int .i64 v, .int .i64 c]) (by simp [results, Try.results45, go_sem]) rfl ?_
    exact ⟨rfl, (Below.refl _ _).alloc (Nat.le_refl _) _⟩
  · have e1 : (c != 0) = true := by simp [hc]
    have hr : (endW v c).value = 0 := by simp [endW, hc]
    rw [hr]
    clear hr hc
    go_enter Try.func45, Try.ntmps45
    go_wp2
    refine bodyPost_ret (v := .agg #[.int .i64 6, .int .i64 0, .int .i64 0, .int .i64 c]) (by simp [results, Try.results45, go_sem]) rfl ?_
    exact ⟨rfl, (Below.refl _ _).alloc (Nat.le_refl _) _⟩

theorem slotI_bd {key n : Int} (j : Int) (hn : 0 < n) : 0 ≤ slotI key n j ∧ slotI key n j < n := by
  unfold slotI
  exact ⟨Int.emod_nonneg _ (by omega), Int.emod_lt_of_pos _ hn⟩
/-- Where a look may end. -/
theorem findL_bd {key n : Int} (hn : n ≤ 16) (f : Nat) : ∀ (j free : Int) (pos : Nat) (rest : List Int), 0 ≤ j → j + f = n → -1 ≤ free → free < n →
    -1 ≤ (findL key n f j free pos rest).found ∧ (findL key n f j free pos rest).found < n ∧ -1 ≤ (findL key n f j free pos rest).free ∧ (findL key n f j free pos rest).free < n ∧
      0 ≤ (findL key n f j free pos rest).cell ∧ (findL key n f j free pos rest).cell ≤ 3 * n ∧ (findL key n f j free pos rest).reads ≤ pos + rest.length := by
  induction f with
  | zero =>
    intro j free pos rest h0 h1 h2 h3
    simp only [findL]
    omega
  | succ f ih =>
    intro j free pos rest h0 h1 h2 h3
    have hs := slotI_bd (key := key) j (show 0 < n by omega)
    cases rest with
    | nil =>
      simp only [findL, List.length_nil]
      omega
    | cons st rest =>
      have hfr : -1 ≤ freeI st free (slotI key n j) ∧ freeI st free (slotI key n j) < n := by
        unfold freeI
        split <;> omega
      by_cases e0 : st = 0
      · subst e0
        simp only [findL, if_true, List.length_cons]
        omega
      · by_cases e1 : st = 1
        · subst e1
          cases rest with
          | nil =>
            simp [findL]
            omega
          | cons k rest =>
            by_cases ek : k = key
            · simp [findL, ek]
              omega
            · have := ih (j + 1) free (pos + 2) rest (by omega) (by omega) h2 h3
              simp only [findL, if_neg (show ¬ (1 : Int) = 0 by omega), ne_eq, not_true, if_false, if_neg ek, List.length_cons]
              omega
        · have := ih (j + 1) (freeI st free (slotI key n j)) (pos + 1) rest (by omega) (by omega) hfr.1 hfr.2
          simp only [findL, if_neg e0, ne_eq, e1, not_false_eq_true, if_true, List.length_cons]
          omega
end Go.Proofs.Ytjggcidaolnmbaa
