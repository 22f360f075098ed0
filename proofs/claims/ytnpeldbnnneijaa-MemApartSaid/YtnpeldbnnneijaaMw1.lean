/- Where an address' word stands. -/
import Derived.Test.YtnpeldbnnneijaaMm
import Derived.BigQuiet
import Derived.Deep.QuietTactic
import Derived.Deep.DeepMust
namespace Go.Proofs.Ytnpeldbnnneijaa
open Go.RowKit Go.Joins Go.ChangeShapes Go.WideShapes Go.Deep
set_option linter.unusedVariables false
set_option maxRecDepth 100000

def WordPost (b gh gs gc : Nat) (m : MS) (k i j : Int) (w : World) : Ending → World → Prop := fun e w' =>
  (wordAt m k i j = none → e = .returned (.pointer none)) ∧ (∀ V, wordAt m k i j = some V → ∃ g off, ptrAt b gh gs gc k i j = (g, off) ∧ e = .returned (.pointer (some ⟨g, off, none⟩))) ∧ Below w.heap.size w w'
theorem WordPost.no {b gh gs gc : Nat} {m : MS} {k i j : Int} {w w' : World} (h : Hid (wordAt m k i j = none)) (hb : Below w.heap.size w w') : WordPost b gh gs gc m k i j w (.returned (.pointer none)) w' :=
  ⟨fun _ => rfl, fun V hV => (by rw [h.out] at hV; cases hV), hb⟩
theorem WordPost.yes {b gh gs gc : Nat} {m : MS} {k i j : Int} {w w' : World} {g off : Nat} (h : Hid ((wordAt m k i j).isSome = true ∧ ptrAt b gh gs gc k i j = (g, off))) (hb : Below w.heap.size w w') : WordPost b gh gs gc m k i j w (.returned (.pointer (some ⟨g, off, none⟩))) w' :=
  ⟨fun hn => (by have := h.out.1; rw [hn] at this; cases this), fun V hV => ⟨g, off, h.out.2, rfl⟩, hb⟩

set_option maxHeartbeats 2000000 in
theorem word_any {w : World} {base b gh gs gc : Nat} {lv : Value} {m : MS} (h : MIs w base b gh gs gc lv m) (k i j : Int) :
    Calls Try.prog 20 #[.pointer (some ⟨b, 0, none⟩), .agg #[.int .i64 k, .int .i64 i, .int .i64 j]] w (WordPost b gh gs gc m k i j w) := by
  have c1 : w.cell? ⟨b, 1, none⟩ = some (.slice (some ⟨gh, 0, none⟩) m.heads.length m.heads.length) := (h.blk.cell 1).trans rfl
  have c2 : w.cell? ⟨b, 2, none⟩ = some (.slice (some ⟨gs, 0, none⟩) m.heads.length m.heads.length) := (h.blk.cell 2).trans rfl
  have c3 : w.cell? ⟨b, 3, none⟩ = some (.slice (some ⟨gc, 0, none⟩) m.cells.length m.cells.length) := (h.blk.cell 3).trans rfl
  have hlt := h.blk.lt
  have r16 := h.l1
  have r1024 := h.l2
  have hsl := Lib.hid h.l0
  obtain ⟨R, hR⟩ : ∃ R, R = m.heads.length := ⟨_, rfl⟩
  obtain ⟨C, hC⟩ : ∃ C, C = m.cells.length := ⟨_, rfl⟩
  rw [← hR] at c1 c2 r16
  rw [← hC] at c3 r1024
  have HR := Lib.hid hR
  have HC := Lib.hid hC
  clear h hR hC
  by_cases hi0 : i < 0
  · have HW : Hid (wordAt m k i j = none) := by show wordAt m k i j = none; unfold wordAt; rw [if_pos (.inl hi0)]
    go_enter Try.func20, Try.ntmps20
    go_wp2_with fail
    repeat (go_quiet (fail); go_wp2_with fail)
    go_ret
    exact WordPost.no HW (by repeat (first | with_reducible exact Below.refl _ _ | with_reducible refine Below.drew ?_ | with_reducible refine below_drewN ?_ _ | ((with_reducible refine Below.alloc ?_ ?_ _); (rotate_left; focus (first | with_reducible exact Nat.le_refl _ | omega | (simp; done) | (simp; omega) | (simp [World.setCell]; done) | (simp [World.setCell]; omega)))) | ((with_reducible refine Below.setCell ?_ ?_ _); (rotate_left; focus (first | with_reducible exact Nat.le_refl _ | omega | (simp; done) | (simp; omega) | (simp [World.setCell]; done) | (simp [World.setCell]; omega))))))
  have ei0 : decide (i < 0) = false := by simpa using hi0
  by_cases hj0 : j < 0
  · have HW : Hid (wordAt m k i j = none) := by show wordAt m k i j = none; unfold wordAt; rw [if_pos (.inr (.inl hj0))]
    go_enter Try.func20, Try.ntmps20
    go_wp2_with fail
    repeat (go_quiet (fail); go_wp2_with fail)
    go_ret
    exact WordPost.no HW (by repeat (first | with_reducible exact Below.refl _ _ | with_reducible refine Below.drew ?_ | with_reducible refine below_drewN ?_ _ | ((with_reducible refine Below.alloc ?_ ?_ _); (rotate_left; focus (first | with_reducible exact Nat.le_refl _ | omega | (simp; done) | (simp; omega) | (simp [World.setCell]; done) | (simp [World.setCell]; omega)))) | ((with_reducible refine Below.setCell ?_ ?_ _); (rotate_left; focus (first | with_reducible exact Nat.le_refl _ | omega | (simp; done) | (simp; omega) | (simp [World.setCell]; done) | (simp [World.setCell]; omega))))))
  have ej0 : decide (j < 0) = false := by simpa using hj0
  by_cases hj3 : 0 < j ∧ k ≠ 3
  · have HW : Hid (wordAt m k i j = none) := by show wordAt m k i j = none; unfold wordAt; rw [if_pos (.inr (.inr hj3))]
    obtain ⟨hj1, hk3⟩ := hj3
    go_enter Try.func20, Try.ntmps20
    go_wp2_with fail
    repeat (go_quiet (fail); go_wp2_with fail)
    go_ret
    exact WordPost.no HW (by repeat (first | with_reducible exact Below.refl _ _ | with_reducible refine Below.drew ?_ | with_reducible refine below_drewN ?_ _ | ((with_reducible refine Below.alloc ?_ ?_ _); (rotate_left; focus (first | with_reducible exact Nat.le_refl _ | omega | (simp; done) | (simp; omega) | (simp [World.setCell]; done) | (simp [World.setCell]; omega)))) | ((with_reducible refine Below.setCell ?_ ?_ _); (rotate_left; focus (first | with_reducible exact Nat.le_refl _ | omega | (simp; done) | (simp; omega) | (simp [World.setCell]; done) | (simp [World.setCell]; omega))))))
  have hgood : ¬ (i < 0 ∨ j < 0 ∨ (0 < j ∧ k ≠ 3)) := by omega
  have HG := Lib.hid hgood
  obtain ⟨n, rfl⟩ := Int.eq_ofNat_of_zero_le (show 0 ≤ i by omega)
  obtain ⟨q, rfl⟩ := Int.eq_ofNat_of_zero_le (show 0 ≤ j by omega)
  clear hi0 hj0 ei0 ej0 hgood
  by_cases h3 : k = 3
  · subst h3
    have hq3 : ¬ (0 < (q : Int) ∧ (3 : Int) ≠ 3) := by omega
    clear hj3
    by_cases hn : n < R
    · by_cases hq8 : q < 8
      · have HW : Hid ((wordAt m 3 n q).isSome = true ∧ ptrAt b gh gs gc 3 n q = (gs, n * 8 + q)) := by
          show _ ∧ _
          refine ⟨?_, by simp [ptrAt]⟩
          unfold wordAt
          rw [if_neg HG.out]
          have h1 := HR.out
          have h2 := hsl.out
          simp only [show ¬ ((3 : Int) = 1) by omega, show ¬ ((3 : Int) = 2) by omega, if_false, if_true]
          rw [if_pos (by omega), Int.toNat_natCast, Int.toNat_natCast, List.getElem?_eq_getElem (by omega)]
          rfl
        clear hq3
        by_cases hq0 : q = 0
        · subst hq0
          go_enter Try.func20, Try.ntmps20
          go_wp2_with fail
          repeat (go_quiet (fail); go_wp2_with fail)
          go_ret
          exact WordPost.yes HW (by repeat (first | with_reducible exact Below.refl _ _ | with_reducible refine below_drewN ?_ _ | with_reducible refine Below.drew ?_ | ((with_reducible refine Below.alloc ?_ ?_ _); (rotate_left; focus (first | with_reducible exact Nat.le_refl _ | omega | (simp; done) | (simp; omega))))))
        · have e0 : decide (0 < (q : Int)) = true := by simp; omega
          have e1 : (0 : Int) < (q : Int) := by omega
          go_enter Try.func20, Try.ntmps20
          go_wp2_with fail
          repeat (go_quiet (fail); go_wp2_with fail)
          go_ret
          exact WordPost.yes HW (by repeat (first | with_reducible exact Below.refl _ _ | with_reducible refine below_drewN ?_ _ | with_reducible refine Below.drew ?_ | ((with_reducible refine Below.alloc ?_ ?_ _); (rotate_left; focus (first | with_reducible exact Nat.le_refl _ | omega | (simp; done) | (simp; omega))))))
      · have HW : Hid (wordAt m 3 n q = none) := by
          show _ = none
          unfold wordAt
          rw [if_neg HG.out]
          simp only [show ¬ ((3 : Int) = 1) by omega, show ¬ ((3 : Int) = 2) by omega, if_false, if_true]
          rw [if_neg (by omega)]
        have e0 : decide (0 < (q : Int)) = true := by simp; omega
        have e1 : (0 : Int) < (q : Int) := by omega
        have e2 : decide ((q : Int) < 8) = false := by simp; omega
        clear hq3
        go_enter Try.func20, Try.ntmps20
        go_wp2_with fail
        repeat (go_quiet (fail); go_wp2_with fail)
        go_ret
        exact WordPost.no HW (by repeat (first | with_reducible exact Below.refl _ _ | with_reducible refine below_drewN ?_ _ | with_reducible refine Below.drew ?_ | ((with_reducible refine Below.alloc ?_ ?_ _); (rotate_left; focus (first | with_reducible exact Nat.le_refl _ | omega | (simp; done) | (simp; omega))))))
    · have HW : Hid (wordAt m 3 n q = none) := by
        show _ = none
        unfold wordAt
        rw [if_neg HG.out]
        have h1 := HR.out
        have h2 := hsl.out
        simp only [show ¬ ((3 : Int) = 1) by omega, show ¬ ((3 : Int) = 2) by omega, if_false, if_true]
        split
        · rw [Int.toNat_natCast, Int.toNat_natCast, List.getElem?_eq_none (by omega)]
        · rfl
      clear hq3
      by_cases hq0 : q = 0
      · subst hq0
        go_enter Try.func20, Try.ntmps20
        go_wp2_with fail
        repeat (go_quiet (fail); go_wp2_with fail)
        go_ret
        exact WordPost.no HW (by repeat (first | with_reducible exact Below.refl _ _ | with_reducible refine below_drewN ?_ _ | with_reducible refine Below.drew ?_ | ((with_reducible refine Below.alloc ?_ ?_ _); (rotate_left; focus (first | with_reducible exact Nat.le_refl _ | omega | (simp; done) | (simp; omega))))))
      · have e0 : decide (0 < (q : Int)) = true := by simp; omega
        have e1 : (0 : Int) < (q : Int) := by omega
        go_enter Try.func20, Try.ntmps20
        go_wp2_with fail
        repeat (go_quiet (fail); go_wp2_with fail)
        go_ret
        exact WordPost.no HW (by repeat (first | with_reducible exact Below.refl _ _ | with_reducible refine below_drewN ?_ _ | with_reducible refine Below.drew ?_ | ((with_reducible refine Below.alloc ?_ ?_ _); (rotate_left; focus (first | with_reducible exact Nat.le_refl _ | omega | (simp; done) | (simp; omega))))))
  · obtain rfl : q = 0 := by omega
    clear hj3
    by_cases h1 : k = 1
    · subst h1
      by_cases hn : n = 0
      · subst hn
        have HW : Hid ((wordAt m 1 ((0 : Nat) : Int) ((0 : Nat) : Int)).isSome = true ∧ ptrAt b gh gs gc 1 ((0 : Nat) : Int) ((0 : Nat) : Int) = (b, 0)) := by
          show _ ∧ _
          refine ⟨?_, by simp [ptrAt]⟩
          unfold wordAt
          rw [if_neg HG.out]
          rfl
        clear h3
        go_enter Try.func20, Try.ntmps20
        go_wp2_with fail
        repeat (go_quiet (fail); go_wp2_with fail)
        go_ret
        exact WordPost.yes HW (by repeat (first | with_reducible exact Below.refl _ _ | with_reducible refine below_drewN ?_ _ | with_reducible refine Below.drew ?_ | ((with_reducible refine Below.alloc ?_ ?_ _); (rotate_left; focus (first | with_reducible exact Nat.le_refl _ | omega | (simp; done) | (simp; omega))))))
      · have HW : Hid (wordAt m 1 n ((0 : Nat) : Int) = none) := by
          show _ = none
          unfold wordAt
          rw [if_neg HG.out, if_pos rfl, if_neg (by omega)]
        have e0 : ((n : Int) == 0) = false := by simp; omega
        clear h3 hn
        go_enter Try.func20, Try.ntmps20
        go_wp2_with fail
        repeat (go_quiet (fail); go_wp2_with fail)
        go_ret
        exact WordPost.no HW (by repeat (first | with_reducible exact Below.refl _ _ | with_reducible refine below_drewN ?_ _ | with_reducible refine Below.drew ?_ | ((with_reducible refine Below.alloc ?_ ?_ _); (rotate_left; focus (first | with_reducible exact Nat.le_refl _ | omega | (simp; done) | (simp; omega))))))
    · by_cases h2 : k = 2
      · subst h2
        clear h3 h1
        by_cases hn : n < R
        · have HW : Hid ((wordAt m 2 n ((0 : Nat) : Int)).isSome = true ∧ ptrAt b gh gs gc 2 n ((0 : Nat) : Int) = (gh, n)) := by
            show _ ∧ _
            refine ⟨?_, by simp [ptrAt]⟩
            unfold wordAt
            have h1 := HR.out
            rw [if_neg HG.out]
            simp only [show ¬ ((2 : Int) = 1) by omega, if_false, if_true]
            rw [Int.toNat_natCast, List.getElem?_eq_getElem (by omega)]
            rfl
          go_enter Try.func20, Try.ntmps20
          go_wp2_with fail
          repeat (go_quiet (fail); go_wp2_with fail)
          go_ret
          exact WordPost.yes HW (by repeat (first | with_reducible exact Below.refl _ _ | with_reducible refine below_drewN ?_ _ | with_reducible refine Below.drew ?_ | ((with_reducible refine Below.alloc ?_ ?_ _); (rotate_left; focus (first | with_reducible exact Nat.le_refl _ | omega | (simp; done) | (simp; omega))))))
        · have HW : Hid (wordAt m 2 n ((0 : Nat) : Int) = none) := by
            show _ = none
            unfold wordAt
            have h1 := HR.out
            rw [if_neg HG.out]
            simp only [show ¬ ((2 : Int) = 1) by omega, if_false, if_true]
            rw [Int.toNat_natCast, List.getElem?_eq_none (by omega)]
          go_enter Try.func20, Try.ntmps20
          go_wp2_with fail
          repeat (go_quiet (fail); go_wp2_with fail)
          go_ret
          exact WordPost.no HW (by repeat (first | with_reducible exact Below.refl _ _ | with_reducible refine below_drewN ?_ _ | with_reducible refine Below.drew ?_ | ((with_reducible refine Below.alloc ?_ ?_ _); (rotate_left; focus (first | with_reducible exact Nat.le_refl _ | omega | (simp; done) | (simp; omega))))))
      · by_cases h4 : k = 4
        · subst h4
          clear h3 h1 h2
          by_cases hn : n < C
          · have HW : Hid ((wordAt m 4 n ((0 : Nat) : Int)).isSome = true ∧ ptrAt b gh gs gc 4 n ((0 : Nat) : Int) = (gc, n)) := by
              show _ ∧ _
              refine ⟨?_, by simp [ptrAt]⟩
              unfold wordAt
              have h1 := HC.out
              rw [if_neg HG.out]
              simp only [show ¬ ((4 : Int) = 1) by omega, show ¬ ((4 : Int) = 2) by omega, show ¬ ((4 : Int) = 3) by omega, if_false, if_true]
              rw [Int.toNat_natCast, List.getElem?_eq_getElem (by omega)]
              rfl
            go_enter Try.func20, Try.ntmps20
            go_wp2_with fail
            repeat (go_quiet (fail); go_wp2_with fail)
            go_ret
            exact WordPost.yes HW (by repeat (first | with_reducible exact Below.refl _ _ | with_reducible refine below_drewN ?_ _ | with_reducible refine Below.drew ?_ | ((with_reducible refine Below.alloc ?_ ?_ _); (rotate_left; focus (first | with_reducible exact Nat.le_refl _ | omega | (simp; done) | (simp; omega))))))
          · have HW : Hid (wordAt m 4 n ((0 : Nat) : Int) = none) := by
              show _ = none
              unfold wordAt
              have h1 := HC.out
              rw [if_neg HG.out]
              simp only [show ¬ ((4 : Int) = 1) by omega, show ¬ ((4 : Int) = 2) by omega, show ¬ ((4 : Int) = 3) by omega, if_false, if_true]
              rw [Int.toNat_natCast, List.getElem?_eq_none (by omega)]
            go_enter Try.func20, Try.ntmps20
            go_wp2_with fail
            repeat (go_quiet (fail); go_wp2_with fail)
            go_ret
            exact WordPost.no HW (by repeat (first | with_reducible exact Below.refl _ _ | with_reducible refine below_drewN ?_ _ | with_reducible refine Below.drew ?_ | ((with_reducible refine Below.alloc ?_ ?_ _); (rotate_left; focus (first | with_reducible exact Nat.le_refl _ | omega | (simp; done) | (simp; omega))))))
        · have HW : Hid (wordAt m k n ((0 : Nat) : Int) = none) := by
            show _ = none
            unfold wordAt
            rw [if_neg HG.out, if_neg h1, if_neg h2, if_neg h3, if_neg h4]
          have e1 : (k == 1) = false := by simp [h1]
          have e2 : (k == 2) = false := by simp [h2]
          have e3 : (k == 3) = false := by simp [h3]
          have e4 : (k == 4) = false := by simp [h4]
          clear h1 h2 h3 h4
          go_enter Try.func20, Try.ntmps20
          go_wp2_with fail
          repeat (go_quiet (fail); go_wp2_with fail)
          go_ret
          exact WordPost.no HW (by repeat (first | with_reducible exact Below.refl _ _ | with_reducible refine below_drewN ?_ _ | with_reducible refine Below.drew ?_ | ((with_reducible refine Below.alloc ?_ ?_ _); (rotate_left; focus (first | with_reducible exact Nat.le_refl _ | omega | (simp; done) | (simp; omega))))))
end Go.Proofs.Ytnpeldbnnneijaa
