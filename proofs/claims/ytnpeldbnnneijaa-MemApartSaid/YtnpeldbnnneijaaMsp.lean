/- The order of addresses, as the program holds it; a sorted row of touches. -/
import Derived.Test.YtnpeldbnnneijaaMso
import Derived.Test.YtnpeldbnnneijaaMr1
import Derived.StillTailTactics
namespace Go.Proofs.Ytnpeldbnnneijaa
open Go.RowKit Go.Joins Go.ChangeShapes Go.WideShapes Go.Deep Go.Shelf Go.Lib Go.Sort
set_option linter.unusedVariables false
set_option maxRecDepth 100000

/-- Compare of two numbers. -/
def cmpI (x y : Int) : Int := if x < y then -1 else if y < x then 1 else 0
theorem compare_any (x y : Int) (w : World) : Calls Try.prog 40 #[.int .i64 x, .int .i64 y] w fun e w' => e = .returned (.int .i64 (cmpI x y)) ∧ w = w' := by
  by_cases h1 : x < y
  · have hr : cmpI x y = -1 := by simp [cmpI, h1]
    rw [hr]
    have e1 : decide (x < y) = true := by simp [h1]
    clear hr
    go_enter Try.func40, Try.ntmps40
    go_wp2
    go_ret
    exact ⟨rfl, rfl⟩
  · by_cases h2 : y < x
    · have hr : cmpI x y = 1 := by simp [cmpI, h1, h2]
      rw [hr]
      have e1 : decide (x < y) = false := by simpa using h1
      have e2 : decide (y < x) = true := by simp [h2]
      clear hr
      go_enter Try.func40, Try.ntmps40
      go_wp2
      go_ret
      exact ⟨rfl, rfl⟩
    · have hr : cmpI x y = 0 := by simp [cmpI, h1, h2]
      rw [hr]
      have e1 : decide (x < y) = false := by simpa using h1
      have e2 : decide (y < x) = false := by simpa using h2
      clear hr
      go_enter Try.func40, Try.ntmps40
      go_wp2
      go_ret
      exact ⟨rfl, rfl⟩
/-- The first of three numbers that is not 0. -/
def orI (a b c : Int) : Int := if a ≠ 0 then a else if b ≠ 0 then b else c
theorem or_any (a b c : Int) (g : Nat) (w : World) (hg : g < w.heap.size) (c0 : w.cell? ⟨g, 0, none⟩ = some (.int .i64 a)) (c1 : w.cell? ⟨g, 1, none⟩ = some (.int .i64 b)) (c2 : w.cell? ⟨g, 2, none⟩ = some (.int .i64 c)) :
    Calls Try.prog 39 #[.slice (some ⟨g, 0, none⟩) 3 3] w fun e w' => e = .returned (.int .i64 (orI a b c)) ∧ w = w' := by
  obtain ⟨r, hr⟩ : ∃ r, r = orI a b c := ⟨_, rfl⟩
  rw [← hr]
  by_cases ha : a = 0
  · subst ha
    by_cases hb : b = 0
    · subst hb
      by_cases hc : c = 0
      · subst hc
        obtain rfl : r = 0 := hr
        go_enter Try.func39, Try.ntmps39
        go_wp2
        repeat (refine wp_loop_rounds 4 ?_; repeat (rw [rounds_succ]; go_wp2))
        go_ret
        exact ⟨rfl, rfl⟩
      · have e3 : (c != 0) = true := by simp [hc]
        obtain rfl : r = c := hr
        clear hc
        go_enter Try.func39, Try.ntmps39
        go_wp2
        repeat (refine wp_loop_rounds 4 ?_; repeat (rw [rounds_succ]; go_wp2))
        go_ret
        exact ⟨rfl, rfl⟩
    · have e2 : (b != 0) = true := by simp [hb]
      obtain rfl : r = b := hr.trans (by simp [orI, hb])
      clear hb hr
      go_enter Try.func39, Try.ntmps39
      go_wp2
      repeat (refine wp_loop_rounds 4 ?_; repeat (rw [rounds_succ]; go_wp2))
      go_ret
      exact ⟨rfl, rfl⟩
  · have e1 : (a != 0) = true := by simp [ha]
    obtain rfl : r = a := hr.trans (by simp [orI, ha])
    clear ha hr
    go_enter Try.func39, Try.ntmps39
    go_wp2
    repeat (refine wp_loop_rounds 4 ?_; repeat (rw [rounds_succ]; go_wp2))
    go_ret
    exact ⟨rfl, rfl⟩

/-- Two addresses held against each other. -/
def rise3 (a b : Int × Int × Int) : Int := orI (cmpI a.1 b.1) (cmpI a.2.1 b.2.1) (cmpI a.2.2 b.2.2)
theorem rise3_lt (a b : Int × Int × Int) : decide (rise3 a b < 0) = decide (lt3 a b) := by
  obtain ⟨a1, a2, a3⟩ := a
  obtain ⟨b1, b2, b3⟩ := b
  unfold rise3 orI cmpI lt3
  simp only
  apply decide_eq_decide.2
  by_cases h1 : a1 < b1 <;> by_cases h2 : b1 < a1 <;> by_cases h3 : a2 < b2 <;> by_cases h4 : b2 < a2 <;> by_cases h5 : a3 < b3 <;> by_cases h6 : b3 < a3 <;> simp [h1, h2, h3, h4, h5, h6] <;> omega
theorem grow_drewN (w : World) (os : Array Obj) (n : Nat) : (grow w os).drewN n = grow (w.drewN n) os := rfl

set_option maxHeartbeats 2000000 in
theorem rises_any (a1 a2 a3 b1 b2 b3 : Int) (w : World) : Calls Try.prog 34 #[.agg #[.int .i64 a1, .int .i64 a2, .int .i64 a3], .agg #[.int .i64 b1, .int .i64 b2, .int .i64 b3]] w fun e w' =>
    e = .returned (.int .i64 (rise3 (a1, a2, a3) (b1, b2, b3))) ∧ ∃ q os', w' = grow (w.drewN q) os' := by
  have h1 := fun W => compare_any a1 b1 W
  have h2 := fun W => compare_any a2 b2 W
  have h3 := fun W => compare_any a3 b3 W
  show Calls _ _ _ _ fun e w' => e = .returned (.int .i64 (orI (cmpI a1 b1) (cmpI a2 b2) (cmpI a3 b3))) ∧ _
  generalize cmpI a1 b1 = c1 at h1 ⊢
  generalize cmpI a2 b2 = c2 at h2 ⊢
  generalize cmpI a3 b3 = c3 at h3 ⊢
  have h4 := fun g W => or_any c1 c2 c3 g W
  generalize orI c1 c2 c3 = r at h4 ⊢
  go_enter Try.func34, Try.ntmps34
  go_wp2_with fail
  refine wp_region_still_tail 15 (by kernel_rfl) (by kernel_rfl) ?_
  change wpStill _ _ (World.drew _) (fun a' => wpList _ _ _ _ a' (World.drew _)) _ _
  simp only [List.take_succ_cons, List.take_zero, List.drop_succ_cons, List.drop_zero]
  repeat still_step
  still_call ((h1 _).mono fun _ _ h => ⟨h.1, h.2.symm⟩)
  repeat still_step
  still_call ((h2 _).mono fun _ _ h => ⟨h.1, h.2.symm⟩)
  repeat still_step
  still_call ((h3 _).mono fun _ _ h => ⟨h.1, h.2.symm⟩)
  refine wpStill_nil ?_
  go_wp2_with fail
  refine (h4 _ _ (by exact (Blk.drew (Blk.new' (by simp))).lt) (by exact ((Blk.drew (Blk.new' (by simp))).cell 0).trans rfl) (by exact ((Blk.drew (Blk.new' (by simp))).cell 1).trans rfl) (by exact ((Blk.drew (Blk.new' (by simp))).cell 2).trans rfl)).mono ?_
  rintro e w1 ⟨rfl, rfl⟩
  go_wp2_with fail
  go_ret
  exact ⟨rfl, 1, _, by simp only [alloc_eq_grow, grow_grow]; rfl⟩
end Go.Proofs.Ytnpeldbnnneijaa
