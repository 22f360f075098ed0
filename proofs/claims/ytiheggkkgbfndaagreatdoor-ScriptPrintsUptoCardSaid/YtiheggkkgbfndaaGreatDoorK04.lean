/- carouselref13: Width, Range. -/
import Derived.Test.YtiheggkkgbfndaaGreatDoorK03
namespace Go.Proofs.YtiheggkkgbfndaaGreatDoor
open Go.RowKit Go.Joins Go.ChangeShapes Go.WideShapes Go.Deep
set_option linter.unusedVariables false
set_option linter.unusedSimpArgs false
set_option maxRecDepth 100000
def loF (sh : Nat) : Int := if sh = 1 then -128 else if sh = 2 then -32768 else if sh = 3 then -9223372036854775808 else 0
def hiF (sh : Nat) : Int := if sh = 1 then 127 else if sh = 2 then 32767 else if sh = 3 then 9223372036854775807 else if sh = 4 then 5 else if sh = 5 then 255 else if sh = 6 then 65535 else 0
theorem fits_range (sh : Nat) (h : sh < 7) (n : Int) (h1 : -9223372036854775808 ≤ n) (h2 : n ≤ 9223372036854775807) : fitsF sh n = decide (loF sh ≤ n ∧ n ≤ hiF sh) := by
 match sh, h with
 | 0, _ => rw [Bool.eq_iff_iff]; simp [fitsF, loF, hiF]; omega
 | 1, _ => rw [Bool.eq_iff_iff]; simp [fitsF, loF, hiF]
 | 2, _ => rw [Bool.eq_iff_iff]; simp [fitsF, loF, hiF]
 | 3, _ => rw [Bool.eq_iff_iff]; simp [fitsF, loF, hiF]; omega
 | 4, _ => rw [Bool.eq_iff_iff]; simp [fitsF, loF, hiF]; omega
 | 5, _ => rw [Bool.eq_iff_iff]; simp [fitsF, loF, hiF]
 | 6, _ => rw [Bool.eq_iff_iff]; simp [fitsF, loF, hiF]
theorem rwidth_bad (c : Int) (h : c < 0 ∨ 40 < c) (w : World) : Calls Tryz.prog 73 #[.int .i64 c] w fun r w' => r = .returned (.int .i64 (-1)) ∧ w' = w := by
 by_cases h0 : c < 0
 ·have d0 : decide (c < 0) = true := decide_eq_true h0
  go_enter Tryz.func73, Tryz.ntmps73
  go_wp2
  go_ret
  exact ⟨rfl, rfl⟩
 ·have d0 : decide (c < 0) = false := decide_eq_false h0
  have d1 : decide (40 < c) = true := decide_eq_true (by omega)
  go_enter Tryz.func73, Tryz.ntmps73
  go_wp2
  go_ret
  exact ⟨rfl, rfl⟩
theorem rwidth_any (c : Nat) (hc : c < 41) (w : World) : Calls Tryz.prog 73 #[.int .i64 c] w fun r w' => r = .returned (.int .i64 (widthF (shapeF c) : Nat)) ∧ w' = w := by
 have hcs : c = 0 ∨ c = 1 ∨ c = 2 ∨ c = 3 ∨ c = 4 ∨ c = 5 ∨ c = 6 ∨ c = 7 ∨ c = 8 ∨ c = 9 ∨ c = 10 ∨ c = 11 ∨ c = 12 ∨ c = 13 ∨ c = 14 ∨ c = 15 ∨ c = 16 ∨ c = 17 ∨ c = 18 ∨ c = 19 ∨ c = 20 ∨ c = 21 ∨ c = 22 ∨ c = 23 ∨ c = 24 ∨ c = 25 ∨ c = 26 ∨ c = 27 ∨ c = 28 ∨ c = 29 ∨ c = 30 ∨ c = 31 ∨ c = 32 ∨ c = 33 ∨ c = 34 ∨ c = 35 ∨ c = 36 ∨ c = 37 ∨ c = 38 ∨ c = 39 ∨ c = 40 := by omega
 clear hc
 rcases hcs with rfl | rfl | rfl | rfl | rfl | rfl | rfl | rfl | rfl | rfl | rfl | rfl | rfl | rfl | rfl | rfl | rfl | rfl | rfl | rfl | rfl | rfl | rfl | rfl | rfl | rfl | rfl | rfl | rfl | rfl | rfl | rfl | rfl | rfl | rfl | rfl | rfl | rfl | rfl | rfl | rfl
 ·(go_enter Tryz.func73, Tryz.ntmps73); go_wp2; go_ret; exact ⟨rfl, rfl⟩
 ·(go_enter Tryz.func73, Tryz.ntmps73); go_wp2; go_ret; exact ⟨rfl, rfl⟩
 ·(go_enter Tryz.func73, Tryz.ntmps73); go_wp2; go_ret; exact ⟨rfl, rfl⟩
 ·(go_enter Tryz.func73, Tryz.ntmps73); go_wp2; go_ret; exact ⟨rfl, rfl⟩
 ·(go_enter Tryz.func73, Tryz.ntmps73); go_wp2; go_ret; exact ⟨rfl, rfl⟩
 ·(go_enter Tryz.func73, Tryz.ntmps73); go_wp2; go_ret; exact ⟨rfl, rfl⟩
 ·(go_enter Tryz.func73, Tryz.ntmps73); go_wp2; go_ret; exact ⟨rfl, rfl⟩
 ·(go_enter Tryz.func73, Tryz.ntmps73); go_wp2; go_ret; exact ⟨rfl, rfl⟩
 ·(go_enter Tryz.func73, Tryz.ntmps73); go_wp2; go_ret; exact ⟨rfl, rfl⟩
 ·(go_enter Tryz.func73, Tryz.ntmps73); go_wp2; go_ret; exact ⟨rfl, rfl⟩
 ·(go_enter Tryz.func73, Tryz.ntmps73); go_wp2; go_ret; exact ⟨rfl, rfl⟩
 ·(go_enter Tryz.func73, Tryz.ntmps73); go_wp2; go_ret; exact ⟨rfl, rfl⟩
 ·(go_enter Tryz.func73, Tryz.ntmps73); go_wp2; go_ret; exact ⟨rfl, rfl⟩
 ·(go_enter Tryz.func73, Tryz.ntmps73); go_wp2; go_ret; exact ⟨rfl, rfl⟩
 ·(go_enter Tryz.func73, Tryz.ntmps73); go_wp2; go_ret; exact ⟨rfl, rfl⟩
 ·(go_enter Tryz.func73, Tryz.ntmps73); go_wp2; go_ret; exact ⟨rfl, rfl⟩
 ·(go_enter Tryz.func73, Tryz.ntmps73); go_wp2; go_ret; exact ⟨rfl, rfl⟩
 ·(go_enter Tryz.func73, Tryz.ntmps73); go_wp2; go_ret; exact ⟨rfl, rfl⟩
 ·(go_enter Tryz.func73, Tryz.ntmps73); go_wp2; go_ret; exact ⟨rfl, rfl⟩
 ·(go_enter Tryz.func73, Tryz.ntmps73); go_wp2; go_ret; exact ⟨rfl, rfl⟩
 ·(go_enter Tryz.func73, Tryz.ntmps73); go_wp2; go_ret; exact ⟨rfl, rfl⟩
 ·(go_enter Tryz.func73, Tryz.ntmps73); go_wp2; go_ret; exact ⟨rfl, rfl⟩
 ·(go_enter Tryz.func73, Tryz.ntmps73); go_wp2; go_ret; exact ⟨rfl, rfl⟩
 ·(go_enter Tryz.func73, Tryz.ntmps73); go_wp2; go_ret; exact ⟨rfl, rfl⟩
 ·(go_enter Tryz.func73, Tryz.ntmps73); go_wp2; go_ret; exact ⟨rfl, rfl⟩
 ·(go_enter Tryz.func73, Tryz.ntmps73); go_wp2; go_ret; exact ⟨rfl, rfl⟩
 ·(go_enter Tryz.func73, Tryz.ntmps73); go_wp2; go_ret; exact ⟨rfl, rfl⟩
 ·(go_enter Tryz.func73, Tryz.ntmps73); go_wp2; go_ret; exact ⟨rfl, rfl⟩
 ·(go_enter Tryz.func73, Tryz.ntmps73); go_wp2; go_ret; exact ⟨rfl, rfl⟩
 ·(go_enter Tryz.func73, Tryz.ntmps73); go_wp2; go_ret; exact ⟨rfl, rfl⟩
 ·(go_enter Tryz.func73, Tryz.ntmps73); go_wp2; go_ret; exact ⟨rfl, rfl⟩
 ·(go_enter Tryz.func73, Tryz.ntmps73); go_wp2; go_ret; exact ⟨rfl, rfl⟩
 ·(go_enter Tryz.func73, Tryz.ntmps73); go_wp2; go_ret; exact ⟨rfl, rfl⟩
 ·(go_enter Tryz.func73, Tryz.ntmps73); go_wp2; go_ret; exact ⟨rfl, rfl⟩
 ·(go_enter Tryz.func73, Tryz.ntmps73); go_wp2; go_ret; exact ⟨rfl, rfl⟩
 ·(go_enter Tryz.func73, Tryz.ntmps73); go_wp2; go_ret; exact ⟨rfl, rfl⟩
 ·(go_enter Tryz.func73, Tryz.ntmps73); go_wp2; go_ret; exact ⟨rfl, rfl⟩
 ·(go_enter Tryz.func73, Tryz.ntmps73); go_wp2; go_ret; exact ⟨rfl, rfl⟩
 ·(go_enter Tryz.func73, Tryz.ntmps73); go_wp2; go_ret; exact ⟨rfl, rfl⟩
 ·(go_enter Tryz.func73, Tryz.ntmps73); go_wp2; go_ret; exact ⟨rfl, rfl⟩
 ·(go_enter Tryz.func73, Tryz.ntmps73); go_wp2; go_ret; exact ⟨rfl, rfl⟩
theorem range_any (c : Nat) (hc : c < 41) (w : World) : Calls Tryz.prog 126 #[.int .i64 c] w fun r w' => r = .returned (.tuple #[.int .i64 (loF (shapeF c)), .int .i64 (hiF (shapeF c))]) ∧ w' = w := by
 have HW := Lib.hid (fun W => rwidth_any c hc W)
 have hcs : c = 0 ∨ c = 1 ∨ c = 2 ∨ c = 3 ∨ c = 4 ∨ c = 5 ∨ c = 6 ∨ c = 7 ∨ c = 8 ∨ c = 9 ∨ c = 10 ∨ c = 11 ∨ c = 12 ∨ c = 13 ∨ c = 14 ∨ c = 15 ∨ c = 16 ∨ c = 17 ∨ c = 18 ∨ c = 19 ∨ c = 20 ∨ c = 21 ∨ c = 22 ∨ c = 23 ∨ c = 24 ∨ c = 25 ∨ c = 26 ∨ c = 27 ∨ c = 28 ∨ c = 29 ∨ c = 30 ∨ c = 31 ∨ c = 32 ∨ c = 33 ∨ c = 34 ∨ c = 35 ∨ c = 36 ∨ c = 37 ∨ c = 38 ∨ c = 39 ∨ c = 40 := by omega
 clear hc
 rcases hcs with rfl | rfl | rfl | rfl | rfl | rfl | rfl | rfl | rfl | rfl | rfl | rfl | rfl | rfl | rfl | rfl | rfl | rfl | rfl | rfl | rfl | rfl | rfl | rfl | rfl | rfl | rfl | rfl | rfl | rfl | rfl | rfl | rfl | rfl | rfl | rfl | rfl | rfl | rfl | rfl | rfl
 ·(go_enter Tryz.func126, Tryz.ntmps126); go_wp2_with (go_at_call 73; refine (HW.out _).mono ?_; rintro r w1 ⟨hr, hw⟩; subst hr; subst hw); go_ret2; exact ⟨rfl, rfl⟩
 ·(go_enter Tryz.func126, Tryz.ntmps126); go_wp2_with (go_at_call 73; refine (HW.out _).mono ?_; rintro r w1 ⟨hr, hw⟩; subst hr; subst hw); go_ret2; exact ⟨rfl, rfl⟩
 ·(go_enter Tryz.func126, Tryz.ntmps126); go_wp2_with (go_at_call 73; refine (HW.out _).mono ?_; rintro r w1 ⟨hr, hw⟩; subst hr; subst hw); go_ret2; exact ⟨rfl, rfl⟩
 ·(go_enter Tryz.func126, Tryz.ntmps126); go_wp2_with (go_at_call 73; refine (HW.out _).mono ?_; rintro r w1 ⟨hr, hw⟩; subst hr; subst hw); go_ret2; exact ⟨rfl, rfl⟩
 ·(go_enter Tryz.func126, Tryz.ntmps126); go_wp2_with (go_at_call 73; refine (HW.out _).mono ?_; rintro r w1 ⟨hr, hw⟩; subst hr; subst hw); go_ret2; exact ⟨rfl, rfl⟩
 ·(go_enter Tryz.func126, Tryz.ntmps126); go_wp2_with (go_at_call 73; refine (HW.out _).mono ?_; rintro r w1 ⟨hr, hw⟩; subst hr; subst hw); go_ret2; exact ⟨rfl, rfl⟩
 ·(go_enter Tryz.func126, Tryz.ntmps126); go_wp2_with (go_at_call 73; refine (HW.out _).mono ?_; rintro r w1 ⟨hr, hw⟩; subst hr; subst hw); go_ret2; exact ⟨rfl, rfl⟩
 ·(go_enter Tryz.func126, Tryz.ntmps126); go_wp2_with (go_at_call 73; refine (HW.out _).mono ?_; rintro r w1 ⟨hr, hw⟩; subst hr; subst hw); go_ret2; exact ⟨rfl, rfl⟩
 ·(go_enter Tryz.func126, Tryz.ntmps126); go_wp2_with (go_at_call 73; refine (HW.out _).mono ?_; rintro r w1 ⟨hr, hw⟩; subst hr; subst hw); go_ret2; exact ⟨rfl, rfl⟩
 ·(go_enter Tryz.func126, Tryz.ntmps126); go_wp2_with (go_at_call 73; refine (HW.out _).mono ?_; rintro r w1 ⟨hr, hw⟩; subst hr; subst hw); go_ret2; exact ⟨rfl, rfl⟩
 ·(go_enter Tryz.func126, Tryz.ntmps126); go_wp2_with (go_at_call 73; refine (HW.out _).mono ?_; rintro r w1 ⟨hr, hw⟩; subst hr; subst hw); go_ret2; exact ⟨rfl, rfl⟩
 ·(go_enter Tryz.func126, Tryz.ntmps126); go_wp2_with (go_at_call 73; refine (HW.out _).mono ?_; rintro r w1 ⟨hr, hw⟩; subst hr; subst hw); go_ret2; exact ⟨rfl, rfl⟩
 ·(go_enter Tryz.func126, Tryz.ntmps126); go_wp2_with (go_at_call 73; refine (HW.out _).mono ?_; rintro r w1 ⟨hr, hw⟩; subst hr; subst hw); go_ret2; exact ⟨rfl, rfl⟩
 ·(go_enter Tryz.func126, Tryz.ntmps126); go_wp2_with (go_at_call 73; refine (HW.out _).mono ?_; rintro r w1 ⟨hr, hw⟩; subst hr; subst hw); go_ret2; exact ⟨rfl, rfl⟩
 ·(go_enter Tryz.func126, Tryz.ntmps126); go_wp2_with (go_at_call 73; refine (HW.out _).mono ?_; rintro r w1 ⟨hr, hw⟩; subst hr; subst hw); go_ret2; exact ⟨rfl, rfl⟩
 ·(go_enter Tryz.func126, Tryz.ntmps126); go_wp2_with (go_at_call 73; refine (HW.out _).mono ?_; rintro r w1 ⟨hr, hw⟩; subst hr; subst hw); go_ret2; exact ⟨rfl, rfl⟩
 ·(go_enter Tryz.func126, Tryz.ntmps126); go_wp2_with (go_at_call 73; refine (HW.out _).mono ?_; rintro r w1 ⟨hr, hw⟩; subst hr; subst hw); go_ret2; exact ⟨rfl, rfl⟩
 ·(go_enter Tryz.func126, Tryz.ntmps126); go_wp2_with (go_at_call 73; refine (HW.out _).mono ?_; rintro r w1 ⟨hr, hw⟩; subst hr; subst hw); go_ret2; exact ⟨rfl, rfl⟩
 ·(go_enter Tryz.func126, Tryz.ntmps126); go_wp2_with (go_at_call 73; refine (HW.out _).mono ?_; rintro r w1 ⟨hr, hw⟩; subst hr; subst hw); go_ret2; exact ⟨rfl, rfl⟩
 ·(go_enter Tryz.func126, Tryz.ntmps126); go_wp2_with (go_at_call 73; refine (HW.out _).mono ?_; rintro r w1 ⟨hr, hw⟩; subst hr; subst hw); go_ret2; exact ⟨rfl, rfl⟩
 ·(go_enter Tryz.func126, Tryz.ntmps126); go_wp2_with (go_at_call 73; refine (HW.out _).mono ?_; rintro r w1 ⟨hr, hw⟩; subst hr; subst hw); go_ret2; exact ⟨rfl, rfl⟩
 ·(go_enter Tryz.func126, Tryz.ntmps126); go_wp2_with (go_at_call 73; refine (HW.out _).mono ?_; rintro r w1 ⟨hr, hw⟩; subst hr; subst hw); go_ret2; exact ⟨rfl, rfl⟩
 ·(go_enter Tryz.func126, Tryz.ntmps126); go_wp2_with (go_at_call 73; refine (HW.out _).mono ?_; rintro r w1 ⟨hr, hw⟩; subst hr; subst hw); go_ret2; exact ⟨rfl, rfl⟩
 ·(go_enter Tryz.func126, Tryz.ntmps126); go_wp2_with (go_at_call 73; refine (HW.out _).mono ?_; rintro r w1 ⟨hr, hw⟩; subst hr; subst hw); go_ret2; exact ⟨rfl, rfl⟩
 ·(go_enter Tryz.func126, Tryz.ntmps126); go_wp2_with (go_at_call 73; refine (HW.out _).mono ?_; rintro r w1 ⟨hr, hw⟩; subst hr; subst hw); go_ret2; exact ⟨rfl, rfl⟩
 ·(go_enter Tryz.func126, Tryz.ntmps126); go_wp2_with (go_at_call 73; refine (HW.out _).mono ?_; rintro r w1 ⟨hr, hw⟩; subst hr; subst hw); go_ret2; exact ⟨rfl, rfl⟩
 ·(go_enter Tryz.func126, Tryz.ntmps126); go_wp2_with (go_at_call 73; refine (HW.out _).mono ?_; rintro r w1 ⟨hr, hw⟩; subst hr; subst hw); go_ret2; exact ⟨rfl, rfl⟩
 ·(go_enter Tryz.func126, Tryz.ntmps126); go_wp2_with (go_at_call 73; refine (HW.out _).mono ?_; rintro r w1 ⟨hr, hw⟩; subst hr; subst hw); go_ret2; exact ⟨rfl, rfl⟩
 ·(go_enter Tryz.func126, Tryz.ntmps126); go_wp2_with (go_at_call 73; refine (HW.out _).mono ?_; rintro r w1 ⟨hr, hw⟩; subst hr; subst hw); go_ret2; exact ⟨rfl, rfl⟩
 ·(go_enter Tryz.func126, Tryz.ntmps126); go_wp2_with (go_at_call 73; refine (HW.out _).mono ?_; rintro r w1 ⟨hr, hw⟩; subst hr; subst hw); go_ret2; exact ⟨rfl, rfl⟩
 ·(go_enter Tryz.func126, Tryz.ntmps126); go_wp2_with (go_at_call 73; refine (HW.out _).mono ?_; rintro r w1 ⟨hr, hw⟩; subst hr; subst hw); go_ret2; exact ⟨rfl, rfl⟩
 ·(go_enter Tryz.func126, Tryz.ntmps126); go_wp2_with (go_at_call 73; refine (HW.out _).mono ?_; rintro r w1 ⟨hr, hw⟩; subst hr; subst hw); go_ret2; exact ⟨rfl, rfl⟩
 ·(go_enter Tryz.func126, Tryz.ntmps126); go_wp2_with (go_at_call 73; refine (HW.out _).mono ?_; rintro r w1 ⟨hr, hw⟩; subst hr; subst hw); go_ret2; exact ⟨rfl, rfl⟩
 ·(go_enter Tryz.func126, Tryz.ntmps126); go_wp2_with (go_at_call 73; refine (HW.out _).mono ?_; rintro r w1 ⟨hr, hw⟩; subst hr; subst hw); go_ret2; exact ⟨rfl, rfl⟩
 ·(go_enter Tryz.func126, Tryz.ntmps126); go_wp2_with (go_at_call 73; refine (HW.out _).mono ?_; rintro r w1 ⟨hr, hw⟩; subst hr; subst hw); go_ret2; exact ⟨rfl, rfl⟩
 ·(go_enter Tryz.func126, Tryz.ntmps126); go_wp2_with (go_at_call 73; refine (HW.out _).mono ?_; rintro r w1 ⟨hr, hw⟩; subst hr; subst hw); go_ret2; exact ⟨rfl, rfl⟩
 ·(go_enter Tryz.func126, Tryz.ntmps126); go_wp2_with (go_at_call 73; refine (HW.out _).mono ?_; rintro r w1 ⟨hr, hw⟩; subst hr; subst hw); go_ret2; exact ⟨rfl, rfl⟩
 ·(go_enter Tryz.func126, Tryz.ntmps126); go_wp2_with (go_at_call 73; refine (HW.out _).mono ?_; rintro r w1 ⟨hr, hw⟩; subst hr; subst hw); go_ret2; exact ⟨rfl, rfl⟩
 ·(go_enter Tryz.func126, Tryz.ntmps126); go_wp2_with (go_at_call 73; refine (HW.out _).mono ?_; rintro r w1 ⟨hr, hw⟩; subst hr; subst hw); go_ret2; exact ⟨rfl, rfl⟩
 ·(go_enter Tryz.func126, Tryz.ntmps126); go_wp2_with (go_at_call 73; refine (HW.out _).mono ?_; rintro r w1 ⟨hr, hw⟩; subst hr; subst hw); go_ret2; exact ⟨rfl, rfl⟩
 ·(go_enter Tryz.func126, Tryz.ntmps126); go_wp2_with (go_at_call 73; refine (HW.out _).mono ?_; rintro r w1 ⟨hr, hw⟩; subst hr; subst hw); go_ret2; exact ⟨rfl, rfl⟩
theorem ret_int {k : IntKind} {a b : Int} (h : a = b) : Ending.returned (.int k a) = .returned (.int k b) := by rw [h]
theorem leF_drop (t : ByteArray) (j : Nat) (h : j < t.size) : leF ((bytesL t).drop j) = (t[j]).toNat + 256 * leF ((bytesL t).drop (j + 1)) := by
 rw [List.drop_eq_getElem_cons (by rw [bytesL_length]; exact h), leF, bytesL_at t j h]
theorem leF_drop_lt (t : ByteArray) (j : Nat) : leF ((bytesL t).drop j) < 256 ^ (t.size - j) := by
 have := leF_lt ((bytesL t).drop j) (fun b hb => by
  have := List.mem_of_mem_drop hb
  simp only [bytesL, List.mem_map] at this
  obtain ⟨u, _, rfl⟩ := this
  exact u.toNat_lt)
 rwa [List.length_drop, bytesL_length] at this
theorem pow_le7 (k : Nat) (h : k ≤ 7) : 256 ^ k ≤ 72057594037927936 := by
 have := Nat.pow_le_pow_right (n := 256) (by decide) h
 exact this
theorem leF_append (l r : List Nat) : leF (l ++ r) = leF l + 256 ^ l.length * leF r := by
 induction l with
 | nil => simp [leF]
 | cons x l ih => rw [List.cons_append, leF, leF, ih, List.length_cons, Nat.pow_succ, Nat.mul_add, Nat.add_assoc, Nat.mul_comm (256 ^ l.length) 256, Nat.mul_assoc]
theorem top_byte (t : ByteArray) (m : Nat) (hm : t.size = m + 1) : 256 ^ m * (t[m]).toNat ≤ leF ((bytesL t).drop 0) ∧ leF ((bytesL t).drop 0) < 256 ^ m * ((t[m]).toNat + 1) := by
 have e : (bytesL t).drop 0 = (bytesL t).take m ++ [(t[m]).toNat] := by
  have h1 : (bytesL t).take (m + 1) = bytesL t := List.take_of_length_le (by rw [bytesL_length, hm]; exact Nat.le_refl _)
  rw [List.drop_zero]
  exact h1.symm.trans (by rw [List.take_succ_eq_append_getElem (by rw [bytesL_length, hm]; exact Nat.lt_succ_self _), bytesL_at t m (by omega)])
 have hl : ((bytesL t).take m).length = m := by rw [List.length_take, bytesL_length, hm]; omega
 have hlt := leF_lt ((bytesL t).take m) (fun b hb => by
  have := List.mem_of_mem_take hb
  simp only [bytesL, List.mem_map] at this
  obtain ⟨u, _, rfl⟩ := this
  exact u.toNat_lt)
 rw [e, leF_append, hl, Nat.mul_add, Nat.mul_one]
 rw [hl] at hlt
 simp only [leF, Nat.mul_zero, Nat.add_zero]
 exact ⟨Nat.le_add_left _ _, by omega⟩
set_option maxHeartbeats 1000000 in
theorem operand_any (c : Nat) (hc : c < 41) (t : ByteArray) (hw : widthF (shapeF c) = t.size) (hp : 1 ≤ t.size) (w : World) :
  Calls Tryz.prog 125 #[.int .i64 c, .string t] w fun r w' => r = .returned (.int .i64 (valueF (shapeF c) (leF (bytesL t)))) ∧ w' = w := by
 obtain ⟨sz, hsz⟩ : ∃ sz, sz = t.size := ⟨_, rfl⟩
 have hs8 : sz ≤ 8 := by rw [hsz, ← hw]; unfold widthF; split <;> (try split) <;> (try split) <;> omega
 have hsa : sz ≤ t.size := by omega
 have hsb : t.size ≤ sz := by omega
 have HSZ := Lib.hid hsz
 clear hsz
 have HR := Lib.hid (fun W => range_any c hc W)
 have HW := Lib.hid hw
 clear hw
 obtain ⟨V, hV⟩ : ∃ V, V = valueF (shapeF c) (leF (bytesL t)) := ⟨_, rfl⟩
 rw [← hV]
 have HV := Lib.hid hV
 clear hV
 go_enter Tryz.func125, Tryz.ntmps125
 go_wp2_with fail
 go_loopg [5, 6] sz (fun gk nv iv wr => ∃ k : Nat, iv = .int .i64 ((k : Int) - 1) ∧ k ≤ sz ∧ gk = k ∧ nv = .int .u64 (leF ((bytesL t).drop k) : Nat) ∧ wr = w)
 case atStart => exact ⟨sz, by rw [HSZ.out], Nat.le_refl _, rfl, by rw [List.drop_eq_nil_of_le (by rw [bytesL_length]; exact hsb)]; rfl, rfl⟩
 case round =>
  obtain ⟨k, rfl, hk, hgk, rfl, rfl⟩ := hrel
  (have HGK := Lib.hid hgk); clear hgk
  cases k with
  | zero =>
   obtain ⟨m, hm⟩ : ∃ m, t.size = m + 1 := ⟨t.size - 1, by omega⟩
   have hx : ((t.size : Int) - 1) = (m : Int) := by omega
   have hmt : m < t.size := by omega
   have LT := leF_drop_lt t 0
   rw [Nat.sub_zero] at LT
   have LTOP := top_byte t m hm
   obtain ⟨z, hz⟩ : ∃ z, z = leF ((bytesL t).drop 0) := ⟨_, rfl⟩
   have hz' : leF (bytesL t) = z := by rw [hz, List.drop_zero]
   rw [← hz] at LT LTOP ⊢
   rw [hz'] at HV
   have HZ := Lib.hid hz
   clear hz hz'
   obtain ⟨b, hb⟩ : ∃ b, b = (t[m]).toNat := ⟨_, rfl⟩
   rw [← hb] at LTOP
   obtain ⟨sh, hsh⟩ : ∃ sh, sh = shapeF c := ⟨_, rfl⟩
   have h7 : sh < 7 := by rw [hsh]; rcases shape_cases c hc with h | h | h | h | h | h | h <;> omega
   rw [← hsh] at HW HR HV
   have HSH := Lib.hid hsh
   have HM := Lib.hid hm
   clear hsh hm
   match sh, h7 with
   | 0, _ =>
    have : (0 : Nat) = t.size := HW.out
    omega
   | 1, _ =>
    have h1 : (1 : Nat) = t.size := HW.out
    rw [← h1] at LT
    have LT' : z < 256 := LT
    obtain rfl : m = 0 := by omega
    have d1 : decide ((t.size : Int) < 8) = true := decide_eq_true (by omega)
    have d2 : decide (t.size < 8) = true := decide_eq_true (by omega)
    have hx1 : (2 : Int) ^ (8 * t.size) = 256 := by rw [← h1]; decide
    by_cases hge : 128 ≤ b
    ·have g1 : decide ((128 : Int) ≤ ((t[0]).toNat : Int)) = true := decide_eq_true (by omega)
     have g2 : decide (128 ≤ (t[0]).toNat) = true := decide_eq_true (by omega)
     have HVV : Hid (wrap64 ((z : Int) - wrap64 (2 ^ (8 * t.size))) = V) := Lib.hid (by rw [hx1, wrap_low 256 (by omega) (by omega), wrap_low _ (by omega) (by omega), HV.out]; unfold valueF; simp; omega)
     clear hge hb LTOP h1 LT HM HZ hx1
     go_wp2_with (go_at_call 126; refine (HR.out _).mono ?_; rintro r w1 ⟨hr, hw⟩; subst hr; subst hw)
     go_ret
     exact ⟨ret_int HVV.out, rfl⟩
    ·have g1 : decide ((128 : Int) ≤ ((t[0]).toNat : Int)) = false := decide_eq_false (by omega)
     have g2 : decide (128 ≤ (t[0]).toNat) = false := decide_eq_false (by omega)
     have HVV : Hid ((z : Int) = V) := Lib.hid (by rw [HV.out]; unfold valueF; simp; omega)
     clear hge hb LTOP h1 LT HM HZ hx1
     go_wp2_with (go_at_call 126; refine (HR.out _).mono ?_; rintro r w1 ⟨hr, hw⟩; subst hr; subst hw)
     go_ret
     exact ⟨ret_int HVV.out, rfl⟩
   | 2, _ =>
    have h1 : (2 : Nat) = t.size := HW.out
    rw [← h1] at LT
    have LT' : z < 65536 := LT
    obtain rfl : m = 1 := by omega
    have d1 : decide ((t.size : Int) < 8) = true := decide_eq_true (by omega)
    have d2 : decide (t.size < 8) = true := decide_eq_true (by omega)
    have hx1 : (2 : Int) ^ (8 * t.size) = 65536 := by rw [← h1]; decide
    by_cases hge : 128 ≤ b
    ·have g1 : decide ((128 : Int) ≤ ((t[1]).toNat : Int)) = true := decide_eq_true (by omega)
     have g2 : decide (128 ≤ (t[1]).toNat) = true := decide_eq_true (by omega)
     have HVV : Hid (wrap64 ((z : Int) - wrap64 (2 ^ (8 * t.size))) = V) := Lib.hid (by rw [hx1, wrap_low 65536 (by omega) (by omega), wrap_low _ (by omega) (by omega), HV.out]; unfold valueF; simp; omega)
     clear hge hb LTOP h1 LT HM HZ hx1
     go_wp2_with (go_at_call 126; refine (HR.out _).mono ?_; rintro r w1 ⟨hr, hw⟩; subst hr; subst hw)
     go_ret
     exact ⟨ret_int HVV.out, rfl⟩
    ·have g1 : decide ((128 : Int) ≤ ((t[1]).toNat : Int)) = false := decide_eq_false (by omega)
     have g2 : decide (128 ≤ (t[1]).toNat) = false := decide_eq_false (by omega)
     have HVV : Hid ((z : Int) = V) := Lib.hid (by rw [HV.out]; unfold valueF; simp; omega)
     clear hge hb LTOP h1 LT HM HZ hx1
     go_wp2_with (go_at_call 126; refine (HR.out _).mono ?_; rintro r w1 ⟨hr, hw⟩; subst hr; subst hw)
     go_ret
     exact ⟨ret_int HVV.out, rfl⟩
   | 3, _ =>
    have h1 : (8 : Nat) = t.size := HW.out
    rw [← h1] at LT
    have d1 : decide ((t.size : Int) < 8) = false := decide_eq_false (by omega)
    have d2 : decide (t.size < 8) = false := decide_eq_false (by omega)
    have HVV : Hid (wrap64 (z : Int) = V) := Lib.hid (by
     have LT' : z < 18446744073709551616 := LT
     rw [HV.out]
     unfold valueF
     by_cases h : z < 9223372036854775808
     ·rw [wrap_low _ (by omega) (by omega)]
      simp [h]
     ·rw [wrap_high _ (by omega) (by omega)]
      simp [h])
    clear hb LTOP h1 LT HM HZ
    go_wp2_with (go_at_call 126; refine (HR.out _).mono ?_; rintro r w1 ⟨hr, hw⟩; subst hr; subst hw)
    go_ret
    exact ⟨ret_int HVV.out, rfl⟩
   | 4, _ =>
    have h1 : (1 : Nat) = t.size := HW.out
    rw [← h1] at LT
    have LT' : z < 256 := LT
    have HVV : Hid ((z : Int) = V) := Lib.hid (by rw [HV.out]; unfold valueF; simp)
    clear hb LTOP h1 LT HM HZ
    go_wp2_with (go_at_call 126; refine (HR.out _).mono ?_; rintro r w1 ⟨hr, hw⟩; subst hr; subst hw)
    go_ret
    exact ⟨ret_int HVV.out, rfl⟩
   | 5, _ =>
    have h1 : (1 : Nat) = t.size := HW.out
    rw [← h1] at LT
    have LT' : z < 256 := LT
    have HVV : Hid ((z : Int) = V) := Lib.hid (by rw [HV.out]; unfold valueF; simp)
    clear hb LTOP h1 LT HM HZ
    go_wp2_with (go_at_call 126; refine (HR.out _).mono ?_; rintro r w1 ⟨hr, hw⟩; subst hr; subst hw)
    go_ret
    exact ⟨ret_int HVV.out, rfl⟩
   | 6, _ =>
    have h1 : (2 : Nat) = t.size := HW.out
    rw [← h1] at LT
    have LT' : z < 65536 := LT
    have HVV : Hid ((z : Int) = V) := Lib.hid (by rw [HV.out]; unfold valueF; simp)
    clear hb LTOP h1 LT HM HZ
    go_wp2_with (go_at_call 126; refine (HR.out _).mono ?_; rintro r w1 ⟨hr, hw⟩; subst hr; subst hw)
    go_ret
    exact ⟨ret_int HVV.out, rfl⟩
  | succ j =>
   have hj : j < t.size := by omega
   have LD := leF_drop t j hj
   have LT := leF_drop_lt t (j + 1)
   have LP := pow_le7 (t.size - (j + 1)) (by omega)
   obtain ⟨b, hb⟩ : ∃ b, b = (t[j]).toNat := ⟨_, rfl⟩
   have hb2 : b < 256 := by rw [hb]; exact UInt8.toNat_lt _
   obtain ⟨z, hz⟩ : ∃ z, z = leF ((bytesL t).drop (j + 1)) := ⟨_, rfl⟩
   rw [← hz] at LD LT ⊢
   rw [← hb] at LD
   have hz2 : z < 72057594037927936 := by omega
   have LDH := Lib.hid LD
   have HB := Lib.hid hb
   clear LD LT LP hz hb
   have hji : ((j + 1 : Nat) : Int) - 1 = (j : Int) := by omega
   rw [hji]
   clear hji
   go_wp2_with fail
   rw [← HB.out]
   have hw1 : IntKind.u64.wrap (b : Int) = b := Go.u64_wrap_id _ (by omega) (by omega)
   have hw2 : IntKind.u64.wrap (256 * (z : Int) + b) = ((b + 256 * z : Nat) : Int) := by
    rw [Go.u64_wrap_id _ (by omega) (by omega)]
    omega
   rw [hw1, hw2]
   clear hw1 hw2
   go_roundg j
   case measure => have := HGK.out; omega
   case rel => exact ⟨j, rfl, by omega, rfl, by rw [LDH.out], rfl⟩
theorem partF_eq (s : ByteArray) (i k : Nat) (h : i + 1 + k ≤ s.size) : leF (bytesL (s.extract (i + 1) (i + 1 + k))) = partF s i k := by
 unfold partF bytesL
 congr 1
 rw [ByteArray.data_extract]
 simp [List.map_take, List.map_drop, Array.toList_extract]
theorem rat_41 (s : ByteArray) (i : Nat) (w : World) (hs : s.size ≤ 4611686018427387904) (hi : i < s.size) (hc : ¬ (s[i]).toNat < 41) :
  Calls Tryz.prog 103 #[.string s, .int .i64 i] w (AtPost w none) := by
 have d1 : decide ((i : Int) < 0) = false := decide_eq_false (by omega)
 have d2 : decide ((s.size : Int) ≤ (i : Int)) = false := decide_eq_false (by omega)
 have d3 : decide (s.size ≤ i) = false := decide_eq_false (by omega)
 have hcw : IntKind.i64.wrap ((s[i]).toNat : Int) = (s[i]).toNat := IntWalk.i64_in _ ⟨by omega, by have := UInt8.toNat_lt s[i]; omega⟩
 have HW := Lib.hid (fun W => rwidth_bad ((s[i]).toNat : Int) (.inr (by omega)) W)
 clear hc
 go_enter Tryz.func103, Tryz.ntmps103
 go_wp2_with (go_at_call 73; refine (HW.out _).mono ?_; rintro r w1 ⟨hr, hw⟩; subst hr; subst hw)
 refine bodyPost_ret (v := .tuple #[.agg #[.int .i64 0, .int .i64 0], .int .i64 0, .int .i64 10]) (by simp [results, Tryz.results103, go_sem]) rfl ?_
 exact ⟨rfl, by repeat (first | with_reducible exact Below.refl _ _ | with_reducible refine Below.drew ?_ | with_reducible refine below_drewN ?_ _ | ((with_reducible refine Below.alloc ?_ ?_ _); (rotate_left; focus (first | with_reducible exact Nat.le_refl _ | omega | (simp; done) | (simp; omega) | (simp [World.setCell]; done) | (simp [World.setCell]; omega)))) | ((with_reducible refine Below.setCell ?_ ?_ _); (rotate_left; focus (first | with_reducible exact Nat.le_refl _ | omega | (simp; done) | (simp; omega) | (simp [World.setCell]; done) | (simp [World.setCell]; omega)))))⟩
theorem rat_short (s : ByteArray) (i : Nat) (w : World) (hs : s.size ≤ 4611686018427387904) (hi : i < s.size) (hc : (s[i]).toNat < 41) (hw : ¬ widthF (shapeF (s[i]).toNat) ≤ s.size - (i + 1)) :
  Calls Tryz.prog 103 #[.string s, .int .i64 i] w (AtPost w none) := by
 have d1 : decide ((i : Int) < 0) = false := decide_eq_false (by omega)
 have d2 : decide ((s.size : Int) ≤ (i : Int)) = false := decide_eq_false (by omega)
 have d3 : decide (s.size ≤ i) = false := decide_eq_false (by omega)
 have hcw : IntKind.i64.wrap ((s[i]).toNat : Int) = (s[i]).toNat := IntWalk.i64_in _ ⟨by omega, by have := UInt8.toNat_lt s[i]; omega⟩
 have HW := Lib.hid (fun W => rwidth_any (s[i]).toNat hc W)
 have d4 : decide ((widthF (shapeF (s[i]).toNat) : Int) < 0) = false := decide_eq_false (by omega)
 have d5 : decide ((s.size : Int) - (i : Int) - 1 < (widthF (shapeF (s[i]).toNat) : Int)) = true := decide_eq_true (by omega)
 clear hc hw
 go_enter Tryz.func103, Tryz.ntmps103
 go_wp2_with (go_at_call 73; refine (HW.out _).mono ?_; rintro r w1 ⟨hr, hw⟩; subst hr; subst hw)
 refine bodyPost_ret (v := .tuple #[.agg #[.int .i64 0, .int .i64 0], .int .i64 0, .int .i64 10]) (by simp [results, Tryz.results103, go_sem]) rfl ?_
 exact ⟨rfl, by repeat (first | with_reducible exact Below.refl _ _ | with_reducible refine Below.drew ?_ | with_reducible refine below_drewN ?_ _ | ((with_reducible refine Below.alloc ?_ ?_ _); (rotate_left; focus (first | with_reducible exact Nat.le_refl _ | omega | (simp; done) | (simp; omega) | (simp [World.setCell]; done) | (simp [World.setCell]; omega)))) | ((with_reducible refine Below.setCell ?_ ?_ _); (rotate_left; focus (first | with_reducible exact Nat.le_refl _ | omega | (simp; done) | (simp; omega) | (simp [World.setCell]; done) | (simp [World.setCell]; omega)))))⟩
theorem rat_bare (s : ByteArray) (i : Nat) (w : World) (hs : s.size ≤ 4611686018427387904) (hi : i < s.size) (hc : (s[i]).toNat < 41) (hw : shapeF (s[i]).toNat = 0) :
  Calls Tryz.prog 103 #[.string s, .int .i64 i] w (AtPost w (some (⟨(s[i]).toNat, 0⟩, 1))) := by
 have d1 : decide ((i : Int) < 0) = false := decide_eq_false (by omega)
 have d2 : decide ((s.size : Int) ≤ (i : Int)) = false := decide_eq_false (by omega)
 have d3 : decide (s.size ≤ i) = false := decide_eq_false (by omega)
 have hcw : IntKind.i64.wrap ((s[i]).toNat : Int) = (s[i]).toNat := IntWalk.i64_in _ ⟨by omega, by have := UInt8.toNat_lt s[i]; omega⟩
 have HW0 : ∀ W, Calls Tryz.prog 73 #[.int .i64 (s[i]).toNat] W fun r w' => r = .returned (.int .i64 0) ∧ w' = W := fun W => (rwidth_any (s[i]).toNat hc W).mono fun r w' h => ⟨by rw [h.1, hw]; rfl, h.2⟩
 have HW := Lib.hid HW0
 have d5 : decide ((s.size : Int) - (i : Int) - 1 < 0) = false := decide_eq_false (by omega)
 have d6 : decide ((s.size : Int) - (i : Int) - 1 < ((0 : Nat) : Int)) = false := decide_eq_false (by omega)
 clear hc hw HW0
 go_enter Tryz.func103, Tryz.ntmps103
 go_wp2_with (go_at_call 73; refine (HW.out _).mono ?_; rintro r w1 ⟨hr, hw⟩; subst hr; subst hw)
 refine bodyPost_ret (v := .tuple #[.agg #[.int .i64 (s[i]).toNat, .int .i64 0], .int .i64 1, .int .i64 0]) (by simp [results, Tryz.results103, go_sem]) rfl ?_
 exact ⟨rfl, by repeat (first | with_reducible exact Below.refl _ _ | with_reducible refine Below.drew ?_ | with_reducible refine below_drewN ?_ _ | ((with_reducible refine Below.alloc ?_ ?_ _); (rotate_left; focus (first | with_reducible exact Nat.le_refl _ | omega | (simp; done) | (simp; omega) | (simp [World.setCell]; done) | (simp [World.setCell]; omega)))) | ((with_reducible refine Below.setCell ?_ ?_ _); (rotate_left; focus (first | with_reducible exact Nat.le_refl _ | omega | (simp; done) | (simp; omega) | (simp [World.setCell]; done) | (simp [World.setCell]; omega)))))⟩

theorem value_lo (sh n : Nat) (h : sh < 7) (hn : n < 256 ^ widthF sh) : loF sh ≤ valueF sh n ∧ -9223372036854775808 ≤ valueF sh n ∧ valueF sh n ≤ 9223372036854775807 := by
 match sh, h with
 | 0, _ =>
  have hn' : n < 1 := hn
  simp [loF, valueF]
  omega
 | 1, _ =>
  have hn' : n < 256 := hn
  simp [loF, valueF]
  omega
 | 2, _ =>
  have hn' : n < 65536 := hn
  simp [loF, valueF]
  omega
 | 3, _ =>
  have hn' : n < 18446744073709551616 := hn
  simp [loF, valueF]
  omega
 | 4, _ =>
  have hn' : n < 256 := hn
  simp [loF, valueF]
  omega
 | 5, _ =>
  have hn' : n < 256 := hn
  simp [loF, valueF]
  omega
 | 6, _ =>
  have hn' : n < 65536 := hn
  simp [loF, valueF]
  omega
theorem fits_hi (sh n : Nat) (h : sh < 7) (hn : n < 256 ^ widthF sh) : fitsF sh (valueF sh n) = decide (valueF sh n ≤ hiF sh) := by
 obtain ⟨h1, h2, h3⟩ := value_lo sh n h hn
 rw [fits_range sh h _ h2 h3, Bool.eq_iff_iff]
 simp [h1]
set_option maxHeartbeats 1000000 in
theorem rat_long (s : ByteArray) (i : Nat) (w : World) (hs : s.size ≤ 4611686018427387904) (hi : i < s.size) (hc : (s[i]).toNat < 41) (hn0 : shapeF (s[i]).toNat ≠ 0) (hle : widthF (shapeF (s[i]).toNat) ≤ s.size - (i + 1)) :
  Calls Tryz.prog 103 #[.string s, .int .i64 i] w (AtPost w (atF (bytesL s) i)) := by
 have HAB := Lib.hid (atF_bad s i hi hc hle)
 have HAG := Lib.hid (atF_good s i hi hc hle)
 have h7 : shapeF (s[i]).toNat < 7 := by rcases shape_cases (s[i]).toNat hc with h | h | h | h | h | h | h <;> omega
 have d1 : decide ((i : Int) < 0) = false := decide_eq_false (by omega)
 have d2 : decide ((s.size : Int) ≤ (i : Int)) = false := decide_eq_false (by omega)
 have d3 : decide (s.size ≤ i) = false := decide_eq_false (by omega)
 have hcw : IntKind.i64.wrap ((s[i]).toNat : Int) = (s[i]).toNat := IntWalk.i64_in _ ⟨by omega, by have := UInt8.toNat_lt s[i]; omega⟩
 have HW := Lib.hid (fun W => rwidth_any (s[i]).toNat hc W)
 have HR := Lib.hid (fun W => range_any (s[i]).toNat hc W)
 have hp := partF_eq s i (widthF (shapeF (s[i]).toNat)) (by omega)
 have hsz : (s.extract (i + 1) (i + 1 + widthF (shapeF (s[i]).toNat))).size = widthF (shapeF (s[i]).toNat) := by rw [ByteArray.size_extract]; omega
 have h1w : 1 ≤ widthF (shapeF (s[i]).toNat) := by
  rcases shape_cases (s[i]).toNat hc with h | h | h | h | h | h | h
  all_goals (rw [h.2]; first | decide | exact absurd h.2 hn0)
 have HOP := Lib.hid (fun W => operand_any (s[i]).toNat hc (s.extract (i + 1) (i + 1 + widthF (shapeF (s[i]).toNat))) hsz.symm (by omega) W)
 rw [hp] at HOP
 have hwl : widthF (shapeF (s[i]).toNat) ≤ 8 := by unfold widthF; split <;> (try split) <;> (try split) <;> omega
 have HFI := Lib.hid (fits_hi (shapeF (s[i]).toNat) (partF s i (widthF (shapeF (s[i]).toNat))) h7 (partF_lt s i _ hle))
 obtain ⟨sh, hshh⟩ : ∃ sh, sh = shapeF (s[i]).toNat := ⟨_, rfl⟩
 rw [← hshh] at HAB HAG HW HR HOP HFI h7 hle h1w hwl
 obtain ⟨wd, hwd⟩ : ∃ wd, wd = widthF sh := ⟨_, rfl⟩
 rw [← hwd] at HAB HAG HW HOP HFI hle h1w hwl
 obtain ⟨V, hV⟩ : ∃ V, V = valueF sh (partF s i wd) := ⟨_, rfl⟩
 rw [← hV] at HAB HAG HOP HFI
 have d4 : decide ((wd : Int) < 0) = false := decide_eq_false (by omega)
 have d5 : decide ((s.size : Int) - (i : Int) - 1 < (wd : Int)) = false := decide_eq_false (by omega)
 have d6 : ((wd : Int) == 0) = false := by simp; omega
 have e1 : ((i : Int) + 1 + (wd : Int)).toNat = i + 1 + wd := by omega
 have hsl : ∀ W, (Instr.slice 9 (.string s) (some (.int .i64 ((i : Int) + 1))) (some (.int .i64 ((i : Int) + 1 + (wd : Int)))) none).run Tryz.prog W = .ok (.string (s.extract (i + 1) (i + 1 + wd))) W := fun W => by
  have h := run_slice_string (P := Tryz.prog) W 9 s .i64 .i64 ((i : Int) + 1) ((i : Int) + 1 + (wd : Int)) Tryz.underlying9 (by omega) (by omega) (by omega)
  rwa [e1, show ((i : Int) + 1).toNat = i + 1 by omega] at h
 clear e1
 have hi2 : i + 1 + wd ≤ s.size := by omega
 have hi3 : (i : Int) + 1 ≤ (s.size : Int) := by omega
 obtain ⟨hi, hhi⟩ : ∃ hi, hi = hiF sh := ⟨_, rfl⟩
 rw [← hhi] at HR HFI
 clear hshh hwd hV hn0 hp hsz hhi
 cases hf : fitsF sh V
 ·have HX := Lib.hid (HAB.out hf)
  have d7 : decide (hi < V) = true := by have := HFI.out; rw [hf] at this; have := of_decide_eq_false this.symm; exact decide_eq_true (by omega)
  clear HAB HAG HFI hf
  go_enter Tryz.func103, Tryz.ntmps103
  go_wp2_with (first | (go_at_call 73; refine (HW.out _).mono ?_; rintro r w1 ⟨hr, hw⟩; subst hr; subst hw) | (go_at_call 125; refine (HOP.out _).mono ?_; rintro r w1 ⟨hr, hw⟩; subst hr; subst hw) | (go_at_call 126; refine (HR.out _).mono ?_; rintro r w1 ⟨hr, hw⟩; subst hr; subst hw))
  refine bodyPost_ret (v := .tuple #[.agg #[.int .i64 0, .int .i64 0], .int .i64 0, .int .i64 10]) (by simp [results, Tryz.results103, go_sem]) rfl ?_
  exact ⟨by rw [HX.out]; rfl, by repeat (first | with_reducible exact Below.refl _ _ | with_reducible refine Below.drew ?_ | with_reducible refine below_drewN ?_ _ | ((with_reducible refine Below.alloc ?_ ?_ _); (rotate_left; focus (first | with_reducible exact Nat.le_refl _ | omega | (simp; done) | (simp; omega) | (simp [World.setCell]; done) | (simp [World.setCell]; omega)))) | ((with_reducible refine Below.setCell ?_ ?_ _); (rotate_left; focus (first | with_reducible exact Nat.le_refl _ | omega | (simp; done) | (simp; omega) | (simp [World.setCell]; done) | (simp [World.setCell]; omega)))))⟩
 ·have HX := Lib.hid (HAG.out hf)
  have d7 : decide (hi < V) = false := by have := HFI.out; rw [hf] at this; have := of_decide_eq_true this.symm; exact decide_eq_false (by omega)
  clear HAB HAG HFI hf
  go_enter Tryz.func103, Tryz.ntmps103
  go_wp2_with (first | (go_at_call 73; refine (HW.out _).mono ?_; rintro r w1 ⟨hr, hw⟩; subst hr; subst hw) | (go_at_call 125; refine (HOP.out _).mono ?_; rintro r w1 ⟨hr, hw⟩; subst hr; subst hw) | (go_at_call 126; refine (HR.out _).mono ?_; rintro r w1 ⟨hr, hw⟩; subst hr; subst hw))
  refine bodyPost_ret (v := .tuple #[.agg #[.int .i64 (s[i]).toNat, .int .i64 V], .int .i64 (1 + wd), .int .i64 0]) (by simp [results, Tryz.results103, go_sem]) rfl ?_
  exact ⟨by rw [HX.out]; simp only [atV]; rfl, by repeat (first | with_reducible exact Below.refl _ _ | with_reducible refine Below.drew ?_ | with_reducible refine below_drewN ?_ _ | ((with_reducible refine Below.alloc ?_ ?_ _); (rotate_left; focus (first | with_reducible exact Nat.le_refl _ | omega | (simp; done) | (simp; omega) | (simp [World.setCell]; done) | (simp [World.setCell]; omega)))) | ((with_reducible refine Below.setCell ?_ ?_ _); (rotate_left; focus (first | with_reducible exact Nat.le_refl _ | omega | (simp; done) | (simp; omega) | (simp [World.setCell]; done) | (simp [World.setCell]; omega)))))⟩
theorem rat_any (s : ByteArray) (i : Nat) (w : World) (hs : s.size ≤ 4611686018427387904) (hi : i < s.size) :
  Calls Tryz.prog 103 #[.string s, .int .i64 i] w (AtPost w (atF (bytesL s) i)) := by
 by_cases hc : (s[i]).toNat < 41
 ·by_cases hw : widthF (shapeF (s[i]).toNat) ≤ s.size - (i + 1)
  ·by_cases h0 : shapeF (s[i]).toNat = 0
   ·have hb := atF_good s i hi hc hw (by rw [h0]; simp [widthF, partF, leF, valueF, fitsF])
    rw [hb, h0]
    simp only [widthF, partF, leF, valueF, List.take_zero]
    exact rat_bare s i w hs hi hc h0
   ·exact rat_long s i w hs hi hc h0 hw
  ·rw [atF_short s i hi hc hw]
   exact rat_short s i w hs hi hc hw
 ·rw [atF_no41 s i hi hc]
  exact rat_41 s i w hs hi hc
end Go.Proofs.YtiheggkkgbfndaaGreatDoor
