/- carouselref13: Width, Range. -/
import Derived.Test.YtiheggkkgbfndaaGreatDoorJ04
namespace Go.Proofs.YtiheggkkgbfndaaGreatDoor
open Go.RowKit Go.Joins Go.ChangeShapes Go.WideShapes Go.Deep
set_option linter.unusedVariables false
set_option linter.unusedSimpArgs false
set_option maxRecDepth 100000
def loF (sh : Nat) : Int := if sh = 1 then -128 else if sh = 2 then -32768 else if sh = 3 then -9223372036854775808 else 0
def hiF (sh : Nat) : Int := if sh = 1 then 127 else if sh = 2 then 32767 else if sh = 3 then 9223372036854775807 else if sh = 4 then 5 else if sh = 5 then 255 else if sh = 6 then 65535 else 0
theorem fits_range (sh : Nat) (h : sh < 7) (n : Int) (h1 : -9223372036854775808 ≤ n) (h2 : n ≤ 9223372036854775807) : fitsF sh n = decide (loF sh ≤ n ∧ n ≤ hiF sh) := by
 match sh, h with
 | 0, _ => rw [Bool.eq_iff_iff]; simp [fitsF, loF, hiF]; omega
 | 1, _ => rw [Bool.eq_iff_iff]; simp [fitsF, loF, hiF]
 | 2, _ => rw [Bool.eq_iff_iff]; simp [fitsF, loF, hiF]
 | 3, _ => rw [Bool.eq_iff_iff]; simp [fitsF, loF, hiF]; omega
 | 4, _ => rw [Bool.eq_iff_iff]; simp [fitsF, loF, hiF]; omega
 | 5, _ => rw [Bool.eq_iff_iff]; simp [fitsF, loF, hiF]
 | 6, _ => rw [Bool.eq_iff_iff]; simp [fitsF, loF, hiF]
theorem rwidth_any (c : Nat) (hc : c < 41) (w : World) : Calls Tryz.prog 73 #[.int .i64 c] w fun r w' => r = .returned (.int .i64 (widthF (shapeF c) : Nat)) ∧ w' = w := by
 have hcs : c = 0 ∨ c = 1 ∨ c = 2 ∨ c = 3 ∨ c = 4 ∨ c = 5 ∨ c = 6 ∨ c = 7 ∨ c = 8 ∨ c = 9 ∨ c = 10 ∨ c = 11 ∨ c = 12 ∨ c = 13 ∨ c = 14 ∨ c = 15 ∨ c = 16 ∨ c = 17 ∨ c = 18 ∨ c = 19 ∨ c = 20 ∨ c = 21 ∨ c = 22 ∨ c = 23 ∨ c = 24 ∨ c = 25 ∨ c = 26 ∨ c = 27 ∨ c = 28 ∨ c = 29 ∨ c = 30 ∨ c = 31 ∨ c = 32 ∨ c = 33 ∨ c = 34 ∨ c = 35 ∨ c = 36 ∨ c = 37 ∨ c = 38 ∨ c = 39 ∨ c = 40 := by omega
 clear hc
 rcases hcs with rfl | rfl | rfl | rfl | rfl | rfl | rfl | rfl | rfl | rfl | rfl | rfl | rfl | rfl | rfl | rfl | rfl | rfl | rfl | rfl | rfl | rfl | rfl | rfl | rfl | rfl | rfl | rfl | rfl | rfl | rfl | rfl | rfl | rfl | rfl | rfl | rfl | rfl | rfl | rfl | rfl
 ·(go_enter Tryz.func73, Tryz.ntmps73); go_wp2; go_ret; exact ⟨rfl, rfl⟩
 ·(go_enter Tryz.func73, Tryz.ntmps73); go_wp2; go_ret; exact ⟨rfl, rfl⟩
 ·(go_enter Tryz.func73, Tryz.ntmps73); go_wp2; go_ret; exact ⟨rfl, rfl⟩
 ·(go_enter Tryz.func73, Tryz.ntmps73); go_wp2; go_ret; exact ⟨rfl, rfl⟩
 ·(go_enter Tryz.func73, Tryz.ntmps73); go_wp2; go_ret; exact ⟨rfl, rfl⟩
 ·(go_enter Tryz.func73, Tryz.ntmps73); go_wp2; go_ret; exact ⟨rfl, rfl⟩
 ·(go_enter Tryz.func73, Tryz.ntmps73); go_wp2; go_ret; exact ⟨rfl, rfl⟩
 ·(go_enter Tryz.func73, Tryz.ntmps73); go_wp2; go_ret; exact ⟨rfl, rfl⟩
 ·(go_enter Tryz.func73, Tryz.ntmps73); go_wp2; go_ret; exact ⟨rfl, rfl⟩
 ·(go_enter Tryz.func73, Tryz.ntmps73); go_wp2; go_ret; exact ⟨rfl, rfl⟩
 ·(go_enter Tryz.func73, Tryz.ntmps73); go_wp2; go_ret; exact ⟨rfl, rfl⟩
 ·(go_enter Tryz.func73, Tryz.ntmps73); go_wp2; go_ret; exact ⟨rfl, rfl⟩
 ·(go_enter Tryz.func73, Tryz.ntmps73); go_wp2; go_ret; exact ⟨rfl, rfl⟩
 ·(go_enter Tryz.func73, Tryz.ntmps73); go_wp2; go_ret; exact ⟨rfl, rfl⟩
 ·(go_enter Tryz.func73, Tryz.ntmps73); go_wp2; go_ret; exact ⟨rfl, rfl⟩
 ·(go_enter Tryz.func73, Tryz.ntmps73); go_wp2; go_ret; exact ⟨rfl, rfl⟩
 ·(go_enter Tryz.func73, Tryz.ntmps73); go_wp2; go_ret; exact ⟨rfl, rfl⟩
 ·(go_enter Tryz.func73, Tryz.ntmps73); go_wp2; go_ret; exact ⟨rfl, rfl⟩
 ·(go_enter Tryz.func73, Tryz.ntmps73); go_wp2; go_ret; exact ⟨rfl, rfl⟩
 ·(go_enter Tryz.func73, Tryz.ntmps73); go_wp2; go_ret; exact ⟨rfl, rfl⟩
 ·(go_enter Tryz.func73, Tryz.ntmps73); go_wp2; go_ret; exact ⟨rfl, rfl⟩
 ·(go_enter Tryz.func73, Tryz.ntmps73); go_wp2; go_ret; exact ⟨rfl, rfl⟩
 ·(go_enter Tryz.func73, Tryz.ntmps73); go_wp2; go_ret; exact ⟨rfl, rfl⟩
 ·(go_enter Tryz.func73, Tryz.ntmps73); go_wp2; go_ret; exact ⟨rfl, rfl⟩
 ·(go_enter Tryz.func73, Tryz.ntmps73); go_wp2; go_ret; exact ⟨rfl, rfl⟩
 ·(go_enter Tryz.func73, Tryz.ntmps73); go_wp2; go_ret; exact ⟨rfl, rfl⟩
 ·(go_enter Tryz.func73, Tryz.ntmps73); go_wp2; go_ret; exact ⟨rfl, rfl⟩
 ·(go_enter Tryz.func73, Tryz.ntmps73); go_wp2; go_ret; exact ⟨rfl, rfl⟩
 ·(go_enter Tryz.func73, Tryz.ntmps73); go_wp2; go_ret; exact ⟨rfl, rfl⟩
 ·(go_enter Tryz.func73, Tryz.ntmps73); go_wp2; go_ret; exact ⟨rfl, rfl⟩
 ·(go_enter Tryz.func73, Tryz.ntmps73); go_wp2; go_ret; exact ⟨rfl, rfl⟩
 ·(go_enter Tryz.func73, Tryz.ntmps73); go_wp2; go_ret; exact ⟨rfl, rfl⟩
 ·(go_enter Tryz.func73, Tryz.ntmps73); go_wp2; go_ret; exact ⟨rfl, rfl⟩
 ·(go_enter Tryz.func73, Tryz.ntmps73); go_wp2; go_ret; exact ⟨rfl, rfl⟩
 ·(go_enter Tryz.func73, Tryz.ntmps73); go_wp2; go_ret; exact ⟨rfl, rfl⟩
 ·(go_enter Tryz.func73, Tryz.ntmps73); go_wp2; go_ret; exact ⟨rfl, rfl⟩
 ·(go_enter Tryz.func73, Tryz.ntmps73); go_wp2; go_ret; exact ⟨rfl, rfl⟩
 ·(go_enter Tryz.func73, Tryz.ntmps73); go_wp2; go_ret; exact ⟨rfl, rfl⟩
 ·(go_enter Tryz.func73, Tryz.ntmps73); go_wp2; go_ret; exact ⟨rfl, rfl⟩
 ·(go_enter Tryz.func73, Tryz.ntmps73); go_wp2; go_ret; exact ⟨rfl, rfl⟩
 ·(go_enter Tryz.func73, Tryz.ntmps73); go_wp2; go_ret; exact ⟨rfl, rfl⟩
theorem range_any (c : Nat) (hc : c < 41) (w : World) : Calls Tryz.prog 126 #[.int .i64 c] w fun r w' => r = .returned (.tuple #[.int .i64 (loF (shapeF c)), .int .i64 (hiF (shapeF c))]) ∧ w' = w := by
 have HW := Lib.hid (fun W => rwidth_any c hc W)
 have hcs : c = 0 ∨ c = 1 ∨ c = 2 ∨ c = 3 ∨ c = 4 ∨ c = 5 ∨ c = 6 ∨ c = 7 ∨ c = 8 ∨ c = 9 ∨ c = 10 ∨ c = 11 ∨ c = 12 ∨ c = 13 ∨ c = 14 ∨ c = 15 ∨ c = 16 ∨ c = 17 ∨ c = 18 ∨ c = 19 ∨ c = 20 ∨ c = 21 ∨ c = 22 ∨ c = 23 ∨ c = 24 ∨ c = 25 ∨ c = 26 ∨ c = 27 ∨ c = 28 ∨ c = 29 ∨ c = 30 ∨ c = 31 ∨ c = 32 ∨ c = 33 ∨ c = 34 ∨ c = 35 ∨ c = 36 ∨ c = 37 ∨ c = 38 ∨ c = 39 ∨ c = 40 := by omega
 clear hc
 rcases hcs with rfl | rfl | rfl | rfl | rfl | rfl | rfl | rfl | rfl | rfl | rfl | rfl | rfl | rfl | rfl | rfl | rfl | rfl | rfl | rfl | rfl | rfl | rfl | rfl | rfl | rfl | rfl | rfl | rfl | rfl | rfl | rfl | rfl | rfl | rfl | rfl | rfl | rfl | rfl | rfl | rfl
 ·(go_enter Tryz.func126, Tryz.ntmps126); go_wp2_with (go_at_call 73; refine (HW.out _).mono ?_; rintro r w1 ⟨hr, hw⟩; subst hr; subst hw); go_ret2; exact ⟨rfl, rfl⟩
 ·(go_enter Tryz.func126, Tryz.ntmps126); go_wp2_with (go_at_call 73; refine (HW.out _).mono ?_; rintro r w1 ⟨hr, hw⟩; subst hr; subst hw); go_ret2; exact ⟨rfl, rfl⟩
 ·(go_enter Tryz.func126, Tryz.ntmps126); go_wp2_with (go_at_call 73; refine (HW.out _).mono ?_; rintro r w1 ⟨hr, hw⟩; subst hr; subst hw); go_ret2; exact ⟨rfl, rfl⟩
 ·(go_enter Tryz.func126, Tryz.ntmps126); go_wp2_with (go_at_call 73; refine (HW.out _).mono ?_; rintro r w1 ⟨hr, hw⟩; subst hr; subst hw); go_ret2; exact ⟨rfl, rfl⟩
 ·(go_enter Tryz.func126, Tryz.ntmps126); go_wp2_with (go_at_call 73; refine (HW.out _).mono ?_; rintro r w1 ⟨hr, hw⟩; subst hr; subst hw); go_ret2; exact ⟨rfl, rfl⟩
 ·(go_enter Tryz.func126, Tryz.ntmps126); go_wp2_with (go_at_call 73; refine (HW.out _).mono ?_; rintro r w1 ⟨hr, hw⟩; subst hr; subst hw); go_ret2; exact ⟨rfl, rfl⟩
 ·(go_enter Tryz.func126, Tryz.ntmps126); go_wp2_with (go_at_call 73; refine (HW.out _).mono ?_; rintro r w1 ⟨hr, hw⟩; subst hr; subst hw); go_ret2; exact ⟨rfl, rfl⟩
 ·(go_enter Tryz.func126, Tryz.ntmps126); go_wp2_with (go_at_call 73; refine (HW.out _).mono ?_; rintro r w1 ⟨hr, hw⟩; subst hr; subst hw); go_ret2; exact ⟨rfl, rfl⟩
 ·(go_enter Tryz.func126, Tryz.ntmps126); go_wp2_with (go_at_call 73; refine (HW.out _).mono ?_; rintro r w1 ⟨hr, hw⟩; subst hr; subst hw); go_ret2; exact ⟨rfl, rfl⟩
 ·(go_enter Tryz.func126, Tryz.ntmps126); go_wp2_with (go_at_call 73; refine (HW.out _).mono ?_; rintro r w1 ⟨hr, hw⟩; subst hr; subst hw); go_ret2; exact ⟨rfl, rfl⟩
 ·(go_enter Tryz.func126, Tryz.ntmps126); go_wp2_with (go_at_call 73; refine (HW.out _).mono ?_; rintro r w1 ⟨hr, hw⟩; subst hr; subst hw); go_ret2; exact ⟨rfl, rfl⟩
 ·(go_enter Tryz.func126, Tryz.ntmps126); go_wp2_with (go_at_call 73; refine (HW.out _).mono ?_; rintro r w1 ⟨hr, hw⟩; subst hr; subst hw); go_ret2; exact ⟨rfl, rfl⟩
 ·(go_enter Tryz.func126, Tryz.ntmps126); go_wp2_with (go_at_call 73; refine (HW.out _).mono ?_; rintro r w1 ⟨hr, hw⟩; subst hr; subst hw); go_ret2; exact ⟨rfl, rfl⟩
 ·(go_enter Tryz.func126, Tryz.ntmps126); go_wp2_with (go_at_call 73; refine (HW.out _).mono ?_; rintro r w1 ⟨hr, hw⟩; subst hr; subst hw); go_ret2; exact ⟨rfl, rfl⟩
 ·(go_enter Tryz.func126, Tryz.ntmps126); go_wp2_with (go_at_call 73; refine (HW.out _).mono ?_; rintro r w1 ⟨hr, hw⟩; subst hr; subst hw); go_ret2; exact ⟨rfl, rfl⟩
 ·(go_enter Tryz.func126, Tryz.ntmps126); go_wp2_with (go_at_call 73; refine (HW.out _).mono ?_; rintro r w1 ⟨hr, hw⟩; subst hr; subst hw); go_ret2; exact ⟨rfl, rfl⟩
 ·(go_enter Tryz.func126, Tryz.ntmps126); go_wp2_with (go_at_call 73; refine (HW.out _).mono ?_; rintro r w1 ⟨hr, hw⟩; subst hr; subst hw); go_ret2; exact ⟨rfl, rfl⟩
 ·(go_enter Tryz.func126, Tryz.ntmps126); go_wp2_with (go_at_call 73; refine (HW.out _).mono ?_; rintro r w1 ⟨hr, hw⟩; subst hr; subst hw); go_ret2; exact ⟨rfl, rfl⟩
 ·(go_enter Tryz.func126, Tryz.ntmps126); go_wp2_with (go_at_call 73; refine (HW.out _).mono ?_; rintro r w1 ⟨hr, hw⟩; subst hr; subst hw); go_ret2; exact ⟨rfl, rfl⟩
 ·(go_enter Tryz.func126, Tryz.ntmps126); go_wp2_with (go_at_call 73; refine (HW.out _).mono ?_; rintro r w1 ⟨hr, hw⟩; subst hr; subst hw); go_ret2; exact ⟨rfl, rfl⟩
 ·(go_enter Tryz.func126, Tryz.ntmps126); go_wp2_with (go_at_call 73; refine (HW.out _).mono ?_; rintro r w1 ⟨hr, hw⟩; subst hr; subst hw); go_ret2; exact ⟨rfl, rfl⟩
 ·(go_enter Tryz.func126, Tryz.ntmps126); go_wp2_with (go_at_call 73; refine (HW.out _).mono ?_; rintro r w1 ⟨hr, hw⟩; subst hr; subst hw); go_ret2; exact ⟨rfl, rfl⟩
 ·(go_enter Tryz.func126, Tryz.ntmps126); go_wp2_with (go_at_call 73; refine (HW.out _).mono ?_; rintro r w1 ⟨hr, hw⟩; subst hr; subst hw); go_ret2; exact ⟨rfl, rfl⟩
 ·(go_enter Tryz.func126, Tryz.ntmps126); go_wp2_with (go_at_call 73; refine (HW.out _).mono ?_; rintro r w1 ⟨hr, hw⟩; subst hr; subst hw); go_ret2; exact ⟨rfl, rfl⟩
 ·(go_enter Tryz.func126, Tryz.ntmps126); go_wp2_with (go_at_call 73; refine (HW.out _).mono ?_; rintro r w1 ⟨hr, hw⟩; subst hr; subst hw); go_ret2; exact ⟨rfl, rfl⟩
 ·(go_enter Tryz.func126, Tryz.ntmps126); go_wp2_with (go_at_call 73; refine (HW.out _).mono ?_; rintro r w1 ⟨hr, hw⟩; subst hr; subst hw); go_ret2; exact ⟨rfl, rfl⟩
 ·(go_enter Tryz.func126, Tryz.ntmps126); go_wp2_with (go_at_call 73; refine (HW.out _).mono ?_; rintro r w1 ⟨hr, hw⟩; subst hr; subst hw); go_ret2; exact ⟨rfl, rfl⟩
 ·(go_enter Tryz.func126, Tryz.ntmps126); go_wp2_with (go_at_call 73; refine (HW.out _).mono ?_; rintro r w1 ⟨hr, hw⟩; subst hr; subst hw); go_ret2; exact ⟨rfl, rfl⟩
 ·(go_enter Tryz.func126, Tryz.ntmps126); go_wp2_with (go_at_call 73; refine (HW.out _).mono ?_; rintro r w1 ⟨hr, hw⟩; subst hr; subst hw); go_ret2; exact ⟨rfl, rfl⟩
 ·(go_enter Tryz.func126, Tryz.ntmps126); go_wp2_with (go_at_call 73; refine (HW.out _).mono ?_; rintro r w1 ⟨hr, hw⟩; subst hr; subst hw); go_ret2; exact ⟨rfl, rfl⟩
 ·(go_enter Tryz.func126, Tryz.ntmps126); go_wp2_with (go_at_call 73; refine (HW.out _).mono ?_; rintro r w1 ⟨hr, hw⟩; subst hr; subst hw); go_ret2; exact ⟨rfl, rfl⟩
 ·(go_enter Tryz.func126, Tryz.ntmps126); go_wp2_with (go_at_call 73; refine (HW.out _).mono ?_; rintro r w1 ⟨hr, hw⟩; subst hr; subst hw); go_ret2; exact ⟨rfl, rfl⟩
 ·(go_enter Tryz.func126, Tryz.ntmps126); go_wp2_with (go_at_call 73; refine (HW.out _).mono ?_; rintro r w1 ⟨hr, hw⟩; subst hr; subst hw); go_ret2; exact ⟨rfl, rfl⟩
 ·(go_enter Tryz.func126, Tryz.ntmps126); go_wp2_with (go_at_call 73; refine (HW.out _).mono ?_; rintro r w1 ⟨hr, hw⟩; subst hr; subst hw); go_ret2; exact ⟨rfl, rfl⟩
 ·(go_enter Tryz.func126, Tryz.ntmps126); go_wp2_with (go_at_call 73; refine (HW.out _).mono ?_; rintro r w1 ⟨hr, hw⟩; subst hr; subst hw); go_ret2; exact ⟨rfl, rfl⟩
 ·(go_enter Tryz.func126, Tryz.ntmps126); go_wp2_with (go_at_call 73; refine (HW.out _).mono ?_; rintro r w1 ⟨hr, hw⟩; subst hr; subst hw); go_ret2; exact ⟨rfl, rfl⟩
 ·(go_enter Tryz.func126, Tryz.ntmps126); go_wp2_with (go_at_call 73; refine (HW.out _).mono ?_; rintro r w1 ⟨hr, hw⟩; subst hr; subst hw); go_ret2; exact ⟨rfl, rfl⟩
 ·(go_enter Tryz.func126, Tryz.ntmps126); go_wp2_with (go_at_call 73; refine (HW.out _).mono ?_; rintro r w1 ⟨hr, hw⟩; subst hr; subst hw); go_ret2; exact ⟨rfl, rfl⟩
 ·(go_enter Tryz.func126, Tryz.ntmps126); go_wp2_with (go_at_call 73; refine (HW.out _).mono ?_; rintro r w1 ⟨hr, hw⟩; subst hr; subst hw); go_ret2; exact ⟨rfl, rfl⟩
 ·(go_enter Tryz.func126, Tryz.ntmps126); go_wp2_with (go_at_call 73; refine (HW.out _).mono ?_; rintro r w1 ⟨hr, hw⟩; subst hr; subst hw); go_ret2; exact ⟨rfl, rfl⟩
 ·(go_enter Tryz.func126, Tryz.ntmps126); go_wp2_with (go_at_call 73; refine (HW.out _).mono ?_; rintro r w1 ⟨hr, hw⟩; subst hr; subst hw); go_ret2; exact ⟨rfl, rfl⟩
end Go.Proofs.YtiheggkkgbfndaaGreatDoor
