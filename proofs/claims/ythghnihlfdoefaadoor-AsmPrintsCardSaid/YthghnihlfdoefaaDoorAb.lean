/- carousel/code: width, fits, value. -/
import Derived.Test.YthghnihlfdoefaaDoorAa
import Derived.Test.YthghnihlfdoefaaDoorKit
import Derived.Deep.Cut
import Derived.Deep.CutRange
import Derived.BigGuardPart
import Derived.IntWalk
namespace Go.Proofs.YthghnihlfdoefaaDoor
open Go.RowKit Go.Joins Go.ChangeShapes Go.WideShapes Go.Deep
set_option linter.unusedVariables false
set_option linter.unusedSimpArgs false
set_option maxRecDepth 100000

theorem width_any (c : Nat) (hc : c < 7) (w : World) : Calls Tryd.prog 52 #[.int .u8 c] w fun r w' => r = .returned (.int .i64 (widthF c : Nat)) ∧ w' = w := by
  match c, hc with
  | 0, _ => (go_enter Tryd.func52, Tryd.ntmps52); go_wp2; go_ret; exact ⟨rfl, rfl⟩
  | 1, _ => (go_enter Tryd.func52, Tryd.ntmps52); go_wp2; go_ret; exact ⟨rfl, rfl⟩
  | 2, _ => (go_enter Tryd.func52, Tryd.ntmps52); go_wp2; go_ret; exact ⟨rfl, rfl⟩
  | 3, _ => (go_enter Tryd.func52, Tryd.ntmps52); go_wp2; go_ret; exact ⟨rfl, rfl⟩
  | 4, _ => (go_enter Tryd.func52, Tryd.ntmps52); go_wp2; go_ret; exact ⟨rfl, rfl⟩
  | 5, _ => (go_enter Tryd.func52, Tryd.ntmps52); go_wp2; go_ret; exact ⟨rfl, rfl⟩
  | 6, _ => (go_enter Tryd.func52, Tryd.ntmps52); go_wp2; go_ret; exact ⟨rfl, rfl⟩
theorem fits_any (c : Nat) (hc : c < 7) (n : Int) (w : World) : Calls Tryd.prog 51 #[.int .u8 c, .int .i64 n] w fun r w' => r = .returned (.bool (fitsF c n)) ∧ w' = w := by
  match c, hc with
  | 0, _ =>
    by_cases h1 : n = 0
    · subst h1
      (go_enter Tryd.func51, Tryd.ntmps51); go_wp2; go_ret; exact ⟨rfl, rfl⟩
    · have d1 : (n == 0) = false := by simp [h1]
      have HF : Hid (fitsF 0 n = false) := Lib.hid (by unfold fitsF; simp [h1])
      (go_enter Tryd.func51, Tryd.ntmps51); go_wp2; go_ret; exact ⟨by rw [HF.out]; rfl, rfl⟩
  | 3, _ => (go_enter Tryd.func51, Tryd.ntmps51); go_wp2; go_ret; exact ⟨rfl, rfl⟩
  | 1, _ =>
    by_cases h1 : (-128 : Int) ≤ n
    · have d1 : decide ((-128 : Int) ≤ n) = true := decide_eq_true h1
      by_cases h2 : n ≤ 127
      · have d2 : decide (n ≤ 127) = true := decide_eq_true h2
        have HF : Hid (fitsF 1 n = true) := Lib.hid (by unfold fitsF; simp; omega)
        (go_enter Tryd.func51, Tryd.ntmps51); go_wp2; go_ret; exact ⟨by rw [HF.out]; rfl, rfl⟩
      · have d2 : decide (n ≤ 127) = false := decide_eq_false h2
        have HF : Hid (fitsF 1 n = false) := Lib.hid (by unfold fitsF; simp; omega)
        (go_enter Tryd.func51, Tryd.ntmps51); go_wp2; go_ret; exact ⟨by rw [HF.out]; rfl, rfl⟩
    · have d1 : decide ((-128 : Int) ≤ n) = false := decide_eq_false h1
      have HF : Hid (fitsF 1 n = false) := Lib.hid (by unfold fitsF; simp; omega)
      (go_enter Tryd.func51, Tryd.ntmps51); go_wp2; go_ret; exact ⟨by rw [HF.out]; rfl, rfl⟩
  | 2, _ =>
    by_cases h1 : (-32768 : Int) ≤ n
    · have d1 : decide ((-32768 : Int) ≤ n) = true := decide_eq_true h1
      by_cases h2 : n ≤ 32767
      · have d2 : decide (n ≤ 32767) = true := decide_eq_true h2
        have HF : Hid (fitsF 2 n = true) := Lib.hid (by unfold fitsF; simp; omega)
        (go_enter Tryd.func51, Tryd.ntmps51); go_wp2; go_ret; exact ⟨by rw [HF.out]; rfl, rfl⟩
      · have d2 : decide (n ≤ 32767) = false := decide_eq_false h2
        have HF : Hid (fitsF 2 n = false) := Lib.hid (by unfold fitsF; simp; omega)
        (go_enter Tryd.func51, Tryd.ntmps51); go_wp2; go_ret; exact ⟨by rw [HF.out]; rfl, rfl⟩
    · have d1 : decide ((-32768 : Int) ≤ n) = false := decide_eq_false h1
      have HF : Hid (fitsF 2 n = false) := Lib.hid (by unfold fitsF; simp; omega)
      (go_enter Tryd.func51, Tryd.ntmps51); go_wp2; go_ret; exact ⟨by rw [HF.out]; rfl, rfl⟩
  | 4, _ =>
    by_cases h1 : (0 : Int) ≤ n
    · have d1 : decide ((0 : Int) ≤ n) = true := decide_eq_true h1
      by_cases h2 : n < 6
      · have d2 : decide (n < 6) = true := decide_eq_true h2
        have HF : Hid (fitsF 4 n = true) := Lib.hid (by unfold fitsF; simp; omega)
        (go_enter Tryd.func51, Tryd.ntmps51); go_wp2; go_ret; exact ⟨by rw [HF.out]; rfl, rfl⟩
      · have d2 : decide (n < 6) = false := decide_eq_false h2
        have HF : Hid (fitsF 4 n = false) := Lib.hid (by unfold fitsF; simp; omega)
        (go_enter Tryd.func51, Tryd.ntmps51); go_wp2; go_ret; exact ⟨by rw [HF.out]; rfl, rfl⟩
    · have d1 : decide ((0 : Int) ≤ n) = false := decide_eq_false h1
      have HF : Hid (fitsF 4 n = false) := Lib.hid (by unfold fitsF; simp; omega)
      (go_enter Tryd.func51, Tryd.ntmps51); go_wp2; go_ret; exact ⟨by rw [HF.out]; rfl, rfl⟩
  | 5, _ =>
    by_cases h1 : (0 : Int) ≤ n
    · have d1 : decide ((0 : Int) ≤ n) = true := decide_eq_true h1
      by_cases h2 : n ≤ 255
      · have d2 : decide (n ≤ 255) = true := decide_eq_true h2
        have HF : Hid (fitsF 5 n = true) := Lib.hid (by unfold fitsF; simp; omega)
        (go_enter Tryd.func51, Tryd.ntmps51); go_wp2; go_ret; exact ⟨by rw [HF.out]; rfl, rfl⟩
      · have d2 : decide (n ≤ 255) = false := decide_eq_false h2
        have HF : Hid (fitsF 5 n = false) := Lib.hid (by unfold fitsF; simp; omega)
        (go_enter Tryd.func51, Tryd.ntmps51); go_wp2; go_ret; exact ⟨by rw [HF.out]; rfl, rfl⟩
    · have d1 : decide ((0 : Int) ≤ n) = false := decide_eq_false h1
      have HF : Hid (fitsF 5 n = false) := Lib.hid (by unfold fitsF; simp; omega)
      (go_enter Tryd.func51, Tryd.ntmps51); go_wp2; go_ret; exact ⟨by rw [HF.out]; rfl, rfl⟩
  | 6, _ =>
    by_cases h1 : (0 : Int) ≤ n
    · have d1 : decide ((0 : Int) ≤ n) = true := decide_eq_true h1
      by_cases h2 : n ≤ 65535
      · have d2 : decide (n ≤ 65535) = true := decide_eq_true h2
        have HF : Hid (fitsF 6 n = true) := Lib.hid (by unfold fitsF; simp; omega)
        (go_enter Tryd.func51, Tryd.ntmps51); go_wp2; go_ret; exact ⟨by rw [HF.out]; rfl, rfl⟩
      · have d2 : decide (n ≤ 65535) = false := decide_eq_false h2
        have HF : Hid (fitsF 6 n = false) := Lib.hid (by unfold fitsF; simp; omega)
        (go_enter Tryd.func51, Tryd.ntmps51); go_wp2; go_ret; exact ⟨by rw [HF.out]; rfl, rfl⟩
    · have d1 : decide ((0 : Int) ≤ n) = false := decide_eq_false h1
      have HF : Hid (fitsF 6 n = false) := Lib.hid (by unfold fitsF; simp; omega)
      (go_enter Tryd.func51, Tryd.ntmps51); go_wp2; go_ret; exact ⟨by rw [HF.out]; rfl, rfl⟩
theorem wrap_low (n : Int) (h0 : -9223372036854775808 ≤ n) (h1 : n ≤ 9223372036854775807) : wrap64 n = n := by rw [← IntWalk.i64_left]; exact IntWalk.i64_in n ⟨h0, h1⟩
theorem wrap_high (n : Int) (h0 : 9223372036854775808 ≤ n) (h1 : n ≤ 18446744073709551615) : wrap64 n = n - 18446744073709551616 := by
  rw [← IntWalk.i64_left, IntKind.wrap_i64]
  omega
theorem wrap_i8 (n : Nat) (h : n < 256) : IntKind.i8.wrap (n : Int) = if n < 128 then (n : Int) else n - 256 := by
  simp [IntKind.wrap, IntKind.bits, IntKind.signed]
  split <;> omega
theorem wrap_i16 (n : Nat) (h : n < 65536) : IntKind.i16.wrap (n : Int) = if n < 32768 then (n : Int) else n - 65536 := by
  simp [IntKind.wrap, IntKind.bits, IntKind.signed]
  split <;> omega
theorem value_any (c n : Nat) (hc : c < 7) (hn : n < 256 ^ widthF c) (w : World) : Calls Tryd.prog 58 #[.int .u8 c, .int .u64 n] w fun r w' => r = .returned (.int .i64 (valueF c n)) ∧ w' = w := by
  match c, hc with
  | 0, _ =>
    have hv : wrap64 (n : Int) = valueF 0 n := by
      have hn' : n < 1 := hn
      rw [wrap_low _ (by omega) (by omega)]
      simp [valueF]
    have HV := Lib.hid hv
    clear hv hn
    (go_enter Tryd.func58, Tryd.ntmps58); go_wp2; go_ret; exact ⟨by rw [← HV.out]; rfl, rfl⟩
  | 1, _ =>
    have hv : wrap64 (IntKind.i8.wrap (n : Int)) = valueF 1 n := by
      have hn' : n < 256 := hn
      rw [wrap_i8 n hn', wrap_low _ (by split <;> omega) (by split <;> omega)]
      simp [valueF]
    have HV := Lib.hid hv
    clear hv hn
    (go_enter Tryd.func58, Tryd.ntmps58); go_wp2; go_ret; exact ⟨by rw [← HV.out]; rfl, rfl⟩
  | 2, _ =>
    have hv : wrap64 (IntKind.i16.wrap (n : Int)) = valueF 2 n := by
      have hn' : n < 65536 := hn
      rw [wrap_i16 n hn', wrap_low _ (by split <;> omega) (by split <;> omega)]
      simp [valueF]
    have HV := Lib.hid hv
    clear hv hn
    (go_enter Tryd.func58, Tryd.ntmps58); go_wp2; go_ret; exact ⟨by rw [← HV.out]; rfl, rfl⟩
  | 3, _ =>
    have hv : wrap64 (n : Int) = valueF 3 n := by
      have hn' : n < 18446744073709551616 := hn
      by_cases h : n < 9223372036854775808
      · rw [wrap_low _ (by omega) (by omega)]
        simp [valueF, h]
      · rw [wrap_high _ (by omega) (by omega)]
        simp [valueF, h]
    have HV := Lib.hid hv
    clear hv hn
    (go_enter Tryd.func58, Tryd.ntmps58); go_wp2; go_ret; exact ⟨by rw [← HV.out]; rfl, rfl⟩
  | 4, _ =>
    have hv : wrap64 (n : Int) = valueF 4 n := by
      have hn' : n < 256 := hn
      rw [wrap_low _ (by omega) (by omega)]
      simp [valueF]
    have HV := Lib.hid hv
    clear hv hn
    (go_enter Tryd.func58, Tryd.ntmps58); go_wp2; go_ret; exact ⟨by rw [← HV.out]; rfl, rfl⟩
  | 5, _ =>
    have hv : wrap64 (n : Int) = valueF 5 n := by
      have hn' : n < 256 := hn
      rw [wrap_low _ (by omega) (by omega)]
      simp [valueF]
    have HV := Lib.hid hv
    clear hv hn
    (go_enter Tryd.func58, Tryd.ntmps58); go_wp2; go_ret; exact ⟨by rw [← HV.out]; rfl, rfl⟩
  | 6, _ =>
    have hv : wrap64 (n : Int) = valueF 6 n := by
      have hn' : n < 65536 := hn
      rw [wrap_low _ (by omega) (by omega)]
      simp [valueF]
    have HV := Lib.hid hv
    clear hv hn
    (go_enter Tryd.func58, Tryd.ntmps58); go_wp2; go_ret; exact ⟨by rw [← HV.out]; rfl, rfl⟩
end Go.Proofs.YthghnihlfdoefaaDoor
