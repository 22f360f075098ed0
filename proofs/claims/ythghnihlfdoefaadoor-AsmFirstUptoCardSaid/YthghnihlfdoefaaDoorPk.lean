/- Programs of bytes, plain: the instruction at a place, and all of them. -/
import Derived.Test.YthghnihlfdoefaaDoorRows
import Derived.Test.YthghnihlfdoefaaDoorKit
import Derived.Deep.Cut
import Derived.Deep.CutRange
import Derived.BigGuardPart
import Derived.IntWalk
namespace Go.Proofs.YthghnihlfdoefaaDoor
set_option linter.unusedVariables false
set_option linter.unusedSimpArgs false

/-- An instruction. -/
structure AOp where
  code : Nat
  operand : Int
/-- The shapes of opcodes' operands: 0 none, 1 of one byte with a sign, 2 of two, 3 of eight, 4 a kind, 5 of one byte, 6 of two. -/
def shapeL : List Nat := [0, 1, 2, 3, 0, 0, 0, 0, 0, 0, 0, 0, 0, 0, 0, 0, 0, 0, 0, 0, 0, 0, 0, 4, 2, 2, 6, 0, 5, 0, 0, 0, 0, 5, 5, 5, 5, 5, 5, 5, 5]
def shapeF (c : Nat) : Nat := shapeL.getD c 0
def widthF (sh : Nat) : Nat := if sh = 1 ∨ sh = 4 ∨ sh = 5 then 1 else if sh = 2 ∨ sh = 6 then 2 else if sh = 3 then 8 else 0
/-- Bytes as a number, the least first. -/
def leF : List Nat → Nat
  | [] => 0
  | b :: r => b + 256 * leF r
theorem leF_snoc (l : List Nat) (b : Nat) : leF (l ++ [b]) = leF l + 256 ^ l.length * b := by
  induction l with
  | nil => simp [leF]
  | cons x r ih =>
    rw [List.cons_append, leF, leF, ih, List.length_cons, Nat.pow_succ, Nat.mul_add, Nat.add_assoc, Nat.mul_comm (256 ^ r.length) 256, Nat.mul_assoc]
theorem leF_lt (l : List Nat) (h : ∀ b ∈ l, b < 256) : leF l < 256 ^ l.length := by
  induction l with
  | nil => simp [leF]
  | cons x r ih =>
    have h1 := ih fun b hb => h b (List.mem_cons_of_mem _ hb)
    have h2 := h x (by simp)
    rw [leF, List.length_cons, Nat.pow_succ]
    omega
/-- The number that bits of a shape are. -/
def valueF (sh n : Nat) : Int := if sh = 1 then (if n < 128 then (n : Int) else n - 256) else if sh = 2 then (if n < 32768 then (n : Int) else n - 65536) else if sh = 3 then (if n < 9223372036854775808 then (n : Int) else n - 18446744073709551616) else n
/-- May a number be an operand of a shape? -/
def fitsF (sh : Nat) (n : Int) : Bool :=
  if sh = 1 then decide (-128 ≤ n ∧ n ≤ 127) else if sh = 2 then decide (-32768 ≤ n ∧ n ≤ 32767) else if sh = 3 then true
  else if sh = 4 then decide (0 ≤ n ∧ n < 6) else if sh = 5 then decide (0 ≤ n ∧ n ≤ 255) else if sh = 6 then decide (0 ≤ n ∧ n ≤ 65535) else decide (n = 0)
/-- The instruction at a place, and how many bytes it has. -/
def atF (s : List Nat) (i : Nat) : Option (AOp × Nat) :=
  if i < s.length then
    (let c := s.getD i 0
     if c < 41 then
       (let w := widthF (shapeF c)
        if w ≤ s.length - (i + 1) then
          (let o := valueF (shapeF c) (leF ((s.drop (i + 1)).take w))
           if fitsF (shapeF c) o = true then some (⟨c, o⟩, 1 + w) else none)
        else none)
     else none)
  else none
/-- All of them from a place on; what is wrong, at which byte. -/
def decF (s : List Nat) : Nat → Nat → Except Nat (List AOp)
  | 0, i => .ok []
  | f + 1, i => if i < s.length then
      (match atF s i with
       | none => .error i
       | some (o, k) => match decF s f (i + k) with
         | .ok r => .ok (o :: r)
         | .error e => .error e)
      else .ok []
theorem shape_cases (c : Nat) (h : c < 41) : (c = 1 ∧ shapeF c = 1) ∨ ((c = 2 ∨ c = 24 ∨ c = 25) ∧ shapeF c = 2) ∨ (c = 3 ∧ shapeF c = 3) ∨ (c = 23 ∧ shapeF c = 4) ∨ ((c = 28 ∨ 33 ≤ c) ∧ shapeF c = 5) ∨ (c = 26 ∧ shapeF c = 6) ∨ ((c ≠ 1 ∧ c ≠ 2 ∧ c ≠ 3 ∧ c ≠ 23 ∧ c ≠ 24 ∧ c ≠ 25 ∧ c ≠ 26 ∧ c ≠ 28 ∧ c < 33) ∧ shapeF c = 0) := by
  have key : ∀ k, k < 41 → (k = 1 ∧ shapeF k = 1) ∨ ((k = 2 ∨ k = 24 ∨ k = 25) ∧ shapeF k = 2) ∨ (k = 3 ∧ shapeF k = 3) ∨ (k = 23 ∧ shapeF k = 4) ∨ ((k = 28 ∨ 33 ≤ k) ∧ shapeF k = 5) ∨ (k = 26 ∧ shapeF k = 6) ∨ ((k ≠ 1 ∧ k ≠ 2 ∧ k ≠ 3 ∧ k ≠ 23 ∧ k ≠ 24 ∧ k ≠ 25 ∧ k ≠ 26 ∧ k ≠ 28 ∧ k < 33) ∧ shapeF k = 0) := by decide
  exact key c h
end Go.Proofs.YthghnihlfdoefaaDoor

/- carousel/code: width, fits, value. -/
namespace Go.Proofs.YthghnihlfdoefaaDoor
open Go.RowKit Go.Joins Go.ChangeShapes Go.WideShapes Go.Deep
set_option linter.unusedVariables false
set_option linter.unusedSimpArgs false
set_option maxRecDepth 100000

theorem width_any (c : Nat) (hc : c < 7) (w : World) : Calls Tryd.prog 52 #[.int .u8 c] w fun r w' => r = .returned (.int .i64 (widthF c : Nat)) ∧ w' = w := by
  match c, hc with
  | 0, _ => (go_enter Tryd.func52, Tryd.ntmps52); go_wp2; go_ret; exact ⟨rfl, rfl⟩
  | 1, _ => (go_enter Tryd.func52, Tryd.ntmps52); go_wp2; go_ret; exact ⟨rfl, rfl⟩
  | 2, _ => (go_enter Tryd.func52, Tryd.ntmps52); go_wp2; go_ret; exact ⟨rfl, rfl⟩
  | 3, _ => (go_enter Tryd.func52, Tryd.ntmps52); go_wp2; go_ret; exact ⟨rfl, rfl⟩
  | 4, _ => (go_enter Tryd.func52, Tryd.ntmps52); go_wp2; go_ret; exact ⟨rfl, rfl⟩
  | 5, _ => (go_enter Tryd.func52, Tryd.ntmps52); go_wp2; go_ret; exact ⟨rfl, rfl⟩
  | 6, _ => (go_enter Tryd.func52, Tryd.ntmps52); go_wp2; go_ret; exact ⟨rfl, rfl⟩
theorem fits_any (c : Nat) (hc : c < 7) (n : Int) (w : World) : Calls Tryd.prog 51 #[.int .u8 c, .int .i64 n] w fun r w' => r = .returned (.bool (fitsF c n)) ∧ w' = w := by
  match c, hc with
  | 0, _ =>
    by_cases h1 : n = 0
    · subst h1
      (go_enter Tryd.func51, Tryd.ntmps51); go_wp2; go_ret; exact ⟨rfl, rfl⟩
    · have d1 : (n == 0) = false := by simp [h1]
      have HF : Hid (fitsF 0 n = false) := Lib.hid (by unfold fitsF; simp [h1])
      (go_enter Tryd.func51, Tryd.ntmps51); go_wp2; go_ret; exact ⟨by rw [HF.out]; rfl, rfl⟩
  | 3, _ => (go_enter Tryd.func51, Tryd.ntmps51); go_wp2; go_ret; exact ⟨rfl, rfl⟩
  | 1, _ =>
    by_cases h1 : (-128 : Int) ≤ n
    · have d1 : decide ((-128 : Int) ≤ n) = true := decide_eq_true h1
      by_cases h2 : n ≤ 127
      · have d2 : decide (n ≤ 127) = true := decide_eq_true h2
        have HF : Hid (fitsF 1 n = true) := Lib.hid (by unfold fitsF; simp; omega)
        (go_enter Tryd.func51, Tryd.ntmps51); go_wp2; go_ret; exact ⟨by rw [HF.out]; rfl, rfl⟩
      · have d2 : decide (n ≤ 127) = false := decide_eq_false h2
        have HF : Hid (fitsF 1 n = false) := Lib.hid (by unfold fitsF; simp; omega)
        (go_enter Tryd.func51, Tryd.ntmps51); go_wp2; go_ret; exact ⟨by rw [HF.out]; rfl, rfl⟩
    · have d1 : decide ((-128 : Int) ≤ n) = false := decide_eq_false h1
      have HF : Hid (fitsF 1 n = false) := Lib.hid (by unfold fitsF; simp; omega)
      (go_enter Tryd.func51, Tryd.ntmps51); go_wp2; go_ret; exact ⟨by rw [HF.out]; rfl, rfl⟩
  | 2, _ =>
    by_cases h1 : (-32768 : Int) ≤ n
    · have d1 : decide ((-32768 : Int) ≤ n) = true := decide_eq_true h1
      by_cases h2 : n ≤ 32767
      · have d2 : decide (n ≤ 32767) = true := decide_eq_true h2
        have HF : Hid (fitsF 2 n = true) := Lib.hid (by unfold fitsF; simp; omega)
        (go_enter Tryd.func51, Tryd.ntmps51); go_wp2; go_ret; exact ⟨by rw [HF.out]; rfl, rfl⟩
      · have d2 : decide (n ≤ 32767) = false := decide_eq_false h2
        have HF : Hid (fitsF 2 n = false) := Lib.hid (by unfold fitsF; simp; omega)
        (go_enter Tryd.func51, Tryd.ntmps51); go_wp2; go_ret; exact ⟨by rw [HF.out]; rfl, rfl⟩
    · have d1 : decide ((-32768 : Int) ≤ n) = false := decide_eq_false h1
      have HF : Hid (fitsF 2 n = false) := Lib.hid (by unfold fitsF; simp; omega)
      (go_enter Tryd.func51, Tryd.ntmps51); go_wp2; go_ret; exact ⟨by rw [HF.out]; rfl, rfl⟩
  | 4, _ =>
    by_cases h1 : (0 : Int) ≤ n
    · have d1 : decide ((0 : Int) ≤ n) = true := decide_eq_true h1
      by_cases h2 : n < 6
      · have d2 : decide (n < 6) = true := decide_eq_true h2
        have HF : Hid (fitsF 4 n = true) := Lib.hid (by unfold fitsF; simp; omega)
        (go_enter Tryd.func51, Tryd.ntmps51); go_wp2; go_ret; exact ⟨by rw [HF.out]; rfl, rfl⟩
      · have d2 : decide (n < 6) = false := decide_eq_false h2
        have HF : Hid (fitsF 4 n = false) := Lib.hid (by unfold fitsF; simp; omega)
        (go_enter Tryd.func51, Tryd.ntmps51); go_wp2; go_ret; exact ⟨by rw [HF.out]; rfl, rfl⟩
    · have d1 : decide ((0 : Int) ≤ n) = false := decide_eq_false h1
      have HF : Hid (fitsF 4 n = false) := Lib.hid (by unfold fitsF; simp; omega)
      (go_enter Tryd.func51, Tryd.ntmps51); go_wp2; go_ret; exact ⟨by rw [HF.out]; rfl, rfl⟩
  | 5, _ =>
    by_cases h1 : (0 : Int) ≤ n
    · have d1 : decide ((0 : Int) ≤ n) = true := decide_eq_true h1
      by_cases h2 : n ≤ 255
      · have d2 : decide (n ≤ 255) = true := decide_eq_true h2
        have HF : Hid (fitsF 5 n = true) := Lib.hid (by unfold fitsF; simp; omega)
        (go_enter Tryd.func51, Tryd.ntmps51); go_wp2; go_ret; exact ⟨by rw [HF.out]; rfl, rfl⟩
      · have d2 : decide (n ≤ 255) = false := decide_eq_false h2
        have HF : Hid (fitsF 5 n = false) := Lib.hid (by unfold fitsF; simp; omega)
        (go_enter Tryd.func51, Tryd.ntmps51); go_wp2; go_ret; exact ⟨by rw [HF.out]; rfl, rfl⟩
    · have d1 : decide ((0 : Int) ≤ n) = false := decide_eq_false h1
      have HF : Hid (fitsF 5 n = false) := Lib.hid (by unfold fitsF; simp; omega)
      (go_enter Tryd.func51, Tryd.ntmps51); go_wp2; go_ret; exact ⟨by rw [HF.out]; rfl, rfl⟩
  | 6, _ =>
    by_cases h1 : (0 : Int) ≤ n
    · have d1 : decide ((0 : Int) ≤ n) = true := decide_eq_true h1
      by_cases h2 : n ≤ 65535
      · have d2 : decide (n ≤ 65535) = true := decide_eq_true h2
        have HF : Hid (fitsF 6 n = true) := Lib.hid (by unfold fitsF; simp; omega)
        (go_enter Tryd.func51, Tryd.ntmps51); go_wp2; go_ret; exact ⟨by rw [HF.out]; rfl, rfl⟩
      · have d2 : decide (n ≤ 65535) = false := decide_eq_false h2
        have HF : Hid (fitsF 6 n = false) := Lib.hid (by unfold fitsF; simp; omega)
        (go_enter Tryd.func51, Tryd.ntmps51); go_wp2; go_ret; exact ⟨by rw [HF.out]; rfl, rfl⟩
    · have d1 : decide ((0 : Int) ≤ n) = false := decide_eq_false h1
      have HF : Hid (fitsF 6 n = false) := Lib.hid (by unfold fitsF; simp; omega)
      (go_enter Tryd.func51, Tryd.ntmps51); go_wp2; go_ret; exact ⟨by rw [HF.out]; rfl, rfl⟩
theorem wrap_low (n : Int) (h0 : -9223372036854775808 ≤ n) (h1 : n ≤ 9223372036854775807) : wrap64 n = n := by rw [← IntWalk.i64_left]; exact IntWalk.i64_in n ⟨h0, h1⟩
theorem wrap_high (n : Int) (h0 : 9223372036854775808 ≤ n) (h1 : n ≤ 18446744073709551615) : wrap64 n = n - 18446744073709551616 := by
  rw [← IntWalk.i64_left, IntKind.wrap_i64]
  omega
theorem wrap_i8 (n : Nat) (h : n < 256) : IntKind.i8.wrap (n : Int) = if n < 128 then (n : Int) else n - 256 := by
  simp [IntKind.wrap, IntKind.bits, IntKind.signed]
  split <;> omega
theorem wrap_i16 (n : Nat) (h : n < 65536) : IntKind.i16.wrap (n : Int) = if n < 32768 then (n : Int) else n - 65536 := by
  simp [IntKind.wrap, IntKind.bits, IntKind.signed]
  split <;> omega
theorem value_any (c n : Nat) (hc : c < 7) (hn : n < 256 ^ widthF c) (w : World) : Calls Tryd.prog 58 #[.int .u8 c, .int .u64 n] w fun r w' => r = .returned (.int .i64 (valueF c n)) ∧ w' = w := by
  match c, hc with
  | 0, _ =>
    have hv : wrap64 (n : Int) = valueF 0 n := by
      have hn' : n < 1 := hn
      rw [wrap_low _ (by omega) (by omega)]
      simp [valueF]
    have HV := Lib.hid hv
    clear hv hn
    (go_enter Tryd.func58, Tryd.ntmps58); go_wp2; go_ret; exact ⟨by rw [← HV.out]; rfl, rfl⟩
  | 1, _ =>
    have hv : wrap64 (IntKind.i8.wrap (n : Int)) = valueF 1 n := by
      have hn' : n < 256 := hn
      rw [wrap_i8 n hn', wrap_low _ (by split <;> omega) (by split <;> omega)]
      simp [valueF]
    have HV := Lib.hid hv
    clear hv hn
    (go_enter Tryd.func58, Tryd.ntmps58); go_wp2; go_ret; exact ⟨by rw [← HV.out]; rfl, rfl⟩
  | 2, _ =>
    have hv : wrap64 (IntKind.i16.wrap (n : Int)) = valueF 2 n := by
      have hn' : n < 65536 := hn
      rw [wrap_i16 n hn', wrap_low _ (by split <;> omega) (by split <;> omega)]
      simp [valueF]
    have HV := Lib.hid hv
    clear hv hn
    (go_enter Tryd.func58, Tryd.ntmps58); go_wp2; go_ret; exact ⟨by rw [← HV.out]; rfl, rfl⟩
  | 3, _ =>
    have hv : wrap64 (n : Int) = valueF 3 n := by
      have hn' : n < 18446744073709551616 := hn
      by_cases h : n < 9223372036854775808
      · rw [wrap_low _ (by omega) (by omega)]
        simp [valueF, h]
      · rw [wrap_high _ (by omega) (by omega)]
        simp [valueF, h]
    have HV := Lib.hid hv
    clear hv hn
    (go_enter Tryd.func58, Tryd.ntmps58); go_wp2; go_ret; exact ⟨by rw [← HV.out]; rfl, rfl⟩
  | 4, _ =>
    have hv : wrap64 (n : Int) = valueF 4 n := by
      have hn' : n < 256 := hn
      rw [wrap_low _ (by omega) (by omega)]
      simp [valueF]
    have HV := Lib.hid hv
    clear hv hn
    (go_enter Tryd.func58, Tryd.ntmps58); go_wp2; go_ret; exact ⟨by rw [← HV.out]; rfl, rfl⟩
  | 5, _ =>
    have hv : wrap64 (n : Int) = valueF 5 n := by
      have hn' : n < 256 := hn
      rw [wrap_low _ (by omega) (by omega)]
      simp [valueF]
    have HV := Lib.hid hv
    clear hv hn
    (go_enter Tryd.func58, Tryd.ntmps58); go_wp2; go_ret; exact ⟨by rw [← HV.out]; rfl, rfl⟩
  | 6, _ =>
    have hv : wrap64 (n : Int) = valueF 6 n := by
      have hn' : n < 65536 := hn
      rw [wrap_low _ (by omega) (by omega)]
      simp [valueF]
    have HV := Lib.hid hv
    clear hv hn
    (go_enter Tryd.func58, Tryd.ntmps58); go_wp2; go_ret; exact ⟨by rw [← HV.out]; rfl, rfl⟩
end Go.Proofs.YthghnihlfdoefaaDoor
