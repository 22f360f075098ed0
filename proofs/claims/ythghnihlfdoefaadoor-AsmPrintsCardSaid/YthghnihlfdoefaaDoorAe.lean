/- carouselref13: operand, At. -/
import Derived.Test.YthghnihlfdoefaaDoorAd
namespace Go.Proofs.YthghnihlfdoefaaDoor
open Go.RowKit Go.Joins Go.ChangeShapes Go.WideShapes Go.Deep
set_option linter.unusedVariables false
set_option linter.unusedSimpArgs false
set_option maxRecDepth 100000

theorem ret_int {k : IntKind} {a b : Int} (h : a = b) : Ending.returned (.int k a) = .returned (.int k b) := by rw [h]
theorem leF_drop (t : ByteArray) (j : Nat) (h : j < t.size) : leF ((bytesL t).drop j) = (t[j]).toNat + 256 * leF ((bytesL t).drop (j + 1)) := by
  rw [List.drop_eq_getElem_cons (by rw [bytesL_length]; exact h), leF, bytesL_at t j h]
theorem leF_drop_lt (t : ByteArray) (j : Nat) : leF ((bytesL t).drop j) < 256 ^ (t.size - j) := by
  have := leF_lt ((bytesL t).drop j) (fun b hb => by
    have := List.mem_of_mem_drop hb
    simp only [bytesL, List.mem_map] at this
    obtain ⟨u, _, rfl⟩ := this
    exact u.toNat_lt)
  rwa [List.length_drop, bytesL_length] at this
theorem pow_le7 (k : Nat) (h : k ≤ 7) : 256 ^ k ≤ 72057594037927936 := by
  have := Nat.pow_le_pow_right (n := 256) (by decide) h
  exact this
theorem leF_append (l r : List Nat) : leF (l ++ r) = leF l + 256 ^ l.length * leF r := by
  induction l with
  | nil => simp [leF]
  | cons x l ih => rw [List.cons_append, leF, leF, ih, List.length_cons, Nat.pow_succ, Nat.mul_add, Nat.add_assoc, Nat.mul_comm (256 ^ l.length) 256, Nat.mul_assoc]
/-- The last byte tells the upper half. -/
theorem top_byte (t : ByteArray) (m : Nat) (hm : t.size = m + 1) : 256 ^ m * (t[m]).toNat ≤ leF ((bytesL t).drop 0) ∧ leF ((bytesL t).drop 0) < 256 ^ m * ((t[m]).toNat + 1) := by
  have e : (bytesL t).drop 0 = (bytesL t).take m ++ [(t[m]).toNat] := by
    have h1 : (bytesL t).take (m + 1) = bytesL t := List.take_of_length_le (by rw [bytesL_length, hm]; exact Nat.le_refl _)
    rw [List.drop_zero]
    exact h1.symm.trans (by rw [List.take_succ_eq_append_getElem (by rw [bytesL_length, hm]; exact Nat.lt_succ_self _), bytesL_at t m (by omega)])
  have hl : ((bytesL t).take m).length = m := by rw [List.length_take, bytesL_length, hm]; omega
  have hlt := leF_lt ((bytesL t).take m) (fun b hb => by
    have := List.mem_of_mem_take hb
    simp only [bytesL, List.mem_map] at this
    obtain ⟨u, _, rfl⟩ := this
    exact u.toNat_lt)
  rw [e, leF_append, hl, Nat.mul_add, Nat.mul_one]
  rw [hl] at hlt
  simp only [leF, Nat.mul_zero, Nat.add_zero]
  exact ⟨Nat.le_add_left _ _, by omega⟩
set_option maxHeartbeats 1000000 in
theorem operand_any (c : Nat) (hc : c < 41) (t : ByteArray) (hw : widthF (shapeF c) = t.size) (hp : 1 ≤ t.size) (w : World) :
    Calls Tryd.prog 56 #[.int .i64 c, .string t] w fun r w' => r = .returned (.int .i64 (valueF (shapeF c) (leF (bytesL t)))) ∧ w' = w := by
  obtain ⟨sz, hsz⟩ : ∃ sz, sz = t.size := ⟨_, rfl⟩
  have hs8 : sz ≤ 8 := by rw [hsz, ← hw]; unfold widthF; split <;> (try split) <;> (try split) <;> omega
  have hsa : sz ≤ t.size := by omega
  have hsb : t.size ≤ sz := by omega
  have HSZ := Lib.hid hsz
  clear hsz
  have HR := Lib.hid (fun W => range_any c hc W)
  have HW := Lib.hid hw
  clear hw
  obtain ⟨V, hV⟩ : ∃ V, V = valueF (shapeF c) (leF (bytesL t)) := ⟨_, rfl⟩
  rw [← hV]
  have HV := Lib.hid hV
  clear hV
  go_enter Tryd.func56, Tryd.ntmps56
  go_wp2_with fail
  go_loopg [5, 6] sz (fun gk nv iv wr => ∃ k : Nat, iv = .int .i64 ((k : Int) - 1) ∧ k ≤ sz ∧ gk = k ∧ nv = .int .u64 (leF ((bytesL t).drop k) : Nat) ∧ wr = w)
  case atStart => exact ⟨sz, by rw [HSZ.out], Nat.le_refl _, rfl, by rw [List.drop_eq_nil_of_le (by rw [bytesL_length]; exact hsb)]; rfl, rfl⟩
  case round =>
    obtain ⟨k, rfl, hk, hgk, rfl, rfl⟩ := hrel
    (have HGK := Lib.hid hgk); clear hgk
    cases k with
    | zero =>
      obtain ⟨m, hm⟩ : ∃ m, t.size = m + 1 := ⟨t.size - 1, by omega⟩
      have hx : ((t.size : Int) - 1) = (m : Int) := by omega
      have hmt : m < t.size := by omega
      have LT := leF_drop_lt t 0
      rw [Nat.sub_zero] at LT
      have LTOP := top_byte t m hm
      obtain ⟨z, hz⟩ : ∃ z, z = leF ((bytesL t).drop 0) := ⟨_, rfl⟩
      have hz' : leF (bytesL t) = z := by rw [hz, List.drop_zero]
      rw [← hz] at LT LTOP ⊢
      rw [hz'] at HV
      have HZ := Lib.hid hz
      clear hz hz'
      obtain ⟨b, hb⟩ : ∃ b, b = (t[m]).toNat := ⟨_, rfl⟩
      rw [← hb] at LTOP
      obtain ⟨sh, hsh⟩ : ∃ sh, sh = shapeF c := ⟨_, rfl⟩
      have h7 : sh < 7 := by rw [hsh]; rcases shape_cases c hc with h | h | h | h | h | h | h <;> omega
      rw [← hsh] at HW HR HV
      have HSH := Lib.hid hsh
      have HM := Lib.hid hm
      clear hsh hm
      match sh, h7 with
      | 0, _ =>
        have : (0 : Nat) = t.size := HW.out
        omega
      | 1, _ =>
        have h1 : (1 : Nat) = t.size := HW.out
        rw [← h1] at LT
        have LT' : z < 256 := LT
        obtain rfl : m = 0 := by omega
        have d1 : decide ((t.size : Int) < 8) = true := decide_eq_true (by omega)
        have d2 : decide (t.size < 8) = true := decide_eq_true (by omega)
        have hx1 : (2 : Int) ^ (8 * t.size) = 256 := by rw [← h1]; decide
        by_cases hge : 128 ≤ b
        · have g1 : decide ((128 : Int) ≤ ((t[0]).toNat : Int)) = true := decide_eq_true (by omega)
          have g2 : decide (128 ≤ (t[0]).toNat) = true := decide_eq_true (by omega)
          have HVV : Hid (wrap64 ((z : Int) - wrap64 (2 ^ (8 * t.size))) = V) := Lib.hid (by rw [hx1, wrap_low 256 (by omega) (by omega), wrap_low _ (by omega) (by omega), HV.out]; unfold valueF; simp; omega)
          clear hge hb LTOP h1 LT HM HZ hx1
          go_wp2_with (go_at_call 57; refine (HR.out _).mono ?_; rintro r w1 ⟨hr, hw⟩; subst hr; subst hw)
          go_ret
          exact ⟨ret_int HVV.out, rfl⟩
        · have g1 : decide ((128 : Int) ≤ ((t[0]).toNat : Int)) = false := decide_eq_false (by omega)
          have g2 : decide (128 ≤ (t[0]).toNat) = false := decide_eq_false (by omega)
          have HVV : Hid ((z : Int) = V) := Lib.hid (by rw [HV.out]; unfold valueF; simp; omega)
          clear hge hb LTOP h1 LT HM HZ hx1
          go_wp2_with (go_at_call 57; refine (HR.out _).mono ?_; rintro r w1 ⟨hr, hw⟩; subst hr; subst hw)
          go_ret
          exact ⟨ret_int HVV.out, rfl⟩
      | 2, _ =>
        have h1 : (2 : Nat) = t.size := HW.out
        rw [← h1] at LT
        have LT' : z < 65536 := LT
        obtain rfl : m = 1 := by omega
        have d1 : decide ((t.size : Int) < 8) = true := decide_eq_true (by omega)
        have d2 : decide (t.size < 8) = true := decide_eq_true (by omega)
        have hx1 : (2 : Int) ^ (8 * t.size) = 65536 := by rw [← h1]; decide
        by_cases hge : 128 ≤ b
        · have g1 : decide ((128 : Int) ≤ ((t[1]).toNat : Int)) = true := decide_eq_true (by omega)
          have g2 : decide (128 ≤ (t[1]).toNat) = true := decide_eq_true (by omega)
          have HVV : Hid (wrap64 ((z : Int) - wrap64 (2 ^ (8 * t.size))) = V) := Lib.hid (by rw [hx1, wrap_low 65536 (by omega) (by omega), wrap_low _ (by omega) (by omega), HV.out]; unfold valueF; simp; omega)
          clear hge hb LTOP h1 LT HM HZ hx1
          go_wp2_with (go_at_call 57; refine (HR.out _).mono ?_; rintro r w1 ⟨hr, hw⟩; subst hr; subst hw)
          go_ret
          exact ⟨ret_int HVV.out, rfl⟩
        · have g1 : decide ((128 : Int) ≤ ((t[1]).toNat : Int)) = false := decide_eq_false (by omega)
          have g2 : decide (128 ≤ (t[1]).toNat) = false := decide_eq_false (by omega)
          have HVV : Hid ((z : Int) = V) := Lib.hid (by rw [HV.out]; unfold valueF; simp; omega)
          clear hge hb LTOP h1 LT HM HZ hx1
          go_wp2_with (go_at_call 57; refine (HR.out _).mono ?_; rintro r w1 ⟨hr, hw⟩; subst hr; subst hw)
          go_ret
          exact ⟨ret_int HVV.out, rfl⟩
      | 3, _ =>
        have h1 : (8 : Nat) = t.size := HW.out
        rw [← h1] at LT
        have d1 : decide ((t.size : Int) < 8) = false := decide_eq_false (by omega)
        have d2 : decide (t.size < 8) = false := decide_eq_false (by omega)
        have HVV : Hid (wrap64 (z : Int) = V) := Lib.hid (by
          have LT' : z < 18446744073709551616 := LT
          rw [HV.out]
          unfold valueF
          by_cases h : z < 9223372036854775808
          · rw [wrap_low _ (by omega) (by omega)]
            simp [h]
          · rw [wrap_high _ (by omega) (by omega)]
            simp [h])
        clear hb LTOP h1 LT HM HZ
        go_wp2_with (go_at_call 57; refine (HR.out _).mono ?_; rintro r w1 ⟨hr, hw⟩; subst hr; subst hw)
        go_ret
        exact ⟨ret_int HVV.out, rfl⟩
      | 4, _ =>
        have h1 : (1 : Nat) = t.size := HW.out
        rw [← h1] at LT
        have LT' : z < 256 := LT
        have HVV : Hid ((z : Int) = V) := Lib.hid (by rw [HV.out]; unfold valueF; simp)
        clear hb LTOP h1 LT HM HZ
        go_wp2_with (go_at_call 57; refine (HR.out _).mono ?_; rintro r w1 ⟨hr, hw⟩; subst hr; subst hw)
        go_ret
        exact ⟨ret_int HVV.out, rfl⟩
      | 5, _ =>
        have h1 : (1 : Nat) = t.size := HW.out
        rw [← h1] at LT
        have LT' : z < 256 := LT
        have HVV : Hid ((z : Int) = V) := Lib.hid (by rw [HV.out]; unfold valueF; simp)
        clear hb LTOP h1 LT HM HZ
        go_wp2_with (go_at_call 57; refine (HR.out _).mono ?_; rintro r w1 ⟨hr, hw⟩; subst hr; subst hw)
        go_ret
        exact ⟨ret_int HVV.out, rfl⟩
      | 6, _ =>
        have h1 : (2 : Nat) = t.size := HW.out
        rw [← h1] at LT
        have LT' : z < 65536 := LT
        have HVV : Hid ((z : Int) = V) := Lib.hid (by rw [HV.out]; unfold valueF; simp)
        clear hb LTOP h1 LT HM HZ
        go_wp2_with (go_at_call 57; refine (HR.out _).mono ?_; rintro r w1 ⟨hr, hw⟩; subst hr; subst hw)
        go_ret
        exact ⟨ret_int HVV.out, rfl⟩
    | succ j =>
      have hj : j < t.size := by omega
      have LD := leF_drop t j hj
      have LT := leF_drop_lt t (j + 1)
      have LP := pow_le7 (t.size - (j + 1)) (by omega)
      obtain ⟨b, hb⟩ : ∃ b, b = (t[j]).toNat := ⟨_, rfl⟩
      have hb2 : b < 256 := by rw [hb]; exact UInt8.toNat_lt _
      obtain ⟨z, hz⟩ : ∃ z, z = leF ((bytesL t).drop (j + 1)) := ⟨_, rfl⟩
      rw [← hz] at LD LT ⊢
      rw [← hb] at LD
      have hz2 : z < 72057594037927936 := by omega
      have LDH := Lib.hid LD
      have HB := Lib.hid hb
      clear LD LT LP hz hb
      have hji : ((j + 1 : Nat) : Int) - 1 = (j : Int) := by omega
      rw [hji]
      clear hji
      go_wp2_with fail
      rw [← HB.out]
      have hw1 : IntKind.u64.wrap (b : Int) = b := Go.u64_wrap_id _ (by omega) (by omega)
      have hw2 : IntKind.u64.wrap (256 * (z : Int) + b) = ((b + 256 * z : Nat) : Int) := by
        rw [Go.u64_wrap_id _ (by omega) (by omega)]
        omega
      rw [hw1, hw2]
      clear hw1 hw2
      go_roundg j
      case measure => have := HGK.out; omega
      case rel => exact ⟨j, rfl, by omega, rfl, by rw [LDH.out], rfl⟩
end Go.Proofs.YthghnihlfdoefaaDoor
