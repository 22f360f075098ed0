/- An instruction's bytes: carouselref13.Bytes. -/
import Derived.Test.YthghnihlfdoefaaDoorAg
import Derived.Laws.IdiomStrings
import Derived.Lib.BufferRead
namespace Go.Proofs.YthghnihlfdoefaaDoor
open Go.RowKit Go.Joins Go.ChangeShapes Go.WideShapes Go.Deep
set_option linter.unusedVariables false
set_option linter.unusedSimpArgs false
set_option maxRecDepth 100000

def u64F (v : Int) : Nat := (v % 18446744073709551616).toNat
theorem u64F_lt (v : Int) : u64F v < 18446744073709551616 := by unfold u64F; omega
theorem u64_wrap (v : Int) : IntKind.u64.wrap v = (u64F v : Int) := by
  unfold u64F
  simp [IntKind.wrap, IntKind.bits, IntKind.signed]
  omega
def byteF (v : Int) (k : Nat) : UInt8 := UInt8.ofNat (u64F v / 256 ^ k)
def encB (o : AOp) : List UInt8 := UInt8.ofNat o.code :: (List.range (widthF (shapeF o.code))).map (byteF o.operand)
def byc (l : List UInt8) : List Value := l.map fun b => .int .u8 (b.toNat : Int)
theorem byc_length (l : List UInt8) : (byc l).length = l.length := by simp [byc]
theorem byc_append (l r : List UInt8) : byc (l ++ r) = byc l ++ byc r := by simp [byc]
theorem byc_one (l : List UInt8) : ∀ u ∈ byc l, u.oneCell' = true := by
  intro u hu
  obtain ⟨b, _, rfl⟩ := List.mem_map.1 hu
  rfl
theorem encB_length (o : AOp) : (encB o).length = 1 + widthF (shapeF o.code) := by simp [encB]; omega
theorem u8_wrap (n : Nat) : IntKind.u8.wrap (n : Int) = ((UInt8.ofNat n).toNat : Int) := by
  simp [IntKind.wrap, IntKind.bits, IntKind.signed, UInt8.toNat_ofNat']
theorem info_u8 : (Tryd.prog.info? 5).map (fun i => (i.zero, i.size, i.bytes)) = some (some (.int .u8 0), 1, 1) := by kernel_rfl
/-- A list of bytes that the call owns, as a string. -/
theorem run_bytes_string {w : World} {B n : Nat} {v : Value} {l : List UInt8} (h : w.ownsRow B 5 1 v n (byc l)) (hn : n = l.length) : (convert 42 9 v).run Tryd.prog w = .ok (.string ⟨l.toArray⟩) w := by
  rcases h.2 with ⟨rfl, rfl⟩ | ⟨g, cap, cur, rfl, _, hh, _⟩
  · have : l = [] := List.eq_nil_of_length_eq_zero hn.symm
    subst this
    exact Go.Lib.run_convert_nil_bytes w _ _ _ _ Tryd.underlying42 Tryd.underlying5 Tryd.underlying9
  · subst hn
    refine run_convert_bytes_back w _ _ _ _ cap l Tryd.underlying42 Tryd.underlying5 Tryd.underlying9 fun j hj => ?_
    have := h.cells (g := g) rfl j (.int .u8 (l[j].toNat : Int)) (by simp [byc, hj])
    exact this
/-- A list of one byte, just made. -/
theorem own_lit1 {w1 : World} {n : Nat} (hs : w1.heap.size = n) {z : Int} {b : UInt8} (h : z = (b.toNat : Int)) : (w1.alloc (.cells #[.int .u8 z] 5)).ownsRow n 5 1 (.slice (some ⟨n, 0, none⟩) 1 1) 1 (byc [b]) := by
  subst hs h
  exact World.ownsRow_lit _ #[.int .u8 (b.toNat : Int)] 1 (Nat.le_refl _) (by unfold maxLen; omega) rfl
set_option maxHeartbeats 1000000 in
theorem bytes_any (o : AOp) (hc : o.code < 41) (w : World) :
    Calls Tryd.prog 37 #[.agg #[.int .i64 o.code, .int .i64 o.operand]] w fun e w' => e = .returned (.string ⟨(encB o).toArray⟩) ∧ Below w.heap.size w w' := by
  obtain ⟨c, v⟩ := o
  simp only at hc ⊢
  have HW := Lib.hid (fun W => rwidth_any c hc W)
  obtain ⟨i0, hi, hz0, hz1, hz2⟩ := info_parts info_u8
  obtain ⟨wd, hwd⟩ : ∃ wd, wd = widthF (shapeF c) := ⟨_, rfl⟩
  have hw8 : wd ≤ 8 := by rw [hwd]; unfold widthF; split <;> (try split) <;> (try split) <;> omega
  have HE : Hid (encB ⟨c, v⟩ = UInt8.ofNat c :: (List.range wd).map (byteF v)) := Lib.hid (by rw [hwd]; rfl)
  rw [← hwd] at HW
  clear hwd
  have HCM : Hid ((c : Int) = ((UInt8.ofNat c).toNat : Int)) := Lib.hid (by simp [UInt8.toNat_ofNat']; omega)
  have hvu := u64_wrap v
  have hvl := u64F_lt v
  go_enter Tryd.func37, Tryd.ntmps37
  go_wp2_with (go_at_call 25; refine (HW.out _).mono ?_; rintro r w1 ⟨hr, hw⟩; subst hr; subst hw)
  go_loopg [3, 4, 6] wd (fun gk bv nv iv wr => ∃ k : Nat, iv = .int .i64 k ∧ k ≤ wd ∧ gk = wd - k ∧ nv = .int .u64 (u64F v / 256 ^ k : Nat) ∧ wr.ownsRow (w.heap.size + 1) 5 1 bv (k + 1) (byc (UInt8.ofNat c :: (List.range k).map (byteF v))) ∧ Below w.heap.size w wr)
  case atStart => exact ⟨0, rfl, Nat.zero_le _, rfl, by rw [Nat.pow_zero, Nat.div_one], own_lit1 (by simp) HCM.out, by repeat (first | with_reducible exact Below.refl _ _ | with_reducible refine Below.drew ?_ | with_reducible refine below_drewN ?_ _ | ((with_reducible refine Below.alloc ?_ ?_ _); (rotate_left; focus (first | with_reducible exact Nat.le_refl _ | omega | (simp; done) | (simp; omega) | (simp [World.setCell]; done) | (simp [World.setCell]; omega)))) | ((with_reducible refine Below.setCell ?_ ?_ _); (rotate_left; focus (first | with_reducible exact Nat.le_refl _ | omega | (simp; done) | (simp; omega) | (simp [World.setCell]; done) | (simp [World.setCell]; omega)))))⟩
  case round =>
    obtain ⟨k, rfl, hk, hgk, rfl, hown, hbel⟩ := hrel
    have HG := Lib.hid hgk
    clear hgk
    have HBE := Lib.hid hbel
    have hbs := hbel.size
    clear hbel
    by_cases hkw : k < wd
    · have e1 : decide ((k : Int) < (wd : Int)) = true := decide_eq_true (by omega)
      have e2 : decide (k < wd) = true := decide_eq_true hkw
      have hcv : IntKind.u8.wrap ((u64F v / 256 ^ k : Nat) : Int) = ((byteF v k).toNat : Int) := u8_wrap _
      have hXl : u64F v / 256 ^ k ≤ u64F v := Nat.div_le_self _ _
      have HX : Hid (u64F v / 256 ^ k / 256 = u64F v / 256 ^ (k + 1)) := Lib.hid (by rw [Nat.div_div_eq_div_mul, Nat.pow_succ])
      obtain ⟨X, hX⟩ : ∃ X, X = u64F v / 256 ^ k := ⟨_, rfl⟩
      rw [← hX] at hcv hXl HX ⊢
      clear hX
      have hc2 : ∀ u ∈ ([.int .u8 ((byteF v k).toNat : Int)] : List Value), u.oneCell' = true := (by intro u hu; simp at hu; subst hu; rfl)
      have hc3 : k + 1 + 1 ≤ maxLen := (by unfold maxLen; omega)
      have hc4 : (k + 1 + 1) * 1 ≤ 140737488355328 := (by omega)
      have hc5 : w.heap.size + 1 ≤ (wr.alloc (.cells #[.int .u8 ((byteF v k).toNat : Int)] 5)).heap.size := (by simp; omega)
      go_wp2_with (at_builtin; go_must (refine wpList_append_own _ rfl _ _ 42 rfl (w.heap.size + 1) 5 i0 (.int .u8 0) 1 1 Tryd.underlying42 hi hz0 hz1 hz2 rfl (by decide) _ _ _ rfl (hown.alloc _) ⟨wr.heap.size, 0, none⟩ 1 1 [.int .u8 ((byteF v k).toNat : Int)] rfl rfl (cell_one_new _ _ _) hc2 hc3 hc4 hc5 ?_; intro v' w1 hown' hgrow _))
      have hbf : Below w.heap.size w w1 := (HBE.out.alloc hbs _).trans ((below_grown (hown.alloc _) hgrow hc5).mono (by omega))
      clear hgrow
      go_roundg (wd - (k + 1))
      case measure => have := HG.out; omega
      case rel => exact ⟨k + 1, by simp, by omega, rfl, by rw [← HX.out]; simp, by
        have := hown'
        rw [List.range_succ, List.map_append, ← List.cons_append, byc_append]
        exact this, hbf⟩
    · obtain rfl : k = wd := by omega
      have e1 : decide ((k : Int) < (k : Int)) = false := decide_eq_false (by omega)
      have hrun := run_bytes_string hown (by simp)
      rw [← HE.out] at hrun
      go_wp2
      go_ret
      exact ⟨rfl, HBE.out⟩
end Go.Proofs.YthghnihlfdoefaaDoor
