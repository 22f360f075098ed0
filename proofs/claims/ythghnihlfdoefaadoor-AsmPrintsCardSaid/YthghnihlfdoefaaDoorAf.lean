/- carouselref13.At. -/
import Derived.Test.YthghnihlfdoefaaDoorAe
namespace Go.Proofs.YthghnihlfdoefaaDoor
open Go.RowKit Go.Joins Go.ChangeShapes Go.WideShapes Go.Deep
set_option linter.unusedVariables false
set_option linter.unusedSimpArgs false
set_option maxRecDepth 100000

theorem partF_eq (s : ByteArray) (i k : Nat) (h : i + 1 + k ≤ s.size) : leF (bytesL (s.extract (i + 1) (i + 1 + k))) = partF s i k := by
  unfold partF bytesL
  congr 1
  rw [ByteArray.data_extract]
  simp [List.map_take, List.map_drop, Array.toList_extract]
theorem rat_41 (s : ByteArray) (i : Nat) (w : World) (hs : s.size ≤ 4611686018427387904) (hi : i < s.size) (hc : ¬ (s[i]).toNat < 41) :
    Calls Tryd.prog 38 #[.string s, .int .i64 i] w (AtPost w none) := by
  have d1 : decide ((i : Int) < 0) = false := decide_eq_false (by omega)
  have d2 : decide ((s.size : Int) ≤ (i : Int)) = false := decide_eq_false (by omega)
  have d3 : decide (s.size ≤ i) = false := decide_eq_false (by omega)
  have hcw : IntKind.i64.wrap ((s[i]).toNat : Int) = (s[i]).toNat := IntWalk.i64_in _ ⟨by omega, by have := UInt8.toNat_lt s[i]; omega⟩
  have HW := Lib.hid (fun W => rwidth_bad ((s[i]).toNat : Int) (.inr (by omega)) W)
  clear hc
  go_enter Tryd.func38, Tryd.ntmps38
  go_wp2_with (go_at_call 25; refine (HW.out _).mono ?_; rintro r w1 ⟨hr, hw⟩; subst hr; subst hw)
  refine bodyPost_ret (v := .tuple #[.agg #[.int .i64 0, .int .i64 0], .int .i64 0, .int .i64 10]) (by simp [results, Tryd.results38, go_sem]) rfl ?_
  exact ⟨rfl, by repeat (first | with_reducible exact Below.refl _ _ | with_reducible refine Below.drew ?_ | with_reducible refine below_drewN ?_ _ | ((with_reducible refine Below.alloc ?_ ?_ _); (rotate_left; focus (first | with_reducible exact Nat.le_refl _ | omega | (simp; done) | (simp; omega) | (simp [World.setCell]; done) | (simp [World.setCell]; omega)))) | ((with_reducible refine Below.setCell ?_ ?_ _); (rotate_left; focus (first | with_reducible exact Nat.le_refl _ | omega | (simp; done) | (simp; omega) | (simp [World.setCell]; done) | (simp [World.setCell]; omega)))))⟩
theorem rat_short (s : ByteArray) (i : Nat) (w : World) (hs : s.size ≤ 4611686018427387904) (hi : i < s.size) (hc : (s[i]).toNat < 41) (hw : ¬ widthF (shapeF (s[i]).toNat) ≤ s.size - (i + 1)) :
    Calls Tryd.prog 38 #[.string s, .int .i64 i] w (AtPost w none) := by
  have d1 : decide ((i : Int) < 0) = false := decide_eq_false (by omega)
  have d2 : decide ((s.size : Int) ≤ (i : Int)) = false := decide_eq_false (by omega)
  have d3 : decide (s.size ≤ i) = false := decide_eq_false (by omega)
  have hcw : IntKind.i64.wrap ((s[i]).toNat : Int) = (s[i]).toNat := IntWalk.i64_in _ ⟨by omega, by have := UInt8.toNat_lt s[i]; omega⟩
  have HW := Lib.hid (fun W => rwidth_any (s[i]).toNat hc W)
  have d4 : decide ((widthF (shapeF (s[i]).toNat) : Int) < 0) = false := decide_eq_false (by omega)
  have d5 : decide ((s.size : Int) - (i : Int) - 1 < (widthF (shapeF (s[i]).toNat) : Int)) = true := decide_eq_true (by omega)
  clear hc hw
  go_enter Tryd.func38, Tryd.ntmps38
  go_wp2_with (go_at_call 25; refine (HW.out _).mono ?_; rintro r w1 ⟨hr, hw⟩; subst hr; subst hw)
  refine bodyPost_ret (v := .tuple #[.agg #[.int .i64 0, .int .i64 0], .int .i64 0, .int .i64 10]) (by simp [results, Tryd.results38, go_sem]) rfl ?_
  exact ⟨rfl, by repeat (first | with_reducible exact Below.refl _ _ | with_reducible refine Below.drew ?_ | with_reducible refine below_drewN ?_ _ | ((with_reducible refine Below.alloc ?_ ?_ _); (rotate_left; focus (first | with_reducible exact Nat.le_refl _ | omega | (simp; done) | (simp; omega) | (simp [World.setCell]; done) | (simp [World.setCell]; omega)))) | ((with_reducible refine Below.setCell ?_ ?_ _); (rotate_left; focus (first | with_reducible exact Nat.le_refl _ | omega | (simp; done) | (simp; omega) | (simp [World.setCell]; done) | (simp [World.setCell]; omega)))))⟩
theorem rat_bare (s : ByteArray) (i : Nat) (w : World) (hs : s.size ≤ 4611686018427387904) (hi : i < s.size) (hc : (s[i]).toNat < 41) (hw : shapeF (s[i]).toNat = 0) :
    Calls Tryd.prog 38 #[.string s, .int .i64 i] w (AtPost w (some (⟨(s[i]).toNat, 0⟩, 1))) := by
  have d1 : decide ((i : Int) < 0) = false := decide_eq_false (by omega)
  have d2 : decide ((s.size : Int) ≤ (i : Int)) = false := decide_eq_false (by omega)
  have d3 : decide (s.size ≤ i) = false := decide_eq_false (by omega)
  have hcw : IntKind.i64.wrap ((s[i]).toNat : Int) = (s[i]).toNat := IntWalk.i64_in _ ⟨by omega, by have := UInt8.toNat_lt s[i]; omega⟩
  have HW0 : ∀ W, Calls Tryd.prog 25 #[.int .i64 (s[i]).toNat] W fun r w' => r = .returned (.int .i64 0) ∧ w' = W := fun W => (rwidth_any (s[i]).toNat hc W).mono fun r w' h => ⟨by rw [h.1, hw]; rfl, h.2⟩
  have HW := Lib.hid HW0
  have d5 : decide ((s.size : Int) - (i : Int) - 1 < 0) = false := decide_eq_false (by omega)
  have d6 : decide ((s.size : Int) - (i : Int) - 1 < ((0 : Nat) : Int)) = false := decide_eq_false (by omega)
  clear hc hw HW0
  go_enter Tryd.func38, Tryd.ntmps38
  go_wp2_with (go_at_call 25; refine (HW.out _).mono ?_; rintro r w1 ⟨hr, hw⟩; subst hr; subst hw)
  refine bodyPost_ret (v := .tuple #[.agg #[.int .i64 (s[i]).toNat, .int .i64 0], .int .i64 1, .int .i64 0]) (by simp [results, Tryd.results38, go_sem]) rfl ?_
  exact ⟨rfl, by repeat (first | with_reducible exact Below.refl _ _ | with_reducible refine Below.drew ?_ | with_reducible refine below_drewN ?_ _ | ((with_reducible refine Below.alloc ?_ ?_ _); (rotate_left; focus (first | with_reducible exact Nat.le_refl _ | omega | (simp; done) | (simp; omega) | (simp [World.setCell]; done) | (simp [World.setCell]; omega)))) | ((with_reducible refine Below.setCell ?_ ?_ _); (rotate_left; focus (first | with_reducible exact Nat.le_refl _ | omega | (simp; done) | (simp; omega) | (simp [World.setCell]; done) | (simp [World.setCell]; omega)))))⟩

theorem value_lo (sh n : Nat) (h : sh < 7) (hn : n < 256 ^ widthF sh) : loF sh ≤ valueF sh n ∧ -9223372036854775808 ≤ valueF sh n ∧ valueF sh n ≤ 9223372036854775807 := by
  match sh, h with
  | 0, _ =>
    have hn' : n < 1 := hn
    simp [loF, valueF]
    omega
  | 1, _ =>
    have hn' : n < 256 := hn
    simp [loF, valueF]
    omega
  | 2, _ =>
    have hn' : n < 65536 := hn
    simp [loF, valueF]
    omega
  | 3, _ =>
    have hn' : n < 18446744073709551616 := hn
    simp [loF, valueF]
    omega
  | 4, _ =>
    have hn' : n < 256 := hn
    simp [loF, valueF]
    omega
  | 5, _ =>
    have hn' : n < 256 := hn
    simp [loF, valueF]
    omega
  | 6, _ =>
    have hn' : n < 65536 := hn
    simp [loF, valueF]
    omega
theorem fits_hi (sh n : Nat) (h : sh < 7) (hn : n < 256 ^ widthF sh) : fitsF sh (valueF sh n) = decide (valueF sh n ≤ hiF sh) := by
  obtain ⟨h1, h2, h3⟩ := value_lo sh n h hn
  rw [fits_range sh h _ h2 h3, Bool.eq_iff_iff]
  simp [h1]
set_option maxHeartbeats 1000000 in
theorem rat_long (s : ByteArray) (i : Nat) (w : World) (hs : s.size ≤ 4611686018427387904) (hi : i < s.size) (hc : (s[i]).toNat < 41) (hn0 : shapeF (s[i]).toNat ≠ 0) (hle : widthF (shapeF (s[i]).toNat) ≤ s.size - (i + 1)) :
    Calls Tryd.prog 38 #[.string s, .int .i64 i] w (AtPost w (atF (bytesL s) i)) := by
  have HAB := Lib.hid (atF_bad s i hi hc hle)
  have HAG := Lib.hid (atF_good s i hi hc hle)
  have h7 : shapeF (s[i]).toNat < 7 := by rcases shape_cases (s[i]).toNat hc with h | h | h | h | h | h | h <;> omega
  have d1 : decide ((i : Int) < 0) = false := decide_eq_false (by omega)
  have d2 : decide ((s.size : Int) ≤ (i : Int)) = false := decide_eq_false (by omega)
  have d3 : decide (s.size ≤ i) = false := decide_eq_false (by omega)
  have hcw : IntKind.i64.wrap ((s[i]).toNat : Int) = (s[i]).toNat := IntWalk.i64_in _ ⟨by omega, by have := UInt8.toNat_lt s[i]; omega⟩
  have HW := Lib.hid (fun W => rwidth_any (s[i]).toNat hc W)
  have HR := Lib.hid (fun W => range_any (s[i]).toNat hc W)
  have hp := partF_eq s i (widthF (shapeF (s[i]).toNat)) (by omega)
  have hsz : (s.extract (i + 1) (i + 1 + widthF (shapeF (s[i]).toNat))).size = widthF (shapeF (s[i]).toNat) := by rw [ByteArray.size_extract]; omega
  have h1w : 1 ≤ widthF (shapeF (s[i]).toNat) := by
    rcases shape_cases (s[i]).toNat hc with h | h | h | h | h | h | h
    all_goals (rw [h.2]; first | decide | exact absurd h.2 hn0)
  have HOP := Lib.hid (fun W => operand_any (s[i]).toNat hc (s.extract (i + 1) (i + 1 + widthF (shapeF (s[i]).toNat))) hsz.symm (by omega) W)
  rw [hp] at HOP
  have hwl : widthF (shapeF (s[i]).toNat) ≤ 8 := by unfold widthF; split <;> (try split) <;> (try split) <;> omega
  have HFI := Lib.hid (fits_hi (shapeF (s[i]).toNat) (partF s i (widthF (shapeF (s[i]).toNat))) h7 (partF_lt s i _ hle))
  obtain ⟨sh, hshh⟩ : ∃ sh, sh = shapeF (s[i]).toNat := ⟨_, rfl⟩
  rw [← hshh] at HAB HAG HW HR HOP HFI h7 hle h1w hwl
  obtain ⟨wd, hwd⟩ : ∃ wd, wd = widthF sh := ⟨_, rfl⟩
  rw [← hwd] at HAB HAG HW HOP HFI hle h1w hwl
  obtain ⟨V, hV⟩ : ∃ V, V = valueF sh (partF s i wd) := ⟨_, rfl⟩
  rw [← hV] at HAB HAG HOP HFI
  have d4 : decide ((wd : Int) < 0) = false := decide_eq_false (by omega)
  have d5 : decide ((s.size : Int) - (i : Int) - 1 < (wd : Int)) = false := decide_eq_false (by omega)
  have d6 : ((wd : Int) == 0) = false := by simp; omega
  have e1 : ((i : Int) + 1 + (wd : Int)).toNat = i + 1 + wd := by omega
  have hsl : ∀ W, (Instr.slice 9 (.string s) (some (.int .i64 ((i : Int) + 1))) (some (.int .i64 ((i : Int) + 1 + (wd : Int)))) none).run Tryd.prog W = .ok (.string (s.extract (i + 1) (i + 1 + wd))) W := fun W => by
    have h := run_slice_string (P := Tryd.prog) W 9 s .i64 .i64 ((i : Int) + 1) ((i : Int) + 1 + (wd : Int)) Tryd.underlying9 (by omega) (by omega) (by omega)
    rwa [e1, show ((i : Int) + 1).toNat = i + 1 by omega] at h
  clear e1
  have hi2 : i + 1 + wd ≤ s.size := by omega
  have hi3 : (i : Int) + 1 ≤ (s.size : Int) := by omega
  obtain ⟨hi, hhi⟩ : ∃ hi, hi = hiF sh := ⟨_, rfl⟩
  rw [← hhi] at HR HFI
  clear hshh hwd hV hn0 hp hsz hhi
  cases hf : fitsF sh V
  · have HX := Lib.hid (HAB.out hf)
    have d7 : decide (hi < V) = true := by have := HFI.out; rw [hf] at this; have := of_decide_eq_false this.symm; exact decide_eq_true (by omega)
    clear HAB HAG HFI hf
    go_enter Tryd.func38, Tryd.ntmps38
    go_wp2_with (first | (go_at_call 25; refine (HW.out _).mono ?_; rintro r w1 ⟨hr, hw⟩; subst hr; subst hw) | (go_at_call 56; refine (HOP.out _).mono ?_; rintro r w1 ⟨hr, hw⟩; subst hr; subst hw) | (go_at_call 57; refine (HR.out _).mono ?_; rintro r w1 ⟨hr, hw⟩; subst hr; subst hw))
    refine bodyPost_ret (v := .tuple #[.agg #[.int .i64 0, .int .i64 0], .int .i64 0, .int .i64 10]) (by simp [results, Tryd.results38, go_sem]) rfl ?_
    exact ⟨by rw [HX.out]; rfl, by repeat (first | with_reducible exact Below.refl _ _ | with_reducible refine Below.drew ?_ | with_reducible refine below_drewN ?_ _ | ((with_reducible refine Below.alloc ?_ ?_ _); (rotate_left; focus (first | with_reducible exact Nat.le_refl _ | omega | (simp; done) | (simp; omega) | (simp [World.setCell]; done) | (simp [World.setCell]; omega)))) | ((with_reducible refine Below.setCell ?_ ?_ _); (rotate_left; focus (first | with_reducible exact Nat.le_refl _ | omega | (simp; done) | (simp; omega) | (simp [World.setCell]; done) | (simp [World.setCell]; omega)))))⟩
  · have HX := Lib.hid (HAG.out hf)
    have d7 : decide (hi < V) = false := by have := HFI.out; rw [hf] at this; have := of_decide_eq_true this.symm; exact decide_eq_false (by omega)
    clear HAB HAG HFI hf
    go_enter Tryd.func38, Tryd.ntmps38
    go_wp2_with (first | (go_at_call 25; refine (HW.out _).mono ?_; rintro r w1 ⟨hr, hw⟩; subst hr; subst hw) | (go_at_call 56; refine (HOP.out _).mono ?_; rintro r w1 ⟨hr, hw⟩; subst hr; subst hw) | (go_at_call 57; refine (HR.out _).mono ?_; rintro r w1 ⟨hr, hw⟩; subst hr; subst hw))
    refine bodyPost_ret (v := .tuple #[.agg #[.int .i64 (s[i]).toNat, .int .i64 V], .int .i64 (1 + wd), .int .i64 0]) (by simp [results, Tryd.results38, go_sem]) rfl ?_
    exact ⟨by rw [HX.out]; simp only [atV]; rfl, by repeat (first | with_reducible exact Below.refl _ _ | with_reducible refine Below.drew ?_ | with_reducible refine below_drewN ?_ _ | ((with_reducible refine Below.alloc ?_ ?_ _); (rotate_left; focus (first | with_reducible exact Nat.le_refl _ | omega | (simp; done) | (simp; omega) | (simp [World.setCell]; done) | (simp [World.setCell]; omega)))) | ((with_reducible refine Below.setCell ?_ ?_ _); (rotate_left; focus (first | with_reducible exact Nat.le_refl _ | omega | (simp; done) | (simp; omega) | (simp [World.setCell]; done) | (simp [World.setCell]; omega)))))⟩
/-- carouselref13.At. -/
theorem rat_any (s : ByteArray) (i : Nat) (w : World) (hs : s.size ≤ 4611686018427387904) (hi : i < s.size) :
    Calls Tryd.prog 38 #[.string s, .int .i64 i] w (AtPost w (atF (bytesL s) i)) := by
  by_cases hc : (s[i]).toNat < 41
  · by_cases hw : widthF (shapeF (s[i]).toNat) ≤ s.size - (i + 1)
    · by_cases h0 : shapeF (s[i]).toNat = 0
      · have hb := atF_good s i hi hc hw (by rw [h0]; simp [widthF, partF, leF, valueF, fitsF])
        rw [hb, h0]
        simp only [widthF, partF, leF, valueF, List.take_zero]
        exact rat_bare s i w hs hi hc h0
      · exact rat_long s i w hs hi hc h0 hw
    · rw [atF_short s i hi hc hw]
      exact rat_short s i w hs hi hc hw
  · rw [atF_no41 s i hi hc]
    exact rat_41 s i w hs hi hc
end Go.Proofs.YthghnihlfdoefaaDoor
