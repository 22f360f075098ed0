/- Places of two transactions: cmp.Compare, cmp.Or, history.places. -/
import Derived.Test.YtffjcojehiblnaaDoorHy2
import Derived.Deep.Cut
namespace Go.Proofs.YtffjcojehiblnaaDoor
open Go.RowKit Go.Joins Go.ChangeShapes Go.WideShapes Go.Deep
set_option linter.unusedVariables false
set_option linter.unusedSimpArgs false
set_option maxRecDepth 100000

def cmp3 (a b : Int) : Int := if a < b then -1 else if b < a then 1 else 0
theorem cmp64_any (a b : Int) (w : World) : Calls Tryd.prog 26 #[.int .i64 a, .int .i64 b] w fun r w' => r = .returned (.int .i64 (cmp3 a b)) ∧ w' = w := by
  unfold cmp3
  by_cases h1 : a < b
  · rw [if_pos h1]
    have d1 : decide (a < b) = true := by simp [h1]
    go_enter Tryd.func26, Tryd.ntmps26
    go_wp2
    go_ret
    exact ⟨rfl, rfl⟩
  rw [if_neg h1]
  have d1 : decide (a < b) = false := by simp; omega
  by_cases h2 : b < a
  · rw [if_pos h2]
    have d2 : decide (b < a) = true := by simp [h2]
    go_enter Tryd.func26, Tryd.ntmps26
    go_wp2
    go_ret
    exact ⟨rfl, rfl⟩
  · rw [if_neg h2]
    have d2 : decide (b < a) = false := by simp; omega
    go_enter Tryd.func26, Tryd.ntmps26
    go_wp2
    go_ret
    exact ⟨rfl, rfl⟩
theorem cmpint_any (a b : Int) (w : World) : Calls Tryd.prog 37 #[.int .i64 a, .int .i64 b] w fun r w' => r = .returned (.int .i64 (cmp3 a b)) ∧ w' = w := by
  unfold cmp3
  by_cases h1 : a < b
  · rw [if_pos h1]
    have d1 : decide (a < b) = true := by simp [h1]
    go_enter Tryd.func37, Tryd.ntmps37
    go_wp2
    go_ret
    exact ⟨rfl, rfl⟩
  rw [if_neg h1]
  have d1 : decide (a < b) = false := by simp; omega
  by_cases h2 : b < a
  · rw [if_pos h2]
    have d2 : decide (b < a) = true := by simp [h2]
    go_enter Tryd.func37, Tryd.ntmps37
    go_wp2
    go_ret
    exact ⟨rfl, rfl⟩
  · rw [if_neg h2]
    have d2 : decide (b < a) = false := by simp; omega
    go_enter Tryd.func37, Tryd.ntmps37
    go_wp2
    go_ret
    exact ⟨rfl, rfl⟩
/-- A transaction's place. -/
def place1 (t : TxP) : Int := if t.stamp = 0 then t.seen else t.stamp
def place2 (t : TxP) : Int := if t.stamp = 0 then 1 else 0
theorem place_any {w : World} {base : Nat} {x : TxM} (h : TxAt w base x) : Calls Tryd.prog 35 #[.pointer (some ⟨x.g, 0, none⟩)] w fun r w' => r = .returned (.tuple #[.int .i64 (place1 x.t), .int .i64 (place2 x.t)]) ∧ w' = w := by
  have c3 : w.cell? ⟨x.g, 3, none⟩ = some (.int .i64 x.t.stamp) := (h.blk.cell 3).trans rfl
  have c4 : w.cell? ⟨x.g, 4, none⟩ = some (.int .i64 x.t.seen) := (h.blk.cell 4).trans rfl
  unfold place1 place2
  clear h
  by_cases h0 : x.t.stamp = 0
  · rw [if_pos h0, if_pos h0]
    rw [h0] at c3
    clear h0
    go_enter Tryd.func35, Tryd.ntmps35
    go_wp2
    go_ret2
    exact ⟨rfl, rfl⟩
  · rw [if_neg h0, if_neg h0]
    have d1 : (x.t.stamp != 0) = true := by simp [h0]
    have d2 : decide (x.t.stamp ≠ 0) = true := by simp [h0]
    go_enter Tryd.func35, Tryd.ntmps35
    go_wp2
    go_ret2
    exact ⟨rfl, rfl⟩
theorem or_two (a b : Int) (g : Nat) (w : World) (hg : Blk w g 3 #[.int .i64 a, .int .i64 b]) : Calls Tryd.prog 36 #[.slice (some ⟨g, 0, none⟩) 2 2] w fun r w' => r = .returned (.int .i64 (if a = 0 then b else a)) ∧ w' = w := by
  have c0 : w.cell? ⟨g, 0, none⟩ = some (.int .i64 a) := (hg.cell 0).trans rfl
  have c1 : w.cell? ⟨g, 1, none⟩ = some (.int .i64 b) := (hg.cell 1).trans rfl
  clear hg
  by_cases h0 : a = 0
  · subst h0
    rw [if_pos rfl]
    by_cases h1 : b = 0
    · subst h1
      go_enter Tryd.func36, Tryd.ntmps36
      go_wp2
      refine wp_loop_rounds 3 ?_
      rw [rounds_succ]
      go_wp2
      rw [rounds_succ]
      go_wp2
      rw [rounds_succ]
      go_wp2
      go_ret
      exact ⟨rfl, rfl⟩
    · have d1 : (b != 0) = true := by simp [h1]
      go_enter Tryd.func36, Tryd.ntmps36
      go_wp2
      refine wp_loop_rounds 2 ?_
      rw [rounds_succ]
      go_wp2
      rw [rounds_succ]
      go_wp2
      go_ret
      exact ⟨rfl, rfl⟩
  · rw [if_neg h0]
    have d1 : (a != 0) = true := by simp [h0]
    go_enter Tryd.func36, Tryd.ntmps36
    go_wp2
    refine wp_loop_rounds 1 ?_
    rw [rounds_succ]
    go_wp2
    go_ret
    exact ⟨rfl, rfl⟩
def placesF (a b : TxP) : Int := if cmp3 (place1 a) (place1 b) = 0 then cmp3 (place2 a) (place2 b) else cmp3 (place1 a) (place1 b)
set_option maxHeartbeats 400000 in
theorem places_any {w : World} {base : Nat} {x y : TxM} (hx : TxAt w base x) (hy : TxAt w base y) : Calls Tryd.prog 21 #[.pointer (some ⟨x.g, 0, none⟩), .pointer (some ⟨y.g, 0, none⟩)] w fun r w' => r = .returned (.int .i64 (placesF x.t y.t)) ∧ Below w.heap.size w w' := by
  have HX := Lib.hid hx
  have HY := Lib.hid hy
  obtain ⟨p1, hp1⟩ : ∃ z, z = place1 x.t := ⟨_, rfl⟩
  obtain ⟨p2, hp2⟩ : ∃ z, z = place2 x.t := ⟨_, rfl⟩
  obtain ⟨q1, hq1⟩ : ∃ z, z = place1 y.t := ⟨_, rfl⟩
  obtain ⟨q2, hq2⟩ : ∃ z, z = place2 y.t := ⟨_, rfl⟩
  have HPX := Lib.hid (place_any HX.out)
  have HPY := Lib.hid (place_any HY.out)
  unfold placesF
  rw [← hp1, ← hp2] at *
  rw [← hq1, ← hq2] at *
  obtain ⟨c, hc⟩ : ∃ z, z = cmp3 p1 q1 := ⟨_, rfl⟩
  obtain ⟨d, hd⟩ : ∃ z, z = cmp3 p2 q2 := ⟨_, rfl⟩
  rw [← hc, ← hd]
  have HC1 := Lib.hid (fun W => hc ▸ cmp64_any p1 q1 W)
  have HC2 := Lib.hid (fun W => hd ▸ cmpint_any p2 q2 W)
  clear hx hy hp1 hp2 hq1 hq2 hc hd HX HY
  go_enter Tryd.func21, Tryd.ntmps21
  go_upto_region 3 with (go_at_call 35; refine HPX.out.mono ?_; rintro r w1 ⟨hr, hw⟩; subst hr; subst hw)
  go_wp2_with (first
    | (go_at_call 35; refine HPY.out.mono ?_; rintro r w1 ⟨hr, hw⟩; subst hr; subst hw)
    | (go_at_call 26; refine (HC1.out _).mono ?_; rintro r w1 ⟨hr, hw⟩; subst hr; subst hw)
    | (go_at_call 37; refine (HC2.out _).mono ?_; rintro r w1 ⟨hr, hw⟩; subst hr; subst hw)
    | (go_at_call 36; refine (or_two _ _ _ _ (Blk.new _ _ _)).mono ?_; rintro r w1 ⟨hr, hw⟩; subst hr; subst hw))
  all_goals go_ret
  all_goals exact ⟨rfl, Below.alloc (Below.refl _ _) (Nat.le_refl _) _⟩
end Go.Proofs.YtffjcojehiblnaaDoor
