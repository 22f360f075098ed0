/- The document's examples, and which sizes may be. -/
import Derived.Test.YtnpeldbnnneijaaMw3
import Derived.Test.YtnpeldbnnneijaaMw4
import Derived.Test.YtnpeldbnnneijaaMw5
namespace Go.Proofs.Ytnpeldbnnneijaa
open Go.RowKit Go.Joins Go.ChangeShapes Go.WideShapes Go.Deep
set_option linter.unusedVariables false
set_option maxRecDepth 100000

theorem takes_yes (c r : Int) (w : World) (h : 1 ≤ c ∧ c ≤ 1024 ∧ 1 ≤ r ∧ r ≤ 16) : Calls Try.prog 7 #[.int .i64 c, .int .i64 r] w fun e w' => e = .returned (.bool true) ∧ w = w' := by
  obtain ⟨h1, h2, h3, h4⟩ := h
  go_enter Try.func7, Try.ntmps7
  go_wp2_with fail
  go_ret
  exact ⟨rfl, rfl⟩
theorem takes_no (c r : Int) (w : World) (hno : ¬ (1 ≤ c ∧ c ≤ 1024 ∧ 1 ≤ r ∧ r ≤ 16)) : Calls Try.prog 7 #[.int .i64 c, .int .i64 r] w fun e w' => e = .returned (.bool false) ∧ w = w' := by
  by_cases h1 : 1 ≤ c
  · by_cases h2 : c ≤ 1024
    · by_cases h3 : 1 ≤ r
      · have h4 : 16 < r := by omega
        have e4 : decide (r ≤ 16) = false := by simp; omega
        clear hno
        go_enter Try.func7, Try.ntmps7
        go_wp2_with fail
        go_ret
        exact ⟨rfl, rfl⟩
      · have e3 : decide (1 ≤ r) = false := by simpa using h3
        clear hno
        go_enter Try.func7, Try.ntmps7
        go_wp2_with fail
        go_ret
        exact ⟨rfl, rfl⟩
    · have e2 : decide (c ≤ 1024) = false := by simpa using h2
      clear hno
      go_enter Try.func7, Try.ntmps7
      go_wp2_with fail
      go_ret
      exact ⟨rfl, rfl⟩
  · have e1 : decide (1 ≤ c) = false := by simpa using h1
    clear hno
    go_enter Try.func7, Try.ntmps7
    go_wp2_with fail
    go_ret
    exact ⟨rfl, rfl⟩

def sh1 : MS := withLog (setAt (newM 4 2) 4 3 0 9) ⟨7, 2, 4, 3, 0, 0, 9, false⟩
def sh2 : MS := withLog (setAt sh1 4 3 0 5) ⟨8, 3, 4, 3, 0, 9, 5, true⟩
def sh3 : MS := withLog sh2 ⟨7, 1, 4, 3, 0, 0, 5, false⟩

set_option maxHeartbeats 2000000 in
theorem shown_any (w : World) : Calls Try.prog 6 #[] w fun e w' => e = .returned (.bool true) ∧ Below w.heap.size w w' := by
  go_enter Try.func6, Try.ntmps6
  go_wp2_with fail
  refine (new_yes 4 2 w (by omega) (by omega) (by omega) (by omega)).mono ?_
  rintro e w1 ⟨b, gh, gs, gc, rfl, hM, hbel⟩
  go_wp2_with fail
  refine (store_yes (hM.alloc _) 7 4 3 0 9 0 (by rfl) (by decide)).mono ?_
  rintro e w2 ⟨lv2, rfl, hM2, hf2⟩
  have hA2 : Blk w2 w1.heap.size 24 #[.int .i64 4, .int .i64 3, .int .i64 0] := hf2.addr (hM.alloc _) (Blk.new w1 _ _)
  have hbel2 : Below w.heap.size w w2 := (hbel.alloc hbel.size _).trans (hf2.below (hM.alloc _))
  have a0 : w2.cell? ⟨w1.heap.size, 0, none⟩ = some (.int .i64 4) := (hA2.cell 0).trans rfl
  have a1 : w2.cell? ⟨w1.heap.size, 1, none⟩ = some (.int .i64 3) := (hA2.cell 1).trans rfl
  have a2 : w2.cell? ⟨w1.heap.size, 2, none⟩ = some (.int .i64 0) := (hA2.cell 2).trans rfl
  clear hM hf2 hbel
  go_wp2_with fail
  refine (swap_yes hM2 8 4 3 0 5 9 (by rfl) (by decide)).mono ?_
  rintro e w3 ⟨lv3, rfl, hM3, hf3⟩
  have hA3 := hf3.addr hM2 hA2
  have hbel3 := hbel2.trans (hf3.below hM2)
  clear a0 a1 a2
  have a0 : w3.cell? ⟨w1.heap.size, 0, none⟩ = some (.int .i64 4) := (hA3.cell 0).trans rfl
  have a1 : w3.cell? ⟨w1.heap.size, 1, none⟩ = some (.int .i64 3) := (hA3.cell 1).trans rfl
  have a2 : w3.cell? ⟨w1.heap.size, 2, none⟩ = some (.int .i64 0) := (hA3.cell 2).trans rfl
  clear hM2 hf3 hbel2 hA2
  go_wp2_with fail
  refine (load_yes hM3 7 4 3 0 5 (by rfl) (by decide)).mono ?_
  rintro e w4 ⟨lv4, rfl, hM4, hf4⟩
  have hbel4 := hbel3.trans (hf4.below hM3)
  clear hM3 hf4 hbel3 a0 a1 a2 hA3
  go_wp2_with fail
  refine (count_any hM4).mono ?_
  rintro e w5 ⟨rfl, rfl⟩
  go_wp2_with fail
  refine (peek_any hM4 2 1 0).mono ?_
  rintro e w5 ⟨rfl, hb5⟩
  have hM5 := hM4.below hb5
  have hbel5 := hbel4.trans (hb5.mono hbel4.size)
  clear hM4 hbel4 hb5
  go_wp2_with fail
  refine (load_no hM5 7 4 4 0 (by rfl)).mono ?_
  rintro e w6 ⟨rfl, hb6⟩
  have hbel6 := hbel5.trans (hb6.mono hbel5.size)
  clear hM5 hb6 hbel5
  go_wp2_with fail
  go_ret
  exact ⟨rfl, hbel6⟩
end Go.Proofs.Ytnpeldbnnneijaa
