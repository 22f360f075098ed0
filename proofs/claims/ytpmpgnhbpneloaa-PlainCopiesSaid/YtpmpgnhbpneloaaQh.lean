/- The library's binary search over a list that rises, at int64. -/
import Derived.Test.YtpmpgnhbpneloaaQa
import Derived.Deep.LoopGhost
namespace Go.Proofs.Ytpmpgnhbpneloaa
open Go.RowKit Go.Joins Go.ChangeShapes Go.WideShapes Go.Deep
set_option linter.unusedVariables false
set_option maxRecDepth 100000

def cmpI (x y : Int) : Int := if x < y then -1 else if y < x then 1 else 0
theorem cmpI_lt (x y : Int) : decide (cmpI x y < 0) = decide (x < y) := by
  unfold cmpI
  by_cases h1 : x < y
  · simp [h1]
  · by_cases h2 : y < x <;> simp [h1, h2]
theorem cmpI_eq (x y : Int) : (cmpI x y == 0) = (x == y) := by
  unfold cmpI
  by_cases h1 : x < y
  · simp [h1]; omega
  · by_cases h2 : y < x
    · simp [h1, h2]; omega
    · simp [h1, h2]; omega
theorem compare_any (x y : Int) (w : World) : Calls Try.prog 93 #[.int .i64 x, .int .i64 y] w fun e w' => e = .returned (.int .i64 (cmpI x y)) ∧ w = w' := by
  by_cases h1 : x < y
  · have hr : cmpI x y = -1 := by simp [cmpI, h1]
    rw [hr]
    have e1 : decide (x < y) = true := by simp [h1]
    clear hr
    go_enter Try.func93, Try.ntmps93
    go_wp2
    go_ret
    exact ⟨rfl, rfl⟩
  · by_cases h2 : y < x
    · have hr : cmpI x y = 1 := by simp [cmpI, h1, h2]
      rw [hr]
      have e1 : decide (x < y) = false := by simpa using h1
      have e2 : decide (y < x) = true := by simp [h2]
      clear hr
      go_enter Try.func93, Try.ntmps93
      go_wp2
      go_ret
      exact ⟨rfl, rfl⟩
    · have hr : cmpI x y = 0 := by simp [cmpI, h1, h2]
      rw [hr]
      have e1 : decide (x < y) = false := by simpa using h1
      have e2 : decide (y < x) = false := by simpa using h2
      clear hr
      go_enter Try.func93, Try.ntmps93
      go_wp2
      go_ret
      exact ⟨rfl, rfl⟩

theorem isAt_false {α : Type} {key : α → Int} {l : List α} {k : Int} (h : ∀ hh : low key l k < l.length, key l[low key l k] ≠ k) : isAt key l k = false := by
  rcases hb : isAt key l k with _ | _
  · rfl
  · obtain ⟨h1, h2⟩ := isAt_iff.1 hb
    exact absurd h2 (h h1)

theorem valueKey_any (v : Int) (w : World) : Calls Try.prog 88 #[.int .i64 v] w fun e w' => e = .returned (.int .i64 v) ∧ w = w' := by
  go_enter Try.func88, Try.ntmps88
  go_wp2
  go_ret
  exact ⟨rfl, rfl⟩
theorem findKeyV_any (x k : Int) (b : Nat) (w : World) (hb : w.cell? ⟨b, 0, none⟩ = some (.func (.func 88) #[] #[])) :
    Calls Try.prog 96 #[.int .i64 x, .int .i64 k, .pointer (some ⟨b, 0, none⟩)] w fun e w' => e = .returned (.int .i64 (cmpI x k)) ∧ w = w' := by
  go_enter Try.func96, Try.ntmps96
  go_wp2_with fail
  refine (valueKey_any _ _).mono ?_
  rintro e w1 ⟨rfl, rfl⟩
  go_wp2_with fail
  refine (compare_any _ _ _).mono ?_
  rintro e w1 ⟨rfl, rfl⟩
  go_wp2_with fail
  go_ret
  exact ⟨rfl, rfl⟩

set_option maxHeartbeats 1000000 in
theorem searchV_any (A : Option Addr) (n c b : Nat) (l : List Int) (k : Int) (w : World) (hn : n ≤ 1000) (hA : Reads w w.heap.size 1 A n (ints l)) (hs : l.Pairwise (fun a b => idv a < idv b)) (hb : w.cell? ⟨b, 0, none⟩ = some (.func (.func 88) #[] #[])) :
    Calls Try.prog 95 #[.slice A n c, .int .i64 k, .func (.func 96) #[] #[.pointer (some ⟨b, 0, none⟩)]] w fun e w' =>
      e = .returned (.tuple #[.int .i64 (low idv l k), .bool (isAt idv l k)]) ∧ w = w' := by
  have hl : l.length = n := by have := hA.1; simpa [ints] using this
  obtain ⟨lw, hlw⟩ : ∃ lw, lw = low idv l k := ⟨_, rfl⟩
  obtain ⟨yes, hyes⟩ : ∃ yes, yes = isAt idv l k := ⟨_, rfl⟩
  rw [← hlw, ← hyes]
  have LW := Lib.hid hlw
  have AT := Lib.hid hyes
  have HS := Lib.hid hs
  have HL := Lib.hid hl
  clear hs hl hlw hyes
  go_enter Try.func95, Try.ntmps95
  go_wp2_with fail
  go_loopg [9, 10] n (fun gk s9 s10 wr => ∃ lo hi : Nat, s9 = .int .i64 lo ∧ s10 = .int .i64 hi ∧ lo ≤ hi ∧ hi ≤ n ∧ hi - lo ≤ gk ∧ w = wr ∧ (∀ j (h : j < l.length), j < lo → idv l[j] < k) ∧ (∀ j (h : j < l.length), hi ≤ j → ¬ idv l[j] < k))
  case atStart => exact ⟨0, n, rfl, rfl, Nat.zero_le _, Nat.le_refl _, by omega, rfl, fun j _ h => by omega, fun j h h' => by have := HL.out; omega⟩
  case round =>
    obtain ⟨lo, hi, rfl, rfl, hlh, hin, hg, rfl, h1, h2⟩ := hrel
    have H1 := Lib.hid h1
    have H2 := Lib.hid h2
    clear h1 h2
    by_cases hlt : lo < hi
    · obtain ⟨ab, aoff, rfl, hab, hac⟩ := hA.flat (by omega)
      have hm : (lo + hi) / 2 < l.length := by have := HL.out; omega
      obtain ⟨x, hx⟩ : ∃ x, x = l[(lo + hi) / 2] := ⟨_, rfl⟩
      have cx : w.cell? ⟨ab, aoff + (lo + hi) / 2, none⟩ = some (.int .i64 x) := by
        rw [hx]
        exact hac _ _ (ints_at l _ hm)
      have HX := Lib.hid hx
      clear hac hx
      by_cases hxk : x < k
      · have e1 : decide (cmpI x k < 0) = true := by rw [cmpI_lt]; simp [hxk]
        go_wp2_with fail
        refine (findKeyV_any _ _ _ _ hb).mono ?_
        rintro e w1 ⟨rfl, rfl⟩
        go_wp2_with fail
        go_roundg (hi - ((lo + hi) / 2 + 1))
        case measure => omega
        case rel =>
          refine ⟨(lo + hi) / 2 + 1, hi, by rw [show ((lo : Int) + (hi : Int)) / 2 + 1 = (((lo + hi) / 2 + 1 : Nat) : Int) by omega], rfl, by omega, hin, Nat.le_refl _, rfl, fun j hj hjl => ?_, H2.out⟩
          rcases Nat.lt_or_ge j ((lo + hi) / 2) with h | h
          · have := List.pairwise_iff_getElem.1 HS.out j ((lo + hi) / 2) hj hm h
            have hx := HX.out
            unfold idv at *
            omega
          · obtain rfl : j = (lo + hi) / 2 := by omega
            rw [← HX.out]
            exact hxk
      · have e1 : decide (cmpI x k < 0) = false := by rw [cmpI_lt]; simp; omega
        go_wp2_with fail
        refine (findKeyV_any _ _ _ _ hb).mono ?_
        rintro e w1 ⟨rfl, rfl⟩
        go_wp2_with fail
        go_roundg ((lo + hi) / 2 - lo)
        case measure => omega
        case rel =>
          refine ⟨lo, (lo + hi) / 2, rfl, by rw [show ((lo : Int) + (hi : Int)) / 2 = (((lo + hi) / 2 : Nat) : Int) by omega], by omega, by omega, Nat.le_refl _, rfl, H1.out, fun j hj hjl => ?_⟩
          rcases Nat.lt_or_ge ((lo + hi) / 2) j with h | h
          · have := List.pairwise_iff_getElem.1 HS.out ((lo + hi) / 2) j hm hj h
            have hx := HX.out
            unfold idv at *
            omega
          · obtain rfl : j = (lo + hi) / 2 := by omega
            rw [← HX.out]
            exact hxk
    · obtain rfl : lo = hi := by omega
      have hlow : low idv l k = lo := low_eq HS.out lo (by rw [HL.out]; exact hin) H1.out H2.out
      by_cases hn2 : lo < n
      · obtain ⟨ab, aoff, rfl, hab, hac⟩ := hA.flat (by omega)
        have hm : lo < l.length := by have := HL.out; omega
        obtain ⟨x, hx⟩ : ∃ x, x = l[lo] := ⟨_, rfl⟩
        have cx : w.cell? ⟨ab, aoff + lo, none⟩ = some (.int .i64 x) := by
          rw [hx]
          exact hac _ _ (ints_at l _ hm)
        by_cases hxk : x = k
        · have hat : isAt idv l k = true := isAt_iff.2 ⟨by rw [hlow]; exact hm, by simp only [hlow]; rw [← hx]; exact hxk⟩
          have e1 : (cmpI x k == 0) = true := by rw [cmpI_eq]; simp [hxk]
          obtain rfl : lw = lo := LW.out.trans hlow
          obtain rfl : yes = true := AT.out.trans hat
          clear hac hx hlow hat hxk
          go_wp2_with fail
          refine (findKeyV_any _ _ _ _ hb).mono ?_
          rintro e w1 ⟨rfl, rfl⟩
          go_wp2_with fail
          go_ret2
          exact ⟨rfl, rfl⟩
        · have hat : isAt idv l k = false := isAt_false fun hh => by simp only [hlow]; rw [← hx]; exact hxk
          have e1 : (cmpI x k == 0) = false := by rw [cmpI_eq]; simp [hxk]
          obtain rfl : lw = lo := LW.out.trans hlow
          obtain rfl : yes = false := AT.out.trans hat
          clear hac hx hlow hat hxk
          go_wp2_with fail
          refine (findKeyV_any _ _ _ _ hb).mono ?_
          rintro e w1 ⟨rfl, rfl⟩
          go_wp2_with fail
          go_ret2
          exact ⟨rfl, rfl⟩
      · have hat : isAt idv l k = false := isAt_false fun hh => by rw [hlow, HL.out] at hh; exact absurd hh hn2
        obtain rfl : lw = lo := LW.out.trans hlow
        obtain rfl : yes = false := AT.out.trans hat
        clear hlow hat
        go_wp2_with fail
        go_ret2
        exact ⟨rfl, rfl⟩
theorem findV_any (A : Option Addr) (n c : Nat) (l : List Int) (k : Int) (w : World) (hn : n ≤ 1000) (hA : Reads w w.heap.size 1 A n (ints l)) (hs : l.Pairwise (fun a b => idv a < idv b)) :
    Calls Try.prog 87 #[.slice A n c, .int .i64 k, .func (.func 88) #[] #[]] w fun e w' =>
      e = .returned (.tuple #[.int .i64 (low idv l k), .bool (isAt idv l k)]) ∧ Below w.heap.size w w' := by
  have hA2 : Reads (w.alloc (.cells #[.func (.func 88) #[] #[]] 33)) (w.alloc (.cells #[.func (.func 88) #[] #[]] 33)).heap.size 1 A n (ints l) := (hA.alloc (Nat.le_refl _) _).more (by simp)
  go_enter Try.func87, Try.ntmps87
  go_wp2_with fail
  refine (searchV_any A n c w.heap.size l k _ hn hA2 hs (by simp)).mono ?_
  rintro e w1 ⟨rfl, rfl⟩
  go_wp2_with fail
  go_ret2
  exact ⟨rfl, (Below.refl _ _).alloc (Nat.le_refl _) _⟩
end Go.Proofs.Ytpmpgnhbpneloaa
