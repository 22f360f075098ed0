/- A configuration as plain data; what place.Check, place.Size, and the document's Check and Size do. -/
import Derived.Test.YtpmpgnhbpneloaaArg
import Derived.Test.YtpmpgnhbpneloaaRw
import Derived.BigQuiet
import Derived.Deep.QuietTactic
import Derived.Deep.DeepMust
import Derived.Deep.RegionWith
import Derived.Deep.LoopGhost
namespace Go.Proofs.Ytpmpgnhbpneloaa
open Go.RowKit Go.Joins Go.ChangeShapes Go.WideShapes Go.Deep
set_option linter.unusedVariables false
set_option maxRecDepth 100000

structure Reg where
  kind : Int
  cap : Int
def Reg.cells (r : Reg) : List Value := [.int .i64 r.kind, .int .i64 r.cap]
structure Cfg where
  raw : Int
  ring : Int
  writes : Int
  stamps : Int
  multi : Bool
  tries : Int
def Cfg.vals (c : Cfg) (A : Option Addr) (n nc : Nat) : Array Value := #[.int .i64 c.raw, .int .i64 c.ring, .int .i64 c.writes, .int .i64 c.stamps, .bool c.multi, .int .i64 c.tries, .slice A n nc]
def regOk (r : Reg) : Prop := 1 ≤ r.kind ∧ r.kind ≤ 4 ∧ 0 ≤ r.cap ∧ r.cap ≤ 16
instance (r : Reg) : Decidable (regOk r) := by unfold regOk; infer_instance
def sizeI (r : Reg) : Int := if r.kind = 1 then r.cap else if r.kind = 2 then r.cap + 2 else if r.kind = 3 then 3 * r.cap + 1 else 2 * r.cap + 3
def cfgOk (c : Cfg) (l : List Reg) : Prop :=
  1 ≤ c.raw ∧ c.raw ≤ 64 ∧ 1 ≤ c.ring ∧ c.ring ≤ 16 ∧ 1 ≤ c.writes ∧ c.writes ≤ 24 ∧ 1 ≤ c.stamps ∧ c.stamps ≤ 1099511627776 ∧ 1 ≤ c.tries ∧ c.tries ≤ 255 ∧ l.length ≤ 8 ∧ ∀ r ∈ l, regOk r
instance (c : Cfg) (l : List Reg) : Decidable (cfgOk c l) := by unfold cfgOk; infer_instance
def checkF (c : Cfg) (l : List Reg) : Int := if cfgOk c l then 0 else 13

theorem within_any (n a b : Int) (w : World) : Calls Try.prog 61 #[.int .i64 n, .int .i64 a, .int .i64 b] w fun e w' => e = .returned (.bool (decide (a ≤ n ∧ n ≤ b))) ∧ w = w' := by
  by_cases h1 : a ≤ n
  · by_cases h2 : n ≤ b
    · have hr : decide (a ≤ n ∧ n ≤ b) = true := by simp [h1, h2]
      rw [hr]
      go_enter Try.func61, Try.ntmps61
      go_wp2
      go_ret
      exact ⟨rfl, rfl⟩
    · have hr : decide (a ≤ n ∧ n ≤ b) = false := by simp [h2]
      rw [hr]
      have e2 : decide (n ≤ b) = false := by simp [h2]
      clear hr
      go_enter Try.func61, Try.ntmps61
      go_wp2
      go_ret
      exact ⟨rfl, rfl⟩
  · have hr : decide (a ≤ n ∧ n ≤ b) = false := by simp [h1]
    rw [hr]
    have e1 : decide (a ≤ n) = false := by simp [h1]
    clear hr
    go_enter Try.func61, Try.ntmps61
    go_wp2
    go_ret
    exact ⟨rfl, rfl⟩
theorem within64_any (n a b : Int) (w : World) : Calls Try.prog 62 #[.int .i64 n, .int .i64 a, .int .i64 b] w fun e w' => e = .returned (.bool (decide (a ≤ n ∧ n ≤ b))) ∧ w = w' := by
  by_cases h1 : a ≤ n
  · by_cases h2 : n ≤ b
    · have hr : decide (a ≤ n ∧ n ≤ b) = true := by simp [h1, h2]
      rw [hr]
      go_enter Try.func62, Try.ntmps62
      go_wp2
      go_ret
      exact ⟨rfl, rfl⟩
    · have hr : decide (a ≤ n ∧ n ≤ b) = false := by simp [h2]
      rw [hr]
      have e2 : decide (n ≤ b) = false := by simp [h2]
      clear hr
      go_enter Try.func62, Try.ntmps62
      go_wp2
      go_ret
      exact ⟨rfl, rfl⟩
  · have hr : decide (a ≤ n ∧ n ≤ b) = false := by simp [h1]
    rw [hr]
    have e1 : decide (a ≤ n) = false := by simp [h1]
    clear hr
    go_enter Try.func62, Try.ntmps62
    go_wp2
    go_ret
    exact ⟨rfl, rfl⟩

theorem csize_any (m : Int) (w : World) (h0 : 0 ≤ m) (h1 : m ≤ 16) : Calls Try.prog 74 #[.int .i64 m] w fun e w' => e = .returned (.int .i64 (m)) ∧ w = w' := by
  have g1 : decide (m < 0) = false := by simp; omega
  have g2 : decide (16 < m) = false := by simp; omega
  go_enter Try.func74, Try.ntmps74
  go_wp2
  go_ret
  exact ⟨rfl, rfl⟩
theorem qsize_any (m : Int) (w : World) (h0 : 0 ≤ m) (h1 : m ≤ 16) : Calls Try.prog 75 #[.int .i64 m] w fun e w' => e = .returned (.int .i64 (m + 2)) ∧ w = w' := by
  have g1 : decide (m < 0) = false := by simp; omega
  have g2 : decide (16 < m) = false := by simp; omega
  go_enter Try.func75, Try.ntmps75
  go_wp2
  go_ret
  exact ⟨rfl, rfl⟩
theorem dsize_any (m : Int) (w : World) (h0 : 0 ≤ m) (h1 : m ≤ 16) : Calls Try.prog 76 #[.int .i64 m] w fun e w' => e = .returned (.int .i64 (3 * m + 1)) ∧ w = w' := by
  have g1 : decide (m < 0) = false := by simp; omega
  have g2 : decide (16 < m) = false := by simp; omega
  go_enter Try.func76, Try.ntmps76
  go_wp2
  go_ret
  exact ⟨rfl, rfl⟩
theorem hsize_any (m : Int) (w : World) (h0 : 0 ≤ m) (h1 : m ≤ 16) : Calls Try.prog 77 #[.int .i64 m] w fun e w' => e = .returned (.int .i64 (2 * m + 3)) ∧ w = w' := by
  have g1 : decide (m < 0) = false := by simp; omega
  have g2 : decide (16 < m) = false := by simp; omega
  go_enter Try.func77, Try.ntmps77
  go_wp2
  go_ret
  exact ⟨rfl, rfl⟩
theorem right_any (m : Int) (w : World) : Calls Try.prog 78 #[.int .i64 m] w fun e w' => e = .returned (.bool (decide (0 ≤ m ∧ m ≤ 16))) ∧ w = w' := by
  by_cases h1 : 0 ≤ m
  · by_cases h2 : m ≤ 16
    · have hr : decide (0 ≤ m ∧ m ≤ 16) = true := by simp [h1, h2]
      rw [hr]
      go_enter Try.func78, Try.ntmps78
      go_wp2
      go_ret
      exact ⟨rfl, rfl⟩
    · have hr : decide (0 ≤ m ∧ m ≤ 16) = false := by simp [h2]
      rw [hr]
      have e2 : decide (m ≤ 16) = false := by simp [h2]
      clear hr
      go_enter Try.func78, Try.ntmps78
      go_wp2
      go_ret
      exact ⟨rfl, rfl⟩
  · have hr : decide (0 ≤ m ∧ m ≤ 16) = false := by simp [h1]
    rw [hr]
    have e1 : decide (0 ≤ m) = false := by simp [h1]
    clear hr
    go_enter Try.func78, Try.ntmps78
    go_wp2
    go_ret
    exact ⟨rfl, rfl⟩

theorem r15size_any (m : Int) (w : World) (h0 : 0 ≤ m) (h1 : m ≤ 16) : Calls Try.prog 79 #[.int .i64 m] w fun e w' => e = .returned (.int .i64 (m)) ∧ w = w' := by
  have em : decide (0 ≤ m ∧ m ≤ 16) = true := by simp [h0, h1]
  have HR := right_any m
  rw [em] at HR
  clear em
  go_enter Try.func79, Try.ntmps79
  go_wp2_with fail
  refine (HR _).mono ?_
  rintro e w2 ⟨rfl, rfl⟩
  go_wp2_with fail
  go_ret
  exact ⟨rfl, rfl⟩
theorem r16size_any (m : Int) (w : World) (h0 : 0 ≤ m) (h1 : m ≤ 16) : Calls Try.prog 80 #[.int .i64 m] w fun e w' => e = .returned (.int .i64 (m + 2)) ∧ w = w' := by
  have em : decide (0 ≤ m ∧ m ≤ 16) = true := by simp [h0, h1]
  have HR := right_any m
  rw [em] at HR
  clear em
  go_enter Try.func80, Try.ntmps80
  go_wp2_with fail
  refine (HR _).mono ?_
  rintro e w2 ⟨rfl, rfl⟩
  go_wp2_with fail
  go_ret
  exact ⟨rfl, rfl⟩
theorem r17size_any (m : Int) (w : World) (h0 : 0 ≤ m) (h1 : m ≤ 16) : Calls Try.prog 81 #[.int .i64 m] w fun e w' => e = .returned (.int .i64 (3 * m + 1)) ∧ w = w' := by
  have em : decide (0 ≤ m ∧ m ≤ 16) = true := by simp [h0, h1]
  have HR := right_any m
  rw [em] at HR
  clear em
  go_enter Try.func81, Try.ntmps81
  go_wp2_with fail
  refine (HR _).mono ?_
  rintro e w2 ⟨rfl, rfl⟩
  go_wp2_with fail
  go_ret
  exact ⟨rfl, rfl⟩
theorem r18size_any (m : Int) (w : World) (h0 : 0 ≤ m) (h1 : m ≤ 16) : Calls Try.prog 82 #[.int .i64 m] w fun e w' => e = .returned (.int .i64 (2 * m + 3)) ∧ w = w' := by
  have em : decide (0 ≤ m ∧ m ≤ 16) = true := by simp [h0, h1]
  have HR := right_any m
  rw [em] at HR
  clear em
  go_enter Try.func82, Try.ntmps82
  go_wp2_with fail
  refine (HR _).mono ?_
  rintro e w2 ⟨rfl, rfl⟩
  go_wp2_with fail
  go_ret
  exact ⟨rfl, rfl⟩
end Go.Proofs.Ytpmpgnhbpneloaa
