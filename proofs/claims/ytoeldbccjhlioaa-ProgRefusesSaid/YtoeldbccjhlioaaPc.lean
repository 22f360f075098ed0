/- A configuration as plain data; what place.Check, place.Size, and the document's Check and Size do. -/
import Derived.Test.YtoeldbccjhlioaaArg
import Derived.BigQuiet
import Derived.Deep.QuietTactic
import Derived.Deep.DeepMust
import Derived.Deep.RegionWith
import Derived.Deep.LoopGhost
namespace Go.Proofs.Ytoeldbccjhlioaa
open Go.RowKit Go.Joins Go.ChangeShapes Go.WideShapes Go.Deep
set_option linter.unusedVariables false
set_option maxRecDepth 100000

/-- Things that lie in some cells each, one behind the other. -/
def rows {α : Type} (enc : α → List Value) (l : List α) : List Value := l.flatMap enc
theorem rows_length {α : Type} (enc : α → List Value) (k : Nat) (hk : ∀ x, (enc x).length = k) (l : List α) : (rows enc l).length = l.length * k := by
  induction l with
  | nil => simp [rows]
  | cons x l ih => simp only [rows, List.flatMap_cons, List.length_append, List.length_cons] at ih ⊢; rw [ih, hk, Nat.add_mul]; omega
theorem rows_at {α : Type} (enc : α → List Value) (k : Nat) (hk : ∀ x, (enc x).length = k) : ∀ (l : List α) (n t : Nat) (h : n < l.length) (ht : t < k), (rows enc l)[n * k + t]? = (enc l[n])[t]?
  | x :: l, 0, t, h, ht => by
    simp only [rows, List.flatMap_cons, Nat.zero_mul, Nat.zero_add, List.getElem_cons_zero]
    rw [List.getElem?_append_left (by rw [hk]; omega)]
  | x :: l, n + 1, t, h, ht => by
    have := rows_at enc k hk l n t (by simpa using h) ht
    simp only [rows, List.flatMap_cons, List.getElem_cons_succ] at this ⊢
    rw [← this, List.getElem?_append_right (by rw [hk, Nat.add_mul]; omega)]
    congr 1
    rw [hk, Nat.add_mul]
    omega
theorem rows_snoc {α : Type} (enc : α → List Value) (l : List α) (x : α) : rows enc (l ++ [x]) = rows enc l ++ enc x := by simp [rows]
theorem reads_flat {w : World} {B k n : Nat} {A : Option Addr} {xs : List Value} (h : Reads w B k A n xs) (hn : 0 < n) (hk : 0 < k) :
    ∃ b off, A = some ⟨b, off, none⟩ ∧ b < B ∧ ∀ j u, xs[j]? = some u → w.cell? ⟨b, off + j, none⟩ = some u := by
  obtain ⟨ad, rfl, hb, hc⟩ := h.2 hn
  obtain ⟨b, off, spot⟩ := ad
  have hl : 0 < xs.length := by rw [h.1]; exact Nat.mul_pos hn hk
  have h0 := hc 0 _ (List.getElem?_eq_getElem hl)
  have hs : spot = none := by simpa [Addr.add] using World.cell?_spot h0
  subst hs
  refine ⟨b, off, rfl, hb, fun j u hu => ?_⟩
  have := hc j u hu
  unfold Addr.add at this
  by_cases hj : j = 0
  · subst hj
    simpa using this
  · rw [if_neg hj] at this
    exact this

structure Reg where
  kind : Int
  cap : Int
def Reg.cells (r : Reg) : List Value := [.int .i64 r.kind, .int .i64 r.cap]
structure Cfg where
  raw : Int
  ring : Int
  writes : Int
  stamps : Int
  multi : Bool
  tries : Int
def Cfg.vals (c : Cfg) (A : Option Addr) (n nc : Nat) : Array Value := #[.int .i64 c.raw, .int .i64 c.ring, .int .i64 c.writes, .int .i64 c.stamps, .bool c.multi, .int .i64 c.tries, .slice A n nc]
def regOk (r : Reg) : Prop := 1 ≤ r.kind ∧ r.kind ≤ 4 ∧ 0 ≤ r.cap ∧ r.cap ≤ 16
instance (r : Reg) : Decidable (regOk r) := by unfold regOk; infer_instance
def sizeI (r : Reg) : Int := if r.kind = 1 then r.cap else if r.kind = 2 then r.cap + 2 else if r.kind = 3 then 3 * r.cap + 1 else 2 * r.cap + 3
def cfgOk (c : Cfg) (l : List Reg) : Prop :=
  1 ≤ c.raw ∧ c.raw ≤ 64 ∧ 1 ≤ c.ring ∧ c.ring ≤ 16 ∧ 1 ≤ c.writes ∧ c.writes ≤ 24 ∧ 1 ≤ c.stamps ∧ c.stamps ≤ 1099511627776 ∧ 1 ≤ c.tries ∧ c.tries ≤ 255 ∧ l.length ≤ 8 ∧ ∀ r ∈ l, regOk r
instance (c : Cfg) (l : List Reg) : Decidable (cfgOk c l) := by unfold cfgOk; infer_instance
def checkF (c : Cfg) (l : List Reg) : Int := if cfgOk c l then 0 else 13

theorem within_any (n a b : Int) (w : World) : Calls Try.prog 16 #[.int .i64 n, .int .i64 a, .int .i64 b] w fun e w' => e = .returned (.bool (decide (a ≤ n ∧ n ≤ b))) ∧ w = w' := by
  by_cases h1 : a ≤ n
  · by_cases h2 : n ≤ b
    · have hr : decide (a ≤ n ∧ n ≤ b) = true := by simp [h1, h2]
      rw [hr]
      go_enter Try.func16, Try.ntmps16
      go_wp2
      go_ret
      exact ⟨rfl, rfl⟩
    · have hr : decide (a ≤ n ∧ n ≤ b) = false := by simp [h2]
      rw [hr]
      have e2 : decide (n ≤ b) = false := by simp [h2]
      clear hr
      go_enter Try.func16, Try.ntmps16
      go_wp2
      go_ret
      exact ⟨rfl, rfl⟩
  · have hr : decide (a ≤ n ∧ n ≤ b) = false := by simp [h1]
    rw [hr]
    have e1 : decide (a ≤ n) = false := by simp [h1]
    clear hr
    go_enter Try.func16, Try.ntmps16
    go_wp2
    go_ret
    exact ⟨rfl, rfl⟩
theorem within64_any (n a b : Int) (w : World) : Calls Try.prog 17 #[.int .i64 n, .int .i64 a, .int .i64 b] w fun e w' => e = .returned (.bool (decide (a ≤ n ∧ n ≤ b))) ∧ w = w' := by
  by_cases h1 : a ≤ n
  · by_cases h2 : n ≤ b
    · have hr : decide (a ≤ n ∧ n ≤ b) = true := by simp [h1, h2]
      rw [hr]
      go_enter Try.func17, Try.ntmps17
      go_wp2
      go_ret
      exact ⟨rfl, rfl⟩
    · have hr : decide (a ≤ n ∧ n ≤ b) = false := by simp [h2]
      rw [hr]
      have e2 : decide (n ≤ b) = false := by simp [h2]
      clear hr
      go_enter Try.func17, Try.ntmps17
      go_wp2
      go_ret
      exact ⟨rfl, rfl⟩
  · have hr : decide (a ≤ n ∧ n ≤ b) = false := by simp [h1]
    rw [hr]
    have e1 : decide (a ≤ n) = false := by simp [h1]
    clear hr
    go_enter Try.func17, Try.ntmps17
    go_wp2
    go_ret
    exact ⟨rfl, rfl⟩

theorem csize_any (m : Int) (w : World) (h0 : 0 ≤ m) (h1 : m ≤ 16) : Calls Try.prog 25 #[.int .i64 m] w fun e w' => e = .returned (.int .i64 (m)) ∧ w = w' := by
  have g1 : decide (m < 0) = false := by simp; omega
  have g2 : decide (16 < m) = false := by simp; omega
  go_enter Try.func25, Try.ntmps25
  go_wp2
  go_ret
  exact ⟨rfl, rfl⟩
theorem qsize_any (m : Int) (w : World) (h0 : 0 ≤ m) (h1 : m ≤ 16) : Calls Try.prog 26 #[.int .i64 m] w fun e w' => e = .returned (.int .i64 (m + 2)) ∧ w = w' := by
  have g1 : decide (m < 0) = false := by simp; omega
  have g2 : decide (16 < m) = false := by simp; omega
  go_enter Try.func26, Try.ntmps26
  go_wp2
  go_ret
  exact ⟨rfl, rfl⟩
theorem dsize_any (m : Int) (w : World) (h0 : 0 ≤ m) (h1 : m ≤ 16) : Calls Try.prog 27 #[.int .i64 m] w fun e w' => e = .returned (.int .i64 (3 * m + 1)) ∧ w = w' := by
  have g1 : decide (m < 0) = false := by simp; omega
  have g2 : decide (16 < m) = false := by simp; omega
  go_enter Try.func27, Try.ntmps27
  go_wp2
  go_ret
  exact ⟨rfl, rfl⟩
theorem hsize_any (m : Int) (w : World) (h0 : 0 ≤ m) (h1 : m ≤ 16) : Calls Try.prog 28 #[.int .i64 m] w fun e w' => e = .returned (.int .i64 (2 * m + 3)) ∧ w = w' := by
  have g1 : decide (m < 0) = false := by simp; omega
  have g2 : decide (16 < m) = false := by simp; omega
  go_enter Try.func28, Try.ntmps28
  go_wp2
  go_ret
  exact ⟨rfl, rfl⟩
theorem right_any (m : Int) (w : World) : Calls Try.prog 20 #[.int .i64 m] w fun e w' => e = .returned (.bool (decide (0 ≤ m ∧ m ≤ 16))) ∧ w = w' := by
  by_cases h1 : 0 ≤ m
  · by_cases h2 : m ≤ 16
    · have hr : decide (0 ≤ m ∧ m ≤ 16) = true := by simp [h1, h2]
      rw [hr]
      go_enter Try.func20, Try.ntmps20
      go_wp2
      go_ret
      exact ⟨rfl, rfl⟩
    · have hr : decide (0 ≤ m ∧ m ≤ 16) = false := by simp [h2]
      rw [hr]
      have e2 : decide (m ≤ 16) = false := by simp [h2]
      clear hr
      go_enter Try.func20, Try.ntmps20
      go_wp2
      go_ret
      exact ⟨rfl, rfl⟩
  · have hr : decide (0 ≤ m ∧ m ≤ 16) = false := by simp [h1]
    rw [hr]
    have e1 : decide (0 ≤ m) = false := by simp [h1]
    clear hr
    go_enter Try.func20, Try.ntmps20
    go_wp2
    go_ret
    exact ⟨rfl, rfl⟩

theorem r15size_any (m : Int) (w : World) (h0 : 0 ≤ m) (h1 : m ≤ 16) : Calls Try.prog 21 #[.int .i64 m] w fun e w' => e = .returned (.int .i64 (m)) ∧ w = w' := by
  have em : decide (0 ≤ m ∧ m ≤ 16) = true := by simp [h0, h1]
  have HR := right_any m
  rw [em] at HR
  clear em
  go_enter Try.func21, Try.ntmps21
  go_wp2_with fail
  refine (HR _).mono ?_
  rintro e w2 ⟨rfl, rfl⟩
  go_wp2_with fail
  go_ret
  exact ⟨rfl, rfl⟩
theorem r16size_any (m : Int) (w : World) (h0 : 0 ≤ m) (h1 : m ≤ 16) : Calls Try.prog 22 #[.int .i64 m] w fun e w' => e = .returned (.int .i64 (m + 2)) ∧ w = w' := by
  have em : decide (0 ≤ m ∧ m ≤ 16) = true := by simp [h0, h1]
  have HR := right_any m
  rw [em] at HR
  clear em
  go_enter Try.func22, Try.ntmps22
  go_wp2_with fail
  refine (HR _).mono ?_
  rintro e w2 ⟨rfl, rfl⟩
  go_wp2_with fail
  go_ret
  exact ⟨rfl, rfl⟩
theorem r17size_any (m : Int) (w : World) (h0 : 0 ≤ m) (h1 : m ≤ 16) : Calls Try.prog 23 #[.int .i64 m] w fun e w' => e = .returned (.int .i64 (3 * m + 1)) ∧ w = w' := by
  have em : decide (0 ≤ m ∧ m ≤ 16) = true := by simp [h0, h1]
  have HR := right_any m
  rw [em] at HR
  clear em
  go_enter Try.func23, Try.ntmps23
  go_wp2_with fail
  refine (HR _).mono ?_
  rintro e w2 ⟨rfl, rfl⟩
  go_wp2_with fail
  go_ret
  exact ⟨rfl, rfl⟩
theorem r18size_any (m : Int) (w : World) (h0 : 0 ≤ m) (h1 : m ≤ 16) : Calls Try.prog 24 #[.int .i64 m] w fun e w' => e = .returned (.int .i64 (2 * m + 3)) ∧ w = w' := by
  have em : decide (0 ≤ m ∧ m ≤ 16) = true := by simp [h0, h1]
  have HR := right_any m
  rw [em] at HR
  clear em
  go_enter Try.func24, Try.ntmps24
  go_wp2_with fail
  refine (HR _).mono ?_
  rintro e w2 ⟨rfl, rfl⟩
  go_wp2_with fail
  go_ret
  exact ⟨rfl, rfl⟩
end Go.Proofs.Ytoeldbccjhlioaa
