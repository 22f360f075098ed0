/- What dict.New does. -/
import Derived.Test.YtjggcidaolnmbaaDw8
import Derived.Test.YtjggcidaolnmbaaArg
namespace Go.Proofs.Ytjggcidaolnmbaa
open Go.RowKit Go.Joins Go.ChangeShapes Go.WideShapes Go.Deep
set_option linter.unusedVariables false
set_option maxRecDepth 100000


theorem new_no (base most call : Int) (args : List Int) (A : Option Addr) (n c B : Nat) (w : World) (hn : n ≤ 9223372036854775807) (hA : Reads w B 1 A n (ints args)) (hno : ¬ callOk base most call args) :
    Calls Try.prog 14 #[.int .i64 base, .int .i64 most, .int .i64 call, .slice A n c] w fun e w' => e = .returned (.tuple #[.pointer none, .int .i64 1]) ∧ w = w' := by
  have hlen : args.length = n := by have := hA.1; simpa [ints] using this
  unfold callOk at hno
  by_cases h1 : base < 0
  · go_enter Try.func14, Try.ntmps14
    go_wp2_with fail
    go_ret2
    exact ⟨rfl, rfl⟩
  · by_cases h2 : 1024 < base
    · go_enter Try.func14, Try.ntmps14
      go_wp2_with fail
      go_ret2
      exact ⟨rfl, rfl⟩
    · by_cases h3 : most < 0
      · have h2' : decide (1024 < base) = false := by simpa using h2
        go_enter Try.func14, Try.ntmps14
        go_wp2_with fail
        go_ret2
        exact ⟨rfl, rfl⟩
      · by_cases h4 : 16 < most
        · have h2' : decide (1024 < base) = false := by simpa using h2
          go_enter Try.func14, Try.ntmps14
          go_wp2_with fail
          go_ret2
          exact ⟨rfl, rfl⟩
        · have h2' : decide (1024 < base) = false := by simpa using h2
          have h4' : decide (16 < most) = false := by simpa using h4
          have h5 : (arityI call != (n : Int)) = true := by
            simp only [bne_iff_ne, ne_eq]
            intro e
            exact hno ⟨by omega, by omega, by omega, by omega, by rw [e, hlen]⟩
          clear hno hlen
          go_enter Try.func14, Try.ntmps14
          go_wp2_with fail
          refine (arity_any call _).mono ?_
          rintro e w1 ⟨rfl, rfl⟩
          go_wp2_with fail
          go_ret2
          exact ⟨rfl, rfl⟩

/-- What New leaves: a machine at its beginning, in a new block. -/
theorem new_yes (base most call : Int) (args : List Int) (A : Option Addr) (n c B : Nat) (w : World) (hn : n ≤ 9223372036854775807) (hA : Reads w B 1 A n (ints args)) (hok : callOk base most call args) :
    Calls Try.prog 14 #[.int .i64 base, .int .i64 most, .int .i64 call, .slice A n c] w fun e w' =>
      e = .returned (.tuple #[.pointer (some ⟨w.heap.size, 0, none⟩), .int .i64 0]) ∧ MIs w' w.heap.size (startF base most call args) (fun _ => False) ∧ Below w.heap.size w w' := by
  have hlen : args.length = n := by have := hA.1; simpa [ints] using this
  obtain ⟨h1, h2, h3, h4, h5⟩ := hok
  have g1 : decide (base < 0) = false := by simpa using h1
  have g2 : decide (1024 < base) = false := by simpa using h2
  have g3 : decide (most < 0) = false := by simpa using h3
  have g4 : decide (16 < most) = false := by simpa using h4
  have h6 : arityI call ≤ 2 := by unfold arityI; repeat (first | split | omega)
  match args, hlen with
  | [], hlen =>
    subst hlen
    have hq : (arityI call != 0) = false := by rw [h5]; rfl
    clear h5
    go_enter Try.func14, Try.ntmps14
    go_wp2_with fail
    refine (arity_any call _).mono ?_
    rintro e w1 ⟨rfl, rfl⟩
    go_wp2_with fail
    go_ret2
    exact ⟨rfl, ⟨.slice none 0 0, _, Blk.new _ _ _, .inl ⟨rfl, _, _, rfl⟩, rfl⟩, (Below.refl _ _).alloc (Nat.le_refl _) _⟩
  | [k], hlen =>
    subst hlen
    obtain ⟨b, off, rfl, hb, hc⟩ := hA.flat (by simp)
    have hq : (arityI call != 1) = false := by rw [h5]; rfl
    have d0 : w.cell? ⟨b, off, none⟩ = some (.int .i64 k) := hc 0 _ rfl
    have hlt : b < w.heap.size := World.block_lt_of_cell? w _ d0
    clear h5 hc
    go_enter Try.func14, Try.ntmps14
    go_wp2_with fail
    refine (arity_any call _).mono ?_
    rintro e w1 ⟨rfl, rfl⟩
    go_wp2_with fail
    refine (first_any k most _ (by omega) (by omega)).mono ?_
    rintro e w1 ⟨rfl, rfl⟩
    go_wp2_with fail
    go_ret2
    exact ⟨rfl, ⟨.slice none 0 0, _, Blk.new _ _ _, .inl ⟨rfl, _, _, rfl⟩, rfl⟩, (Below.refl _ _).alloc (Nat.le_refl _) _⟩
  | [k, v], hlen =>
    subst hlen
    obtain ⟨b, off, rfl, hb, hc⟩ := hA.flat (by simp)
    have hq : (arityI call != 2) = false := by rw [h5]; rfl
    have d0 : w.cell? ⟨b, off, none⟩ = some (.int .i64 k) := hc 0 _ rfl
    have d1 : w.cell? ⟨b, off + 1, none⟩ = some (.int .i64 v) := hc 1 _ rfl
    have hlt : b < w.heap.size := World.block_lt_of_cell? w _ d0
    clear h5 hc
    go_enter Try.func14, Try.ntmps14
    go_wp2_with fail
    refine (arity_any call _).mono ?_
    rintro e w1 ⟨rfl, rfl⟩
    go_wp2_with fail
    refine (first_any k most _ (by omega) (by omega)).mono ?_
    rintro e w1 ⟨rfl, rfl⟩
    go_wp2_with fail
    go_ret2
    exact ⟨rfl, ⟨.slice none 0 0, _, Blk.new _ _ _, .inl ⟨rfl, _, _, rfl⟩, rfl⟩, (Below.refl _ _).alloc (Nat.le_refl _) _⟩
  | k :: v :: x :: l, hlen =>
    exfalso
    simp at h5
    omega
end Go.Proofs.Ytjggcidaolnmbaa
