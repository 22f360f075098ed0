/- What 'numbers' and 'SameNumbers' do. -/
import Derived.Test.YtjggcidaolnmbaaArg
import Derived.BigQuiet
import Derived.Deep.QuietTactic
import Derived.Deep.LoopGhost
import Derived.Deep.DeepMust
namespace Go.Proofs.Ytjggcidaolnmbaa
open Go.RowKit Go.Joins Go.ChangeShapes Go.WideShapes Go.Deep
set_option linter.unusedVariables false
set_option maxRecDepth 100000

theorem info_num : (Try.prog.info? 2).map (fun i => (i.zero, i.size, i.bytes)) = some (some (.int .i64 0), 1, 8) := by kernel_rfl
theorem ints_take (l : List Int) (k : Nat) (h : k < l.length) : ints (l.take k) ++ [.int .i64 l[k]] = ints (l.take (k + 1)) := by
  rw [List.take_succ_eq_append_getElem h]
  simp only [ints, List.map_append, List.map_cons, List.map_nil]

set_option maxHeartbeats 1000000 in
theorem numbers_any (A : Option Addr) (n c : Nat) (xs : List Int) (w : World) (hn : n * 8 ≤ 140737488351232) (hA : Reads w w.heap.size 1 A n (ints xs)) :
    Calls Try.prog 17 #[.slice A n c] w fun e w' => ∃ v, e = .returned v ∧ w'.ownsRow w.heap.size 2 1 v n (ints xs) ∧ Below w.heap.size w w' := by
  have hlen : xs.length = n := by have := hA.1; simpa [ints] using this
  have HL := Lib.hid hlen
  clear hlen
  obtain ⟨i0, hi, hz0, hz1, hz2⟩ := info_parts info_num
  go_enter Try.func17, Try.ntmps17
  go_wp2
  go_loopg [3, 4] n (fun gk v i wr => ∃ k : Nat, k ≤ n ∧ gk = n - k ∧ i = .int .i64 k ∧ wr.ownsRow w.heap.size 2 1 v k (ints (xs.take k)) ∧ Below w.heap.size w wr)
  case atStart => exact ⟨0, Nat.zero_le _, rfl, rfl, World.ownsRow_nil _ _ _ _, Below.refl _ _⟩
  case round =>
    obtain ⟨k, hk, hgk, rfl, hown, hbel⟩ := hrel
    have HG := Lib.hid hgk
    clear hgk
    by_cases hkn : k < n
    · obtain ⟨b, off, rfl, hb, hc⟩ := (hA.below hbel).flat (by omega)
      have hkl : k < xs.length := by rw [HL.out]; exact hkn
      obtain ⟨V, hV⟩ : ∃ V, V = xs[k] := ⟨_, rfl⟩
      have cx : wr.cell? ⟨b, off + k, none⟩ = some (.int .i64 V) := by rw [hV]; exact hc k _ (ints_at _ _ hkl)
      have HV := Lib.hid hV
      have hc2 : ∀ u ∈ ([.int .i64 V] : List Value), u.oneCell' = true := (by intro u hu; simp at hu; subst hu; rfl)
      have hc3 : k + 1 ≤ maxLen := (by unfold maxLen; omega)
      have hc4 : (k + 1) * 8 ≤ 140737488355328 := (by omega)
      have hc5 : w.heap.size ≤ (wr.alloc (.cells #[.int .i64 V] 2)).heap.size := (by have := hbel.size; simp; omega)
      clear hc hV
      go_wp2_with (at_builtin; go_must (refine wpList_append_own _ rfl _ _ 24 rfl w.heap.size 2 i0 (.int .i64 0) 1 8 Try.underlying24 hi hz0 hz1 hz2 rfl (by decide) _ _ _ rfl (hown.alloc _) ⟨wr.heap.size, 0, none⟩ 1 1 [.int .i64 V] rfl rfl (cell_one_new _ _ _) hc2 hc3 hc4 hc5 ?_; intro v' w1 hown' hgrow _))
      go_roundg (n - (k + 1))
      case measure => have := HG.out; omega
      case rel =>
        refine ⟨k + 1, by omega, rfl, by go_num, ?_, ?_⟩
        · rw [← ints_take xs k hkl, ← HV.out]
          exact hown'
        · exact (hbel.alloc hbel.size _).grown hgrow (by have := hbel.size; simp; omega) (fun q hq => by have := (hown.alloc (.cells #[.int .i64 V] 2)).lt q hq; omega)
    · obtain rfl : k = n := by omega
      have hown2 : wr.ownsRow w.heap.size 2 1 u3 k (ints xs) := by
        have := hown
        rwa [List.take_of_length_le (by rw [HL.out]; exact Nat.le_refl _)] at this
      clear hown
      go_wp2
      go_ret
      exact ⟨_, rfl, hown2, hbel⟩

/-- Two lists that are alike. -/
theorem same_yes (A B : Option Addr) (n c d : Nat) (xs : List Int) (w : World) (BA BB : Nat) (hn : n ≤ 9223372036854775807) (hA : Reads w BA 1 A n (ints xs)) (hB : Reads w BB 1 B n (ints xs)) :
    Calls Try.prog 18 #[.slice A n c, .slice B n d] w fun e w' => e = .returned (.bool true) ∧ ∃ j, w' = w.drewN j := by
  have hlen : xs.length = n := by have := hA.1; simpa [ints] using this
  have HL := Lib.hid hlen
  clear hlen
  have hnn : ((n : Int) != (n : Int)) = false := by simp
  go_enter Try.func18, Try.ntmps18
  go_wp2
  go_loopg [5] n (fun gk i wr => ∃ k j : Nat, k ≤ n ∧ gk = n - k ∧ i = .int .i64 k ∧ wr = w.drewN j)
  case atStart => exact ⟨0, 0, Nat.zero_le _, rfl, rfl, rfl⟩
  case round =>
    obtain ⟨k, j, hk, hgk, rfl, rfl⟩ := hrel
    have HG := Lib.hid hgk
    clear hgk
    by_cases hkn : k < n
    · obtain ⟨b, off, rfl, hb, hc⟩ := hA.flat (by omega)
      obtain ⟨b', off', rfl, hb', hc'⟩ := hB.flat (by omega)
      have hkl : k < xs.length := by rw [HL.out]; exact hkn
      obtain ⟨V, hV⟩ : ∃ V, V = xs[k] := ⟨_, rfl⟩
      have cx : w.cell? ⟨b, off + k, none⟩ = some (.int .i64 V) := by rw [hV]; exact hc k _ (ints_at _ _ hkl)
      have cy : w.cell? ⟨b', off' + k, none⟩ = some (.int .i64 V) := by rw [hV]; exact hc' k _ (ints_at _ _ hkl)
      have hki : (k : Int) < (n : Int) := by omega
      clear hc hc' hV
      go_wp2_with fail
      go_quiet (fail)
      go_wp2
      go_roundg (n - (k + 1))
      case measure => have := HG.out; omega
      case rel => exact ⟨k + 1, _, by omega, rfl, by go_num, rfl⟩
    · go_wp2
      go_ret
      exact ⟨rfl, j, rfl⟩
end Go.Proofs.Ytjggcidaolnmbaa
