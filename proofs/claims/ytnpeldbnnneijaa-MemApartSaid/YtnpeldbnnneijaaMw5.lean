/- What a memory's Log and Count tell. -/
import Derived.Test.YtnpeldbnnneijaaMw2
namespace Go.Proofs.Ytnpeldbnnneijaa
open Go.RowKit Go.Joins Go.ChangeShapes Go.WideShapes Go.Deep
set_option linter.unusedVariables false
set_option maxRecDepth 100000

theorem accs_one (l : List Acc) : ∀ u ∈ accs l, u.oneCell' = true := by
  intro u hu
  simp only [accs, List.mem_flatMap] at hu
  obtain ⟨x, _, hx⟩ := hu
  simp only [Acc.cells, List.mem_cons, List.not_mem_nil, or_false] at hx
  rcases hx with rfl | rfl | rfl | rfl | rfl | rfl | rfl | rfl <;> rfl

theorem count_any {w : World} {base b gh gs gc : Nat} {lv : Value} {m : MS} (h : MIs w base b gh gs gc lv m) :
    Calls Try.prog 14 #[.pointer (some ⟨b, 0, none⟩)] w fun e w' => e = .returned (.int .i64 m.log.length) ∧ w = w' := by
  have c4 : w.cell? ⟨b, 4, none⟩ = some lv := (h.blk.cell 4).trans rfl
  have hown := h.log
  obtain ⟨n, hn⟩ : ∃ n, n = m.log.length := ⟨_, rfl⟩
  rw [← hn] at hown ⊢
  clear h hn
  rcases hown.2 with ⟨rfl, rfl⟩ | ⟨g, cap, cur, rfl, hg, hh, hnc, _⟩
  · clear hown
    go_enter Try.func14, Try.ntmps14
    go_wp2_with fail
    go_ret
    exact ⟨rfl, rfl⟩
  · clear hown hh
    go_enter Try.func14, Try.ntmps14
    go_wp2_with fail
    go_ret
    exact ⟨rfl, rfl⟩

def LogPost (l : List Acc) (n : Nat) (w : World) : Ending → World → Prop := fun e w' => ∃ v, e = .returned v ∧ w'.ownsRow w.heap.size 44 8 v n (accs l) ∧ Below w.heap.size w w'

set_option maxHeartbeats 2000000 in
theorem log_any {w : World} {base b gh gs gc : Nat} {lv : Value} {m : MS} (h : MIs w base b gh gs gc lv m) (hlog : m.log.length ≤ 2199023255551) :
    Calls Try.prog 13 #[.pointer (some ⟨b, 0, none⟩), .int .i64 (-1)] w (LogPost m.log m.log.length w) := by
  have c4 : w.cell? ⟨b, 4, none⟩ = some lv := (h.blk.cell 4).trans rfl
  have hbl := h.blk.lt
  have hown := h.log
  obtain ⟨n, hn⟩ : ∃ n, n = m.log.length := ⟨_, rfl⟩
  rw [← hn] at hown hlog ⊢
  obtain ⟨i0, hi0, hz0, hz1, hz2⟩ := info_parts info_acc
  clear h hn
  have h63 : 0 + n ≤ maxLen := by unfold maxLen; omega
  have hby : (0 + n) * 64 ≤ 140737488355328 := by omega
  rcases hown.2 with ⟨rfl, rfl⟩ | ⟨g, cap, cur, rfl, hg, hh, hnc, hcm, _⟩
  · have hnil : accs m.log = [] := List.eq_nil_of_length_eq_zero (by have := hown.1; omega)
    have HNIL := Lib.hid hnil
    clear hown hnil
    go_enter Try.func13, Try.ntmps13
    go_wp2_with fail
    go_quiet (fail)
    go_wp2_with (at_builtin; go_must (refine wpList_append_any _ rfl _ _ 41 rfl w.heap.size 44 i0 _ 8 64 Try.underlying41 hi0 hz0 hz1 hz2 rfl (by omega) (.slice none 0 0) 0 [] (by rfl) (World.ownsRow_nil _ _ _ _) w.heap.size none 0 0 [] (by rfl) Reads.none_ (by simp) h63 hby (by simp) ?_; intro v' w1 hown1 hgrow _))
    go_ret
    exact ⟨_, rfl, by rw [HNIL.out]; exact hown1, ((below_drewN (Below.refl _ _) _).grown hgrow (by simp) (fun q hq => by simp [Value.ownBlock] at hq))⟩
  · have hR : Reads w w.heap.size 8 (some ⟨g, 0, none⟩) n (accs m.log) := Reads.of_own hown
    have hcm' : cap ≤ 9223372036854775807 := by simpa [maxLen] using hcm
    clear hown hh hcm
    by_cases hn0 : n = 0
    · subst hn0
      have hnil : accs m.log = [] := List.eq_nil_of_length_eq_zero (by have := hR.1; omega)
      have HNIL := Lib.hid hnil
      clear hR hnil
      go_enter Try.func13, Try.ntmps13
      go_wp2_with fail
      go_quiet (fail)
      go_wp2_with (at_builtin; go_must (refine wpList_append_any _ rfl _ _ 41 rfl w.heap.size 44 i0 _ 8 64 Try.underlying41 hi0 hz0 hz1 hz2 rfl (by omega) (.slice none 0 0) 0 [] (by rfl) (World.ownsRow_nil _ _ _ _) w.heap.size (some ⟨g, 0, none⟩) 0 0 [] (by rfl) ⟨rfl, fun h => absurd h (by omega)⟩ (by simp) h63 hby (by simp) ?_; intro v' w1 hown1 hgrow _))
      go_ret
      exact ⟨_, rfl, by rw [HNIL.out]; exact hown1, ((below_drewN (Below.refl _ _) _).grown hgrow (by simp) (fun q hq => by simp [Value.ownBlock] at hq))⟩
    · have hnn : (0 : Int) < (n : Int) := by omega
      go_enter Try.func13, Try.ntmps13
      go_wp2_with fail
      go_quiet (fail)
      go_wp2_with (at_builtin; go_must (refine wpList_append_any _ rfl _ _ 41 rfl w.heap.size 44 i0 _ 8 64 Try.underlying41 hi0 hz0 hz1 hz2 rfl (by omega) (.slice none 0 0) 0 [] (by rfl) (World.ownsRow_nil _ _ _ _) w.heap.size (some ⟨g, 0, none⟩) n n (accs m.log) (by rfl) hR (accs_one _) h63 hby (by simp) ?_; intro v' w1 hown1 hgrow _))
      go_ret
      rw [Nat.zero_add, List.nil_append] at hown1
      exact ⟨_, rfl, hown1, ((below_drewN (Below.refl _ _) _).grown hgrow (by simp) (fun q hq => by simp [Value.ownBlock] at hq))⟩
end Go.Proofs.Ytnpeldbnnneijaa
