/- What Print leaves is one thing; carousellaw14.AsmPrints, walked. -/
import Derived.Test.YthghnihlfdoefaaDoorAz
namespace Go.Proofs.YthghnihlfdoefaaDoor
open Go.RowKit Go.Joins Go.ChangeShapes Go.WideShapes Go.Deep Go.Maps Go.Sort
set_option linter.unusedVariables false
set_option linter.unusedSimpArgs false
set_option maxRecDepth 100000

theorem Dec.at_ {s : List Nat} {L : List AOp} {p : Nat} (h : Dec s L p) : ∀ m, m < L.length → ∃ q o k, Dec s (L.take m) q ∧ q < s.length ∧ atF s q = some (o, k) ∧ Dec s (L.take (m + 1)) (q + k) := by
  induction h with
  | nil => intro m hm; simp at hm
  | @snoc L p o k h1 h2 h3 ih =>
    intro m hm
    by_cases hl : m < L.length
    · obtain ⟨q, o', k', d1, d2, d3, d4⟩ := ih m hl
      exact ⟨q, o', k', by rw [List.take_append_of_le_length (by omega)]; exact d1, d2, d3, by rw [List.take_append_of_le_length (by omega)]; exact d4⟩
    · have hm' : m = L.length := by simp at hm; omega
      subst hm'
      exact ⟨p, o, k, by rw [List.take_left]; exact h1, h2, h3, by rw [List.take_of_length_le (by simp)]; exact h1.snoc h2 h3⟩
theorem Dec.same {s : List Nat} : ∀ (n : Nat) {L L' : List AOp} {p p' : Nat}, Dec s L p → Dec s L' p' → L.length = n → L'.length = n → L = L' ∧ p = p'
  | 0, L, L', p, p', h, h', e, e' => by
    cases h with
    | nil =>
      cases h' with
      | nil => exact ⟨rfl, rfl⟩
      | snoc => simp at e'
    | snoc => simp at e
  | n + 1, L, L', p, p', h, h', e, e' => by
    cases h with
    | nil => simp at e
    | @snoc K q o k h1 h2 h3 =>
      cases h' with
      | nil => simp at e'
      | @snoc K' q' o' k' g1 g2 g3 =>
        obtain ⟨rfl, rfl⟩ := Dec.same n h1 g1 (by simpa using e) (by simpa using e')
        rw [h3] at g3
        injection g3 with g3
        injection g3 with g3 g4
        subst g3 g4
        exact ⟨rfl, rfl⟩
/-- A way that cannot go on is the longest. -/
theorem Dec.end_ {s : List Nat} {L L' : List AOp} {p p' : Nat} (h : Dec s L p) (h' : Dec s L' p') (he : s.length ≤ p ∨ atF s p = none) : L'.length ≤ L.length := by
  by_cases hl : L'.length ≤ L.length
  · exact hl
  · obtain ⟨q, o, k, d1, d2, d3, _⟩ := h'.at_ L.length (by omega)
    obtain ⟨_, rfl⟩ := Dec.same L.length h d1 rfl (by rw [List.length_take]; omega)
    rcases he with he | he
    · omega
    · rw [he] at d3
      cases d3
theorem Dec.det {s : List Nat} {L L' : List AOp} {p p' : Nat} (h : Dec s L p) (h' : Dec s L' p') (he : s.length ≤ p ∨ atF s p = none) (he' : s.length ≤ p' ∨ atF s p' = none) : L = L' ∧ p = p' := by
  have h1 := h.end_ h' he
  have h2 := h'.end_ h he'
  exact Dec.same L.length h h' rfl (by omega)
/-- Both answers of Print, told as one. -/
theorem print_two {s : ByteArray} {w w1 w2 w3 : World} {e1 e2 : Ending} (h1 : PrintPost s w e1 w1) (h2 : PrintPost s w2 e2 w3) : ∃ (t : ByteArray) (n : Int), e1 = .returned (.tuple #[.string t, .int .i64 n]) ∧ e2 = .returned (.tuple #[.string t, .int .i64 n]) := by
  have hl := bytesL_length s
  rcases h1.2 with ⟨a, rfl⟩ | ⟨a, L, p, d1, d2, d3, rfl⟩ | ⟨a, L, d1, rfl⟩
  · rcases h2.2 with ⟨b, rfl⟩ | ⟨b, _⟩ | ⟨b, _⟩
    · exact ⟨_, _, rfl, rfl⟩
    · omega
    · omega
  · rcases h2.2 with ⟨b, rfl⟩ | ⟨b, L', p', g1, g2, g3, rfl⟩ | ⟨b, L', g1, rfl⟩
    · omega
    · exact ⟨_, _, rfl, rfl⟩
    · obtain ⟨_, e⟩ := d1.det g1 (.inr d3) (.inl (by omega))
      omega
  · rcases h2.2 with ⟨b, rfl⟩ | ⟨b, L', p', g1, g2, g3, rfl⟩ | ⟨b, L', g1, rfl⟩
    · omega
    · obtain ⟨_, e⟩ := d1.det g1 (.inl (by omega)) (.inr g3)
      omega
    · obtain ⟨rfl, _⟩ := d1.det g1 (.inl (by omega)) (.inl (by omega))
      exact ⟨_, _, rfl, rfl⟩
set_option maxHeartbeats 1000000 in
theorem law_prints {B : Nat} (s : ByteArray) (w : World) (hE : EnvIn B w) (hs : s.size ≤ 4611686018427387904) : Calls Tryd.prog 3 #[.string s] w fun e w' => e = .returned (.bool true) ∧ Below w.heap.size w w' := by
  have HP := Lib.hid (print_any s w hE hs)
  have HE := Lib.hid hE
  clear hE
  go_enter Tryd.func3, Tryd.ntmps3
  go_wp2_with fail
  refine (HP.out).mono ?_
  intro e w1 hp1
  have hb1 := hp1.1
  have HR := Lib.hid (rprint_any s w1 (HE.out.below hb1 HE.out.1) hs)
  have HP1 := Lib.hid hp1
  have HB1 := Lib.hid hb1
  have hex : ∃ (t : ByteArray) (n : Int), e = .returned (.tuple #[.string t, .int .i64 n]) := by
    obtain ⟨t, n, h, _⟩ := print_two hp1 hp1
    exact ⟨t, n, h⟩
  obtain ⟨t, n, rfl⟩ := hex
  clear hp1 hb1
  go_wp2_with fail
  refine (HR.out).mono ?_
  intro e2 w2 hp2
  have hex : e2 = .returned (.tuple #[.string t, .int .i64 n]) := by
    obtain ⟨t', n', h1, h2⟩ := print_two HP1.out hp2
    injection h1 with h1
    rw [h2, h1]
  subst hex
  have hb2 := hp2.1
  clear hp2
  have e1 : (n == n) = true := by simp
  go_wp2_with fail
  trace_state
  go_ret
  exact ⟨rfl, HB1.out.trans (hb2.mono HB1.out.size)⟩
end Go.Proofs.YthghnihlfdoefaaDoor
