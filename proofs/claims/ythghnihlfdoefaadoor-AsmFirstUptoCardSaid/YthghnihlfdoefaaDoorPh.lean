/- strings.Split at a line feed, plain. -/
import Derived.Test.YthghnihlfdoefaaDoorBa
import Derived.Lib.Split
import Derived.Test.YthghnihlfdoefaaDoorPl
import Derived.Test.YthghnihlfdoefaaDoorBg
namespace Go.Proofs.YthghnihlfdoefaaDoor
open Go Go.Lib
set_option linter.unusedVariables false
set_option linter.unusedSimpArgs false

theorem splitB_data (sep : ByteArray) : ∀ (k : Nat) (s : ByteArray), splitB sep 0 k s = (splitK sep.data.toList 0 k s.data.toList).map fun l => (⟨l.toArray⟩ : ByteArray)
  | 0, s => by
    show [s] = [(⟨s.data.toList.toArray⟩ : ByteArray)]
    rw [Array.toArray_toList]
  | k + 1, s => by
    unfold splitB splitK
    have e1 : indexB s sep = index s.data.toList sep.data.toList := rfl
    rw [e1]
    by_cases h : (index s.data.toList sep.data.toList == -1) = true
    · rw [if_pos h, if_pos h]
      show [s] = [(⟨s.data.toList.toArray⟩ : ByteArray)]
      rw [Array.toArray_toList]
    · rw [if_neg h, if_neg h, List.map_cons, splitB_data sep k]
      have h1 : (s.extract ((index s.data.toList sep.data.toList).toNat + sep.size) s.size).data.toList = s.data.toList.drop ((index s.data.toList sep.data.toList).toNat + sep.data.toList.length) := by
        rw [extract_data, List.take_of_length_le (by rw [List.length_drop, Array.length_toList]; exact Nat.le_refl _), Array.length_toList]
        rfl
      rw [h1]
      congr 1
      apply Go.WideShapes.bytes_inj
      rw [extract_data]
      simp
theorem split_lines (s : ByteArray) : splitB ⟨#[10]⟩ 0 (countB s ⟨#[10]⟩) s = ((splitF 10 s.data.toList).map fun l => (⟨l.toArray⟩ : ByteArray)) ∧ countB s ⟨#[10]⟩ + 1 = (splitF 10 s.data.toList).length := by
  have hc : countB s ⟨#[10]⟩ = s.data.toList.count 10 := countFrom_eq 10 _ _ (Nat.lt_succ_self _)
  refine ⟨?_, by rw [splitF_length, hc]⟩
  rw [splitB_data, hc]
  exact congrArg _ (splitK_eq 10 _ _ (Nat.le_refl _))
end Go.Proofs.YthghnihlfdoefaaDoor

/- Bounds of a line's tokens; lines one by one; plain. -/
namespace Go.Proofs.YthghnihlfdoefaaDoor
open Go Go.Lib
set_option linter.unusedVariables false
set_option linter.unusedSimpArgs false

theorem sc_bound (a : Nat) (p : List UInt8) : (∀ t ∈ (sc a p).1, t.s.length ≤ p.length ∧ t.pos ≤ a + p.length) ∧ (sc a p).2.1.length ≤ p.length := by
  induction p using snoc_ind' with
  | h0 => exact ⟨fun t h => (by cases h), Nat.le_refl _⟩
  | h1 l x ih =>
    obtain ⟨i1, i2⟩ := ih
    have hl := sc_len a l
    rw [sc_snoc, scStep, List.length_append, List.length_singleton]
    split
    · refine ⟨fun t ht => ?_, Nat.zero_le _⟩
      simp only at ht
      split at ht
      · have := i1 t ht; omega
      · rcases List.mem_append.1 ht with h | h
        · have := i1 t h; omega
        · obtain rfl := List.mem_singleton.1 h
          simp only
          omega
    · refine ⟨fun t ht => ?_, ?_⟩
      · have := i1 t ht; omega
      · simp only [List.length_append, List.length_singleton]; omega
theorem lineTok_bound (l : List UInt8) (a : Nat) : ∀ t ∈ lineTok l a, t.s.length ≤ l.length ∧ t.pos ≤ a + l.length := by
  intro t ht
  have hc : (cutR l).length ≤ l.length := List.IsPrefix.length_le (List.takeWhile_prefix _)
  obtain ⟨h1, h2⟩ := sc_bound a (cutR l)
  have hl := sc_len a (cutR l)
  unfold lineTok flushT at ht
  split at ht
  · have := h1 t ht; omega
  · rcases List.mem_append.1 ht with h | h
    · have := h1 t h; omega
    · obtain rfl := List.mem_singleton.1 h
      simp only
      omega
theorem lineTok_count (l : List UInt8) (a : Nat) : (lineTok l a).length ≤ l.length + 1 := by
  have hc : (cutR l).length ≤ l.length := List.IsPrefix.length_le (List.takeWhile_prefix _)
  have := sc_count a (cutR l)
  unfold lineTok flushT
  split
  · omega
  · rw [List.length_append, List.length_singleton]; omega
theorem linesL_cons (r : RSt) (x : List Tok) (l : List (List Tok)) : linesL r (x :: l) = match lineL r x with | .error e => .error e | .ok r' => linesL r' l := rfl
theorem linesL_app : ∀ (l1 : List (List Tok)) (r : RSt) (l2 : List (List Tok)), linesL r (l1 ++ l2) = match linesL r l1 with | .error e => .error e | .ok r' => linesL r' l2
  | [], r, l2 => rfl
  | x :: l1, r, l2 => by
    rw [List.cons_append, linesL_cons, linesL_cons]
    cases lineL r x with
    | error e => rfl
    | ok r' =>
      simp only
      exact linesL_app l1 r' l2
theorem endL_labels {r r' : RSt} {t nm : Tok} {c : Nat} {o : Int} {rest : List Tok} (h : endL r t c o nm rest = .ok r') : r'.labels = r.labels := by
  cases rest with
  | cons x l => cases h
  | nil =>
    unfold endL at h
    simp only at h
    split at h
    · cases h
    · injection h with h
      subst h
      rfl
theorem insL_labels {r r' : RSt} {t : Tok} {rest : List Tok} (h : insL r t rest = .ok r') : r'.labels = r.labels := by
  unfold insL at h
  split at h
  · cases h
  · split at h
    · split at h
      · cases h
      · split at h
        · cases h
        · exact endL_labels h
    · exact endL_labels h
theorem lineL_labels {r r' : RSt} {l : List Tok} (h : lineL r l = .ok r') : r'.labels.length ≤ r.labels.length + 1 := by
  unfold lineL at h
  split at h
  · injection h with h; subst h; omega
  · split at h
    · split at h
      · cases h
      · split at h
        · cases h
        · split at h
          · injection h with h; subst h; simp
          · rw [insL_labels h]; simp
    · rw [insL_labels h]; omega
/-- Where a line begins. -/
def fromF (LS : List (List UInt8)) (j : Nat) : Nat := ((LS.take j).map fun l => l.length + 1).sum
theorem fromF_succ (LS : List (List UInt8)) (j : Nat) (h : j < LS.length) : fromF LS (j + 1) = fromF LS j + (LS[j].length + 1) := by
  unfold fromF
  rw [List.take_succ_eq_append_getElem h, List.map_append, List.sum_append]
  simp
theorem fromF_mono (LS : List (List UInt8)) : ∀ (k j : Nat), j + k ≤ LS.length → fromF LS j ≤ fromF LS (j + k)
  | 0, j, _ => Nat.le_refl _
  | k + 1, j, h => by
    have h1 := fromF_mono LS k j (by omega)
    have h2 := fromF_succ LS (j + k) (by omega)
    have e : j + (k + 1) = j + k + 1 := by omega
    rw [e]
    omega
theorem splitF_sum (c : UInt8) (l : List UInt8) : ((splitF c l).map fun x => x.length + 1).sum = l.length + 1 := by
  induction l with
  | nil => rfl
  | cons b r ih =>
    unfold splitF
    by_cases hb : b = c
    · simp only [hb, if_true, List.map_cons, List.sum_cons, List.length_cons, List.length_nil]
      omega
    · simp only [hb, if_false]
      split
      · rename_i x xs h
        rw [h] at ih
        simp only [List.map_cons, List.sum_cons, List.length_cons] at ih ⊢
        omega
      · rename_i h
        exact absurd h (splitF_ne c r)
theorem line_bound (c : UInt8) (l : List UInt8) (j : Nat) (h : j < (splitF c l).length) : fromF (splitF c l) j + (splitF c l)[j].length ≤ l.length := by
  have h1 := fromF_succ (splitF c l) j h
  have h2 := fromF_mono (splitF c l) ((splitF c l).length - (j + 1)) (j + 1) (by omega)
  have h3 : fromF (splitF c l) (splitF c l).length = l.length + 1 := by
    unfold fromF
    rw [List.take_length]
    exact splitF_sum c l
  rw [show j + 1 + ((splitF c l).length - (j + 1)) = (splitF c l).length by omega, h3] at h2
  omega
theorem toksFrom_get : ∀ (LS : List (List UInt8)) (a j : Nat) (h : j < LS.length), (toksFrom a LS)[j]? = some (lineTok LS[j] (a + fromF LS j))
  | [], a, j, h => absurd h (by simp)
  | l :: r, a, 0, h => by simp [toksFrom, fromF]
  | l :: r, a, j + 1, h => by
    have h' : j < r.length := by simpa using h
    rw [toksFrom, List.getElem?_cons_succ, toksFrom_get r _ j h']
    have : fromF (l :: r) (j + 1) = (l.length + 1) + fromF r j := by simp [fromF]
    rw [this]
    simp only [List.getElem_cons_succ]
    congr 2
    omega
end Go.Proofs.YthghnihlfdoefaaDoor
