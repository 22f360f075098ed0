/- What is wrong in a line is told whatever stands behind it; plain. -/
import Derived.Test.YthghnihlfdoefaaDoorPb
import Derived.Test.YthghnihlfdoefaaDoorPg
namespace Go.Proofs.YthghnihlfdoefaaDoor
open Go Go.Lib
set_option linter.unusedVariables false
set_option linter.unusedSimpArgs false

theorem sc_place (a : Nat) (p : List UInt8) : ∀ t ∈ (sc a p).1, a ≤ t.pos ∧ t.pos + t.s.length ≤ a + p.length := by
  induction p using snoc_ind' with
  | h0 => intro t ht; cases ht
  | h1 l x ih =>
    have hl := sc_len a l
    have hc := (sc_bound a l).2
    rw [sc_snoc, scStep, List.length_append, List.length_singleton]
    split
    · intro t ht
      simp only at ht
      split at ht
      · have := ih t ht; omega
      · rcases List.mem_append.1 ht with h | h
        · have := ih t h; omega
        · obtain rfl := List.mem_singleton.1 h
          simp only
          omega
    · intro t ht
      have := ih t ht
      omega
theorem lineTok_place (l : List UInt8) (a : Nat) : ∀ t ∈ lineTok l a, a ≤ t.pos ∧ t.pos + t.s.length ≤ a + l.length := by
  intro t ht
  have hc : (cutR l).length ≤ l.length := List.IsPrefix.length_le (List.takeWhile_prefix _)
  have h1 := sc_place a (cutR l)
  have h2 := (sc_bound a (cutR l)).2
  have hl := sc_len a (cutR l)
  unfold lineTok flushT at ht
  split at ht
  · have := h1 t ht; omega
  · rcases List.mem_append.1 ht with h | h
    · have := h1 t h; omega
    · obtain rfl := List.mem_singleton.1 h
      simp only
      omega
def PlaceIn (l : List Tok) (p : Nat) : Prop := ∃ x ∈ l, p = x.pos ∨ p = x.pos + x.s.length
theorem PlaceIn.cons {l : List Tok} {p : Nat} (x : Tok) (h : PlaceIn l p) : PlaceIn (x :: l) p := by
  obtain ⟨y, hy, h⟩ := h
  exact ⟨y, List.mem_cons_of_mem _ hy, h⟩
theorem endL_place {r : RSt} {t nm : Tok} {c : Nat} {o : Int} {rest : List Tok} {y : Nat × Nat} (h : endL r t c o nm rest = .error y) : PlaceIn (t :: rest) y.2 := by
  unfold endL at h
  split at h
  · rename_i x l
    injection h with h
    subst h
    exact ⟨x, by simp, .inl rfl⟩
  · split at h
    · injection h with h
      subst h
      exact ⟨t, by simp, .inl rfl⟩
    · cases h
theorem insL_place {r : RSt} {t : Tok} {rest : List Tok} {y : Nat × Nat} (h : insL r t rest = .error y) : PlaceIn (t :: rest) y.2 := by
  unfold insL at h
  split at h
  · injection h with h
    subst h
    exact ⟨t, by simp, .inl rfl⟩
  · split at h
    · split at h
      · injection h with h
        subst h
        exact ⟨t, by simp, .inr rfl⟩
      · rename_i u rest'
        split at h
        · injection h with h
          subst h
          exact ⟨u, by simp, .inl rfl⟩
        · obtain ⟨x, hx, hy⟩ := endL_place h
          refine ⟨x, ?_, hy⟩
          rcases List.mem_cons.1 hx with rfl | hx
          · simp
          · simp [hx]
    · exact endL_place h
theorem lineL_place {r : RSt} {l : List Tok} {y : Nat × Nat} (h : lineL r l = .error y) : PlaceIn l y.2 := by
  unfold lineL at h
  split at h
  · cases h
  · rename_i t rest
    split at h
    · split at h
      · injection h with h
        subst h
        exact ⟨t, by simp, .inl rfl⟩
      · split at h
        · injection h with h
          subst h
          exact ⟨t, by simp, .inl rfl⟩
        · split at h
          · cases h
          · exact (insL_place h).cons t
    · exact insL_place h
theorem linesL_where : ∀ {ls : List (List Tok)} {r : RSt} {y : Nat × Nat}, linesL r ls = .error y → ∃ (j : Nat) (l : List Tok) (r' : RSt), ls[j]? = some l ∧ linesL r (ls.take j) = .ok r' ∧ lineL r' l = .error y
  | [], r, y, h => by cases h
  | l :: ls, r, y, h => by
    rw [linesL_cons] at h
    cases hx : lineL r l with
    | error e =>
      rw [hx] at h
      injection h with h
      subst h
      exact ⟨0, l, r, rfl, rfl, hx⟩
    | ok r1 =>
      rw [hx] at h
      obtain ⟨j, l', r', h1, h2, h3⟩ := linesL_where h
      refine ⟨j + 1, l', r', by simpa using h1, ?_, h3⟩
      rw [List.take_succ_cons, linesL_cons, hx]
      exact h2
theorem toksFrom_app' : ∀ (l1 : List (List UInt8)) (a : Nat) (l2 : List (List UInt8)), ∃ a', toksFrom a (l1 ++ l2) = toksFrom a l1 ++ toksFrom a' l2
  | [], a, l2 => ⟨a, rfl⟩
  | l :: l1, a, l2 => by
    obtain ⟨a', h⟩ := toksFrom_app' l1 (a + l.length + 1) l2
    exact ⟨a', by simp only [List.cons_append, toksFrom, h]⟩
theorem toksFrom_length : ∀ (LS : List (List UInt8)) (a : Nat), (toksFrom a LS).length = LS.length
  | [], _ => rfl
  | l :: r, a => by
    simp only [toksFrom, List.length_cons, toksFrom_length r]
theorem toksFrom_take : ∀ (LS : List (List UInt8)) (a j : Nat), (toksFrom a LS).take j = toksFrom a (LS.take j)
  | [], a, j => by simp [toksFrom]
  | l :: r, a, 0 => rfl
  | l :: r, a, j + 1 => by
    simp only [toksFrom, List.take_succ_cons, toksFrom_take r]
theorem split_place : ∀ (j : Nat) (t : List UInt8) (h : j < (splitF 10 t).length),
    fromF (splitF 10 t) j + ((splitF 10 t)[j]).length ≤ t.length ∧
    (∀ i, fromF (splitF 10 t) j ≤ i → i < fromF (splitF 10 t) j + ((splitF 10 t)[j]).length → t[i]? ≠ some 10) ∧
    (fromF (splitF 10 t) j + ((splitF 10 t)[j]).length < t.length → t[fromF (splitF 10 t) j + ((splitF 10 t)[j]).length]? = some 10) ∧
    ∀ more, splitF 10 (t.take (fromF (splitF 10 t) j + ((splitF 10 t)[j]).length) ++ 10 :: more) = (splitF 10 t).take (j + 1) ++ splitF 10 more := by
  intro j
  induction j with
  | zero =>
    intro t h
    rcases split_cases 10 t with hm | ⟨a, b, rfl, ha⟩
    · have e : splitF 10 t = [t] := splitF_miss 10 t hm
      have e0 : fromF (splitF 10 t) 0 = 0 := rfl
      have e1 : (splitF 10 t)[0] = t := by simp [e]
      rw [e0, e1, Nat.zero_add]
      refine ⟨Nat.le_refl _, fun i _ hi hh => hm (List.mem_of_getElem? hh), fun h => absurd h (Nat.lt_irrefl _), fun more => ?_⟩
      rw [List.take_length, splitF_hit 10 t more hm, e]
      rfl
    · have e : splitF 10 (a ++ 10 :: b) = a :: splitF 10 b := splitF_hit 10 a b ha
      have e0 : fromF (splitF 10 (a ++ 10 :: b)) 0 = 0 := rfl
      have e1 : (splitF 10 (a ++ 10 :: b))[0] = a := by simp [e]
      rw [e0, e1, Nat.zero_add]
      refine ⟨by simp, fun i _ hi hh => ?_, fun _ => by simp, fun more => ?_⟩
      · rw [List.getElem?_append_left hi] at hh
        exact ha (List.mem_of_getElem? hh)
      · rw [List.take_left, splitF_hit 10 a more ha, e]
        rfl
  | succ j ih =>
    intro t h
    rcases split_cases 10 t with hm | ⟨a, b, rfl, ha⟩
    · rw [splitF_miss 10 t hm] at h
      simp at h
    · have e : splitF 10 (a ++ 10 :: b) = a :: splitF 10 b := splitF_hit 10 a b ha
      have hb : j < (splitF 10 b).length := by rw [e] at h; simpa using h
      obtain ⟨i1, i2, i3, i4⟩ := ih b hb
      have e0 : fromF (splitF 10 (a ++ 10 :: b)) (j + 1) = a.length + 1 + fromF (splitF 10 b) j := by
        rw [e]
        unfold fromF
        simp
      have e1 : (splitF 10 (a ++ 10 :: b))[j + 1] = (splitF 10 b)[j] := by simp [e]
      rw [e0, e1]
      obtain ⟨F, hF⟩ : ∃ F, F = fromF (splitF 10 b) j := ⟨_, rfl⟩
      obtain ⟨G, hG⟩ : ∃ G, G = ((splitF 10 b)[j]).length := ⟨_, rfl⟩
      rw [← hF, ← hG] at i1 i2 i3 i4 ⊢
      have hget : ∀ i, a.length + 1 ≤ i → (a ++ 10 :: b)[i]? = b[i - (a.length + 1)]? := fun i hi => by
        rw [List.getElem?_append_right (by omega), show i - a.length = (i - (a.length + 1)) + 1 by omega, List.getElem?_cons_succ]
      refine ⟨by rw [List.length_append, List.length_cons]; omega, fun i h1 h2 => ?_, fun h1 => ?_, fun more => ?_⟩
      · rw [hget i (by omega)]
        exact i2 _ (by omega) (by omega)
      · rw [hget _ (by omega), show a.length + 1 + F + G - (a.length + 1) = F + G by omega]
        exact i3 (by rw [List.length_append, List.length_cons] at h1; omega)
      · have ht : (a ++ 10 :: b).take (a.length + 1 + F + G) = a ++ 10 :: b.take (F + G) := by
          rw [List.take_append, List.take_of_length_le (by omega), show a.length + 1 + F + G - a.length = (F + G) + 1 by omega, List.take_succ_cons]
        rw [ht, List.append_assoc, List.cons_append, splitF_hit 10 a _ ha, i4 more, e, List.take_succ_cons]
        rfl
theorem linesL_err0 : ∀ {ls : List (List Tok)} {r : RSt} {y : Nat × Nat}, linesL r ls = .error y → y.1 ≠ 0
  | [], r, y, h => by cases h
  | l :: ls, r, y, h => by
    rw [linesL_cons] at h
    cases hx : lineL r l with
    | error e =>
      rw [hx] at h
      injection h with h
      subst h
      rcases lineL_err hx with h | h | h | h <;> omega
    | ok r' =>
      rw [hx] at h
      exact linesL_err0 h
theorem resL_err0 {ls : List (List UInt8 × Nat)} : ∀ {l : List Ins} {z : Nat × Nat}, resL ls l = .error z → z.1 = 11 := by
  intro l
  induction l with
  | nil => intro z hz; cases hz
  | cons x l ih =>
    intro z hz
    simp only [resL] at hz
    cases hx : resOne ls x with
    | error e =>
      rw [hx] at hz
      injection hz with hz
      subst hz
      unfold resOne at hx
      split at hx
      · cases hx
      · split at hx
        · injection hx with hx; subst hx; rfl
        · cases hx
    | ok o =>
      rw [hx] at hz
      simp only at hz
      cases hl : resL ls l with
      | error e =>
        rw [hl] at hz
        injection hz with hz
        subst hz
        exact ih hl
      | ok L => rw [hl] at hz; cases hz
theorem parseF_err0 {t : List UInt8} {y1 y2 : Nat} (h : parseF t = .error (y1, y2)) : y1 ≠ 0 := by
  unfold parseF at h
  cases hr : linesL ⟨[], []⟩ (lineToks t) with
  | error e =>
    rw [hr] at h
    injection h with h
    subst h
    exact linesL_err0 hr
  | ok r =>
    rw [hr] at h
    have : y1 = 11 := resL_err0 h
    omega
/-- What is wrong in a line is told, whatever stands in the lines behind it. -/
theorem parse_first {t : List UInt8} {y : Nat × Nat} (h : parseF t = .error y) (h11 : y.1 ≠ 11) :
    ∃ E, y.2 ≤ E ∧ E ≤ t.length ∧ (∀ i, y.2 ≤ i → i < E → t[i]? ≠ some 10) ∧ (E < t.length → t[E]? = some 10) ∧ ∀ more, parseF (t.take E ++ 10 :: more) = .error y := by
  have hlin : linesL ⟨[], []⟩ (lineToks t) = .error y := by
    unfold parseF at h
    cases hr : linesL ⟨[], []⟩ (lineToks t) with
    | error e => rw [hr] at h; injection h with h; rw [h]
    | ok r =>
      rw [hr] at h
      exact absurd (resL_err0 h) h11
  rw [lineToks_split] at hlin
  obtain ⟨j, l, r, h1, h2, h3⟩ := linesL_where hlin
  have hj : j < (splitF 10 t).length := by
    have := (List.getElem?_eq_some_iff.1 h1).1
    exact Nat.lt_of_lt_of_le this (toksFrom_len _ _)
  rw [toksFrom_get _ 0 j hj] at h1
  injection h1 with h1
  rw [Nat.zero_add] at h1
  obtain ⟨s1, s2, s3, s4⟩ := split_place j t hj
  obtain ⟨x, hx, hp⟩ := lineL_place h3
  rw [← h1] at hx
  have hpl := lineTok_place _ _ x hx
  refine ⟨_, by rcases hp with hp | hp <;> omega, s1, fun i hi1 hi2 => s2 i (by rcases hp with hp | hp <;> omega) hi2, s3, fun more => ?_⟩
  unfold parseF
  rw [lineToks_split, s4 more]
  obtain ⟨a', ha⟩ := toksFrom_app' ((splitF 10 t).take (j + 1)) 0 (splitF 10 more)
  have hfail : linesL ⟨[], []⟩ (toksFrom 0 ((splitF 10 t).take (j + 1) ++ splitF 10 more)) = .error y := by
    rw [ha]
    refine linesL_fail (j := j) (l := l) (r := r) ?_ ?_ h3
    · rw [List.take_append_of_le_length (by rw [toksFrom_length, List.length_take]; omega), toksFrom_take, List.take_take, Nat.min_eq_left (by omega), ← toksFrom_take]
      exact h2
    · rw [List.getElem?_append_left (by rw [toksFrom_length, List.length_take]; omega), ← toksFrom_take, List.getElem?_take_of_lt (by omega), toksFrom_get _ 0 j hj, Nat.zero_add, h1]
  rw [hfail]
end Go.Proofs.YthghnihlfdoefaaDoor
