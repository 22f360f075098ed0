/- Beginnings of a history; what an order of it tells of stamps. -/
import Derived.Test.YtffjcojehiblnaaGreatDoorPt
namespace Go.Proofs.YtffjcojehiblnaaGreatDoor
open Go.RowKit Go.Joins Go.ChangeShapes Go.WideShapes Go.Deep
set_option linter.unusedVariables false
set_option linter.unusedSimpArgs false
set_option maxRecDepth 100000

theorem read_bound : ∀ (l : List Ev) (b : Book) (i k : Nat), readF b i l = .error k → i ≤ k ∧ k < i + l.length
  | [], b, i, k, h => by cases h
  | e :: r, b, i, k, h => by
    unfold readF at h
    cases hn : nextF b e with
    | none =>
      rw [hn] at h
      injection h with h
      subst h
      exact ⟨Nat.le_refl _, by simp⟩
    | some b1 =>
      rw [hn] at h
      have := read_bound r b1 (i + 1) k h
      simp only [List.length_cons]
      omega
theorem readF_app : ∀ (x : List Ev) (b : Book) (i : Nat) (y : List Ev), readF b i (x ++ y) = match readF b i x with
    | .ok b' => readF b' (i + x.length) y
    | .error k => .error k
  | [], b, i, y => by simp [readF]
  | e :: r, b, i, y => by
    rw [List.cons_append]
    have e1 : ∀ z, readF b i (e :: z) = match nextF b e with
      | none => .error i
      | some b' => readF b' (i + 1) z := fun _ => rfl
    rw [e1, e1]
    cases hn : nextF b e with
    | none => rfl
    | some b1 =>
      simp only
      rw [readF_app r b1 (i + 1) y, List.length_cons, show i + 1 + r.length = i + (r.length + 1) by omega]
/-- How far a list of events is a history. -/
structure Whole (l : List Ev) (q : Nat) : Prop where
  le : q ≤ l.length
  good : ∀ j, j ≤ q → ∃ b, readF book0 0 (l.take j) = .ok b
  bad : ∀ j, q < j → j ≤ l.length → readF book0 0 (l.take j) = .error q
theorem whole_ok {l : List Ev} {b : Book} (h : readF book0 0 l = .ok b) : Whole l l.length := by
  refine ⟨Nat.le_refl _, fun j hj => ?_, fun j h1 h2 => absurd h1 (by omega)⟩
  have := readF_app (l.take j) book0 0 (l.drop j)
  rw [List.take_append_drop, h] at this
  cases hx : readF book0 0 (l.take j) with
  | ok b' => exact ⟨b', rfl⟩
  | error k => rw [hx] at this; cases this
theorem whole_bad {l : List Ev} {k : Nat} (h : readF book0 0 l = .error k) : Whole l k := by
  have hb := read_bound l book0 0 k h
  have key : ∀ j, j ≤ l.length → (∃ b, readF book0 0 (l.take j) = .ok b ∧ j ≤ k) ∨ (readF book0 0 (l.take j) = .error k ∧ k < j) := by
    intro j hj
    have := readF_app (l.take j) book0 0 (l.drop j)
    rw [List.take_append_drop, h] at this
    cases hx : readF book0 0 (l.take j) with
    | ok b' =>
      rw [hx] at this
      have h2 := read_bound _ _ _ _ this.symm
      rw [List.length_take] at h2
      exact .inl ⟨b', rfl, by omega⟩
    | error k' =>
      rw [hx] at this
      injection this with this
      subst this
      have h2 := read_bound _ _ _ _ hx
      rw [List.length_take] at h2
      exact .inr ⟨rfl, by omega⟩
  refine ⟨by omega, fun j hj => ?_, fun j h1 h2 => ?_⟩
  · rcases key j (by omega) with ⟨b, h1, _⟩ | ⟨_, h2⟩
    · exact ⟨b, h1⟩
    · omega
  · rcases key j h2 with ⟨b, _, h3⟩ | ⟨h3, _⟩
    · omega
    · exact h3
theorem reads_take {w : World} {B n j : Nat} {A : Option Addr} {l : List Ev} (h : Reads w B 19 A n (evs l)) (hl : l.length = n) (hj : j ≤ n) : Reads w B 19 A j (evs (l.take j)) := by
  refine ⟨by rw [evs_length, List.length_take]; omega, fun h0 => ?_⟩
  obtain ⟨ad, h1, h2, h3⟩ := h.2 (by omega)
  refine ⟨ad, h1, h2, fun i u hu => h3 i u ?_⟩
  have e : evs l = evs (l.take j) ++ evs (l.drop j) := by
    have := List.flatMap_append (xs := l.take j) (ys := l.drop j) (f := Ev.cells)
    rw [List.take_append_drop] at this
    exact this
  rw [e, List.getElem?_append_left (List.getElem?_eq_some_iff.1 hu).1]
  exact hu
/-- The stamp that came last among the first ones of an order. -/
def LastOK (ts : List TxP) (L : List Nat) (i : Nat) (last : Int) : Prop := last = 0 ∨ ∃ j, ∃ h : j < L.length, j < i ∧ (ts.getD L[j] t00).stamp = last ∧ last ≠ 0
theorem last_step {b : Book} {L : List Nat} (I : StInv b) (hp : L.Pairwise (Lx (ltc (ordF b.l)))) (hm : L.Perm (List.range b.l.length)) {i : Nat} (hi : i < L.length) {last : Int} (h : LastOK b.l L i last) (hs : (b.l.getD L[i] t00).stamp ≠ 0) : last < (b.l.getD L[i] t00).stamp := by
  have hlt : ∀ j (hj : j < L.length), L[j] < b.l.length := fun j hj => by
    have := hm.subset (List.getElem_mem hj)
    rwa [List.mem_range] at this
  have hg : ∀ j (hj : j < L.length), b.l.getD L[j] t00 = b.l[L[j]]'(hlt j hj) := fun j hj => by
    rw [List.getD_eq_getElem?_getD, List.getElem?_eq_getElem (hlt j hj)]; rfl
  have r1 := I.rng _ (List.getElem_mem (hlt i hi))
  rw [← hg i hi] at r1
  rcases h with h | ⟨j, hj, hji, h1, h2⟩
  · omega
  · have hx := List.pairwise_iff_getElem.1 hp j i hj hi hji
    have hnd : L.Nodup := hm.nodup_iff.2 List.nodup_range
    have hne : L[j] ≠ L[i] := List.pairwise_iff_getElem.1 hnd j i hj hi hji
    have hst : (b.l.getD L[j] t00).stamp ≠ (b.l.getD L[i] t00).stamp := by
      rw [hg j hj, hg i hi]
      have a1 : (b.l[L[j]]'(hlt j hj)).stamp ≠ 0 := by rw [← hg j hj]; omega
      have a2 : (b.l[L[i]]'(hlt i hi)).stamp ≠ 0 := by rw [← hg i hi]; exact hs
      rcases Nat.lt_or_gt_of_ne hne with h | h
      · have := List.pairwise_iff_getElem.1 I.ne _ _ (hlt j hj) (hlt i hi) h
        omega
      · have := List.pairwise_iff_getElem.1 I.ne _ _ (hlt i hi) (hlt j hj) h
        omega
    have p1 : ∀ x y : TxP, x.stamp ≠ 0 → y.stamp ≠ 0 → (placesF x y < 0 ↔ x.stamp < y.stamp) := by
      intro x y hx hy
      rw [places_lt]
      unfold place1 place2
      rw [if_neg hx, if_neg hy, if_neg hx, if_neg hy]
      omega
    have s1 : (b.l.getD L[j] t00).stamp ≠ 0 := by omega
    rcases hx with hx | ⟨hx, _⟩
    · have : (b.l.getD L[j] t00).stamp < (b.l.getD L[i] t00).stamp := (p1 _ _ s1 hs).1 hx
      omega
    · have : ¬ (b.l.getD L[i] t00).stamp < (b.l.getD L[j] t00).stamp := fun hh => hx ((p1 _ _ hs s1).2 hh)
      omega
theorem last_next {ts : List TxP} {L : List Nat} {i : Nat} (hi : i < L.length) {last : Int} (h : LastOK ts L i last) : LastOK ts L (i + 1) (if (ts.getD L[i] t00).stamp = 0 then last else (ts.getD L[i] t00).stamp) := by
  split
  · rcases h with h | ⟨j, hj, hji, h1, h2⟩
    · exact .inl h
    · exact .inr ⟨j, hj, by omega, h1, h2⟩
  · next hs => exact .inr ⟨i, hi, by omega, rfl, hs⟩
end Go.Proofs.YtffjcojehiblnaaGreatDoor
