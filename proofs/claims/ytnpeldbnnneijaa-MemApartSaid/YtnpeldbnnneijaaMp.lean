/- The document's memory as plain data: which addresses there are, and the word that the log tells. -/
import Derived.Test.YtnpeldbnnneijaaMw4
namespace Go.Proofs.Ytnpeldbnnneijaa
open Go.RowKit Go.Joins Go.ChangeShapes Go.WideShapes Go.Deep
set_option linter.unusedVariables false
set_option maxRecDepth 100000

def isW (C R : Int) (k i j : Int) : Prop :=
  (k = 1 ∧ i = 0 ∧ j = 0) ∨ (k = 2 ∧ 0 ≤ i ∧ i < R ∧ j = 0) ∨ (k = 3 ∧ 0 ≤ i ∧ i < R ∧ 0 ≤ j ∧ j < 8) ∨ (k = 4 ∧ 0 ≤ i ∧ i < C ∧ j = 0)
instance (C R k i j : Int) : Decidable (isW C R k i j) := by unfold isW; infer_instance
def wrote (k i j : Int) (x : Acc) : Prop := (x.k = k ∧ x.i = i ∧ x.j = j) ∧ (x.kind = 2 ∨ (x.kind = 3 ∧ x.yes = true))
instance (k i j : Int) (x : Acc) : Decidable (wrote k i j x) := by unfold wrote; infer_instance
/-- The word of an address that was w at first. -/
def lastW (k i j : Int) : List Acc → Int → Int
  | [], w => w
  | x :: l, w => lastW k i j l (if wrote k i j x then x.value else w)
theorem lastW_append (k i j : Int) (l l' : List Acc) (w : Int) : lastW k i j (l ++ l') w = lastW k i j l' (lastW k i j l w) := by
  induction l generalizing w with
  | nil => rfl
  | cons x l ih => exact ih _
theorem tell_last (k i j : Int) : ∀ (l : List Acc) (w v : Int), tell k i j l w = some v → v = lastW k i j l w
  | [], w, v, h => by simp [tell] at h; exact h.symm
  | x :: l, w, v, h => by
    rw [tell] at h
    rw [lastW]
    split at h
    · rename_i hn
      rw [if_neg (fun hh => hn hh.1)]
      exact tell_last k i j l w v h
    · rename_i hn
      split at h
      · cases h
      · have hx : x.k = k ∧ x.i = i ∧ x.j = j := Classical.not_not.1 hn
        have e : (if wrote k i j x then x.value else w) = (if x.kind = 2 ∨ (x.kind = 3 ∧ x.yes = true) then x.value else w) := by
          by_cases hw : x.kind = 2 ∨ (x.kind = 3 ∧ x.yes = true)
          · rw [if_pos ⟨hx, hw⟩, if_pos hw]
          · rw [if_neg (fun hh => hw hh.2), if_neg hw]
        rw [e]
        exact tell_last k i j l _ v h

def begun (k : Int) : Int := if k = 2 then 1 else 0
structure Sized (m : MS) (C R : Nat) : Prop where
  heads : m.heads.length = R
  sigs : m.sigs.length = R * 8
  cells : m.cells.length = C
theorem Sized.is_ {m : MS} {C R : Nat} (h : Sized m C R) (k i j : Int) : (wordAt m k i j).isSome = true ↔ isW C R k i j := by
  obtain ⟨h1, h2, h3⟩ := h
  unfold wordAt isW
  by_cases hbad : i < 0 ∨ j < 0 ∨ (0 < j ∧ k ≠ 3)
  · rw [if_pos hbad]
    simp
    omega
  · rw [if_neg hbad]
    by_cases hk1 : k = 1
    · rw [if_pos hk1]
      by_cases hi : i = 0
      · rw [if_pos hi]; simp; omega
      · rw [if_neg hi]; simp; omega
    · rw [if_neg hk1]
      by_cases hk2 : k = 2
      · rw [if_pos hk2]
        by_cases hi : i.toNat < m.heads.length
        · rw [List.getElem?_eq_getElem hi]; simp; omega
        · rw [List.getElem?_eq_none (by omega)]; simp; omega
      · rw [if_neg hk2]
        by_cases hk3 : k = 3
        · rw [if_pos hk3]
          by_cases hj : j < 8
          · rw [if_pos hj]
            by_cases hi : i.toNat * 8 + j.toNat < m.sigs.length
            · rw [List.getElem?_eq_getElem hi]; simp; omega
            · rw [List.getElem?_eq_none (by omega)]; simp; omega
          · rw [if_neg hj]; simp; omega
        · rw [if_neg hk3]
          by_cases hk4 : k = 4
          · rw [if_pos hk4]
            by_cases hi : i.toNat < m.cells.length
            · rw [List.getElem?_eq_getElem hi]; simp; omega
            · rw [List.getElem?_eq_none (by omega)]; simp; omega
          · rw [if_neg hk4]; simp; omega
theorem newM_sized (C R : Nat) : Sized (newM C R) C R := ⟨by simp [newM, memAt, headsAt], by simp [newM, memAt], by simp [newM, memAt]⟩
theorem newM_word {C R : Nat} {k i j : Int} (h : isW C R k i j) : wordAt (newM C R) k i j = some (begun k) := by
  have hs := ((newM_sized C R).is_ k i j).2 h
  obtain ⟨v, hv⟩ := Option.isSome_iff_exists.1 hs
  rw [hv]
  congr 1
  unfold wordAt at hv
  rcases h with ⟨rfl, rfl, rfl⟩ | ⟨rfl, h1, h2, rfl⟩ | ⟨rfl, h1, h2, h3, h4⟩ | ⟨rfl, h1, h2, rfl⟩
  · simp [newM, memAt] at hv
    simp [begun, ← hv]
  · rw [if_neg (by omega), if_neg (by decide), if_pos rfl] at hv
    have hm := List.mem_of_getElem? hv
    simp [newM, memAt, headsAt] at hm
    simp [begun, hm.2]
  · rw [if_neg (by omega), if_neg (by decide), if_neg (by decide), if_pos rfl, if_pos h4] at hv
    have hm := List.mem_of_getElem? hv
    simp [newM, memAt] at hm
    simp [begun, hm.2]
  · rw [if_neg (by omega), if_neg (by decide), if_neg (by decide), if_neg (by decide), if_pos rfl] at hv
    have hm := List.mem_of_getElem? hv
    simp [newM, memAt] at hm
    simp [begun, hm.2]
/-- A word of the memory is what the log tells. -/
theorem word_log {C R : Nat} {m : MS} {k i j V : Int} (h : Told (newM C R) m) (hs : Sized m C R) (hw : wordAt m k i j = some V) : V = lastW k i j m.log (begun k) := by
  have hi : isW C R k i j := (hs.is_ k i j).1 (by rw [hw]; rfl)
  have := h.2 k i j
  rw [newM_word hi, hw] at this
  exact tell_last _ _ _ _ _ _ this

/-! ### The words that were touched -/
structure Tch where
  k : Int
  i : Int
  j : Int
  loads : Int
  stores : Int
  swaps : Int
def Tch.cells (t : Tch) : List Value := [.int .i64 t.k, .int .i64 t.i, .int .i64 t.j, .int .i64 t.loads, .int .i64 t.stores, .int .i64 t.swaps]
def Tch.key (t : Tch) : Int × Int × Int := (t.k, t.i, t.j)
def Acc.key (x : Acc) : Int × Int × Int := (x.k, x.i, x.j)
def bump (t : Tch) (kind : Int) : Tch := if kind = 1 then { t with loads := t.loads + 1 } else if kind = 2 then { t with stores := t.stores + 1 } else { t with swaps := t.swaps + 1 }
theorem bump_key (t : Tch) (kind : Int) : (bump t kind).key = t.key := by unfold bump; split; rfl; split <;> rfl
def lt3 (a b : Int × Int × Int) : Prop := a.1 < b.1 ∨ (a.1 = b.1 ∧ (a.2.1 < b.2.1 ∨ (a.2.1 = b.2.1 ∧ a.2.2 < b.2.2)))
instance (a b : Int × Int × Int) : Decidable (lt3 a b) := by unfold lt3; infer_instance
theorem lt3_trans {a b c : Int × Int × Int} (h : lt3 a b) (k : lt3 b c) : lt3 a c := by unfold lt3 at *; omega
theorem lt3_tri {a b : Int × Int × Int} (h1 : ¬ lt3 a b) (h2 : a ≠ b) : lt3 b a := by
  obtain ⟨a1, a2, a3⟩ := a
  obtain ⟨b1, b2, b3⟩ := b
  simp only [ne_eq, Prod.mk.injEq] at h2
  unfold lt3 at *
  simp only at *
  omega
theorem lt3_irr (a : Int × Int × Int) : ¬ lt3 a a := by unfold lt3; omega
def start (x : Acc) : Tch := ⟨x.k, x.i, x.j, 0, 0, 0⟩
def touchAll (out : List Tch) (x : Acc) : List Tch := out.map fun t => if t.key = x.key then bump t x.kind else t
def occ (out : List Tch) (x : Acc) : List Tch := touchAll (if x.key ∈ out.map Tch.key then out else out ++ [start x]) x
def insAt (out : List Tch) (x : Acc) : List Tch := out.takeWhile (fun t => decide (lt3 t.key x.key)) ++ start x :: out.dropWhile (fun t => decide (lt3 t.key x.key))
def ins (out : List Tch) (x : Acc) : List Tch := touchAll (if x.key ∈ out.map Tch.key then out else insAt out x) x
theorem touchAll_keys (out : List Tch) (x : Acc) : (touchAll out x).map Tch.key = out.map Tch.key := by
  unfold touchAll
  rw [List.map_map]
  apply List.map_congr_left
  intro t _
  show (if t.key = x.key then bump t x.kind else t).key = t.key
  split
  · exact bump_key _ _
  · rfl
theorem insAt_perm (out : List Tch) (x : Acc) : (insAt out x).Perm (out ++ [start x]) := by
  unfold insAt
  have h := List.takeWhile_append_dropWhile (p := fun t : Tch => decide (lt3 t.key x.key)) (l := out)
  have h2 : (out.takeWhile (fun t => decide (lt3 t.key x.key)) ++ start x :: out.dropWhile (fun t => decide (lt3 t.key x.key))).Perm (start x :: (out.takeWhile (fun t => decide (lt3 t.key x.key)) ++ out.dropWhile (fun t => decide (lt3 t.key x.key)))) := List.perm_middle
  rw [h] at h2
  exact h2.trans (List.perm_append_comm (l₁ := [start x]) (l₂ := out))
def Rising (l : List Tch) : Prop := (l.map Tch.key).Pairwise lt3
theorem insAt_rising {out : List Tch} {x : Acc} (h : Rising out) (hn : x.key ∉ out.map Tch.key) : Rising (insAt out x) := by
  have hx : (start x).key = x.key := rfl
  unfold Rising insAt at *
  rw [List.map_append, List.map_cons, List.pairwise_append, List.pairwise_cons, hx]
  have hd : ∀ t ∈ out.dropWhile (fun t => decide (lt3 t.key x.key)), lt3 x.key t.key := by
    intro t ht
    have hs := List.dropWhile_sublist (fun t : Tch => decide (lt3 t.key x.key)) (l := out)
    cases hdw : out.dropWhile (fun t => decide (lt3 t.key x.key)) with
    | nil => rw [hdw] at ht; cases ht
    | cons b B =>
      have hb := List.head?_dropWhile_not (fun t : Tch => decide (lt3 t.key x.key)) out
      rw [hdw] at hb ht
      simp only [List.head?_cons] at hb
      have hbo : b ∈ out := hs.subset (by rw [hdw]; exact List.mem_cons_self)
      have hb1 : ¬ lt3 b.key x.key := by simpa using hb
      have hbx : lt3 x.key b.key := lt3_tri hb1 (fun e => hn (e ▸ List.mem_map.2 ⟨b, hbo, rfl⟩))
      rcases List.mem_cons.1 ht with rfl | ht
      · exact hbx
      · have hp := h.sublist (hs.map Tch.key)
        rw [hdw, List.map_cons, List.pairwise_cons] at hp
        exact lt3_trans hbx (hp.1 _ (List.mem_map.2 ⟨t, ht, rfl⟩))
  have ht : ∀ t ∈ out.takeWhile (fun t => decide (lt3 t.key x.key)), lt3 t.key x.key := fun t ht => by
    have := List.all_takeWhile (p := fun t : Tch => decide (lt3 t.key x.key)) (l := out)
    rw [List.all_eq_true] at this
    exact of_decide_eq_true (this t ht)
  refine ⟨h.sublist ((List.takeWhile_sublist _).map _), ⟨?_, h.sublist ((List.dropWhile_sublist _).map _)⟩, ?_⟩
  · intro b hb
    obtain ⟨t, h1, rfl⟩ := List.mem_map.1 hb
    exact hd t h1
  · intro a ha b hb
    obtain ⟨t, h1, rfl⟩ := List.mem_map.1 ha
    rcases List.mem_cons.1 hb with rfl | hb
    · exact ht t h1
    · obtain ⟨u, h2, rfl⟩ := List.mem_map.1 hb
      exact lt3_trans (ht t h1) (hd u h2)
/-- The document's list is the program's, set in order. -/
theorem touch_both (L : List Acc) : (L.foldl ins []).Perm (L.foldl occ []) ∧ Rising (L.foldl ins []) := by
  suffices ∀ (L : List Acc) (A B : List Tch), B.Perm A → Rising B → (L.foldl ins B).Perm (L.foldl occ A) ∧ Rising (L.foldl ins B) from this L [] [] (List.Perm.refl _) .nil
  intro L
  induction L with
  | nil => exact fun A B h k => ⟨h, k⟩
  | cons x L ih =>
    intro A B h k
    have hm : x.key ∈ B.map Tch.key ↔ x.key ∈ A.map Tch.key := (h.map Tch.key).mem_iff
    refine ih _ _ ?_ ?_
    · unfold ins occ
      by_cases hx : x.key ∈ A.map Tch.key
      · rw [if_pos hx, if_pos (hm.2 hx)]
        exact h.map _
      · rw [if_neg hx, if_neg (fun e => hx (hm.1 e))]
        exact ((insAt_perm B x).trans (h.append_right _)).map _
    · unfold ins
      by_cases hx : x.key ∈ B.map Tch.key
      · rw [if_pos hx]
        unfold Rising
        rw [touchAll_keys]
        exact k
      · rw [if_neg hx]
        unfold Rising
        rw [touchAll_keys]
        exact insAt_rising k hx
theorem rising_eq : ∀ {A B : List Tch}, A.Perm B → Rising A → Rising B → A = B
  | [], B, h, _, _ => (List.nil_perm.1 h).symm
  | a :: A, [], h, _, _ => absurd h.length_eq (by simp)
  | a :: A, b :: B, h, hA, hB => by
    unfold Rising at hA hB
    rw [List.map_cons, List.pairwise_cons] at hA hB
    have hab : a = b := by
      rcases List.mem_cons.1 (h.mem_iff.1 (List.mem_cons_self (a := a) (l := A))) with e | ha
      · exact e
      · rcases List.mem_cons.1 (h.mem_iff.2 (List.mem_cons_self (a := b) (l := B))) with e | hb
        · exact e.symm
        · have h1 := hB.1 _ (List.mem_map.2 ⟨a, ha, rfl⟩)
          have h2 := hA.1 _ (List.mem_map.2 ⟨b, hb, rfl⟩)
          exact absurd (lt3_trans h1 h2) (lt3_irr _)
    subst hab
    rw [rising_eq (List.Perm.cons_inv h) hA.2 hB.2]
end Go.Proofs.Ytnpeldbnnneijaa
