/- Stable sorting as plain functions: ranges exchanged, blocks rotated, sorted runs merged in place; what of them keeps the order of what is alike. -/
import Derived.Test.YtffjcojehiblnaaGreatDoorRows
namespace Go.Proofs.YtffjcojehiblnaaGreatDoor
set_option linter.unusedVariables false
set_option linter.unusedSimpArgs false

section
variable {α : Type}
/-- Two ranges of n exchanged. -/
def swapR (f : Nat → α) (a b n : Nat) : Nat → α := fun x => if a ≤ x ∧ x < a + n then f (x - a + b) else if b ≤ x ∧ x < b + n then f (x - b + a) else f x
/-- The blocks a to m and m to b change places. -/
def rotR (f : Nat → α) (a m b : Nat) : Nat → α := fun x => if a ≤ x ∧ x < a + (b - m) then f (x - a + m) else if a + (b - m) ≤ x ∧ x < b then f (x - (b - m)) else f x
theorem swapR_zero (f : Nat → α) (a b : Nat) : swapR f a b 0 = f := by
  funext x
  unfold swapR
  rw [if_neg (by omega), if_neg (by omega)]
/-- One more pair. -/
theorem swapR_succ (f : Nat → α) (a b n : Nat) (h : a + n < b) : swapR f a b (n + 1) = swapR (swapR f a b n) (a + n) (b + n) 1 := by
  funext x
  unfold swapR
  by_cases h1 : x = a + n
  · subst h1
    rw [if_pos (by omega), if_pos (by omega), if_neg (by omega), if_neg (by omega)]
    congr 1
    omega
  by_cases h2 : x = b + n
  · subst h2
    rw [if_neg (by omega), if_pos (by omega), if_neg (by omega), if_pos (by omega), if_neg (by omega), if_neg (by omega)]
    congr 1
    omega
  rw [if_neg (c := a + n ≤ x ∧ x < a + n + 1) (by omega), if_neg (c := b + n ≤ x ∧ x < b + n + 1) (by omega)]
  by_cases h3 : a ≤ x ∧ x < a + n
  · rw [if_pos (by omega), if_pos h3]
  · rw [if_neg (by omega), if_neg h3]
    by_cases h4 : b ≤ x ∧ x < b + n
    · rw [if_pos (by omega), if_pos h4]
    · rw [if_neg (by omega), if_neg h4]
theorem rot_same (f : Nat → α) (m i : Nat) (h : i ≤ m) : rotR f (m - i) m (m + i) = swapR f (m - i) m i := by
  funext x
  unfold rotR swapR
  by_cases h1 : m - i ≤ x ∧ x < m - i + i
  · rw [if_pos (by omega), if_pos h1]
  · rw [if_neg (by omega), if_neg h1]
    by_cases h2 : m ≤ x ∧ x < m + i
    · rw [if_pos (by omega), if_pos h2]
      congr 1
      omega
    · rw [if_neg (by omega), if_neg h2]
theorem rot_left (f : Nat → α) (m i j : Nat) (h : i ≤ m) (hij : j < i) : rotR f (m - i) m (m + j) = rotR (swapR f (m - i) m j) (m - (i - j)) m (m + j) := by
  funext x
  unfold rotR
  by_cases h1 : m - i ≤ x ∧ x < m - i + j
  · rw [if_pos (by omega), if_neg (by omega), if_neg (by omega)]
    unfold swapR
    rw [if_pos h1]
  by_cases h2 : m - i + j ≤ x ∧ x < m - i + j + j
  · rw [if_neg (by omega), if_pos (by omega), if_pos (by omega)]
    unfold swapR
    rw [if_neg (by omega), if_pos (by omega)]
    congr 1
    omega
  by_cases h3 : m - i + j + j ≤ x ∧ x < m + j
  · rw [if_neg (by omega), if_pos (by omega), if_neg (by omega), if_pos (by omega)]
    unfold swapR
    rw [if_neg (by omega), if_neg (by omega)]
  · rw [if_neg (by omega), if_neg (by omega), if_neg (by omega), if_neg (by omega)]
    unfold swapR
    rw [if_neg (by omega), if_neg (by omega)]
theorem rot_right (f : Nat → α) (m i j : Nat) (h : i ≤ m) (hij : i < j) : rotR f (m - i) m (m + j) = rotR (swapR f (m - i) (m + j - i) i) (m - i) m (m + (j - i)) := by
  funext x
  unfold rotR
  by_cases h1 : m - i ≤ x ∧ x < m - i + (j - i)
  · rw [if_pos (by omega), if_pos (by omega)]
    unfold swapR
    rw [if_neg (by omega), if_neg (by omega)]
  by_cases h2 : m - i + (j - i) ≤ x ∧ x < m + (j - i)
  · rw [if_neg (c := m - i ≤ x ∧ x < m - i + (m + (j - i) - m)) (by omega), if_pos (c := m - i + (m + (j - i) - m) ≤ x ∧ x < m + (j - i)) (by omega)]
    unfold swapR
    by_cases h3 : x < m - i + j
    · rw [if_pos (by omega), if_pos (by omega)]
      congr 1
      omega
    · omega
  by_cases h3 : m + (j - i) ≤ x ∧ x < m + j
  · rw [if_neg (c := m - i ≤ x ∧ x < m - i + (m + j - m)) (by omega), if_pos (c := m - i + (m + j - m) ≤ x ∧ x < m + j) (by omega), if_neg (by omega), if_neg (by omega)]
    unfold swapR
    rw [if_neg (by omega), if_pos (by omega)]
    congr 1
    omega
  · rw [if_neg (by omega), if_neg (by omega), if_neg (by omega), if_neg (by omega)]
    unfold swapR
    rw [if_neg (by omega), if_neg (by omega)]

/-! ### Order -/
structure Lt3 (lt : α → α → Prop) : Prop where
  irr : ∀ x, ¬ lt x x
  tr : ∀ x y z, lt x y → lt y z → lt x z
  ntr : ∀ x y z, ¬ lt x y → ¬ lt y z → ¬ lt x z
variable {lt R : α → α → Prop}
/-- What is alike stands as it stood. -/
def Stab (lt R : α → α → Prop) (n : Nat) (f : Nat → α) : Prop := ∀ p q, p < q → q < n → ¬ lt (f p) (f q) → ¬ lt (f q) (f p) → R (f p) (f q)
def SortedR (lt : α → α → Prop) (f : Nat → α) (a b : Nat) : Prop := ∀ p q, a ≤ p → p ≤ q → q < b → ¬ lt (f q) (f p)
def SameOut (f g : Nat → α) (a b : Nat) : Prop := ∀ x, ¬ (a ≤ x ∧ x < b) → g x = f x
theorem Lt3.of_lt {L : Lt3 lt} : True := trivial
theorem Lt3.le_lt (L : Lt3 lt) {x y z : α} (h : ¬ lt y x) (k : lt y z) : lt x z := Classical.byContradiction fun hn => L.ntr y x z h hn k
theorem Lt3.lt_le (L : Lt3 lt) {x y z : α} (h : lt x y) (k : ¬ lt z y) : lt x z := Classical.byContradiction fun hn => L.ntr x z y hn k h
theorem Lt3.asym (L : Lt3 lt) {x y : α} (h : lt x y) : ¬ lt y x := fun k => L.irr x (L.tr x y x h k)
/-- Neighbours, of which the second is less, exchanged: what is alike stands as it stood. -/
theorem stab_swap (L : Lt3 lt) {n : Nat} {f : Nat → α} (h : Stab lt R n f) {j : Nat} (hjn : j + 1 < n) (hlt : lt (f (j + 1)) (f j)) : Stab lt R n (swapR f j (j + 1) 1) := by
  have e : ∀ x, swapR f j (j + 1) 1 x = if x = j then f (j + 1) else if x = j + 1 then f j else f x := by
    intro x
    unfold swapR
    by_cases h1 : x = j
    · subst h1
      rw [if_pos (by omega), if_pos rfl]
      congr 1
      omega
    · rw [if_neg (by omega), if_neg h1]
      by_cases h2 : x = j + 1
      · subst h2
        rw [if_pos (by omega), if_pos rfl]
        congr 1
        omega
      · rw [if_neg (by omega), if_neg h2]
  intro p q hpq hq h1 h2
  rw [e, e] at h1 h2 ⊢
  by_cases p1 : p = j
  · rw [if_pos p1] at h1 h2 ⊢
    by_cases q1 : q = j + 1
    · rw [if_neg (by omega), if_pos q1] at h1
      exact absurd hlt h1
    · rw [if_neg (by omega), if_neg q1] at h1 h2 ⊢
      exact h (j + 1) q (by omega) hq h1 h2
  · rw [if_neg p1] at h1 h2 ⊢
    by_cases p2 : p = j + 1
    · rw [if_pos p2] at h1 h2 ⊢
      rw [if_neg (by omega), if_neg (by omega)] at h1 h2 ⊢
      exact h j q (by omega) hq h1 h2
    · rw [if_neg p2] at h1 h2 ⊢
      by_cases q1 : q = j
      · rw [if_pos q1] at h1 h2 ⊢
        exact h p (j + 1) (by omega) hjn h1 h2
      · rw [if_neg q1] at h1 h2 ⊢
        by_cases q2 : q = j + 1
        · rw [if_pos q2] at h1 h2 ⊢
          exact h p j (by omega) (by omega) h1 h2
        · rw [if_neg q2] at h1 h2 ⊢
          exact h p q hpq hq h1 h2
/-- Blocks rotated, of which all of the second are less: likewise. -/
theorem stab_rot (L : Lt3 lt) {n : Nat} {f : Nat → α} (h : Stab lt R n f) {a m b : Nat} (ham : a ≤ m) (hmb : m ≤ b) (hb : b ≤ n) (hlt : ∀ x y, a ≤ x → x < m → m ≤ y → y < b → lt (f y) (f x)) : Stab lt R n (rotR f a m b) := by
  intro p q hpq hq
  have key : ∀ x, x < n → ∃ s, rotR f a m b x = f s ∧ s < n ∧ ((a ≤ x ∧ x < a + (b - m) ∧ s = x - a + m) ∨ (a + (b - m) ≤ x ∧ x < b ∧ s = x - (b - m)) ∨ ((x < a ∨ b ≤ x) ∧ s = x)) := by
    intro x hx
    unfold rotR
    by_cases h1 : a ≤ x ∧ x < a + (b - m)
    · exact ⟨_, by rw [if_pos h1], by omega, .inl ⟨h1.1, h1.2, rfl⟩⟩
    · rw [if_neg h1]
      by_cases h2 : a + (b - m) ≤ x ∧ x < b
      · exact ⟨_, by rw [if_pos h2], by omega, .inr (.inl ⟨h2.1, h2.2, rfl⟩)⟩
      · exact ⟨_, by rw [if_neg h2], hx, .inr (.inr ⟨by omega, rfl⟩)⟩
  obtain ⟨s, e1, hs, c1⟩ := key p (by omega)
  obtain ⟨t, e2, ht, c2⟩ := key q hq
  rw [e1, e2]
  intro h1 h2
  by_cases hst : s < t
  · exact h s t hst ht h1 h2
  · have : a ≤ t ∧ t < m ∧ m ≤ s ∧ s < b := by omega
    exact absurd (hlt t s this.1 this.2.1 this.2.2.1 this.2.2.2) h1

/-! ### Rearrangements -/
def PermF (n : Nat) (f g : Nat → α) : Prop := ((List.range n).map g).Perm ((List.range n).map f)
def Within (f g : Nat → α) (a b : Nat) : Prop := ∀ x, a ≤ x → x < b → ∃ y, a ≤ y ∧ y < b ∧ g x = f y
structure Move (n : Nat) (f g : Nat → α) (a b : Nat) : Prop where
  out : SameOut f g a b
  wi : Within f g a b
  pm : PermF n f g
theorem Move.refl (n : Nat) (f : Nat → α) (a b : Nat) : Move n f f a b := ⟨fun _ _ => rfl, fun x h1 h2 => ⟨x, h1, h2, rfl⟩, List.Perm.refl _⟩
theorem Move.trans {n : Nat} {f g k : Nat → α} {a b : Nat} (h : Move n f g a b) (h2 : Move n g k a b) : Move n f k a b :=
  ⟨fun x hx => (h2.out x hx).trans (h.out x hx), fun x h1 h3 => by
    obtain ⟨y, y1, y2, e⟩ := h2.wi x h1 h3
    obtain ⟨z, z1, z2, e2⟩ := h.wi y y1 y2
    exact ⟨z, z1, z2, e.trans e2⟩, h2.pm.trans h.pm⟩
theorem Move.wide {n : Nat} {f g : Nat → α} {a b a' b' : Nat} (h : Move n f g a b) (ha : a' ≤ a) (hb : b ≤ b') : Move n f g a' b' :=
  ⟨fun x hx => h.out x (fun hh => hx ⟨by omega, by omega⟩), fun x h1 h3 => by
    by_cases hx : a ≤ x ∧ x < b
    · obtain ⟨y, y1, y2, e⟩ := h.wi x hx.1 hx.2
      exact ⟨y, by omega, by omega, e⟩
    · exact ⟨x, h1, h3, h.out x hx⟩, h.pm⟩
theorem perm_swap1 (n : Nat) (f : Nat → α) (i j : Nat) (hij : i < j) (hj : j < n) : PermF n f (swapR f i j 1) := by
  unfold PermF
  have e : ∀ x, swapR f i j 1 x = f (if x = i then j else if x = j then i else x) := by
    intro x
    unfold swapR
    by_cases h1 : x = i
    · subst h1
      rw [if_pos (by omega), if_pos rfl]
      congr 1
      omega
    · rw [if_neg (by omega), if_neg h1]
      by_cases h2 : x = j
      · subst h2
        rw [if_pos (by omega), if_pos rfl]
        congr 1
        omega
      · rw [if_neg (by omega), if_neg h2]
  have e2 : (List.range n).map (swapR f i j 1) = ((List.range n).map (fun x => if x = i then j else if x = j then i else x)).map f := by
    rw [List.map_map]
    exact List.map_congr_left fun x _ => e x
  rw [e2]
  refine List.Perm.map f ?_
  refine (List.perm_ext_iff_of_nodup ?_ List.nodup_range).2 ?_
  · rw [List.Nodup, List.pairwise_map]
    refine List.Pairwise.imp ?_ (List.nodup_range (n := n))
    intro x y hxy h
    split at h <;> split at h <;> (try split at h) <;> (try split at h) <;> omega
  · intro x
    rw [List.mem_map, List.mem_range]
    constructor
    · rintro ⟨y, hy, rfl⟩
      rw [List.mem_range] at hy
      split
      · omega
      · split <;> omega
    · intro hx
      refine ⟨if x = i then j else if x = j then i else x, ?_, ?_⟩
      · rw [List.mem_range]
        split
        · omega
        · split <;> omega
      · by_cases h1 : x = i
        · rw [if_pos h1, if_neg (by omega), if_pos rfl, h1]
        · rw [if_neg h1]
          by_cases h2 : x = j
          · rw [if_pos h2, if_pos rfl, h2]
          · rw [if_neg h2, if_neg h1, if_neg h2]
theorem move_swap1 (n : Nat) (f : Nat → α) (a b i j : Nat) (hij : i < j) (ha : a ≤ i) (hjb : j < b) (hb : b ≤ n) : Move n f (swapR f i j 1) a b := by
  refine ⟨fun x hx => ?_, fun x h1 h2 => ?_, perm_swap1 n f i j hij (by omega)⟩
  · unfold swapR
    rw [if_neg (by omega), if_neg (by omega)]
  · unfold swapR
    split
    · exact ⟨_, by omega, by omega, rfl⟩
    · split
      · exact ⟨_, by omega, by omega, rfl⟩
      · exact ⟨x, h1, h2, rfl⟩
theorem move_swapR (n : Nat) (f : Nat → α) (a b i j : Nat) : ∀ k, i + k ≤ j → a ≤ i → j + k ≤ b → b ≤ n → Move n f (swapR f i j k) a b
  | 0, _, _, _, _ => by rw [swapR_zero]; exact Move.refl _ _ _ _
  | k + 1, h1, h2, h3, h4 => by
    rw [swapR_succ f i j k (by omega)]
    exact (move_swapR n f a b i j k (by omega) h2 (by omega) h4).trans (move_swap1 n _ a b (i + k) (j + k) (by omega) (by omega) (by omega) h4)
theorem SortedR.keep {f g : Nat → α} {a b : Nat} (h : SortedR lt f a b) (hg : ∀ x, a ≤ x → x < b → g x = f x) : SortedR lt g a b := by
  intro p q hp hpq hq
  rw [hg p hp (by omega), hg q (by omega) hq]
  exact h p q hp hpq hq
/-- The heart of the merge in place. -/
theorem merge_mid (L : Lt3 lt) {f : Nat → α} {a m b s e : Nat} (h1 : SortedR lt f a m) (h2 : SortedR lt f m b) (has : a ≤ s) (hsm : s ≤ m) (hme : m ≤ e) (heb : e ≤ b)
    (hA : s = a ∨ e = b ∨ ¬ lt (f e) (f (s - 1))) (hB : s = m ∨ e = m ∨ lt (f (e - 1)) (f s)) :
    (∀ x y, s ≤ x → x < m → m ≤ y → y < e → lt (f y) (f x)) ∧
    (∀ x y, a ≤ x → x < s + (e - m) → s + (e - m) ≤ y → y < b → ¬ lt (rotR f s m e y) (rotR f s m e x)) ∧
    SortedR lt (rotR f s m e) a s ∧ SortedR lt (rotR f s m e) s (s + (e - m)) ∧ SortedR lt (rotR f s m e) (s + (e - m)) e ∧ SortedR lt (rotR f s m e) e b := by
  have hcr : ∀ x y, s ≤ x → x < m → m ≤ y → y < e → lt (f y) (f x) := by
    intro x y hx1 hx2 hy1 hy2
    rcases hB with h | h | h
    · omega
    · omega
    · have k1 := h1 s x has hx1 hx2
      have k2 := h2 y (e - 1) hy1 (by omega) (by omega)
      exact L.lt_le (L.le_lt k2 h) k1
  have hle : ∀ x y, a ≤ x → x < s → e ≤ y → y < b → ¬ lt (f y) (f x) := by
    intro x y hx1 hx2 hy1 hy2
    rcases hA with h | h | h
    · omega
    · omega
    · have k1 := h1 x (s - 1) hx1 (by omega) (by omega)
      have k2 := h2 e y hme hy1 hy2
      exact fun hn => L.ntr _ _ _ k2 (fun hh => h (Classical.byContradiction fun h9 => L.ntr _ _ _ h9 k1 hh)) hn
  refine ⟨hcr, ?_, ?_, ?_, ?_, ?_⟩
  · intro x y hx1 hx2 hy1 hy2
    unfold rotR
    rw [if_neg (c := s ≤ y ∧ y < s + (e - m)) (by omega)]
    by_cases hx : s ≤ x
    · rw [if_pos (c := s ≤ x ∧ x < s + (e - m)) (by omega)]
      by_cases hy : y < e
      · rw [if_pos (by omega)]
        exact L.asym (hcr _ _ (by omega) (by omega) (by omega) (by omega))
      · rw [if_neg (by omega)]
        exact h2 _ _ (by omega) (by omega) hy2
    · rw [if_neg (c := s ≤ x ∧ x < s + (e - m)) (by omega), if_neg (c := s + (e - m) ≤ x ∧ x < e) (by omega)]
      by_cases hy : y < e
      · rw [if_pos (by omega)]
        exact h1 _ _ hx1 (by omega) (by omega)
      · rw [if_neg (by omega)]
        exact hle _ _ hx1 (by omega) (by omega) hy2
  · exact SortedR.keep (show SortedR lt f a s from fun p q hp hpq hq => h1 p q hp hpq (by omega)) fun x _ hx2 => by unfold rotR; rw [if_neg (by omega), if_neg (by omega)]
  · intro p q hp hpq hq
    unfold rotR
    rw [if_pos (by omega), if_pos (by omega)]
    exact h2 _ _ (by omega) (by omega) (by omega)
  · intro p q hp hpq hq
    unfold rotR
    rw [if_neg (by omega), if_pos (by omega), if_neg (by omega), if_pos (by omega)]
    exact h1 _ _ (by omega) (by omega) (by omega)
  · exact SortedR.keep (show SortedR lt f e b from fun p q hp hpq hq => h2 p q (by omega) hpq hq) fun x hx1 _ => by unfold rotR; rw [if_neg (by omega), if_neg (by omega)]
/-- Two halves merged, each by itself. -/
theorem merge_halves (L : Lt3 lt) {n : Nat} {f g k : Nat → α} {a m b : Nat} (ham : a ≤ m) (hmb : m ≤ b) (hx : ∀ x y, a ≤ x → x < m → m ≤ y → y < b → ¬ lt (f y) (f x)) (h1 : Move n f g a m) (s1 : SortedR lt g a m) (h2 : Move n g k m b) (s2 : SortedR lt k m b) : SortedR lt k a b := by
  intro p q hp hpq hq
  by_cases hqm : q < m
  · rw [h2.out p (by omega), h2.out q (by omega)]
    exact s1 p q hp hpq hqm
  · by_cases hpm : m ≤ p
    · exact s2 p q hpm hpq hq
    · rw [h2.out p (by omega)]
      obtain ⟨y, y1, y2, e⟩ := h2.wi q (by omega) hq
      rw [e, h1.out y (by omega)]
      obtain ⟨x, x1, x2, e2⟩ := h1.wi p hp (by omega)
      rw [e2]
      exact hx x y x1 x2 y1 y2
end
end Go.Proofs.YtffjcojehiblnaaGreatDoor

/- Plain: one insertion, one element carried to its place, and what merging wants of the search. -/
namespace Go.Proofs.YtffjcojehiblnaaGreatDoor
set_option linter.unusedVariables false
set_option linter.unusedSimpArgs false
section
variable {α : Type} {lt : α → α → Prop}

theorem swapR_at (f : Nat → α) (i j x : Nat) : swapR f i j 1 x = if x = i then f j else if x = j then f i else f x := by
  unfold swapR
  by_cases h1 : x = i
  · subst h1
    rw [if_pos (by omega), if_pos rfl]
    congr 1
    omega
  · rw [if_neg (by omega), if_neg h1]
    by_cases h2 : x = j
    · subst h2
      rw [if_pos (by omega), if_pos rfl]
      congr 1
      omega
    · rw [if_neg (by omega), if_neg h2]
theorem swapR_comm (f : Nat → α) (i j : Nat) : swapR f i j 1 = swapR f j i 1 := by
  funext x
  rw [swapR_at, swapR_at]
  by_cases h1 : x = i
  · by_cases h2 : x = j
    · subst h1; subst h2; rfl
    · rw [if_pos h1, if_neg h2, if_pos h1]
  · rw [if_neg h1]
    by_cases h2 : x = j
    · rw [if_pos h2, if_pos h2]
    · rw [if_neg h2, if_neg h2, if_neg h1]
/-- What one pass of an insertion keeps. -/
structure Ins (lt : α → α → Prop) (f : Nat → α) (a j i : Nat) : Prop where
  haj : a ≤ j
  hji : j ≤ i
  r1 : ∀ p q, a ≤ p → p < q → q ≤ i → p ≠ j → q ≠ j → ¬ lt (f q) (f p)
  r2 : ∀ q, j < q → q ≤ i → ¬ lt (f q) (f j)
theorem ins_start {f : Nat → α} {a i : Nat} (h : SortedR lt f a i) (ha : a ≤ i) : Ins lt f a i i :=
  ⟨ha, Nat.le_refl _, fun p q h1 h2 h3 h4 h5 => h p q h1 (by omega) (by omega), fun q h1 h2 => by omega⟩
theorem ins_step (L : Lt3 lt) {f : Nat → α} {a j i : Nat} (h : Ins lt f a (j + 1) i) (ha : a ≤ j) (hlt : lt (f (j + 1)) (f j)) : Ins lt (swapR f j (j + 1) 1) a j i := by
  have hji := h.hji
  refine ⟨ha, by omega, fun p q h1 h2 h3 h4 h5 => ?_, fun q h1 h2 => ?_⟩
  · rw [swapR_at, swapR_at, if_neg h5, if_neg h4]
    by_cases hq : q = j + 1
    · rw [if_pos hq, if_neg (by omega)]
      exact h.r1 p j h1 (by omega) (by omega) (by omega) (by omega)
    · rw [if_neg hq]
      by_cases hp : p = j + 1
      · rw [if_pos hp]
        exact h.r1 j q ha (by omega) h3 (by omega) hq
      · rw [if_neg hp]
        exact h.r1 p q h1 h2 h3 hp hq
  · rw [swapR_at, swapR_at, if_neg (by omega), if_pos rfl]
    by_cases hq : q = j + 1
    · rw [if_pos hq]
      exact L.asym hlt
    · rw [if_neg hq]
      exact h.r2 q (by omega) h2
theorem ins_done (L : Lt3 lt) {f : Nat → α} {a j i : Nat} (h : Ins lt f a j i) (hd : j = a ∨ ¬ lt (f j) (f (j - 1))) : SortedR lt f a (i + 1) := by
  have haj := h.haj
  intro p q h1 h2 h3
  by_cases hpq : p = q
  · subst hpq
    exact L.irr _
  by_cases hp : p = j
  · subst hp
    exact h.r2 q (by omega) (by omega)
  by_cases hq : q = j
  · subst hq
    rcases hd with hd | hd
    · omega
    · by_cases hp1 : p = q - 1
      · rw [hp1]; exact hd
      · exact L.ntr _ _ _ hd (h.r1 p (q - 1) h1 (by omega) (by omega) (by omega) (by omega))
  · exact h.r1 p q h1 (by omega) (by omega) hp hq

/-- What sorting a part of a row is. -/
structure Sorts (lt : α → α → Prop) (n : Nat) (f g : Nat → α) (a b : Nat) : Prop where
  mv : Move n f g a b
  st : ∀ R : α → α → Prop, Stab lt R n f → Stab lt R n g
  so : SortedR lt g a b

/-! ### One element carried -/
theorem rot_id (f : Nat → α) (s m e : Nat) (h : s = m ∨ e = m) : rotR f s m e = f := by
  funext x
  unfold rotR
  by_cases h1 : s ≤ x ∧ x < s + (e - m)
  · rw [if_pos h1]; congr 1; omega
  · rw [if_neg h1]
    by_cases h2 : s + (e - m) ≤ x ∧ x < e
    · rw [if_pos h2]; congr 1; omega
    · rw [if_neg h2]
theorem rot_up (f : Nat → α) (a k : Nat) (hk : a ≤ k) : rotR f a (a + 1) (k + 2) = swapR (rotR f a (a + 1) (k + 1)) k (k + 1) 1 := by
  funext x
  rw [swapR_at]
  unfold rotR
  by_cases h1 : x = k
  · subst h1
    rw [if_pos rfl, if_pos (by omega), if_neg (by omega), if_neg (by omega)]
    congr 1
    omega
  · rw [if_neg h1]
    by_cases h2 : x = k + 1
    · subst h2
      rw [if_pos rfl, if_neg (by omega), if_pos (by omega), if_neg (by omega), if_pos (by omega)]
      congr 1
      omega
    · rw [if_neg h2]
      by_cases h3 : a ≤ x ∧ x < k
      · rw [if_pos (by omega), if_pos (by omega)]
      · rw [if_neg (by omega), if_neg (by omega), if_neg (by omega), if_neg (by omega)]
theorem rot_down (f : Nat → α) (m k : Nat) (hk : k < m) : rotR f k m (m + 1) = swapR (rotR f (k + 1) m (m + 1)) k (k + 1) 1 := by
  funext x
  rw [swapR_at]
  unfold rotR
  by_cases h1 : x = k
  · subst h1
    rw [if_pos rfl, if_pos (by omega), if_pos (by omega)]
    congr 1
    omega
  · rw [if_neg h1]
    by_cases h2 : x = k + 1
    · subst h2
      rw [if_pos rfl, if_neg (by omega), if_pos (by omega), if_neg (by omega), if_neg (by omega)]
      congr 1
      omega
    · rw [if_neg h2]
      by_cases h3 : k + 1 < x ∧ x < m + 1
      · rw [if_neg (by omega), if_pos (by omega), if_neg (by omega), if_pos (by omega)]
      · rw [if_neg (by omega), if_neg (by omega), if_neg (by omega), if_neg (by omega)]
theorem move_rot (n : Nat) (f : Nat → α) (a m b : Nat) (ham : a ≤ m) (hmb : m ≤ b) (hb : b ≤ n) : Move n f (rotR f a m b) a b := by
  refine ⟨fun x hx => ?_, fun x h1 h2 => ?_, ?_⟩
  · unfold rotR
    rw [if_neg (by omega), if_neg (by omega)]
  · unfold rotR
    by_cases h3 : a ≤ x ∧ x < a + (b - m)
    · rw [if_pos h3]; exact ⟨_, by omega, by omega, rfl⟩
    · rw [if_neg h3, if_pos (by omega)]; exact ⟨_, by omega, by omega, rfl⟩
  · unfold PermF
    have e : (List.range n).map (rotR f a m b) = ((List.range n).map (rotR id a m b)).map f := by
      rw [List.map_map]
      refine List.map_congr_left fun x _ => ?_
      simp only [Function.comp]
      unfold rotR
      split
      · rfl
      · split <;> rfl
    rw [e]
    refine List.Perm.map f ?_
    refine (List.perm_ext_iff_of_nodup ?_ List.nodup_range).2 ?_
    · rw [List.Nodup, List.pairwise_map]
      refine List.Pairwise.imp ?_ (List.nodup_range (n := n))
      intro x y hxy h
      unfold rotR at h
      simp only [id] at h
      split at h <;> (try split at h) <;> (try split at h) <;> (try split at h) <;> omega
    · intro x
      rw [List.mem_map, List.mem_range]
      constructor
      · rintro ⟨y, hy, rfl⟩
        rw [List.mem_range] at hy
        unfold rotR
        simp only [id]
        split
        · omega
        · split <;> omega
      · intro hx
        by_cases h1 : a ≤ x ∧ x < m
        · refine ⟨x + (b - m), by rw [List.mem_range]; omega, ?_⟩
          unfold rotR
          rw [if_neg (by omega), if_pos (by omega)]
          simp only [id]; omega
        · by_cases h2 : m ≤ x ∧ x < b
          · refine ⟨x - m + a, by rw [List.mem_range]; omega, ?_⟩
            unfold rotR
            rw [if_pos (by omega)]
            simp only [id]; omega
          · refine ⟨x, by rw [List.mem_range]; omega, ?_⟩
            unfold rotR
            rw [if_neg (by omega), if_neg (by omega)]
            rfl
/-- One element ahead of a sorted row. -/
theorem sorts_up (L : Lt3 lt) {n : Nat} {f : Nat → α} {a b i : Nat} (h2 : SortedR lt f (a + 1) b) (hi1 : a + 1 ≤ i) (hib : i ≤ b) (hb : b ≤ n)
    (hl : i = a + 1 ∨ lt (f (i - 1)) (f a)) (hr : i = b ∨ ¬ lt (f i) (f a)) : Sorts lt n f (rotR f a (a + 1) i) a b := by
  have hL : ∀ y, a + 1 ≤ y → y < i → lt (f y) (f a) := by
    intro y h3 h4
    rcases hl with h | h
    · omega
    · exact L.le_lt (h2 y (i - 1) h3 (by omega) (by omega)) h
  have hR : ∀ y, i ≤ y → y < b → ¬ lt (f y) (f a) := by
    intro y h3 h4
    rcases hr with h | h
    · omega
    · intro hh
      exact h (L.le_lt (h2 i y hi1 h3 h4) hh)
  refine ⟨(move_rot n f a (a + 1) i (by omega) hi1 (by omega)).wide (Nat.le_refl _) hib, fun R hs => stab_rot L hs (by omega) hi1 (by omega) fun x y h3 h4 h5 h6 => ?_, ?_⟩
  · obtain rfl : x = a := by omega
    exact hL y h5 h6
  · intro p q h3 h4 h5
    unfold rotR
    by_cases hp : p < i - 1
    · rw [if_pos (c := a ≤ p ∧ p < a + (i - (a + 1))) (by omega)]
      by_cases hq : q < i - 1
      · rw [if_pos (by omega)]; exact h2 _ _ (by omega) (by omega) (by omega)
      · rw [if_neg (by omega)]
        by_cases hq2 : q < i
        · rw [if_pos (by omega)]
          have : q - (i - (a + 1)) = a := by omega
          rw [this]
          exact L.asym (hL _ (by omega) (by omega))
        · rw [if_neg (by omega)]; exact h2 _ _ (by omega) (by omega) (by omega)
    · rw [if_neg (c := a ≤ p ∧ p < a + (i - (a + 1))) (by omega), if_neg (c := a ≤ q ∧ q < a + (i - (a + 1))) (by omega)]
      by_cases hp2 : p < i
      · rw [if_pos (c := a + (i - (a + 1)) ≤ p ∧ p < i) (by omega)]
        have e1 : p - (i - (a + 1)) = a := by omega
        rw [e1]
        by_cases hq2 : q < i
        · rw [if_pos (by omega)]
          have e2 : q - (i - (a + 1)) = a := by omega
          rw [e2]
          exact L.irr _
        · rw [if_neg (by omega)]; exact hR q (by omega) h5
      · rw [if_neg (c := a + (i - (a + 1)) ≤ p ∧ p < i) (by omega), if_neg (by omega)]
        exact h2 p q (by omega) h4 h5
/-- One element behind a sorted row. -/
theorem sorts_down (L : Lt3 lt) {n : Nat} {f : Nat → α} {a m i : Nat} (h1 : SortedR lt f a m) (hai : a ≤ i) (him : i ≤ m) (hb : m + 1 ≤ n)
    (hl : i = a ∨ ¬ lt (f m) (f (i - 1))) (hr : i = m ∨ lt (f m) (f i)) : Sorts lt n f (rotR f i m (m + 1)) a (m + 1) := by
  have hR : ∀ y, i ≤ y → y < m → lt (f m) (f y) := by
    intro y h3 h4
    rcases hr with h | h
    · omega
    · exact L.lt_le h (h1 i y hai h3 h4)
  have hL : ∀ y, a ≤ y → y < i → ¬ lt (f m) (f y) := by
    intro y h3 h4
    rcases hl with h | h
    · omega
    · exact L.ntr _ _ _ h (h1 y (i - 1) h3 (by omega) (by omega))
  refine ⟨(move_rot n f i m (m + 1) him (by omega) hb).wide hai (Nat.le_refl _), fun R hs => stab_rot L hs him (by omega) hb fun x y h3 h4 h5 h6 => ?_, ?_⟩
  · obtain rfl : y = m := by omega
    exact hR x h3 h4
  · intro p q h3 h4 h5
    unfold rotR
    by_cases hp : p < i
    · rw [if_neg (c := i ≤ p ∧ p < i + (m + 1 - m)) (by omega), if_neg (c := i + (m + 1 - m) ≤ p ∧ p < m + 1) (by omega)]
      by_cases hq : q < i
      · rw [if_neg (by omega), if_neg (by omega)]; exact h1 p q h3 h4 (by omega)
      · by_cases hq2 : q = i
        · rw [if_pos (by omega)]
          have : q - i + m = m := by omega
          rw [this]
          exact hL p h3 hp
        · rw [if_neg (by omega), if_pos (by omega)]; exact h1 _ _ (by omega) (by omega) (by omega)
    · by_cases hp2 : p = i
      · rw [if_pos (c := i ≤ p ∧ p < i + (m + 1 - m)) (by omega)]
        have e1 : p - i + m = m := by omega
        rw [e1]
        by_cases hq2 : q = i
        · rw [if_pos (by omega)]
          have e2 : q - i + m = m := by omega
          rw [e2]
          exact L.irr _
        · rw [if_neg (by omega), if_pos (by omega)]
          exact L.asym (hR _ (by omega) (by omega))
      · rw [if_neg (c := i ≤ p ∧ p < i + (m + 1 - m)) (by omega), if_pos (c := i + (m + 1 - m) ≤ p ∧ p < m + 1) (by omega), if_neg (by omega), if_pos (by omega)]
        exact h1 _ _ (by omega) (by omega) (by omega)
/-- Merged: rotated about the middle, both halves merged. -/
theorem sorts_merge (L : Lt3 lt) {n : Nat} {f g k : Nat → α} {a m b s e mid : Nat} (h1 : SortedR lt f a m) (h2 : SortedR lt f m b) (has : a ≤ s) (hsm : s ≤ m) (hme : m ≤ e) (heb : e ≤ b) (hb : b ≤ n)
    (hA : s = a ∨ e = b ∨ ¬ lt (f e) (f (s - 1))) (hB : s = m ∨ e = m ∨ lt (f (e - 1)) (f s)) (hmid : mid = s + (e - m))
    (hg : (a < s ∧ s < mid → SortedR lt (rotR f s m e) a s → SortedR lt (rotR f s m e) s mid → Sorts lt n (rotR f s m e) g a mid) ∧ (¬ (a < s ∧ s < mid) → g = rotR f s m e))
    (hk : (mid < e ∧ e < b → SortedR lt g mid e → SortedR lt g e b → Sorts lt n g k mid b) ∧ (¬ (mid < e ∧ e < b) → k = g)) : Sorts lt n f k a b := by
  obtain ⟨c1, c2, s1, s2, s3, s4⟩ := merge_mid L h1 h2 has hsm hme heb hA hB
  rw [← hmid] at c2 s2 s3
  have m0 : Move n f (rotR f s m e) a b := (move_rot n f s m e hsm hme (by omega)).wide has heb
  have t0 : ∀ R : α → α → Prop, Stab lt R n f → Stab lt R n (rotR f s m e) := fun R hs => stab_rot L hs hsm hme (by omega) c1
  have G : Sorts lt n (rotR f s m e) g a mid := by
    by_cases hc : a < s ∧ s < mid
    · exact hg.1 hc s1 s2
    · rw [hg.2 hc]
      refine ⟨Move.refl _ _ _ _, fun _ h => h, ?_⟩
      by_cases h3 : s = a
      · rw [← h3]; exact s2
      · have h4 : mid = s := by omega
        rw [h4]; exact s1
  have go : ∀ x, mid ≤ x → g x = rotR f s m e x := fun x hx => G.mv.out x (by omega)
  have K : Sorts lt n g k mid b := by
    by_cases hc : mid < e ∧ e < b
    · exact hk.1 hc (SortedR.keep s3 fun x h3 _ => go x h3) (SortedR.keep s4 fun x h3 _ => go x (by omega))
    · rw [hk.2 hc]
      refine ⟨Move.refl _ _ _ _, fun _ h => h, ?_⟩
      by_cases h3 : e = b
      · rw [← h3]; exact SortedR.keep s3 fun x h3 _ => go x h3
      · have h4 : mid = e := by omega
        rw [h4]; exact SortedR.keep s4 fun x h3 _ => go x (by omega)
  exact ⟨(m0.trans (G.mv.wide (Nat.le_refl _) (by omega))).trans (K.mv.wide (by omega) (Nat.le_refl _)), fun R hs => K.st R (G.st R (t0 R hs)), merge_halves L (by omega) (by omega) c2 G.mv G.so K.mv K.so⟩
end
end Go.Proofs.YtffjcojehiblnaaGreatDoor

/- Plain: sorting by runs, and what a stable order of numbers is. -/
namespace Go.Proofs.YtffjcojehiblnaaGreatDoor
set_option linter.unusedVariables false
set_option linter.unusedSimpArgs false
section
variable {α : Type} {lt : α → α → Prop}

/-- What came of a whole row by steps that each sort a part of it. -/
structure Keeps (lt : α → α → Prop) (n : Nat) (f g : Nat → α) : Prop where
  mv : Move n f g 0 n
  st : ∀ R : α → α → Prop, Stab lt R n f → Stab lt R n g
theorem Keeps.refl (f : Nat → α) (n : Nat) : Keeps lt n f f := ⟨Move.refl _ _ _ _, fun _ h => h⟩
theorem Keeps.sorts {n : Nat} {f g k : Nat → α} {a b : Nat} (h : Keeps lt n f g) (s : Sorts lt n g k a b) (hb : b ≤ n) : Keeps lt n f k :=
  ⟨h.mv.trans (s.mv.wide (Nat.zero_le _) hb), fun R hs => s.st R (h.st R hs)⟩
theorem Move.vals {n a b m : Nat} {f g : Nat → Nat} (h : Move n f g a b) (hb : b ≤ n) (hf : ∀ i, i < n → f i < m) : ∀ i, i < n → g i < m := by
  intro i hi
  by_cases hx : a ≤ i ∧ i < b
  · obtain ⟨y, y1, y2, e⟩ := h.wi i hx.1 hx.2
    rw [e]
    exact hf y (by omega)
  · rw [h.out i hx]
    exact hf i hi
theorem Sorts.refl_one (L : Lt3 lt) (n : Nat) (f : Nat → α) {a b : Nat} (h : b ≤ a + 1) : Sorts lt n f f a b :=
  ⟨Move.refl _ _ _ _, fun _ h => h, fun p q h1 h2 h3 => by
    obtain rfl : p = q := by omega
    exact L.irr _⟩
theorem blk_le {q k : Nat} (bs : Nat) (h : q < k) : q * bs + bs ≤ k * bs := by
  have := Nat.mul_le_mul_right bs (Nat.succ_le_of_lt h)
  rwa [Nat.succ_mul] at this
/-- The first k runs are sorted. -/
def RunsTo (lt : α → α → Prop) (f : Nat → α) (n bs k : Nat) : Prop := ∀ q, q < k → SortedR lt f (q * bs) (min (q * bs + bs) n)
/-- All runs from the k-th on are sorted. -/
def RunsFrom (lt : α → α → Prop) (f : Nat → α) (n bs k : Nat) : Prop := ∀ q, k ≤ q → SortedR lt f (q * bs) (min (q * bs + bs) n)
theorem runs_step {f g : Nat → α} {n bs k b : Nat} (h : RunsTo lt f n bs k) (s : Sorts lt n f g (k * bs) b) (hb : min (k * bs + bs) n ≤ b) : RunsTo lt g n bs (k + 1) := by
  intro q hq
  by_cases hlt : q < k
  · have := blk_le bs hlt
    exact (h q hlt).keep fun x h1 h2 => s.mv.out x (by omega)
  · obtain rfl : q = k := by omega
    exact fun p r hp hpr hr => s.so p r hp hpr (by omega)
theorem runs_all {f : Nat → α} {n bs k : Nat} (h : RunsTo lt f n bs k) (hn : n ≤ k * bs) : RunsFrom lt f n bs 0 := by
  intro q _
  by_cases hlt : q < k
  · exact h q hlt
  · have : k * bs ≤ q * bs := Nat.mul_le_mul_right bs (by omega)
    intro p r hp hpr hr
    omega
theorem runs_off {f g : Nat → α} {n bs k : Nat} (h : RunsFrom lt f n bs (2 * k)) (s : Sorts lt n f g (k * (2 * bs)) ((k + 1) * (2 * bs))) : RunsFrom lt g n bs (2 * (k + 1)) := by
  intro q hq
  refine (h q (by omega)).keep fun x h1 h2 => s.mv.out x ?_
  have : (k + 1) * (2 * bs) ≤ q * bs := by
    have := Nat.mul_le_mul_right bs hq
    have e : 2 * (k + 1) * bs = (k + 1) * (2 * bs) := by rw [Nat.mul_comm 2 (k + 1), Nat.mul_assoc]
    omega
  omega
theorem runs_left {f : Nat → α} {n bs k : Nat} (h : RunsFrom lt f n bs (2 * k)) (hn : k * (2 * bs) + bs ≤ n) : SortedR lt f (k * (2 * bs)) (k * (2 * bs) + bs) := by
  have := h (2 * k) (Nat.le_refl _)
  have e : 2 * k * bs = k * (2 * bs) := by rw [Nat.mul_comm 2 k, Nat.mul_assoc]
  rw [e, Nat.min_eq_left hn] at this
  exact this
theorem runs_left_end {f : Nat → α} {n bs k : Nat} (h : RunsFrom lt f n bs (2 * k)) (hn : n ≤ k * (2 * bs) + bs) : SortedR lt f (k * (2 * bs)) n := by
  have := h (2 * k) (Nat.le_refl _)
  have e : 2 * k * bs = k * (2 * bs) := by rw [Nat.mul_comm 2 k, Nat.mul_assoc]
  rw [e, Nat.min_eq_right hn] at this
  exact this
theorem runs_right {f : Nat → α} {n bs k : Nat} (h : RunsFrom lt f n bs (2 * k)) : SortedR lt f (k * (2 * bs) + bs) (min (k * (2 * bs) + 2 * bs) n) := by
  have := h (2 * k + 1) (by omega)
  have e : (2 * k + 1) * bs = k * (2 * bs) + bs := by rw [Nat.add_mul, Nat.one_mul, Nat.mul_comm 2 k, Nat.mul_assoc]
  rw [e, show k * (2 * bs) + bs + bs = k * (2 * bs) + 2 * bs by omega] at this
  exact this
end

/-! ### A stable order of numbers -/
/-- Ahead, or alike and of the smaller number. -/
def Lx (lt : Nat → Nat → Prop) (x y : Nat) : Prop := lt x y ∨ (¬ lt y x ∧ x < y)
theorem Lx.asym {lt : Nat → Nat → Prop} (L : Lt3 lt) {x y : Nat} (h : Lx lt x y) : ¬ Lx lt y x := by
  rintro (k | ⟨k1, k2⟩)
  · rcases h with h | ⟨h1, h2⟩
    · exact L.asym h k
    · exact h1 k
  · rcases h with h | ⟨h1, h2⟩
    · exact k1 h
    · omega
theorem perm_eq {α : Type} {R : α → α → Prop} (hR : ∀ x y, R x y → ¬ R y x) : ∀ {a b : List α}, a.Pairwise R → b.Pairwise R → a.Perm b → a = b
  | [], b, _, _, h => (List.nil_perm.1 h).symm
  | x :: a, [], _, _, h => absurd (List.perm_nil.1 h) (by simp)
  | x :: a, y :: b, ha, hb, h => by
    have hxy : x = y := by
      have h1 : x ∈ y :: b := h.subset (by simp)
      have h2 : y ∈ x :: a := h.symm.subset (by simp)
      rcases List.mem_cons.1 h1 with h1 | h1
      · exact h1
      rcases List.mem_cons.1 h2 with h2 | h2
      · exact h2.symm
      exact absurd (List.rel_of_pairwise_cons hb h1) (hR _ _ (List.rel_of_pairwise_cons ha h2))
    subst hxy
    rw [perm_eq hR (List.Pairwise.of_cons ha) (List.Pairwise.of_cons hb) (List.Perm.cons_inv h)]
/-- What a stable sort makes of 0, 1, 2, ... -/
theorem stable_lx {lt : Nat → Nat → Prop} {n : Nat} {g : Nat → Nat} (k : Keeps lt n id g) (s : SortedR lt g 0 n) : ((List.range n).map g).Pairwise (Lx lt) ∧ ((List.range n).map g).Perm (List.range n) := by
  refine ⟨?_, by simpa [PermF] using k.mv.pm⟩
  rw [List.pairwise_map]
  refine List.Pairwise.imp_of_mem ?_ (List.pairwise_lt_range (n := n))
  intro p q hp hq hpq
  rw [List.mem_range] at hp hq
  have h1 := s p q (Nat.zero_le _) (by omega) hq
  by_cases h2 : lt (g p) (g q)
  · exact .inl h2
  · exact .inr ⟨h1, k.st (· < ·) (fun p q hpq _ _ _ => hpq) p q hpq hq h2 h1⟩
/-- One number more, put in at its place. -/
theorem ins_lx {lt : Nat → Nat → Prop} (L : Lt3 lt) {i a : Nat} {l : List Nat} (hl : l.Pairwise (Lx lt)) (hp : l.Perm (List.range i)) (ha : a ≤ l.length) (h0 : ∀ h : 0 < a, ¬ lt i (l[a - 1]'(by omega))) (h1 : ∀ j (hj : j < l.length), a ≤ j → lt i l[j]) :
    (l.take a ++ [i] ++ l.drop a).Pairwise (Lx lt) ∧ (l.take a ++ [i] ++ l.drop a).Perm (List.range (i + 1)) := by
  have hm : ∀ x ∈ l, x < i := fun x hx => by have := hp.subset hx; rwa [List.mem_range] at this
  constructor
  · rw [List.append_assoc, List.pairwise_append]
    refine ⟨hl.sublist (List.take_sublist _ _), ?_, ?_⟩
    · rw [List.singleton_append, List.pairwise_cons]
      refine ⟨fun y hy => ?_, hl.sublist (List.drop_sublist _ _)⟩
      obtain ⟨j, hj, rfl⟩ := List.getElem_of_mem hy
      rw [List.getElem_drop]
      exact .inl (h1 _ _ (by omega))
    · intro x hx y hy
      obtain ⟨j, hj, rfl⟩ := List.getElem_of_mem hx
      rw [List.getElem_take]
      rw [List.length_take] at hj
      have hji : j < a := by omega
      rcases List.mem_append.1 hy with hy | hy
      · obtain rfl := List.mem_singleton.1 hy
        have hq : ¬ lt y l[j] := by
          rcases Nat.lt_or_ge j (a - 1) with h | h
          · rcases List.pairwise_iff_getElem.1 hl j (a - 1) (by omega) (by omega) h with h2 | ⟨h2, _⟩
            · intro h3
              exact h0 (by omega) (L.tr _ _ _ h3 h2)
            · exact fun h3 => L.ntr _ _ _ (h0 (by omega)) h2 h3
          · obtain rfl : j = a - 1 := by omega
            exact h0 (by omega)
        by_cases h4 : lt l[j] y
        · exact .inl h4
        · exact .inr ⟨hq, hm _ (List.getElem_mem _)⟩
      · obtain ⟨k, hk, rfl⟩ := List.getElem_of_mem hy
        rw [List.getElem_drop]
        exact List.pairwise_iff_getElem.1 hl j (a + k) (by omega) (by rw [List.length_drop] at hk; omega) (by omega)
  · rw [List.range_succ]
    refine List.Perm.trans ?_ (hp.append_right [i])
    rw [List.append_assoc]
    refine (List.Perm.append_left (l.take a) (List.perm_append_comm (l₁ := [i]) (l₂ := l.drop a))).trans ?_
    rw [← List.append_assoc, List.take_append_drop]
end Go.Proofs.YtffjcojehiblnaaGreatDoor
