/- The plain law of a dict's calls over cells that say a dict: what each does. No program in sight. -/
import Derived.Test.YtjggcidaolnmbaaDt2
import Derived.Test.YtjggcidaolnmbaaS3
namespace Go.Proofs.Ytjggcidaolnmbaa
open Go.RowKit Go.Joins Go.ChangeShapes Go.WideShapes Go.Deep
set_option linter.unusedVariables false

/-- A look for k goes past slot q. -/
def Pass (cs : List Int) (q : Nat) (k : Int) : Prop := st cs q ≠ 0 ∧ ¬ (st cs q = 1 ∧ ky cs q = k)
/-- What a look leaves as it was. -/
structure Same (s s' : DS) : Prop where
  base : s'.base = s.base
  most : s'.most = s.most
  todo : s'.todo = s.todo
  k : s'.k = s.k
  v : s'.v = s.v
  call : s'.call = s.call
theorem Same.trans {a b c : DS} (h : Same a b) (k : Same b c) : Same a c := ⟨k.1.trans h.1, k.2.trans h.2, k.3.trans h.3, k.4.trans h.4, k.5.trans h.5, k.6.trans h.6⟩
structure FreeIs (m : Nat) (cs : List Int) (F j t : Nat) (s s' : DS) : Prop where
  kept : 0 ≤ s.free → s'.free = s.free
  none : s.free < 0 → s'.free < 0 → t = m ∧ ∀ u, j ≤ u → u < m → st cs ((F + u) % m) = 1
  some : s.free < 0 → 0 ≤ s'.free → ∃ u, j ≤ u ∧ u < m ∧ s'.free = ((F + u) % m : Nat) ∧ st cs ((F + u) % m) ≠ 1 ∧ (∀ v, j ≤ v → v < u → st cs ((F + v) % m) = 1)

def Hit (m : Nat) (cs : List Int) (F r j g : Nat) (s : DS) : Prop :=
  ∃ (t : Nat) (s' : DS) (g' : Nat), j ≤ t ∧ t < m ∧ st cs ((F + t) % m) = 1 ∧ ky cs ((F + t) % m) = s.k ∧ (∀ u, j ≤ u → u < t → Pass cs ((F + u) % m) s.k) ∧ r ≤ g' ∧ runR g cs (looksF s) = runR g' cs (keyF s' s.k) ∧ s'.slot = ((F + t) % m : Nat) ∧ Same s s'
def Miss (m : Nat) (cs : List Int) (F r j g : Nat) (s : DS) : Prop :=
  ∃ (t : Nat) (s' : DS) (g' : Nat), j ≤ t ∧ t ≤ m ∧ (t = m ∨ st cs ((F + t) % m) = 0) ∧ (∀ u, j ≤ u → u < t → Pass cs ((F + u) % m) s.k) ∧ r ≤ g' ∧ runR g cs (looksF s) = runR g' cs (lostF s') ∧ Same s s' ∧ FreeIs m cs F j t s s'

theorem looks_all (m : Nat) (cs : List Int) (hm16 : m ≤ 16) (hl : cs.length = 3 * m + 1) (r F : Nat) : ∀ (n j g : Nat) (s : DS), j + n = m → 2 * n + r ≤ g → s.base = 0 → s.most = m → s.todo = [] → (0 < n → s.slot = ((F + j) % m : Nat)) → s.seen = j →
    Hit m cs F r j g s ∨ Miss m cs F r j g s := by
  intro n
  induction n with
  | zero =>
    intro j g s hj hg hb hmo ht hs hse
    refine .inr ⟨j, s, g, Nat.le_refl _, by omega, .inl (by omega), fun u h1 h2 => by omega, by omega, ?_, ⟨rfl, rfl, rfl, rfl, rfl, rfl⟩, ⟨fun _ => rfl, fun _ _ => ⟨by omega, fun u h1 h2 => by omega⟩, fun h1 h2 => by omega⟩⟩
    unfold looksF
    rw [if_pos (by rw [hse, hmo]; omega)]
  | succ n ih =>
    intro j g s hj hg hb hmo ht hs hse
    have hs := hs (by omega)
    obtain ⟨p, hp⟩ : ∃ p, p = (F + j) % m := ⟨_, rfl⟩
    rw [← hp] at hs
    have hpm : p < m := by rw [hp]; exact Nat.mod_lt _ (by omega)
    obtain ⟨g, rfl⟩ : ∃ g1, g = g1 + 2 := ⟨g - 2, by omega⟩
    have e1 : looksF s = readF s ((1 + 3 * p : Nat) : Int) .state := by
      unfold looksF
      rw [if_neg (by rw [hse, hmo]; omega), hs]
      congr 1
    have hnext : ∀ s1 : DS, s1.slot = s.slot → s1.most = s.most → 0 < n → (s1.slot + 1) % s1.most = ((F + (j + 1)) % m : Nat) := by
      intro s1 h1 h2 _
      rw [h1, h2, hs, hmo, hp]
      have h : (((F + j) % m) + 1) % m = (F + (j + 1)) % m := by rw [Nat.mod_add_mod, Nat.add_assoc]
      rw [← h]
      norm_cast
    have hgo : ∀ (g1 : Nat) (s1 : DS), 2 * n + r ≤ g1 → s1.slot = s.slot → s1.seen = s.seen → Same s s1 → runR (g + 2) cs (looksF s) = runR g1 cs (goesF s1) → Pass cs p s.k →
        (0 ≤ s.free → s1.free = s.free) → (s.free < 0 → st cs p = 1 → s1.free = s.free) → (s.free < 0 → st cs p ≠ 1 → s1.free = (p : Nat)) → Hit m cs F r j (g + 2) s ∨ Miss m cs F r j (g + 2) s := by
      intro g1 s1 hg1 hsl hsn hsame hrun hpass hf1 hf2 hf3
      have hlow : ∀ {t : Nat}, (∀ u, j + 1 ≤ u → u < t → Pass cs ((F + u) % m) s.k) → ∀ u, j ≤ u → u < t → Pass cs ((F + u) % m) s.k := by
        intro t h u h1 h2
        by_cases hu : u = j
        · subst hu; rw [← hp]; exact hpass
        · exact h u (by omega) h2
      obtain ⟨s2, hs2⟩ : ∃ s2 : DS, s2 = { s1 with seen := s1.seen + 1, slot := (s1.slot + 1) % s1.most } := ⟨_, rfl⟩
      have hgs : goesF s1 = looksF s2 := by rw [hs2]; rfl
      have hsame2 : Same s1 s2 := by rw [hs2]; exact ⟨rfl, rfl, rfl, rfl, rfl, rfl⟩
      have hfree2 : s2.free = s1.free := by rw [hs2]
      have hall := hsame.trans hsame2
      rw [hgs] at hrun
      rcases ih (j + 1) g1 s2 (by omega) hg1 (by rw [hall.base, hb]) (by rw [hall.most, hmo]) (by rw [hall.todo, ht]) (fun h0 => by rw [hs2]; exact hnext s1 hsl hsame.most h0) (by rw [hs2]; show s1.seen + 1 = _; rw [hsn, hse]; norm_cast) with
        ⟨t, s', g', a1, a2, a3, a4, a5, a6, a7, a8, a9⟩ | ⟨t, s', g', a1, a2, a3, a5, a6, a7, a8, a9⟩
      · rw [hall.k] at a4 a5 a7
        exact .inl ⟨t, s', g', by omega, a2, a3, a4, hlow a5, a6, hrun.trans a7, a8, hall.trans a9⟩
      · rw [hall.k] at a5
        refine .inr ⟨t, s', g', by omega, a2, a3, hlow a5, a6, hrun.trans a7, hall.trans a8, ⟨?_, ?_, ?_⟩⟩
        · intro h
          rw [a9.kept (by rw [hfree2, hf1 h]; exact h), hfree2, hf1 h]
        · intro h h2
          by_cases h1 : st cs p = 1
          · obtain ⟨b1, b2⟩ := a9.none (by rw [hfree2, hf2 h h1]; exact h) h2
            refine ⟨b1, fun u hu hum => ?_⟩
            by_cases he : u = j
            · subst he; rw [← hp]; exact h1
            · exact b2 u (by omega) hum
          · have := a9.kept (by rw [hfree2, hf3 h h1]; omega)
            rw [hfree2, hf3 h h1] at this
            omega
        · intro h h2
          by_cases h1 : st cs p = 1
          · obtain ⟨u, b1, b2, b3, b4, b5⟩ := a9.some (by rw [hfree2, hf2 h h1]; exact h) h2
            refine ⟨u, by omega, b2, b3, b4, fun v hv hvu => ?_⟩
            by_cases he : v = j
            · subst he; rw [← hp]; exact h1
            · exact b5 v (by omega) hvu
          · have := a9.kept (by rw [hfree2, hf3 h h1]; omega)
            rw [hfree2, hf3 h h1] at this
            exact ⟨j, Nat.le_refl _, by omega, by rw [← hp]; exact this, by rw [← hp]; exact h1, fun v h3 h4 => by omega⟩
    have er : runR (g + 2) cs (looksF s) = runR (g + 1) cs (stateF { s with thn := .state } (st cs p)) := by
      rw [e1, runR_read _ _ _ _ _ hb (by omega) (by omega), runF_thn _ _ _ _ _ ht]
      rfl
    by_cases hst1 : st cs p = 1
    · have e2 : stateF { s with thn := .state } (st cs p) = readF { s with thn := .state } ((1 + 3 * p + 1 : Nat) : Int) .key := by
        unfold stateF
        rw [if_pos hst1]
        show readF _ (1 + 3 * s.slot + 1) _ = _
        rw [hs]
        congr 1
      have er2 : runR (g + 2) cs (looksF s) = runR g cs (keyF { s with thn := .key } (ky cs p)) := by
        rw [er, e2, runR_read _ _ { s with thn := .state } _ _ hb (by omega) (by omega), runF_thn _ _ { s with thn := .state } _ _ ht]
        rfl
      by_cases hk : ky cs p = s.k
      · refine .inl ⟨j, { s with thn := .key }, g, Nat.le_refl _, by omega, by rw [← hp]; exact hst1, by rw [← hp]; exact hk, fun u h1 h2 => by omega, by omega, ?_, by rw [← hp]; exact hs, ⟨rfl, rfl, rfl, rfl, rfl, rfl⟩⟩
        rw [er2, hk]
      · refine hgo g { s with thn := .key } (by omega) rfl rfl ⟨rfl, rfl, rfl, rfl, rfl, rfl⟩ ?_ ⟨by omega, fun h => hk h.2⟩ (fun _ => rfl) (fun _ _ => rfl) (fun _ h => absurd hst1 h)
        rw [er2]
        unfold keyF
        rw [if_neg hk]
    · have hfr : (freed { s with thn := .state } (st cs p)) = { s with thn := .state, free := if s.free < 0 then s.slot else s.free } := by
        unfold freed
        by_cases h : s.free < 0
        · rw [if_pos ⟨hst1, h⟩, if_pos h]
        · rw [if_neg (fun hh => h hh.2), if_neg h]
      by_cases hst0 : st cs p = 0
      · have e2 : stateF { s with thn := .state } (st cs p) = lostF { s with thn := .state, free := if s.free < 0 then s.slot else s.free } := by
          rw [← hfr]
          unfold stateF
          rw [if_neg hst1, if_pos hst0]
        refine .inr ⟨j, { s with thn := .state, free := if s.free < 0 then s.slot else s.free }, g + 1, Nat.le_refl _, by omega, .inr (by rw [← hp]; exact hst0), fun u h1 h2 => by omega, by omega, er.trans (by rw [e2]), ⟨rfl, rfl, rfl, rfl, rfl, rfl⟩, ⟨?_, ?_, ?_⟩⟩
        · intro h
          show (if s.free < 0 then s.slot else s.free) = _
          rw [if_neg (by omega)]
        · intro h h2
          have h2' : (if s.free < 0 then s.slot else s.free) < 0 := h2
          rw [if_pos h] at h2'
          omega
        · intro h h2
          refine ⟨j, Nat.le_refl _, by omega, ?_, by rw [← hp]; exact hst1, fun v h3 h4 => by omega⟩
          show (if s.free < 0 then s.slot else s.free) = _
          rw [if_pos h, ← hp]
          exact hs
      · have e2 : stateF { s with thn := .state } (st cs p) = goesF { s with thn := .state, free := if s.free < 0 then s.slot else s.free } := by
          rw [← hfr]
          unfold stateF
          rw [if_neg hst1, if_neg hst0]
        refine hgo (g + 1) { s with thn := .state, free := if s.free < 0 then s.slot else s.free } (by omega) rfl rfl ⟨rfl, rfl, rfl, rfl, rfl, rfl⟩ (er.trans (by rw [e2])) ⟨hst0, fun h => hst1 h.1⟩ ?_ (fun _ h => absurd h hst1) ?_
        · intro h
          show (if s.free < 0 then s.slot else s.free) = _
          rw [if_neg (by omega)]
        · intro h _
          show (if s.free < 0 then s.slot else s.free) = _
          rw [if_pos h, hs]

theorem fnd_iff (m : Nat) (cs : List Int) (key : Int) (slot F : Nat) : ∀ (f k : Nat), fnd m cs key slot F f k = true ↔ ∃ t, k ≤ t ∧ t < k + f ∧ (F + t) % m = slot ∧ st cs slot = 1 ∧ ky cs slot = key ∧ ∀ u, k ≤ u → u < t → Pass cs ((F + u) % m) key
  | 0, k => by
    constructor
    · intro h; cases h
    · rintro ⟨t, h1, h2, _⟩; omega
  | f + 1, k => by
    rw [fnd_succ]
    by_cases h0 : st cs ((F + k) % m) = 0
    · rw [if_pos h0]
      constructor
      · intro h; cases h
      · rintro ⟨t, h1, h2, h3, h4, h5, h6⟩
        exfalso
        by_cases ht : t = k
        · subst ht; rw [h3] at h0; omega
        · exact (h6 k (Nat.le_refl _) (by omega)).1 h0
    · rw [if_neg h0]
      by_cases h1 : st cs ((F + k) % m) = 1 ∧ ky cs ((F + k) % m) = key
      · rw [if_pos h1]
        constructor
        · intro h
          have e := of_decide_eq_true h
          rw [e] at h1
          exact ⟨k, Nat.le_refl _, by omega, e, h1.1, h1.2, fun u h2 h3 => by omega⟩
        · rintro ⟨t, h2, h3, h4, h5, h6, h7⟩
          apply decide_eq_true
          by_cases ht : t = k
          · subst ht; exact h4
          · exact absurd h1 (h7 k (Nat.le_refl _) (by omega)).2
      · rw [if_neg h1, fnd_iff m cs key slot F f (k + 1)]
        constructor
        · rintro ⟨t, h2, h3, h4, h5, h6, h7⟩
          refine ⟨t, by omega, by omega, h4, h5, h6, fun u h8 h9 => ?_⟩
          by_cases hu : u = k
          · subst hu; exact ⟨h0, h1⟩
          · exact h7 u (by omega) h9
        · rintro ⟨t, h2, h3, h4, h5, h6, h7⟩
          refine ⟨t, ?_, by omega, h4, h5, h6, fun u h8 h9 => h7 u (by omega) h9⟩
          by_cases ht : t = k
          · subst ht; rw [h4] at h1; exact absurd ⟨h5, h6⟩ h1
          · omega
theorem reach_iff (m : Nat) (cs : List Int) (q : Nat) : reachF m cs q = true ↔ ∃ t, t < m ∧ ((firstI (ky cs q) m).toNat + t) % m = q ∧ st cs q = 1 ∧ ∀ u, u < t → Pass cs (((firstI (ky cs q) m).toNat + u) % m) (ky cs q) := by
  unfold reachF
  rw [fnd_iff]
  constructor
  · rintro ⟨t, h1, h2, h3, h4, h5, h6⟩
    exact ⟨t, by omega, h3, h4, fun u h => h6 u (Nat.zero_le _) h⟩
  · rintro ⟨t, h2, h3, h4, h6⟩
    exact ⟨t, Nat.zero_le _, by omega, h3, h4, rfl, fun u _ h => h6 u h⟩

/-- Cells that say a dict (its slots). -/
structure Tab (m : Nat) (cs : List Int) : Prop where
  len : cs.length = 3 * m + 1
  le : m ≤ 16
  reach : ∀ q, q < m → st cs q = 1 → reachF m cs q = true

theorem runs_first (m : Nat) (cs : List Int) (h : Tab m cs) (call k v : Int) (args : List Int) (ha : args = [k] ∨ args = [k, v]) (hc : call ≠ 5) :
    ∃ s0 : DS, s0.k = k ∧ (args = [k, v] → s0.v = v) ∧ s0.call = call ∧ s0.base = 0 ∧ s0.most = m ∧ s0.todo = [] ∧ s0.free = -1 ∧ runF 0 (2 * m + 6) cs (startF 0 m call args) 0 = runR (2 * m + 5) cs (looksF s0) ∧
      (Hit m cs (firstI k m).toNat 5 0 (2 * m + 5) s0 ∨ Miss m cs (firstI k m).toNat 5 0 (2 * m + 5) s0) := by
  have hlen := h.len
  have hm := h.le
  have key : ∀ s0 : DS, s0.base = 0 → s0.most = m → s0.todo = [] → s0.call = call → s0.thn = .begin → s0.slot = firstI k m → s0.seen = 0 → s0.k = k → s0.free = -1 → runF 0 (2 * m + 6) cs s0 0 = runR (2 * m + 5) cs (looksF s0) ∧
      (Hit m cs (firstI k m).toNat 5 0 (2 * m + 5) s0 ∨ Miss m cs (firstI k m).toNat 5 0 (2 * m + 5) s0) := by
    intro s0 h1 h2 h3 h4 h5 h6 h7 h8 h9
    constructor
    · rw [runF_then _ _ _ _ h3]
      unfold thenF
      rw [h5]
      simp only
      unfold beginF
      rw [if_neg (by omega)]
    · refine looks_all m cs hm hlen 5 _ m 0 _ s0 (by omega) (Nat.le_refl _) h1 h2 h3 (fun hm0 => ?_) h7
      obtain ⟨f0, f1, f2⟩ := firstI_bd k m (by omega) (by omega)
      rw [h6, Nat.add_zero, Nat.mod_eq_of_lt (by omega)]
      omega
  rcases ha with rfl | rfl
  · exact ⟨startF 0 m call [k], rfl, fun h => (by simp at h), rfl, rfl, rfl, rfl, rfl, key _ rfl rfl rfl rfl rfl rfl rfl rfl rfl⟩
  · exact ⟨startF 0 m call [k, v], rfl, fun h => rfl, rfl, rfl, rfl, rfl, rfl, key _ rfl rfl rfl rfl rfl rfl rfl rfl rfl⟩

/-- A look for a key that is there ends at its slot. -/
theorem runs_hit (m : Nat) (cs : List Int) (h : Tab m cs) (call k v : Int) (args : List Int) (ha : args = [k] ∨ args = [k, v]) (hc : call ≠ 5) {q : Nat} (hq : q < m) (hq1 : st cs q = 1) (hqk : ky cs q = k) :
    ∃ (s' : DS) (g' : Nat), s'.k = k ∧ (args = [k, v] → s'.v = v) ∧ s'.call = call ∧ s'.base = 0 ∧ s'.todo = [] ∧ s'.slot = q ∧ runF 0 (2 * m + 6) cs (startF 0 m call args) 0 = runR (g' + 5) cs (keyF s' k) := by
  obtain ⟨s0, b1, b2, b3, b4, b5, b6, b7, b8, hh | hh⟩ := runs_first m cs h call k v args ha hc
  · obtain ⟨t, s', g', a1, a2, a3, a4, a5, a6, a7, a8, a9⟩ := hh
    obtain ⟨g', rfl⟩ : ∃ x, g' = x + 5 := ⟨g' - 5, by omega⟩
    rw [b1] at a4 a7
    have hp : (((firstI k m).toNat + t) % m) < m := Nat.mod_lt _ (by omega)
    have e : ((firstI k m).toNat + t) % m = q := reach_inj m cs _ _ (h.reach _ hp a3) (h.reach _ hq hq1) (a4.trans hqk.symm)
    exact ⟨s', g', by rw [a9.k, b1], fun he => by rw [a9.v, b2 he], by rw [a9.call, b3], by rw [a9.base, b4], by rw [a9.todo, b6], by rw [a8, e], by rw [b8, a7]⟩
  · exfalso
    obtain ⟨t, s', g', a1, a2, a3, a5, a6, a7, a8, a9⟩ := hh
    obtain ⟨t', c1, c2, c3, c4⟩ := (reach_iff m cs q).1 (h.reach q hq hq1)
    rw [hqk] at c2 c4
    rw [b1] at a5
    rcases Nat.lt_or_ge t' t with hlt | hge
    · have := (a5 t' (Nat.zero_le _) hlt).2
      rw [c2] at this
      exact this ⟨hq1, hqk⟩
    · rcases a3 with rfl | h0
      · omega
      · by_cases he : t = t'
        · subst he; rw [c2] at h0; omega
        · exact (c4 t (by omega)).1 h0
/-- A look for a key that isn't there. -/
theorem runs_miss (m : Nat) (cs : List Int) (h : Tab m cs) (call k v : Int) (args : List Int) (ha : args = [k] ∨ args = [k, v]) (hc : call ≠ 5) (hno : ∀ q, q < m → st cs q = 1 → ky cs q ≠ k) :
    ∃ (s' : DS) (g' t : Nat), s'.k = k ∧ (args = [k, v] → s'.v = v) ∧ s'.call = call ∧ s'.base = 0 ∧ s'.most = m ∧ s'.todo = [] ∧ runF 0 (2 * m + 6) cs (startF 0 m call args) 0 = runR (g' + 5) cs (lostF s') ∧
      (s'.free < 0 → ∀ q, q < m → st cs q = 1) ∧ (0 ≤ s'.free → ∃ u, u < m ∧ s'.free = (((firstI k m).toNat + u) % m : Nat) ∧ st cs (((firstI k m).toNat + u) % m) ≠ 1 ∧ ∀ v, v < u → st cs (((firstI k m).toNat + v) % m) = 1) := by
  obtain ⟨s0, b1, b2, b3, b4, b5, b6, b7, b8, hh | hh⟩ := runs_first m cs h call k v args ha hc
  · exfalso
    obtain ⟨t, s', g', a1, a2, a3, a4, a5, a6, a7, a8, a9⟩ := hh
    exact hno _ (Nat.mod_lt _ (by omega)) a3 (a4.trans b1)
  · obtain ⟨t, s', g', a1, a2, a3, a5, a6, a7, a8, a9⟩ := hh
    obtain ⟨g', rfl⟩ : ∃ x, g' = x + 5 := ⟨g' - 5, by omega⟩
    refine ⟨s', g', t, by rw [a8.k, b1], fun he => by rw [a8.v, b2 he], by rw [a8.call, b3], by rw [a8.base, b4], by rw [a8.most, b5], by rw [a8.todo, b6], by rw [b8, a7], ?_, ?_⟩
    · intro hf q hq
      obtain ⟨_, c⟩ := a9.none (by omega) hf
      have hF : (firstI k m).toNat < m := by
        obtain ⟨f0, f1, f2⟩ := firstI_bd k m (by omega) (by have := h.le; omega)
        omega
      have := c ((q + (m - (firstI k m).toNat)) % m) (Nat.zero_le _) (Nat.mod_lt _ (by omega))
      rw [Nat.add_mod_mod] at this
      have e : ((firstI k m).toNat + (q + (m - (firstI k m).toNat))) % m = q := by
        rw [show (firstI k m).toNat + (q + (m - (firstI k m).toNat)) = q + m by omega, Nat.add_mod_right, Nat.mod_eq_of_lt hq]
      rw [e] at this
      exact this
    · intro hf
      obtain ⟨u, _, c2, c3, c4, c5⟩ := a9.some (by omega) hf
      exact ⟨u, c2, c3, c4, fun v hv => c5 v (Nat.zero_le _) hv⟩
end Go.Proofs.Ytjggcidaolnmbaa
