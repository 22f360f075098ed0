/- The plain law of dict calls that are run over a list of cells: a key that comes, a key that goes, and how many keys there is room for. No program in sight. -/
import Derived.Test.YtjggcidaolnmbaaDw8
namespace Go.Proofs.Ytjggcidaolnmbaa
open Go.RowKit Go.Joins Go.ChangeShapes Go.WideShapes Go.Deep
set_option linter.unusedVariables false

theorem wrap64_id {x : Int} (h0 : -9223372036854775808 ≤ x) (h1 : x ≤ 9223372036854775807) : wrap64 x = x := by unfold wrap64; omega

/-- A machine that is handed v, run on over cells, for so many wants at most. -/
def runF (base : Int) : Nat → List Int → DS → Int → (Int × Int × Bool) × List Int
  | 0, cs, _, _ => ((0, 0, false), cs)
  | g + 1, cs, s, v =>
    let r := nextF s v
    if r.1.kind = 6 then ((r.1.value, r.1.code, true), cs)
    else if r.1.cell < base ∨ (cs.length : Int) ≤ r.1.cell then ((0, 0, false), cs)
    else if r.1.kind = 2 then runF base g cs r.2 (cs.getD r.1.cell.toNat 0)
    else runF base g (cs.set r.1.cell.toNat r.1.value) r.2 0
/-- What a want does, and what comes behind it. -/
def runR (g : Nat) (cs : List Int) (r : Want × DS) : (Int × Int × Bool) × List Int :=
  if r.1.kind = 6 then ((r.1.value, r.1.code, true), cs)
  else if r.1.cell < 0 ∨ (cs.length : Int) ≤ r.1.cell then ((0, 0, false), cs)
  else if r.1.kind = 2 then runF 0 g cs r.2 (cs.getD r.1.cell.toNat 0)
  else runF 0 g (cs.set r.1.cell.toNat r.1.value) r.2 0
theorem runF_succ (g : Nat) (cs : List Int) (s : DS) (v : Int) : runF 0 (g + 1) cs s v = runR g cs (nextF s v) := rfl
theorem runF_then (g : Nat) (cs : List Int) (s : DS) (v : Int) (h : s.todo = []) : runF 0 (g + 1) cs s v = runR g cs (thenF s v) := by
  rw [runF_succ]; simp [nextF, h]
/-- The same, the state as it stands. -/
theorem runF_thn (g : Nat) (cs : List Int) (s : DS) (t : Thn) (v : Int) (h : s.todo = []) : runF 0 (g + 1) cs { s with thn := t } v = runR g cs (thenF { s with thn := t } v) := runF_then g cs _ v h
theorem runR_read (g : Nat) (cs : List Int) (s : DS) (c : Nat) (t : Thn) (hb : s.base = 0) (hc : c < cs.length) (hl : cs.length ≤ 1000) :
    runR g cs (readF s c t) = runF 0 g cs { s with thn := t } (cs.getD c 0) := by
  have e : wrap64 (s.base + (c : Int)) = c := by rw [hb]; rw [wrap64_id] <;> omega
  unfold runR readF
  simp only [e]
  rw [if_neg (by omega), if_neg (by omega), Int.toNat_natCast]
  exact if_pos trivial
theorem runR_done (g : Nat) (cs : List Int) (s : DS) (v code : Int) : runR g cs (doneF s v code) = ((v, code, true), cs) := by
  simp [runR, doneF]
theorem runR_writes (g : Nat) (cs : List Int) (s : DS) (k c : Nat) (z u : Int) (l : List Want) (hb : s.base = 0) (hc : c < cs.length) (hl : cs.length ≤ 1000) :
    runR g cs (writesF s ⟨k, c, z, u⟩ l) = runF 0 g (cs.set c z) { s with todo := l.map (put 0) } 0 := by
  have e : wrap64 ((c : Int) + s.base) = c := by rw [hb]; rw [wrap64_id] <;> omega
  unfold runR writesF
  simp only [put, e]
  rw [if_neg (by omega), if_neg (by omega), if_neg (by omega), Int.toNat_natCast, hb]
theorem runF_todo (g : Nat) (cs : List Int) (s : DS) (k c : Nat) (z u v : Int) (l : List Want) (hc : c < cs.length) (hl : cs.length ≤ 1000) (h : s.todo = put 0 ⟨k, c, z, u⟩ :: l) :
    runF 0 (g + 1) cs s v = runF 0 g (cs.set c z) { s with todo := l } 0 := by
  have e : wrap64 ((c : Int) + 0) = c := by rw [wrap64_id] <;> omega
  rw [runF_succ]
  unfold runR nextF
  rw [h]
  simp only [put, e]
  rw [if_neg (by omega), if_neg (by omega), if_neg (by omega), Int.toNat_natCast]

/-! ### The table -/
def st (cs : List Int) (i : Nat) : Int := cs.getD (1 + 3 * i) 0
def ky (cs : List Int) (i : Nat) : Int := cs.getD (1 + 3 * i + 1) 0
def vl (cs : List Int) (i : Nat) : Int := cs.getD (1 + 3 * i + 2) 0
def cnt (cs : List Int) : Int := cs.getD 0 0

/-- A look for a key that isn't there. -/
theorem looks_run (m : Nat) (cs : List Int) (hm : 1 ≤ m) (hm16 : m ≤ 16) (hl : cs.length = 3 * m + 1) (r : Nat) : ∀ (j g i : Nat) (s : DS), j ≤ m → 2 * j + r ≤ g → i < m → s.base = 0 → s.most = m → s.todo = [] → s.slot = i → s.seen = (m : Int) - j →
    (∀ q, q < m → st cs q = 1 → ky cs q ≠ s.k) →
    ∃ g' s', r ≤ g' ∧ runR g cs (looksF s) = runR g' cs (lostF s') ∧ s'.base = 0 ∧ s'.most = m ∧ s'.todo = [] ∧ s'.k = s.k ∧ s'.v = s.v ∧ s'.call = s.call ∧
      (0 ≤ s.free → s'.free = s.free) ∧ (s.free < 0 → s'.free < 0 → ∀ t, t < j → st cs ((i + t) % m) = 1) ∧ (s.free < 0 → 0 ≤ s'.free → ∃ q : Nat, s'.free = q ∧ q < m ∧ st cs q ≠ 1) ∧ (s.free < 0 → 0 < j → st cs i ≠ 1 → s'.free = i) := by
  intro j
  induction j with
  | zero =>
    intro g i s hj hg hi hb hmo ht hs hse hno
    refine ⟨g, s, by omega, ?_, hb, hmo, ht, rfl, rfl, rfl, fun _ => rfl, fun _ _ t ht => by omega, fun h1 h2 => by omega, fun _ h _ => by omega⟩
    unfold looksF
    rw [if_pos (by rw [hse, hmo]; omega)]
  | succ j ih =>
    intro g i s hj hg hi hb hmo ht hs hse hno
    obtain ⟨g, rfl⟩ : ∃ g1, g = g1 + 2 := ⟨g - 2, by omega⟩
    have e1 : looksF s = readF s ((1 + 3 * i : Nat) : Int) .state := by
      unfold looksF
      rw [if_neg (by rw [hse, hmo]; omega), hs]
      congr 1
    rw [e1, runR_read _ _ _ _ _ hb (by omega) (by omega), runF_thn _ _ _ _ _ ht]
    show ∃ g' s', r ≤ g' ∧ runR (g + 1) cs (stateF { s with thn := .state } (st cs i)) = _ ∧ _
    have hgoes : ∀ (g1 : Nat) (s1 : DS), 2 * j + r ≤ g1 → s1.base = 0 → s1.most = m → s1.todo = [] → s1.slot = i → s1.seen = (m : Int) - (j + 1 : Nat) → s1.k = s.k → s1.v = s.v → s1.call = s.call →
        ∃ g' s', r ≤ g' ∧ runR g1 cs (goesF s1) = runR g' cs (lostF s') ∧ s'.base = 0 ∧ s'.most = m ∧ s'.todo = [] ∧ s'.k = s.k ∧ s'.v = s.v ∧ s'.call = s.call ∧
          (0 ≤ s1.free → s'.free = s1.free) ∧ (s1.free < 0 → s'.free < 0 → ∀ t, t < j → st cs (((i + 1) % m + t) % m) = 1) ∧ (s1.free < 0 → 0 ≤ s'.free → ∃ q : Nat, s'.free = q ∧ q < m ∧ st cs q ≠ 1) := by
      intro g1 s1 h1 h2 h3 h4 h5 h6 h7 h8 h9
      obtain ⟨g', s', a1, a2, a3, a4, a5, a6, a7, a8, a9, a10, a11, _⟩ := ih g1 ((i + 1) % m) { s1 with seen := s1.seen + 1, slot := (s1.slot + 1) % s1.most } (by omega) h1 (Nat.mod_lt _ (by omega)) h2 h3 h4
        (by show (s1.slot + 1) % s1.most = _; rw [h5, h3]; norm_cast) (by show s1.seen + 1 = _; omega) (by intro q hq hq1; show _ ≠ s1.k; rw [h7]; exact hno q hq hq1)
      exact ⟨g', s', a1, a2, a3, a4, a5, a6.trans h7, a7.trans h8, a8.trans h9, a9, a10, a11⟩
    have hmod : ∀ t, ((i + 1) % m + t) % m = (i + (t + 1)) % m := by
      intro t
      rw [Nat.mod_add_mod]
      congr 1
      omega
    by_cases hst1 : st cs i = 1
    · have e2 : stateF { s with thn := .state } (st cs i) = readF { s with thn := .state } ((1 + 3 * i + 1 : Nat) : Int) .key := by
        unfold stateF
        rw [if_pos hst1]
        show readF _ (1 + 3 * s.slot + 1) _ = _
        rw [hs]
        congr 1
      rw [e2, runR_read _ _ { s with thn := .state } _ _ hb (by omega) (by omega), runF_thn _ _ { s with thn := .state } _ _ ht]
      have e3 : thenF { { s with thn := .state } with thn := .key } (cs.getD (1 + 3 * i + 1) 0) = goesF { s with thn := .key } := by
        show keyF { s with thn := .key } (ky cs i) = _
        unfold keyF
        rw [if_neg (hno i hi hst1)]
      rw [e3]
      obtain ⟨g', s', a1, a2, a3, a4, a5, a6, a7, a8, a9, a10, a11⟩ := hgoes g { s with thn := .key } (by omega) hb hmo ht hs hse rfl rfl rfl
      refine ⟨g', s', a1, a2, a3, a4, a5, a6, a7, a8, a9, ?_, a11, fun _ _ h => absurd hst1 h⟩
      intro h1 h2 t ht
      rcases t with _ | t
      · rw [Nat.add_zero, Nat.mod_eq_of_lt hi]
        exact hst1
      · rw [← hmod]
        exact a10 h1 h2 t (by omega)
    · have hfr : (freed { s with thn := .state } (st cs i)) = { s with thn := .state, free := if s.free < 0 then s.slot else s.free } := by
        unfold freed
        by_cases h : s.free < 0
        · rw [if_pos ⟨hst1, h⟩, if_pos h]
        · rw [if_neg (fun hh => h hh.2), if_neg h]
      by_cases hst0 : st cs i = 0
      · have e2 : stateF { s with thn := .state } (st cs i) = lostF { s with thn := .state, free := if s.free < 0 then s.slot else s.free } := by
          rw [← hfr]
          unfold stateF
          rw [if_neg hst1, if_pos hst0]
        rw [e2]
        refine ⟨g + 1, _, by omega, rfl, hb, hmo, ht, rfl, rfl, rfl, ?_, ?_, ?_, ?_⟩
        · intro h
          show (if s.free < 0 then s.slot else s.free) = _
          rw [if_neg (by omega)]
        · intro h h2
          have h2' : (if s.free < 0 then s.slot else s.free) < 0 := h2
          rw [if_pos h] at h2'
          omega
        · intro h h2
          exact ⟨i, by show (if s.free < 0 then s.slot else s.free) = _; rw [if_pos h, hs], hi, hst1⟩
        · intro h _ _
          show (if s.free < 0 then s.slot else s.free) = _
          rw [if_pos h, hs]
      · have e2 : stateF { s with thn := .state } (st cs i) = goesF { s with thn := .state, free := if s.free < 0 then s.slot else s.free } := by
          rw [← hfr]
          unfold stateF
          rw [if_neg hst1, if_neg hst0]
        rw [e2]
        obtain ⟨g', s', a1, a2, a3, a4, a5, a6, a7, a8, a9, a10, a11⟩ := hgoes (g + 1) { s with thn := .state, free := if s.free < 0 then s.slot else s.free } (by omega) hb hmo ht hs hse rfl rfl rfl
        refine ⟨g', s', a1, a2, a3, a4, a5, a6, a7, a8, ?_, ?_, ?_, ?_⟩
        · intro h
          have := a9 (by show 0 ≤ (if s.free < 0 then s.slot else s.free); rw [if_neg (by omega)]; exact h)
          rw [this]
          show (if s.free < 0 then s.slot else s.free) = _
          rw [if_neg (by omega)]
        · intro h h2
          have h3 : (if s.free < 0 then s.slot else s.free) = i := by rw [if_pos h, hs]
          have := a9 (by show 0 ≤ (if s.free < 0 then s.slot else s.free); omega)
          have h4 : s'.free = (if s.free < 0 then s.slot else s.free) := this
          omega
        · intro h h2
          have h3 : (if s.free < 0 then s.slot else s.free) = i := by rw [if_pos h, hs]
          have := a9 (by show 0 ≤ (if s.free < 0 then s.slot else s.free); omega)
          have h4 : s'.free = (if s.free < 0 then s.slot else s.free) := this
          exact ⟨i, by omega, hi, hst1⟩
        · intro h _ _
          have h3 : (if s.free < 0 then s.slot else s.free) = i := by rw [if_pos h, hs]
          have := a9 (by show 0 ≤ (if s.free < 0 then s.slot else s.free); omega)
          have h4 : s'.free = (if s.free < 0 then s.slot else s.free) := this
          omega

/-- What a key that comes makes of the cells. -/
def put3 (cs : List Int) (q : Nat) (k v : Int) : List Int := (((cs.set (1 + 3 * q) 1).set (1 + 3 * q + 1) k).set (1 + 3 * q + 2) v).set 0 (cnt cs + 1)
/-- What a key that goes makes of them. -/
def del2 (cs : List Int) (q : Nat) : List Int := (cs.set (1 + 3 * q) 2).set 0 (cnt cs - 1)

theorem put_run (m : Nat) (cs : List Int) (hm : 1 ≤ m) (hm16 : m ≤ 16) (hl : cs.length = 3 * m + 1) (k v : Int) (hc0 : 0 ≤ cnt cs) (hc1 : cnt cs ≤ 16) (hno : ∀ q, q < m → st cs q = 1 → ky cs q ≠ k) :
    ((m : Int) ≤ cnt cs → runF 0 (2 * m + 6) cs (startF 0 m 3 [k, v]) 0 = ((0, 2, true), cs)) ∧
    (cnt cs < m → (∃ q, q < m ∧ st cs q ≠ 1) → ∃ q, q < m ∧ st cs q ≠ 1 ∧ (st cs (firstI k m).toNat ≠ 1 → q = (firstI k m).toNat) ∧ runF 0 (2 * m + 6) cs (startF 0 m 3 [k, v]) 0 = ((0, 0, true), put3 cs q k v)) := by
  obtain ⟨f0, f1, f2⟩ := firstI_bd k m (by omega) (by omega)
  obtain ⟨i, hi⟩ : ∃ i : Nat, firstI k m = i := ⟨(firstI k m).toNat, by omega⟩
  have him : i < m := by omega
  have e0 : runF 0 (2 * m + 6) cs (startF 0 m 3 [k, v]) 0 = runR (2 * m + 5) cs (looksF (startF 0 m 3 [k, v])) := by
    rw [runF_then _ _ _ _ rfl]
    show runR (2 * m + 5) cs (beginF _) = _
    unfold beginF
    rw [if_neg (by show ¬ (3 : Int) = 5; omega)]
  obtain ⟨g', s', a1, a2, a3, a4, a5, a6, a7, a8, a9, a10, a11, a12⟩ := looks_run m cs hm hm16 hl 5 m (2 * m + 5) i (startF 0 m 3 [k, v]) (Nat.le_refl _) (by omega) him rfl rfl rfl hi (by show (0 : Int) = _; omega) hno
  have hcall : s'.call = 3 := a8
  have hk : s'.k = k := a6
  have hv : s'.v = v := a7
  have hfree : (startF 0 m 3 [k, v]).free = -1 := rfl
  obtain ⟨g', rfl⟩ : ∃ g1, g' = g1 + 5 := ⟨g' - 5, by omega⟩
  have e1 : runR (g' + 5) cs (lostF s') = runR (g' + 4) cs (lostKF { s' with thn := .lostK } (cnt cs)) := by
    unfold lostF
    rw [if_pos hcall]
    rw [show readF s' 0 .lostK = readF s' ((0 : Nat) : Int) .lostK from rfl, runR_read _ _ _ _ _ a3 (by omega) (by omega), runF_thn _ _ _ _ _ a5]
    rfl
  rw [e0, a2, e1]
  constructor
  · intro hfull
    unfold lostKF
    rw [if_pos (.inl (by show s'.most ≤ _; rw [a4]; exact hfull)), runR_done]
  · intro hroom hex
    have hfr : 0 ≤ s'.free := by
      rcases Int.lt_or_le s'.free 0 with h | h
      · exfalso
        obtain ⟨q, hq, hq1⟩ := hex
        have := a10 (by rw [hfree]; omega) h ((q + (m - i)) % m) (Nat.mod_lt _ (by omega))
        rw [Nat.add_mod_mod] at this
        have e : (i + (q + (m - i))) % m = q := by
          rw [show i + (q + (m - i)) = q + m by omega, Nat.add_mod_right, Nat.mod_eq_of_lt hq]
        rw [e] at this
        exact hq1 this
      · exact h
    obtain ⟨q, hq, hqm, hq1⟩ := a11 (by rw [hfree]; omega) hfr
    have hrun : runR (g' + 4) cs (lostKF { s' with thn := .lostK } (cnt cs)) = ((0, 0, true), put3 cs q k v) := by
      unfold lostKF
      rw [if_neg (by rintro (h | h); · have h' : s'.most ≤ cnt cs := h; omega
                     · have h' : s'.free < 0 := h; omega)]
      have ew : writesF { { s' with thn := .lostK } with thn := .fine } ⟨0, 1 + 3 * ({ s' with thn := .lostK } : DS).free, 1, 0⟩ [⟨0, 1 + 3 * ({ s' with thn := .lostK } : DS).free + 1, ({ s' with thn := .lostK } : DS).k, 0⟩, ⟨0, 1 + 3 * ({ s' with thn := .lostK } : DS).free + 2, ({ s' with thn := .lostK } : DS).v, 0⟩, ⟨0, 0, wrap64 (cnt cs + 1), 0⟩]
          = writesF { s' with thn := .fine } ⟨(0 : Nat), ((1 + 3 * q : Nat) : Int), 1, 0⟩ [⟨(0 : Nat), ((1 + 3 * q + 1 : Nat) : Int), k, 0⟩, ⟨(0 : Nat), ((1 + 3 * q + 2 : Nat) : Int), v, 0⟩, ⟨(0 : Nat), ((0 : Nat) : Int), cnt cs + 1, 0⟩] := by
        show writesF { s' with thn := .fine } ⟨0, 1 + 3 * s'.free, 1, 0⟩ [⟨0, 1 + 3 * s'.free + 1, s'.k, 0⟩, ⟨0, 1 + 3 * s'.free + 2, s'.v, 0⟩, ⟨0, 0, wrap64 (cnt cs + 1), 0⟩] = _
        rw [hq, hk, hv, wrap64_id (by omega) (by omega)]
        rfl
      rw [ew, runR_writes _ _ { s' with thn := .fine } 0 (1 + 3 * q) 1 0 _ a3 (by omega) (by omega)]
      simp only [List.map_cons, List.map_nil]
      rw [runF_todo _ _ _ 0 (1 + 3 * q + 1) k 0 0 [put 0 ⟨(0 : Nat), ((1 + 3 * q + 2 : Nat) : Int), v, 0⟩, put 0 ⟨(0 : Nat), ((0 : Nat) : Int), cnt cs + 1, 0⟩] (by simp only [List.length_set]; omega) (by simp only [List.length_set]; omega) (by rfl)]
      rw [runF_todo _ _ _ 0 (1 + 3 * q + 2) v 0 0 [put 0 ⟨(0 : Nat), ((0 : Nat) : Int), cnt cs + 1, 0⟩] (by simp; omega) (by simp; omega) (by rfl)]
      rw [runF_todo _ _ _ 0 0 (cnt cs + 1) 0 0 [] (by simp only [List.length_set]; omega) (by simp only [List.length_set]; omega) (by rfl)]
      rw [runF_then _ _ _ _ (by rfl)]
      exact runR_done _ _ _ _ _
    refine ⟨q, hqm, hq1, ?_, hrun⟩
    intro hfst
    rw [hi, Int.toNat_natCast] at hfst ⊢
    have := a12 (by rw [hfree]; omega) (by omega) hfst
    omega

theorem del_run (m : Nat) (cs : List Int) (hm : 1 ≤ m) (hm16 : m ≤ 16) (hl : cs.length = 3 * m + 1) (k : Int) (hc0 : 0 ≤ cnt cs) (hc1 : cnt cs ≤ 16) (hs : st cs (firstI k m).toNat = 1) (hk : ky cs (firstI k m).toNat = k) :
    runF 0 (2 * m + 6) cs (startF 0 m 4 [k]) 0 = ((0, 0, true), del2 cs (firstI k m).toNat) := by
  obtain ⟨f0, f1, f2⟩ := firstI_bd k m (by omega) (by omega)
  obtain ⟨i, hi⟩ : ∃ i : Nat, firstI k m = i := ⟨(firstI k m).toNat, by omega⟩
  have him : i < m := by omega
  rw [hi, Int.toNat_natCast] at hs hk ⊢
  obtain ⟨s0, hs0⟩ : ∃ s0, s0 = startF 0 m 4 [k] := ⟨_, rfl⟩
  have hb : s0.base = 0 := by rw [hs0]; rfl
  have hmo : s0.most = m := by rw [hs0]; rfl
  have hca : s0.call = 4 := by rw [hs0]; rfl
  have hke : s0.k = k := by rw [hs0]; rfl
  have hsl : s0.slot = i := by rw [hs0]; exact hi
  have hse : s0.seen = 0 := by rw [hs0]; rfl
  have hto : s0.todo = [] := by rw [hs0]; rfl
  have hth : s0.thn = .begin := by rw [hs0]; rfl
  rw [← hs0]
  clear hs0
  have e0 : thenF s0 0 = readF s0 ((1 + 3 * i : Nat) : Int) .state := by
    unfold thenF
    rw [hth]
    simp only
    unfold beginF
    rw [if_neg (by omega)]
    unfold looksF
    rw [if_neg (by omega), hsl]
    congr 1
  have e1 : thenF { s0 with thn := .state } (st cs i) = readF { s0 with thn := .state } ((1 + 3 * i + 1 : Nat) : Int) .key := by
    show stateF { s0 with thn := .state } (st cs i) = _
    unfold stateF
    rw [if_pos hs]
    show readF _ (1 + 3 * s0.slot + 1) _ = _
    rw [hsl]
    congr 1
  have e2 : thenF { s0 with thn := .key } (ky cs i) = writesF { s0 with thn := .counts } ⟨(0 : Nat), ((1 + 3 * i : Nat) : Int), 2, 0⟩ [] := by
    show keyF { s0 with thn := .key } (ky cs i) = _
    unfold keyF
    rw [if_pos (by show ky cs i = s0.k; rw [hke, hk]), if_neg (by show ¬ s0.call = 2; omega), if_neg (by show ¬ s0.call = 3; omega)]
    show writesF _ ⟨0, 1 + 3 * s0.slot, 2, 0⟩ [] = _
    rw [hsl]
    rfl
  have hcnt : (cs.set (1 + 3 * i) 2).getD 0 0 = cnt cs := by
    unfold cnt
    rw [List.getD_eq_getElem?_getD, List.getElem?_set_ne (by omega), ← List.getD_eq_getElem?_getD]
  have hl2 : (cs.set (1 + 3 * i) 2).length = 3 * m + 1 := by rw [List.length_set, hl]
  rw [show 2 * m + 6 = (2 * m) + 5 + 1 from rfl, runF_then _ _ _ _ hto, e0, runR_read _ _ _ _ _ hb (by omega) (by omega), runF_thn _ _ _ _ _ hto]
  rw [show cs.getD (1 + 3 * i) 0 = st cs i from rfl, e1, runR_read _ _ { s0 with thn := .state } _ _ hb (by omega) (by omega)]
  rw [show cs.getD (1 + 3 * i + 1) 0 = ky cs i from rfl]
  show runF 0 (2 * m + 3 + 1) cs { s0 with thn := .key } (ky cs i) = _
  rw [runF_thn _ _ s0 _ _ hto, e2, runR_writes _ _ { s0 with thn := .counts } _ _ _ _ _ hb (by omega) (by omega)]
  show runF 0 (2 * m + 2 + 1) (cs.set (1 + 3 * i) 2) { s0 with thn := .counts, todo := [] } 0 = _
  rw [runF_then _ _ _ _ (by rfl)]
  show runR (2 * m + 2) (cs.set (1 + 3 * i) 2) (readF { s0 with thn := .counts, todo := [] } ((0 : Nat) : Int) .countsK) = _
  rw [runR_read _ _ { s0 with thn := .counts, todo := [] } _ _ hb (by omega) (by omega), hcnt]
  show runF 0 (2 * m + 1 + 1) (cs.set (1 + 3 * i) 2) { s0 with thn := .countsK, todo := [] } (cnt cs) = _
  rw [runF_then _ _ _ _ (by rfl)]
  show runR (2 * m + 1) (cs.set (1 + 3 * i) 2) (writesF { s0 with thn := .fine, todo := [] } ⟨((0 : Nat) : Int), ((0 : Nat) : Int), wrap64 (cnt cs - 1), 0⟩ []) = _
  rw [runR_writes _ _ { s0 with thn := .fine, todo := [] } _ _ _ _ _ hb (by omega) (by omega), wrap64_id (by omega) (by omega)]
  show runF 0 (2 * m + 1) ((cs.set (1 + 3 * i) 2).set 0 (cnt cs - 1)) { s0 with thn := .fine, todo := [] } 0 = _
  rw [runF_then _ _ _ _ (by rfl)]
  exact runR_done _ _ _ _ _
end Go.Proofs.Ytjggcidaolnmbaa
