/- Keys that come and go, and then as many as there is room for: the plain law over a list of cells. No program in sight. -/
import Derived.Test.YtjggcidaolnmbaaDt
namespace Go.Proofs.Ytjggcidaolnmbaa
open Go.RowKit Go.Joins Go.ChangeShapes Go.WideShapes Go.Deep
set_option linter.unusedVariables false

theorem getD_set (l : List Int) (i j : Nat) (a : Int) : (l.set i a).getD j 0 = if i = j ∧ i < l.length then a else l.getD j 0 := by
  rw [List.getD_eq_getElem?_getD, List.getElem?_set, List.getD_eq_getElem?_getD]
  by_cases h : i = j
  · subst h
    by_cases hl : i < l.length
    · simp [hl]
    · simp [hl]
  · simp [h]

theorem put3_st (cs : List Int) (q k v j : Nat) {kk vv : Int} (m : Nat) (hl : cs.length = 3 * m + 1) (hq : q < m) : st (put3 cs q kk vv) j = if j = q then 1 else st cs j := by
  unfold put3 st
  simp only [getD_set, List.length_set]
  repeat (first | (split; (try omega)) | rfl | omega)
theorem put3_ky (cs : List Int) (q j : Nat) {kk vv : Int} (m : Nat) (hl : cs.length = 3 * m + 1) (hq : q < m) : ky (put3 cs q kk vv) j = if j = q then kk else ky cs j := by
  unfold put3 ky
  simp only [getD_set, List.length_set]
  repeat (first | (split; (try omega)) | rfl | omega)
theorem put3_cnt (cs : List Int) (q : Nat) {kk vv : Int} (m : Nat) (hl : cs.length = 3 * m + 1) (hq : q < m) : cnt (put3 cs q kk vv) = cnt cs + 1 := by
  unfold put3
  generalize cnt cs + 1 = x
  unfold cnt
  simp only [getD_set, List.length_set]
  rw [if_pos ⟨by first | trivial | rfl, by omega⟩]
theorem put3_len (cs : List Int) (q : Nat) {kk vv : Int} : (put3 cs q kk vv).length = cs.length := by simp [put3]
theorem del2_st (cs : List Int) (q j : Nat) (m : Nat) (hl : cs.length = 3 * m + 1) (hq : q < m) : st (del2 cs q) j = if j = q then 2 else st cs j := by
  unfold del2 st
  simp only [getD_set, List.length_set]
  repeat (first | (split; (try omega)) | rfl | omega)
theorem del2_cnt (cs : List Int) (q : Nat) (m : Nat) (hl : cs.length = 3 * m + 1) (hq : q < m) : cnt (del2 cs q) = cnt cs - 1 := by
  unfold del2
  generalize cnt cs - 1 = x
  unfold cnt
  simp only [getD_set, List.length_set]
  rw [if_pos ⟨by first | trivial | rfl, by omega⟩]
theorem del2_len (cs : List Int) (q : Nat) : (del2 cs q).length = cs.length := by simp [del2]

/-- No key is there. -/
structure NoKey (m : Nat) (cs : List Int) : Prop where
  len : cs.length = 3 * m + 1
  cnt : cnt cs = 0
  st : ∀ q, q < m → st cs q ≠ 1

theorem come_go {m : Nat} {cs : List Int} (h : NoKey m cs) (hm : 1 ≤ m) (hm16 : m ≤ 16) (k v : Int) :
    ∃ cs1 cs2, cs1.length = 3 * m + 1 ∧ runF 0 (2 * m + 6) cs (startF 0 m 3 [k, v]) 0 = ((0, 0, true), cs1) ∧ runF 0 (2 * m + 6) cs1 (startF 0 m 4 [k]) 0 = ((0, 0, true), cs2) ∧ NoKey m cs2 := by
  have hf := firstI_bd k m (by omega) (by omega)
  obtain ⟨q, hq, hq1, hqf, hrun⟩ := (put_run m cs hm hm16 h.len k v (by rw [h.cnt]; omega) (by rw [h.cnt]; omega) (fun q hq h1 => absurd h1 (h.st q hq))).2 (by rw [h.cnt]; omega) ⟨0, by omega, h.st 0 (by omega)⟩
  have hqe := hqf (h.st _ (by omega))
  rw [← hqe] at hqf
  have hlen : (put3 cs q k v).length = 3 * m + 1 := by rw [put3_len, h.len]
  have hst : st (put3 cs q k v) (firstI k m).toNat = 1 := by rw [put3_st cs q 0 0 _ m h.len hq, if_pos hqe.symm]
  have hky : ky (put3 cs q k v) (firstI k m).toNat = k := by rw [put3_ky cs q _ m h.len hq, if_pos hqe.symm]
  have hcnt : cnt (put3 cs q k v) = 1 := by rw [put3_cnt cs q m h.len hq, h.cnt]; rfl
  have hdel := del_run m (put3 cs q k v) hm hm16 hlen k (by omega) (by omega) hst hky
  rw [← hqe] at hdel
  refine ⟨_, _, hlen, hrun, hdel, ⟨by rw [del2_len, hlen], by rw [del2_cnt _ q m hlen hq, hcnt]; rfl, fun j hj => ?_⟩⟩
  rw [del2_st _ q j m hlen hq]
  split
  · omega
  · next hne => rw [put3_st cs q 0 0 j m h.len hq, if_neg hne]; exact h.st j hj

def there (m : Nat) (cs : List Int) : Nat := (List.range m).countP (fun q => st cs q == 1)
theorem countP_one (f f' : Nat → Bool) (q : Nat) (h : ∀ j, j ≠ q → f j = f' j) (h0 : f q = false) (h1 : f' q = true) : ∀ m, (List.range m).countP f' = (List.range m).countP f + (if q < m then 1 else 0) := by
  intro m
  induction m with
  | zero => simp
  | succ m ih =>
    rw [List.range_succ, List.countP_append, List.countP_append, ih]
    simp only [List.countP_singleton]
    by_cases hm : m = q
    · subst hm
      rw [h0, h1, if_neg (Nat.lt_irrefl m), if_pos (Nat.lt_succ_self m)]
      simp
    · rw [h m hm]
      by_cases hq : q < m
      · rw [if_pos hq, if_pos (by omega : q < m + 1)]
        omega
      · rw [if_neg hq, if_neg (by omega : ¬ q < m + 1)]
        omega
theorem there_room {m : Nat} {cs : List Int} (h : there m cs < m) : ∃ q, q < m ∧ st cs q ≠ 1 := by
  apply Classical.byContradiction
  intro hno
  have : there m cs = (List.range m).length := by
    unfold there
    rw [List.countP_eq_length]
    intro q hq
    rw [List.mem_range] at hq
    have : st cs q = 1 := Classical.byContradiction fun hh => hno ⟨q, hq, hh⟩
    simp [this]
  rw [List.length_range] at this
  omega

/-- Some keys are there: b and those behind it. -/
structure Keys (m i : Nat) (b : Int) (cs : List Int) : Prop where
  len : cs.length = 3 * m + 1
  cnt : cnt cs = i
  num : there m cs = i
  key : ∀ q, q < m → st cs q = 1 → ∃ j : Nat, j < i ∧ ky cs q = b + j

theorem NoKey.keys {m : Nat} {cs : List Int} (h : NoKey m cs) (b : Int) : Keys m 0 b cs :=
  ⟨h.len, h.cnt, by
    unfold there
    rw [List.countP_eq_zero]
    intro q hq
    rw [List.mem_range] at hq
    simp [h.st q hq], fun q hq h1 => absurd h1 (h.st q hq)⟩
theorem Keys.more {m i : Nat} {b : Int} {cs : List Int} (h : Keys m i b cs) (hm : 1 ≤ m) (hm16 : m ≤ 16) (hi : i < m) (v : Int) :
    ∃ cs', runF 0 (2 * m + 6) cs (startF 0 m 3 [b + i, v]) 0 = ((0, 0, true), cs') ∧ Keys m (i + 1) b cs' := by
  obtain ⟨q, hq, hq1, _, hrun⟩ := (put_run m cs hm hm16 h.len (b + i) v (by rw [h.cnt]; omega) (by rw [h.cnt]; omega) (fun q hq h1 => by obtain ⟨j, hj, hk⟩ := h.key q hq h1; omega)).2 (by rw [h.cnt]; omega) (there_room (by rw [h.num]; exact hi))
  refine ⟨_, hrun, ⟨by rw [put3_len, h.len], by rw [put3_cnt cs q m h.len hq, h.cnt]; rfl, ?_, ?_⟩⟩
  · unfold there
    rw [countP_one (fun q => st cs q == 1) _ q (fun j hj => by simp only [put3_st cs q 0 0 j m h.len hq]; rw [if_neg hj]) (by simpa using hq1) (by simp only [put3_st cs q 0 0 q m h.len hq]; simp) m, if_pos hq]
    have := h.num
    unfold there at this
    rw [this]
  · intro j hj h1
    rw [put3_ky cs q j m h.len hq]
    rw [put3_st cs q 0 0 j m h.len hq] at h1
    by_cases hjq : j = q
    · rw [if_pos hjq]
      exact ⟨i, by omega, rfl⟩
    · rw [if_neg hjq] at h1 ⊢
      obtain ⟨t, ht, hk⟩ := h.key j hj h1
      exact ⟨t, by omega, hk⟩
theorem Keys.full {m : Nat} {b : Int} {cs : List Int} (h : Keys m m b cs) (hm : 1 ≤ m) (hm16 : m ≤ 16) (v : Int) :
    runF 0 (2 * m + 6) cs (startF 0 m 3 [b + m, v]) 0 = ((0, 2, true), cs) :=
  (put_run m cs hm hm16 h.len (b + m) v (by rw [h.cnt]; omega) (by rw [h.cnt]; omega) (fun q hq h1 => by obtain ⟨j, hj, hk⟩ := h.key q hq h1; omega)).1 (by rw [h.cnt]; omega)

/-- Cells that are 0. -/
theorem nokey_zero (m : Nat) : NoKey m (List.replicate (3 * m + 1) 0) := by
  refine ⟨by simp, by simp [cnt], fun q hq => ?_⟩
  unfold st
  rw [List.getD_eq_getElem?_getD, List.getElem?_replicate]
  split <;> simp
end Go.Proofs.Ytjggcidaolnmbaa
