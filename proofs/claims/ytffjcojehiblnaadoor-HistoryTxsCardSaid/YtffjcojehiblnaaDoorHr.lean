/- Histories: one event on; the whole list. -/
import Derived.Test.YtffjcojehiblnaaDoorHq
namespace Go.Proofs.YtffjcojehiblnaaDoor
set_option linter.unusedVariables false
set_option linter.unusedSimpArgs false

theorem goes_inv {h : List Ev} {q n : Nat} {t t' : TxP} {pub done p d : Nat} (T : TInv h q n t) (hq : q < h.length) (hx : h[q].tx = n) (h7 : h[q].kind ≠ 7) (h1 : h[q].kind ≠ 1) (hbg : t.bg = true) (hov : t.ov = false) (hg : goesF t pub done h[q] = some (t', p, d)) :
    TInv h (q + 1) n t' ∧ p = pub + (if h[q].kind = 4 then 1 else 0) ∧ d = done + if h[q].kind = 5 then 1 else 0 := by
  have hc1 := T.bg.1 hbg
  have hov0 : ¬ 0 < countF h q 6 n + countF h q 5 n := fun hh => by rw [T.ov.2 hh] at hov; cases hov
  have c6 : countF h q 6 n = 0 := by omega
  have c5 : countF h q 5 n = 0 := by omega
  unfold goesF at hg
  by_cases k5 : h[q].kind = 5
  · rw [if_pos k5] at hg
    split at hg
    · cases hg
    · injection hg with hg
      injection hg with e1 e2
      injection e2 with e2 e3
      subst e1 e2 e3
      refine ⟨T.own hq hx h7 rfl rfl ?_ ?_ ?_ ?_ ?_ ?_, by simp [k5], by simp [k5]⟩
      · rintro s ⟨a, b, c, dd, e⟩
        have : stepS n s h[q] = s := by unfold stepS; simp [hx, k5]
        rw [this]
        exact ⟨a, b, c, dd, e⟩
      · simp [k5, hc1, hbg]
      · simp only [k5, show ¬ ((5 : Int) = 4) by decide, if_false, Nat.add_zero]
        exact T.pb
      · intro hh
        rw [hbg] at hh; cases hh
      · simp [k5]; omega
      · simp [k5]
  rw [if_neg k5] at hg
  split at hg
  · cases hg
  rename_i hs
  have hs0 : t.stamp = 0 := Classical.not_not.1 hs
  have hc4 := T.pb.1 hs0
  by_cases k2 : h[q].kind = 2 ∨ h[q].kind = 3
  · rw [if_pos k2] at hg
    split at hg
    · cases hg
    · injection hg with hg
      injection hg with e1 e2
      injection e2 with e2 e3
      subst e1 e2 e3
      have k4 : h[q].kind ≠ 4 := by omega
      have k6 : h[q].kind ≠ 6 := by omega
      refine ⟨T.own hq hx h7 rfl rfl ?_ ?_ ?_ ?_ ?_ ?_, by simp [k4], by simp [k5]⟩
      · rintro s ⟨a, b, c, dd, e⟩
        rw [if_pos hs0] at e
        simp only [hs0, if_true]
        rw [hbg] at dd
        by_cases k22 : h[q].kind = 2
        · have : stepS n s h[q] = { s with seen := if s.met = false ∨ s.seen < h[q].seen then h[q].seen else s.seen, met := true } := by unfold stepS; simp [hx, k22]
          rw [this, if_pos k22]
          simp only
          rw [← dd]
          refine ⟨by rw [← a]; exact hs0.symm, b, c, hbg, ?_⟩
          rw [e]
          simp
          split <;> omega
        · have : stepS n s h[q] = s := by unfold stepS; simp [hx, h1, k22, k4, k6]
          rw [this, if_neg k22]
          exact ⟨by rw [← a]; exact hs0.symm, b, c, by rw [hbg]; exact dd, e⟩
      · simp [h1, hc1, hbg]
      · simp only [k4, if_false, Nat.add_zero]
        exact T.pb
      · intro hh
        rw [hbg] at hh; cases hh
      · simp [k5, k6, c5, c6, hov]
      · simp [k2]
  rw [if_neg k2] at hg
  by_cases k4 : h[q].kind = 4
  · rw [if_pos k4] at hg
    split at hg
    · cases hg
    · rename_i hz
      have hz2 : h[q].stamp = (pub : Int) + 1 := Classical.not_not.1 hz
      injection hg with hg
      injection hg with e1 e2
      injection e2 with e2 e3
      subst e1 e2 e3
      refine ⟨T.own hq hx h7 rfl rfl ?_ ?_ ?_ ?_ ?_ ?_, by simp [k4], by simp [k4]⟩
      · rintro s ⟨a, b, c, dd, e⟩
        have : stepS n s h[q] = { s with stamp := h[q].stamp, ended := h[q].at_ } := by unfold stepS; simp [hx, k4]
        rw [this]
        refine ⟨rfl, rfl, c, dd, ?_⟩
        simp only
        rw [if_neg (by omega)]
      · simp [k4, hc1, hbg]
      · refine ⟨fun hh => absurd hh (by simp only; omega), fun _ => ⟨by rw [hc4, if_pos k4], by simp only; omega, q, ?_, hq, rfl⟩⟩
        refine firstF_eq hq (fun i hi hiq => ?_) ⟨k4, hx⟩
        have := countF_zero hc4 hiq hi
        intro hh
        exact this ⟨hh.1, .inr hh.2⟩
      · intro hh
        rw [hbg] at hh; cases hh
      · simp [k4, c5, c6, hov]
      · simp [k4]
  rw [if_neg k4] at hg
  split at hg
  · rename_i k6
    injection hg with hg
    injection hg with e1 e2
    injection e2 with e2 e3
    subst e1 e2 e3
    refine ⟨T.own hq hx h7 rfl rfl ?_ ?_ ?_ ?_ ?_ ?_, by simp [k6], by simp [k6]⟩
    · rintro s ⟨a, b, c, dd, e⟩
      have : stepS n s h[q] = { s with ended := h[q].at_, err := h[q].err } := by unfold stepS; simp [hx, k6]
      rw [this]
      exact ⟨a, rfl, rfl, dd, e⟩
    · simp [k6, hc1, hbg]
    · simp only [k6, show ¬ ((6 : Int) = 4) by decide, if_false, Nat.add_zero]
      exact T.pb
    · intro hh
      rw [hbg] at hh; cases hh
    · simp [k6]; omega
    · simp [k6]
  · cases hg

theorem HInv.step {h : List Ev} {q : Nat} {b b' : Book} (I : HInv h q b) (hq : q < h.length) (hn : nextF b h[q] = some b') : HInv h (q + 1) b' := by
  have hlast : (evAt h (((q + 1 : Nat) : Int) - 1)) = h[q] := by rw [show ((q + 1 : Nat) : Int) - 1 = (q : Int) by omega]; exact evAt_of hq
  unfold nextF at hn
  split at hn
  · cases hn
  rename_i hat
  have hat2 := I.ats
  by_cases h7 : h[q].kind = 7
  · rw [if_pos h7] at hn
    split at hn
    · cases hn
    rename_i hx
    have hx2 : h[q].tx = b.l.length := Classical.not_not.1 hx
    injection hn with hn
    subst hn
    have hcnt := fun k => countF_succ h q k (-1) hq
    refine ⟨?_, ?_, ?_, ⟨fun h0 => absurd h0 (by omega), fun _ => by rw [hlast]⟩, ?_, ?_, ?_⟩
    · rw [hcnt, if_pos ⟨h7, .inl (by decide)⟩]
      simp [I.len]
    · rw [hcnt, if_neg (by rintro ⟨h, _⟩; omega)]
      exact I.pub
    · rw [hcnt, if_neg (by rintro ⟨h, _⟩; omega)]
      exact I.done
    · intro i hi hiq
      simp only [List.length_append, List.length_cons, List.length_nil]
      rcases Nat.lt_or_eq_of_le (Nat.le_of_lt_succ hiq) with h1 | h1
      · have := I.txs i hi h1; omega
      · subst h1; omega
    · simp only; omega
    · intro n hnl
      simp only [List.length_append, List.length_cons, List.length_nil] at hnl
      by_cases hne : n < b.l.length
      · simp only [List.getElem_append_left hne]
        exact (I.each n hne).other hq (by omega)
      · obtain rfl : n = b.l.length := by omega
        have hnone : ∀ i (hi : i < h.length), i < q → h[i].tx ≠ (b.l.length : Int) := fun i hi hiq => by have := I.txs i hi hiq; omega
        have hcz : ∀ k, countF h q k b.l.length = 0 := by
          intro k
          unfold countF
          rw [List.length_eq_zero_iff, List.filter_eq_nil_iff]
          intro e he
          obtain ⟨i, hi, hhi⟩ := List.mem_take_iff_getElem.1 he
          have hil : i < h.length := by omega
          have := hnone i hil (by omega)
          simp only [isK, decide_eq_true_eq, not_and, not_or]
          intro _
          refine ⟨by omega, ?_⟩
          rw [← hhi]
          exact this
        have hf7 : firstF h 7 b.l.length = (q : Int) := firstF_eq hq (fun i hi hiq hh => hnone i hi hiq hh.2) ⟨h7, hx2⟩
        simp only [List.getElem_concat_length]
        refine ⟨⟨q, hf7, by omega, hq, rfl, rfl, ?_⟩, ?_, ?_, ?_, ?_, ?_⟩
        · rw [sumF_succ h q _ _ hq, sumF_none h _ _ q (by omega) hnone]
          have : stepS (b.l.length : Int) ⟨(countF h q 4 (-1) : Int), 0, -1, 0, false⟩ h[q] = ⟨(countF h q 4 (-1) : Int), 0, -1, 0, false⟩ := by unfold stepS; simp [h7]
          rw [this, ← I.pub]
          simp
        · rw [count_same hq hx2, hcz]; simp [h7]
        · rw [count_same hq hx2, hcz]; simp [h7]
        · simp
        · rw [count_same hq hx2, count_same hq hx2, hcz, hcz]; simp [h7]
        · rw [filter_succ h q _ hq, if_neg (by simp [h7]), List.append_nil]
          symm
          rw [List.filter_eq_nil_iff]
          intro e he
          obtain ⟨i, hi, hhi⟩ := List.mem_take_iff_getElem.1 he
          have hil : i < h.length := by omega
          have := hnone i hil (by omega)
          rw [← hhi]
          simp [this]
  rw [if_neg h7] at hn
  split at hn
  · rename_i hr
    obtain ⟨n, hnx⟩ := Int.eq_ofNat_of_zero_le hr.1
    have hnl : n < b.l.length := by have := hr.2; rw [hnx] at this; simpa using this
    have et : b.l[h[q].tx.toNat]'hr.2 = b.l[n] := by congr 1; rw [hnx]; rfl
    rw [et, show h[q].tx.toNat = n by rw [hnx]; rfl] at hn
    have T := I.each n hnl
    generalize ht : b.l[n] = t at T hn
    have hcnt := fun k => countF_succ h q k (-1) hq
    have hfin : ∀ (t' : TxP) (p d : Nat), TInv h (q + 1) n t' → p = b.pub + (if h[q].kind = 4 then 1 else 0) → d = b.done + (if h[q].kind = 5 then 1 else 0) → HInv h (q + 1) ⟨b.l.set n t', h[q].at_, p, d⟩ := by
      intro t' p d hT hp hd
      refine ⟨?_, ?_, ?_, ⟨fun h0 => absurd h0 (by omega), fun _ => by rw [hlast]⟩, ?_, ?_, ?_⟩
      · rw [hcnt, if_neg (fun hh => h7 hh.1)]
        simpa using I.len
      · rw [hcnt, hp, I.pub]
        congr 1
        by_cases k4 : h[q].kind = 4
        · rw [if_pos k4, if_pos ⟨k4, .inl (by decide)⟩]
        · rw [if_neg k4, if_neg (fun hh => k4 hh.1)]
      · rw [hcnt, hd, I.done]
        congr 1
        by_cases k5 : h[q].kind = 5
        · rw [if_pos k5, if_pos ⟨k5, .inl (by decide)⟩]
        · rw [if_neg k5, if_neg (fun hh => k5 hh.1)]
      · intro i hi hiq
        simp only [List.length_set]
        rcases Nat.lt_or_eq_of_le (Nat.le_of_lt_succ hiq) with h1 | h1
        · exact I.txs i hi h1
        · subst h1; omega
      · simp only; omega
      · intro k hk
        simp only [List.length_set] at hk
        by_cases hkn : n = k
        · subst hkn
          simp only [List.getElem_set_self]
          exact hT
        · simp only [List.getElem_set_ne hkn]
          exact (I.each k hk).other hq (by omega)
    unfold nextT at hn
    split at hn
    · cases hn
    rename_i hbad
    have hov : t.ov = false := by cases hh : t.ov; rfl; exact absurd (.inl hh) hbad
    have hc0 : ¬ 0 < countF h q 6 n + countF h q 5 n := fun hh => by rw [T.ov.2 hh] at hov; cases hov
    by_cases k1 : h[q].kind = 1
    · rw [if_pos k1] at hn
      split at hn
      · cases hn
      rename_i hb
      have hbf : t.bg = false := by cases hh : t.bg; rfl; exact absurd hh hb
      injection hn with hn
      subst hn
      have hs0 := T.nb hbf
      refine hfin _ _ _ (T.own hq hnx h7 rfl rfl ?_ ?_ ?_ ?_ ?_ ?_) (by simp [k1]) (by simp [k1])
      · rintro s ⟨a, b, c, dd, e⟩
        have : stepS n s h[q] = { s with seen := if s.met = false ∨ s.seen < h[q].seen then h[q].seen else s.seen, met := true } := by unfold stepS; simp [hnx, k1]
        rw [this]
        simp only
        rw [hbf] at dd
        rw [← dd]
        refine ⟨a, b, c, trivial, ?_⟩
        rw [if_pos hs0]
        simp
      · simp [k1, T.bg.2 hbf]
      · simp only [k1, show ¬ ((1 : Int) = 4) by decide, if_false, Nat.add_zero]
        exact T.pb
      · intro hh
        cases hh
      · simp [k1, hov]
        omega
      · simp [k1]
    · rw [if_neg k1] at hn
      split at hn
      · rename_i hb
        split at hn
        · cases hn
        · rename_i t' p d hg
          injection hn with hn
          subst hn
          obtain ⟨h1, h2, h3⟩ := goes_inv T hq hnx h7 k1 hb hov hg
          exact hfin t' p d h1 h2 h3
      · cases hn
  · cases hn
end Go.Proofs.YtffjcojehiblnaaDoor
