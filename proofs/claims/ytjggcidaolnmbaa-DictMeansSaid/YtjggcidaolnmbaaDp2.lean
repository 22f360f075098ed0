/- The plain law of the dict machine: each step. -/
import Derived.Test.YtjggcidaolnmbaaDp
namespace Go.Proofs.Ytjggcidaolnmbaa
open Go.RowKit Go.Joins Go.ChangeShapes Go.WideShapes Go.Deep
set_option linter.unusedVariables false

theorem w64 (x : Int) (h0 : -9223372036854775808 ≤ x) (h1 : x ≤ 9223372036854775807) : wrap64 x = x := IntWalk.wrap64_in x ⟨h0, h1⟩

/-- What a step gives. -/
structure Step (base most call : Int) (args read : List Int) (writes : Int) (k : Nat) (r : Want × DS) (want : Want) : Prop where
  eq : r.1 = want
  sim : Sim base most call args read writes r.1 r.2
  ok : WOk base most r.1
  rk : rank r.2 ≤ k
  fin : r.1.kind = 6 ↔ rank r.2 = 0

theorem lookF_nil {key n : Int} {read : List Int} {x : Look} (h : ∀ ext, lookF key n (read ++ ext) = x) : lookF key n read = x := by
  have := h []
  rwa [List.append_nil] at this

theorem lost_sim {base most call : Int} {args read : List Int} {s : DS} (hok : s.Ok) (hfx : Fixed base most call args s) (ht : s.todo = []) (h5 : call ≠ 5) (hm : 0 ≤ most)
    (hi : Over (a0 args) most read (-1) s.free read.length) : Step base most call args read 0 5 (lostF s) (refNext base most call args read 0) := by
  have hl := lookF_nil hi
  have hb0 := hok.b0
  have hb1 := hok.b1
  rw [hfx.hb] at hb0 hb1
  have hc := hfx.hc
  unfold lostF
  by_cases h3 : s.call = 3
  · rw [if_pos h3]
    have h3' : call = 3 := by rw [← hc]; exact h3
    have hw : (readF s 0 .lostK).1 = ⟨2, base, 0, 0⟩ := by simp [readF, hfx.hb, w64 base (by omega) (by omega)]
    refine ⟨?_, ?_, ?_, ?_, ?_⟩
    · rw [hw]
      simp [refNext, hl, h3', putsF]
    · rw [hw]
      exact ⟨hok.thn _, ⟨hfx.hb, hfx.hm, hfx.hc, hfx.hk, hfx.hv⟩, .lostK _ _ _ rfl ht h3' rfl hi⟩
    · rw [hw]
      exact .inr ⟨.inl rfl, by show base ≤ base; omega, by show base < _; omega⟩
    · simp [readF, rank]
    · simp [readF, rank]
  · rw [if_neg h3]
    have h3' : call ≠ 3 := by rw [← hc]; exact h3
    refine ⟨?_, ?_, ?_, ?_, ?_⟩
    · simp [refNext, hl, h3', h5, endW, doneF]
    · exact ⟨hok.thn _, ⟨hfx.hb, hfx.hm, hfx.hc, hfx.hk, hfx.hv⟩, .fin _ _ _ _ rfl ht rfl (.inl ⟨rfl, rfl, .inr rfl⟩)⟩
    · exact .inl ⟨rfl, rfl, .inr rfl⟩
    · simp [doneF, rank]
    · simp [doneF, rank]

theorem looks_sim {base most call : Int} {args read : List Int} {s : DS} (hok : s.Ok) (hfx : Fixed base most call args s) (ht : s.todo = []) (h5 : call ≠ 5)
    (hs : s.seen < most → s.slot = slotI (a0 args) most s.seen)
    (hi : ∀ ext, lookF (a0 args) most (read ++ ext) = findL (a0 args) most (most - s.seen).toNat s.seen s.free read.length ext) :
    Step base most call args read 0 (2 * (most - s.seen).toNat + 5) (looksF s) (refNext base most call args read 0) := by
  have hb0 := hok.b0
  have hb1 := hok.b1
  have hm0 := hok.m0
  have hm1 := hok.m1
  have he := hok.e1
  have hs0 := hok.s0
  have hs1 := hok.s1
  have hs2 := hok.s2
  have he0 := hok.e0
  rw [hfx.hb] at hb0 hb1
  rw [hfx.hm] at hm0 hm1 he hs1
  unfold looksF
  by_cases hc : s.seen = s.most
  · rw [if_pos hc]
    have hz : (most - s.seen).toNat = 0 := by have := hfx.hm; omega
    rw [hz] at hi ⊢
    exact lost_sim hok hfx ht h5 hm0 hi
  · rw [if_neg hc]
    have hlt : s.seen < most := by have := hfx.hm; omega
    obtain ⟨f, hf⟩ : ∃ f, (most - s.seen).toNat = f + 1 := ⟨(most - s.seen).toNat - 1, by omega⟩
    have hl := hi []
    rw [List.append_nil, hf] at hl
    simp only [findL] at hl
    have hsl := hs hlt
    rw [← hsl] at hl
    have hw : (readF s (1 + 3 * s.slot) .state).1 = ⟨2, base + (1 + 3 * s.slot), 0, 0⟩ := by simp only [readF, hfx.hb]; rw [w64 _ (by omega) (by omega)]
    refine ⟨?_, ?_, ?_, ?_, ?_⟩
    · rw [hw]
      simp only [refNext, if_neg h5, hl, if_true]
    · rw [hw]
      exact ⟨hok.thn _, ⟨hfx.hb, hfx.hm, hfx.hc, hfx.hk, hfx.hv⟩, .state _ _ _ rfl ht h5 rfl hlt hsl hi⟩
    · rw [hw]
      refine .inr ⟨.inl rfl, ?_, ?_⟩
      · show base ≤ base + (1 + 3 * s.slot)
        omega
      · show base + (1 + 3 * s.slot) < base + (3 * most + 1)
        omega
    · simp [readF, rank, hfx.hm]
    · simp [readF, rank]

theorem slot_next {key n j : Int} (hn : 0 < n) : (slotI key n j + 1) % n = slotI key n (j + 1) := by
  unfold slotI
  rw [Int.emod_add_emod]
  congr 1
  omega

theorem goes_sim {base most call : Int} {args read : List Int} {s : DS} (hok : s.Ok) (hfx : Fixed base most call args s) (ht : s.todo = []) (h5 : call ≠ 5) (hlt : s.seen < most)
    (hs : s.slot = slotI (a0 args) most s.seen)
    (hi : ∀ ext, lookF (a0 args) most (read ++ ext) = findL (a0 args) most ((most - s.seen).toNat - 1) (s.seen + 1) s.free read.length ext) :
    Step base most call args read 0 (2 * (most - s.seen).toNat + 3) (goesF s) (refNext base most call args read 0) := by
  have hlt' : s.seen < s.most := by rw [hfx.hm]; exact hlt
  have he := hok.e0
  have h := looks_sim (s := { s with seen := s.seen + 1, slot := (s.slot + 1) % s.most }) (base := base) (most := most) (call := call) (args := args) (read := read) (hok.goes hlt') ⟨hfx.hb, hfx.hm, hfx.hc, hfx.hk, hfx.hv⟩ ht h5
    (fun _ => by show (s.slot + 1) % s.most = _; rw [hs, hfx.hm, slot_next (by omega)])
    (fun ext => by
      have := hi ext
      rw [this]
      show _ = findL _ _ (most - (s.seen + 1)).toNat _ _ _ _
      congr 1
      omega)
  unfold goesF
  refine ⟨h.eq, h.sim, h.ok, Nat.le_trans h.rk ?_, h.fin⟩
  show 2 * (most - (s.seen + 1)).toNat + 5 ≤ _
  omega

/-- The free slot that a look notes. -/
theorem freed_free (s : DS) (x : Int) : (freed s x).free = freeI x s.free s.slot ∧ (freed s x).slot = s.slot ∧ (freed s x).seen = s.seen ∧ (freed s x).todo = s.todo ∧ (freed s x).most = s.most := by
  unfold freed freeI
  by_cases h : x ≠ 1 ∧ s.free < 0
  · rw [if_pos h, if_pos h]
    exact ⟨rfl, rfl, rfl, rfl, rfl⟩
  · rw [if_neg h, if_neg h]
    exact ⟨rfl, rfl, rfl, rfl, rfl⟩
theorem freed_ok {s : DS} (h : s.Ok) (hm : 0 < s.most) (x : Int) : (freed s x).Ok := by
  unfold freed
  split
  · exact h.free hm
  · exact h
theorem freed_fixed {base most call : Int} {args : List Int} {s : DS} (h : Fixed base most call args s) (x : Int) : Fixed base most call args (freed s x) := by
  unfold freed
  split
  · exact ⟨h.hb, h.hm, h.hc, h.hk, h.hv⟩
  · exact h

theorem findL_state {key n : Int} {m : Nat} {j free : Int} {pos : Nat} {st : Int} {rest : List Int} (hm : 0 < m) (h0 : st ≠ 0) (h1 : st ≠ 1) :
    findL key n m j free pos (st :: rest) = findL key n (m - 1) (j + 1) (freeI st free (slotI key n j)) (pos + 1) rest := by
  obtain ⟨f, rfl⟩ : ∃ f, m = f + 1 := ⟨m - 1, by omega⟩
  simp [findL, h0, h1]
theorem findL_empty {key n : Int} {m : Nat} {j free : Int} {pos : Nat} {rest : List Int} (hm : 0 < m) :
    findL key n m j free pos (0 :: rest) = ⟨-1, freeI 0 free (slotI key n j), pos + 1, true, 0⟩ := by
  obtain ⟨f, rfl⟩ : ∃ f, m = f + 1 := ⟨m - 1, by omega⟩
  simp [findL]
theorem findL_there {key n : Int} {m : Nat} {j free : Int} {pos : Nat} {rest : List Int} (hm : 0 < m) :
    findL key n m j free pos (1 :: rest) = findK key n (m - 1) j free (pos + 1) rest := by
  obtain ⟨f, rfl⟩ : ∃ f, m = f + 1 := ⟨m - 1, by omega⟩
  cases rest <;> simp [findL, findK]

theorem startF_rank (base most call : Int) (args : List Int) : rank (startF base most call args) = 2 * most.toNat + 6 := by
  unfold startF
  split <;> rfl
theorem startF_sim {base most call : Int} {args : List Int} (h : callOk base most call args) : Sim base most call args [] 0 ⟨0, 0, 0, 0⟩ (startF base most call args) := by
  refine ⟨startF_ok base most call args h, ?_, ?_⟩
  · unfold startF
    split <;> exact ⟨rfl, rfl, rfl, rfl, rfl⟩
  · obtain ⟨hb0, hb1, hm0, hm1, har⟩ := h
    have hs : ∀ k, most ≠ 0 → firstI k most = slotI k most 0 := by
      intro k hm
      have hb := firstI_bd k most hm0 hm1
      unfold slotI
      rw [Int.add_zero, Int.emod_eq_of_lt hb.1 (by omega)]
    match args with
    | [] =>
      refine .begin _ _ rfl rfl (.inr (.inr ?_)) rfl rfl rfl
      simp only [List.length_nil] at har
      unfold arityI at har
      by_cases h3 : call = 3
      · rw [if_pos h3] at har
        omega
      · rw [if_neg h3] at har
        by_cases h2 : call = 2 ∨ call = 4
        · rw [if_pos h2] at har
          omega
        · rw [if_neg h2] at har
          by_cases h5 : call = 5
          · exact h5
          · rw [if_neg h5] at har
            omega
    | [k] =>
      refine .begin _ _ rfl rfl ?_ rfl rfl rfl
      by_cases hm : most = 0
      · exact .inr (.inl hm)
      · exact .inl (hs k hm)
    | k :: v :: l =>
      refine .begin _ _ rfl rfl ?_ rfl rfl rfl
      by_cases hm : most = 0
      · exact .inr (.inl hm)
      · exact .inl (hs k hm)

theorem step_sim {base most call : Int} {args read : List Int} {writes : Int} {last : Want} {s : DS} (hcall : callOk base most call args) (h : Sim base most call args read writes last s) (v : Int) :
    Step base most call args (readsNext last read v) (writesNext last writes) (rank s - 1) (nextF s v) (wantsF base most call args (readsNext last read v) (writesNext last writes) last) := by
  obtain ⟨hok, hfx, hat⟩ := h
  obtain ⟨hb0, hb1, hm0, hm1, har⟩ := hcall
  have hs0 := hok.s0
  have hs2 := hok.s2
  have hs1 := hok.s1
  rw [hfx.hm] at hs1
  have hthen : s.todo = [] → nextF s v = thenF s v := fun h => by simp [nextF, h]
  cases hat with
  | begin _ _ h ht hs he hf hl =>
    rw [hthen ht]
    simp only [readsNext, writesNext, wantsF, hl, thenF, h, beginF]
    by_cases h5 : s.call = 5
    · have h5' : call = 5 := by rw [← hfx.hc]; exact h5
      have hw : (readF s 0 .len).1 = ⟨2, base, 0, 0⟩ := by simp [readF, hfx.hb, w64 base (by omega) (by omega)]
      simp only [if_pos h5]
      refine ⟨?_, ?_, ?_, ?_, ?_⟩
      · rw [hw]
        simp [refNext, h5']
      · rw [hw]
        exact ⟨hok.thn _, ⟨hfx.hb, hfx.hm, hfx.hc, hfx.hk, hfx.hv⟩, .len _ _ rfl ht h5' rfl⟩
      · rw [hw]
        exact .inr ⟨.inl rfl, by show base ≤ base; omega, by show base < _; omega⟩
      · simp [readF, rank, h]
      · simp [readF, rank]
    · have h5' : call ≠ 5 := by rw [← hfx.hc]; exact h5
      simp only [if_neg h5]
      have hst := looks_sim (read := []) hok hfx ht h5' (by intro hlt; rcases hs with hs | hs | hs; rw [he]; exact hs; omega; exact absurd hs h5') (by
        intro ext
        rw [he, hf, List.nil_append]
        unfold lookF
        congr 1
        omega)
      refine ⟨hst.eq, hst.sim, hst.ok, Nat.le_trans hst.rk ?_, hst.fin⟩
      simp only [rank, h, hfx.hm, he]
      omega
  | len _ _ h ht hc hl =>
    rw [hthen ht]
    simp only [readsNext, writesNext, wantsF, hl, thenF, h]
    refine ⟨?_, ⟨hok.thn _, ⟨hfx.hb, hfx.hm, hfx.hc, hfx.hk, hfx.hv⟩, .fin _ _ _ _ rfl ht rfl (.inl ⟨rfl, rfl, .inl rfl⟩)⟩, .inl ⟨rfl, rfl, .inl rfl⟩, ?_, ?_⟩
    · simp [doneF, refNext, hc, endW]
    · simp [doneF, rank]
    · simp [doneF, rank]
  | state _ _ _ h ht h5 hl hlt hs hi =>
    rw [hthen ht]
    have hmp : 0 < (most - s.seen).toNat := by omega
    have hrk : rank s = 2 * (most - s.seen).toNat + 5 := by simp [rank, h, hfx.hm]
    simp only [readsNext, writesNext, wantsF, hl, thenF, h, stateF]
    simp only [if_true, if_neg (show ¬ (2 : Int) = 3 by omega), if_neg (show ¬ (2 : Int) = 6 by omega)]
    by_cases h1 : v = 1
    · subst h1
      rw [if_pos rfl]
      have hw : (readF s (1 + 3 * s.slot + 1) .key).1 = ⟨2, base + (1 + 3 * s.slot + 1), 0, 0⟩ := by simp only [readF, hfx.hb]; rw [w64 _ (by omega) (by omega)]
      have hi' : ∀ ext, lookF (a0 args) most ((read ++ [1]) ++ ext) = findK (a0 args) most ((most - s.seen).toNat - 1) s.seen s.free (read ++ [1]).length ext := by
        intro ext
        rw [List.append_assoc, hi, List.singleton_append, findL_there hmp]
        simp
      have hl0 := hi' []
      rw [List.append_nil] at hl0
      simp only [findK] at hl0
      rw [← hs] at hl0
      refine ⟨?_, ?_, ?_, ?_, ?_⟩
      · rw [hw]
        simp only [refNext, if_neg h5, hl0, if_true]
        congr 1
        omega
      · rw [hw]
        exact ⟨hok.thn _, ⟨hfx.hb, hfx.hm, hfx.hc, hfx.hk, hfx.hv⟩, .key _ _ _ rfl ht h5 rfl hlt hs hi'⟩
      · rw [hw]
        refine .inr ⟨.inl rfl, ?_, ?_⟩
        · show base ≤ base + (1 + 3 * s.slot + 1)
          omega
        · show base + (1 + 3 * s.slot + 1) < base + (3 * most + 1)
          have := hok.e0
          omega
      · rw [hrk]
        simp [readF, rank, hfx.hm]
      · simp [readF, rank]
    · rw [if_neg h1]
      obtain ⟨g1, g2, g3, g4, g5⟩ := freed_free s v
      by_cases h0 : v = 0
      · subst h0
        rw [if_pos rfl]
        have hst := lost_sim (base := base) (most := most) (call := call) (args := args) (read := read ++ [0]) (freed_ok hok (by have := hok.e0; have := hfx.hm; omega) 0) (freed_fixed hfx 0) (by rw [g4]; exact ht) h5 hm0 (by
          intro ext
          rw [List.append_assoc, hi, List.singleton_append, findL_empty hmp, g1, hs]
          simp)
        exact ⟨hst.eq, hst.sim, hst.ok, Nat.le_trans hst.rk (by rw [hrk]; omega), hst.fin⟩
      · rw [if_neg h0]
        have hst := goes_sim (base := base) (most := most) (call := call) (args := args) (read := read ++ [v]) (freed_ok hok (by have := hok.e0; have := hfx.hm; omega) v) (freed_fixed hfx v) (by rw [g4]; exact ht) h5 (by rw [g3]; exact hlt) (by rw [g2, g3]; exact hs) (by
          intro ext
          rw [List.append_assoc, hi, List.singleton_append, findL_state hmp h0 h1, g1, g3, ← hs]
          simp)
        rw [g3] at hst
        exact ⟨hst.eq, hst.sim, hst.ok, Nat.le_trans hst.rk (by rw [hrk]; omega), hst.fin⟩
  | key _ _ _ h ht h5 hl hlt hs hi =>
    rw [hthen ht]
    have hmp : 0 < (most - s.seen).toNat := by omega
    have hrk : rank s = 2 * (most - s.seen).toNat + 4 := by simp [rank, h, hfx.hm]
    have he := hok.e0
    simp only [readsNext, writesNext, wantsF, hl, thenF, h, keyF]
    simp only [if_true, if_neg (show ¬ (2 : Int) = 3 by omega), if_neg (show ¬ (2 : Int) = 6 by omega)]
    by_cases hk : v = s.k
    · rw [if_pos hk]
      have hk' : v = a0 args := by rw [hk, hfx.hk]
      have hov : Over (a0 args) most (read ++ [v]) s.slot s.free (read ++ [v]).length := by
        intro ext
        rw [List.append_assoc, hi, List.singleton_append]
        simp [findK, hk', hs]
      have hl0 := lookF_nil hov
      by_cases h2 : s.call = 2
      · have h2' : call = 2 := by rw [← hfx.hc]; exact h2
        rw [if_pos h2]
        have hw : (readF s (1 + 3 * s.slot + 2) .got).1 = ⟨2, base + (1 + 3 * s.slot + 2), 0, 0⟩ := by simp only [readF, hfx.hb]; rw [w64 _ (by omega) (by omega)]
        refine ⟨?_, ?_, ?_, ?_, ?_⟩
        · rw [hw]
          simp [refNext, h2', hl0, show ¬ s.slot < 0 by omega]
          omega
        · rw [hw]
          exact ⟨hok.thn _, ⟨hfx.hb, hfx.hm, hfx.hc, hfx.hk, hfx.hv⟩, .got _ _ _ _ _ rfl ht h2' rfl hs0 hov⟩
        · rw [hw]
          refine .inr ⟨.inl rfl, ?_, ?_⟩
          · show base ≤ base + (1 + 3 * s.slot + 2)
            omega
          · show base + (1 + 3 * s.slot + 2) < base + (3 * most + 1)
            omega
        · rw [hrk]
          simp [readF, rank]
        · simp [readF, rank]
      · rw [if_neg h2]
        have h2' : call ≠ 2 := by rw [← hfx.hc]; exact h2
        by_cases h3 : s.call = 3
        · have h3' : call = 3 := by rw [← hfx.hc]; exact h3
          rw [if_pos h3]
          have hw : (writesF { s with thn := .fine } ⟨0, 1 + 3 * s.slot + 2, s.v, 0⟩ []).1 = ⟨3, base + (1 + 3 * s.slot + 2), a1 args, 0⟩ := by
            simp only [writesF, put, hfx.hb, hfx.hv]
            rw [w64 _ (by omega) (by omega)]
            congr 1
            omega
          refine ⟨?_, ?_, ?_, ?_, ?_⟩
          · rw [hw]
            simp [refNext, h3', hl0, putsF, hs0]
            omega
          · rw [hw]
            exact ⟨(hok.thn _).todo _, ⟨hfx.hb, hfx.hm, hfx.hc, hfx.hk, hfx.hv⟩, .fine _ _ _ _ _ rfl rfl h3' rfl hs0 hov⟩
          · rw [hw]
            refine .inr ⟨.inr rfl, ?_, ?_⟩
            · show base ≤ base + (1 + 3 * s.slot + 2)
              omega
            · show base + (1 + 3 * s.slot + 2) < base + (3 * most + 1)
              omega
          · rw [hrk]
            simp [writesF, rank]
          · simp [writesF, rank, put]
        · have h3' : call ≠ 3 := by rw [← hfx.hc]; exact h3
          rw [if_neg h3]
          have h4 : call = 4 := by
            unfold arityI at har
            rw [if_neg h3', if_neg h5] at har
            by_cases hh : call = 2 ∨ call = 4
            · omega
            · rw [if_neg hh] at har
              omega
          have hw : (writesF { s with thn := .counts } ⟨0, 1 + 3 * s.slot, 2, 0⟩ []).1 = ⟨3, base + (1 + 3 * s.slot), 2, 0⟩ := by
            simp only [writesF, put, hfx.hb]
            rw [w64 _ (by omega) (by omega)]
            congr 1
            omega
          refine ⟨?_, ?_, ?_, ?_, ?_⟩
          · rw [hw]
            simp [refNext, h4, hl0, show ¬ s.slot < 0 by omega]
            omega
          · rw [hw]
            exact ⟨(hok.thn _).todo _, ⟨hfx.hb, hfx.hm, hfx.hc, hfx.hk, hfx.hv⟩, .counts _ _ _ _ _ rfl rfl h4 rfl hs0 hov⟩
          · rw [hw]
            refine .inr ⟨.inr rfl, ?_, ?_⟩
            · show base ≤ base + (1 + 3 * s.slot)
              omega
            · show base + (1 + 3 * s.slot) < base + (3 * most + 1)
              omega
          · rw [hrk]
            simp [writesF, rank]
            try omega
          · simp [writesF, rank, put]
    · rw [if_neg hk]
      have hk' : v ≠ a0 args := by rw [← hfx.hk]; exact hk
      have hst := goes_sim (base := base) (most := most) (call := call) (args := args) (read := read ++ [v]) hok hfx ht h5 hlt hs (by
        intro ext
        rw [List.append_assoc, hi, List.singleton_append]
        simp [findK, hk'])
      exact ⟨hst.eq, hst.sim, hst.ok, Nat.le_trans hst.rk (by rw [hrk]; omega), hst.fin⟩
  | got _ _ _ i free h ht hc hl hi0 hi =>
    rw [hthen ht]
    have hl0 := hi [v]
    simp only [readsNext, writesNext, wantsF, hl, thenF, h]
    refine ⟨?_, ⟨hok.thn _, ⟨hfx.hb, hfx.hm, hfx.hc, hfx.hk, hfx.hv⟩, .fin _ _ _ _ rfl ht rfl (.inl ⟨rfl, rfl, .inl rfl⟩)⟩, .inl ⟨rfl, rfl, .inl rfl⟩, ?_, ?_⟩
    · simp [doneF, refNext, hc, endW, hl0, show ¬ i < 0 by omega]
    · simp [doneF, rank]
    · simp [doneF, rank]
  | fine _ _ _ i free h ht hc hl hi0 hi =>
    rw [hthen ht]
    have hl0 := lookF_nil hi
    simp only [readsNext, writesNext, wantsF, hl, thenF, h]
    refine ⟨?_, ⟨hok.thn _, ⟨hfx.hb, hfx.hm, hfx.hc, hfx.hk, hfx.hv⟩, .fin _ _ _ _ rfl ht rfl (.inl ⟨rfl, rfl, .inl rfl⟩)⟩, .inl ⟨rfl, rfl, .inl rfl⟩, ?_, ?_⟩
    · simp [doneF, refNext, hc, endW, hl0, putsF, hi0]
    · simp [doneF, rank]
    · simp [doneF, rank]
  | counts _ _ _ i free h ht hc hl hi0 hi =>
    rw [hthen ht]
    have hl0 := lookF_nil hi
    simp only [readsNext, writesNext, wantsF, hl, thenF, h]
    simp only [if_true, if_neg (show ¬ (3 : Int) = 2 by omega), if_neg (show ¬ (3 : Int) = 6 by omega)]
    have hw : (readF s 0 .countsK).1 = ⟨2, base, 0, 0⟩ := by simp [readF, hfx.hb, w64 base (by omega) (by omega)]
    refine ⟨?_, ?_, ?_, ?_, ?_⟩
    · rw [hw]
      simp [refNext, hc, hl0, show ¬ i < 0 by omega]
    · rw [hw]
      exact ⟨hok.thn _, ⟨hfx.hb, hfx.hm, hfx.hc, hfx.hk, hfx.hv⟩, .countsK _ _ _ _ _ rfl ht hc rfl hi0 hi⟩
    · rw [hw]
      exact .inr ⟨.inl rfl, by show base ≤ base; omega, by show base < _; omega⟩
    · simp [readF, rank, h]
    · simp [readF, rank]
  | countsK _ _ _ i free h ht hc hl hi0 hi =>
    rw [hthen ht]
    have hl0 := hi [v]
    simp only [readsNext, writesNext, wantsF, hl, thenF, h]
    simp only [if_true, if_neg (show ¬ (2 : Int) = 3 by omega), if_neg (show ¬ (2 : Int) = 6 by omega)]
    have hw : (writesF { s with thn := .fine } ⟨0, 0, wrap64 (v - 1), 0⟩ []).1 = ⟨3, base, wrap64 (v - 1), 0⟩ := by
      simp [writesF, put, hfx.hb, w64 base (by omega) (by omega)]
    refine ⟨?_, ?_, ?_, ?_, ?_⟩
    · rw [hw]
      simp [refNext, hc, hl0, show ¬ i < 0 by omega]
    · rw [hw]
      exact ⟨(hok.thn _).todo _, ⟨hfx.hb, hfx.hm, hfx.hc, hfx.hk, hfx.hv⟩, .fine2 _ _ _ _ _ _ rfl rfl hc rfl hi0 hi⟩
    · rw [hw]
      exact .inr ⟨.inr rfl, by show base ≤ base; omega, by show base < _; omega⟩
    · simp [writesF, rank, h]
    · simp [writesF, rank, put]
  | fine2 _ _ read c i free h ht hc hl hi0 hi =>
    rw [hthen ht]
    have hl0 := hi [c]
    simp only [readsNext, writesNext, wantsF, hl, thenF, h]
    refine ⟨?_, ⟨hok.thn _, ⟨hfx.hb, hfx.hm, hfx.hc, hfx.hk, hfx.hv⟩, .fin _ _ _ _ rfl ht rfl (.inl ⟨rfl, rfl, .inl rfl⟩)⟩, .inl ⟨rfl, rfl, .inl rfl⟩, ?_, ?_⟩
    · simp [doneF, refNext, hc, endW, hl0, show ¬ i < 0 by omega]
    · simp [doneF, rank]
    · simp [doneF, rank]
  | lostK _ _ _ h ht hc hl hi =>
    rw [hthen ht]
    have hl0 := hi [v]
    have hfm := hok.f2
    have hf0 := hok.f0
    rw [hfx.hm] at hfm
    simp only [readsNext, writesNext, wantsF, hl, thenF, h, lostKF]
    simp only [if_true, if_neg (show ¬ (2 : Int) = 3 by omega), if_neg (show ¬ (2 : Int) = 6 by omega)]
    by_cases hfull' : s.most ≤ v ∨ s.free < 0
    · have hfull := hfull'
      rw [hfx.hm] at hfull
      rw [if_pos hfull']
      refine ⟨?_, ⟨hok.thn _, ⟨hfx.hb, hfx.hm, hfx.hc, hfx.hk, hfx.hv⟩, .fin _ _ _ _ rfl ht rfl (.inl ⟨rfl, rfl, .inr rfl⟩)⟩, .inl ⟨rfl, rfl, .inr rfl⟩, ?_, ?_⟩
      · simp [doneF, refNext, hc, endW, hl0, putsF, hfull]
      · simp [doneF, rank]
      · simp [doneF, rank]
    · have hfull := hfull'
      rw [hfx.hm] at hfull
      rw [if_neg hfull']
      have hw : (writesF { s with thn := .fine } ⟨0, 1 + 3 * s.free, 1, 0⟩ [⟨0, 1 + 3 * s.free + 1, s.k, 0⟩, ⟨0, 1 + 3 * s.free + 2, s.v, 0⟩, ⟨0, 0, wrap64 (v + 1), 0⟩]).1 = ⟨3, base + 1 + 3 * s.free, 1, 0⟩ := by
        simp only [writesF, put, hfx.hb]
        rw [w64 _ (by omega) (by omega)]
        congr 1
        omega
      refine ⟨?_, ?_, ?_, ?_, ?_⟩
      · rw [hw]
        simp [refNext, hc, hl0, putsF, hfull]
      · rw [hw]
        refine ⟨(hok.thn _).todo _, ⟨hfx.hb, hfx.hm, hfx.hc, hfx.hk, hfx.hv⟩, .writes _ _ _ v 0 rfl hc rfl (by omega) (by show 0 ≤ s.free; omega) (by omega) ?_ hi⟩
        simp only [writesF, List.map_cons, List.map_nil, List.drop_zero, put, hfx.hb, hfx.hk, hfx.hv]
        rw [w64 (1 + 3 * s.free + 1 + base) (by omega) (by omega), w64 (1 + 3 * s.free + 2 + base) (by omega) (by omega), w64 (0 + base) (by omega) (by omega)]
        rw [show 1 + 3 * s.free + 1 + base = base + 1 + 3 * s.free + 1 by omega, show 1 + 3 * s.free + 2 + base = base + 1 + 3 * s.free + 2 by omega, show 0 + base = base by omega]
      · rw [hw]
        refine .inr ⟨.inr rfl, ?_, ?_⟩
        · show base ≤ base + 1 + 3 * s.free
          omega
        · show base + 1 + 3 * s.free < base + (3 * most + 1)
          omega
      · simp [writesF, rank, h]
      · simp [writesF, rank, put]
  | writes _ _ read c n h hc hl hn hf hcm ht hi =>
    have hl0 := hi [c]
    have hfm := hok.f2
    rw [hfx.hm] at hfm
    simp only [readsNext, writesNext, wantsF, hl]
    simp only [if_true, if_neg (show ¬ (3 : Int) = 2 by omega), if_neg (show ¬ (3 : Int) = 6 by omega)]
    have hfull : ¬ (most ≤ c ∨ s.free < 0) := by omega
    match n, hn with
    | 0, _ =>
      simp only [nextF, ht, List.drop_zero]
      refine ⟨?_, ⟨hok.todo _, ⟨hfx.hb, hfx.hm, hfx.hc, hfx.hk, hfx.hv⟩, .writes _ _ read c 1 h hc rfl (by omega) hf hcm rfl hi⟩, .inr ⟨.inr rfl, ?_, ?_⟩, ?_, ?_⟩
      · simp [refNext, hc, hl0, putsF, hfull]
      · show base ≤ base + 1 + 3 * s.free + 1
        omega
      · show base + 1 + 3 * s.free + 1 < base + (3 * most + 1)
        omega
      · simp [rank, h, ht]
      · simp [rank, h]
    | 1, _ =>
      simp only [nextF, ht, List.drop_succ_cons, List.drop_zero]
      refine ⟨?_, ⟨hok.todo _, ⟨hfx.hb, hfx.hm, hfx.hc, hfx.hk, hfx.hv⟩, .writes _ _ read c 2 h hc rfl (by omega) hf hcm rfl hi⟩, .inr ⟨.inr rfl, ?_, ?_⟩, ?_, ?_⟩
      · simp [refNext, hc, hl0, putsF, hfull]
      · show base ≤ base + 1 + 3 * s.free + 2
        omega
      · show base + 1 + 3 * s.free + 2 < base + (3 * most + 1)
        omega
      · simp [rank, h, ht]
      · simp [rank, h]
    | 2, _ =>
      simp only [nextF, ht, List.drop_succ_cons, List.drop_zero]
      refine ⟨?_, ⟨hok.todo _, ⟨hfx.hb, hfx.hm, hfx.hc, hfx.hk, hfx.hv⟩, .writes _ _ read c 3 h hc rfl (by omega) hf hcm rfl hi⟩, .inr ⟨.inr rfl, ?_, ?_⟩, ?_, ?_⟩
      · simp [refNext, hc, hl0, putsF, hfull]
      · show base ≤ base
        omega
      · show base < base + (3 * most + 1)
        omega
      · simp [rank, h, ht]
      · simp [rank, h]
    | 3, _ =>
      have ht' : s.todo = [] := by rw [ht]; rfl
      rw [hthen ht']
      simp only [thenF, h]
      refine ⟨?_, ⟨hok.thn _, ⟨hfx.hb, hfx.hm, hfx.hc, hfx.hk, hfx.hv⟩, .fin _ _ _ _ rfl ht' rfl (.inl ⟨rfl, rfl, .inl rfl⟩)⟩, .inl ⟨rfl, rfl, .inl rfl⟩, ?_, ?_⟩
      · simp [doneF, refNext, hc, endW, hl0, putsF, hfull]
      · simp [doneF, rank]
      · simp [doneF, rank]
    | n + 4, hn => exact absurd hn (by omega)
  | fin _ _ _ w h ht hl hw =>
    rw [hthen ht]
    simp only [readsNext, writesNext, wantsF, hl, thenF, h]
    refine ⟨rfl, ⟨hok, hfx, .fin _ _ _ _ h ht hl hw⟩, hw, ?_, ?_⟩
    · simp [rank, h]
    · simp [rank, h, hl]
end Go.Proofs.Ytjggcidaolnmbaa
