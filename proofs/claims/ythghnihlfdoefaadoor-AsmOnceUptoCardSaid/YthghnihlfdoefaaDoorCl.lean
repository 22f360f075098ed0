/- Parse of Print is the program; plain. -/
import Derived.Test.YthghnihlfdoefaaDoorCk
namespace Go.Proofs.YthghnihlfdoefaaDoor
open Go Go.Lib
set_option linter.unusedVariables false
set_option linter.unusedSimpArgs false

theorem sizeF_step (L : List AOp) (i : Nat) (h : i < L.length) : sizeF (L.take i) < sizeF (L.take (i + 1)) := by rw [sizeF_take L i h]; omega
theorem sizeF_mono (L : List AOp) : ∀ (k i : Nat), i + k ≤ L.length → sizeF (L.take i) ≤ sizeF (L.take (i + k))
  | 0, i, _ => Nat.le_refl _
  | k + 1, i, h => by
    have h1 := sizeF_mono L k i (by omega)
    have h2 := sizeF_step L (i + k) (by omega)
    rw [Nat.add_assoc] at h2
    omega
theorem sizeF_lt (L : List AOp) {i m : Nat} (h : i < m) (hm : m ≤ L.length) : sizeF (L.take i) < sizeF (L.take m) := by
  have h1 := sizeF_step L i (by omega)
  have h2 := sizeF_mono L (m - (i + 1)) (i + 1) (by omega)
  rw [show i + 1 + (m - (i + 1)) = m by omega] at h2
  omega
theorem labF2_miss {l : List (List UInt8 × Nat)} {n : List UInt8} (h : ∀ x ∈ l, x.1 ≠ n) : labF2 l n = none := by
  unfold labF2
  rw [Option.map_eq_none_iff, List.find?_eq_none]
  intro x hx
  simpa using h x hx
theorem labF2_in {l : List (List UInt8 × Nat)} {k : Nat} (h : ∀ x ∈ l, ∃ p : Nat, x = (labW (p : Int), p)) (hk : (labW (k : Int), k) ∈ l) : labF2 l (labW (k : Int)) = some k := by
  unfold labF2
  cases hf : l.find? (fun p => p.1 == labW (k : Int)) with
  | none =>
    have := List.find?_eq_none.1 hf _ hk
    simp at this
  | some x =>
    have h1 := List.find?_some hf
    have h2 := List.mem_of_find?_eq_some hf
    obtain ⟨p, rfl⟩ := h x h2
    rw [beq_iff_eq] at h1
    rw [labW_inj h1]
    rfl
theorem line_label (r : RSt) (w : List UInt8) (a : Nat) (h1 : nameF w = true) (h2 : labF2 r.labels w = none) : lineL r [⟨w ++ [58], a⟩] = .ok ⟨r.labels ++ [(w, r.size)], r.ins⟩ := by
  unfold lineL
  simp [h1, h2]
theorem line_ins (r : RSt) (t : Tok) (rest : List Tok) (h : t.s.getLast? ≠ some 58) : lineL r (t :: rest) = insL r t rest := by
  unfold lineL
  have : (t.s.getLast? == some 58) = false := by rw [beq_eq_false_iff_ne]; exact h
  simp only [this]
  rfl
theorem ins_none (r : RSt) (t : Tok) {c : Nat} (hc : codeF t.s = some c) (hw : widthF (shapeF c) = 0) (hs : r.size + (1 + widthF (shapeF c)) ≤ 512) : insL r t [] = .ok ⟨r.labels, r.ins ++ [⟨c, 0, r.size, noTok⟩]⟩ := by
  unfold insL
  simp only [hc]
  rw [if_neg (by omega)]
  unfold endL
  simp only
  rw [if_neg (by omega)]
theorem ins_num (r : RSt) (t u : Tok) {c : Nat} {v : Int} (hc : codeF t.s = some c) (hw : 0 < widthF (shapeF c)) (hv : numF u.s = some v) (hf : fitsF (shapeF c) v = true) (hs : r.size + (1 + widthF (shapeF c)) ≤ 512) : insL r t [u] = .ok ⟨r.labels, r.ins ++ [⟨c, v, r.size, noTok⟩]⟩ := by
  unfold insL
  simp only [hc]
  rw [if_pos hw]
  unfold oprL
  simp only [hv, hf, if_true]
  unfold endL
  simp only
  rw [if_neg (by omega)]
theorem ins_nam (r : RSt) (t u : Tok) {c : Nat} (hc : codeF t.s = some c) (hw : 0 < widthF (shapeF c)) (hv : numF u.s = none) (hl : leadsF c = true) (hn : nameF u.s = true) (hs : r.size + (1 + widthF (shapeF c)) ≤ 512) : insL r t [u] = .ok ⟨r.labels, r.ins ++ [⟨c, 0, r.size, u⟩]⟩ := by
  unfold insL
  simp only [hc]
  rw [if_pos hw]
  unfold oprL
  simp only [hv, hl, hn, Bool.and_self, if_true]
  unfold endL
  simp only
  rw [if_neg (by omega)]
/-- What was read of the first instructions. -/
structure Inv (L : List AOp) (m : Nat) (r : RSt) : Prop where
  len : r.ins.length = m
  ins : ∀ (i : Nat) (x : Ins), r.ins[i]? = some x → x.code = (L.getD i ⟨0, 0⟩).code ∧ x.pos = sizeF (L.take i) ∧ (tgtAt L i = none → x.name.s = [] ∧ x.operand = (L.getD i ⟨0, 0⟩).operand) ∧ (∀ t, tgtAt L i = some t → x.name.s = labW t)
  size : r.size = sizeF (L.take m)
  labs : ∀ x ∈ r.labels, ∃ p : Nat, x = (labW (p : Int), p) ∧ p < sizeF (L.take m)
  has : ∀ i, i < m → markF L L.length ((sizeF (L.take i) : Nat) : Int) = true → (labW ((sizeF (L.take i) : Nat) : Int), sizeF (L.take i)) ∈ r.labels
theorem Inv.start (L : List AOp) : Inv L 0 ⟨[], []⟩ := ⟨rfl, fun i x h => (by simp at h), rfl, fun x h => (by cases h), fun i h => absurd h (by omega)⟩
theorem lbl_run (L : List AOp) (r : RSt) (p a : Nat) (hr : r.size = p) (hp : p ≤ 99999) (hl : ∀ x ∈ r.labels, ∃ q : Nat, x = (labW (q : Int), q) ∧ q < p) :
    ∃ r', linesL r (toksFrom a (lbl L p)) = .ok r' ∧ r'.ins = r.ins ∧ (∀ x ∈ r.labels, x ∈ r'.labels) ∧ (∀ x ∈ r'.labels, ∃ q : Nat, x = (labW (q : Int), q) ∧ q ≤ p) ∧ (markF L L.length (p : Int) = true → (labW (p : Int), p) ∈ r'.labels) := by
  unfold lbl
  by_cases hm : markF L L.length (p : Int) = true
  · rw [if_pos hm]
    have hw := labW_wd (p : Int)
    have ht : lineTok (labW (p : Int) ++ [58]) a = [⟨labW (p : Int) ++ [58], a⟩] := tok_one _ a (hw.1.app fun c hc => by obtain rfl := List.mem_singleton.1 hc; exact ⟨rfl, by decide, by decide⟩) (by simp)
    have hmiss : labF2 r.labels (labW (p : Int)) = none := labF2_miss fun x hx => by
      obtain ⟨q, rfl, hq⟩ := hl x hx
      intro e
      have := labW_inj e
      omega
    refine ⟨⟨r.labels ++ [(labW (p : Int), r.size)], r.ins⟩, ?_, rfl, fun x hx => List.mem_append_left _ hx, fun x hx => ?_, fun _ => by rw [hr]; simp⟩
    · simp only [toksFrom, ht, linesL_cons]
      rw [line_label r _ a (nameF_labW p hp) hmiss]
      rfl
    · rcases List.mem_append.1 hx with hx | hx
      · obtain ⟨q, e, hq⟩ := hl x hx
        exact ⟨q, e, by omega⟩
      · obtain rfl := List.mem_singleton.1 hx
        exact ⟨p, by rw [hr], Nat.le_refl _⟩
  · rw [if_neg hm]
    exact ⟨r, rfl, rfl, fun x hx => hx, fun x hx => by obtain ⟨q, e, hq⟩ := hl x hx; exact ⟨q, e, by omega⟩, fun h => absurd h hm⟩
theorem tgt_leads {L : List AOp} {i : Nat} {t : Int} (h : tgtAt L i = some t) : leadsF (L.getD i ⟨0, 0⟩).code = true ∧ toF (L.getD i ⟨0, 0⟩) (sizeF (L.take i)) = t ∧ begF L L.length t = true := by
  unfold tgtAt tgtF at h
  split at h
  · rename_i hh
    injection h with h
    rw [Bool.and_eq_true] at hh
    exact ⟨hh.1, h, by rw [← h]; exact hh.2⟩
  · cases h
theorem lead_width {c : Nat} (h : leadsF c = true) : 0 < widthF (shapeF c) := by
  unfold leadsF at h
  simp only [Bool.or_eq_true, beq_iff_eq] at h
  rcases h with (rfl | rfl) | rfl <;> decide
theorem i64ok_i64ok0 {v : Int} (h : i64ok v) : i64ok0 v := h
theorem Inv.step {L : List AOp} (hL : Enc L) (hs : sizeF L ≤ 512) {m : Nat} {r : RSt} (h : Inv L m r) (hm : m < L.length) (a : Nat) : ∃ r', linesL r (toksFrom a (rawI L m)) = .ok r' ∧ Inv L (m + 1) r' := by
  have hp512 := sizeF_le L m
  obtain ⟨r1, h1, h2, h3, h4, h5⟩ := lbl_run L r (sizeF (L.take m)) a h.size (by omega) h.labs
  obtain ⟨a', ha⟩ := toksFrom_app (lbl L (sizeF (L.take m))) a [wordsB.getD (L.getD m ⟨0, 0⟩).code [] ++ oprF L m]
  have hr1 : r1.size = sizeF (L.take m) := by have := h.size; unfold RSt.size at this ⊢; rw [h2]; exact this
  obtain ⟨o, ho⟩ : ∃ o, o = L.getD m ⟨0, 0⟩ := ⟨_, rfl⟩
  have hoL : o = L[m] := by rw [ho, List.getD_eq_getElem?_getD, List.getElem?_eq_getElem hm]; rfl
  obtain ⟨g1, g2, g3⟩ := hL o (hoL ▸ List.getElem_mem hm)
  obtain ⟨w1, w2, w3, w4⟩ := words_wd o.code g1
  have hsz : sizeF (L.take (m + 1)) = sizeF (L.take m) + (1 + widthF (shapeF o.code)) := by rw [hoL]; exact sizeF_take L m hm
  have hs1 := sizeF_le L (m + 1)
  have hbound : r1.size + (1 + widthF (shapeF o.code)) ≤ 512 := by rw [hr1]; omega
  -- the instruction's line
  have key : ∃ x : Ins, linesL r1 (toksFrom a' [wordsB.getD o.code [] ++ oprF L m]) = .ok ⟨r1.labels, r1.ins ++ [x]⟩ ∧ x.code = o.code ∧ x.pos = sizeF (L.take m) ∧ (tgtAt L m = none → x.name.s = [] ∧ x.operand = o.operand) ∧ (∀ t, tgtAt L m = some t → x.name.s = labW t) := by
    have hone : ∀ (T : List Tok) (x : Ins), lineTok (wordsB.getD o.code [] ++ oprF L m) a' = T → lineL r1 T = .ok ⟨r1.labels, r1.ins ++ [x]⟩ → linesL r1 (toksFrom a' [wordsB.getD o.code [] ++ oprF L m]) = .ok ⟨r1.labels, r1.ins ++ [x]⟩ := by
      intro T x e1 e2
      simp only [toksFrom, e1, linesL_cons, e2]
      rfl
    cases ht : tgtAt L m with
    | some t =>
      obtain ⟨l1, l2, l3⟩ := tgt_leads ht
      rw [← ho] at l1 l2
      have htok := tgt_ok (L := L) (o := o) (p := sizeF (L.take m)) (t := t) (by rw [ho]; exact ht)
      have hopr : oprF L m = 32 :: labW t := by unfold oprF; rw [ht]; rfl
      have hw := labW_wd t
      obtain ⟨k, rfl⟩ : ∃ k : Nat, t = (k : Int) := ⟨t.toNat, by omega⟩
      refine ⟨⟨o.code, 0, r1.size, ⟨labW (k : Int), a' + ((wordsB.getD o.code []).length + 1)⟩⟩, hone [⟨wordsB.getD o.code [], a'⟩, ⟨labW (k : Int), a' + ((wordsB.getD o.code []).length + 1)⟩] _ (by rw [hopr]; exact tok_two _ _ a' w1 w2 hw.1 hw.2) ?_, rfl, hr1, fun h => (by cases h), fun t' h => (by injection h with h; rw [← h])⟩
      rw [line_ins r1 ⟨wordsB.getD o.code [], a'⟩ _ w4]
      exact ins_nam _ _ _ w3 (lead_width l1) (numF_labW _) l1 (nameF_labW k (by omega)) hbound
    | none =>
      by_cases hw : 0 < widthF (shapeF o.code)
      · have hopr : oprF L m = 32 :: itoa o.operand := by unfold oprF; rw [ht, ← ho]; simp only; rw [if_pos hw]
        have hwd := itoa_wd o.operand
        refine ⟨⟨o.code, o.operand, r1.size, noTok⟩, hone [⟨wordsB.getD o.code [], a'⟩, ⟨itoa o.operand, a' + ((wordsB.getD o.code []).length + 1)⟩] _ (by rw [hopr]; exact tok_two _ _ a' w1 w2 hwd.1 hwd.2) ?_, rfl, hr1, fun _ => ⟨rfl, rfl⟩, fun t h => (by cases h)⟩
        rw [line_ins r1 ⟨wordsB.getD o.code [], a'⟩ _ w4]
        exact ins_num _ _ _ w3 hw (numF_some.2 ⟨g3, rfl⟩) g2 hbound
      · have hopr : oprF L m = [] := by unfold oprF; rw [ht, ← ho]; simp only; rw [if_neg hw]
        have h0 : o.operand = 0 := by
          have hz : widthF (shapeF o.code) = 0 := by omega
          rcases shape_cases o.code g1 with ⟨_, h⟩ | ⟨_, h⟩ | ⟨_, h⟩ | ⟨_, h⟩ | ⟨_, h⟩ | ⟨_, h⟩ | ⟨_, h⟩ <;> rw [h] at hz g2
          all_goals first | (simp [widthF] at hz; done) | (simp [fitsF] at g2; exact g2)
        refine ⟨⟨o.code, 0, r1.size, noTok⟩, hone [⟨wordsB.getD o.code [], a'⟩] _ (by rw [hopr, List.append_nil]; exact tok_one _ a' w1 w2) ?_, rfl, hr1, fun _ => ⟨rfl, h0.symm⟩, fun t h => (by cases h)⟩
        rw [line_ins r1 ⟨wordsB.getD o.code [], a'⟩ _ w4]
        exact ins_none _ _ w3 (by omega) hbound
  obtain ⟨x, k1, k2, k3, k4, k5⟩ := key
  refine ⟨⟨r1.labels, r1.ins ++ [x]⟩, ?_, ?_, ?_, ?_, ?_, ?_⟩
  · unfold rawI
    rw [ha, linesL_app, h1, ← ho]
    exact k1
  · simp only [List.length_append, List.length_singleton, h2, h.len]
  · intro i y hy
    rcases Nat.lt_or_ge i m with hi | hi
    · simp only at hy
      rw [h2, List.getElem?_append_left (by rw [h.len]; exact hi)] at hy
      exact h.ins i y hy
    · simp only at hy
      rw [h2, List.getElem?_append_right (by rw [h.len]; exact hi), h.len] at hy
      have hi0 : i - m = 0 := by
        rcases Nat.eq_zero_or_pos (i - m) with h0 | h0
        · exact h0
        · rw [List.getElem?_eq_none (by rw [List.length_singleton]; omega)] at hy; cases hy
      rw [hi0] at hy
      simp only [List.getElem?_cons_zero, Option.some.injEq] at hy
      subst hy
      obtain rfl : i = m := by omega
      rw [← ho]
      exact ⟨k2, k3, k4, k5⟩
  · have hs2 : RSt.size ⟨r1.labels, r1.ins ++ [x]⟩ = r1.size + (1 + widthF (shapeF x.code)) := by
      unfold RSt.size
      rw [List.map_append]
      exact sizeF_snoc _ _
    rw [hs2, hr1, k2, hsz]
  · intro y hy
    obtain ⟨q, e, hq⟩ := h4 y hy
    exact ⟨q, e, by rw [hsz]; omega⟩
  · intro i hi hmk
    rcases Nat.lt_or_ge i m with him | him
    · exact h3 _ (h.has i him hmk)
    · obtain rfl : i = m := by omega
      exact h5 hmk
theorem run_print {L : List AOp} (hL : Enc L) (hs : sizeF L ≤ 512) : ∀ m, m ≤ L.length → ∀ a, ∃ r, linesL ⟨[], []⟩ (toksFrom a (rawTo L m)) = .ok r ∧ Inv L m r
  | 0, _, a => ⟨_, rfl, Inv.start L⟩
  | m + 1, h, a => by
    obtain ⟨r, h1, h2⟩ := run_print hL hs m (by omega) a
    obtain ⟨a', ha⟩ := toksFrom_app (rawTo L m) a (rawI L m)
    obtain ⟨r', h3, h4⟩ := h2.step hL hs (by omega) a'
    refine ⟨r', ?_, h4⟩
    rw [rawTo_succ, ha, linesL_app, h1]
    exact h3
theorem resL_all {ls : List (List UInt8 × Nat)} {l : List Ins} {L : List AOp} (hlen : l.length = L.length) (h : ∀ (i : Nat) (x : Ins) (o : AOp), l[i]? = some x → L[i]? = some o → resOne ls x = .ok o) : ∀ m, m ≤ L.length → resL ls (l.take m) = .ok (L.take m)
  | 0, _ => rfl
  | m + 1, hm => by
    have h1 := resL_all hlen h m (by omega)
    rw [resL_take ls l m (by omega), h1]
    simp only
    rw [h m l[m] L[m] (List.getElem?_eq_getElem _) (List.getElem?_eq_getElem _)]
    simp only
    rw [List.take_succ_eq_append_getElem (by omega)]
theorem oprF_wd (L : List AOp) (i : Nat) : (10 : UInt8) ∉ oprF L i := by
  unfold oprF
  split
  · rename_i t _
    intro h
    rcases List.mem_cons.1 h with h | h
    · cases h
    · exact ((labW_wd t).1 10 h).2.2 rfl
  · split
    · intro h
      rcases List.mem_cons.1 h with h | h
      · cases h
      · exact ((itoa_wd _).1 10 h).2.2 rfl
    · simp
theorem lbl_no10 (L : List AOp) (p : Nat) : ∀ l ∈ lbl L p, (10 : UInt8) ∉ l := by
  intro l hl
  unfold lbl at hl
  split at hl
  · obtain rfl := List.mem_singleton.1 hl
    intro h
    rcases List.mem_append.1 h with h | h
    · exact ((labW_wd _).1 10 h).2.2 rfl
    · have := List.mem_singleton.1 h; cases this
  · cases hl
theorem raw_no10 (L : List AOp) (hL : Enc L) (m : Nat) (hm : m ≤ L.length) : ∀ l ∈ rawTo L m, (10 : UInt8) ∉ l := by
  intro l hl
  obtain ⟨i, hi, hl⟩ := List.mem_flatMap.1 hl
  have hi' := List.mem_range.1 hi
  rcases List.mem_append.1 hl with hl | hl
  · exact lbl_no10 L _ l hl
  · obtain rfl := List.mem_singleton.1 hl
    have hc := (hL L[i] (List.getElem_mem _)).1
    have e : L.getD i ⟨0, 0⟩ = L[i] := by rw [List.getD_eq_getElem?_getD, List.getElem?_eq_getElem (by omega)]; rfl
    intro h
    rcases List.mem_append.1 h with h | h
    · rw [e] at h
      exact ((words_wd _ hc).1 10 h).2.2 rfl
    · exact oprF_wd L i h
theorem begF_iff' (L : List AOp) (m : Nat) (n : Int) : begF L m n = true ↔ n = (sizeF L : Int) ∨ ∃ i, i < m ∧ n = (sizeF (L.take i) : Int) := by
  simp [begF]
theorem markF_of (L : List AOp) {i : Nat} {t : Int} (hi : i < L.length) (h : tgtAt L i = some t) : markF L L.length t = true := by
  unfold markF
  rw [List.any_eq_true]
  exact ⟨i, List.mem_range.2 hi, by rw [h]; simp⟩
/-- Parse of Print is the program. -/
theorem parse_print {L : List AOp} (hL : Enc L) (hs : sizeF L ≤ 512) : parseF (printF L) = .ok L := by
  have hsp : lineToks (printF L) = toksFrom 0 (rawTo L L.length ++ lbl L (sizeF L) ++ [[]]) := by
    rw [lineToks_split, print_text, split_lines']
    intro l hl
    rcases List.mem_append.1 hl with hl | hl
    · exact raw_no10 L hL _ (Nat.le_refl _) l hl
    · exact lbl_no10 L _ l hl
  obtain ⟨r, h1, h2⟩ := run_print hL hs L.length (Nat.le_refl _) 0
  obtain ⟨a1, ha1⟩ := toksFrom_app (rawTo L L.length ++ lbl L (sizeF L)) 0 [[]]
  obtain ⟨a2, ha2⟩ := toksFrom_app (rawTo L L.length) 0 (lbl L (sizeF L))
  have htl : L.take L.length = L := List.take_length ..
  have hsize := h2.size
  have hlabs := h2.labs
  rw [htl] at hsize hlabs
  obtain ⟨r', g1, g2, g3, g4, g5⟩ := lbl_run L r (sizeF L) a2 hsize (by omega) hlabs
  have hrun : linesL ⟨[], []⟩ (lineToks (printF L)) = .ok r' := by
    rw [hsp, ha1, ha2, linesL_app, linesL_app, h1]
    simp only [g1]
    rfl
  have hlen : r'.ins.length = L.length := by rw [g2, h2.len]
  have hres : resL r'.labels r'.ins = .ok L := by
    have := resL_all (ls := r'.labels) (l := r'.ins) (L := L) hlen (fun i x o hx ho => by
      rw [g2] at hx
      obtain ⟨c1, c2, c3, c4⟩ := h2.ins i x hx
      have e : L.getD i ⟨0, 0⟩ = o := by rw [List.getD_eq_getElem?_getD, ho]; rfl
      rw [e] at c1 c3
      have hi : i < L.length := (List.getElem?_eq_some_iff.1 ho).1
      unfold resOne
      cases ht : tgtAt L i with
      | none =>
        obtain ⟨d1, d2⟩ := c3 ht
        rw [if_pos d1]
        unfold Ins.op
        rw [c1, d2]
      | some t =>
        have d1 := c4 t ht
        obtain ⟨l1, l2, l3⟩ := tgt_leads ht
        have hmk := markF_of L hi ht
        rw [e] at l2
        have hnn := tgt_ok (L := L) (o := L.getD i ⟨0, 0⟩) (p := sizeF (L.take i)) (t := t) ht
        obtain ⟨k, rfl⟩ : ∃ k : Nat, t = (k : Int) := ⟨t.toNat, by omega⟩
        rw [if_neg (by rw [d1]; exact (labW_wd _).2), d1]
        have hin : (labW (k : Int), k) ∈ r'.labels := by
          rcases (begF_iff' L L.length (k : Int)).1 l3 with hk | ⟨j, hj, hk⟩
          · have : k = sizeF L := by omega
            subst this
            exact g5 hmk
          · have : k = sizeF (L.take j) := by omega
            subst this
            exact g3 _ (h2.has j hj hmk)
        rw [labF2_in (fun x hx => by obtain ⟨q, e, _⟩ := g4 x hx; exact ⟨q, e⟩) hin]
        simp only
        rw [c1, c2]
        obtain ⟨oc, ov⟩ := o
        unfold toF at l2
        simp only at l2 ⊢
        congr 2
        split
        · rename_i h26; rw [if_pos h26] at l2; exact l2.symm
        · rename_i h26; rw [if_neg h26] at l2; omega) L.length (Nat.le_refl _)
    rwa [List.take_of_length_le (by omega), htl] at this
  unfold parseF
  rw [hrun]
  exact hres
end Go.Proofs.YthghnihlfdoefaaDoor
