/- What Print writes, parsed; plain. -/
import Derived.Test.YthghnihlfdoefaaDoorCj
namespace Go.Proofs.YthghnihlfdoefaaDoor
open Go Go.Lib
set_option linter.unusedVariables false
set_option linter.unusedSimpArgs false

/-- Bytes that a word may have. -/
def Wd (l : List UInt8) : Prop := ∀ c ∈ l, isGap c = false ∧ c ≠ 35 ∧ c ≠ 10
theorem Wd.app {l r : List UInt8} (h : Wd l) (k : Wd r) : Wd (l ++ r) := fun c hc => (List.mem_append.1 hc).elim (h c) (k c)
theorem sc_wd (a : Nat) (q p : List UInt8) (h : Wd p) : sc a (q ++ p) = ((sc a q).1, (sc a q).2.1 ++ p, q.length + p.length) := by
  induction p using snoc_ind' with
  | h0 => rw [List.append_nil, List.append_nil, List.length_nil, Nat.add_zero, ← sc_len a q]
  | h1 l x ih =>
    rw [← List.append_assoc, sc_chr _ _ _ (h x (by simp)).1, ih fun c hc => h c (List.mem_append_left _ hc)]
    simp [Nat.add_assoc]
theorem tok_one (u : List UInt8) (a : Nat) (h : Wd u) (h0 : u ≠ []) : lineTok u a = [⟨u, a⟩] := by
  unfold lineTok
  rw [cutR_clean _ fun hc => (h 35 hc).2.1 rfl]
  have := sc_wd a [] u h
  rw [List.nil_append] at this
  rw [this]
  unfold flushT
  simp [sc, h0]
theorem tok_two (u v : List UInt8) (a : Nat) (h : Wd u) (h0 : u ≠ []) (k : Wd v) (k0 : v ≠ []) : lineTok (u ++ 32 :: v) a = [⟨u, a⟩, ⟨v, a + (u.length + 1)⟩] := by
  have hc : (35 : UInt8) ∉ u ++ 32 :: v := by
    intro hc
    rcases List.mem_append.1 hc with hc | hc
    · exact (h 35 hc).2.1 rfl
    · rcases List.mem_cons.1 hc with hc | hc
      · cases hc
      · exact (k 35 hc).2.1 rfl
  unfold lineTok
  rw [cutR_clean _ hc]
  have e1 : u ++ 32 :: v = (u ++ [32]) ++ v := by simp
  have h1 := sc_wd a [] u h
  rw [List.nil_append] at h1
  rw [e1, sc_wd a _ v k, sc_gap a u 32 rfl, h1]
  unfold flushT
  simp [sc, h0, k0]
theorem split_lines' : ∀ (ls : List (List UInt8)), (∀ l ∈ ls, (10 : UInt8) ∉ l) → splitF 10 (ls.flatMap fun l => l ++ [10]) = ls ++ [[]]
  | [], _ => rfl
  | l :: ls, h => by
    rw [List.flatMap_cons, List.append_assoc, List.singleton_append, splitF_hit 10 l _ (h l (by simp)), split_lines' ls fun x hx => h x (List.mem_cons_of_mem _ hx)]
    rfl
theorem toksFrom_app : ∀ (l1 : List (List UInt8)) (a : Nat) (l2 : List (List UInt8)), ∃ a', toksFrom a (l1 ++ l2) = toksFrom a l1 ++ toksFrom a' l2
  | [], a, l2 => ⟨a, rfl⟩
  | l :: l1, a, l2 => by
    obtain ⟨a', h⟩ := toksFrom_app l1 (a + l.length + 1) l2
    exact ⟨a', by simp only [List.cons_append, toksFrom, h]⟩
/-! ### the lines that Print writes -/
def labW (p : Int) : List UInt8 := 76 :: itoa p
def lbl (L : List AOp) (p : Nat) : List (List UInt8) := if markF L L.length p then [labW p ++ [58]] else []
def rawI (L : List AOp) (i : Nat) : List (List UInt8) := lbl L (sizeF (L.take i)) ++ [wordsB.getD (L.getD i ⟨0, 0⟩).code [] ++ oprF L i]
def rawTo (L : List AOp) (m : Nat) : List (List UInt8) := (List.range m).flatMap (rawI L)
theorem rawTo_succ (L : List AOp) (m : Nat) : rawTo L (m + 1) = rawTo L m ++ rawI L m := by
  unfold rawTo
  rw [List.range_succ, List.flatMap_append, List.flatMap_cons, List.flatMap_nil, List.append_nil]
theorem lbl_text (L : List AOp) (p : Nat) : labF L p = (lbl L p).flatMap fun l => l ++ [10] := by
  unfold labF lbl
  split
  · simp [labelB, labW]
  · rfl
theorem raw_text (L : List AOp) (m : Nat) : linesF L m = (rawTo L m).flatMap fun l => l ++ [10] := by
  induction m with
  | zero => rfl
  | succ m ih =>
    rw [linesF_succ, rawTo_succ, List.flatMap_append, ih]
    congr 1
    unfold lineF rawI
    rw [List.flatMap_append, lbl_text]
    simp
theorem print_text (L : List AOp) : printF L = (rawTo L L.length ++ lbl L (sizeF L)).flatMap fun l => l ++ [10] := by
  unfold printF
  rw [List.flatMap_append, raw_text, lbl_text]
/-! ### words -/
theorem words_wd : ∀ c, c < 41 → (∀ x ∈ wordsB.getD c [], isGap x = false ∧ x ≠ 35 ∧ x ≠ 10) ∧ wordsB.getD c [] ≠ [] ∧ codeF (wordsB.getD c []) = some c ∧ (wordsB.getD c []).getLast? ≠ some 58 := by decide +kernel
theorem dig_wd {l : List UInt8} (h : ∀ c ∈ l, isDig c = true) : Wd l := by
  intro c hc
  have h1 : 48 ≤ c.toNat ∧ c.toNat ≤ 57 := by simpa [isDig] using h c hc
  refine ⟨?_, ?_, ?_⟩
  · unfold isGap
    rw [Bool.or_eq_false_iff, beq_eq_false_iff_ne, beq_eq_false_iff_ne]
    exact ⟨by rintro rfl; simp at h1, by rintro rfl; simp at h1⟩
  · rintro rfl; simp at h1
  · rintro rfl; simp at h1
theorem itoa_nat (n : Nat) : itoa (n : Int) = decDigits n := by
  unfold itoa
  rw [if_neg (by omega)]
  simp
theorem itoa_wd (v : Int) : Wd (itoa v) ∧ itoa v ≠ [] := by
  unfold itoa
  split
  · refine ⟨fun c hc => ?_, by simp⟩
    rcases List.mem_cons.1 hc with rfl | hc
    · exact ⟨rfl, by decide, by decide⟩
    · exact dig_wd (decDigits_dig _) c hc
  · exact ⟨dig_wd (decDigits_dig _), digits_ne _⟩
theorem labW_wd (v : Int) : Wd (labW v) ∧ labW v ≠ [] := by
  refine ⟨fun c hc => ?_, by simp [labW]⟩
  rcases List.mem_cons.1 hc with rfl | hc
  · exact ⟨rfl, by decide, by decide⟩
  · exact (itoa_wd v).1 c hc
theorem labW_inj {a b : Nat} (h : labW (a : Int) = labW (b : Int)) : a = b := by
  unfold labW at h
  injection h with _ h
  rw [itoa_nat, itoa_nat] at h
  have := congrArg decV h
  rwa [decV_digits, decV_digits] at this
theorem nameF_labW (p : Nat) (h : p ≤ 99999) : nameF (labW (p : Int)) = true := by
  unfold nameF labW
  rw [itoa_nat]
  simp only [Bool.and_eq_true, decide_eq_true_eq, List.all_eq_true, List.mem_range]
  have hl : (decDigits p).length ≤ 6 := by
    rw [decDigits_length]
    by_cases h1 : p < 10
    · rw [nDigits_small h1]; omega
    · rw [nDigits_big h1]
      by_cases h2 : p / 10 < 10
      · rw [nDigits_small h2]; omega
      · rw [nDigits_big h2]
        by_cases h3 : p / 10 / 10 < 10
        · rw [nDigits_small h3]; omega
        · rw [nDigits_big h3]
          by_cases h4 : p / 10 / 10 / 10 < 10
          · rw [nDigits_small h4]; omega
          · rw [nDigits_big h4, nDigits_small (by omega)]; omega
  refine ⟨⟨rfl, by rw [List.length_cons]; omega⟩, fun i hi => ?_⟩
  cases i with
  | zero => rfl
  | succ i =>
    have hi' : i < (decDigits p).length := by simpa using hi
    have hd := decDigits_dig p _ (List.getElem_mem hi')
    have : (76 :: decDigits p).getD (i + 1) 0 = (decDigits p)[i] := by
      rw [List.getD_eq_getElem?_getD, List.getElem?_cons_succ, List.getElem?_eq_getElem hi']
      rfl
    rw [this]
    unfold chF
    rw [hd]
    simp
theorem numF_labW (v : Int) : numF (labW v) = none := by
  cases h : numF (labW v) with
  | none => rfl
  | some n =>
    have h1 := (numF_some.1 h).2
    obtain ⟨rest, hr⟩ : ∃ rest, labW v = 76 :: rest := ⟨_, rfl⟩
    rw [hr] at h1
    unfold itoa at h1
    by_cases hn : n < 0
    · rw [if_pos hn] at h1
      injection h1 with h1 h2
      cases h1
    · rw [if_neg hn] at h1
      have h2 := decDigits_dig n.toNat 76 (by rw [← h1]; simp)
      cases h2
end Go.Proofs.YthghnihlfdoefaaDoor
