/- Instructions as bytes, there and back; plain. -/
import Derived.Test.YtiheggkkgbfndaaGreatDoorK10
import Derived.Test.YtiheggkkgbfndaaGreatDoorK11
import Derived.Test.YtiheggkkgbfndaaGreatDoorK08
namespace Go.Proofs.YtiheggkkgbfndaaGreatDoor
open Go Go.Lib
set_option linter.unusedVariables false
set_option linter.unusedSimpArgs false
theorem digit_mod (X w k : Nat) (h : k < w) : (X % 256 ^ w) / 256 ^ k % 256 = X / 256 ^ k % 256 := by
 have e : 256 ^ w = 256 ^ k * (256 * 256 ^ (w - k - 1)) := by
  rw [← Nat.mul_assoc, ← Nat.pow_succ, ← Nat.pow_add]
  congr 1
  omega
 rw [e, Nat.mod_mul_right_div_self, Nat.mod_mul_right_mod]
theorem le_digit : ∀ (l : List Nat), (∀ b ∈ l, b < 256) → ∀ (k : Nat) (h : k < l.length), leF l / 256 ^ k % 256 = l[k]
 | [], _, k, h => absurd h (by simp)
 | b :: r, hb, 0, h => by
  have := hb b (by simp)
  simp [leF]
  omega
 | b :: r, hb, k + 1, h => by
  have h1 := hb b (by simp)
  have h2 := le_digit r (fun x hx => hb x (List.mem_cons_of_mem _ hx)) k (by simpa using h)
  rw [leF, Nat.pow_succ, Nat.mul_comm (256 ^ k) 256, ← Nat.div_div_eq_div_mul, show (b + 256 * leF r) / 256 = leF r by omega, h2]
  rfl
theorem le_digits (X : Nat) : ∀ (w : Nat), leF ((List.range w).map fun k => X / 256 ^ k % 256) = X % 256 ^ w
 | 0 => by simp [leF, Nat.mod_one]
 | w + 1 => by
  rw [List.range_succ, List.map_append, List.map_cons, List.map_nil, leF_snoc, le_digits X w, List.length_map, List.length_range, Nat.pow_succ, Nat.mod_mul]
theorem value_mod (sh n : Nat) (h : n < 256 ^ widthF sh) : u64F (valueF sh n) % 256 ^ widthF sh = n := by
 unfold widthF at *
 unfold u64F valueF
 by_cases h1 : sh = 1
 ·subst h1
  simp at h ⊢
  split <;> omega
 ·by_cases h2 : sh = 2
  ·subst h2
   simp at h ⊢
   split <;> omega
  ·by_cases h3 : sh = 3
   ·subst h3
    simp at h ⊢
    split <;> omega
   ·by_cases h4 : sh = 4
    ·subst h4
     simp at h ⊢
     omega
    ·by_cases h5 : sh = 5
     ·subst h5
      simp at h ⊢
      omega
     ·by_cases h6 : sh = 6
      ·subst h6
       simp at h ⊢
       omega
      ·simp [h1, h2, h3, h4, h5, h6] at h ⊢
       omega
theorem mod_value (sh : Nat) (v : Int) (h7 : sh < 7) (hf : fitsF sh v = true) (hv : i64ok v) : valueF sh (u64F v % 256 ^ widthF sh) = v := by
 unfold i64ok at hv
 unfold widthF u64F valueF
 unfold fitsF at hf
 match sh, h7 with
 | 0, _ => simp at hf ⊢; omega
 | 1, _ => simp at hf ⊢; split <;> omega
 | 2, _ => simp at hf ⊢; split <;> omega
 | 3, _ => simp at hf ⊢; split <;> omega
 | 4, _ => simp at hf ⊢; omega
 | 5, _ => simp at hf ⊢; omega
 | 6, _ => simp at hf ⊢; omega
theorem byteF_nat (v : Int) (k : Nat) : (byteF v k).toNat = u64F v / 256 ^ k % 256 := by
 unfold byteF
 rw [UInt8.toNat_ofNat']
theorem enc_at {s : List Nat} (hs : ∀ b ∈ s, b < 256) {p k : Nat} {o : AOp} (h : atF s p = some (o, k)) : (encB o).map UInt8.toNat = (s.drop p).take k := by
 unfold atF at h
 split at h
 ·rename_i hp
  simp only at h
  split at h
  ·rename_i hc
   split at h
   ·rename_i hw
    split at h
    ·rename_i hf
     injection h with h
     injection h with h1 h2
     subst h1 h2
     rw [List.drop_eq_getElem_cons hp, Nat.add_comm 1, List.take_succ_cons]
     have hg : s.getD p 0 = s[p] := by rw [List.getD_eq_getElem?_getD, List.getElem?_eq_getElem hp]; rfl
     rw [hg] at hc hw hf ⊢
     have hpc : s[p] < 256 := hs _ (List.getElem_mem hp)
     unfold encB
     simp only [List.map_cons, List.map_map]
     congr 1
     ·rw [UInt8.toNat_ofNat']; omega
     ·obtain ⟨w, hwd⟩ : ∃ w, w = widthF (shapeF s[p]) := ⟨_, rfl⟩
      obtain ⟨l, hl⟩ : ∃ l, l = (s.drop (p + 1)).take w := ⟨_, rfl⟩
      rw [← hwd] at hw ⊢
      rw [← hl]
      have hll : l.length = w := by rw [hl, List.length_take, List.length_drop]; omega
      have hlb : ∀ b ∈ l, b < 256 := fun b hb => hs b (List.mem_of_mem_drop (List.mem_of_mem_take (hl ▸ hb)))
      have hlt := leF_lt l hlb
      rw [hll, hwd] at hlt
      have hvm := value_mod (shapeF s[p]) (leF l) hlt
      rw [← hwd] at hvm
      apply List.ext_getElem
      ·simp [hll]
      ·intro k h1 h2
       have hk : k < w := by simpa using h1
       rw [List.getElem_map, List.getElem_range]
       show (byteF _ k).toNat = l[k]
       rw [byteF_nat, ← digit_mod _ w k hk, hvm]
       exact le_digit l hlb k (by omega)
    ·cases h
   ·cases h
  ·cases h
 ·cases h
theorem Dec.bytes {s : List Nat} (hs : ∀ b ∈ s, b < 256) {L : List AOp} {p : Nat} (h : Dec s L p) : (bytesOf L).map UInt8.toNat = s.take p := by
 induction h with
 | nil => rfl
 | snoc h1 h2 h3 ih =>
  rename_i L p o k
  have := enc_at hs h3
  unfold bytesOf at ih ⊢
  rw [List.flatMap_append, List.flatMap_cons, List.flatMap_nil, List.append_nil, List.map_append, ih, this, List.take_add]
theorem at_enc (a b : List Nat) (o : AOp) (hc : o.code < 41) (hf : fitsF (shapeF o.code) o.operand = true) (hv : i64ok o.operand) :
  atF (a ++ ((encB o).map UInt8.toNat ++ b)) a.length = some (o, 1 + widthF (shapeF o.code)) := by
 obtain ⟨c, v⟩ := o
 simp only at hc hf hv ⊢
 obtain ⟨w, hw⟩ : ∃ w, w = widthF (shapeF c) := ⟨_, rfl⟩
 have he : (encB ⟨c, v⟩).map UInt8.toNat = c :: ((List.range w).map fun k => u64F v / 256 ^ k % 256) := by
  unfold encB
  simp only [List.map_cons, List.map_map, ← hw]
  congr 1
  rw [UInt8.toNat_ofNat']; omega
 obtain ⟨l, hl⟩ : ∃ l, l = (List.range w).map fun k => u64F v / 256 ^ k % 256 := ⟨_, rfl⟩
 have hll : l.length = w := by rw [hl]; simp
 rw [he, ← hl, List.cons_append]
 unfold atF
 rw [if_pos (by simp)]
 have hget : (a ++ c :: (l ++ b)).getD a.length 0 = c := by simp
 have hdrop : (a ++ c :: (l ++ b)).drop (a.length + 1) = l ++ b := by
  rw [List.drop_append, List.drop_of_length_le (by omega), List.nil_append, show a.length + 1 - a.length = 1 by omega]
  rfl
 simp only [hget, hdrop, ← hw]
 rw [if_pos hc, if_pos (by simp [hll]; omega)]
 have hval : valueF (shapeF c) (leF ((l ++ b).take w)) = v := by
  rw [List.take_append_of_le_length (by omega), List.take_of_length_le (by omega), hl, le_digits, hw]
  exact mod_value _ v (by rcases shape_cases c hc with h | h | h | h | h | h | h <;> omega) hf hv
 rw [hval, if_pos hf]
def Enc (L : List AOp) : Prop := ∀ o ∈ L, o.code < 41 ∧ fitsF (shapeF o.code) o.operand = true ∧ i64ok o.operand
theorem dec_enc (L : List AOp) (hL : Enc L) : ∀ m, m ≤ L.length → Dec ((bytesOf L).map UInt8.toNat) (L.take m) (bytesOf (L.take m)).length
 | 0, _ => Dec.nil
 | m + 1, h => by
  have h1 := dec_enc L hL m (by omega)
  obtain ⟨g1, g2, g3⟩ := hL L[m] (List.getElem_mem _)
  have hs : (bytesOf L).map UInt8.toNat = (bytesOf (L.take m)).map UInt8.toNat ++ ((encB L[m]).map UInt8.toNat ++ (bytesOf (L.drop (m + 1))).map UInt8.toNat) := by
   rw [← List.map_append, ← List.map_append]
   congr 1
   have : L = L.take m ++ (L[m] :: L.drop (m + 1)) := by rw [← List.drop_eq_getElem_cons, List.take_append_drop]
   conv => lhs; rw [this]
   unfold bytesOf
   rw [List.flatMap_append, List.flatMap_cons]
  have hat := at_enc ((bytesOf (L.take m)).map UInt8.toNat) ((bytesOf (L.drop (m + 1))).map UInt8.toNat) L[m] g1 g2 g3
  rw [← hs, List.length_map] at hat
  have hlt : (bytesOf (L.take m)).length < ((bytesOf L).map UInt8.toNat).length := (atF_bound hat).1
  have := Dec.snoc h1 hlt hat
  rw [← List.take_succ_eq_append_getElem (by omega)] at this
  have e : (bytesOf (L.take m)).length + (1 + widthF (shapeF L[m].code)) = (bytesOf (L.take (m + 1))).length := by
   rw [bytesOf_take L m (by omega), List.length_append, encB_length]
  rwa [e] at this
theorem dec_all (L : List AOp) (hL : Enc L) : Dec ((bytesOf L).map UInt8.toNat) L (bytesOf L).length := by
 have := dec_enc L hL L.length (Nat.le_refl _)
 rwa [List.take_length] at this
def Wd (l : List UInt8) : Prop := ∀ c ∈ l, isGap c = false ∧ c ≠ 35 ∧ c ≠ 10
theorem Wd.app {l r : List UInt8} (h : Wd l) (k : Wd r) : Wd (l ++ r) := fun c hc => (List.mem_append.1 hc).elim (h c) (k c)
theorem sc_wd (a : Nat) (q p : List UInt8) (h : Wd p) : sc a (q ++ p) = ((sc a q).1, (sc a q).2.1 ++ p, q.length + p.length) := by
 induction p using snoc_ind' with
 | h0 => rw [List.append_nil, List.append_nil, List.length_nil, Nat.add_zero, ← sc_len a q]
 | h1 l x ih =>
  rw [← List.append_assoc, sc_chr _ _ _ (h x (by simp)).1, ih fun c hc => h c (List.mem_append_left _ hc)]
  simp [Nat.add_assoc]
theorem tok_one (u : List UInt8) (a : Nat) (h : Wd u) (h0 : u ≠ []) : lineTok u a = [⟨u, a⟩] := by
 unfold lineTok
 rw [cutR_clean _ fun hc => (h 35 hc).2.1 rfl]
 have := sc_wd a [] u h
 rw [List.nil_append] at this
 rw [this]
 unfold flushT
 simp [sc, h0]
theorem tok_two (u v : List UInt8) (a : Nat) (h : Wd u) (h0 : u ≠ []) (k : Wd v) (k0 : v ≠ []) : lineTok (u ++ 32 :: v) a = [⟨u, a⟩, ⟨v, a + (u.length + 1)⟩] := by
 have hc : (35 : UInt8) ∉ u ++ 32 :: v := by
  intro hc
  rcases List.mem_append.1 hc with hc | hc
  ·exact (h 35 hc).2.1 rfl
  ·rcases List.mem_cons.1 hc with hc | hc
   ·cases hc
   ·exact (k 35 hc).2.1 rfl
 unfold lineTok
 rw [cutR_clean _ hc]
 have e1 : u ++ 32 :: v = (u ++ [32]) ++ v := by simp
 have h1 := sc_wd a [] u h
 rw [List.nil_append] at h1
 rw [e1, sc_wd a _ v k, sc_gap a u 32 rfl, h1]
 unfold flushT
 simp [sc, h0, k0]
theorem split_lines' : ∀ (ls : List (List UInt8)), (∀ l ∈ ls, (10 : UInt8) ∉ l) → splitF 10 (ls.flatMap fun l => l ++ [10]) = ls ++ [[]]
 | [], _ => rfl
 | l :: ls, h => by
  rw [List.flatMap_cons, List.append_assoc, List.singleton_append, splitF_hit 10 l _ (h l (by simp)), split_lines' ls fun x hx => h x (List.mem_cons_of_mem _ hx)]
  rfl
theorem toksFrom_app : ∀ (l1 : List (List UInt8)) (a : Nat) (l2 : List (List UInt8)), ∃ a', toksFrom a (l1 ++ l2) = toksFrom a l1 ++ toksFrom a' l2
 | [], a, l2 => ⟨a, rfl⟩
 | l :: l1, a, l2 => by
  obtain ⟨a', h⟩ := toksFrom_app l1 (a + l.length + 1) l2
  exact ⟨a', by simp only [List.cons_append, toksFrom, h]⟩
/-! ### the lines that Print writes -/
def labW (p : Int) : List UInt8 := 76 :: itoa p
def lbl (L : List AOp) (p : Nat) : List (List UInt8) := if markF L L.length p then [labW p ++ [58]] else []
def rawI (L : List AOp) (i : Nat) : List (List UInt8) := lbl L (sizeF (L.take i)) ++ [wordsB.getD (L.getD i ⟨0, 0⟩).code [] ++ oprF L i]
def rawTo (L : List AOp) (m : Nat) : List (List UInt8) := (List.range m).flatMap (rawI L)
theorem rawTo_succ (L : List AOp) (m : Nat) : rawTo L (m + 1) = rawTo L m ++ rawI L m := by
 unfold rawTo
 rw [List.range_succ, List.flatMap_append, List.flatMap_cons, List.flatMap_nil, List.append_nil]
theorem lbl_text (L : List AOp) (p : Nat) : labF L p = (lbl L p).flatMap fun l => l ++ [10] := by
 unfold labF lbl
 split
 ·simp [labelB, labW]
 ·rfl
theorem raw_text (L : List AOp) (m : Nat) : linesF L m = (rawTo L m).flatMap fun l => l ++ [10] := by
 induction m with
 | zero => rfl
 | succ m ih =>
  rw [linesF_succ, rawTo_succ, List.flatMap_append, ih]
  congr 1
  unfold lineF rawI
  rw [List.flatMap_append, lbl_text]
  simp
theorem print_text (L : List AOp) : printF L = (rawTo L L.length ++ lbl L (sizeF L)).flatMap fun l => l ++ [10] := by
 unfold printF
 rw [List.flatMap_append, raw_text, lbl_text]
/-! ### words -/
theorem words_wd : ∀ c, c < 41 → (∀ x ∈ wordsB.getD c [], isGap x = false ∧ x ≠ 35 ∧ x ≠ 10) ∧ wordsB.getD c [] ≠ [] ∧ codeF (wordsB.getD c []) = some c ∧ (wordsB.getD c []).getLast? ≠ some 58 := by decide +kernel
theorem dig_wd {l : List UInt8} (h : ∀ c ∈ l, isDig c = true) : Wd l := by
 intro c hc
 have h1 : 48 ≤ c.toNat ∧ c.toNat ≤ 57 := by simpa [isDig] using h c hc
 refine ⟨?_, ?_, ?_⟩
 ·unfold isGap
  rw [Bool.or_eq_false_iff, beq_eq_false_iff_ne, beq_eq_false_iff_ne]
  exact ⟨by rintro rfl; simp at h1, by rintro rfl; simp at h1⟩
 ·rintro rfl; simp at h1
 ·rintro rfl; simp at h1
theorem itoa_nat (n : Nat) : itoa (n : Int) = decDigits n := by
 unfold itoa
 rw [if_neg (by omega)]
 simp
theorem itoa_wd (v : Int) : Wd (itoa v) ∧ itoa v ≠ [] := by
 unfold itoa
 split
 ·refine ⟨fun c hc => ?_, by simp⟩
  rcases List.mem_cons.1 hc with rfl | hc
  ·exact ⟨rfl, by decide, by decide⟩
  ·exact dig_wd (decDigits_dig _) c hc
 ·exact ⟨dig_wd (decDigits_dig _), digits_ne _⟩
theorem labW_wd (v : Int) : Wd (labW v) ∧ labW v ≠ [] := by
 refine ⟨fun c hc => ?_, by simp [labW]⟩
 rcases List.mem_cons.1 hc with rfl | hc
 ·exact ⟨rfl, by decide, by decide⟩
 ·exact (itoa_wd v).1 c hc
theorem labW_inj {a b : Nat} (h : labW (a : Int) = labW (b : Int)) : a = b := by
 unfold labW at h
 injection h with _ h
 rw [itoa_nat, itoa_nat] at h
 have := congrArg decV h
 rwa [decV_digits, decV_digits] at this
theorem nameF_labW (p : Nat) (h : p ≤ 99999) : nameF (labW (p : Int)) = true := by
 unfold nameF labW
 rw [itoa_nat]
 simp only [Bool.and_eq_true, decide_eq_true_eq, List.all_eq_true, List.mem_range]
 have hl : (decDigits p).length ≤ 6 := by
  rw [decDigits_length]
  by_cases h1 : p < 10
  ·rw [nDigits_small h1]; omega
  ·rw [nDigits_big h1]
   by_cases h2 : p / 10 < 10
   ·rw [nDigits_small h2]; omega
   ·rw [nDigits_big h2]
    by_cases h3 : p / 10 / 10 < 10
    ·rw [nDigits_small h3]; omega
    ·rw [nDigits_big h3]
     by_cases h4 : p / 10 / 10 / 10 < 10
     ·rw [nDigits_small h4]; omega
     ·rw [nDigits_big h4, nDigits_small (by omega)]; omega
 refine ⟨⟨rfl, by rw [List.length_cons]; omega⟩, fun i hi => ?_⟩
 cases i with
 | zero => rfl
 | succ i =>
  have hi' : i < (decDigits p).length := by simpa using hi
  have hd := decDigits_dig p _ (List.getElem_mem hi')
  have : (76 :: decDigits p).getD (i + 1) 0 = (decDigits p)[i] := by
   rw [List.getD_eq_getElem?_getD, List.getElem?_cons_succ, List.getElem?_eq_getElem hi']
   rfl
  rw [this]
  unfold chF
  rw [hd]
  simp
theorem numF_labW (v : Int) : numF (labW v) = none := by
 cases h : numF (labW v) with
 | none => rfl
 | some n =>
  have h1 := (numF_some.1 h).2
  obtain ⟨rest, hr⟩ : ∃ rest, labW v = 76 :: rest := ⟨_, rfl⟩
  rw [hr] at h1
  unfold itoa at h1
  by_cases hn : n < 0
  ·rw [if_pos hn] at h1
   injection h1 with h1 h2
   cases h1
  ·rw [if_neg hn] at h1
   have h2 := decDigits_dig n.toNat 76 (by rw [← h1]; simp)
   cases h2
theorem labF2_miss {l : List (List UInt8 × Nat)} {n : List UInt8} (h : ∀ x ∈ l, x.1 ≠ n) : labF2 l n = none := by
 unfold labF2
 rw [Option.map_eq_none_iff, List.find?_eq_none]
 intro x hx
 simpa using h x hx
theorem labF2_in {l : List (List UInt8 × Nat)} {k : Nat} (h : ∀ x ∈ l, ∃ p : Nat, x = (labW (p : Int), p)) (hk : (labW (k : Int), k) ∈ l) : labF2 l (labW (k : Int)) = some k := by
 unfold labF2
 cases hf : l.find? (fun p => p.1 == labW (k : Int)) with
 | none =>
  have := List.find?_eq_none.1 hf _ hk
  simp at this
 | some x =>
  have h1 := List.find?_some hf
  have h2 := List.mem_of_find?_eq_some hf
  obtain ⟨p, rfl⟩ := h x h2
  rw [beq_iff_eq] at h1
  rw [labW_inj h1]
  rfl
theorem line_label (r : RSt) (w : List UInt8) (a : Nat) (h1 : nameF w = true) (h2 : labF2 r.labels w = none) : lineL r [⟨w ++ [58], a⟩] = .ok ⟨r.labels ++ [(w, r.size)], r.ins⟩ := by
 unfold lineL
 simp [h1, h2]
theorem line_ins (r : RSt) (t : Tok) (rest : List Tok) (h : t.s.getLast? ≠ some 58) : lineL r (t :: rest) = insL r t rest := by
 unfold lineL
 have : (t.s.getLast? == some 58) = false := by rw [beq_eq_false_iff_ne]; exact h
 simp only [this]
 rfl
theorem ins_none (r : RSt) (t : Tok) {c : Nat} (hc : codeF t.s = some c) (hw : widthF (shapeF c) = 0) (hs : r.size + (1 + widthF (shapeF c)) ≤ 512) : insL r t [] = .ok ⟨r.labels, r.ins ++ [⟨c, 0, r.size, noTok⟩]⟩ := by
 unfold insL
 simp only [hc]
 rw [if_neg (by omega)]
 unfold endL
 simp only
 rw [if_neg (by omega)]
theorem ins_num (r : RSt) (t u : Tok) {c : Nat} {v : Int} (hc : codeF t.s = some c) (hw : 0 < widthF (shapeF c)) (hv : numF u.s = some v) (hf : fitsF (shapeF c) v = true) (hs : r.size + (1 + widthF (shapeF c)) ≤ 512) : insL r t [u] = .ok ⟨r.labels, r.ins ++ [⟨c, v, r.size, noTok⟩]⟩ := by
 unfold insL
 simp only [hc]
 rw [if_pos hw]
 unfold oprL
 simp only [hv, hf, if_true]
 unfold endL
 simp only
 rw [if_neg (by omega)]
theorem ins_nam (r : RSt) (t u : Tok) {c : Nat} (hc : codeF t.s = some c) (hw : 0 < widthF (shapeF c)) (hv : numF u.s = none) (hl : leadsF c = true) (hn : nameF u.s = true) (hs : r.size + (1 + widthF (shapeF c)) ≤ 512) : insL r t [u] = .ok ⟨r.labels, r.ins ++ [⟨c, 0, r.size, u⟩]⟩ := by
 unfold insL
 simp only [hc]
 rw [if_pos hw]
 unfold oprL
 simp only [hv, hl, hn, Bool.and_self, if_true]
 unfold endL
 simp only
 rw [if_neg (by omega)]
structure Inv (L : List AOp) (m : Nat) (r : RSt) : Prop where
 len : r.ins.length = m
 ins : ∀ (i : Nat) (x : Ins), r.ins[i]? = some x → x.code = (L.getD i ⟨0, 0⟩).code ∧ x.pos = sizeF (L.take i) ∧ (tgtAt L i = none → x.name.s = [] ∧ x.operand = (L.getD i ⟨0, 0⟩).operand) ∧ (∀ t, tgtAt L i = some t → x.name.s = labW t)
 size : r.size = sizeF (L.take m)
 labs : ∀ x ∈ r.labels, ∃ p : Nat, x = (labW (p : Int), p) ∧ p < sizeF (L.take m)
 has : ∀ i, i < m → markF L L.length ((sizeF (L.take i) : Nat) : Int) = true → (labW ((sizeF (L.take i) : Nat) : Int), sizeF (L.take i)) ∈ r.labels
theorem Inv.start (L : List AOp) : Inv L 0 ⟨[], []⟩ := ⟨rfl, fun i x h => (by simp at h), rfl, fun x h => (by cases h), fun i h => absurd h (by omega)⟩
theorem lbl_run (L : List AOp) (r : RSt) (p a : Nat) (hr : r.size = p) (hp : p ≤ 99999) (hl : ∀ x ∈ r.labels, ∃ q : Nat, x = (labW (q : Int), q) ∧ q < p) :
  ∃ r', linesL r (toksFrom a (lbl L p)) = .ok r' ∧ r'.ins = r.ins ∧ (∀ x ∈ r.labels, x ∈ r'.labels) ∧ (∀ x ∈ r'.labels, ∃ q : Nat, x = (labW (q : Int), q) ∧ q ≤ p) ∧ (markF L L.length (p : Int) = true → (labW (p : Int), p) ∈ r'.labels) := by
 unfold lbl
 by_cases hm : markF L L.length (p : Int) = true
 ·rw [if_pos hm]
  have hw := labW_wd (p : Int)
  have ht : lineTok (labW (p : Int) ++ [58]) a = [⟨labW (p : Int) ++ [58], a⟩] := tok_one _ a (hw.1.app fun c hc => by obtain rfl := List.mem_singleton.1 hc; exact ⟨rfl, by decide, by decide⟩) (by simp)
  have hmiss : labF2 r.labels (labW (p : Int)) = none := labF2_miss fun x hx => by
   obtain ⟨q, rfl, hq⟩ := hl x hx
   intro e
   have := labW_inj e
   omega
  refine ⟨⟨r.labels ++ [(labW (p : Int), r.size)], r.ins⟩, ?_, rfl, fun x hx => List.mem_append_left _ hx, fun x hx => ?_, fun _ => by rw [hr]; simp⟩
  ·simp only [toksFrom, ht, linesL_cons]
   rw [line_label r _ a (nameF_labW p hp) hmiss]
   rfl
  ·rcases List.mem_append.1 hx with hx | hx
   ·obtain ⟨q, e, hq⟩ := hl x hx
    exact ⟨q, e, by omega⟩
   ·obtain rfl := List.mem_singleton.1 hx
    exact ⟨p, by rw [hr], Nat.le_refl _⟩
 ·rw [if_neg hm]
  exact ⟨r, rfl, rfl, fun x hx => hx, fun x hx => by obtain ⟨q, e, hq⟩ := hl x hx; exact ⟨q, e, by omega⟩, fun h => absurd h hm⟩
theorem tgt_leads {L : List AOp} {i : Nat} {t : Int} (h : tgtAt L i = some t) : leadsF (L.getD i ⟨0, 0⟩).code = true ∧ toF (L.getD i ⟨0, 0⟩) (sizeF (L.take i)) = t ∧ begF L L.length t = true := by
 unfold tgtAt tgtF at h
 split at h
 ·rename_i hh
  injection h with h
  rw [Bool.and_eq_true] at hh
  exact ⟨hh.1, h, by rw [← h]; exact hh.2⟩
 ·cases h
theorem lead_width {c : Nat} (h : leadsF c = true) : 0 < widthF (shapeF c) := by
 unfold leadsF at h
 simp only [Bool.or_eq_true, beq_iff_eq] at h
 rcases h with (rfl | rfl) | rfl <;> decide
theorem Inv.step {L : List AOp} (hL : Enc L) (hs : sizeF L ≤ 512) {m : Nat} {r : RSt} (h : Inv L m r) (hm : m < L.length) (a : Nat) : ∃ r', linesL r (toksFrom a (rawI L m)) = .ok r' ∧ Inv L (m + 1) r' := by
 have hp512 := sizeF_le L m
 obtain ⟨r1, h1, h2, h3, h4, h5⟩ := lbl_run L r (sizeF (L.take m)) a h.size (by omega) h.labs
 obtain ⟨a', ha⟩ := toksFrom_app (lbl L (sizeF (L.take m))) a [wordsB.getD (L.getD m ⟨0, 0⟩).code [] ++ oprF L m]
 have hr1 : r1.size = sizeF (L.take m) := by have := h.size; unfold RSt.size at this ⊢; rw [h2]; exact this
 obtain ⟨o, ho⟩ : ∃ o, o = L.getD m ⟨0, 0⟩ := ⟨_, rfl⟩
 have hoL : o = L[m] := by rw [ho, List.getD_eq_getElem?_getD, List.getElem?_eq_getElem hm]; rfl
 obtain ⟨g1, g2, g3⟩ := hL o (hoL ▸ List.getElem_mem hm)
 obtain ⟨w1, w2, w3, w4⟩ := words_wd o.code g1
 have hsz : sizeF (L.take (m + 1)) = sizeF (L.take m) + (1 + widthF (shapeF o.code)) := by rw [hoL]; exact sizeF_take L m hm
 have hs1 := sizeF_le L (m + 1)
 have hbound : r1.size + (1 + widthF (shapeF o.code)) ≤ 512 := by rw [hr1]; omega
 -- the instruction's line
 have key : ∃ x : Ins, linesL r1 (toksFrom a' [wordsB.getD o.code [] ++ oprF L m]) = .ok ⟨r1.labels, r1.ins ++ [x]⟩ ∧ x.code = o.code ∧ x.pos = sizeF (L.take m) ∧ (tgtAt L m = none → x.name.s = [] ∧ x.operand = o.operand) ∧ (∀ t, tgtAt L m = some t → x.name.s = labW t) := by
  have hone : ∀ (T : List Tok) (x : Ins), lineTok (wordsB.getD o.code [] ++ oprF L m) a' = T → lineL r1 T = .ok ⟨r1.labels, r1.ins ++ [x]⟩ → linesL r1 (toksFrom a' [wordsB.getD o.code [] ++ oprF L m]) = .ok ⟨r1.labels, r1.ins ++ [x]⟩ := by
   intro T x e1 e2
   simp only [toksFrom, e1, linesL_cons, e2]
   rfl
  cases ht : tgtAt L m with
  | some t =>
   obtain ⟨l1, l2, l3⟩ := tgt_leads ht
   rw [← ho] at l1 l2
   have htok := tgt_ok (L := L) (o := o) (p := sizeF (L.take m)) (t := t) (by rw [ho]; exact ht)
   have hopr : oprF L m = 32 :: labW t := by unfold oprF; rw [ht]; rfl
   have hw := labW_wd t
   obtain ⟨k, rfl⟩ : ∃ k : Nat, t = (k : Int) := ⟨t.toNat, by omega⟩
   refine ⟨⟨o.code, 0, r1.size, ⟨labW (k : Int), a' + ((wordsB.getD o.code []).length + 1)⟩⟩, hone [⟨wordsB.getD o.code [], a'⟩, ⟨labW (k : Int), a' + ((wordsB.getD o.code []).length + 1)⟩] _ (by rw [hopr]; exact tok_two _ _ a' w1 w2 hw.1 hw.2) ?_, rfl, hr1, fun h => (by cases h), fun t' h => (by injection h with h; rw [← h])⟩
   rw [line_ins r1 ⟨wordsB.getD o.code [], a'⟩ _ w4]
   exact ins_nam _ _ _ w3 (lead_width l1) (numF_labW _) l1 (nameF_labW k (by omega)) hbound
  | none =>
   by_cases hw : 0 < widthF (shapeF o.code)
   ·have hopr : oprF L m = 32 :: itoa o.operand := by unfold oprF; rw [ht, ← ho]; simp only; rw [if_pos hw]
    have hwd := itoa_wd o.operand
    refine ⟨⟨o.code, o.operand, r1.size, noTok⟩, hone [⟨wordsB.getD o.code [], a'⟩, ⟨itoa o.operand, a' + ((wordsB.getD o.code []).length + 1)⟩] _ (by rw [hopr]; exact tok_two _ _ a' w1 w2 hwd.1 hwd.2) ?_, rfl, hr1, fun _ => ⟨rfl, rfl⟩, fun t h => (by cases h)⟩
    rw [line_ins r1 ⟨wordsB.getD o.code [], a'⟩ _ w4]
    exact ins_num _ _ _ w3 hw (numF_some.2 ⟨g3, rfl⟩) g2 hbound
   ·have hopr : oprF L m = [] := by unfold oprF; rw [ht, ← ho]; simp only; rw [if_neg hw]
    have h0 : o.operand = 0 := by
     have hz : widthF (shapeF o.code) = 0 := by omega
     rcases shape_cases o.code g1 with ⟨_, h⟩ | ⟨_, h⟩ | ⟨_, h⟩ | ⟨_, h⟩ | ⟨_, h⟩ | ⟨_, h⟩ | ⟨_, h⟩ <;> rw [h] at hz g2
     all_goals first | (simp [widthF] at hz; done) | (simp [fitsF] at g2; exact g2)
    refine ⟨⟨o.code, 0, r1.size, noTok⟩, hone [⟨wordsB.getD o.code [], a'⟩] _ (by rw [hopr, List.append_nil]; exact tok_one _ a' w1 w2) ?_, rfl, hr1, fun _ => ⟨rfl, h0.symm⟩, fun t h => (by cases h)⟩
    rw [line_ins r1 ⟨wordsB.getD o.code [], a'⟩ _ w4]
    exact ins_none _ _ w3 (by omega) hbound
 obtain ⟨x, k1, k2, k3, k4, k5⟩ := key
 refine ⟨⟨r1.labels, r1.ins ++ [x]⟩, ?_, ?_, ?_, ?_, ?_, ?_⟩
 ·unfold rawI
  rw [ha, linesL_app, h1, ← ho]
  exact k1
 ·simp only [List.length_append, List.length_singleton, h2, h.len]
 ·intro i y hy
  rcases Nat.lt_or_ge i m with hi | hi
  ·simp only at hy
   rw [h2, List.getElem?_append_left (by rw [h.len]; exact hi)] at hy
   exact h.ins i y hy
  ·simp only at hy
   rw [h2, List.getElem?_append_right (by rw [h.len]; exact hi), h.len] at hy
   have hi0 : i - m = 0 := by
    rcases Nat.eq_zero_or_pos (i - m) with h0 | h0
    ·exact h0
    ·rw [List.getElem?_eq_none (by rw [List.length_singleton]; omega)] at hy; cases hy
   rw [hi0] at hy
   simp only [List.getElem?_cons_zero, Option.some.injEq] at hy
   subst hy
   obtain rfl : i = m := by omega
   rw [← ho]
   exact ⟨k2, k3, k4, k5⟩
 ·have hs2 : RSt.size ⟨r1.labels, r1.ins ++ [x]⟩ = r1.size + (1 + widthF (shapeF x.code)) := by
   unfold RSt.size
   rw [List.map_append]
   exact sizeF_snoc _ _
  rw [hs2, hr1, k2, hsz]
 ·intro y hy
  obtain ⟨q, e, hq⟩ := h4 y hy
  exact ⟨q, e, by rw [hsz]; omega⟩
 ·intro i hi hmk
  rcases Nat.lt_or_ge i m with him | him
  ·exact h3 _ (h.has i him hmk)
  ·obtain rfl : i = m := by omega
   exact h5 hmk
theorem run_print {L : List AOp} (hL : Enc L) (hs : sizeF L ≤ 512) : ∀ m, m ≤ L.length → ∀ a, ∃ r, linesL ⟨[], []⟩ (toksFrom a (rawTo L m)) = .ok r ∧ Inv L m r
 | 0, _, a => ⟨_, rfl, Inv.start L⟩
 | m + 1, h, a => by
  obtain ⟨r, h1, h2⟩ := run_print hL hs m (by omega) a
  obtain ⟨a', ha⟩ := toksFrom_app (rawTo L m) a (rawI L m)
  obtain ⟨r', h3, h4⟩ := h2.step hL hs (by omega) a'
  refine ⟨r', ?_, h4⟩
  rw [rawTo_succ, ha, linesL_app, h1]
  exact h3
theorem resL_all {ls : List (List UInt8 × Nat)} {l : List Ins} {L : List AOp} (hlen : l.length = L.length) (h : ∀ (i : Nat) (x : Ins) (o : AOp), l[i]? = some x → L[i]? = some o → resOne ls x = .ok o) : ∀ m, m ≤ L.length → resL ls (l.take m) = .ok (L.take m)
 | 0, _ => rfl
 | m + 1, hm => by
  have h1 := resL_all hlen h m (by omega)
  rw [resL_take ls l m (by omega), h1]
  simp only
  rw [h m l[m] L[m] (List.getElem?_eq_getElem _) (List.getElem?_eq_getElem _)]
  simp only
  rw [List.take_succ_eq_append_getElem (by omega)]
theorem oprF_wd (L : List AOp) (i : Nat) : (10 : UInt8) ∉ oprF L i := by
 unfold oprF
 split
 ·rename_i t _
  intro h
  rcases List.mem_cons.1 h with h | h
  ·cases h
  ·exact ((labW_wd t).1 10 h).2.2 rfl
 ·split
  ·intro h
   rcases List.mem_cons.1 h with h | h
   ·cases h
   ·exact ((itoa_wd _).1 10 h).2.2 rfl
  ·simp
theorem lbl_no10 (L : List AOp) (p : Nat) : ∀ l ∈ lbl L p, (10 : UInt8) ∉ l := by
 intro l hl
 unfold lbl at hl
 split at hl
 ·obtain rfl := List.mem_singleton.1 hl
  intro h
  rcases List.mem_append.1 h with h | h
  ·exact ((labW_wd _).1 10 h).2.2 rfl
  ·have := List.mem_singleton.1 h; cases this
 ·cases hl
theorem raw_no10 (L : List AOp) (hL : Enc L) (m : Nat) (hm : m ≤ L.length) : ∀ l ∈ rawTo L m, (10 : UInt8) ∉ l := by
 intro l hl
 obtain ⟨i, hi, hl⟩ := List.mem_flatMap.1 hl
 have hi' := List.mem_range.1 hi
 rcases List.mem_append.1 hl with hl | hl
 ·exact lbl_no10 L _ l hl
 ·obtain rfl := List.mem_singleton.1 hl
  have hc := (hL L[i] (List.getElem_mem _)).1
  have e : L.getD i ⟨0, 0⟩ = L[i] := by rw [List.getD_eq_getElem?_getD, List.getElem?_eq_getElem (by omega)]; rfl
  intro h
  rcases List.mem_append.1 h with h | h
  ·rw [e] at h
   exact ((words_wd _ hc).1 10 h).2.2 rfl
  ·exact oprF_wd L i h
theorem begF_iff' (L : List AOp) (m : Nat) (n : Int) : begF L m n = true ↔ n = (sizeF L : Int) ∨ ∃ i, i < m ∧ n = (sizeF (L.take i) : Int) := by
 simp [begF]
theorem markF_of (L : List AOp) {i : Nat} {t : Int} (hi : i < L.length) (h : tgtAt L i = some t) : markF L L.length t = true := by
 unfold markF
 rw [List.any_eq_true]
 exact ⟨i, List.mem_range.2 hi, by rw [h]; simp⟩
theorem parse_print {L : List AOp} (hL : Enc L) (hs : sizeF L ≤ 512) : parseF (printF L) = .ok L := by
 have hsp : lineToks (printF L) = toksFrom 0 (rawTo L L.length ++ lbl L (sizeF L) ++ [[]]) := by
  rw [lineToks_split, print_text, split_lines']
  intro l hl
  rcases List.mem_append.1 hl with hl | hl
  ·exact raw_no10 L hL _ (Nat.le_refl _) l hl
  ·exact lbl_no10 L _ l hl
 obtain ⟨r, h1, h2⟩ := run_print hL hs L.length (Nat.le_refl _) 0
 obtain ⟨a1, ha1⟩ := toksFrom_app (rawTo L L.length ++ lbl L (sizeF L)) 0 [[]]
 obtain ⟨a2, ha2⟩ := toksFrom_app (rawTo L L.length) 0 (lbl L (sizeF L))
 have htl : L.take L.length = L := List.take_length ..
 have hsize := h2.size
 have hlabs := h2.labs
 rw [htl] at hsize hlabs
 obtain ⟨r', g1, g2, g3, g4, g5⟩ := lbl_run L r (sizeF L) a2 hsize (by omega) hlabs
 have hrun : linesL ⟨[], []⟩ (lineToks (printF L)) = .ok r' := by
  rw [hsp, ha1, ha2, linesL_app, linesL_app, h1]
  simp only [g1]
  rfl
 have hlen : r'.ins.length = L.length := by rw [g2, h2.len]
 have hres : resL r'.labels r'.ins = .ok L := by
  have := resL_all (ls := r'.labels) (l := r'.ins) (L := L) hlen (fun i x o hx ho => by
   rw [g2] at hx
   obtain ⟨c1, c2, c3, c4⟩ := h2.ins i x hx
   have e : L.getD i ⟨0, 0⟩ = o := by rw [List.getD_eq_getElem?_getD, ho]; rfl
   rw [e] at c1 c3
   have hi : i < L.length := (List.getElem?_eq_some_iff.1 ho).1
   unfold resOne
   cases ht : tgtAt L i with
   | none =>
    obtain ⟨d1, d2⟩ := c3 ht
    rw [if_pos d1]
    unfold Ins.op
    rw [c1, d2]
   | some t =>
    have d1 := c4 t ht
    obtain ⟨l1, l2, l3⟩ := tgt_leads ht
    have hmk := markF_of L hi ht
    rw [e] at l2
    have hnn := tgt_ok (L := L) (o := L.getD i ⟨0, 0⟩) (p := sizeF (L.take i)) (t := t) ht
    obtain ⟨k, rfl⟩ : ∃ k : Nat, t = (k : Int) := ⟨t.toNat, by omega⟩
    rw [if_neg (by rw [d1]; exact (labW_wd _).2), d1]
    have hin : (labW (k : Int), k) ∈ r'.labels := by
     rcases (begF_iff' L L.length (k : Int)).1 l3 with hk | ⟨j, hj, hk⟩
     ·have : k = sizeF L := by omega
      subst this
      exact g5 hmk
     ·have : k = sizeF (L.take j) := by omega
      subst this
      exact g3 _ (h2.has j hj hmk)
    rw [labF2_in (fun x hx => by obtain ⟨q, e, _⟩ := g4 x hx; exact ⟨q, e⟩) hin]
    simp only
    rw [c1, c2]
    obtain ⟨oc, ov⟩ := o
    unfold toF at l2
    simp only at l2 ⊢
    congr 2
    split
    ·rename_i h26; rw [if_pos h26] at l2; exact l2.symm
    ·rename_i h26; rw [if_neg h26] at l2; omega) L.length (Nat.le_refl _)
  rwa [List.take_of_length_le (by omega), htl] at this
 unfold parseF
 rw [hrun]
 exact hres
theorem nextL_line : ∀ (l r : List UInt8), (10 : UInt8) ∉ l → nextL (l ++ 10 :: r) = some (l, r)
 | [], r, _ => rfl
 | c :: l, r, h => by
  have hc : c ≠ 10 := fun e => h (by simp [e])
  rw [List.cons_append, nextL, if_neg hc, nextL_line l r fun e => h (by simp [e])]
  rfl
theorem nextL_len : ∀ {t l r : List UInt8}, nextL t = some (l, r) → t = l ++ 10 :: r ∧ (10 : UInt8) ∉ l
 | [], l, r, h => by cases h
 | c :: t, l, r, h => by
  unfold nextL at h
  split at h
  ·rename_i hc
   injection h with h
   injection h with h1 h2
   subst h1 h2 hc
   exact ⟨rfl, by simp⟩
  ·rename_i hc
   cases hn : nextL t with
   | none => rw [hn] at h; cases h
   | some x =>
    obtain ⟨l', r'⟩ := x
    rw [hn] at h
    simp only [Option.map_some, Option.some.injEq, Prod.mk.injEq] at h
    obtain ⟨h1, h2⟩ := h
    subst h1 h2
    obtain ⟨e1, e2⟩ := nextL_len hn
    refine ⟨by rw [e1]; rfl, ?_⟩
    intro hm
    rcases List.mem_cons.1 hm with e | e
    ·exact hc e.symm
    ·exact e2 e
theorem nextL_at : ∀ (t : List UInt8) (i : Nat), (∀ j : Nat, j < i → t[j]? ≠ some 10) → t[i]? = some 10 → nextL t = some (t.take i, t.drop (i + 1))
 | [], i, _, h => by cases h
 | c :: t, 0, _, h => by
  have hc : c = 10 := by simpa using h
  rw [nextL, if_pos hc]
  rfl
 | c :: t, i + 1, hj, h => by
  have hc : c ≠ 10 := fun e => hj 0 (by omega) (by rw [e]; rfl)
  rw [nextL, if_neg hc, nextL_at t i (fun j h1 h2 => hj (j + 1) (by omega) (by simpa using h2)) (by simpa using h)]
  rfl
theorem nextL_none : ∀ (t : List UInt8), (∀ j : Nat, t[j]? ≠ some 10) → nextL t = none
 | [], _ => rfl
 | c :: t, hj => by
  have hc : c ≠ 10 := fun e => hj 0 (by rw [e]; rfl)
  rw [nextL, if_neg hc, nextL_none t fun j h => hj (j + 1) (by simpa using h)]
  rfl
theorem bodyL_len : ∀ {f : Nat} {t b r : List UInt8}, bodyL f t = some (b, r) → r.length < t.length
 | 0, t, b, r, h => by cases h
 | f + 1, t, b, r, h => by
  unfold bodyL at h
  cases hn : nextL t with
  | none => rw [hn] at h; cases h
  | some x =>
   obtain ⟨l, r'⟩ := x
   rw [hn] at h
   simp only at h
   have h1 := (nextL_len hn).1
   have h2 : r'.length < t.length := by rw [h1, List.length_append, List.length_cons]; omega
   split at h
   ·injection h with h
    injection h with _ h
    subst h
    exact h2
   ·cases hb : bodyL f r' with
    | none => rw [hb] at h; cases h
    | some y =>
     obtain ⟨b', r''⟩ := y
     rw [hb] at h
     simp only [Option.map_some, Option.some.injEq, Prod.mk.injEq] at h
     have := bodyL_len hb
     rw [← h.2]
     omega
theorem goesL_fuel : ∀ (f f' pos part : Nat) (x : SSt) (t : List UInt8), t.length < f → t.length < f' → goesL f pos part x t = goesL f' pos part x t
 | 0, f', pos, part, x, t, h, _ => absurd h (by omega)
 | f + 1, 0, pos, part, x, t, _, h => absurd h (by omega)
 | f + 1, f' + 1, pos, part, x, t, h, h' => by
  unfold goesL
  split
  ·rfl
  ·cases hn : nextL t with
   | none => rfl
   | some y =>
    obtain ⟨l, r⟩ := y
    have h1 := (nextL_len hn).1
    have h2 : r.length < t.length := by rw [h1, List.length_append, List.length_cons]; omega
    simp only
    split
    ·rfl
    ·split
     ·split
      ·rfl
      ·cases hb : bodyL (r.length + 1) r with
       | none => rfl
       | some z =>
        obtain ⟨b, r'⟩ := z
        have h3 := bodyL_len hb
        simp only
        cases parseF b with
        | error e => rfl
        | ok L => exact goesL_fuel f f' _ _ _ _ (by omega) (by omega)
     ·cases plainL x l (splitF 32 l) with
      | error e => rfl
      | ok x' => exact goesL_fuel f f' _ _ _ _ (by omega) (by omega)
def goL (pos part : Nat) (x : SSt) (t : List UInt8) : Except (Nat × Nat) SSt := goesL (t.length + 1) pos part x t
theorem goL_line {pos part : Nat} {x x' : SSt} {l r : List UInt8} (h10 : (10 : UInt8) ∉ l) (hp : part ≤ partL ((splitF 32 l).head?.getD [])) (hw : l ≠ wProgram) (hs : plainL x l (splitF 32 l) = .ok x') :
  goL pos part x (l ++ 10 :: r) = goL (pos + l.length + 1) (partL ((splitF 32 l).head?.getD [])) x' r := by
 unfold goL
 rw [goesL, if_neg (by simp), nextL_line l r h10]
 simp only
 rw [if_neg (by omega), if_neg hw, hs]
 simp only
 exact goesL_fuel _ _ _ _ _ _ (by rw [List.length_append, List.length_cons]; omega) (by omega)
theorem goL_prog {pos part : Nat} {x : SSt} {b r : List UInt8} {L : List AOp} (hp : part ≤ 2) (hn : x.set.progs.length ≠ 16) (hb : bodyL ((b ++ wEnd ++ 10 :: r).length + 1) (b ++ wEnd ++ 10 :: r) = some (b, r)) (hL : parseF b = .ok L) :
  ∃ pos', goL pos part x (wProgram ++ 10 :: (b ++ wEnd ++ 10 :: r)) = goL pos' 2 { x with set := { x.set with progs := x.set.progs ++ [bytesOf L] } } r := by
 have h10 : (10 : UInt8) ∉ wProgram := by decide
 have hpt : partL ((splitF 32 wProgram).head?.getD []) = 2 := by decide
 refine ⟨pos + ((wProgram ++ 10 :: (b ++ wEnd ++ 10 :: r)).length - r.length), ?_⟩
 unfold goL
 rw [goesL, if_neg (by simp), nextL_line wProgram _ h10]
 simp only
 rw [hpt, if_neg (by omega), if_pos trivial, if_neg hn, hb]
 simp only [hL]
 exact goesL_fuel _ _ _ _ _ _ (by simp; omega) (by omega)
/-! ### words -/
theorem split_word (u r : List UInt8) (h : (32 : UInt8) ∉ u) : splitF 32 (u ++ 32 :: r) = u :: splitF 32 r := splitF_hit 32 u r h
theorem split_last (u : List UInt8) (h : (32 : UInt8) ∉ u) : splitF 32 u = [u] := splitF_miss 32 u h
theorem itoa_no (v : Int) : (32 : UInt8) ∉ itoa v ∧ (10 : UInt8) ∉ itoa v ∧ (42 : UInt8) ∉ itoa v := by
 have h := (itoa_wd v).1
 refine ⟨fun hm => ?_, fun hm => (h 10 hm).2.2 rfl, fun hm => ?_⟩
 ·have := (h 32 hm).1
  cases this
 ·unfold itoa at hm
  split at hm
  ·rcases List.mem_cons.1 hm with e | e
   ·cases e
   ·have := decDigits_dig _ _ e; cases this
  ·have := decDigits_dig _ _ hm; cases this
theorem numIn_itoa {v lo hi : Int} (h1 : lo ≤ v) (h2 : v ≤ hi) (h3 : minI ≤ lo) (h4 : hi ≤ maxI) : numIn (itoa v) lo hi = some v := by
 unfold numIn
 unfold minI at h3
 unfold maxI at h4
 rw [numF_some.2 ⟨by unfold i64ok0; omega, rfl⟩]
 simp only
 rw [if_pos ⟨h1, h2⟩]
theorem numIn_natF (s : List UInt8) : numIn s 0 maxI = (natF s).map fun (n : Nat) => (n : Int) := by
 unfold numIn maxI
 cases hn : natF s with
 | some n =>
  obtain ⟨h1, h2⟩ := natF_some.1 hn
  have : numF s = some (n : Int) := numF_some.2 ⟨by unfold i64ok0; omega, by rw [h2]; unfold itoa; rw [if_neg (by omega)]; simp⟩
  rw [this]
  simp only [Option.map_some]
  rw [if_pos ⟨by omega, by omega⟩]
 | none =>
  cases hf : numF s with
  | none => rfl
  | some v =>
   simp only [Option.map_none]
   rw [if_neg]
   rintro ⟨h1, h2⟩
   obtain ⟨_, h4⟩ := numF_some.1 hf
   have : natF s = some v.toNat := natF_some.2 ⟨by omega, by rw [h4]; unfold itoa; rw [if_neg (by omega)]⟩
   rw [hn] at this
   cases this
theorem numIn_all (s : List UInt8) : numIn s minI maxI = numF s := by
 unfold numIn
 cases hf : numF s with
 | none => rfl
 | some v =>
  have h := (numF_some.1 hf).1
  unfold i64ok0 at h
  simp only
  rw [if_pos ⟨by unfold minI; omega, by unfold maxI; omega⟩]
end Go.Proofs.YtiheggkkgbfndaaGreatDoor
