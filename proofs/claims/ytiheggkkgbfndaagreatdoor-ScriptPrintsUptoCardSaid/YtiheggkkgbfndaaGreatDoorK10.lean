/- carouselref24.Number. (From XBu by replacement.) -/
import Derived.Test.YtiheggkkgbfndaaGreatDoorK02
import Derived.Test.YtiheggkkgbfndaaGreatDoorK01
import Derived.Deep.LoopGhost
import Derived.Deep.QuietTactic
import Derived.BigQuiet
import Derived.Test.YtiheggkkgbfndaaGreatDoorK05
import Derived.Test.YtiheggkkgbfndaaGreatDoorK07
namespace Go.Proofs.YtiheggkkgbfndaaGreatDoor
open Go.RowKit Go.Joins Go.ChangeShapes Go.WideShapes Go.Deep
set_option linter.unusedVariables false
set_option linter.unusedSimpArgs false
set_option maxRecDepth 100000
end Go.Proofs.YtiheggkkgbfndaaGreatDoor
namespace Go.Proofs.YtiheggkkgbfndaaGreatDoor
open Go Go.Lib
set_option linter.unusedVariables false
set_option linter.unusedSimpArgs false
theorem sc_bound (a : Nat) (p : List UInt8) : (∀ t ∈ (sc a p).1, t.s.length ≤ p.length ∧ t.pos ≤ a + p.length) ∧ (sc a p).2.1.length ≤ p.length := by
 induction p using snoc_ind' with
 | h0 => exact ⟨fun t h => (by cases h), Nat.le_refl _⟩
 | h1 l x ih =>
  obtain ⟨i1, i2⟩ := ih
  have hl := sc_len a l
  rw [sc_snoc, scStep, List.length_append, List.length_singleton]
  split
  ·refine ⟨fun t ht => ?_, Nat.zero_le _⟩
   simp only at ht
   split at ht
   ·have := i1 t ht; omega
   ·rcases List.mem_append.1 ht with h | h
    ·have := i1 t h; omega
    ·obtain rfl := List.mem_singleton.1 h
     simp only
     omega
  ·refine ⟨fun t ht => ?_, ?_⟩
   ·have := i1 t ht; omega
   ·simp only [List.length_append, List.length_singleton]; omega
theorem lineTok_bound (l : List UInt8) (a : Nat) : ∀ t ∈ lineTok l a, t.s.length ≤ l.length ∧ t.pos ≤ a + l.length := by
 intro t ht
 have hc : (cutR l).length ≤ l.length := List.IsPrefix.length_le (List.takeWhile_prefix _)
 obtain ⟨h1, h2⟩ := sc_bound a (cutR l)
 have hl := sc_len a (cutR l)
 unfold lineTok flushT at ht
 split at ht
 ·have := h1 t ht; omega
 ·rcases List.mem_append.1 ht with h | h
  ·have := h1 t h; omega
  ·obtain rfl := List.mem_singleton.1 h
   simp only
   omega
theorem lineTok_count (l : List UInt8) (a : Nat) : (lineTok l a).length ≤ l.length + 1 := by
 have hc : (cutR l).length ≤ l.length := List.IsPrefix.length_le (List.takeWhile_prefix _)
 have := sc_count a (cutR l)
 unfold lineTok flushT
 split
 ·omega
 ·rw [List.length_append, List.length_singleton]; omega
theorem linesL_cons (r : RSt) (x : List Tok) (l : List (List Tok)) : linesL r (x :: l) = match lineL r x with | .error e => .error e | .ok r' => linesL r' l := rfl
theorem linesL_app : ∀ (l1 : List (List Tok)) (r : RSt) (l2 : List (List Tok)), linesL r (l1 ++ l2) = match linesL r l1 with | .error e => .error e | .ok r' => linesL r' l2
 | [], r, l2 => rfl
 | x :: l1, r, l2 => by
  rw [List.cons_append, linesL_cons, linesL_cons]
  cases lineL r x with
  | error e => rfl
  | ok r' =>
   simp only
   exact linesL_app l1 r' l2
theorem endL_labels {r r' : RSt} {t nm : Tok} {c : Nat} {o : Int} {rest : List Tok} (h : endL r t c o nm rest = .ok r') : r'.labels = r.labels := by
 cases rest with
 | cons x l => cases h
 | nil =>
  unfold endL at h
  simp only at h
  split at h
  ·cases h
  ·injection h with h
   subst h
   rfl
theorem insL_labels {r r' : RSt} {t : Tok} {rest : List Tok} (h : insL r t rest = .ok r') : r'.labels = r.labels := by
 unfold insL at h
 split at h
 ·cases h
 ·split at h
  ·split at h
   ·cases h
   ·split at h
    ·cases h
    ·exact endL_labels h
  ·exact endL_labels h
theorem lineL_labels {r r' : RSt} {l : List Tok} (h : lineL r l = .ok r') : r'.labels.length ≤ r.labels.length + 1 := by
 unfold lineL at h
 split at h
 ·injection h with h; subst h; omega
 ·split at h
  ·split at h
   ·cases h
   ·split at h
    ·cases h
    ·split at h
     ·injection h with h; subst h; simp
     ·rw [insL_labels h]; simp
  ·rw [insL_labels h]; omega
def fromF (LS : List (List UInt8)) (j : Nat) : Nat := ((LS.take j).map fun l => l.length + 1).sum
theorem fromF_succ (LS : List (List UInt8)) (j : Nat) (h : j < LS.length) : fromF LS (j + 1) = fromF LS j + (LS[j].length + 1) := by
 unfold fromF
 rw [List.take_succ_eq_append_getElem h, List.map_append, List.sum_append]
 simp
theorem fromF_mono (LS : List (List UInt8)) : ∀ (k j : Nat), j + k ≤ LS.length → fromF LS j ≤ fromF LS (j + k)
 | 0, j, _ => Nat.le_refl _
 | k + 1, j, h => by
  have h1 := fromF_mono LS k j (by omega)
  have h2 := fromF_succ LS (j + k) (by omega)
  have e : j + (k + 1) = j + k + 1 := by omega
  rw [e]
  omega
theorem splitF_sum (c : UInt8) (l : List UInt8) : ((splitF c l).map fun x => x.length + 1).sum = l.length + 1 := by
 induction l with
 | nil => rfl
 | cons b r ih =>
  unfold splitF
  by_cases hb : b = c
  ·simp only [hb, if_true, List.map_cons, List.sum_cons, List.length_cons, List.length_nil]
   omega
  ·simp only [hb, if_false]
   split
   ·rename_i x xs h
    rw [h] at ih
    simp only [List.map_cons, List.sum_cons, List.length_cons] at ih ⊢
    omega
   ·rename_i h
    exact absurd h (splitF_ne c r)
theorem line_bound (c : UInt8) (l : List UInt8) (j : Nat) (h : j < (splitF c l).length) : fromF (splitF c l) j + (splitF c l)[j].length ≤ l.length := by
 have h1 := fromF_succ (splitF c l) j h
 have h2 := fromF_mono (splitF c l) ((splitF c l).length - (j + 1)) (j + 1) (by omega)
 have h3 : fromF (splitF c l) (splitF c l).length = l.length + 1 := by
  unfold fromF
  rw [List.take_length]
  exact splitF_sum c l
 rw [show j + 1 + ((splitF c l).length - (j + 1)) = (splitF c l).length by omega, h3] at h2
 omega
theorem toksFrom_get : ∀ (LS : List (List UInt8)) (a j : Nat) (h : j < LS.length), (toksFrom a LS)[j]? = some (lineTok LS[j] (a + fromF LS j))
 | [], a, j, h => absurd h (by simp)
 | l :: r, a, 0, h => by simp [toksFrom, fromF]
 | l :: r, a, j + 1, h => by
  have h' : j < r.length := by simpa using h
  rw [toksFrom, List.getElem?_cons_succ, toksFrom_get r _ j h']
  have : fromF (l :: r) (j + 1) = (l.length + 1) + fromF r j := by simp [fromF]
  rw [this]
  simp only [List.getElem_cons_succ]
  congr 2
  omega
def GoodIns (x : Ins) : Prop := x.code < 41 ∧ x.pos ≤ 512 ∧ (x.name.s = [] → fitsF (shapeF x.code) x.operand = true) ∧ (x.name.s ≠ [] → leadsF x.code = true) ∧ x.name.s.length ≤ 16
structure Good (r : RSt) : Prop where
 labs : ∀ p ∈ r.labels, p.2 ≤ 512
 ins : ∀ x ∈ r.ins, GoodIns x
 size : r.size ≤ 512
theorem codeF_lt0 {s : List UInt8} {c : Nat} (h : codeF s = some c) : c < 41 := by
 unfold codeF at h
 exact List.mem_range.1 (List.mem_of_find?_eq_some h)
theorem nameF_ne {s : List UInt8} (h : nameF s = true) : s ≠ [] := by
 rintro rfl
 simp [nameF] at h
theorem nameF_le {s : List UInt8} (h : nameF s = true) : s.length ≤ 16 := by
 unfold nameF at h
 simp only [Bool.and_eq_true, decide_eq_true_eq] at h
 exact h.1.2
theorem fits_zero0 {sh : Nat} (h : widthF sh = 0) : fitsF sh 0 = true := by
 unfold widthF at h
 unfold fitsF
 split at h
 ·omega
 ·split at h
  ·omega
  ·split at h
   ·omega
   ·rename_i h1 h2 h3
    simp only [not_or] at h1 h2
    simp [h1, h2, h3]
theorem Good.endL {r r' : RSt} {t nm : Tok} {c : Nat} {o : Int} {rest : List Tok} (hr : Good r) (h : endL r t c o nm rest = .ok r') (hc : c < 41) (h1 : nm.s = [] → fitsF (shapeF c) o = true) (h2 : nm.s ≠ [] → leadsF c = true) (h3 : nm.s.length ≤ 16) : Good r' := by
 cases rest with
 | cons x l => cases h
 | nil =>
  unfold Proofs.YtiheggkkgbfndaaGreatDoor.endL at h
  simp only at h
  split at h
  ·cases h
  ·rename_i hs
   injection h with h
   subst h
   refine ⟨hr.labs, fun x hx => ?_, ?_⟩
   ·rcases List.mem_append.1 hx with hx | hx
    ·exact hr.ins x hx
    ·obtain rfl := List.mem_singleton.1 hx
     exact ⟨hc, hr.size, h1, h2, h3⟩
   ·show sizeF ((r.ins ++ [_]).map Ins.op) ≤ 512
    rw [List.map_append, List.map_cons, List.map_nil, sizeF_snoc]
    unfold RSt.size at hs
    simp only [Ins.op]
    omega
theorem Good.insL {r r' : RSt} {t : Tok} {rest : List Tok} (hr : Good r) (h : insL r t rest = .ok r') : Good r' := by
 unfold Proofs.YtiheggkkgbfndaaGreatDoor.insL at h
 split at h
 ·cases h
 ·rename_i c hc
  have hc41 := codeF_lt0 hc
  split at h
  ·split at h
   ·cases h
   ·rename_i u rest'
    split at h
    ·cases h
    ·rename_i o nm ho
     refine hr.endL h hc41 ?_ ?_ ?_
     ·intro hn
      unfold oprL at ho
      split at ho
      ·split at ho
       ·rename_i hf
        injection ho with ho
        injection ho with h1 h2
        subst h1
        exact hf
       ·cases ho
      ·split at ho
       ·rename_i hl
        injection ho with ho
        injection ho with h1 h2
        subst h2
        rw [Bool.and_eq_true] at hl
        exact absurd hn (nameF_ne hl.2)
       ·cases ho
     ·intro hn
      unfold oprL at ho
      split at ho
      ·split at ho
       ·injection ho with ho
        injection ho with h1 h2
        subst h2
        exact absurd rfl hn
       ·cases ho
      ·split at ho
       ·rename_i hl
        rw [Bool.and_eq_true] at hl
        exact hl.1
       ·cases ho
     ·unfold oprL at ho
      split at ho
      ·split at ho
       ·injection ho with ho
        injection ho with h1 h2
        subst h2
        exact Nat.zero_le _
       ·cases ho
      ·split at ho
       ·rename_i hl
        injection ho with ho
        injection ho with h1 h2
        subst h2
        rw [Bool.and_eq_true] at hl
        exact nameF_le hl.2
       ·cases ho
  ·rename_i hw
   exact hr.endL h hc41 (fun _ => fits_zero0 (by omega)) (fun hn => absurd rfl hn) (Nat.zero_le _)
theorem Good.lineL {r r' : RSt} {l : List Tok} (hr : Good r) (h : lineL r l = .ok r') : Good r' := by
 unfold Proofs.YtiheggkkgbfndaaGreatDoor.lineL at h
 split at h
 ·injection h with h; subst h; exact hr
 ·rename_i t rest
  have hlab : Good ⟨r.labels ++ [(t.s.dropLast, r.size)], r.ins⟩ := ⟨fun p hp => by
   rcases List.mem_append.1 hp with hp | hp
   ·exact hr.labs p hp
   ·obtain rfl := List.mem_singleton.1 hp
    exact hr.size, hr.ins, hr.size⟩
  split at h
  ·split at h
   ·cases h
   ·split at h
    ·cases h
    ·split at h
     ·injection h with h; subst h; exact hlab
     ·exact hlab.insL h
  ·exact hr.insL h
theorem Good.linesL : ∀ {ls : List (List Tok)} {r r' : RSt}, Good r → linesL r ls = .ok r' → Good r'
 | [], r, r', hr, h => by injection h with h; subst h; exact hr
 | l :: ls, r, r', hr, h => by
  rw [linesL_cons] at h
  cases hx : Proofs.YtiheggkkgbfndaaGreatDoor.lineL r l with
  | error e => rw [hx] at h; cases h
  | ok r1 =>
   rw [hx] at h
   exact Good.linesL (hr.lineL hx) h
theorem Good.start : Good ⟨[], []⟩ := ⟨fun p hp => (by cases hp), fun x hx => (by cases hx), Nat.zero_le _⟩
theorem labF2_le {r : RSt} (hr : Good r) {n : List UInt8} {k : Nat} (h : labF2 r.labels n = some k) : k ≤ 512 := by
 unfold labF2 at h
 cases hf : r.labels.find? (fun p => p.1 == n) with
 | none => rw [hf] at h; cases h
 | some p =>
  rw [hf] at h
  injection h with h
  subst h
  exact hr.labs p (List.mem_of_find?_eq_some hf)
theorem toksFrom_len : ∀ (LS : List (List UInt8)) (a : Nat), (toksFrom a LS).length ≤ LS.length
 | [], _ => Nat.le_refl _
 | l :: r, a => by
  have := toksFrom_len r (a + l.length + 1)
  simp only [toksFrom, List.length_cons]
  omega
theorem linesL_fail {r0 r : RSt} {ls : List (List Tok)} {l : List Tok} {j : Nat} {e : Nat × Nat} (h1 : linesL r0 (ls.take j) = .ok r) (h2 : ls[j]? = some l) (h3 : lineL r l = .error e) : linesL r0 ls = .error e := by
 have hs : ls = ls.take j ++ l :: ls.drop (j + 1) := by
  obtain ⟨hj, rfl⟩ := List.getElem?_eq_some_iff.1 h2
  rw [← List.drop_eq_getElem_cons hj, List.take_append_drop]
 rw [hs, linesL_app, h1]
 show linesL r (l :: ls.drop (j + 1)) = _
 rw [linesL_cons, h3]
/-! ### the names put in -/
theorem resL_snoc (ls : List (List UInt8 × Nat)) : ∀ (l : List Ins) (x : Ins), resL ls (l ++ [x]) = match resL ls l with | .error e => .error e | .ok L => (match resOne ls x with | .error e => .error e | .ok o => .ok (L ++ [o]))
 | [], x => by
  simp only [List.nil_append, resL]
  cases resOne ls x <;> rfl
 | y :: l, x => by
  rw [List.cons_append]
  simp only [resL]
  cases resOne ls y with
  | error e => rfl
  | ok o =>
   simp only
   rw [resL_snoc ls l x]
   cases resL ls l with
   | error e => rfl
   | ok L =>
    simp only
    cases resOne ls x <;> rfl
theorem resL_take (ls : List (List UInt8 × Nat)) (l : List Ins) (i : Nat) (h : i < l.length) : resL ls (l.take (i + 1)) = match resL ls (l.take i) with | .error e => .error e | .ok L => (match resOne ls l[i] with | .error e => .error e | .ok o => .ok (L ++ [o])) := by
 rw [List.take_succ_eq_append_getElem h]
 exact resL_snoc ls _ _
theorem resL_app_err (ls : List (List UInt8 × Nat)) : ∀ (l l2 : List Ins) (e : Nat × Nat), resL ls l = .error e → resL ls (l ++ l2) = .error e
 | [], l2, e, h => by cases h
 | y :: l, l2, e, h => by
  rw [List.cons_append]
  simp only [resL] at h ⊢
  cases hy : resOne ls y with
  | error e' => rw [hy] at h; exact h
  | ok o =>
   rw [hy] at h
   simp only at h ⊢
   cases hl : resL ls l with
   | error e' =>
    rw [hl] at h
    rw [resL_app_err ls l l2 e' hl]
    exact h
   | ok L => rw [hl] at h; cases h
theorem resL_fail (ls : List (List UInt8 × Nat)) (l : List Ins) (i : Nat) (h : i < l.length) {L : List AOp} {e : Nat × Nat} (h1 : resL ls (l.take i) = .ok L) (h2 : resOne ls l[i] = .error e) : resL ls l = .error e := by
 have h3 := resL_take ls l i h
 rw [h1, h2] at h3
 have := resL_app_err ls _ (l.drop (i + 1)) e h3
 rwa [List.take_append_drop] at this
theorem resOne_good {r : RSt} (hr : Good r) {x : Ins} (hx : x ∈ r.ins) {o : AOp} (h : resOne r.labels x = .ok o) : o.code = x.code ∧ o.code < 41 ∧ fitsF (shapeF o.code) o.operand = true := by
 obtain ⟨g1, g2, g3, g4, _⟩ := hr.ins x hx
 unfold resOne at h
 split at h
 ·rename_i hn
  injection h with h
  subst h
  exact ⟨rfl, g1, g3 hn⟩
 ·rename_i hn
  have hl := g4 hn
  split at h
  ·cases h
  ·rename_i k hk
   have hk5 := labF2_le hr hk
   injection h with h
   subst h
   refine ⟨rfl, g1, ?_⟩
   simp only
   unfold leadsF at hl
   simp only [Bool.or_eq_true, beq_iff_eq] at hl
   rcases hl with (h24 | h25) | h26
   ·rw [h24]
    show decide _ = true
    rw [if_neg (by omega)]
    exact decide_eq_true ⟨by omega, by omega⟩
   ·rw [h25]
    show decide _ = true
    rw [if_neg (by omega)]
    exact decide_eq_true ⟨by omega, by omega⟩
   ·rw [h26]
    show decide _ = true
    rw [if_pos rfl]
    exact decide_eq_true ⟨by omega, by omega⟩
theorem resL_good {r : RSt} (hr : Good r) : ∀ (l : List Ins) (L : List AOp), (∀ x ∈ l, x ∈ r.ins) → resL r.labels l = .ok L → (∀ o ∈ L, o.code < 41 ∧ fitsF (shapeF o.code) o.operand = true) ∧ L.map AOp.code = l.map Ins.code
 | [], L, hm, h => by
  injection h with h
  subst h
  exact ⟨fun o ho => (by cases ho), rfl⟩
 | x :: l, L, hm, h => by
  simp only [resL] at h
  cases hx : resOne r.labels x with
  | error e => rw [hx] at h; cases h
  | ok o =>
   rw [hx] at h
   simp only at h
   cases hl : resL r.labels l with
   | error e => rw [hl] at h; cases h
   | ok L1 =>
    rw [hl] at h
    injection h with h
    subst h
    obtain ⟨h1, h2⟩ := resL_good hr l L1 (fun y hy => hm y (List.mem_cons_of_mem _ hy)) hl
    obtain ⟨e1, e2, e3⟩ := resOne_good hr (hm x (List.mem_cons_self ..)) hx
    refine ⟨fun o' ho => ?_, by rw [List.map_cons, List.map_cons, h2, e1]⟩
    rcases List.mem_cons.1 ho with rfl | ho
    ·exact ⟨e2, e3⟩
    ·exact h1 o' ho
theorem sizeF_codes (L : List AOp) : sizeF L = ((L.map AOp.code).map fun c => 1 + widthF (shapeF c)).sum := by
 unfold sizeF
 rw [List.map_map]
 rfl
theorem bytesOf_size (L : List AOp) : (bytesOf L).length = sizeF L := by
 unfold bytesOf sizeF
 rw [List.length_flatMap]
 congr 1
 exact List.map_congr_left fun o _ => encB_length o
theorem resL_size {r : RSt} (hr : Good r) {L : List AOp} (h : resL r.labels r.ins = .ok L) : (bytesOf L).length = r.size := by
 rw [bytesOf_size, sizeF_codes, (resL_good hr r.ins L (fun _ hx => hx) h).2]
 unfold RSt.size
 rw [sizeF_codes, List.map_map, List.map_map, List.map_map]
 rfl
end Go.Proofs.YtiheggkkgbfndaaGreatDoor
namespace Go.Proofs.YtiheggkkgbfndaaGreatDoor
open Go.RowKit Go.Joins Go.ChangeShapes Go.WideShapes Go.Deep Go.Maps Go.Sort
set_option linter.unusedVariables false
set_option linter.unusedSimpArgs false
set_option maxRecDepth 100000
def wordV : List Value := wordsB.map fun x => Value.string ⟨x.toArray⟩
structure PSt (L : List AOp) (B : Nat) (W7 : World) (b8 bm b13 mm bb A gx c : Nat) (v : Int) (l : List UInt8) (W : World) : Prop where
 box : Blk W gx 113 #[.int .i64 c, .int .i64 v]
 bld : Bld bb l W
 e8 : Blk W b8 111 #[.map (some bm)]
 e13 : Blk W b13 111 #[.map (some mm)]
 m8 : ∃ n, BMap W bm n (begF L L.length)
 m13 : ∃ n, BMap W mm n (markF L L.length)
 words : ∃ cs, Blk W A 9 cs ∧ ∀ k, k < 41 → cs[k]? = wordV[k]?
 env : EnvIn B W
 frm : Frm W7 W (fun q => q = bb)
 z7 : W7.heap.size = bb + 1
 lt : b8 < bb ∧ bm < bb ∧ b13 < bb ∧ mm < bb ∧ A < bb ∧ B ≤ bb ∧ bb < gx
section
variable {L : List AOp} {B : Nat} {W7 W W' : World} {b8 bm b13 mm bb A gx c : Nat} {v : Int} {l l' : List UInt8}
theorem PSt.step (h : PSt L B W7 b8 bm b13 mm bb A gx c v l W) (hf : Frm W W' (BldS W bb)) (hb : Bld bb l' W') : PSt L B W7 b8 bm b13 mm bb A gx c v l' W' := by
 obtain ⟨l1, l2, l3, l4, l5, l6, l7⟩ := h.lt
 have hbw := h.bld.lt
 have hk : ∀ q, q < bb → W'.heap[q]? = W.heap[q]? := fun q hq => hf.block q (by omega) fun hh => by
  rcases hh with rfl | ⟨h1, _⟩ <;> omega
 obtain ⟨n8, h8⟩ := h.m8
 obtain ⟨n13, h13⟩ := h.m13
 obtain ⟨cs, hw1, hw2⟩ := h.words
 refine ⟨?_, hb, (hk _ l1).trans h.e8, (hk _ l3).trans h.e13, ⟨n8, h8.kept (hk _ l2)⟩, ⟨n13, h13.kept (hk _ l4)⟩, ⟨cs, (hk _ l5).trans hw1, hw2⟩, ?_, ?_, h.z7, h.lt⟩
 ·exact (hf.block gx h.box.lt fun hh => by
   rcases hh with rfl | ⟨_, cs, h2⟩
   ·omega
   ·exact (h.box.ne_ h2 (by decide)) rfl).trans h.box
 ·exact h.env.below (hf.below (Nat.le_of_lt hbw) (fun q hq => by rcases hq with rfl | ⟨h1, _⟩ <;> omega) : Below bb W W') l6
 ·exact h.frm.trans hf fun q hq => by
   rcases hq with rfl | ⟨h1, cs, h2⟩
   ·exact .inl rfl
   ·by_cases e : q = bb
    ·exact .inl e
    ·exact .inr (by rw [h.z7]; omega)
theorem PSt.keep (h : PSt L B W7 b8 bm b13 mm bb A gx c v l W) (hb : Below W.heap.size W W') : PSt L B W7 b8 bm b13 mm bb A gx c v l W' :=
 h.step (Frm.of_below hb) (h.bld.keep hb)
structure PBase (L : List AOp) (B b8 bm b13 mm bb A : Nat) (W7 : World) : Prop where
 e8 : Blk W7 b8 111 #[.map (some bm)]
 e13 : Blk W7 b13 111 #[.map (some mm)]
 m8 : ∃ n, BMap W7 bm n (begF L L.length)
 m13 : ∃ n, BMap W7 mm n (markF L L.length)
 words : ∃ cs, Blk W7 A 9 cs ∧ ∀ k, k < 41 → cs[k]? = wordV[k]?
 env : EnvIn B W7
 z7 : W7.heap.size = bb + 1
 lt : b8 < bb ∧ bm < bb ∧ b13 < bb ∧ mm < bb ∧ A < bb ∧ B ≤ bb
theorem PBase.start (h : PBase L B b8 bm b13 mm bb A W7) (hF : Frm W7 W (fun q => q = bb)) (hb : Bld bb l W) : PSt L B W7 b8 bm b13 mm bb A W.heap.size c v l (W.alloc (.cells #[.int .i64 c, .int .i64 v] 113)) := by
 obtain ⟨l1, l2, l3, l4, l5, l6⟩ := h.lt
 have hs := hF.size
 have hz := h.z7
 have hA := Below.heap_alloc W (.cells #[.int .i64 c, .int .i64 v] 113)
 have hk : ∀ q, q < bb → (W.alloc (.cells #[.int .i64 c, .int .i64 v] 113)).heap[q]? = W7.heap[q]? := fun q hq => (hA q (by omega)).trans (hF.block q (by omega) (by omega))
 obtain ⟨n8, h8⟩ := h.m8
 obtain ⟨n13, h13⟩ := h.m13
 obtain ⟨cs, hw1, hw2⟩ := h.words
 refine ⟨Blk.new _ _ _, hb.keep ((Below.refl _ _).alloc (Nat.le_refl _) _), (hk _ l1).trans h.e8, (hk _ l3).trans h.e13, ⟨n8, h8.kept (hk _ l2)⟩, ⟨n13, h13.kept (hk _ l4)⟩, ⟨cs, (hk _ l5).trans hw1, hw2⟩, ?_, hF.alloc _, h.z7, l1, l2, l3, l4, l5, l6, by omega⟩
 exact h.env.below ((hF.alloc _).below (by omega) (fun q hq => by omega) : Below bb W7 _) l6
end
end Go.Proofs.YtiheggkkgbfndaaGreatDoor
