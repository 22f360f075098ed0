/- carouselref14.Print. -/
import Derived.Test.YtiheggkkgbfndaaGreatDoorJ24
import Derived.Test.YtiheggkkgbfndaaGreatDoorJ15
import Derived.Test.YtiheggkkgbfndaaGreatDoorJ28
namespace Go.Proofs.YtiheggkkgbfndaaGreatDoor
open Go.RowKit Go.Joins Go.ChangeShapes Go.WideShapes Go.Deep Go.Maps Go.Sort
set_option linter.unusedVariables false
set_option linter.unusedSimpArgs false
set_option maxRecDepth 100000
theorem Dec.at_ {s : List Nat} {L : List AOp} {p : Nat} (h : Dec s L p) : ∀ m, m < L.length → ∃ q o k, Dec s (L.take m) q ∧ q < s.length ∧ atF s q = some (o, k) ∧ Dec s (L.take (m + 1)) (q + k) := by
 induction h with
 | nil => intro m hm; simp at hm
 | @snoc L p o k h1 h2 h3 ih =>
  intro m hm
  by_cases hl : m < L.length
  ·obtain ⟨q, o', k', d1, d2, d3, d4⟩ := ih m hl
   exact ⟨q, o', k', by rw [List.take_append_of_le_length (by omega)]; exact d1, d2, d3, by rw [List.take_append_of_le_length (by omega)]; exact d4⟩
  ·have hm' : m = L.length := by simp at hm; omega
   subst hm'
   exact ⟨p, o, k, by rw [List.take_left]; exact h1, h2, h3, by rw [List.take_of_length_le (by simp)]; exact h1.snoc h2 h3⟩
theorem Dec.same {s : List Nat} : ∀ (n : Nat) {L L' : List AOp} {p p' : Nat}, Dec s L p → Dec s L' p' → L.length = n → L'.length = n → L = L' ∧ p = p'
 | 0, L, L', p, p', h, h', e, e' => by
  cases h with
  | nil =>
   cases h' with
   | nil => exact ⟨rfl, rfl⟩
   | snoc => simp at e'
  | snoc => simp at e
 | n + 1, L, L', p, p', h, h', e, e' => by
  cases h with
  | nil => simp at e
  | @snoc K q o k h1 h2 h3 =>
   cases h' with
   | nil => simp at e'
   | @snoc K' q' o' k' g1 g2 g3 =>
    obtain ⟨rfl, rfl⟩ := Dec.same n h1 g1 (by simpa using e) (by simpa using e')
    rw [h3] at g3
    injection g3 with g3
    injection g3 with g3 g4
    subst g3 g4
    exact ⟨rfl, rfl⟩
theorem Dec.end_ {s : List Nat} {L L' : List AOp} {p p' : Nat} (h : Dec s L p) (h' : Dec s L' p') (he : s.length ≤ p ∨ atF s p = none) : L'.length ≤ L.length := by
 by_cases hl : L'.length ≤ L.length
 ·exact hl
 ·obtain ⟨q, o, k, d1, d2, d3, _⟩ := h'.at_ L.length (by omega)
  obtain ⟨_, rfl⟩ := Dec.same L.length h d1 rfl (by rw [List.length_take]; omega)
  rcases he with he | he
  ·omega
  ·rw [he] at d3
   cases d3
theorem Dec.det {s : List Nat} {L L' : List AOp} {p p' : Nat} (h : Dec s L p) (h' : Dec s L' p') (he : s.length ≤ p ∨ atF s p = none) (he' : s.length ≤ p' ∨ atF s p' = none) : L = L' ∧ p = p' := by
 have h1 := h.end_ h' he
 have h2 := h'.end_ h he'
 exact Dec.same L.length h h' rfl (by omega)
end Go.Proofs.YtiheggkkgbfndaaGreatDoor
namespace Go.Proofs.YtiheggkkgbfndaaGreatDoor
open Go.RowKit Go.Joins Go.ChangeShapes Go.WideShapes Go.Deep
set_option linter.unusedVariables false
set_option linter.unusedSimpArgs false
set_option maxRecDepth 100000
theorem print_len {L : List AOp} (hL : Enc L) (hs : sizeF L ≤ 512) (hn : L.length ≤ 512) : (printF L).length ≤ 100000 := by
 have h1 := lines_len L L.length (fun o ho => (hL o ho).2.2) hs
 have h2 : (labF L (sizeF L)).length ≤ 40 := by
  unfold labF
  split
  ·have := itoa_len (sizeF L : Int) ⟨by omega, by omega⟩
   simp [labelB]
   omega
  ·simp
 unfold printF
 rw [List.length_append]
 omega
theorem toNat_map_inj {a b : List UInt8} (h : a.map UInt8.toNat = b.map UInt8.toNat) : a = b := by
 induction a generalizing b with
 | nil => cases b with
  | nil => rfl
  | cons x r => cases h
 | cons x r ih =>
  cases b with
  | nil => cases h
  | cons y t =>
   simp only [List.map_cons, List.cons.injEq] at h
   rw [UInt8.toNat_inj.1 h.1, ih h.2]
theorem dec_back {s : ByteArray} {L : List AOp} (h : Dec (bytesL s) L s.size) (h5 : s.size ≤ 512) : Enc L ∧ sizeF L = s.size ∧ bytesOf L = s.data.toList ∧ L.length ≤ 512 := by
 have hg := h.good
 have hi := dec_i64 h
 refine ⟨fun o ho => ⟨(hg o ho).1, (hg o ho).2, hi o ho⟩, h.size.symm, ?_, by have := h.le; omega⟩
 have hb := h.bytes (fun b hb => by
  obtain ⟨c, _, rfl⟩ := List.mem_map.1 hb
  have := c.toNat_lt
  omega)
 rw [List.take_of_length_le (by rw [bytesL_length]; exact Nat.le_refl _)] at hb
 exact toNat_map_inj hb
def GoodI (r : RSt) : Prop := ∀ x ∈ r.ins, i64ok0 x.operand
theorem GoodI.endL {r r' : RSt} {t nm : Tok} {c : Nat} {o : Int} {rest : List Tok} (hr : GoodI r) (h : endL r t c o nm rest = .ok r') (ho : i64ok0 o) : GoodI r' := by
 cases rest with
 | cons x l => cases h
 | nil =>
  unfold Proofs.YtiheggkkgbfndaaGreatDoor.endL at h
  simp only at h
  split at h
  ·cases h
  ·injection h with h
   subst h
   intro x hx
   rcases List.mem_append.1 hx with hx | hx
   ·exact hr x hx
   ·obtain rfl := List.mem_singleton.1 hx
    exact ho
theorem i64_zero : i64ok0 0 := by unfold i64ok0; omega
theorem GoodI.insL {r r' : RSt} {t : Tok} {rest : List Tok} (hr : GoodI r) (h : insL r t rest = .ok r') : GoodI r' := by
 unfold Proofs.YtiheggkkgbfndaaGreatDoor.insL at h
 split at h
 ·cases h
 ·split at h
  ·split at h
   ·cases h
   ·split at h
    ·cases h
    ·rename_i o nm ho
     refine hr.endL h ?_
     unfold oprL at ho
     split at ho
     ·rename_i v hv
      split at ho
      ·injection ho with ho
       injection ho with h1 h2
       subst h1
       exact (numF_some.1 hv).1
      ·cases ho
     ·split at ho
      ·injection ho with ho
       injection ho with h1 h2
       subst h1
       exact i64_zero
      ·cases ho
  ·exact hr.endL h i64_zero
theorem GoodI.lineL {r r' : RSt} {l : List Tok} (hr : GoodI r) (h : lineL r l = .ok r') : GoodI r' := by
 unfold Proofs.YtiheggkkgbfndaaGreatDoor.lineL at h
 split at h
 ·injection h with h; subst h; exact hr
 ·rename_i t rest
  have hlab : GoodI ⟨r.labels ++ [(t.s.dropLast, r.size)], r.ins⟩ := hr
  split at h
  ·split at h
   ·cases h
   ·split at h
    ·cases h
    ·split at h
     ·injection h with h; subst h; exact hlab
     ·exact hlab.insL h
  ·exact hr.insL h
theorem GoodI.linesL : ∀ {ls : List (List Tok)} {r r' : RSt}, GoodI r → linesL r ls = .ok r' → GoodI r'
 | [], r, r', hr, h => by injection h with h; subst h; exact hr
 | l :: ls, r, r', hr, h => by
  rw [linesL_cons] at h
  cases hx : Proofs.YtiheggkkgbfndaaGreatDoor.lineL r l with
  | error e => rw [hx] at h; cases h
  | ok r1 =>
   rw [hx] at h
   exact GoodI.linesL (hr.lineL hx) h
theorem GoodI.start : GoodI ⟨[], []⟩ := fun x hx => (by cases hx)
theorem resOne_i64 {r : RSt} (hr : Good r) (hi : GoodI r) {x : Ins} (hx : x ∈ r.ins) {o : AOp} (h : resOne r.labels x = .ok o) : i64ok0 o.operand := by
 unfold resOne at h
 split at h
 ·injection h with h
  subst h
  exact hi x hx
 ·split at h
  ·cases h
  ·rename_i k hk
   have hk5 := labF2_le hr hk
   have hp := (hr.ins x hx).2.1
   injection h with h
   subst h
   simp only
   unfold i64ok0
   split <;> omega
theorem resL_i64 {r : RSt} (hr : Good r) (hi : GoodI r) : ∀ (l : List Ins) (L : List AOp), (∀ x ∈ l, x ∈ r.ins) → resL r.labels l = .ok L → ∀ o ∈ L, i64ok0 o.operand
 | [], L, hm, h => by
  injection h with h
  subst h
  exact fun o ho => (by cases ho)
 | x :: l, L, hm, h => by
  simp only [resL] at h
  cases hx : resOne r.labels x with
  | error e => rw [hx] at h; cases h
  | ok o =>
   rw [hx] at h
   simp only at h
   cases hl : resL r.labels l with
   | error e => rw [hl] at h; cases h
   | ok L1 =>
    rw [hl] at h
    injection h with h
    subst h
    intro o' ho
    rcases List.mem_cons.1 ho with rfl | ho
    ·exact resOne_i64 hr hi (hm x (List.mem_cons_self ..)) hx
    ·exact resL_i64 hr hi l L1 (fun y hy => hm y (List.mem_cons_of_mem _ hy)) hl o' ho
theorem parse_enc {t : List UInt8} {L : List AOp} (h : parseF t = .ok L) : Enc L ∧ (bytesOf L).length ≤ 512 ∧ L.length ≤ 512 := by
 unfold parseF at h
 cases hr : linesL ⟨[], []⟩ (lineToks t) with
 | error e => rw [hr] at h; cases h
 | ok r =>
  rw [hr] at h
  have hG := Good.start.linesL hr
  have h1 := resL_good hG r.ins L (fun _ hx => hx) h
  have h2 := resL_i64 hG (GoodI.start.linesL hr) r.ins L (fun _ hx => hx) h
  have h3 := resL_size hG h
  refine ⟨fun o ho => ⟨(h1.1 o ho).1, (h1.1 o ho).2, h2 o ho⟩, by rw [h3]; exact hG.size, ?_⟩
  have h4 := bytesOf_size L
  have h5 : L.length ≤ sizeF L := by
   unfold sizeF
   have : ∀ l : List AOp, l.length ≤ (l.map fun o => 1 + widthF (shapeF o.code)).sum := by
    intro l
    induction l with
    | nil => exact Nat.le_refl _
    | cons x l ih => rw [List.map_cons, List.sum_cons, List.length_cons]; omega
   exact this L
  have := hG.size
  omega
theorem linesL_err : ∀ {ls : List (List Tok)} {r : RSt} {y : Nat × Nat}, linesL r ls = .error y → y.1 ≠ 0
 | [], r, y, h => by cases h
 | l :: ls, r, y, h => by
  rw [linesL_cons] at h
  cases hx : lineL r l with
  | error e =>
   rw [hx] at h
   injection h with h
   subst h
   rcases lineL_err hx with h | h | h | h <;> omega
  | ok r' =>
   rw [hx] at h
   exact linesL_err h
theorem resL_err {ls : List (List UInt8 × Nat)} : ∀ {l : List Ins} {y : Nat × Nat}, resL ls l = .error y → y.1 = 11
 | [], y, h => by cases h
 | x :: l, y, h => by
  simp only [resL] at h
  cases hx : resOne ls x with
  | error e =>
   rw [hx] at h
   injection h with h
   subst h
   unfold resOne at hx
   split at hx
   ·cases hx
   ·split at hx
    ·injection hx with hx; subst hx; rfl
    ·cases hx
  | ok o =>
   rw [hx] at h
   simp only at h
   cases hl : resL ls l with
   | error e =>
    rw [hl] at h
    injection h with h
    subst h
    exact resL_err hl
   | ok L => rw [hl] at h; cases h
theorem parseF_err {t : List UInt8} {y : Nat × Nat} (h : parseF t = .error y) : y.1 ≠ 0 := by
 unfold parseF at h
 cases hr : linesL ⟨[], []⟩ (lineToks t) with
 | error e =>
  rw [hr] at h
  injection h with h
  subst h
  exact linesL_err hr
 | ok r =>
  rw [hr] at h
  have := resL_err h
  omega
end Go.Proofs.YtiheggkkgbfndaaGreatDoor
