/- Things that lie in some cells each, one behind the other; pairs. -/
import Derived.Test.YthghnihlfdoefaaDoorKit
namespace Go.Proofs.YthghnihlfdoefaaDoor
open Go.RowKit Go.Joins Go.ChangeShapes Go.WideShapes Go.Deep
set_option linter.unusedVariables false
set_option linter.unusedSimpArgs false

/-- Things that lie in some cells each, one behind the other. -/
def rows {α : Type} (enc : α → List Value) (l : List α) : List Value := l.flatMap enc
theorem rows_length {α : Type} (enc : α → List Value) (k : Nat) (hk : ∀ x, (enc x).length = k) (l : List α) : (rows enc l).length = l.length * k := by
  induction l with
  | nil => simp [rows]
  | cons x l ih => simp only [rows, List.flatMap_cons, List.length_append, List.length_cons] at ih ⊢; rw [ih, hk, Nat.add_mul]; omega
theorem rows_at {α : Type} (enc : α → List Value) (k : Nat) (hk : ∀ x, (enc x).length = k) : ∀ (l : List α) (n t : Nat) (h : n < l.length) (ht : t < k), (rows enc l)[n * k + t]? = (enc l[n])[t]?
  | x :: l, 0, t, h, ht => by
    simp only [rows, List.flatMap_cons, Nat.zero_mul, Nat.zero_add, List.getElem_cons_zero]
    rw [List.getElem?_append_left (by rw [hk]; omega)]
  | x :: l, n + 1, t, h, ht => by
    have := rows_at enc k hk l n t (by simpa using h) ht
    simp only [rows, List.flatMap_cons, List.getElem_cons_succ] at this ⊢
    rw [← this, List.getElem?_append_right (by rw [hk, Nat.add_mul]; omega)]
    congr 1
    rw [hk, Nat.add_mul]
    omega
theorem rows_snoc {α : Type} (enc : α → List Value) (l : List α) (x : α) : rows enc (l ++ [x]) = rows enc l ++ enc x := by simp [rows]
theorem reads_flat {w : World} {B k n : Nat} {A : Option Addr} {xs : List Value} (h : Reads w B k A n xs) (hn : 0 < n) (hk : 0 < k) :
    ∃ b off, A = some ⟨b, off, none⟩ ∧ b < B ∧ ∀ j u, xs[j]? = some u → w.cell? ⟨b, off + j, none⟩ = some u := by
  obtain ⟨ad, rfl, hb, hc⟩ := h.2 hn
  obtain ⟨b, off, spot⟩ := ad
  have hl : 0 < xs.length := by rw [h.1]; exact Nat.mul_pos hn hk
  have h0 := hc 0 _ (List.getElem?_eq_getElem hl)
  have hs : spot = none := by simpa [Addr.add] using World.cell?_spot h0
  subst hs
  refine ⟨b, off, rfl, hb, fun j u hu => ?_⟩
  have := hc j u hu
  unfold Addr.add at this
  by_cases hj : j = 0
  · subst hj
    simpa using this
  · rw [if_neg hj] at this
    exact this

def prc (p : Int × Int) : List Value := [.int .i64 p.1, .int .i64 p.2]
def prs (l : List (Int × Int)) : List Value := rows prc l
theorem prs_length (l : List (Int × Int)) : (prs l).length = l.length * 2 := rows_length prc 2 (fun _ => rfl) l
theorem prs_at (l : List (Int × Int)) (n t : Nat) (h : n < l.length) (ht : t < 2) : (prs l)[n * 2 + t]? = (prc l[n])[t]? := rows_at prc 2 (fun _ => rfl) l n t h ht
end Go.Proofs.YthghnihlfdoefaaDoor
