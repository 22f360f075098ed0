/- How a law's arguments are opened, and how its row is closed: lemmas that every law of this seat uses. They state nothing of the program. -/
import Derived.Test.YthghnihlfdoefaaDoorKit
import Derived.SizedLaws
import Derived.Carry
namespace Go.Proofs.YthghnihlfdoefaaDoor
open Go.RowKit Go.Joins Go.ChangeShapes Go.WideShapes Go.ChangeAt Go.Deep
set_option linter.unusedVariables false
set_option linter.unusedSimpArgs false

theorem own : ownKnob Tryd.prog.godebug = none := by kernel_rfl
theorem laidOut : laidOutB Tryd.prog = true := by kernel_rfl

/-- A list of integers as values. -/
def ints (l : List Int) : List Value := l.map (Value.int .i64)
theorem ints_length (l : List Int) : (ints l).length = l.length := by simp [ints]
theorem ints_at (l : List Int) (k : Nat) (h : k < l.length) : (ints l)[k]? = some (.int .i64 l[k]) := by simp [ints, List.getElem?_eq_getElem h]

section
variable {H : Type} {enc : TypeId × Value → H} {P : Program} {w : World}
/-- A slice of int64 (or int) that came in, from its cell. -/
theorem slice_ints {t e : TypeId} {n : Nat} {v : Value} {y : DataW H × List MemPlace} (ht : P.underlying t = some (.slice e)) (he : P.underlying e = some (.int .i64)) (hC : P.cellsOf e = 1)
    (h : DataW.trod enc P w 0 (fun _ => true) true n t [v] = some y) :
    ∃ A len cap zs, v = .slice A len cap ∧ zs.length = len ∧ len ≤ cap ∧ cap ≤ maxLen ∧ Reads w w.heap.size 1 A len (ints zs) ∧ (∀ z ∈ zs, (Lit.int .i64 z).wf = true) ∧ ((A = none ∧ len = 0 ∧ cap = 0) ∨ ∃ rest, y.1 = .slice (lits .i64 zs) rest) := by
  rcases open_ints ht he hC h with ⟨hcs, hx⟩ | ⟨a, len, cap, zs, hcs, _, hl, hm, hz, hx, hcell, hwz⟩
  · simp at hcs
    subst hcs
    exact ⟨none, 0, 0, [], rfl, rfl, Nat.le_refl _, Nat.zero_le _, Reads.none_, by simp, .inl ⟨rfl, rfl, rfl⟩⟩
  · simp at hcs
    subst hcs
    have hzl : zs.length = cap := by simpa using hz
    refine ⟨some a, len, cap, zs.take len, rfl, by simp; omega, hl, hm, ⟨by simp [ints]; omega, fun hn => ⟨a, rfl, ?_, ?_⟩⟩, fun z hz' => hwz z (List.mem_of_mem_take hz'), .inr ⟨_, by rw [hx]⟩⟩
    · have h0 := hcell 0 (by omega)
      have := World.block_lt_of_cell? w _ h0
      rwa [block_of_add] at this
    · intro j u hu
      have hj : j < len := by
        rcases Nat.lt_or_ge j len with h | h
        · exact h
        · rw [List.getElem?_eq_none (by simp [ints]; omega)] at hu
          cases hu
      rw [hcell j (by omega)]
      rw [← hu]
      simp [ints, hj, List.getElem?_eq_getElem (show j < zs.length by omega)]

theorem Below.trodAll {ts : List TypeId} {vs : List Value} {ds : List (DataW H)} {p : List MemPlace} (hl : laidOutB P = true) (hr : ∀ t ∈ ts, P.readableRec t = true ∧ t < P.types.size) {W W' : World}
    (h : DataW.TrodAll enc P W 0 (fun _ => true) true ts vs ds p) (hb : Below W.heap.size W W') (hlt : ∀ x ∈ p, x.block < W.heap.size) :
    DataW.TrodAll enc P W' 0 (fun b => decide (b < W.heap.size)) true ts vs ds p := by
  induction ts generalizing vs ds p with
  | nil =>
    obtain ⟨rfl, rfl, rfl⟩ := trodAll_nil h
    exact trodAll_mk0
  | cons t ts ih =>
    obtain ⟨v0, vs0, d0, ds0, p0, q0, rfl, rfl, rfl, h0, r0⟩ := trodAll_cons h
    have ht := hr t (by simp)
    exact trodAll_cons_mk (Below.trod hl ht.1 ht.2 h0 hb (fun x hx => hlt x (by simp [hx]))) (ih (fun u hu => hr u (by simp [hu])) r0 (fun x hx => hlt x (by simp [hx])))

/-- The reach of a slice that lies in a struct. -/
theorem sized_field {ts : List TypeId} {ds : List (DataW H)} (h : (DataW.weightsEach P ts ds).all (· ≤ reachBytes) = true) {j : Nat} {t : TypeId} {fs : Array Field} {parts : List (DataW H)} (ht : ts[j]? = some t) (hd : ds[j]? = some (.agg parts))
    (hu : P.underlying t = some (.struct fs)) : (DataW.weightsEach P (fs.toList.map (·.type)) parts).all (· ≤ reachBytes) = true := by
  apply List.all_eq_true.2
  intro x hx
  have := List.all_eq_true.1 h x (DataW.weights_mem_each ht hd x (by simp only [DataW.weights, hu]; exact hx))
  simpa using this
theorem sized_ints {ts : List TypeId} {ds : List (DataW H)} (h : (DataW.weightsEach P ts ds).all (· ≤ reachBytes) = true) {j : Nat} {t e : TypeId} {zs : List Int} {rest : List (DataW H)} (ht : ts[j]? = some t) (hd : ds[j]? = some (.slice (lits .i64 zs) rest))
    (hu : P.underlying t = some (.slice e)) (hb : P.bytesOf e = 8) : zs.length * 8 ≤ 140737488351232 := by
  have := sized_slice h ht hd hu
  rw [hb] at this
  simp only [lits, List.length_map, reachBytes] at this
  omega
end
end Go.Proofs.YthghnihlfdoefaaDoor
