/- A list of structs that came in, opened; each struct by a lemma of its own. -/
import Derived.Test.YtffjcojehiblnaaGreatDoorArg
import Derived.Test.YtffjcojehiblnaaGreatDoorRw
namespace Go.Proofs.YtffjcojehiblnaaGreatDoor
open Go.RowKit Go.Joins Go.ChangeShapes Go.WideShapes Go.ChangeAt Go.Deep
set_option linter.unusedVariables false
set_option linter.unusedSimpArgs false

section
variable {H : Type} {enc : TypeId × Value → H} {w : World} {base : Nat} {spare : Nat → Bool} {held : Bool}
theorem fieldo_some {fs : Array Field} {cs : List Value} {xs : List (DataW H × List MemPlace)} {n : Nat} (hl : xs.length = fs.size)
    (hf : ∀ (i : Nat) (f : Field), fs[i]? = some f → DataW.trod enc Tryz.prog w base spare held n f.type ((cs.drop f.offset).take (Tryz.prog.cellsOf f.type)) = xs[i]?)
    {i : Nat} {f : Field} (h : fs[i]? = some f) {t : TypeId} (o : Nat) {c : Nat} (ht : f.type = t) (ho : f.offset = o) (hc : Tryz.prog.cellsOf t = c) : ∃ y, xs[i]? = some y ∧ DataW.trod enc Tryz.prog w base spare held n t ((cs.drop o).take c) = some y := by
  have hi : i < xs.length := by rw [hl]; exact (Array.getElem?_eq_some_iff.1 h).1
  subst ht ho hc
  exact ⟨xs[i], List.getElem?_eq_getElem hi, (hf i f h).trans (List.getElem?_eq_getElem hi)⟩
end

/-- A list that came in. -/
theorem rows_open {H : Type} {enc : TypeId × Value → H} {P : Program} {W : World} {α : Type} (d0 : α) (cf : α → List Value) (Good : α → Prop) {n : Nat} {t e : TypeId} {sz : Nat} {v : Value} {y : DataW H × List MemPlace}
    (ht : P.underlying t = some (.slice e)) (hC : P.cellsOf e = sz) (hsz : 0 < sz) (hk : ∀ x, (cf x).length = sz)
    (hel : ∀ n cs y, DataW.trod enc P W 0 (fun _ => true) true n e cs = some y → ∃ z, cs = cf z ∧ Good z)
    (h : DataW.trod enc P W 0 (fun _ => true) true n t [v] = some y) :
    ∃ A len cap l, v = .slice A len cap ∧ l.length = len ∧ len ≤ cap ∧ cap ≤ maxLen ∧ Reads W W.heap.size sz A len (rows cf l) ∧ (∀ z ∈ l, Good z) ∧ ((A = none ∧ len = 0 ∧ cap = 0) ∨ ∃ ds rest, ds.length = len ∧ y.1 = .slice ds rest) := by
  rcases open_slice ht h with ⟨hcs, _⟩ | ⟨a, len, cap, m, n', D, Pl, hcs, hb, hl, hm, hmm, hx, hi⟩
  · simp at hcs
    subst hcs
    exact ⟨none, 0, 0, [], rfl, rfl, Nat.le_refl _, Nat.zero_le _, Reads.none_, by simp, .inl ⟨rfl, rfl, rfl⟩⟩
  · simp at hcs
    subst hcs
    rw [hC] at hi
    have hmc : m = cap := by simpa using hmm
    subst hmc
    have hz : ∀ i, i < len → ∃ z : α, Good z ∧ ∀ t u, t < sz → (cf z)[t]? = some u → W.cell? (a.add (i * sz + t)) = some u := by
      intro i hil
      obtain ⟨cs', hc, ht⟩ := hi i (by omega)
      obtain ⟨z, rfl, hg⟩ := hel _ _ _ ht
      obtain ⟨_, hcl, hat⟩ := World.cells?_some hc
      refine ⟨z, hg, fun t u ht hu => ?_⟩
      have := hat t ht
      rw [add_of_add] at this
      rw [this, hu]
    obtain ⟨f, hf⟩ : ∃ f : Nat → α, ∀ i, i < len → Good (f i) ∧ ∀ t u, t < sz → (cf (f i))[t]? = some u → W.cell? (a.add (i * sz + t)) = some u :=
      ⟨fun i => if h : i < len then (hz i h).choose else d0, fun i hil => by simp only [dif_pos hil]; exact (hz i hil).choose_spec⟩
    have hlen : ((List.range len).map f).length = len := by simp
    have hrl : (rows cf ((List.range len).map f)).length = len * sz := by rw [rows_length cf sz hk, hlen]
    have hcell : ∀ j u, (rows cf ((List.range len).map f))[j]? = some u → W.cell? (a.add j) = some u := by
      intro j u hu
      have hj : j < (rows cf ((List.range len).map f)).length := by
        rcases Nat.lt_or_ge j (rows cf ((List.range len).map f)).length with h | h
        · exact h
        · rw [List.getElem?_eq_none h] at hu; cases hu
      rw [hrl] at hj
      have h8 : j / sz < len := (Nat.div_lt_iff_lt_mul hsz).2 hj
      have ht : j % sz < sz := Nat.mod_lt _ hsz
      have e : j = j / sz * sz + j % sz := by have := Nat.div_add_mod j sz; rw [Nat.mul_comm] at this; omega
      rw [e, rows_at cf sz hk _ (j / sz) (j % sz) (by rw [hlen]; exact h8) ht] at hu
      rw [e]
      refine (hf (j / sz) h8).2 (j % sz) u ht ?_
      rw [← hu]
      simp
    refine ⟨some a, len, m, (List.range len).map f, rfl, hlen, hl, hm, ⟨by rw [hrl], fun hn => ⟨a, rfl, ?_, hcell⟩⟩, ?_, .inr ⟨_, _, ?_, by rw [hx]⟩⟩
    · have h0 := hcell 0 _ (List.getElem?_eq_getElem (by rw [hrl]; exact Nat.mul_pos hn hsz))
      have := World.block_lt_of_cell? W _ h0
      rwa [block_of_add] at this
    · intro z hzm
      obtain ⟨i, hi, rfl⟩ := List.mem_map.1 hzm
      exact (hf i (List.mem_range.1 hi)).1
    · simp
end Go.Proofs.YtffjcojehiblnaaGreatDoor
