/- The sizes of the arguments of steps that came in. -/
import Derived.Test.YtpmpgnhbpneloaaStp
namespace Go.Proofs.Ytpmpgnhbpneloaa
open Go.RowKit Go.Joins Go.ChangeShapes Go.WideShapes Go.ChangeAt Go.Deep
set_option linter.unusedVariables false
set_option maxRecDepth 100000

theorem weights_mem_all {H : Type} {P : Program} {e : TypeId} {d : DataW H} {n : Nat} (hn : n ∈ d.weights P e) : ∀ {l : List (DataW H)}, d ∈ l → n ∈ DataW.weightsAll P e l
  | x :: r, h => by
    rw [DataW.weightsAll, List.mem_append]
    rcases List.mem_cons.1 h with rfl | h
    · exact .inl hn
    · exact .inr (weights_mem_all hn h)

/-- A list that came in, and what each element reads as. -/
theorem rows_openD {H : Type} {enc : TypeId × Value → H} {P : Program} {W : World} {α : Type} (d0 : α) (cf : α → List Value) (Good : α → DataW H → Prop) {n : Nat} {t e : TypeId} {sz : Nat} {v : Value} {y : DataW H × List MemPlace}
    (ht : P.underlying t = some (.slice e)) (hC : P.cellsOf e = sz) (hsz : 0 < sz) (hk : ∀ x, (cf x).length = sz)
    (hel : ∀ n cs y, DataW.trod enc P W 0 (fun _ => true) true n e cs = some y → ∃ z, cs = cf z ∧ Good z y.1)
    (h : DataW.trod enc P W 0 (fun _ => true) true n t [v] = some y) :
    ∃ A len cap l, v = .slice A len cap ∧ l.length = len ∧ len ≤ cap ∧ cap ≤ maxLen ∧ Reads W W.heap.size sz A len (rows cf l) ∧ (len = 0 ∨ ∃ (D : Nat → DataW H) (rest : List (DataW H)), (∀ i (hi : i < l.length), Good l[i] (D i)) ∧ y.1 = .slice ((List.range len).map D) rest) := by
  rcases open_slice ht h with ⟨hcs, _⟩ | ⟨a, len, cap, m, n', D, Pl, hcs, hb, hl, hm, hmm, hx, hi⟩
  · simp at hcs
    subst hcs
    exact ⟨none, 0, 0, [], rfl, rfl, Nat.le_refl _, Nat.zero_le _, Reads.none_, .inl rfl⟩
  · simp at hcs
    subst hcs
    rw [hC] at hi
    have hmc : m = cap := by simpa using hmm
    subst hmc
    have hz : ∀ i, i < len → ∃ z : α, Good z (D i) ∧ ∀ t u, t < sz → (cf z)[t]? = some u → W.cell? (a.add (i * sz + t)) = some u := by
      intro i hil
      obtain ⟨cs', hc, ht⟩ := hi i (by omega)
      obtain ⟨z, rfl, hg⟩ := hel _ _ _ ht
      obtain ⟨_, hcl, hat⟩ := World.cells?_some hc
      refine ⟨z, hg, fun t u ht hu => ?_⟩
      have := hat t ht
      rw [add_of_add] at this
      rw [this, hu]
    obtain ⟨f, hf⟩ : ∃ f : Nat → α, ∀ i, i < len → Good (f i) (D i) ∧ ∀ t u, t < sz → (cf (f i))[t]? = some u → W.cell? (a.add (i * sz + t)) = some u :=
      ⟨fun i => if h : i < len then (hz i h).choose else d0, fun i hil => by simp only [dif_pos hil]; exact (hz i hil).choose_spec⟩
    have hlen : ((List.range len).map f).length = len := by simp
    have hrl : (rows cf ((List.range len).map f)).length = len * sz := by rw [rows_length cf sz hk, hlen]
    have hcell : ∀ j u, (rows cf ((List.range len).map f))[j]? = some u → W.cell? (a.add j) = some u := by
      intro j u hu
      have hj : j < (rows cf ((List.range len).map f)).length := by
        rcases Nat.lt_or_ge j (rows cf ((List.range len).map f)).length with h | h
        · exact h
        · rw [List.getElem?_eq_none h] at hu; cases hu
      rw [hrl] at hj
      have h8 : j / sz < len := (Nat.div_lt_iff_lt_mul hsz).2 hj
      have ht : j % sz < sz := Nat.mod_lt _ hsz
      have e : j = j / sz * sz + j % sz := by have := Nat.div_add_mod j sz; rw [Nat.mul_comm] at this; omega
      rw [e, rows_at cf sz hk _ (j / sz) (j % sz) (by rw [hlen]; exact h8) ht] at hu
      rw [e]
      refine (hf (j / sz) h8).2 (j % sz) u ht ?_
      rw [← hu]
      simp
    refine ⟨some a, len, m, (List.range len).map f, rfl, hlen, hl, hm, ⟨by rw [hrl], fun hn => ⟨a, rfl, ?_, hcell⟩⟩, .inr ⟨D, _, ?_, by rw [hx]⟩⟩
    · have h0 := hcell 0 _ (List.getElem?_eq_getElem (by rw [hrl]; exact Nat.mul_pos hn hsz))
      have := World.block_lt_of_cell? W _ h0
      rwa [block_of_add] at this
    · intro i hi
      have hil : i < len := by rw [hlen] at hi; exact hi
      simpa using (hf i hil).1

def StepZ.Reads_ {H : Type} (z : StepZ) (d : DataW H) : Prop := ∃ parts, d = .agg parts ∧ (z.na = 0 ∨ ∃ rest, parts[5]? = some (.slice (lits .i64 z.args) rest))
theorem step_cells2 {H : Type} {enc : TypeId × Value → H} {W : World} {n : Nat} {cs : List Value} {y : DataW H × List MemPlace} (h : DataW.trod enc Try.prog W 0 (fun _ => true) true n 47 cs = some y) : ∃ z : StepZ, cs = z.cells ∧ z.Good W ∧ z.Reads_ y.1 := by
  obtain ⟨xs, n', _, hx, hlen, hxl, hf⟩ := DataW.trod_struct Try.underlying47 h
  have hco : Try.prog.cellsOf 47 = 6 := by kernel_rfl
  have co_sl : Try.prog.cellsOf 34 = 1 := by kernel_rfl
  rw [hco] at hlen
  match cs, hlen with
  | [c0, c1, c2, c3, c4, c5], _ =>
    obtain ⟨y0, _, h0⟩ := fieldo_some hxl hf (i := 0) rfl 0 rfl rfl co_int
    obtain ⟨y1, _, h1⟩ := fieldo_some hxl hf (i := 1) rfl 1 rfl rfl co_i64
    obtain ⟨y2, _, h2⟩ := fieldo_some hxl hf (i := 2) rfl 2 rfl rfl co_i64
    obtain ⟨y3, _, h3⟩ := fieldo_some hxl hf (i := 3) rfl 3 rfl rfl co_int
    obtain ⟨y4, _, h4⟩ := fieldo_some hxl hf (i := 4) rfl 4 rfl rfl co_int
    obtain ⟨y5, k5, h5⟩ := fieldo_some hxl hf (i := 5) rfl 5 rfl rfl co_sl
    simp only [List.drop_zero, List.drop_succ_cons, List.take_succ_cons, List.take_zero] at h0 h1 h2 h3 h4 h5
    obtain ⟨a0, e0, _⟩ := DataW.trod_int Try.underlying3 h0
    obtain ⟨a1, e1, _⟩ := DataW.trod_int Try.underlying2 h1
    obtain ⟨a2, e2, _⟩ := DataW.trod_int Try.underlying2 h2
    obtain ⟨a3, e3, _⟩ := DataW.trod_int Try.underlying3 h3
    obtain ⟨a4, e4, _⟩ := DataW.trod_int Try.underlying3 h4
    obtain ⟨A, n, nc, zs, rfl, hzl, hn, hnc, hA, wz, hd⟩ := slice_ints Try.underlying34 Try.underlying2 (by kernel_rfl) h5
    simp at e0 e1 e2 e3 e4
    subst e0 e1 e2 e3 e4
    have hmax : maxLen = 9223372036854775807 := rfl
    refine ⟨⟨a0, a1, a2, a3, a4, A, n, nc, zs⟩, rfl, ⟨hzl, by show n ≤ 9223372036854775807; omega, hA⟩, xs.map (·.1), by rw [hx], ?_⟩
    rcases hd with ⟨_, h, _⟩ | ⟨rest, h⟩
    · exact .inl h
    · exact .inr ⟨rest, by rw [List.getElem?_map, k5, Option.map_some, h]⟩

theorem param_steps2 {H : Type} {enc : TypeId × Value → H} {W : World} {r : Reach} {b0 : Nat} {v : Value} {d : DataW H} {p : List MemPlace} (hv : Value.okWide Try.prog W r b0 44 v) (h : DataW.Trod enc Try.prog W 0 (fun _ => true) true 44 v d p)
    {ts : List TypeId} {ds : List (DataW H)} {j : Nat} (hsz : (DataW.weightsEach Try.prog ts ds).all (· ≤ reachBytes) = true) (hj : ts[j]? = some 44) (hdj : ds[j]? = some d) :
    ∃ A n nc l, v = .slice A n nc ∧ l.length = n ∧ n ≤ 9223372036854775807 ∧ Reads W W.heap.size 6 A n (rows StepZ.cells l) ∧ ∀ z ∈ l, StepZ.Good W z ∧ z.na * 8 ≤ 140737488351232 := by
  obtain ⟨a, l, c, rfl⟩ := okWide_slice Try.underlying44 hv
  obtain ⟨fuel, hf⟩ := h
  have hf' : DataW.trod enc Try.prog W 0 (fun _ => true) true fuel 44 [.slice a l c] = some (d, p) := by simpa [Value.cells] using hf
  have hmax : maxLen = 9223372036854775807 := rfl
  obtain ⟨A, n, nc, l, hv, hl, hn, hnc, hA, hD⟩ := rows_openD ⟨0, 0, 0, 0, 0, none, 0, 0, []⟩ StepZ.cells (fun z d => StepZ.Good W z ∧ z.Reads_ d) (sz := 6) Try.underlying44 (by kernel_rfl) (by omega) (fun _ => rfl) (fun n cs y h => step_cells2 h) hf'
  refine ⟨A, n, nc, l, hv, hl, by omega, hA, fun z hz => ?_⟩
  rcases hD with h0 | ⟨D, rest, hg, hy⟩
  · rw [h0] at hl
    rw [List.eq_nil_of_length_eq_zero hl] at hz
    simp at hz
  · obtain ⟨i, hi, rfl⟩ := List.getElem_of_mem hz
    obtain ⟨hgood, parts, hp, hs⟩ := hg i hi
    refine ⟨hgood, ?_⟩
    rcases hs with h0 | ⟨rest', hs⟩
    · omega
    · have hall : (DataW.weightsEach Try.prog ((#[].toList : List TypeId) ++ [3, 2, 2, 3, 3, 34]) parts).all (· ≤ reachBytes) = true := by
        apply List.all_eq_true.2
        intro x hx
        have hm : x ∈ d.weights Try.prog 44 := by
          have hy' : d = .slice ((List.range n).map D) rest := hy
          rw [hy']
          simp only [DataW.weights, Try.underlying44]
          refine List.mem_cons.2 (.inr (List.mem_append.2 (.inl (weights_mem_all (d := D i) ?_ (List.mem_map.2 ⟨i, List.mem_range.2 (by omega), rfl⟩)))))
          rw [hp]
          simp only [DataW.weights, Try.underlying47]
          simpa using hx
        have := List.all_eq_true.1 hsz x (DataW.weights_mem_each hj hdj x hm)
        simpa using this
      have := sized_ints hall (j := 5) rfl hs Try.underlying34 (by kernel_rfl)
      rw [hgood.1] at this
      exact this
end Go.Proofs.Ytpmpgnhbpneloaa
