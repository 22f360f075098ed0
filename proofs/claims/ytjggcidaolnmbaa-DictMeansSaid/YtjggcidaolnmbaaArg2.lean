/- A slice of int64 that comes in as an argument. -/
import Derived.Test.YtjggcidaolnmbaaArg
namespace Go.Proofs.Ytjggcidaolnmbaa
open Go.RowKit Go.Joins Go.ChangeShapes Go.WideShapes Go.ChangeAt Go.Deep
set_option linter.unusedVariables false

/-- A slice of int64 (or int) that came in as an argument. -/
theorem param_ints {H : Type} {enc : TypeId × Value → H} {P : Program} {W : World} {r : Reach} {b0 : Nat} {t e : TypeId} {v : Value} {d : DataW H} {p : List MemPlace} (ht : P.underlying t = some (.slice e)) (he : P.underlying e = some (.int .i64)) (hC : P.cellsOf e = 1) (hB : P.bytesOf e = 8)
    (hv : Value.okWide P W r b0 t v) (h : DataW.Trod enc P W 0 (fun _ => true) true t v d p) :
    ∃ A n nc zs, v = .slice A n nc ∧ zs.length = n ∧ n ≤ nc ∧ nc ≤ 9223372036854775807 ∧ Reads W W.heap.size 1 A n (ints zs) ∧ (∀ z ∈ zs, (Lit.int .i64 z).wf = true) ∧
      ∀ {ts : List TypeId} {ds : List (DataW H)} {j : Nat}, (DataW.weightsEach P ts ds).all (· ≤ reachBytes) = true → ts[j]? = some t → ds[j]? = some d → n * 8 ≤ 140737488351232 := by
  obtain ⟨a, l, c, rfl⟩ := okWide_slice ht hv
  obtain ⟨fuel, hf⟩ := h
  have hf' : DataW.trod enc P W 0 (fun _ => true) true fuel t [.slice a l c] = some (d, p) := by simpa [Value.cells] using hf
  obtain ⟨A, n, nc, zs, hvv, hzl, hn, hnc, hA, wz, hd⟩ := slice_ints ht he hC hf'
  refine ⟨A, n, nc, zs, hvv, hzl, hn, by simpa [maxLen] using hnc, hA, wz, ?_⟩
  intro ts ds j hsz hts hds
  rcases hd with ⟨_, h, _⟩ | ⟨rest, h⟩
  · omega
  · have hd' : d = .slice (lits .i64 zs) rest := h
    have := sized_ints hsz (j := j) hts (by rw [hds, hd']) ht hB
    omega
end Go.Proofs.Ytjggcidaolnmbaa
