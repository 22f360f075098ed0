/- An argument of the type Asked, opened. -/
import Derived.Test.YtjggcidaolnmbaaArg
namespace Go.Proofs.Ytjggcidaolnmbaa
open Go.RowKit Go.Joins Go.ChangeShapes Go.WideShapes Go.ChangeAt Go.Deep
set_option linter.unusedVariables false
set_option maxRecDepth 100000

theorem asked_open {H : Type} {enc : TypeId × Value → H} {W : World} {r : Reach} {b0 : Nat} {v : Value} {d : DataW H} {p : List MemPlace} (hv : Value.okWide Try.prog W r b0 26 v)
    (h : DataW.Trod enc Try.prog W 0 (fun _ => true) true 26 v d p) :
    ∃ (base most call : Int) (args words : List Int) (A Wd : Option Addr) (n nc m mc : Nat), v = .agg #[.int .i64 base, .int .i64 most, .int .i64 call, .slice A n nc, .slice Wd m mc] ∧
      n ≤ nc ∧ nc ≤ 9223372036854775807 ∧ m ≤ mc ∧ mc ≤ 9223372036854775807 ∧ Reads W W.heap.size 1 A n (ints args) ∧ Reads W W.heap.size 1 Wd m (ints words) ∧
      ((Lit.int .i64 base).wf = true ∧ (Lit.int .i64 most).wf = true ∧ (Lit.int .i64 call).wf = true ∧ (∀ z ∈ args, (Lit.int .i64 z).wf = true) ∧ (∀ z ∈ words, (Lit.int .i64 z).wf = true)) ∧
      ∀ {ts : List TypeId} {ds : List (DataW H)} {j : Nat}, (DataW.weightsEach Try.prog ts ds).all (· ≤ reachBytes) = true → ts[j]? = some 26 → ds[j]? = some d → n * 8 ≤ 140737488351232 ∧ m * 8 ≤ 140737488351232 := by
  obtain ⟨c0, c1, c2, c3, c4, y0, y1, y2, y3, y4, k, rfl, rfl, _, h0, h1, h2, h3, h4⟩ := open_agg5 Try.underlying26 (by kernel_rfl) (by kernel_rfl) hv h
  obtain ⟨a, e0, rfl, wa⟩ := DataW.trod_int Try.underlying3 h0
  obtain ⟨b, e1, rfl, wb⟩ := DataW.trod_int Try.underlying3 h1
  obtain ⟨c, e2, rfl, wc⟩ := DataW.trod_int Try.underlying3 h2
  simp at e0 e1 e2
  subst e0 e1 e2
  obtain ⟨A, n, nc, zs, rfl, hzl, hn, hnc, hA, wz, hd⟩ := slice_ints Try.underlying24 Try.underlying2 (by kernel_rfl) h3
  obtain ⟨B, m, mc, us, rfl, hul, hm, hmc, hB, wu, he⟩ := slice_ints Try.underlying24 Try.underlying2 (by kernel_rfl) h4
  have hmax : maxLen = 9223372036854775807 := rfl
  refine ⟨a, b, c, zs, us, A, B, n, nc, m, mc, rfl, hn, by rw [← hmax]; exact hnc, hm, by rw [← hmax]; exact hmc, hA, hB, ⟨wa, wb, wc, wz, wu⟩, ?_⟩
  intro ts ds j hsz ht hds
  have hf := sized_field hsz ht hds Try.underlying26
  constructor
  · rcases hd with ⟨_, h, _⟩ | ⟨rest, h⟩
    · omega
    · have := sized_ints hf (j := 3) rfl (by rw [← h]; rfl) Try.underlying24 (by kernel_rfl)
      omega
  · rcases he with ⟨_, h, _⟩ | ⟨rest, h⟩
    · omega
    · have := sized_ints hf (j := 4) rfl (by rw [← h]; rfl) Try.underlying24 (by kernel_rfl)
      omega
end Go.Proofs.Ytjggcidaolnmbaa
