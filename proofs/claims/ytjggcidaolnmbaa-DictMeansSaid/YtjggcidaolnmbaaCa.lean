/- A list of dict calls that came in. -/
import Derived.Test.YtjggcidaolnmbaaRo
namespace Go.Proofs.Ytjggcidaolnmbaa
open Go.RowKit Go.Joins Go.ChangeShapes Go.WideShapes Go.ChangeAt Go.Deep
set_option linter.unusedVariables false
set_option maxRecDepth 100000

structure CallZ where
  call : Int
  A : Option Addr
  na : Nat
  ca : Nat
  args : List Int
def CallZ.cells (z : CallZ) : List Value := [.int .i64 z.call, .slice z.A z.na z.ca]
def CallZ.Good (W : World) (z : CallZ) : Prop := z.args.length = z.na ∧ z.na ≤ 9223372036854775807 ∧ Reads W W.heap.size 1 z.A z.na (ints z.args)

theorem call_cells {H : Type} {enc : TypeId × Value → H} {W : World} {n : Nat} {cs : List Value} {y : DataW H × List MemPlace} (h : DataW.trod enc Try.prog W 0 (fun _ => true) true n 56 cs = some y) : ∃ z : CallZ, cs = z.cells ∧ z.Good W := by
  obtain ⟨xs, n', _, _, hlen, hxl, hf⟩ := DataW.trod_struct Try.underlying56 h
  have hco : Try.prog.cellsOf 56 = 2 := by kernel_rfl
  have co_int : Try.prog.cellsOf 3 = 1 := by kernel_rfl
  have co_sl : Try.prog.cellsOf 24 = 1 := by kernel_rfl
  rw [hco] at hlen
  match cs, hlen with
  | [c0, c1], _ =>
    obtain ⟨y0, _, h0⟩ := fieldo_some hxl hf (i := 0) rfl 0 rfl rfl co_int
    obtain ⟨y1, _, h1⟩ := fieldo_some hxl hf (i := 1) rfl 1 rfl rfl co_sl
    simp only [List.drop_zero, List.drop_succ_cons, List.take_succ_cons, List.take_zero] at h0 h1
    obtain ⟨a, e0, _⟩ := DataW.trod_int Try.underlying3 h0
    obtain ⟨A, n, nc, zs, rfl, hzl, hn, hnc, hA, wz, hd⟩ := slice_ints Try.underlying24 Try.underlying2 (by kernel_rfl) h1
    simp at e0
    subst e0
    have hmax : maxLen = 9223372036854775807 := rfl
    exact ⟨⟨a, A, n, nc, zs⟩, rfl, hzl, by show n ≤ 9223372036854775807; omega, hA⟩

theorem param_calls {H : Type} {enc : TypeId × Value → H} {W : World} {r : Reach} {b0 : Nat} {v : Value} {d : DataW H} {p : List MemPlace} (hv : Value.okWide Try.prog W r b0 52 v) (h : DataW.Trod enc Try.prog W 0 (fun _ => true) true 52 v d p) :
    ∃ A n nc l, v = .slice A n nc ∧ l.length = n ∧ n ≤ 9223372036854775807 ∧ Reads W W.heap.size 2 A n (rows CallZ.cells l) ∧ ∀ z ∈ l, CallZ.Good W z := by
  obtain ⟨a, l, c, rfl⟩ := okWide_slice Try.underlying52 hv
  obtain ⟨fuel, hf⟩ := h
  have hf' : DataW.trod enc Try.prog W 0 (fun _ => true) true fuel 52 [.slice a l c] = some (d, p) := by simpa [Value.cells] using hf
  have hmax : maxLen = 9223372036854775807 := rfl
  obtain ⟨A, n, nc, l, hv, hl, hn, hnc, hA, hg, _⟩ := rows_open ⟨0, none, 0, 0, []⟩ CallZ.cells (CallZ.Good W) (sz := 2) Try.underlying52 (by kernel_rfl) (by omega) (fun _ => rfl) (fun n cs y h => call_cells h) hf'
  exact ⟨A, n, nc, l, hv, hl, by omega, hA, hg⟩
end Go.Proofs.Ytjggcidaolnmbaa
