/- A list of steps that came in. -/
import Derived.Test.YtpmpgnhbpneloaaRo
import Derived.Test.YtpmpgnhbpneloaaPo
namespace Go.Proofs.Ytpmpgnhbpneloaa
open Go.RowKit Go.Joins Go.ChangeShapes Go.WideShapes Go.ChangeAt Go.Deep
set_option linter.unusedVariables false
set_option maxRecDepth 100000

structure StepZ where
  kind : Int
  place : Int
  v : Int
  region : Int
  call : Int
  A : Option Addr
  na : Nat
  ca : Nat
  args : List Int
def StepZ.cells (z : StepZ) : List Value := [.int .i64 z.kind, .int .i64 z.place, .int .i64 z.v, .int .i64 z.region, .int .i64 z.call, .slice z.A z.na z.ca]
def StepZ.Good (W : World) (z : StepZ) : Prop := z.args.length = z.na ∧ z.na ≤ 9223372036854775807 ∧ Reads W W.heap.size 1 z.A z.na (ints z.args)
theorem StepZ.Good.below {w w' : World} {z : StepZ} (h : z.Good w) (hb : Below w.heap.size w w') : z.Good w' := ⟨h.1, h.2.1, (h.2.2.below hb).more hb.size⟩

theorem step_cells {H : Type} {enc : TypeId × Value → H} {W : World} {n : Nat} {cs : List Value} {y : DataW H × List MemPlace} (h : DataW.trod enc Try.prog W 0 (fun _ => true) true n 47 cs = some y) : ∃ z : StepZ, cs = z.cells ∧ z.Good W := by
  obtain ⟨xs, n', _, _, hlen, hxl, hf⟩ := DataW.trod_struct Try.underlying47 h
  have hco : Try.prog.cellsOf 47 = 6 := by kernel_rfl
  have co_sl : Try.prog.cellsOf 34 = 1 := by kernel_rfl
  rw [hco] at hlen
  match cs, hlen with
  | [c0, c1, c2, c3, c4, c5], _ =>
    obtain ⟨y0, _, h0⟩ := fieldo_some hxl hf (i := 0) rfl 0 rfl rfl co_int
    obtain ⟨y1, _, h1⟩ := fieldo_some hxl hf (i := 1) rfl 1 rfl rfl co_i64
    obtain ⟨y2, _, h2⟩ := fieldo_some hxl hf (i := 2) rfl 2 rfl rfl co_i64
    obtain ⟨y3, _, h3⟩ := fieldo_some hxl hf (i := 3) rfl 3 rfl rfl co_int
    obtain ⟨y4, _, h4⟩ := fieldo_some hxl hf (i := 4) rfl 4 rfl rfl co_int
    obtain ⟨y5, _, h5⟩ := fieldo_some hxl hf (i := 5) rfl 5 rfl rfl co_sl
    simp only [List.drop_zero, List.drop_succ_cons, List.take_succ_cons, List.take_zero] at h0 h1 h2 h3 h4 h5
    obtain ⟨a0, e0, _⟩ := DataW.trod_int Try.underlying3 h0
    obtain ⟨a1, e1, _⟩ := DataW.trod_int Try.underlying2 h1
    obtain ⟨a2, e2, _⟩ := DataW.trod_int Try.underlying2 h2
    obtain ⟨a3, e3, _⟩ := DataW.trod_int Try.underlying3 h3
    obtain ⟨a4, e4, _⟩ := DataW.trod_int Try.underlying3 h4
    obtain ⟨A, n, nc, zs, rfl, hzl, hn, hnc, hA, wz, hd⟩ := slice_ints Try.underlying34 Try.underlying2 (by kernel_rfl) h5
    simp at e0 e1 e2 e3 e4
    subst e0 e1 e2 e3 e4
    have hmax : maxLen = 9223372036854775807 := rfl
    exact ⟨⟨a0, a1, a2, a3, a4, A, n, nc, zs⟩, rfl, hzl, by show n ≤ 9223372036854775807; omega, hA⟩

theorem param_steps {H : Type} {enc : TypeId × Value → H} {W : World} {r : Reach} {b0 : Nat} {v : Value} {d : DataW H} {p : List MemPlace} (hv : Value.okWide Try.prog W r b0 44 v) (h : DataW.Trod enc Try.prog W 0 (fun _ => true) true 44 v d p) :
    ∃ A n nc l, v = .slice A n nc ∧ l.length = n ∧ n ≤ 9223372036854775807 ∧ Reads W W.heap.size 6 A n (rows StepZ.cells l) ∧ ∀ z ∈ l, StepZ.Good W z := by
  obtain ⟨a, l, c, rfl⟩ := okWide_slice Try.underlying44 hv
  obtain ⟨fuel, hf⟩ := h
  have hf' : DataW.trod enc Try.prog W 0 (fun _ => true) true fuel 44 [.slice a l c] = some (d, p) := by simpa [Value.cells] using hf
  have hmax : maxLen = 9223372036854775807 := rfl
  obtain ⟨A, n, nc, l, hv, hl, hn, hnc, hA, hg, _⟩ := rows_open ⟨0, 0, 0, 0, 0, none, 0, 0, []⟩ StepZ.cells (StepZ.Good W) (sz := 6) Try.underlying44 (by kernel_rfl) (by omega) (fun _ => rfl) (fun n cs y h => step_cells h) hf'
  exact ⟨A, n, nc, l, hv, hl, by omega, hA, hg⟩
end Go.Proofs.Ytpmpgnhbpneloaa
