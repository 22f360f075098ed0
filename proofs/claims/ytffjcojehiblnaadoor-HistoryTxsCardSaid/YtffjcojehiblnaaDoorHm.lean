/- Events in memory; a list of events that came in. -/
import Derived.Test.YtffjcojehiblnaaDoorRo
import Derived.Test.YtffjcojehiblnaaDoorHs
namespace Go.Proofs.YtffjcojehiblnaaDoor
open Go.RowKit Go.Joins Go.ChangeShapes Go.WideShapes Go.ChangeAt Go.Deep
set_option linter.unusedVariables false
set_option linter.unusedSimpArgs false
set_option maxRecDepth 100000

def Ev.cells (e : Ev) : List Value := [.int .i64 e.at_, .int .i64 e.thread, .int .i64 e.tx, .int .i64 e.kind, .int .i64 e.cell, .int .i64 e.value, .bool e.own, .int .i64 e.start, .int .i64 e.seen, .int .i64 e.stamp,
  .int .u64 e.s0, .int .u64 e.s1, .int .u64 e.s2, .int .u64 e.s3, .int .u64 e.s4, .int .u64 e.s5, .int .u64 e.s6, .int .u64 e.s7, .int .i64 e.err]
def evs (l : List Ev) : List Value := rows Ev.cells l
theorem evs_length (l : List Ev) : (evs l).length = l.length * 19 := rows_length Ev.cells 19 (fun _ => rfl) l
theorem evs_at (l : List Ev) (n t : Nat) (h : n < l.length) (ht : t < 19) : (evs l)[n * 19 + t]? = (l[n].cells)[t]? := rows_at Ev.cells 19 (fun _ => rfl) l n t h ht

theorem hco_int : Tryd.prog.cellsOf 3 = 1 := by kernel_rfl
theorem hco_i64 : Tryd.prog.cellsOf 2 = 1 := by kernel_rfl
theorem hco_bool : Tryd.prog.cellsOf 4 = 1 := by kernel_rfl
theorem hco_sig : Tryd.prog.cellsOf 33 = 8 := by kernel_rfl
theorem hco_u64 : Tryd.prog.cellsOf 31 = 1 := by kernel_rfl
theorem hco_err : Tryd.prog.cellsOf 25 = 1 := by kernel_rfl

section
variable {H : Type} {enc : TypeId × Value → H} {w : World} {base : Nat} {spare : Nat → Bool} {held : Bool}
theorem sig_cells {n : Nat} {cs : List Value} {y : DataW H × List MemPlace} (h : DataW.trod enc Tryd.prog w base spare held n 33 cs = some y) : ∃ s0 s1 s2 s3 s4 s5 s6 s7 : Int, cs = [.int .u64 s0, .int .u64 s1, .int .u64 s2, .int .u64 s3, .int .u64 s4, .int .u64 s5, .int .u64 s6, .int .u64 s7] := by
  obtain ⟨xs, m, _, _, hlen, hxl, hel⟩ := DataW.trod_array Tryd.underlying33 h
  rw [hco_sig] at hlen
  rw [hco_u64] at hel
  match cs, hlen with
  | [c0, c1, c2, c3, c4, c5, c6, c7], _ =>
    have hg : ∀ (i : Nat) (hi : i < 8), ∃ s : Int, (([c0, c1, c2, c3, c4, c5, c6, c7].drop (i * 1)).take 1) = [.int .u64 s] := by
      intro i hi
      have h1 := hel i hi
      obtain ⟨a, e, _⟩ := DataW.trod_int Tryd.underlying31 (h1.trans (List.getElem?_eq_getElem (by rw [hxl]; exact hi)))
      exact ⟨a, e⟩
    obtain ⟨s0, e0⟩ := hg 0 (by omega)
    obtain ⟨s1, e1⟩ := hg 1 (by omega)
    obtain ⟨s2, e2⟩ := hg 2 (by omega)
    obtain ⟨s3, e3⟩ := hg 3 (by omega)
    obtain ⟨s4, e4⟩ := hg 4 (by omega)
    obtain ⟨s5, e5⟩ := hg 5 (by omega)
    obtain ⟨s6, e6⟩ := hg 6 (by omega)
    obtain ⟨s7, e7⟩ := hg 7 (by omega)
    simp at e0 e1 e2 e3 e4 e5 e6 e7
    exact ⟨s0, s1, s2, s3, s4, s5, s6, s7, by rw [e0, e1, e2, e3, e4, e5, e6, e7]⟩
theorem ev_cells {n : Nat} {cs : List Value} {y : DataW H × List MemPlace} (h : DataW.trod enc Tryd.prog w base spare held n 35 cs = some y) : ∃ z : Ev, cs = z.cells ∧ True := by
  obtain ⟨xs, n', _, _, hlen, hxl, hf⟩ := DataW.trod_struct Tryd.underlying35 h
  have hco : Tryd.prog.cellsOf 35 = 19 := by kernel_rfl
  rw [hco] at hlen
  match cs, hlen with
  | [c0, c1, c2, c3, c4, c5, c6, c7, c8, c9, d0, d1, d2, d3, d4, d5, d6, d7, f0], _ =>
    obtain ⟨y0, _, h0⟩ := fieldo_some hxl hf (i := 0) rfl 0 rfl rfl hco_int
    obtain ⟨y1, _, h1⟩ := fieldo_some hxl hf (i := 1) rfl 1 rfl rfl hco_int
    obtain ⟨y2, _, h2⟩ := fieldo_some hxl hf (i := 2) rfl 2 rfl rfl hco_int
    obtain ⟨y3, _, h3⟩ := fieldo_some hxl hf (i := 3) rfl 3 rfl rfl hco_int
    obtain ⟨y4, _, h4⟩ := fieldo_some hxl hf (i := 4) rfl 4 rfl rfl hco_int
    obtain ⟨y5, _, h5⟩ := fieldo_some hxl hf (i := 5) rfl 5 rfl rfl hco_i64
    obtain ⟨y6, _, h6⟩ := fieldo_some hxl hf (i := 6) rfl 6 rfl rfl hco_bool
    obtain ⟨y7, _, h7⟩ := fieldo_some hxl hf (i := 7) rfl 7 rfl rfl hco_i64
    obtain ⟨y8, _, h8⟩ := fieldo_some hxl hf (i := 8) rfl 8 rfl rfl hco_i64
    obtain ⟨y9, _, h9⟩ := fieldo_some hxl hf (i := 9) rfl 9 rfl rfl hco_i64
    obtain ⟨y10, _, h10⟩ := fieldo_some hxl hf (i := 10) rfl 10 rfl rfl hco_sig
    obtain ⟨y11, _, h11⟩ := fieldo_some hxl hf (i := 11) rfl 18 rfl rfl hco_err
    simp only [List.drop_zero, List.drop_succ_cons, List.take_succ_cons, List.take_zero] at h0 h1 h2 h3 h4 h5 h6 h7 h8 h9 h10 h11
    obtain ⟨a0, e0, _⟩ := DataW.trod_int Tryd.underlying3 h0
    obtain ⟨a1, e1, _⟩ := DataW.trod_int Tryd.underlying3 h1
    obtain ⟨a2, e2, _⟩ := DataW.trod_int Tryd.underlying3 h2
    obtain ⟨a3, e3, _⟩ := DataW.trod_int Tryd.underlying3 h3
    obtain ⟨a4, e4, _⟩ := DataW.trod_int Tryd.underlying3 h4
    obtain ⟨a5, e5, _⟩ := DataW.trod_int Tryd.underlying2 h5
    obtain ⟨a6, e6, _⟩ := DataW.trod_bool Tryd.underlying4 h6
    obtain ⟨a7, e7, _⟩ := DataW.trod_int Tryd.underlying2 h7
    obtain ⟨a8, e8, _⟩ := DataW.trod_int Tryd.underlying2 h8
    obtain ⟨a9, e9, _⟩ := DataW.trod_int Tryd.underlying2 h9
    obtain ⟨s0, s1, s2, s3, s4, s5, s6, s7, es⟩ := sig_cells h10
    obtain ⟨a11, e11, _⟩ := DataW.trod_int Tryd.underlying25 h11
    simp at e0 e1 e2 e3 e4 e5 e6 e7 e8 e9 es e11
    obtain ⟨g0, g1, g2, g3, g4, g5, g6, g7⟩ := es
    exact ⟨⟨a0, a1, a2, a3, a4, a5, a6, a7, a8, a9, s0, s1, s2, s3, s4, s5, s6, s7, a11⟩, by simp [Ev.cells, e0, e1, e2, e3, e4, e5, e6, e7, e8, e9, g0, g1, g2, g3, g4, g5, g6, g7, e11], trivial⟩
end
/-- A list of events that came in. -/
theorem param_evs {H : Type} {enc : TypeId × Value → H} {W : World} {r : Reach} {b0 : Nat} {v : Value} {d : DataW H} {p : List MemPlace} (hv : Value.okWide Tryd.prog W r b0 22 v) (h : DataW.Trod enc Tryd.prog W 0 (fun _ => true) true 22 v d p) :
    ∃ A n nc l, v = .slice A n nc ∧ l.length = n ∧ n ≤ nc ∧ nc ≤ maxLen ∧ Reads W W.heap.size 19 A n (evs l) ∧ ∀ {ts : List TypeId} {ds : List (DataW H)} {j : Nat}, (DataW.weightsEach Tryd.prog ts ds).all (· ≤ reachBytes) = true → ts[j]? = some 22 → ds[j]? = some d → n * 152 ≤ 140737488351232 := by
  obtain ⟨a, l, c, rfl⟩ := okWide_slice Tryd.underlying22 hv
  obtain ⟨fuel, hf⟩ := h
  have hf' : DataW.trod enc Tryd.prog W 0 (fun _ => true) true fuel 22 [.slice a l c] = some (d, p) := by simpa [Value.cells] using hf
  obtain ⟨A, n, nc, l, hvv, hl, hn, hnc, hA, _, hd⟩ := rows_open ⟨0, 0, 0, 0, 0, 0, false, 0, 0, 0, 0, 0, 0, 0, 0, 0, 0, 0, 0⟩ Ev.cells (fun _ => True) (sz := 19) Tryd.underlying22 (by kernel_rfl) (by omega) (fun _ => rfl) (fun n cs y h => ev_cells h) hf'
  refine ⟨A, n, nc, l, hvv, hl, hn, hnc, hA, ?_⟩
  intro ts ds j hs hts hds
  rcases hd with ⟨_, h, _⟩ | ⟨ds', rest, hdl, h⟩
  · omega
  · have hd' : d = .slice ds' rest := h
    have := sized_slice hs hts (by rw [hds, hd']) Tryd.underlying22
    rw [show Tryd.prog.bytesOf 35 = 152 from by kernel_rfl] at this
    simp only [reachBytes] at this
    omega
end Go.Proofs.YtffjcojehiblnaaDoor
