/- An argument of the type MemTellsIn, opened; a list of acts. -/
import Derived.Test.YtnpeldbnnneijaaMm
namespace Go.Proofs.Ytnpeldbnnneijaa
open Go.RowKit Go.Joins Go.ChangeShapes Go.WideShapes Go.ChangeAt Go.Deep
set_option linter.unusedVariables false
set_option maxRecDepth 100000

/-- A call. -/
structure Actz where
  kind : Int
  thread : Int
  k : Int
  i : Int
  j : Int
  old : Int
  value : Int
  n : Int
def Actz.cells (x : Actz) : List Value := [.int .i64 x.kind, .int .i64 x.thread, .int .i64 x.k, .int .i64 x.i, .int .i64 x.j, .int .i64 x.old, .int .i64 x.value, .int .i64 x.n]
def acts (l : List Actz) : List Value := l.flatMap Actz.cells
theorem acts_at : ∀ (l : List Actz) (n t : Nat) (h : n < l.length) (ht : t < 8), (acts l)[n * 8 + t]? = (l[n].cells)[t]?
  | x :: l, 0, t, h, ht => by
    simp only [acts, List.flatMap_cons, Nat.zero_mul, Nat.zero_add, List.getElem_cons_zero]
    rw [List.getElem?_append_left (by simp [Actz.cells]; omega)]
  | x :: l, n + 1, t, h, ht => by
    have := acts_at l n t (by simpa using h) ht
    simp only [acts, List.flatMap_cons, List.getElem_cons_succ] at this ⊢
    rw [← this, List.getElem?_append_right (by simp [Actz.cells]; omega)]
    congr 1
    simp [Actz.cells]
    omega
theorem acts_length (l : List Actz) : (acts l).length = l.length * 8 := by
  induction l with
  | nil => rfl
  | cons x l ih => simp only [acts, List.flatMap_cons, List.length_append, List.length_cons] at ih ⊢; rw [ih]; simp [Actz.cells]; omega

theorem co_int : Try.prog.cellsOf 3 = 1 := by kernel_rfl
theorem co_i64 : Try.prog.cellsOf 2 = 1 := by kernel_rfl
theorem co_addr : Try.prog.cellsOf 24 = 3 := by kernel_rfl
theorem co_act : Try.prog.cellsOf 36 = 8 := by kernel_rfl

section
variable {H : Type} {enc : TypeId × Value → H} {w : World} {base : Nat} {spare : Nat → Bool} {held : Bool}
theorem field_some {fs : Array Field} {cs : List Value} {xs : List (DataW H × List MemPlace)} {n : Nat} (hl : xs.length = fs.size)
    (hf : ∀ (i : Nat) (f : Field), fs[i]? = some f → DataW.trod enc Try.prog w base spare held n f.type ((cs.drop f.offset).take (Try.prog.cellsOf f.type)) = xs[i]?)
    {i : Nat} {f : Field} (h : fs[i]? = some f) {t : TypeId} (o : Nat) {c : Nat} (ht : f.type = t) (ho : f.offset = o) (hc : Try.prog.cellsOf t = c) : ∃ y, xs[i]? = some y ∧ DataW.trod enc Try.prog w base spare held n t ((cs.drop o).take c) = some y := by
  have hi : i < xs.length := by rw [hl]; exact (Array.getElem?_eq_some_iff.1 h).1
  subst ht ho hc
  exact ⟨xs[i], List.getElem?_eq_getElem hi, (hf i f h).trans (List.getElem?_eq_getElem hi)⟩

theorem addr_cells {n : Nat} {cs : List Value} {y : DataW H × List MemPlace} (h : DataW.trod enc Try.prog w base spare held n 24 cs = some y) : ∃ k i j : Int, cs = [.int .i64 k, .int .i64 i, .int .i64 j] := by
  obtain ⟨xs, n', _, _, hlen, hxl, hf⟩ := DataW.trod_struct Try.underlying24 h
  rw [co_addr] at hlen
  match cs, hlen with
  | [c0, c1, c2], _ =>
    obtain ⟨y0, _, h0⟩ := field_some hxl hf (i := 0) rfl 0 rfl rfl co_int
    obtain ⟨y1, _, h1⟩ := field_some hxl hf (i := 1) rfl 1 rfl rfl co_int
    obtain ⟨y2, _, h2⟩ := field_some hxl hf (i := 2) rfl 2 rfl rfl co_int
    simp only [List.drop_zero, List.drop_succ_cons, List.take_succ_cons, List.take_zero] at h0 h1 h2
    obtain ⟨a, e0, _⟩ := DataW.trod_int Try.underlying3 h0
    obtain ⟨b, e1, _⟩ := DataW.trod_int Try.underlying3 h1
    obtain ⟨c, e2, _⟩ := DataW.trod_int Try.underlying3 h2
    simp at e0 e1 e2
    exact ⟨a, b, c, by rw [e0, e1, e2]⟩

theorem act_cells {n : Nat} {cs : List Value} {y : DataW H × List MemPlace} (h : DataW.trod enc Try.prog w base spare held n 36 cs = some y) : ∃ z : Actz, cs = z.cells := by
  obtain ⟨xs, n', _, _, hlen, hxl, hf⟩ := DataW.trod_struct Try.underlying36 h
  rw [co_act] at hlen
  match cs, hlen with
  | [c0, c1, c2, c3, c4, c5, c6, c7], _ =>
    obtain ⟨y0, _, h0⟩ := field_some hxl hf (i := 0) rfl 0 rfl rfl co_int
    obtain ⟨y1, _, h1⟩ := field_some hxl hf (i := 1) rfl 1 rfl rfl co_int
    obtain ⟨y2, _, h2⟩ := field_some hxl hf (i := 2) rfl 2 rfl rfl co_addr
    obtain ⟨y3, _, h3⟩ := field_some hxl hf (i := 3) rfl 5 rfl rfl co_i64
    obtain ⟨y4, _, h4⟩ := field_some hxl hf (i := 4) rfl 6 rfl rfl co_i64
    obtain ⟨y5, _, h5⟩ := field_some hxl hf (i := 5) rfl 7 rfl rfl co_int
    simp only [List.drop_zero, List.drop_succ_cons, List.take_succ_cons, List.take_zero] at h0 h1 h2 h3 h4 h5
    obtain ⟨a, e0, _⟩ := DataW.trod_int Try.underlying3 h0
    obtain ⟨b, e1, _⟩ := DataW.trod_int Try.underlying3 h1
    obtain ⟨k, i, j, e2⟩ := addr_cells h2
    obtain ⟨d, e3, _⟩ := DataW.trod_int Try.underlying2 h3
    obtain ⟨f, e4, _⟩ := DataW.trod_int Try.underlying2 h4
    obtain ⟨g, e5, _⟩ := DataW.trod_int Try.underlying3 h5
    simp at e0 e1 e2 e3 e4 e5
    exact ⟨⟨a, b, k, i, j, d, f, g⟩, by simp [Actz.cells, e0, e1, e2, e3, e4, e5]⟩
end

/-- A list of acts that came in. -/
theorem acts_open {H : Type} {enc : TypeId × Value → H} {W : World} {n : Nat} {v : Value} {y : DataW H × List MemPlace} (h : DataW.trod enc Try.prog W 0 (fun _ => true) true n 22 [v] = some y) :
    ∃ A len cap l, v = .slice A len cap ∧ l.length = len ∧ len ≤ cap ∧ cap ≤ maxLen ∧ Reads W W.heap.size 8 A len (acts l) ∧ ((A = none ∧ len = 0 ∧ cap = 0) ∨ ∃ ds rest, ds.length = len ∧ y.1 = .slice ds rest) := by
  rcases open_slice Try.underlying22 h with ⟨hcs, _⟩ | ⟨a, len, cap, m, n', D, Pl, hcs, hb, hl, hm, hmm, hx, hi⟩
  · simp at hcs
    subst hcs
    exact ⟨none, 0, 0, [], rfl, rfl, Nat.le_refl _, Nat.zero_le _, Reads.none_, .inl ⟨rfl, rfl, rfl⟩⟩
  · simp at hcs
    subst hcs
    rw [co_act] at hi
    have hmc : m = cap := by simpa using hmm
    subst hmc
    have hz : ∀ i, i < len → ∃ z : Actz, ∀ t u, t < 8 → z.cells[t]? = some u → W.cell? (a.add (i * 8 + t)) = some u := by
      intro i hil
      obtain ⟨cs', hc, ht⟩ := hi i (by omega)
      obtain ⟨z, rfl⟩ := act_cells ht
      obtain ⟨_, hcl, hat⟩ := World.cells?_some hc
      refine ⟨z, fun t u ht hu => ?_⟩
      have := hat t ht
      rw [add_of_add] at this
      rw [this, hu]
    obtain ⟨f, hf⟩ : ∃ f : Nat → Actz, ∀ i, i < len → ∀ t u, t < 8 → (f i).cells[t]? = some u → W.cell? (a.add (i * 8 + t)) = some u :=
      ⟨fun i => if h : i < len then (hz i h).choose else ⟨0, 0, 0, 0, 0, 0, 0, 0⟩, fun i hil => by simp only [dif_pos hil]; exact (hz i hil).choose_spec⟩
    have hlen : ((List.range len).map f).length = len := by simp
    have hcell : ∀ j u, (acts ((List.range len).map f))[j]? = some u → W.cell? (a.add j) = some u := by
      intro j u hu
      have hj : j < (acts ((List.range len).map f)).length := by
        rcases Nat.lt_or_ge j (acts ((List.range len).map f)).length with h | h
        · exact h
        · rw [List.getElem?_eq_none h] at hu; cases hu
      rw [acts_length, hlen] at hj
      have h8 : j / 8 < len := by omega
      have ht : j % 8 < 8 := Nat.mod_lt _ (by omega)
      have e : j = j / 8 * 8 + j % 8 := by omega
      rw [e, acts_at _ (j / 8) (j % 8) (by rw [hlen]; exact h8) ht] at hu
      rw [e]
      refine hf (j / 8) h8 (j % 8) u ht ?_
      rw [← hu]
      simp
    refine ⟨some a, len, m, (List.range len).map f, rfl, hlen, hl, hm, ⟨by rw [acts_length, hlen], fun hn => ⟨a, rfl, ?_, hcell⟩⟩, .inr ⟨_, _, ?_, by rw [hx]⟩⟩
    · have h0 := hcell 0 _ (List.getElem?_eq_getElem (by rw [acts_length, hlen]; omega))
      have := World.block_lt_of_cell? W _ h0
      rwa [block_of_add] at this
    · simp

theorem tells_open {H : Type} {enc : TypeId × Value → H} {W : World} {r : Reach} {b0 : Nat} {v : Value} {d : DataW H} {p : List MemPlace} (hv : Value.okWide Try.prog W r b0 26 v)
    (h : DataW.Trod enc Try.prog W 0 (fun _ => true) true 26 v d p) :
    ∃ (c r k i j : Int) (A : Option Addr) (n nc : Nat) (l : List Actz), v = .agg #[.int .i64 c, .int .i64 r, .slice A n nc, .int .i64 k, .int .i64 i, .int .i64 j] ∧ l.length = n ∧ n ≤ nc ∧ nc ≤ maxLen ∧ Reads W W.heap.size 8 A n (acts l) ∧
      ∀ {ts : List TypeId} {ds : List (DataW H)} {j : Nat}, (DataW.weightsEach Try.prog ts ds).all (· ≤ reachBytes) = true → ts[j]? = some 26 → ds[j]? = some d → n * 64 ≤ 140737488351232 := by
  obtain ⟨cs, rfl, hsz⟩ := okWide_struct Try.underlying26 hv
  obtain ⟨fuel, hf⟩ := h
  obtain ⟨xs, n', _, hx, hlen, hxl, hff⟩ := DataW.trod_struct Try.underlying26 hf
  have hco : Try.prog.cellsOf 26 = 6 := by kernel_rfl
  obtain ⟨l⟩ := cs
  match l, hsz.trans hco with
  | [c0, c1, c2, c3, c4, c5], _ =>
    have co_sl : Try.prog.cellsOf 22 = 1 := by kernel_rfl
    obtain ⟨y0, _, h0⟩ := field_some hxl hff (i := 0) rfl 0 rfl rfl co_int
    obtain ⟨y1, _, h1⟩ := field_some hxl hff (i := 1) rfl 1 rfl rfl co_int
    obtain ⟨y2, hy2, h2⟩ := field_some hxl hff (i := 2) rfl 2 rfl rfl co_sl
    obtain ⟨y3, _, h3⟩ := field_some hxl hff (i := 3) rfl 3 rfl rfl co_addr
    simp only [Value.cells, List.drop_zero, List.drop_succ_cons, List.take_succ_cons, List.take_zero] at h0 h1 h2 h3
    obtain ⟨a, e0, _⟩ := DataW.trod_int Try.underlying3 h0
    obtain ⟨b, e1, _⟩ := DataW.trod_int Try.underlying3 h1
    obtain ⟨k, i, j, e3⟩ := addr_cells h3
    obtain ⟨A, n, nc, l, e2, hl, hn, hnc, hR, hd⟩ := acts_open (v := c2) h2
    simp at e0 e1 e3
    refine ⟨a, b, k, i, j, A, n, nc, l, by rw [e0, e1, e2, e3.1, e3.2.1, e3.2.2], hl, hn, hnc, hR, ?_⟩
    intro ts ds j hs hts hds
    simp only [Prod.mk.injEq] at hx
    have hsf := sized_field hs hts (by rw [hds, hx.1]) Try.underlying26
    rcases hd with ⟨_, h, _⟩ | ⟨ds', rest, hdl, h⟩
    · omega
    · have := sized_slice hsf (j := 2) (t := 22) (elems := ds') (spare := rest) rfl (by rw [List.getElem?_map, hy2, ← h]; rfl) Try.underlying22
      rw [show Try.prog.bytesOf 36 = 64 from by kernel_rfl] at this
      simp only [reachBytes] at this
      omega
end Go.Proofs.Ytnpeldbnnneijaa
