/- Arguments that hold a configuration, opened. -/
import Derived.Test.YtpmpgnhbpneloaaPc
namespace Go.Proofs.Ytpmpgnhbpneloaa
open Go.RowKit Go.Joins Go.ChangeShapes Go.WideShapes Go.ChangeAt Go.Deep
set_option linter.unusedVariables false
set_option maxRecDepth 100000

theorem co_int : Try.prog.cellsOf 3 = 1 := by kernel_rfl
theorem co_i64 : Try.prog.cellsOf 2 = 1 := by kernel_rfl
theorem co_bool : Try.prog.cellsOf 4 = 1 := by kernel_rfl
theorem co_reg : Try.prog.cellsOf 82 = 2 := by kernel_rfl
theorem co_regs : Try.prog.cellsOf 22 = 1 := by kernel_rfl
theorem co_cfg : Try.prog.cellsOf 24 = 7 := by kernel_rfl

section
variable {H : Type} {enc : TypeId × Value → H} {w : World} {base : Nat} {spare : Nat → Bool} {held : Bool}
theorem field_some {fs : Array Field} {cs : List Value} {xs : List (DataW H × List MemPlace)} {n : Nat} (hl : xs.length = fs.size)
    (hf : ∀ (i : Nat) (f : Field), fs[i]? = some f → DataW.trod enc Try.prog w base spare held n f.type ((cs.drop f.offset).take (Try.prog.cellsOf f.type)) = xs[i]?)
    {i : Nat} {f : Field} (h : fs[i]? = some f) {t : TypeId} (o : Nat) {c : Nat} (ht : f.type = t) (ho : f.offset = o) (hc : Try.prog.cellsOf t = c) : ∃ y, xs[i]? = some y ∧ DataW.trod enc Try.prog w base spare held n t ((cs.drop o).take c) = some y := by
  have hi : i < xs.length := by rw [hl]; exact (Array.getElem?_eq_some_iff.1 h).1
  subst ht ho hc
  exact ⟨xs[i], List.getElem?_eq_getElem hi, (hf i f h).trans (List.getElem?_eq_getElem hi)⟩

theorem reg_cells {n : Nat} {cs : List Value} {y : DataW H × List MemPlace} (h : DataW.trod enc Try.prog w base spare held n 82 cs = some y) : ∃ r : Reg, cs = r.cells := by
  obtain ⟨xs, n', _, _, hlen, hxl, hf⟩ := DataW.trod_struct Try.underlying82 h
  rw [co_reg] at hlen
  match cs, hlen with
  | [c0, c1], _ =>
    obtain ⟨y0, _, h0⟩ := field_some hxl hf (i := 0) rfl 0 rfl rfl co_int
    obtain ⟨y1, _, h1⟩ := field_some hxl hf (i := 1) rfl 1 rfl rfl co_int
    simp only [List.drop_zero, List.drop_succ_cons, List.take_succ_cons, List.take_zero] at h0 h1
    obtain ⟨a, e0, _⟩ := DataW.trod_int Try.underlying3 h0
    obtain ⟨b, e1, _⟩ := DataW.trod_int Try.underlying3 h1
    simp at e0 e1
    exact ⟨⟨a, b⟩, by rw [e0, e1]; rfl⟩
end

/-- A list of structs that came in. -/
theorem structs_open {α : Type} [Inhabited α] {H : Type} {enc : TypeId × Value → H} {W : World} {n k : Nat} {v : Value} {y : DataW H × List MemPlace} {t e : TypeId} (f : α → List Value) (Good : α → Prop) (hk : ∀ x, (f x).length = k) (hk0 : 0 < k) (ht : Try.prog.underlying t = some (.slice e)) (hC : Try.prog.cellsOf e = k)
    (hel : ∀ {n cs y}, DataW.trod enc Try.prog W 0 (fun _ => true) true n e cs = some y → ∃ z, cs = f z ∧ Good z) (h : DataW.trod enc Try.prog W 0 (fun _ => true) true n t [v] = some y) :
    ∃ A len cap l, v = .slice A len cap ∧ l.length = len ∧ len ≤ cap ∧ cap ≤ maxLen ∧ Reads W W.heap.size k A len (rows f l) ∧ (∀ z ∈ l, Good z) ∧ ((A = none ∧ len = 0 ∧ cap = 0) ∨ ∃ ds rest, ds.length = len ∧ y.1 = .slice ds rest) := by
  rcases open_slice ht h with ⟨hcs, _⟩ | ⟨a, len, cap, m, n', D, Pl, hcs, hb, hl, hm, hmm, hx, hi⟩
  · simp at hcs
    subst hcs
    exact ⟨none, 0, 0, [], rfl, rfl, Nat.le_refl _, Nat.zero_le _, ⟨by simp [rows], fun h => absurd h (by omega)⟩, by simp, .inl ⟨rfl, rfl, rfl⟩⟩
  · simp at hcs
    subst hcs
    rw [hC] at hi
    have hmc : m = cap := by simpa using hmm
    subst hmc
    have hz : ∀ i, i < len → ∃ z : α, Good z ∧ ∀ t u, t < k → (f z)[t]? = some u → W.cell? (a.add (i * k + t)) = some u := by
      intro i hil
      obtain ⟨cs', hc, ht⟩ := hi i (by omega)
      obtain ⟨z, rfl, hg⟩ := hel ht
      obtain ⟨_, hcl, hat⟩ := World.cells?_some hc
      refine ⟨z, hg, fun t u ht hu => ?_⟩
      have := hat t ht
      rw [add_of_add] at this
      rw [this, hu]
    obtain ⟨F, hF⟩ : ∃ F : Nat → α, ∀ i, i < len → Good (F i) ∧ ∀ t u, t < k → (f (F i))[t]? = some u → W.cell? (a.add (i * k + t)) = some u :=
      ⟨fun i => if h : i < len then (hz i h).choose else default, fun i hil => by simp only [dif_pos hil]; exact (hz i hil).choose_spec⟩
    have hlen : ((List.range len).map F).length = len := by simp
    have hcell : ∀ j u, (rows f ((List.range len).map F))[j]? = some u → W.cell? (a.add j) = some u := by
      intro j u hu
      have hj : j < (rows f ((List.range len).map F)).length := by
        rcases Nat.lt_or_ge j (rows f ((List.range len).map F)).length with h | h
        · exact h
        · rw [List.getElem?_eq_none h] at hu; cases hu
      rw [rows_length f k hk, hlen] at hj
      have h8 : j / k < len := Nat.div_lt_of_lt_mul (by rw [Nat.mul_comm]; exact hj)
      have ht : j % k < k := Nat.mod_lt _ hk0
      have e : j = j / k * k + j % k := by rw [Nat.mul_comm]; exact (Nat.div_add_mod j k).symm
      rw [e, rows_at f k hk _ (j / k) (j % k) (by rw [hlen]; exact h8) ht] at hu
      rw [e]
      refine (hF (j / k) h8).2 (j % k) u ht ?_
      rw [← hu]
      simp
    refine ⟨some a, len, m, (List.range len).map F, rfl, hlen, hl, hm, ⟨by rw [rows_length f k hk, hlen], fun hn => ⟨a, rfl, ?_, hcell⟩⟩, ?_, .inr ⟨_, _, ?_, by rw [hx]⟩⟩
    · have h0 := hcell 0 _ (List.getElem?_eq_getElem (by rw [rows_length f k hk, hlen]; exact Nat.mul_pos hn hk0))
      have := World.block_lt_of_cell? W _ h0
      rwa [block_of_add] at this
    · intro z hz'
      simp only [List.mem_map, List.mem_range] at hz'
      obtain ⟨i, hil, rfl⟩ := hz'
      exact (hF i hil).1
    · simp

instance : Inhabited Reg := ⟨⟨0, 0⟩⟩
theorem cfg_cells {H : Type} {enc : TypeId × Value → H} {W : World} {n : Nat} {cs : List Value} {y : DataW H × List MemPlace} (h : DataW.trod enc Try.prog W 0 (fun _ => true) true n 24 cs = some y) :
    ∃ (c : Cfg) (A : Option Addr) (len cap : Nat) (regs : List Reg), cs = [.int .i64 c.raw, .int .i64 c.ring, .int .i64 c.writes, .int .i64 c.stamps, .bool c.multi, .int .i64 c.tries, .slice A len cap] ∧ regs.length = len ∧ len ≤ cap ∧ cap ≤ maxLen ∧ Reads W W.heap.size 2 A len (rows Reg.cells regs) := by
  obtain ⟨xs, n', _, _, hlen, hxl, hf⟩ := DataW.trod_struct Try.underlying24 h
  rw [co_cfg] at hlen
  match cs, hlen with
  | [c0, c1, c2, c3, c4, c5, c6], _ =>
    obtain ⟨y0, _, h0⟩ := field_some hxl hf (i := 0) rfl 0 rfl rfl co_int
    obtain ⟨y1, _, h1⟩ := field_some hxl hf (i := 1) rfl 1 rfl rfl co_int
    obtain ⟨y2, _, h2⟩ := field_some hxl hf (i := 2) rfl 2 rfl rfl co_int
    obtain ⟨y3, _, h3⟩ := field_some hxl hf (i := 3) rfl 3 rfl rfl co_i64
    obtain ⟨y4, _, h4⟩ := field_some hxl hf (i := 4) rfl 4 rfl rfl co_bool
    obtain ⟨y5, _, h5⟩ := field_some hxl hf (i := 5) rfl 5 rfl rfl co_int
    obtain ⟨y6, _, h6⟩ := field_some hxl hf (i := 6) rfl 6 rfl rfl co_regs
    simp only [List.drop_zero, List.drop_succ_cons, List.take_succ_cons, List.take_zero] at h0 h1 h2 h3 h4 h5 h6
    obtain ⟨a, e0, _⟩ := DataW.trod_int Try.underlying3 h0
    obtain ⟨b, e1, _⟩ := DataW.trod_int Try.underlying3 h1
    obtain ⟨c, e2, _⟩ := DataW.trod_int Try.underlying3 h2
    obtain ⟨d, e3, _⟩ := DataW.trod_int Try.underlying2 h3
    obtain ⟨m, e4, _⟩ := DataW.trod_bool Try.underlying4 h4
    obtain ⟨t, e5, _⟩ := DataW.trod_int Try.underlying3 h5
    obtain ⟨A, len, cap, l, e6, hl, hn, hnc, hR, _, _⟩ := structs_open Reg.cells (fun _ => True) (k := 2) (fun _ => rfl) (by omega) Try.underlying22 co_reg (fun h => by obtain ⟨r, hr⟩ := reg_cells h; exact ⟨r, hr, trivial⟩) h6
    simp at e0 e1 e2 e3 e4 e5
    exact ⟨⟨a, b, c, d, m, t⟩, A, len, cap, l, by rw [e0, e1, e2, e3, e4, e5, e6], hl, hn, hnc, hR⟩
end Go.Proofs.Ytpmpgnhbpneloaa
