/- The walk of history.read. -/
import Derived.Test.YtffjcojehiblnaaDoorHw9
import Derived.Deep.WholeRow
namespace Go.Proofs.YtffjcojehiblnaaDoor
open Go.RowKit Go.Joins Go.ChangeShapes Go.WideShapes Go.Deep
set_option linter.unusedVariables false
set_option linter.unusedSimpArgs false
set_option maxRecDepth 100000

theorem ev_all (e : Ev) : (evcs e).all (·.oneCell') = true := by simp [evcs, Value.oneCell']
theorem ev_len (e : Ev) : (evcs e).toList.length = 19 := rfl
/-- The events that came in: one of them, as a range. -/
theorem evs_range {w : World} {b off i : Nat} {l : List Ev} (hc : ∀ j u, (evs l)[j]? = some u → w.cell? ⟨b, off + j, none⟩ = some u) (hi : i < l.length) : w.rangeAt b (off + i * 19) (evcs l[i]).toList := fun j v hv => by
  have hj : j < 19 := by
    have := (List.getElem?_eq_some_iff.1 hv).1
    rwa [ev_len] at this
  have h1 := evs_at l i j hi hj
  have h2 : (evs l)[i * 19 + j]? = some v := by rw [h1]; exact hv
  have := hc _ _ h2
  rwa [← Nat.add_assoc] at this
def zev : Array Value := #[.int .i64 0, .int .i64 0, .int .i64 0, .int .i64 0, .int .i64 0, .int .i64 0, .bool false, .int .i64 0, .int .i64 0, .int .i64 0, .int .u64 0, .int .u64 0, .int .u64 0, .int .u64 0, .int .u64 0, .int .u64 0, .int .u64 0, .int .u64 0, .int .i64 0]
theorem run_alloc_ev (w : World) : (Instr.alloc 35 true (.tuple #[])).run Tryd.prog w = .ok (.pointer (some ⟨w.heap.size, 0, none⟩)) (w.alloc (.cells zev 35)) := by
  kernel_rfl
theorem wpList_alloc_ev {Q : Exit → Act → World → Prop} {ops : Array Oper} {rest : List Oper} {o : Oper} {a : Act} {w : World} (hg : o.guard = none) (ho : o.op = .alloc 35)
    (h : wpList Tryd.prog ops Q rest (a.put o.dst (.pointer (some ⟨w.heap.size, 0, none⟩))) (w.alloc (.cells zev 35))) : wpList Tryd.prog ops Q (o :: rest) a w :=
  wpList_plain hg fun _ hK => by
    unfold Oper.wp
    simp only [execOp, ho, Sem.run_bind, Sem.run_pure, Result.andThen_ok, run_alloc_ev]
    exact hK _ _ h
theorem wpList_store_ev {Q : Exit → Act → World → Prop} {ops : Array Oper} {rest : List Oper} {o : Oper} {a : Act} {w : World} (e : Ev) (hg : o.guard = none) (x y : Operand) (ho : o.op = .store 35 x y) (hx : a.eval x = .pointer (some ⟨w.heap.size, 0, none⟩)) (hy : a.eval y = .agg (evcs e))
    (h : wpList Tryd.prog ops Q rest (a.put o.dst undef) (w.alloc (.cells (evcs e) 35))) : wpList Tryd.prog ops Q (o :: rest) a (w.alloc (.cells zev 35)) :=
  wpList_plain hg fun _ hK => by
    have := run_storeVar_new (P := Tryd.prog) w 35 zev (evcs e) (by kernel_rfl) rfl (ev_all e)
    unfold Oper.wp
    simp only [execOp, ho, hx, hy, Instr.storeAt, Instr.sureAddr, Sem.run_bind, Sem.run_pure, Result.andThen_ok, this]
    exact hK _ _ h

def evErr (p : Addr) : Value := .iface 158 (.pointer (some p))
def ReadPost (w : World) (base : Nat) (l : List Ev) (p : Addr) : Ending → World → Prop := fun r w' => match readF book0 0 l with
  | .ok b => ∃ lv s ll, r = .returned (.tuple #[lv, .nilIface]) ∧ BookAt w' base s lv b ll ∧ Below base w w'
  | .error k => ∃ f, r = .returned (.tuple #[.slice none 0 0, .iface 53 (.pointer (some ⟨f, 0, none⟩))]) ∧ Blk w' f 58 #[.int .i64 k, evErr p] ∧ base ≤ f ∧ Below base w w'

theorem goesF_small {t t' : TxP} {p d p' d' : Nat} {e : Ev} (h : goesF t p d e = some (t', p', d')) : p' ≤ p + 1 ∧ d' ≤ d + 1 ∧ t'.steps.length ≤ t.steps.length + 1 := by
  unfold goesF at h
  repeat' split at h
  all_goals first
    | (cases h; done)
    | (simp only [Option.some.injEq, Prod.mk.injEq] at h; obtain ⟨rfl, rfl, rfl⟩ := h; refine ⟨?_, ?_, ?_⟩ <;> simp)
/-- Nothing in a book is larger than what has been read. -/
structure Small (b : Book) (n : Nat) : Prop where
  l : b.l.length ≤ n
  pub : b.pub ≤ n
  done : b.done ≤ n
  steps : ∀ t ∈ b.l, t.steps.length ≤ n
theorem small_next {b b' : Book} {e : Ev} {n : Nat} (h : Small b n) (hn : nextF b e = some b') : Small b' (n + 1) := by
  unfold nextF at hn
  split at hn
  · cases hn
  split at hn
  · split at hn
    · cases hn
    · injection hn with hn
      subst hn
      refine ⟨by have := h.l; simp; omega, by have := h.pub; show b.pub ≤ _; omega, by have := h.done; show b.done ≤ _; omega, ?_⟩
      intro t ht
      rcases List.mem_append.1 ht with ht | ht
      · have := h.steps t ht; omega
      · rw [List.mem_singleton] at ht; subst ht; simp
  split at hn
  · next hx =>
    have hmem := List.getElem_mem hx.2
    unfold nextT at hn
    split at hn
    · cases hn
    split at hn
    · split at hn
      · cases hn
      · injection hn with hn
        subst hn
        refine ⟨by have := h.l; simp; omega, by have := h.pub; show b.pub ≤ _; omega, by have := h.done; show b.done ≤ _; omega, ?_⟩
        intro t ht
        rcases List.mem_or_eq_of_mem_set ht with ht | ht
        · have := h.steps t ht; omega
        · subst ht
          have := h.steps _ hmem
          show (b.l[e.tx.toNat]).steps.length ≤ _
          omega
    split at hn
    · cases hg : goesF (b.l[e.tx.toNat]'hx.2) b.pub b.done e with
      | none => rw [hg] at hn; cases hn
      | some z =>
        obtain ⟨t', p', d'⟩ := z
        rw [hg] at hn
        injection hn with hn
        subst hn
        have hs := goesF_small hg
        refine ⟨by have := h.l; simp; omega, by have := h.pub; show p' ≤ _; omega, by have := h.done; show d' ≤ _; omega, ?_⟩
        intro t ht
        rcases List.mem_or_eq_of_mem_set ht with ht | ht
        · have := h.steps t ht; omega
        · subst ht
          have := h.steps _ hmem
          omega
    · cases hn
  · cases hn
end Go.Proofs.YtffjcojehiblnaaDoor
