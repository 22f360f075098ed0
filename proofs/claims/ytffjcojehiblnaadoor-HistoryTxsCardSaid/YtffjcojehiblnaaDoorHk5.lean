/- A transaction run over an empty map of cells: its read tells something else. -/
import Derived.Test.YtffjcojehiblnaaDoorHk3
namespace Go.Proofs.YtffjcojehiblnaaDoor
open Go.RowKit Go.Joins Go.ChangeShapes Go.WideShapes Go.Deep
set_option linter.unusedVariables false
set_option linter.unusedSimpArgs false
set_option maxRecDepth 100000

/-- A look into an empty map. -/
theorem run_lookup_empty (w : World) (m k : Nat) (q : Int) (ok : Bool) (hm : w.heap[m]? = some (.map #[] k)) : (Instr.lookup 70 (.map (some m)) (.int .i64 q) ok).run Tryd.prog w = .ok (if ok then .tuple #[.int .i64 0, .bool false] else .int .i64 0) w := by
  have hz : (zeroValue 2).run Tryd.prog w = .ok (.int .i64 0) w := by kernel_rfl
  have hc : (Instr.checkKey true 10000 3 (.int .i64 q)).run Tryd.prog w = .ok () w := by kernel_rfl
  have hf : (Instr.findKey 3 (.int .i64 q) []).run Tryd.prog w = .ok none w := by kernel_rfl
  have hg : (getObj m).run Tryd.prog w = .ok (.map #[] k) w := Go.run_getObj_map (P := Tryd.prog) (hb := hm)
  simp [Instr.lookup, run_underlying Tryd.underlying70, hg, hc, hf, hz]
theorem wpList_lookup_at {P : Program} {ops : Array Oper} {rest : List Oper} {o : Oper} {a : Act} {Q : Exit → Act → World → Prop} {w w' : World} {v : Value} {ok : Bool} (hgd : o.guard = none) (t : TypeId) (x y : Operand)
    (ho : o.op = .lookup t x y ok) {u z : Value} (hx : a.eval x = u) (hy : a.eval y = z) (hrun : (Instr.lookup t u z ok).run P w = .ok v w')
    (h : wpList P ops Q rest (a.put o.dst v) w') : wpList P ops Q (o :: rest) a w := by
  refine wpList_plain hgd fun K hK => ?_
  unfold Oper.wp
  simp only [execOp, ho, hx, hy, Sem.run_bind, hrun, Sem.run_pure, Result.andThen_ok]
  exact hK _ _ h
set_option maxHeartbeats 400000 in
theorem run_false {w : World} {base m k : Nat} {x : TxM} {e : Ev} (hx : TxAt w base x) (hm : w.heap[m]? = some (.map #[] k)) (hst : x.t.steps = [e]) (h3 : e.kind = 2) (hv : e.value ≠ 0) :
    Calls Tryd.prog 23 #[.pointer (some ⟨x.g, 0, none⟩), .map (some m)] w fun r w' => r = .returned (.bool false) ∧ Below w.heap.size w w' := by
  obtain ⟨sx, cx, hsx, _, hsxl⟩ := hx.steps.form (by rw [hst]; exact Nat.zero_lt_one)
  have hrg : w.rangeAt sx 0 (evcs e).toList := fun j v hv => by
    have := hx.steps.cells (g := sx) (by rw [hsx]; rfl) j v (by rw [hst]; exact hv)
    rwa [Addr.add_mid] at this
  have x8 : w.cell? ⟨x.g, 8, none⟩ = some (.slice (some ⟨sx, 0, none⟩) 1 cx) := by have := (hx.blk.cell 8).trans (show x.cells[8]? = some x.sv from rfl); rw [hsx, hst] at this; exact this
  have hml : m < w.heap.size := by
    rcases Nat.lt_or_ge m w.heap.size with h | h
    · exact h
    · rw [Array.getElem?_eq_none h] at hm; cases hm
  obtain ⟨W1, hW1⟩ : ∃ W1, W1 = w.alloc (.map #[] 0) := ⟨_, rfl⟩
  have hs1 : W1.heap.size = w.heap.size + 1 := by rw [hW1]; simp
  have m1 : W1.heap[w.heap.size]? = some (.map #[] 0) := by rw [hW1]; exact heap_alloc_new w _
  have m2 : W1.heap[m]? = some (.map #[] k) := by rw [hW1]; exact (Below.heap_alloc w _ m hml).trans hm
  have r1 : W1.rangeAt sx 0 (evcs e).toList := by rw [hW1]; exact World.rangeAt_alloc hrg _
  have y8 : W1.cell? ⟨x.g, 8, none⟩ = some (.slice (some ⟨sx, 0, none⟩) 1 cx) := by rw [hW1]; exact (World.cell?_alloc_lt _ _ ⟨x.g, 8, none⟩ (World.block_lt_of_cell? _ _ x8)).trans x8
  have v3 : (W1.alloc (.cells (evcs e) 35)).cell? ⟨W1.heap.size, 3, none⟩ = some (.int .i64 2) := by have := ev_at (ev_range W1 e) 3 _ rfl; rw [h3] at this; exact this
  have v4 : (W1.alloc (.cells (evcs e) 35)).cell? ⟨W1.heap.size, 4, none⟩ = some (.int .i64 e.cell) := ev_at (ev_range W1 e) 4 _ rfl
  have v5 : (W1.alloc (.cells (evcs e) 35)).cell? ⟨W1.heap.size, 5, none⟩ = some (.int .i64 e.value) := ev_at (ev_range W1 e) 5 _ rfl
  have n1 : (W1.alloc (.cells (evcs e) 35)).heap[w.heap.size]? = some (.map #[] 0) := (Below.heap_alloc W1 _ w.heap.size (by omega)).trans m1
  have n2 : (W1.alloc (.cells (evcs e) 35)).heap[m]? = some (.map #[] k) := (Below.heap_alloc W1 _ m (by omega)).trans m2
  have HR := Lib.hid r1
  have HN1 := Lib.hid (run_lookup_empty _ w.heap.size 0 e.cell true n1)
  have HN2 := Lib.hid (run_lookup_empty _ m k e.cell false n2)
  have HB : Hid (Below w.heap.size w (W1.alloc (.cells (evcs e) 35))) := Lib.hid (by rw [hW1]; exact Below.alloc (Below.alloc (Below.refl _ _) (Nat.le_refl _) _) (by simp) _)
  have hmm := @run_makeMap Tryd.prog
  have d1 : (e.value != 0) = true := by simp [hv]
  clear hx hm hst h3 hsx hsxl hrg x8 m1 m2 r1 n1 n2 hv
  go_enter Tryd.func23, Tryd.ntmps23
  go_upto_region 2 with fail
  rw [← hW1]
  clear hmm hW1
  go_wp2_with fail
  refine wp_loop_rounds 1 ?_
  rw [rounds_succ]
  go_upto_region 5 with (first
    | (refine wpList_load_mid rfl 35 (.tmp 20) rfl sx 0 rfl (evcs e).toList _ HR.out Tryd.underlying35 rfl (by kernel_rfl) ?_)
    | (refine wpList_alloc_ev rfl rfl ?_)
    | (refine wpList_store_ev e rfl (.tmp 7) (.tmp 21) rfl rfl rfl ?_))
  simp only [Act.put, List.setIfInBounds_toArray, List.set_cons_zero, List.set_cons_succ]
  generalize W1.alloc (.cells (evcs e) 35) = W2 at *
  generalize W1.heap.size = q at *
  clear HR y8 hs1
  go_wp2_with (first
    | (refine wpList_lookup_at (u := .map (some w.heap.size)) (z := .int .i64 e.cell) (v := .tuple #[.int .i64 0, .bool false]) (w' := W2) rfl 70 (.tmp 31) (.tmp 33) rfl rfl rfl HN1.out ?_)
    | (refine wpList_lookup_at (u := .map (some m)) (z := .int .i64 e.cell) (v := .int .i64 0) (w' := W2) rfl 70 (.tmp 39) (.tmp 41) rfl rfl rfl HN2.out ?_))
  go_ret
  exact ⟨rfl, HB.out⟩
end Go.Proofs.YtffjcojehiblnaaDoor
