/- The example at the head of the statements: its events. -/
import Derived.Test.YtffjcojehiblnaaDoorHk7
namespace Go.Proofs.YtffjcojehiblnaaDoor
open Go.RowKit Go.Joins Go.ChangeShapes Go.WideShapes Go.Deep
set_option linter.unusedVariables false
set_option linter.unusedSimpArgs false
set_option maxRecDepth 100000

def X0 : Ev := ⟨0, 0, 0, 7, 0, 0, false, 0, 0, 0, 0, 0, 0, 0, 0, 0, 0, 0, 0⟩
def X1 : Ev := ⟨1, 0, 0, 1, 0, 0, false, 0, 0, 0, 0, 0, 0, 0, 0, 0, 0, 0, 0⟩
def X2 : Ev := ⟨2, 0, 0, 3, 2, 7, false, 0, 0, 0, 0, 0, 0, 0, 0, 0, 0, 0, 0⟩
def X3 : Ev := ⟨3, 0, 0, 4, 0, 0, false, 0, 0, 1, 0, 0, 0, 0, 0, 0, 0, 0, 0⟩
def X4 : Ev := ⟨4, 0, 1, 7, 0, 0, false, 0, 0, 0, 0, 0, 0, 0, 0, 0, 0, 0, 0⟩
def X5 : Ev := ⟨5, 0, 1, 1, 0, 0, false, 0, 1, 0, 0, 0, 0, 0, 0, 0, 0, 0, 0⟩
def X6 : Ev := ⟨6, 0, 1, 2, 2, 7, false, 0, 1, 0, 0, 0, 0, 0, 0, 0, 0, 0, 0⟩
def hx : List Ev := [X0, X1, X2, X3, X4, X5, X6]
def T0 : TxP := ⟨0, 0, 3, 1, 0, 0, true, false, [X2]⟩
def T1 : TxP := ⟨0, 4, -1, 0, 1, 0, true, false, [X6]⟩
def bx : Book := ⟨[T0, T1], 6, 1, 0⟩
theorem read_hx : readF book0 0 hx = .ok bx := by kernel_rfl
theorem places_hx : 0 ≤ placesF T1 T0 := by decide
theorem wpList_buildc {P : Program} {ops : Array Oper} {rest : List Oper} {o : Oper} {a : Act} {Q : Exit → Act → World → Prop} {w : World} {v : Value} (hgd : o.guard = none) (t : TypeId) (parts : Array (Nat × Operand)) (vals : Array (Nat × Value))
    (ho : o.op = .build t parts) (hp : parts.map (fun (i, x) => (i, a.eval x)) = vals) (hrun : (Instr.build t vals).run P w = .ok v w)
    (h : wpList P ops Q rest (a.put o.dst v) w) : wpList P ops Q (o :: rest) a w := by
  refine wpList_plain hgd fun K hK => ?_
  unfold Oper.wp
  simp only [execOp, ho, hp, Sem.run_bind, hrun, Sem.run_pure, Result.andThen_ok]
  exact hK _ _ h
theorem bld0 (w : World) : (Instr.build 35 #[(3, .int .i64 7)]).run Tryd.prog w = .ok (.agg (evcs X0)) w := by kernel_rfl
theorem bld1 (w : World) : (Instr.build 35 #[(3, .int .i64 1), (0, .int .i64 1)]).run Tryd.prog w = .ok (.agg (evcs X1)) w := by kernel_rfl
theorem bld2 (w : World) : (Instr.build 35 #[(3, .int .i64 3), (0, .int .i64 2), (4, .int .i64 2), (5, .int .i64 7)]).run Tryd.prog w = .ok (.agg (evcs X2)) w := by kernel_rfl
theorem bld3 (w : World) : (Instr.build 35 #[(3, .int .i64 4), (0, .int .i64 3), (9, .int .i64 1)]).run Tryd.prog w = .ok (.agg (evcs X3)) w := by kernel_rfl
theorem bld4 (w : World) : (Instr.build 35 #[(3, .int .i64 7), (0, .int .i64 4), (2, .int .i64 1)]).run Tryd.prog w = .ok (.agg (evcs X4)) w := by kernel_rfl
theorem bld5 (w : World) : (Instr.build 35 #[(3, .int .i64 1), (0, .int .i64 5), (2, .int .i64 1), (8, .int .i64 1)]).run Tryd.prog w = .ok (.agg (evcs X5)) w := by kernel_rfl
theorem bld6 (w : World) : (Instr.build 35 #[(3, .int .i64 2), (0, .int .i64 6), (2, .int .i64 1), (4, .int .i64 2), (5, .int .i64 7), (8, .int .i64 1)]).run Tryd.prog w = .ok (.agg (evcs X6)) w := by kernel_rfl
theorem hx_fill : Instr.fill (fun i => some (i * 19, 19)) ((Array.range (7 * 19)).map ((Value.agg zev).cells[· % (Value.agg zev).cells.size]!)) [(0, .agg (evcs X0)), (1, .agg (evcs X1)), (2, .agg (evcs X2)), (3, .agg (evcs X3)), (4, .agg (evcs X4)), (5, .agg (evcs X5)), (6, .agg (evcs X6))] = some (evs hx).toArray := by kernel_rfl
theorem run_hx (w : World) : (Instr.buildSlice 22 7 #[(0, .agg (evcs X0)), (1, .agg (evcs X1)), (2, .agg (evcs X2)), (3, .agg (evcs X3)), (4, .agg (evcs X4)), (5, .agg (evcs X5)), (6, .agg (evcs X6))]).run Tryd.prog w = .ok (.slice (some ⟨w.heap.size, 0, none⟩) 7 7) (w.alloc (.cells (evs hx).toArray 35)) := by
  obtain ⟨i0, hi0, hz0, hz1, hz2⟩ := info_parts info_ev
  refine run_buildSlice w 22 35 7 _ (evs hx).toArray i0 _ Tryd.underlying22 hi0 hz0 (by rw [hz1]; decide) (by rw [hz1]; decide) ?_
  simp only [hz1]
  exact hx_fill
theorem wpList_buildSl {P : Program} {ops : Array Oper} {rest : List Oper} {o : Oper} {a : Act} {Q : Exit → Act → World → Prop} {w w' : World} {v : Value} {n : Nat} (hgd : o.guard = none) (t : TypeId) (parts : Array (Nat × Operand)) (vals : Array (Nat × Value))
    (ho : o.op = .buildSlice t n parts) (hp : parts.map (fun (i, x) => (i, a.eval x)) = vals) (hrun : (Instr.buildSlice t n vals).run P w = .ok v w')
    (h : wpList P ops Q rest (a.put o.dst v) w') : wpList P ops Q (o :: rest) a w := by
  refine wpList_plain hgd fun K hK => ?_
  unfold Oper.wp
  simp only [execOp, ho, hp, Sem.run_bind, hrun, Sem.run_pure, Result.andThen_ok]
  exact hK _ _ h
end Go.Proofs.YtffjcojehiblnaaDoor
