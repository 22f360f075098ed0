/- Two that are equal are not unequal: an event, a transaction as it is told. -/
import Derived.Test.YtffjcojehiblnaaDoorHv2
import Derived.Laws.StructEq
namespace Go.Proofs.YtffjcojehiblnaaDoor
open Go.RowKit Go.Joins Go.ChangeShapes Go.WideShapes Go.Deep
set_option linter.unusedVariables false
set_option linter.unusedSimpArgs false
set_option maxRecDepth 100000

theorem txz_neq (z : TxZ) (w : World) : (binOp .neq 42 (.agg z.cells.toArray) (.agg z.cells.toArray)).run Tryd.prog w = .ok (.bool false) w := by
  have hS : Tryd.prog.underlying 42 = some (.struct (Tryd.prog.fieldsOf 42)) := by kernel_rfl
  have hp : Tryd.prog.stoodInHeld 42 = false := by kernel_rfl
  rw [run_neq_struct, show (10000 : Nat) = 9999 + 1 from rfl, run_equalIn_agg w 9999 42 _ _ hS hp]
  simp only [Program.fieldsOf, Tryd.underlying42, TxZ.cells]
  go_simp
theorem ints_equal {P : Program} (w : World) (d : Nat) (t e : TypeId) (n : Nat) (k : IntKind) (ht : P.underlying t = some (.array n e)) (he : P.underlying e = some (.int k)) (hsz : ∀ w, (sizeOf e).run P w = .ok 1 w) (xs : List Int) (hx : xs.length = n) :
    (Op.equalIn (d + 2) t (.agg (xs.map (Value.int k)).toArray) (.agg (xs.map (Value.int k)).toArray)).run P w = .ok true w := by
  rw [Op.equalIn]
  simp only [Sem.run_bind, run_underlying ht, Result.andThen_ok, hsz, Std.Legacy.Range.forIn_eq_forIn_range', Std.Legacy.Range.size, Nat.sub_zero, Nat.add_sub_cancel, Nat.div_one]
  have hl : ∀ i ∈ List.range' 0 n 1, i < n := fun i hi => by simpa using (List.mem_range'_1.1 hi).2
  generalize List.range' 0 n 1 = l at hl ⊢
  induction l with
  | nil => simp
  | cons i l ih =>
    have hi : i < n := hl i (by simp)
    have px : (part e (xs.map (Value.int k)).toArray (i * 1)).run P w = .ok (.int k (xs.getD i 0)) w := by
      simp [part, isAgg, run_underlying he, List.getD, List.getElem?_eq_getElem (show i < xs.length by omega)]
    have pe : (Op.equalIn (d + 1) e (.int k (xs.getD i 0)) (.int k (xs.getD i 0))).run P w = .ok true w := by
      rw [run_equalIn_int w d e k k _ _ he]
      simp
    simp only [List.forIn_cons, Sem.run_bind, px, pe, Result.andThen_ok]
    simp only [Bool.not_true, Bool.false_eq_true, if_false, Sem.run_pure, Result.andThen_ok]
    exact ih fun j hj => hl j (by simp [hj])
theorem sig_equal (d : Nat) (s0 s1 s2 s3 s4 s5 s6 s7 : Int) (w : World) : (Op.equalIn (d + 2) 33 (.agg #[.int .u64 s0, .int .u64 s1, .int .u64 s2, .int .u64 s3, .int .u64 s4, .int .u64 s5, .int .u64 s6, .int .u64 s7]) (.agg #[.int .u64 s0, .int .u64 s1, .int .u64 s2, .int .u64 s3, .int .u64 s4, .int .u64 s5, .int .u64 s6, .int .u64 s7])).run Tryd.prog w = .ok true w :=
  ints_equal w d 33 31 8 .u64 Tryd.underlying33 Tryd.underlying31 (fun w => by kernel_rfl) [s0, s1, s2, s3, s4, s5, s6, s7] rfl
theorem part_sig (e : Ev) (w : World) : (part 33 (evcs e) 10).run Tryd.prog w = .ok (.agg #[.int .u64 e.s0, .int .u64 e.s1, .int .u64 e.s2, .int .u64 e.s3, .int .u64 e.s4, .int .u64 e.s5, .int .u64 e.s6, .int .u64 e.s7]) w := by kernel_rfl
theorem ev_neq (e : Ev) (w : World) : (binOp .neq 35 (.agg (evcs e)) (.agg (evcs e))).run Tryd.prog w = .ok (.bool false) w := by
  have hS : Tryd.prog.underlying 35 = some (.struct (Tryd.prog.fieldsOf 35)) := by kernel_rfl
  have hp : Tryd.prog.stoodInHeld 35 = false := by kernel_rfl
  have hpart : ∀ (t : TypeId) (i : Nat) (k : IntKind) (z : Int), (evcs e)[i]? = some (.int k z) → Tryd.prog.underlying t = some (.int k) → (part t (evcs e) i).run Tryd.prog w = .ok (.int k z) w := fun t i k z h1 h2 => by
    simp [part, isAgg, run_underlying h2, h1]
  have hb : (part 4 (evcs e) 6).run Tryd.prog w = .ok (.bool e.own) w := by kernel_rfl
  have i0 := hpart 3 0 .i64 e.at_ rfl Tryd.underlying3
  have i1 := hpart 3 1 .i64 e.thread rfl Tryd.underlying3
  have i2 := hpart 3 2 .i64 e.tx rfl Tryd.underlying3
  have i3 := hpart 3 3 .i64 e.kind rfl Tryd.underlying3
  have i4 := hpart 3 4 .i64 e.cell rfl Tryd.underlying3
  have i5 := hpart 2 5 .i64 e.value rfl Tryd.underlying2
  have i7 := hpart 2 7 .i64 e.start rfl Tryd.underlying2
  have i8 := hpart 2 8 .i64 e.seen rfl Tryd.underlying2
  have i9 := hpart 2 9 .i64 e.stamp rfl Tryd.underlying2
  have i18 := hpart 25 18 .i64 e.err rfl Tryd.underlying25
  have isg := part_sig e w
  have esg : (Op.equalIn 9999 33 (.agg #[.int .u64 e.s0, .int .u64 e.s1, .int .u64 e.s2, .int .u64 e.s3, .int .u64 e.s4, .int .u64 e.s5, .int .u64 e.s6, .int .u64 e.s7]) (.agg #[.int .u64 e.s0, .int .u64 e.s1, .int .u64 e.s2, .int .u64 e.s3, .int .u64 e.s4, .int .u64 e.s5, .int .u64 e.s6, .int .u64 e.s7])).run Tryd.prog w = .ok true w := sig_equal 9997 e.s0 e.s1 e.s2 e.s3 e.s4 e.s5 e.s6 e.s7 w
  have ein : ∀ (t : TypeId) (z : Int), Tryd.prog.underlying t = some (.int .i64) → (Op.equalIn 9999 t (.int .i64 z) (.int .i64 z)).run Tryd.prog w = .ok true w := fun t z h => by
    rw [show (9999 : Nat) = 9998 + 1 from rfl, run_equalIn_int w 9998 t .i64 .i64 z z h]; simp
  have ebo : ∀ b : Bool, (Op.equalIn 9999 4 (.bool b) (.bool b)).run Tryd.prog w = .ok true w := fun b => by
    rw [show (9999 : Nat) = 9998 + 1 from rfl, run_equalIn_bool' w 9998 4 b b Tryd.underlying4]; simp
  rw [run_neq_struct, show (10000 : Nat) = 9999 + 1 from rfl, run_equalIn_agg w 9999 35 _ _ hS hp]
  generalize evcs e = cs at *
  simp only [Program.fieldsOf, Tryd.underlying35, Op.eqFields, Sem.run_bind, Sem.run_ite, ne_eq, String.reduceEq, not_false_eq_true, if_true, i0, i1, i2, i3, i4, i5, i7, i8, i9, i18, hb, isg, esg, ein _ _ Tryd.underlying3, ein _ _ Tryd.underlying2, ein _ _ Tryd.underlying25, ebo, Result.andThen_ok, Bool.not_true, Bool.false_eq_true, if_false, Sem.run_pure]
end Go.Proofs.YtffjcojehiblnaaDoor
