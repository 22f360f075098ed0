/- Two that are equal are not unequal: an event, a transaction as it is told. -/
import Derived.Test.YtffjcojehiblnaaGreatDoorPi
import Derived.Laws.StructEq
import Derived.Laws.MakeOwn
import Derived.Laws.CopyRow
namespace Go.Proofs.YtffjcojehiblnaaGreatDoor
open Go.RowKit Go.Joins Go.ChangeShapes Go.WideShapes Go.Deep
set_option linter.unusedVariables false
set_option linter.unusedSimpArgs false
set_option maxRecDepth 100000

theorem txz_neq (z : TxZ) (w : World) : (binOp .neq 50 (.agg z.cells.toArray) (.agg z.cells.toArray)).run Tryz.prog w = .ok (.bool false) w := by
  have hS : Tryz.prog.underlying 50 = some (.struct (Tryz.prog.fieldsOf 50)) := by kernel_rfl
  have hp : Tryz.prog.stoodInHeld 50 = false := by kernel_rfl
  rw [run_neq_struct, show (10000 : Nat) = 9999 + 1 from rfl, run_equalIn_agg w 9999 50 _ _ hS hp]
  simp only [Program.fieldsOf, Tryz.underlying50, TxZ.cells]
  go_simp
theorem ints_equal {P : Program} (w : World) (d : Nat) (t e : TypeId) (n : Nat) (k : IntKind) (ht : P.underlying t = some (.array n e)) (he : P.underlying e = some (.int k)) (hsz : ∀ w, (sizeOf e).run P w = .ok 1 w) (xs : List Int) (hx : xs.length = n) :
    (Op.equalIn (d + 2) t (.agg (xs.map (Value.int k)).toArray) (.agg (xs.map (Value.int k)).toArray)).run P w = .ok true w := by
  rw [Op.equalIn]
  simp only [Sem.run_bind, run_underlying ht, Result.andThen_ok, hsz, Std.Legacy.Range.forIn_eq_forIn_range', Std.Legacy.Range.size, Nat.sub_zero, Nat.add_sub_cancel, Nat.div_one]
  have hl : ∀ i ∈ List.range' 0 n 1, i < n := fun i hi => by simpa using (List.mem_range'_1.1 hi).2
  generalize List.range' 0 n 1 = l at hl ⊢
  induction l with
  | nil => simp
  | cons i l ih =>
    have hi : i < n := hl i (by simp)
    have px : (part e (xs.map (Value.int k)).toArray (i * 1)).run P w = .ok (.int k (xs.getD i 0)) w := by
      simp [part, isAgg, run_underlying he, List.getD, List.getElem?_eq_getElem (show i < xs.length by omega)]
    have pe : (Op.equalIn (d + 1) e (.int k (xs.getD i 0)) (.int k (xs.getD i 0))).run P w = .ok true w := by
      rw [run_equalIn_int w d e k k _ _ he]
      simp
    simp only [List.forIn_cons, Sem.run_bind, px, pe, Result.andThen_ok]
    simp only [Bool.not_true, Bool.false_eq_true, if_false, Sem.run_pure, Result.andThen_ok]
    exact ih fun j hj => hl j (by simp [hj])
theorem sig_equal (d : Nat) (s0 s1 s2 s3 s4 s5 s6 s7 : Int) (w : World) : (Op.equalIn (d + 2) 41 (.agg #[.int .u64 s0, .int .u64 s1, .int .u64 s2, .int .u64 s3, .int .u64 s4, .int .u64 s5, .int .u64 s6, .int .u64 s7]) (.agg #[.int .u64 s0, .int .u64 s1, .int .u64 s2, .int .u64 s3, .int .u64 s4, .int .u64 s5, .int .u64 s6, .int .u64 s7])).run Tryz.prog w = .ok true w :=
  ints_equal w d 41 39 8 .u64 Tryz.underlying41 Tryz.underlying39 (fun w => by kernel_rfl) [s0, s1, s2, s3, s4, s5, s6, s7] rfl
theorem part_sig (e : Ev) (w : World) : (part 41 (evcs e) 10).run Tryz.prog w = .ok (.agg #[.int .u64 e.s0, .int .u64 e.s1, .int .u64 e.s2, .int .u64 e.s3, .int .u64 e.s4, .int .u64 e.s5, .int .u64 e.s6, .int .u64 e.s7]) w := by kernel_rfl
theorem ev_neq (e : Ev) (w : World) : (binOp .neq 43 (.agg (evcs e)) (.agg (evcs e))).run Tryz.prog w = .ok (.bool false) w := by
  have hS : Tryz.prog.underlying 43 = some (.struct (Tryz.prog.fieldsOf 43)) := by kernel_rfl
  have hp : Tryz.prog.stoodInHeld 43 = false := by kernel_rfl
  have hpart : ∀ (t : TypeId) (i : Nat) (k : IntKind) (z : Int), (evcs e)[i]? = some (.int k z) → Tryz.prog.underlying t = some (.int k) → (part t (evcs e) i).run Tryz.prog w = .ok (.int k z) w := fun t i k z h1 h2 => by
    simp [part, isAgg, run_underlying h2, h1]
  have hb : (part 4 (evcs e) 6).run Tryz.prog w = .ok (.bool e.own) w := by kernel_rfl
  have i0 := hpart 3 0 .i64 e.at_ rfl Tryz.underlying3
  have i1 := hpart 3 1 .i64 e.thread rfl Tryz.underlying3
  have i2 := hpart 3 2 .i64 e.tx rfl Tryz.underlying3
  have i3 := hpart 3 3 .i64 e.kind rfl Tryz.underlying3
  have i4 := hpart 3 4 .i64 e.cell rfl Tryz.underlying3
  have i5 := hpart 2 5 .i64 e.value rfl Tryz.underlying2
  have i7 := hpart 2 7 .i64 e.start rfl Tryz.underlying2
  have i8 := hpart 2 8 .i64 e.seen rfl Tryz.underlying2
  have i9 := hpart 2 9 .i64 e.stamp rfl Tryz.underlying2
  have i18 := hpart 25 18 .i64 e.err rfl Tryz.underlying25
  have isg := part_sig e w
  have esg : (Op.equalIn 9999 41 (.agg #[.int .u64 e.s0, .int .u64 e.s1, .int .u64 e.s2, .int .u64 e.s3, .int .u64 e.s4, .int .u64 e.s5, .int .u64 e.s6, .int .u64 e.s7]) (.agg #[.int .u64 e.s0, .int .u64 e.s1, .int .u64 e.s2, .int .u64 e.s3, .int .u64 e.s4, .int .u64 e.s5, .int .u64 e.s6, .int .u64 e.s7])).run Tryz.prog w = .ok true w := sig_equal 9997 e.s0 e.s1 e.s2 e.s3 e.s4 e.s5 e.s6 e.s7 w
  have ein : ∀ (t : TypeId) (z : Int), Tryz.prog.underlying t = some (.int .i64) → (Op.equalIn 9999 t (.int .i64 z) (.int .i64 z)).run Tryz.prog w = .ok true w := fun t z h => by
    rw [show (9999 : Nat) = 9998 + 1 from rfl, run_equalIn_int w 9998 t .i64 .i64 z z h]; simp
  have ebo : ∀ b : Bool, (Op.equalIn 9999 4 (.bool b) (.bool b)).run Tryz.prog w = .ok true w := fun b => by
    rw [show (9999 : Nat) = 9998 + 1 from rfl, run_equalIn_bool' w 9998 4 b b Tryz.underlying4]; simp
  rw [run_neq_struct, show (10000 : Nat) = 9999 + 1 from rfl, run_equalIn_agg w 9999 43 _ _ hS hp]
  generalize evcs e = cs at *
  simp only [Program.fieldsOf, Tryz.underlying43, Op.eqFields, Sem.run_bind, Sem.run_ite, ne_eq, String.reduceEq, not_false_eq_true, if_true, i0, i1, i2, i3, i4, i5, i7, i8, i9, i18, hb, isg, esg, ein _ _ Tryz.underlying3, ein _ _ Tryz.underlying2, ein _ _ Tryz.underlying25, ebo, Result.andThen_ok, Bool.not_true, Bool.false_eq_true, if_false, Sem.run_pure]
end Go.Proofs.YtffjcojehiblnaaGreatDoor

/- The law's txs, at two equal lists. -/
namespace Go.Proofs.YtffjcojehiblnaaGreatDoor
open Go.RowKit Go.Joins Go.ChangeShapes Go.WideShapes Go.Deep
set_option linter.unusedVariables false
set_option linter.unusedSimpArgs false
set_option maxRecDepth 100000

section
variable {P : Program} {ops : Array Oper} {S : World → Prop}
theorem yi_index {o : Oper} {a : Act} {u z v : Value} (hg : o.guard = none) (t : TypeId) (x i : Operand) (ho : o.op = .indexAddr t x i) (hx : a.eval x = u) (hi : a.eval i = z) (hv : ∀ w, (Instr.indexAt t u z).run P w = .ok v w) : YieldsIf P ops S o v a :=
  yi_of hg fun w _ => by simp only [execOp, ho, hx, hi, Sem.run_bind, hv w, Sem.run_pure, Result.andThen_ok]
theorem yi_neq {o : Oper} {a : Act} {u z v : Value} {t rt : TypeId} (hg : o.guard = none) (x y : Operand) (ho : o.op = .binOp .neq t x y rt) (hx : a.eval x = u) (hy : a.eval y = z) (hgd : ∀ w, (eqGuard .neq t x y u z).run P w = .ok () w) (hv : ∀ w, (binOp .neq t u z).run P w = .ok v w) : YieldsIf P ops S o v a :=
  yi_of hg fun w _ => by simp only [execOp, ho, hx, hy, Sem.run_bind, hgd w, hv w, Sem.run_pure, Result.andThen_ok]
end
theorem txz_at {w : World} {b off k : Nat} {zs : List TxZ} (hc : ∀ j u, (txzs zs)[j]? = some u → w.cell? ⟨b, off + j, none⟩ = some u) (hk : k < zs.length) : w.rangeAt b (off + k * 6) zs[k].cells := fun j v hv => by
  have hj : j < 6 := (List.getElem?_eq_some_iff.1 hv).1
  have h1 := rows_at TxZ.cells 6 (fun _ => rfl) zs k j hk hj
  have := hc (k * 6 + j) v (by rw [show txzs zs = rows TxZ.cells zs from rfl, h1]; exact hv)
  rwa [← Nat.add_assoc] at this
structure TwoS (a b : Nat) (o p : Nat) (xs ys : List Value) (w : World) : Prop where
  x : w.rangeAt a o xs
  y : w.rangeAt b p ys
theorem txz_load {q o : Nat} {z : TxZ} {w' : World} (h : w'.rangeAt q o z.cells) : (loadVar 50 ⟨q, o, none⟩).run Tryz.prog w' = .ok (.agg z.cells.toArray) w' :=
  run_loadVar_mid (P := Tryz.prog) w' q o 50 z.cells _ h Tryz.underlying50 (by rfl) (by kernel_rfl)
end Go.Proofs.YtffjcojehiblnaaGreatDoor

/- What the laws of lists of events share. -/
namespace Go.Proofs.YtffjcojehiblnaaGreatDoor
open Go.RowKit Go.Joins Go.ChangeShapes Go.WideShapes Go.Deep
set_option linter.unusedVariables false
set_option linter.unusedSimpArgs false
set_option maxRecDepth 100000

section
variable {P : Program}
theorem run_copy_wide (w : World) (dT sT ty elem : TypeId) (size g n : Nat) (A : Option Addr) (dCap sCap : Nat) (cur : Array Value) (t : TypeId) (cs : List Value)
    (hu : P.underlying dT = some (.slice elem)) (hs : (P.info? elem).map (·.size) = some size) (hg : w.heap[g]? = some (.cells cur t (0, 0))) (hn : cs.length = n * size) (hcur : cur.size = n * size)
    (hsrc : 0 < n → ∃ a, A = some a ∧ ∀ j v, cs[j]? = some v → w.cell? (a.add j) = some v) (h1 : ∀ v ∈ cs, v.oneCell' = true) :
    (Builtin.copy_ #[dT, sT] ty #[.slice (some ⟨g, 0, none⟩) n dCap, .slice A n sCap]).run P w = .ok (goInt n) (w.setRow g cs.toArray) := by
  have hst := run_storeCells_at P g 0 t cs 0 cur w hg (by rw [hn, hcur]; omega) h1
  rw [Nat.zero_add, Nat.zero_add, hn, ← hcur, List.take_zero, List.nil_append, ← Array.length_toList, List.drop_length, List.append_nil] at hst
  cases hq : P.info? elem with
  | none => simp [hq] at hs
  | some i =>
    have hi : i.size = size := by simpa [hq] using hs
    rcases Nat.eq_zero_or_pos n with h0 | h0
    · subst h0
      have hcs : cs = [] := List.eq_nil_of_length_eq_zero (by simpa using hn)
      subst hcs
      have hl : ∀ (x : Addr), (loadCells x 0).run P w = .ok #[] w := fun x => by simpa using run_loadCells_list (P := P) w x [] (by simp)
      have hst0 : (storeCells ⟨g, 0, none⟩ []).run P w = .ok () (w.setRow g #[]) := by simpa using hst
      cases A <;> simp [Builtin.copy_, run_underlying hu, Builtin.lenOf, Builtin.firstCells, sizeOf, typeInfo, hq, hl, hst0]
    · obtain ⟨a, rfl, hc⟩ := hsrc h0
      have hl := run_loadCells_list (P := P) w a cs hc
      rw [hn] at hl
      simp [Builtin.copy_, run_underlying hu, Builtin.lenOf, Builtin.firstCells, sizeOf, typeInfo, hq, hi, hl, hst]
theorem wpList_copy_wide {ops : Array Oper} {rest : List Oper} {o : Oper} {a : Act} {Q : Exit → Act → World → Prop} {w w' : World} {v : Value} (hgd : o.guard = none) (d s : Operand) (dT sT : TypeId)
    (ho : o.op = .call { callee := .builtin .copy, args := #[d, s], argTypes := #[dT, sT] }) {dv sv : Value} (hd : a.eval d = dv) (hs : a.eval s = sv) (hrun : ∀ ty, (Builtin.copy_ #[dT, sT] ty #[dv, sv]).run P w = .ok v w')
    (h : wpList P ops Q rest (a.put o.dst v) w') : wpList P ops Q (o :: rest) a w := by
  refine wpList_plain hgd fun K hK => ?_
  unfold Oper.wp
  simp [execOp, ho, resolve, invoke, builtin, hd, hs, hrun, Result.andThen]
  exact hK _ _ h
theorem wpList_make_wide {ops : Array Oper} {rest : List Oper} {o : Oper} {a : Act} {Q : Exit → Act → World → Prop} {w w' : World} {v : Value} (hgd : o.guard = none) (t : TypeId) (x y : Operand)
    (ho : o.op = .makeSlice t x y) {u z : Value} (hx : a.eval x = u) (hy : a.eval y = z) (hrun : (Instr.makeSlice t u z).run P w = .ok v w')
    (h : wpList P ops Q rest (a.put o.dst v) w') : wpList P ops Q (o :: rest) a w := by
  refine wpList_plain hgd fun K hK => ?_
  unfold Oper.wp
  simp only [execOp, ho, hx, hy, Sem.run_bind, hrun, Sem.run_pure, Result.andThen_ok]
  exact hK _ _ h
end
theorem evs_one (l : List Ev) : ∀ v ∈ evs l, v.oneCell' = true := by
  intro v hv
  obtain ⟨i, hi⟩ := List.getElem?_of_mem hv
  have hlen := evs_length l
  have hil : i < l.length * 19 := by rw [← hlen]; exact (List.getElem?_eq_some_iff.1 hi).1
  have h1 := evs_at l (i / 19) (i % 19) (Nat.div_lt_of_lt_mul (by omega)) (Nat.mod_lt _ (by decide))
  rw [show i / 19 * 19 + i % 19 = i by omega, hi] at h1
  have : v ∈ (l[i / 19]'(Nat.div_lt_of_lt_mul (by omega))).cells := List.mem_of_getElem? h1.symm
  exact ev_one _ v this
def SaysTrue (w : World) : Ending → World → Prop := fun r w' => r = .returned (.bool true) ∧ Below w.heap.size w w'
theorem setRow_blk {w : World} {g : Nat} {t : TypeId} {cs cs' : Array Value} (h : Blk w g t cs) : Blk (w.setRow g cs') g t cs' := by
  unfold Blk at *
  have hlt : g < w.heap.size := by
    rcases Nat.lt_or_ge g w.heap.size with hh | hh
    · exact hh
    · rw [Array.getElem?_eq_none hh] at h; cases h
  show (w.heap.modify g _)[g]? = _
  rw [Array.getElem?_modify, if_pos rfl, h]
  rfl
theorem below_row {B g : Nat} {w0 w : World} (hb : Below B w0 w) (hBg : B ≤ g) (cs : Array Value) : Below B w0 (w.setRow g cs) :=
  hb.trans ⟨rfl, rfl, rfl, by simp [World.setRow], fun k hk => setRow_other w g k cs (by omega)⟩
theorem reads_blk {w : World} {g n : Nat} {l : List Ev} (h : Blk w g 43 (evs l).toArray) (hl : l.length = n) : Reads w w.heap.size 19 (some ⟨g, 0, none⟩) n (evs l) := by
  refine ⟨by rw [evs_length, hl], fun _ => ⟨_, rfl, h.lt, fun j u hu => ?_⟩⟩
  rw [Addr.add_mid, Nat.zero_add, h.cell j]
  simpa using hu
theorem may_split (l : List Ev) : (∀ i (hi : i < l.length), mayF l i l[i] = true) ∨ ∃ q, ∃ hq : q < l.length, (∀ i (hi : i < l.length), i < q → mayF l i l[i] = true) ∧ mayF l q l[q] = false := by
  have key : ∀ m, m ≤ l.length → (∀ i (hi : i < l.length), i < m → mayF l i l[i] = true) ∨ ∃ q, ∃ hq : q < l.length, (∀ i (hi : i < l.length), i < q → mayF l i l[i] = true) ∧ mayF l q l[q] = false := by
    intro m
    induction m with
    | zero => exact fun _ => .inl fun i _ h => absurd h (by omega)
    | succ m ih =>
      intro hm
      rcases ih (by omega) with h | h
      · cases hb : mayF l m (l[m]'(by omega)) with
        | true =>
          refine .inl fun i hi him => ?_
          rcases Nat.lt_or_ge i m with h1 | h1
          · exact h i hi h1
          · have : i = m := by omega
            subst this
            exact hb
        | false => exact .inr ⟨m, by omega, h, hb⟩
      · exact .inr h
  rcases key l.length (Nat.le_refl _) with h | h
  · exact .inl fun i hi => h i hi hi
  · exact .inr h
structure TwoE (a b o p : Nat) (e : Ev) (w : World) : Prop where
  x : w.rangeAt a o (evcs e).toList
  y : w.rangeAt b p (evcs e).toList
theorem ev_load_at {q o : Nat} {e : Ev} {w' : World} (h : w'.rangeAt q o (evcs e).toList) : (loadVar 43 ⟨q, o, none⟩).run Tryz.prog w' = .ok (.agg (evcs e)) w' := by
  have := run_loadVar_mid (P := Tryz.prog) w' q o 43 (evcs e).toList _ h Tryz.underlying43 (by rfl) (by kernel_rfl)
  simpa using this
end Go.Proofs.YtffjcojehiblnaaGreatDoor
