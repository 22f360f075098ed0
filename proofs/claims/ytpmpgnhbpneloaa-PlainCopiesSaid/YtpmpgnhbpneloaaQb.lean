/- The library's Insert and Delete of one element, at the two element types of this seat; begun from the shelf's proofs at other types. -/
import Derived.Test.YtpmpgnhbpneloaaKit
import Derived.Lib.Overlaps
import Derived.Lib.AppendZerosOnto
import Derived.Lib.AppendZeros
import Derived.Lib.SliceRun
import Derived.Laws.Externs
import Derived.Laws.CopyRow
import Derived.Deep.RegionLaw
namespace Go.Proofs.Ytpmpgnhbpneloaa
open Go.RowKit Go.Joins Go.ChangeShapes Go.WideShapes Go.Deep
set_option linter.unusedVariables false
set_option maxRecDepth 100000

section
variable {P : Program}
theorem copy_rowk (w : World) (dT sT ty elem : TypeId) (g o dLen dCap : Nat) (a : Addr) (sLen sCap k : Nat) (cur : Array Value) (t : TypeId) (cs : List Value)
    (hu : P.underlying dT = some (.slice elem)) (hs : (P.info? elem).map (·.size) = some k)
    (hg : w.heap[g]? = some (.cells cur t (0, 0))) (hn : cs.length = Nat.min sLen dLen * k)
    (hsrc : ∀ j v, cs[j]? = some v → w.cell? (a.add j) = some v) (hfit : o + cs.length ≤ cur.size) (h1 : ∀ v ∈ cs, v.oneCell' = true) :
    (Builtin.copy_ #[dT, sT] ty #[.slice (some ⟨g, o, none⟩) dLen dCap, .slice (some a) sLen sCap]).run P w =
      .ok (goInt (Nat.min sLen dLen)) (w.setRow g (cur.toList.take o ++ cs ++ cur.toList.drop (o + cs.length)).toArray) := by
  have hl := run_loadCells_list (P := P) w a cs hsrc
  have hst := run_storeCells_at P g o t cs 0 cur w hg (by simpa using hfit) h1
  cases hq : P.info? elem with
  | none => simp [hq] at hs
  | some i =>
    have hi : i.size = k := by simpa [hq] using hs
    simp [Builtin.copy_, run_underlying hu, Builtin.lenOf, Builtin.firstCells, sizeOf, typeInfo, hq, hi, ← hn, hl, hst]

theorem wp_copy_is (w : World) {o : Oper} {a : Act} {K : Act → World → Prop} {Q : Exit → Act → World → Prop} (d s : Operand) (t t' : TypeId)
    (ho : o.op = .call { callee := .builtin .copy, args := #[d, s], argTypes := #[t, t'] }) (v u : Value) (hd : a.eval d = v) (hs : a.eval s = u) {v' : Value} {w' : World}
    (hr : (Builtin.copy_ #[t, t'] o.type #[v, u]).run P w = .ok v' w') (h : K (a.put o.dst v') w') : o.wp P a w K Q := by
  unfold Oper.wp execOp
  simp only [ho, resolve, invoke, builtin, Sem.run_bind, Sem.run_pure, Result.andThen_ok, List.map_toArray, List.map_cons, List.map_nil, hd, hs, hr]
  exact h
theorem wpList_copy_is (w : World) {ops : Array Oper} {rest : List Oper} {o : Oper} {a : Act} {Q : Exit → Act → World → Prop} (hgd : o.guard = none) (d s : Operand) (t t' : TypeId)
    (ho : o.op = .call { callee := .builtin .copy, args := #[d, s], argTypes := #[t, t'] }) (v u : Value) (hd : a.eval d = v) (hs : a.eval s = u) {v' : Value} {w' : World}
    (hr : (Builtin.copy_ #[t, t'] o.type #[v, u]).run P w = .ok v' w') (h : wpList P ops Q rest (a.put o.dst v') w') : wpList P ops Q (o :: rest) a w :=
  wpList_plain hgd fun _ hK => wp_copy_is w d s t t' ho v u hd hs hr (hK _ _ h)
theorem step_copy_is {ops : Array Oper} {o : Oper} {a : Act} {w : World} {K : Act → World → Prop} {Q : Exit → Act → World → Prop} {E : Prop}
    (hg : o.guard = none) (d x : Operand) (dT sT : TypeId) (hop : o.op = Op.call { callee := Callee.builtin Builtin.copy, args := #[d, x], argTypes := #[dT, sT] })
    (v u : Value) (hd : a.eval d = v) (hx : a.eval x = u) {v' : Value} {w' : World} (hr : (Builtin.copy_ #[dT, sT] o.type #[v, u]).run P w = .ok v' w') (hK : K (a.put o.dst v') w') :
    if Region.wanted o (yielded ops a.tmps) = true then Oper.wp P o a w K Q else E := by
  have hw : Region.wanted o (yielded ops a.tmps) = true := by simp [Region.wanted, hg]
  rw [if_pos hw]
  unfold Oper.wp
  simp [execOp, hop, resolve, invoke, builtin, hd, hx, hr, Result.andThen]
  exact hK
end

theorem setCells_row (g : Nat) (t : TypeId) : ∀ (vs : List Value) (o : Nat) (cur : Array Value) (w : World), w.heap[g]? = some (.cells cur t (0, 0)) → o + vs.length ≤ cur.size →
    w.setCells g o vs = w.setRow g (cur.toList.take o ++ vs ++ cur.toList.drop (o + vs.length)).toArray
  | [], o, cur, w, hg, _ => by
    simp only [World.setCells, List.append_nil, List.length_nil, Nat.add_zero, List.take_append_drop, Array.toArray_toList]
    rw [setRow_self w g cur t (0, 0) hg]
  | v :: r, o, cur, w, hg, hl => by
    simp only [World.setCells]
    have hl' : o + (r.length + 1) ≤ cur.size := by simpa using hl
    rw [setCell_eq_setRow w g o cur t (0, 0) v hg, setCells_row g t r (o + 1) (cur.setIfInBounds o v) _ (setRow_heap w g cur _ t _ hg) (by simp; omega), setRow_setRow]
    congr 2
    have e := list_seg_step cur.toList o v r (by simp; omega)
    simpa [Array.toList_setIfInBounds, Nat.add_assoc] using e

section
variable {P : Program}
theorem clear_row (w : World) (t e ty : TypeId) (z : Value) (ht : P.underlying t = some (.slice e)) (hv : ∀ w, (zeroValue e).run P w = .ok z w) (g o n c : Nat) (hn : 0 < n) (cur : Array Value) (te : TypeId) (hg : w.heap[g]? = some (.cells cur te (0, 0)))
    (h1 : ∀ v ∈ (Builtin.zeroCells z.cells n).toList, v.oneCell' = true) (hl : o + (Builtin.zeroCells z.cells n).toList.length ≤ cur.size) :
    (Builtin.clear_ #[t] ty #[.slice (some ⟨g, o, none⟩) n c]).run P w = .ok (.tuple #[]) (w.setRow g (cur.toList.take o ++ (Builtin.zeroCells z.cells n).toList ++ cur.toList.drop (o + (Builtin.zeroCells z.cells n).toList.length)).toArray) := by
  have h := run_storeCells_at P g o te (Builtin.zeroCells z.cells n).toList 0 cur w hg (by simpa using hl) h1
  simp only [Nat.add_zero] at h
  obtain ⟨m, rfl⟩ : ∃ m, n = m + 1 := ⟨n - 1, by omega⟩
  simp [Builtin.clear_, run_underlying ht, hv, h]
theorem step_append_is {ops : Array Oper} {o : Oper} {a : Act} {w : World} {K : Act → World → Prop} {Q : Exit → Act → World → Prop} {E : Prop}
    (hg : o.guard = none) (d x : Operand) (dT sT : TypeId) (hop : o.op = Op.call { callee := Callee.builtin Builtin.append, args := #[d, x], argTypes := #[dT, sT] })
    (v u : Value) (hd : a.eval d = v) (hx : a.eval x = u) {v' : Value} {w' : World} (hr : (Builtin.append_ #[dT, sT] o.type #[v, u]).run P w = .ok v' w') (hK : K (a.put o.dst v') w') :
    if Region.wanted o (yielded ops a.tmps) = true then Oper.wp P o a w K Q else E := by
  have hw : Region.wanted o (yielded ops a.tmps) = true := by simp [Region.wanted, hg]
  rw [if_pos hw]
  unfold Oper.wp
  simp [execOp, hop, resolve, invoke, builtin, hd, hx, hr, Result.andThen]
  exact hK
end
section
variable {P : Program}
theorem wp_clear_is (w : World) {o : Oper} {a : Act} {K : Act → World → Prop} {Q : Exit → Act → World → Prop} (d : Operand) (t : TypeId)
    (ho : o.op = .call { callee := .builtin .clear, args := #[d], argTypes := #[t] }) (v : Value) (hd : a.eval d = v) {v' : Value} {w' : World}
    (hr : (Builtin.clear_ #[t] o.type #[v]).run P w = .ok v' w') (h : K (a.put o.dst v') w') : o.wp P a w K Q := by
  unfold Oper.wp execOp
  simp only [ho, resolve, invoke, builtin, Sem.run_bind, Sem.run_pure, Result.andThen_ok, List.map_toArray, List.map_cons, List.map_nil, hd, hr]
  exact h
theorem wpList_clear_is (w : World) {ops : Array Oper} {rest : List Oper} {o : Oper} {a : Act} {Q : Exit → Act → World → Prop} (hgd : o.guard = none) (d : Operand) (t : TypeId)
    (ho : o.op = .call { callee := .builtin .clear, args := #[d], argTypes := #[t] }) (v : Value) (hd : a.eval d = v) {v' : Value} {w' : World}
    (hr : (Builtin.clear_ #[t] o.type #[v]).run P w = .ok v' w') (h : wpList P ops Q rest (a.put o.dst v') w') : wpList P ops Q (o :: rest) a w :=
  wpList_plain hgd fun _ hK => wp_clear_is w d t ho v hd hr (hK _ _ h)
end
theorem nminR (a b : Nat) (h : b ≤ a) : Nat.min a b = b := Nat.min_eq_right h
theorem nminL (a b : Nat) (h : a ≤ b) : Nat.min a b = a := Nat.min_eq_left h
theorem setRow_other (w : World) (g q : Nat) (cs : Array Value) (h : q ≠ g) : (w.setRow g cs).heap[q]? = w.heap[q]? := by
  simp only [World.setRow, Array.getElem?_modify]
  rw [if_neg (Ne.symm h)]
theorem setRow_size (w : World) (g : Nat) (cs : Array Value) : (w.setRow g cs).heap.size = w.heap.size := by simp [World.setRow]
theorem Blk.row {w : World} {g : Nat} {t : TypeId} {cs cs' : Array Value} (h : Blk w g t cs) : Blk (w.setRow g cs') g t cs' := setRow_heap w g cs cs' t (0, 0) h
theorem Blk.offRow {w : World} {g q : Nat} {t : TypeId} {cs cs' : Array Value} (h : Blk w q t cs) (hq : q ≠ g) : Blk (w.setRow g cs') q t cs := (setRow_other w g q cs' hq).trans h
theorem Blk.at0 {w : World} {g : Nat} {t : TypeId} {cs : List Value} (h : Blk w g t cs.toArray) (o : Nat) : ∀ j v, (cs.drop o)[j]? = some v → w.cell? ((⟨g, o, none⟩ : Addr).add j) = some v := by
  intro j v hj
  rw [List.getElem?_drop] at hj
  have e : (⟨g, o, none⟩ : Addr).add j = ⟨g, o + j, none⟩ := by unfold Addr.add; split <;> simp_all
  rw [e, h.cell]
  simpa using hj

/-- What inserting does to the cells of a row. -/
theorem ins_cells (cur xs news : List Value) (a b N : Nat) (hx : cur.take N = xs) (ha : a ≤ N) (hb : news.length = b) (hl : N + b ≤ cur.length) :
    let A := cur.take (a + b) ++ xs.drop a ++ cur.drop (a + b + (xs.drop a).length)
    (A.take a ++ news ++ A.drop (a + news.length)).take (N + b) = xs.take a ++ news ++ xs.drop a ∧ (A.take a ++ news ++ A.drop (a + news.length)).length = cur.length ∧ A.length = cur.length := by
  have hxl : xs.length = N := by rw [← hx]; simp; omega
  have e1 : (xs.drop a).length = N - a := by simp [hxl]
  simp only [e1, hb]
  have hA : (cur.take (a + b) ++ xs.drop a ++ cur.drop (a + b + (N - a))).take a = xs.take a := by
    rw [List.append_assoc, List.take_append_of_le_length (by simp; omega), List.take_take, Nat.min_eq_left (by omega), ← hx, List.take_take, Nat.min_eq_left ha]
  have hD : (cur.take (a + b) ++ xs.drop a ++ cur.drop (a + b + (N - a))).drop (a + b) = xs.drop a ++ cur.drop (a + b + (N - a)) := by
    rw [List.append_assoc, List.drop_append_of_le_length (by simp; omega), List.drop_eq_nil_of_le (by simp; omega), List.nil_append]
  rw [hA, hD]
  refine ⟨?_, by simp [hb, hxl]; omega, by simp [hxl]; omega⟩
  rw [← List.append_assoc, List.take_append_of_le_length (by simp [hb, hxl]; omega), List.take_of_length_le (by simp [hb, hxl]; omega)]
/-- What inserting into a new row does. -/
theorem grow_cells (ROW xs news : List Value) (a b N : Nat) (hx : xs.length = N) (ha : a ≤ N) (hb : news.length = b) (hl : N + b ≤ ROW.length) (hR : ROW.take a = xs.take a) :
    let A := ROW.take a ++ news ++ ROW.drop (a + news.length)
    (A.take (a + b) ++ xs.drop a ++ A.drop (a + b + (xs.drop a).length)).take (N + b) = xs.take a ++ news ++ xs.drop a ∧ (A.take (a + b) ++ xs.drop a ++ A.drop (a + b + (xs.drop a).length)).length = ROW.length ∧ A.length = ROW.length := by
  have e1 : (xs.drop a).length = N - a := by simp [hx]
  simp only [e1, hb, hR]
  have hA : (xs.take a ++ news ++ ROW.drop (a + b)).take (a + b) = xs.take a ++ news := by
    rw [List.take_append_of_le_length (by simp [hx, hb]; omega), List.take_of_length_le (by simp [hx, hb]; omega)]
  rw [hA]
  refine ⟨?_, by simp [hb, hx]; omega, by simp [hb, hx]; omega⟩
  rw [List.take_append_of_le_length (by simp [hb, hx]; omega), List.take_of_length_le (by simp [hb, hx]; omega)]
theorem grown_row {w W : World} {o : Obj} (h : w.grownBy W none) (g : Nat) (cs : Array Value) (hg : w.heap.size ≤ g) : w.grownBy (W.setRow g cs) none :=
  ⟨h.os, h.tape, h.output, by rw [setRow_size]; exact h.size, fun k hk hn => (setRow_other W g k cs (by omega)).trans (h.block k hk hn)⟩
/-- What deleting does. -/
theorem del_cells (cur xs : List Value) (z : List Value) (a b N : Nat) (hx : cur.take N = xs) (ha : a + b ≤ N) (hl : N ≤ cur.length) (hz : z.length = b) :
    let A := cur.take a ++ xs.drop (a + b) ++ cur.drop (a + (xs.drop (a + b)).length)
    (A.take (N - b) ++ z ++ A.drop (N - b + z.length)).take (N - b) = xs.take a ++ xs.drop (a + b) ∧ (A.take (N - b) ++ z ++ A.drop (N - b + z.length)).length = cur.length ∧ A.length = cur.length := by
  have hxl : xs.length = N := by rw [← hx]; simp; omega
  have e1 : (xs.drop (a + b)).length = N - (a + b) := by simp [hxl]
  simp only [e1, hz]
  have hA : (cur.take a ++ xs.drop (a + b) ++ cur.drop (a + (N - (a + b)))).take (N - b) = xs.take a ++ xs.drop (a + b) := by
    rw [List.take_append_of_le_length (by simp [hxl]; omega), List.take_of_length_le (by simp [hxl]; omega), ← hx, List.take_take, Nat.min_eq_left (by omega)]
  have hAl : (cur.take a ++ xs.drop (a + b) ++ cur.drop (a + (N - (a + b)))).length = cur.length := by simp [hxl]; omega
  rw [hA]
  refine ⟨?_, ?_, hAl⟩
  · rw [List.append_assoc, List.take_append_of_le_length (by simp [hxl]; omega), List.take_of_length_le (by simp [hxl]; omega)]
  · simp only [List.length_append, List.length_drop, hAl, hz, hxl, List.length_take]
    omega
end Go.Proofs.Ytpmpgnhbpneloaa
