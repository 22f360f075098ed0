/- What the laws of lists of events share. -/
import Derived.Test.YtffjcojehiblnaaDoorHy1
import Derived.Laws.MakeOwn
import Derived.Laws.CopyRow
namespace Go.Proofs.YtffjcojehiblnaaDoor
open Go.RowKit Go.Joins Go.ChangeShapes Go.WideShapes Go.Deep
set_option linter.unusedVariables false
set_option linter.unusedSimpArgs false
set_option maxRecDepth 100000

section
variable {P : Program}
theorem run_copy_wide (w : World) (dT sT ty elem : TypeId) (size g n : Nat) (A : Option Addr) (dCap sCap : Nat) (cur : Array Value) (t : TypeId) (cs : List Value)
    (hu : P.underlying dT = some (.slice elem)) (hs : (P.info? elem).map (·.size) = some size) (hg : w.heap[g]? = some (.cells cur t (0, 0))) (hn : cs.length = n * size) (hcur : cur.size = n * size)
    (hsrc : 0 < n → ∃ a, A = some a ∧ ∀ j v, cs[j]? = some v → w.cell? (a.add j) = some v) (h1 : ∀ v ∈ cs, v.oneCell' = true) :
    (Builtin.copy_ #[dT, sT] ty #[.slice (some ⟨g, 0, none⟩) n dCap, .slice A n sCap]).run P w = .ok (goInt n) (w.setRow g cs.toArray) := by
  have hst := run_storeCells_at P g 0 t cs 0 cur w hg (by rw [hn, hcur]; omega) h1
  rw [Nat.zero_add, Nat.zero_add, hn, ← hcur, List.take_zero, List.nil_append, ← Array.length_toList, List.drop_length, List.append_nil] at hst
  cases hq : P.info? elem with
  | none => simp [hq] at hs
  | some i =>
    have hi : i.size = size := by simpa [hq] using hs
    rcases Nat.eq_zero_or_pos n with h0 | h0
    · subst h0
      have hcs : cs = [] := List.eq_nil_of_length_eq_zero (by simpa using hn)
      subst hcs
      have hl : ∀ (x : Addr), (loadCells x 0).run P w = .ok #[] w := fun x => by simpa using run_loadCells_list (P := P) w x [] (by simp)
      have hst0 : (storeCells ⟨g, 0, none⟩ []).run P w = .ok () (w.setRow g #[]) := by simpa using hst
      cases A <;> simp [Builtin.copy_, run_underlying hu, Builtin.lenOf, Builtin.firstCells, sizeOf, typeInfo, hq, hl, hst0]
    · obtain ⟨a, rfl, hc⟩ := hsrc h0
      have hl := run_loadCells_list (P := P) w a cs hc
      rw [hn] at hl
      simp [Builtin.copy_, run_underlying hu, Builtin.lenOf, Builtin.firstCells, sizeOf, typeInfo, hq, hi, hl, hst]
theorem wpList_copy_wide {ops : Array Oper} {rest : List Oper} {o : Oper} {a : Act} {Q : Exit → Act → World → Prop} {w w' : World} {v : Value} (hgd : o.guard = none) (d s : Operand) (dT sT : TypeId)
    (ho : o.op = .call { callee := .builtin .copy, args := #[d, s], argTypes := #[dT, sT] }) {dv sv : Value} (hd : a.eval d = dv) (hs : a.eval s = sv) (hrun : ∀ ty, (Builtin.copy_ #[dT, sT] ty #[dv, sv]).run P w = .ok v w')
    (h : wpList P ops Q rest (a.put o.dst v) w') : wpList P ops Q (o :: rest) a w := by
  refine wpList_plain hgd fun K hK => ?_
  unfold Oper.wp
  simp [execOp, ho, resolve, invoke, builtin, hd, hs, hrun, Result.andThen]
  exact hK _ _ h
theorem wpList_make_wide {ops : Array Oper} {rest : List Oper} {o : Oper} {a : Act} {Q : Exit → Act → World → Prop} {w w' : World} {v : Value} (hgd : o.guard = none) (t : TypeId) (x y : Operand)
    (ho : o.op = .makeSlice t x y) {u z : Value} (hx : a.eval x = u) (hy : a.eval y = z) (hrun : (Instr.makeSlice t u z).run P w = .ok v w')
    (h : wpList P ops Q rest (a.put o.dst v) w') : wpList P ops Q (o :: rest) a w := by
  refine wpList_plain hgd fun K hK => ?_
  unfold Oper.wp
  simp only [execOp, ho, hx, hy, Sem.run_bind, hrun, Sem.run_pure, Result.andThen_ok]
  exact hK _ _ h
end
theorem evs_one (l : List Ev) : ∀ v ∈ evs l, v.oneCell' = true := by
  intro v hv
  obtain ⟨i, hi⟩ := List.getElem?_of_mem hv
  have hlen := evs_length l
  have hil : i < l.length * 19 := by rw [← hlen]; exact (List.getElem?_eq_some_iff.1 hi).1
  have h1 := evs_at l (i / 19) (i % 19) (Nat.div_lt_of_lt_mul (by omega)) (Nat.mod_lt _ (by decide))
  rw [show i / 19 * 19 + i % 19 = i by omega, hi] at h1
  have : v ∈ (l[i / 19]'(Nat.div_lt_of_lt_mul (by omega))).cells := List.mem_of_getElem? h1.symm
  exact ev_one _ v this
def SaysTrue (w : World) : Ending → World → Prop := fun r w' => r = .returned (.bool true) ∧ Below w.heap.size w w'
theorem setRow_blk {w : World} {g : Nat} {t : TypeId} {cs cs' : Array Value} (h : Blk w g t cs) : Blk (w.setRow g cs') g t cs' := by
  unfold Blk at *
  have hlt : g < w.heap.size := by
    rcases Nat.lt_or_ge g w.heap.size with hh | hh
    · exact hh
    · rw [Array.getElem?_eq_none hh] at h; cases h
  show (w.heap.modify g _)[g]? = _
  rw [Array.getElem?_modify, if_pos rfl, h]
  rfl
theorem below_row {B g : Nat} {w0 w : World} (hb : Below B w0 w) (hBg : B ≤ g) (cs : Array Value) : Below B w0 (w.setRow g cs) :=
  hb.trans ⟨rfl, rfl, rfl, by simp [World.setRow], fun k hk => setRow_other w g k cs (by omega)⟩
theorem reads_blk {w : World} {g n : Nat} {l : List Ev} (h : Blk w g 35 (evs l).toArray) (hl : l.length = n) : Reads w w.heap.size 19 (some ⟨g, 0, none⟩) n (evs l) := by
  refine ⟨by rw [evs_length, hl], fun _ => ⟨_, rfl, h.lt, fun j u hu => ?_⟩⟩
  rw [Addr.add_mid, Nat.zero_add, h.cell j]
  simpa using hu
theorem may_split (l : List Ev) : (∀ i (hi : i < l.length), mayF l i l[i] = true) ∨ ∃ q, ∃ hq : q < l.length, (∀ i (hi : i < l.length), i < q → mayF l i l[i] = true) ∧ mayF l q l[q] = false := by
  have key : ∀ m, m ≤ l.length → (∀ i (hi : i < l.length), i < m → mayF l i l[i] = true) ∨ ∃ q, ∃ hq : q < l.length, (∀ i (hi : i < l.length), i < q → mayF l i l[i] = true) ∧ mayF l q l[q] = false := by
    intro m
    induction m with
    | zero => exact fun _ => .inl fun i _ h => absurd h (by omega)
    | succ m ih =>
      intro hm
      rcases ih (by omega) with h | h
      · cases hb : mayF l m (l[m]'(by omega)) with
        | true =>
          refine .inl fun i hi him => ?_
          rcases Nat.lt_or_ge i m with h1 | h1
          · exact h i hi h1
          · have : i = m := by omega
            subst this
            exact hb
        | false => exact .inr ⟨m, by omega, h, hb⟩
      · exact .inr h
  rcases key l.length (Nat.le_refl _) with h | h
  · exact .inl fun i hi => h i hi hi
  · exact .inr h
structure TwoE (a b o p : Nat) (e : Ev) (w : World) : Prop where
  x : w.rangeAt a o (evcs e).toList
  y : w.rangeAt b p (evcs e).toList
theorem ev_load_at {q o : Nat} {e : Ev} {w' : World} (h : w'.rangeAt q o (evcs e).toList) : (loadVar 35 ⟨q, o, none⟩).run Tryd.prog w' = .ok (.agg (evcs e)) w' := by
  have := run_loadVar_mid (P := Tryd.prog) w' q o 35 (evcs e).toList _ h Tryd.underlying35 (by rfl) (by kernel_rfl)
  simpa using this
end Go.Proofs.YtffjcojehiblnaaDoor
