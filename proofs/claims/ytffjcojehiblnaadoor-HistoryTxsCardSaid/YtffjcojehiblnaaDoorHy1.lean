/- The law's txs, at two equal lists. -/
import Derived.Test.YtffjcojehiblnaaDoorHy
namespace Go.Proofs.YtffjcojehiblnaaDoor
open Go.RowKit Go.Joins Go.ChangeShapes Go.WideShapes Go.Deep
set_option linter.unusedVariables false
set_option linter.unusedSimpArgs false
set_option maxRecDepth 100000

section
variable {P : Program} {ops : Array Oper} {S : World → Prop}
theorem yi_index {o : Oper} {a : Act} {u z v : Value} (hg : o.guard = none) (t : TypeId) (x i : Operand) (ho : o.op = .indexAddr t x i) (hx : a.eval x = u) (hi : a.eval i = z) (hv : ∀ w, (Instr.indexAt t u z).run P w = .ok v w) : YieldsIf P ops S o v a :=
  yi_of hg fun w _ => by simp only [execOp, ho, hx, hi, Sem.run_bind, hv w, Sem.run_pure, Result.andThen_ok]
theorem yi_neq {o : Oper} {a : Act} {u z v : Value} {t rt : TypeId} (hg : o.guard = none) (x y : Operand) (ho : o.op = .binOp .neq t x y rt) (hx : a.eval x = u) (hy : a.eval y = z) (hgd : ∀ w, (eqGuard .neq t x y u z).run P w = .ok () w) (hv : ∀ w, (binOp .neq t u z).run P w = .ok v w) : YieldsIf P ops S o v a :=
  yi_of hg fun w _ => by simp only [execOp, ho, hx, hy, Sem.run_bind, hgd w, hv w, Sem.run_pure, Result.andThen_ok]
end
theorem txz_at {w : World} {b off k : Nat} {zs : List TxZ} (hc : ∀ j u, (txzs zs)[j]? = some u → w.cell? ⟨b, off + j, none⟩ = some u) (hk : k < zs.length) : w.rangeAt b (off + k * 6) zs[k].cells := fun j v hv => by
  have hj : j < 6 := (List.getElem?_eq_some_iff.1 hv).1
  have h1 := rows_at TxZ.cells 6 (fun _ => rfl) zs k j hk hj
  have := hc (k * 6 + j) v (by rw [show txzs zs = rows TxZ.cells zs from rfl, h1]; exact hv)
  rwa [← Nat.add_assoc] at this
structure TwoS (a b : Nat) (o p : Nat) (xs ys : List Value) (w : World) : Prop where
  x : w.rangeAt a o xs
  y : w.rangeAt b p ys
theorem txz_load {q o : Nat} {z : TxZ} {w' : World} (h : w'.rangeAt q o z.cells) : (loadVar 42 ⟨q, o, none⟩).run Tryd.prog w' = .ok (.agg z.cells.toArray) w' :=
  run_loadVar_mid (P := Tryd.prog) w' q o 42 z.cells _ h Tryd.underlying42 (by rfl) (by kernel_rfl)
end Go.Proofs.YtffjcojehiblnaaDoor
