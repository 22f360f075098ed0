/- What the rows' condition on the variables gives, and a world that meets it. -/
import Derived.Test.YtffjcojehiblnaaGreatDoorPg
import Derived.Test.YtffjcojehiblnaaGreatDoorTie
import Derived.ChangeSame
import Derived.ChangeVars
import Derived.JoinedOf
import Derived.RowKit
import Derived.RowKitTokens
import Derived.LaidLaws
import Derived.LaidSub
import Derived.LaidHandle
import Derived.Stop.Joined
import Derived.Stop.LaidErr
import Derived.Stop.Texts
import Derived.SevenTiedAt
namespace Go.Proofs.YtffjcojehiblnaaGreatDoor
open Go.ChangeShapes Go.WideShapes Go.RowKit
set_option linter.unusedVariables false
set_option linter.unusedSimpArgs false
set_option maxRecDepth 100000

abbrev laidL : List (String × DataW Unit) := [("errors.errorType", Rows.laid_errors_errorType), ("carousel/history.errEvent", Rows.laid_carousel_history_errEvent)]
theorem et_ : Tryz.prog.globalNamed "errors.errorType" = some 1 := by kernel_rfl
theorem ev_ : Tryz.prog.globalNamed "carousel/history.errEvent" = some 0 := by kernel_rfl
theorem evType : (Tryz.prog.globals[0]?).map (·.type) = some 53 := by kernel_rfl
theorem rt_ : (Tryz.prog.cutTypes.find? (·.1 == "internal/reflectlite.rtype")).map (·.2) = some 129 := by kernel_rfl
theorem oneRow : ((List.range Tryz.prog.types.size).filter fun t => Tryz.prog.rowNamed t [101, 114, 114, 111, 114]) = [53] := by kernel_rfl
theorem star_ : "*" ++ "errors.errorString" = "*errors.errorString" := by decide
theorem ptrRow (u : TypeId) (h : Tryz.prog.typeName? 3 u = some "*errors.errorString") : u = 165 :=
  typeName_ptr_named (nm := "errors.errorString") (by rw [star_]; kernel_rfl) (by kernel_rfl) (by decide) u (by rw [star_]; exact h)
theorem cellsE : Tryz.prog.cellsOf 186 = 1 := by kernel_rfl
theorem cellsS : Tryz.prog.cellsOf 9 = 1 := by kernel_rfl

/-- What the condition gives a walk: the two variables. -/
theorem laid_at {W : World} (h : laidMetH Tryz.prog laidL W) : ∃ p, LaidAt W p := by
  have h' : laidMet Tryz.prog [("carousel/history.errEvent", Rows.laid_carousel_history_errEvent)] W ∧ handlesMet Tryz.prog [("errors.errorType", Rows.laid_errors_errorType)] W := h
  obtain ⟨name, u, ty, e1, e2, e3, e4, e5⟩ := h'.2 _ (List.mem_singleton.2 rfl)
  have en : name = [101, 114, 114, 111, 114] := (Option.some.inj e1).symm
  subst en
  obtain rfl := Option.some.inj (rt_.symm.trans e2)
  have hm : ty ∈ (List.range Tryz.prog.types.size).filter fun t => Tryz.prog.rowNamed t [101, 114, 114, 111, 114] := List.mem_filter.2 ⟨List.mem_range.2 e3, e4⟩
  rw [oneRow] at hm
  obtain rfl := List.mem_singleton.1 hm
  have hh : typeHandle Tryz.prog 53 = .pointer (some ⟨2, 53, none⟩) := by kernel_rfl
  rw [hh] at e5
  obtain ⟨a, s, hv, _⟩ := laid_sentinel h'.1 ev_ evType Tryz.underlying53 ptrRow Tryz.underlying165 Tryz.underlying186 rfl rfl Tryz.underlying9 cellsE cellsS
  exact ⟨a, by simpa using World.var?_cell ev_ hv 0, by simpa [errT] using World.var?_cell et_ e5 0⟩

abbrev evS : ByteArray := { data := #[104, 105, 115, 116, 111, 114, 121, 58, 32, 97, 110, 32, 101, 118, 101, 110, 116, 32, 116, 104, 97, 116, 32, 109, 97, 121, 32, 110, 111, 116, 32, 99, 111, 109, 101] }
noncomputable def low : Nat := (World.holding Tryz.prog default ⟨#[], #[], []⟩).heap.size
/-- A world that meets the condition. -/
noncomputable def laidWorld (os : Os) : World :=
  let w0 := World.holding Tryz.prog os ⟨#[.cells #[.string evS] 186], #[], []⟩
  { w0 with heap := (w0.heap.modify 0 fun
      | .cells _ t frozen => .cells #[.iface 165 (.pointer (some ⟨low, 0, none⟩))] t frozen
      | o => o).modify 1 fun
      | .cells _ t frozen => .cells #[.iface 129 (.agg #[.pointer (some ⟨2, 53, none⟩)])] t frozen
      | o => o }
theorem laidWorld_met (os : Os) (args : Array Value) : laidMetH Tryz.prog laidL ((laidWorld os).forCall (fun _ _ => 0) ⟨#[], args, []⟩).memory :=
  laidMetH_of_parts (laidMet_of_run (ps := [.cell 0 0, .cell low 0]) 8 (by kernel_rfl) (by kernel_rfl) (by kernel_rfl)) (by kernel_rfl)
end Go.Proofs.YtffjcojehiblnaaGreatDoor
