/-
  NARROWER THAN 'FOR EVERY INPUT', by the rows' own cells (each row's printed sentence says how): HistoryOrders: laid · HistoryEnds: laid.
  DERIVED. THE GIVEN ROWS OF THIS SEAT. 2 by the template 'for every input the law returns true; each argument reads behind the call as it read before'; 0 by the template 'total and deterministic' (their statements: YtffjcojehiblnaaGreatDoorTotals.lean).
  GIVEN WITH THE SEED: the statements are not yours to turn. If you find one false, say at which input.
  Laid BY PROGRAM, IN A SANDBOX (cutbox-rows.mjs): the forced cells as the released guide's own fill.sh prints them over the translation 4cb496386cfdc42f… (all of the seat's roots in one cut). By AI agents, Wed Nov 11 2026. No macro, syntax, notation, axiom, sorry.
-/
import Derived.Test.YtffjcojehiblnaaGreatDoorChecked
import GoSem.Claim
import GoSem.ClaimJoined
import GoSem.ClaimMapViews
import Derived.JoinedTies
import Derived.KernelRfl
namespace Go.Proofs.YtffjcojehiblnaaGreatDoor
/- THE CELL 'sum', in the pinned program and in every row, IS THE sha256 OF THE DUMP (.gsa) THAT YtffjcojehiblnaaGreatDoorProg.lean LOADS. Nothing in Lean hashes anything: it is a label: what it is worth is what the hold of that sum in a sandbox is worth. -/
noncomputable def Tryz.pinned : Pinned := { name := "ytffjcojehiblnaagreatdoor", sum := "4cb496386cfdc42fbdef26c28657e9fb3646bc3e005b38396b5ce2ab9c17e00a", checked := Tryz.checked }
namespace Rows
def none {H : Type} : Left H := { results := [], args := [] }

/- WHAT THE LISTED PACKAGE-LEVEL VARIABLES READ AS WHEN THE CALL BEGINS. Each datum BY PROGRAM (the guide's laid-datum.mjs) off the statement by which the dump's own 'gosem.cut.vars' lays the variable. In a bare row this is a premise. The card (YtffjcojehiblnaaGreatDoorCards.lean) ties it to the program's text. -/
def laid_errors_errorType {H : Type} : DataW H := .iface "internal/reflectlite.rtype" (.agg [.ptr (.lit (.string [101, 114, 114, 111, 114]))])
def laid_carousel_history_errEvent {H : Type} : DataW H := .iface "*errors.errorString" (.ptr (.agg [.lit (.string [104, 105, 115, 116, 111, 114, 121, 58, 32, 97, 110, 32, 101, 118, 101, 110, 116, 32, 116, 104, 97, 116, 32, 109, 97, 121, 32, 110, 111, 116, 32, 99, 111, 109, 101])]))

/-- 'carousellaw23.HistoryOrders': WHATEVER THE INPUT: true; the input reads as it did. -/
def historyOrdersSpec : ChangeSpec := { name := "historyOrders", fn := fun _ => fun
  | [d] => { results := [.lit (.bool true)], args := [d] }
  | _ => none }
def historyOrdersRow : OpenClaim := { program := "ytffjcojehiblnaagreatdoor", sum := "4cb496386cfdc42fbdef26c28657e9fb3646bc3e005b38396b5ce2ab9c17e00a", func := "carousel/carousellaw23.HistoryOrders", spec := "historyOrders", inPlace := ["internal/reflectlite.TypeOf", "internal/reflectlite.ValueOf", "(internal/reflectlite.Value).Type", "(internal/reflectlite.Value).IsNil", "(internal/reflectlite.Value).Elem", "(internal/reflectlite.Value).Set"], unfollowed := true, recurses := true, named := ["carousel/history.errEvent", "errors.errorType"], apart := false, laid := [("errors.errorType", laid_errors_errorType), ("carousel/history.errEvent", laid_carousel_history_errEvent)] }
def HistoryOrdersSaid : Prop := historyOrdersRow.holds Tryz.pinned (OpenSpec.ofChange historyOrdersSpec)

/-- ITS FALSE NEIGHBOUR: 'it returns false'. Refute it at one input. -/
def historyOrdersWrong : ChangeSpec := { name := "historyOrders", fn := fun _ => fun
  | [d] => { results := [.lit (.bool false)], args := [d] }
  | _ => none }
def HistoryOrdersWrongFalsely : Prop := historyOrdersRow.holds Tryz.pinned (OpenSpec.ofChange historyOrdersWrong)

/-- 'carousellaw23.HistoryEnds': WHATEVER THE INPUT: true; the input reads as it did. -/
def historyEndsSpec : ChangeSpec := { name := "historyEnds", fn := fun _ => fun
  | [d1, d2] => { results := [.lit (.bool true)], args := [d1, d2] }
  | _ => none }
def historyEndsRow : OpenClaim := { program := "ytffjcojehiblnaagreatdoor", sum := "4cb496386cfdc42fbdef26c28657e9fb3646bc3e005b38396b5ce2ab9c17e00a", func := "carousel/carousellaw23.HistoryEnds", spec := "historyEnds", inPlace := ["internal/reflectlite.TypeOf", "internal/reflectlite.ValueOf", "(internal/reflectlite.Value).Type", "(internal/reflectlite.Value).IsNil", "(internal/reflectlite.Value).Elem", "(internal/reflectlite.Value).Set"], unfollowed := true, recurses := true, named := ["carousel/history.errEvent", "errors.errorType"], apart := false, laid := [("errors.errorType", laid_errors_errorType), ("carousel/history.errEvent", laid_carousel_history_errEvent)] }
def HistoryEndsSaid : Prop := historyEndsRow.holds Tryz.pinned (OpenSpec.ofChange historyEndsSpec)

/-- ITS FALSE NEIGHBOUR: 'it returns false'. Refute it at one input. -/
def historyEndsWrong : ChangeSpec := { name := "historyEnds", fn := fun _ => fun
  | [d1, d2] => { results := [.lit (.bool false)], args := [d1, d2] }
  | _ => none }
def HistoryEndsWrongFalsely : Prop := historyEndsRow.holds Tryz.pinned (OpenSpec.ofChange historyEndsWrong)

/- THE SECOND FORM. 'bulk': how many values and letters a reading holds, each counted each time it is reached (what is shared counts as often as it is met; a slice's spare places count too). A statement '..UptoSaid' is the law's where the arguments, and the package variables that the reading takes, are together of bulk at most 1048576: NARROWER than '..Said'. Prove '..Said' where nothing that the law and all that it calls make is longer than what came in: it says more and counts as full. Else prove '..UptoSaid'. A law counts once. -/
mutual
def uptoBulk {H : Type} : DataW H → Nat
  | .lit (.string bytes) => bytes.length + 1
  | .lit _ => 1
  | .nil => 1
  | .ptr d => uptoBulk d + 1
  | .slice elems spare => uptoBulkAll elems + uptoBulkAll spare + 1
  | .agg parts => uptoBulkAll parts + 1
  | .iface _ d => uptoBulk d + 1
  | .map entries => uptoBulkEntries entries + 1
  | .held _ => 1
def uptoBulkAll {H : Type} : List (DataW H) → Nat
  | [] => 0
  | d :: r => uptoBulk d + uptoBulkAll r
def uptoBulkEntries {H : Type} : List (Lit × DataW H) → Nat
  | [] => 0
  | x :: r => uptoBulkEntry x + uptoBulkEntries r
def uptoBulkEntry {H : Type} : Lit × DataW H → Nat
  | (.string bytes, d) => bytes.length + uptoBulk d + 1
  | (_, d) => uptoBulk d + 1
 end
def uptoSmall : (H : Type) → List (DataW H) → Bool := fun _ ds => decide (uptoBulkAll ds ≤ 1048576)
def OpenSpec.upto (s : _root_.Go.ChangeSpec) : _root_.Go.OpenSpec := { _root_.Go.OpenSpec.ofChange s with cond := some uptoSmall }

/-- 'carousellaw23.HistoryOrders', WHERE WHAT IT READS IS OF BULK AT MOST 1048576: true; the input reads as it did. -/
def historyOrdersUptoRow : OpenClaim := { program := "ytffjcojehiblnaagreatdoor", sum := "4cb496386cfdc42fbdef26c28657e9fb3646bc3e005b38396b5ce2ab9c17e00a", func := "carousel/carousellaw23.HistoryOrders", spec := "historyOrders", inPlace := ["internal/reflectlite.TypeOf", "internal/reflectlite.ValueOf", "(internal/reflectlite.Value).Type", "(internal/reflectlite.Value).IsNil", "(internal/reflectlite.Value).Elem", "(internal/reflectlite.Value).Set"], unfollowed := true, recurses := true, named := ["carousel/history.errEvent", "errors.errorType"], apart := false, laid := [("errors.errorType", laid_errors_errorType), ("carousel/history.errEvent", laid_carousel_history_errEvent)], narrowed := true }
def HistoryOrdersUptoSaid : Prop := historyOrdersUptoRow.holds Tryz.pinned (OpenSpec.upto historyOrdersSpec)

/-- 'carousellaw23.HistoryEnds', WHERE WHAT IT READS IS OF BULK AT MOST 1048576: true; the input reads as it did. -/
def historyEndsUptoRow : OpenClaim := { program := "ytffjcojehiblnaagreatdoor", sum := "4cb496386cfdc42fbdef26c28657e9fb3646bc3e005b38396b5ce2ab9c17e00a", func := "carousel/carousellaw23.HistoryEnds", spec := "historyEnds", inPlace := ["internal/reflectlite.TypeOf", "internal/reflectlite.ValueOf", "(internal/reflectlite.Value).Type", "(internal/reflectlite.Value).IsNil", "(internal/reflectlite.Value).Elem", "(internal/reflectlite.Value).Set"], unfollowed := true, recurses := true, named := ["carousel/history.errEvent", "errors.errorType"], apart := false, laid := [("errors.errorType", laid_errors_errorType), ("carousel/history.errEvent", laid_carousel_history_errEvent)], narrowed := true }
def HistoryEndsUptoSaid : Prop := historyEndsUptoRow.holds Tryz.pinned (OpenSpec.upto historyEndsSpec)

end Rows
end Go.Proofs.YtffjcojehiblnaaGreatDoor
