/-
  DERIVED. GIVEN WITH THE SEED: THE CARDS: each row of YtffjcojehiblnaaDoorRows.lean that lists a variable, with what it lists TIED to the program's text (the seventh form; the later family's looks); each row that meets fmt, with fmt's text TOLD by the authors' own Lean function (tested against real Go, not proved from fmt's source: count such statements apart). THE CARD IS WHAT COUNTS. Prove the row's statement (the work); the ties are given (YtffjcojehiblnaaDoorTie.lean); close each card by the builder's one call (the guide's Derived/Test/ToyasCard.lean, 'card_holds'). Laid BY PROGRAM, IN A SANDBOX (cutbox-door.mjs). By AI agents, Wed Nov 11 2026. No macro, syntax, notation, axiom, sorry.
-/
import Derived.Test.YtffjcojehiblnaaDoorRows
import GoSem.ClaimSeven
namespace Go.Proofs.YtffjcojehiblnaaDoor
namespace Rows

/-- THE TIED CARD OF 'carousellaw23.HistoryTxs'. -/
def historyTxsCard : Claim7 := { stood := { row := historyTxsRow, standIns := [], harness := (true, "19b15a0a5437a867df120244dac25883d023c0a62dc689e8fd7a9111acb21559"), looks := true }, kinds := [], alts := [], laidByText := true, laidKinds := [.handle, .sentinel], laidTests := true, laidLooks := .later }
def HistoryTxsCardSaid : Prop := Claim7.holds Tryd.pinned (.plain (OpenSpec.ofChange historyTxsSpec)) historyTxsCard

/-- THE TIED CARD OF 'carousellaw23.HistorySteps'. -/
def historyStepsCard : Claim7 := { stood := { row := historyStepsRow, standIns := [], harness := (true, "19b15a0a5437a867df120244dac25883d023c0a62dc689e8fd7a9111acb21559"), looks := true }, kinds := [], alts := [], laidByText := true, laidKinds := [.handle, .sentinel], laidTests := true, laidLooks := .later }
def HistoryStepsCardSaid : Prop := Claim7.holds Tryd.pinned (.plain (OpenSpec.ofChange historyStepsSpec)) historyStepsCard

/-- THE SECOND FORM's CARD OF 'carousellaw23.HistoryTxs'. -/
def historyTxsUptoCard : Claim7 := { stood := { row := historyTxsUptoRow, standIns := [], harness := (true, "19b15a0a5437a867df120244dac25883d023c0a62dc689e8fd7a9111acb21559"), looks := true }, kinds := [], alts := [], laidByText := true, laidKinds := [.handle, .sentinel], laidTests := true, laidLooks := .later }
def HistoryTxsUptoCardSaid : Prop := Claim7.holds Tryd.pinned (.plain (OpenSpec.upto historyTxsSpec)) historyTxsUptoCard

/-- THE SECOND FORM's CARD OF 'carousellaw23.HistorySteps'. -/
def historyStepsUptoCard : Claim7 := { stood := { row := historyStepsUptoRow, standIns := [], harness := (true, "19b15a0a5437a867df120244dac25883d023c0a62dc689e8fd7a9111acb21559"), looks := true }, kinds := [], alts := [], laidByText := true, laidKinds := [.handle, .sentinel], laidTests := true, laidLooks := .later }
def HistoryStepsUptoCardSaid : Prop := Claim7.holds Tryd.pinned (.plain (OpenSpec.upto historyStepsSpec)) historyStepsUptoCard
end Rows
end Go.Proofs.YtffjcojehiblnaaDoor
