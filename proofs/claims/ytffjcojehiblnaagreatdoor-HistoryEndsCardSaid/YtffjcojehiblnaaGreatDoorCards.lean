/-
  DERIVED. GIVEN WITH THE SEED: THE CARDS: each row of YtffjcojehiblnaaGreatDoorRows.lean that lists a variable, with what it lists TIED to the program's text (the seventh form; the later family's looks); each row that meets fmt, with fmt's text TOLD by the authors' own Lean function (tested against real Go, not proved from fmt's source: count such statements apart). THE CARD IS WHAT COUNTS. Prove the row's statement (the work); the ties are given (YtffjcojehiblnaaGreatDoorTie.lean); close each card by the builder's one call (the guide's Derived/Test/ToyasCard.lean, 'card_holds'). Laid BY PROGRAM, IN A SANDBOX (cutbox-door.mjs). By AI agents, Wed Nov 11 2026. No macro, syntax, notation, axiom, sorry.
-/
import Derived.Test.YtffjcojehiblnaaGreatDoorRows
import GoSem.ClaimSeven
namespace Go.Proofs.YtffjcojehiblnaaGreatDoor
namespace Rows

/-- THE TIED CARD OF 'carousellaw23.HistoryOrders'. -/
def historyOrdersCard : Claim7 := { stood := { row := historyOrdersRow, standIns := [], harness := (true, "06f883db52394a3574326fa438c4ebff54d05d2309f4965430dc575f290d2356"), looks := true }, kinds := [], alts := [], laidByText := true, laidKinds := [.handle, .sentinel], laidTests := true, laidLooks := .later }
def HistoryOrdersCardSaid : Prop := Claim7.holds Tryz.pinned (.plain (OpenSpec.ofChange historyOrdersSpec)) historyOrdersCard

/-- THE TIED CARD OF 'carousellaw23.HistoryEnds'. -/
def historyEndsCard : Claim7 := { stood := { row := historyEndsRow, standIns := [], harness := (true, "06f883db52394a3574326fa438c4ebff54d05d2309f4965430dc575f290d2356"), looks := true }, kinds := [], alts := [], laidByText := true, laidKinds := [.handle, .sentinel], laidTests := true, laidLooks := .later }
def HistoryEndsCardSaid : Prop := Claim7.holds Tryz.pinned (.plain (OpenSpec.ofChange historyEndsSpec)) historyEndsCard

/-- THE SECOND FORM's CARD OF 'carousellaw23.HistoryOrders'. -/
def historyOrdersUptoCard : Claim7 := { stood := { row := historyOrdersUptoRow, standIns := [], harness := (true, "06f883db52394a3574326fa438c4ebff54d05d2309f4965430dc575f290d2356"), looks := true }, kinds := [], alts := [], laidByText := true, laidKinds := [.handle, .sentinel], laidTests := true, laidLooks := .later }
def HistoryOrdersUptoCardSaid : Prop := Claim7.holds Tryz.pinned (.plain (OpenSpec.upto historyOrdersSpec)) historyOrdersUptoCard

/-- THE SECOND FORM's CARD OF 'carousellaw23.HistoryEnds'. -/
def historyEndsUptoCard : Claim7 := { stood := { row := historyEndsUptoRow, standIns := [], harness := (true, "06f883db52394a3574326fa438c4ebff54d05d2309f4965430dc575f290d2356"), looks := true }, kinds := [], alts := [], laidByText := true, laidKinds := [.handle, .sentinel], laidTests := true, laidLooks := .later }
def HistoryEndsUptoCardSaid : Prop := Claim7.holds Tryz.pinned (.plain (OpenSpec.upto historyEndsSpec)) historyEndsUptoCard
end Rows
end Go.Proofs.YtffjcojehiblnaaGreatDoor
