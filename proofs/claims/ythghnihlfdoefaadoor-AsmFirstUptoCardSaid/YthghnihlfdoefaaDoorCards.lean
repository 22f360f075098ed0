/-
  DERIVED. GIVEN WITH THE SEED: THE CARDS: each row of YthghnihlfdoefaaDoorRows.lean that lists a variable, with what it lists TIED to the program's text (the seventh form; the later family's looks); each row that meets fmt, with fmt's text TOLD by the authors' own Lean function (tested against real Go, not proved from fmt's source: count such statements apart). THE CARD IS WHAT COUNTS. Prove the row's statement (the work); the ties are given (YthghnihlfdoefaaDoorTie.lean); close each card by the builder's one call (the guide's Derived/Test/ToyasCard.lean, 'card_holds'). Laid BY PROGRAM, IN A SANDBOX (cutbox-door.mjs). By AI agents, Wed Nov 11 2026. No macro, syntax, notation, axiom, sorry.
-/
import Derived.Test.YthghnihlfdoefaaDoorRows
import GoSem.ClaimSeven
namespace Go.Proofs.YthghnihlfdoefaaDoor
namespace Rows

/-- THE TIED CARD OF 'carousellaw14.AsmPrints'. -/
def asmPrintsCard : Claim7 := { stood := { row := asmPrintsRow, standIns := [], harness := (true, "3df8cd9099af487b90738174e305c9dd5e621d81a6edc4b6e715c97f70007384"), looks := true }, kinds := [], alts := [], laidByText := true, laidKinds := [.data, .data, .data, .data, .listed, .data], laidTests := true, laidLooks := .later }
def AsmPrintsCardSaid : Prop := Claim7.holds Tryd.pinned (.plain (OpenSpec.ofChange asmPrintsSpec)) asmPrintsCard

/-- THE TIED CARD OF 'carousellaw14.AsmParses'. -/
def asmParsesCard : Claim7 := { stood := { row := asmParsesRow, standIns := [], harness := (true, "3df8cd9099af487b90738174e305c9dd5e621d81a6edc4b6e715c97f70007384"), looks := true }, kinds := [], alts := [], laidByText := true, laidKinds := [.data, .data, .data, .data, .data, .sentinel, .sentinel, .listed, .data, .pinned], laidTests := true, laidLooks := .later }
def AsmParsesCardSaid : Prop := Claim7.holds Tryd.pinned (.plain (OpenSpec.ofChange asmParsesSpec)) asmParsesCard

/-- THE TIED CARD OF 'carousellaw14.AsmGaps'. -/
def asmGapsCard : Claim7 := { stood := { row := asmGapsRow, standIns := [], harness := (true, "3df8cd9099af487b90738174e305c9dd5e621d81a6edc4b6e715c97f70007384"), looks := true }, kinds := [], alts := [], laidByText := true, laidKinds := [.data, .data, .data, .data, .data, .sentinel, .sentinel, .listed, .data, .pinned], laidTests := true, laidLooks := .later }
def AsmGapsCardSaid : Prop := Claim7.holds Tryd.pinned (.plain (OpenSpec.ofChange asmGapsSpec)) asmGapsCard

/-- THE TIED CARD OF 'carousellaw14.AsmFirst'. -/
def asmFirstCard : Claim7 := { stood := { row := asmFirstRow, standIns := [], harness := (true, "3df8cd9099af487b90738174e305c9dd5e621d81a6edc4b6e715c97f70007384"), looks := true }, kinds := [], alts := [], laidByText := true, laidKinds := [.data, .data, .data, .data, .data, .sentinel, .sentinel, .listed, .data, .pinned], laidTests := true, laidLooks := .later }
def AsmFirstCardSaid : Prop := Claim7.holds Tryd.pinned (.plain (OpenSpec.ofChange asmFirstSpec)) asmFirstCard

/-- THE TIED CARD OF 'carousellaw14.AsmBack'. -/
def asmBackCard : Claim7 := { stood := { row := asmBackRow, standIns := [], harness := (true, "3df8cd9099af487b90738174e305c9dd5e621d81a6edc4b6e715c97f70007384"), looks := true }, kinds := [], alts := [], laidByText := true, laidKinds := [.data, .data, .data, .data, .data, .sentinel, .sentinel, .listed, .data, .pinned], laidTests := true, laidLooks := .later }
def AsmBackCardSaid : Prop := Claim7.holds Tryd.pinned (.plain (OpenSpec.ofChange asmBackSpec)) asmBackCard

/-- THE TIED CARD OF 'carousellaw14.AsmOnce'. -/
def asmOnceCard : Claim7 := { stood := { row := asmOnceRow, standIns := [], harness := (true, "3df8cd9099af487b90738174e305c9dd5e621d81a6edc4b6e715c97f70007384"), looks := true }, kinds := [], alts := [], laidByText := true, laidKinds := [.data, .data, .data, .data, .data, .sentinel, .sentinel, .listed, .data, .pinned], laidTests := true, laidLooks := .later }
def AsmOnceCardSaid : Prop := Claim7.holds Tryd.pinned (.plain (OpenSpec.ofChange asmOnceSpec)) asmOnceCard

/-- THE SECOND FORM's CARD OF 'carousellaw14.AsmPrints'. -/
def asmPrintsUptoCard : Claim7 := { stood := { row := asmPrintsUptoRow, standIns := [], harness := (true, "3df8cd9099af487b90738174e305c9dd5e621d81a6edc4b6e715c97f70007384"), looks := true }, kinds := [], alts := [], laidByText := true, laidKinds := [.data, .data, .data, .data, .listed, .data], laidTests := true, laidLooks := .later }
def AsmPrintsUptoCardSaid : Prop := Claim7.holds Tryd.pinned (.plain (OpenSpec.upto asmPrintsSpec)) asmPrintsUptoCard

/-- THE SECOND FORM's CARD OF 'carousellaw14.AsmParses'. -/
def asmParsesUptoCard : Claim7 := { stood := { row := asmParsesUptoRow, standIns := [], harness := (true, "3df8cd9099af487b90738174e305c9dd5e621d81a6edc4b6e715c97f70007384"), looks := true }, kinds := [], alts := [], laidByText := true, laidKinds := [.data, .data, .data, .data, .data, .sentinel, .sentinel, .listed, .data, .pinned], laidTests := true, laidLooks := .later }
def AsmParsesUptoCardSaid : Prop := Claim7.holds Tryd.pinned (.plain (OpenSpec.upto asmParsesSpec)) asmParsesUptoCard

/-- THE SECOND FORM's CARD OF 'carousellaw14.AsmGaps'. -/
def asmGapsUptoCard : Claim7 := { stood := { row := asmGapsUptoRow, standIns := [], harness := (true, "3df8cd9099af487b90738174e305c9dd5e621d81a6edc4b6e715c97f70007384"), looks := true }, kinds := [], alts := [], laidByText := true, laidKinds := [.data, .data, .data, .data, .data, .sentinel, .sentinel, .listed, .data, .pinned], laidTests := true, laidLooks := .later }
def AsmGapsUptoCardSaid : Prop := Claim7.holds Tryd.pinned (.plain (OpenSpec.upto asmGapsSpec)) asmGapsUptoCard

/-- THE SECOND FORM's CARD OF 'carousellaw14.AsmFirst'. -/
def asmFirstUptoCard : Claim7 := { stood := { row := asmFirstUptoRow, standIns := [], harness := (true, "3df8cd9099af487b90738174e305c9dd5e621d81a6edc4b6e715c97f70007384"), looks := true }, kinds := [], alts := [], laidByText := true, laidKinds := [.data, .data, .data, .data, .data, .sentinel, .sentinel, .listed, .data, .pinned], laidTests := true, laidLooks := .later }
def AsmFirstUptoCardSaid : Prop := Claim7.holds Tryd.pinned (.plain (OpenSpec.upto asmFirstSpec)) asmFirstUptoCard

/-- THE SECOND FORM's CARD OF 'carousellaw14.AsmBack'. -/
def asmBackUptoCard : Claim7 := { stood := { row := asmBackUptoRow, standIns := [], harness := (true, "3df8cd9099af487b90738174e305c9dd5e621d81a6edc4b6e715c97f70007384"), looks := true }, kinds := [], alts := [], laidByText := true, laidKinds := [.data, .data, .data, .data, .data, .sentinel, .sentinel, .listed, .data, .pinned], laidTests := true, laidLooks := .later }
def AsmBackUptoCardSaid : Prop := Claim7.holds Tryd.pinned (.plain (OpenSpec.upto asmBackSpec)) asmBackUptoCard

/-- THE SECOND FORM's CARD OF 'carousellaw14.AsmOnce'. -/
def asmOnceUptoCard : Claim7 := { stood := { row := asmOnceUptoRow, standIns := [], harness := (true, "3df8cd9099af487b90738174e305c9dd5e621d81a6edc4b6e715c97f70007384"), looks := true }, kinds := [], alts := [], laidByText := true, laidKinds := [.data, .data, .data, .data, .data, .sentinel, .sentinel, .listed, .data, .pinned], laidTests := true, laidLooks := .later }
def AsmOnceUptoCardSaid : Prop := Claim7.holds Tryd.pinned (.plain (OpenSpec.upto asmOnceSpec)) asmOnceUptoCard
end Rows
end Go.Proofs.YthghnihlfdoefaaDoor
