/-
  DERIVED. GIVEN WITH THE SEED: THE CARDS: each row of YtiheggkkgbfndaaGreatDoorRows.lean that lists a variable, with what it lists TIED to the program's text (the seventh form; the later family's looks); each row that meets fmt, with fmt's text TOLD by the authors' own Lean function (tested against real Go, not proved from fmt's source: count such statements apart). THE CARD IS WHAT COUNTS. Prove the row's statement (the work); the ties are given (YtiheggkkgbfndaaGreatDoorTie.lean); close each card by the builder's one call (the guide's Derived/Test/ToyasCard.lean, 'card_holds'). Laid BY PROGRAM, IN A SANDBOX (cutbox-door.mjs). By AI agents, Wed Nov 11 2026. No macro, syntax, notation, axiom, sorry.
-/
import Derived.Test.YtiheggkkgbfndaaGreatDoorRows
import GoSem.ClaimSeven
namespace Go.Proofs.YtiheggkkgbfndaaGreatDoor
namespace Rows

/-- THE TIED CARD OF 'carousellaw24.ScriptReads'. -/
def scriptReadsCard : Claim7 := { stood := { row := scriptReadsRow, standIns := [], harness := (true, "c4c55c5db4abc7f34a229cfcca4749607c7b1f00bcd0b0c0a092a10e1e3721d4"), looks := true }, kinds := [], alts := [], laidByText := true, laidKinds := [.data, .data, .data, .data, .data, .sentinel, .sentinel, .listed, .data, .pinned], laidTests := true, laidLooks := .later }
def ScriptReadsCardSaid : Prop := Claim7.holds Tryz.pinned (.plain (OpenSpec.ofChange scriptReadsSpec)) scriptReadsCard

/-- THE TIED CARD OF 'carousellaw24.ScriptPrints'. -/
def scriptPrintsCard : Claim7 := { stood := { row := scriptPrintsRow, standIns := [], harness := (true, "c4c55c5db4abc7f34a229cfcca4749607c7b1f00bcd0b0c0a092a10e1e3721d4"), looks := true }, kinds := [], alts := [], laidByText := true, laidKinds := [.data, .data, .data, .data, .data, .sentinel, .sentinel, .listed, .data, .pinned], laidTests := true, laidLooks := .later }
def ScriptPrintsCardSaid : Prop := Claim7.holds Tryz.pinned (.plain (OpenSpec.ofChange scriptPrintsSpec)) scriptPrintsCard

/-- THE TIED CARD OF 'carousellaw24.ScriptBack'. -/
def scriptBackCard : Claim7 := { stood := { row := scriptBackRow, standIns := [], harness := (true, "c4c55c5db4abc7f34a229cfcca4749607c7b1f00bcd0b0c0a092a10e1e3721d4"), looks := true }, kinds := [], alts := [], laidByText := true, laidKinds := [.data, .data, .data, .data, .data, .sentinel, .sentinel, .listed, .data, .pinned], laidTests := true, laidLooks := .later }
def ScriptBackCardSaid : Prop := Claim7.holds Tryz.pinned (.plain (OpenSpec.ofChange scriptBackSpec)) scriptBackCard

/-- THE TIED CARD OF 'carousellaw24.ScriptRefuses'. -/
def scriptRefusesCard : Claim7 := { stood := { row := scriptRefusesRow, standIns := [], harness := (true, "c4c55c5db4abc7f34a229cfcca4749607c7b1f00bcd0b0c0a092a10e1e3721d4"), looks := true }, kinds := [], alts := [], laidByText := true, laidKinds := [.data, .data, .data, .data, .data, .sentinel, .sentinel, .listed, .data, .pinned], laidTests := true, laidLooks := .later }
def ScriptRefusesCardSaid : Prop := Claim7.holds Tryz.pinned (.plain (OpenSpec.ofChange scriptRefusesSpec)) scriptRefusesCard

/-- THE TIED CARD OF 'carousellaw24.ScriptApart'. -/
def scriptApartCard : Claim7 := { stood := { row := scriptApartRow, standIns := [], harness := (true, "c4c55c5db4abc7f34a229cfcca4749607c7b1f00bcd0b0c0a092a10e1e3721d4"), looks := true }, kinds := [], alts := [], laidByText := true, laidKinds := [.data, .data, .data, .data, .data, .sentinel, .sentinel, .listed, .data, .pinned], laidTests := true, laidLooks := .later }
def ScriptApartCardSaid : Prop := Claim7.holds Tryz.pinned (.plain (OpenSpec.ofChange scriptApartSpec)) scriptApartCard

/-- THE SECOND FORM's CARD OF 'carousellaw24.ScriptReads'. -/
def scriptReadsUptoCard : Claim7 := { stood := { row := scriptReadsUptoRow, standIns := [], harness := (true, "c4c55c5db4abc7f34a229cfcca4749607c7b1f00bcd0b0c0a092a10e1e3721d4"), looks := true }, kinds := [], alts := [], laidByText := true, laidKinds := [.data, .data, .data, .data, .data, .sentinel, .sentinel, .listed, .data, .pinned], laidTests := true, laidLooks := .later }
def ScriptReadsUptoCardSaid : Prop := Claim7.holds Tryz.pinned (.plain (OpenSpec.upto scriptReadsSpec)) scriptReadsUptoCard

/-- THE SECOND FORM's CARD OF 'carousellaw24.ScriptPrints'. -/
def scriptPrintsUptoCard : Claim7 := { stood := { row := scriptPrintsUptoRow, standIns := [], harness := (true, "c4c55c5db4abc7f34a229cfcca4749607c7b1f00bcd0b0c0a092a10e1e3721d4"), looks := true }, kinds := [], alts := [], laidByText := true, laidKinds := [.data, .data, .data, .data, .data, .sentinel, .sentinel, .listed, .data, .pinned], laidTests := true, laidLooks := .later }
def ScriptPrintsUptoCardSaid : Prop := Claim7.holds Tryz.pinned (.plain (OpenSpec.upto scriptPrintsSpec)) scriptPrintsUptoCard

/-- THE SECOND FORM's CARD OF 'carousellaw24.ScriptBack'. -/
def scriptBackUptoCard : Claim7 := { stood := { row := scriptBackUptoRow, standIns := [], harness := (true, "c4c55c5db4abc7f34a229cfcca4749607c7b1f00bcd0b0c0a092a10e1e3721d4"), looks := true }, kinds := [], alts := [], laidByText := true, laidKinds := [.data, .data, .data, .data, .data, .sentinel, .sentinel, .listed, .data, .pinned], laidTests := true, laidLooks := .later }
def ScriptBackUptoCardSaid : Prop := Claim7.holds Tryz.pinned (.plain (OpenSpec.upto scriptBackSpec)) scriptBackUptoCard

/-- THE SECOND FORM's CARD OF 'carousellaw24.ScriptRefuses'. -/
def scriptRefusesUptoCard : Claim7 := { stood := { row := scriptRefusesUptoRow, standIns := [], harness := (true, "c4c55c5db4abc7f34a229cfcca4749607c7b1f00bcd0b0c0a092a10e1e3721d4"), looks := true }, kinds := [], alts := [], laidByText := true, laidKinds := [.data, .data, .data, .data, .data, .sentinel, .sentinel, .listed, .data, .pinned], laidTests := true, laidLooks := .later }
def ScriptRefusesUptoCardSaid : Prop := Claim7.holds Tryz.pinned (.plain (OpenSpec.upto scriptRefusesSpec)) scriptRefusesUptoCard

/-- THE SECOND FORM's CARD OF 'carousellaw24.ScriptApart'. -/
def scriptApartUptoCard : Claim7 := { stood := { row := scriptApartUptoRow, standIns := [], harness := (true, "c4c55c5db4abc7f34a229cfcca4749607c7b1f00bcd0b0c0a092a10e1e3721d4"), looks := true }, kinds := [], alts := [], laidByText := true, laidKinds := [.data, .data, .data, .data, .data, .sentinel, .sentinel, .listed, .data, .pinned], laidTests := true, laidLooks := .later }
def ScriptApartUptoCardSaid : Prop := Claim7.holds Tryz.pinned (.plain (OpenSpec.upto scriptApartSpec)) scriptApartUptoCard
end Rows
end Go.Proofs.YtiheggkkgbfndaaGreatDoor
