/-
  DERIVED. GIVEN WITH THE SEED: THE CARDS: each row of YtdfiicpikcdokaaGreatDoorRows.lean that lists a variable, with what it lists TIED to the program's text (the seventh form; the later family's looks); each row that meets fmt, with fmt's text TOLD by the authors' own Lean function (tested against real Go, not proved from fmt's source: count such statements apart). THE CARD IS WHAT COUNTS. Prove the row's statement (the work); the ties are given (YtdfiicpikcdokaaGreatDoorTie.lean); close each card by the builder's one call (the guide's Derived/Test/ToyasCard.lean, 'card_holds'). Laid BY PROGRAM, IN A SANDBOX (cutbox-door.mjs). By AI agents, Wed Nov 11 2026. No macro, syntax, notation, axiom, sorry.
-/
import Derived.Test.YtdfiicpikcdokaaGreatDoorRows
import GoSem.ClaimSeven
namespace Go.Proofs.YtdfiicpikcdokaaGreatDoor
namespace Rows

/-- THE TIED CARD OF 'fairlinklaw33.DemandTexts'. -/
def demandTextsCard : Claim7 := { stood := { row := demandTextsRow, standIns := [], harness := (true, "d27dc572fa197366ad97957a05aa194351c90672f8fe55ad7a37cde382ae31b8"), looks := true }, kinds := [], alts := [], laidByText := true, laidKinds := [.data, .data, .data, .data, .sentinel, .sentinel, .pinned], laidTests := true, laidLooks := .later }
def DemandTextsCardSaid : Prop := Claim7.holds Tryz.pinned (.plain (OpenSpec.ofChange demandTextsSpec)) demandTextsCard

/-- THE TIED CARD OF 'fairlinklaw33.DemandParses'. -/
def demandParsesCard : Claim7 := { stood := { row := demandParsesRow, standIns := [], harness := (true, "d27dc572fa197366ad97957a05aa194351c90672f8fe55ad7a37cde382ae31b8"), looks := true }, kinds := [], alts := [], laidByText := true, laidKinds := [.data, .data, .data, .data, .sentinel, .sentinel, .pinned], laidTests := true, laidLooks := .later }
def DemandParsesCardSaid : Prop := Claim7.holds Tryz.pinned (.plain (OpenSpec.ofChange demandParsesSpec)) demandParsesCard

/-- THE SECOND FORM's CARD OF 'fairlinklaw33.DemandTexts'. -/
def demandTextsUptoCard : Claim7 := { stood := { row := demandTextsUptoRow, standIns := [], harness := (true, "d27dc572fa197366ad97957a05aa194351c90672f8fe55ad7a37cde382ae31b8"), looks := true }, kinds := [], alts := [], laidByText := true, laidKinds := [.data, .data, .data, .data, .sentinel, .sentinel, .pinned], laidTests := true, laidLooks := .later }
def DemandTextsUptoCardSaid : Prop := Claim7.holds Tryz.pinned (.plain (OpenSpec.upto demandTextsSpec)) demandTextsUptoCard

/-- THE SECOND FORM's CARD OF 'fairlinklaw33.DemandParses'. -/
def demandParsesUptoCard : Claim7 := { stood := { row := demandParsesUptoRow, standIns := [], harness := (true, "d27dc572fa197366ad97957a05aa194351c90672f8fe55ad7a37cde382ae31b8"), looks := true }, kinds := [], alts := [], laidByText := true, laidKinds := [.data, .data, .data, .data, .sentinel, .sentinel, .pinned], laidTests := true, laidLooks := .later }
def DemandParsesUptoCardSaid : Prop := Claim7.holds Tryz.pinned (.plain (OpenSpec.upto demandParsesSpec)) demandParsesUptoCard
end Rows
end Go.Proofs.YtdfiicpikcdokaaGreatDoor
