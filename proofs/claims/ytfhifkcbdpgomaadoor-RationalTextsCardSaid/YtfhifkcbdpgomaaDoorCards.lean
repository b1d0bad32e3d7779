/-
  DERIVED. GIVEN WITH THE SEED: THE CARDS: each row of YtfhifkcbdpgomaaDoorRows.lean that lists a variable, with what it lists TIED to the program's text (the seventh form; the later family's looks); each row that meets fmt, with fmt's text TOLD by the authors' own Lean function (tested against real Go, not proved from fmt's source: count such statements apart). THE CARD IS WHAT COUNTS. Prove the row's statement (the work); the ties are given (YtfhifkcbdpgomaaDoorTie.lean); close each card by the builder's one call (the guide's Derived/Test/ToyasCard.lean, 'card_holds'). Laid BY PROGRAM, IN A SANDBOX (cutbox-door.mjs). By AI agents, Wed Nov 11 2026. No macro, syntax, notation, axiom, sorry.
-/
import Derived.Test.YtfhifkcbdpgomaaDoorRows
import GoSem.ClaimSeven
namespace Go.Proofs.YtfhifkcbdpgomaaDoor
namespace Rows

/-- THE TIED CARD OF 'fairlinklaw01.RationalTexts'. -/
def rationalTextsCard : Claim7 := { stood := { row := rationalTextsRow, standIns := [], harness := (true, "11ae51ac9ff0a83d456ecadc36aa093016202394f2691f22eb4207216f309140"), looks := true }, kinds := [], alts := [], laidByText := true, laidKinds := [.data, .data, .data, .sentinel, .sentinel], laidTests := true, laidLooks := .later }
def RationalTextsCardSaid : Prop := Claim7.holds Tryd.pinned (.plain (OpenSpec.ofChange rationalTextsSpec)) rationalTextsCard

/-- THE SECOND FORM's CARD OF 'fairlinklaw01.RationalTexts'. -/
def rationalTextsUptoCard : Claim7 := { stood := { row := rationalTextsUptoRow, standIns := [], harness := (true, "11ae51ac9ff0a83d456ecadc36aa093016202394f2691f22eb4207216f309140"), looks := true }, kinds := [], alts := [], laidByText := true, laidKinds := [.data, .data, .data, .sentinel, .sentinel], laidTests := true, laidLooks := .later }
def RationalTextsUptoCardSaid : Prop := Claim7.holds Tryd.pinned (.plain (OpenSpec.upto rationalTextsSpec)) rationalTextsUptoCard
end Rows
end Go.Proofs.YtfhifkcbdpgomaaDoor
