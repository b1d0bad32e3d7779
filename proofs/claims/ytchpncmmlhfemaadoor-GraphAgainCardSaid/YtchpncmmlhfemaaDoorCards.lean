/-
  DERIVED. GIVEN WITH THE SEED: THE CARDS: each row of YtchpncmmlhfemaaDoorRows.lean that lists a variable, with what it lists TIED to the program's text (the seventh form; the later family's looks); each row that meets fmt, with fmt's text TOLD by the authors' own Lean function (tested against real Go, not proved from fmt's source: count such statements apart). THE CARD IS WHAT COUNTS. Prove the row's statement (the work); the ties are given (YtchpncmmlhfemaaDoorTie.lean); close each card by the builder's one call (the guide's Derived/Test/ToyasCard.lean, 'card_holds'). Laid BY PROGRAM, IN A SANDBOX (cutbox-door.mjs). By AI agents, Wed Nov 11 2026. No macro, syntax, notation, axiom, sorry.
-/
import Derived.Test.YtchpncmmlhfemaaDoorRows
import GoSem.ClaimSeven
namespace Go.Proofs.YtchpncmmlhfemaaDoor
namespace Rows

/-- THE TIED CARD OF 'fairlinklaw14.GraphValid'. -/
def graphValidCard : Claim7 := { stood := { row := graphValidRow, standIns := [], harness := (true, "87f6a874435be11b9a25788e760c5da3a76556f3eefc5b03b6ef506642ad1443"), looks := false }, kinds := [], alts := [], laidByText := true, laidKinds := [.data, .data, .data], laidTests := true, laidLooks := .later }
def GraphValidCardSaid : Prop := Claim7.holds Tryd.pinned (.plain (OpenSpec.ofChange graphValidSpec)) graphValidCard

/-- THE TIED CARD OF 'fairlinklaw14.GraphMetric'. -/
def graphMetricCard : Claim7 := { stood := { row := graphMetricRow, standIns := [], harness := (true, "87f6a874435be11b9a25788e760c5da3a76556f3eefc5b03b6ef506642ad1443"), looks := false }, kinds := [], alts := [], laidByText := true, laidKinds := [.data, .data, .data], laidTests := true, laidLooks := .later }
def GraphMetricCardSaid : Prop := Claim7.holds Tryd.pinned (.plain (OpenSpec.ofChange graphMetricSpec)) graphMetricCard

/-- THE TIED CARD OF 'fairlinklaw14.GraphDown'. -/
def graphDownCard : Claim7 := { stood := { row := graphDownRow, standIns := [], harness := (true, "87f6a874435be11b9a25788e760c5da3a76556f3eefc5b03b6ef506642ad1443"), looks := false }, kinds := [], alts := [], laidByText := true, laidKinds := [.data, .data, .data], laidTests := true, laidLooks := .later }
def GraphDownCardSaid : Prop := Claim7.holds Tryd.pinned (.plain (OpenSpec.ofChange graphDownSpec)) graphDownCard

/-- THE TIED CARD OF 'fairlinklaw14.GraphNeighbors'. -/
def graphNeighborsCard : Claim7 := { stood := { row := graphNeighborsRow, standIns := [], harness := (true, "87f6a874435be11b9a25788e760c5da3a76556f3eefc5b03b6ef506642ad1443"), looks := false }, kinds := [], alts := [], laidByText := true, laidKinds := [.data, .data, .data], laidTests := true, laidLooks := .later }
def GraphNeighborsCardSaid : Prop := Claim7.holds Tryd.pinned (.plain (OpenSpec.ofChange graphNeighborsSpec)) graphNeighborsCard

/-- THE TIED CARD OF 'fairlinklaw14.GraphDistances'. -/
def graphDistancesCard : Claim7 := { stood := { row := graphDistancesRow, standIns := [], harness := (true, "87f6a874435be11b9a25788e760c5da3a76556f3eefc5b03b6ef506642ad1443"), looks := false }, kinds := [], alts := [], laidByText := true, laidKinds := [.data, .data, .data], laidTests := true, laidLooks := .later }
def GraphDistancesCardSaid : Prop := Claim7.holds Tryd.pinned (.plain (OpenSpec.ofChange graphDistancesSpec)) graphDistancesCard

/-- THE TIED CARD OF 'fairlinklaw14.GraphSteps'. -/
def graphStepsCard : Claim7 := { stood := { row := graphStepsRow, standIns := [], harness := (true, "87f6a874435be11b9a25788e760c5da3a76556f3eefc5b03b6ef506642ad1443"), looks := false }, kinds := [], alts := [], laidByText := true, laidKinds := [.data, .data, .data], laidTests := true, laidLooks := .later }
def GraphStepsCardSaid : Prop := Claim7.holds Tryd.pinned (.plain (OpenSpec.ofChange graphStepsSpec)) graphStepsCard

/-- THE TIED CARD OF 'fairlinklaw14.GraphTexts'. -/
def graphTextsCard : Claim7 := { stood := { row := graphTextsRow, standIns := [], harness := (true, "87f6a874435be11b9a25788e760c5da3a76556f3eefc5b03b6ef506642ad1443"), looks := false }, kinds := [], alts := [], laidByText := true, laidKinds := [.data, .data, .data, .data, .pinned], laidTests := true, laidLooks := .later }
def GraphTextsCardSaid : Prop := Claim7.holds Tryd.pinned (.plain (OpenSpec.ofChange graphTextsSpec)) graphTextsCard

/-- THE TIED CARD OF 'fairlinklaw14.GraphAgain'. -/
def graphAgainCard : Claim7 := { stood := { row := graphAgainRow, standIns := [], harness := (true, "87f6a874435be11b9a25788e760c5da3a76556f3eefc5b03b6ef506642ad1443"), looks := false }, kinds := [], alts := [], laidByText := true, laidKinds := [.data, .data, .data, .data, .pinned], laidTests := true, laidLooks := .later }
def GraphAgainCardSaid : Prop := Claim7.holds Tryd.pinned (.plain (OpenSpec.ofChange graphAgainSpec)) graphAgainCard

/-- THE SECOND FORM's CARD OF 'fairlinklaw14.GraphValid'. -/
def graphValidUptoCard : Claim7 := { stood := { row := graphValidUptoRow, standIns := [], harness := (true, "87f6a874435be11b9a25788e760c5da3a76556f3eefc5b03b6ef506642ad1443"), looks := false }, kinds := [], alts := [], laidByText := true, laidKinds := [.data, .data, .data], laidTests := true, laidLooks := .later }
def GraphValidUptoCardSaid : Prop := Claim7.holds Tryd.pinned (.plain (OpenSpec.upto graphValidSpec)) graphValidUptoCard

/-- THE SECOND FORM's CARD OF 'fairlinklaw14.GraphMetric'. -/
def graphMetricUptoCard : Claim7 := { stood := { row := graphMetricUptoRow, standIns := [], harness := (true, "87f6a874435be11b9a25788e760c5da3a76556f3eefc5b03b6ef506642ad1443"), looks := false }, kinds := [], alts := [], laidByText := true, laidKinds := [.data, .data, .data], laidTests := true, laidLooks := .later }
def GraphMetricUptoCardSaid : Prop := Claim7.holds Tryd.pinned (.plain (OpenSpec.upto graphMetricSpec)) graphMetricUptoCard

/-- THE SECOND FORM's CARD OF 'fairlinklaw14.GraphDown'. -/
def graphDownUptoCard : Claim7 := { stood := { row := graphDownUptoRow, standIns := [], harness := (true, "87f6a874435be11b9a25788e760c5da3a76556f3eefc5b03b6ef506642ad1443"), looks := false }, kinds := [], alts := [], laidByText := true, laidKinds := [.data, .data, .data], laidTests := true, laidLooks := .later }
def GraphDownUptoCardSaid : Prop := Claim7.holds Tryd.pinned (.plain (OpenSpec.upto graphDownSpec)) graphDownUptoCard

/-- THE SECOND FORM's CARD OF 'fairlinklaw14.GraphNeighbors'. -/
def graphNeighborsUptoCard : Claim7 := { stood := { row := graphNeighborsUptoRow, standIns := [], harness := (true, "87f6a874435be11b9a25788e760c5da3a76556f3eefc5b03b6ef506642ad1443"), looks := false }, kinds := [], alts := [], laidByText := true, laidKinds := [.data, .data, .data], laidTests := true, laidLooks := .later }
def GraphNeighborsUptoCardSaid : Prop := Claim7.holds Tryd.pinned (.plain (OpenSpec.upto graphNeighborsSpec)) graphNeighborsUptoCard

/-- THE SECOND FORM's CARD OF 'fairlinklaw14.GraphDistances'. -/
def graphDistancesUptoCard : Claim7 := { stood := { row := graphDistancesUptoRow, standIns := [], harness := (true, "87f6a874435be11b9a25788e760c5da3a76556f3eefc5b03b6ef506642ad1443"), looks := false }, kinds := [], alts := [], laidByText := true, laidKinds := [.data, .data, .data], laidTests := true, laidLooks := .later }
def GraphDistancesUptoCardSaid : Prop := Claim7.holds Tryd.pinned (.plain (OpenSpec.upto graphDistancesSpec)) graphDistancesUptoCard

/-- THE SECOND FORM's CARD OF 'fairlinklaw14.GraphSteps'. -/
def graphStepsUptoCard : Claim7 := { stood := { row := graphStepsUptoRow, standIns := [], harness := (true, "87f6a874435be11b9a25788e760c5da3a76556f3eefc5b03b6ef506642ad1443"), looks := false }, kinds := [], alts := [], laidByText := true, laidKinds := [.data, .data, .data], laidTests := true, laidLooks := .later }
def GraphStepsUptoCardSaid : Prop := Claim7.holds Tryd.pinned (.plain (OpenSpec.upto graphStepsSpec)) graphStepsUptoCard

/-- THE SECOND FORM's CARD OF 'fairlinklaw14.GraphTexts'. -/
def graphTextsUptoCard : Claim7 := { stood := { row := graphTextsUptoRow, standIns := [], harness := (true, "87f6a874435be11b9a25788e760c5da3a76556f3eefc5b03b6ef506642ad1443"), looks := false }, kinds := [], alts := [], laidByText := true, laidKinds := [.data, .data, .data, .data, .pinned], laidTests := true, laidLooks := .later }
def GraphTextsUptoCardSaid : Prop := Claim7.holds Tryd.pinned (.plain (OpenSpec.upto graphTextsSpec)) graphTextsUptoCard

/-- THE SECOND FORM's CARD OF 'fairlinklaw14.GraphAgain'. -/
def graphAgainUptoCard : Claim7 := { stood := { row := graphAgainUptoRow, standIns := [], harness := (true, "87f6a874435be11b9a25788e760c5da3a76556f3eefc5b03b6ef506642ad1443"), looks := false }, kinds := [], alts := [], laidByText := true, laidKinds := [.data, .data, .data, .data, .pinned], laidTests := true, laidLooks := .later }
def GraphAgainUptoCardSaid : Prop := Claim7.holds Tryd.pinned (.plain (OpenSpec.upto graphAgainSpec)) graphAgainUptoCard
end Rows
end Go.Proofs.YtchpncmmlhfemaaDoor
