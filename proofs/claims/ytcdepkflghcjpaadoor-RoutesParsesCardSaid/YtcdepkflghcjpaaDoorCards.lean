/-
  DERIVED. GIVEN WITH THE SEED: THE CARDS: each row of YtcdepkflghcjpaaDoorRows.lean that lists a variable, with what it lists TIED to the program's text (the seventh form; the later family's looks); each row that meets fmt, with fmt's text TOLD by the authors' own Lean function (tested against real Go, not proved from fmt's source: count such statements apart). THE CARD IS WHAT COUNTS. Prove the row's statement (the work); the ties are given (YtcdepkflghcjpaaDoorTie.lean); close each card by the builder's one call (the guide's Derived/Test/ToyasCard.lean, 'card_holds'). Laid BY PROGRAM, IN A SANDBOX (cutbox-door.mjs). By AI agents, Wed Nov 11 2026. No macro, syntax, notation, axiom, sorry.
-/
import Derived.Test.YtcdepkflghcjpaaDoorRows
import GoSem.ClaimSeven
namespace Go.Proofs.YtcdepkflghcjpaaDoor
namespace Rows

/-- THE TIED CARD OF 'fairlinklaw19.RoutesMake'. -/
def routesMakeCard : Claim7 := { stood := { row := routesMakeRow, standIns := [], harness := (true, "78f3d05a7de2df2418e104a30235d72cb524ba3a1eb5a60b243ad02e77eca360"), looks := true }, kinds := [], alts := [], laidByText := true, laidKinds := [.data, .data, .data], laidTests := true, laidLooks := .later }
def RoutesMakeCardSaid : Prop := Claim7.holds Tryd.pinned (.plain (OpenSpec.ofChange routesMakeSpec)) routesMakeCard

/-- THE TIED CARD OF 'fairlinklaw19.RoutesFall'. -/
def routesFallCard : Claim7 := { stood := { row := routesFallRow, standIns := [], harness := (true, "78f3d05a7de2df2418e104a30235d72cb524ba3a1eb5a60b243ad02e77eca360"), looks := true }, kinds := [], alts := [], laidByText := true, laidKinds := [.data, .data, .data], laidTests := true, laidLooks := .later }
def RoutesFallCardSaid : Prop := Claim7.holds Tryd.pinned (.plain (OpenSpec.ofChange routesFallSpec)) routesFallCard

/-- THE TIED CARD OF 'fairlinklaw19.RoutesRest'. -/
def routesRestCard : Claim7 := { stood := { row := routesRestRow, standIns := [], harness := (true, "78f3d05a7de2df2418e104a30235d72cb524ba3a1eb5a60b243ad02e77eca360"), looks := true }, kinds := [], alts := [], laidByText := true, laidKinds := [.data, .data, .data], laidTests := true, laidLooks := .later }
def RoutesRestCardSaid : Prop := Claim7.holds Tryd.pinned (.plain (OpenSpec.ofChange routesRestSpec)) routesRestCard

/-- THE TIED CARD OF 'fairlinklaw19.RoutesFollows'. -/
def routesFollowsCard : Claim7 := { stood := { row := routesFollowsRow, standIns := [], harness := (true, "78f3d05a7de2df2418e104a30235d72cb524ba3a1eb5a60b243ad02e77eca360"), looks := true }, kinds := [], alts := [], laidByText := true, laidKinds := [.data, .data, .data], laidTests := true, laidLooks := .later }
def RoutesFollowsCardSaid : Prop := Claim7.holds Tryd.pinned (.plain (OpenSpec.ofChange routesFollowsSpec)) routesFollowsCard

/-- THE TIED CARD OF 'fairlinklaw19.RoutesChosen'. -/
def routesChosenCard : Claim7 := { stood := { row := routesChosenRow, standIns := [], harness := (true, "78f3d05a7de2df2418e104a30235d72cb524ba3a1eb5a60b243ad02e77eca360"), looks := true }, kinds := [], alts := [], laidByText := true, laidKinds := [.data, .data, .data], laidTests := true, laidLooks := .later }
def RoutesChosenCardSaid : Prop := Claim7.holds Tryd.pinned (.plain (OpenSpec.ofChange routesChosenSpec)) routesChosenCard

/-- THE TIED CARD OF 'fairlinklaw19.RoutesReach'. -/
def routesReachCard : Claim7 := { stood := { row := routesReachRow, standIns := [], harness := (true, "78f3d05a7de2df2418e104a30235d72cb524ba3a1eb5a60b243ad02e77eca360"), looks := true }, kinds := [], alts := [], laidByText := true, laidKinds := [.data, .data, .data], laidTests := true, laidLooks := .later }
def RoutesReachCardSaid : Prop := Claim7.holds Tryd.pinned (.plain (OpenSpec.ofChange routesReachSpec)) routesReachCard

/-- THE TIED CARD OF 'fairlinklaw19.RoutesTexts'. -/
def routesTextsCard : Claim7 := { stood := { row := routesTextsRow, standIns := [], harness := (true, "78f3d05a7de2df2418e104a30235d72cb524ba3a1eb5a60b243ad02e77eca360"), looks := true }, kinds := [], alts := [], laidByText := true, laidKinds := [.data, .data, .data, .data, .sentinel, .sentinel, .pinned], laidTests := true, laidLooks := .later }
def RoutesTextsCardSaid : Prop := Claim7.holds Tryd.pinned (.plain (OpenSpec.ofChange routesTextsSpec)) routesTextsCard

/-- THE TIED CARD OF 'fairlinklaw19.RoutesParses'. -/
def routesParsesCard : Claim7 := { stood := { row := routesParsesRow, standIns := [], harness := (true, "78f3d05a7de2df2418e104a30235d72cb524ba3a1eb5a60b243ad02e77eca360"), looks := true }, kinds := [], alts := [], laidByText := true, laidKinds := [.data, .data, .data, .data, .sentinel, .sentinel, .pinned], laidTests := true, laidLooks := .later }
def RoutesParsesCardSaid : Prop := Claim7.holds Tryd.pinned (.plain (OpenSpec.ofChange routesParsesSpec)) routesParsesCard

/-- THE SECOND FORM's CARD OF 'fairlinklaw19.RoutesMake'. -/
def routesMakeUptoCard : Claim7 := { stood := { row := routesMakeUptoRow, standIns := [], harness := (true, "78f3d05a7de2df2418e104a30235d72cb524ba3a1eb5a60b243ad02e77eca360"), looks := true }, kinds := [], alts := [], laidByText := true, laidKinds := [.data, .data, .data], laidTests := true, laidLooks := .later }
def RoutesMakeUptoCardSaid : Prop := Claim7.holds Tryd.pinned (.plain (OpenSpec.upto routesMakeSpec)) routesMakeUptoCard

/-- THE SECOND FORM's CARD OF 'fairlinklaw19.RoutesFall'. -/
def routesFallUptoCard : Claim7 := { stood := { row := routesFallUptoRow, standIns := [], harness := (true, "78f3d05a7de2df2418e104a30235d72cb524ba3a1eb5a60b243ad02e77eca360"), looks := true }, kinds := [], alts := [], laidByText := true, laidKinds := [.data, .data, .data], laidTests := true, laidLooks := .later }
def RoutesFallUptoCardSaid : Prop := Claim7.holds Tryd.pinned (.plain (OpenSpec.upto routesFallSpec)) routesFallUptoCard

/-- THE SECOND FORM's CARD OF 'fairlinklaw19.RoutesRest'. -/
def routesRestUptoCard : Claim7 := { stood := { row := routesRestUptoRow, standIns := [], harness := (true, "78f3d05a7de2df2418e104a30235d72cb524ba3a1eb5a60b243ad02e77eca360"), looks := true }, kinds := [], alts := [], laidByText := true, laidKinds := [.data, .data, .data], laidTests := true, laidLooks := .later }
def RoutesRestUptoCardSaid : Prop := Claim7.holds Tryd.pinned (.plain (OpenSpec.upto routesRestSpec)) routesRestUptoCard

/-- THE SECOND FORM's CARD OF 'fairlinklaw19.RoutesFollows'. -/
def routesFollowsUptoCard : Claim7 := { stood := { row := routesFollowsUptoRow, standIns := [], harness := (true, "78f3d05a7de2df2418e104a30235d72cb524ba3a1eb5a60b243ad02e77eca360"), looks := true }, kinds := [], alts := [], laidByText := true, laidKinds := [.data, .data, .data], laidTests := true, laidLooks := .later }
def RoutesFollowsUptoCardSaid : Prop := Claim7.holds Tryd.pinned (.plain (OpenSpec.upto routesFollowsSpec)) routesFollowsUptoCard

/-- THE SECOND FORM's CARD OF 'fairlinklaw19.RoutesChosen'. -/
def routesChosenUptoCard : Claim7 := { stood := { row := routesChosenUptoRow, standIns := [], harness := (true, "78f3d05a7de2df2418e104a30235d72cb524ba3a1eb5a60b243ad02e77eca360"), looks := true }, kinds := [], alts := [], laidByText := true, laidKinds := [.data, .data, .data], laidTests := true, laidLooks := .later }
def RoutesChosenUptoCardSaid : Prop := Claim7.holds Tryd.pinned (.plain (OpenSpec.upto routesChosenSpec)) routesChosenUptoCard

/-- THE SECOND FORM's CARD OF 'fairlinklaw19.RoutesReach'. -/
def routesReachUptoCard : Claim7 := { stood := { row := routesReachUptoRow, standIns := [], harness := (true, "78f3d05a7de2df2418e104a30235d72cb524ba3a1eb5a60b243ad02e77eca360"), looks := true }, kinds := [], alts := [], laidByText := true, laidKinds := [.data, .data, .data], laidTests := true, laidLooks := .later }
def RoutesReachUptoCardSaid : Prop := Claim7.holds Tryd.pinned (.plain (OpenSpec.upto routesReachSpec)) routesReachUptoCard

/-- THE SECOND FORM's CARD OF 'fairlinklaw19.RoutesTexts'. -/
def routesTextsUptoCard : Claim7 := { stood := { row := routesTextsUptoRow, standIns := [], harness := (true, "78f3d05a7de2df2418e104a30235d72cb524ba3a1eb5a60b243ad02e77eca360"), looks := true }, kinds := [], alts := [], laidByText := true, laidKinds := [.data, .data, .data, .data, .sentinel, .sentinel, .pinned], laidTests := true, laidLooks := .later }
def RoutesTextsUptoCardSaid : Prop := Claim7.holds Tryd.pinned (.plain (OpenSpec.upto routesTextsSpec)) routesTextsUptoCard

/-- THE SECOND FORM's CARD OF 'fairlinklaw19.RoutesParses'. -/
def routesParsesUptoCard : Claim7 := { stood := { row := routesParsesUptoRow, standIns := [], harness := (true, "78f3d05a7de2df2418e104a30235d72cb524ba3a1eb5a60b243ad02e77eca360"), looks := true }, kinds := [], alts := [], laidByText := true, laidKinds := [.data, .data, .data, .data, .sentinel, .sentinel, .pinned], laidTests := true, laidLooks := .later }
def RoutesParsesUptoCardSaid : Prop := Claim7.holds Tryd.pinned (.plain (OpenSpec.upto routesParsesSpec)) routesParsesUptoCard
end Rows
end Go.Proofs.YtcdepkflghcjpaaDoor
