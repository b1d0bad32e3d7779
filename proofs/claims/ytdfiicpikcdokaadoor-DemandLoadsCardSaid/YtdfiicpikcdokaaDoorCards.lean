/-
  DERIVED. GIVEN WITH THE SEED: THE CARDS: each row of YtdfiicpikcdokaaDoorRows.lean that lists a variable, with what it lists TIED to the program's text (the seventh form; the later family's looks); each row that meets fmt, with fmt's text TOLD by the authors' own Lean function (tested against real Go, not proved from fmt's source: count such statements apart). THE CARD IS WHAT COUNTS. Prove the row's statement (the work); the ties are given (YtdfiicpikcdokaaDoorTie.lean); close each card by the builder's one call (the guide's Derived/Test/ToyasCard.lean, 'card_holds'). Laid BY PROGRAM, IN A SANDBOX (cutbox-door.mjs). By AI agents, Wed Nov 11 2026. No macro, syntax, notation, axiom, sorry.
-/
import Derived.Test.YtdfiicpikcdokaaDoorRows
import GoSem.ClaimSeven
namespace Go.Proofs.YtdfiicpikcdokaaDoor
namespace Rows

/-- THE TIED CARD OF 'fairlinklaw33.DemandValid'. -/
def demandValidCard : Claim7 := { stood := { row := demandValidRow, standIns := [], harness := (true, "6d4915d718cf76fc34a0913276a46adfc42abcd2512abb79db2433bd60898a4a"), looks := false }, kinds := [], alts := [], laidByText := true, laidKinds := [.data, .data, .data], laidTests := true, laidLooks := .later }
def DemandValidCardSaid : Prop := Claim7.holds Tryd.pinned (.plain (OpenSpec.ofChange demandValidSpec)) demandValidCard

/-- THE TIED CARD OF 'fairlinklaw33.DemandLinear'. -/
def demandLinearCard : Claim7 := { stood := { row := demandLinearRow, standIns := [], harness := (true, "6d4915d718cf76fc34a0913276a46adfc42abcd2512abb79db2433bd60898a4a"), looks := false }, kinds := [], alts := [], laidByText := true, laidKinds := [.data, .data, .data], laidTests := true, laidLooks := .later }
def DemandLinearCardSaid : Prop := Claim7.holds Tryd.pinned (.plain (OpenSpec.ofChange demandLinearSpec)) demandLinearCard

/-- THE TIED CARD OF 'fairlinklaw33.DemandLoads'. -/
def demandLoadsCard : Claim7 := { stood := { row := demandLoadsRow, standIns := [], harness := (true, "6d4915d718cf76fc34a0913276a46adfc42abcd2512abb79db2433bd60898a4a"), looks := false }, kinds := [], alts := [], laidByText := true, laidKinds := [.data, .data, .data], laidTests := true, laidLooks := .later }
def DemandLoadsCardSaid : Prop := Claim7.holds Tryd.pinned (.plain (OpenSpec.ofChange demandLoadsSpec)) demandLoadsCard

/-- THE TIED CARD OF 'fairlinklaw33.DemandShrinks'. -/
def demandShrinksCard : Claim7 := { stood := { row := demandShrinksRow, standIns := [], harness := (true, "6d4915d718cf76fc34a0913276a46adfc42abcd2512abb79db2433bd60898a4a"), looks := false }, kinds := [], alts := [], laidByText := true, laidKinds := [.data, .data, .data], laidTests := true, laidLooks := .later }
def DemandShrinksCardSaid : Prop := Claim7.holds Tryd.pinned (.plain (OpenSpec.ofChange demandShrinksSpec)) demandShrinksCard

/-- THE TIED CARD OF 'fairlinklaw33.DemandFull'. -/
def demandFullCard : Claim7 := { stood := { row := demandFullRow, standIns := [], harness := (true, "6d4915d718cf76fc34a0913276a46adfc42abcd2512abb79db2433bd60898a4a"), looks := false }, kinds := [], alts := [], laidByText := true, laidKinds := [.data, .data, .data], laidTests := true, laidLooks := .later }
def DemandFullCardSaid : Prop := Claim7.holds Tryd.pinned (.plain (OpenSpec.ofChange demandFullSpec)) demandFullCard

/-- THE SECOND FORM's CARD OF 'fairlinklaw33.DemandValid'. -/
def demandValidUptoCard : Claim7 := { stood := { row := demandValidUptoRow, standIns := [], harness := (true, "6d4915d718cf76fc34a0913276a46adfc42abcd2512abb79db2433bd60898a4a"), looks := false }, kinds := [], alts := [], laidByText := true, laidKinds := [.data, .data, .data], laidTests := true, laidLooks := .later }
def DemandValidUptoCardSaid : Prop := Claim7.holds Tryd.pinned (.plain (OpenSpec.upto demandValidSpec)) demandValidUptoCard

/-- THE SECOND FORM's CARD OF 'fairlinklaw33.DemandLinear'. -/
def demandLinearUptoCard : Claim7 := { stood := { row := demandLinearUptoRow, standIns := [], harness := (true, "6d4915d718cf76fc34a0913276a46adfc42abcd2512abb79db2433bd60898a4a"), looks := false }, kinds := [], alts := [], laidByText := true, laidKinds := [.data, .data, .data], laidTests := true, laidLooks := .later }
def DemandLinearUptoCardSaid : Prop := Claim7.holds Tryd.pinned (.plain (OpenSpec.upto demandLinearSpec)) demandLinearUptoCard

/-- THE SECOND FORM's CARD OF 'fairlinklaw33.DemandLoads'. -/
def demandLoadsUptoCard : Claim7 := { stood := { row := demandLoadsUptoRow, standIns := [], harness := (true, "6d4915d718cf76fc34a0913276a46adfc42abcd2512abb79db2433bd60898a4a"), looks := false }, kinds := [], alts := [], laidByText := true, laidKinds := [.data, .data, .data], laidTests := true, laidLooks := .later }
def DemandLoadsUptoCardSaid : Prop := Claim7.holds Tryd.pinned (.plain (OpenSpec.upto demandLoadsSpec)) demandLoadsUptoCard

/-- THE SECOND FORM's CARD OF 'fairlinklaw33.DemandShrinks'. -/
def demandShrinksUptoCard : Claim7 := { stood := { row := demandShrinksUptoRow, standIns := [], harness := (true, "6d4915d718cf76fc34a0913276a46adfc42abcd2512abb79db2433bd60898a4a"), looks := false }, kinds := [], alts := [], laidByText := true, laidKinds := [.data, .data, .data], laidTests := true, laidLooks := .later }
def DemandShrinksUptoCardSaid : Prop := Claim7.holds Tryd.pinned (.plain (OpenSpec.upto demandShrinksSpec)) demandShrinksUptoCard

/-- THE SECOND FORM's CARD OF 'fairlinklaw33.DemandFull'. -/
def demandFullUptoCard : Claim7 := { stood := { row := demandFullUptoRow, standIns := [], harness := (true, "6d4915d718cf76fc34a0913276a46adfc42abcd2512abb79db2433bd60898a4a"), looks := false }, kinds := [], alts := [], laidByText := true, laidKinds := [.data, .data, .data], laidTests := true, laidLooks := .later }
def DemandFullUptoCardSaid : Prop := Claim7.holds Tryd.pinned (.plain (OpenSpec.upto demandFullSpec)) demandFullUptoCard
end Rows
end Go.Proofs.YtdfiicpikcdokaaDoor
