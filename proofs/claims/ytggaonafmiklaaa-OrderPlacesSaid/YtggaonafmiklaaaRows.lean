/-
  No cell of these rows narrows 'for every input' (looked for: loops, veiled, ifaces, maps, wideKeys, modest, calm, conditions, laid).
  DERIVED. THE GIVEN ROWS OF THIS SEAT. 6 by the template 'for every input the law returns true; each argument reads behind the call as it read before'; 0 by the template 'total and deterministic' (their statements: YtggaonafmiklaaaTotals.lean).
  GIVEN WITH THE SEED: the statements are not yours to turn. If you find one false, say at which input.
  Laid BY PROGRAM, IN A SANDBOX (cutbox-rows.mjs): the forced cells as the released guide's own fill.sh prints them over the translation a25c4458b428543a… (all of the seat's roots in one cut). By AI agents, Wed Nov 11 2026. No macro, syntax, notation, axiom, sorry.
-/
import Derived.Test.YtggaonafmiklaaaChecked
import GoSem.Claim
import GoSem.ClaimJoined
import GoSem.ClaimMapViews
import Derived.JoinedTies
import Derived.KernelRfl
namespace Go.Proofs.Ytggaonafmiklaaa
/- THE CELL 'sum', in the pinned program and in every row, IS THE sha256 OF THE DUMP (.gsa) THAT YtggaonafmiklaaaProg.lean LOADS. Nothing in Lean hashes anything: it is a label: what it is worth is what the hold of that sum in a sandbox is worth. -/
noncomputable def Try.pinned : Pinned := { name := "ytggaonafmiklaaa", sum := "a25c4458b428543a199660fddbf35e4426aaeb563d33d7e0bec69a213bc6b333", checked := Try.checked }
namespace Rows
def none {H : Type} : Left H := { results := [], args := [] }

/-- 'fairlinklaw17.OrderOf': WHATEVER THE INPUT: true; the input reads as it did. -/
def orderOfSpec : ChangeSpec := { name := "orderOf", fn := fun _ => fun
  | [d1, d2, d3] => { results := [.lit (.bool true)], args := [d1, d2, d3] }
  | _ => none }
def orderOfRow : OpenClaim := { program := "ytggaonafmiklaaa", sum := "a25c4458b428543a199660fddbf35e4426aaeb563d33d7e0bec69a213bc6b333", func := "fairlink/fairlinklaw17.OrderOf", spec := "orderOf", unfollowed := true, recurses := true, plainKeys := false, apart := false }
def OrderOfSaid : Prop := orderOfRow.holds Try.pinned (OpenSpec.ofChange orderOfSpec)

/-- ITS FALSE NEIGHBOUR: 'it returns false'. Refute it at one input. -/
def orderOfWrong : ChangeSpec := { name := "orderOf", fn := fun _ => fun
  | [d1, d2, d3] => { results := [.lit (.bool false)], args := [d1, d2, d3] }
  | _ => none }
def OrderOfWrongFalsely : Prop := orderOfRow.holds Try.pinned (OpenSpec.ofChange orderOfWrong)

/-- 'fairlinklaw17.OrderUpward': WHATEVER THE INPUT: true; the input reads as it did. -/
def orderUpwardSpec : ChangeSpec := { name := "orderUpward", fn := fun _ => fun
  | [d1, d2, d3, d4] => { results := [.lit (.bool true)], args := [d1, d2, d3, d4] }
  | _ => none }
def orderUpwardRow : OpenClaim := { program := "ytggaonafmiklaaa", sum := "a25c4458b428543a199660fddbf35e4426aaeb563d33d7e0bec69a213bc6b333", func := "fairlink/fairlinklaw17.OrderUpward", spec := "orderUpward", unfollowed := true, recurses := true, plainKeys := false, apart := false }
def OrderUpwardSaid : Prop := orderUpwardRow.holds Try.pinned (OpenSpec.ofChange orderUpwardSpec)

/-- ITS FALSE NEIGHBOUR: 'it returns false'. Refute it at one input. -/
def orderUpwardWrong : ChangeSpec := { name := "orderUpward", fn := fun _ => fun
  | [d1, d2, d3, d4] => { results := [.lit (.bool false)], args := [d1, d2, d3, d4] }
  | _ => none }
def OrderUpwardWrongFalsely : Prop := orderUpwardRow.holds Try.pinned (OpenSpec.ofChange orderUpwardWrong)

/-- 'fairlinklaw17.OrderTotal': WHATEVER THE INPUT: true; the input reads as it did. -/
def orderTotalSpec : ChangeSpec := { name := "orderTotal", fn := fun _ => fun
  | [d1, d2, d3, d4, d5, d6] => { results := [.lit (.bool true)], args := [d1, d2, d3, d4, d5, d6] }
  | _ => none }
def orderTotalRow : OpenClaim := { program := "ytggaonafmiklaaa", sum := "a25c4458b428543a199660fddbf35e4426aaeb563d33d7e0bec69a213bc6b333", func := "fairlink/fairlinklaw17.OrderTotal", spec := "orderTotal", unfollowed := true, recurses := true, plainKeys := false, apart := false }
def OrderTotalSaid : Prop := orderTotalRow.holds Try.pinned (OpenSpec.ofChange orderTotalSpec)

/-- ITS FALSE NEIGHBOUR: 'it returns false'. Refute it at one input. -/
def orderTotalWrong : ChangeSpec := { name := "orderTotal", fn := fun _ => fun
  | [d1, d2, d3, d4, d5, d6] => { results := [.lit (.bool false)], args := [d1, d2, d3, d4, d5, d6] }
  | _ => none }
def OrderTotalWrongFalsely : Prop := orderTotalRow.holds Try.pinned (OpenSpec.ofChange orderTotalWrong)

/-- 'fairlinklaw17.OrderSteps': WHATEVER THE INPUT: true; the input reads as it did. -/
def orderStepsSpec : ChangeSpec := { name := "orderSteps", fn := fun _ => fun
  | [d1, d2, d3] => { results := [.lit (.bool true)], args := [d1, d2, d3] }
  | _ => none }
def orderStepsRow : OpenClaim := { program := "ytggaonafmiklaaa", sum := "a25c4458b428543a199660fddbf35e4426aaeb563d33d7e0bec69a213bc6b333", func := "fairlink/fairlinklaw17.OrderSteps", spec := "orderSteps", unfollowed := true, recurses := true, plainKeys := false, apart := false }
def OrderStepsSaid : Prop := orderStepsRow.holds Try.pinned (OpenSpec.ofChange orderStepsSpec)

/-- ITS FALSE NEIGHBOUR: 'it returns false'. Refute it at one input. -/
def orderStepsWrong : ChangeSpec := { name := "orderSteps", fn := fun _ => fun
  | [d1, d2, d3] => { results := [.lit (.bool false)], args := [d1, d2, d3] }
  | _ => none }
def OrderStepsWrongFalsely : Prop := orderStepsRow.holds Try.pinned (OpenSpec.ofChange orderStepsWrong)

/-- 'fairlinklaw17.OrderLeast': WHATEVER THE INPUT: true; the input reads as it did. -/
def orderLeastSpec : ChangeSpec := { name := "orderLeast", fn := fun _ => fun
  | [d1, d2] => { results := [.lit (.bool true)], args := [d1, d2] }
  | _ => none }
def orderLeastRow : OpenClaim := { program := "ytggaonafmiklaaa", sum := "a25c4458b428543a199660fddbf35e4426aaeb563d33d7e0bec69a213bc6b333", func := "fairlink/fairlinklaw17.OrderLeast", spec := "orderLeast", unfollowed := true, recurses := true, plainKeys := false, apart := false }
def OrderLeastSaid : Prop := orderLeastRow.holds Try.pinned (OpenSpec.ofChange orderLeastSpec)

/-- ITS FALSE NEIGHBOUR: 'it returns false'. Refute it at one input. -/
def orderLeastWrong : ChangeSpec := { name := "orderLeast", fn := fun _ => fun
  | [d1, d2] => { results := [.lit (.bool false)], args := [d1, d2] }
  | _ => none }
def OrderLeastWrongFalsely : Prop := orderLeastRow.holds Try.pinned (OpenSpec.ofChange orderLeastWrong)

/-- 'fairlinklaw17.OrderPlaces': WHATEVER THE INPUT: true; the input reads as it did. -/
def orderPlacesSpec : ChangeSpec := { name := "orderPlaces", fn := fun _ => fun
  | [d1, d2, d3] => { results := [.lit (.bool true)], args := [d1, d2, d3] }
  | _ => none }
def orderPlacesRow : OpenClaim := { program := "ytggaonafmiklaaa", sum := "a25c4458b428543a199660fddbf35e4426aaeb563d33d7e0bec69a213bc6b333", func := "fairlink/fairlinklaw17.OrderPlaces", spec := "orderPlaces", unfollowed := true, recurses := true, plainKeys := false, apart := false }
def OrderPlacesSaid : Prop := orderPlacesRow.holds Try.pinned (OpenSpec.ofChange orderPlacesSpec)

/-- ITS FALSE NEIGHBOUR: 'it returns false'. Refute it at one input. -/
def orderPlacesWrong : ChangeSpec := { name := "orderPlaces", fn := fun _ => fun
  | [d1, d2, d3] => { results := [.lit (.bool false)], args := [d1, d2, d3] }
  | _ => none }
def OrderPlacesWrongFalsely : Prop := orderPlacesRow.holds Try.pinned (OpenSpec.ofChange orderPlacesWrong)

/- THE SECOND FORM. 'bulk': how many values and letters a reading holds, each counted each time it is reached (what is shared counts as often as it is met; a slice's spare places count too). A statement '..UptoSaid' is the law's where the arguments, and the package variables that the reading takes, are together of bulk at most 1048576: NARROWER than '..Said'. Prove '..Said' where nothing that the law and all that it calls make is longer than what came in: it says more and counts as full. Else prove '..UptoSaid'. A law counts once. -/
mutual
def uptoBulk {H : Type} : DataW H → Nat
  | .lit (.string bytes) => bytes.length + 1
  | .lit _ => 1
  | .nil => 1
  | .ptr d => uptoBulk d + 1
  | .slice elems spare => uptoBulkAll elems + uptoBulkAll spare + 1
  | .agg parts => uptoBulkAll parts + 1
  | .iface _ d => uptoBulk d + 1
  | .map entries => uptoBulkEntries entries + 1
  | .held _ => 1
def uptoBulkAll {H : Type} : List (DataW H) → Nat
  | [] => 0
  | d :: r => uptoBulk d + uptoBulkAll r
def uptoBulkEntries {H : Type} : List (Lit × DataW H) → Nat
  | [] => 0
  | x :: r => uptoBulkEntry x + uptoBulkEntries r
def uptoBulkEntry {H : Type} : Lit × DataW H → Nat
  | (.string bytes, d) => bytes.length + uptoBulk d + 1
  | (_, d) => uptoBulk d + 1
 end
def uptoSmall : (H : Type) → List (DataW H) → Bool := fun _ ds => decide (uptoBulkAll ds ≤ 1048576)
def OpenSpec.upto (s : _root_.Go.ChangeSpec) : _root_.Go.OpenSpec := { _root_.Go.OpenSpec.ofChange s with cond := some uptoSmall }

/-- 'fairlinklaw17.OrderOf', WHERE WHAT IT READS IS OF BULK AT MOST 1048576: true; the input reads as it did. -/
def orderOfUptoRow : OpenClaim := { program := "ytggaonafmiklaaa", sum := "a25c4458b428543a199660fddbf35e4426aaeb563d33d7e0bec69a213bc6b333", func := "fairlink/fairlinklaw17.OrderOf", spec := "orderOf", unfollowed := true, recurses := true, plainKeys := false, apart := false, narrowed := true }
def OrderOfUptoSaid : Prop := orderOfUptoRow.holds Try.pinned (OpenSpec.upto orderOfSpec)

/-- 'fairlinklaw17.OrderUpward', WHERE WHAT IT READS IS OF BULK AT MOST 1048576: true; the input reads as it did. -/
def orderUpwardUptoRow : OpenClaim := { program := "ytggaonafmiklaaa", sum := "a25c4458b428543a199660fddbf35e4426aaeb563d33d7e0bec69a213bc6b333", func := "fairlink/fairlinklaw17.OrderUpward", spec := "orderUpward", unfollowed := true, recurses := true, plainKeys := false, apart := false, narrowed := true }
def OrderUpwardUptoSaid : Prop := orderUpwardUptoRow.holds Try.pinned (OpenSpec.upto orderUpwardSpec)

/-- 'fairlinklaw17.OrderTotal', WHERE WHAT IT READS IS OF BULK AT MOST 1048576: true; the input reads as it did. -/
def orderTotalUptoRow : OpenClaim := { program := "ytggaonafmiklaaa", sum := "a25c4458b428543a199660fddbf35e4426aaeb563d33d7e0bec69a213bc6b333", func := "fairlink/fairlinklaw17.OrderTotal", spec := "orderTotal", unfollowed := true, recurses := true, plainKeys := false, apart := false, narrowed := true }
def OrderTotalUptoSaid : Prop := orderTotalUptoRow.holds Try.pinned (OpenSpec.upto orderTotalSpec)

/-- 'fairlinklaw17.OrderSteps', WHERE WHAT IT READS IS OF BULK AT MOST 1048576: true; the input reads as it did. -/
def orderStepsUptoRow : OpenClaim := { program := "ytggaonafmiklaaa", sum := "a25c4458b428543a199660fddbf35e4426aaeb563d33d7e0bec69a213bc6b333", func := "fairlink/fairlinklaw17.OrderSteps", spec := "orderSteps", unfollowed := true, recurses := true, plainKeys := false, apart := false, narrowed := true }
def OrderStepsUptoSaid : Prop := orderStepsUptoRow.holds Try.pinned (OpenSpec.upto orderStepsSpec)

/-- 'fairlinklaw17.OrderLeast', WHERE WHAT IT READS IS OF BULK AT MOST 1048576: true; the input reads as it did. -/
def orderLeastUptoRow : OpenClaim := { program := "ytggaonafmiklaaa", sum := "a25c4458b428543a199660fddbf35e4426aaeb563d33d7e0bec69a213bc6b333", func := "fairlink/fairlinklaw17.OrderLeast", spec := "orderLeast", unfollowed := true, recurses := true, plainKeys := false, apart := false, narrowed := true }
def OrderLeastUptoSaid : Prop := orderLeastUptoRow.holds Try.pinned (OpenSpec.upto orderLeastSpec)

/-- 'fairlinklaw17.OrderPlaces', WHERE WHAT IT READS IS OF BULK AT MOST 1048576: true; the input reads as it did. -/
def orderPlacesUptoRow : OpenClaim := { program := "ytggaonafmiklaaa", sum := "a25c4458b428543a199660fddbf35e4426aaeb563d33d7e0bec69a213bc6b333", func := "fairlink/fairlinklaw17.OrderPlaces", spec := "orderPlaces", unfollowed := true, recurses := true, plainKeys := false, apart := false, narrowed := true }
def OrderPlacesUptoSaid : Prop := orderPlacesUptoRow.holds Try.pinned (OpenSpec.upto orderPlacesSpec)

end Rows
end Go.Proofs.Ytggaonafmiklaaa
