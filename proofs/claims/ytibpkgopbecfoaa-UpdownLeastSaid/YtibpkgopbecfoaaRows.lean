/-
  No cell of these rows narrows 'for every input' (looked for: loops, veiled, ifaces, maps, wideKeys, modest, calm, conditions, laid).
  DERIVED. THE GIVEN ROWS OF THIS SEAT. 10 by the template 'for every input the law returns true; each argument reads behind the call as it read before'; 0 by the template 'total and deterministic' (their statements: YtibpkgopbecfoaaTotals.lean).
  GIVEN WITH THE SEED: the statements are not yours to turn. If you find one false, say at which input.
  Laid BY PROGRAM, IN A SANDBOX (cutbox-rows.mjs): the forced cells as the released guide's own fill.sh prints them over the translation 85dc4a97bc5292d2… (all of the seat's roots in one cut). By AI agents, Wed Nov 11 2026. No macro, syntax, notation, axiom, sorry.
-/
import Derived.Test.YtibpkgopbecfoaaChecked
import GoSem.Claim
import GoSem.ClaimJoined
import GoSem.ClaimMapViews
import Derived.JoinedTies
import Derived.KernelRfl
namespace Go.Proofs.Ytibpkgopbecfoaa
/- THE CELL 'sum', in the pinned program and in every row, IS THE sha256 OF THE DUMP (.gsa) THAT YtibpkgopbecfoaaProg.lean LOADS. Nothing in Lean hashes anything: it is a label: what it is worth is what the hold of that sum in a sandbox is worth. -/
noncomputable def Try.pinned : Pinned := { name := "ytibpkgopbecfoaa", sum := "85dc4a97bc5292d290b61010f6dd94d49549ce5e4afb33abfbc8ecd29cabb3d9", checked := Try.checked }
namespace Rows
def none {H : Type} : Left H := { results := [], args := [] }

/-- 'fairlinklaw18.UpdownNodes': WHATEVER THE INPUT: true; the input reads as it did. -/
def updownNodesSpec : ChangeSpec := { name := "updownNodes", fn := fun _ => fun
  | [d1, d2, d3] => { results := [.lit (.bool true)], args := [d1, d2, d3] }
  | _ => none }
def updownNodesRow : OpenClaim := { program := "ytibpkgopbecfoaa", sum := "85dc4a97bc5292d290b61010f6dd94d49549ce5e4afb33abfbc8ecd29cabb3d9", func := "fairlink/fairlinklaw18.UpdownNodes", spec := "updownNodes", unfollowed := true, recurses := true, plainKeys := false, apart := false }
def UpdownNodesSaid : Prop := updownNodesRow.holds Try.pinned (OpenSpec.ofChange updownNodesSpec)

/-- ITS FALSE NEIGHBOUR: 'it returns false'. Refute it at one input. -/
def updownNodesWrong : ChangeSpec := { name := "updownNodes", fn := fun _ => fun
  | [d1, d2, d3] => { results := [.lit (.bool false)], args := [d1, d2, d3] }
  | _ => none }
def UpdownNodesWrongFalsely : Prop := updownNodesRow.holds Try.pinned (OpenSpec.ofChange updownNodesWrong)

/-- 'fairlinklaw18.UpdownLegal': WHATEVER THE INPUT: true; the input reads as it did. -/
def updownLegalSpec : ChangeSpec := { name := "updownLegal", fn := fun _ => fun
  | [d1, d2, d3, d4] => { results := [.lit (.bool true)], args := [d1, d2, d3, d4] }
  | _ => none }
def updownLegalRow : OpenClaim := { program := "ytibpkgopbecfoaa", sum := "85dc4a97bc5292d290b61010f6dd94d49549ce5e4afb33abfbc8ecd29cabb3d9", func := "fairlink/fairlinklaw18.UpdownLegal", spec := "updownLegal", unfollowed := true, recurses := true, plainKeys := false, apart := false }
def UpdownLegalSaid : Prop := updownLegalRow.holds Try.pinned (OpenSpec.ofChange updownLegalSpec)

/-- ITS FALSE NEIGHBOUR: 'it returns false'. Refute it at one input. -/
def updownLegalWrong : ChangeSpec := { name := "updownLegal", fn := fun _ => fun
  | [d1, d2, d3, d4] => { results := [.lit (.bool false)], args := [d1, d2, d3, d4] }
  | _ => none }
def UpdownLegalWrongFalsely : Prop := updownLegalRow.holds Try.pinned (OpenSpec.ofChange updownLegalWrong)

/-- 'fairlinklaw18.UpdownPaths': WHATEVER THE INPUT: true; the input reads as it did. -/
def updownPathsSpec : ChangeSpec := { name := "updownPaths", fn := fun _ => fun
  | [d1, d2, d3, d4, d5] => { results := [.lit (.bool true)], args := [d1, d2, d3, d4, d5] }
  | _ => none }
def updownPathsRow : OpenClaim := { program := "ytibpkgopbecfoaa", sum := "85dc4a97bc5292d290b61010f6dd94d49549ce5e4afb33abfbc8ecd29cabb3d9", func := "fairlink/fairlinklaw18.UpdownPaths", spec := "updownPaths", unfollowed := true, recurses := true, plainKeys := false, apart := false }
def UpdownPathsSaid : Prop := updownPathsRow.holds Try.pinned (OpenSpec.ofChange updownPathsSpec)

/-- ITS FALSE NEIGHBOUR: 'it returns false'. Refute it at one input. -/
def updownPathsWrong : ChangeSpec := { name := "updownPaths", fn := fun _ => fun
  | [d1, d2, d3, d4, d5] => { results := [.lit (.bool false)], args := [d1, d2, d3, d4, d5] }
  | _ => none }
def UpdownPathsWrongFalsely : Prop := updownPathsRow.holds Try.pinned (OpenSpec.ofChange updownPathsWrong)

/-- 'fairlinklaw18.UpdownDistances': WHATEVER THE INPUT: true; the input reads as it did. -/
def updownDistancesSpec : ChangeSpec := { name := "updownDistances", fn := fun _ => fun
  | [d1, d2, d3, d4] => { results := [.lit (.bool true)], args := [d1, d2, d3, d4] }
  | _ => none }
def updownDistancesRow : OpenClaim := { program := "ytibpkgopbecfoaa", sum := "85dc4a97bc5292d290b61010f6dd94d49549ce5e4afb33abfbc8ecd29cabb3d9", func := "fairlink/fairlinklaw18.UpdownDistances", spec := "updownDistances", unfollowed := true, recurses := true, plainKeys := false, apart := false }
def UpdownDistancesSaid : Prop := updownDistancesRow.holds Try.pinned (OpenSpec.ofChange updownDistancesSpec)

/-- ITS FALSE NEIGHBOUR: 'it returns false'. Refute it at one input. -/
def updownDistancesWrong : ChangeSpec := { name := "updownDistances", fn := fun _ => fun
  | [d1, d2, d3, d4] => { results := [.lit (.bool false)], args := [d1, d2, d3, d4] }
  | _ => none }
def UpdownDistancesWrongFalsely : Prop := updownDistancesRow.holds Try.pinned (OpenSpec.ofChange updownDistancesWrong)

/-- 'fairlinklaw18.UpdownChooses': WHATEVER THE INPUT: true; the input reads as it did. -/
def updownChoosesSpec : ChangeSpec := { name := "updownChooses", fn := fun _ => fun
  | [d1, d2, d3, d4, d5] => { results := [.lit (.bool true)], args := [d1, d2, d3, d4, d5] }
  | _ => none }
def updownChoosesRow : OpenClaim := { program := "ytibpkgopbecfoaa", sum := "85dc4a97bc5292d290b61010f6dd94d49549ce5e4afb33abfbc8ecd29cabb3d9", func := "fairlink/fairlinklaw18.UpdownChooses", spec := "updownChooses", unfollowed := true, recurses := true, plainKeys := false, apart := false }
def UpdownChoosesSaid : Prop := updownChoosesRow.holds Try.pinned (OpenSpec.ofChange updownChoosesSpec)

/-- ITS FALSE NEIGHBOUR: 'it returns false'. Refute it at one input. -/
def updownChoosesWrong : ChangeSpec := { name := "updownChooses", fn := fun _ => fun
  | [d1, d2, d3, d4, d5] => { results := [.lit (.bool false)], args := [d1, d2, d3, d4, d5] }
  | _ => none }
def UpdownChoosesWrongFalsely : Prop := updownChoosesRow.holds Try.pinned (OpenSpec.ofChange updownChoosesWrong)

/-- 'fairlinklaw18.UpdownTurns': WHATEVER THE INPUT: true; the input reads as it did. -/
def updownTurnsSpec : ChangeSpec := { name := "updownTurns", fn := fun _ => fun
  | [d1, d2, d3, d4] => { results := [.lit (.bool true)], args := [d1, d2, d3, d4] }
  | _ => none }
def updownTurnsRow : OpenClaim := { program := "ytibpkgopbecfoaa", sum := "85dc4a97bc5292d290b61010f6dd94d49549ce5e4afb33abfbc8ecd29cabb3d9", func := "fairlink/fairlinklaw18.UpdownTurns", spec := "updownTurns", unfollowed := true, recurses := true, plainKeys := false, apart := false }
def UpdownTurnsSaid : Prop := updownTurnsRow.holds Try.pinned (OpenSpec.ofChange updownTurnsSpec)

/-- ITS FALSE NEIGHBOUR: 'it returns false'. Refute it at one input. -/
def updownTurnsWrong : ChangeSpec := { name := "updownTurns", fn := fun _ => fun
  | [d1, d2, d3, d4] => { results := [.lit (.bool false)], args := [d1, d2, d3, d4] }
  | _ => none }
def UpdownTurnsWrongFalsely : Prop := updownTurnsRow.holds Try.pinned (OpenSpec.ofChange updownTurnsWrong)

/-- 'fairlinklaw18.UpdownReverse': WHATEVER THE INPUT: true; the input reads as it did. -/
def updownReverseSpec : ChangeSpec := { name := "updownReverse", fn := fun _ => fun
  | [d1, d2, d3, d4, d5] => { results := [.lit (.bool true)], args := [d1, d2, d3, d4, d5] }
  | _ => none }
def updownReverseRow : OpenClaim := { program := "ytibpkgopbecfoaa", sum := "85dc4a97bc5292d290b61010f6dd94d49549ce5e4afb33abfbc8ecd29cabb3d9", func := "fairlink/fairlinklaw18.UpdownReverse", spec := "updownReverse", unfollowed := true, recurses := true, plainKeys := false, apart := false }
def UpdownReverseSaid : Prop := updownReverseRow.holds Try.pinned (OpenSpec.ofChange updownReverseSpec)

/-- ITS FALSE NEIGHBOUR: 'it returns false'. Refute it at one input. -/
def updownReverseWrong : ChangeSpec := { name := "updownReverse", fn := fun _ => fun
  | [d1, d2, d3, d4, d5] => { results := [.lit (.bool false)], args := [d1, d2, d3, d4, d5] }
  | _ => none }
def UpdownReverseWrongFalsely : Prop := updownReverseRow.holds Try.pinned (OpenSpec.ofChange updownReverseWrong)

/-- 'fairlinklaw18.UpdownLeast': WHATEVER THE INPUT: true; the input reads as it did. -/
def updownLeastSpec : ChangeSpec := { name := "updownLeast", fn := fun _ => fun
  | [d1, d2, d3, d4, d5] => { results := [.lit (.bool true)], args := [d1, d2, d3, d4, d5] }
  | _ => none }
def updownLeastRow : OpenClaim := { program := "ytibpkgopbecfoaa", sum := "85dc4a97bc5292d290b61010f6dd94d49549ce5e4afb33abfbc8ecd29cabb3d9", func := "fairlink/fairlinklaw18.UpdownLeast", spec := "updownLeast", unfollowed := true, recurses := true, plainKeys := false, apart := false }
def UpdownLeastSaid : Prop := updownLeastRow.holds Try.pinned (OpenSpec.ofChange updownLeastSpec)

/-- ITS FALSE NEIGHBOUR: 'it returns false'. Refute it at one input. -/
def updownLeastWrong : ChangeSpec := { name := "updownLeast", fn := fun _ => fun
  | [d1, d2, d3, d4, d5] => { results := [.lit (.bool false)], args := [d1, d2, d3, d4, d5] }
  | _ => none }
def UpdownLeastWrongFalsely : Prop := updownLeastRow.holds Try.pinned (OpenSpec.ofChange updownLeastWrong)

/-- 'fairlinklaw18.UpdownRest': WHATEVER THE INPUT: true; the input reads as it did. -/
def updownRestSpec : ChangeSpec := { name := "updownRest", fn := fun _ => fun
  | [d1, d2, d3, d4, d5] => { results := [.lit (.bool true)], args := [d1, d2, d3, d4, d5] }
  | _ => none }
def updownRestRow : OpenClaim := { program := "ytibpkgopbecfoaa", sum := "85dc4a97bc5292d290b61010f6dd94d49549ce5e4afb33abfbc8ecd29cabb3d9", func := "fairlink/fairlinklaw18.UpdownRest", spec := "updownRest", unfollowed := true, recurses := true, plainKeys := false, apart := false }
def UpdownRestSaid : Prop := updownRestRow.holds Try.pinned (OpenSpec.ofChange updownRestSpec)

/-- ITS FALSE NEIGHBOUR: 'it returns false'. Refute it at one input. -/
def updownRestWrong : ChangeSpec := { name := "updownRest", fn := fun _ => fun
  | [d1, d2, d3, d4, d5] => { results := [.lit (.bool false)], args := [d1, d2, d3, d4, d5] }
  | _ => none }
def UpdownRestWrongFalsely : Prop := updownRestRow.holds Try.pinned (OpenSpec.ofChange updownRestWrong)

/-- 'fairlinklaw18.UpdownReaches': WHATEVER THE INPUT: true; the input reads as it did. -/
def updownReachesSpec : ChangeSpec := { name := "updownReaches", fn := fun _ => fun
  | [d1, d2, d3] => { results := [.lit (.bool true)], args := [d1, d2, d3] }
  | _ => none }
def updownReachesRow : OpenClaim := { program := "ytibpkgopbecfoaa", sum := "85dc4a97bc5292d290b61010f6dd94d49549ce5e4afb33abfbc8ecd29cabb3d9", func := "fairlink/fairlinklaw18.UpdownReaches", spec := "updownReaches", unfollowed := true, recurses := true, plainKeys := false, apart := false }
def UpdownReachesSaid : Prop := updownReachesRow.holds Try.pinned (OpenSpec.ofChange updownReachesSpec)

/-- ITS FALSE NEIGHBOUR: 'it returns false'. Refute it at one input. -/
def updownReachesWrong : ChangeSpec := { name := "updownReaches", fn := fun _ => fun
  | [d1, d2, d3] => { results := [.lit (.bool false)], args := [d1, d2, d3] }
  | _ => none }
def UpdownReachesWrongFalsely : Prop := updownReachesRow.holds Try.pinned (OpenSpec.ofChange updownReachesWrong)

/- THE SECOND FORM. 'bulk': how many values and letters a reading holds, each counted each time it is reached (what is shared counts as often as it is met; a slice's spare places count too). A statement '..UptoSaid' is the law's where the arguments, and the package variables that the reading takes, are together of bulk at most 1048576: NARROWER than '..Said'. Prove '..Said' where nothing that the law and all that it calls make is longer than what came in: it says more and counts as full. Else prove '..UptoSaid'. A law counts once. -/
mutual
def uptoBulk {H : Type} : DataW H → Nat
  | .lit (.string bytes) => bytes.length + 1
  | .lit _ => 1
  | .nil => 1
  | .ptr d => uptoBulk d + 1
  | .slice elems spare => uptoBulkAll elems + uptoBulkAll spare + 1
  | .agg parts => uptoBulkAll parts + 1
  | .iface _ d => uptoBulk d + 1
  | .map entries => uptoBulkEntries entries + 1
  | .held _ => 1
def uptoBulkAll {H : Type} : List (DataW H) → Nat
  | [] => 0
  | d :: r => uptoBulk d + uptoBulkAll r
def uptoBulkEntries {H : Type} : List (Lit × DataW H) → Nat
  | [] => 0
  | x :: r => uptoBulkEntry x + uptoBulkEntries r
def uptoBulkEntry {H : Type} : Lit × DataW H → Nat
  | (.string bytes, d) => bytes.length + uptoBulk d + 1
  | (_, d) => uptoBulk d + 1
 end
def uptoSmall : (H : Type) → List (DataW H) → Bool := fun _ ds => decide (uptoBulkAll ds ≤ 1048576)
def OpenSpec.upto (s : _root_.Go.ChangeSpec) : _root_.Go.OpenSpec := { _root_.Go.OpenSpec.ofChange s with cond := some uptoSmall }

/-- 'fairlinklaw18.UpdownNodes', WHERE WHAT IT READS IS OF BULK AT MOST 1048576: true; the input reads as it did. -/
def updownNodesUptoRow : OpenClaim := { program := "ytibpkgopbecfoaa", sum := "85dc4a97bc5292d290b61010f6dd94d49549ce5e4afb33abfbc8ecd29cabb3d9", func := "fairlink/fairlinklaw18.UpdownNodes", spec := "updownNodes", unfollowed := true, recurses := true, plainKeys := false, apart := false, narrowed := true }
def UpdownNodesUptoSaid : Prop := updownNodesUptoRow.holds Try.pinned (OpenSpec.upto updownNodesSpec)

/-- 'fairlinklaw18.UpdownLegal', WHERE WHAT IT READS IS OF BULK AT MOST 1048576: true; the input reads as it did. -/
def updownLegalUptoRow : OpenClaim := { program := "ytibpkgopbecfoaa", sum := "85dc4a97bc5292d290b61010f6dd94d49549ce5e4afb33abfbc8ecd29cabb3d9", func := "fairlink/fairlinklaw18.UpdownLegal", spec := "updownLegal", unfollowed := true, recurses := true, plainKeys := false, apart := false, narrowed := true }
def UpdownLegalUptoSaid : Prop := updownLegalUptoRow.holds Try.pinned (OpenSpec.upto updownLegalSpec)

/-- 'fairlinklaw18.UpdownPaths', WHERE WHAT IT READS IS OF BULK AT MOST 1048576: true; the input reads as it did. -/
def updownPathsUptoRow : OpenClaim := { program := "ytibpkgopbecfoaa", sum := "85dc4a97bc5292d290b61010f6dd94d49549ce5e4afb33abfbc8ecd29cabb3d9", func := "fairlink/fairlinklaw18.UpdownPaths", spec := "updownPaths", unfollowed := true, recurses := true, plainKeys := false, apart := false, narrowed := true }
def UpdownPathsUptoSaid : Prop := updownPathsUptoRow.holds Try.pinned (OpenSpec.upto updownPathsSpec)

/-- 'fairlinklaw18.UpdownDistances', WHERE WHAT IT READS IS OF BULK AT MOST 1048576: true; the input reads as it did. -/
def updownDistancesUptoRow : OpenClaim := { program := "ytibpkgopbecfoaa", sum := "85dc4a97bc5292d290b61010f6dd94d49549ce5e4afb33abfbc8ecd29cabb3d9", func := "fairlink/fairlinklaw18.UpdownDistances", spec := "updownDistances", unfollowed := true, recurses := true, plainKeys := false, apart := false, narrowed := true }
def UpdownDistancesUptoSaid : Prop := updownDistancesUptoRow.holds Try.pinned (OpenSpec.upto updownDistancesSpec)

/-- 'fairlinklaw18.UpdownChooses', WHERE WHAT IT READS IS OF BULK AT MOST 1048576: true; the input reads as it did. -/
def updownChoosesUptoRow : OpenClaim := { program := "ytibpkgopbecfoaa", sum := "85dc4a97bc5292d290b61010f6dd94d49549ce5e4afb33abfbc8ecd29cabb3d9", func := "fairlink/fairlinklaw18.UpdownChooses", spec := "updownChooses", unfollowed := true, recurses := true, plainKeys := false, apart := false, narrowed := true }
def UpdownChoosesUptoSaid : Prop := updownChoosesUptoRow.holds Try.pinned (OpenSpec.upto updownChoosesSpec)

/-- 'fairlinklaw18.UpdownTurns', WHERE WHAT IT READS IS OF BULK AT MOST 1048576: true; the input reads as it did. -/
def updownTurnsUptoRow : OpenClaim := { program := "ytibpkgopbecfoaa", sum := "85dc4a97bc5292d290b61010f6dd94d49549ce5e4afb33abfbc8ecd29cabb3d9", func := "fairlink/fairlinklaw18.UpdownTurns", spec := "updownTurns", unfollowed := true, recurses := true, plainKeys := false, apart := false, narrowed := true }
def UpdownTurnsUptoSaid : Prop := updownTurnsUptoRow.holds Try.pinned (OpenSpec.upto updownTurnsSpec)

/-- 'fairlinklaw18.UpdownReverse', WHERE WHAT IT READS IS OF BULK AT MOST 1048576: true; the input reads as it did. -/
def updownReverseUptoRow : OpenClaim := { program := "ytibpkgopbecfoaa", sum := "85dc4a97bc5292d290b61010f6dd94d49549ce5e4afb33abfbc8ecd29cabb3d9", func := "fairlink/fairlinklaw18.UpdownReverse", spec := "updownReverse", unfollowed := true, recurses := true, plainKeys := false, apart := false, narrowed := true }
def UpdownReverseUptoSaid : Prop := updownReverseUptoRow.holds Try.pinned (OpenSpec.upto updownReverseSpec)

/-- 'fairlinklaw18.UpdownLeast', WHERE WHAT IT READS IS OF BULK AT MOST 1048576: true; the input reads as it did. -/
def updownLeastUptoRow : OpenClaim := { program := "ytibpkgopbecfoaa", sum := "85dc4a97bc5292d290b61010f6dd94d49549ce5e4afb33abfbc8ecd29cabb3d9", func := "fairlink/fairlinklaw18.UpdownLeast", spec := "updownLeast", unfollowed := true, recurses := true, plainKeys := false, apart := false, narrowed := true }
def UpdownLeastUptoSaid : Prop := updownLeastUptoRow.holds Try.pinned (OpenSpec.upto updownLeastSpec)

/-- 'fairlinklaw18.UpdownRest', WHERE WHAT IT READS IS OF BULK AT MOST 1048576: true; the input reads as it did. -/
def updownRestUptoRow : OpenClaim := { program := "ytibpkgopbecfoaa", sum := "85dc4a97bc5292d290b61010f6dd94d49549ce5e4afb33abfbc8ecd29cabb3d9", func := "fairlink/fairlinklaw18.UpdownRest", spec := "updownRest", unfollowed := true, recurses := true, plainKeys := false, apart := false, narrowed := true }
def UpdownRestUptoSaid : Prop := updownRestUptoRow.holds Try.pinned (OpenSpec.upto updownRestSpec)

/-- 'fairlinklaw18.UpdownReaches', WHERE WHAT IT READS IS OF BULK AT MOST 1048576: true; the input reads as it did. -/
def updownReachesUptoRow : OpenClaim := { program := "ytibpkgopbecfoaa", sum := "85dc4a97bc5292d290b61010f6dd94d49549ce5e4afb33abfbc8ecd29cabb3d9", func := "fairlink/fairlinklaw18.UpdownReaches", spec := "updownReaches", unfollowed := true, recurses := true, plainKeys := false, apart := false, narrowed := true }
def UpdownReachesUptoSaid : Prop := updownReachesUptoRow.holds Try.pinned (OpenSpec.upto updownReachesSpec)

end Rows
end Go.Proofs.Ytibpkgopbecfoaa
