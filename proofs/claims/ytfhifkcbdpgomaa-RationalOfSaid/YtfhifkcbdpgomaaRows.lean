/-
  No cell of these rows narrows 'for every input' (looked for: loops, veiled, ifaces, maps, wideKeys, modest, calm, conditions, laid).
  DERIVED. THE GIVEN ROWS OF THIS SEAT. 7 by the template 'for every input the law returns true; each argument reads behind the call as it read before'; 0 by the template 'total and deterministic' (their statements: YtfhifkcbdpgomaaTotals.lean).
  GIVEN WITH THE SEED: the statements are not yours to turn. If you find one false, say at which input.
  Laid BY PROGRAM, IN A SANDBOX (cutbox-rows.mjs): the forced cells as the released guide's own fill.sh prints them over the translation 0abbefb8375db7e4… (all of the seat's roots in one cut). By AI agents, Wed Nov 11 2026. No macro, syntax, notation, axiom, sorry.
-/
import Derived.Test.YtfhifkcbdpgomaaChecked
import GoSem.Claim
import GoSem.ClaimJoined
import GoSem.ClaimMapViews
import Derived.JoinedTies
import Derived.KernelRfl
namespace Go.Proofs.Ytfhifkcbdpgomaa
/- THE CELL 'sum', in the pinned program and in every row, IS THE sha256 OF THE DUMP (.gsa) THAT YtfhifkcbdpgomaaProg.lean LOADS. Nothing in Lean hashes anything: it is a label: what it is worth is what the hold of that sum in a sandbox is worth. -/
noncomputable def Try.pinned : Pinned := { name := "ytfhifkcbdpgomaa", sum := "0abbefb8375db7e4bcb13e2589ec3972f81aecc000ff5d904c59167a15041280", checked := Try.checked }
namespace Rows
def none {H : Type} : Left H := { results := [], args := [] }

/-- 'fairlinklaw01.RationalField': WHATEVER THE INPUT: true; the input reads as it did. -/
def rationalFieldSpec : ChangeSpec := { name := "rationalField", fn := fun _ => fun
  | [d1, d2, d3] => { results := [.lit (.bool true)], args := [d1, d2, d3] }
  | _ => none }
def rationalFieldRow : OpenClaim := { program := "ytfhifkcbdpgomaa", sum := "0abbefb8375db7e4bcb13e2589ec3972f81aecc000ff5d904c59167a15041280", func := "fairlink/fairlinklaw01.RationalField", spec := "rationalField", inPlace := ["math/bits.Add64", "math/bits.Sub64"], named := ["math/bits.divideError", "math/bits.overflowError"], apart := false }
def RationalFieldSaid : Prop := rationalFieldRow.holds Try.pinned (OpenSpec.ofChange rationalFieldSpec)

/-- ITS FALSE NEIGHBOUR: 'it returns false'. Refute it at one input. -/
def rationalFieldWrong : ChangeSpec := { name := "rationalField", fn := fun _ => fun
  | [d1, d2, d3] => { results := [.lit (.bool false)], args := [d1, d2, d3] }
  | _ => none }
def RationalFieldWrongFalsely : Prop := rationalFieldRow.holds Try.pinned (OpenSpec.ofChange rationalFieldWrong)

/-- 'fairlinklaw01.RationalComputes': WHATEVER THE INPUT: true; the input reads as it did. -/
def rationalComputesSpec : ChangeSpec := { name := "rationalComputes", fn := fun _ => fun
  | [d1, d2] => { results := [.lit (.bool true)], args := [d1, d2] }
  | _ => none }
def rationalComputesRow : OpenClaim := { program := "ytfhifkcbdpgomaa", sum := "0abbefb8375db7e4bcb13e2589ec3972f81aecc000ff5d904c59167a15041280", func := "fairlink/fairlinklaw01.RationalComputes", spec := "rationalComputes", inPlace := ["math/bits.Add64", "math/bits.Sub64"], named := ["math/bits.divideError", "math/bits.overflowError"], apart := false }
def RationalComputesSaid : Prop := rationalComputesRow.holds Try.pinned (OpenSpec.ofChange rationalComputesSpec)

/-- ITS FALSE NEIGHBOUR: 'it returns false'. Refute it at one input. -/
def rationalComputesWrong : ChangeSpec := { name := "rationalComputes", fn := fun _ => fun
  | [d1, d2] => { results := [.lit (.bool false)], args := [d1, d2] }
  | _ => none }
def RationalComputesWrongFalsely : Prop := rationalComputesRow.holds Try.pinned (OpenSpec.ofChange rationalComputesWrong)

/-- 'fairlinklaw01.RationalOf': WHATEVER THE INPUT: true; the input reads as it did. -/
def rationalOfSpec : ChangeSpec := { name := "rationalOf", fn := fun _ => fun
  | [d1, d2, d3] => { results := [.lit (.bool true)], args := [d1, d2, d3] }
  | _ => none }
def rationalOfRow : OpenClaim := { program := "ytfhifkcbdpgomaa", sum := "0abbefb8375db7e4bcb13e2589ec3972f81aecc000ff5d904c59167a15041280", func := "fairlink/fairlinklaw01.RationalOf", spec := "rationalOf", inPlace := ["math/bits.Add64", "math/bits.Sub64"], named := ["math/bits.divideError", "math/bits.overflowError"], apart := false }
def RationalOfSaid : Prop := rationalOfRow.holds Try.pinned (OpenSpec.ofChange rationalOfSpec)

/-- ITS FALSE NEIGHBOUR: 'it returns false'. Refute it at one input. -/
def rationalOfWrong : ChangeSpec := { name := "rationalOf", fn := fun _ => fun
  | [d1, d2, d3] => { results := [.lit (.bool false)], args := [d1, d2, d3] }
  | _ => none }
def RationalOfWrongFalsely : Prop := rationalOfRow.holds Try.pinned (OpenSpec.ofChange rationalOfWrong)

/-- 'fairlinklaw01.RationalSums': WHATEVER THE INPUT: true; the input reads as it did. -/
def rationalSumsSpec : ChangeSpec := { name := "rationalSums", fn := fun _ => fun
  | [d] => { results := [.lit (.bool true)], args := [d] }
  | _ => none }
def rationalSumsRow : OpenClaim := { program := "ytfhifkcbdpgomaa", sum := "0abbefb8375db7e4bcb13e2589ec3972f81aecc000ff5d904c59167a15041280", func := "fairlink/fairlinklaw01.RationalSums", spec := "rationalSums", inPlace := ["math/bits.Add64", "math/bits.Sub64"], named := ["math/bits.divideError", "math/bits.overflowError"], apart := false }
def RationalSumsSaid : Prop := rationalSumsRow.holds Try.pinned (OpenSpec.ofChange rationalSumsSpec)

/-- ITS FALSE NEIGHBOUR: 'it returns false'. Refute it at one input. -/
def rationalSumsWrong : ChangeSpec := { name := "rationalSums", fn := fun _ => fun
  | [d] => { results := [.lit (.bool false)], args := [d] }
  | _ => none }
def RationalSumsWrongFalsely : Prop := rationalSumsRow.holds Try.pinned (OpenSpec.ofChange rationalSumsWrong)

/-- 'fairlinklaw01.RationalOrders': WHATEVER THE INPUT: true; the input reads as it did. -/
def rationalOrdersSpec : ChangeSpec := { name := "rationalOrders", fn := fun _ => fun
  | [d1, d2, d3] => { results := [.lit (.bool true)], args := [d1, d2, d3] }
  | _ => none }
def rationalOrdersRow : OpenClaim := { program := "ytfhifkcbdpgomaa", sum := "0abbefb8375db7e4bcb13e2589ec3972f81aecc000ff5d904c59167a15041280", func := "fairlink/fairlinklaw01.RationalOrders", spec := "rationalOrders", inPlace := ["math/bits.Add64", "math/bits.Sub64"], named := ["math/bits.divideError", "math/bits.overflowError"], apart := false }
def RationalOrdersSaid : Prop := rationalOrdersRow.holds Try.pinned (OpenSpec.ofChange rationalOrdersSpec)

/-- ITS FALSE NEIGHBOUR: 'it returns false'. Refute it at one input. -/
def rationalOrdersWrong : ChangeSpec := { name := "rationalOrders", fn := fun _ => fun
  | [d1, d2, d3] => { results := [.lit (.bool false)], args := [d1, d2, d3] }
  | _ => none }
def RationalOrdersWrongFalsely : Prop := rationalOrdersRow.holds Try.pinned (OpenSpec.ofChange rationalOrdersWrong)

/-- 'fairlinklaw01.RationalFloors': WHATEVER THE INPUT: true; the input reads as it did. -/
def rationalFloorsSpec : ChangeSpec := { name := "rationalFloors", fn := fun _ => fun
  | [d] => { results := [.lit (.bool true)], args := [d] }
  | _ => none }
def rationalFloorsRow : OpenClaim := { program := "ytfhifkcbdpgomaa", sum := "0abbefb8375db7e4bcb13e2589ec3972f81aecc000ff5d904c59167a15041280", func := "fairlink/fairlinklaw01.RationalFloors", spec := "rationalFloors", inPlace := ["math/bits.Add64", "math/bits.Sub64"], named := ["math/bits.divideError", "math/bits.overflowError"], apart := false }
def RationalFloorsSaid : Prop := rationalFloorsRow.holds Try.pinned (OpenSpec.ofChange rationalFloorsSpec)

/-- ITS FALSE NEIGHBOUR: 'it returns false'. Refute it at one input. -/
def rationalFloorsWrong : ChangeSpec := { name := "rationalFloors", fn := fun _ => fun
  | [d] => { results := [.lit (.bool false)], args := [d] }
  | _ => none }
def RationalFloorsWrongFalsely : Prop := rationalFloorsRow.holds Try.pinned (OpenSpec.ofChange rationalFloorsWrong)

/-- 'fairlinklaw01.RationalUndoes': WHATEVER THE INPUT: true; the input reads as it did. -/
def rationalUndoesSpec : ChangeSpec := { name := "rationalUndoes", fn := fun _ => fun
  | [d1, d2] => { results := [.lit (.bool true)], args := [d1, d2] }
  | _ => none }
def rationalUndoesRow : OpenClaim := { program := "ytfhifkcbdpgomaa", sum := "0abbefb8375db7e4bcb13e2589ec3972f81aecc000ff5d904c59167a15041280", func := "fairlink/fairlinklaw01.RationalUndoes", spec := "rationalUndoes", inPlace := ["math/bits.Add64", "math/bits.Sub64"], named := ["math/bits.divideError", "math/bits.overflowError"], apart := false }
def RationalUndoesSaid : Prop := rationalUndoesRow.holds Try.pinned (OpenSpec.ofChange rationalUndoesSpec)

/-- ITS FALSE NEIGHBOUR: 'it returns false'. Refute it at one input. -/
def rationalUndoesWrong : ChangeSpec := { name := "rationalUndoes", fn := fun _ => fun
  | [d1, d2] => { results := [.lit (.bool false)], args := [d1, d2] }
  | _ => none }
def RationalUndoesWrongFalsely : Prop := rationalUndoesRow.holds Try.pinned (OpenSpec.ofChange rationalUndoesWrong)

/- THE SECOND FORM. 'bulk': how many values and letters a reading holds, each counted each time it is reached (what is shared counts as often as it is met; a slice's spare places count too). A statement '..UptoSaid' is the law's where the arguments, and the package variables that the reading takes, are together of bulk at most 1048576: NARROWER than '..Said'. Prove '..Said' where nothing that the law and all that it calls make is longer than what came in: it says more and counts as full. Else prove '..UptoSaid'. A law counts once. -/
mutual
def uptoBulk {H : Type} : DataW H → Nat
  | .lit (.string bytes) => bytes.length + 1
  | .lit _ => 1
  | .nil => 1
  | .ptr d => uptoBulk d + 1
  | .slice elems spare => uptoBulkAll elems + uptoBulkAll spare + 1
  | .agg parts => uptoBulkAll parts + 1
  | .iface _ d => uptoBulk d + 1
  | .map entries => uptoBulkEntries entries + 1
  | .held _ => 1
def uptoBulkAll {H : Type} : List (DataW H) → Nat
  | [] => 0
  | d :: r => uptoBulk d + uptoBulkAll r
def uptoBulkEntries {H : Type} : List (Lit × DataW H) → Nat
  | [] => 0
  | x :: r => uptoBulkEntry x + uptoBulkEntries r
def uptoBulkEntry {H : Type} : Lit × DataW H → Nat
  | (.string bytes, d) => bytes.length + uptoBulk d + 1
  | (_, d) => uptoBulk d + 1
 end
def uptoSmall : (H : Type) → List (DataW H) → Bool := fun _ ds => decide (uptoBulkAll ds ≤ 1048576)
def OpenSpec.upto (s : _root_.Go.ChangeSpec) : _root_.Go.OpenSpec := { _root_.Go.OpenSpec.ofChange s with cond := some uptoSmall }

/-- 'fairlinklaw01.RationalField', WHERE WHAT IT READS IS OF BULK AT MOST 1048576: true; the input reads as it did. -/
def rationalFieldUptoRow : OpenClaim := { program := "ytfhifkcbdpgomaa", sum := "0abbefb8375db7e4bcb13e2589ec3972f81aecc000ff5d904c59167a15041280", func := "fairlink/fairlinklaw01.RationalField", spec := "rationalField", inPlace := ["math/bits.Add64", "math/bits.Sub64"], named := ["math/bits.divideError", "math/bits.overflowError"], apart := false, narrowed := true }
def RationalFieldUptoSaid : Prop := rationalFieldUptoRow.holds Try.pinned (OpenSpec.upto rationalFieldSpec)

/-- 'fairlinklaw01.RationalComputes', WHERE WHAT IT READS IS OF BULK AT MOST 1048576: true; the input reads as it did. -/
def rationalComputesUptoRow : OpenClaim := { program := "ytfhifkcbdpgomaa", sum := "0abbefb8375db7e4bcb13e2589ec3972f81aecc000ff5d904c59167a15041280", func := "fairlink/fairlinklaw01.RationalComputes", spec := "rationalComputes", inPlace := ["math/bits.Add64", "math/bits.Sub64"], named := ["math/bits.divideError", "math/bits.overflowError"], apart := false, narrowed := true }
def RationalComputesUptoSaid : Prop := rationalComputesUptoRow.holds Try.pinned (OpenSpec.upto rationalComputesSpec)

/-- 'fairlinklaw01.RationalOf', WHERE WHAT IT READS IS OF BULK AT MOST 1048576: true; the input reads as it did. -/
def rationalOfUptoRow : OpenClaim := { program := "ytfhifkcbdpgomaa", sum := "0abbefb8375db7e4bcb13e2589ec3972f81aecc000ff5d904c59167a15041280", func := "fairlink/fairlinklaw01.RationalOf", spec := "rationalOf", inPlace := ["math/bits.Add64", "math/bits.Sub64"], named := ["math/bits.divideError", "math/bits.overflowError"], apart := false, narrowed := true }
def RationalOfUptoSaid : Prop := rationalOfUptoRow.holds Try.pinned (OpenSpec.upto rationalOfSpec)

/-- 'fairlinklaw01.RationalSums', WHERE WHAT IT READS IS OF BULK AT MOST 1048576: true; the input reads as it did. -/
def rationalSumsUptoRow : OpenClaim := { program := "ytfhifkcbdpgomaa", sum := "0abbefb8375db7e4bcb13e2589ec3972f81aecc000ff5d904c59167a15041280", func := "fairlink/fairlinklaw01.RationalSums", spec := "rationalSums", inPlace := ["math/bits.Add64", "math/bits.Sub64"], named := ["math/bits.divideError", "math/bits.overflowError"], apart := false, narrowed := true }
def RationalSumsUptoSaid : Prop := rationalSumsUptoRow.holds Try.pinned (OpenSpec.upto rationalSumsSpec)

/-- 'fairlinklaw01.RationalOrders', WHERE WHAT IT READS IS OF BULK AT MOST 1048576: true; the input reads as it did. -/
def rationalOrdersUptoRow : OpenClaim := { program := "ytfhifkcbdpgomaa", sum := "0abbefb8375db7e4bcb13e2589ec3972f81aecc000ff5d904c59167a15041280", func := "fairlink/fairlinklaw01.RationalOrders", spec := "rationalOrders", inPlace := ["math/bits.Add64", "math/bits.Sub64"], named := ["math/bits.divideError", "math/bits.overflowError"], apart := false, narrowed := true }
def RationalOrdersUptoSaid : Prop := rationalOrdersUptoRow.holds Try.pinned (OpenSpec.upto rationalOrdersSpec)

/-- 'fairlinklaw01.RationalFloors', WHERE WHAT IT READS IS OF BULK AT MOST 1048576: true; the input reads as it did. -/
def rationalFloorsUptoRow : OpenClaim := { program := "ytfhifkcbdpgomaa", sum := "0abbefb8375db7e4bcb13e2589ec3972f81aecc000ff5d904c59167a15041280", func := "fairlink/fairlinklaw01.RationalFloors", spec := "rationalFloors", inPlace := ["math/bits.Add64", "math/bits.Sub64"], named := ["math/bits.divideError", "math/bits.overflowError"], apart := false, narrowed := true }
def RationalFloorsUptoSaid : Prop := rationalFloorsUptoRow.holds Try.pinned (OpenSpec.upto rationalFloorsSpec)

/-- 'fairlinklaw01.RationalUndoes', WHERE WHAT IT READS IS OF BULK AT MOST 1048576: true; the input reads as it did. -/
def rationalUndoesUptoRow : OpenClaim := { program := "ytfhifkcbdpgomaa", sum := "0abbefb8375db7e4bcb13e2589ec3972f81aecc000ff5d904c59167a15041280", func := "fairlink/fairlinklaw01.RationalUndoes", spec := "rationalUndoes", inPlace := ["math/bits.Add64", "math/bits.Sub64"], named := ["math/bits.divideError", "math/bits.overflowError"], apart := false, narrowed := true }
def RationalUndoesUptoSaid : Prop := rationalUndoesUptoRow.holds Try.pinned (OpenSpec.upto rationalUndoesSpec)

end Rows
end Go.Proofs.Ytfhifkcbdpgomaa
