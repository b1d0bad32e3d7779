/-
  NARROWER THAN 'FOR EVERY INPUT', by the rows' own cells (each row's printed sentence says how): DemandValid: laid · DemandLinear: laid · DemandLoads: laid · DemandShrinks: laid · DemandFull: laid.
  DERIVED. THE GIVEN ROWS OF THIS SEAT. 5 by the template 'for every input the law returns true; each argument reads behind the call as it read before'; 0 by the template 'total and deterministic' (their statements: YtdfiicpikcdokaaDoorTotals.lean).
  GIVEN WITH THE SEED: the statements are not yours to turn. If you find one false, say at which input.
  Laid BY PROGRAM, IN A SANDBOX (cutbox-rows.mjs): the forced cells as the released guide's own fill.sh prints them over the translation 4da831dc5728d13c… (all of the seat's roots in one cut). By AI agents, Wed Nov 11 2026. No macro, syntax, notation, axiom, sorry.
-/
import Derived.Test.YtdfiicpikcdokaaDoorChecked
import GoSem.Claim
import GoSem.ClaimJoined
import GoSem.ClaimMapViews
import Derived.JoinedTies
import Derived.KernelRfl
namespace Go.Proofs.YtdfiicpikcdokaaDoor
/- THE CELL 'sum', in the pinned program and in every row, IS THE sha256 OF THE DUMP (.gsa) THAT YtdfiicpikcdokaaDoorProg.lean LOADS. Nothing in Lean hashes anything: it is a label: what it is worth is what the hold of that sum in a sandbox is worth. -/
noncomputable def Tryd.pinned : Pinned := { name := "ytdfiicpikcdokaadoor", sum := "4da831dc5728d13c64a437685d62703a6065a5fba82a9d44ea0614472a9a39ec", checked := Tryd.checked }
namespace Rows
def none {H : Type} : Left H := { results := [], args := [] }

/- WHAT THE LISTED PACKAGE-LEVEL VARIABLES READ AS WHEN THE CALL BEGINS. Each datum BY PROGRAM (the guide's laid-datum.mjs) off the statement by which the dump's own 'gosem.cut.vars' lays the variable. In a bare row this is a premise. The card (YtdfiicpikcdokaaDoorCards.lean) ties it to the program's text. -/
def laid_math_bits_deBruijn32tab {H : Type} : DataW H := .agg [.lit (.int .u8 0), .lit (.int .u8 1), .lit (.int .u8 28), .lit (.int .u8 2), .lit (.int .u8 29), .lit (.int .u8 14), .lit (.int .u8 24), .lit (.int .u8 3), .lit (.int .u8 30), .lit (.int .u8 22), .lit (.int .u8 20), .lit (.int .u8 15), .lit (.int .u8 25), .lit (.int .u8 17), .lit (.int .u8 4), .lit (.int .u8 8), .lit (.int .u8 31), .lit (.int .u8 27), .lit (.int .u8 13), .lit (.int .u8 23), .lit (.int .u8 21), .lit (.int .u8 19), .lit (.int .u8 16), .lit (.int .u8 7), .lit (.int .u8 26), .lit (.int .u8 12), .lit (.int .u8 18), .lit (.int .u8 6), .lit (.int .u8 11), .lit (.int .u8 5), .lit (.int .u8 10), .lit (.int .u8 9)]
def laid_math_bits_deBruijn64tab {H : Type} : DataW H := .agg [.lit (.int .u8 0), .lit (.int .u8 1), .lit (.int .u8 56), .lit (.int .u8 2), .lit (.int .u8 57), .lit (.int .u8 49), .lit (.int .u8 28), .lit (.int .u8 3), .lit (.int .u8 61), .lit (.int .u8 58), .lit (.int .u8 42), .lit (.int .u8 50), .lit (.int .u8 38), .lit (.int .u8 29), .lit (.int .u8 17), .lit (.int .u8 4), .lit (.int .u8 62), .lit (.int .u8 47), .lit (.int .u8 59), .lit (.int .u8 36), .lit (.int .u8 45), .lit (.int .u8 43), .lit (.int .u8 51), .lit (.int .u8 22), .lit (.int .u8 53), .lit (.int .u8 39), .lit (.int .u8 33), .lit (.int .u8 30), .lit (.int .u8 24), .lit (.int .u8 18), .lit (.int .u8 12), .lit (.int .u8 5), .lit (.int .u8 63), .lit (.int .u8 55), .lit (.int .u8 48), .lit (.int .u8 27), .lit (.int .u8 60), .lit (.int .u8 41), .lit (.int .u8 37), .lit (.int .u8 16), .lit (.int .u8 46), .lit (.int .u8 35), .lit (.int .u8 44), .lit (.int .u8 21), .lit (.int .u8 52), .lit (.int .u8 32), .lit (.int .u8 23), .lit (.int .u8 11), .lit (.int .u8 54), .lit (.int .u8 26), .lit (.int .u8 40), .lit (.int .u8 15), .lit (.int .u8 34), .lit (.int .u8 20), .lit (.int .u8 31), .lit (.int .u8 10), .lit (.int .u8 25), .lit (.int .u8 14), .lit (.int .u8 19), .lit (.int .u8 9), .lit (.int .u8 13), .lit (.int .u8 8), .lit (.int .u8 7), .lit (.int .u8 6)]
def laid_internal_strconv_uint64pow10 {H : Type} : DataW H := .agg [.lit (.int .u64 1), .lit (.int .u64 10), .lit (.int .u64 100), .lit (.int .u64 1000), .lit (.int .u64 10000), .lit (.int .u64 100000), .lit (.int .u64 1000000), .lit (.int .u64 10000000), .lit (.int .u64 100000000), .lit (.int .u64 1000000000), .lit (.int .u64 10000000000), .lit (.int .u64 100000000000), .lit (.int .u64 1000000000000), .lit (.int .u64 10000000000000), .lit (.int .u64 100000000000000), .lit (.int .u64 1000000000000000), .lit (.int .u64 10000000000000000), .lit (.int .u64 100000000000000000), .lit (.int .u64 1000000000000000000), .lit (.int .u64 10000000000000000000)]

/-- 'fairlinklaw33.DemandValid': WHATEVER THE INPUT: true; the input reads as it did. -/
def demandValidSpec : ChangeSpec := { name := "demandValid", fn := fun _ => fun
  | [d] => { results := [.lit (.bool true)], args := [d] }
  | _ => none }
def demandValidRow : OpenClaim := { program := "ytdfiicpikcdokaadoor", sum := "4da831dc5728d13c64a437685d62703a6065a5fba82a9d44ea0614472a9a39ec", func := "fairlink/fairlinklaw33.DemandValid", spec := "demandValid", inPlace := ["internal/abi.NoEscape", "math/bits.Add64", "math/bits.Sub64"], unfollowed := true, recurses := true, named := ["internal/strconv.uint64pow10", "math/bits.deBruijn32tab", "math/bits.deBruijn64tab", "math/bits.divideError", "math/bits.overflowError"], apart := false, laid := [("math/bits.deBruijn32tab", laid_math_bits_deBruijn32tab), ("math/bits.deBruijn64tab", laid_math_bits_deBruijn64tab), ("internal/strconv.uint64pow10", laid_internal_strconv_uint64pow10)] }
def DemandValidSaid : Prop := demandValidRow.holds Tryd.pinned (OpenSpec.ofChange demandValidSpec)

/-- ITS FALSE NEIGHBOUR: 'it returns false'. Refute it at one input. -/
def demandValidWrong : ChangeSpec := { name := "demandValid", fn := fun _ => fun
  | [d] => { results := [.lit (.bool false)], args := [d] }
  | _ => none }
def DemandValidWrongFalsely : Prop := demandValidRow.holds Tryd.pinned (OpenSpec.ofChange demandValidWrong)

/-- 'fairlinklaw33.DemandLinear': WHATEVER THE INPUT: true; the input reads as it did. -/
def demandLinearSpec : ChangeSpec := { name := "demandLinear", fn := fun _ => fun
  | [d1, d2, d3] => { results := [.lit (.bool true)], args := [d1, d2, d3] }
  | _ => none }
def demandLinearRow : OpenClaim := { program := "ytdfiicpikcdokaadoor", sum := "4da831dc5728d13c64a437685d62703a6065a5fba82a9d44ea0614472a9a39ec", func := "fairlink/fairlinklaw33.DemandLinear", spec := "demandLinear", inPlace := ["internal/abi.NoEscape", "math/bits.Add64", "math/bits.Sub64"], unfollowed := true, recurses := true, named := ["internal/strconv.uint64pow10", "math/bits.deBruijn32tab", "math/bits.deBruijn64tab", "math/bits.divideError", "math/bits.overflowError"], apart := false, laid := [("math/bits.deBruijn32tab", laid_math_bits_deBruijn32tab), ("math/bits.deBruijn64tab", laid_math_bits_deBruijn64tab), ("internal/strconv.uint64pow10", laid_internal_strconv_uint64pow10)] }
def DemandLinearSaid : Prop := demandLinearRow.holds Tryd.pinned (OpenSpec.ofChange demandLinearSpec)

/-- ITS FALSE NEIGHBOUR: 'it returns false'. Refute it at one input. -/
def demandLinearWrong : ChangeSpec := { name := "demandLinear", fn := fun _ => fun
  | [d1, d2, d3] => { results := [.lit (.bool false)], args := [d1, d2, d3] }
  | _ => none }
def DemandLinearWrongFalsely : Prop := demandLinearRow.holds Tryd.pinned (OpenSpec.ofChange demandLinearWrong)

/-- 'fairlinklaw33.DemandLoads': WHATEVER THE INPUT: true; the input reads as it did. -/
def demandLoadsSpec : ChangeSpec := { name := "demandLoads", fn := fun _ => fun
  | [d1, d2, d3] => { results := [.lit (.bool true)], args := [d1, d2, d3] }
  | _ => none }
def demandLoadsRow : OpenClaim := { program := "ytdfiicpikcdokaadoor", sum := "4da831dc5728d13c64a437685d62703a6065a5fba82a9d44ea0614472a9a39ec", func := "fairlink/fairlinklaw33.DemandLoads", spec := "demandLoads", inPlace := ["internal/abi.NoEscape", "math/bits.Add64", "math/bits.Sub64"], unfollowed := true, recurses := true, named := ["internal/strconv.uint64pow10", "math/bits.deBruijn32tab", "math/bits.deBruijn64tab", "math/bits.divideError", "math/bits.overflowError"], apart := false, laid := [("math/bits.deBruijn32tab", laid_math_bits_deBruijn32tab), ("math/bits.deBruijn64tab", laid_math_bits_deBruijn64tab), ("internal/strconv.uint64pow10", laid_internal_strconv_uint64pow10)] }
def DemandLoadsSaid : Prop := demandLoadsRow.holds Tryd.pinned (OpenSpec.ofChange demandLoadsSpec)

/-- ITS FALSE NEIGHBOUR: 'it returns false'. Refute it at one input. -/
def demandLoadsWrong : ChangeSpec := { name := "demandLoads", fn := fun _ => fun
  | [d1, d2, d3] => { results := [.lit (.bool false)], args := [d1, d2, d3] }
  | _ => none }
def DemandLoadsWrongFalsely : Prop := demandLoadsRow.holds Tryd.pinned (OpenSpec.ofChange demandLoadsWrong)

/-- 'fairlinklaw33.DemandShrinks': WHATEVER THE INPUT: true; the input reads as it did. -/
def demandShrinksSpec : ChangeSpec := { name := "demandShrinks", fn := fun _ => fun
  | [d1, d2, d3, d4] => { results := [.lit (.bool true)], args := [d1, d2, d3, d4] }
  | _ => none }
def demandShrinksRow : OpenClaim := { program := "ytdfiicpikcdokaadoor", sum := "4da831dc5728d13c64a437685d62703a6065a5fba82a9d44ea0614472a9a39ec", func := "fairlink/fairlinklaw33.DemandShrinks", spec := "demandShrinks", inPlace := ["internal/abi.NoEscape", "math/bits.Add64", "math/bits.Sub64"], unfollowed := true, recurses := true, named := ["internal/strconv.uint64pow10", "math/bits.deBruijn32tab", "math/bits.deBruijn64tab", "math/bits.divideError", "math/bits.overflowError"], apart := false, laid := [("math/bits.deBruijn32tab", laid_math_bits_deBruijn32tab), ("math/bits.deBruijn64tab", laid_math_bits_deBruijn64tab), ("internal/strconv.uint64pow10", laid_internal_strconv_uint64pow10)] }
def DemandShrinksSaid : Prop := demandShrinksRow.holds Tryd.pinned (OpenSpec.ofChange demandShrinksSpec)

/-- ITS FALSE NEIGHBOUR: 'it returns false'. Refute it at one input. -/
def demandShrinksWrong : ChangeSpec := { name := "demandShrinks", fn := fun _ => fun
  | [d1, d2, d3, d4] => { results := [.lit (.bool false)], args := [d1, d2, d3, d4] }
  | _ => none }
def DemandShrinksWrongFalsely : Prop := demandShrinksRow.holds Tryd.pinned (OpenSpec.ofChange demandShrinksWrong)

/-- 'fairlinklaw33.DemandFull': WHATEVER THE INPUT: true; the input reads as it did. -/
def demandFullSpec : ChangeSpec := { name := "demandFull", fn := fun _ => fun
  | [d1, d2, d3, d4, d5] => { results := [.lit (.bool true)], args := [d1, d2, d3, d4, d5] }
  | _ => none }
def demandFullRow : OpenClaim := { program := "ytdfiicpikcdokaadoor", sum := "4da831dc5728d13c64a437685d62703a6065a5fba82a9d44ea0614472a9a39ec", func := "fairlink/fairlinklaw33.DemandFull", spec := "demandFull", inPlace := ["internal/abi.NoEscape", "math/bits.Add64", "math/bits.Sub64"], unfollowed := true, recurses := true, named := ["internal/strconv.uint64pow10", "math/bits.deBruijn32tab", "math/bits.deBruijn64tab", "math/bits.divideError", "math/bits.overflowError"], apart := false, laid := [("math/bits.deBruijn32tab", laid_math_bits_deBruijn32tab), ("math/bits.deBruijn64tab", laid_math_bits_deBruijn64tab), ("internal/strconv.uint64pow10", laid_internal_strconv_uint64pow10)] }
def DemandFullSaid : Prop := demandFullRow.holds Tryd.pinned (OpenSpec.ofChange demandFullSpec)

/-- ITS FALSE NEIGHBOUR: 'it returns false'. Refute it at one input. -/
def demandFullWrong : ChangeSpec := { name := "demandFull", fn := fun _ => fun
  | [d1, d2, d3, d4, d5] => { results := [.lit (.bool false)], args := [d1, d2, d3, d4, d5] }
  | _ => none }
def DemandFullWrongFalsely : Prop := demandFullRow.holds Tryd.pinned (OpenSpec.ofChange demandFullWrong)

/- THE SECOND FORM. 'bulk': how many values and letters a reading holds, each counted each time it is reached (what is shared counts as often as it is met; a slice's spare places count too). A statement '..UptoSaid' is the law's where the arguments, and the package variables that the reading takes, are together of bulk at most 1048576: NARROWER than '..Said'. Prove '..Said' where nothing that the law and all that it calls make is longer than what came in: it says more and counts as full. Else prove '..UptoSaid'. A law counts once. -/
mutual
def uptoBulk {H : Type} : DataW H → Nat
  | .lit (.string bytes) => bytes.length + 1
  | .lit _ => 1
  | .nil => 1
  | .ptr d => uptoBulk d + 1
  | .slice elems spare => uptoBulkAll elems + uptoBulkAll spare + 1
  | .agg parts => uptoBulkAll parts + 1
  | .iface _ d => uptoBulk d + 1
  | .map entries => uptoBulkEntries entries + 1
  | .held _ => 1
def uptoBulkAll {H : Type} : List (DataW H) → Nat
  | [] => 0
  | d :: r => uptoBulk d + uptoBulkAll r
def uptoBulkEntries {H : Type} : List (Lit × DataW H) → Nat
  | [] => 0
  | x :: r => uptoBulkEntry x + uptoBulkEntries r
def uptoBulkEntry {H : Type} : Lit × DataW H → Nat
  | (.string bytes, d) => bytes.length + uptoBulk d + 1
  | (_, d) => uptoBulk d + 1
 end
def uptoSmall : (H : Type) → List (DataW H) → Bool := fun _ ds => decide (uptoBulkAll ds ≤ 1048576)
def OpenSpec.upto (s : _root_.Go.ChangeSpec) : _root_.Go.OpenSpec := { _root_.Go.OpenSpec.ofChange s with cond := some uptoSmall }

/-- 'fairlinklaw33.DemandValid', WHERE WHAT IT READS IS OF BULK AT MOST 1048576: true; the input reads as it did. -/
def demandValidUptoRow : OpenClaim := { program := "ytdfiicpikcdokaadoor", sum := "4da831dc5728d13c64a437685d62703a6065a5fba82a9d44ea0614472a9a39ec", func := "fairlink/fairlinklaw33.DemandValid", spec := "demandValid", inPlace := ["internal/abi.NoEscape", "math/bits.Add64", "math/bits.Sub64"], unfollowed := true, recurses := true, named := ["internal/strconv.uint64pow10", "math/bits.deBruijn32tab", "math/bits.deBruijn64tab", "math/bits.divideError", "math/bits.overflowError"], apart := false, laid := [("math/bits.deBruijn32tab", laid_math_bits_deBruijn32tab), ("math/bits.deBruijn64tab", laid_math_bits_deBruijn64tab), ("internal/strconv.uint64pow10", laid_internal_strconv_uint64pow10)], narrowed := true }
def DemandValidUptoSaid : Prop := demandValidUptoRow.holds Tryd.pinned (OpenSpec.upto demandValidSpec)

/-- 'fairlinklaw33.DemandLinear', WHERE WHAT IT READS IS OF BULK AT MOST 1048576: true; the input reads as it did. -/
def demandLinearUptoRow : OpenClaim := { program := "ytdfiicpikcdokaadoor", sum := "4da831dc5728d13c64a437685d62703a6065a5fba82a9d44ea0614472a9a39ec", func := "fairlink/fairlinklaw33.DemandLinear", spec := "demandLinear", inPlace := ["internal/abi.NoEscape", "math/bits.Add64", "math/bits.Sub64"], unfollowed := true, recurses := true, named := ["internal/strconv.uint64pow10", "math/bits.deBruijn32tab", "math/bits.deBruijn64tab", "math/bits.divideError", "math/bits.overflowError"], apart := false, laid := [("math/bits.deBruijn32tab", laid_math_bits_deBruijn32tab), ("math/bits.deBruijn64tab", laid_math_bits_deBruijn64tab), ("internal/strconv.uint64pow10", laid_internal_strconv_uint64pow10)], narrowed := true }
def DemandLinearUptoSaid : Prop := demandLinearUptoRow.holds Tryd.pinned (OpenSpec.upto demandLinearSpec)

/-- 'fairlinklaw33.DemandLoads', WHERE WHAT IT READS IS OF BULK AT MOST 1048576: true; the input reads as it did. -/
def demandLoadsUptoRow : OpenClaim := { program := "ytdfiicpikcdokaadoor", sum := "4da831dc5728d13c64a437685d62703a6065a5fba82a9d44ea0614472a9a39ec", func := "fairlink/fairlinklaw33.DemandLoads", spec := "demandLoads", inPlace := ["internal/abi.NoEscape", "math/bits.Add64", "math/bits.Sub64"], unfollowed := true, recurses := true, named := ["internal/strconv.uint64pow10", "math/bits.deBruijn32tab", "math/bits.deBruijn64tab", "math/bits.divideError", "math/bits.overflowError"], apart := false, laid := [("math/bits.deBruijn32tab", laid_math_bits_deBruijn32tab), ("math/bits.deBruijn64tab", laid_math_bits_deBruijn64tab), ("internal/strconv.uint64pow10", laid_internal_strconv_uint64pow10)], narrowed := true }
def DemandLoadsUptoSaid : Prop := demandLoadsUptoRow.holds Tryd.pinned (OpenSpec.upto demandLoadsSpec)

/-- 'fairlinklaw33.DemandShrinks', WHERE WHAT IT READS IS OF BULK AT MOST 1048576: true; the input reads as it did. -/
def demandShrinksUptoRow : OpenClaim := { program := "ytdfiicpikcdokaadoor", sum := "4da831dc5728d13c64a437685d62703a6065a5fba82a9d44ea0614472a9a39ec", func := "fairlink/fairlinklaw33.DemandShrinks", spec := "demandShrinks", inPlace := ["internal/abi.NoEscape", "math/bits.Add64", "math/bits.Sub64"], unfollowed := true, recurses := true, named := ["internal/strconv.uint64pow10", "math/bits.deBruijn32tab", "math/bits.deBruijn64tab", "math/bits.divideError", "math/bits.overflowError"], apart := false, laid := [("math/bits.deBruijn32tab", laid_math_bits_deBruijn32tab), ("math/bits.deBruijn64tab", laid_math_bits_deBruijn64tab), ("internal/strconv.uint64pow10", laid_internal_strconv_uint64pow10)], narrowed := true }
def DemandShrinksUptoSaid : Prop := demandShrinksUptoRow.holds Tryd.pinned (OpenSpec.upto demandShrinksSpec)

/-- 'fairlinklaw33.DemandFull', WHERE WHAT IT READS IS OF BULK AT MOST 1048576: true; the input reads as it did. -/
def demandFullUptoRow : OpenClaim := { program := "ytdfiicpikcdokaadoor", sum := "4da831dc5728d13c64a437685d62703a6065a5fba82a9d44ea0614472a9a39ec", func := "fairlink/fairlinklaw33.DemandFull", spec := "demandFull", inPlace := ["internal/abi.NoEscape", "math/bits.Add64", "math/bits.Sub64"], unfollowed := true, recurses := true, named := ["internal/strconv.uint64pow10", "math/bits.deBruijn32tab", "math/bits.deBruijn64tab", "math/bits.divideError", "math/bits.overflowError"], apart := false, laid := [("math/bits.deBruijn32tab", laid_math_bits_deBruijn32tab), ("math/bits.deBruijn64tab", laid_math_bits_deBruijn64tab), ("internal/strconv.uint64pow10", laid_internal_strconv_uint64pow10)], narrowed := true }
def DemandFullUptoSaid : Prop := demandFullUptoRow.holds Tryd.pinned (OpenSpec.upto demandFullSpec)

end Rows
end Go.Proofs.YtdfiicpikcdokaaDoor
