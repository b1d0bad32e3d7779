/-
  No cell of these rows narrows 'for every input' (looked for: loops, veiled, ifaces, maps, wideKeys, modest, calm, conditions, laid).
  DERIVED. THE GIVEN ROWS OF THIS SEAT. 6 by the template 'for every input the law returns true; each argument reads behind the call as it read before'; 0 by the template 'total and deterministic' (their statements: YteblljpbnpaplaaTotals.lean).
  GIVEN WITH THE SEED: the statements are not yours to turn. If you find one false, say at which input.
  Laid BY PROGRAM, IN A SANDBOX (cutbox-rows.mjs): the forced cells as the released guide's own fill.sh prints them over the translation 355175d2be06a607… (all of the seat's roots in one cut). By AI agents, Wed Nov 11 2026. No macro, syntax, notation, axiom, sorry.
-/
import Derived.Test.YteblljpbnpaplaaChecked
import GoSem.Claim
import GoSem.ClaimJoined
import GoSem.ClaimMapViews
import Derived.JoinedTies
import Derived.KernelRfl
namespace Go.Proofs.Yteblljpbnpaplaa
/- THE CELL 'sum', in the pinned program and in every row, IS THE sha256 OF THE DUMP (.gsa) THAT YteblljpbnpaplaaProg.lean LOADS. Nothing in Lean hashes anything: it is a label: what it is worth is what the hold of that sum in a sandbox is worth. -/
noncomputable def Try.pinned : Pinned := { name := "yteblljpbnpaplaa", sum := "355175d2be06a607bf921c694c2690d8a708ecae76a602a6ba09a617e7518933", checked := Try.checked }
namespace Rows
def none {H : Type} : Left H := { results := [], args := [] }

/-- 'fairlinklaw21.CertificateCheck': WHATEVER THE INPUT: true; the input reads as it did. -/
def certificateCheckSpec : ChangeSpec := { name := "certificateCheck", fn := fun _ => fun
  | [d1, d2] => { results := [.lit (.bool true)], args := [d1, d2] }
  | _ => none }
def certificateCheckRow : OpenClaim := { program := "yteblljpbnpaplaa", sum := "355175d2be06a607bf921c694c2690d8a708ecae76a602a6ba09a617e7518933", func := "fairlink/fairlinklaw21.CertificateCheck", spec := "certificateCheck", unfollowed := true, recurses := true, plainKeys := false, apart := false }
def CertificateCheckSaid : Prop := certificateCheckRow.holds Try.pinned (OpenSpec.ofChange certificateCheckSpec)

/-- ITS FALSE NEIGHBOUR: 'it returns false'. Refute it at one input. -/
def certificateCheckWrong : ChangeSpec := { name := "certificateCheck", fn := fun _ => fun
  | [d1, d2] => { results := [.lit (.bool false)], args := [d1, d2] }
  | _ => none }
def CertificateCheckWrongFalsely : Prop := certificateCheckRow.holds Try.pinned (OpenSpec.ofChange certificateCheckWrong)

/-- 'fairlinklaw21.CertificateParts': WHATEVER THE INPUT: true; the input reads as it did. -/
def certificatePartsSpec : ChangeSpec := { name := "certificateParts", fn := fun _ => fun
  | [d1, d2, d3, d4] => { results := [.lit (.bool true)], args := [d1, d2, d3, d4] }
  | _ => none }
def certificatePartsRow : OpenClaim := { program := "yteblljpbnpaplaa", sum := "355175d2be06a607bf921c694c2690d8a708ecae76a602a6ba09a617e7518933", func := "fairlink/fairlinklaw21.CertificateParts", spec := "certificateParts", unfollowed := true, recurses := true, plainKeys := false, apart := false }
def CertificatePartsSaid : Prop := certificatePartsRow.holds Try.pinned (OpenSpec.ofChange certificatePartsSpec)

/-- ITS FALSE NEIGHBOUR: 'it returns false'. Refute it at one input. -/
def certificatePartsWrong : ChangeSpec := { name := "certificateParts", fn := fun _ => fun
  | [d1, d2, d3, d4] => { results := [.lit (.bool false)], args := [d1, d2, d3, d4] }
  | _ => none }
def CertificatePartsWrongFalsely : Prop := certificatePartsRow.holds Try.pinned (OpenSpec.ofChange certificatePartsWrong)

/-- 'fairlinklaw21.CertificateExists': WHATEVER THE INPUT: true; the input reads as it did. -/
def certificateExistsSpec : ChangeSpec := { name := "certificateExists", fn := fun _ => fun
  | [d1, d2, d3] => { results := [.lit (.bool true)], args := [d1, d2, d3] }
  | _ => none }
def certificateExistsRow : OpenClaim := { program := "yteblljpbnpaplaa", sum := "355175d2be06a607bf921c694c2690d8a708ecae76a602a6ba09a617e7518933", func := "fairlink/fairlinklaw21.CertificateExists", spec := "certificateExists", unfollowed := true, recurses := true, plainKeys := false, apart := false }
def CertificateExistsSaid : Prop := certificateExistsRow.holds Try.pinned (OpenSpec.ofChange certificateExistsSpec)

/-- ITS FALSE NEIGHBOUR: 'it returns false'. Refute it at one input. -/
def certificateExistsWrong : ChangeSpec := { name := "certificateExists", fn := fun _ => fun
  | [d1, d2, d3] => { results := [.lit (.bool false)], args := [d1, d2, d3] }
  | _ => none }
def CertificateExistsWrongFalsely : Prop := certificateExistsRow.holds Try.pinned (OpenSpec.ofChange certificateExistsWrong)

/-- 'fairlinklaw21.CertificateLeast': WHATEVER THE INPUT: true; the input reads as it did. -/
def certificateLeastSpec : ChangeSpec := { name := "certificateLeast", fn := fun _ => fun
  | [d1, d2, d3] => { results := [.lit (.bool true)], args := [d1, d2, d3] }
  | _ => none }
def certificateLeastRow : OpenClaim := { program := "yteblljpbnpaplaa", sum := "355175d2be06a607bf921c694c2690d8a708ecae76a602a6ba09a617e7518933", func := "fairlink/fairlinklaw21.CertificateLeast", spec := "certificateLeast", unfollowed := true, recurses := true, plainKeys := false, apart := false }
def CertificateLeastSaid : Prop := certificateLeastRow.holds Try.pinned (OpenSpec.ofChange certificateLeastSpec)

/-- ITS FALSE NEIGHBOUR: 'it returns false'. Refute it at one input. -/
def certificateLeastWrong : ChangeSpec := { name := "certificateLeast", fn := fun _ => fun
  | [d1, d2, d3] => { results := [.lit (.bool false)], args := [d1, d2, d3] }
  | _ => none }
def CertificateLeastWrongFalsely : Prop := certificateLeastRow.holds Try.pinned (OpenSpec.ofChange certificateLeastWrong)

/-- 'fairlinklaw21.CertificateOf': WHATEVER THE INPUT: true; the input reads as it did. -/
def certificateOfSpec : ChangeSpec := { name := "certificateOf", fn := fun _ => fun
  | [d1, d2] => { results := [.lit (.bool true)], args := [d1, d2] }
  | _ => none }
def certificateOfRow : OpenClaim := { program := "yteblljpbnpaplaa", sum := "355175d2be06a607bf921c694c2690d8a708ecae76a602a6ba09a617e7518933", func := "fairlink/fairlinklaw21.CertificateOf", spec := "certificateOf", unfollowed := true, recurses := true, plainKeys := false, apart := false }
def CertificateOfSaid : Prop := certificateOfRow.holds Try.pinned (OpenSpec.ofChange certificateOfSpec)

/-- ITS FALSE NEIGHBOUR: 'it returns false'. Refute it at one input. -/
def certificateOfWrong : ChangeSpec := { name := "certificateOf", fn := fun _ => fun
  | [d1, d2] => { results := [.lit (.bool false)], args := [d1, d2] }
  | _ => none }
def CertificateOfWrongFalsely : Prop := certificateOfRow.holds Try.pinned (OpenSpec.ofChange certificateOfWrong)

/-- 'fairlinklaw21.CertificateTurns': WHATEVER THE INPUT: true; the input reads as it did. -/
def certificateTurnsSpec : ChangeSpec := { name := "certificateTurns", fn := fun _ => fun
  | [d1, d2, d3] => { results := [.lit (.bool true)], args := [d1, d2, d3] }
  | _ => none }
def certificateTurnsRow : OpenClaim := { program := "yteblljpbnpaplaa", sum := "355175d2be06a607bf921c694c2690d8a708ecae76a602a6ba09a617e7518933", func := "fairlink/fairlinklaw21.CertificateTurns", spec := "certificateTurns", unfollowed := true, recurses := true, plainKeys := false, apart := false }
def CertificateTurnsSaid : Prop := certificateTurnsRow.holds Try.pinned (OpenSpec.ofChange certificateTurnsSpec)

/-- ITS FALSE NEIGHBOUR: 'it returns false'. Refute it at one input. -/
def certificateTurnsWrong : ChangeSpec := { name := "certificateTurns", fn := fun _ => fun
  | [d1, d2, d3] => { results := [.lit (.bool false)], args := [d1, d2, d3] }
  | _ => none }
def CertificateTurnsWrongFalsely : Prop := certificateTurnsRow.holds Try.pinned (OpenSpec.ofChange certificateTurnsWrong)

/- THE SECOND FORM. 'bulk': how many values and letters a reading holds, each counted each time it is reached (what is shared counts as often as it is met; a slice's spare places count too). A statement '..UptoSaid' is the law's where the arguments, and the package variables that the reading takes, are together of bulk at most 1048576: NARROWER than '..Said'. Prove '..Said' where nothing that the law and all that it calls make is longer than what came in: it says more and counts as full. Else prove '..UptoSaid'. A law counts once. -/
mutual
def uptoBulk {H : Type} : DataW H → Nat
  | .lit (.string bytes) => bytes.length + 1
  | .lit _ => 1
  | .nil => 1
  | .ptr d => uptoBulk d + 1
  | .slice elems spare => uptoBulkAll elems + uptoBulkAll spare + 1
  | .agg parts => uptoBulkAll parts + 1
  | .iface _ d => uptoBulk d + 1
  | .map entries => uptoBulkEntries entries + 1
  | .held _ => 1
def uptoBulkAll {H : Type} : List (DataW H) → Nat
  | [] => 0
  | d :: r => uptoBulk d + uptoBulkAll r
def uptoBulkEntries {H : Type} : List (Lit × DataW H) → Nat
  | [] => 0
  | x :: r => uptoBulkEntry x + uptoBulkEntries r
def uptoBulkEntry {H : Type} : Lit × DataW H → Nat
  | (.string bytes, d) => bytes.length + uptoBulk d + 1
  | (_, d) => uptoBulk d + 1
 end
def uptoSmall : (H : Type) → List (DataW H) → Bool := fun _ ds => decide (uptoBulkAll ds ≤ 1048576)
def OpenSpec.upto (s : _root_.Go.ChangeSpec) : _root_.Go.OpenSpec := { _root_.Go.OpenSpec.ofChange s with cond := some uptoSmall }

/-- 'fairlinklaw21.CertificateCheck', WHERE WHAT IT READS IS OF BULK AT MOST 1048576: true; the input reads as it did. -/
def certificateCheckUptoRow : OpenClaim := { program := "yteblljpbnpaplaa", sum := "355175d2be06a607bf921c694c2690d8a708ecae76a602a6ba09a617e7518933", func := "fairlink/fairlinklaw21.CertificateCheck", spec := "certificateCheck", unfollowed := true, recurses := true, plainKeys := false, apart := false, narrowed := true }
def CertificateCheckUptoSaid : Prop := certificateCheckUptoRow.holds Try.pinned (OpenSpec.upto certificateCheckSpec)

/-- 'fairlinklaw21.CertificateParts', WHERE WHAT IT READS IS OF BULK AT MOST 1048576: true; the input reads as it did. -/
def certificatePartsUptoRow : OpenClaim := { program := "yteblljpbnpaplaa", sum := "355175d2be06a607bf921c694c2690d8a708ecae76a602a6ba09a617e7518933", func := "fairlink/fairlinklaw21.CertificateParts", spec := "certificateParts", unfollowed := true, recurses := true, plainKeys := false, apart := false, narrowed := true }
def CertificatePartsUptoSaid : Prop := certificatePartsUptoRow.holds Try.pinned (OpenSpec.upto certificatePartsSpec)

/-- 'fairlinklaw21.CertificateExists', WHERE WHAT IT READS IS OF BULK AT MOST 1048576: true; the input reads as it did. -/
def certificateExistsUptoRow : OpenClaim := { program := "yteblljpbnpaplaa", sum := "355175d2be06a607bf921c694c2690d8a708ecae76a602a6ba09a617e7518933", func := "fairlink/fairlinklaw21.CertificateExists", spec := "certificateExists", unfollowed := true, recurses := true, plainKeys := false, apart := false, narrowed := true }
def CertificateExistsUptoSaid : Prop := certificateExistsUptoRow.holds Try.pinned (OpenSpec.upto certificateExistsSpec)

/-- 'fairlinklaw21.CertificateLeast', WHERE WHAT IT READS IS OF BULK AT MOST 1048576: true; the input reads as it did. -/
def certificateLeastUptoRow : OpenClaim := { program := "yteblljpbnpaplaa", sum := "355175d2be06a607bf921c694c2690d8a708ecae76a602a6ba09a617e7518933", func := "fairlink/fairlinklaw21.CertificateLeast", spec := "certificateLeast", unfollowed := true, recurses := true, plainKeys := false, apart := false, narrowed := true }
def CertificateLeastUptoSaid : Prop := certificateLeastUptoRow.holds Try.pinned (OpenSpec.upto certificateLeastSpec)

/-- 'fairlinklaw21.CertificateOf', WHERE WHAT IT READS IS OF BULK AT MOST 1048576: true; the input reads as it did. -/
def certificateOfUptoRow : OpenClaim := { program := "yteblljpbnpaplaa", sum := "355175d2be06a607bf921c694c2690d8a708ecae76a602a6ba09a617e7518933", func := "fairlink/fairlinklaw21.CertificateOf", spec := "certificateOf", unfollowed := true, recurses := true, plainKeys := false, apart := false, narrowed := true }
def CertificateOfUptoSaid : Prop := certificateOfUptoRow.holds Try.pinned (OpenSpec.upto certificateOfSpec)

/-- 'fairlinklaw21.CertificateTurns', WHERE WHAT IT READS IS OF BULK AT MOST 1048576: true; the input reads as it did. -/
def certificateTurnsUptoRow : OpenClaim := { program := "yteblljpbnpaplaa", sum := "355175d2be06a607bf921c694c2690d8a708ecae76a602a6ba09a617e7518933", func := "fairlink/fairlinklaw21.CertificateTurns", spec := "certificateTurns", unfollowed := true, recurses := true, plainKeys := false, apart := false, narrowed := true }
def CertificateTurnsUptoSaid : Prop := certificateTurnsUptoRow.holds Try.pinned (OpenSpec.upto certificateTurnsSpec)

end Rows
end Go.Proofs.Yteblljpbnpaplaa
