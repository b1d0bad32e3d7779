/- Chapter 21: the laws CertificateCheck and CertificateExists. Conditions: none. -/
import Derived.Test.YteblljpbnpaplaaMH
namespace Go.Proofs.Yteblljpbnpaplaa
set_option linter.unusedSimpArgs false
set_option linter.unusedVariables false
open Go.RowKit
set_option maxRecDepth 20000

end Go.Proofs.Yteblljpbnpaplaa
