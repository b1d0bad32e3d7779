/- The functions of a package in the lifted layer's own small language. Conditions: none. -/
import Derived.Test.YtfhifkcbdpgomaaL20
import Derived.KernelRfl
namespace Go.Proofs.Ytfhifkcbdpgomaa
/-- gosem.cut.init -/
def cf2 : LC :=
  (.reg [⟨(some 0), none, .e (.ext 1 [])⟩])
def rf2 : List RX := []
set_option maxRecDepth 100000 in
theorem comp2 : cFn Try.prog Try.f2 = some (erase cf2, rf2) := by kernel_rfl
end Go.Proofs.Ytfhifkcbdpgomaa
