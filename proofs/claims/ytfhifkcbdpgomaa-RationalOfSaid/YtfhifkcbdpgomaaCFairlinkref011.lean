/- The functions of a package in the lifted layer's own small language. Conditions: none. -/
import Derived.Test.YtfhifkcbdpgomaaL20
import Derived.KernelRfl
namespace Go.Proofs.Ytfhifkcbdpgomaa
/-- fairlink fairlinkref01.Add -/
def cf18 : LC :=
  (.seq (.reg [⟨(some 2), none, .e (.box (.tmp 0))⟩, ⟨(some 3), none, .e (.box (.tmp 1))⟩, ⟨(some 4), none, .e (.alc [(.int .i64 0), (.int .i64 0)])⟩, ⟨(some 5), none, .p (.mov (.const (.int .i64 0)))⟩])
  (.seq (.dreg [⟨(some 6), none, .p (.ld (some 2) (.tmp 2))⟩, ⟨(some 7), none, .e (.call 39 [(.tmp 6)])⟩, ⟨(some 8), none, .p (.ld (some 2) (.tmp 3))⟩, ⟨(some 9), none, .e (.call 39 [(.tmp 8)])⟩] [[⟨none, none, .e (.st 2 (.tmp 2) (.tmp 7))⟩, ⟨none, none, .e (.st 2 (.tmp 3) (.tmp 9))⟩]])
  (.seq (.reg [⟨(some 10), none, .p (.fad 0 (.tmp 2))⟩, ⟨(some 11), none, .p (.ld none (.tmp 10))⟩, ⟨(some 12), none, .p (.fad 1 (.tmp 3))⟩, ⟨(some 13), none, .p (.ld none (.tmp 12))⟩, ⟨(some 14), none, .p (.bin .mul (.tmp 11) (.tmp 13))⟩, ⟨(some 15), none, .p (.fad 0 (.tmp 3))⟩, ⟨(some 16), none, .p (.ld none (.tmp 15))⟩, ⟨(some 17), none, .p (.fad 1 (.tmp 2))⟩, ⟨(some 18), none, .p (.ld none (.tmp 17))⟩, ⟨(some 19), none, .p (.bin .mul (.tmp 16) (.tmp 18))⟩, ⟨(some 20), none, .p (.bin .add (.tmp 14) (.tmp 19))⟩, ⟨(some 21), none, .p (.fad 1 (.tmp 2))⟩, ⟨(some 22), none, .p (.ld none (.tmp 21))⟩, ⟨(some 23), none, .p (.fad 1 (.tmp 3))⟩, ⟨(some 24), none, .p (.ld none (.tmp 23))⟩, ⟨(some 25), none, .p (.bin .mul (.tmp 22) (.tmp 24))⟩, ⟨(some 26), none, .e (.call 25 [(.tmp 20), (.tmp 25)])⟩, ⟨(some 27), none, .p (.ext (.tmp 26) 0)⟩, ⟨(some 28), none, .p (.ext (.tmp 26) 1)⟩, ⟨none, none, .e (.st 2 (.tmp 4) (.tmp 27))⟩, ⟨(some 5), none, .p (.mov (.tmp 28))⟩])
  .ret)))
def rf18 : List RX := [.cell 4 (some 2), .tmp 5]
set_option maxRecDepth 100000 in
theorem comp18 : cFn Try.prog Try.f18 = some (erase cf18, rf18) := by kernel_rfl
/-- fairlink fairlinkref01.Neg -/
def cf19 : LC :=
  (.seq (.reg [⟨(some 1), none, .e (.box (.tmp 0))⟩, ⟨(some 2), none, .e (.alc [(.int .i64 0), (.int .i64 0)])⟩])
  (.seq (.reg [⟨(some 3), none, .p (.fad 0 (.tmp 1))⟩, ⟨(some 4), none, .p (.ld none (.tmp 3))⟩, ⟨(some 5), none, .p (.ng0 (.tmp 4))⟩, ⟨(some 6), none, .p (.fad 1 (.tmp 1))⟩, ⟨(some 7), none, .p (.ld none (.tmp 6))⟩, ⟨(some 8), none, .p (.bld [(.int .i64 0), (.int .i64 0)] [(0, 1, (.tmp 5)), (1, 1, (.tmp 7))])⟩, ⟨none, none, .e (.st 2 (.tmp 2) (.tmp 8))⟩])
  .ret))
def rf19 : List RX := [.cell 2 (some 2)]
set_option maxRecDepth 100000 in
theorem comp19 : cFn Try.prog Try.f19 = some (erase cf19, rf19) := by kernel_rfl
/-- fairlink fairlinkref01.Mul -/
def cf20 : LC :=
  (.seq (.reg [⟨(some 2), none, .e (.box (.tmp 0))⟩, ⟨(some 3), none, .e (.box (.tmp 1))⟩, ⟨(some 4), none, .e (.alc [(.int .i64 0), (.int .i64 0)])⟩, ⟨(some 5), none, .p (.mov (.const (.int .i64 0)))⟩])
  (.seq (.dreg [⟨(some 6), none, .p (.ld (some 2) (.tmp 2))⟩, ⟨(some 7), none, .e (.call 39 [(.tmp 6)])⟩, ⟨(some 8), none, .p (.ld (some 2) (.tmp 3))⟩, ⟨(some 9), none, .e (.call 39 [(.tmp 8)])⟩] [[⟨none, none, .e (.st 2 (.tmp 2) (.tmp 7))⟩, ⟨none, none, .e (.st 2 (.tmp 3) (.tmp 9))⟩]])
  (.seq (.reg [⟨(some 10), none, .p (.fad 0 (.tmp 2))⟩, ⟨(some 11), none, .p (.ld none (.tmp 10))⟩, ⟨(some 12), none, .p (.fad 0 (.tmp 3))⟩, ⟨(some 13), none, .p (.ld none (.tmp 12))⟩, ⟨(some 14), none, .p (.bin .mul (.tmp 11) (.tmp 13))⟩, ⟨(some 15), none, .p (.fad 1 (.tmp 2))⟩, ⟨(some 16), none, .p (.ld none (.tmp 15))⟩, ⟨(some 17), none, .p (.fad 1 (.tmp 3))⟩, ⟨(some 18), none, .p (.ld none (.tmp 17))⟩, ⟨(some 19), none, .p (.bin .mul (.tmp 16) (.tmp 18))⟩, ⟨(some 20), none, .e (.call 25 [(.tmp 14), (.tmp 19)])⟩, ⟨(some 21), none, .p (.ext (.tmp 20) 0)⟩, ⟨(some 22), none, .p (.ext (.tmp 20) 1)⟩, ⟨none, none, .e (.st 2 (.tmp 4) (.tmp 21))⟩, ⟨(some 5), none, .p (.mov (.tmp 22))⟩])
  .ret)))
def rf20 : List RX := [.cell 4 (some 2), .tmp 5]
set_option maxRecDepth 100000 in
theorem comp20 : cFn Try.prog Try.f20 = some (erase cf20, rf20) := by kernel_rfl
/-- fairlink fairlinkref01.Div -/
def cf21 : LC :=
  (.seq (.reg [⟨(some 2), none, .e (.box (.tmp 0))⟩, ⟨(some 3), none, .e (.box (.tmp 1))⟩, ⟨(some 4), none, .e (.alc [(.int .i64 0), (.int .i64 0)])⟩, ⟨(some 5), none, .p (.mov (.const (.int .i64 0)))⟩])
  (.seq (.dreg [⟨(some 6), none, .p (.ld (some 2) (.tmp 2))⟩, ⟨(some 7), none, .e (.call 39 [(.tmp 6)])⟩, ⟨(some 8), none, .p (.ld (some 2) (.tmp 3))⟩, ⟨(some 9), none, .e (.call 39 [(.tmp 8)])⟩] [[⟨none, none, .e (.st 2 (.tmp 2) (.tmp 7))⟩, ⟨none, none, .e (.st 2 (.tmp 3) (.tmp 9))⟩]])
  (.seq (.reg [⟨(some 10), none, .p (.fad 0 (.tmp 2))⟩, ⟨(some 11), none, .p (.ld none (.tmp 10))⟩, ⟨(some 12), none, .p (.fad 1 (.tmp 3))⟩, ⟨(some 13), none, .p (.ld none (.tmp 12))⟩, ⟨(some 14), none, .p (.bin .mul (.tmp 11) (.tmp 13))⟩, ⟨(some 15), none, .p (.fad 1 (.tmp 2))⟩, ⟨(some 16), none, .p (.ld none (.tmp 15))⟩, ⟨(some 17), none, .p (.fad 0 (.tmp 3))⟩, ⟨(some 18), none, .p (.ld none (.tmp 17))⟩, ⟨(some 19), none, .p (.bin .mul (.tmp 16) (.tmp 18))⟩, ⟨(some 20), none, .e (.call 25 [(.tmp 14), (.tmp 19)])⟩, ⟨(some 21), none, .p (.ext (.tmp 20) 0)⟩, ⟨(some 22), none, .p (.ext (.tmp 20) 1)⟩, ⟨none, none, .e (.st 2 (.tmp 4) (.tmp 21))⟩, ⟨(some 5), none, .p (.mov (.tmp 22))⟩])
  .ret)))
def rf21 : List RX := [.cell 4 (some 2), .tmp 5]
set_option maxRecDepth 100000 in
theorem comp21 : cFn Try.prog Try.f21 = some (erase cf21, rf21) := by kernel_rfl
/-- fairlink fairlinkref01.Valid -/
def cf23 : LC :=
  (.seq (.reg [⟨(some 1), none, .e (.box (.tmp 0))⟩, ⟨(some 2), none, .p (.mov (.const (.bool false)))⟩])
  (.seq (.seq (.reg [⟨(some 3), none, .p (.fad 0 (.tmp 1))⟩, ⟨(some 4), none, .p (.ld none (.tmp 3))⟩, ⟨(some 5), none, .p (.bin .eql (.tmp 4) (.const (.int .i64 0)))⟩, ⟨(some 6), none, .p (.mov (.tmp 5))⟩, ⟨(some 7), (some (6, true)), .p (.fad 1 (.tmp 1))⟩, ⟨(some 8), (some (6, true)), .p (.ld none (.tmp 7))⟩, ⟨(some 9), (some (6, true)), .p (.bin .eql (.tmp 8) (.const (.int .i64 0)))⟩, ⟨(some 10), none, .p (.pick (.tmp 6) (.tmp 9) (.const (.bool false)))⟩])
  (.cond (.tmp 10) (.seq (.reg [⟨(some 2), none, .p (.mov (.const (.bool true)))⟩])
  .ret) .skip))
  (.seq (.dreg [⟨(some 11), none, .p (.fad 1 (.tmp 1))⟩, ⟨(some 12), none, .p (.ld none (.tmp 11))⟩, ⟨(some 13), none, .p (.bin .geq (.tmp 12) (.const (.int .i64 1)))⟩, ⟨(some 14), none, .p (.mov (.tmp 13))⟩, ⟨(some 15), (some (14, true)), .p (.fad 1 (.tmp 1))⟩, ⟨(some 16), (some (14, true)), .p (.ld none (.tmp 15))⟩, ⟨(some 17), (some (14, true)), .p (.bin .leq (.tmp 16) (.const (.int .i64 1152921504606846976)))⟩, ⟨(some 18), none, .p (.pick (.tmp 14) (.tmp 17) (.const (.bool false)))⟩, ⟨(some 19), none, .p (.mov (.tmp 18))⟩, ⟨(some 20), (some (19, true)), .p (.fad 0 (.tmp 1))⟩, ⟨(some 21), (some (19, true)), .p (.ld none (.tmp 20))⟩, ⟨(some 22), (some (19, true)), .p (.bin .geq (.tmp 21) (.const (.int .i64 (-1152921504606846976))))⟩, ⟨(some 23), none, .p (.pick (.tmp 19) (.tmp 22) (.const (.bool false)))⟩, ⟨(some 24), none, .p (.mov (.tmp 23))⟩, ⟨(some 25), (some (24, true)), .p (.fad 0 (.tmp 1))⟩, ⟨(some 26), (some (24, true)), .p (.ld none (.tmp 25))⟩, ⟨(some 27), (some (24, true)), .p (.bin .leq (.tmp 26) (.const (.int .i64 1152921504606846976)))⟩, ⟨(some 28), none, .p (.pick (.tmp 24) (.tmp 27) (.const (.bool false)))⟩, ⟨(some 29), none, .p (.mov (.tmp 28))⟩, ⟨(some 30), (some (29, true)), .p (.fad 0 (.tmp 1))⟩, ⟨(some 31), (some (29, true)), .p (.ld none (.tmp 30))⟩, ⟨(some 32), (some (29, true)), .e (.call 41 [(.tmp 31)])⟩, ⟨(some 33), (some (29, true)), .p (.fad 1 (.tmp 1))⟩, ⟨(some 34), (some (29, true)), .p (.ld none (.tmp 33))⟩, ⟨(some 35), (some (29, true)), .e (.call 40 [(.tmp 32), (.tmp 34)])⟩, ⟨(some 36), (some (29, true)), .p (.bin .eql (.tmp 35) (.const (.int .i64 1)))⟩, ⟨(some 37), none, .p (.pick (.tmp 29) (.tmp 36) (.const (.bool false)))⟩] [[⟨(some 2), none, .p (.mov (.tmp 37))⟩]])
  .ret)))
def rf23 : List RX := [.tmp 2]
set_option maxRecDepth 100000 in
theorem comp23 : cFn Try.prog Try.f23 = some (erase cf23, rf23) := by kernel_rfl
/-- fairlink fairlinkref01.Of -/
def cf25 : LC :=
  (.seq (.reg [⟨(some 4), none, .e (.alc [(.int .i64 0), (.int .i64 0)])⟩, ⟨(some 5), none, .p (.mov (.const (.int .i64 0)))⟩])
  (.seq (.seq (.reg [⟨(some 8), none, .p (.mov (.tmp 1))⟩, ⟨(some 9), none, .p (.bin .eql (.tmp 8) (.const (.int .i64 0)))⟩])
  (.cond (.tmp 9) (.seq (.reg [⟨(some 10), none, .p (.bld [(.int .i64 0), (.int .i64 0)] [])⟩, ⟨none, none, .e (.st 2 (.tmp 4) (.tmp 10))⟩, ⟨(some 5), none, .p (.mov (.const (.int .i64 2)))⟩])
  .ret) .skip))
  (.seq (.seq (.reg [⟨(some 11), none, .p (.mov (.tmp 1))⟩, ⟨(some 12), none, .p (.bin .lss (.tmp 11) (.const (.int .i64 0)))⟩])
  (.cond (.tmp 12) (.reg [⟨(some 13), none, .p (.mov (.tmp 0))⟩, ⟨(some 14), none, .p (.ng0 (.tmp 13))⟩, ⟨(some 15), none, .p (.mov (.tmp 1))⟩, ⟨(some 16), none, .p (.ng0 (.tmp 15))⟩, ⟨(some 0), none, .p (.mov (.tmp 14))⟩, ⟨(some 1), none, .p (.mov (.tmp 16))⟩]) .skip))
  (.seq (.reg [⟨(some 17), none, .p (.mov (.tmp 0))⟩, ⟨(some 18), none, .e (.call 41 [(.tmp 17)])⟩, ⟨(some 19), none, .p (.mov (.tmp 1))⟩, ⟨(some 20), none, .e (.call 40 [(.tmp 18), (.tmp 19)])⟩, ⟨(some 6), none, .p (.mov (.tmp 20))⟩])
  (.seq (.dreg [⟨(some 21), none, .p (.mov (.tmp 0))⟩, ⟨(some 22), none, .p (.mov (.tmp 6))⟩, ⟨(some 23), none, .p (.bin .quo (.tmp 21) (.tmp 22))⟩, ⟨(some 24), none, .p (.mov (.tmp 1))⟩, ⟨(some 25), none, .p (.mov (.tmp 6))⟩, ⟨(some 26), none, .p (.bin .quo (.tmp 24) (.tmp 25))⟩, ⟨(some 27), none, .p (.bld [(.int .i64 0), (.int .i64 0)] [(0, 1, (.tmp 23)), (1, 1, (.tmp 26))])⟩] [[⟨(some 7), none, .e (.alc [(.int .i64 0), (.int .i64 0)])⟩, ⟨none, none, .e (.st 2 (.tmp 7) (.tmp 27))⟩]])
  (.seq (.seq (.reg [⟨(some 28), none, .p (.ld (some 2) (.tmp 7))⟩, ⟨(some 29), none, .e (.call 23 [(.tmp 28)])⟩, ⟨(some 30), none, .p (.un .not (.tmp 29))⟩])
  (.cond (.tmp 30) (.seq (.reg [⟨(some 31), none, .p (.bld [(.int .i64 0), (.int .i64 0)] [])⟩, ⟨none, none, .e (.st 2 (.tmp 4) (.tmp 31))⟩, ⟨(some 5), none, .p (.mov (.const (.int .i64 10)))⟩])
  .ret) .skip))
  (.seq (.reg [⟨(some 32), none, .p (.ld (some 2) (.tmp 7))⟩, ⟨none, none, .e (.st 2 (.tmp 4) (.tmp 32))⟩, ⟨(some 5), none, .p (.mov (.const (.int .i64 0)))⟩])
  .ret)))))))
def rf25 : List RX := [.cell 4 (some 2), .tmp 5]
set_option maxRecDepth 100000 in
theorem comp25 : cFn Try.prog Try.f25 = some (erase cf25, rf25) := by kernel_rfl
/-- fairlink fairlinkref01.Cmp -/
def cf28 : LC :=
  (.seq (.reg [⟨(some 2), none, .e (.box (.tmp 0))⟩, ⟨(some 3), none, .e (.box (.tmp 1))⟩, ⟨(some 4), none, .p (.mov (.const (.int .i64 0)))⟩])
  (.seq (.dreg [⟨(some 7), none, .p (.ld (some 2) (.tmp 2))⟩, ⟨(some 8), none, .e (.call 39 [(.tmp 7)])⟩, ⟨(some 9), none, .p (.ld (some 2) (.tmp 3))⟩, ⟨(some 10), none, .e (.call 39 [(.tmp 9)])⟩] [[⟨none, none, .e (.st 2 (.tmp 2) (.tmp 8))⟩, ⟨none, none, .e (.st 2 (.tmp 3) (.tmp 10))⟩]])
  (.seq (.dreg [⟨(some 11), none, .p (.fad 0 (.tmp 2))⟩, ⟨(some 12), none, .p (.ld none (.tmp 11))⟩, ⟨(some 13), none, .p (.fad 1 (.tmp 3))⟩, ⟨(some 14), none, .p (.ld none (.tmp 13))⟩, ⟨(some 15), none, .p (.bin .mul (.tmp 12) (.tmp 14))⟩, ⟨(some 16), none, .p (.fad 0 (.tmp 3))⟩, ⟨(some 17), none, .p (.ld none (.tmp 16))⟩, ⟨(some 18), none, .p (.fad 1 (.tmp 2))⟩, ⟨(some 19), none, .p (.ld none (.tmp 18))⟩, ⟨(some 20), none, .p (.bin .mul (.tmp 17) (.tmp 19))⟩, ⟨(some 5), none, .p (.mov (.tmp 15))⟩] [[⟨(some 6), none, .p (.mov (.tmp 20))⟩]])
  (.seq (.seq (.reg [⟨(some 21), none, .p (.mov (.tmp 5))⟩, ⟨(some 22), none, .p (.mov (.tmp 6))⟩, ⟨(some 23), none, .p (.bin .lss (.tmp 21) (.tmp 22))⟩])
  (.cond (.tmp 23) (.seq (.reg [⟨(some 4), none, .p (.mov (.const (.int .i64 (-1))))⟩])
  .ret) .skip))
  (.seq (.seq (.reg [⟨(some 24), none, .p (.mov (.tmp 5))⟩, ⟨(some 25), none, .p (.mov (.tmp 6))⟩, ⟨(some 26), none, .p (.bin .gtr (.tmp 24) (.tmp 25))⟩])
  (.cond (.tmp 26) (.seq (.reg [⟨(some 4), none, .p (.mov (.const (.int .i64 1)))⟩])
  .ret) .skip))
  (.seq (.reg [⟨(some 4), none, .p (.mov (.const (.int .i64 0)))⟩])
  .ret))))))
def rf28 : List RX := [.tmp 4]
set_option maxRecDepth 100000 in
theorem comp28 : cFn Try.prog Try.f28 = some (erase cf28, rf28) := by kernel_rfl
/-- fairlink fairlinkref01.Floor -/
def cf30 : LC :=
  (.seq (.reg [⟨(some 1), none, .e (.box (.tmp 0))⟩, ⟨(some 2), none, .p (.mov (.const (.int .i64 0)))⟩])
  (.seq (.reg [⟨(some 4), none, .p (.ld (some 2) (.tmp 1))⟩, ⟨(some 5), none, .e (.call 39 [(.tmp 4)])⟩, ⟨none, none, .e (.st 2 (.tmp 1) (.tmp 5))⟩])
  (.seq (.reg [⟨(some 6), none, .p (.fad 0 (.tmp 1))⟩, ⟨(some 7), none, .p (.ld none (.tmp 6))⟩, ⟨(some 8), none, .p (.fad 1 (.tmp 1))⟩, ⟨(some 9), none, .p (.ld none (.tmp 8))⟩, ⟨(some 10), none, .p (.bin .quo (.tmp 7) (.tmp 9))⟩, ⟨(some 3), none, .p (.mov (.tmp 10))⟩])
  (.seq (.seq (.reg [⟨(some 11), none, .p (.fad 0 (.tmp 1))⟩, ⟨(some 12), none, .p (.ld none (.tmp 11))⟩, ⟨(some 13), none, .p (.fad 1 (.tmp 1))⟩, ⟨(some 14), none, .p (.ld none (.tmp 13))⟩, ⟨(some 15), none, .p (.bin .rem (.tmp 12) (.tmp 14))⟩, ⟨(some 16), none, .p (.bin .lss (.tmp 15) (.const (.int .i64 0)))⟩])
  (.cond (.tmp 16) (.reg [⟨(some 17), none, .p (.mov (.tmp 3))⟩, ⟨(some 18), none, .p (.bin .sub (.tmp 17) (.const (.int .i64 1)))⟩, ⟨(some 3), none, .p (.mov (.tmp 18))⟩]) .skip))
  (.seq (.reg [⟨(some 19), none, .p (.mov (.tmp 3))⟩, ⟨(some 2), none, .p (.mov (.tmp 19))⟩])
  .ret)))))
def rf30 : List RX := [.tmp 2]
set_option maxRecDepth 100000 in
theorem comp30 : cFn Try.prog Try.f30 = some (erase cf30, rf30) := by kernel_rfl
/-- fairlink fairlinkref01.Full -/
def cf39 : LC :=
  (.seq (.reg [⟨(some 1), none, .e (.box (.tmp 0))⟩, ⟨(some 2), none, .e (.alc [(.int .i64 0), (.int .i64 0)])⟩])
  (.seq (.seq (.reg [⟨(some 3), none, .p (.fad 1 (.tmp 1))⟩, ⟨(some 4), none, .p (.ld none (.tmp 3))⟩, ⟨(some 5), none, .p (.bin .eql (.tmp 4) (.const (.int .i64 0)))⟩])
  (.cond (.tmp 5) (.seq (.reg [⟨(some 6), none, .p (.bld [(.int .i64 0), (.int .i64 0)] [(0, 1, (.const (.int .i64 0))), (1, 1, (.const (.int .i64 1)))])⟩, ⟨none, none, .e (.st 2 (.tmp 2) (.tmp 6))⟩])
  .ret) .skip))
  (.seq (.reg [⟨(some 7), none, .p (.ld (some 2) (.tmp 1))⟩, ⟨none, none, .e (.st 2 (.tmp 2) (.tmp 7))⟩])
  .ret)))
def rf39 : List RX := [.cell 2 (some 2)]
set_option maxRecDepth 100000 in
theorem comp39 : cFn Try.prog Try.f39 = some (erase cf39, rf39) := by kernel_rfl
def lb40_0 : LC :=
  (.seq (.seq (.reg [⟨(some 5), none, .p (.mov (.tmp 1))⟩, ⟨(some 6), none, .p (.bin .neq (.tmp 5) (.const (.int .i64 0)))⟩])
  (.cond (.tmp 6) .skip (.exit 0)))
  (.block 1
  (.dreg [⟨(some 7), none, .p (.mov (.tmp 1))⟩, ⟨(some 8), none, .p (.mov (.tmp 0))⟩, ⟨(some 9), none, .p (.mov (.tmp 1))⟩, ⟨(some 10), none, .p (.bin .rem (.tmp 8) (.tmp 9))⟩, ⟨(some 0), none, .p (.mov (.tmp 7))⟩] [[⟨(some 1), none, .p (.mov (.tmp 10))⟩]])))
/-- fairlink fairlinkref01.Gcd -/
def cf40 : LC :=
  (.seq (.reg [⟨(some 4), none, .p (.mov (.const (.int .i64 0)))⟩])
  (.seq (.block 0
  (.loop lb40_0))
  (.seq (.reg [⟨(some 11), none, .p (.mov (.tmp 0))⟩, ⟨(some 4), none, .p (.mov (.tmp 11))⟩])
  .ret)))
def rf40 : List RX := [.tmp 4]
set_option maxRecDepth 100000 in
theorem comp40 : cFn Try.prog Try.f40 = some (erase cf40, rf40) := by kernel_rfl
/-- fairlink fairlinkref01.abs -/
def cf41 : LC :=
  (.seq (.reg [⟨(some 2), none, .p (.mov (.const (.int .i64 0)))⟩])
  (.seq (.seq (.reg [⟨(some 3), none, .p (.mov (.tmp 0))⟩, ⟨(some 4), none, .p (.bin .lss (.tmp 3) (.const (.int .i64 0)))⟩])
  (.cond (.tmp 4) (.seq (.reg [⟨(some 5), none, .p (.mov (.tmp 0))⟩, ⟨(some 6), none, .p (.ng0 (.tmp 5))⟩, ⟨(some 2), none, .p (.mov (.tmp 6))⟩])
  .ret) .skip))
  (.seq (.reg [⟨(some 7), none, .p (.mov (.tmp 0))⟩, ⟨(some 2), none, .p (.mov (.tmp 7))⟩])
  .ret)))
def rf41 : List RX := [.tmp 2]
set_option maxRecDepth 100000 in
theorem comp41 : cFn Try.prog Try.f41 = some (erase cf41, rf41) := by kernel_rfl
end Go.Proofs.Ytfhifkcbdpgomaa
