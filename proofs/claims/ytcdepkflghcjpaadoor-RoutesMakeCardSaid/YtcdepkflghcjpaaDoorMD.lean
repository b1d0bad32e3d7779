/- The functions of a package in the lifted layer's own small language; The functions of a package in the lifted layer's own small language; The functions of a package in the lifted layer's own small language; The functions of a package in the lifted layer's own small language; The functions of a package in the lifted layer's own small language; The functions of a package in the lifted layer's own small language; The functions of a package in the lifted layer's own small language; The functions of a package in the lifted layer's own small language; The functions of a package in the lifted layer's own small language; The functions of a package in the lifted layer's own small language; The functions of a package in the lifted layer's own small language; The functions of a package in the lifted layer's own small language; The functions of a package in the lifted layer's own small language; The functions of a package in the lifted layer's own small language; The functions of a package in the lifted layer's own small language; The functions of a package in the lifted layer's own small language; The functions of a package in the lifted layer's own small language; The functions of a package in the lifted layer's own small language; The functions of a package in the lifted layer's own small language; The functions of a package in the lifted layer's own small language; All functions of the seat. Conditions: none. -/
import Derived.Test.YtcdepkflghcjpaaDoorMC
import Derived.KernelRfl
namespace Go.Proofs.YtcdepkflghcjpaaDoor
def lb73_0 : LC :=
  (.seq (.reg [⟨(some 9), none, .p (.bin .lss (.tmp 8) (.tmp 7))⟩])
  (.seq (.cond (.tmp 9) .skip (.exit 0))
  (.seq (.block 1
  (.seq (.reg [⟨(some 10), none, .p (.iad 1 (.tmp 6) (.tmp 8))⟩, ⟨(some 11), none, .p (.ld none (.tmp 10))⟩, ⟨(some 5), none, .p (.mov (.tmp 11))⟩])
  (.seq (.reg [⟨(some 12), none, .p (.mov (.tmp 5))⟩, ⟨(some 13), none, .p (.mov (.tmp 3))⟩, ⟨(some 14), none, .p (.bin .neq (.tmp 12) (.tmp 13))⟩])
  (.cond (.tmp 14) (.seq (.reg [⟨(some 15), none, .p (.mov (.tmp 5))⟩, ⟨(some 2), none, .p (.mov (.tmp 15))⟩])
  .ret) .skip))))
  (.reg [⟨(some 16), none, .p (.bin .add (.tmp 8) (.const (.int .i64 1)))⟩, ⟨(some 8), none, .p (.mov (.tmp 16))⟩]))))
def cf73 : LC :=
  (.seq (.reg [⟨(some 2), none, .p (.mov (.const (.int .i64 0)))⟩])
  (.seq (.reg [⟨(some 3), none, .p (.mov (.const (.int .i64 0)))⟩])
  (.seq (.seq (.reg [⟨(some 6), none, .p (.mov (.tmp 0))⟩, ⟨(some 7), none, .p (.len 1 (.tmp 6))⟩, ⟨(some 8), none, .p (.mov (.const (.int .i64 0)))⟩])
  (.block 0
  (.loop lb73_0)))
  (.seq (.reg [⟨(some 17), none, .p (.mov (.tmp 3))⟩, ⟨(some 2), none, .p (.mov (.tmp 17))⟩])
  .ret))))
def rf73 : List RX := [.tmp 2]
set_option maxRecDepth 100000 in
theorem comp73 : cFn Tryd.prog Tryd.f73 = some (erase cf73, rf73) := by kernel_rfl
def cf74 : LC :=
  (.seq (.reg [⟨(some 4), none, .p (.mov (.const (.int .i64 0)))⟩])
  (.seq (.reg [⟨(some 7), none, .p (.mov (.tmp 0))⟩, ⟨(some 8), none, .e (.call 95 [(.tmp 7)])⟩, ⟨(some 5), none, .p (.mov (.tmp 8))⟩])
  (.seq (.reg [⟨(some 9), none, .p (.mov (.tmp 1))⟩, ⟨(some 10), none, .e (.call 95 [(.tmp 9)])⟩, ⟨(some 6), none, .p (.mov (.tmp 10))⟩])
  (.seq (.seq (.reg [⟨(some 11), none, .p (.mov (.tmp 5))⟩])
  (.cond (.tmp 11) (.seq (.seq (.reg [⟨(some 12), none, .p (.mov (.tmp 6))⟩])
  (.cond (.tmp 12) (.seq (.reg [⟨(some 4), none, .p (.mov (.const (.int .i64 0)))⟩])
  .ret) .skip))
  (.seq (.reg [⟨(some 4), none, .p (.mov (.const (.int .i64 (-1))))⟩])
  .ret)) .skip))
  (.seq (.seq (.reg [⟨(some 13), none, .p (.mov (.tmp 6))⟩])
  (.cond (.tmp 13) (.seq (.reg [⟨(some 4), none, .p (.mov (.const (.int .i64 1)))⟩])
  .ret) .skip))
  (.seq (.seq (.reg [⟨(some 14), none, .p (.mov (.tmp 0))⟩, ⟨(some 15), none, .p (.mov (.tmp 1))⟩, ⟨(some 16), none, .p (.bin .lss (.tmp 14) (.tmp 15))⟩])
  (.cond (.tmp 16) (.seq (.reg [⟨(some 4), none, .p (.mov (.const (.int .i64 (-1))))⟩])
  .ret) .skip))
  (.seq (.seq (.reg [⟨(some 17), none, .p (.mov (.tmp 0))⟩, ⟨(some 18), none, .p (.mov (.tmp 1))⟩, ⟨(some 19), none, .p (.bin .gtr (.tmp 17) (.tmp 18))⟩])
  (.cond (.tmp 19) (.seq (.reg [⟨(some 4), none, .p (.mov (.const (.int .i64 1)))⟩])
  .ret) .skip))
  (.seq (.reg [⟨(some 4), none, .p (.mov (.const (.int .i64 0)))⟩])
  .ret))))))))
def rf74 : List RX := [.tmp 4]
set_option maxRecDepth 100000 in
theorem comp74 : cFn Tryd.prog Tryd.f74 = some (erase cf74, rf74) := by kernel_rfl
def cf95 : LC :=
  (.seq (.reg [⟨(some 2), none, .p (.mov (.const (.bool false)))⟩])
  (.seq (.reg [⟨(some 3), none, .p (.mov (.tmp 0))⟩, ⟨(some 4), none, .p (.mov (.tmp 0))⟩, ⟨(some 5), none, .p (.bin .neq (.tmp 3) (.tmp 4))⟩, ⟨(some 2), none, .p (.mov (.tmp 5))⟩])
  .ret))
def rf95 : List RX := [.tmp 2]
set_option maxRecDepth 100000 in
theorem comp95 : cFn Tryd.prog Tryd.f95 = some (erase cf95, rf95) := by kernel_rfl
end Go.Proofs.YtcdepkflghcjpaaDoor
namespace Go.Proofs.YtcdepkflghcjpaaDoor
end Go.Proofs.YtcdepkflghcjpaaDoor
namespace Go.Proofs.YtcdepkflghcjpaaDoor
def cf3 : LC :=
  (.seq (.reg [⟨(some 3), none, .e (.box (.tmp 0))⟩, ⟨(some 4), none, .e (.box (.tmp 1))⟩, ⟨(some 6), none, .p (.mov (.const (.bool false)))⟩])
  (.seq (.seq (.reg [⟨(some 9), none, .e (.call 11 [])⟩, ⟨(some 10), none, .p (.un .not (.tmp 9))⟩])
  (.cond (.tmp 10) (.seq (.reg [⟨(some 6), none, .p (.mov (.const (.bool false)))⟩])
  .ret) .skip))
  (.seq (.seq (.reg [⟨(some 11), none, .p (.ld (some 2) (.tmp 3))⟩, ⟨(some 12), none, .p (.ld (some 1) (.tmp 4))⟩, ⟨(some 13), none, .p (.mov (.tmp 2))⟩, ⟨(some 14), none, .e (.call 12 [(.tmp 11), (.tmp 12), (.tmp 13)])⟩, ⟨(some 15), none, .p (.bin .eql (.tmp 14) (.const (.int .i64 0)))⟩])
  (.cond (.tmp 15) (.seq (.reg [⟨(some 6), none, .p (.mov (.const (.bool true)))⟩])
  .ret) .skip))
  (.seq (.reg [⟨(some 17), none, .p (.ld (some 2) (.tmp 3))⟩, ⟨(some 18), none, .p (.ld (some 1) (.tmp 4))⟩, ⟨(some 19), none, .p (.mov (.tmp 2))⟩, ⟨(some 20), none, .e (.call 13 [(.tmp 17), (.tmp 18), (.tmp 19)])⟩, ⟨(some 16), none, .p (.mov (.tmp 20))⟩, ⟨(some 21), none, .p (.ext (.tmp 16) 0)⟩, ⟨(some 22), none, .p (.ext (.tmp 16) 1)⟩, ⟨(some 7), none, .e (.alc [(.slice none 0 0)])⟩, ⟨none, none, .e (.st 1 (.tmp 7) (.tmp 21))⟩, ⟨(some 8), none, .p (.mov (.tmp 22))⟩])
  (.seq (.seq (.reg [⟨(some 23), none, .p (.ld (some 2) (.tmp 3))⟩, ⟨(some 24), none, .p (.fad 0 (.tmp 4))⟩, ⟨(some 25), none, .p (.ld none (.tmp 24))⟩, ⟨(some 26), none, .p (.mov (.tmp 2))⟩, ⟨(some 27), none, .e (.call 14 [(.tmp 23), (.tmp 25), (.tmp 26)])⟩, ⟨(some 28), none, .p (.un .not (.tmp 27))⟩])
  (.cond (.tmp 28) (.seq (.reg [⟨(some 29), none, .p (.mov (.tmp 8))⟩, ⟨(some 30), none, .p (.bin .eql (.tmp 29) (.const (.int .i64 1)))⟩, ⟨(some 31), none, .p (.mov (.tmp 30))⟩, ⟨(some 32), (some (31, true)), .p (.fad 0 (.tmp 7))⟩, ⟨(some 33), (some (31, true)), .p (.ld none (.tmp 32))⟩, ⟨(some 34), (some (31, true)), .p (.len 1 (.tmp 33))⟩, ⟨(some 35), (some (31, true)), .p (.bin .eql (.tmp 34) (.const (.int .i64 0)))⟩, ⟨(some 36), none, .p (.pick (.tmp 31) (.tmp 35) (.const (.bool false)))⟩, ⟨(some 6), none, .p (.mov (.tmp 36))⟩])
  .ret) .skip))
  (.seq (.dreg [⟨(some 37), none, .p (.mov (.tmp 8))⟩, ⟨(some 38), none, .p (.bin .eql (.tmp 37) (.const (.int .i64 0)))⟩, ⟨(some 39), none, .p (.mov (.tmp 38))⟩, ⟨(some 40), (some (39, true)), .p (.fad 0 (.tmp 7))⟩, ⟨(some 41), (some (39, true)), .p (.ld none (.tmp 40))⟩, ⟨(some 42), (some (39, true)), .p (.ld (some 2) (.tmp 3))⟩, ⟨(some 43), (some (39, true)), .p (.fad 0 (.tmp 4))⟩, ⟨(some 44), (some (39, true)), .p (.ld none (.tmp 43))⟩, ⟨(some 45), (some (39, true)), .p (.mov (.tmp 2))⟩, ⟨(some 46), (some (39, true)), .e (.call 16 [(.tmp 42), (.tmp 44), (.tmp 45)])⟩, ⟨(some 47), (some (39, true)), .e (.call 15 [(.tmp 41), (.tmp 46)])⟩, ⟨(some 48), none, .p (.pick (.tmp 39) (.tmp 47) (.const (.bool false)))⟩, ⟨(some 49), none, .p (.mov (.tmp 48))⟩, ⟨(some 50), (some (49, true)), .p (.ld (some 2) (.tmp 3))⟩, ⟨(some 51), (some (49, true)), .p (.ld (some 1) (.tmp 7))⟩, ⟨(some 52), (some (49, true)), .e (.call 17 [(.tmp 50), (.tmp 51)])⟩, ⟨(some 53), none, .p (.pick (.tmp 49) (.tmp 52) (.const (.bool false)))⟩] [[⟨(some 6), none, .p (.mov (.tmp 53))⟩]])
  .ret))))))
def rf3 : List RX := [.tmp 6]
set_option maxRecDepth 100000 in
theorem comp3 : cFn Tryd.prog Tryd.f3 = some (erase cf3, rf3) := by kernel_rfl
def cf11 : LC :=
  (.seq (.reg [⟨(some 0), none, .p (.mov (.const (.bool false)))⟩])
  (.seq (.reg [⟨(some 8), none, .e (.call 36 [])⟩, ⟨(some 7), none, .p (.mov (.tmp 8))⟩, ⟨(some 9), none, .p (.ext (.tmp 7) 0)⟩, ⟨(some 10), none, .p (.ext (.tmp 7) 1)⟩, ⟨(some 1), none, .e (.alc [(.slice none 0 0), (.slice none 0 0)])⟩, ⟨(some 2), none, .e (.alc [(.slice none 0 0)])⟩, ⟨none, none, .e (.st 2 (.tmp 1) (.tmp 9))⟩, ⟨none, none, .e (.st 1 (.tmp 2) (.tmp 10))⟩])
  (.seq (.reg [⟨(some 12), none, .p (.ld (some 2) (.tmp 1))⟩, ⟨(some 13), none, .p (.ld (some 1) (.tmp 2))⟩, ⟨(some 14), none, .e (.bsl 2 1 1 [(.bool false)] [(0, 1, (.const (.bool true)))])⟩, ⟨(some 15), none, .e (.call 13 [(.tmp 12), (.tmp 13), (.tmp 14)])⟩, ⟨(some 11), none, .p (.mov (.tmp 15))⟩, ⟨(some 16), none, .p (.ext (.tmp 11) 0)⟩, ⟨(some 17), none, .p (.ext (.tmp 11) 1)⟩, ⟨(some 3), none, .e (.alc [(.slice none 0 0)])⟩, ⟨none, none, .e (.st 1 (.tmp 3) (.tmp 16))⟩, ⟨(some 4), none, .p (.mov (.tmp 17))⟩])
  (.seq (.reg [⟨(some 19), none, .p (.ld (some 1) (.tmp 3))⟩, ⟨(some 20), none, .e (.call 31 [(.tmp 19)])⟩, ⟨(some 18), none, .p (.mov (.tmp 20))⟩, ⟨(some 21), none, .p (.ext (.tmp 18) 0)⟩, ⟨(some 22), none, .p (.ext (.tmp 18) 1)⟩, ⟨(some 5), none, .p (.mov (.tmp 21))⟩, ⟨(some 6), none, .p (.mov (.tmp 22))⟩])
  (.seq (.reg [⟨(some 23), none, .p (.mov (.tmp 4))⟩, ⟨(some 24), none, .p (.bin .eql (.tmp 23) (.const (.int .i64 0)))⟩, ⟨(some 25), none, .p (.mov (.tmp 24))⟩, ⟨(some 26), (some (25, true)), .p (.mov (.tmp 6))⟩, ⟨(some 27), (some (25, true)), .p (.bin .eql (.tmp 26) (.const (.int .i64 0)))⟩, ⟨(some 28), none, .p (.pick (.tmp 25) (.tmp 27) (.const (.bool false)))⟩, ⟨(some 29), none, .p (.mov (.tmp 28))⟩, ⟨(some 30), (some (29, true)), .p (.mov (.tmp 5))⟩, ⟨(some 31), (some (29, true)), .p (.bin .eql (.tmp 30) (.const (.string ⟨#[114, 111, 117, 116, 101, 115, 32, 50, 10, 45, 50, 32, 48, 10, 45, 50, 32, 48, 10, 48, 32, 45, 50, 10, 45, 49, 32, 45, 50, 10]⟩)))⟩, ⟨(some 32), none, .p (.pick (.tmp 29) (.tmp 31) (.const (.bool false)))⟩, ⟨(some 0), none, .p (.mov (.tmp 32))⟩])
  .ret)))))
def rf11 : List RX := [.tmp 0]
set_option maxRecDepth 100000 in
theorem comp11 : cFn Tryd.prog Tryd.f11 = some (erase cf11, rf11) := by kernel_rfl
end Go.Proofs.YtcdepkflghcjpaaDoor
namespace Go.Proofs.YtcdepkflghcjpaaDoor
def cf12 : LC :=
  (.seq (.reg [⟨(some 3), none, .e (.box (.tmp 0))⟩, ⟨(some 4), none, .e (.box (.tmp 1))⟩, ⟨(some 6), none, .p (.mov (.const (.int .i64 0)))⟩])
  (.seq (.seq (.reg [⟨(some 7), none, .p (.fad 0 (.tmp 3))⟩, ⟨(some 8), none, .p (.ld none (.tmp 7))⟩, ⟨(some 9), none, .p (.len 1 (.tmp 8))⟩, ⟨(some 10), none, .p (.bin .gtr (.tmp 9) (.const (.int .i64 8)))⟩, ⟨(some 11), none, .p (.mov (.tmp 10))⟩, ⟨(some 12), (some (11, false)), .p (.fad 1 (.tmp 3))⟩, ⟨(some 13), (some (11, false)), .p (.ld none (.tmp 12))⟩, ⟨(some 14), (some (11, false)), .p (.len 1 (.tmp 13))⟩, ⟨(some 15), (some (11, false)), .p (.bin .gtr (.tmp 14) (.const (.int .i64 12)))⟩, ⟨(some 16), none, .p (.pick (.tmp 11) (.const (.bool true)) (.tmp 15))⟩, ⟨(some 17), none, .p (.mov (.tmp 16))⟩, ⟨(some 18), (some (17, false)), .p (.fad 0 (.tmp 4))⟩, ⟨(some 19), (some (17, false)), .p (.ld none (.tmp 18))⟩, ⟨(some 20), (some (17, false)), .p (.len 1 (.tmp 19))⟩, ⟨(some 21), (some (17, false)), .p (.bin .gtr (.tmp 20) (.const (.int .i64 20)))⟩, ⟨(some 22), none, .p (.pick (.tmp 17) (.const (.bool true)) (.tmp 21))⟩, ⟨(some 23), none, .p (.mov (.tmp 22))⟩, ⟨(some 24), (some (23, false)), .p (.mov (.tmp 2))⟩, ⟨(some 25), (some (23, false)), .p (.len 1 (.tmp 24))⟩, ⟨(some 26), (some (23, false)), .p (.bin .gtr (.tmp 25) (.const (.int .i64 40)))⟩, ⟨(some 27), none, .p (.pick (.tmp 23) (.const (.bool true)) (.tmp 26))⟩])
  (.cond (.tmp 27) (.seq (.reg [⟨(some 6), none, .p (.mov (.const (.int .i64 0)))⟩])
  .ret) .skip))
  (.seq (.reg [⟨(some 6), none, .p (.mov (.const (.int .i64 1)))⟩])
  .ret)))
def rf12 : List RX := [.tmp 6]
set_option maxRecDepth 100000 in
theorem comp12 : cFn Tryd.prog Tryd.f12 = some (erase cf12, rf12) := by kernel_rfl
def cf36 : LC :=
  (.seq (.reg [⟨(some 0), none, .e (.alc [(.slice none 0 0), (.slice none 0 0)])⟩, ⟨(some 1), none, .e (.alc [(.slice none 0 0)])⟩])
  (.seq (.reg [⟨(some 2), none, .p (.bld [(.string ⟨#[]⟩), (.bool false), (.int .i64 0)] [(0, 1, (.const (.string ⟨#[97]⟩))), (1, 1, (.const (.bool true))), (2, 1, (.const (.int .i64 1)))])⟩, ⟨(some 3), none, .p (.bld [(.string ⟨#[]⟩), (.bool false), (.int .i64 0)] [(0, 1, (.const (.string ⟨#[98]⟩))), (1, 1, (.const (.bool true))), (2, 1, (.const (.int .i64 1)))])⟩, ⟨(some 4), none, .e (.bsl 0 2 3 [(.string ⟨#[]⟩), (.bool false), (.int .i64 0)] [(0, 3, (.tmp 2)), (3, 3, (.tmp 3))])⟩, ⟨(some 5), none, .p (.bld [(.int .i64 0), (.int .i64 0), (.int .i64 0), (.int .i64 0), (.int .i64 0), (.int .i64 0)] [(2, 1, (.const (.int .i64 1))), (4, 1, (.const (.int .i64 1))), (5, 1, (.const (.int .i64 1)))])⟩, ⟨(some 6), none, .e (.bsl 0 1 6 [(.int .i64 0), (.int .i64 0), (.int .i64 0), (.int .i64 0), (.int .i64 0), (.int .i64 0)] [(0, 6, (.tmp 5))])⟩, ⟨(some 7), none, .p (.bld [(.slice none 0 0), (.slice none 0 0)] [(0, 1, (.tmp 4)), (1, 1, (.tmp 6))])⟩, ⟨(some 8), none, .e (.bsl 1 2 1 [(.int .i64 0)] [(0, 1, (.const (.int .i64 0))), (1, 1, (.const (.int .i64 1)))])⟩, ⟨(some 9), none, .p (.bld [(.slice none 0 0)] [(0, 1, (.tmp 8))])⟩, ⟨none, none, .e (.st 2 (.tmp 0) (.tmp 7))⟩, ⟨none, none, .e (.st 1 (.tmp 1) (.tmp 9))⟩])
  .ret))
def rf36 : List RX := [.cell 0 (some 2), .cell 1 (some 1)]
set_option maxRecDepth 100000 in
theorem comp36 : cFn Tryd.prog Tryd.f36 = some (erase cf36, rf36) := by kernel_rfl
end Go.Proofs.YtcdepkflghcjpaaDoor
namespace Go.Proofs.YtcdepkflghcjpaaDoor
def lb22_0 : LC :=
  (.seq (.seq (.reg [⟨(some 110), none, .p (.mov (.tmp 8))⟩, ⟨(some 111), none, .p (.fad 1 (.tmp 1))⟩, ⟨(some 112), none, .p (.ld none (.tmp 111))⟩, ⟨(some 113), none, .p (.len 1 (.tmp 112))⟩, ⟨(some 114), none, .p (.bin .lss (.tmp 110) (.tmp 113))⟩])
  (.cond (.tmp 114) .skip (.exit 6)))
  (.seq (.block 7
  (.seq (.reg [⟨(some 117), none, .p (.fad 1 (.tmp 1))⟩, ⟨(some 118), none, .p (.ld none (.tmp 117))⟩, ⟨(some 119), none, .p (.mov (.tmp 8))⟩, ⟨(some 120), none, .p (.iad 6 (.tmp 118) (.tmp 119))⟩, ⟨(some 121), none, .p (.ld (some 6) (.tmp 120))⟩, ⟨(some 9), none, .e (.alc [(.int .i64 0), (.int .i64 0), (.int .i64 0), (.int .i64 0), (.int .i64 0), (.int .i64 0)])⟩, ⟨none, none, .e (.st 6 (.tmp 9) (.tmp 121))⟩])
  (.seq (.reg [⟨(some 122), none, .p (.fad 4 (.tmp 9))⟩, ⟨(some 123), none, .p (.ld none (.tmp 122))⟩, ⟨(some 124), none, .p (.bin .lss (.tmp 123) (.const (.int .i64 1)))⟩, ⟨(some 125), none, .p (.mov (.tmp 124))⟩, ⟨(some 126), (some (125, false)), .p (.fad 4 (.tmp 9))⟩, ⟨(some 127), (some (125, false)), .p (.ld none (.tmp 126))⟩, ⟨(some 128), (some (125, false)), .p (.bin .gtr (.tmp 127) (.const (.int .i64 100)))⟩, ⟨(some 129), none, .p (.pick (.tmp 125) (.const (.bool true)) (.tmp 128))⟩, ⟨(some 130), none, .p (.mov (.tmp 129))⟩, ⟨(some 131), (some (130, false)), .p (.fad 5 (.tmp 9))⟩, ⟨(some 132), (some (130, false)), .p (.ld none (.tmp 131))⟩, ⟨(some 133), (some (130, false)), .p (.bin .lss (.tmp 132) (.const (.int .i64 1)))⟩, ⟨(some 134), none, .p (.pick (.tmp 130) (.const (.bool true)) (.tmp 133))⟩, ⟨(some 135), none, .p (.mov (.tmp 134))⟩, ⟨(some 136), (some (135, false)), .p (.fad 5 (.tmp 9))⟩, ⟨(some 137), (some (135, false)), .p (.ld none (.tmp 136))⟩, ⟨(some 138), (some (135, false)), .p (.bin .gtr (.tmp 137) (.const (.int .i64 1000)))⟩, ⟨(some 139), none, .p (.pick (.tmp 135) (.const (.bool true)) (.tmp 138))⟩])
  (.cond (.tmp 139) (.seq (.reg [⟨(some 2), none, .p (.mov (.const (.int .i64 3)))⟩])
  .ret) .skip))))
  (.reg [⟨(some 115), none, .p (.mov (.tmp 8))⟩, ⟨(some 116), none, .p (.bin .add (.tmp 115) (.const (.int .i64 1)))⟩, ⟨(some 8), none, .p (.mov (.tmp 116))⟩])))
def lb22_1 : LC :=
  (.seq (.seq (.reg [⟨(some 90), none, .p (.mov (.tmp 7))⟩, ⟨(some 91), none, .p (.fad 1 (.tmp 1))⟩, ⟨(some 92), none, .p (.ld none (.tmp 91))⟩, ⟨(some 93), none, .p (.len 1 (.tmp 92))⟩, ⟨(some 94), none, .p (.bin .lss (.tmp 90) (.tmp 93))⟩])
  (.cond (.tmp 94) .skip (.exit 4)))
  (.seq (.block 5
  (.seq (.dreg [⟨(some 97), none, .p (.fad 1 (.tmp 1))⟩, ⟨(some 98), none, .p (.ld none (.tmp 97))⟩, ⟨(some 99), none, .p (.mov (.tmp 7))⟩, ⟨(some 100), none, .p (.iad 6 (.tmp 98) (.tmp 99))⟩, ⟨(some 101), none, .p (.fad 0 (.tmp 100))⟩, ⟨(some 102), none, .p (.ld none (.tmp 101))⟩, ⟨(some 103), none, .p (.fad 1 (.tmp 1))⟩, ⟨(some 104), none, .p (.ld none (.tmp 103))⟩, ⟨(some 105), none, .p (.mov (.tmp 7))⟩, ⟨(some 106), none, .p (.iad 6 (.tmp 104) (.tmp 105))⟩, ⟨(some 107), none, .p (.fad 2 (.tmp 106))⟩, ⟨(some 108), none, .p (.ld none (.tmp 107))⟩] [[⟨(some 109), none, .p (.bin .eql (.tmp 102) (.tmp 108))⟩]])
  (.cond (.tmp 109) (.seq (.reg [⟨(some 2), none, .p (.mov (.const (.int .i64 12)))⟩])
  .ret) .skip)))
  (.reg [⟨(some 95), none, .p (.mov (.tmp 7))⟩, ⟨(some 96), none, .p (.bin .add (.tmp 95) (.const (.int .i64 1)))⟩, ⟨(some 7), none, .p (.mov (.tmp 96))⟩])))
def lb22_2 : LC :=
  (.seq (.seq (.reg [⟨(some 60), none, .p (.mov (.tmp 5))⟩, ⟨(some 61), none, .p (.fad 1 (.tmp 1))⟩, ⟨(some 62), none, .p (.ld none (.tmp 61))⟩, ⟨(some 63), none, .p (.len 1 (.tmp 62))⟩, ⟨(some 64), none, .p (.bin .lss (.tmp 60) (.tmp 63))⟩])
  (.cond (.tmp 64) .skip (.exit 2)))
  (.seq (.block 3
  (.seq (.reg [⟨(some 67), none, .p (.fad 1 (.tmp 1))⟩, ⟨(some 68), none, .p (.ld none (.tmp 67))⟩, ⟨(some 69), none, .p (.mov (.tmp 5))⟩, ⟨(some 70), none, .p (.iad 6 (.tmp 68) (.tmp 69))⟩, ⟨(some 71), none, .p (.ld (some 6) (.tmp 70))⟩, ⟨(some 6), none, .e (.alc [(.int .i64 0), (.int .i64 0), (.int .i64 0), (.int .i64 0), (.int .i64 0), (.int .i64 0)])⟩, ⟨none, none, .e (.st 6 (.tmp 6) (.tmp 71))⟩])
  (.seq (.reg [⟨(some 72), none, .p (.ld (some 2) (.tmp 1))⟩, ⟨(some 73), none, .p (.fad 0 (.tmp 6))⟩, ⟨(some 74), none, .p (.ld none (.tmp 73))⟩, ⟨(some 75), none, .p (.fad 1 (.tmp 6))⟩, ⟨(some 76), none, .p (.ld none (.tmp 75))⟩, ⟨(some 77), none, .e (.call 50 [(.tmp 72), (.tmp 74), (.tmp 76)])⟩, ⟨(some 78), none, .p (.un .not (.tmp 77))⟩, ⟨(some 79), none, .p (.mov (.tmp 78))⟩, ⟨(some 80), (some (79, false)), .p (.ld (some 2) (.tmp 1))⟩, ⟨(some 81), (some (79, false)), .p (.fad 2 (.tmp 6))⟩, ⟨(some 82), (some (79, false)), .p (.ld none (.tmp 81))⟩, ⟨(some 83), (some (79, false)), .p (.fad 3 (.tmp 6))⟩, ⟨(some 84), (some (79, false)), .p (.ld none (.tmp 83))⟩, ⟨(some 85), (some (79, false)), .e (.call 50 [(.tmp 80), (.tmp 82), (.tmp 84)])⟩, ⟨(some 86), (some (79, false)), .p (.un .not (.tmp 85))⟩, ⟨(some 87), none, .p (.pick (.tmp 79) (.const (.bool true)) (.tmp 86))⟩])
  (.cond (.tmp 87) (.seq (.reg [⟨(some 2), none, .p (.mov (.const (.int .i64 2)))⟩])
  .ret) .skip))))
  (.reg [⟨(some 65), none, .p (.mov (.tmp 5))⟩, ⟨(some 66), none, .p (.bin .add (.tmp 65) (.const (.int .i64 1)))⟩, ⟨(some 5), none, .p (.mov (.tmp 66))⟩])))
def lb22_3 : LC :=
  (.seq (.seq (.reg [⟨(some 20), none, .p (.mov (.tmp 3))⟩, ⟨(some 21), none, .p (.fad 0 (.tmp 1))⟩, ⟨(some 22), none, .p (.ld none (.tmp 21))⟩, ⟨(some 23), none, .p (.len 1 (.tmp 22))⟩, ⟨(some 24), none, .p (.bin .lss (.tmp 20) (.tmp 23))⟩])
  (.cond (.tmp 24) .skip (.exit 0)))
  (.seq (.block 1
  (.seq (.reg [⟨(some 27), none, .p (.fad 0 (.tmp 1))⟩, ⟨(some 28), none, .p (.ld none (.tmp 27))⟩, ⟨(some 29), none, .p (.mov (.tmp 3))⟩, ⟨(some 30), none, .p (.iad 3 (.tmp 28) (.tmp 29))⟩, ⟨(some 31), none, .p (.ld (some 3) (.tmp 30))⟩, ⟨(some 4), none, .e (.alc [(.string ⟨#[]⟩), (.bool false), (.int .i64 0)])⟩, ⟨none, none, .e (.st 3 (.tmp 4) (.tmp 31))⟩])
  (.seq (.reg [⟨(some 32), none, .p (.fad 0 (.tmp 4))⟩, ⟨(some 33), none, .p (.ld none (.tmp 32))⟩, ⟨(some 34), none, .e (.call 49 [(.tmp 33)])⟩, ⟨(some 35), none, .p (.un .not (.tmp 34))⟩, ⟨(some 36), none, .p (.mov (.tmp 35))⟩, ⟨(some 37), (some (36, false)), .p (.fad 1 (.tmp 4))⟩, ⟨(some 38), (some (36, false)), .p (.ld none (.tmp 37))⟩, ⟨(some 39), (some (36, false)), .p (.mov (.tmp 38))⟩, ⟨(some 40), (some (39, true)), .p (.fad 2 (.tmp 4))⟩, ⟨(some 41), (some (39, true)), .p (.ld none (.tmp 40))⟩, ⟨(some 42), (some (39, true)), .p (.bin .lss (.tmp 41) (.const (.int .i64 1)))⟩, ⟨(some 43), (some (39, true)), .p (.mov (.tmp 42))⟩, ⟨(some 44), (some (43, false)), .p (.fad 2 (.tmp 4))⟩, ⟨(some 45), (some (43, false)), .p (.ld none (.tmp 44))⟩, ⟨(some 46), (some (43, false)), .p (.bin .gtr (.tmp 45) (.const (.int .i64 8)))⟩, ⟨(some 47), (some (39, true)), .p (.pick (.tmp 43) (.const (.bool true)) (.tmp 46))⟩, ⟨(some 48), (some (36, false)), .p (.pick (.tmp 39) (.tmp 47) (.const (.bool false)))⟩, ⟨(some 49), none, .p (.pick (.tmp 36) (.const (.bool true)) (.tmp 48))⟩, ⟨(some 50), none, .p (.mov (.tmp 49))⟩, ⟨(some 51), (some (50, false)), .p (.fad 1 (.tmp 4))⟩, ⟨(some 52), (some (50, false)), .p (.ld none (.tmp 51))⟩, ⟨(some 53), (some (50, false)), .p (.un .not (.tmp 52))⟩, ⟨(some 54), (some (50, false)), .p (.mov (.tmp 53))⟩, ⟨(some 55), (some (54, true)), .p (.fad 2 (.tmp 4))⟩, ⟨(some 56), (some (54, true)), .p (.ld none (.tmp 55))⟩, ⟨(some 57), (some (54, true)), .p (.bin .neq (.tmp 56) (.const (.int .i64 1)))⟩, ⟨(some 58), (some (50, false)), .p (.pick (.tmp 54) (.tmp 57) (.const (.bool false)))⟩, ⟨(some 59), none, .p (.pick (.tmp 50) (.const (.bool true)) (.tmp 58))⟩])
  (.cond (.tmp 59) (.seq (.reg [⟨(some 2), none, .p (.mov (.const (.int .i64 1)))⟩])
  .ret) .skip))))
  (.reg [⟨(some 25), none, .p (.mov (.tmp 3))⟩, ⟨(some 26), none, .p (.bin .add (.tmp 25) (.const (.int .i64 1)))⟩, ⟨(some 3), none, .p (.mov (.tmp 26))⟩])))
def cf22 : LC :=
  (.seq (.reg [⟨(some 1), none, .e (.box (.tmp 0))⟩, ⟨(some 2), none, .p (.mov (.const (.int .i64 0)))⟩])
  (.seq (.seq (.reg [⟨(some 10), none, .p (.fad 0 (.tmp 1))⟩, ⟨(some 11), none, .p (.ld none (.tmp 10))⟩, ⟨(some 12), none, .p (.len 1 (.tmp 11))⟩, ⟨(some 13), none, .p (.bin .gtr (.tmp 12) (.const (.int .i64 16)))⟩, ⟨(some 14), none, .p (.mov (.tmp 13))⟩, ⟨(some 15), (some (14, false)), .p (.fad 1 (.tmp 1))⟩, ⟨(some 16), (some (14, false)), .p (.ld none (.tmp 15))⟩, ⟨(some 17), (some (14, false)), .p (.len 1 (.tmp 16))⟩, ⟨(some 18), (some (14, false)), .p (.bin .gtr (.tmp 17) (.const (.int .i64 32)))⟩, ⟨(some 19), none, .p (.pick (.tmp 14) (.const (.bool true)) (.tmp 18))⟩])
  (.cond (.tmp 19) (.seq (.reg [⟨(some 2), none, .p (.mov (.const (.int .i64 5)))⟩])
  .ret) .skip))
  (.seq (.seq (.reg [⟨(some 3), none, .p (.mov (.const (.int .i64 0)))⟩])
  (.block 0
  (.loop lb22_3)))
  (.seq (.seq (.reg [⟨(some 5), none, .p (.mov (.const (.int .i64 0)))⟩])
  (.block 2
  (.loop lb22_2)))
  (.seq (.seq (.reg [⟨(some 88), none, .p (.ld (some 2) (.tmp 1))⟩, ⟨(some 89), none, .e (.call 51 [(.tmp 88)])⟩])
  (.cond (.tmp 89) (.seq (.reg [⟨(some 2), none, .p (.mov (.const (.int .i64 8)))⟩])
  .ret) .skip))
  (.seq (.seq (.reg [⟨(some 7), none, .p (.mov (.const (.int .i64 0)))⟩])
  (.block 4
  (.loop lb22_1)))
  (.seq (.seq (.reg [⟨(some 8), none, .p (.mov (.const (.int .i64 0)))⟩])
  (.block 6
  (.loop lb22_0)))
  (.seq (.reg [⟨(some 2), none, .p (.mov (.const (.int .i64 0)))⟩])
  .ret))))))))
def rf22 : List RX := [.tmp 2]
set_option maxRecDepth 100000 in
theorem comp22 : cFn Tryd.prog Tryd.f22 = some (erase cf22, rf22) := by kernel_rfl
def lb49_0 : LC :=
  (.seq (.seq (.reg [⟨(some 14), none, .p (.mov (.tmp 3))⟩, ⟨(some 15), none, .p (.mov (.tmp 0))⟩, ⟨(some 16), none, .p (.len 0 (.tmp 15))⟩, ⟨(some 17), none, .p (.bin .lss (.tmp 14) (.tmp 16))⟩])
  (.cond (.tmp 17) .skip (.exit 0)))
  (.seq (.block 1
  (.seq (.reg [⟨(some 20), none, .p (.mov (.tmp 0))⟩, ⟨(some 21), none, .p (.mov (.tmp 3))⟩, ⟨(some 22), none, .p (.idxs (.tmp 20) (.tmp 21))⟩, ⟨(some 23), none, .p (.bin .geq (.tmp 22) (.const (.int .u8 97)))⟩, ⟨(some 24), none, .p (.mov (.tmp 23))⟩, ⟨(some 25), (some (24, true)), .p (.mov (.tmp 0))⟩, ⟨(some 26), (some (24, true)), .p (.mov (.tmp 3))⟩, ⟨(some 27), (some (24, true)), .p (.idxs (.tmp 25) (.tmp 26))⟩, ⟨(some 28), (some (24, true)), .p (.bin .leq (.tmp 27) (.const (.int .u8 122)))⟩, ⟨(some 29), none, .p (.pick (.tmp 24) (.tmp 28) (.const (.bool false)))⟩, ⟨(some 4), none, .p (.mov (.tmp 29))⟩])
  (.seq (.reg [⟨(some 30), none, .p (.mov (.tmp 0))⟩, ⟨(some 31), none, .p (.mov (.tmp 3))⟩, ⟨(some 32), none, .p (.idxs (.tmp 30) (.tmp 31))⟩, ⟨(some 33), none, .p (.bin .geq (.tmp 32) (.const (.int .u8 48)))⟩, ⟨(some 34), none, .p (.mov (.tmp 33))⟩, ⟨(some 35), (some (34, true)), .p (.mov (.tmp 0))⟩, ⟨(some 36), (some (34, true)), .p (.mov (.tmp 3))⟩, ⟨(some 37), (some (34, true)), .p (.idxs (.tmp 35) (.tmp 36))⟩, ⟨(some 38), (some (34, true)), .p (.bin .leq (.tmp 37) (.const (.int .u8 57)))⟩, ⟨(some 39), none, .p (.pick (.tmp 34) (.tmp 38) (.const (.bool false)))⟩, ⟨(some 5), none, .p (.mov (.tmp 39))⟩])
  (.seq (.reg [⟨(some 40), none, .p (.mov (.tmp 4))⟩, ⟨(some 41), none, .p (.un .not (.tmp 40))⟩, ⟨(some 42), none, .p (.mov (.tmp 41))⟩, ⟨(some 43), (some (42, true)), .p (.mov (.tmp 5))⟩, ⟨(some 44), (some (42, true)), .p (.un .not (.tmp 43))⟩, ⟨(some 45), (some (42, true)), .p (.mov (.tmp 44))⟩, ⟨(some 46), (some (45, false)), .p (.mov (.tmp 3))⟩, ⟨(some 47), (some (45, false)), .p (.bin .eql (.tmp 46) (.const (.int .i64 0)))⟩, ⟨(some 48), (some (42, true)), .p (.pick (.tmp 45) (.const (.bool true)) (.tmp 47))⟩, ⟨(some 49), none, .p (.pick (.tmp 42) (.tmp 48) (.const (.bool false)))⟩])
  (.cond (.tmp 49) (.seq (.reg [⟨(some 2), none, .p (.mov (.const (.bool false)))⟩])
  .ret) .skip)))))
  (.reg [⟨(some 18), none, .p (.mov (.tmp 3))⟩, ⟨(some 19), none, .p (.bin .add (.tmp 18) (.const (.int .i64 1)))⟩, ⟨(some 3), none, .p (.mov (.tmp 19))⟩])))
def cf49 : LC :=
  (.seq (.reg [⟨(some 2), none, .p (.mov (.const (.bool false)))⟩])
  (.seq (.seq (.reg [⟨(some 6), none, .p (.mov (.tmp 0))⟩, ⟨(some 7), none, .p (.len 0 (.tmp 6))⟩, ⟨(some 8), none, .p (.bin .lss (.tmp 7) (.const (.int .i64 1)))⟩, ⟨(some 9), none, .p (.mov (.tmp 8))⟩, ⟨(some 10), (some (9, false)), .p (.mov (.tmp 0))⟩, ⟨(some 11), (some (9, false)), .p (.len 0 (.tmp 10))⟩, ⟨(some 12), (some (9, false)), .p (.bin .gtr (.tmp 11) (.const (.int .i64 20)))⟩, ⟨(some 13), none, .p (.pick (.tmp 9) (.const (.bool true)) (.tmp 12))⟩])
  (.cond (.tmp 13) (.seq (.reg [⟨(some 2), none, .p (.mov (.const (.bool false)))⟩])
  .ret) .skip))
  (.seq (.seq (.reg [⟨(some 3), none, .p (.mov (.const (.int .i64 0)))⟩])
  (.block 0
  (.loop lb49_0)))
  (.seq (.reg [⟨(some 2), none, .p (.mov (.const (.bool true)))⟩])
  .ret))))
def rf49 : List RX := [.tmp 2]
set_option maxRecDepth 100000 in
theorem comp49 : cFn Tryd.prog Tryd.f49 = some (erase cf49, rf49) := by kernel_rfl
def cf50 : LC :=
  (.seq (.reg [⟨(some 3), none, .e (.box (.tmp 0))⟩, ⟨(some 6), none, .p (.mov (.const (.bool false)))⟩])
  (.seq (.reg [⟨(some 7), none, .p (.mov (.tmp 1))⟩, ⟨(some 8), none, .p (.bin .geq (.tmp 7) (.const (.int .i64 0)))⟩, ⟨(some 9), none, .p (.mov (.tmp 8))⟩, ⟨(some 10), (some (9, true)), .p (.mov (.tmp 1))⟩, ⟨(some 11), (some (9, true)), .p (.fad 0 (.tmp 3))⟩, ⟨(some 12), (some (9, true)), .p (.ld none (.tmp 11))⟩, ⟨(some 13), (some (9, true)), .p (.len 1 (.tmp 12))⟩, ⟨(some 14), (some (9, true)), .p (.bin .lss (.tmp 10) (.tmp 13))⟩, ⟨(some 15), none, .p (.pick (.tmp 9) (.tmp 14) (.const (.bool false)))⟩, ⟨(some 16), none, .p (.mov (.tmp 15))⟩, ⟨(some 17), (some (16, true)), .p (.mov (.tmp 2))⟩, ⟨(some 18), (some (16, true)), .p (.bin .geq (.tmp 17) (.const (.int .i64 0)))⟩, ⟨(some 19), none, .p (.pick (.tmp 16) (.tmp 18) (.const (.bool false)))⟩, ⟨(some 20), none, .p (.mov (.tmp 19))⟩, ⟨(some 21), (some (20, true)), .p (.mov (.tmp 2))⟩, ⟨(some 22), (some (20, true)), .p (.fad 0 (.tmp 3))⟩, ⟨(some 23), (some (20, true)), .p (.ld none (.tmp 22))⟩, ⟨(some 24), (some (20, true)), .p (.mov (.tmp 1))⟩, ⟨(some 25), (some (20, true)), .p (.iad 3 (.tmp 23) (.tmp 24))⟩, ⟨(some 26), (some (20, true)), .p (.fad 2 (.tmp 25))⟩, ⟨(some 27), (some (20, true)), .p (.ld none (.tmp 26))⟩, ⟨(some 28), (some (20, true)), .p (.bin .lss (.tmp 21) (.tmp 27))⟩, ⟨(some 29), none, .p (.pick (.tmp 20) (.tmp 28) (.const (.bool false)))⟩, ⟨(some 6), none, .p (.mov (.tmp 29))⟩])
  .ret))
def rf50 : List RX := [.tmp 6]
set_option maxRecDepth 100000 in
theorem comp50 : cFn Tryd.prog Tryd.f50 = some (erase cf50, rf50) := by kernel_rfl
def lb51_0 : LC :=
  (.seq (.seq (.reg [⟨(some 66), none, .p (.mov (.tmp 9))⟩, ⟨(some 67), none, .p (.mov (.tmp 8))⟩, ⟨(some 68), none, .p (.bin .lss (.tmp 66) (.tmp 67))⟩])
  (.cond (.tmp 68) .skip (.exit 8)))
  (.seq (.block 9
  (.seq (.dreg [⟨(some 71), none, .p (.mov (.tmp 5))⟩, ⟨(some 72), none, .p (.mov (.tmp 8))⟩, ⟨(some 73), none, .p (.iad 2 (.tmp 71) (.tmp 72))⟩, ⟨(some 74), none, .p (.ld (some 2) (.tmp 73))⟩, ⟨(some 75), none, .p (.mov (.tmp 5))⟩, ⟨(some 76), none, .p (.mov (.tmp 9))⟩, ⟨(some 77), none, .p (.iad 2 (.tmp 75) (.tmp 76))⟩, ⟨(some 78), none, .p (.ld (some 2) (.tmp 77))⟩] [[⟨(some 79), none, .p (.eqa false [(.i .i64), (.i .i64)] (.tmp 74) (.tmp 78))⟩]])
  (.cond (.tmp 79) (.seq (.reg [⟨(some 2), none, .p (.mov (.const (.bool true)))⟩])
  .ret) .skip)))
  (.reg [⟨(some 69), none, .p (.mov (.tmp 9))⟩, ⟨(some 70), none, .p (.bin .add (.tmp 69) (.const (.int .i64 1)))⟩, ⟨(some 9), none, .p (.mov (.tmp 70))⟩])))
def lb51_1 : LC :=
  (.seq (.seq (.reg [⟨(some 60), none, .p (.mov (.tmp 8))⟩, ⟨(some 61), none, .p (.mov (.tmp 5))⟩, ⟨(some 62), none, .p (.len 1 (.tmp 61))⟩, ⟨(some 63), none, .p (.bin .lss (.tmp 60) (.tmp 62))⟩])
  (.cond (.tmp 63) .skip (.exit 6)))
  (.seq (.block 7
  (.seq (.reg [⟨(some 9), none, .p (.mov (.const (.int .i64 0)))⟩])
  (.block 8
  (.loop lb51_0))))
  (.reg [⟨(some 64), none, .p (.mov (.tmp 8))⟩, ⟨(some 65), none, .p (.bin .add (.tmp 64) (.const (.int .i64 1)))⟩, ⟨(some 8), none, .p (.mov (.tmp 65))⟩])))
def lb51_2 : LC :=
  (.seq (.seq (.reg [⟨(some 35), none, .p (.mov (.tmp 6))⟩, ⟨(some 36), none, .p (.fad 1 (.tmp 1))⟩, ⟨(some 37), none, .p (.ld none (.tmp 36))⟩, ⟨(some 38), none, .p (.len 1 (.tmp 37))⟩, ⟨(some 39), none, .p (.bin .lss (.tmp 35) (.tmp 38))⟩])
  (.cond (.tmp 39) .skip (.exit 4)))
  (.seq (.block 5
  (.seq (.reg [⟨(some 42), none, .p (.fad 1 (.tmp 1))⟩, ⟨(some 43), none, .p (.ld none (.tmp 42))⟩, ⟨(some 44), none, .p (.mov (.tmp 6))⟩, ⟨(some 45), none, .p (.iad 6 (.tmp 43) (.tmp 44))⟩, ⟨(some 46), none, .p (.ld (some 6) (.tmp 45))⟩, ⟨(some 7), none, .e (.alc [(.int .i64 0), (.int .i64 0), (.int .i64 0), (.int .i64 0), (.int .i64 0), (.int .i64 0)])⟩, ⟨none, none, .e (.st 6 (.tmp 7) (.tmp 46))⟩])
  (.reg [⟨(some 47), none, .p (.mov (.tmp 5))⟩, ⟨(some 48), none, .p (.fad 0 (.tmp 7))⟩, ⟨(some 49), none, .p (.ld none (.tmp 48))⟩, ⟨(some 50), none, .p (.fad 1 (.tmp 7))⟩, ⟨(some 51), none, .p (.ld none (.tmp 50))⟩, ⟨(some 52), none, .p (.bld [(.int .i64 0), (.int .i64 0)] [(0, 1, (.tmp 49)), (1, 1, (.tmp 51))])⟩, ⟨(some 53), none, .p (.fad 2 (.tmp 7))⟩, ⟨(some 54), none, .p (.ld none (.tmp 53))⟩, ⟨(some 55), none, .p (.fad 3 (.tmp 7))⟩, ⟨(some 56), none, .p (.ld none (.tmp 55))⟩, ⟨(some 57), none, .p (.bld [(.int .i64 0), (.int .i64 0)] [(0, 1, (.tmp 54)), (1, 1, (.tmp 56))])⟩, ⟨(some 58), none, .e (.bsl 0 2 2 [(.int .i64 0), (.int .i64 0)] [(0, 2, (.tmp 52)), (2, 2, (.tmp 57))])⟩, ⟨(some 59), none, .e (.app 0 2 16 (.tmp 47) (.tmp 58))⟩, ⟨(some 5), none, .p (.mov (.tmp 59))⟩])))
  (.reg [⟨(some 40), none, .p (.mov (.tmp 6))⟩, ⟨(some 41), none, .p (.bin .add (.tmp 40) (.const (.int .i64 1)))⟩, ⟨(some 6), none, .p (.mov (.tmp 41))⟩])))
def lb51_3 : LC :=
  (.seq (.seq (.reg [⟨(some 17), none, .p (.mov (.tmp 4))⟩, ⟨(some 18), none, .p (.mov (.tmp 3))⟩, ⟨(some 19), none, .p (.bin .lss (.tmp 17) (.tmp 18))⟩])
  (.cond (.tmp 19) .skip (.exit 2)))
  (.seq (.block 3
  (.seq (.dreg [⟨(some 22), none, .p (.fad 0 (.tmp 1))⟩, ⟨(some 23), none, .p (.ld none (.tmp 22))⟩, ⟨(some 24), none, .p (.mov (.tmp 3))⟩, ⟨(some 25), none, .p (.iad 3 (.tmp 23) (.tmp 24))⟩, ⟨(some 26), none, .p (.fad 0 (.tmp 25))⟩, ⟨(some 27), none, .p (.ld none (.tmp 26))⟩, ⟨(some 28), none, .p (.fad 0 (.tmp 1))⟩, ⟨(some 29), none, .p (.ld none (.tmp 28))⟩, ⟨(some 30), none, .p (.mov (.tmp 4))⟩, ⟨(some 31), none, .p (.iad 3 (.tmp 29) (.tmp 30))⟩, ⟨(some 32), none, .p (.fad 0 (.tmp 31))⟩, ⟨(some 33), none, .p (.ld none (.tmp 32))⟩] [[⟨(some 34), none, .p (.bin .eql (.tmp 27) (.tmp 33))⟩]])
  (.cond (.tmp 34) (.seq (.reg [⟨(some 2), none, .p (.mov (.const (.bool true)))⟩])
  .ret) .skip)))
  (.reg [⟨(some 20), none, .p (.mov (.tmp 4))⟩, ⟨(some 21), none, .p (.bin .add (.tmp 20) (.const (.int .i64 1)))⟩, ⟨(some 4), none, .p (.mov (.tmp 21))⟩])))
def lb51_4 : LC :=
  (.seq (.seq (.reg [⟨(some 10), none, .p (.mov (.tmp 3))⟩, ⟨(some 11), none, .p (.fad 0 (.tmp 1))⟩, ⟨(some 12), none, .p (.ld none (.tmp 11))⟩, ⟨(some 13), none, .p (.len 1 (.tmp 12))⟩, ⟨(some 14), none, .p (.bin .lss (.tmp 10) (.tmp 13))⟩])
  (.cond (.tmp 14) .skip (.exit 0)))
  (.seq (.block 1
  (.seq (.reg [⟨(some 4), none, .p (.mov (.const (.int .i64 0)))⟩])
  (.block 2
  (.loop lb51_3))))
  (.reg [⟨(some 15), none, .p (.mov (.tmp 3))⟩, ⟨(some 16), none, .p (.bin .add (.tmp 15) (.const (.int .i64 1)))⟩, ⟨(some 3), none, .p (.mov (.tmp 16))⟩])))
def cf51 : LC :=
  (.seq (.reg [⟨(some 1), none, .e (.box (.tmp 0))⟩, ⟨(some 2), none, .p (.mov (.const (.bool false)))⟩])
  (.seq (.seq (.reg [⟨(some 3), none, .p (.mov (.const (.int .i64 0)))⟩])
  (.block 0
  (.loop lb51_4)))
  (.seq (.reg [⟨(some 5), none, .p (.mov (.const (.slice none 0 0)))⟩])
  (.seq (.seq (.reg [⟨(some 6), none, .p (.mov (.const (.int .i64 0)))⟩])
  (.block 4
  (.loop lb51_2)))
  (.seq (.seq (.reg [⟨(some 8), none, .p (.mov (.const (.int .i64 0)))⟩])
  (.block 6
  (.loop lb51_1)))
  (.seq (.reg [⟨(some 2), none, .p (.mov (.const (.bool false)))⟩])
  .ret))))))
def rf51 : List RX := [.tmp 2]
set_option maxRecDepth 100000 in
theorem comp51 : cFn Tryd.prog Tryd.f51 = some (erase cf51, rf51) := by kernel_rfl
end Go.Proofs.YtcdepkflghcjpaaDoor
namespace Go.Proofs.YtcdepkflghcjpaaDoor
def lb41_0 : LC :=
  (.seq (.seq (.reg [⟨(some 48), none, .p (.mov (.tmp 8))⟩, ⟨(some 49), none, .p (.fad 1 (.tmp 2))⟩, ⟨(some 50), none, .p (.ld none (.tmp 49))⟩, ⟨(some 51), none, .p (.len 1 (.tmp 50))⟩, ⟨(some 52), none, .p (.bin .lss (.tmp 48) (.tmp 51))⟩])
  (.cond (.tmp 52) .skip (.exit 2)))
  (.seq (.block 3
  (.seq (.reg [⟨(some 55), none, .p (.fad 1 (.tmp 2))⟩, ⟨(some 56), none, .p (.ld none (.tmp 55))⟩, ⟨(some 57), none, .p (.mov (.tmp 8))⟩, ⟨(some 58), none, .p (.iad 6 (.tmp 56) (.tmp 57))⟩, ⟨(some 59), none, .p (.ld (some 6) (.tmp 58))⟩, ⟨(some 60), none, .p (.mov (.tmp 6))⟩, ⟨(some 61), none, .e (.call 75 [(.tmp 59), (.tmp 60)])⟩, ⟨(some 9), none, .p (.mov (.tmp 61))⟩])
  (.seq (.dreg [⟨(some 62), none, .p (.mov (.tmp 9))⟩, ⟨(some 63), none, .p (.bin .geq (.tmp 62) (.const (.int .i64 0)))⟩, ⟨(some 64), none, .p (.mov (.tmp 63))⟩, ⟨(some 65), (some (64, true)), .p (.mov (.tmp 1))⟩, ⟨(some 66), (some (64, true)), .p (.mov (.tmp 9))⟩, ⟨(some 67), (some (64, true)), .p (.iad 1 (.tmp 65) (.tmp 66))⟩, ⟨(some 68), (some (64, true)), .p (.ld none (.tmp 67))⟩, ⟨(some 69), (some (64, true)), .p (.mov (.tmp 1))⟩, ⟨(some 70), (some (64, true)), .p (.mov (.tmp 6))⟩, ⟨(some 71), (some (64, true)), .p (.iad 1 (.tmp 69) (.tmp 70))⟩, ⟨(some 72), (some (64, true)), .p (.ld none (.tmp 71))⟩, ⟨(some 73), (some (64, true)), .p (.bin .sub (.tmp 72) (.const (.int .i64 1)))⟩, ⟨(some 74), (some (64, true)), .p (.bin .eql (.tmp 68) (.tmp 73))⟩] [[⟨(some 75), none, .p (.pick (.tmp 64) (.tmp 74) (.const (.bool false)))⟩]])
  (.cond (.tmp 75) (.reg [⟨(some 7), none, .p (.mov (.const (.bool true)))⟩]) .skip))))
  (.reg [⟨(some 53), none, .p (.mov (.tmp 8))⟩, ⟨(some 54), none, .p (.bin .add (.tmp 53) (.const (.int .i64 1)))⟩, ⟨(some 8), none, .p (.mov (.tmp 54))⟩])))
def lb41_1 : LC :=
  (.seq (.seq (.reg [⟨(some 16), none, .p (.mov (.tmp 6))⟩, ⟨(some 17), none, .p (.mov (.tmp 1))⟩, ⟨(some 18), none, .p (.len 1 (.tmp 17))⟩, ⟨(some 19), none, .p (.bin .lss (.tmp 16) (.tmp 18))⟩])
  (.cond (.tmp 19) .skip (.exit 0)))
  (.seq (.block 1
  (.seq (.seq (.reg [⟨(some 22), none, .p (.mov (.tmp 1))⟩, ⟨(some 23), none, .p (.mov (.tmp 6))⟩, ⟨(some 24), none, .p (.iad 1 (.tmp 22) (.tmp 23))⟩, ⟨(some 25), none, .p (.ld none (.tmp 24))⟩, ⟨(some 26), none, .p (.bin .lss (.tmp 25) (.const (.int .i64 (-1))))⟩, ⟨(some 27), none, .p (.mov (.tmp 26))⟩, ⟨(some 28), (some (27, false)), .p (.mov (.tmp 1))⟩, ⟨(some 29), (some (27, false)), .p (.mov (.tmp 6))⟩, ⟨(some 30), (some (27, false)), .p (.iad 1 (.tmp 28) (.tmp 29))⟩, ⟨(some 31), (some (27, false)), .p (.ld none (.tmp 30))⟩, ⟨(some 32), (some (27, false)), .p (.mov (.tmp 1))⟩, ⟨(some 33), (some (27, false)), .p (.len 1 (.tmp 32))⟩, ⟨(some 34), (some (27, false)), .p (.bin .geq (.tmp 31) (.tmp 33))⟩, ⟨(some 35), none, .p (.pick (.tmp 27) (.const (.bool true)) (.tmp 34))⟩])
  (.cond (.tmp 35) (.seq (.reg [⟨(some 4), none, .p (.mov (.const (.bool false)))⟩])
  .ret) .skip))
  (.seqj (.seq (.reg [⟨(some 36), none, .p (.mov (.tmp 1))⟩, ⟨(some 37), none, .p (.mov (.tmp 6))⟩, ⟨(some 38), none, .p (.iad 1 (.tmp 36) (.tmp 37))⟩, ⟨(some 39), none, .p (.ld none (.tmp 38))⟩, ⟨(some 40), none, .p (.bin .eql (.tmp 39) (.const (.int .i64 0)))⟩])
  (.cond (.tmp 40) (.reg [⟨(some 41), none, .p (.mov (.tmp 5))⟩, ⟨(some 42), none, .p (.bin .add (.tmp 41) (.const (.int .i64 1)))⟩, ⟨(some 5), none, .p (.mov (.tmp 42))⟩]) .skip))
  (.seq (.reg [⟨(some 43), none, .p (.mov (.tmp 1))⟩, ⟨(some 44), none, .p (.mov (.tmp 6))⟩, ⟨(some 45), none, .p (.iad 1 (.tmp 43) (.tmp 44))⟩, ⟨(some 46), none, .p (.ld none (.tmp 45))⟩, ⟨(some 47), none, .p (.bin .lss (.tmp 46) (.const (.int .i64 1)))⟩, ⟨(some 7), none, .p (.mov (.tmp 47))⟩])
  (.seq (.seq (.reg [⟨(some 8), none, .p (.mov (.const (.int .i64 0)))⟩])
  (.block 2
  (.loop lb41_0)))
  (.seq (.reg [⟨(some 76), none, .p (.mov (.tmp 7))⟩, ⟨(some 77), none, .p (.un .not (.tmp 76))⟩])
  (.cond (.tmp 77) (.seq (.reg [⟨(some 4), none, .p (.mov (.const (.bool false)))⟩])
  .ret) .skip)))))))
  (.reg [⟨(some 20), none, .p (.mov (.tmp 6))⟩, ⟨(some 21), none, .p (.bin .add (.tmp 20) (.const (.int .i64 1)))⟩, ⟨(some 6), none, .p (.mov (.tmp 21))⟩])))
def cf41 : LC :=
  (.seq (.reg [⟨(some 2), none, .e (.box (.tmp 0))⟩, ⟨(some 4), none, .p (.mov (.const (.bool false)))⟩])
  (.seq (.seq (.reg [⟨(some 10), none, .p (.mov (.tmp 1))⟩, ⟨(some 11), none, .p (.len 1 (.tmp 10))⟩, ⟨(some 12), none, .p (.fad 0 (.tmp 2))⟩, ⟨(some 13), none, .p (.ld none (.tmp 12))⟩, ⟨(some 14), none, .p (.len 1 (.tmp 13))⟩, ⟨(some 15), none, .p (.bin .neq (.tmp 11) (.tmp 14))⟩])
  (.cond (.tmp 15) (.seq (.reg [⟨(some 4), none, .p (.mov (.const (.bool false)))⟩])
  .ret) .skip))
  (.seq (.reg [⟨(some 5), none, .p (.mov (.const (.int .i64 0)))⟩])
  (.seq (.seq (.reg [⟨(some 6), none, .p (.mov (.const (.int .i64 0)))⟩])
  (.block 0
  (.loop lb41_1)))
  (.seq (.reg [⟨(some 78), none, .p (.mov (.tmp 5))⟩, ⟨(some 79), none, .p (.bin .eql (.tmp 78) (.const (.int .i64 1)))⟩, ⟨(some 4), none, .p (.mov (.tmp 79))⟩])
  .ret)))))
def rf41 : List RX := [.tmp 4]
set_option maxRecDepth 100000 in
theorem comp41 : cFn Tryd.prog Tryd.f41 = some (erase cf41, rf41) := by kernel_rfl
def cf44 : LC :=
  (.seq (.reg [⟨(some 3), none, .e (.box (.tmp 0))⟩, ⟨(some 6), none, .p (.mov (.const (.int .i64 0)))⟩])
  (.seq (.reg [⟨(some 7), none, .p (.fad 1 (.tmp 3))⟩, ⟨(some 8), none, .p (.ld none (.tmp 7))⟩, ⟨(some 9), none, .p (.mov (.tmp 1))⟩, ⟨(some 10), none, .p (.iad 6 (.tmp 8) (.tmp 9))⟩, ⟨(some 11), none, .p (.ld (some 6) (.tmp 10))⟩, ⟨(some 12), none, .p (.mov (.tmp 2))⟩, ⟨(some 13), none, .e (.call 75 [(.tmp 11), (.tmp 12)])⟩, ⟨(some 6), none, .p (.mov (.tmp 13))⟩])
  .ret))
def rf44 : List RX := [.tmp 6]
set_option maxRecDepth 100000 in
theorem comp44 : cFn Tryd.prog Tryd.f44 = some (erase cf44, rf44) := by kernel_rfl
def cf75 : LC :=
  (.seq (.reg [⟨(some 2), none, .e (.box (.tmp 0))⟩, ⟨(some 4), none, .p (.mov (.const (.int .i64 0)))⟩])
  (.seq (.seq (.reg [⟨(some 5), none, .p (.fad 0 (.tmp 2))⟩, ⟨(some 6), none, .p (.ld none (.tmp 5))⟩, ⟨(some 7), none, .p (.mov (.tmp 1))⟩, ⟨(some 8), none, .p (.bin .eql (.tmp 6) (.tmp 7))⟩])
  (.cond (.tmp 8) (.seq (.reg [⟨(some 9), none, .p (.fad 2 (.tmp 2))⟩, ⟨(some 10), none, .p (.ld none (.tmp 9))⟩, ⟨(some 4), none, .p (.mov (.tmp 10))⟩])
  .ret) .skip))
  (.seq (.seq (.reg [⟨(some 11), none, .p (.fad 2 (.tmp 2))⟩, ⟨(some 12), none, .p (.ld none (.tmp 11))⟩, ⟨(some 13), none, .p (.mov (.tmp 1))⟩, ⟨(some 14), none, .p (.bin .eql (.tmp 12) (.tmp 13))⟩])
  (.cond (.tmp 14) (.seq (.reg [⟨(some 15), none, .p (.fad 0 (.tmp 2))⟩, ⟨(some 16), none, .p (.ld none (.tmp 15))⟩, ⟨(some 4), none, .p (.mov (.tmp 16))⟩])
  .ret) .skip))
  (.seq (.reg [⟨(some 4), none, .p (.mov (.const (.int .i64 (-1))))⟩])
  .ret))))
def rf75 : List RX := [.tmp 4]
set_option maxRecDepth 100000 in
theorem comp75 : cFn Tryd.prog Tryd.f75 = some (erase cf75, rf75) := by kernel_rfl
def cf76 : LC :=
  (.seq (.reg [⟨(some 6), none, .p (.mov (.const (.bool false)))⟩])
  (.seq (.seq (.reg [⟨(some 7), none, .p (.mov (.tmp 1))⟩, ⟨(some 8), none, .p (.bin .lss (.tmp 7) (.const (.int .i64 0)))⟩, ⟨(some 9), none, .p (.mov (.tmp 8))⟩, ⟨(some 10), (some (9, false)), .p (.mov (.tmp 2))⟩, ⟨(some 11), (some (9, false)), .p (.bin .lss (.tmp 10) (.const (.int .i64 0)))⟩, ⟨(some 12), none, .p (.pick (.tmp 9) (.const (.bool true)) (.tmp 11))⟩, ⟨(some 13), none, .p (.mov (.tmp 12))⟩, ⟨(some 14), (some (13, false)), .p (.mov (.tmp 1))⟩, ⟨(some 15), (some (13, false)), .p (.mov (.tmp 0))⟩, ⟨(some 16), (some (13, false)), .p (.len 1 (.tmp 15))⟩, ⟨(some 17), (some (13, false)), .p (.bin .geq (.tmp 14) (.tmp 16))⟩, ⟨(some 18), none, .p (.pick (.tmp 13) (.const (.bool true)) (.tmp 17))⟩, ⟨(some 19), none, .p (.mov (.tmp 18))⟩, ⟨(some 20), (some (19, false)), .p (.mov (.tmp 2))⟩, ⟨(some 21), (some (19, false)), .p (.mov (.tmp 0))⟩, ⟨(some 22), (some (19, false)), .p (.len 1 (.tmp 21))⟩, ⟨(some 23), (some (19, false)), .p (.bin .geq (.tmp 20) (.tmp 22))⟩, ⟨(some 24), none, .p (.pick (.tmp 19) (.const (.bool true)) (.tmp 23))⟩, ⟨(some 25), none, .p (.mov (.tmp 24))⟩, ⟨(some 26), (some (25, false)), .p (.mov (.tmp 0))⟩, ⟨(some 27), (some (25, false)), .p (.mov (.tmp 1))⟩, ⟨(some 28), (some (25, false)), .p (.iad 1 (.tmp 26) (.tmp 27))⟩, ⟨(some 29), (some (25, false)), .p (.ld none (.tmp 28))⟩, ⟨(some 30), (some (25, false)), .p (.bin .lss (.tmp 29) (.const (.int .i64 0)))⟩, ⟨(some 31), none, .p (.pick (.tmp 25) (.const (.bool true)) (.tmp 30))⟩, ⟨(some 32), none, .p (.mov (.tmp 31))⟩, ⟨(some 33), (some (32, false)), .p (.mov (.tmp 0))⟩, ⟨(some 34), (some (32, false)), .p (.mov (.tmp 2))⟩, ⟨(some 35), (some (32, false)), .p (.iad 1 (.tmp 33) (.tmp 34))⟩, ⟨(some 36), (some (32, false)), .p (.ld none (.tmp 35))⟩, ⟨(some 37), (some (32, false)), .p (.bin .lss (.tmp 36) (.const (.int .i64 0)))⟩, ⟨(some 38), none, .p (.pick (.tmp 32) (.const (.bool true)) (.tmp 37))⟩])
  (.cond (.tmp 38) (.seq (.reg [⟨(some 6), none, .p (.mov (.const (.bool false)))⟩])
  .ret) .skip))
  (.seq (.dreg [⟨(some 39), none, .p (.mov (.tmp 0))⟩, ⟨(some 40), none, .p (.mov (.tmp 1))⟩, ⟨(some 41), none, .p (.iad 1 (.tmp 39) (.tmp 40))⟩, ⟨(some 42), none, .p (.ld none (.tmp 41))⟩, ⟨(some 43), none, .p (.mov (.tmp 0))⟩, ⟨(some 44), none, .p (.mov (.tmp 2))⟩, ⟨(some 45), none, .p (.iad 1 (.tmp 43) (.tmp 44))⟩, ⟨(some 46), none, .p (.ld none (.tmp 45))⟩, ⟨(some 47), none, .p (.bin .lss (.tmp 42) (.tmp 46))⟩, ⟨(some 48), none, .p (.mov (.tmp 47))⟩, ⟨(some 49), (some (48, false)), .p (.mov (.tmp 0))⟩, ⟨(some 50), (some (48, false)), .p (.mov (.tmp 1))⟩, ⟨(some 51), (some (48, false)), .p (.iad 1 (.tmp 49) (.tmp 50))⟩, ⟨(some 52), (some (48, false)), .p (.ld none (.tmp 51))⟩, ⟨(some 53), (some (48, false)), .p (.mov (.tmp 0))⟩, ⟨(some 54), (some (48, false)), .p (.mov (.tmp 2))⟩, ⟨(some 55), (some (48, false)), .p (.iad 1 (.tmp 53) (.tmp 54))⟩, ⟨(some 56), (some (48, false)), .p (.ld none (.tmp 55))⟩, ⟨(some 57), (some (48, false)), .p (.bin .eql (.tmp 52) (.tmp 56))⟩, ⟨(some 58), (some (48, false)), .p (.mov (.tmp 57))⟩, ⟨(some 59), (some (58, true)), .p (.mov (.tmp 1))⟩, ⟨(some 60), (some (58, true)), .p (.mov (.tmp 2))⟩, ⟨(some 61), (some (58, true)), .p (.bin .lss (.tmp 59) (.tmp 60))⟩, ⟨(some 62), (some (48, false)), .p (.pick (.tmp 58) (.tmp 61) (.const (.bool false)))⟩, ⟨(some 63), none, .p (.pick (.tmp 48) (.const (.bool true)) (.tmp 62))⟩] [[⟨(some 6), none, .p (.mov (.tmp 63))⟩]])
  .ret)))
def rf76 : List RX := [.tmp 6]
set_option maxRecDepth 100000 in
theorem comp76 : cFn Tryd.prog Tryd.f76 = some (erase cf76, rf76) := by kernel_rfl
end Go.Proofs.YtcdepkflghcjpaaDoor
namespace Go.Proofs.YtcdepkflghcjpaaDoor
def lb42_0 : LC :=
  (.seq (.seq (.reg [⟨(some 69), none, .p (.mov (.tmp 16))⟩, ⟨(some 70), none, .p (.bin .lss (.tmp 69) (.const (.int .i64 2)))⟩])
  (.cond (.tmp 70) .skip (.exit 6)))
  (.seq (.block 7
  (.seq (.dreg [⟨(some 73), none, .p (.fad 1 (.tmp 4))⟩, ⟨(some 74), none, .p (.ld none (.tmp 73))⟩, ⟨(some 75), none, .p (.mov (.tmp 15))⟩, ⟨(some 76), none, .p (.iad 6 (.tmp 74) (.tmp 75))⟩, ⟨(some 77), none, .p (.fad 0 (.tmp 76))⟩, ⟨(some 78), none, .p (.ld none (.tmp 77))⟩, ⟨(some 79), none, .p (.fad 1 (.tmp 4))⟩, ⟨(some 80), none, .p (.ld none (.tmp 79))⟩, ⟨(some 81), none, .p (.mov (.tmp 15))⟩, ⟨(some 82), none, .p (.iad 6 (.tmp 80) (.tmp 81))⟩, ⟨(some 83), none, .p (.fad 2 (.tmp 82))⟩, ⟨(some 84), none, .p (.ld none (.tmp 83))⟩, ⟨(some 17), none, .p (.mov (.tmp 78))⟩] [[⟨(some 18), none, .p (.mov (.tmp 84))⟩]])
  (.seq (.seq (.reg [⟨(some 85), none, .p (.mov (.tmp 16))⟩, ⟨(some 86), none, .p (.bin .eql (.tmp 85) (.const (.int .i64 1)))⟩])
  (.cond (.tmp 86) (.reg [⟨(some 87), none, .p (.mov (.tmp 18))⟩, ⟨(some 88), none, .p (.mov (.tmp 17))⟩, ⟨(some 17), none, .p (.mov (.tmp 87))⟩, ⟨(some 18), none, .p (.mov (.tmp 88))⟩]) .skip))
  (.seq (.reg [⟨(some 89), none, .p (.mov (.tmp 1))⟩, ⟨(some 90), none, .p (.mov (.tmp 17))⟩, ⟨(some 91), none, .p (.mov (.tmp 18))⟩, ⟨(some 92), none, .e (.call 45 [(.tmp 89), (.tmp 90), (.tmp 91)])⟩, ⟨(some 19), none, .p (.mov (.tmp 92))⟩])
  (.seq (.seq (.reg [⟨(some 93), none, .p (.mov (.tmp 19))⟩, ⟨(some 94), none, .p (.bin .eql (.tmp 93) (.const (.int .i64 2)))⟩, ⟨(some 95), none, .p (.mov (.tmp 94))⟩, ⟨(some 96), (some (95, true)), .p (.mov (.tmp 12))⟩, ⟨(some 97), (some (95, true)), .p (.mov (.tmp 18))⟩, ⟨(some 98), (some (95, true)), .p (.iad 1 (.tmp 96) (.tmp 97))⟩, ⟨(some 99), (some (95, true)), .p (.ld none (.tmp 98))⟩, ⟨(some 100), (some (95, true)), .p (.mov (.tmp 14))⟩, ⟨(some 101), (some (95, true)), .p (.bin .sub (.tmp 100) (.const (.int .i64 1)))⟩, ⟨(some 102), (some (95, true)), .p (.bin .eql (.tmp 99) (.tmp 101))⟩, ⟨(some 103), none, .p (.pick (.tmp 95) (.tmp 102) (.const (.bool false)))⟩, ⟨(some 104), none, .p (.mov (.tmp 103))⟩, ⟨(some 105), (some (104, true)), .p (.mov (.tmp 12))⟩, ⟨(some 106), (some (104, true)), .p (.mov (.tmp 17))⟩, ⟨(some 107), (some (104, true)), .p (.iad 1 (.tmp 105) (.tmp 106))⟩, ⟨(some 108), (some (104, true)), .p (.ld none (.tmp 107))⟩, ⟨(some 109), (some (104, true)), .p (.bin .lss (.tmp 108) (.const (.int .i64 0)))⟩, ⟨(some 110), none, .p (.pick (.tmp 104) (.tmp 109) (.const (.bool false)))⟩])
  (.cond (.tmp 110) (.reg [⟨(some 111), none, .p (.mov (.tmp 12))⟩, ⟨(some 112), none, .p (.mov (.tmp 17))⟩, ⟨(some 113), none, .p (.mov (.tmp 14))⟩, ⟨(some 114), none, .p (.iad 1 (.tmp 111) (.tmp 112))⟩, ⟨none, none, .e (.st 1 (.tmp 114) (.tmp 113))⟩]) .skip))
  (.seq (.reg [⟨(some 115), none, .p (.mov (.tmp 11))⟩, ⟨(some 116), none, .p (.mov (.tmp 17))⟩, ⟨(some 117), none, .p (.iad 1 (.tmp 115) (.tmp 116))⟩, ⟨(some 118), none, .p (.ld none (.tmp 117))⟩, ⟨(some 119), none, .p (.bin .lss (.tmp 118) (.const (.int .i64 0)))⟩, ⟨(some 120), none, .p (.mov (.tmp 119))⟩, ⟨(some 121), (some (120, true)), .p (.mov (.tmp 19))⟩, ⟨(some 122), (some (120, true)), .p (.bin .eql (.tmp 121) (.const (.int .i64 2)))⟩, ⟨(some 123), (some (120, true)), .p (.mov (.tmp 122))⟩, ⟨(some 124), (some (123, true)), .p (.mov (.tmp 12))⟩, ⟨(some 125), (some (123, true)), .p (.mov (.tmp 18))⟩, ⟨(some 126), (some (123, true)), .p (.iad 1 (.tmp 124) (.tmp 125))⟩, ⟨(some 127), (some (123, true)), .p (.ld none (.tmp 126))⟩, ⟨(some 128), (some (123, true)), .p (.mov (.tmp 14))⟩, ⟨(some 129), (some (123, true)), .p (.bin .sub (.tmp 128) (.const (.int .i64 1)))⟩, ⟨(some 130), (some (123, true)), .p (.bin .eql (.tmp 127) (.tmp 129))⟩, ⟨(some 131), (some (120, true)), .p (.pick (.tmp 123) (.tmp 130) (.const (.bool false)))⟩, ⟨(some 132), (some (120, true)), .p (.mov (.tmp 131))⟩, ⟨(some 133), (some (132, false)), .p (.mov (.tmp 19))⟩, ⟨(some 134), (some (132, false)), .p (.bin .eql (.tmp 133) (.const (.int .i64 1)))⟩, ⟨(some 135), (some (132, false)), .p (.mov (.tmp 134))⟩, ⟨(some 136), (some (135, true)), .p (.mov (.tmp 11))⟩, ⟨(some 137), (some (135, true)), .p (.mov (.tmp 18))⟩, ⟨(some 138), (some (135, true)), .p (.iad 1 (.tmp 136) (.tmp 137))⟩, ⟨(some 139), (some (135, true)), .p (.ld none (.tmp 138))⟩, ⟨(some 140), (some (135, true)), .p (.mov (.tmp 14))⟩, ⟨(some 141), (some (135, true)), .p (.bin .sub (.tmp 140) (.const (.int .i64 1)))⟩, ⟨(some 142), (some (135, true)), .p (.bin .eql (.tmp 139) (.tmp 141))⟩, ⟨(some 143), (some (132, false)), .p (.pick (.tmp 135) (.tmp 142) (.const (.bool false)))⟩, ⟨(some 144), (some (120, true)), .p (.pick (.tmp 132) (.const (.bool true)) (.tmp 143))⟩, ⟨(some 145), none, .p (.pick (.tmp 120) (.tmp 144) (.const (.bool false)))⟩])
  (.cond (.tmp 145) (.reg [⟨(some 146), none, .p (.mov (.tmp 11))⟩, ⟨(some 147), none, .p (.mov (.tmp 17))⟩, ⟨(some 148), none, .p (.mov (.tmp 14))⟩, ⟨(some 149), none, .p (.iad 1 (.tmp 146) (.tmp 147))⟩, ⟨none, none, .e (.st 1 (.tmp 149) (.tmp 148))⟩]) .skip)))))))
  (.reg [⟨(some 71), none, .p (.mov (.tmp 16))⟩, ⟨(some 72), none, .p (.bin .add (.tmp 71) (.const (.int .i64 1)))⟩, ⟨(some 16), none, .p (.mov (.tmp 72))⟩])))
def lb42_1 : LC :=
  (.seq (.seq (.reg [⟨(some 57), none, .p (.mov (.tmp 15))⟩, ⟨(some 58), none, .p (.fad 1 (.tmp 4))⟩, ⟨(some 59), none, .p (.ld none (.tmp 58))⟩, ⟨(some 60), none, .p (.len 1 (.tmp 59))⟩, ⟨(some 61), none, .p (.bin .lss (.tmp 57) (.tmp 60))⟩])
  (.cond (.tmp 61) .skip (.exit 4)))
  (.seq (.block 5
  (.seq (.seq (.reg [⟨(some 64), none, .p (.mov (.tmp 2))⟩, ⟨(some 65), none, .p (.mov (.tmp 15))⟩, ⟨(some 66), none, .p (.iad 1 (.tmp 64) (.tmp 65))⟩, ⟨(some 67), none, .p (.ld none (.tmp 66))⟩, ⟨(some 68), none, .p (.un .not (.tmp 67))⟩])
  (.cond (.tmp 68) (.exit 5) .skip))
  (.seq (.reg [⟨(some 16), none, .p (.mov (.const (.int .i64 0)))⟩])
  (.block 6
  (.loop lb42_0)))))
  (.reg [⟨(some 62), none, .p (.mov (.tmp 15))⟩, ⟨(some 63), none, .p (.bin .add (.tmp 62) (.const (.int .i64 1)))⟩, ⟨(some 15), none, .p (.mov (.tmp 63))⟩])))
def lb42_2 : LC :=
  (.seq (.seq (.reg [⟨(some 51), none, .p (.mov (.tmp 14))⟩, ⟨(some 52), none, .p (.mov (.tmp 10))⟩, ⟨(some 53), none, .p (.bin .mul (.const (.int .i64 2)) (.tmp 52))⟩, ⟨(some 54), none, .p (.bin .leq (.tmp 51) (.tmp 53))⟩])
  (.cond (.tmp 54) .skip (.exit 2)))
  (.seq (.block 3
  (.seq (.reg [⟨(some 15), none, .p (.mov (.const (.int .i64 0)))⟩])
  (.block 4
  (.loop lb42_1))))
  (.reg [⟨(some 55), none, .p (.mov (.tmp 14))⟩, ⟨(some 56), none, .p (.bin .add (.tmp 55) (.const (.int .i64 1)))⟩, ⟨(some 14), none, .p (.mov (.tmp 56))⟩])))
def lb42_3 : LC :=
  (.seq (.seq (.reg [⟨(some 27), none, .p (.mov (.tmp 13))⟩, ⟨(some 28), none, .p (.mov (.tmp 10))⟩, ⟨(some 29), none, .p (.bin .lss (.tmp 27) (.tmp 28))⟩])
  (.cond (.tmp 29) .skip (.exit 0)))
  (.seq (.block 1
  (.reg [⟨(some 32), none, .p (.mov (.tmp 11))⟩, ⟨(some 33), none, .p (.mov (.tmp 13))⟩, ⟨(some 34), none, .p (.mov (.tmp 12))⟩, ⟨(some 35), none, .p (.mov (.tmp 13))⟩, ⟨(some 36), none, .p (.iad 1 (.tmp 32) (.tmp 33))⟩, ⟨none, none, .e (.st 1 (.tmp 36) (.const (.int .i64 (-1))))⟩, ⟨(some 37), none, .p (.iad 1 (.tmp 34) (.tmp 35))⟩, ⟨none, none, .e (.st 1 (.tmp 37) (.const (.int .i64 (-1))))⟩]))
  (.reg [⟨(some 30), none, .p (.mov (.tmp 13))⟩, ⟨(some 31), none, .p (.bin .add (.tmp 30) (.const (.int .i64 1)))⟩, ⟨(some 13), none, .p (.mov (.tmp 31))⟩])))
def cf42 : LC :=
  (.seq (.reg [⟨(some 4), none, .e (.box (.tmp 0))⟩, ⟨(some 8), none, .p (.mov (.const (.slice none 0 0)))⟩, ⟨(some 9), none, .p (.mov (.const (.slice none 0 0)))⟩])
  (.seq (.reg [⟨(some 20), none, .p (.fad 0 (.tmp 4))⟩, ⟨(some 21), none, .p (.ld none (.tmp 20))⟩, ⟨(some 22), none, .p (.len 1 (.tmp 21))⟩, ⟨(some 10), none, .p (.mov (.tmp 22))⟩])
  (.seq (.dreg [⟨(some 23), none, .p (.mov (.tmp 10))⟩] [[⟨(some 24), none, .e (.mks 1 1 [(.int .i64 0)] 8 (.tmp 23) (.tmp 23))⟩, ⟨(some 25), none, .p (.mov (.tmp 10))⟩, ⟨(some 26), none, .e (.mks 1 1 [(.int .i64 0)] 8 (.tmp 25) (.tmp 25))⟩, ⟨(some 11), none, .p (.mov (.tmp 24))⟩, ⟨(some 12), none, .p (.mov (.tmp 26))⟩], [⟨(some 24), none, .e (.mks 1 1 [(.int .i64 0)] 8 (.tmp 23) (.tmp 23))⟩, ⟨(some 25), none, .p (.mov (.tmp 10))⟩, ⟨(some 11), none, .p (.mov (.tmp 24))⟩, ⟨(some 26), none, .e (.mks 1 1 [(.int .i64 0)] 8 (.tmp 25) (.tmp 25))⟩, ⟨(some 12), none, .p (.mov (.tmp 26))⟩], [⟨(some 24), none, .e (.mks 1 1 [(.int .i64 0)] 8 (.tmp 23) (.tmp 23))⟩, ⟨(some 11), none, .p (.mov (.tmp 24))⟩, ⟨(some 25), none, .p (.mov (.tmp 10))⟩, ⟨(some 26), none, .e (.mks 1 1 [(.int .i64 0)] 8 (.tmp 25) (.tmp 25))⟩, ⟨(some 12), none, .p (.mov (.tmp 26))⟩], [⟨(some 25), none, .p (.mov (.tmp 10))⟩, ⟨(some 24), none, .e (.mks 1 1 [(.int .i64 0)] 8 (.tmp 23) (.tmp 23))⟩, ⟨(some 26), none, .e (.mks 1 1 [(.int .i64 0)] 8 (.tmp 25) (.tmp 25))⟩, ⟨(some 11), none, .p (.mov (.tmp 24))⟩, ⟨(some 12), none, .p (.mov (.tmp 26))⟩], [⟨(some 25), none, .p (.mov (.tmp 10))⟩, ⟨(some 24), none, .e (.mks 1 1 [(.int .i64 0)] 8 (.tmp 23) (.tmp 23))⟩, ⟨(some 11), none, .p (.mov (.tmp 24))⟩, ⟨(some 26), none, .e (.mks 1 1 [(.int .i64 0)] 8 (.tmp 25) (.tmp 25))⟩, ⟨(some 12), none, .p (.mov (.tmp 26))⟩], [⟨(some 25), none, .p (.mov (.tmp 10))⟩, ⟨(some 26), none, .e (.mks 1 1 [(.int .i64 0)] 8 (.tmp 25) (.tmp 25))⟩, ⟨(some 24), none, .e (.mks 1 1 [(.int .i64 0)] 8 (.tmp 23) (.tmp 23))⟩, ⟨(some 11), none, .p (.mov (.tmp 24))⟩, ⟨(some 12), none, .p (.mov (.tmp 26))⟩]])
  (.seq (.seq (.reg [⟨(some 13), none, .p (.mov (.const (.int .i64 0)))⟩])
  (.block 0
  (.loop lb42_3)))
  (.seq (.seq (.reg [⟨(some 38), none, .p (.mov (.tmp 1))⟩, ⟨(some 39), none, .p (.mov (.tmp 3))⟩, ⟨(some 40), none, .p (.iad 1 (.tmp 38) (.tmp 39))⟩, ⟨(some 41), none, .p (.ld none (.tmp 40))⟩, ⟨(some 42), none, .p (.bin .lss (.tmp 41) (.const (.int .i64 0)))⟩])
  (.cond (.tmp 42) (.seq (.reg [⟨(some 43), none, .p (.mov (.tmp 11))⟩, ⟨(some 44), none, .p (.mov (.tmp 12))⟩, ⟨(some 8), none, .p (.mov (.tmp 43))⟩, ⟨(some 9), none, .p (.mov (.tmp 44))⟩])
  .ret) .skip))
  (.seq (.reg [⟨(some 45), none, .p (.mov (.tmp 11))⟩, ⟨(some 46), none, .p (.mov (.tmp 3))⟩, ⟨(some 47), none, .p (.mov (.tmp 12))⟩, ⟨(some 48), none, .p (.mov (.tmp 3))⟩, ⟨(some 49), none, .p (.iad 1 (.tmp 45) (.tmp 46))⟩, ⟨none, none, .e (.st 1 (.tmp 49) (.const (.int .i64 0)))⟩, ⟨(some 50), none, .p (.iad 1 (.tmp 47) (.tmp 48))⟩, ⟨none, none, .e (.st 1 (.tmp 50) (.const (.int .i64 0)))⟩])
  (.seq (.seq (.reg [⟨(some 14), none, .p (.mov (.const (.int .i64 1)))⟩])
  (.block 2
  (.loop lb42_2)))
  (.seq (.reg [⟨(some 150), none, .p (.mov (.tmp 11))⟩, ⟨(some 151), none, .p (.mov (.tmp 12))⟩, ⟨(some 8), none, .p (.mov (.tmp 150))⟩, ⟨(some 9), none, .p (.mov (.tmp 151))⟩])
  .ret))))))))
def rf42 : List RX := [.tmp 8, .tmp 9]
set_option maxRecDepth 100000 in
theorem comp42 : cFn Tryd.prog Tryd.f42 = some (erase cf42, rf42) := by kernel_rfl
def cf45 : LC :=
  (.seq (.reg [⟨(some 6), none, .p (.mov (.const (.int .i64 0)))⟩])
  (.seq (.seq (.reg [⟨(some 7), none, .p (.mov (.tmp 0))⟩, ⟨(some 8), none, .p (.mov (.tmp 2))⟩, ⟨(some 9), none, .p (.mov (.tmp 1))⟩, ⟨(some 10), none, .e (.call 76 [(.tmp 7), (.tmp 8), (.tmp 9)])⟩])
  (.cond (.tmp 10) (.seq (.reg [⟨(some 6), none, .p (.mov (.const (.int .i64 1)))⟩])
  .ret) .skip))
  (.seq (.seq (.reg [⟨(some 11), none, .p (.mov (.tmp 0))⟩, ⟨(some 12), none, .p (.mov (.tmp 1))⟩, ⟨(some 13), none, .p (.mov (.tmp 2))⟩, ⟨(some 14), none, .e (.call 76 [(.tmp 11), (.tmp 12), (.tmp 13)])⟩])
  (.cond (.tmp 14) (.seq (.reg [⟨(some 6), none, .p (.mov (.const (.int .i64 2)))⟩])
  .ret) .skip))
  (.seq (.reg [⟨(some 6), none, .p (.mov (.const (.int .i64 0)))⟩])
  .ret))))
def rf45 : List RX := [.tmp 6]
set_option maxRecDepth 100000 in
theorem comp45 : cFn Tryd.prog Tryd.f45 = some (erase cf45, rf45) := by kernel_rfl
end Go.Proofs.YtcdepkflghcjpaaDoor
namespace Go.Proofs.YtcdepkflghcjpaaDoor
def cf14 : LC :=
  (.seq (.reg [⟨(some 3), none, .e (.box (.tmp 0))⟩, ⟨(some 6), none, .p (.mov (.const (.bool false)))⟩])
  (.seq (.reg [⟨(some 7), none, .p (.ld (some 2) (.tmp 3))⟩, ⟨(some 8), none, .e (.call 22 [(.tmp 7)])⟩, ⟨(some 9), none, .p (.bin .eql (.tmp 8) (.const (.int .i64 0)))⟩, ⟨(some 10), none, .p (.mov (.tmp 9))⟩, ⟨(some 11), (some (10, true)), .p (.ld (some 2) (.tmp 3))⟩, ⟨(some 12), (some (10, true)), .p (.mov (.tmp 1))⟩, ⟨(some 13), (some (10, true)), .e (.call 41 [(.tmp 11), (.tmp 12)])⟩, ⟨(some 14), none, .p (.pick (.tmp 10) (.tmp 13) (.const (.bool false)))⟩, ⟨(some 15), none, .p (.mov (.tmp 14))⟩, ⟨(some 16), (some (15, true)), .p (.mov (.tmp 2))⟩, ⟨(some 17), (some (15, true)), .p (.len 1 (.tmp 16))⟩, ⟨(some 18), (some (15, true)), .p (.fad 1 (.tmp 3))⟩, ⟨(some 19), (some (15, true)), .p (.ld none (.tmp 18))⟩, ⟨(some 20), (some (15, true)), .p (.len 1 (.tmp 19))⟩, ⟨(some 21), (some (15, true)), .p (.bin .eql (.tmp 17) (.tmp 20))⟩, ⟨(some 22), none, .p (.pick (.tmp 15) (.tmp 21) (.const (.bool false)))⟩, ⟨(some 6), none, .p (.mov (.tmp 22))⟩])
  .ret))
def rf14 : List RX := [.tmp 6]
set_option maxRecDepth 100000 in
theorem comp14 : cFn Tryd.prog Tryd.f14 = some (erase cf14, rf14) := by kernel_rfl
def lb15_0 : LC :=
  (.seq (.seq (.reg [⟨(some 38), none, .p (.mov (.tmp 7))⟩, ⟨(some 39), none, .p (.mov (.tmp 0))⟩, ⟨(some 40), none, .p (.mov (.tmp 5))⟩, ⟨(some 41), none, .p (.mov (.tmp 6))⟩, ⟨(some 42), none, .p (.iad 2 (.tmp 39) (.tmp 40))⟩, ⟨(some 43), none, .p (.iada 2 1 (.tmp 42) (.tmp 41))⟩, ⟨(some 44), none, .p (.ld none (.tmp 43))⟩, ⟨(some 45), none, .p (.len 1 (.tmp 44))⟩, ⟨(some 46), none, .p (.bin .lss (.tmp 38) (.tmp 45))⟩])
  (.cond (.tmp 46) .skip (.exit 4)))
  (.seq (.block 5
  (.seq (.dreg [⟨(some 49), none, .p (.mov (.tmp 0))⟩, ⟨(some 50), none, .p (.mov (.tmp 5))⟩, ⟨(some 51), none, .p (.mov (.tmp 6))⟩, ⟨(some 52), none, .p (.iad 2 (.tmp 49) (.tmp 50))⟩, ⟨(some 53), none, .p (.iada 2 1 (.tmp 52) (.tmp 51))⟩, ⟨(some 54), none, .p (.ld none (.tmp 53))⟩, ⟨(some 55), none, .p (.mov (.tmp 7))⟩, ⟨(some 56), none, .p (.iad 1 (.tmp 54) (.tmp 55))⟩, ⟨(some 57), none, .p (.ld none (.tmp 56))⟩, ⟨(some 58), none, .p (.mov (.tmp 1))⟩, ⟨(some 59), none, .p (.mov (.tmp 5))⟩, ⟨(some 60), none, .p (.mov (.tmp 6))⟩, ⟨(some 61), none, .p (.iad 2 (.tmp 58) (.tmp 59))⟩, ⟨(some 62), none, .p (.iada 2 1 (.tmp 61) (.tmp 60))⟩, ⟨(some 63), none, .p (.ld none (.tmp 62))⟩, ⟨(some 64), none, .p (.mov (.tmp 7))⟩, ⟨(some 65), none, .p (.iad 1 (.tmp 63) (.tmp 64))⟩, ⟨(some 66), none, .p (.ld none (.tmp 65))⟩] [[⟨(some 67), none, .p (.bin .neq (.tmp 57) (.tmp 66))⟩]])
  (.cond (.tmp 67) (.seq (.reg [⟨(some 4), none, .p (.mov (.const (.bool false)))⟩])
  .ret) .skip)))
  (.reg [⟨(some 47), none, .p (.mov (.tmp 7))⟩, ⟨(some 48), none, .p (.bin .add (.tmp 47) (.const (.int .i64 1)))⟩, ⟨(some 7), none, .p (.mov (.tmp 48))⟩])))
def lb15_1 : LC :=
  (.seq (.seq (.reg [⟨(some 19), none, .p (.mov (.tmp 6))⟩, ⟨(some 20), none, .p (.bin .lss (.tmp 19) (.const (.int .i64 2)))⟩])
  (.cond (.tmp 20) .skip (.exit 2)))
  (.seq (.block 3
  (.seq (.seq (.dreg [⟨(some 23), none, .p (.mov (.tmp 0))⟩, ⟨(some 24), none, .p (.mov (.tmp 5))⟩, ⟨(some 25), none, .p (.mov (.tmp 6))⟩, ⟨(some 26), none, .p (.iad 2 (.tmp 23) (.tmp 24))⟩, ⟨(some 27), none, .p (.iada 2 1 (.tmp 26) (.tmp 25))⟩, ⟨(some 28), none, .p (.ld none (.tmp 27))⟩, ⟨(some 29), none, .p (.len 1 (.tmp 28))⟩, ⟨(some 30), none, .p (.mov (.tmp 1))⟩, ⟨(some 31), none, .p (.mov (.tmp 5))⟩, ⟨(some 32), none, .p (.mov (.tmp 6))⟩, ⟨(some 33), none, .p (.iad 2 (.tmp 30) (.tmp 31))⟩, ⟨(some 34), none, .p (.iada 2 1 (.tmp 33) (.tmp 32))⟩, ⟨(some 35), none, .p (.ld none (.tmp 34))⟩, ⟨(some 36), none, .p (.len 1 (.tmp 35))⟩] [[⟨(some 37), none, .p (.bin .neq (.tmp 29) (.tmp 36))⟩]])
  (.cond (.tmp 37) (.seq (.reg [⟨(some 4), none, .p (.mov (.const (.bool false)))⟩])
  .ret) .skip))
  (.seq (.reg [⟨(some 7), none, .p (.mov (.const (.int .i64 0)))⟩])
  (.block 4
  (.loop lb15_0)))))
  (.reg [⟨(some 21), none, .p (.mov (.tmp 6))⟩, ⟨(some 22), none, .p (.bin .add (.tmp 21) (.const (.int .i64 1)))⟩, ⟨(some 6), none, .p (.mov (.tmp 22))⟩])))
def lb15_2 : LC :=
  (.seq (.seq (.reg [⟨(some 13), none, .p (.mov (.tmp 5))⟩, ⟨(some 14), none, .p (.mov (.tmp 0))⟩, ⟨(some 15), none, .p (.len 1 (.tmp 14))⟩, ⟨(some 16), none, .p (.bin .lss (.tmp 13) (.tmp 15))⟩])
  (.cond (.tmp 16) .skip (.exit 0)))
  (.seq (.block 1
  (.seq (.reg [⟨(some 6), none, .p (.mov (.const (.int .i64 0)))⟩])
  (.block 2
  (.loop lb15_1))))
  (.reg [⟨(some 17), none, .p (.mov (.tmp 5))⟩, ⟨(some 18), none, .p (.bin .add (.tmp 17) (.const (.int .i64 1)))⟩, ⟨(some 5), none, .p (.mov (.tmp 18))⟩])))
def cf15 : LC :=
  (.seq (.reg [⟨(some 4), none, .p (.mov (.const (.bool false)))⟩])
  (.seq (.seq (.reg [⟨(some 8), none, .p (.mov (.tmp 0))⟩, ⟨(some 9), none, .p (.len 1 (.tmp 8))⟩, ⟨(some 10), none, .p (.mov (.tmp 1))⟩, ⟨(some 11), none, .p (.len 1 (.tmp 10))⟩, ⟨(some 12), none, .p (.bin .neq (.tmp 9) (.tmp 11))⟩])
  (.cond (.tmp 12) (.seq (.reg [⟨(some 4), none, .p (.mov (.const (.bool false)))⟩])
  .ret) .skip))
  (.seq (.seq (.reg [⟨(some 5), none, .p (.mov (.const (.int .i64 0)))⟩])
  (.block 0
  (.loop lb15_2)))
  (.seq (.reg [⟨(some 4), none, .p (.mov (.const (.bool true)))⟩])
  .ret))))
def rf15 : List RX := [.tmp 4]
set_option maxRecDepth 100000 in
theorem comp15 : cFn Tryd.prog Tryd.f15 = some (erase cf15, rf15) := by kernel_rfl
def lb16_0 : LC :=
  (.seq (.seq (.reg [⟨(some 71), none, .p (.mov (.tmp 14))⟩, ⟨(some 72), none, .p (.bin .geq (.tmp 71) (.const (.int .i64 0)))⟩])
  (.cond (.tmp 72) .skip (.exit 6)))
  (.seq (.block 7
  (.seq (.seq (.reg [⟨(some 75), none, .p (.mov (.tmp 2))⟩, ⟨(some 76), none, .p (.mov (.tmp 14))⟩, ⟨(some 77), none, .p (.iad 1 (.tmp 75) (.tmp 76))⟩, ⟨(some 78), none, .p (.ld none (.tmp 77))⟩, ⟨(some 79), none, .p (.un .not (.tmp 78))⟩, ⟨(some 80), none, .p (.mov (.tmp 79))⟩, ⟨(some 81), (some (80, false)), .p (.ld (some 2) (.tmp 3))⟩, ⟨(some 82), (some (80, false)), .p (.mov (.tmp 14))⟩, ⟨(some 83), (some (80, false)), .p (.mov (.tmp 13))⟩, ⟨(some 84), (some (80, false)), .e (.call 43 [(.tmp 81), (.tmp 82), (.tmp 83)])⟩, ⟨(some 85), (some (80, false)), .p (.un .not (.tmp 84))⟩, ⟨(some 86), none, .p (.pick (.tmp 80) (.const (.bool true)) (.tmp 85))⟩])
  (.cond (.tmp 86) (.exit 7) .skip))
  (.seq (.reg [⟨(some 87), none, .p (.ld (some 2) (.tmp 3))⟩, ⟨(some 88), none, .p (.mov (.tmp 14))⟩, ⟨(some 89), none, .p (.mov (.tmp 13))⟩, ⟨(some 90), none, .e (.call 44 [(.tmp 87), (.tmp 88), (.tmp 89)])⟩, ⟨(some 15), none, .p (.mov (.tmp 90))⟩])
  (.seq (.reg [⟨(some 91), none, .p (.mov (.tmp 1))⟩, ⟨(some 92), none, .p (.mov (.tmp 13))⟩, ⟨(some 93), none, .p (.mov (.tmp 15))⟩, ⟨(some 94), none, .e (.call 45 [(.tmp 91), (.tmp 92), (.tmp 93)])⟩, ⟨(some 16), none, .p (.mov (.tmp 94))⟩])
  (.seq (.seq (.dreg [⟨(some 95), none, .p (.mov (.tmp 16))⟩, ⟨(some 96), none, .p (.bin .eql (.tmp 95) (.const (.int .i64 1)))⟩, ⟨(some 97), none, .p (.mov (.tmp 96))⟩, ⟨(some 98), (some (97, true)), .p (.mov (.tmp 11))⟩, ⟨(some 99), (some (97, true)), .p (.mov (.tmp 13))⟩, ⟨(some 100), (some (97, true)), .p (.iad 1 (.tmp 98) (.tmp 99))⟩, ⟨(some 101), (some (97, true)), .p (.ld none (.tmp 100))⟩, ⟨(some 102), (some (97, true)), .p (.bin .gtr (.tmp 101) (.const (.int .i64 0)))⟩, ⟨(some 103), none, .p (.pick (.tmp 97) (.tmp 102) (.const (.bool false)))⟩, ⟨(some 104), none, .p (.mov (.tmp 103))⟩, ⟨(some 105), (some (104, true)), .p (.mov (.tmp 11))⟩, ⟨(some 106), (some (104, true)), .p (.mov (.tmp 15))⟩, ⟨(some 107), (some (104, true)), .p (.iad 1 (.tmp 105) (.tmp 106))⟩, ⟨(some 108), (some (104, true)), .p (.ld none (.tmp 107))⟩, ⟨(some 109), (some (104, true)), .p (.mov (.tmp 11))⟩, ⟨(some 110), (some (104, true)), .p (.mov (.tmp 13))⟩, ⟨(some 111), (some (104, true)), .p (.iad 1 (.tmp 109) (.tmp 110))⟩, ⟨(some 112), (some (104, true)), .p (.ld none (.tmp 111))⟩, ⟨(some 113), (some (104, true)), .p (.bin .sub (.tmp 112) (.const (.int .i64 1)))⟩, ⟨(some 114), (some (104, true)), .p (.bin .eql (.tmp 108) (.tmp 113))⟩] [[⟨(some 115), none, .p (.pick (.tmp 104) (.tmp 114) (.const (.bool false)))⟩]])
  (.cond (.tmp 115) (.reg [⟨(some 116), none, .p (.mov (.tmp 8))⟩, ⟨(some 117), none, .p (.mov (.tmp 13))⟩, ⟨(some 118), none, .p (.iad 2 (.tmp 116) (.tmp 117))⟩, ⟨(some 119), none, .p (.iada 2 1 (.tmp 118) (.const (.int .i64 0)))⟩, ⟨(some 120), none, .p (.ld none (.tmp 119))⟩, ⟨(some 121), none, .p (.mov (.tmp 10))⟩, ⟨(some 122), none, .p (.mov (.tmp 14))⟩, ⟨(some 123), none, .p (.iad 1 (.tmp 120) (.tmp 121))⟩, ⟨none, none, .e (.st 1 (.tmp 123) (.tmp 122))⟩]) .skip))
  (.seq (.seq (.dreg [⟨(some 124), none, .p (.mov (.tmp 16))⟩, ⟨(some 125), none, .p (.bin .eql (.tmp 124) (.const (.int .i64 2)))⟩, ⟨(some 126), none, .p (.mov (.tmp 125))⟩, ⟨(some 127), (some (126, true)), .p (.mov (.tmp 11))⟩, ⟨(some 128), (some (126, true)), .p (.mov (.tmp 13))⟩, ⟨(some 129), (some (126, true)), .p (.iad 1 (.tmp 127) (.tmp 128))⟩, ⟨(some 130), (some (126, true)), .p (.ld none (.tmp 129))⟩, ⟨(some 131), (some (126, true)), .p (.bin .gtr (.tmp 130) (.const (.int .i64 0)))⟩, ⟨(some 132), none, .p (.pick (.tmp 126) (.tmp 131) (.const (.bool false)))⟩, ⟨(some 133), none, .p (.mov (.tmp 132))⟩, ⟨(some 134), (some (133, true)), .p (.mov (.tmp 12))⟩, ⟨(some 135), (some (133, true)), .p (.mov (.tmp 15))⟩, ⟨(some 136), (some (133, true)), .p (.iad 1 (.tmp 134) (.tmp 135))⟩, ⟨(some 137), (some (133, true)), .p (.ld none (.tmp 136))⟩, ⟨(some 138), (some (133, true)), .p (.mov (.tmp 11))⟩, ⟨(some 139), (some (133, true)), .p (.mov (.tmp 13))⟩, ⟨(some 140), (some (133, true)), .p (.iad 1 (.tmp 138) (.tmp 139))⟩, ⟨(some 141), (some (133, true)), .p (.ld none (.tmp 140))⟩, ⟨(some 142), (some (133, true)), .p (.bin .sub (.tmp 141) (.const (.int .i64 1)))⟩, ⟨(some 143), (some (133, true)), .p (.bin .eql (.tmp 137) (.tmp 142))⟩] [[⟨(some 144), none, .p (.pick (.tmp 133) (.tmp 143) (.const (.bool false)))⟩]])
  (.cond (.tmp 144) (.reg [⟨(some 145), none, .p (.mov (.tmp 8))⟩, ⟨(some 146), none, .p (.mov (.tmp 13))⟩, ⟨(some 147), none, .p (.iad 2 (.tmp 145) (.tmp 146))⟩, ⟨(some 148), none, .p (.iada 2 1 (.tmp 147) (.const (.int .i64 0)))⟩, ⟨(some 149), none, .p (.ld none (.tmp 148))⟩, ⟨(some 150), none, .p (.mov (.tmp 10))⟩, ⟨(some 151), none, .p (.mov (.tmp 14))⟩, ⟨(some 152), none, .p (.iad 1 (.tmp 149) (.tmp 150))⟩, ⟨none, none, .e (.st 1 (.tmp 152) (.tmp 151))⟩]) .skip))
  (.seq (.dreg [⟨(some 153), none, .p (.mov (.tmp 16))⟩, ⟨(some 154), none, .p (.bin .eql (.tmp 153) (.const (.int .i64 2)))⟩, ⟨(some 155), none, .p (.mov (.tmp 154))⟩, ⟨(some 156), (some (155, true)), .p (.mov (.tmp 12))⟩, ⟨(some 157), (some (155, true)), .p (.mov (.tmp 13))⟩, ⟨(some 158), (some (155, true)), .p (.iad 1 (.tmp 156) (.tmp 157))⟩, ⟨(some 159), (some (155, true)), .p (.ld none (.tmp 158))⟩, ⟨(some 160), (some (155, true)), .p (.bin .gtr (.tmp 159) (.const (.int .i64 0)))⟩, ⟨(some 161), none, .p (.pick (.tmp 155) (.tmp 160) (.const (.bool false)))⟩, ⟨(some 162), none, .p (.mov (.tmp 161))⟩, ⟨(some 163), (some (162, true)), .p (.mov (.tmp 12))⟩, ⟨(some 164), (some (162, true)), .p (.mov (.tmp 15))⟩, ⟨(some 165), (some (162, true)), .p (.iad 1 (.tmp 163) (.tmp 164))⟩, ⟨(some 166), (some (162, true)), .p (.ld none (.tmp 165))⟩, ⟨(some 167), (some (162, true)), .p (.mov (.tmp 12))⟩, ⟨(some 168), (some (162, true)), .p (.mov (.tmp 13))⟩, ⟨(some 169), (some (162, true)), .p (.iad 1 (.tmp 167) (.tmp 168))⟩, ⟨(some 170), (some (162, true)), .p (.ld none (.tmp 169))⟩, ⟨(some 171), (some (162, true)), .p (.bin .sub (.tmp 170) (.const (.int .i64 1)))⟩, ⟨(some 172), (some (162, true)), .p (.bin .eql (.tmp 166) (.tmp 171))⟩] [[⟨(some 173), none, .p (.pick (.tmp 162) (.tmp 172) (.const (.bool false)))⟩]])
  (.cond (.tmp 173) (.reg [⟨(some 174), none, .p (.mov (.tmp 8))⟩, ⟨(some 175), none, .p (.mov (.tmp 13))⟩, ⟨(some 176), none, .p (.iad 2 (.tmp 174) (.tmp 175))⟩, ⟨(some 177), none, .p (.iada 2 1 (.tmp 176) (.const (.int .i64 1)))⟩, ⟨(some 178), none, .p (.ld none (.tmp 177))⟩, ⟨(some 179), none, .p (.mov (.tmp 10))⟩, ⟨(some 180), none, .p (.mov (.tmp 14))⟩, ⟨(some 181), none, .p (.iad 1 (.tmp 178) (.tmp 179))⟩, ⟨none, none, .e (.st 1 (.tmp 181) (.tmp 180))⟩]) .skip))))))))
  (.reg [⟨(some 73), none, .p (.mov (.tmp 14))⟩, ⟨(some 74), none, .p (.bin .sub (.tmp 73) (.const (.int .i64 1)))⟩, ⟨(some 14), none, .p (.mov (.tmp 74))⟩])))
def lb16_1 : LC :=
  (.seq (.seq (.reg [⟨(some 48), none, .p (.mov (.tmp 13))⟩, ⟨(some 49), none, .p (.mov (.tmp 7))⟩, ⟨(some 50), none, .p (.bin .lss (.tmp 48) (.tmp 49))⟩])
  (.cond (.tmp 50) .skip (.exit 4)))
  (.seq (.block 5
  (.seq (.dreg [⟨(some 53), none, .p (.mov (.tmp 8))⟩, ⟨(some 54), none, .p (.mov (.tmp 13))⟩, ⟨(some 55), none, .p (.iad 2 (.tmp 53) (.tmp 54))⟩, ⟨(some 56), none, .p (.iada 2 1 (.tmp 55) (.const (.int .i64 0)))⟩, ⟨(some 57), none, .p (.ld none (.tmp 56))⟩, ⟨(some 58), none, .p (.mov (.tmp 10))⟩, ⟨(some 59), none, .p (.mov (.tmp 8))⟩, ⟨(some 60), none, .p (.mov (.tmp 13))⟩, ⟨(some 61), none, .p (.iad 2 (.tmp 59) (.tmp 60))⟩, ⟨(some 62), none, .p (.iada 2 1 (.tmp 61) (.const (.int .i64 1)))⟩, ⟨(some 63), none, .p (.ld none (.tmp 62))⟩, ⟨(some 64), none, .p (.mov (.tmp 10))⟩, ⟨(some 65), none, .p (.iad 1 (.tmp 57) (.tmp 58))⟩] [[⟨none, none, .e (.st 1 (.tmp 65) (.const (.int .i64 (-1))))⟩, ⟨(some 66), none, .p (.iad 1 (.tmp 63) (.tmp 64))⟩, ⟨none, none, .e (.st 1 (.tmp 66) (.const (.int .i64 (-1))))⟩]])
  (.seq (.seq (.reg [⟨(some 67), none, .p (.fad 1 (.tmp 3))⟩, ⟨(some 68), none, .p (.ld none (.tmp 67))⟩, ⟨(some 69), none, .p (.len 1 (.tmp 68))⟩, ⟨(some 70), none, .p (.bin .sub (.tmp 69) (.const (.int .i64 1)))⟩, ⟨(some 14), none, .p (.mov (.tmp 70))⟩])
  (.block 6
  (.loop lb16_0)))
  (.seq (.reg [⟨(some 182), none, .p (.mov (.tmp 13))⟩, ⟨(some 183), none, .p (.mov (.tmp 10))⟩, ⟨(some 184), none, .p (.bin .eql (.tmp 182) (.tmp 183))⟩])
  (.cond (.tmp 184) (.dreg [⟨(some 185), none, .p (.mov (.tmp 8))⟩, ⟨(some 186), none, .p (.mov (.tmp 13))⟩, ⟨(some 187), none, .p (.iad 2 (.tmp 185) (.tmp 186))⟩, ⟨(some 188), none, .p (.iada 2 1 (.tmp 187) (.const (.int .i64 0)))⟩, ⟨(some 189), none, .p (.ld none (.tmp 188))⟩, ⟨(some 190), none, .p (.mov (.tmp 10))⟩, ⟨(some 191), none, .p (.mov (.tmp 8))⟩, ⟨(some 192), none, .p (.mov (.tmp 13))⟩, ⟨(some 193), none, .p (.iad 2 (.tmp 191) (.tmp 192))⟩, ⟨(some 194), none, .p (.iada 2 1 (.tmp 193) (.const (.int .i64 1)))⟩, ⟨(some 195), none, .p (.ld none (.tmp 194))⟩, ⟨(some 196), none, .p (.mov (.tmp 10))⟩, ⟨(some 197), none, .p (.iad 1 (.tmp 189) (.tmp 190))⟩] [[⟨none, none, .e (.st 1 (.tmp 197) (.const (.int .i64 (-2))))⟩, ⟨(some 198), none, .p (.iad 1 (.tmp 195) (.tmp 196))⟩, ⟨none, none, .e (.st 1 (.tmp 198) (.const (.int .i64 (-2))))⟩]]) .skip)))))
  (.reg [⟨(some 51), none, .p (.mov (.tmp 13))⟩, ⟨(some 52), none, .p (.bin .add (.tmp 51) (.const (.int .i64 1)))⟩, ⟨(some 13), none, .p (.mov (.tmp 52))⟩])))
def lb16_2 : LC :=
  (.seq (.seq (.reg [⟨(some 35), none, .p (.mov (.tmp 10))⟩, ⟨(some 36), none, .p (.mov (.tmp 7))⟩, ⟨(some 37), none, .p (.bin .lss (.tmp 35) (.tmp 36))⟩])
  (.cond (.tmp 37) .skip (.exit 2)))
  (.seq (.block 3
  (.seq (.reg [⟨(some 41), none, .p (.ld (some 2) (.tmp 3))⟩, ⟨(some 42), none, .p (.mov (.tmp 1))⟩, ⟨(some 43), none, .p (.mov (.tmp 2))⟩, ⟨(some 44), none, .p (.mov (.tmp 10))⟩, ⟨(some 45), none, .e (.call 42 [(.tmp 41), (.tmp 42), (.tmp 43), (.tmp 44)])⟩, ⟨(some 40), none, .p (.mov (.tmp 45))⟩, ⟨(some 46), none, .p (.ext (.tmp 40) 0)⟩, ⟨(some 47), none, .p (.ext (.tmp 40) 1)⟩, ⟨(some 11), none, .p (.mov (.tmp 46))⟩, ⟨(some 12), none, .p (.mov (.tmp 47))⟩])
  (.seq (.reg [⟨(some 13), none, .p (.mov (.const (.int .i64 0)))⟩])
  (.block 4
  (.loop lb16_1)))))
  (.reg [⟨(some 38), none, .p (.mov (.tmp 10))⟩, ⟨(some 39), none, .p (.bin .add (.tmp 38) (.const (.int .i64 1)))⟩, ⟨(some 10), none, .p (.mov (.tmp 39))⟩])))
def lb16_3 : LC :=
  (.seq (.seq (.reg [⟨(some 22), none, .p (.mov (.tmp 9))⟩, ⟨(some 23), none, .p (.mov (.tmp 7))⟩, ⟨(some 24), none, .p (.bin .lss (.tmp 22) (.tmp 23))⟩])
  (.cond (.tmp 24) .skip (.exit 0)))
  (.seq (.block 1
  (.dreg [⟨(some 27), none, .p (.mov (.tmp 8))⟩, ⟨(some 28), none, .p (.mov (.tmp 9))⟩, ⟨(some 29), none, .p (.mov (.tmp 7))⟩] [[⟨(some 30), none, .e (.mks 1 1 [(.int .i64 0)] 8 (.tmp 29) (.tmp 29))⟩, ⟨(some 31), none, .p (.mov (.tmp 7))⟩, ⟨(some 32), none, .e (.mks 1 1 [(.int .i64 0)] 8 (.tmp 31) (.tmp 31))⟩, ⟨(some 33), none, .p (.bld [(.slice none 0 0), (.slice none 0 0)] [(0, 1, (.tmp 30)), (1, 1, (.tmp 32))])⟩, ⟨(some 34), none, .p (.iad 2 (.tmp 27) (.tmp 28))⟩, ⟨none, none, .e (.st 2 (.tmp 34) (.tmp 33))⟩], [⟨(some 31), none, .p (.mov (.tmp 7))⟩, ⟨(some 30), none, .e (.mks 1 1 [(.int .i64 0)] 8 (.tmp 29) (.tmp 29))⟩, ⟨(some 32), none, .e (.mks 1 1 [(.int .i64 0)] 8 (.tmp 31) (.tmp 31))⟩, ⟨(some 33), none, .p (.bld [(.slice none 0 0), (.slice none 0 0)] [(0, 1, (.tmp 30)), (1, 1, (.tmp 32))])⟩, ⟨(some 34), none, .p (.iad 2 (.tmp 27) (.tmp 28))⟩, ⟨none, none, .e (.st 2 (.tmp 34) (.tmp 33))⟩], [⟨(some 31), none, .p (.mov (.tmp 7))⟩, ⟨(some 32), none, .e (.mks 1 1 [(.int .i64 0)] 8 (.tmp 31) (.tmp 31))⟩, ⟨(some 30), none, .e (.mks 1 1 [(.int .i64 0)] 8 (.tmp 29) (.tmp 29))⟩, ⟨(some 33), none, .p (.bld [(.slice none 0 0), (.slice none 0 0)] [(0, 1, (.tmp 30)), (1, 1, (.tmp 32))])⟩, ⟨(some 34), none, .p (.iad 2 (.tmp 27) (.tmp 28))⟩, ⟨none, none, .e (.st 2 (.tmp 34) (.tmp 33))⟩]]))
  (.reg [⟨(some 25), none, .p (.mov (.tmp 9))⟩, ⟨(some 26), none, .p (.bin .add (.tmp 25) (.const (.int .i64 1)))⟩, ⟨(some 9), none, .p (.mov (.tmp 26))⟩])))
def cf16 : LC :=
  (.seq (.reg [⟨(some 3), none, .e (.box (.tmp 0))⟩, ⟨(some 6), none, .p (.mov (.const (.slice none 0 0)))⟩])
  (.seq (.reg [⟨(some 17), none, .p (.fad 0 (.tmp 3))⟩, ⟨(some 18), none, .p (.ld none (.tmp 17))⟩, ⟨(some 19), none, .p (.len 1 (.tmp 18))⟩, ⟨(some 7), none, .p (.mov (.tmp 19))⟩])
  (.seq (.reg [⟨(some 20), none, .p (.mov (.tmp 7))⟩, ⟨(some 21), none, .e (.mks 0 2 [(.slice none 0 0), (.slice none 0 0)] 48 (.tmp 20) (.tmp 20))⟩, ⟨(some 8), none, .p (.mov (.tmp 21))⟩])
  (.seq (.seq (.reg [⟨(some 9), none, .p (.mov (.const (.int .i64 0)))⟩])
  (.block 0
  (.loop lb16_3)))
  (.seq (.seq (.reg [⟨(some 10), none, .p (.mov (.const (.int .i64 0)))⟩])
  (.block 2
  (.loop lb16_2)))
  (.seq (.reg [⟨(some 199), none, .p (.mov (.tmp 8))⟩, ⟨(some 6), none, .p (.mov (.tmp 199))⟩])
  .ret))))))
def rf16 : List RX := [.tmp 6]
set_option maxRecDepth 100000 in
theorem comp16 : cFn Tryd.prog Tryd.f16 = some (erase cf16, rf16) := by kernel_rfl
def cf43 : LC :=
  (.seq (.reg [⟨(some 3), none, .e (.box (.tmp 0))⟩, ⟨(some 6), none, .p (.mov (.const (.bool false)))⟩])
  (.seq (.reg [⟨(some 7), none, .p (.fad 1 (.tmp 3))⟩, ⟨(some 8), none, .p (.ld none (.tmp 7))⟩, ⟨(some 9), none, .p (.mov (.tmp 1))⟩, ⟨(some 10), none, .p (.iad 6 (.tmp 8) (.tmp 9))⟩, ⟨(some 11), none, .p (.fad 0 (.tmp 10))⟩, ⟨(some 12), none, .p (.ld none (.tmp 11))⟩, ⟨(some 13), none, .p (.mov (.tmp 2))⟩, ⟨(some 14), none, .p (.bin .eql (.tmp 12) (.tmp 13))⟩, ⟨(some 15), none, .p (.mov (.tmp 14))⟩, ⟨(some 16), (some (15, false)), .p (.fad 1 (.tmp 3))⟩, ⟨(some 17), (some (15, false)), .p (.ld none (.tmp 16))⟩, ⟨(some 18), (some (15, false)), .p (.mov (.tmp 1))⟩, ⟨(some 19), (some (15, false)), .p (.iad 6 (.tmp 17) (.tmp 18))⟩, ⟨(some 20), (some (15, false)), .p (.fad 2 (.tmp 19))⟩, ⟨(some 21), (some (15, false)), .p (.ld none (.tmp 20))⟩, ⟨(some 22), (some (15, false)), .p (.mov (.tmp 2))⟩, ⟨(some 23), (some (15, false)), .p (.bin .eql (.tmp 21) (.tmp 22))⟩, ⟨(some 24), none, .p (.pick (.tmp 15) (.const (.bool true)) (.tmp 23))⟩, ⟨(some 6), none, .p (.mov (.tmp 24))⟩])
  .ret))
def rf43 : List RX := [.tmp 6]
set_option maxRecDepth 100000 in
theorem comp43 : cFn Tryd.prog Tryd.f43 = some (erase cf43, rf43) := by kernel_rfl
end Go.Proofs.YtcdepkflghcjpaaDoor
namespace Go.Proofs.YtcdepkflghcjpaaDoor
def lb46_0 : LC :=
  (.seq (.reg [⟨(some 75), none, .p (.bin .lss (.tmp 74) (.tmp 73))⟩])
  (.seq (.cond (.tmp 75) .skip (.exit 6))
  (.seq (.block 7
  (.seq (.reg [⟨(some 76), none, .p (.iad 6 (.tmp 72) (.tmp 74))⟩, ⟨(some 77), none, .p (.ld (some 6) (.tmp 76))⟩, ⟨(some 10), none, .e (.alc [(.int .i64 0), (.int .i64 0), (.int .i64 0), (.int .i64 0), (.int .i64 0), (.int .i64 0)])⟩, ⟨none, none, .e (.st 6 (.tmp 10) (.tmp 77))⟩])
  (.seq (.reg [⟨(some 78), none, .p (.fad 4 (.tmp 10))⟩, ⟨(some 79), none, .p (.ld none (.tmp 78))⟩, ⟨(some 80), none, .p (.bin .lss (.tmp 79) (.const (.int .i64 1)))⟩, ⟨(some 81), none, .p (.mov (.tmp 80))⟩, ⟨(some 82), (some (81, false)), .p (.fad 4 (.tmp 10))⟩, ⟨(some 83), (some (81, false)), .p (.ld none (.tmp 82))⟩, ⟨(some 84), (some (81, false)), .p (.bin .gtr (.tmp 83) (.const (.int .i64 100)))⟩, ⟨(some 85), none, .p (.pick (.tmp 81) (.const (.bool true)) (.tmp 84))⟩, ⟨(some 86), none, .p (.mov (.tmp 85))⟩, ⟨(some 87), (some (86, false)), .p (.fad 5 (.tmp 10))⟩, ⟨(some 88), (some (86, false)), .p (.ld none (.tmp 87))⟩, ⟨(some 89), (some (86, false)), .p (.bin .lss (.tmp 88) (.const (.int .i64 1)))⟩, ⟨(some 90), none, .p (.pick (.tmp 86) (.const (.bool true)) (.tmp 89))⟩, ⟨(some 91), none, .p (.mov (.tmp 90))⟩, ⟨(some 92), (some (91, false)), .p (.fad 5 (.tmp 10))⟩, ⟨(some 93), (some (91, false)), .p (.ld none (.tmp 92))⟩, ⟨(some 94), (some (91, false)), .p (.bin .gtr (.tmp 93) (.const (.int .i64 1000)))⟩, ⟨(some 95), none, .p (.pick (.tmp 91) (.const (.bool true)) (.tmp 94))⟩])
  (.cond (.tmp 95) (.seq (.reg [⟨(some 2), none, .p (.mov (.const (.int .i64 3)))⟩])
  .ret) .skip))))
  (.reg [⟨(some 96), none, .p (.bin .add (.tmp 74) (.const (.int .i64 1)))⟩, ⟨(some 74), none, .p (.mov (.tmp 96))⟩]))))
def lb46_1 : LC :=
  (.seq (.reg [⟨(some 62), none, .p (.bin .lss (.tmp 61) (.tmp 60))⟩])
  (.seq (.cond (.tmp 62) .skip (.exit 4))
  (.seq (.block 5
  (.seq (.reg [⟨(some 63), none, .p (.iad 6 (.tmp 59) (.tmp 61))⟩, ⟨(some 64), none, .p (.ld (some 6) (.tmp 63))⟩, ⟨(some 8), none, .e (.alc [(.int .i64 0), (.int .i64 0), (.int .i64 0), (.int .i64 0), (.int .i64 0), (.int .i64 0)])⟩, ⟨none, none, .e (.st 6 (.tmp 8) (.tmp 64))⟩])
  (.seq (.reg [⟨(some 65), none, .p (.fad 0 (.tmp 8))⟩, ⟨(some 66), none, .p (.ld none (.tmp 65))⟩, ⟨(some 67), none, .p (.fad 2 (.tmp 8))⟩, ⟨(some 68), none, .p (.ld none (.tmp 67))⟩, ⟨(some 69), none, .p (.bin .eql (.tmp 66) (.tmp 68))⟩])
  (.cond (.tmp 69) (.seq (.reg [⟨(some 2), none, .p (.mov (.const (.int .i64 12)))⟩])
  .ret) .skip))))
  (.reg [⟨(some 70), none, .p (.bin .add (.tmp 61) (.const (.int .i64 1)))⟩, ⟨(some 61), none, .p (.mov (.tmp 70))⟩]))))
def lb46_2 : LC :=
  (.seq (.reg [⟨(some 36), none, .p (.bin .lss (.tmp 35) (.tmp 34))⟩])
  (.seq (.cond (.tmp 36) .skip (.exit 2))
  (.seq (.block 3
  (.seq (.reg [⟨(some 37), none, .p (.iad 6 (.tmp 33) (.tmp 35))⟩, ⟨(some 38), none, .p (.ld (some 6) (.tmp 37))⟩, ⟨(some 6), none, .e (.alc [(.int .i64 0), (.int .i64 0), (.int .i64 0), (.int .i64 0), (.int .i64 0), (.int .i64 0)])⟩, ⟨none, none, .e (.st 6 (.tmp 6) (.tmp 38))⟩])
  (.seq (.reg [⟨(some 39), none, .p (.ld (some 2) (.tmp 1))⟩, ⟨(some 40), none, .p (.fad 0 (.tmp 6))⟩, ⟨(some 41), none, .p (.ld none (.tmp 40))⟩, ⟨(some 42), none, .p (.fad 1 (.tmp 6))⟩, ⟨(some 43), none, .p (.ld none (.tmp 42))⟩, ⟨(some 44), none, .e (.call 78 [(.tmp 39), (.tmp 41), (.tmp 43)])⟩, ⟨(some 45), none, .p (.un .not (.tmp 44))⟩, ⟨(some 46), none, .p (.mov (.tmp 45))⟩, ⟨(some 47), (some (46, false)), .p (.ld (some 2) (.tmp 1))⟩, ⟨(some 48), (some (46, false)), .p (.fad 2 (.tmp 6))⟩, ⟨(some 49), (some (46, false)), .p (.ld none (.tmp 48))⟩, ⟨(some 50), (some (46, false)), .p (.fad 3 (.tmp 6))⟩, ⟨(some 51), (some (46, false)), .p (.ld none (.tmp 50))⟩, ⟨(some 52), (some (46, false)), .e (.call 78 [(.tmp 47), (.tmp 49), (.tmp 51)])⟩, ⟨(some 53), (some (46, false)), .p (.un .not (.tmp 52))⟩, ⟨(some 54), none, .p (.pick (.tmp 46) (.const (.bool true)) (.tmp 53))⟩])
  (.cond (.tmp 54) (.seq (.reg [⟨(some 2), none, .p (.mov (.const (.int .i64 2)))⟩])
  .ret) .skip))))
  (.reg [⟨(some 55), none, .p (.bin .add (.tmp 35) (.const (.int .i64 1)))⟩, ⟨(some 35), none, .p (.mov (.tmp 55))⟩]))))
def lb46_3 : LC :=
  (.seq (.reg [⟨(some 25), none, .p (.bin .lss (.tmp 24) (.tmp 23))⟩])
  (.seq (.cond (.tmp 25) .skip (.exit 0))
  (.seq (.block 1
  (.seq (.reg [⟨(some 26), none, .p (.iad 3 (.tmp 22) (.tmp 24))⟩, ⟨(some 27), none, .p (.ld (some 3) (.tmp 26))⟩, ⟨(some 4), none, .e (.alc [(.string ⟨#[]⟩), (.bool false), (.int .i64 0)])⟩, ⟨none, none, .e (.st 3 (.tmp 4) (.tmp 27))⟩])
  (.seq (.reg [⟨(some 28), none, .p (.ld (some 3) (.tmp 4))⟩, ⟨(some 29), none, .e (.call 77 [(.tmp 28)])⟩, ⟨(some 30), none, .p (.un .not (.tmp 29))⟩])
  (.cond (.tmp 30) (.seq (.reg [⟨(some 2), none, .p (.mov (.const (.int .i64 1)))⟩])
  .ret) .skip))))
  (.reg [⟨(some 31), none, .p (.bin .add (.tmp 24) (.const (.int .i64 1)))⟩, ⟨(some 24), none, .p (.mov (.tmp 31))⟩]))))
def cf46 : LC :=
  (.seq (.reg [⟨(some 1), none, .e (.box (.tmp 0))⟩, ⟨(some 2), none, .p (.mov (.const (.int .i64 0)))⟩])
  (.seq (.seq (.reg [⟨(some 11), none, .p (.fad 0 (.tmp 1))⟩, ⟨(some 12), none, .p (.ld none (.tmp 11))⟩, ⟨(some 13), none, .p (.len 1 (.tmp 12))⟩, ⟨(some 14), none, .p (.bin .gtr (.tmp 13) (.const (.int .i64 16)))⟩, ⟨(some 15), none, .p (.mov (.tmp 14))⟩, ⟨(some 16), (some (15, false)), .p (.fad 1 (.tmp 1))⟩, ⟨(some 17), (some (15, false)), .p (.ld none (.tmp 16))⟩, ⟨(some 18), (some (15, false)), .p (.len 1 (.tmp 17))⟩, ⟨(some 19), (some (15, false)), .p (.bin .gtr (.tmp 18) (.const (.int .i64 32)))⟩, ⟨(some 20), none, .p (.pick (.tmp 15) (.const (.bool true)) (.tmp 19))⟩])
  (.cond (.tmp 20) (.seq (.reg [⟨(some 2), none, .p (.mov (.const (.int .i64 5)))⟩])
  .ret) .skip))
  (.seq (.seq (.reg [⟨(some 21), none, .p (.fad 0 (.tmp 1))⟩, ⟨(some 22), none, .p (.ld none (.tmp 21))⟩, ⟨(some 23), none, .p (.len 1 (.tmp 22))⟩, ⟨(some 24), none, .p (.mov (.const (.int .i64 0)))⟩])
  (.block 0
  (.loop lb46_3)))
  (.seq (.seq (.reg [⟨(some 32), none, .p (.fad 1 (.tmp 1))⟩, ⟨(some 33), none, .p (.ld none (.tmp 32))⟩, ⟨(some 34), none, .p (.len 1 (.tmp 33))⟩, ⟨(some 35), none, .p (.mov (.const (.int .i64 0)))⟩])
  (.block 2
  (.loop lb46_2)))
  (.seq (.seq (.reg [⟨(some 56), none, .p (.ld (some 2) (.tmp 1))⟩, ⟨(some 57), none, .e (.call 79 [(.tmp 56)])⟩])
  (.cond (.tmp 57) (.seq (.reg [⟨(some 2), none, .p (.mov (.const (.int .i64 8)))⟩])
  .ret) .skip))
  (.seq (.seq (.reg [⟨(some 58), none, .p (.fad 1 (.tmp 1))⟩, ⟨(some 59), none, .p (.ld none (.tmp 58))⟩, ⟨(some 60), none, .p (.len 1 (.tmp 59))⟩, ⟨(some 61), none, .p (.mov (.const (.int .i64 0)))⟩])
  (.block 4
  (.loop lb46_1)))
  (.seq (.seq (.reg [⟨(some 71), none, .p (.fad 1 (.tmp 1))⟩, ⟨(some 72), none, .p (.ld none (.tmp 71))⟩, ⟨(some 73), none, .p (.len 1 (.tmp 72))⟩, ⟨(some 74), none, .p (.mov (.const (.int .i64 0)))⟩])
  (.block 6
  (.loop lb46_0)))
  (.seq (.reg [⟨(some 2), none, .p (.mov (.const (.int .i64 0)))⟩])
  .ret))))))))
def rf46 : List RX := [.tmp 2]
set_option maxRecDepth 100000 in
theorem comp46 : cFn Tryd.prog Tryd.f46 = some (erase cf46, rf46) := by kernel_rfl
def cf77 : LC :=
  (.seq (.reg [⟨(some 1), none, .e (.box (.tmp 0))⟩, ⟨(some 2), none, .p (.mov (.const (.bool false)))⟩])
  (.seq (.seq (.reg [⟨(some 3), none, .p (.fad 0 (.tmp 1))⟩, ⟨(some 4), none, .p (.ld none (.tmp 3))⟩, ⟨(some 5), none, .e (.call 96 [(.tmp 4)])⟩, ⟨(some 6), none, .p (.un .not (.tmp 5))⟩])
  (.cond (.tmp 6) (.seq (.reg [⟨(some 2), none, .p (.mov (.const (.bool false)))⟩])
  .ret) .skip))
  (.seq (.seq (.reg [⟨(some 7), none, .p (.fad 1 (.tmp 1))⟩, ⟨(some 8), none, .p (.ld none (.tmp 7))⟩])
  (.cond (.tmp 8) (.seq (.reg [⟨(some 9), none, .p (.fad 2 (.tmp 1))⟩, ⟨(some 10), none, .p (.ld none (.tmp 9))⟩, ⟨(some 11), none, .p (.bin .geq (.tmp 10) (.const (.int .i64 1)))⟩, ⟨(some 12), none, .p (.mov (.tmp 11))⟩, ⟨(some 13), (some (12, true)), .p (.fad 2 (.tmp 1))⟩, ⟨(some 14), (some (12, true)), .p (.ld none (.tmp 13))⟩, ⟨(some 15), (some (12, true)), .p (.bin .leq (.tmp 14) (.const (.int .i64 8)))⟩, ⟨(some 16), none, .p (.pick (.tmp 12) (.tmp 15) (.const (.bool false)))⟩, ⟨(some 2), none, .p (.mov (.tmp 16))⟩])
  .ret) .skip))
  (.seq (.reg [⟨(some 17), none, .p (.fad 2 (.tmp 1))⟩, ⟨(some 18), none, .p (.ld none (.tmp 17))⟩, ⟨(some 19), none, .p (.bin .eql (.tmp 18) (.const (.int .i64 1)))⟩, ⟨(some 2), none, .p (.mov (.tmp 19))⟩])
  .ret))))
def rf77 : List RX := [.tmp 2]
set_option maxRecDepth 100000 in
theorem comp77 : cFn Tryd.prog Tryd.f77 = some (erase cf77, rf77) := by kernel_rfl
def cf78 : LC :=
  (.seq (.reg [⟨(some 3), none, .e (.box (.tmp 0))⟩, ⟨(some 6), none, .p (.mov (.const (.bool false)))⟩])
  (.seq (.reg [⟨(some 7), none, .p (.mov (.tmp 1))⟩, ⟨(some 8), none, .p (.bin .geq (.tmp 7) (.const (.int .i64 0)))⟩, ⟨(some 9), none, .p (.mov (.tmp 8))⟩, ⟨(some 10), (some (9, true)), .p (.mov (.tmp 1))⟩, ⟨(some 11), (some (9, true)), .p (.fad 0 (.tmp 3))⟩, ⟨(some 12), (some (9, true)), .p (.ld none (.tmp 11))⟩, ⟨(some 13), (some (9, true)), .p (.len 1 (.tmp 12))⟩, ⟨(some 14), (some (9, true)), .p (.bin .lss (.tmp 10) (.tmp 13))⟩, ⟨(some 15), none, .p (.pick (.tmp 9) (.tmp 14) (.const (.bool false)))⟩, ⟨(some 16), none, .p (.mov (.tmp 15))⟩, ⟨(some 17), (some (16, true)), .p (.mov (.tmp 2))⟩, ⟨(some 18), (some (16, true)), .p (.bin .geq (.tmp 17) (.const (.int .i64 0)))⟩, ⟨(some 19), none, .p (.pick (.tmp 16) (.tmp 18) (.const (.bool false)))⟩, ⟨(some 20), none, .p (.mov (.tmp 19))⟩, ⟨(some 21), (some (20, true)), .p (.mov (.tmp 2))⟩, ⟨(some 22), (some (20, true)), .p (.fad 0 (.tmp 3))⟩, ⟨(some 23), (some (20, true)), .p (.ld none (.tmp 22))⟩, ⟨(some 24), (some (20, true)), .p (.mov (.tmp 1))⟩, ⟨(some 25), (some (20, true)), .p (.iad 3 (.tmp 23) (.tmp 24))⟩, ⟨(some 26), (some (20, true)), .p (.fad 2 (.tmp 25))⟩, ⟨(some 27), (some (20, true)), .p (.ld none (.tmp 26))⟩, ⟨(some 28), (some (20, true)), .p (.bin .lss (.tmp 21) (.tmp 27))⟩, ⟨(some 29), none, .p (.pick (.tmp 20) (.tmp 28) (.const (.bool false)))⟩, ⟨(some 6), none, .p (.mov (.tmp 29))⟩])
  .ret))
def rf78 : List RX := [.tmp 6]
set_option maxRecDepth 100000 in
theorem comp78 : cFn Tryd.prog Tryd.f78 = some (erase cf78, rf78) := by kernel_rfl
def lb79_0 : LC :=
  (.seq (.reg [⟨(some 47), none, .p (.bin .lss (.tmp 46) (.const (.int .i64 2)))⟩])
  (.seq (.cond (.tmp 47) .skip (.exit 4))
  (.seq (.block 5
  (.seq (.reg [⟨(some 48), none, .p (.idxa 2 2 (some 2) (.tmp 45) (.tmp 46))⟩, ⟨(some 10), none, .e (.alc [(.int .i64 0), (.int .i64 0)])⟩, ⟨none, none, .e (.st 2 (.tmp 10) (.tmp 48))⟩])
  (.seq (.seq (.reg [⟨(some 49), none, .p (.mov (.tmp 6))⟩, ⟨(some 50), none, .p (.ld (some 2) (.tmp 10))⟩, ⟨(some 51), none, .p (.lkp 85 (.bool false) false (.tmp 49) (.tmp 50))⟩])
  (.cond (.tmp 51) (.seq (.reg [⟨(some 2), none, .p (.mov (.const (.bool true)))⟩])
  .ret) .skip))
  (.reg [⟨(some 52), none, .p (.mov (.tmp 6))⟩, ⟨(some 53), none, .p (.ld (some 2) (.tmp 10))⟩, ⟨none, none, .e (.mup 85 (.tmp 52) (.tmp 53) (.const (.bool true)))⟩]))))
  (.reg [⟨(some 54), none, .p (.bin .add (.tmp 46) (.const (.int .i64 1)))⟩, ⟨(some 46), none, .p (.mov (.tmp 54))⟩]))))
def lb79_1 : LC :=
  (.seq (.reg [⟨(some 32), none, .p (.bin .lss (.tmp 31) (.tmp 30))⟩])
  (.seq (.cond (.tmp 32) .skip (.exit 2))
  (.seq (.block 3
  (.seq (.reg [⟨(some 33), none, .p (.iad 6 (.tmp 29) (.tmp 31))⟩, ⟨(some 34), none, .p (.ld (some 6) (.tmp 33))⟩, ⟨(some 8), none, .e (.alc [(.int .i64 0), (.int .i64 0), (.int .i64 0), (.int .i64 0), (.int .i64 0), (.int .i64 0)])⟩, ⟨none, none, .e (.st 6 (.tmp 8) (.tmp 34))⟩])
  (.seq (.reg [⟨(some 35), none, .p (.fad 0 (.tmp 8))⟩, ⟨(some 36), none, .p (.ld none (.tmp 35))⟩, ⟨(some 37), none, .p (.fad 1 (.tmp 8))⟩, ⟨(some 38), none, .p (.ld none (.tmp 37))⟩, ⟨(some 39), none, .p (.bld [(.int .i64 0), (.int .i64 0)] [(0, 1, (.tmp 36)), (1, 1, (.tmp 38))])⟩, ⟨(some 40), none, .p (.fad 2 (.tmp 8))⟩, ⟨(some 41), none, .p (.ld none (.tmp 40))⟩, ⟨(some 42), none, .p (.fad 3 (.tmp 8))⟩, ⟨(some 43), none, .p (.ld none (.tmp 42))⟩, ⟨(some 44), none, .p (.bld [(.int .i64 0), (.int .i64 0)] [(0, 1, (.tmp 41)), (1, 1, (.tmp 43))])⟩, ⟨(some 45), none, .p (.bld [(.int .i64 0), (.int .i64 0), (.int .i64 0), (.int .i64 0)] [(0, 2, (.tmp 39)), (2, 2, (.tmp 44))])⟩, ⟨(some 46), none, .p (.mov (.const (.int .i64 0)))⟩])
  (.block 4
  (.loop lb79_0)))))
  (.reg [⟨(some 55), none, .p (.bin .add (.tmp 31) (.const (.int .i64 1)))⟩, ⟨(some 31), none, .p (.mov (.tmp 55))⟩]))))
def lb79_2 : LC :=
  (.seq (.reg [⟨(some 16), none, .p (.bin .lss (.tmp 15) (.tmp 14))⟩])
  (.seq (.cond (.tmp 16) .skip (.exit 0))
  (.seq (.block 1
  (.seq (.reg [⟨(some 17), none, .p (.iad 3 (.tmp 13) (.tmp 15))⟩, ⟨(some 18), none, .p (.ld (some 3) (.tmp 17))⟩, ⟨(some 5), none, .e (.alc [(.string ⟨#[]⟩), (.bool false), (.int .i64 0)])⟩, ⟨none, none, .e (.st 3 (.tmp 5) (.tmp 18))⟩])
  (.seq (.seq (.reg [⟨(some 19), none, .p (.mov (.tmp 3))⟩, ⟨(some 20), none, .p (.fad 0 (.tmp 5))⟩, ⟨(some 21), none, .p (.ld none (.tmp 20))⟩, ⟨(some 22), none, .p (.lkp 9 (.bool false) false (.tmp 19) (.tmp 21))⟩])
  (.cond (.tmp 22) (.seq (.reg [⟨(some 2), none, .p (.mov (.const (.bool true)))⟩])
  .ret) .skip))
  (.reg [⟨(some 23), none, .p (.mov (.tmp 3))⟩, ⟨(some 24), none, .p (.fad 0 (.tmp 5))⟩, ⟨(some 25), none, .p (.ld none (.tmp 24))⟩, ⟨none, none, .e (.mup 9 (.tmp 23) (.tmp 25) (.const (.bool true)))⟩]))))
  (.reg [⟨(some 26), none, .p (.bin .add (.tmp 15) (.const (.int .i64 1)))⟩, ⟨(some 15), none, .p (.mov (.tmp 26))⟩]))))
def cf79 : LC :=
  (.seq (.reg [⟨(some 1), none, .e (.box (.tmp 0))⟩, ⟨(some 2), none, .p (.mov (.const (.bool false)))⟩])
  (.seq (.reg [⟨(some 11), none, .e (.mkm)⟩, ⟨(some 3), none, .p (.mov (.tmp 11))⟩])
  (.seq (.seq (.reg [⟨(some 12), none, .p (.fad 0 (.tmp 1))⟩, ⟨(some 13), none, .p (.ld none (.tmp 12))⟩, ⟨(some 14), none, .p (.len 1 (.tmp 13))⟩, ⟨(some 15), none, .p (.mov (.const (.int .i64 0)))⟩])
  (.block 0
  (.loop lb79_2)))
  (.seq (.reg [⟨(some 27), none, .e (.mkm)⟩, ⟨(some 6), none, .p (.mov (.tmp 27))⟩])
  (.seq (.seq (.reg [⟨(some 28), none, .p (.fad 1 (.tmp 1))⟩, ⟨(some 29), none, .p (.ld none (.tmp 28))⟩, ⟨(some 30), none, .p (.len 1 (.tmp 29))⟩, ⟨(some 31), none, .p (.mov (.const (.int .i64 0)))⟩])
  (.block 2
  (.loop lb79_1)))
  (.seq (.reg [⟨(some 2), none, .p (.mov (.const (.bool false)))⟩])
  .ret))))))
def rf79 : List RX := [.tmp 2]
set_option maxRecDepth 100000 in
theorem comp79 : cFn Tryd.prog Tryd.f79 = some (erase cf79, rf79) := by kernel_rfl
def lb96_0 : LC :=
  (.seq (.reg [⟨(some 17), none, .p (.bin .lss (.tmp 16) (.tmp 15))⟩])
  (.seq (.cond (.tmp 17) .skip (.exit 0))
  (.seq (.block 1
  (.seq (.reg [⟨(some 18), none, .p (.mov (.tmp 16))⟩, ⟨(some 3), none, .p (.mov (.tmp 18))⟩])
  (.seq (.reg [⟨(some 19), none, .p (.mov (.tmp 0))⟩, ⟨(some 20), none, .p (.mov (.tmp 3))⟩, ⟨(some 21), none, .p (.idxs (.tmp 19) (.tmp 20))⟩, ⟨(some 22), none, .p (.bin .geq (.tmp 21) (.const (.int .u8 97)))⟩, ⟨(some 23), none, .p (.mov (.tmp 22))⟩, ⟨(some 24), (some (23, true)), .p (.mov (.tmp 0))⟩, ⟨(some 25), (some (23, true)), .p (.mov (.tmp 3))⟩, ⟨(some 26), (some (23, true)), .p (.idxs (.tmp 24) (.tmp 25))⟩, ⟨(some 27), (some (23, true)), .p (.bin .leq (.tmp 26) (.const (.int .u8 122)))⟩, ⟨(some 28), none, .p (.pick (.tmp 23) (.tmp 27) (.const (.bool false)))⟩, ⟨(some 4), none, .p (.mov (.tmp 28))⟩])
  (.seq (.reg [⟨(some 29), none, .p (.mov (.tmp 0))⟩, ⟨(some 30), none, .p (.mov (.tmp 3))⟩, ⟨(some 31), none, .p (.idxs (.tmp 29) (.tmp 30))⟩, ⟨(some 32), none, .p (.bin .geq (.tmp 31) (.const (.int .u8 48)))⟩, ⟨(some 33), none, .p (.mov (.tmp 32))⟩, ⟨(some 34), (some (33, true)), .p (.mov (.tmp 0))⟩, ⟨(some 35), (some (33, true)), .p (.mov (.tmp 3))⟩, ⟨(some 36), (some (33, true)), .p (.idxs (.tmp 34) (.tmp 35))⟩, ⟨(some 37), (some (33, true)), .p (.bin .leq (.tmp 36) (.const (.int .u8 57)))⟩, ⟨(some 38), none, .p (.pick (.tmp 33) (.tmp 37) (.const (.bool false)))⟩, ⟨(some 5), none, .p (.mov (.tmp 38))⟩])
  (.seq (.reg [⟨(some 39), none, .p (.mov (.tmp 4))⟩, ⟨(some 40), none, .p (.un .not (.tmp 39))⟩, ⟨(some 41), none, .p (.mov (.tmp 40))⟩, ⟨(some 42), (some (41, true)), .p (.mov (.tmp 3))⟩, ⟨(some 43), (some (41, true)), .p (.bin .eql (.tmp 42) (.const (.int .i64 0)))⟩, ⟨(some 44), (some (41, true)), .p (.mov (.tmp 43))⟩, ⟨(some 45), (some (44, false)), .p (.mov (.tmp 5))⟩, ⟨(some 46), (some (44, false)), .p (.un .not (.tmp 45))⟩, ⟨(some 47), (some (41, true)), .p (.pick (.tmp 44) (.const (.bool true)) (.tmp 46))⟩, ⟨(some 48), none, .p (.pick (.tmp 41) (.tmp 47) (.const (.bool false)))⟩])
  (.cond (.tmp 48) (.seq (.reg [⟨(some 2), none, .p (.mov (.const (.bool false)))⟩])
  .ret) .skip))))))
  (.reg [⟨(some 49), none, .p (.bin .add (.tmp 16) (.const (.int .i64 1)))⟩, ⟨(some 16), none, .p (.mov (.tmp 49))⟩]))))
def cf96 : LC :=
  (.seq (.reg [⟨(some 2), none, .p (.mov (.const (.bool false)))⟩])
  (.seq (.seq (.reg [⟨(some 6), none, .p (.mov (.tmp 0))⟩, ⟨(some 7), none, .p (.len 0 (.tmp 6))⟩, ⟨(some 8), none, .p (.bin .lss (.tmp 7) (.const (.int .i64 1)))⟩, ⟨(some 9), none, .p (.mov (.tmp 8))⟩, ⟨(some 10), (some (9, false)), .p (.mov (.tmp 0))⟩, ⟨(some 11), (some (9, false)), .p (.len 0 (.tmp 10))⟩, ⟨(some 12), (some (9, false)), .p (.bin .gtr (.tmp 11) (.const (.int .i64 20)))⟩, ⟨(some 13), none, .p (.pick (.tmp 9) (.const (.bool true)) (.tmp 12))⟩])
  (.cond (.tmp 13) (.seq (.reg [⟨(some 2), none, .p (.mov (.const (.bool false)))⟩])
  .ret) .skip))
  (.seq (.seq (.reg [⟨(some 14), none, .p (.mov (.tmp 0))⟩, ⟨(some 15), none, .p (.len 0 (.tmp 14))⟩, ⟨(some 16), none, .p (.mov (.const (.int .i64 0)))⟩])
  (.block 0
  (.loop lb96_0)))
  (.seq (.reg [⟨(some 2), none, .p (.mov (.const (.bool true)))⟩])
  .ret))))
def rf96 : List RX := [.tmp 2]
set_option maxRecDepth 100000 in
theorem comp96 : cFn Tryd.prog Tryd.f96 = some (erase cf96, rf96) := by kernel_rfl
end Go.Proofs.YtcdepkflghcjpaaDoor
namespace Go.Proofs.YtcdepkflghcjpaaDoor
def lb37_0 : LC :=
  (.seq (.reg [⟨(some 102), none, .p (.bin .lss (.tmp 101) (.tmp 100))⟩])
  (.seq (.cond (.tmp 102) .skip (.exit 5))
  (.seq (.block 6
  (.seq (.reg [⟨(some 103), none, .p (.mov (.tmp 101))⟩, ⟨(some 104), none, .p (.iad 1 (.tmp 99) (.tmp 101))⟩, ⟨(some 105), none, .p (.ld none (.tmp 104))⟩, ⟨(some 11), none, .p (.mov (.tmp 103))⟩, ⟨(some 12), none, .p (.mov (.tmp 105))⟩])
  (.seq (.reg [⟨(some 106), none, .p (.mov (.tmp 12))⟩, ⟨(some 107), none, .p (.bin .gtr (.tmp 106) (.const (.int .i64 0)))⟩, ⟨(some 108), none, .p (.mov (.tmp 107))⟩, ⟨(some 109), (some (108, true)), .p (.mov (.tmp 8))⟩, ⟨(some 110), (some (108, true)), .p (.mov (.tmp 11))⟩, ⟨(some 111), (some (108, true)), .p (.iad 1 (.tmp 109) (.tmp 110))⟩, ⟨(some 112), (some (108, true)), .p (.ld none (.tmp 111))⟩, ⟨(some 113), (some (108, true)), .p (.un .not (.tmp 112))⟩, ⟨(some 114), none, .p (.pick (.tmp 108) (.tmp 113) (.const (.bool false)))⟩])
  (.cond (.tmp 114) (.seq (.reg [⟨(some 4), none, .p (.mov (.const (.bool false)))⟩])
  .ret) .skip))))
  (.reg [⟨(some 115), none, .p (.bin .add (.tmp 101) (.const (.int .i64 1)))⟩, ⟨(some 101), none, .p (.mov (.tmp 115))⟩]))))
def lb37_1 : LC :=
  (.seq (.reg [⟨(some 56), none, .p (.bin .lss (.tmp 55) (.tmp 54))⟩])
  (.seq (.cond (.tmp 56) .skip (.exit 2))
  (.seq (.block 3
  (.seq (.reg [⟨(some 57), none, .p (.iad 6 (.tmp 53) (.tmp 55))⟩, ⟨(some 58), none, .p (.ld (some 6) (.tmp 57))⟩, ⟨(some 10), none, .e (.alc [(.int .i64 0), (.int .i64 0), (.int .i64 0), (.int .i64 0), (.int .i64 0), (.int .i64 0)])⟩, ⟨none, none, .e (.st 6 (.tmp 10) (.tmp 58))⟩])
  (.block 4
  (.seq (.dreg [⟨(some 60), none, .p (.fad 0 (.tmp 3))⟩, ⟨(some 61), none, .p (.ld none (.tmp 60))⟩, ⟨(some 62), none, .p (.fad 0 (.tmp 10))⟩, ⟨(some 63), none, .p (.ld none (.tmp 62))⟩, ⟨(some 64), none, .p (.iad 1 (.tmp 61) (.tmp 63))⟩, ⟨(some 65), none, .p (.ld none (.tmp 64))⟩, ⟨(some 66), none, .p (.fad 0 (.tmp 3))⟩, ⟨(some 67), none, .p (.ld none (.tmp 66))⟩, ⟨(some 68), none, .p (.fad 2 (.tmp 10))⟩, ⟨(some 69), none, .p (.ld none (.tmp 68))⟩, ⟨(some 70), none, .p (.iad 1 (.tmp 67) (.tmp 69))⟩, ⟨(some 71), none, .p (.ld none (.tmp 70))⟩, ⟨(some 72), none, .p (.bin .sub (.tmp 71) (.const (.int .i64 1)))⟩, ⟨(some 73), none, .p (.bin .eql (.tmp 65) (.tmp 72))⟩] [[⟨(some 59), none, .p (.mov (.tmp 73))⟩]])
  (.cond (.tmp 59) (.reg [⟨(some 74), none, .p (.mov (.tmp 8))⟩, ⟨(some 75), none, .p (.fad 2 (.tmp 10))⟩, ⟨(some 76), none, .p (.ld none (.tmp 75))⟩, ⟨(some 77), none, .p (.iad 1 (.tmp 74) (.tmp 76))⟩, ⟨none, none, .e (.st 1 (.tmp 77) (.const (.bool true)))⟩]) (.seq (.dreg [⟨(some 79), none, .p (.fad 0 (.tmp 3))⟩, ⟨(some 80), none, .p (.ld none (.tmp 79))⟩, ⟨(some 81), none, .p (.fad 2 (.tmp 10))⟩, ⟨(some 82), none, .p (.ld none (.tmp 81))⟩, ⟨(some 83), none, .p (.iad 1 (.tmp 80) (.tmp 82))⟩, ⟨(some 84), none, .p (.ld none (.tmp 83))⟩, ⟨(some 85), none, .p (.fad 0 (.tmp 3))⟩, ⟨(some 86), none, .p (.ld none (.tmp 85))⟩, ⟨(some 87), none, .p (.fad 0 (.tmp 10))⟩, ⟨(some 88), none, .p (.ld none (.tmp 87))⟩, ⟨(some 89), none, .p (.iad 1 (.tmp 86) (.tmp 88))⟩, ⟨(some 90), none, .p (.ld none (.tmp 89))⟩, ⟨(some 91), none, .p (.bin .sub (.tmp 90) (.const (.int .i64 1)))⟩, ⟨(some 92), none, .p (.bin .eql (.tmp 84) (.tmp 91))⟩] [[⟨(some 78), none, .p (.mov (.tmp 92))⟩]])
  (.cond (.tmp 78) (.reg [⟨(some 93), none, .p (.mov (.tmp 8))⟩, ⟨(some 94), none, .p (.fad 0 (.tmp 10))⟩, ⟨(some 95), none, .p (.ld none (.tmp 94))⟩, ⟨(some 96), none, .p (.iad 1 (.tmp 93) (.tmp 95))⟩, ⟨none, none, .e (.st 1 (.tmp 96) (.const (.bool true)))⟩]) .skip)))))))
  (.reg [⟨(some 97), none, .p (.bin .add (.tmp 55) (.const (.int .i64 1)))⟩, ⟨(some 55), none, .p (.mov (.tmp 97))⟩]))))
def lb37_2 : LC :=
  (.seq (.reg [⟨(some 29), none, .p (.bin .lss (.tmp 28) (.tmp 27))⟩])
  (.seq (.cond (.tmp 29) .skip (.exit 0))
  (.seq (.block 1
  (.seq (.reg [⟨(some 30), none, .p (.iad 1 (.tmp 26) (.tmp 28))⟩, ⟨(some 31), none, .p (.ld none (.tmp 30))⟩, ⟨(some 7), none, .p (.mov (.tmp 31))⟩])
  (.seq (.seq (.reg [⟨(some 32), none, .p (.mov (.tmp 7))⟩, ⟨(some 33), none, .p (.bin .lss (.tmp 32) (.const (.int .i64 (-1))))⟩, ⟨(some 34), none, .p (.mov (.tmp 33))⟩, ⟨(some 35), (some (34, false)), .p (.mov (.tmp 7))⟩, ⟨(some 36), (some (34, false)), .p (.fad 0 (.tmp 2))⟩, ⟨(some 37), (some (34, false)), .p (.ld none (.tmp 36))⟩, ⟨(some 38), (some (34, false)), .p (.len 1 (.tmp 37))⟩, ⟨(some 39), (some (34, false)), .p (.bin .geq (.tmp 35) (.tmp 38))⟩, ⟨(some 40), none, .p (.pick (.tmp 34) (.const (.bool true)) (.tmp 39))⟩])
  (.cond (.tmp 40) (.seq (.reg [⟨(some 4), none, .p (.mov (.const (.bool false)))⟩])
  .ret) .skip))
  (.seq (.reg [⟨(some 41), none, .p (.mov (.tmp 7))⟩, ⟨(some 42), none, .p (.bin .eql (.tmp 41) (.const (.int .i64 0)))⟩])
  (.cond (.tmp 42) (.reg [⟨(some 43), none, .p (.mov (.tmp 5))⟩, ⟨(some 44), none, .p (.bin .add (.tmp 43) (.const (.int .i64 1)))⟩, ⟨(some 5), none, .p (.mov (.tmp 44))⟩]) .skip)))))
  (.reg [⟨(some 45), none, .p (.bin .add (.tmp 28) (.const (.int .i64 1)))⟩, ⟨(some 28), none, .p (.mov (.tmp 45))⟩]))))
def cf37 : LC :=
  (.seq (.reg [⟨(some 2), none, .e (.box (.tmp 0))⟩, ⟨(some 3), none, .e (.box (.tmp 1))⟩, ⟨(some 4), none, .p (.mov (.const (.bool false)))⟩])
  (.seq (.seq (.reg [⟨(some 13), none, .p (.ld (some 2) (.tmp 2))⟩, ⟨(some 14), none, .e (.call 46 [(.tmp 13)])⟩, ⟨(some 15), none, .p (.bin .neq (.tmp 14) (.const (.int .i64 0)))⟩, ⟨(some 16), none, .p (.mov (.tmp 15))⟩, ⟨(some 17), (some (16, false)), .p (.fad 0 (.tmp 3))⟩, ⟨(some 18), (some (16, false)), .p (.ld none (.tmp 17))⟩, ⟨(some 19), (some (16, false)), .p (.len 1 (.tmp 18))⟩, ⟨(some 20), (some (16, false)), .p (.fad 0 (.tmp 2))⟩, ⟨(some 21), (some (16, false)), .p (.ld none (.tmp 20))⟩, ⟨(some 22), (some (16, false)), .p (.len 1 (.tmp 21))⟩, ⟨(some 23), (some (16, false)), .p (.bin .neq (.tmp 19) (.tmp 22))⟩, ⟨(some 24), none, .p (.pick (.tmp 16) (.const (.bool true)) (.tmp 23))⟩])
  (.cond (.tmp 24) (.seq (.reg [⟨(some 4), none, .p (.mov (.const (.bool false)))⟩])
  .ret) .skip))
  (.seq (.reg [⟨(some 5), none, .p (.mov (.const (.int .i64 0)))⟩])
  (.seq (.seq (.reg [⟨(some 25), none, .p (.fad 0 (.tmp 3))⟩, ⟨(some 26), none, .p (.ld none (.tmp 25))⟩, ⟨(some 27), none, .p (.len 1 (.tmp 26))⟩, ⟨(some 28), none, .p (.mov (.const (.int .i64 0)))⟩])
  (.block 0
  (.loop lb37_2)))
  (.seq (.seq (.reg [⟨(some 46), none, .p (.mov (.tmp 5))⟩, ⟨(some 47), none, .p (.bin .neq (.tmp 46) (.const (.int .i64 1)))⟩])
  (.cond (.tmp 47) (.seq (.reg [⟨(some 4), none, .p (.mov (.const (.bool false)))⟩])
  .ret) .skip))
  (.seq (.reg [⟨(some 48), none, .p (.fad 0 (.tmp 2))⟩, ⟨(some 49), none, .p (.ld none (.tmp 48))⟩, ⟨(some 50), none, .p (.len 1 (.tmp 49))⟩, ⟨(some 51), none, .e (.mks 2 1 [(.bool false)] 1 (.tmp 50) (.tmp 50))⟩, ⟨(some 8), none, .p (.mov (.tmp 51))⟩])
  (.seq (.seq (.reg [⟨(some 52), none, .p (.fad 1 (.tmp 2))⟩, ⟨(some 53), none, .p (.ld none (.tmp 52))⟩, ⟨(some 54), none, .p (.len 1 (.tmp 53))⟩, ⟨(some 55), none, .p (.mov (.const (.int .i64 0)))⟩])
  (.block 2
  (.loop lb37_1)))
  (.seq (.seq (.reg [⟨(some 98), none, .p (.fad 0 (.tmp 3))⟩, ⟨(some 99), none, .p (.ld none (.tmp 98))⟩, ⟨(some 100), none, .p (.len 1 (.tmp 99))⟩, ⟨(some 101), none, .p (.mov (.const (.int .i64 0)))⟩])
  (.block 5
  (.loop lb37_0)))
  (.seq (.reg [⟨(some 4), none, .p (.mov (.const (.bool true)))⟩])
  .ret)))))))))
def rf37 : List RX := [.tmp 4]
set_option maxRecDepth 100000 in
theorem comp37 : cFn Tryd.prog Tryd.f37 = some (erase cf37, rf37) := by kernel_rfl
def cf40 : LC :=
  (.seq (.reg [⟨(some 3), none, .e (.box (.tmp 0))⟩, ⟨(some 6), none, .p (.mov (.const (.bool false)))⟩])
  (.seq (.reg [⟨(some 8), none, .p (.mkf 72 [(.tmp 3)])⟩, ⟨(some 7), none, .p (.mov (.tmp 8))⟩])
  (.seq (.seq (.reg [⟨(some 9), none, .p (.mov (.tmp 7))⟩, ⟨(some 10), none, .p (.mov (.tmp 1))⟩, ⟨(some 11), none, .e (.calv (.tmp 9) [(.tmp 10)])⟩, ⟨(some 12), none, .p (.un .not (.tmp 11))⟩, ⟨(some 13), none, .p (.mov (.tmp 12))⟩, ⟨(some 14), (some (13, false)), .p (.mov (.tmp 7))⟩, ⟨(some 15), (some (13, false)), .p (.mov (.tmp 2))⟩, ⟨(some 16), (some (13, false)), .e (.calv (.tmp 14) [(.tmp 15)])⟩, ⟨(some 17), (some (13, false)), .p (.un .not (.tmp 16))⟩, ⟨(some 18), none, .p (.pick (.tmp 13) (.const (.bool true)) (.tmp 17))⟩])
  (.cond (.tmp 18) (.seq (.reg [⟨(some 6), none, .p (.mov (.const (.bool false)))⟩])
  .ret) .skip))
  (.seq (.dreg [⟨(some 19), none, .p (.fad 0 (.tmp 3))⟩, ⟨(some 20), none, .p (.ld none (.tmp 19))⟩, ⟨(some 21), none, .p (.mov (.tmp 1))⟩, ⟨(some 22), none, .p (.iad 1 (.tmp 20) (.tmp 21))⟩, ⟨(some 23), none, .p (.ld none (.tmp 22))⟩, ⟨(some 24), none, .p (.fad 0 (.tmp 3))⟩, ⟨(some 25), none, .p (.ld none (.tmp 24))⟩, ⟨(some 26), none, .p (.mov (.tmp 2))⟩, ⟨(some 27), none, .p (.iad 1 (.tmp 25) (.tmp 26))⟩, ⟨(some 28), none, .p (.ld none (.tmp 27))⟩, ⟨(some 29), none, .e (.call 74 [(.tmp 23), (.tmp 28)])⟩, ⟨(some 30), none, .p (.mov (.tmp 1))⟩, ⟨(some 31), none, .p (.mov (.tmp 2))⟩, ⟨(some 32), none, .e (.call 74 [(.tmp 30), (.tmp 31)])⟩, ⟨(some 33), none, .e (.bsr 2 1 [(.int .i64 0)] [(0, 1, (.tmp 29)), (1, 1, (.tmp 32))])⟩, ⟨(some 34), none, .e (.call 73 [(.tmp 33)])⟩, ⟨(some 35), none, .p (.bin .lss (.tmp 34) (.const (.int .i64 0)))⟩] [[⟨(some 6), none, .p (.mov (.tmp 35))⟩]])
  .ret))))
def rf40 : List RX := [.tmp 6]
set_option maxRecDepth 100000 in
theorem comp40 : cFn Tryd.prog Tryd.f40 = some (erase cf40, rf40) := by kernel_rfl
def cf72 : LC :=
  (.seq (.reg [⟨(some 3), none, .p (.mov (.const (.bool false)))⟩])
  (.seq (.reg [⟨(some 4), none, .p (.mov (.tmp 0))⟩, ⟨(some 5), none, .p (.bin .geq (.tmp 4) (.const (.int .i64 0)))⟩, ⟨(some 6), none, .p (.mov (.tmp 5))⟩, ⟨(some 7), (some (6, true)), .p (.mov (.tmp 0))⟩, ⟨(some 8), (some (6, true)), .p (.fad 0 (.tmp 1))⟩, ⟨(some 9), (some (6, true)), .p (.ld none (.tmp 8))⟩, ⟨(some 10), (some (6, true)), .p (.len 1 (.tmp 9))⟩, ⟨(some 11), (some (6, true)), .p (.bin .lss (.tmp 7) (.tmp 10))⟩, ⟨(some 12), none, .p (.pick (.tmp 6) (.tmp 11) (.const (.bool false)))⟩, ⟨(some 13), none, .p (.mov (.tmp 12))⟩, ⟨(some 14), (some (13, true)), .p (.fad 0 (.tmp 1))⟩, ⟨(some 15), (some (13, true)), .p (.ld none (.tmp 14))⟩, ⟨(some 16), (some (13, true)), .p (.mov (.tmp 0))⟩, ⟨(some 17), (some (13, true)), .p (.iad 1 (.tmp 15) (.tmp 16))⟩, ⟨(some 18), (some (13, true)), .p (.ld none (.tmp 17))⟩, ⟨(some 19), (some (13, true)), .p (.bin .geq (.tmp 18) (.const (.int .i64 0)))⟩, ⟨(some 20), none, .p (.pick (.tmp 13) (.tmp 19) (.const (.bool false)))⟩, ⟨(some 3), none, .p (.mov (.tmp 20))⟩])
  .ret))
def rf72 : List RX := [.tmp 3]
set_option maxRecDepth 100000 in
theorem comp72 : cFn Tryd.prog Tryd.f72 = some (erase cf72, rf72) := by kernel_rfl
end Go.Proofs.YtcdepkflghcjpaaDoor
namespace Go.Proofs.YtcdepkflghcjpaaDoor
def lb13_0 : LC :=
  (.seq (.reg [⟨(some 83), none, .p (.bin .lss (.tmp 82) (.const (.int .i64 2)))⟩])
  (.seq (.cond (.tmp 83) .skip (.exit 4))
  (.seqj (.block 5
  (.seq (.reg [⟨(some 84), none, .p (.mov (.tmp 82))⟩, ⟨(some 85), none, .p (.idxa 2 1 none (.tmp 81) (.tmp 82))⟩, ⟨(some 16), none, .p (.mov (.tmp 84))⟩, ⟨(some 17), none, .p (.mov (.tmp 85))⟩])
  (.dreg [⟨(some 86), none, .p (.fad 0 (.tmp 8))⟩, ⟨(some 88), none, .p (.mov (.tmp 14))⟩, ⟨(some 89), none, .p (.mov (.tmp 16))⟩, ⟨(some 90), none, .p (.fad 0 (.tmp 8))⟩, ⟨(some 91), none, .p (.ld none (.tmp 90))⟩, ⟨(some 92), none, .p (.mov (.tmp 14))⟩, ⟨(some 93), none, .p (.mov (.tmp 16))⟩, ⟨(some 94), none, .p (.iad 2 (.tmp 91) (.tmp 92))⟩, ⟨(some 95), none, .p (.iada 2 1 (.tmp 94) (.tmp 93))⟩, ⟨(some 96), none, .p (.ld none (.tmp 95))⟩, ⟨(some 97), none, .p (.mov (.tmp 17))⟩, ⟨(some 98), none, .e (.bsr 1 1 [(.int .i64 0)] [(0, 1, (.tmp 97))])⟩] [[⟨(some 87), none, .p (.ld none (.tmp 86))⟩, ⟨(some 99), none, .e (.app 1 1 8 (.tmp 96) (.tmp 98))⟩, ⟨(some 100), none, .p (.iad 2 (.tmp 87) (.tmp 88))⟩, ⟨(some 101), none, .p (.iada 2 1 (.tmp 100) (.tmp 89))⟩, ⟨none, none, .e (.st 1 (.tmp 101) (.tmp 99))⟩], [⟨(some 87), none, .p (.ld none (.tmp 86))⟩, ⟨(some 100), none, .p (.iad 2 (.tmp 87) (.tmp 88))⟩, ⟨(some 99), none, .e (.app 1 1 8 (.tmp 96) (.tmp 98))⟩, ⟨(some 101), none, .p (.iada 2 1 (.tmp 100) (.tmp 89))⟩, ⟨none, none, .e (.st 1 (.tmp 101) (.tmp 99))⟩], [⟨(some 99), none, .e (.app 1 1 8 (.tmp 96) (.tmp 98))⟩, ⟨(some 87), none, .p (.ld none (.tmp 86))⟩, ⟨(some 100), none, .p (.iad 2 (.tmp 87) (.tmp 88))⟩, ⟨(some 101), none, .p (.iada 2 1 (.tmp 100) (.tmp 89))⟩, ⟨none, none, .e (.st 1 (.tmp 101) (.tmp 99))⟩]])))
  (.reg [⟨(some 102), none, .p (.bin .add (.tmp 82) (.const (.int .i64 1)))⟩, ⟨(some 82), none, .p (.mov (.tmp 102))⟩]))))
def lb13_1 : LC :=
  (.seq (.reg [⟨(some 60), none, .p (.bin .lss (.tmp 59) (.tmp 58))⟩])
  (.seq (.cond (.tmp 60) .skip (.exit 2))
  (.seq (.block 3
  (.seq (.reg [⟨(some 61), none, .p (.mov (.tmp 59))⟩, ⟨(some 14), none, .p (.mov (.tmp 61))⟩])
  (.seq (.reg [⟨(some 62), none, .p (.bld [(.int .i64 0), (.int .i64 0)] [(0, 1, (.const (.int .i64 (-2)))), (1, 1, (.const (.int .i64 (-2))))])⟩, ⟨(some 15), none, .e (.alc [(.int .i64 0), (.int .i64 0)])⟩, ⟨none, none, .e (.st 2 (.tmp 15) (.tmp 62))⟩])
  (.seqj (.seq (.reg [⟨(some 63), none, .p (.mov (.tmp 14))⟩, ⟨(some 64), none, .p (.mov (.tmp 9))⟩, ⟨(some 65), none, .p (.bin .neq (.tmp 63) (.tmp 64))⟩])
  (.cond (.tmp 65) (.dreg [⟨(some 66), none, .p (.mov (.tmp 13))⟩, ⟨(some 67), none, .p (.mov (.tmp 14))⟩, ⟨(some 68), none, .p (.ld none (.tmp 10))⟩, ⟨(some 69), none, .p (.mov (.tmp 14))⟩, ⟨(some 70), none, .p (.iad 1 (.tmp 68) (.tmp 69))⟩, ⟨(some 71), none, .p (.ld none (.tmp 70))⟩, ⟨(some 72), none, .e (.calv (.tmp 66) [(.tmp 67), (.tmp 71), (.const (.bool true))])⟩, ⟨(some 73), none, .p (.mov (.tmp 13))⟩, ⟨(some 74), none, .p (.mov (.tmp 14))⟩, ⟨(some 75), none, .p (.ld none (.tmp 11))⟩, ⟨(some 76), none, .p (.mov (.tmp 14))⟩, ⟨(some 77), none, .p (.iad 1 (.tmp 75) (.tmp 76))⟩, ⟨(some 78), none, .p (.ld none (.tmp 77))⟩, ⟨(some 79), none, .e (.calv (.tmp 73) [(.tmp 74), (.tmp 78), (.const (.bool false))])⟩, ⟨(some 80), none, .p (.bld [(.int .i64 0), (.int .i64 0)] [(0, 1, (.tmp 72)), (1, 1, (.tmp 79))])⟩] [[⟨none, none, .e (.st 2 (.tmp 15) (.tmp 80))⟩]]) .skip))
  (.seq (.reg [⟨(some 81), none, .p (.ld (some 2) (.tmp 15))⟩, ⟨(some 82), none, .p (.mov (.const (.int .i64 0)))⟩])
  (.block 4
  (.loop lb13_0)))))))
  (.reg [⟨(some 103), none, .p (.bin .add (.tmp 59) (.const (.int .i64 1)))⟩, ⟨(some 59), none, .p (.mov (.tmp 103))⟩]))))
def lb13_2 : LC :=
  (.seq (.reg [⟨(some 40), none, .p (.bin .lss (.tmp 39) (.tmp 38))⟩])
  (.seq (.cond (.tmp 40) .skip (.exit 0))
  (.seq (.block 1
  (.seq (.reg [⟨(some 41), none, .p (.mov (.tmp 39))⟩, ⟨(some 9), none, .p (.mov (.tmp 41))⟩])
  (.seq (.reg [⟨(some 43), none, .p (.ld (some 2) (.tmp 3))⟩, ⟨(some 44), none, .p (.ld (some 1) (.tmp 4))⟩, ⟨(some 45), none, .p (.ld none (.tmp 5))⟩, ⟨(some 46), none, .p (.mov (.tmp 9))⟩, ⟨(some 47), none, .e (.call 28 [(.tmp 43), (.tmp 44), (.tmp 45), (.tmp 46)])⟩, ⟨(some 42), none, .p (.mov (.tmp 47))⟩, ⟨(some 48), none, .p (.ext (.tmp 42) 0)⟩, ⟨(some 49), none, .p (.ext (.tmp 42) 1)⟩, ⟨(some 50), none, .p (.ext (.tmp 42) 2)⟩, ⟨(some 10), none, .e (.alc [(.slice none 0 0)])⟩, ⟨(some 11), none, .e (.alc [(.slice none 0 0)])⟩, ⟨none, none, .e (.st 1 (.tmp 10) (.tmp 48))⟩, ⟨none, none, .e (.st 1 (.tmp 11) (.tmp 49))⟩, ⟨(some 12), none, .p (.mov (.tmp 50))⟩])
  (.seq (.seq (.reg [⟨(some 51), none, .p (.mov (.tmp 12))⟩, ⟨(some 52), none, .p (.bin .neq (.tmp 51) (.const (.int .i64 0)))⟩])
  (.cond (.tmp 52) (.seq (.reg [⟨(some 53), none, .p (.bld [(.slice none 0 0)] [])⟩, ⟨(some 54), none, .p (.mov (.tmp 12))⟩, ⟨none, none, .e (.st 1 (.tmp 6) (.tmp 53))⟩, ⟨(some 7), none, .p (.mov (.tmp 54))⟩])
  .ret) .skip))
  (.seq (.reg [⟨(some 55), none, .p (.mkf 38 [(.tmp 3), (.tmp 5), (.tmp 4), (.tmp 10), (.tmp 11)])⟩, ⟨(some 13), none, .p (.mov (.tmp 55))⟩])
  (.seq (.reg [⟨(some 56), none, .p (.fad 0 (.tmp 3))⟩, ⟨(some 57), none, .p (.ld none (.tmp 56))⟩, ⟨(some 58), none, .p (.len 1 (.tmp 57))⟩, ⟨(some 59), none, .p (.mov (.const (.int .i64 0)))⟩])
  (.block 2
  (.loop lb13_1))))))))
  (.reg [⟨(some 104), none, .p (.bin .add (.tmp 39) (.const (.int .i64 1)))⟩, ⟨(some 39), none, .p (.mov (.tmp 104))⟩]))))
def cf13 : LC :=
  (.seq (.reg [⟨(some 3), none, .e (.box (.tmp 0))⟩, ⟨(some 4), none, .e (.box (.tmp 1))⟩, ⟨(some 5), none, .e (.box (.tmp 2))⟩, ⟨(some 6), none, .e (.alc [(.slice none 0 0)])⟩, ⟨(some 7), none, .p (.mov (.const (.int .i64 0)))⟩])
  (.seq (.seq (.reg [⟨(some 18), none, .p (.ld (some 2) (.tmp 3))⟩, ⟨(some 19), none, .p (.ld (some 1) (.tmp 4))⟩, ⟨(some 20), none, .e (.call 37 [(.tmp 18), (.tmp 19)])⟩, ⟨(some 21), none, .p (.un .not (.tmp 20))⟩, ⟨(some 22), none, .p (.mov (.tmp 21))⟩, ⟨(some 23), (some (22, false)), .p (.ld none (.tmp 5))⟩, ⟨(some 24), (some (22, false)), .p (.len 1 (.tmp 23))⟩, ⟨(some 25), (some (22, false)), .p (.fad 1 (.tmp 3))⟩, ⟨(some 26), (some (22, false)), .p (.ld none (.tmp 25))⟩, ⟨(some 27), (some (22, false)), .p (.len 1 (.tmp 26))⟩, ⟨(some 28), (some (22, false)), .p (.bin .neq (.tmp 24) (.tmp 27))⟩, ⟨(some 29), none, .p (.pick (.tmp 22) (.const (.bool true)) (.tmp 28))⟩])
  (.cond (.tmp 29) (.seq (.reg [⟨(some 30), none, .p (.bld [(.slice none 0 0)] [])⟩, ⟨none, none, .e (.st 1 (.tmp 6) (.tmp 30))⟩, ⟨(some 7), none, .p (.mov (.const (.int .i64 1)))⟩])
  .ret) .skip))
  (.seq (.reg [⟨(some 31), none, .p (.fad 0 (.tmp 3))⟩, ⟨(some 32), none, .p (.ld none (.tmp 31))⟩, ⟨(some 33), none, .p (.len 1 (.tmp 32))⟩, ⟨(some 34), none, .e (.mks 0 2 [(.slice none 0 0), (.slice none 0 0)] 48 (.tmp 33) (.tmp 33))⟩, ⟨(some 35), none, .p (.bld [(.slice none 0 0)] [(0, 1, (.tmp 34))])⟩, ⟨(some 8), none, .e (.alc [(.slice none 0 0)])⟩, ⟨none, none, .e (.st 1 (.tmp 8) (.tmp 35))⟩])
  (.seq (.seqj (.reg [⟨(some 36), none, .p (.fad 0 (.tmp 3))⟩, ⟨(some 37), none, .p (.ld none (.tmp 36))⟩, ⟨(some 38), none, .p (.len 1 (.tmp 37))⟩, ⟨(some 39), none, .p (.mov (.const (.int .i64 0)))⟩])
  (.block 0
  (.loop lb13_2)))
  (.seq (.reg [⟨(some 105), none, .p (.ld (some 1) (.tmp 8))⟩, ⟨none, none, .e (.st 1 (.tmp 6) (.tmp 105))⟩, ⟨(some 7), none, .p (.mov (.const (.int .i64 0)))⟩])
  .ret)))))
def rf13 : List RX := [.cell 6 (some 1), .tmp 7]
set_option maxRecDepth 100000 in
theorem comp13 : cFn Tryd.prog Tryd.f13 = some (erase cf13, rf13) := by kernel_rfl
def lb17_0 : LC :=
  (.seq (.reg [⟨(some 46), none, .p (.bin .lss (.tmp 45) (.tmp 44))⟩])
  (.seq (.cond (.tmp 46) .skip (.exit 4))
  (.seq (.block 5
  (.seq (.reg [⟨(some 47), none, .p (.mov (.tmp 45))⟩, ⟨(some 48), none, .p (.iad 1 (.tmp 43) (.tmp 45))⟩, ⟨(some 49), none, .p (.ld none (.tmp 48))⟩, ⟨(some 10), none, .p (.mov (.tmp 47))⟩, ⟨(some 11), none, .p (.mov (.tmp 49))⟩])
  (.seq (.reg [⟨(some 50), none, .p (.mov (.tmp 5))⟩, ⟨(some 51), none, .p (.mov (.tmp 6))⟩, ⟨(some 52), none, .p (.mov (.tmp 10))⟩, ⟨(some 53), none, .p (.mov (.tmp 11))⟩, ⟨(some 54), none, .e (.calv (.tmp 50) [(.tmp 51), (.tmp 52), (.tmp 53)])⟩, ⟨(some 55), none, .p (.un .not (.tmp 54))⟩])
  (.cond (.tmp 55) (.seq (.reg [⟨(some 4), none, .p (.mov (.const (.bool false)))⟩])
  .ret) .skip))))
  (.reg [⟨(some 56), none, .p (.bin .add (.tmp 45) (.const (.int .i64 1)))⟩, ⟨(some 45), none, .p (.mov (.tmp 56))⟩]))))
def lb17_1 : LC :=
  (.seq (.reg [⟨(some 35), none, .p (.bin .lss (.tmp 34) (.const (.int .i64 2)))⟩])
  (.seq (.cond (.tmp 35) .skip (.exit 2))
  (.seq (.block 3
  (.seq (.reg [⟨(some 36), none, .p (.idxa 2 1 none (.tmp 33) (.tmp 34))⟩, ⟨(some 9), none, .p (.mov (.tmp 36))⟩])
  (.seq (.seq (.reg [⟨(some 37), none, .p (.mov (.tmp 9))⟩, ⟨(some 38), none, .p (.len 1 (.tmp 37))⟩, ⟨(some 39), none, .p (.fad 0 (.tmp 2))⟩, ⟨(some 40), none, .p (.ld none (.tmp 39))⟩, ⟨(some 41), none, .p (.len 1 (.tmp 40))⟩, ⟨(some 42), none, .p (.bin .neq (.tmp 38) (.tmp 41))⟩])
  (.cond (.tmp 42) (.seq (.reg [⟨(some 4), none, .p (.mov (.const (.bool false)))⟩])
  .ret) .skip))
  (.seq (.reg [⟨(some 43), none, .p (.mov (.tmp 9))⟩, ⟨(some 44), none, .p (.len 1 (.tmp 43))⟩, ⟨(some 45), none, .p (.mov (.const (.int .i64 0)))⟩])
  (.block 4
  (.loop lb17_0))))))
  (.reg [⟨(some 57), none, .p (.bin .add (.tmp 34) (.const (.int .i64 1)))⟩, ⟨(some 34), none, .p (.mov (.tmp 57))⟩]))))
def lb17_2 : LC :=
  (.seq (.reg [⟨(some 29), none, .p (.bin .lss (.tmp 28) (.tmp 27))⟩])
  (.seq (.cond (.tmp 29) .skip (.exit 0))
  (.seq (.block 1
  (.seq (.reg [⟨(some 30), none, .p (.mov (.tmp 28))⟩, ⟨(some 31), none, .p (.iad 2 (.tmp 26) (.tmp 28))⟩, ⟨(some 32), none, .p (.ld (some 2) (.tmp 31))⟩, ⟨(some 7), none, .e (.alc [(.slice none 0 0), (.slice none 0 0)])⟩, ⟨(some 6), none, .p (.mov (.tmp 30))⟩, ⟨none, none, .e (.st 2 (.tmp 7) (.tmp 32))⟩])
  (.seq (.reg [⟨(some 33), none, .p (.ld (some 2) (.tmp 7))⟩, ⟨(some 34), none, .p (.mov (.const (.int .i64 0)))⟩])
  (.block 2
  (.loop lb17_1)))))
  (.reg [⟨(some 58), none, .p (.bin .add (.tmp 28) (.const (.int .i64 1)))⟩, ⟨(some 28), none, .p (.mov (.tmp 58))⟩]))))
def cf17 : LC :=
  (.seq (.reg [⟨(some 2), none, .e (.box (.tmp 0))⟩, ⟨(some 3), none, .e (.box (.tmp 1))⟩, ⟨(some 4), none, .p (.mov (.const (.bool false)))⟩])
  (.seq (.seq (.reg [⟨(some 12), none, .p (.ld (some 2) (.tmp 2))⟩, ⟨(some 13), none, .e (.call 46 [(.tmp 12)])⟩, ⟨(some 14), none, .p (.bin .neq (.tmp 13) (.const (.int .i64 0)))⟩, ⟨(some 15), none, .p (.mov (.tmp 14))⟩, ⟨(some 16), (some (15, false)), .p (.fad 0 (.tmp 3))⟩, ⟨(some 17), (some (15, false)), .p (.ld none (.tmp 16))⟩, ⟨(some 18), (some (15, false)), .p (.len 1 (.tmp 17))⟩, ⟨(some 19), (some (15, false)), .p (.fad 0 (.tmp 2))⟩, ⟨(some 20), (some (15, false)), .p (.ld none (.tmp 19))⟩, ⟨(some 21), (some (15, false)), .p (.len 1 (.tmp 20))⟩, ⟨(some 22), (some (15, false)), .p (.bin .neq (.tmp 18) (.tmp 21))⟩, ⟨(some 23), none, .p (.pick (.tmp 15) (.const (.bool true)) (.tmp 22))⟩])
  (.cond (.tmp 23) (.seq (.reg [⟨(some 4), none, .p (.mov (.const (.bool false)))⟩])
  .ret) .skip))
  (.seq (.reg [⟨(some 24), none, .p (.mkf 47 [(.tmp 2)])⟩, ⟨(some 5), none, .p (.mov (.tmp 24))⟩])
  (.seq (.seq (.reg [⟨(some 25), none, .p (.fad 0 (.tmp 3))⟩, ⟨(some 26), none, .p (.ld none (.tmp 25))⟩, ⟨(some 27), none, .p (.len 1 (.tmp 26))⟩, ⟨(some 28), none, .p (.mov (.const (.int .i64 0)))⟩])
  (.block 0
  (.loop lb17_2)))
  (.seq (.reg [⟨(some 4), none, .p (.mov (.const (.bool true)))⟩])
  .ret)))))
def rf17 : List RX := [.tmp 4]
set_option maxRecDepth 100000 in
theorem comp17 : cFn Tryd.prog Tryd.f17 = some (erase cf17, rf17) := by kernel_rfl
def lb31_0 : LC :=
  (.seq (.reg [⟨(some 45), none, .p (.bin .lss (.tmp 44) (.tmp 43))⟩])
  (.seq (.cond (.tmp 45) .skip (.exit 4))
  (.seq (.block 5
  (.seq (.reg [⟨(some 46), none, .p (.iad 1 (.tmp 42) (.tmp 44))⟩, ⟨(some 47), none, .p (.ld none (.tmp 46))⟩, ⟨(some 13), none, .p (.mov (.tmp 47))⟩])
  (.seq (.seq (.reg [⟨(some 48), none, .p (.mov (.tmp 13))⟩, ⟨(some 49), none, .p (.bin .lss (.tmp 48) (.const (.int .i64 (-2))))⟩, ⟨(some 50), none, .p (.mov (.tmp 49))⟩, ⟨(some 51), (some (50, false)), .p (.mov (.tmp 13))⟩, ⟨(some 52), (some (50, false)), .p (.bin .geq (.tmp 51) (.const (.int .i64 32)))⟩, ⟨(some 53), none, .p (.pick (.tmp 50) (.const (.bool true)) (.tmp 52))⟩])
  (.cond (.tmp 53) (.seq (.reg [⟨(some 2), none, .p (.mov (.const (.string ⟨#[]⟩)))⟩, ⟨(some 3), none, .p (.mov (.const (.int .i64 1)))⟩])
  .ret) .skip))
  (.reg [⟨(some 54), none, .p (.mov (.tmp 11))⟩, ⟨(some 55), none, .p (.mov (.tmp 13))⟩, ⟨(some 56), none, .e (.call 64 [(.tmp 55)])⟩, ⟨(some 57), none, .e (.bsr 1 1 [(.string ⟨#[]⟩)] [(0, 1, (.tmp 56))])⟩, ⟨(some 58), none, .e (.app 0 1 16 (.tmp 54) (.tmp 57))⟩, ⟨(some 11), none, .p (.mov (.tmp 58))⟩]))))
  (.reg [⟨(some 59), none, .p (.bin .add (.tmp 44) (.const (.int .i64 1)))⟩, ⟨(some 44), none, .p (.mov (.tmp 59))⟩]))))
def lb31_1 : LC :=
  (.seq (.reg [⟨(some 34), none, .p (.bin .lss (.tmp 33) (.const (.int .i64 2)))⟩])
  (.seq (.cond (.tmp 34) .skip (.exit 2))
  (.seq (.block 3
  (.seq (.reg [⟨(some 35), none, .p (.idxa 2 1 none (.tmp 32) (.tmp 33))⟩, ⟨(some 10), none, .p (.mov (.tmp 35))⟩])
  (.seq (.seq (.reg [⟨(some 36), none, .p (.mov (.tmp 10))⟩, ⟨(some 37), none, .p (.len 1 (.tmp 36))⟩, ⟨(some 38), none, .p (.mov (.tmp 4))⟩, ⟨(some 39), none, .p (.bin .neq (.tmp 37) (.tmp 38))⟩])
  (.cond (.tmp 39) (.seq (.reg [⟨(some 2), none, .p (.mov (.const (.string ⟨#[]⟩)))⟩, ⟨(some 3), none, .p (.mov (.const (.int .i64 1)))⟩])
  .ret) .skip))
  (.seq (.reg [⟨(some 40), none, .p (.mov (.tmp 4))⟩, ⟨(some 41), none, .e (.mks 0 1 [(.string ⟨#[]⟩)] 16 (.const (.int .i64 0)) (.tmp 40))⟩, ⟨(some 11), none, .p (.mov (.tmp 41))⟩])
  (.seqj (.seq (.reg [⟨(some 42), none, .p (.mov (.tmp 10))⟩, ⟨(some 43), none, .p (.len 1 (.tmp 42))⟩, ⟨(some 44), none, .p (.mov (.const (.int .i64 0)))⟩])
  (.block 4
  (.loop lb31_0)))
  (.reg [⟨(some 60), none, .p (.mov (.tmp 6))⟩, ⟨(some 61), none, .p (.mov (.tmp 11))⟩, ⟨(some 62), none, .e (.calv (.tmp 60) [(.tmp 61)])⟩]))))))
  (.reg [⟨(some 63), none, .p (.bin .add (.tmp 33) (.const (.int .i64 1)))⟩, ⟨(some 33), none, .p (.mov (.tmp 63))⟩]))))
def lb31_2 : LC :=
  (.seq (.reg [⟨(some 29), none, .p (.bin .lss (.tmp 28) (.tmp 27))⟩])
  (.seq (.cond (.tmp 29) .skip (.exit 0))
  (.seq (.block 1
  (.seq (.reg [⟨(some 30), none, .p (.iad 2 (.tmp 26) (.tmp 28))⟩, ⟨(some 31), none, .p (.ld (some 2) (.tmp 30))⟩, ⟨(some 8), none, .e (.alc [(.slice none 0 0), (.slice none 0 0)])⟩, ⟨none, none, .e (.st 2 (.tmp 8) (.tmp 31))⟩])
  (.seq (.reg [⟨(some 32), none, .p (.ld (some 2) (.tmp 8))⟩, ⟨(some 33), none, .p (.mov (.const (.int .i64 0)))⟩])
  (.block 2
  (.loop lb31_1)))))
  (.reg [⟨(some 64), none, .p (.bin .add (.tmp 28) (.const (.int .i64 1)))⟩, ⟨(some 28), none, .p (.mov (.tmp 64))⟩]))))
def cf31 : LC :=
  (.seq (.reg [⟨(some 1), none, .e (.box (.tmp 0))⟩, ⟨(some 2), none, .p (.mov (.const (.string ⟨#[]⟩)))⟩, ⟨(some 3), none, .p (.mov (.const (.int .i64 0)))⟩])
  (.seq (.reg [⟨(some 14), none, .p (.fad 0 (.tmp 1))⟩, ⟨(some 15), none, .p (.ld none (.tmp 14))⟩, ⟨(some 16), none, .p (.len 1 (.tmp 15))⟩, ⟨(some 4), none, .p (.mov (.tmp 16))⟩])
  (.seq (.seq (.reg [⟨(some 17), none, .p (.mov (.tmp 4))⟩, ⟨(some 18), none, .p (.bin .gtr (.tmp 17) (.const (.int .i64 16)))⟩])
  (.cond (.tmp 18) (.seq (.reg [⟨(some 2), none, .p (.mov (.const (.string ⟨#[]⟩)))⟩, ⟨(some 3), none, .p (.mov (.const (.int .i64 1)))⟩])
  .ret) .skip))
  (.seq (.reg [⟨(some 5), none, .e (.alct 113 [(.pointer none), (.slice none 0 0)])⟩])
  (.seq (.reg [⟨(some 19), none, .p (.mkf 60 [(.tmp 5)])⟩, ⟨(some 6), none, .p (.mov (.tmp 19))⟩])
  (.seq (.reg [⟨(some 20), none, .p (.mov (.tmp 6))⟩, ⟨(some 21), none, .p (.mov (.tmp 4))⟩, ⟨(some 22), none, .e (.call 64 [(.tmp 21)])⟩, ⟨(some 23), none, .e (.bsr 2 1 [(.string ⟨#[]⟩)] [(0, 1, (.const (.string ⟨#[114, 111, 117, 116, 101, 115]⟩))), (1, 1, (.tmp 22))])⟩, ⟨(some 24), none, .e (.calv (.tmp 20) [(.tmp 23)])⟩])
  (.seq (.seq (.reg [⟨(some 25), none, .p (.fad 0 (.tmp 1))⟩, ⟨(some 26), none, .p (.ld none (.tmp 25))⟩, ⟨(some 27), none, .p (.len 1 (.tmp 26))⟩, ⟨(some 28), none, .p (.mov (.const (.int .i64 0)))⟩])
  (.block 0
  (.loop lb31_2)))
  (.seq (.reg [⟨(some 65), none, .e (.call 65 [(.tmp 5)])⟩, ⟨(some 2), none, .p (.mov (.tmp 65))⟩, ⟨(some 3), none, .p (.mov (.const (.int .i64 0)))⟩])
  .ret))))))))
def rf31 : List RX := [.tmp 2, .tmp 3]
set_option maxRecDepth 100000 in
theorem comp31 : cFn Tryd.prog Tryd.f31 = some (erase cf31, rf31) := by kernel_rfl
def lb38_0 : LC :=
  (.seq (.reg [⟨(some 21), none, .p (.bin .lss (.tmp 20) (.tmp 19))⟩])
  (.seq (.cond (.tmp 21) .skip (.exit 0))
  (.seq (.block 1
  (.seq (.reg [⟨(some 22), none, .p (.mov (.tmp 20))⟩, ⟨(some 23), none, .p (.iad 6 (.tmp 18) (.tmp 20))⟩, ⟨(some 24), none, .p (.ld (some 6) (.tmp 23))⟩, ⟨(some 13), none, .e (.alc [(.int .i64 0), (.int .i64 0), (.int .i64 0), (.int .i64 0), (.int .i64 0), (.int .i64 0)])⟩, ⟨(some 12), none, .p (.mov (.tmp 22))⟩, ⟨none, none, .e (.st 6 (.tmp 13) (.tmp 24))⟩])
  (.seq (.reg [⟨(some 26), none, .p (.ld (some 6) (.tmp 13))⟩, ⟨(some 27), none, .p (.mov (.tmp 0))⟩, ⟨(some 28), none, .e (.call 39 [(.tmp 26), (.tmp 27)])⟩, ⟨(some 25), none, .p (.mov (.tmp 28))⟩, ⟨(some 29), none, .p (.ext (.tmp 25) 0)⟩, ⟨(some 30), none, .p (.ext (.tmp 25) 1)⟩, ⟨(some 14), none, .p (.mov (.tmp 29))⟩, ⟨(some 15), none, .p (.mov (.tmp 30))⟩])
  (.seq (.seq (.reg [⟨(some 31), none, .p (.mov (.tmp 1))⟩, ⟨(some 32), none, .p (.bin .lss (.tmp 31) (.const (.int .i64 1)))⟩, ⟨(some 33), none, .p (.mov (.tmp 32))⟩, ⟨(some 34), (some (33, false)), .p (.mov (.tmp 15))⟩, ⟨(some 35), (some (33, false)), .p (.un .not (.tmp 34))⟩, ⟨(some 36), none, .p (.pick (.tmp 33) (.const (.bool true)) (.tmp 35))⟩, ⟨(some 37), none, .p (.mov (.tmp 36))⟩, ⟨(some 38), (some (37, false)), .p (.ld none (.tmp 4))⟩, ⟨(some 39), (some (37, false)), .p (.mov (.tmp 12))⟩, ⟨(some 40), (some (37, false)), .p (.iad 1 (.tmp 38) (.tmp 39))⟩, ⟨(some 41), (some (37, false)), .p (.ld none (.tmp 40))⟩, ⟨(some 42), (some (37, false)), .p (.un .not (.tmp 41))⟩, ⟨(some 43), none, .p (.pick (.tmp 37) (.const (.bool true)) (.tmp 42))⟩])
  (.cond (.tmp 43) (.exit 1) .skip))
  (.seq (.reg [⟨(some 44), none, .p (.ld (some 1) (.tmp 5))⟩, ⟨(some 45), none, .p (.mov (.tmp 14))⟩, ⟨(some 46), none, .p (.mov (.tmp 0))⟩, ⟨(some 47), none, .e (.call 40 [(.tmp 44), (.tmp 45), (.tmp 46)])⟩, ⟨(some 16), none, .p (.mov (.tmp 47))⟩])
  (.seq (.reg [⟨(some 48), none, .p (.mov (.tmp 16))⟩, ⟨(some 49), none, .p (.mov (.tmp 48))⟩, ⟨(some 50), (some (49, true)), .p (.mov (.tmp 2))⟩, ⟨(some 51), none, .p (.pick (.tmp 49) (.tmp 50) (.const (.bool false)))⟩, ⟨(some 52), none, .p (.mov (.tmp 51))⟩, ⟨(some 53), (some (52, true)), .p (.ld none (.tmp 6))⟩, ⟨(some 54), (some (52, true)), .p (.mov (.tmp 14))⟩, ⟨(some 55), (some (52, true)), .p (.iad 1 (.tmp 53) (.tmp 54))⟩, ⟨(some 56), (some (52, true)), .p (.ld none (.tmp 55))⟩, ⟨(some 57), (some (52, true)), .p (.mov (.tmp 1))⟩, ⟨(some 58), (some (52, true)), .p (.bin .sub (.tmp 57) (.const (.int .i64 1)))⟩, ⟨(some 59), (some (52, true)), .p (.bin .eql (.tmp 56) (.tmp 58))⟩, ⟨(some 60), none, .p (.pick (.tmp 52) (.tmp 59) (.const (.bool false)))⟩, ⟨(some 61), none, .p (.mov (.tmp 60))⟩, ⟨(some 62), (some (61, false)), .p (.mov (.tmp 16))⟩, ⟨(some 63), (some (61, false)), .p (.un .not (.tmp 62))⟩, ⟨(some 64), (some (61, false)), .p (.mov (.tmp 63))⟩, ⟨(some 65), (some (64, true)), .p (.ld none (.tmp 7))⟩, ⟨(some 66), (some (64, true)), .p (.mov (.tmp 14))⟩, ⟨(some 67), (some (64, true)), .p (.iad 1 (.tmp 65) (.tmp 66))⟩, ⟨(some 68), (some (64, true)), .p (.ld none (.tmp 67))⟩, ⟨(some 69), (some (64, true)), .p (.mov (.tmp 1))⟩, ⟨(some 70), (some (64, true)), .p (.bin .sub (.tmp 69) (.const (.int .i64 1)))⟩, ⟨(some 71), (some (64, true)), .p (.bin .eql (.tmp 68) (.tmp 70))⟩, ⟨(some 72), (some (61, false)), .p (.pick (.tmp 64) (.tmp 71) (.const (.bool false)))⟩, ⟨(some 73), none, .p (.pick (.tmp 61) (.const (.bool true)) (.tmp 72))⟩])
  (.cond (.tmp 73) (.seq (.reg [⟨(some 74), none, .p (.mov (.tmp 12))⟩, ⟨(some 11), none, .p (.mov (.tmp 74))⟩])
  .ret) .skip)))))))
  (.reg [⟨(some 75), none, .p (.bin .add (.tmp 20) (.const (.int .i64 1)))⟩, ⟨(some 20), none, .p (.mov (.tmp 75))⟩]))))
def cf38 : LC :=
  (.seq (.reg [⟨(some 11), none, .p (.mov (.const (.int .i64 0)))⟩])
  (.seq (.seq (.reg [⟨(some 17), none, .p (.fad 1 (.tmp 3))⟩, ⟨(some 18), none, .p (.ld none (.tmp 17))⟩, ⟨(some 19), none, .p (.len 1 (.tmp 18))⟩, ⟨(some 20), none, .p (.mov (.const (.int .i64 0)))⟩])
  (.block 0
  (.loop lb38_0)))
  (.seq (.reg [⟨(some 11), none, .p (.mov (.const (.int .i64 (-1))))⟩])
  .ret)))
def rf38 : List RX := [.tmp 11]
set_option maxRecDepth 100000 in
theorem comp38 : cFn Tryd.prog Tryd.f38 = some (erase cf38, rf38) := by kernel_rfl
def cf39 : LC :=
  (.seq (.reg [⟨(some 2), none, .e (.box (.tmp 0))⟩, ⟨(some 4), none, .p (.mov (.const (.int .i64 0)))⟩, ⟨(some 5), none, .p (.mov (.const (.bool false)))⟩])
  (.seq (.seq (.reg [⟨(some 6), none, .p (.mov (.tmp 1))⟩])
  (.block 0
  (.seq (.reg [⟨(some 8), none, .p (.fad 0 (.tmp 2))⟩, ⟨(some 9), none, .p (.ld none (.tmp 8))⟩, ⟨(some 10), none, .p (.bin .eql (.tmp 6) (.tmp 9))⟩, ⟨(some 7), none, .p (.mov (.tmp 10))⟩])
  (.cond (.tmp 7) (.seq (.reg [⟨(some 11), none, .p (.fad 2 (.tmp 2))⟩, ⟨(some 12), none, .p (.ld none (.tmp 11))⟩, ⟨(some 4), none, .p (.mov (.tmp 12))⟩, ⟨(some 5), none, .p (.mov (.const (.bool true)))⟩])
  .ret) (.seq (.reg [⟨(some 14), none, .p (.fad 2 (.tmp 2))⟩, ⟨(some 15), none, .p (.ld none (.tmp 14))⟩, ⟨(some 16), none, .p (.bin .eql (.tmp 6) (.tmp 15))⟩, ⟨(some 13), none, .p (.mov (.tmp 16))⟩])
  (.cond (.tmp 13) (.seq (.reg [⟨(some 17), none, .p (.fad 0 (.tmp 2))⟩, ⟨(some 18), none, .p (.ld none (.tmp 17))⟩, ⟨(some 4), none, .p (.mov (.tmp 18))⟩, ⟨(some 5), none, .p (.mov (.const (.bool true)))⟩])
  .ret) .skip))))))
  (.seq (.reg [⟨(some 4), none, .p (.mov (.const (.int .i64 0)))⟩, ⟨(some 5), none, .p (.mov (.const (.bool false)))⟩])
  .ret)))
def rf39 : List RX := [.tmp 4, .tmp 5]
set_option maxRecDepth 100000 in
theorem comp39 : cFn Tryd.prog Tryd.f39 = some (erase cf39, rf39) := by kernel_rfl
def cf47 : LC :=
  (.seq (.reg [⟨(some 7), none, .p (.mov (.const (.bool false)))⟩])
  (.seq (.seq (.reg [⟨(some 10), none, .p (.mov (.tmp 0))⟩, ⟨(some 11), none, .p (.mov (.tmp 1))⟩, ⟨(some 12), none, .p (.bin .eql (.tmp 10) (.tmp 11))⟩, ⟨(some 13), none, .p (.mov (.tmp 12))⟩, ⟨(some 14), (some (13, false)), .p (.mov (.tmp 2))⟩, ⟨(some 15), (some (13, false)), .p (.bin .eql (.tmp 14) (.const (.int .i64 (-2))))⟩, ⟨(some 16), none, .p (.pick (.tmp 13) (.const (.bool true)) (.tmp 15))⟩])
  (.cond (.tmp 16) (.seq (.reg [⟨(some 17), none, .p (.mov (.tmp 0))⟩, ⟨(some 18), none, .p (.mov (.tmp 1))⟩, ⟨(some 19), none, .p (.bin .eql (.tmp 17) (.tmp 18))⟩, ⟨(some 20), none, .p (.mov (.tmp 19))⟩, ⟨(some 21), (some (20, true)), .p (.mov (.tmp 2))⟩, ⟨(some 22), (some (20, true)), .p (.bin .eql (.tmp 21) (.const (.int .i64 (-2))))⟩, ⟨(some 23), none, .p (.pick (.tmp 20) (.tmp 22) (.const (.bool false)))⟩, ⟨(some 7), none, .p (.mov (.tmp 23))⟩])
  .ret) .skip))
  (.seq (.seq (.reg [⟨(some 24), none, .p (.mov (.tmp 2))⟩, ⟨(some 25), none, .p (.bin .eql (.tmp 24) (.const (.int .i64 (-1))))⟩])
  (.cond (.tmp 25) (.seq (.reg [⟨(some 7), none, .p (.mov (.const (.bool true)))⟩])
  .ret) .skip))
  (.seq (.seq (.reg [⟨(some 26), none, .p (.mov (.tmp 2))⟩, ⟨(some 27), none, .p (.bin .lss (.tmp 26) (.const (.int .i64 0)))⟩, ⟨(some 28), none, .p (.mov (.tmp 27))⟩, ⟨(some 29), (some (28, false)), .p (.mov (.tmp 2))⟩, ⟨(some 30), (some (28, false)), .p (.fad 1 (.tmp 3))⟩, ⟨(some 31), (some (28, false)), .p (.ld none (.tmp 30))⟩, ⟨(some 32), (some (28, false)), .p (.len 1 (.tmp 31))⟩, ⟨(some 33), (some (28, false)), .p (.bin .geq (.tmp 29) (.tmp 32))⟩, ⟨(some 34), none, .p (.pick (.tmp 28) (.const (.bool true)) (.tmp 33))⟩])
  (.cond (.tmp 34) (.seq (.reg [⟨(some 7), none, .p (.mov (.const (.bool false)))⟩])
  .ret) .skip))
  (.seq (.reg [⟨(some 36), none, .p (.fad 1 (.tmp 3))⟩, ⟨(some 37), none, .p (.ld none (.tmp 36))⟩, ⟨(some 38), none, .p (.mov (.tmp 2))⟩, ⟨(some 39), none, .p (.iad 6 (.tmp 37) (.tmp 38))⟩, ⟨(some 40), none, .p (.ld (some 6) (.tmp 39))⟩, ⟨(some 41), none, .p (.mov (.tmp 0))⟩, ⟨(some 42), none, .e (.call 39 [(.tmp 40), (.tmp 41)])⟩, ⟨(some 35), none, .p (.mov (.tmp 42))⟩, ⟨(some 43), none, .p (.ext (.tmp 35) 0)⟩, ⟨(some 44), none, .p (.ext (.tmp 35) 1)⟩, ⟨(some 8), none, .p (.mov (.tmp 43))⟩, ⟨(some 9), none, .p (.mov (.tmp 44))⟩])
  (.seq (.reg [⟨(some 45), none, .p (.mov (.tmp 9))⟩, ⟨(some 7), none, .p (.mov (.tmp 45))⟩])
  .ret))))))
def rf47 : List RX := [.tmp 7]
set_option maxRecDepth 100000 in
theorem comp47 : cFn Tryd.prog Tryd.f47 = some (erase cf47, rf47) := by kernel_rfl
def cf60 : LC :=
  (.seq (.reg [⟨(some 3), none, .p (.mov (.tmp 0))⟩, ⟨(some 4), none, .e (.call 62 [(.tmp 3), (.const (.string ⟨#[32]⟩))])⟩, ⟨(some 5), none, .e (.call 61 [(.tmp 1), (.tmp 4)])⟩])
  (.reg [⟨(some 6), none, .e (.call 63 [(.tmp 1), (.const (.int .u8 10))])⟩]))
def rf60 : List RX := []
set_option maxRecDepth 100000 in
theorem comp60 : cFn Tryd.prog Tryd.f60 = some (erase cf60, rf60) := by kernel_rfl
end Go.Proofs.YtcdepkflghcjpaaDoor
namespace Go.Proofs.YtcdepkflghcjpaaDoor
def lb28_0 : LC :=
  (.seq (.reg [⟨(some 40), none, .p (.bin .lss (.tmp 39) (.tmp 38))⟩])
  (.seq (.cond (.tmp 40) .skip (.exit 0))
  (.seq (.block 1
  (.seq (.reg [⟨(some 41), none, .p (.mov (.tmp 39))⟩, ⟨(some 13), none, .p (.mov (.tmp 41))⟩])
  (.seq (.reg [⟨(some 42), none, .p (.mov (.tmp 8))⟩, ⟨(some 43), none, .p (.mov (.tmp 12))⟩, ⟨(some 44), none, .p (.mov (.tmp 13))⟩, ⟨(some 45), none, .p (.bld [(.int .i64 0), (.bool false)] [(0, 1, (.tmp 44)), (1, 1, (.const (.bool false)))])⟩, ⟨(some 46), none, .e (.calv (.tmp 43) [(.tmp 45)])⟩, ⟨(some 47), none, .e (.bsl 1 1 1 [(.int .i64 0)] [(0, 1, (.tmp 46))])⟩, ⟨(some 48), none, .e (.app 1 1 8 (.tmp 42) (.tmp 47))⟩, ⟨(some 8), none, .p (.mov (.tmp 48))⟩])
  (.reg [⟨(some 49), none, .p (.mov (.tmp 9))⟩, ⟨(some 50), none, .p (.mov (.tmp 12))⟩, ⟨(some 51), none, .p (.mov (.tmp 13))⟩, ⟨(some 52), none, .p (.bld [(.int .i64 0), (.bool false)] [(0, 1, (.tmp 51)), (1, 1, (.const (.bool true)))])⟩, ⟨(some 53), none, .e (.calv (.tmp 50) [(.tmp 52)])⟩, ⟨(some 54), none, .e (.bsl 1 1 1 [(.int .i64 0)] [(0, 1, (.tmp 53))])⟩, ⟨(some 55), none, .e (.app 1 1 8 (.tmp 49) (.tmp 54))⟩, ⟨(some 9), none, .p (.mov (.tmp 55))⟩]))))
  (.reg [⟨(some 56), none, .p (.bin .add (.tmp 39) (.const (.int .i64 1)))⟩, ⟨(some 39), none, .p (.mov (.tmp 56))⟩]))))
def cf28 : LC :=
  (.seq (.reg [⟨(some 4), none, .e (.box (.tmp 0))⟩, ⟨(some 5), none, .e (.box (.tmp 1))⟩, ⟨(some 8), none, .p (.mov (.const (.slice none 0 0)))⟩, ⟨(some 9), none, .p (.mov (.const (.slice none 0 0)))⟩, ⟨(some 10), none, .p (.mov (.const (.int .i64 0)))⟩])
  (.seq (.seq (.reg [⟨(some 14), none, .p (.ld (some 2) (.tmp 4))⟩, ⟨(some 15), none, .p (.ld (some 1) (.tmp 5))⟩, ⟨(some 16), none, .e (.call 37 [(.tmp 14), (.tmp 15)])⟩, ⟨(some 17), none, .p (.un .not (.tmp 16))⟩, ⟨(some 18), none, .p (.mov (.tmp 17))⟩, ⟨(some 19), (some (18, false)), .p (.mov (.tmp 2))⟩, ⟨(some 20), (some (18, false)), .p (.len 1 (.tmp 19))⟩, ⟨(some 21), (some (18, false)), .p (.fad 1 (.tmp 4))⟩, ⟨(some 22), (some (18, false)), .p (.ld none (.tmp 21))⟩, ⟨(some 23), (some (18, false)), .p (.len 1 (.tmp 22))⟩, ⟨(some 24), (some (18, false)), .p (.bin .neq (.tmp 20) (.tmp 23))⟩, ⟨(some 25), none, .p (.pick (.tmp 18) (.const (.bool true)) (.tmp 24))⟩])
  (.cond (.tmp 25) (.seq (.reg [⟨(some 8), none, .p (.mov (.const (.slice none 0 0)))⟩, ⟨(some 9), none, .p (.mov (.const (.slice none 0 0)))⟩, ⟨(some 10), none, .p (.mov (.const (.int .i64 1)))⟩])
  .ret) .skip))
  (.seq (.seq (.reg [⟨(some 26), none, .p (.ld (some 2) (.tmp 4))⟩, ⟨(some 27), none, .p (.mov (.tmp 3))⟩, ⟨(some 28), none, .e (.call 53 [(.tmp 26), (.tmp 27)])⟩, ⟨(some 29), none, .p (.un .not (.tmp 28))⟩])
  (.cond (.tmp 29) (.seq (.reg [⟨(some 8), none, .p (.mov (.const (.slice none 0 0)))⟩, ⟨(some 9), none, .p (.mov (.const (.slice none 0 0)))⟩, ⟨(some 10), none, .p (.mov (.const (.int .i64 2)))⟩])
  .ret) .skip))
  (.seq (.reg [⟨(some 30), none, .p (.ld (some 2) (.tmp 4))⟩, ⟨(some 31), none, .p (.ld (some 1) (.tmp 5))⟩, ⟨(some 32), none, .p (.mov (.tmp 2))⟩, ⟨(some 33), none, .p (.mov (.tmp 3))⟩, ⟨(some 34), none, .e (.call 54 [(.tmp 30), (.tmp 31), (.tmp 32), (.tmp 33)])⟩, ⟨(some 11), none, .e (.alc [(.map none)])⟩, ⟨none, none, .e (.st 1 (.tmp 11) (.tmp 34))⟩])
  (.seq (.reg [⟨(some 35), none, .p (.mkf 56 [(.tmp 11)])⟩, ⟨(some 12), none, .p (.mov (.tmp 35))⟩])
  (.seq (.seq (.reg [⟨(some 36), none, .p (.fad 0 (.tmp 4))⟩, ⟨(some 37), none, .p (.ld none (.tmp 36))⟩, ⟨(some 38), none, .p (.len 1 (.tmp 37))⟩, ⟨(some 39), none, .p (.mov (.const (.int .i64 0)))⟩])
  (.block 0
  (.loop lb28_0)))
  (.seq (.reg [⟨(some 57), none, .p (.mov (.tmp 8))⟩, ⟨(some 58), none, .p (.mov (.tmp 9))⟩, ⟨(some 8), none, .p (.mov (.tmp 57))⟩, ⟨(some 9), none, .p (.mov (.tmp 58))⟩, ⟨(some 10), none, .p (.mov (.const (.int .i64 0)))⟩])
  .ret)))))))
def rf28 : List RX := [.tmp 8, .tmp 9, .tmp 10]
set_option maxRecDepth 100000 in
theorem comp28 : cFn Tryd.prog Tryd.f28 = some (erase cf28, rf28) := by kernel_rfl
def cf53 : LC :=
  (.seq (.reg [⟨(some 2), none, .e (.box (.tmp 0))⟩, ⟨(some 4), none, .p (.mov (.const (.bool false)))⟩])
  (.seq (.reg [⟨(some 5), none, .p (.mov (.tmp 1))⟩, ⟨(some 6), none, .p (.bin .geq (.tmp 5) (.const (.int .i64 0)))⟩, ⟨(some 7), none, .p (.mov (.tmp 6))⟩, ⟨(some 8), (some (7, true)), .p (.mov (.tmp 1))⟩, ⟨(some 9), (some (7, true)), .p (.fad 0 (.tmp 2))⟩, ⟨(some 10), (some (7, true)), .p (.ld none (.tmp 9))⟩, ⟨(some 11), (some (7, true)), .p (.len 1 (.tmp 10))⟩, ⟨(some 12), (some (7, true)), .p (.bin .lss (.tmp 8) (.tmp 11))⟩, ⟨(some 13), none, .p (.pick (.tmp 7) (.tmp 12) (.const (.bool false)))⟩, ⟨(some 4), none, .p (.mov (.tmp 13))⟩])
  .ret))
def rf53 : List RX := [.tmp 4]
set_option maxRecDepth 100000 in
theorem comp53 : cFn Tryd.prog Tryd.f53 = some (erase cf53, rf53) := by kernel_rfl
def lb54_0 : LC :=
  (.seq (.seq (.reg [⟨(some 28), none, .p (.mov (.tmp 11))⟩, ⟨(some 29), none, .e (.calv (.tmp 28) [])⟩])
  (.cond (.tmp 29) .skip (.exit 0)))
  (.block 1
  .skip))
def cf54 : LC :=
  (.seq (.reg [⟨(some 4), none, .e (.box (.tmp 0))⟩, ⟨(some 5), none, .e (.box (.tmp 1))⟩, ⟨(some 6), none, .e (.box (.tmp 2))⟩, ⟨(some 8), none, .p (.mov (.const (.map none)))⟩])
  (.seq (.reg [⟨(some 12), none, .e (.mkm)⟩, ⟨(some 9), none, .e (.alc [(.map none)])⟩, ⟨none, none, .e (.st 1 (.tmp 9) (.tmp 12))⟩])
  (.seq (.seq (.reg [⟨(some 13), none, .p (.fad 0 (.tmp 5))⟩, ⟨(some 14), none, .p (.ld none (.tmp 13))⟩, ⟨(some 15), none, .p (.mov (.tmp 3))⟩, ⟨(some 16), none, .p (.iad 1 (.tmp 14) (.tmp 15))⟩, ⟨(some 17), none, .p (.ld none (.tmp 16))⟩, ⟨(some 18), none, .p (.bin .lss (.tmp 17) (.const (.int .i64 0)))⟩])
  (.cond (.tmp 18) (.seq (.reg [⟨(some 19), none, .p (.ld none (.tmp 9))⟩, ⟨(some 8), none, .p (.mov (.tmp 19))⟩])
  .ret) .skip))
  (.seq (.reg [⟨(some 20), none, .p (.ld none (.tmp 9))⟩, ⟨(some 21), none, .p (.mov (.tmp 3))⟩, ⟨(some 22), none, .p (.bld [(.int .i64 0), (.bool false)] [(0, 1, (.tmp 21))])⟩, ⟨none, none, .e (.mup 102 (.tmp 20) (.tmp 22) (.const (.int .i64 0)))⟩])
  (.seq (.reg [⟨(some 23), none, .p (.ld none (.tmp 9))⟩, ⟨(some 24), none, .p (.mov (.tmp 3))⟩, ⟨(some 25), none, .p (.bld [(.int .i64 0), (.bool false)] [(0, 1, (.tmp 24)), (1, 1, (.const (.bool true)))])⟩, ⟨none, none, .e (.mup 102 (.tmp 23) (.tmp 25) (.const (.int .i64 0)))⟩])
  (.seq (.reg [⟨(some 26), none, .p (.mkf 81 [(.tmp 5), (.tmp 9)])⟩, ⟨(some 10), none, .e (.alc [.nilFunc])⟩, ⟨none, none, .e (.st 1 (.tmp 10) (.tmp 26))⟩])
  (.seq (.reg [⟨(some 27), none, .p (.mkf 82 [(.tmp 4), (.tmp 6), (.tmp 5), (.tmp 10)])⟩, ⟨(some 11), none, .p (.mov (.tmp 27))⟩])
  (.seq (.block 0
  (.loop lb54_0))
  (.seq (.reg [⟨(some 30), none, .p (.ld none (.tmp 9))⟩, ⟨(some 8), none, .p (.mov (.tmp 30))⟩])
  .ret)))))))))
def rf54 : List RX := [.tmp 8]
set_option maxRecDepth 100000 in
theorem comp54 : cFn Tryd.prog Tryd.f54 = some (erase cf54, rf54) := by kernel_rfl
def cf56 : LC :=
  (.seq (.reg [⟨(some 2), none, .e (.box (.tmp 0))⟩, ⟨(some 3), none, .p (.mov (.const (.int .i64 0)))⟩])
  (.seq (.seq (.reg [⟨(some 7), none, .p (.ld none (.tmp 1))⟩, ⟨(some 8), none, .p (.ld (some 2) (.tmp 2))⟩, ⟨(some 9), none, .p (.lkp 102 (.int .i64 0) true (.tmp 7) (.tmp 8))⟩, ⟨(some 6), none, .p (.mov (.tmp 9))⟩, ⟨(some 10), none, .p (.ext (.tmp 6) 0)⟩, ⟨(some 11), none, .p (.ext (.tmp 6) 1)⟩, ⟨(some 4), none, .p (.mov (.tmp 10))⟩, ⟨(some 5), none, .p (.mov (.tmp 11))⟩])
  (.seq (.reg [⟨(some 12), none, .p (.mov (.tmp 5))⟩])
  (.cond (.tmp 12) (.seq (.reg [⟨(some 13), none, .p (.mov (.tmp 4))⟩, ⟨(some 3), none, .p (.mov (.tmp 13))⟩])
  .ret) .skip)))
  (.seq (.reg [⟨(some 3), none, .p (.mov (.const (.int .i64 (-1))))⟩])
  .ret)))
def rf56 : List RX := [.tmp 3]
set_option maxRecDepth 100000 in
theorem comp56 : cFn Tryd.prog Tryd.f56 = some (erase cf56, rf56) := by kernel_rfl
def cf58 : LC :=
  (.seq (.reg [⟨(some 3), none, .e (.box (.tmp 0))⟩, ⟨(some 4), none, .e (.box (.tmp 1))⟩, ⟨(some 6), none, .e (.alc [(.int .i64 0), (.bool false)])⟩, ⟨(some 7), none, .p (.mov (.const (.bool false)))⟩])
  (.seq (.reg [⟨(some 9), none, .p (.ld (some 1) (.tmp 3))⟩, ⟨(some 10), none, .p (.mov (.tmp 2))⟩, ⟨(some 11), none, .p (.fad 0 (.tmp 4))⟩, ⟨(some 12), none, .p (.ld none (.tmp 11))⟩, ⟨(some 13), none, .e (.call 40 [(.tmp 9), (.tmp 10), (.tmp 12)])⟩, ⟨(some 8), none, .p (.mov (.tmp 13))⟩])
  (.seq (.dreg [⟨(some 14), none, .p (.mov (.tmp 2))⟩, ⟨(some 15), none, .p (.mov (.tmp 8))⟩, ⟨(some 16), none, .p (.un .not (.tmp 15))⟩, ⟨(some 17), none, .p (.bld [(.int .i64 0), (.bool false)] [(0, 1, (.tmp 14)), (1, 1, (.tmp 16))])⟩, ⟨(some 18), none, .p (.mov (.tmp 8))⟩, ⟨(some 19), none, .p (.un .not (.tmp 18))⟩, ⟨(some 20), none, .p (.mov (.tmp 19))⟩, ⟨(some 21), (some (20, false)), .p (.fad 1 (.tmp 4))⟩] [[⟨(some 22), (some (20, false)), .p (.ld none (.tmp 21))⟩, ⟨(some 23), (some (20, false)), .p (.un .not (.tmp 22))⟩, ⟨(some 24), none, .p (.pick (.tmp 20) (.const (.bool true)) (.tmp 23))⟩, ⟨none, none, .e (.st 2 (.tmp 6) (.tmp 17))⟩, ⟨(some 7), none, .p (.mov (.tmp 24))⟩], [⟨(some 22), (some (20, false)), .p (.ld none (.tmp 21))⟩, ⟨(some 23), (some (20, false)), .p (.un .not (.tmp 22))⟩, ⟨none, none, .e (.st 2 (.tmp 6) (.tmp 17))⟩, ⟨(some 24), none, .p (.pick (.tmp 20) (.const (.bool true)) (.tmp 23))⟩, ⟨(some 7), none, .p (.mov (.tmp 24))⟩], [⟨(some 22), (some (20, false)), .p (.ld none (.tmp 21))⟩, ⟨none, none, .e (.st 2 (.tmp 6) (.tmp 17))⟩, ⟨(some 23), (some (20, false)), .p (.un .not (.tmp 22))⟩, ⟨(some 24), none, .p (.pick (.tmp 20) (.const (.bool true)) (.tmp 23))⟩, ⟨(some 7), none, .p (.mov (.tmp 24))⟩], [⟨none, none, .e (.st 2 (.tmp 6) (.tmp 17))⟩, ⟨(some 22), (some (20, false)), .p (.ld none (.tmp 21))⟩, ⟨(some 23), (some (20, false)), .p (.un .not (.tmp 22))⟩, ⟨(some 24), none, .p (.pick (.tmp 20) (.const (.bool true)) (.tmp 23))⟩, ⟨(some 7), none, .p (.mov (.tmp 24))⟩]])
  .ret)))
def rf58 : List RX := [.cell 6 (some 2), .tmp 7]
set_option maxRecDepth 100000 in
theorem comp58 : cFn Tryd.prog Tryd.f58 = some (erase cf58, rf58) := by kernel_rfl
def cf81 : LC :=
  (.seq (.reg [⟨(some 4), none, .e (.box (.tmp 0))⟩, ⟨(some 6), none, .p (.mov (.const (.bool false)))⟩])
  (.seq (.reg [⟨(some 14), none, .p (.ld (some 1) (.tmp 2))⟩, ⟨(some 15), none, .p (.ld (some 2) (.tmp 4))⟩, ⟨(some 16), none, .p (.mov (.tmp 1))⟩, ⟨(some 17), none, .e (.call 58 [(.tmp 14), (.tmp 15), (.tmp 16)])⟩, ⟨(some 13), none, .p (.mov (.tmp 17))⟩, ⟨(some 18), none, .p (.ext (.tmp 13) 0)⟩, ⟨(some 19), none, .p (.ext (.tmp 13) 1)⟩, ⟨(some 7), none, .e (.alc [(.int .i64 0), (.bool false)])⟩, ⟨none, none, .e (.st 2 (.tmp 7) (.tmp 18))⟩, ⟨(some 8), none, .p (.mov (.tmp 19))⟩])
  (.seq (.reg [⟨(some 21), none, .p (.ld none (.tmp 3))⟩, ⟨(some 22), none, .p (.ld (some 2) (.tmp 7))⟩, ⟨(some 23), none, .p (.lkp 102 (.int .i64 0) true (.tmp 21) (.tmp 22))⟩, ⟨(some 20), none, .p (.mov (.tmp 23))⟩, ⟨(some 24), none, .p (.ext (.tmp 20) 0)⟩, ⟨(some 25), none, .p (.ext (.tmp 20) 1)⟩, ⟨(some 9), none, .p (.mov (.tmp 24))⟩, ⟨(some 10), none, .p (.mov (.tmp 25))⟩])
  (.seq (.reg [⟨(some 27), none, .p (.ld none (.tmp 3))⟩, ⟨(some 28), none, .p (.ld (some 2) (.tmp 4))⟩, ⟨(some 29), none, .p (.lkp 102 (.int .i64 0) true (.tmp 27) (.tmp 28))⟩, ⟨(some 26), none, .p (.mov (.tmp 29))⟩, ⟨(some 30), none, .p (.ext (.tmp 26) 0)⟩, ⟨(some 31), none, .p (.ext (.tmp 26) 1)⟩, ⟨(some 11), none, .p (.mov (.tmp 30))⟩, ⟨(some 12), none, .p (.mov (.tmp 31))⟩])
  (.seq (.seq (.reg [⟨(some 32), none, .p (.mov (.tmp 8))⟩, ⟨(some 33), none, .p (.un .not (.tmp 32))⟩, ⟨(some 34), none, .p (.mov (.tmp 33))⟩, ⟨(some 35), (some (34, false)), .p (.mov (.tmp 10))⟩, ⟨(some 36), (some (34, false)), .p (.un .not (.tmp 35))⟩, ⟨(some 37), none, .p (.pick (.tmp 34) (.const (.bool true)) (.tmp 36))⟩, ⟨(some 38), none, .p (.mov (.tmp 37))⟩, ⟨(some 39), (some (38, false)), .p (.mov (.tmp 12))⟩, ⟨(some 40), (some (38, false)), .p (.mov (.tmp 39))⟩, ⟨(some 41), (some (40, true)), .p (.mov (.tmp 11))⟩, ⟨(some 42), (some (40, true)), .p (.mov (.tmp 9))⟩, ⟨(some 43), (some (40, true)), .p (.bin .add (.tmp 42) (.const (.int .i64 1)))⟩, ⟨(some 44), (some (40, true)), .p (.bin .leq (.tmp 41) (.tmp 43))⟩, ⟨(some 45), (some (38, false)), .p (.pick (.tmp 40) (.tmp 44) (.const (.bool false)))⟩, ⟨(some 46), none, .p (.pick (.tmp 38) (.const (.bool true)) (.tmp 45))⟩])
  (.cond (.tmp 46) (.seq (.reg [⟨(some 6), none, .p (.mov (.const (.bool false)))⟩])
  .ret) .skip))
  (.seq (.reg [⟨(some 47), none, .p (.ld none (.tmp 3))⟩, ⟨(some 48), none, .p (.ld (some 2) (.tmp 4))⟩, ⟨(some 49), none, .p (.mov (.tmp 9))⟩, ⟨(some 50), none, .p (.bin .add (.tmp 49) (.const (.int .i64 1)))⟩, ⟨none, none, .e (.mup 102 (.tmp 47) (.tmp 48) (.tmp 50))⟩])
  (.seq (.reg [⟨(some 6), none, .p (.mov (.const (.bool true)))⟩])
  .ret)))))))
def rf81 : List RX := [.tmp 6]
set_option maxRecDepth 100000 in
theorem comp81 : cFn Tryd.prog Tryd.f81 = some (erase cf81, rf81) := by kernel_rfl
def lb82_0 : LC :=
  (.seq (.reg [⟨(some 43), none, .p (.bin .lss (.tmp 42) (.const (.int .i64 2)))⟩])
  (.seq (.cond (.tmp 43) .skip (.exit 2))
  (.seq (.block 3
  (.seq (.reg [⟨(some 44), none, .p (.idxa 2 1 none (.tmp 41) (.tmp 42))⟩, ⟨(some 9), none, .p (.mov (.tmp 44))⟩])
  (.seq (.reg [⟨(some 45), none, .p (.ld none (.tmp 3))⟩, ⟨(some 46), none, .p (.fad 0 (.tmp 7))⟩, ⟨(some 47), none, .p (.ld none (.tmp 46))⟩, ⟨(some 48), none, .p (.mov (.tmp 9))⟩, ⟨(some 49), none, .p (.bld [(.int .i64 0), (.bool false)] [(0, 1, (.tmp 47)), (1, 1, (.tmp 48))])⟩, ⟨(some 50), none, .p (.fad 2 (.tmp 7))⟩, ⟨(some 51), none, .p (.ld none (.tmp 50))⟩, ⟨(some 52), none, .e (.calv (.tmp 45) [(.tmp 49), (.tmp 51)])⟩, ⟨(some 53), none, .p (.mov (.tmp 52))⟩, ⟨(some 54), (some (53, false)), .p (.mov (.tmp 5))⟩, ⟨(some 55), none, .p (.pick (.tmp 53) (.const (.bool true)) (.tmp 54))⟩, ⟨(some 5), none, .p (.mov (.tmp 55))⟩])
  (.reg [⟨(some 56), none, .p (.ld none (.tmp 3))⟩, ⟨(some 57), none, .p (.fad 2 (.tmp 7))⟩, ⟨(some 58), none, .p (.ld none (.tmp 57))⟩, ⟨(some 59), none, .p (.mov (.tmp 9))⟩, ⟨(some 60), none, .p (.bld [(.int .i64 0), (.bool false)] [(0, 1, (.tmp 58)), (1, 1, (.tmp 59))])⟩, ⟨(some 61), none, .p (.fad 0 (.tmp 7))⟩, ⟨(some 62), none, .p (.ld none (.tmp 61))⟩, ⟨(some 63), none, .e (.calv (.tmp 56) [(.tmp 60), (.tmp 62)])⟩, ⟨(some 64), none, .p (.mov (.tmp 63))⟩, ⟨(some 65), (some (64, false)), .p (.mov (.tmp 5))⟩, ⟨(some 66), none, .p (.pick (.tmp 64) (.const (.bool true)) (.tmp 65))⟩, ⟨(some 5), none, .p (.mov (.tmp 66))⟩]))))
  (.reg [⟨(some 67), none, .p (.bin .add (.tmp 42) (.const (.int .i64 1)))⟩, ⟨(some 42), none, .p (.mov (.tmp 67))⟩]))))
def lb82_1 : LC :=
  (.seq (.reg [⟨(some 14), none, .p (.bin .lss (.tmp 13) (.tmp 12))⟩])
  (.seq (.cond (.tmp 14) .skip (.exit 0))
  (.seq (.block 1
  (.seq (.reg [⟨(some 15), none, .p (.mov (.tmp 13))⟩, ⟨(some 16), none, .p (.iad 6 (.tmp 11) (.tmp 13))⟩, ⟨(some 17), none, .p (.ld (some 6) (.tmp 16))⟩, ⟨(some 7), none, .e (.alc [(.int .i64 0), (.int .i64 0), (.int .i64 0), (.int .i64 0), (.int .i64 0), (.int .i64 0)])⟩, ⟨(some 6), none, .p (.mov (.tmp 15))⟩, ⟨none, none, .e (.st 6 (.tmp 7) (.tmp 17))⟩])
  (.seq (.seq (.reg [⟨(some 18), none, .p (.ld none (.tmp 1))⟩, ⟨(some 19), none, .p (.mov (.tmp 6))⟩, ⟨(some 20), none, .p (.iad 1 (.tmp 18) (.tmp 19))⟩, ⟨(some 21), none, .p (.ld none (.tmp 20))⟩, ⟨(some 22), none, .p (.un .not (.tmp 21))⟩, ⟨(some 23), none, .p (.mov (.tmp 22))⟩, ⟨(some 24), (some (23, false)), .p (.fad 0 (.tmp 2))⟩, ⟨(some 25), (some (23, false)), .p (.ld none (.tmp 24))⟩, ⟨(some 26), (some (23, false)), .p (.fad 0 (.tmp 7))⟩, ⟨(some 27), (some (23, false)), .p (.ld none (.tmp 26))⟩, ⟨(some 28), (some (23, false)), .p (.iad 1 (.tmp 25) (.tmp 27))⟩, ⟨(some 29), (some (23, false)), .p (.ld none (.tmp 28))⟩, ⟨(some 30), (some (23, false)), .p (.bin .lss (.tmp 29) (.const (.int .i64 0)))⟩, ⟨(some 31), none, .p (.pick (.tmp 23) (.const (.bool true)) (.tmp 30))⟩, ⟨(some 32), none, .p (.mov (.tmp 31))⟩, ⟨(some 33), (some (32, false)), .p (.fad 0 (.tmp 2))⟩, ⟨(some 34), (some (32, false)), .p (.ld none (.tmp 33))⟩, ⟨(some 35), (some (32, false)), .p (.fad 2 (.tmp 7))⟩, ⟨(some 36), (some (32, false)), .p (.ld none (.tmp 35))⟩, ⟨(some 37), (some (32, false)), .p (.iad 1 (.tmp 34) (.tmp 36))⟩, ⟨(some 38), (some (32, false)), .p (.ld none (.tmp 37))⟩, ⟨(some 39), (some (32, false)), .p (.bin .lss (.tmp 38) (.const (.int .i64 0)))⟩, ⟨(some 40), none, .p (.pick (.tmp 32) (.const (.bool true)) (.tmp 39))⟩])
  (.cond (.tmp 40) (.exit 1) .skip))
  (.seq (.reg [⟨(some 41), none, .p (.bld [(.bool false), (.bool false)] [(0, 1, (.const (.bool false))), (1, 1, (.const (.bool true)))])⟩, ⟨(some 42), none, .p (.mov (.const (.int .i64 0)))⟩])
  (.block 2
  (.loop lb82_0))))))
  (.reg [⟨(some 68), none, .p (.bin .add (.tmp 13) (.const (.int .i64 1)))⟩, ⟨(some 13), none, .p (.mov (.tmp 68))⟩]))))
def cf82 : LC :=
  (.seq (.reg [⟨(some 4), none, .p (.mov (.const (.bool false)))⟩])
  (.seq (.reg [⟨(some 5), none, .p (.mov (.const (.bool false)))⟩])
  (.seq (.seq (.reg [⟨(some 10), none, .p (.fad 1 (.tmp 0))⟩, ⟨(some 11), none, .p (.ld none (.tmp 10))⟩, ⟨(some 12), none, .p (.len 1 (.tmp 11))⟩, ⟨(some 13), none, .p (.mov (.const (.int .i64 0)))⟩])
  (.block 0
  (.loop lb82_1)))
  (.seq (.reg [⟨(some 69), none, .p (.mov (.tmp 5))⟩, ⟨(some 4), none, .p (.mov (.tmp 69))⟩])
  .ret))))
def rf82 : List RX := [.tmp 4]
set_option maxRecDepth 100000 in
theorem comp82 : cFn Tryd.prog Tryd.f82 = some (erase cf82, rf82) := by kernel_rfl
end Go.Proofs.YtcdepkflghcjpaaDoor
namespace Go.Proofs.YtcdepkflghcjpaaDoor
end Go.Proofs.YtcdepkflghcjpaaDoor
namespace Go.Proofs.YtcdepkflghcjpaaDoor
end Go.Proofs.YtcdepkflghcjpaaDoor
namespace Go.Proofs.YtcdepkflghcjpaaDoor
end Go.Proofs.YtcdepkflghcjpaaDoor
namespace Go.Proofs.YtcdepkflghcjpaaDoor
end Go.Proofs.YtcdepkflghcjpaaDoor
namespace Go.Proofs.YtcdepkflghcjpaaDoor
end Go.Proofs.YtcdepkflghcjpaaDoor
namespace Go.Proofs.YtcdepkflghcjpaaDoor
end Go.Proofs.YtcdepkflghcjpaaDoor
namespace Go.Proofs.YtcdepkflghcjpaaDoor
def cf61 : LC :=
  (.seq (.reg [⟨(some 4), none, .p (.mov (.const (.int .i64 0)))⟩, ⟨(some 5), none, .p (.mov (.const .nilIface))⟩])
  (.seq (.reg [⟨(some 6), none, .p (.mov (.tmp 0))⟩, ⟨(some 7), none, .e (.call 87 [(.tmp 6)])⟩])
  (.seq (.reg [⟨(some 8), none, .p (.mov (.tmp 0))⟩, ⟨(some 9), none, .p (.mov (.tmp 0))⟩, ⟨(some 10), none, .p (.nilc (.tmp 9))⟩, ⟨(some 11), none, .p (.fad 1 (.tmp 10))⟩, ⟨(some 12), none, .p (.ld none (.tmp 11))⟩, ⟨(some 13), none, .p (.mov (.tmp 1))⟩, ⟨(some 14), none, .e (.aps 5 1 (.tmp 12) (.tmp 13))⟩, ⟨(some 15), none, .p (.nilc (.tmp 8))⟩, ⟨(some 16), none, .p (.fad 1 (.tmp 15))⟩, ⟨none, none, .e (.st 1 (.tmp 16) (.tmp 14))⟩])
  (.seq (.reg [⟨(some 17), none, .p (.mov (.tmp 1))⟩, ⟨(some 18), none, .p (.len 0 (.tmp 17))⟩, ⟨(some 4), none, .p (.mov (.tmp 18))⟩, ⟨(some 5), none, .p (.mov (.const .nilIface))⟩])
  .ret))))
def rf61 : List RX := [.tmp 4, .tmp 5]
set_option maxRecDepth 100000 in
theorem comp61 : cFn Tryd.prog Tryd.f61 = some (erase cf61, rf61) := by kernel_rfl
def cf63 : LC :=
  (.seq (.reg [⟨(some 4), none, .p (.mov (.const .nilIface))⟩])
  (.seq (.reg [⟨(some 5), none, .p (.mov (.tmp 0))⟩, ⟨(some 6), none, .e (.call 87 [(.tmp 5)])⟩])
  (.seq (.reg [⟨(some 7), none, .p (.mov (.tmp 0))⟩, ⟨(some 8), none, .p (.mov (.tmp 0))⟩, ⟨(some 9), none, .p (.nilc (.tmp 8))⟩, ⟨(some 10), none, .p (.fad 1 (.tmp 9))⟩, ⟨(some 11), none, .p (.ld none (.tmp 10))⟩, ⟨(some 12), none, .p (.mov (.tmp 1))⟩, ⟨(some 13), none, .e (.bsr 1 1 [(.int .u8 0)] [(0, 1, (.tmp 12))])⟩, ⟨(some 14), none, .e (.aps 5 1 (.tmp 11) (.tmp 13))⟩, ⟨(some 15), none, .p (.nilc (.tmp 7))⟩, ⟨(some 16), none, .p (.fad 1 (.tmp 15))⟩, ⟨none, none, .e (.st 1 (.tmp 16) (.tmp 14))⟩])
  (.seq (.reg [⟨(some 4), none, .p (.mov (.const .nilIface))⟩])
  .ret))))
def rf63 : List RX := [.tmp 4]
set_option maxRecDepth 100000 in
theorem comp63 : cFn Tryd.prog Tryd.f63 = some (erase cf63, rf63) := by kernel_rfl
end Go.Proofs.YtcdepkflghcjpaaDoor
namespace Go.Proofs.YtcdepkflghcjpaaDoor
end Go.Proofs.YtcdepkflghcjpaaDoor

