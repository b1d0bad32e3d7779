/- The functions of a package in the lifted layer's own small language; The functions of a package in the lifted layer's own small language; The functions of a package in the lifted layer's own small language; The functions of a package in the lifted layer's own small language; The functions of a package in the lifted layer's own small language; The functions of a package in the lifted layer's own small language; The functions of a package in the lifted layer's own small language; The functions of a package in the lifted layer's own small language; The functions of a package in the lifted layer's own small language; The functions of a package in the lifted layer's own small language; The functions of a package in the lifted layer's own small language; The functions of a package in the lifted layer's own small language; The functions of a package in the lifted layer's own small language; The functions of a package in the lifted layer's own small language; The functions of a package in the lifted layer's own small language; The functions of a package in the lifted layer's own small language; The functions of a package in the lifted layer's own small language; The functions of a package in the lifted layer's own small language; The functions of a package in the lifted layer's own small language; The functions of a package in the lifted layer's own small language; All functions of the seat. Conditions: none. -/
import Derived.Test.YtcdepkflghcjpaaDoorMC
import Derived.KernelRfl
namespace Go.Proofs.YtcdepkflghcjpaaDoor
def lb73_0 : LC :=
  (.seq (.reg [⟨(some 9), none, .p (.bin .lss (.tmp 8) (.tmp 7))⟩])
  (.seq (.cond (.tmp 9) .skip (.exit 0))
  (.seq (.block 1
  (.seq (.reg [⟨(some 10), none, .p (.iad 1 (.tmp 6) (.tmp 8))⟩, ⟨(some 11), none, .p (.ld none (.tmp 10))⟩, ⟨(some 5), none, .p (.mov (.tmp 11))⟩])
  (.seq (.reg [⟨(some 12), none, .p (.mov (.tmp 5))⟩, ⟨(some 13), none, .p (.mov (.tmp 3))⟩, ⟨(some 14), none, .p (.bin .neq (.tmp 12) (.tmp 13))⟩])
  (.cond (.tmp 14) (.seq (.reg [⟨(some 15), none, .p (.mov (.tmp 5))⟩, ⟨(some 2), none, .p (.mov (.tmp 15))⟩])
  .ret) .skip))))
  (.reg [⟨(some 16), none, .p (.bin .add (.tmp 8) (.const (.int .i64 1)))⟩, ⟨(some 8), none, .p (.mov (.tmp 16))⟩]))))
def cf73 : LC :=
  (.seq (.reg [⟨(some 2), none, .p (.mov (.const (.int .i64 0)))⟩])
  (.seq (.reg [⟨(some 3), none, .p (.mov (.const (.int .i64 0)))⟩])
  (.seq (.seq (.reg [⟨(some 6), none, .p (.mov (.tmp 0))⟩, ⟨(some 7), none, .p (.len 1 (.tmp 6))⟩, ⟨(some 8), none, .p (.mov (.const (.int .i64 0)))⟩])
  (.block 0
  (.loop lb73_0)))
  (.seq (.reg [⟨(some 17), none, .p (.mov (.tmp 3))⟩, ⟨(some 2), none, .p (.mov (.tmp 17))⟩])
  .ret))))
def rf73 : List RX := [.tmp 2]
set_option maxRecDepth 100000 in
theorem comp73 : cFn Tryd.prog Tryd.f73 = some (erase cf73, rf73) := by kernel_rfl
def cf74 : LC :=
  (.seq (.reg [⟨(some 4), none, .p (.mov (.const (.int .i64 0)))⟩])
  (.seq (.reg [⟨(some 7), none, .p (.mov (.tmp 0))⟩, ⟨(some 8), none, .e (.call 95 [(.tmp 7)])⟩, ⟨(some 5), none, .p (.mov (.tmp 8))⟩])
  (.seq (.reg [⟨(some 9), none, .p (.mov (.tmp 1))⟩, ⟨(some 10), none, .e (.call 95 [(.tmp 9)])⟩, ⟨(some 6), none, .p (.mov (.tmp 10))⟩])
  (.seq (.seq (.reg [⟨(some 11), none, .p (.mov (.tmp 5))⟩])
  (.cond (.tmp 11) (.seq (.seq (.reg [⟨(some 12), none, .p (.mov (.tmp 6))⟩])
  (.cond (.tmp 12) (.seq (.reg [⟨(some 4), none, .p (.mov (.const (.int .i64 0)))⟩])
  .ret) .skip))
  (.seq (.reg [⟨(some 4), none, .p (.mov (.const (.int .i64 (-1))))⟩])
  .ret)) .skip))
  (.seq (.seq (.reg [⟨(some 13), none, .p (.mov (.tmp 6))⟩])
  (.cond (.tmp 13) (.seq (.reg [⟨(some 4), none, .p (.mov (.const (.int .i64 1)))⟩])
  .ret) .skip))
  (.seq (.seq (.reg [⟨(some 14), none, .p (.mov (.tmp 0))⟩, ⟨(some 15), none, .p (.mov (.tmp 1))⟩, ⟨(some 16), none, .p (.bin .lss (.tmp 14) (.tmp 15))⟩])
  (.cond (.tmp 16) (.seq (.reg [⟨(some 4), none, .p (.mov (.const (.int .i64 (-1))))⟩])
  .ret) .skip))
  (.seq (.seq (.reg [⟨(some 17), none, .p (.mov (.tmp 0))⟩, ⟨(some 18), none, .p (.mov (.tmp 1))⟩, ⟨(some 19), none, .p (.bin .gtr (.tmp 17) (.tmp 18))⟩])
  (.cond (.tmp 19) (.seq (.reg [⟨(some 4), none, .p (.mov (.const (.int .i64 1)))⟩])
  .ret) .skip))
  (.seq (.reg [⟨(some 4), none, .p (.mov (.const (.int .i64 0)))⟩])
  .ret))))))))
def rf74 : List RX := [.tmp 4]
set_option maxRecDepth 100000 in
theorem comp74 : cFn Tryd.prog Tryd.f74 = some (erase cf74, rf74) := by kernel_rfl
def cf95 : LC :=
  (.seq (.reg [⟨(some 2), none, .p (.mov (.const (.bool false)))⟩])
  (.seq (.reg [⟨(some 3), none, .p (.mov (.tmp 0))⟩, ⟨(some 4), none, .p (.mov (.tmp 0))⟩, ⟨(some 5), none, .p (.bin .neq (.tmp 3) (.tmp 4))⟩, ⟨(some 2), none, .p (.mov (.tmp 5))⟩])
  .ret))
def rf95 : List RX := [.tmp 2]
set_option maxRecDepth 100000 in
theorem comp95 : cFn Tryd.prog Tryd.f95 = some (erase cf95, rf95) := by kernel_rfl
end Go.Proofs.YtcdepkflghcjpaaDoor
namespace Go.Proofs.YtcdepkflghcjpaaDoor
end Go.Proofs.YtcdepkflghcjpaaDoor
namespace Go.Proofs.YtcdepkflghcjpaaDoor
def cf10 : LC :=
  (.seq (.reg [⟨(some 2), none, .p (.mov (.const (.bool false)))⟩])
  (.seq (.seq (.reg [⟨(some 11), none, .e (.call 11 [])⟩, ⟨(some 12), none, .p (.un .not (.tmp 11))⟩])
  (.cond (.tmp 12) (.seq (.reg [⟨(some 2), none, .p (.mov (.const (.bool false)))⟩])
  .ret) .skip))
  (.seq (.seq (.reg [⟨(some 13), none, .p (.mov (.tmp 0))⟩, ⟨(some 14), none, .p (.len 0 (.tmp 13))⟩, ⟨(some 15), none, .p (.bin .gtr (.tmp 14) (.const (.int .i64 500)))⟩])
  (.cond (.tmp 15) (.seq (.reg [⟨(some 2), none, .p (.mov (.const (.bool true)))⟩])
  .ret) .skip))
  (.seq (.reg [⟨(some 17), none, .p (.mov (.tmp 0))⟩, ⟨(some 18), none, .e (.call 33 [(.tmp 17)])⟩, ⟨(some 16), none, .p (.mov (.tmp 18))⟩, ⟨(some 19), none, .p (.ext (.tmp 16) 0)⟩, ⟨(some 20), none, .p (.ext (.tmp 16) 1)⟩, ⟨(some 21), none, .p (.ext (.tmp 16) 2)⟩, ⟨(some 3), none, .e (.alc [(.slice none 0 0)])⟩, ⟨none, none, .e (.st 1 (.tmp 3) (.tmp 19))⟩, ⟨(some 4), none, .p (.mov (.tmp 20))⟩, ⟨(some 5), none, .p (.mov (.tmp 21))⟩])
  (.seq (.reg [⟨(some 23), none, .p (.mov (.tmp 0))⟩, ⟨(some 24), none, .e (.call 35 [(.tmp 23)])⟩, ⟨(some 22), none, .p (.mov (.tmp 24))⟩, ⟨(some 25), none, .p (.ext (.tmp 22) 0)⟩, ⟨(some 26), none, .p (.ext (.tmp 22) 1)⟩, ⟨(some 27), none, .p (.ext (.tmp 22) 2)⟩, ⟨(some 6), none, .p (.mov (.tmp 25))⟩, ⟨(some 7), none, .p (.mov (.tmp 26))⟩, ⟨(some 8), none, .p (.mov (.tmp 27))⟩])
  (.seq (.seq (.reg [⟨(some 28), none, .p (.mov (.tmp 4))⟩, ⟨(some 29), none, .p (.mov (.tmp 7))⟩, ⟨(some 30), none, .p (.bin .neq (.tmp 28) (.tmp 29))⟩, ⟨(some 31), none, .p (.mov (.tmp 30))⟩, ⟨(some 32), (some (31, false)), .p (.mov (.tmp 5))⟩, ⟨(some 33), (some (31, false)), .p (.mov (.tmp 8))⟩, ⟨(some 34), (some (31, false)), .p (.bin .neq (.tmp 32) (.tmp 33))⟩, ⟨(some 35), none, .p (.pick (.tmp 31) (.const (.bool true)) (.tmp 34))⟩, ⟨(some 36), none, .p (.mov (.tmp 35))⟩, ⟨(some 37), (some (36, false)), .p (.fad 0 (.tmp 3))⟩, ⟨(some 38), (some (36, false)), .p (.ld none (.tmp 37))⟩, ⟨(some 39), (some (36, false)), .p (.mov (.tmp 6))⟩, ⟨(some 40), (some (36, false)), .e (.call 15 [(.tmp 38), (.tmp 39)])⟩, ⟨(some 41), (some (36, false)), .p (.un .not (.tmp 40))⟩, ⟨(some 42), none, .p (.pick (.tmp 36) (.const (.bool true)) (.tmp 41))⟩])
  (.cond (.tmp 42) (.seq (.reg [⟨(some 2), none, .p (.mov (.const (.bool false)))⟩])
  .ret) .skip))
  (.seq (.reg [⟨(some 44), none, .p (.ld (some 1) (.tmp 3))⟩, ⟨(some 45), none, .e (.call 31 [(.tmp 44)])⟩, ⟨(some 43), none, .p (.mov (.tmp 45))⟩, ⟨(some 46), none, .p (.ext (.tmp 43) 0)⟩, ⟨(some 47), none, .p (.ext (.tmp 43) 1)⟩, ⟨(some 9), none, .p (.mov (.tmp 46))⟩, ⟨(some 10), none, .p (.mov (.tmp 47))⟩])
  (.seq (.reg [⟨(some 48), none, .p (.mov (.tmp 5))⟩, ⟨(some 49), none, .p (.bin .neq (.tmp 48) (.const (.int .i64 0)))⟩, ⟨(some 50), none, .p (.mov (.tmp 49))⟩, ⟨(some 51), (some (50, false)), .p (.mov (.tmp 10))⟩, ⟨(some 52), (some (50, false)), .p (.bin .eql (.tmp 51) (.const (.int .i64 0)))⟩, ⟨(some 53), (some (50, false)), .p (.mov (.tmp 52))⟩, ⟨(some 54), (some (53, true)), .p (.mov (.tmp 9))⟩, ⟨(some 55), (some (53, true)), .p (.mov (.tmp 0))⟩, ⟨(some 56), (some (53, true)), .p (.bin .eql (.tmp 54) (.tmp 55))⟩, ⟨(some 57), (some (50, false)), .p (.pick (.tmp 53) (.tmp 56) (.const (.bool false)))⟩, ⟨(some 58), none, .p (.pick (.tmp 50) (.const (.bool true)) (.tmp 57))⟩, ⟨(some 2), none, .p (.mov (.tmp 58))⟩])
  .ret))))))))
def rf10 : List RX := [.tmp 2]
set_option maxRecDepth 100000 in
theorem comp10 : cFn Tryd.prog Tryd.f10 = some (erase cf10, rf10) := by kernel_rfl
def cf11 : LC :=
  (.seq (.reg [⟨(some 0), none, .p (.mov (.const (.bool false)))⟩])
  (.seq (.reg [⟨(some 8), none, .e (.call 36 [])⟩, ⟨(some 7), none, .p (.mov (.tmp 8))⟩, ⟨(some 9), none, .p (.ext (.tmp 7) 0)⟩, ⟨(some 10), none, .p (.ext (.tmp 7) 1)⟩, ⟨(some 1), none, .e (.alc [(.slice none 0 0), (.slice none 0 0)])⟩, ⟨(some 2), none, .e (.alc [(.slice none 0 0)])⟩, ⟨none, none, .e (.st 2 (.tmp 1) (.tmp 9))⟩, ⟨none, none, .e (.st 1 (.tmp 2) (.tmp 10))⟩])
  (.seq (.reg [⟨(some 12), none, .p (.ld (some 2) (.tmp 1))⟩, ⟨(some 13), none, .p (.ld (some 1) (.tmp 2))⟩, ⟨(some 14), none, .e (.bsl 2 1 1 [(.bool false)] [(0, 1, (.const (.bool true)))])⟩, ⟨(some 15), none, .e (.call 13 [(.tmp 12), (.tmp 13), (.tmp 14)])⟩, ⟨(some 11), none, .p (.mov (.tmp 15))⟩, ⟨(some 16), none, .p (.ext (.tmp 11) 0)⟩, ⟨(some 17), none, .p (.ext (.tmp 11) 1)⟩, ⟨(some 3), none, .e (.alc [(.slice none 0 0)])⟩, ⟨none, none, .e (.st 1 (.tmp 3) (.tmp 16))⟩, ⟨(some 4), none, .p (.mov (.tmp 17))⟩])
  (.seq (.reg [⟨(some 19), none, .p (.ld (some 1) (.tmp 3))⟩, ⟨(some 20), none, .e (.call 31 [(.tmp 19)])⟩, ⟨(some 18), none, .p (.mov (.tmp 20))⟩, ⟨(some 21), none, .p (.ext (.tmp 18) 0)⟩, ⟨(some 22), none, .p (.ext (.tmp 18) 1)⟩, ⟨(some 5), none, .p (.mov (.tmp 21))⟩, ⟨(some 6), none, .p (.mov (.tmp 22))⟩])
  (.seq (.reg [⟨(some 23), none, .p (.mov (.tmp 4))⟩, ⟨(some 24), none, .p (.bin .eql (.tmp 23) (.const (.int .i64 0)))⟩, ⟨(some 25), none, .p (.mov (.tmp 24))⟩, ⟨(some 26), (some (25, true)), .p (.mov (.tmp 6))⟩, ⟨(some 27), (some (25, true)), .p (.bin .eql (.tmp 26) (.const (.int .i64 0)))⟩, ⟨(some 28), none, .p (.pick (.tmp 25) (.tmp 27) (.const (.bool false)))⟩, ⟨(some 29), none, .p (.mov (.tmp 28))⟩, ⟨(some 30), (some (29, true)), .p (.mov (.tmp 5))⟩, ⟨(some 31), (some (29, true)), .p (.bin .eql (.tmp 30) (.const (.string ⟨#[114, 111, 117, 116, 101, 115, 32, 50, 10, 45, 50, 32, 48, 10, 45, 50, 32, 48, 10, 48, 32, 45, 50, 10, 45, 49, 32, 45, 50, 10]⟩)))⟩, ⟨(some 32), none, .p (.pick (.tmp 29) (.tmp 31) (.const (.bool false)))⟩, ⟨(some 0), none, .p (.mov (.tmp 32))⟩])
  .ret)))))
def rf11 : List RX := [.tmp 0]
set_option maxRecDepth 100000 in
theorem comp11 : cFn Tryd.prog Tryd.f11 = some (erase cf11, rf11) := by kernel_rfl
end Go.Proofs.YtcdepkflghcjpaaDoor
namespace Go.Proofs.YtcdepkflghcjpaaDoor
def cf36 : LC :=
  (.seq (.reg [⟨(some 0), none, .e (.alc [(.slice none 0 0), (.slice none 0 0)])⟩, ⟨(some 1), none, .e (.alc [(.slice none 0 0)])⟩])
  (.seq (.reg [⟨(some 2), none, .p (.bld [(.string ⟨#[]⟩), (.bool false), (.int .i64 0)] [(0, 1, (.const (.string ⟨#[97]⟩))), (1, 1, (.const (.bool true))), (2, 1, (.const (.int .i64 1)))])⟩, ⟨(some 3), none, .p (.bld [(.string ⟨#[]⟩), (.bool false), (.int .i64 0)] [(0, 1, (.const (.string ⟨#[98]⟩))), (1, 1, (.const (.bool true))), (2, 1, (.const (.int .i64 1)))])⟩, ⟨(some 4), none, .e (.bsl 0 2 3 [(.string ⟨#[]⟩), (.bool false), (.int .i64 0)] [(0, 3, (.tmp 2)), (3, 3, (.tmp 3))])⟩, ⟨(some 5), none, .p (.bld [(.int .i64 0), (.int .i64 0), (.int .i64 0), (.int .i64 0), (.int .i64 0), (.int .i64 0)] [(2, 1, (.const (.int .i64 1))), (4, 1, (.const (.int .i64 1))), (5, 1, (.const (.int .i64 1)))])⟩, ⟨(some 6), none, .e (.bsl 0 1 6 [(.int .i64 0), (.int .i64 0), (.int .i64 0), (.int .i64 0), (.int .i64 0), (.int .i64 0)] [(0, 6, (.tmp 5))])⟩, ⟨(some 7), none, .p (.bld [(.slice none 0 0), (.slice none 0 0)] [(0, 1, (.tmp 4)), (1, 1, (.tmp 6))])⟩, ⟨(some 8), none, .e (.bsl 1 2 1 [(.int .i64 0)] [(0, 1, (.const (.int .i64 0))), (1, 1, (.const (.int .i64 1)))])⟩, ⟨(some 9), none, .p (.bld [(.slice none 0 0)] [(0, 1, (.tmp 8))])⟩, ⟨none, none, .e (.st 2 (.tmp 0) (.tmp 7))⟩, ⟨none, none, .e (.st 1 (.tmp 1) (.tmp 9))⟩])
  .ret))
def rf36 : List RX := [.cell 0 (some 2), .cell 1 (some 1)]
set_option maxRecDepth 100000 in
theorem comp36 : cFn Tryd.prog Tryd.f36 = some (erase cf36, rf36) := by kernel_rfl
end Go.Proofs.YtcdepkflghcjpaaDoor
namespace Go.Proofs.YtcdepkflghcjpaaDoor
def cf93 : LC :=
  (.seq (.reg [⟨(some 2), none, .p (.mov (.const (.string ⟨#[]⟩)))⟩])
  (.seq (.reg [⟨(some 4), none, .p (.mov (.tmp 0))⟩, ⟨(some 5), none, .p (.bin .rem (.tmp 4) (.const (.int .i64 10)))⟩, ⟨(some 6), none, .p (.bin .add (.const (.int .i64 48)) (.tmp 5))⟩, ⟨(some 7), none, .p (.cvt .u8 (.tmp 6))⟩, ⟨(some 8), none, .e (.bsr 1 1 [(.int .u8 0)] [(0, 1, (.tmp 7))])⟩, ⟨(some 9), none, .p (.b2s (.tmp 8))⟩, ⟨(some 3), none, .p (.mov (.tmp 9))⟩])
  (.seq (.seq (.reg [⟨(some 10), none, .p (.mov (.tmp 0))⟩, ⟨(some 11), none, .p (.bin .lss (.tmp 10) (.const (.int .i64 10)))⟩])
  (.cond (.tmp 11) (.seq (.reg [⟨(some 12), none, .p (.mov (.tmp 3))⟩, ⟨(some 2), none, .p (.mov (.tmp 12))⟩])
  .ret) .skip))
  (.seq (.reg [⟨(some 13), none, .p (.mov (.tmp 0))⟩, ⟨(some 14), none, .p (.bin .quo (.tmp 13) (.const (.int .i64 10)))⟩, ⟨(some 15), none, .e (.call 93 [(.tmp 14)])⟩, ⟨(some 16), none, .p (.mov (.tmp 3))⟩, ⟨(some 17), none, .p (.bin .add (.tmp 15) (.tmp 16))⟩, ⟨(some 2), none, .p (.mov (.tmp 17))⟩])
  .ret))))
def rf93 : List RX := [.tmp 2]
set_option maxRecDepth 100000 in
theorem comp93 : cFn Tryd.prog Tryd.f93 = some (erase cf93, rf93) := by kernel_rfl
def lb94_0 : LC :=
  (.seq (.seq (.reg [⟨(some 8), none, .p (.mov (.tmp 7))⟩, ⟨(some 9), none, .p (.mov (.tmp 0))⟩, ⟨(some 10), none, .p (.len 0 (.tmp 9))⟩, ⟨(some 11), none, .p (.bin .lss (.tmp 8) (.tmp 10))⟩])
  (.cond (.tmp 11) .skip (.exit 0)))
  (.seq (.block 1
  (.seq (.reg [⟨(some 14), none, .p (.mov (.tmp 0))⟩, ⟨(some 15), none, .p (.mov (.tmp 7))⟩, ⟨(some 16), none, .p (.idxs (.tmp 14) (.tmp 15))⟩, ⟨(some 17), none, .p (.mov (.tmp 1))⟩, ⟨(some 18), none, .p (.bin .eql (.tmp 16) (.tmp 17))⟩])
  (.cond (.tmp 18) (.seq (.reg [⟨(some 19), none, .p (.mov (.tmp 5))⟩, ⟨(some 20), none, .p (.mov (.tmp 0))⟩, ⟨(some 21), none, .p (.mov (.tmp 6))⟩, ⟨(some 22), none, .p (.mov (.tmp 7))⟩, ⟨(some 23), none, .p (.slcs (.tmp 20) (some (.tmp 21)) (some (.tmp 22)))⟩, ⟨(some 24), none, .e (.bsr 1 1 [(.string ⟨#[]⟩)] [(0, 1, (.tmp 23))])⟩, ⟨(some 25), none, .e (.app 0 1 16 (.tmp 19) (.tmp 24))⟩, ⟨(some 5), none, .p (.mov (.tmp 25))⟩])
  (.reg [⟨(some 26), none, .p (.mov (.tmp 7))⟩, ⟨(some 27), none, .p (.bin .add (.tmp 26) (.const (.int .i64 1)))⟩, ⟨(some 6), none, .p (.mov (.tmp 27))⟩])) .skip)))
  (.reg [⟨(some 12), none, .p (.mov (.tmp 7))⟩, ⟨(some 13), none, .p (.bin .add (.tmp 12) (.const (.int .i64 1)))⟩, ⟨(some 7), none, .p (.mov (.tmp 13))⟩])))
def cf94 : LC :=
  (.seq (.reg [⟨(some 4), none, .p (.mov (.const (.slice none 0 0)))⟩])
  (.seq (.reg [⟨(some 5), none, .p (.mov (.const (.slice none 0 0)))⟩])
  (.seq (.reg [⟨(some 6), none, .p (.mov (.const (.int .i64 0)))⟩])
  (.seq (.seq (.reg [⟨(some 7), none, .p (.mov (.const (.int .i64 0)))⟩])
  (.block 0
  (.loop lb94_0)))
  (.seq (.reg [⟨(some 28), none, .p (.mov (.tmp 5))⟩, ⟨(some 29), none, .p (.mov (.tmp 0))⟩, ⟨(some 30), none, .p (.mov (.tmp 6))⟩, ⟨(some 31), none, .p (.slcs (.tmp 29) (some (.tmp 30)) none)⟩, ⟨(some 32), none, .e (.bsr 1 1 [(.string ⟨#[]⟩)] [(0, 1, (.tmp 31))])⟩, ⟨(some 33), none, .e (.app 0 1 16 (.tmp 28) (.tmp 32))⟩, ⟨(some 4), none, .p (.mov (.tmp 33))⟩])
  .ret)))))
def rf94 : List RX := [.tmp 4]
set_option maxRecDepth 100000 in
theorem comp94 : cFn Tryd.prog Tryd.f94 = some (erase cf94, rf94) := by kernel_rfl
end Go.Proofs.YtcdepkflghcjpaaDoor
namespace Go.Proofs.YtcdepkflghcjpaaDoor
end Go.Proofs.YtcdepkflghcjpaaDoor
namespace Go.Proofs.YtcdepkflghcjpaaDoor
end Go.Proofs.YtcdepkflghcjpaaDoor
namespace Go.Proofs.YtcdepkflghcjpaaDoor
def lb15_0 : LC :=
  (.seq (.seq (.reg [⟨(some 38), none, .p (.mov (.tmp 7))⟩, ⟨(some 39), none, .p (.mov (.tmp 0))⟩, ⟨(some 40), none, .p (.mov (.tmp 5))⟩, ⟨(some 41), none, .p (.mov (.tmp 6))⟩, ⟨(some 42), none, .p (.iad 2 (.tmp 39) (.tmp 40))⟩, ⟨(some 43), none, .p (.iada 2 1 (.tmp 42) (.tmp 41))⟩, ⟨(some 44), none, .p (.ld none (.tmp 43))⟩, ⟨(some 45), none, .p (.len 1 (.tmp 44))⟩, ⟨(some 46), none, .p (.bin .lss (.tmp 38) (.tmp 45))⟩])
  (.cond (.tmp 46) .skip (.exit 4)))
  (.seq (.block 5
  (.seq (.dreg [⟨(some 49), none, .p (.mov (.tmp 0))⟩, ⟨(some 50), none, .p (.mov (.tmp 5))⟩, ⟨(some 51), none, .p (.mov (.tmp 6))⟩, ⟨(some 52), none, .p (.iad 2 (.tmp 49) (.tmp 50))⟩, ⟨(some 53), none, .p (.iada 2 1 (.tmp 52) (.tmp 51))⟩, ⟨(some 54), none, .p (.ld none (.tmp 53))⟩, ⟨(some 55), none, .p (.mov (.tmp 7))⟩, ⟨(some 56), none, .p (.iad 1 (.tmp 54) (.tmp 55))⟩, ⟨(some 57), none, .p (.ld none (.tmp 56))⟩, ⟨(some 58), none, .p (.mov (.tmp 1))⟩, ⟨(some 59), none, .p (.mov (.tmp 5))⟩, ⟨(some 60), none, .p (.mov (.tmp 6))⟩, ⟨(some 61), none, .p (.iad 2 (.tmp 58) (.tmp 59))⟩, ⟨(some 62), none, .p (.iada 2 1 (.tmp 61) (.tmp 60))⟩, ⟨(some 63), none, .p (.ld none (.tmp 62))⟩, ⟨(some 64), none, .p (.mov (.tmp 7))⟩, ⟨(some 65), none, .p (.iad 1 (.tmp 63) (.tmp 64))⟩, ⟨(some 66), none, .p (.ld none (.tmp 65))⟩] [[⟨(some 67), none, .p (.bin .neq (.tmp 57) (.tmp 66))⟩]])
  (.cond (.tmp 67) (.seq (.reg [⟨(some 4), none, .p (.mov (.const (.bool false)))⟩])
  .ret) .skip)))
  (.reg [⟨(some 47), none, .p (.mov (.tmp 7))⟩, ⟨(some 48), none, .p (.bin .add (.tmp 47) (.const (.int .i64 1)))⟩, ⟨(some 7), none, .p (.mov (.tmp 48))⟩])))
def lb15_1 : LC :=
  (.seq (.seq (.reg [⟨(some 19), none, .p (.mov (.tmp 6))⟩, ⟨(some 20), none, .p (.bin .lss (.tmp 19) (.const (.int .i64 2)))⟩])
  (.cond (.tmp 20) .skip (.exit 2)))
  (.seq (.block 3
  (.seq (.seq (.dreg [⟨(some 23), none, .p (.mov (.tmp 0))⟩, ⟨(some 24), none, .p (.mov (.tmp 5))⟩, ⟨(some 25), none, .p (.mov (.tmp 6))⟩, ⟨(some 26), none, .p (.iad 2 (.tmp 23) (.tmp 24))⟩, ⟨(some 27), none, .p (.iada 2 1 (.tmp 26) (.tmp 25))⟩, ⟨(some 28), none, .p (.ld none (.tmp 27))⟩, ⟨(some 29), none, .p (.len 1 (.tmp 28))⟩, ⟨(some 30), none, .p (.mov (.tmp 1))⟩, ⟨(some 31), none, .p (.mov (.tmp 5))⟩, ⟨(some 32), none, .p (.mov (.tmp 6))⟩, ⟨(some 33), none, .p (.iad 2 (.tmp 30) (.tmp 31))⟩, ⟨(some 34), none, .p (.iada 2 1 (.tmp 33) (.tmp 32))⟩, ⟨(some 35), none, .p (.ld none (.tmp 34))⟩, ⟨(some 36), none, .p (.len 1 (.tmp 35))⟩] [[⟨(some 37), none, .p (.bin .neq (.tmp 29) (.tmp 36))⟩]])
  (.cond (.tmp 37) (.seq (.reg [⟨(some 4), none, .p (.mov (.const (.bool false)))⟩])
  .ret) .skip))
  (.seq (.reg [⟨(some 7), none, .p (.mov (.const (.int .i64 0)))⟩])
  (.block 4
  (.loop lb15_0)))))
  (.reg [⟨(some 21), none, .p (.mov (.tmp 6))⟩, ⟨(some 22), none, .p (.bin .add (.tmp 21) (.const (.int .i64 1)))⟩, ⟨(some 6), none, .p (.mov (.tmp 22))⟩])))
def lb15_2 : LC :=
  (.seq (.seq (.reg [⟨(some 13), none, .p (.mov (.tmp 5))⟩, ⟨(some 14), none, .p (.mov (.tmp 0))⟩, ⟨(some 15), none, .p (.len 1 (.tmp 14))⟩, ⟨(some 16), none, .p (.bin .lss (.tmp 13) (.tmp 15))⟩])
  (.cond (.tmp 16) .skip (.exit 0)))
  (.seq (.block 1
  (.seq (.reg [⟨(some 6), none, .p (.mov (.const (.int .i64 0)))⟩])
  (.block 2
  (.loop lb15_1))))
  (.reg [⟨(some 17), none, .p (.mov (.tmp 5))⟩, ⟨(some 18), none, .p (.bin .add (.tmp 17) (.const (.int .i64 1)))⟩, ⟨(some 5), none, .p (.mov (.tmp 18))⟩])))
def cf15 : LC :=
  (.seq (.reg [⟨(some 4), none, .p (.mov (.const (.bool false)))⟩])
  (.seq (.seq (.reg [⟨(some 8), none, .p (.mov (.tmp 0))⟩, ⟨(some 9), none, .p (.len 1 (.tmp 8))⟩, ⟨(some 10), none, .p (.mov (.tmp 1))⟩, ⟨(some 11), none, .p (.len 1 (.tmp 10))⟩, ⟨(some 12), none, .p (.bin .neq (.tmp 9) (.tmp 11))⟩])
  (.cond (.tmp 12) (.seq (.reg [⟨(some 4), none, .p (.mov (.const (.bool false)))⟩])
  .ret) .skip))
  (.seq (.seq (.reg [⟨(some 5), none, .p (.mov (.const (.int .i64 0)))⟩])
  (.block 0
  (.loop lb15_2)))
  (.seq (.reg [⟨(some 4), none, .p (.mov (.const (.bool true)))⟩])
  .ret))))
def rf15 : List RX := [.tmp 4]
set_option maxRecDepth 100000 in
theorem comp15 : cFn Tryd.prog Tryd.f15 = some (erase cf15, rf15) := by kernel_rfl
def lb35_0 : LC :=
  (.seq (.seq (.reg [⟨(some 52), none, .p (.mov (.tmp 11))⟩, ⟨(some 53), none, .p (.mov (.tmp 8))⟩, ⟨(some 54), none, .p (.bin .mul (.const (.int .i64 2)) (.tmp 53))⟩, ⟨(some 55), none, .p (.bin .lss (.tmp 52) (.tmp 54))⟩])
  (.cond (.tmp 55) .skip (.exit 2)))
  (.seq (.block 3
  (.seq (.seq (.reg [⟨(some 58), none, .p (.mov (.tmp 11))⟩, ⟨(some 59), none, .p (.bin .add (.tmp 58) (.const (.int .i64 1)))⟩, ⟨(some 60), none, .p (.mov (.tmp 5))⟩, ⟨(some 61), none, .p (.len 1 (.tmp 60))⟩, ⟨(some 62), none, .p (.bin .geq (.tmp 59) (.tmp 61))⟩])
  (.cond (.tmp 62) (.seq (.reg [⟨(some 63), none, .p (.mov (.tmp 11))⟩, ⟨(some 64), none, .p (.bin .add (.tmp 63) (.const (.int .i64 2)))⟩, ⟨(some 65), none, .p (.mov (.tmp 7))⟩, ⟨(some 2), none, .p (.mov (.const (.slice none 0 0)))⟩, ⟨(some 3), none, .p (.mov (.tmp 64))⟩, ⟨(some 4), none, .p (.mov (.tmp 65))⟩])
  .ret) .skip))
  (.seq (.reg [⟨(some 67), none, .p (.mov (.tmp 5))⟩, ⟨(some 68), none, .p (.mov (.tmp 11))⟩, ⟨(some 69), none, .p (.bin .add (.tmp 68) (.const (.int .i64 1)))⟩, ⟨(some 70), none, .p (.iad 1 (.tmp 67) (.tmp 69))⟩, ⟨(some 71), none, .p (.ld none (.tmp 70))⟩, ⟨(some 72), none, .p (.mov (.tmp 8))⟩, ⟨(some 73), none, .e (.call 71 [(.tmp 71), (.tmp 72)])⟩, ⟨(some 66), none, .p (.mov (.tmp 73))⟩, ⟨(some 74), none, .p (.ext (.tmp 66) 0)⟩, ⟨(some 75), none, .p (.ext (.tmp 66) 1)⟩, ⟨(some 12), none, .p (.mov (.tmp 74))⟩, ⟨(some 13), none, .p (.mov (.tmp 75))⟩])
  (.seq (.seq (.reg [⟨(some 76), none, .p (.mov (.tmp 13))⟩, ⟨(some 77), none, .p (.un .not (.tmp 76))⟩, ⟨(some 78), none, .p (.mov (.tmp 77))⟩, ⟨(some 79), (some (78, false)), .p (.mov (.tmp 11))⟩, ⟨(some 80), (some (78, false)), .p (.bin .add (.tmp 79) (.const (.int .i64 2)))⟩, ⟨(some 81), (some (78, false)), .p (.mov (.tmp 5))⟩, ⟨(some 82), (some (78, false)), .p (.len 1 (.tmp 81))⟩, ⟨(some 83), (some (78, false)), .p (.bin .eql (.tmp 80) (.tmp 82))⟩, ⟨(some 84), (some (78, false)), .p (.mov (.tmp 83))⟩, ⟨(some 85), (some (84, true)), .p (.mov (.tmp 6))⟩, ⟨(some 86), (some (84, true)), .p (.un .not (.tmp 85))⟩, ⟨(some 87), (some (78, false)), .p (.pick (.tmp 84) (.tmp 86) (.const (.bool false)))⟩, ⟨(some 88), none, .p (.pick (.tmp 78) (.const (.bool true)) (.tmp 87))⟩])
  (.cond (.tmp 88) (.seq (.reg [⟨(some 89), none, .p (.mov (.tmp 11))⟩, ⟨(some 90), none, .p (.bin .add (.tmp 89) (.const (.int .i64 2)))⟩, ⟨(some 91), none, .p (.mov (.tmp 7))⟩, ⟨(some 2), none, .p (.mov (.const (.slice none 0 0)))⟩, ⟨(some 3), none, .p (.mov (.tmp 90))⟩, ⟨(some 4), none, .p (.mov (.tmp 91))⟩])
  .ret) .skip))
  (.reg [⟨(some 92), none, .p (.mov (.tmp 10))⟩, ⟨(some 93), none, .p (.mov (.tmp 11))⟩, ⟨(some 94), none, .p (.bin .quo (.tmp 93) (.const (.int .i64 2)))⟩, ⟨(some 95), none, .p (.mov (.tmp 11))⟩, ⟨(some 96), none, .p (.bin .rem (.tmp 95) (.const (.int .i64 2)))⟩, ⟨(some 97), none, .p (.mov (.tmp 12))⟩, ⟨(some 98), none, .p (.iad 2 (.tmp 92) (.tmp 94))⟩, ⟨(some 99), none, .p (.iada 2 1 (.tmp 98) (.tmp 96))⟩, ⟨none, none, .e (.st 1 (.tmp 99) (.tmp 97))⟩])))))
  (.reg [⟨(some 56), none, .p (.mov (.tmp 11))⟩, ⟨(some 57), none, .p (.bin .add (.tmp 56) (.const (.int .i64 1)))⟩, ⟨(some 11), none, .p (.mov (.tmp 57))⟩])))
def lb35_1 : LC :=
  (.seq (.seq (.reg [⟨(some 26), none, .p (.mov (.tmp 9))⟩, ⟨(some 27), none, .p (.bin .leq (.tmp 26) (.const (.int .i64 16)))⟩])
  (.cond (.tmp 27) .skip (.exit 0)))
  (.seq (.block 1
  (.seq (.dreg [⟨(some 30), none, .p (.mov (.tmp 5))⟩, ⟨(some 31), none, .p (.iad 1 (.tmp 30) (.const (.int .i64 0)))⟩, ⟨(some 32), none, .p (.ld none (.tmp 31))⟩, ⟨(some 33), none, .p (.mov (.tmp 9))⟩, ⟨(some 34), none, .e (.call 69 [(.tmp 33)])⟩, ⟨(some 35), none, .p (.bin .add (.const (.string ⟨#[114, 111, 117, 116, 101, 115, 32]⟩)) (.tmp 34))⟩] [[⟨(some 36), none, .p (.bin .eql (.tmp 32) (.tmp 35))⟩]])
  (.cond (.tmp 36) (.reg [⟨(some 37), none, .p (.mov (.tmp 9))⟩, ⟨(some 8), none, .p (.mov (.tmp 37))⟩]) .skip)))
  (.reg [⟨(some 28), none, .p (.mov (.tmp 9))⟩, ⟨(some 29), none, .p (.bin .add (.tmp 28) (.const (.int .i64 1)))⟩, ⟨(some 9), none, .p (.mov (.tmp 29))⟩])))
def cf35 : LC :=
  (.seq (.reg [⟨(some 2), none, .p (.mov (.const (.slice none 0 0)))⟩, ⟨(some 3), none, .p (.mov (.const (.int .i64 0)))⟩, ⟨(some 4), none, .p (.mov (.const (.int .i64 0)))⟩])
  (.seq (.seq (.reg [⟨(some 14), none, .p (.mov (.tmp 0))⟩, ⟨(some 15), none, .p (.len 0 (.tmp 14))⟩, ⟨(some 16), none, .p (.bin .gtr (.tmp 15) (.const (.int .i64 65536)))⟩])
  (.cond (.tmp 16) (.seq (.reg [⟨(some 2), none, .p (.mov (.const (.slice none 0 0)))⟩, ⟨(some 3), none, .p (.mov (.const (.int .i64 0)))⟩, ⟨(some 4), none, .p (.mov (.const (.int .i64 5)))⟩])
  .ret) .skip))
  (.seq (.reg [⟨(some 18), none, .p (.mov (.tmp 0))⟩, ⟨(some 19), none, .e (.call 70 [(.tmp 18)])⟩, ⟨(some 17), none, .p (.mov (.tmp 19))⟩, ⟨(some 20), none, .p (.ext (.tmp 17) 0)⟩, ⟨(some 21), none, .p (.ext (.tmp 17) 1)⟩, ⟨(some 5), none, .p (.mov (.tmp 20))⟩, ⟨(some 6), none, .p (.mov (.tmp 21))⟩])
  (.seq (.reg [⟨(some 7), none, .p (.mov (.const (.int .i64 3)))⟩])
  (.seq (.seq (.reg [⟨(some 22), none, .p (.mov (.tmp 5))⟩, ⟨(some 23), none, .p (.len 1 (.tmp 22))⟩, ⟨(some 24), none, .p (.bin .eql (.tmp 23) (.const (.int .i64 0)))⟩])
  (.cond (.tmp 24) (.seq (.reg [⟨(some 25), none, .p (.mov (.tmp 7))⟩, ⟨(some 2), none, .p (.mov (.const (.slice none 0 0)))⟩, ⟨(some 3), none, .p (.mov (.const (.int .i64 1)))⟩, ⟨(some 4), none, .p (.mov (.tmp 25))⟩])
  .ret) .skip))
  (.seq (.reg [⟨(some 8), none, .p (.mov (.const (.int .i64 (-1))))⟩])
  (.seq (.seq (.reg [⟨(some 9), none, .p (.mov (.const (.int .i64 0)))⟩])
  (.block 0
  (.loop lb35_1)))
  (.seq (.seq (.reg [⟨(some 38), none, .p (.mov (.tmp 8))⟩, ⟨(some 39), none, .p (.bin .lss (.tmp 38) (.const (.int .i64 0)))⟩, ⟨(some 40), none, .p (.mov (.tmp 39))⟩, ⟨(some 41), (some (40, false)), .p (.mov (.tmp 5))⟩, ⟨(some 42), (some (40, false)), .p (.len 1 (.tmp 41))⟩, ⟨(some 43), (some (40, false)), .p (.bin .eql (.tmp 42) (.const (.int .i64 1)))⟩, ⟨(some 44), (some (40, false)), .p (.mov (.tmp 43))⟩, ⟨(some 45), (some (44, true)), .p (.mov (.tmp 6))⟩, ⟨(some 46), (some (44, true)), .p (.un .not (.tmp 45))⟩, ⟨(some 47), (some (40, false)), .p (.pick (.tmp 44) (.tmp 46) (.const (.bool false)))⟩, ⟨(some 48), none, .p (.pick (.tmp 40) (.const (.bool true)) (.tmp 47))⟩])
  (.cond (.tmp 48) (.seq (.reg [⟨(some 49), none, .p (.mov (.tmp 7))⟩, ⟨(some 2), none, .p (.mov (.const (.slice none 0 0)))⟩, ⟨(some 3), none, .p (.mov (.const (.int .i64 1)))⟩, ⟨(some 4), none, .p (.mov (.tmp 49))⟩])
  .ret) .skip))
  (.seq (.reg [⟨(some 50), none, .p (.mov (.tmp 8))⟩, ⟨(some 51), none, .e (.mks 0 2 [(.slice none 0 0), (.slice none 0 0)] 48 (.tmp 50) (.tmp 50))⟩, ⟨(some 10), none, .p (.mov (.tmp 51))⟩])
  (.seq (.seq (.reg [⟨(some 11), none, .p (.mov (.const (.int .i64 0)))⟩])
  (.block 2
  (.loop lb35_0)))
  (.seq (.seq (.reg [⟨(some 100), none, .p (.mov (.tmp 5))⟩, ⟨(some 101), none, .p (.len 1 (.tmp 100))⟩, ⟨(some 102), none, .p (.mov (.tmp 8))⟩, ⟨(some 103), none, .p (.bin .mul (.const (.int .i64 2)) (.tmp 102))⟩, ⟨(some 104), none, .p (.bin .add (.tmp 103) (.const (.int .i64 1)))⟩, ⟨(some 105), none, .p (.bin .gtr (.tmp 101) (.tmp 104))⟩])
  (.cond (.tmp 105) (.seq (.reg [⟨(some 106), none, .p (.mov (.tmp 8))⟩, ⟨(some 107), none, .p (.bin .mul (.const (.int .i64 2)) (.tmp 106))⟩, ⟨(some 108), none, .p (.bin .add (.tmp 107) (.const (.int .i64 2)))⟩, ⟨(some 109), none, .p (.mov (.tmp 7))⟩, ⟨(some 2), none, .p (.mov (.const (.slice none 0 0)))⟩, ⟨(some 3), none, .p (.mov (.tmp 108))⟩, ⟨(some 4), none, .p (.mov (.tmp 109))⟩])
  .ret) .skip))
  (.seq (.reg [⟨(some 110), none, .p (.mov (.tmp 10))⟩, ⟨(some 2), none, .p (.mov (.tmp 110))⟩, ⟨(some 3), none, .p (.mov (.const (.int .i64 0)))⟩, ⟨(some 4), none, .p (.mov (.const (.int .i64 0)))⟩])
  .ret))))))))))))
def rf35 : List RX := [.tmp 2, .tmp 3, .tmp 4]
set_option maxRecDepth 100000 in
theorem comp35 : cFn Tryd.prog Tryd.f35 = some (erase cf35, rf35) := by kernel_rfl
def cf69 : LC :=
  (.seq (.reg [⟨(some 2), none, .p (.mov (.const (.string ⟨#[]⟩)))⟩])
  (.seq (.seq (.reg [⟨(some 3), none, .p (.mov (.tmp 0))⟩, ⟨(some 4), none, .p (.bin .lss (.tmp 3) (.const (.int .i64 0)))⟩])
  (.cond (.tmp 4) (.seq (.reg [⟨(some 5), none, .p (.mov (.tmp 0))⟩, ⟨(some 6), none, .p (.un .neg (.tmp 5))⟩, ⟨(some 7), none, .e (.call 93 [(.tmp 6)])⟩, ⟨(some 8), none, .p (.bin .add (.const (.string ⟨#[45]⟩)) (.tmp 7))⟩, ⟨(some 2), none, .p (.mov (.tmp 8))⟩])
  .ret) .skip))
  (.seq (.reg [⟨(some 9), none, .p (.mov (.tmp 0))⟩, ⟨(some 10), none, .e (.call 93 [(.tmp 9)])⟩, ⟨(some 2), none, .p (.mov (.tmp 10))⟩])
  .ret)))
def rf69 : List RX := [.tmp 2]
set_option maxRecDepth 100000 in
theorem comp69 : cFn Tryd.prog Tryd.f69 = some (erase cf69, rf69) := by kernel_rfl
def lb70_0 : LC :=
  (.seq (.seq (.reg [⟨(some 7), none, .p (.mov (.tmp 6))⟩, ⟨(some 8), none, .p (.mov (.tmp 0))⟩, ⟨(some 9), none, .p (.len 0 (.tmp 8))⟩, ⟨(some 10), none, .p (.bin .lss (.tmp 7) (.tmp 9))⟩])
  (.cond (.tmp 10) .skip (.exit 0)))
  (.seq (.block 1
  (.seq (.reg [⟨(some 13), none, .p (.mov (.tmp 0))⟩, ⟨(some 14), none, .p (.mov (.tmp 6))⟩, ⟨(some 15), none, .p (.idxs (.tmp 13) (.tmp 14))⟩, ⟨(some 16), none, .p (.bin .eql (.tmp 15) (.const (.int .u8 10)))⟩])
  (.cond (.tmp 16) (.seq (.reg [⟨(some 17), none, .p (.mov (.tmp 4))⟩, ⟨(some 18), none, .p (.mov (.tmp 0))⟩, ⟨(some 19), none, .p (.mov (.tmp 5))⟩, ⟨(some 20), none, .p (.mov (.tmp 6))⟩, ⟨(some 21), none, .p (.slcs (.tmp 18) (some (.tmp 19)) (some (.tmp 20)))⟩, ⟨(some 22), none, .e (.bsr 1 1 [(.string ⟨#[]⟩)] [(0, 1, (.tmp 21))])⟩, ⟨(some 23), none, .e (.app 0 1 16 (.tmp 17) (.tmp 22))⟩, ⟨(some 4), none, .p (.mov (.tmp 23))⟩])
  (.reg [⟨(some 24), none, .p (.mov (.tmp 6))⟩, ⟨(some 25), none, .p (.bin .add (.tmp 24) (.const (.int .i64 1)))⟩, ⟨(some 5), none, .p (.mov (.tmp 25))⟩])) .skip)))
  (.reg [⟨(some 11), none, .p (.mov (.tmp 6))⟩, ⟨(some 12), none, .p (.bin .add (.tmp 11) (.const (.int .i64 1)))⟩, ⟨(some 6), none, .p (.mov (.tmp 12))⟩])))
def cf70 : LC :=
  (.seq (.reg [⟨(some 2), none, .p (.mov (.const (.slice none 0 0)))⟩, ⟨(some 3), none, .p (.mov (.const (.bool false)))⟩])
  (.seq (.reg [⟨(some 4), none, .p (.mov (.const (.slice none 0 0)))⟩])
  (.seq (.reg [⟨(some 5), none, .p (.mov (.const (.int .i64 0)))⟩])
  (.seq (.seq (.reg [⟨(some 6), none, .p (.mov (.const (.int .i64 0)))⟩])
  (.block 0
  (.loop lb70_0)))
  (.seq (.seq (.reg [⟨(some 26), none, .p (.mov (.tmp 5))⟩, ⟨(some 27), none, .p (.mov (.tmp 0))⟩, ⟨(some 28), none, .p (.len 0 (.tmp 27))⟩, ⟨(some 29), none, .p (.bin .lss (.tmp 26) (.tmp 28))⟩])
  (.cond (.tmp 29) (.seq (.reg [⟨(some 30), none, .p (.mov (.tmp 4))⟩, ⟨(some 31), none, .p (.mov (.tmp 0))⟩, ⟨(some 32), none, .p (.mov (.tmp 5))⟩, ⟨(some 33), none, .p (.slcs (.tmp 31) (some (.tmp 32)) none)⟩, ⟨(some 34), none, .e (.bsr 1 1 [(.string ⟨#[]⟩)] [(0, 1, (.tmp 33))])⟩, ⟨(some 35), none, .e (.app 0 1 16 (.tmp 30) (.tmp 34))⟩, ⟨(some 2), none, .p (.mov (.tmp 35))⟩, ⟨(some 3), none, .p (.mov (.const (.bool false)))⟩])
  .ret) .skip))
  (.seq (.reg [⟨(some 36), none, .p (.mov (.tmp 4))⟩, ⟨(some 2), none, .p (.mov (.tmp 36))⟩, ⟨(some 3), none, .p (.mov (.const (.bool true)))⟩])
  .ret))))))
def rf70 : List RX := [.tmp 2, .tmp 3]
set_option maxRecDepth 100000 in
theorem comp70 : cFn Tryd.prog Tryd.f70 = some (erase cf70, rf70) := by kernel_rfl
def lb71_0 : LC :=
  (.seq (.seq (.reg [⟨(some 22), none, .p (.mov (.tmp 10))⟩, ⟨(some 23), none, .p (.bin .lss (.tmp 22) (.const (.int .i64 32)))⟩])
  (.cond (.tmp 23) .skip (.exit 2)))
  (.seq (.block 3
  (.seq (.dreg [⟨(some 26), none, .p (.mov (.tmp 10))⟩, ⟨(some 27), none, .e (.call 69 [(.tmp 26)])⟩, ⟨(some 28), none, .p (.mov (.tmp 6))⟩, ⟨(some 29), none, .p (.mov (.tmp 8))⟩, ⟨(some 30), none, .p (.iad 1 (.tmp 28) (.tmp 29))⟩, ⟨(some 31), none, .p (.ld none (.tmp 30))⟩] [[⟨(some 32), none, .p (.bin .eql (.tmp 27) (.tmp 31))⟩]])
  (.cond (.tmp 32) (.seq (.reg [⟨(some 33), none, .p (.mov (.tmp 7))⟩, ⟨(some 34), none, .p (.mov (.tmp 10))⟩, ⟨(some 35), none, .e (.bsl 1 1 1 [(.int .i64 0)] [(0, 1, (.tmp 34))])⟩, ⟨(some 36), none, .e (.app 1 1 8 (.tmp 33) (.tmp 35))⟩, ⟨(some 7), none, .p (.mov (.tmp 36))⟩])
  (.reg [⟨(some 9), none, .p (.mov (.const (.bool true)))⟩])) .skip)))
  (.reg [⟨(some 24), none, .p (.mov (.tmp 10))⟩, ⟨(some 25), none, .p (.bin .add (.tmp 24) (.const (.int .i64 1)))⟩, ⟨(some 10), none, .p (.mov (.tmp 25))⟩])))
def lb71_1 : LC :=
  (.seq (.seq (.reg [⟨(some 17), none, .p (.mov (.tmp 8))⟩, ⟨(some 18), none, .p (.mov (.tmp 1))⟩, ⟨(some 19), none, .p (.bin .lss (.tmp 17) (.tmp 18))⟩])
  (.cond (.tmp 19) .skip (.exit 0)))
  (.seq (.block 1
  (.seq (.reg [⟨(some 9), none, .p (.mov (.const (.bool false)))⟩])
  (.seq (.seq (.reg [⟨(some 10), none, .p (.mov (.const (.int .i64 (-2))))⟩])
  (.block 2
  (.loop lb71_0)))
  (.seq (.reg [⟨(some 37), none, .p (.mov (.tmp 9))⟩, ⟨(some 38), none, .p (.un .not (.tmp 37))⟩])
  (.cond (.tmp 38) (.seq (.reg [⟨(some 4), none, .p (.mov (.const (.slice none 0 0)))⟩, ⟨(some 5), none, .p (.mov (.const (.bool false)))⟩])
  .ret) .skip)))))
  (.reg [⟨(some 20), none, .p (.mov (.tmp 8))⟩, ⟨(some 21), none, .p (.bin .add (.tmp 20) (.const (.int .i64 1)))⟩, ⟨(some 8), none, .p (.mov (.tmp 21))⟩])))
def cf71 : LC :=
  (.seq (.reg [⟨(some 4), none, .p (.mov (.const (.slice none 0 0)))⟩, ⟨(some 5), none, .p (.mov (.const (.bool false)))⟩])
  (.seq (.reg [⟨(some 11), none, .p (.mov (.tmp 0))⟩, ⟨(some 12), none, .e (.call 94 [(.tmp 11), (.const (.int .u8 32))])⟩, ⟨(some 6), none, .p (.mov (.tmp 12))⟩])
  (.seq (.seq (.reg [⟨(some 13), none, .p (.mov (.tmp 6))⟩, ⟨(some 14), none, .p (.len 1 (.tmp 13))⟩, ⟨(some 15), none, .p (.mov (.tmp 1))⟩, ⟨(some 16), none, .p (.bin .neq (.tmp 14) (.tmp 15))⟩])
  (.cond (.tmp 16) (.seq (.reg [⟨(some 4), none, .p (.mov (.const (.slice none 0 0)))⟩, ⟨(some 5), none, .p (.mov (.const (.bool false)))⟩])
  .ret) .skip))
  (.seq (.reg [⟨(some 7), none, .p (.mov (.const (.slice none 0 0)))⟩])
  (.seq (.seq (.reg [⟨(some 8), none, .p (.mov (.const (.int .i64 0)))⟩])
  (.block 0
  (.loop lb71_1)))
  (.seq (.reg [⟨(some 39), none, .p (.mov (.tmp 7))⟩, ⟨(some 4), none, .p (.mov (.tmp 39))⟩, ⟨(some 5), none, .p (.mov (.const (.bool true)))⟩])
  .ret))))))
def rf71 : List RX := [.tmp 4, .tmp 5]
set_option maxRecDepth 100000 in
theorem comp71 : cFn Tryd.prog Tryd.f71 = some (erase cf71, rf71) := by kernel_rfl
end Go.Proofs.YtcdepkflghcjpaaDoor
namespace Go.Proofs.YtcdepkflghcjpaaDoor
def lb46_0 : LC :=
  (.seq (.reg [⟨(some 75), none, .p (.bin .lss (.tmp 74) (.tmp 73))⟩])
  (.seq (.cond (.tmp 75) .skip (.exit 6))
  (.seq (.block 7
  (.seq (.reg [⟨(some 76), none, .p (.iad 6 (.tmp 72) (.tmp 74))⟩, ⟨(some 77), none, .p (.ld (some 6) (.tmp 76))⟩, ⟨(some 10), none, .e (.alc [(.int .i64 0), (.int .i64 0), (.int .i64 0), (.int .i64 0), (.int .i64 0), (.int .i64 0)])⟩, ⟨none, none, .e (.st 6 (.tmp 10) (.tmp 77))⟩])
  (.seq (.reg [⟨(some 78), none, .p (.fad 4 (.tmp 10))⟩, ⟨(some 79), none, .p (.ld none (.tmp 78))⟩, ⟨(some 80), none, .p (.bin .lss (.tmp 79) (.const (.int .i64 1)))⟩, ⟨(some 81), none, .p (.mov (.tmp 80))⟩, ⟨(some 82), (some (81, false)), .p (.fad 4 (.tmp 10))⟩, ⟨(some 83), (some (81, false)), .p (.ld none (.tmp 82))⟩, ⟨(some 84), (some (81, false)), .p (.bin .gtr (.tmp 83) (.const (.int .i64 100)))⟩, ⟨(some 85), none, .p (.pick (.tmp 81) (.const (.bool true)) (.tmp 84))⟩, ⟨(some 86), none, .p (.mov (.tmp 85))⟩, ⟨(some 87), (some (86, false)), .p (.fad 5 (.tmp 10))⟩, ⟨(some 88), (some (86, false)), .p (.ld none (.tmp 87))⟩, ⟨(some 89), (some (86, false)), .p (.bin .lss (.tmp 88) (.const (.int .i64 1)))⟩, ⟨(some 90), none, .p (.pick (.tmp 86) (.const (.bool true)) (.tmp 89))⟩, ⟨(some 91), none, .p (.mov (.tmp 90))⟩, ⟨(some 92), (some (91, false)), .p (.fad 5 (.tmp 10))⟩, ⟨(some 93), (some (91, false)), .p (.ld none (.tmp 92))⟩, ⟨(some 94), (some (91, false)), .p (.bin .gtr (.tmp 93) (.const (.int .i64 1000)))⟩, ⟨(some 95), none, .p (.pick (.tmp 91) (.const (.bool true)) (.tmp 94))⟩])
  (.cond (.tmp 95) (.seq (.reg [⟨(some 2), none, .p (.mov (.const (.int .i64 3)))⟩])
  .ret) .skip))))
  (.reg [⟨(some 96), none, .p (.bin .add (.tmp 74) (.const (.int .i64 1)))⟩, ⟨(some 74), none, .p (.mov (.tmp 96))⟩]))))
def lb46_1 : LC :=
  (.seq (.reg [⟨(some 62), none, .p (.bin .lss (.tmp 61) (.tmp 60))⟩])
  (.seq (.cond (.tmp 62) .skip (.exit 4))
  (.seq (.block 5
  (.seq (.reg [⟨(some 63), none, .p (.iad 6 (.tmp 59) (.tmp 61))⟩, ⟨(some 64), none, .p (.ld (some 6) (.tmp 63))⟩, ⟨(some 8), none, .e (.alc [(.int .i64 0), (.int .i64 0), (.int .i64 0), (.int .i64 0), (.int .i64 0), (.int .i64 0)])⟩, ⟨none, none, .e (.st 6 (.tmp 8) (.tmp 64))⟩])
  (.seq (.reg [⟨(some 65), none, .p (.fad 0 (.tmp 8))⟩, ⟨(some 66), none, .p (.ld none (.tmp 65))⟩, ⟨(some 67), none, .p (.fad 2 (.tmp 8))⟩, ⟨(some 68), none, .p (.ld none (.tmp 67))⟩, ⟨(some 69), none, .p (.bin .eql (.tmp 66) (.tmp 68))⟩])
  (.cond (.tmp 69) (.seq (.reg [⟨(some 2), none, .p (.mov (.const (.int .i64 12)))⟩])
  .ret) .skip))))
  (.reg [⟨(some 70), none, .p (.bin .add (.tmp 61) (.const (.int .i64 1)))⟩, ⟨(some 61), none, .p (.mov (.tmp 70))⟩]))))
def lb46_2 : LC :=
  (.seq (.reg [⟨(some 36), none, .p (.bin .lss (.tmp 35) (.tmp 34))⟩])
  (.seq (.cond (.tmp 36) .skip (.exit 2))
  (.seq (.block 3
  (.seq (.reg [⟨(some 37), none, .p (.iad 6 (.tmp 33) (.tmp 35))⟩, ⟨(some 38), none, .p (.ld (some 6) (.tmp 37))⟩, ⟨(some 6), none, .e (.alc [(.int .i64 0), (.int .i64 0), (.int .i64 0), (.int .i64 0), (.int .i64 0), (.int .i64 0)])⟩, ⟨none, none, .e (.st 6 (.tmp 6) (.tmp 38))⟩])
  (.seq (.reg [⟨(some 39), none, .p (.ld (some 2) (.tmp 1))⟩, ⟨(some 40), none, .p (.fad 0 (.tmp 6))⟩, ⟨(some 41), none, .p (.ld none (.tmp 40))⟩, ⟨(some 42), none, .p (.fad 1 (.tmp 6))⟩, ⟨(some 43), none, .p (.ld none (.tmp 42))⟩, ⟨(some 44), none, .e (.call 78 [(.tmp 39), (.tmp 41), (.tmp 43)])⟩, ⟨(some 45), none, .p (.un .not (.tmp 44))⟩, ⟨(some 46), none, .p (.mov (.tmp 45))⟩, ⟨(some 47), (some (46, false)), .p (.ld (some 2) (.tmp 1))⟩, ⟨(some 48), (some (46, false)), .p (.fad 2 (.tmp 6))⟩, ⟨(some 49), (some (46, false)), .p (.ld none (.tmp 48))⟩, ⟨(some 50), (some (46, false)), .p (.fad 3 (.tmp 6))⟩, ⟨(some 51), (some (46, false)), .p (.ld none (.tmp 50))⟩, ⟨(some 52), (some (46, false)), .e (.call 78 [(.tmp 47), (.tmp 49), (.tmp 51)])⟩, ⟨(some 53), (some (46, false)), .p (.un .not (.tmp 52))⟩, ⟨(some 54), none, .p (.pick (.tmp 46) (.const (.bool true)) (.tmp 53))⟩])
  (.cond (.tmp 54) (.seq (.reg [⟨(some 2), none, .p (.mov (.const (.int .i64 2)))⟩])
  .ret) .skip))))
  (.reg [⟨(some 55), none, .p (.bin .add (.tmp 35) (.const (.int .i64 1)))⟩, ⟨(some 35), none, .p (.mov (.tmp 55))⟩]))))
def lb46_3 : LC :=
  (.seq (.reg [⟨(some 25), none, .p (.bin .lss (.tmp 24) (.tmp 23))⟩])
  (.seq (.cond (.tmp 25) .skip (.exit 0))
  (.seq (.block 1
  (.seq (.reg [⟨(some 26), none, .p (.iad 3 (.tmp 22) (.tmp 24))⟩, ⟨(some 27), none, .p (.ld (some 3) (.tmp 26))⟩, ⟨(some 4), none, .e (.alc [(.string ⟨#[]⟩), (.bool false), (.int .i64 0)])⟩, ⟨none, none, .e (.st 3 (.tmp 4) (.tmp 27))⟩])
  (.seq (.reg [⟨(some 28), none, .p (.ld (some 3) (.tmp 4))⟩, ⟨(some 29), none, .e (.call 77 [(.tmp 28)])⟩, ⟨(some 30), none, .p (.un .not (.tmp 29))⟩])
  (.cond (.tmp 30) (.seq (.reg [⟨(some 2), none, .p (.mov (.const (.int .i64 1)))⟩])
  .ret) .skip))))
  (.reg [⟨(some 31), none, .p (.bin .add (.tmp 24) (.const (.int .i64 1)))⟩, ⟨(some 24), none, .p (.mov (.tmp 31))⟩]))))
def cf46 : LC :=
  (.seq (.reg [⟨(some 1), none, .e (.box (.tmp 0))⟩, ⟨(some 2), none, .p (.mov (.const (.int .i64 0)))⟩])
  (.seq (.seq (.reg [⟨(some 11), none, .p (.fad 0 (.tmp 1))⟩, ⟨(some 12), none, .p (.ld none (.tmp 11))⟩, ⟨(some 13), none, .p (.len 1 (.tmp 12))⟩, ⟨(some 14), none, .p (.bin .gtr (.tmp 13) (.const (.int .i64 16)))⟩, ⟨(some 15), none, .p (.mov (.tmp 14))⟩, ⟨(some 16), (some (15, false)), .p (.fad 1 (.tmp 1))⟩, ⟨(some 17), (some (15, false)), .p (.ld none (.tmp 16))⟩, ⟨(some 18), (some (15, false)), .p (.len 1 (.tmp 17))⟩, ⟨(some 19), (some (15, false)), .p (.bin .gtr (.tmp 18) (.const (.int .i64 32)))⟩, ⟨(some 20), none, .p (.pick (.tmp 15) (.const (.bool true)) (.tmp 19))⟩])
  (.cond (.tmp 20) (.seq (.reg [⟨(some 2), none, .p (.mov (.const (.int .i64 5)))⟩])
  .ret) .skip))
  (.seq (.seq (.reg [⟨(some 21), none, .p (.fad 0 (.tmp 1))⟩, ⟨(some 22), none, .p (.ld none (.tmp 21))⟩, ⟨(some 23), none, .p (.len 1 (.tmp 22))⟩, ⟨(some 24), none, .p (.mov (.const (.int .i64 0)))⟩])
  (.block 0
  (.loop lb46_3)))
  (.seq (.seq (.reg [⟨(some 32), none, .p (.fad 1 (.tmp 1))⟩, ⟨(some 33), none, .p (.ld none (.tmp 32))⟩, ⟨(some 34), none, .p (.len 1 (.tmp 33))⟩, ⟨(some 35), none, .p (.mov (.const (.int .i64 0)))⟩])
  (.block 2
  (.loop lb46_2)))
  (.seq (.seq (.reg [⟨(some 56), none, .p (.ld (some 2) (.tmp 1))⟩, ⟨(some 57), none, .e (.call 79 [(.tmp 56)])⟩])
  (.cond (.tmp 57) (.seq (.reg [⟨(some 2), none, .p (.mov (.const (.int .i64 8)))⟩])
  .ret) .skip))
  (.seq (.seq (.reg [⟨(some 58), none, .p (.fad 1 (.tmp 1))⟩, ⟨(some 59), none, .p (.ld none (.tmp 58))⟩, ⟨(some 60), none, .p (.len 1 (.tmp 59))⟩, ⟨(some 61), none, .p (.mov (.const (.int .i64 0)))⟩])
  (.block 4
  (.loop lb46_1)))
  (.seq (.seq (.reg [⟨(some 71), none, .p (.fad 1 (.tmp 1))⟩, ⟨(some 72), none, .p (.ld none (.tmp 71))⟩, ⟨(some 73), none, .p (.len 1 (.tmp 72))⟩, ⟨(some 74), none, .p (.mov (.const (.int .i64 0)))⟩])
  (.block 6
  (.loop lb46_0)))
  (.seq (.reg [⟨(some 2), none, .p (.mov (.const (.int .i64 0)))⟩])
  .ret))))))))
def rf46 : List RX := [.tmp 2]
set_option maxRecDepth 100000 in
theorem comp46 : cFn Tryd.prog Tryd.f46 = some (erase cf46, rf46) := by kernel_rfl
def cf77 : LC :=
  (.seq (.reg [⟨(some 1), none, .e (.box (.tmp 0))⟩, ⟨(some 2), none, .p (.mov (.const (.bool false)))⟩])
  (.seq (.seq (.reg [⟨(some 3), none, .p (.fad 0 (.tmp 1))⟩, ⟨(some 4), none, .p (.ld none (.tmp 3))⟩, ⟨(some 5), none, .e (.call 96 [(.tmp 4)])⟩, ⟨(some 6), none, .p (.un .not (.tmp 5))⟩])
  (.cond (.tmp 6) (.seq (.reg [⟨(some 2), none, .p (.mov (.const (.bool false)))⟩])
  .ret) .skip))
  (.seq (.seq (.reg [⟨(some 7), none, .p (.fad 1 (.tmp 1))⟩, ⟨(some 8), none, .p (.ld none (.tmp 7))⟩])
  (.cond (.tmp 8) (.seq (.reg [⟨(some 9), none, .p (.fad 2 (.tmp 1))⟩, ⟨(some 10), none, .p (.ld none (.tmp 9))⟩, ⟨(some 11), none, .p (.bin .geq (.tmp 10) (.const (.int .i64 1)))⟩, ⟨(some 12), none, .p (.mov (.tmp 11))⟩, ⟨(some 13), (some (12, true)), .p (.fad 2 (.tmp 1))⟩, ⟨(some 14), (some (12, true)), .p (.ld none (.tmp 13))⟩, ⟨(some 15), (some (12, true)), .p (.bin .leq (.tmp 14) (.const (.int .i64 8)))⟩, ⟨(some 16), none, .p (.pick (.tmp 12) (.tmp 15) (.const (.bool false)))⟩, ⟨(some 2), none, .p (.mov (.tmp 16))⟩])
  .ret) .skip))
  (.seq (.reg [⟨(some 17), none, .p (.fad 2 (.tmp 1))⟩, ⟨(some 18), none, .p (.ld none (.tmp 17))⟩, ⟨(some 19), none, .p (.bin .eql (.tmp 18) (.const (.int .i64 1)))⟩, ⟨(some 2), none, .p (.mov (.tmp 19))⟩])
  .ret))))
def rf77 : List RX := [.tmp 2]
set_option maxRecDepth 100000 in
theorem comp77 : cFn Tryd.prog Tryd.f77 = some (erase cf77, rf77) := by kernel_rfl
def cf78 : LC :=
  (.seq (.reg [⟨(some 3), none, .e (.box (.tmp 0))⟩, ⟨(some 6), none, .p (.mov (.const (.bool false)))⟩])
  (.seq (.reg [⟨(some 7), none, .p (.mov (.tmp 1))⟩, ⟨(some 8), none, .p (.bin .geq (.tmp 7) (.const (.int .i64 0)))⟩, ⟨(some 9), none, .p (.mov (.tmp 8))⟩, ⟨(some 10), (some (9, true)), .p (.mov (.tmp 1))⟩, ⟨(some 11), (some (9, true)), .p (.fad 0 (.tmp 3))⟩, ⟨(some 12), (some (9, true)), .p (.ld none (.tmp 11))⟩, ⟨(some 13), (some (9, true)), .p (.len 1 (.tmp 12))⟩, ⟨(some 14), (some (9, true)), .p (.bin .lss (.tmp 10) (.tmp 13))⟩, ⟨(some 15), none, .p (.pick (.tmp 9) (.tmp 14) (.const (.bool false)))⟩, ⟨(some 16), none, .p (.mov (.tmp 15))⟩, ⟨(some 17), (some (16, true)), .p (.mov (.tmp 2))⟩, ⟨(some 18), (some (16, true)), .p (.bin .geq (.tmp 17) (.const (.int .i64 0)))⟩, ⟨(some 19), none, .p (.pick (.tmp 16) (.tmp 18) (.const (.bool false)))⟩, ⟨(some 20), none, .p (.mov (.tmp 19))⟩, ⟨(some 21), (some (20, true)), .p (.mov (.tmp 2))⟩, ⟨(some 22), (some (20, true)), .p (.fad 0 (.tmp 3))⟩, ⟨(some 23), (some (20, true)), .p (.ld none (.tmp 22))⟩, ⟨(some 24), (some (20, true)), .p (.mov (.tmp 1))⟩, ⟨(some 25), (some (20, true)), .p (.iad 3 (.tmp 23) (.tmp 24))⟩, ⟨(some 26), (some (20, true)), .p (.fad 2 (.tmp 25))⟩, ⟨(some 27), (some (20, true)), .p (.ld none (.tmp 26))⟩, ⟨(some 28), (some (20, true)), .p (.bin .lss (.tmp 21) (.tmp 27))⟩, ⟨(some 29), none, .p (.pick (.tmp 20) (.tmp 28) (.const (.bool false)))⟩, ⟨(some 6), none, .p (.mov (.tmp 29))⟩])
  .ret))
def rf78 : List RX := [.tmp 6]
set_option maxRecDepth 100000 in
theorem comp78 : cFn Tryd.prog Tryd.f78 = some (erase cf78, rf78) := by kernel_rfl
def lb79_0 : LC :=
  (.seq (.reg [⟨(some 47), none, .p (.bin .lss (.tmp 46) (.const (.int .i64 2)))⟩])
  (.seq (.cond (.tmp 47) .skip (.exit 4))
  (.seq (.block 5
  (.seq (.reg [⟨(some 48), none, .p (.idxa 2 2 (some 2) (.tmp 45) (.tmp 46))⟩, ⟨(some 10), none, .e (.alc [(.int .i64 0), (.int .i64 0)])⟩, ⟨none, none, .e (.st 2 (.tmp 10) (.tmp 48))⟩])
  (.seq (.seq (.reg [⟨(some 49), none, .p (.mov (.tmp 6))⟩, ⟨(some 50), none, .p (.ld (some 2) (.tmp 10))⟩, ⟨(some 51), none, .p (.lkp 85 (.bool false) false (.tmp 49) (.tmp 50))⟩])
  (.cond (.tmp 51) (.seq (.reg [⟨(some 2), none, .p (.mov (.const (.bool true)))⟩])
  .ret) .skip))
  (.reg [⟨(some 52), none, .p (.mov (.tmp 6))⟩, ⟨(some 53), none, .p (.ld (some 2) (.tmp 10))⟩, ⟨none, none, .e (.mup 85 (.tmp 52) (.tmp 53) (.const (.bool true)))⟩]))))
  (.reg [⟨(some 54), none, .p (.bin .add (.tmp 46) (.const (.int .i64 1)))⟩, ⟨(some 46), none, .p (.mov (.tmp 54))⟩]))))
def lb79_1 : LC :=
  (.seq (.reg [⟨(some 32), none, .p (.bin .lss (.tmp 31) (.tmp 30))⟩])
  (.seq (.cond (.tmp 32) .skip (.exit 2))
  (.seq (.block 3
  (.seq (.reg [⟨(some 33), none, .p (.iad 6 (.tmp 29) (.tmp 31))⟩, ⟨(some 34), none, .p (.ld (some 6) (.tmp 33))⟩, ⟨(some 8), none, .e (.alc [(.int .i64 0), (.int .i64 0), (.int .i64 0), (.int .i64 0), (.int .i64 0), (.int .i64 0)])⟩, ⟨none, none, .e (.st 6 (.tmp 8) (.tmp 34))⟩])
  (.seq (.reg [⟨(some 35), none, .p (.fad 0 (.tmp 8))⟩, ⟨(some 36), none, .p (.ld none (.tmp 35))⟩, ⟨(some 37), none, .p (.fad 1 (.tmp 8))⟩, ⟨(some 38), none, .p (.ld none (.tmp 37))⟩, ⟨(some 39), none, .p (.bld [(.int .i64 0), (.int .i64 0)] [(0, 1, (.tmp 36)), (1, 1, (.tmp 38))])⟩, ⟨(some 40), none, .p (.fad 2 (.tmp 8))⟩, ⟨(some 41), none, .p (.ld none (.tmp 40))⟩, ⟨(some 42), none, .p (.fad 3 (.tmp 8))⟩, ⟨(some 43), none, .p (.ld none (.tmp 42))⟩, ⟨(some 44), none, .p (.bld [(.int .i64 0), (.int .i64 0)] [(0, 1, (.tmp 41)), (1, 1, (.tmp 43))])⟩, ⟨(some 45), none, .p (.bld [(.int .i64 0), (.int .i64 0), (.int .i64 0), (.int .i64 0)] [(0, 2, (.tmp 39)), (2, 2, (.tmp 44))])⟩, ⟨(some 46), none, .p (.mov (.const (.int .i64 0)))⟩])
  (.block 4
  (.loop lb79_0)))))
  (.reg [⟨(some 55), none, .p (.bin .add (.tmp 31) (.const (.int .i64 1)))⟩, ⟨(some 31), none, .p (.mov (.tmp 55))⟩]))))
def lb79_2 : LC :=
  (.seq (.reg [⟨(some 16), none, .p (.bin .lss (.tmp 15) (.tmp 14))⟩])
  (.seq (.cond (.tmp 16) .skip (.exit 0))
  (.seq (.block 1
  (.seq (.reg [⟨(some 17), none, .p (.iad 3 (.tmp 13) (.tmp 15))⟩, ⟨(some 18), none, .p (.ld (some 3) (.tmp 17))⟩, ⟨(some 5), none, .e (.alc [(.string ⟨#[]⟩), (.bool false), (.int .i64 0)])⟩, ⟨none, none, .e (.st 3 (.tmp 5) (.tmp 18))⟩])
  (.seq (.seq (.reg [⟨(some 19), none, .p (.mov (.tmp 3))⟩, ⟨(some 20), none, .p (.fad 0 (.tmp 5))⟩, ⟨(some 21), none, .p (.ld none (.tmp 20))⟩, ⟨(some 22), none, .p (.lkp 9 (.bool false) false (.tmp 19) (.tmp 21))⟩])
  (.cond (.tmp 22) (.seq (.reg [⟨(some 2), none, .p (.mov (.const (.bool true)))⟩])
  .ret) .skip))
  (.reg [⟨(some 23), none, .p (.mov (.tmp 3))⟩, ⟨(some 24), none, .p (.fad 0 (.tmp 5))⟩, ⟨(some 25), none, .p (.ld none (.tmp 24))⟩, ⟨none, none, .e (.mup 9 (.tmp 23) (.tmp 25) (.const (.bool true)))⟩]))))
  (.reg [⟨(some 26), none, .p (.bin .add (.tmp 15) (.const (.int .i64 1)))⟩, ⟨(some 15), none, .p (.mov (.tmp 26))⟩]))))
def cf79 : LC :=
  (.seq (.reg [⟨(some 1), none, .e (.box (.tmp 0))⟩, ⟨(some 2), none, .p (.mov (.const (.bool false)))⟩])
  (.seq (.reg [⟨(some 11), none, .e (.mkm)⟩, ⟨(some 3), none, .p (.mov (.tmp 11))⟩])
  (.seq (.seq (.reg [⟨(some 12), none, .p (.fad 0 (.tmp 1))⟩, ⟨(some 13), none, .p (.ld none (.tmp 12))⟩, ⟨(some 14), none, .p (.len 1 (.tmp 13))⟩, ⟨(some 15), none, .p (.mov (.const (.int .i64 0)))⟩])
  (.block 0
  (.loop lb79_2)))
  (.seq (.reg [⟨(some 27), none, .e (.mkm)⟩, ⟨(some 6), none, .p (.mov (.tmp 27))⟩])
  (.seq (.seq (.reg [⟨(some 28), none, .p (.fad 1 (.tmp 1))⟩, ⟨(some 29), none, .p (.ld none (.tmp 28))⟩, ⟨(some 30), none, .p (.len 1 (.tmp 29))⟩, ⟨(some 31), none, .p (.mov (.const (.int .i64 0)))⟩])
  (.block 2
  (.loop lb79_1)))
  (.seq (.reg [⟨(some 2), none, .p (.mov (.const (.bool false)))⟩])
  .ret))))))
def rf79 : List RX := [.tmp 2]
set_option maxRecDepth 100000 in
theorem comp79 : cFn Tryd.prog Tryd.f79 = some (erase cf79, rf79) := by kernel_rfl
def lb96_0 : LC :=
  (.seq (.reg [⟨(some 17), none, .p (.bin .lss (.tmp 16) (.tmp 15))⟩])
  (.seq (.cond (.tmp 17) .skip (.exit 0))
  (.seq (.block 1
  (.seq (.reg [⟨(some 18), none, .p (.mov (.tmp 16))⟩, ⟨(some 3), none, .p (.mov (.tmp 18))⟩])
  (.seq (.reg [⟨(some 19), none, .p (.mov (.tmp 0))⟩, ⟨(some 20), none, .p (.mov (.tmp 3))⟩, ⟨(some 21), none, .p (.idxs (.tmp 19) (.tmp 20))⟩, ⟨(some 22), none, .p (.bin .geq (.tmp 21) (.const (.int .u8 97)))⟩, ⟨(some 23), none, .p (.mov (.tmp 22))⟩, ⟨(some 24), (some (23, true)), .p (.mov (.tmp 0))⟩, ⟨(some 25), (some (23, true)), .p (.mov (.tmp 3))⟩, ⟨(some 26), (some (23, true)), .p (.idxs (.tmp 24) (.tmp 25))⟩, ⟨(some 27), (some (23, true)), .p (.bin .leq (.tmp 26) (.const (.int .u8 122)))⟩, ⟨(some 28), none, .p (.pick (.tmp 23) (.tmp 27) (.const (.bool false)))⟩, ⟨(some 4), none, .p (.mov (.tmp 28))⟩])
  (.seq (.reg [⟨(some 29), none, .p (.mov (.tmp 0))⟩, ⟨(some 30), none, .p (.mov (.tmp 3))⟩, ⟨(some 31), none, .p (.idxs (.tmp 29) (.tmp 30))⟩, ⟨(some 32), none, .p (.bin .geq (.tmp 31) (.const (.int .u8 48)))⟩, ⟨(some 33), none, .p (.mov (.tmp 32))⟩, ⟨(some 34), (some (33, true)), .p (.mov (.tmp 0))⟩, ⟨(some 35), (some (33, true)), .p (.mov (.tmp 3))⟩, ⟨(some 36), (some (33, true)), .p (.idxs (.tmp 34) (.tmp 35))⟩, ⟨(some 37), (some (33, true)), .p (.bin .leq (.tmp 36) (.const (.int .u8 57)))⟩, ⟨(some 38), none, .p (.pick (.tmp 33) (.tmp 37) (.const (.bool false)))⟩, ⟨(some 5), none, .p (.mov (.tmp 38))⟩])
  (.seq (.reg [⟨(some 39), none, .p (.mov (.tmp 4))⟩, ⟨(some 40), none, .p (.un .not (.tmp 39))⟩, ⟨(some 41), none, .p (.mov (.tmp 40))⟩, ⟨(some 42), (some (41, true)), .p (.mov (.tmp 3))⟩, ⟨(some 43), (some (41, true)), .p (.bin .eql (.tmp 42) (.const (.int .i64 0)))⟩, ⟨(some 44), (some (41, true)), .p (.mov (.tmp 43))⟩, ⟨(some 45), (some (44, false)), .p (.mov (.tmp 5))⟩, ⟨(some 46), (some (44, false)), .p (.un .not (.tmp 45))⟩, ⟨(some 47), (some (41, true)), .p (.pick (.tmp 44) (.const (.bool true)) (.tmp 46))⟩, ⟨(some 48), none, .p (.pick (.tmp 41) (.tmp 47) (.const (.bool false)))⟩])
  (.cond (.tmp 48) (.seq (.reg [⟨(some 2), none, .p (.mov (.const (.bool false)))⟩])
  .ret) .skip))))))
  (.reg [⟨(some 49), none, .p (.bin .add (.tmp 16) (.const (.int .i64 1)))⟩, ⟨(some 16), none, .p (.mov (.tmp 49))⟩]))))
def cf96 : LC :=
  (.seq (.reg [⟨(some 2), none, .p (.mov (.const (.bool false)))⟩])
  (.seq (.seq (.reg [⟨(some 6), none, .p (.mov (.tmp 0))⟩, ⟨(some 7), none, .p (.len 0 (.tmp 6))⟩, ⟨(some 8), none, .p (.bin .lss (.tmp 7) (.const (.int .i64 1)))⟩, ⟨(some 9), none, .p (.mov (.tmp 8))⟩, ⟨(some 10), (some (9, false)), .p (.mov (.tmp 0))⟩, ⟨(some 11), (some (9, false)), .p (.len 0 (.tmp 10))⟩, ⟨(some 12), (some (9, false)), .p (.bin .gtr (.tmp 11) (.const (.int .i64 20)))⟩, ⟨(some 13), none, .p (.pick (.tmp 9) (.const (.bool true)) (.tmp 12))⟩])
  (.cond (.tmp 13) (.seq (.reg [⟨(some 2), none, .p (.mov (.const (.bool false)))⟩])
  .ret) .skip))
  (.seq (.seq (.reg [⟨(some 14), none, .p (.mov (.tmp 0))⟩, ⟨(some 15), none, .p (.len 0 (.tmp 14))⟩, ⟨(some 16), none, .p (.mov (.const (.int .i64 0)))⟩])
  (.block 0
  (.loop lb96_0)))
  (.seq (.reg [⟨(some 2), none, .p (.mov (.const (.bool true)))⟩])
  .ret))))
def rf96 : List RX := [.tmp 2]
set_option maxRecDepth 100000 in
theorem comp96 : cFn Tryd.prog Tryd.f96 = some (erase cf96, rf96) := by kernel_rfl
end Go.Proofs.YtcdepkflghcjpaaDoor
namespace Go.Proofs.YtcdepkflghcjpaaDoor
def lb37_0 : LC :=
  (.seq (.reg [⟨(some 102), none, .p (.bin .lss (.tmp 101) (.tmp 100))⟩])
  (.seq (.cond (.tmp 102) .skip (.exit 5))
  (.seq (.block 6
  (.seq (.reg [⟨(some 103), none, .p (.mov (.tmp 101))⟩, ⟨(some 104), none, .p (.iad 1 (.tmp 99) (.tmp 101))⟩, ⟨(some 105), none, .p (.ld none (.tmp 104))⟩, ⟨(some 11), none, .p (.mov (.tmp 103))⟩, ⟨(some 12), none, .p (.mov (.tmp 105))⟩])
  (.seq (.reg [⟨(some 106), none, .p (.mov (.tmp 12))⟩, ⟨(some 107), none, .p (.bin .gtr (.tmp 106) (.const (.int .i64 0)))⟩, ⟨(some 108), none, .p (.mov (.tmp 107))⟩, ⟨(some 109), (some (108, true)), .p (.mov (.tmp 8))⟩, ⟨(some 110), (some (108, true)), .p (.mov (.tmp 11))⟩, ⟨(some 111), (some (108, true)), .p (.iad 1 (.tmp 109) (.tmp 110))⟩, ⟨(some 112), (some (108, true)), .p (.ld none (.tmp 111))⟩, ⟨(some 113), (some (108, true)), .p (.un .not (.tmp 112))⟩, ⟨(some 114), none, .p (.pick (.tmp 108) (.tmp 113) (.const (.bool false)))⟩])
  (.cond (.tmp 114) (.seq (.reg [⟨(some 4), none, .p (.mov (.const (.bool false)))⟩])
  .ret) .skip))))
  (.reg [⟨(some 115), none, .p (.bin .add (.tmp 101) (.const (.int .i64 1)))⟩, ⟨(some 101), none, .p (.mov (.tmp 115))⟩]))))
def lb37_1 : LC :=
  (.seq (.reg [⟨(some 56), none, .p (.bin .lss (.tmp 55) (.tmp 54))⟩])
  (.seq (.cond (.tmp 56) .skip (.exit 2))
  (.seq (.block 3
  (.seq (.reg [⟨(some 57), none, .p (.iad 6 (.tmp 53) (.tmp 55))⟩, ⟨(some 58), none, .p (.ld (some 6) (.tmp 57))⟩, ⟨(some 10), none, .e (.alc [(.int .i64 0), (.int .i64 0), (.int .i64 0), (.int .i64 0), (.int .i64 0), (.int .i64 0)])⟩, ⟨none, none, .e (.st 6 (.tmp 10) (.tmp 58))⟩])
  (.block 4
  (.seq (.dreg [⟨(some 60), none, .p (.fad 0 (.tmp 3))⟩, ⟨(some 61), none, .p (.ld none (.tmp 60))⟩, ⟨(some 62), none, .p (.fad 0 (.tmp 10))⟩, ⟨(some 63), none, .p (.ld none (.tmp 62))⟩, ⟨(some 64), none, .p (.iad 1 (.tmp 61) (.tmp 63))⟩, ⟨(some 65), none, .p (.ld none (.tmp 64))⟩, ⟨(some 66), none, .p (.fad 0 (.tmp 3))⟩, ⟨(some 67), none, .p (.ld none (.tmp 66))⟩, ⟨(some 68), none, .p (.fad 2 (.tmp 10))⟩, ⟨(some 69), none, .p (.ld none (.tmp 68))⟩, ⟨(some 70), none, .p (.iad 1 (.tmp 67) (.tmp 69))⟩, ⟨(some 71), none, .p (.ld none (.tmp 70))⟩, ⟨(some 72), none, .p (.bin .sub (.tmp 71) (.const (.int .i64 1)))⟩, ⟨(some 73), none, .p (.bin .eql (.tmp 65) (.tmp 72))⟩] [[⟨(some 59), none, .p (.mov (.tmp 73))⟩]])
  (.cond (.tmp 59) (.reg [⟨(some 74), none, .p (.mov (.tmp 8))⟩, ⟨(some 75), none, .p (.fad 2 (.tmp 10))⟩, ⟨(some 76), none, .p (.ld none (.tmp 75))⟩, ⟨(some 77), none, .p (.iad 1 (.tmp 74) (.tmp 76))⟩, ⟨none, none, .e (.st 1 (.tmp 77) (.const (.bool true)))⟩]) (.seq (.dreg [⟨(some 79), none, .p (.fad 0 (.tmp 3))⟩, ⟨(some 80), none, .p (.ld none (.tmp 79))⟩, ⟨(some 81), none, .p (.fad 2 (.tmp 10))⟩, ⟨(some 82), none, .p (.ld none (.tmp 81))⟩, ⟨(some 83), none, .p (.iad 1 (.tmp 80) (.tmp 82))⟩, ⟨(some 84), none, .p (.ld none (.tmp 83))⟩, ⟨(some 85), none, .p (.fad 0 (.tmp 3))⟩, ⟨(some 86), none, .p (.ld none (.tmp 85))⟩, ⟨(some 87), none, .p (.fad 0 (.tmp 10))⟩, ⟨(some 88), none, .p (.ld none (.tmp 87))⟩, ⟨(some 89), none, .p (.iad 1 (.tmp 86) (.tmp 88))⟩, ⟨(some 90), none, .p (.ld none (.tmp 89))⟩, ⟨(some 91), none, .p (.bin .sub (.tmp 90) (.const (.int .i64 1)))⟩, ⟨(some 92), none, .p (.bin .eql (.tmp 84) (.tmp 91))⟩] [[⟨(some 78), none, .p (.mov (.tmp 92))⟩]])
  (.cond (.tmp 78) (.reg [⟨(some 93), none, .p (.mov (.tmp 8))⟩, ⟨(some 94), none, .p (.fad 0 (.tmp 10))⟩, ⟨(some 95), none, .p (.ld none (.tmp 94))⟩, ⟨(some 96), none, .p (.iad 1 (.tmp 93) (.tmp 95))⟩, ⟨none, none, .e (.st 1 (.tmp 96) (.const (.bool true)))⟩]) .skip)))))))
  (.reg [⟨(some 97), none, .p (.bin .add (.tmp 55) (.const (.int .i64 1)))⟩, ⟨(some 55), none, .p (.mov (.tmp 97))⟩]))))
def lb37_2 : LC :=
  (.seq (.reg [⟨(some 29), none, .p (.bin .lss (.tmp 28) (.tmp 27))⟩])
  (.seq (.cond (.tmp 29) .skip (.exit 0))
  (.seq (.block 1
  (.seq (.reg [⟨(some 30), none, .p (.iad 1 (.tmp 26) (.tmp 28))⟩, ⟨(some 31), none, .p (.ld none (.tmp 30))⟩, ⟨(some 7), none, .p (.mov (.tmp 31))⟩])
  (.seq (.seq (.reg [⟨(some 32), none, .p (.mov (.tmp 7))⟩, ⟨(some 33), none, .p (.bin .lss (.tmp 32) (.const (.int .i64 (-1))))⟩, ⟨(some 34), none, .p (.mov (.tmp 33))⟩, ⟨(some 35), (some (34, false)), .p (.mov (.tmp 7))⟩, ⟨(some 36), (some (34, false)), .p (.fad 0 (.tmp 2))⟩, ⟨(some 37), (some (34, false)), .p (.ld none (.tmp 36))⟩, ⟨(some 38), (some (34, false)), .p (.len 1 (.tmp 37))⟩, ⟨(some 39), (some (34, false)), .p (.bin .geq (.tmp 35) (.tmp 38))⟩, ⟨(some 40), none, .p (.pick (.tmp 34) (.const (.bool true)) (.tmp 39))⟩])
  (.cond (.tmp 40) (.seq (.reg [⟨(some 4), none, .p (.mov (.const (.bool false)))⟩])
  .ret) .skip))
  (.seq (.reg [⟨(some 41), none, .p (.mov (.tmp 7))⟩, ⟨(some 42), none, .p (.bin .eql (.tmp 41) (.const (.int .i64 0)))⟩])
  (.cond (.tmp 42) (.reg [⟨(some 43), none, .p (.mov (.tmp 5))⟩, ⟨(some 44), none, .p (.bin .add (.tmp 43) (.const (.int .i64 1)))⟩, ⟨(some 5), none, .p (.mov (.tmp 44))⟩]) .skip)))))
  (.reg [⟨(some 45), none, .p (.bin .add (.tmp 28) (.const (.int .i64 1)))⟩, ⟨(some 28), none, .p (.mov (.tmp 45))⟩]))))
def cf37 : LC :=
  (.seq (.reg [⟨(some 2), none, .e (.box (.tmp 0))⟩, ⟨(some 3), none, .e (.box (.tmp 1))⟩, ⟨(some 4), none, .p (.mov (.const (.bool false)))⟩])
  (.seq (.seq (.reg [⟨(some 13), none, .p (.ld (some 2) (.tmp 2))⟩, ⟨(some 14), none, .e (.call 46 [(.tmp 13)])⟩, ⟨(some 15), none, .p (.bin .neq (.tmp 14) (.const (.int .i64 0)))⟩, ⟨(some 16), none, .p (.mov (.tmp 15))⟩, ⟨(some 17), (some (16, false)), .p (.fad 0 (.tmp 3))⟩, ⟨(some 18), (some (16, false)), .p (.ld none (.tmp 17))⟩, ⟨(some 19), (some (16, false)), .p (.len 1 (.tmp 18))⟩, ⟨(some 20), (some (16, false)), .p (.fad 0 (.tmp 2))⟩, ⟨(some 21), (some (16, false)), .p (.ld none (.tmp 20))⟩, ⟨(some 22), (some (16, false)), .p (.len 1 (.tmp 21))⟩, ⟨(some 23), (some (16, false)), .p (.bin .neq (.tmp 19) (.tmp 22))⟩, ⟨(some 24), none, .p (.pick (.tmp 16) (.const (.bool true)) (.tmp 23))⟩])
  (.cond (.tmp 24) (.seq (.reg [⟨(some 4), none, .p (.mov (.const (.bool false)))⟩])
  .ret) .skip))
  (.seq (.reg [⟨(some 5), none, .p (.mov (.const (.int .i64 0)))⟩])
  (.seq (.seq (.reg [⟨(some 25), none, .p (.fad 0 (.tmp 3))⟩, ⟨(some 26), none, .p (.ld none (.tmp 25))⟩, ⟨(some 27), none, .p (.len 1 (.tmp 26))⟩, ⟨(some 28), none, .p (.mov (.const (.int .i64 0)))⟩])
  (.block 0
  (.loop lb37_2)))
  (.seq (.seq (.reg [⟨(some 46), none, .p (.mov (.tmp 5))⟩, ⟨(some 47), none, .p (.bin .neq (.tmp 46) (.const (.int .i64 1)))⟩])
  (.cond (.tmp 47) (.seq (.reg [⟨(some 4), none, .p (.mov (.const (.bool false)))⟩])
  .ret) .skip))
  (.seq (.reg [⟨(some 48), none, .p (.fad 0 (.tmp 2))⟩, ⟨(some 49), none, .p (.ld none (.tmp 48))⟩, ⟨(some 50), none, .p (.len 1 (.tmp 49))⟩, ⟨(some 51), none, .e (.mks 2 1 [(.bool false)] 1 (.tmp 50) (.tmp 50))⟩, ⟨(some 8), none, .p (.mov (.tmp 51))⟩])
  (.seq (.seq (.reg [⟨(some 52), none, .p (.fad 1 (.tmp 2))⟩, ⟨(some 53), none, .p (.ld none (.tmp 52))⟩, ⟨(some 54), none, .p (.len 1 (.tmp 53))⟩, ⟨(some 55), none, .p (.mov (.const (.int .i64 0)))⟩])
  (.block 2
  (.loop lb37_1)))
  (.seq (.seq (.reg [⟨(some 98), none, .p (.fad 0 (.tmp 3))⟩, ⟨(some 99), none, .p (.ld none (.tmp 98))⟩, ⟨(some 100), none, .p (.len 1 (.tmp 99))⟩, ⟨(some 101), none, .p (.mov (.const (.int .i64 0)))⟩])
  (.block 5
  (.loop lb37_0)))
  (.seq (.reg [⟨(some 4), none, .p (.mov (.const (.bool true)))⟩])
  .ret)))))))))
def rf37 : List RX := [.tmp 4]
set_option maxRecDepth 100000 in
theorem comp37 : cFn Tryd.prog Tryd.f37 = some (erase cf37, rf37) := by kernel_rfl
def cf40 : LC :=
  (.seq (.reg [⟨(some 3), none, .e (.box (.tmp 0))⟩, ⟨(some 6), none, .p (.mov (.const (.bool false)))⟩])
  (.seq (.reg [⟨(some 8), none, .p (.mkf 72 [(.tmp 3)])⟩, ⟨(some 7), none, .p (.mov (.tmp 8))⟩])
  (.seq (.seq (.reg [⟨(some 9), none, .p (.mov (.tmp 7))⟩, ⟨(some 10), none, .p (.mov (.tmp 1))⟩, ⟨(some 11), none, .e (.calv (.tmp 9) [(.tmp 10)])⟩, ⟨(some 12), none, .p (.un .not (.tmp 11))⟩, ⟨(some 13), none, .p (.mov (.tmp 12))⟩, ⟨(some 14), (some (13, false)), .p (.mov (.tmp 7))⟩, ⟨(some 15), (some (13, false)), .p (.mov (.tmp 2))⟩, ⟨(some 16), (some (13, false)), .e (.calv (.tmp 14) [(.tmp 15)])⟩, ⟨(some 17), (some (13, false)), .p (.un .not (.tmp 16))⟩, ⟨(some 18), none, .p (.pick (.tmp 13) (.const (.bool true)) (.tmp 17))⟩])
  (.cond (.tmp 18) (.seq (.reg [⟨(some 6), none, .p (.mov (.const (.bool false)))⟩])
  .ret) .skip))
  (.seq (.dreg [⟨(some 19), none, .p (.fad 0 (.tmp 3))⟩, ⟨(some 20), none, .p (.ld none (.tmp 19))⟩, ⟨(some 21), none, .p (.mov (.tmp 1))⟩, ⟨(some 22), none, .p (.iad 1 (.tmp 20) (.tmp 21))⟩, ⟨(some 23), none, .p (.ld none (.tmp 22))⟩, ⟨(some 24), none, .p (.fad 0 (.tmp 3))⟩, ⟨(some 25), none, .p (.ld none (.tmp 24))⟩, ⟨(some 26), none, .p (.mov (.tmp 2))⟩, ⟨(some 27), none, .p (.iad 1 (.tmp 25) (.tmp 26))⟩, ⟨(some 28), none, .p (.ld none (.tmp 27))⟩, ⟨(some 29), none, .e (.call 74 [(.tmp 23), (.tmp 28)])⟩, ⟨(some 30), none, .p (.mov (.tmp 1))⟩, ⟨(some 31), none, .p (.mov (.tmp 2))⟩, ⟨(some 32), none, .e (.call 74 [(.tmp 30), (.tmp 31)])⟩, ⟨(some 33), none, .e (.bsr 2 1 [(.int .i64 0)] [(0, 1, (.tmp 29)), (1, 1, (.tmp 32))])⟩, ⟨(some 34), none, .e (.call 73 [(.tmp 33)])⟩, ⟨(some 35), none, .p (.bin .lss (.tmp 34) (.const (.int .i64 0)))⟩] [[⟨(some 6), none, .p (.mov (.tmp 35))⟩]])
  .ret))))
def rf40 : List RX := [.tmp 6]
set_option maxRecDepth 100000 in
theorem comp40 : cFn Tryd.prog Tryd.f40 = some (erase cf40, rf40) := by kernel_rfl
def cf72 : LC :=
  (.seq (.reg [⟨(some 3), none, .p (.mov (.const (.bool false)))⟩])
  (.seq (.reg [⟨(some 4), none, .p (.mov (.tmp 0))⟩, ⟨(some 5), none, .p (.bin .geq (.tmp 4) (.const (.int .i64 0)))⟩, ⟨(some 6), none, .p (.mov (.tmp 5))⟩, ⟨(some 7), (some (6, true)), .p (.mov (.tmp 0))⟩, ⟨(some 8), (some (6, true)), .p (.fad 0 (.tmp 1))⟩, ⟨(some 9), (some (6, true)), .p (.ld none (.tmp 8))⟩, ⟨(some 10), (some (6, true)), .p (.len 1 (.tmp 9))⟩, ⟨(some 11), (some (6, true)), .p (.bin .lss (.tmp 7) (.tmp 10))⟩, ⟨(some 12), none, .p (.pick (.tmp 6) (.tmp 11) (.const (.bool false)))⟩, ⟨(some 13), none, .p (.mov (.tmp 12))⟩, ⟨(some 14), (some (13, true)), .p (.fad 0 (.tmp 1))⟩, ⟨(some 15), (some (13, true)), .p (.ld none (.tmp 14))⟩, ⟨(some 16), (some (13, true)), .p (.mov (.tmp 0))⟩, ⟨(some 17), (some (13, true)), .p (.iad 1 (.tmp 15) (.tmp 16))⟩, ⟨(some 18), (some (13, true)), .p (.ld none (.tmp 17))⟩, ⟨(some 19), (some (13, true)), .p (.bin .geq (.tmp 18) (.const (.int .i64 0)))⟩, ⟨(some 20), none, .p (.pick (.tmp 13) (.tmp 19) (.const (.bool false)))⟩, ⟨(some 3), none, .p (.mov (.tmp 20))⟩])
  .ret))
def rf72 : List RX := [.tmp 3]
set_option maxRecDepth 100000 in
theorem comp72 : cFn Tryd.prog Tryd.f72 = some (erase cf72, rf72) := by kernel_rfl
end Go.Proofs.YtcdepkflghcjpaaDoor
namespace Go.Proofs.YtcdepkflghcjpaaDoor
def lb13_0 : LC :=
  (.seq (.reg [⟨(some 83), none, .p (.bin .lss (.tmp 82) (.const (.int .i64 2)))⟩])
  (.seq (.cond (.tmp 83) .skip (.exit 4))
  (.seqj (.block 5
  (.seq (.reg [⟨(some 84), none, .p (.mov (.tmp 82))⟩, ⟨(some 85), none, .p (.idxa 2 1 none (.tmp 81) (.tmp 82))⟩, ⟨(some 16), none, .p (.mov (.tmp 84))⟩, ⟨(some 17), none, .p (.mov (.tmp 85))⟩])
  (.dreg [⟨(some 86), none, .p (.fad 0 (.tmp 8))⟩, ⟨(some 88), none, .p (.mov (.tmp 14))⟩, ⟨(some 89), none, .p (.mov (.tmp 16))⟩, ⟨(some 90), none, .p (.fad 0 (.tmp 8))⟩, ⟨(some 91), none, .p (.ld none (.tmp 90))⟩, ⟨(some 92), none, .p (.mov (.tmp 14))⟩, ⟨(some 93), none, .p (.mov (.tmp 16))⟩, ⟨(some 94), none, .p (.iad 2 (.tmp 91) (.tmp 92))⟩, ⟨(some 95), none, .p (.iada 2 1 (.tmp 94) (.tmp 93))⟩, ⟨(some 96), none, .p (.ld none (.tmp 95))⟩, ⟨(some 97), none, .p (.mov (.tmp 17))⟩, ⟨(some 98), none, .e (.bsr 1 1 [(.int .i64 0)] [(0, 1, (.tmp 97))])⟩] [[⟨(some 87), none, .p (.ld none (.tmp 86))⟩, ⟨(some 99), none, .e (.app 1 1 8 (.tmp 96) (.tmp 98))⟩, ⟨(some 100), none, .p (.iad 2 (.tmp 87) (.tmp 88))⟩, ⟨(some 101), none, .p (.iada 2 1 (.tmp 100) (.tmp 89))⟩, ⟨none, none, .e (.st 1 (.tmp 101) (.tmp 99))⟩], [⟨(some 87), none, .p (.ld none (.tmp 86))⟩, ⟨(some 100), none, .p (.iad 2 (.tmp 87) (.tmp 88))⟩, ⟨(some 99), none, .e (.app 1 1 8 (.tmp 96) (.tmp 98))⟩, ⟨(some 101), none, .p (.iada 2 1 (.tmp 100) (.tmp 89))⟩, ⟨none, none, .e (.st 1 (.tmp 101) (.tmp 99))⟩], [⟨(some 99), none, .e (.app 1 1 8 (.tmp 96) (.tmp 98))⟩, ⟨(some 87), none, .p (.ld none (.tmp 86))⟩, ⟨(some 100), none, .p (.iad 2 (.tmp 87) (.tmp 88))⟩, ⟨(some 101), none, .p (.iada 2 1 (.tmp 100) (.tmp 89))⟩, ⟨none, none, .e (.st 1 (.tmp 101) (.tmp 99))⟩]])))
  (.reg [⟨(some 102), none, .p (.bin .add (.tmp 82) (.const (.int .i64 1)))⟩, ⟨(some 82), none, .p (.mov (.tmp 102))⟩]))))
def lb13_1 : LC :=
  (.seq (.reg [⟨(some 60), none, .p (.bin .lss (.tmp 59) (.tmp 58))⟩])
  (.seq (.cond (.tmp 60) .skip (.exit 2))
  (.seq (.block 3
  (.seq (.reg [⟨(some 61), none, .p (.mov (.tmp 59))⟩, ⟨(some 14), none, .p (.mov (.tmp 61))⟩])
  (.seq (.reg [⟨(some 62), none, .p (.bld [(.int .i64 0), (.int .i64 0)] [(0, 1, (.const (.int .i64 (-2)))), (1, 1, (.const (.int .i64 (-2))))])⟩, ⟨(some 15), none, .e (.alc [(.int .i64 0), (.int .i64 0)])⟩, ⟨none, none, .e (.st 2 (.tmp 15) (.tmp 62))⟩])
  (.seqj (.seq (.reg [⟨(some 63), none, .p (.mov (.tmp 14))⟩, ⟨(some 64), none, .p (.mov (.tmp 9))⟩, ⟨(some 65), none, .p (.bin .neq (.tmp 63) (.tmp 64))⟩])
  (.cond (.tmp 65) (.dreg [⟨(some 66), none, .p (.mov (.tmp 13))⟩, ⟨(some 67), none, .p (.mov (.tmp 14))⟩, ⟨(some 68), none, .p (.ld none (.tmp 10))⟩, ⟨(some 69), none, .p (.mov (.tmp 14))⟩, ⟨(some 70), none, .p (.iad 1 (.tmp 68) (.tmp 69))⟩, ⟨(some 71), none, .p (.ld none (.tmp 70))⟩, ⟨(some 72), none, .e (.calv (.tmp 66) [(.tmp 67), (.tmp 71), (.const (.bool true))])⟩, ⟨(some 73), none, .p (.mov (.tmp 13))⟩, ⟨(some 74), none, .p (.mov (.tmp 14))⟩, ⟨(some 75), none, .p (.ld none (.tmp 11))⟩, ⟨(some 76), none, .p (.mov (.tmp 14))⟩, ⟨(some 77), none, .p (.iad 1 (.tmp 75) (.tmp 76))⟩, ⟨(some 78), none, .p (.ld none (.tmp 77))⟩, ⟨(some 79), none, .e (.calv (.tmp 73) [(.tmp 74), (.tmp 78), (.const (.bool false))])⟩, ⟨(some 80), none, .p (.bld [(.int .i64 0), (.int .i64 0)] [(0, 1, (.tmp 72)), (1, 1, (.tmp 79))])⟩] [[⟨none, none, .e (.st 2 (.tmp 15) (.tmp 80))⟩]]) .skip))
  (.seq (.reg [⟨(some 81), none, .p (.ld (some 2) (.tmp 15))⟩, ⟨(some 82), none, .p (.mov (.const (.int .i64 0)))⟩])
  (.block 4
  (.loop lb13_0)))))))
  (.reg [⟨(some 103), none, .p (.bin .add (.tmp 59) (.const (.int .i64 1)))⟩, ⟨(some 59), none, .p (.mov (.tmp 103))⟩]))))
def lb13_2 : LC :=
  (.seq (.reg [⟨(some 40), none, .p (.bin .lss (.tmp 39) (.tmp 38))⟩])
  (.seq (.cond (.tmp 40) .skip (.exit 0))
  (.seq (.block 1
  (.seq (.reg [⟨(some 41), none, .p (.mov (.tmp 39))⟩, ⟨(some 9), none, .p (.mov (.tmp 41))⟩])
  (.seq (.reg [⟨(some 43), none, .p (.ld (some 2) (.tmp 3))⟩, ⟨(some 44), none, .p (.ld (some 1) (.tmp 4))⟩, ⟨(some 45), none, .p (.ld none (.tmp 5))⟩, ⟨(some 46), none, .p (.mov (.tmp 9))⟩, ⟨(some 47), none, .e (.call 28 [(.tmp 43), (.tmp 44), (.tmp 45), (.tmp 46)])⟩, ⟨(some 42), none, .p (.mov (.tmp 47))⟩, ⟨(some 48), none, .p (.ext (.tmp 42) 0)⟩, ⟨(some 49), none, .p (.ext (.tmp 42) 1)⟩, ⟨(some 50), none, .p (.ext (.tmp 42) 2)⟩, ⟨(some 10), none, .e (.alc [(.slice none 0 0)])⟩, ⟨(some 11), none, .e (.alc [(.slice none 0 0)])⟩, ⟨none, none, .e (.st 1 (.tmp 10) (.tmp 48))⟩, ⟨none, none, .e (.st 1 (.tmp 11) (.tmp 49))⟩, ⟨(some 12), none, .p (.mov (.tmp 50))⟩])
  (.seq (.seq (.reg [⟨(some 51), none, .p (.mov (.tmp 12))⟩, ⟨(some 52), none, .p (.bin .neq (.tmp 51) (.const (.int .i64 0)))⟩])
  (.cond (.tmp 52) (.seq (.reg [⟨(some 53), none, .p (.bld [(.slice none 0 0)] [])⟩, ⟨(some 54), none, .p (.mov (.tmp 12))⟩, ⟨none, none, .e (.st 1 (.tmp 6) (.tmp 53))⟩, ⟨(some 7), none, .p (.mov (.tmp 54))⟩])
  .ret) .skip))
  (.seq (.reg [⟨(some 55), none, .p (.mkf 38 [(.tmp 3), (.tmp 5), (.tmp 4), (.tmp 10), (.tmp 11)])⟩, ⟨(some 13), none, .p (.mov (.tmp 55))⟩])
  (.seq (.reg [⟨(some 56), none, .p (.fad 0 (.tmp 3))⟩, ⟨(some 57), none, .p (.ld none (.tmp 56))⟩, ⟨(some 58), none, .p (.len 1 (.tmp 57))⟩, ⟨(some 59), none, .p (.mov (.const (.int .i64 0)))⟩])
  (.block 2
  (.loop lb13_1))))))))
  (.reg [⟨(some 104), none, .p (.bin .add (.tmp 39) (.const (.int .i64 1)))⟩, ⟨(some 39), none, .p (.mov (.tmp 104))⟩]))))
def cf13 : LC :=
  (.seq (.reg [⟨(some 3), none, .e (.box (.tmp 0))⟩, ⟨(some 4), none, .e (.box (.tmp 1))⟩, ⟨(some 5), none, .e (.box (.tmp 2))⟩, ⟨(some 6), none, .e (.alc [(.slice none 0 0)])⟩, ⟨(some 7), none, .p (.mov (.const (.int .i64 0)))⟩])
  (.seq (.seq (.reg [⟨(some 18), none, .p (.ld (some 2) (.tmp 3))⟩, ⟨(some 19), none, .p (.ld (some 1) (.tmp 4))⟩, ⟨(some 20), none, .e (.call 37 [(.tmp 18), (.tmp 19)])⟩, ⟨(some 21), none, .p (.un .not (.tmp 20))⟩, ⟨(some 22), none, .p (.mov (.tmp 21))⟩, ⟨(some 23), (some (22, false)), .p (.ld none (.tmp 5))⟩, ⟨(some 24), (some (22, false)), .p (.len 1 (.tmp 23))⟩, ⟨(some 25), (some (22, false)), .p (.fad 1 (.tmp 3))⟩, ⟨(some 26), (some (22, false)), .p (.ld none (.tmp 25))⟩, ⟨(some 27), (some (22, false)), .p (.len 1 (.tmp 26))⟩, ⟨(some 28), (some (22, false)), .p (.bin .neq (.tmp 24) (.tmp 27))⟩, ⟨(some 29), none, .p (.pick (.tmp 22) (.const (.bool true)) (.tmp 28))⟩])
  (.cond (.tmp 29) (.seq (.reg [⟨(some 30), none, .p (.bld [(.slice none 0 0)] [])⟩, ⟨none, none, .e (.st 1 (.tmp 6) (.tmp 30))⟩, ⟨(some 7), none, .p (.mov (.const (.int .i64 1)))⟩])
  .ret) .skip))
  (.seq (.reg [⟨(some 31), none, .p (.fad 0 (.tmp 3))⟩, ⟨(some 32), none, .p (.ld none (.tmp 31))⟩, ⟨(some 33), none, .p (.len 1 (.tmp 32))⟩, ⟨(some 34), none, .e (.mks 0 2 [(.slice none 0 0), (.slice none 0 0)] 48 (.tmp 33) (.tmp 33))⟩, ⟨(some 35), none, .p (.bld [(.slice none 0 0)] [(0, 1, (.tmp 34))])⟩, ⟨(some 8), none, .e (.alc [(.slice none 0 0)])⟩, ⟨none, none, .e (.st 1 (.tmp 8) (.tmp 35))⟩])
  (.seq (.seqj (.reg [⟨(some 36), none, .p (.fad 0 (.tmp 3))⟩, ⟨(some 37), none, .p (.ld none (.tmp 36))⟩, ⟨(some 38), none, .p (.len 1 (.tmp 37))⟩, ⟨(some 39), none, .p (.mov (.const (.int .i64 0)))⟩])
  (.block 0
  (.loop lb13_2)))
  (.seq (.reg [⟨(some 105), none, .p (.ld (some 1) (.tmp 8))⟩, ⟨none, none, .e (.st 1 (.tmp 6) (.tmp 105))⟩, ⟨(some 7), none, .p (.mov (.const (.int .i64 0)))⟩])
  .ret)))))
def rf13 : List RX := [.cell 6 (some 1), .tmp 7]
set_option maxRecDepth 100000 in
theorem comp13 : cFn Tryd.prog Tryd.f13 = some (erase cf13, rf13) := by kernel_rfl
def lb31_0 : LC :=
  (.seq (.reg [⟨(some 45), none, .p (.bin .lss (.tmp 44) (.tmp 43))⟩])
  (.seq (.cond (.tmp 45) .skip (.exit 4))
  (.seq (.block 5
  (.seq (.reg [⟨(some 46), none, .p (.iad 1 (.tmp 42) (.tmp 44))⟩, ⟨(some 47), none, .p (.ld none (.tmp 46))⟩, ⟨(some 13), none, .p (.mov (.tmp 47))⟩])
  (.seq (.seq (.reg [⟨(some 48), none, .p (.mov (.tmp 13))⟩, ⟨(some 49), none, .p (.bin .lss (.tmp 48) (.const (.int .i64 (-2))))⟩, ⟨(some 50), none, .p (.mov (.tmp 49))⟩, ⟨(some 51), (some (50, false)), .p (.mov (.tmp 13))⟩, ⟨(some 52), (some (50, false)), .p (.bin .geq (.tmp 51) (.const (.int .i64 32)))⟩, ⟨(some 53), none, .p (.pick (.tmp 50) (.const (.bool true)) (.tmp 52))⟩])
  (.cond (.tmp 53) (.seq (.reg [⟨(some 2), none, .p (.mov (.const (.string ⟨#[]⟩)))⟩, ⟨(some 3), none, .p (.mov (.const (.int .i64 1)))⟩])
  .ret) .skip))
  (.reg [⟨(some 54), none, .p (.mov (.tmp 11))⟩, ⟨(some 55), none, .p (.mov (.tmp 13))⟩, ⟨(some 56), none, .e (.call 64 [(.tmp 55)])⟩, ⟨(some 57), none, .e (.bsr 1 1 [(.string ⟨#[]⟩)] [(0, 1, (.tmp 56))])⟩, ⟨(some 58), none, .e (.app 0 1 16 (.tmp 54) (.tmp 57))⟩, ⟨(some 11), none, .p (.mov (.tmp 58))⟩]))))
  (.reg [⟨(some 59), none, .p (.bin .add (.tmp 44) (.const (.int .i64 1)))⟩, ⟨(some 44), none, .p (.mov (.tmp 59))⟩]))))
def lb31_1 : LC :=
  (.seq (.reg [⟨(some 34), none, .p (.bin .lss (.tmp 33) (.const (.int .i64 2)))⟩])
  (.seq (.cond (.tmp 34) .skip (.exit 2))
  (.seq (.block 3
  (.seq (.reg [⟨(some 35), none, .p (.idxa 2 1 none (.tmp 32) (.tmp 33))⟩, ⟨(some 10), none, .p (.mov (.tmp 35))⟩])
  (.seq (.seq (.reg [⟨(some 36), none, .p (.mov (.tmp 10))⟩, ⟨(some 37), none, .p (.len 1 (.tmp 36))⟩, ⟨(some 38), none, .p (.mov (.tmp 4))⟩, ⟨(some 39), none, .p (.bin .neq (.tmp 37) (.tmp 38))⟩])
  (.cond (.tmp 39) (.seq (.reg [⟨(some 2), none, .p (.mov (.const (.string ⟨#[]⟩)))⟩, ⟨(some 3), none, .p (.mov (.const (.int .i64 1)))⟩])
  .ret) .skip))
  (.seq (.reg [⟨(some 40), none, .p (.mov (.tmp 4))⟩, ⟨(some 41), none, .e (.mks 0 1 [(.string ⟨#[]⟩)] 16 (.const (.int .i64 0)) (.tmp 40))⟩, ⟨(some 11), none, .p (.mov (.tmp 41))⟩])
  (.seqj (.seq (.reg [⟨(some 42), none, .p (.mov (.tmp 10))⟩, ⟨(some 43), none, .p (.len 1 (.tmp 42))⟩, ⟨(some 44), none, .p (.mov (.const (.int .i64 0)))⟩])
  (.block 4
  (.loop lb31_0)))
  (.reg [⟨(some 60), none, .p (.mov (.tmp 6))⟩, ⟨(some 61), none, .p (.mov (.tmp 11))⟩, ⟨(some 62), none, .e (.calv (.tmp 60) [(.tmp 61)])⟩]))))))
  (.reg [⟨(some 63), none, .p (.bin .add (.tmp 33) (.const (.int .i64 1)))⟩, ⟨(some 33), none, .p (.mov (.tmp 63))⟩]))))
def lb31_2 : LC :=
  (.seq (.reg [⟨(some 29), none, .p (.bin .lss (.tmp 28) (.tmp 27))⟩])
  (.seq (.cond (.tmp 29) .skip (.exit 0))
  (.seq (.block 1
  (.seq (.reg [⟨(some 30), none, .p (.iad 2 (.tmp 26) (.tmp 28))⟩, ⟨(some 31), none, .p (.ld (some 2) (.tmp 30))⟩, ⟨(some 8), none, .e (.alc [(.slice none 0 0), (.slice none 0 0)])⟩, ⟨none, none, .e (.st 2 (.tmp 8) (.tmp 31))⟩])
  (.seq (.reg [⟨(some 32), none, .p (.ld (some 2) (.tmp 8))⟩, ⟨(some 33), none, .p (.mov (.const (.int .i64 0)))⟩])
  (.block 2
  (.loop lb31_1)))))
  (.reg [⟨(some 64), none, .p (.bin .add (.tmp 28) (.const (.int .i64 1)))⟩, ⟨(some 28), none, .p (.mov (.tmp 64))⟩]))))
def cf31 : LC :=
  (.seq (.reg [⟨(some 1), none, .e (.box (.tmp 0))⟩, ⟨(some 2), none, .p (.mov (.const (.string ⟨#[]⟩)))⟩, ⟨(some 3), none, .p (.mov (.const (.int .i64 0)))⟩])
  (.seq (.reg [⟨(some 14), none, .p (.fad 0 (.tmp 1))⟩, ⟨(some 15), none, .p (.ld none (.tmp 14))⟩, ⟨(some 16), none, .p (.len 1 (.tmp 15))⟩, ⟨(some 4), none, .p (.mov (.tmp 16))⟩])
  (.seq (.seq (.reg [⟨(some 17), none, .p (.mov (.tmp 4))⟩, ⟨(some 18), none, .p (.bin .gtr (.tmp 17) (.const (.int .i64 16)))⟩])
  (.cond (.tmp 18) (.seq (.reg [⟨(some 2), none, .p (.mov (.const (.string ⟨#[]⟩)))⟩, ⟨(some 3), none, .p (.mov (.const (.int .i64 1)))⟩])
  .ret) .skip))
  (.seq (.reg [⟨(some 5), none, .e (.alct 113 [(.pointer none), (.slice none 0 0)])⟩])
  (.seq (.reg [⟨(some 19), none, .p (.mkf 60 [(.tmp 5)])⟩, ⟨(some 6), none, .p (.mov (.tmp 19))⟩])
  (.seq (.reg [⟨(some 20), none, .p (.mov (.tmp 6))⟩, ⟨(some 21), none, .p (.mov (.tmp 4))⟩, ⟨(some 22), none, .e (.call 64 [(.tmp 21)])⟩, ⟨(some 23), none, .e (.bsr 2 1 [(.string ⟨#[]⟩)] [(0, 1, (.const (.string ⟨#[114, 111, 117, 116, 101, 115]⟩))), (1, 1, (.tmp 22))])⟩, ⟨(some 24), none, .e (.calv (.tmp 20) [(.tmp 23)])⟩])
  (.seq (.seq (.reg [⟨(some 25), none, .p (.fad 0 (.tmp 1))⟩, ⟨(some 26), none, .p (.ld none (.tmp 25))⟩, ⟨(some 27), none, .p (.len 1 (.tmp 26))⟩, ⟨(some 28), none, .p (.mov (.const (.int .i64 0)))⟩])
  (.block 0
  (.loop lb31_2)))
  (.seq (.reg [⟨(some 65), none, .e (.call 65 [(.tmp 5)])⟩, ⟨(some 2), none, .p (.mov (.tmp 65))⟩, ⟨(some 3), none, .p (.mov (.const (.int .i64 0)))⟩])
  .ret))))))))
def rf31 : List RX := [.tmp 2, .tmp 3]
set_option maxRecDepth 100000 in
theorem comp31 : cFn Tryd.prog Tryd.f31 = some (erase cf31, rf31) := by kernel_rfl
def lb33_0 : LC :=
  (.seq (.reg [⟨(some 42), none, .p (.bin .lss (.tmp 41) (.tmp 40))⟩])
  (.seq (.cond (.tmp 42) .skip (.exit 0))
  (.seq (.block 1
  (.seq (.reg [⟨(some 43), none, .p (.mov (.tmp 41))⟩, ⟨(some 11), none, .p (.mov (.tmp 43))⟩])
  (.seq (.reg [⟨(some 45), none, .p (.mov (.tmp 6))⟩, ⟨(some 46), none, .e (.call 66 [(.tmp 45), (.const (.string ⟨#[10]⟩))])⟩, ⟨(some 44), none, .p (.mov (.tmp 46))⟩, ⟨(some 47), none, .p (.ext (.tmp 44) 0)⟩, ⟨(some 48), none, .p (.ext (.tmp 44) 1)⟩, ⟨(some 49), none, .p (.ext (.tmp 44) 2)⟩, ⟨(some 5), none, .p (.mov (.tmp 47))⟩, ⟨(some 6), none, .p (.mov (.tmp 48))⟩, ⟨(some 7), none, .p (.mov (.tmp 49))⟩])
  (.seq (.reg [⟨(some 51), none, .p (.mov (.tmp 5))⟩, ⟨(some 52), none, .p (.mov (.tmp 8))⟩, ⟨(some 53), none, .e (.call 68 [(.tmp 51), (.tmp 52)])⟩, ⟨(some 50), none, .p (.mov (.tmp 53))⟩, ⟨(some 54), none, .p (.ext (.tmp 50) 0)⟩, ⟨(some 55), none, .p (.ext (.tmp 50) 1)⟩, ⟨(some 12), none, .p (.mov (.tmp 54))⟩, ⟨(some 13), none, .p (.mov (.tmp 55))⟩])
  (.seq (.seq (.reg [⟨(some 56), none, .p (.mov (.tmp 13))⟩, ⟨(some 57), none, .p (.un .not (.tmp 56))⟩, ⟨(some 58), none, .p (.mov (.tmp 57))⟩, ⟨(some 59), (some (58, false)), .p (.mov (.tmp 7))⟩, ⟨(some 60), (some (58, false)), .p (.un .not (.tmp 59))⟩, ⟨(some 61), none, .p (.pick (.tmp 58) (.const (.bool true)) (.tmp 60))⟩])
  (.cond (.tmp 61) (.seq (.reg [⟨(some 62), none, .p (.bld [(.slice none 0 0)] [])⟩, ⟨(some 63), none, .p (.mov (.tmp 11))⟩, ⟨(some 64), none, .p (.bin .add (.const (.int .i64 2)) (.tmp 63))⟩, ⟨none, none, .e (.st 1 (.tmp 2) (.tmp 62))⟩, ⟨(some 3), none, .p (.mov (.tmp 64))⟩, ⟨(some 4), none, .p (.mov (.const (.int .i64 3)))⟩])
  .ret) .skip))
  (.reg [⟨(some 65), none, .p (.fad 0 (.tmp 10))⟩, ⟨(some 66), none, .p (.ld none (.tmp 65))⟩, ⟨(some 67), none, .p (.mov (.tmp 11))⟩, ⟨(some 68), none, .p (.bin .quo (.tmp 67) (.const (.int .i64 2)))⟩, ⟨(some 69), none, .p (.mov (.tmp 11))⟩, ⟨(some 70), none, .p (.bin .rem (.tmp 69) (.const (.int .i64 2)))⟩, ⟨(some 71), none, .p (.mov (.tmp 12))⟩, ⟨(some 72), none, .p (.iad 2 (.tmp 66) (.tmp 68))⟩, ⟨(some 73), none, .p (.iada 2 1 (.tmp 72) (.tmp 70))⟩, ⟨none, none, .e (.st 1 (.tmp 73) (.tmp 71))⟩]))))))
  (.reg [⟨(some 74), none, .p (.bin .add (.tmp 41) (.const (.int .i64 1)))⟩, ⟨(some 41), none, .p (.mov (.tmp 74))⟩]))))
def cf33 : LC :=
  (.seq (.reg [⟨(some 2), none, .e (.alc [(.slice none 0 0)])⟩, ⟨(some 3), none, .p (.mov (.const (.int .i64 0)))⟩, ⟨(some 4), none, .p (.mov (.const (.int .i64 0)))⟩])
  (.seq (.seq (.reg [⟨(some 14), none, .p (.mov (.tmp 0))⟩, ⟨(some 15), none, .p (.len 0 (.tmp 14))⟩, ⟨(some 16), none, .p (.bin .gtr (.tmp 15) (.const (.int .i64 65536)))⟩])
  (.cond (.tmp 16) (.seq (.reg [⟨(some 17), none, .p (.bld [(.slice none 0 0)] [])⟩, ⟨none, none, .e (.st 1 (.tmp 2) (.tmp 17))⟩, ⟨(some 3), none, .p (.mov (.const (.int .i64 0)))⟩, ⟨(some 4), none, .p (.mov (.const (.int .i64 5)))⟩])
  .ret) .skip))
  (.seq (.reg [⟨(some 19), none, .p (.mov (.tmp 0))⟩, ⟨(some 20), none, .e (.call 66 [(.tmp 19), (.const (.string ⟨#[10]⟩))])⟩, ⟨(some 18), none, .p (.mov (.tmp 20))⟩, ⟨(some 21), none, .p (.ext (.tmp 18) 0)⟩, ⟨(some 22), none, .p (.ext (.tmp 18) 1)⟩, ⟨(some 23), none, .p (.ext (.tmp 18) 2)⟩, ⟨(some 5), none, .p (.mov (.tmp 21))⟩, ⟨(some 6), none, .p (.mov (.tmp 22))⟩, ⟨(some 7), none, .p (.mov (.tmp 23))⟩])
  (.seq (.reg [⟨(some 25), none, .p (.mov (.tmp 5))⟩, ⟨(some 26), none, .e (.call 67 [(.tmp 25)])⟩, ⟨(some 24), none, .p (.mov (.tmp 26))⟩, ⟨(some 27), none, .p (.ext (.tmp 24) 0)⟩, ⟨(some 28), none, .p (.ext (.tmp 24) 1)⟩, ⟨(some 8), none, .p (.mov (.tmp 27))⟩, ⟨(some 9), none, .p (.mov (.tmp 28))⟩])
  (.seq (.seq (.reg [⟨(some 29), none, .p (.mov (.tmp 9))⟩, ⟨(some 30), none, .p (.un .not (.tmp 29))⟩, ⟨(some 31), none, .p (.mov (.tmp 30))⟩, ⟨(some 32), (some (31, false)), .p (.mov (.tmp 7))⟩, ⟨(some 33), (some (31, false)), .p (.un .not (.tmp 32))⟩, ⟨(some 34), none, .p (.pick (.tmp 31) (.const (.bool true)) (.tmp 33))⟩])
  (.cond (.tmp 34) (.seq (.reg [⟨(some 35), none, .p (.bld [(.slice none 0 0)] [])⟩, ⟨none, none, .e (.st 1 (.tmp 2) (.tmp 35))⟩, ⟨(some 3), none, .p (.mov (.const (.int .i64 1)))⟩, ⟨(some 4), none, .p (.mov (.const (.int .i64 3)))⟩])
  .ret) .skip))
  (.seq (.reg [⟨(some 36), none, .p (.mov (.tmp 8))⟩, ⟨(some 37), none, .e (.mks 0 2 [(.slice none 0 0), (.slice none 0 0)] 48 (.tmp 36) (.tmp 36))⟩, ⟨(some 38), none, .p (.bld [(.slice none 0 0)] [(0, 1, (.tmp 37))])⟩, ⟨(some 10), none, .e (.alc [(.slice none 0 0)])⟩, ⟨none, none, .e (.st 1 (.tmp 10) (.tmp 38))⟩])
  (.seq (.seq (.reg [⟨(some 39), none, .p (.mov (.tmp 8))⟩, ⟨(some 40), none, .p (.bin .mul (.const (.int .i64 2)) (.tmp 39))⟩, ⟨(some 41), none, .p (.mov (.const (.int .i64 0)))⟩])
  (.block 0
  (.loop lb33_0)))
  (.seq (.seq (.reg [⟨(some 75), none, .p (.mov (.tmp 6))⟩, ⟨(some 76), none, .p (.bin .neq (.tmp 75) (.const (.string ⟨#[]⟩)))⟩])
  (.cond (.tmp 76) (.seq (.reg [⟨(some 77), none, .p (.bld [(.slice none 0 0)] [])⟩, ⟨(some 78), none, .p (.mov (.tmp 8))⟩, ⟨(some 79), none, .p (.bin .mul (.const (.int .i64 2)) (.tmp 78))⟩, ⟨(some 80), none, .p (.bin .add (.const (.int .i64 2)) (.tmp 79))⟩, ⟨none, none, .e (.st 1 (.tmp 2) (.tmp 77))⟩, ⟨(some 3), none, .p (.mov (.tmp 80))⟩, ⟨(some 4), none, .p (.mov (.const (.int .i64 3)))⟩])
  .ret) .skip))
  (.seq (.reg [⟨(some 81), none, .p (.ld (some 1) (.tmp 10))⟩, ⟨none, none, .e (.st 1 (.tmp 2) (.tmp 81))⟩, ⟨(some 3), none, .p (.mov (.const (.int .i64 0)))⟩, ⟨(some 4), none, .p (.mov (.const (.int .i64 0)))⟩])
  .ret)))))))))
def rf33 : List RX := [.cell 2 (some 1), .tmp 3, .tmp 4]
set_option maxRecDepth 100000 in
theorem comp33 : cFn Tryd.prog Tryd.f33 = some (erase cf33, rf33) := by kernel_rfl
def lb38_0 : LC :=
  (.seq (.reg [⟨(some 21), none, .p (.bin .lss (.tmp 20) (.tmp 19))⟩])
  (.seq (.cond (.tmp 21) .skip (.exit 0))
  (.seq (.block 1
  (.seq (.reg [⟨(some 22), none, .p (.mov (.tmp 20))⟩, ⟨(some 23), none, .p (.iad 6 (.tmp 18) (.tmp 20))⟩, ⟨(some 24), none, .p (.ld (some 6) (.tmp 23))⟩, ⟨(some 13), none, .e (.alc [(.int .i64 0), (.int .i64 0), (.int .i64 0), (.int .i64 0), (.int .i64 0), (.int .i64 0)])⟩, ⟨(some 12), none, .p (.mov (.tmp 22))⟩, ⟨none, none, .e (.st 6 (.tmp 13) (.tmp 24))⟩])
  (.seq (.reg [⟨(some 26), none, .p (.ld (some 6) (.tmp 13))⟩, ⟨(some 27), none, .p (.mov (.tmp 0))⟩, ⟨(some 28), none, .e (.call 39 [(.tmp 26), (.tmp 27)])⟩, ⟨(some 25), none, .p (.mov (.tmp 28))⟩, ⟨(some 29), none, .p (.ext (.tmp 25) 0)⟩, ⟨(some 30), none, .p (.ext (.tmp 25) 1)⟩, ⟨(some 14), none, .p (.mov (.tmp 29))⟩, ⟨(some 15), none, .p (.mov (.tmp 30))⟩])
  (.seq (.seq (.reg [⟨(some 31), none, .p (.mov (.tmp 1))⟩, ⟨(some 32), none, .p (.bin .lss (.tmp 31) (.const (.int .i64 1)))⟩, ⟨(some 33), none, .p (.mov (.tmp 32))⟩, ⟨(some 34), (some (33, false)), .p (.mov (.tmp 15))⟩, ⟨(some 35), (some (33, false)), .p (.un .not (.tmp 34))⟩, ⟨(some 36), none, .p (.pick (.tmp 33) (.const (.bool true)) (.tmp 35))⟩, ⟨(some 37), none, .p (.mov (.tmp 36))⟩, ⟨(some 38), (some (37, false)), .p (.ld none (.tmp 4))⟩, ⟨(some 39), (some (37, false)), .p (.mov (.tmp 12))⟩, ⟨(some 40), (some (37, false)), .p (.iad 1 (.tmp 38) (.tmp 39))⟩, ⟨(some 41), (some (37, false)), .p (.ld none (.tmp 40))⟩, ⟨(some 42), (some (37, false)), .p (.un .not (.tmp 41))⟩, ⟨(some 43), none, .p (.pick (.tmp 37) (.const (.bool true)) (.tmp 42))⟩])
  (.cond (.tmp 43) (.exit 1) .skip))
  (.seq (.reg [⟨(some 44), none, .p (.ld (some 1) (.tmp 5))⟩, ⟨(some 45), none, .p (.mov (.tmp 14))⟩, ⟨(some 46), none, .p (.mov (.tmp 0))⟩, ⟨(some 47), none, .e (.call 40 [(.tmp 44), (.tmp 45), (.tmp 46)])⟩, ⟨(some 16), none, .p (.mov (.tmp 47))⟩])
  (.seq (.reg [⟨(some 48), none, .p (.mov (.tmp 16))⟩, ⟨(some 49), none, .p (.mov (.tmp 48))⟩, ⟨(some 50), (some (49, true)), .p (.mov (.tmp 2))⟩, ⟨(some 51), none, .p (.pick (.tmp 49) (.tmp 50) (.const (.bool false)))⟩, ⟨(some 52), none, .p (.mov (.tmp 51))⟩, ⟨(some 53), (some (52, true)), .p (.ld none (.tmp 6))⟩, ⟨(some 54), (some (52, true)), .p (.mov (.tmp 14))⟩, ⟨(some 55), (some (52, true)), .p (.iad 1 (.tmp 53) (.tmp 54))⟩, ⟨(some 56), (some (52, true)), .p (.ld none (.tmp 55))⟩, ⟨(some 57), (some (52, true)), .p (.mov (.tmp 1))⟩, ⟨(some 58), (some (52, true)), .p (.bin .sub (.tmp 57) (.const (.int .i64 1)))⟩, ⟨(some 59), (some (52, true)), .p (.bin .eql (.tmp 56) (.tmp 58))⟩, ⟨(some 60), none, .p (.pick (.tmp 52) (.tmp 59) (.const (.bool false)))⟩, ⟨(some 61), none, .p (.mov (.tmp 60))⟩, ⟨(some 62), (some (61, false)), .p (.mov (.tmp 16))⟩, ⟨(some 63), (some (61, false)), .p (.un .not (.tmp 62))⟩, ⟨(some 64), (some (61, false)), .p (.mov (.tmp 63))⟩, ⟨(some 65), (some (64, true)), .p (.ld none (.tmp 7))⟩, ⟨(some 66), (some (64, true)), .p (.mov (.tmp 14))⟩, ⟨(some 67), (some (64, true)), .p (.iad 1 (.tmp 65) (.tmp 66))⟩, ⟨(some 68), (some (64, true)), .p (.ld none (.tmp 67))⟩, ⟨(some 69), (some (64, true)), .p (.mov (.tmp 1))⟩, ⟨(some 70), (some (64, true)), .p (.bin .sub (.tmp 69) (.const (.int .i64 1)))⟩, ⟨(some 71), (some (64, true)), .p (.bin .eql (.tmp 68) (.tmp 70))⟩, ⟨(some 72), (some (61, false)), .p (.pick (.tmp 64) (.tmp 71) (.const (.bool false)))⟩, ⟨(some 73), none, .p (.pick (.tmp 61) (.const (.bool true)) (.tmp 72))⟩])
  (.cond (.tmp 73) (.seq (.reg [⟨(some 74), none, .p (.mov (.tmp 12))⟩, ⟨(some 11), none, .p (.mov (.tmp 74))⟩])
  .ret) .skip)))))))
  (.reg [⟨(some 75), none, .p (.bin .add (.tmp 20) (.const (.int .i64 1)))⟩, ⟨(some 20), none, .p (.mov (.tmp 75))⟩]))))
def cf38 : LC :=
  (.seq (.reg [⟨(some 11), none, .p (.mov (.const (.int .i64 0)))⟩])
  (.seq (.seq (.reg [⟨(some 17), none, .p (.fad 1 (.tmp 3))⟩, ⟨(some 18), none, .p (.ld none (.tmp 17))⟩, ⟨(some 19), none, .p (.len 1 (.tmp 18))⟩, ⟨(some 20), none, .p (.mov (.const (.int .i64 0)))⟩])
  (.block 0
  (.loop lb38_0)))
  (.seq (.reg [⟨(some 11), none, .p (.mov (.const (.int .i64 (-1))))⟩])
  .ret)))
def rf38 : List RX := [.tmp 11]
set_option maxRecDepth 100000 in
theorem comp38 : cFn Tryd.prog Tryd.f38 = some (erase cf38, rf38) := by kernel_rfl
def cf39 : LC :=
  (.seq (.reg [⟨(some 2), none, .e (.box (.tmp 0))⟩, ⟨(some 4), none, .p (.mov (.const (.int .i64 0)))⟩, ⟨(some 5), none, .p (.mov (.const (.bool false)))⟩])
  (.seq (.seq (.reg [⟨(some 6), none, .p (.mov (.tmp 1))⟩])
  (.block 0
  (.seq (.reg [⟨(some 8), none, .p (.fad 0 (.tmp 2))⟩, ⟨(some 9), none, .p (.ld none (.tmp 8))⟩, ⟨(some 10), none, .p (.bin .eql (.tmp 6) (.tmp 9))⟩, ⟨(some 7), none, .p (.mov (.tmp 10))⟩])
  (.cond (.tmp 7) (.seq (.reg [⟨(some 11), none, .p (.fad 2 (.tmp 2))⟩, ⟨(some 12), none, .p (.ld none (.tmp 11))⟩, ⟨(some 4), none, .p (.mov (.tmp 12))⟩, ⟨(some 5), none, .p (.mov (.const (.bool true)))⟩])
  .ret) (.seq (.reg [⟨(some 14), none, .p (.fad 2 (.tmp 2))⟩, ⟨(some 15), none, .p (.ld none (.tmp 14))⟩, ⟨(some 16), none, .p (.bin .eql (.tmp 6) (.tmp 15))⟩, ⟨(some 13), none, .p (.mov (.tmp 16))⟩])
  (.cond (.tmp 13) (.seq (.reg [⟨(some 17), none, .p (.fad 0 (.tmp 2))⟩, ⟨(some 18), none, .p (.ld none (.tmp 17))⟩, ⟨(some 4), none, .p (.mov (.tmp 18))⟩, ⟨(some 5), none, .p (.mov (.const (.bool true)))⟩])
  .ret) .skip))))))
  (.seq (.reg [⟨(some 4), none, .p (.mov (.const (.int .i64 0)))⟩, ⟨(some 5), none, .p (.mov (.const (.bool false)))⟩])
  .ret)))
def rf39 : List RX := [.tmp 4, .tmp 5]
set_option maxRecDepth 100000 in
theorem comp39 : cFn Tryd.prog Tryd.f39 = some (erase cf39, rf39) := by kernel_rfl
def cf60 : LC :=
  (.seq (.reg [⟨(some 3), none, .p (.mov (.tmp 0))⟩, ⟨(some 4), none, .e (.call 62 [(.tmp 3), (.const (.string ⟨#[32]⟩))])⟩, ⟨(some 5), none, .e (.call 61 [(.tmp 1), (.tmp 4)])⟩])
  (.reg [⟨(some 6), none, .e (.call 63 [(.tmp 1), (.const (.int .u8 10))])⟩]))
def rf60 : List RX := []
set_option maxRecDepth 100000 in
theorem comp60 : cFn Tryd.prog Tryd.f60 = some (erase cf60, rf60) := by kernel_rfl
def cf67 : LC :=
  (.seq (.reg [⟨(some 2), none, .p (.mov (.const (.int .i64 0)))⟩, ⟨(some 3), none, .p (.mov (.const (.bool false)))⟩])
  (.seq (.reg [⟨(some 5), none, .p (.mov (.tmp 0))⟩, ⟨(some 6), none, .e (.call 91 [(.tmp 5), (.const (.string ⟨#[32]⟩))])⟩, ⟨(some 4), none, .p (.mov (.tmp 6))⟩])
  (.seq (.seq (.reg [⟨(some 7), none, .p (.mov (.tmp 4))⟩, ⟨(some 8), none, .p (.len 1 (.tmp 7))⟩, ⟨(some 9), none, .p (.bin .neq (.tmp 8) (.const (.int .i64 2)))⟩, ⟨(some 10), none, .p (.mov (.tmp 9))⟩, ⟨(some 11), (some (10, false)), .p (.mov (.tmp 4))⟩, ⟨(some 12), (some (10, false)), .p (.iad 1 (.tmp 11) (.const (.int .i64 0)))⟩, ⟨(some 13), (some (10, false)), .p (.ld none (.tmp 12))⟩, ⟨(some 14), (some (10, false)), .p (.bin .neq (.tmp 13) (.const (.string ⟨#[114, 111, 117, 116, 101, 115]⟩)))⟩, ⟨(some 15), none, .p (.pick (.tmp 10) (.const (.bool true)) (.tmp 14))⟩])
  (.cond (.tmp 15) (.seq (.reg [⟨(some 2), none, .p (.mov (.const (.int .i64 0)))⟩, ⟨(some 3), none, .p (.mov (.const (.bool false)))⟩])
  .ret) .skip))
  (.seq (.reg [⟨(some 16), none, .p (.mov (.tmp 4))⟩, ⟨(some 17), none, .p (.iad 1 (.tmp 16) (.const (.int .i64 1)))⟩, ⟨(some 18), none, .p (.ld none (.tmp 17))⟩, ⟨(some 19), none, .e (.call 92 [(.tmp 18), (.const (.int .i64 0)), (.const (.int .i64 16))])⟩, ⟨(some 20), none, .p (.ext (.tmp 19) 0)⟩, ⟨(some 21), none, .p (.ext (.tmp 19) 1)⟩, ⟨(some 2), none, .p (.mov (.tmp 20))⟩, ⟨(some 3), none, .p (.mov (.tmp 21))⟩])
  .ret))))
def rf67 : List RX := [.tmp 2, .tmp 3]
set_option maxRecDepth 100000 in
theorem comp67 : cFn Tryd.prog Tryd.f67 = some (erase cf67, rf67) := by kernel_rfl
def lb68_0 : LC :=
  (.seq (.reg [⟨(some 23), none, .p (.bin .lss (.tmp 22) (.tmp 21))⟩])
  (.seq (.cond (.tmp 23) .skip (.exit 0))
  (.seq (.block 1
  (.seq (.reg [⟨(some 24), none, .p (.mov (.tmp 22))⟩, ⟨(some 25), none, .p (.iad 1 (.tmp 20) (.tmp 22))⟩, ⟨(some 26), none, .p (.ld none (.tmp 25))⟩, ⟨(some 8), none, .p (.mov (.tmp 24))⟩, ⟨(some 9), none, .p (.mov (.tmp 26))⟩])
  (.seq (.reg [⟨(some 28), none, .p (.mov (.tmp 9))⟩, ⟨(some 29), none, .e (.call 92 [(.tmp 28), (.const (.int .i64 (-2))), (.const (.int .i64 31))])⟩, ⟨(some 27), none, .p (.mov (.tmp 29))⟩, ⟨(some 30), none, .p (.ext (.tmp 27) 0)⟩, ⟨(some 31), none, .p (.ext (.tmp 27) 1)⟩, ⟨(some 10), none, .p (.mov (.tmp 30))⟩, ⟨(some 11), none, .p (.mov (.tmp 31))⟩])
  (.seq (.seq (.reg [⟨(some 32), none, .p (.mov (.tmp 11))⟩, ⟨(some 33), none, .p (.un .not (.tmp 32))⟩])
  (.cond (.tmp 33) (.seq (.reg [⟨(some 4), none, .p (.mov (.const (.slice none 0 0)))⟩, ⟨(some 5), none, .p (.mov (.const (.bool false)))⟩])
  .ret) .skip))
  (.reg [⟨(some 34), none, .p (.mov (.tmp 7))⟩, ⟨(some 35), none, .p (.mov (.tmp 8))⟩, ⟨(some 36), none, .p (.mov (.tmp 10))⟩, ⟨(some 37), none, .p (.iad 1 (.tmp 34) (.tmp 35))⟩, ⟨none, none, .e (.st 1 (.tmp 37) (.tmp 36))⟩])))))
  (.reg [⟨(some 38), none, .p (.bin .add (.tmp 22) (.const (.int .i64 1)))⟩, ⟨(some 22), none, .p (.mov (.tmp 38))⟩]))))
def cf68 : LC :=
  (.seq (.reg [⟨(some 4), none, .p (.mov (.const (.slice none 0 0)))⟩, ⟨(some 5), none, .p (.mov (.const (.bool false)))⟩])
  (.seq (.reg [⟨(some 12), none, .p (.mov (.tmp 0))⟩, ⟨(some 13), none, .e (.call 91 [(.tmp 12), (.const (.string ⟨#[32]⟩))])⟩, ⟨(some 6), none, .p (.mov (.tmp 13))⟩])
  (.seq (.seq (.reg [⟨(some 14), none, .p (.mov (.tmp 6))⟩, ⟨(some 15), none, .p (.len 1 (.tmp 14))⟩, ⟨(some 16), none, .p (.mov (.tmp 1))⟩, ⟨(some 17), none, .p (.bin .neq (.tmp 15) (.tmp 16))⟩])
  (.cond (.tmp 17) (.seq (.reg [⟨(some 4), none, .p (.mov (.const (.slice none 0 0)))⟩, ⟨(some 5), none, .p (.mov (.const (.bool false)))⟩])
  .ret) .skip))
  (.seq (.reg [⟨(some 18), none, .p (.mov (.tmp 1))⟩, ⟨(some 19), none, .e (.mks 1 1 [(.int .i64 0)] 8 (.tmp 18) (.tmp 18))⟩, ⟨(some 7), none, .p (.mov (.tmp 19))⟩])
  (.seq (.seq (.reg [⟨(some 20), none, .p (.mov (.tmp 6))⟩, ⟨(some 21), none, .p (.len 1 (.tmp 20))⟩, ⟨(some 22), none, .p (.mov (.const (.int .i64 0)))⟩])
  (.block 0
  (.loop lb68_0)))
  (.seq (.reg [⟨(some 39), none, .p (.mov (.tmp 7))⟩, ⟨(some 4), none, .p (.mov (.tmp 39))⟩, ⟨(some 5), none, .p (.mov (.const (.bool true)))⟩])
  .ret))))))
def rf68 : List RX := [.tmp 4, .tmp 5]
set_option maxRecDepth 100000 in
theorem comp68 : cFn Tryd.prog Tryd.f68 = some (erase cf68, rf68) := by kernel_rfl
def cf92 : LC :=
  (.seq (.reg [⟨(some 6), none, .p (.mov (.const (.int .i64 0)))⟩, ⟨(some 7), none, .p (.mov (.const (.bool false)))⟩])
  (.seq (.reg [⟨(some 11), none, .p (.mov (.tmp 0))⟩, ⟨(some 12), none, .e (.call 103 [(.tmp 11)])⟩, ⟨(some 10), none, .p (.mov (.tmp 12))⟩, ⟨(some 13), none, .p (.ext (.tmp 10) 0)⟩, ⟨(some 14), none, .p (.ext (.tmp 10) 1)⟩, ⟨(some 8), none, .p (.mov (.tmp 13))⟩, ⟨(some 9), none, .p (.mov (.tmp 14))⟩])
  (.seq (.seq (.reg [⟨(some 15), none, .p (.mov (.tmp 9))⟩, ⟨(some 16), none, .p (.nili true (.tmp 15))⟩, ⟨(some 17), none, .p (.mov (.tmp 16))⟩, ⟨(some 18), (some (17, false)), .p (.mov (.tmp 8))⟩, ⟨(some 19), (some (17, false)), .p (.mov (.tmp 1))⟩, ⟨(some 20), (some (17, false)), .p (.bin .lss (.tmp 18) (.tmp 19))⟩, ⟨(some 21), none, .p (.pick (.tmp 17) (.const (.bool true)) (.tmp 20))⟩, ⟨(some 22), none, .p (.mov (.tmp 21))⟩, ⟨(some 23), (some (22, false)), .p (.mov (.tmp 8))⟩, ⟨(some 24), (some (22, false)), .p (.mov (.tmp 2))⟩, ⟨(some 25), (some (22, false)), .p (.bin .gtr (.tmp 23) (.tmp 24))⟩, ⟨(some 26), none, .p (.pick (.tmp 22) (.const (.bool true)) (.tmp 25))⟩, ⟨(some 27), none, .p (.mov (.tmp 26))⟩, ⟨(some 28), (some (27, false)), .p (.mov (.tmp 8))⟩, ⟨(some 29), (some (27, false)), .e (.call 64 [(.tmp 28)])⟩, ⟨(some 30), (some (27, false)), .p (.mov (.tmp 0))⟩, ⟨(some 31), (some (27, false)), .p (.bin .neq (.tmp 29) (.tmp 30))⟩, ⟨(some 32), none, .p (.pick (.tmp 27) (.const (.bool true)) (.tmp 31))⟩])
  (.cond (.tmp 32) (.seq (.reg [⟨(some 6), none, .p (.mov (.const (.int .i64 0)))⟩, ⟨(some 7), none, .p (.mov (.const (.bool false)))⟩])
  .ret) .skip))
  (.seq (.reg [⟨(some 33), none, .p (.mov (.tmp 8))⟩, ⟨(some 6), none, .p (.mov (.tmp 33))⟩, ⟨(some 7), none, .p (.mov (.const (.bool true)))⟩])
  .ret))))
def rf92 : List RX := [.tmp 6, .tmp 7]
set_option maxRecDepth 100000 in
theorem comp92 : cFn Tryd.prog Tryd.f92 = some (erase cf92, rf92) := by kernel_rfl
end Go.Proofs.YtcdepkflghcjpaaDoor
namespace Go.Proofs.YtcdepkflghcjpaaDoor
def lb28_0 : LC :=
  (.seq (.reg [⟨(some 40), none, .p (.bin .lss (.tmp 39) (.tmp 38))⟩])
  (.seq (.cond (.tmp 40) .skip (.exit 0))
  (.seq (.block 1
  (.seq (.reg [⟨(some 41), none, .p (.mov (.tmp 39))⟩, ⟨(some 13), none, .p (.mov (.tmp 41))⟩])
  (.seq (.reg [⟨(some 42), none, .p (.mov (.tmp 8))⟩, ⟨(some 43), none, .p (.mov (.tmp 12))⟩, ⟨(some 44), none, .p (.mov (.tmp 13))⟩, ⟨(some 45), none, .p (.bld [(.int .i64 0), (.bool false)] [(0, 1, (.tmp 44)), (1, 1, (.const (.bool false)))])⟩, ⟨(some 46), none, .e (.calv (.tmp 43) [(.tmp 45)])⟩, ⟨(some 47), none, .e (.bsl 1 1 1 [(.int .i64 0)] [(0, 1, (.tmp 46))])⟩, ⟨(some 48), none, .e (.app 1 1 8 (.tmp 42) (.tmp 47))⟩, ⟨(some 8), none, .p (.mov (.tmp 48))⟩])
  (.reg [⟨(some 49), none, .p (.mov (.tmp 9))⟩, ⟨(some 50), none, .p (.mov (.tmp 12))⟩, ⟨(some 51), none, .p (.mov (.tmp 13))⟩, ⟨(some 52), none, .p (.bld [(.int .i64 0), (.bool false)] [(0, 1, (.tmp 51)), (1, 1, (.const (.bool true)))])⟩, ⟨(some 53), none, .e (.calv (.tmp 50) [(.tmp 52)])⟩, ⟨(some 54), none, .e (.bsl 1 1 1 [(.int .i64 0)] [(0, 1, (.tmp 53))])⟩, ⟨(some 55), none, .e (.app 1 1 8 (.tmp 49) (.tmp 54))⟩, ⟨(some 9), none, .p (.mov (.tmp 55))⟩]))))
  (.reg [⟨(some 56), none, .p (.bin .add (.tmp 39) (.const (.int .i64 1)))⟩, ⟨(some 39), none, .p (.mov (.tmp 56))⟩]))))
def cf28 : LC :=
  (.seq (.reg [⟨(some 4), none, .e (.box (.tmp 0))⟩, ⟨(some 5), none, .e (.box (.tmp 1))⟩, ⟨(some 8), none, .p (.mov (.const (.slice none 0 0)))⟩, ⟨(some 9), none, .p (.mov (.const (.slice none 0 0)))⟩, ⟨(some 10), none, .p (.mov (.const (.int .i64 0)))⟩])
  (.seq (.seq (.reg [⟨(some 14), none, .p (.ld (some 2) (.tmp 4))⟩, ⟨(some 15), none, .p (.ld (some 1) (.tmp 5))⟩, ⟨(some 16), none, .e (.call 37 [(.tmp 14), (.tmp 15)])⟩, ⟨(some 17), none, .p (.un .not (.tmp 16))⟩, ⟨(some 18), none, .p (.mov (.tmp 17))⟩, ⟨(some 19), (some (18, false)), .p (.mov (.tmp 2))⟩, ⟨(some 20), (some (18, false)), .p (.len 1 (.tmp 19))⟩, ⟨(some 21), (some (18, false)), .p (.fad 1 (.tmp 4))⟩, ⟨(some 22), (some (18, false)), .p (.ld none (.tmp 21))⟩, ⟨(some 23), (some (18, false)), .p (.len 1 (.tmp 22))⟩, ⟨(some 24), (some (18, false)), .p (.bin .neq (.tmp 20) (.tmp 23))⟩, ⟨(some 25), none, .p (.pick (.tmp 18) (.const (.bool true)) (.tmp 24))⟩])
  (.cond (.tmp 25) (.seq (.reg [⟨(some 8), none, .p (.mov (.const (.slice none 0 0)))⟩, ⟨(some 9), none, .p (.mov (.const (.slice none 0 0)))⟩, ⟨(some 10), none, .p (.mov (.const (.int .i64 1)))⟩])
  .ret) .skip))
  (.seq (.seq (.reg [⟨(some 26), none, .p (.ld (some 2) (.tmp 4))⟩, ⟨(some 27), none, .p (.mov (.tmp 3))⟩, ⟨(some 28), none, .e (.call 53 [(.tmp 26), (.tmp 27)])⟩, ⟨(some 29), none, .p (.un .not (.tmp 28))⟩])
  (.cond (.tmp 29) (.seq (.reg [⟨(some 8), none, .p (.mov (.const (.slice none 0 0)))⟩, ⟨(some 9), none, .p (.mov (.const (.slice none 0 0)))⟩, ⟨(some 10), none, .p (.mov (.const (.int .i64 2)))⟩])
  .ret) .skip))
  (.seq (.reg [⟨(some 30), none, .p (.ld (some 2) (.tmp 4))⟩, ⟨(some 31), none, .p (.ld (some 1) (.tmp 5))⟩, ⟨(some 32), none, .p (.mov (.tmp 2))⟩, ⟨(some 33), none, .p (.mov (.tmp 3))⟩, ⟨(some 34), none, .e (.call 54 [(.tmp 30), (.tmp 31), (.tmp 32), (.tmp 33)])⟩, ⟨(some 11), none, .e (.alc [(.map none)])⟩, ⟨none, none, .e (.st 1 (.tmp 11) (.tmp 34))⟩])
  (.seq (.reg [⟨(some 35), none, .p (.mkf 56 [(.tmp 11)])⟩, ⟨(some 12), none, .p (.mov (.tmp 35))⟩])
  (.seq (.seq (.reg [⟨(some 36), none, .p (.fad 0 (.tmp 4))⟩, ⟨(some 37), none, .p (.ld none (.tmp 36))⟩, ⟨(some 38), none, .p (.len 1 (.tmp 37))⟩, ⟨(some 39), none, .p (.mov (.const (.int .i64 0)))⟩])
  (.block 0
  (.loop lb28_0)))
  (.seq (.reg [⟨(some 57), none, .p (.mov (.tmp 8))⟩, ⟨(some 58), none, .p (.mov (.tmp 9))⟩, ⟨(some 8), none, .p (.mov (.tmp 57))⟩, ⟨(some 9), none, .p (.mov (.tmp 58))⟩, ⟨(some 10), none, .p (.mov (.const (.int .i64 0)))⟩])
  .ret)))))))
def rf28 : List RX := [.tmp 8, .tmp 9, .tmp 10]
set_option maxRecDepth 100000 in
theorem comp28 : cFn Tryd.prog Tryd.f28 = some (erase cf28, rf28) := by kernel_rfl
def cf53 : LC :=
  (.seq (.reg [⟨(some 2), none, .e (.box (.tmp 0))⟩, ⟨(some 4), none, .p (.mov (.const (.bool false)))⟩])
  (.seq (.reg [⟨(some 5), none, .p (.mov (.tmp 1))⟩, ⟨(some 6), none, .p (.bin .geq (.tmp 5) (.const (.int .i64 0)))⟩, ⟨(some 7), none, .p (.mov (.tmp 6))⟩, ⟨(some 8), (some (7, true)), .p (.mov (.tmp 1))⟩, ⟨(some 9), (some (7, true)), .p (.fad 0 (.tmp 2))⟩, ⟨(some 10), (some (7, true)), .p (.ld none (.tmp 9))⟩, ⟨(some 11), (some (7, true)), .p (.len 1 (.tmp 10))⟩, ⟨(some 12), (some (7, true)), .p (.bin .lss (.tmp 8) (.tmp 11))⟩, ⟨(some 13), none, .p (.pick (.tmp 7) (.tmp 12) (.const (.bool false)))⟩, ⟨(some 4), none, .p (.mov (.tmp 13))⟩])
  .ret))
def rf53 : List RX := [.tmp 4]
set_option maxRecDepth 100000 in
theorem comp53 : cFn Tryd.prog Tryd.f53 = some (erase cf53, rf53) := by kernel_rfl
def lb54_0 : LC :=
  (.seq (.seq (.reg [⟨(some 28), none, .p (.mov (.tmp 11))⟩, ⟨(some 29), none, .e (.calv (.tmp 28) [])⟩])
  (.cond (.tmp 29) .skip (.exit 0)))
  (.block 1
  .skip))
def cf54 : LC :=
  (.seq (.reg [⟨(some 4), none, .e (.box (.tmp 0))⟩, ⟨(some 5), none, .e (.box (.tmp 1))⟩, ⟨(some 6), none, .e (.box (.tmp 2))⟩, ⟨(some 8), none, .p (.mov (.const (.map none)))⟩])
  (.seq (.reg [⟨(some 12), none, .e (.mkm)⟩, ⟨(some 9), none, .e (.alc [(.map none)])⟩, ⟨none, none, .e (.st 1 (.tmp 9) (.tmp 12))⟩])
  (.seq (.seq (.reg [⟨(some 13), none, .p (.fad 0 (.tmp 5))⟩, ⟨(some 14), none, .p (.ld none (.tmp 13))⟩, ⟨(some 15), none, .p (.mov (.tmp 3))⟩, ⟨(some 16), none, .p (.iad 1 (.tmp 14) (.tmp 15))⟩, ⟨(some 17), none, .p (.ld none (.tmp 16))⟩, ⟨(some 18), none, .p (.bin .lss (.tmp 17) (.const (.int .i64 0)))⟩])
  (.cond (.tmp 18) (.seq (.reg [⟨(some 19), none, .p (.ld none (.tmp 9))⟩, ⟨(some 8), none, .p (.mov (.tmp 19))⟩])
  .ret) .skip))
  (.seq (.reg [⟨(some 20), none, .p (.ld none (.tmp 9))⟩, ⟨(some 21), none, .p (.mov (.tmp 3))⟩, ⟨(some 22), none, .p (.bld [(.int .i64 0), (.bool false)] [(0, 1, (.tmp 21))])⟩, ⟨none, none, .e (.mup 102 (.tmp 20) (.tmp 22) (.const (.int .i64 0)))⟩])
  (.seq (.reg [⟨(some 23), none, .p (.ld none (.tmp 9))⟩, ⟨(some 24), none, .p (.mov (.tmp 3))⟩, ⟨(some 25), none, .p (.bld [(.int .i64 0), (.bool false)] [(0, 1, (.tmp 24)), (1, 1, (.const (.bool true)))])⟩, ⟨none, none, .e (.mup 102 (.tmp 23) (.tmp 25) (.const (.int .i64 0)))⟩])
  (.seq (.reg [⟨(some 26), none, .p (.mkf 81 [(.tmp 5), (.tmp 9)])⟩, ⟨(some 10), none, .e (.alc [.nilFunc])⟩, ⟨none, none, .e (.st 1 (.tmp 10) (.tmp 26))⟩])
  (.seq (.reg [⟨(some 27), none, .p (.mkf 82 [(.tmp 4), (.tmp 6), (.tmp 5), (.tmp 10)])⟩, ⟨(some 11), none, .p (.mov (.tmp 27))⟩])
  (.seq (.block 0
  (.loop lb54_0))
  (.seq (.reg [⟨(some 30), none, .p (.ld none (.tmp 9))⟩, ⟨(some 8), none, .p (.mov (.tmp 30))⟩])
  .ret)))))))))
def rf54 : List RX := [.tmp 8]
set_option maxRecDepth 100000 in
theorem comp54 : cFn Tryd.prog Tryd.f54 = some (erase cf54, rf54) := by kernel_rfl
def cf56 : LC :=
  (.seq (.reg [⟨(some 2), none, .e (.box (.tmp 0))⟩, ⟨(some 3), none, .p (.mov (.const (.int .i64 0)))⟩])
  (.seq (.seq (.reg [⟨(some 7), none, .p (.ld none (.tmp 1))⟩, ⟨(some 8), none, .p (.ld (some 2) (.tmp 2))⟩, ⟨(some 9), none, .p (.lkp 102 (.int .i64 0) true (.tmp 7) (.tmp 8))⟩, ⟨(some 6), none, .p (.mov (.tmp 9))⟩, ⟨(some 10), none, .p (.ext (.tmp 6) 0)⟩, ⟨(some 11), none, .p (.ext (.tmp 6) 1)⟩, ⟨(some 4), none, .p (.mov (.tmp 10))⟩, ⟨(some 5), none, .p (.mov (.tmp 11))⟩])
  (.seq (.reg [⟨(some 12), none, .p (.mov (.tmp 5))⟩])
  (.cond (.tmp 12) (.seq (.reg [⟨(some 13), none, .p (.mov (.tmp 4))⟩, ⟨(some 3), none, .p (.mov (.tmp 13))⟩])
  .ret) .skip)))
  (.seq (.reg [⟨(some 3), none, .p (.mov (.const (.int .i64 (-1))))⟩])
  .ret)))
def rf56 : List RX := [.tmp 3]
set_option maxRecDepth 100000 in
theorem comp56 : cFn Tryd.prog Tryd.f56 = some (erase cf56, rf56) := by kernel_rfl
def cf58 : LC :=
  (.seq (.reg [⟨(some 3), none, .e (.box (.tmp 0))⟩, ⟨(some 4), none, .e (.box (.tmp 1))⟩, ⟨(some 6), none, .e (.alc [(.int .i64 0), (.bool false)])⟩, ⟨(some 7), none, .p (.mov (.const (.bool false)))⟩])
  (.seq (.reg [⟨(some 9), none, .p (.ld (some 1) (.tmp 3))⟩, ⟨(some 10), none, .p (.mov (.tmp 2))⟩, ⟨(some 11), none, .p (.fad 0 (.tmp 4))⟩, ⟨(some 12), none, .p (.ld none (.tmp 11))⟩, ⟨(some 13), none, .e (.call 40 [(.tmp 9), (.tmp 10), (.tmp 12)])⟩, ⟨(some 8), none, .p (.mov (.tmp 13))⟩])
  (.seq (.dreg [⟨(some 14), none, .p (.mov (.tmp 2))⟩, ⟨(some 15), none, .p (.mov (.tmp 8))⟩, ⟨(some 16), none, .p (.un .not (.tmp 15))⟩, ⟨(some 17), none, .p (.bld [(.int .i64 0), (.bool false)] [(0, 1, (.tmp 14)), (1, 1, (.tmp 16))])⟩, ⟨(some 18), none, .p (.mov (.tmp 8))⟩, ⟨(some 19), none, .p (.un .not (.tmp 18))⟩, ⟨(some 20), none, .p (.mov (.tmp 19))⟩, ⟨(some 21), (some (20, false)), .p (.fad 1 (.tmp 4))⟩] [[⟨(some 22), (some (20, false)), .p (.ld none (.tmp 21))⟩, ⟨(some 23), (some (20, false)), .p (.un .not (.tmp 22))⟩, ⟨(some 24), none, .p (.pick (.tmp 20) (.const (.bool true)) (.tmp 23))⟩, ⟨none, none, .e (.st 2 (.tmp 6) (.tmp 17))⟩, ⟨(some 7), none, .p (.mov (.tmp 24))⟩], [⟨(some 22), (some (20, false)), .p (.ld none (.tmp 21))⟩, ⟨(some 23), (some (20, false)), .p (.un .not (.tmp 22))⟩, ⟨none, none, .e (.st 2 (.tmp 6) (.tmp 17))⟩, ⟨(some 24), none, .p (.pick (.tmp 20) (.const (.bool true)) (.tmp 23))⟩, ⟨(some 7), none, .p (.mov (.tmp 24))⟩], [⟨(some 22), (some (20, false)), .p (.ld none (.tmp 21))⟩, ⟨none, none, .e (.st 2 (.tmp 6) (.tmp 17))⟩, ⟨(some 23), (some (20, false)), .p (.un .not (.tmp 22))⟩, ⟨(some 24), none, .p (.pick (.tmp 20) (.const (.bool true)) (.tmp 23))⟩, ⟨(some 7), none, .p (.mov (.tmp 24))⟩], [⟨none, none, .e (.st 2 (.tmp 6) (.tmp 17))⟩, ⟨(some 22), (some (20, false)), .p (.ld none (.tmp 21))⟩, ⟨(some 23), (some (20, false)), .p (.un .not (.tmp 22))⟩, ⟨(some 24), none, .p (.pick (.tmp 20) (.const (.bool true)) (.tmp 23))⟩, ⟨(some 7), none, .p (.mov (.tmp 24))⟩]])
  .ret)))
def rf58 : List RX := [.cell 6 (some 2), .tmp 7]
set_option maxRecDepth 100000 in
theorem comp58 : cFn Tryd.prog Tryd.f58 = some (erase cf58, rf58) := by kernel_rfl
def cf81 : LC :=
  (.seq (.reg [⟨(some 4), none, .e (.box (.tmp 0))⟩, ⟨(some 6), none, .p (.mov (.const (.bool false)))⟩])
  (.seq (.reg [⟨(some 14), none, .p (.ld (some 1) (.tmp 2))⟩, ⟨(some 15), none, .p (.ld (some 2) (.tmp 4))⟩, ⟨(some 16), none, .p (.mov (.tmp 1))⟩, ⟨(some 17), none, .e (.call 58 [(.tmp 14), (.tmp 15), (.tmp 16)])⟩, ⟨(some 13), none, .p (.mov (.tmp 17))⟩, ⟨(some 18), none, .p (.ext (.tmp 13) 0)⟩, ⟨(some 19), none, .p (.ext (.tmp 13) 1)⟩, ⟨(some 7), none, .e (.alc [(.int .i64 0), (.bool false)])⟩, ⟨none, none, .e (.st 2 (.tmp 7) (.tmp 18))⟩, ⟨(some 8), none, .p (.mov (.tmp 19))⟩])
  (.seq (.reg [⟨(some 21), none, .p (.ld none (.tmp 3))⟩, ⟨(some 22), none, .p (.ld (some 2) (.tmp 7))⟩, ⟨(some 23), none, .p (.lkp 102 (.int .i64 0) true (.tmp 21) (.tmp 22))⟩, ⟨(some 20), none, .p (.mov (.tmp 23))⟩, ⟨(some 24), none, .p (.ext (.tmp 20) 0)⟩, ⟨(some 25), none, .p (.ext (.tmp 20) 1)⟩, ⟨(some 9), none, .p (.mov (.tmp 24))⟩, ⟨(some 10), none, .p (.mov (.tmp 25))⟩])
  (.seq (.reg [⟨(some 27), none, .p (.ld none (.tmp 3))⟩, ⟨(some 28), none, .p (.ld (some 2) (.tmp 4))⟩, ⟨(some 29), none, .p (.lkp 102 (.int .i64 0) true (.tmp 27) (.tmp 28))⟩, ⟨(some 26), none, .p (.mov (.tmp 29))⟩, ⟨(some 30), none, .p (.ext (.tmp 26) 0)⟩, ⟨(some 31), none, .p (.ext (.tmp 26) 1)⟩, ⟨(some 11), none, .p (.mov (.tmp 30))⟩, ⟨(some 12), none, .p (.mov (.tmp 31))⟩])
  (.seq (.seq (.reg [⟨(some 32), none, .p (.mov (.tmp 8))⟩, ⟨(some 33), none, .p (.un .not (.tmp 32))⟩, ⟨(some 34), none, .p (.mov (.tmp 33))⟩, ⟨(some 35), (some (34, false)), .p (.mov (.tmp 10))⟩, ⟨(some 36), (some (34, false)), .p (.un .not (.tmp 35))⟩, ⟨(some 37), none, .p (.pick (.tmp 34) (.const (.bool true)) (.tmp 36))⟩, ⟨(some 38), none, .p (.mov (.tmp 37))⟩, ⟨(some 39), (some (38, false)), .p (.mov (.tmp 12))⟩, ⟨(some 40), (some (38, false)), .p (.mov (.tmp 39))⟩, ⟨(some 41), (some (40, true)), .p (.mov (.tmp 11))⟩, ⟨(some 42), (some (40, true)), .p (.mov (.tmp 9))⟩, ⟨(some 43), (some (40, true)), .p (.bin .add (.tmp 42) (.const (.int .i64 1)))⟩, ⟨(some 44), (some (40, true)), .p (.bin .leq (.tmp 41) (.tmp 43))⟩, ⟨(some 45), (some (38, false)), .p (.pick (.tmp 40) (.tmp 44) (.const (.bool false)))⟩, ⟨(some 46), none, .p (.pick (.tmp 38) (.const (.bool true)) (.tmp 45))⟩])
  (.cond (.tmp 46) (.seq (.reg [⟨(some 6), none, .p (.mov (.const (.bool false)))⟩])
  .ret) .skip))
  (.seq (.reg [⟨(some 47), none, .p (.ld none (.tmp 3))⟩, ⟨(some 48), none, .p (.ld (some 2) (.tmp 4))⟩, ⟨(some 49), none, .p (.mov (.tmp 9))⟩, ⟨(some 50), none, .p (.bin .add (.tmp 49) (.const (.int .i64 1)))⟩, ⟨none, none, .e (.mup 102 (.tmp 47) (.tmp 48) (.tmp 50))⟩])
  (.seq (.reg [⟨(some 6), none, .p (.mov (.const (.bool true)))⟩])
  .ret)))))))
def rf81 : List RX := [.tmp 6]
set_option maxRecDepth 100000 in
theorem comp81 : cFn Tryd.prog Tryd.f81 = some (erase cf81, rf81) := by kernel_rfl
def lb82_0 : LC :=
  (.seq (.reg [⟨(some 43), none, .p (.bin .lss (.tmp 42) (.const (.int .i64 2)))⟩])
  (.seq (.cond (.tmp 43) .skip (.exit 2))
  (.seq (.block 3
  (.seq (.reg [⟨(some 44), none, .p (.idxa 2 1 none (.tmp 41) (.tmp 42))⟩, ⟨(some 9), none, .p (.mov (.tmp 44))⟩])
  (.seq (.reg [⟨(some 45), none, .p (.ld none (.tmp 3))⟩, ⟨(some 46), none, .p (.fad 0 (.tmp 7))⟩, ⟨(some 47), none, .p (.ld none (.tmp 46))⟩, ⟨(some 48), none, .p (.mov (.tmp 9))⟩, ⟨(some 49), none, .p (.bld [(.int .i64 0), (.bool false)] [(0, 1, (.tmp 47)), (1, 1, (.tmp 48))])⟩, ⟨(some 50), none, .p (.fad 2 (.tmp 7))⟩, ⟨(some 51), none, .p (.ld none (.tmp 50))⟩, ⟨(some 52), none, .e (.calv (.tmp 45) [(.tmp 49), (.tmp 51)])⟩, ⟨(some 53), none, .p (.mov (.tmp 52))⟩, ⟨(some 54), (some (53, false)), .p (.mov (.tmp 5))⟩, ⟨(some 55), none, .p (.pick (.tmp 53) (.const (.bool true)) (.tmp 54))⟩, ⟨(some 5), none, .p (.mov (.tmp 55))⟩])
  (.reg [⟨(some 56), none, .p (.ld none (.tmp 3))⟩, ⟨(some 57), none, .p (.fad 2 (.tmp 7))⟩, ⟨(some 58), none, .p (.ld none (.tmp 57))⟩, ⟨(some 59), none, .p (.mov (.tmp 9))⟩, ⟨(some 60), none, .p (.bld [(.int .i64 0), (.bool false)] [(0, 1, (.tmp 58)), (1, 1, (.tmp 59))])⟩, ⟨(some 61), none, .p (.fad 0 (.tmp 7))⟩, ⟨(some 62), none, .p (.ld none (.tmp 61))⟩, ⟨(some 63), none, .e (.calv (.tmp 56) [(.tmp 60), (.tmp 62)])⟩, ⟨(some 64), none, .p (.mov (.tmp 63))⟩, ⟨(some 65), (some (64, false)), .p (.mov (.tmp 5))⟩, ⟨(some 66), none, .p (.pick (.tmp 64) (.const (.bool true)) (.tmp 65))⟩, ⟨(some 5), none, .p (.mov (.tmp 66))⟩]))))
  (.reg [⟨(some 67), none, .p (.bin .add (.tmp 42) (.const (.int .i64 1)))⟩, ⟨(some 42), none, .p (.mov (.tmp 67))⟩]))))
def lb82_1 : LC :=
  (.seq (.reg [⟨(some 14), none, .p (.bin .lss (.tmp 13) (.tmp 12))⟩])
  (.seq (.cond (.tmp 14) .skip (.exit 0))
  (.seq (.block 1
  (.seq (.reg [⟨(some 15), none, .p (.mov (.tmp 13))⟩, ⟨(some 16), none, .p (.iad 6 (.tmp 11) (.tmp 13))⟩, ⟨(some 17), none, .p (.ld (some 6) (.tmp 16))⟩, ⟨(some 7), none, .e (.alc [(.int .i64 0), (.int .i64 0), (.int .i64 0), (.int .i64 0), (.int .i64 0), (.int .i64 0)])⟩, ⟨(some 6), none, .p (.mov (.tmp 15))⟩, ⟨none, none, .e (.st 6 (.tmp 7) (.tmp 17))⟩])
  (.seq (.seq (.reg [⟨(some 18), none, .p (.ld none (.tmp 1))⟩, ⟨(some 19), none, .p (.mov (.tmp 6))⟩, ⟨(some 20), none, .p (.iad 1 (.tmp 18) (.tmp 19))⟩, ⟨(some 21), none, .p (.ld none (.tmp 20))⟩, ⟨(some 22), none, .p (.un .not (.tmp 21))⟩, ⟨(some 23), none, .p (.mov (.tmp 22))⟩, ⟨(some 24), (some (23, false)), .p (.fad 0 (.tmp 2))⟩, ⟨(some 25), (some (23, false)), .p (.ld none (.tmp 24))⟩, ⟨(some 26), (some (23, false)), .p (.fad 0 (.tmp 7))⟩, ⟨(some 27), (some (23, false)), .p (.ld none (.tmp 26))⟩, ⟨(some 28), (some (23, false)), .p (.iad 1 (.tmp 25) (.tmp 27))⟩, ⟨(some 29), (some (23, false)), .p (.ld none (.tmp 28))⟩, ⟨(some 30), (some (23, false)), .p (.bin .lss (.tmp 29) (.const (.int .i64 0)))⟩, ⟨(some 31), none, .p (.pick (.tmp 23) (.const (.bool true)) (.tmp 30))⟩, ⟨(some 32), none, .p (.mov (.tmp 31))⟩, ⟨(some 33), (some (32, false)), .p (.fad 0 (.tmp 2))⟩, ⟨(some 34), (some (32, false)), .p (.ld none (.tmp 33))⟩, ⟨(some 35), (some (32, false)), .p (.fad 2 (.tmp 7))⟩, ⟨(some 36), (some (32, false)), .p (.ld none (.tmp 35))⟩, ⟨(some 37), (some (32, false)), .p (.iad 1 (.tmp 34) (.tmp 36))⟩, ⟨(some 38), (some (32, false)), .p (.ld none (.tmp 37))⟩, ⟨(some 39), (some (32, false)), .p (.bin .lss (.tmp 38) (.const (.int .i64 0)))⟩, ⟨(some 40), none, .p (.pick (.tmp 32) (.const (.bool true)) (.tmp 39))⟩])
  (.cond (.tmp 40) (.exit 1) .skip))
  (.seq (.reg [⟨(some 41), none, .p (.bld [(.bool false), (.bool false)] [(0, 1, (.const (.bool false))), (1, 1, (.const (.bool true)))])⟩, ⟨(some 42), none, .p (.mov (.const (.int .i64 0)))⟩])
  (.block 2
  (.loop lb82_0))))))
  (.reg [⟨(some 68), none, .p (.bin .add (.tmp 13) (.const (.int .i64 1)))⟩, ⟨(some 13), none, .p (.mov (.tmp 68))⟩]))))
def cf82 : LC :=
  (.seq (.reg [⟨(some 4), none, .p (.mov (.const (.bool false)))⟩])
  (.seq (.reg [⟨(some 5), none, .p (.mov (.const (.bool false)))⟩])
  (.seq (.seq (.reg [⟨(some 10), none, .p (.fad 1 (.tmp 0))⟩, ⟨(some 11), none, .p (.ld none (.tmp 10))⟩, ⟨(some 12), none, .p (.len 1 (.tmp 11))⟩, ⟨(some 13), none, .p (.mov (.const (.int .i64 0)))⟩])
  (.block 0
  (.loop lb82_1)))
  (.seq (.reg [⟨(some 69), none, .p (.mov (.tmp 5))⟩, ⟨(some 4), none, .p (.mov (.tmp 69))⟩])
  .ret))))
def rf82 : List RX := [.tmp 4]
set_option maxRecDepth 100000 in
theorem comp82 : cFn Tryd.prog Tryd.f82 = some (erase cf82, rf82) := by kernel_rfl
end Go.Proofs.YtcdepkflghcjpaaDoor
namespace Go.Proofs.YtcdepkflghcjpaaDoor
end Go.Proofs.YtcdepkflghcjpaaDoor
namespace Go.Proofs.YtcdepkflghcjpaaDoor
end Go.Proofs.YtcdepkflghcjpaaDoor
namespace Go.Proofs.YtcdepkflghcjpaaDoor
end Go.Proofs.YtcdepkflghcjpaaDoor
namespace Go.Proofs.YtcdepkflghcjpaaDoor
end Go.Proofs.YtcdepkflghcjpaaDoor
namespace Go.Proofs.YtcdepkflghcjpaaDoor
end Go.Proofs.YtcdepkflghcjpaaDoor
namespace Go.Proofs.YtcdepkflghcjpaaDoor
end Go.Proofs.YtcdepkflghcjpaaDoor
namespace Go.Proofs.YtcdepkflghcjpaaDoor
def cf61 : LC :=
  (.seq (.reg [⟨(some 4), none, .p (.mov (.const (.int .i64 0)))⟩, ⟨(some 5), none, .p (.mov (.const .nilIface))⟩])
  (.seq (.reg [⟨(some 6), none, .p (.mov (.tmp 0))⟩, ⟨(some 7), none, .e (.call 87 [(.tmp 6)])⟩])
  (.seq (.reg [⟨(some 8), none, .p (.mov (.tmp 0))⟩, ⟨(some 9), none, .p (.mov (.tmp 0))⟩, ⟨(some 10), none, .p (.nilc (.tmp 9))⟩, ⟨(some 11), none, .p (.fad 1 (.tmp 10))⟩, ⟨(some 12), none, .p (.ld none (.tmp 11))⟩, ⟨(some 13), none, .p (.mov (.tmp 1))⟩, ⟨(some 14), none, .e (.aps 5 1 (.tmp 12) (.tmp 13))⟩, ⟨(some 15), none, .p (.nilc (.tmp 8))⟩, ⟨(some 16), none, .p (.fad 1 (.tmp 15))⟩, ⟨none, none, .e (.st 1 (.tmp 16) (.tmp 14))⟩])
  (.seq (.reg [⟨(some 17), none, .p (.mov (.tmp 1))⟩, ⟨(some 18), none, .p (.len 0 (.tmp 17))⟩, ⟨(some 4), none, .p (.mov (.tmp 18))⟩, ⟨(some 5), none, .p (.mov (.const .nilIface))⟩])
  .ret))))
def rf61 : List RX := [.tmp 4, .tmp 5]
set_option maxRecDepth 100000 in
theorem comp61 : cFn Tryd.prog Tryd.f61 = some (erase cf61, rf61) := by kernel_rfl
def cf63 : LC :=
  (.seq (.reg [⟨(some 4), none, .p (.mov (.const .nilIface))⟩])
  (.seq (.reg [⟨(some 5), none, .p (.mov (.tmp 0))⟩, ⟨(some 6), none, .e (.call 87 [(.tmp 5)])⟩])
  (.seq (.reg [⟨(some 7), none, .p (.mov (.tmp 0))⟩, ⟨(some 8), none, .p (.mov (.tmp 0))⟩, ⟨(some 9), none, .p (.nilc (.tmp 8))⟩, ⟨(some 10), none, .p (.fad 1 (.tmp 9))⟩, ⟨(some 11), none, .p (.ld none (.tmp 10))⟩, ⟨(some 12), none, .p (.mov (.tmp 1))⟩, ⟨(some 13), none, .e (.bsr 1 1 [(.int .u8 0)] [(0, 1, (.tmp 12))])⟩, ⟨(some 14), none, .e (.aps 5 1 (.tmp 11) (.tmp 13))⟩, ⟨(some 15), none, .p (.nilc (.tmp 7))⟩, ⟨(some 16), none, .p (.fad 1 (.tmp 15))⟩, ⟨none, none, .e (.st 1 (.tmp 16) (.tmp 14))⟩])
  (.seq (.reg [⟨(some 4), none, .p (.mov (.const .nilIface))⟩])
  .ret))))
def rf63 : List RX := [.tmp 4]
set_option maxRecDepth 100000 in
theorem comp63 : cFn Tryd.prog Tryd.f63 = some (erase cf63, rf63) := by kernel_rfl
end Go.Proofs.YtcdepkflghcjpaaDoor
namespace Go.Proofs.YtcdepkflghcjpaaDoor
end Go.Proofs.YtcdepkflghcjpaaDoor

