/- The functions of a package in the lifted layer's own small language; The functions of a package in the lifted layer's own small language; The functions of a package in the lifted layer's own small language; The functions of a package in the lifted layer's own small language; The functions of a package in the lifted layer's own small language; The functions of a package in the lifted layer's own small language; The functions of a package in the lifted layer's own small language; The functions of a package in the lifted layer's own small language; The functions of a package in the lifted layer's own small language; The functions of a package in the lifted layer's own small language; The functions of a package in the lifted layer's own small language; The functions of a package in the lifted layer's own small language; The functions of a package in the lifted layer's own small language; All functions of the seat. Conditions: none. -/
import Derived.Test.YtchpncmmlhfemaaDoorMC
import Derived.KernelRfl
namespace Go.Proofs.YtchpncmmlhfemaaDoor
def cf10 : LC :=
  (.seq (.reg [⟨(some 4), none, .p (.mov (.const (.bool false)))⟩])
  (.seq (.seq (.reg [⟨(some 15), none, .e (.call 11 [])⟩, ⟨(some 16), none, .p (.un .not (.tmp 15))⟩])
  (.cond (.tmp 16) (.seq (.reg [⟨(some 4), none, .p (.mov (.const (.bool false)))⟩])
  .ret) .skip))
  (.seq (.seq (.reg [⟨(some 17), none, .p (.mov (.tmp 0))⟩, ⟨(some 18), none, .p (.len 0 (.tmp 17))⟩, ⟨(some 19), none, .p (.bin .gtr (.tmp 18) (.const (.int .i64 2000)))⟩, ⟨(some 20), none, .p (.mov (.tmp 19))⟩, ⟨(some 21), (some (20, false)), .p (.mov (.tmp 1))⟩, ⟨(some 22), (some (20, false)), .p (.len 0 (.tmp 21))⟩, ⟨(some 23), (some (20, false)), .p (.bin .gtr (.tmp 22) (.const (.int .i64 2000)))⟩, ⟨(some 24), none, .p (.pick (.tmp 20) (.const (.bool true)) (.tmp 23))⟩])
  (.cond (.tmp 24) (.seq (.reg [⟨(some 4), none, .p (.mov (.const (.bool true)))⟩])
  .ret) .skip))
  (.seq (.reg [⟨(some 26), none, .p (.mov (.tmp 0))⟩, ⟨(some 27), none, .e (.call 29 [(.tmp 26)])⟩, ⟨(some 25), none, .p (.mov (.tmp 27))⟩, ⟨(some 28), none, .p (.ext (.tmp 25) 0)⟩, ⟨(some 29), none, .p (.ext (.tmp 25) 1)⟩, ⟨(some 30), none, .p (.ext (.tmp 25) 2)⟩, ⟨(some 5), none, .e (.alc [(.slice none 0 0), (.slice none 0 0)])⟩, ⟨none, none, .e (.st 2 (.tmp 5) (.tmp 28))⟩, ⟨(some 6), none, .p (.mov (.tmp 29))⟩, ⟨(some 7), none, .p (.mov (.tmp 30))⟩])
  (.seq (.seq (.reg [⟨(some 31), none, .p (.mov (.tmp 7))⟩, ⟨(some 32), none, .p (.bin .eql (.tmp 31) (.const (.int .i64 0)))⟩])
  (.cond (.tmp 32) (.seq (.reg [⟨(some 34), none, .p (.ld (some 2) (.tmp 5))⟩, ⟨(some 35), none, .e (.call 28 [(.tmp 34)])⟩, ⟨(some 33), none, .p (.mov (.tmp 35))⟩, ⟨(some 36), none, .p (.ext (.tmp 33) 0)⟩, ⟨(some 37), none, .p (.ext (.tmp 33) 1)⟩, ⟨(some 8), none, .p (.mov (.tmp 36))⟩, ⟨(some 9), none, .p (.mov (.tmp 37))⟩])
  (.seq (.reg [⟨(some 38), none, .p (.mov (.tmp 9))⟩, ⟨(some 39), none, .p (.bin .eql (.tmp 38) (.const (.int .i64 0)))⟩, ⟨(some 40), none, .p (.mov (.tmp 39))⟩, ⟨(some 41), (some (40, true)), .p (.mov (.tmp 8))⟩, ⟨(some 42), (some (40, true)), .p (.mov (.tmp 0))⟩, ⟨(some 43), (some (40, true)), .p (.bin .eql (.tmp 41) (.tmp 42))⟩, ⟨(some 44), none, .p (.pick (.tmp 40) (.tmp 43) (.const (.bool false)))⟩, ⟨(some 45), none, .p (.mov (.tmp 44))⟩, ⟨(some 46), (some (45, true)), .p (.mov (.tmp 6))⟩, ⟨(some 47), (some (45, true)), .p (.bin .eql (.tmp 46) (.const (.int .i64 0)))⟩, ⟨(some 48), none, .p (.pick (.tmp 45) (.tmp 47) (.const (.bool false)))⟩, ⟨(some 49), none, .p (.mov (.tmp 48))⟩, ⟨(some 50), (some (49, true)), .p (.ld (some 2) (.tmp 5))⟩, ⟨(some 51), (some (49, true)), .e (.call 13 [(.tmp 50)])⟩, ⟨(some 52), (some (49, true)), .p (.bin .eql (.tmp 51) (.const (.int .i64 0)))⟩, ⟨(some 53), none, .p (.pick (.tmp 49) (.tmp 52) (.const (.bool false)))⟩, ⟨(some 4), none, .p (.mov (.tmp 53))⟩])
  .ret)) .skip))
  (.seq (.seq (.reg [⟨(some 54), none, .p (.ld (some 2) (.tmp 5))⟩, ⟨(some 55), none, .p (.bld [(.slice none 0 0), (.slice none 0 0)] [])⟩, ⟨(some 56), none, .e (.call 31 [(.tmp 54), (.tmp 55)])⟩, ⟨(some 57), none, .p (.un .not (.tmp 56))⟩, ⟨(some 58), none, .p (.mov (.tmp 57))⟩, ⟨(some 59), (some (58, false)), .p (.mov (.tmp 6))⟩, ⟨(some 60), (some (58, false)), .p (.bin .lss (.tmp 59) (.const (.int .i64 0)))⟩, ⟨(some 61), none, .p (.pick (.tmp 58) (.const (.bool true)) (.tmp 60))⟩])
  (.cond (.tmp 61) (.seq (.reg [⟨(some 4), none, .p (.mov (.const (.bool false)))⟩])
  .ret) .skip))
  (.seq (.seq (.reg [⟨(some 62), none, .p (.mov (.tmp 7))⟩, ⟨(some 63), none, .p (.bin .neq (.tmp 62) (.const (.int .i64 3)))⟩, ⟨(some 64), none, .p (.mov (.tmp 63))⟩, ⟨(some 65), (some (64, false)), .p (.mov (.tmp 6))⟩, ⟨(some 66), (some (64, false)), .p (.bin .eql (.tmp 65) (.const (.int .i64 0)))⟩, ⟨(some 67), none, .p (.pick (.tmp 64) (.const (.bool true)) (.tmp 66))⟩])
  (.cond (.tmp 67) (.seq (.reg [⟨(some 4), none, .p (.mov (.const (.bool true)))⟩])
  .ret) .skip))
  (.seq (.reg [⟨(some 68), none, .p (.mov (.tmp 0))⟩, ⟨(some 69), none, .e (.call 32 [(.tmp 68), (.const (.string ⟨#[10]⟩))])⟩, ⟨(some 10), none, .p (.mov (.tmp 69))⟩])
  (.seq (.seq (.reg [⟨(some 70), none, .p (.mov (.tmp 6))⟩, ⟨(some 71), none, .p (.mov (.tmp 10))⟩, ⟨(some 72), none, .p (.len 1 (.tmp 71))⟩, ⟨(some 73), none, .p (.bin .gtr (.tmp 70) (.tmp 72))⟩])
  (.cond (.tmp 73) (.seq (.reg [⟨(some 4), none, .p (.mov (.const (.bool false)))⟩])
  .ret) .skip))
  (.seq (.reg [⟨(some 74), none, .p (.mov (.tmp 10))⟩, ⟨(some 75), none, .p (.mov (.tmp 6))⟩, ⟨(some 76), none, .p (.slc 1 (.tmp 74) none (some (.tmp 75)))⟩, ⟨(some 77), none, .e (.call 33 [(.tmp 76), (.const (.string ⟨#[]⟩))])⟩, ⟨(some 11), none, .p (.mov (.tmp 77))⟩])
  (.seq (.seq (.reg [⟨(some 78), none, .p (.mov (.tmp 11))⟩, ⟨(some 79), none, .e (.call 34 [(.tmp 78), (.const (.string ⟨#[10]⟩))])⟩, ⟨(some 80), none, .p (.un .not (.tmp 79))⟩])
  (.cond (.tmp 80) (.seq (.reg [⟨(some 4), none, .p (.mov (.const (.bool true)))⟩])
  .ret) .skip))
  (.seq (.reg [⟨(some 82), none, .p (.mov (.tmp 11))⟩, ⟨(some 83), none, .p (.mov (.tmp 1))⟩, ⟨(some 84), none, .p (.bin .add (.tmp 82) (.tmp 83))⟩, ⟨(some 85), none, .e (.call 29 [(.tmp 84)])⟩, ⟨(some 81), none, .p (.mov (.tmp 85))⟩, ⟨(some 86), none, .p (.ext (.tmp 81) 0)⟩, ⟨(some 87), none, .p (.ext (.tmp 81) 1)⟩, ⟨(some 88), none, .p (.ext (.tmp 81) 2)⟩, ⟨(some 12), none, .e (.alc [(.slice none 0 0), (.slice none 0 0)])⟩, ⟨none, none, .e (.st 2 (.tmp 12) (.tmp 86))⟩, ⟨(some 13), none, .p (.mov (.tmp 87))⟩, ⟨(some 14), none, .p (.mov (.tmp 88))⟩])
  (.seq (.reg [⟨(some 89), none, .p (.mov (.tmp 13))⟩, ⟨(some 90), none, .p (.mov (.tmp 6))⟩, ⟨(some 91), none, .p (.bin .eql (.tmp 89) (.tmp 90))⟩, ⟨(some 92), none, .p (.mov (.tmp 91))⟩, ⟨(some 93), (some (92, true)), .p (.mov (.tmp 14))⟩, ⟨(some 94), (some (92, true)), .p (.bin .eql (.tmp 93) (.const (.int .i64 3)))⟩, ⟨(some 95), none, .p (.pick (.tmp 92) (.tmp 94) (.const (.bool false)))⟩, ⟨(some 4), none, .p (.mov (.tmp 95))⟩])
  .ret)))))))))))))
def rf10 : List RX := [.tmp 4]
set_option maxRecDepth 100000 in
theorem comp10 : cFn Tryd.prog Tryd.f10 = some (erase cf10, rf10) := by kernel_rfl
end Go.Proofs.YtchpncmmlhfemaaDoor
namespace Go.Proofs.YtchpncmmlhfemaaDoor
def cf11 : LC :=
  (.seq (.reg [⟨(some 0), none, .p (.mov (.const (.bool false)))⟩])
  (.seq (.reg [⟨(some 8), none, .e (.call 35 [])⟩, ⟨(some 9), none, .e (.call 28 [(.tmp 8)])⟩, ⟨(some 7), none, .p (.mov (.tmp 9))⟩, ⟨(some 10), none, .p (.ext (.tmp 7) 0)⟩, ⟨(some 11), none, .p (.ext (.tmp 7) 1)⟩, ⟨(some 1), none, .p (.mov (.tmp 10))⟩, ⟨(some 2), none, .p (.mov (.tmp 11))⟩])
  (.seq (.reg [⟨(some 13), none, .e (.call 35 [])⟩, ⟨(some 14), none, .e (.call 18 [(.tmp 13), (.const (.int .i64 1)), (.const (.int .i64 0))])⟩, ⟨(some 12), none, .p (.mov (.tmp 14))⟩, ⟨(some 15), none, .p (.ext (.tmp 12) 0)⟩, ⟨(some 16), none, .p (.ext (.tmp 12) 1)⟩, ⟨(some 17), none, .p (.ext (.tmp 12) 2)⟩, ⟨(some 18), none, .p (.ext (.tmp 12) 3)⟩, ⟨(some 3), none, .p (.mov (.tmp 15))⟩, ⟨(some 4), none, .p (.mov (.tmp 16))⟩, ⟨(some 5), none, .p (.mov (.tmp 17))⟩, ⟨(some 6), none, .p (.mov (.tmp 18))⟩])
  (.seq (.reg [⟨(some 19), none, .p (.mov (.tmp 2))⟩, ⟨(some 20), none, .p (.bin .eql (.tmp 19) (.const (.int .i64 0)))⟩, ⟨(some 21), none, .p (.mov (.tmp 20))⟩, ⟨(some 22), (some (21, true)), .p (.mov (.tmp 1))⟩, ⟨(some 23), (some (21, true)), .p (.bin .eql (.tmp 22) (.const (.string ⟨#[115, 119, 105, 116, 99, 104, 32, 115, 49, 32, 50, 10, 101, 110, 100, 32, 101, 49, 10, 99, 97, 98, 108, 101, 32, 115, 49, 32, 49, 32, 101, 49, 32, 48, 32, 49, 32, 52, 10]⟩)))⟩, ⟨(some 24), none, .p (.pick (.tmp 21) (.tmp 23) (.const (.bool false)))⟩, ⟨(some 25), none, .p (.mov (.tmp 24))⟩, ⟨(some 26), (some (25, true)), .p (.mov (.tmp 6))⟩, ⟨(some 27), none, .p (.pick (.tmp 25) (.tmp 26) (.const (.bool false)))⟩, ⟨(some 28), none, .p (.mov (.tmp 27))⟩, ⟨(some 29), (some (28, true)), .p (.mov (.tmp 3))⟩, ⟨(some 30), (some (28, true)), .p (.bin .eql (.tmp 29) (.const (.int .i64 0)))⟩, ⟨(some 31), none, .p (.pick (.tmp 28) (.tmp 30) (.const (.bool false)))⟩, ⟨(some 32), none, .p (.mov (.tmp 31))⟩, ⟨(some 33), (some (32, true)), .p (.mov (.tmp 4))⟩, ⟨(some 34), (some (32, true)), .p (.bin .eql (.tmp 33) (.const (.int .i64 1)))⟩, ⟨(some 35), none, .p (.pick (.tmp 32) (.tmp 34) (.const (.bool false)))⟩, ⟨(some 36), none, .p (.mov (.tmp 35))⟩, ⟨(some 37), (some (36, true)), .p (.mov (.tmp 5))⟩, ⟨(some 38), (some (36, true)), .p (.bin .eql (.tmp 37) (.const (.int .i64 0)))⟩, ⟨(some 39), none, .p (.pick (.tmp 36) (.tmp 38) (.const (.bool false)))⟩, ⟨(some 40), none, .p (.mov (.tmp 39))⟩, ⟨(some 41), (some (40, true)), .e (.call 35 [])⟩, ⟨(some 42), (some (40, true)), .e (.bsl 2 1 1 [(.bool false)] [(0, 1, (.const (.bool true)))])⟩, ⟨(some 43), (some (40, true)), .e (.call 22 [(.tmp 41), (.tmp 42)])⟩, ⟨(some 44), none, .p (.pick (.tmp 40) (.tmp 43) (.const (.bool false)))⟩, ⟨(some 45), none, .p (.mov (.tmp 44))⟩, ⟨(some 46), (some (45, true)), .e (.call 35 [])⟩, ⟨(some 47), (some (45, true)), .e (.bsl 2 1 1 [(.bool false)] [(0, 1, (.const (.bool false)))])⟩, ⟨(some 48), (some (45, true)), .e (.call 22 [(.tmp 46), (.tmp 47)])⟩, ⟨(some 49), (some (45, true)), .p (.un .not (.tmp 48))⟩, ⟨(some 50), none, .p (.pick (.tmp 45) (.tmp 49) (.const (.bool false)))⟩, ⟨(some 0), none, .p (.mov (.tmp 50))⟩])
  .ret))))
def rf11 : List RX := [.tmp 0]
set_option maxRecDepth 100000 in
theorem comp11 : cFn Tryd.prog Tryd.f11 = some (erase cf11, rf11) := by kernel_rfl
def cf31 : LC :=
  (.seq (.reg [⟨(some 2), none, .e (.box (.tmp 0))⟩, ⟨(some 3), none, .e (.box (.tmp 1))⟩, ⟨(some 4), none, .p (.mov (.const (.bool false)))⟩])
  (.seq (.reg [⟨(some 5), none, .p (.fad 0 (.tmp 2))⟩, ⟨(some 6), none, .p (.ld none (.tmp 5))⟩, ⟨(some 7), none, .p (.fad 0 (.tmp 3))⟩, ⟨(some 8), none, .p (.ld none (.tmp 7))⟩, ⟨(some 9), none, .e (.call 52 [(.tmp 6), (.tmp 8)])⟩, ⟨(some 10), none, .p (.mov (.tmp 9))⟩, ⟨(some 11), (some (10, true)), .p (.fad 1 (.tmp 2))⟩, ⟨(some 12), (some (10, true)), .p (.ld none (.tmp 11))⟩, ⟨(some 13), (some (10, true)), .p (.fad 1 (.tmp 3))⟩, ⟨(some 14), (some (10, true)), .p (.ld none (.tmp 13))⟩, ⟨(some 15), (some (10, true)), .e (.call 53 [(.tmp 12), (.tmp 14)])⟩, ⟨(some 16), none, .p (.pick (.tmp 10) (.tmp 15) (.const (.bool false)))⟩, ⟨(some 4), none, .p (.mov (.tmp 16))⟩])
  .ret))
def rf31 : List RX := [.tmp 4]
set_option maxRecDepth 100000 in
theorem comp31 : cFn Tryd.prog Tryd.f31 = some (erase cf31, rf31) := by kernel_rfl
def cf35 : LC :=
  (.seq (.reg [⟨(some 0), none, .e (.alc [(.slice none 0 0), (.slice none 0 0)])⟩])
  (.seq (.reg [⟨(some 1), none, .p (.bld [(.string ⟨#[]⟩), (.bool false), (.int .i64 0)] [(0, 1, (.const (.string ⟨#[115, 49]⟩))), (1, 1, (.const (.bool true))), (2, 1, (.const (.int .i64 2)))])⟩, ⟨(some 2), none, .p (.bld [(.string ⟨#[]⟩), (.bool false), (.int .i64 0)] [(0, 1, (.const (.string ⟨#[101, 49]⟩))), (2, 1, (.const (.int .i64 1)))])⟩, ⟨(some 3), none, .e (.bsl 0 2 3 [(.string ⟨#[]⟩), (.bool false), (.int .i64 0)] [(0, 3, (.tmp 1)), (3, 3, (.tmp 2))])⟩, ⟨(some 4), none, .p (.bld [(.int .i64 0), (.int .i64 0), (.int .i64 0), (.int .i64 0), (.int .i64 0), (.int .i64 0)] [(1, 1, (.const (.int .i64 1))), (2, 1, (.const (.int .i64 1))), (4, 1, (.const (.int .i64 1))), (5, 1, (.const (.int .i64 4)))])⟩, ⟨(some 5), none, .e (.bsl 0 1 6 [(.int .i64 0), (.int .i64 0), (.int .i64 0), (.int .i64 0), (.int .i64 0), (.int .i64 0)] [(0, 6, (.tmp 4))])⟩, ⟨(some 6), none, .p (.bld [(.slice none 0 0), (.slice none 0 0)] [(0, 1, (.tmp 3)), (1, 1, (.tmp 5))])⟩, ⟨none, none, .e (.st 2 (.tmp 0) (.tmp 6))⟩])
  .ret))
def rf35 : List RX := [.cell 0 (some 2)]
set_option maxRecDepth 100000 in
theorem comp35 : cFn Tryd.prog Tryd.f35 = some (erase cf35, rf35) := by kernel_rfl
end Go.Proofs.YtchpncmmlhfemaaDoor
namespace Go.Proofs.YtchpncmmlhfemaaDoor
end Go.Proofs.YtchpncmmlhfemaaDoor
namespace Go.Proofs.YtchpncmmlhfemaaDoor
def lb13_0 : LC :=
  (.seq (.reg [⟨(some 75), none, .p (.bin .lss (.tmp 74) (.tmp 73))⟩])
  (.seq (.cond (.tmp 75) .skip (.exit 6))
  (.seq (.block 7
  (.seq (.reg [⟨(some 76), none, .p (.iad 6 (.tmp 72) (.tmp 74))⟩, ⟨(some 77), none, .p (.ld (some 6) (.tmp 76))⟩, ⟨(some 10), none, .e (.alc [(.int .i64 0), (.int .i64 0), (.int .i64 0), (.int .i64 0), (.int .i64 0), (.int .i64 0)])⟩, ⟨none, none, .e (.st 6 (.tmp 10) (.tmp 77))⟩])
  (.seq (.reg [⟨(some 78), none, .p (.fad 4 (.tmp 10))⟩, ⟨(some 79), none, .p (.ld none (.tmp 78))⟩, ⟨(some 80), none, .p (.bin .lss (.tmp 79) (.const (.int .i64 1)))⟩, ⟨(some 81), none, .p (.mov (.tmp 80))⟩, ⟨(some 82), (some (81, false)), .p (.fad 4 (.tmp 10))⟩, ⟨(some 83), (some (81, false)), .p (.ld none (.tmp 82))⟩, ⟨(some 84), (some (81, false)), .p (.bin .gtr (.tmp 83) (.const (.int .i64 100)))⟩, ⟨(some 85), none, .p (.pick (.tmp 81) (.const (.bool true)) (.tmp 84))⟩, ⟨(some 86), none, .p (.mov (.tmp 85))⟩, ⟨(some 87), (some (86, false)), .p (.fad 5 (.tmp 10))⟩, ⟨(some 88), (some (86, false)), .p (.ld none (.tmp 87))⟩, ⟨(some 89), (some (86, false)), .p (.bin .lss (.tmp 88) (.const (.int .i64 1)))⟩, ⟨(some 90), none, .p (.pick (.tmp 86) (.const (.bool true)) (.tmp 89))⟩, ⟨(some 91), none, .p (.mov (.tmp 90))⟩, ⟨(some 92), (some (91, false)), .p (.fad 5 (.tmp 10))⟩, ⟨(some 93), (some (91, false)), .p (.ld none (.tmp 92))⟩, ⟨(some 94), (some (91, false)), .p (.bin .gtr (.tmp 93) (.const (.int .i64 1000)))⟩, ⟨(some 95), none, .p (.pick (.tmp 91) (.const (.bool true)) (.tmp 94))⟩])
  (.cond (.tmp 95) (.seq (.reg [⟨(some 2), none, .p (.mov (.const (.int .i64 3)))⟩])
  .ret) .skip))))
  (.reg [⟨(some 96), none, .p (.bin .add (.tmp 74) (.const (.int .i64 1)))⟩, ⟨(some 74), none, .p (.mov (.tmp 96))⟩]))))
def lb13_1 : LC :=
  (.seq (.reg [⟨(some 62), none, .p (.bin .lss (.tmp 61) (.tmp 60))⟩])
  (.seq (.cond (.tmp 62) .skip (.exit 4))
  (.seq (.block 5
  (.seq (.reg [⟨(some 63), none, .p (.iad 6 (.tmp 59) (.tmp 61))⟩, ⟨(some 64), none, .p (.ld (some 6) (.tmp 63))⟩, ⟨(some 8), none, .e (.alc [(.int .i64 0), (.int .i64 0), (.int .i64 0), (.int .i64 0), (.int .i64 0), (.int .i64 0)])⟩, ⟨none, none, .e (.st 6 (.tmp 8) (.tmp 64))⟩])
  (.seq (.reg [⟨(some 65), none, .p (.fad 0 (.tmp 8))⟩, ⟨(some 66), none, .p (.ld none (.tmp 65))⟩, ⟨(some 67), none, .p (.fad 2 (.tmp 8))⟩, ⟨(some 68), none, .p (.ld none (.tmp 67))⟩, ⟨(some 69), none, .p (.bin .eql (.tmp 66) (.tmp 68))⟩])
  (.cond (.tmp 69) (.seq (.reg [⟨(some 2), none, .p (.mov (.const (.int .i64 12)))⟩])
  .ret) .skip))))
  (.reg [⟨(some 70), none, .p (.bin .add (.tmp 61) (.const (.int .i64 1)))⟩, ⟨(some 61), none, .p (.mov (.tmp 70))⟩]))))
def lb13_2 : LC :=
  (.seq (.reg [⟨(some 36), none, .p (.bin .lss (.tmp 35) (.tmp 34))⟩])
  (.seq (.cond (.tmp 36) .skip (.exit 2))
  (.seq (.block 3
  (.seq (.reg [⟨(some 37), none, .p (.iad 6 (.tmp 33) (.tmp 35))⟩, ⟨(some 38), none, .p (.ld (some 6) (.tmp 37))⟩, ⟨(some 6), none, .e (.alc [(.int .i64 0), (.int .i64 0), (.int .i64 0), (.int .i64 0), (.int .i64 0), (.int .i64 0)])⟩, ⟨none, none, .e (.st 6 (.tmp 6) (.tmp 38))⟩])
  (.seq (.reg [⟨(some 39), none, .p (.ld (some 2) (.tmp 1))⟩, ⟨(some 40), none, .p (.fad 0 (.tmp 6))⟩, ⟨(some 41), none, .p (.ld none (.tmp 40))⟩, ⟨(some 42), none, .p (.fad 1 (.tmp 6))⟩, ⟨(some 43), none, .p (.ld none (.tmp 42))⟩, ⟨(some 44), none, .e (.call 37 [(.tmp 39), (.tmp 41), (.tmp 43)])⟩, ⟨(some 45), none, .p (.un .not (.tmp 44))⟩, ⟨(some 46), none, .p (.mov (.tmp 45))⟩, ⟨(some 47), (some (46, false)), .p (.ld (some 2) (.tmp 1))⟩, ⟨(some 48), (some (46, false)), .p (.fad 2 (.tmp 6))⟩, ⟨(some 49), (some (46, false)), .p (.ld none (.tmp 48))⟩, ⟨(some 50), (some (46, false)), .p (.fad 3 (.tmp 6))⟩, ⟨(some 51), (some (46, false)), .p (.ld none (.tmp 50))⟩, ⟨(some 52), (some (46, false)), .e (.call 37 [(.tmp 47), (.tmp 49), (.tmp 51)])⟩, ⟨(some 53), (some (46, false)), .p (.un .not (.tmp 52))⟩, ⟨(some 54), none, .p (.pick (.tmp 46) (.const (.bool true)) (.tmp 53))⟩])
  (.cond (.tmp 54) (.seq (.reg [⟨(some 2), none, .p (.mov (.const (.int .i64 2)))⟩])
  .ret) .skip))))
  (.reg [⟨(some 55), none, .p (.bin .add (.tmp 35) (.const (.int .i64 1)))⟩, ⟨(some 35), none, .p (.mov (.tmp 55))⟩]))))
def lb13_3 : LC :=
  (.seq (.reg [⟨(some 25), none, .p (.bin .lss (.tmp 24) (.tmp 23))⟩])
  (.seq (.cond (.tmp 25) .skip (.exit 0))
  (.seq (.block 1
  (.seq (.reg [⟨(some 26), none, .p (.iad 3 (.tmp 22) (.tmp 24))⟩, ⟨(some 27), none, .p (.ld (some 3) (.tmp 26))⟩, ⟨(some 4), none, .e (.alc [(.string ⟨#[]⟩), (.bool false), (.int .i64 0)])⟩, ⟨none, none, .e (.st 3 (.tmp 4) (.tmp 27))⟩])
  (.seq (.reg [⟨(some 28), none, .p (.ld (some 3) (.tmp 4))⟩, ⟨(some 29), none, .e (.call 36 [(.tmp 28)])⟩, ⟨(some 30), none, .p (.un .not (.tmp 29))⟩])
  (.cond (.tmp 30) (.seq (.reg [⟨(some 2), none, .p (.mov (.const (.int .i64 1)))⟩])
  .ret) .skip))))
  (.reg [⟨(some 31), none, .p (.bin .add (.tmp 24) (.const (.int .i64 1)))⟩, ⟨(some 24), none, .p (.mov (.tmp 31))⟩]))))
def cf13 : LC :=
  (.seq (.reg [⟨(some 1), none, .e (.box (.tmp 0))⟩, ⟨(some 2), none, .p (.mov (.const (.int .i64 0)))⟩])
  (.seq (.seq (.reg [⟨(some 11), none, .p (.fad 0 (.tmp 1))⟩, ⟨(some 12), none, .p (.ld none (.tmp 11))⟩, ⟨(some 13), none, .p (.len 1 (.tmp 12))⟩, ⟨(some 14), none, .p (.bin .gtr (.tmp 13) (.const (.int .i64 16)))⟩, ⟨(some 15), none, .p (.mov (.tmp 14))⟩, ⟨(some 16), (some (15, false)), .p (.fad 1 (.tmp 1))⟩, ⟨(some 17), (some (15, false)), .p (.ld none (.tmp 16))⟩, ⟨(some 18), (some (15, false)), .p (.len 1 (.tmp 17))⟩, ⟨(some 19), (some (15, false)), .p (.bin .gtr (.tmp 18) (.const (.int .i64 32)))⟩, ⟨(some 20), none, .p (.pick (.tmp 15) (.const (.bool true)) (.tmp 19))⟩])
  (.cond (.tmp 20) (.seq (.reg [⟨(some 2), none, .p (.mov (.const (.int .i64 5)))⟩])
  .ret) .skip))
  (.seq (.seq (.reg [⟨(some 21), none, .p (.fad 0 (.tmp 1))⟩, ⟨(some 22), none, .p (.ld none (.tmp 21))⟩, ⟨(some 23), none, .p (.len 1 (.tmp 22))⟩, ⟨(some 24), none, .p (.mov (.const (.int .i64 0)))⟩])
  (.block 0
  (.loop lb13_3)))
  (.seq (.seq (.reg [⟨(some 32), none, .p (.fad 1 (.tmp 1))⟩, ⟨(some 33), none, .p (.ld none (.tmp 32))⟩, ⟨(some 34), none, .p (.len 1 (.tmp 33))⟩, ⟨(some 35), none, .p (.mov (.const (.int .i64 0)))⟩])
  (.block 2
  (.loop lb13_2)))
  (.seq (.seq (.reg [⟨(some 56), none, .p (.ld (some 2) (.tmp 1))⟩, ⟨(some 57), none, .e (.call 38 [(.tmp 56)])⟩])
  (.cond (.tmp 57) (.seq (.reg [⟨(some 2), none, .p (.mov (.const (.int .i64 8)))⟩])
  .ret) .skip))
  (.seq (.seq (.reg [⟨(some 58), none, .p (.fad 1 (.tmp 1))⟩, ⟨(some 59), none, .p (.ld none (.tmp 58))⟩, ⟨(some 60), none, .p (.len 1 (.tmp 59))⟩, ⟨(some 61), none, .p (.mov (.const (.int .i64 0)))⟩])
  (.block 4
  (.loop lb13_1)))
  (.seq (.seq (.reg [⟨(some 71), none, .p (.fad 1 (.tmp 1))⟩, ⟨(some 72), none, .p (.ld none (.tmp 71))⟩, ⟨(some 73), none, .p (.len 1 (.tmp 72))⟩, ⟨(some 74), none, .p (.mov (.const (.int .i64 0)))⟩])
  (.block 6
  (.loop lb13_0)))
  (.seq (.reg [⟨(some 2), none, .p (.mov (.const (.int .i64 0)))⟩])
  .ret))))))))
def rf13 : List RX := [.tmp 2]
set_option maxRecDepth 100000 in
theorem comp13 : cFn Tryd.prog Tryd.f13 = some (erase cf13, rf13) := by kernel_rfl
def lb16_0 : LC :=
  (.seq (.reg [⟨(some 35), none, .p (.bin .lss (.tmp 34) (.tmp 33))⟩])
  (.seq (.cond (.tmp 35) .skip (.exit 2))
  (.seq (.block 3
  (.seq (.reg [⟨(some 36), none, .p (.mov (.tmp 34))⟩, ⟨(some 37), none, .p (.iad 1 (.tmp 32) (.tmp 34))⟩, ⟨(some 38), none, .p (.ld none (.tmp 37))⟩, ⟨(some 9), none, .p (.mov (.tmp 36))⟩, ⟨(some 10), none, .p (.mov (.tmp 38))⟩])
  (.seq (.reg [⟨(some 39), none, .p (.mov (.tmp 10))⟩, ⟨(some 40), none, .p (.bin .geq (.tmp 39) (.const (.int .i64 0)))⟩])
  (.cond (.tmp 40) (.seq (.reg [⟨(some 41), none, .p (.mov (.tmp 8))⟩, ⟨(some 42), none, .p (.mov (.tmp 9))⟩, ⟨(some 43), none, .e (.bsl 1 1 1 [(.int .i64 0)] [(0, 1, (.tmp 42))])⟩, ⟨(some 44), none, .e (.app 1 1 8 (.tmp 41) (.tmp 43))⟩, ⟨(some 8), none, .p (.mov (.tmp 44))⟩])
  (.reg [⟨(some 45), none, .p (.mov (.tmp 6))⟩, ⟨(some 46), none, .p (.mov (.tmp 9))⟩, ⟨(some 47), none, .p (.iad 1 (.tmp 45) (.tmp 46))⟩, ⟨none, none, .e (.st 1 (.tmp 47) (.const (.bool true)))⟩])) .skip))))
  (.reg [⟨(some 48), none, .p (.bin .add (.tmp 34) (.const (.int .i64 1)))⟩, ⟨(some 34), none, .p (.mov (.tmp 48))⟩]))))
def lb16_1 : LC :=
  (.seq (.reg [⟨(some 23), none, .p (.bin .lss (.tmp 22) (.tmp 21))⟩])
  (.seq (.cond (.tmp 23) .skip (.exit 0))
  (.seq (.block 1
  (.seq (.reg [⟨(some 24), none, .p (.mov (.tmp 22))⟩, ⟨(some 7), none, .p (.mov (.tmp 24))⟩])
  (.seq (.seq (.reg [⟨(some 25), none, .p (.mov (.tmp 6))⟩, ⟨(some 26), none, .p (.mov (.tmp 7))⟩, ⟨(some 27), none, .p (.iad 1 (.tmp 25) (.tmp 26))⟩, ⟨(some 28), none, .p (.ld none (.tmp 27))⟩])
  (.cond (.tmp 28) (.exit 1) .skip))
  (.seq (.reg [⟨(some 8), none, .p (.mov (.const (.slice none 0 0)))⟩])
  (.seqj (.seq (.reg [⟨(some 29), none, .p (.ld (some 2) (.tmp 2))⟩, ⟨(some 30), none, .p (.mov (.tmp 7))⟩, ⟨(some 31), none, .p (.mov (.tmp 1))⟩, ⟨(some 32), none, .e (.call 43 [(.tmp 29), (.tmp 30), (.tmp 31)])⟩, ⟨(some 33), none, .p (.len 1 (.tmp 32))⟩, ⟨(some 34), none, .p (.mov (.const (.int .i64 0)))⟩])
  (.block 2
  (.loop lb16_0)))
  (.reg [⟨(some 49), none, .p (.mov (.tmp 5))⟩, ⟨(some 50), none, .p (.mov (.tmp 8))⟩, ⟨(some 51), none, .e (.bsr 1 1 [(.slice none 0 0)] [(0, 1, (.tmp 50))])⟩, ⟨(some 52), none, .e (.app 0 1 24 (.tmp 49) (.tmp 51))⟩, ⟨(some 5), none, .p (.mov (.tmp 52))⟩]))))))
  (.reg [⟨(some 53), none, .p (.bin .add (.tmp 22) (.const (.int .i64 1)))⟩, ⟨(some 22), none, .p (.mov (.tmp 53))⟩]))))
def cf16 : LC :=
  (.seq (.reg [⟨(some 2), none, .e (.box (.tmp 0))⟩, ⟨(some 4), none, .p (.mov (.const (.slice none 0 0)))⟩])
  (.seq (.seq (.reg [⟨(some 11), none, .p (.ld (some 2) (.tmp 2))⟩, ⟨(some 12), none, .p (.mov (.tmp 1))⟩, ⟨(some 13), none, .e (.call 42 [(.tmp 11), (.tmp 12)])⟩, ⟨(some 14), none, .p (.un .not (.tmp 13))⟩])
  (.cond (.tmp 14) (.seq (.reg [⟨(some 4), none, .p (.mov (.const (.slice none 0 0)))⟩])
  .ret) .skip))
  (.seq (.reg [⟨(some 5), none, .p (.mov (.const (.slice none 0 0)))⟩])
  (.seq (.reg [⟨(some 15), none, .p (.fad 0 (.tmp 2))⟩, ⟨(some 16), none, .p (.ld none (.tmp 15))⟩, ⟨(some 17), none, .p (.len 1 (.tmp 16))⟩, ⟨(some 18), none, .e (.mks 2 1 [(.bool false)] 1 (.tmp 17) (.tmp 17))⟩, ⟨(some 6), none, .p (.mov (.tmp 18))⟩])
  (.seq (.seq (.reg [⟨(some 19), none, .p (.fad 0 (.tmp 2))⟩, ⟨(some 20), none, .p (.ld none (.tmp 19))⟩, ⟨(some 21), none, .p (.len 1 (.tmp 20))⟩, ⟨(some 22), none, .p (.mov (.const (.int .i64 0)))⟩])
  (.block 0
  (.loop lb16_1)))
  (.seq (.reg [⟨(some 54), none, .p (.mov (.tmp 5))⟩, ⟨(some 4), none, .p (.mov (.tmp 54))⟩])
  .ret))))))
def rf16 : List RX := [.tmp 4]
set_option maxRecDepth 100000 in
theorem comp16 : cFn Tryd.prog Tryd.f16 = some (erase cf16, rf16) := by kernel_rfl
def lb18_0 : LC :=
  (.seq (.reg [⟨(some 19), none, .p (.bin .lss (.tmp 18) (.tmp 17))⟩])
  (.seq (.cond (.tmp 19) .skip (.exit 0))
  (.seq (.block 1
  (.seq (.reg [⟨(some 20), none, .p (.mov (.tmp 18))⟩, ⟨(some 21), none, .p (.iad 6 (.tmp 16) (.tmp 18))⟩, ⟨(some 22), none, .p (.ld (some 6) (.tmp 21))⟩, ⟨(some 11), none, .e (.alc [(.int .i64 0), (.int .i64 0), (.int .i64 0), (.int .i64 0), (.int .i64 0), (.int .i64 0)])⟩, ⟨(some 10), none, .p (.mov (.tmp 20))⟩, ⟨none, none, .e (.st 6 (.tmp 11) (.tmp 22))⟩])
  (.block 2
  (.seq (.reg [⟨(some 24), none, .p (.fad 0 (.tmp 11))⟩, ⟨(some 25), none, .p (.ld none (.tmp 24))⟩, ⟨(some 26), none, .p (.mov (.tmp 1))⟩, ⟨(some 27), none, .p (.bin .eql (.tmp 25) (.tmp 26))⟩, ⟨(some 28), none, .p (.mov (.tmp 27))⟩, ⟨(some 29), (some (28, true)), .p (.fad 1 (.tmp 11))⟩, ⟨(some 30), (some (28, true)), .p (.ld none (.tmp 29))⟩, ⟨(some 31), (some (28, true)), .p (.mov (.tmp 2))⟩, ⟨(some 32), (some (28, true)), .p (.bin .eql (.tmp 30) (.tmp 31))⟩, ⟨(some 33), none, .p (.pick (.tmp 28) (.tmp 32) (.const (.bool false)))⟩, ⟨(some 23), none, .p (.mov (.tmp 33))⟩])
  (.cond (.tmp 23) (.seq (.dreg [⟨(some 34), none, .p (.fad 2 (.tmp 11))⟩, ⟨(some 35), none, .p (.ld none (.tmp 34))⟩, ⟨(some 36), none, .p (.fad 3 (.tmp 11))⟩, ⟨(some 37), none, .p (.ld none (.tmp 36))⟩, ⟨(some 38), none, .p (.mov (.tmp 10))⟩, ⟨(some 6), none, .p (.mov (.tmp 35))⟩, ⟨(some 7), none, .p (.mov (.tmp 37))⟩, ⟨(some 8), none, .p (.mov (.tmp 38))⟩] [[⟨(some 9), none, .p (.mov (.const (.bool true)))⟩]])
  .ret) (.seq (.reg [⟨(some 40), none, .p (.fad 2 (.tmp 11))⟩, ⟨(some 41), none, .p (.ld none (.tmp 40))⟩, ⟨(some 42), none, .p (.mov (.tmp 1))⟩, ⟨(some 43), none, .p (.bin .eql (.tmp 41) (.tmp 42))⟩, ⟨(some 44), none, .p (.mov (.tmp 43))⟩, ⟨(some 45), (some (44, true)), .p (.fad 3 (.tmp 11))⟩, ⟨(some 46), (some (44, true)), .p (.ld none (.tmp 45))⟩, ⟨(some 47), (some (44, true)), .p (.mov (.tmp 2))⟩, ⟨(some 48), (some (44, true)), .p (.bin .eql (.tmp 46) (.tmp 47))⟩, ⟨(some 49), none, .p (.pick (.tmp 44) (.tmp 48) (.const (.bool false)))⟩, ⟨(some 39), none, .p (.mov (.tmp 49))⟩])
  (.cond (.tmp 39) (.seq (.dreg [⟨(some 50), none, .p (.fad 0 (.tmp 11))⟩, ⟨(some 51), none, .p (.ld none (.tmp 50))⟩, ⟨(some 52), none, .p (.fad 1 (.tmp 11))⟩, ⟨(some 53), none, .p (.ld none (.tmp 52))⟩, ⟨(some 54), none, .p (.mov (.tmp 10))⟩, ⟨(some 6), none, .p (.mov (.tmp 51))⟩, ⟨(some 7), none, .p (.mov (.tmp 53))⟩, ⟨(some 8), none, .p (.mov (.tmp 54))⟩] [[⟨(some 9), none, .p (.mov (.const (.bool true)))⟩]])
  .ret) .skip)))))))
  (.reg [⟨(some 55), none, .p (.bin .add (.tmp 18) (.const (.int .i64 1)))⟩, ⟨(some 18), none, .p (.mov (.tmp 55))⟩]))))
def cf18 : LC :=
  (.seq (.reg [⟨(some 3), none, .e (.box (.tmp 0))⟩, ⟨(some 6), none, .p (.mov (.const (.int .i64 0)))⟩, ⟨(some 7), none, .p (.mov (.const (.int .i64 0)))⟩, ⟨(some 8), none, .p (.mov (.const (.int .i64 0)))⟩, ⟨(some 9), none, .p (.mov (.const (.bool false)))⟩])
  (.seq (.seq (.reg [⟨(some 12), none, .p (.ld (some 2) (.tmp 3))⟩, ⟨(some 13), none, .e (.call 13 [(.tmp 12)])⟩, ⟨(some 14), none, .p (.bin .eql (.tmp 13) (.const (.int .i64 0)))⟩])
  (.cond (.tmp 14) (.seq (.reg [⟨(some 15), none, .p (.fad 1 (.tmp 3))⟩, ⟨(some 16), none, .p (.ld none (.tmp 15))⟩, ⟨(some 17), none, .p (.len 1 (.tmp 16))⟩, ⟨(some 18), none, .p (.mov (.const (.int .i64 0)))⟩])
  (.block 0
  (.loop lb18_0))) .skip))
  (.seq (.reg [⟨(some 6), none, .p (.mov (.const (.int .i64 (-1))))⟩, ⟨(some 7), none, .p (.mov (.const (.int .i64 (-1))))⟩, ⟨(some 8), none, .p (.mov (.const (.int .i64 (-1))))⟩, ⟨(some 9), none, .p (.mov (.const (.bool false)))⟩])
  .ret)))
def rf18 : List RX := [.tmp 6, .tmp 7, .tmp 8, .tmp 9]
set_option maxRecDepth 100000 in
theorem comp18 : cFn Tryd.prog Tryd.f18 = some (erase cf18, rf18) := by kernel_rfl
def cf22 : LC :=
  (.seq (.reg [⟨(some 2), none, .e (.box (.tmp 0))⟩, ⟨(some 4), none, .p (.mov (.const (.bool false)))⟩])
  (.seq (.reg [⟨(some 5), none, .p (.ld (some 2) (.tmp 2))⟩, ⟨(some 6), none, .p (.mov (.tmp 1))⟩, ⟨(some 7), none, .e (.call 16 [(.tmp 5), (.tmp 6)])⟩, ⟨(some 8), none, .p (.len 1 (.tmp 7))⟩, ⟨(some 9), none, .p (.bin .eql (.tmp 8) (.const (.int .i64 1)))⟩, ⟨(some 4), none, .p (.mov (.tmp 9))⟩])
  .ret))
def rf22 : List RX := [.tmp 4]
set_option maxRecDepth 100000 in
theorem comp22 : cFn Tryd.prog Tryd.f22 = some (erase cf22, rf22) := by kernel_rfl
def lb28_0 : LC :=
  (.seq (.reg [⟨(some 44), none, .p (.bin .lss (.tmp 43) (.tmp 42))⟩])
  (.seq (.cond (.tmp 44) .skip (.exit 2))
  (.seq (.block 3
  (.seq (.reg [⟨(some 45), none, .p (.iad 6 (.tmp 41) (.tmp 43))⟩, ⟨(some 46), none, .p (.ld (some 6) (.tmp 45))⟩, ⟨(some 10), none, .e (.alc [(.int .i64 0), (.int .i64 0), (.int .i64 0), (.int .i64 0), (.int .i64 0), (.int .i64 0)])⟩, ⟨none, none, .e (.st 6 (.tmp 10) (.tmp 46))⟩])
  (.dreg [⟨(some 47), none, .p (.mov (.tmp 6))⟩, ⟨(some 48), none, .p (.fad 0 (.tmp 1))⟩, ⟨(some 49), none, .p (.ld none (.tmp 48))⟩, ⟨(some 50), none, .p (.fad 0 (.tmp 10))⟩, ⟨(some 51), none, .p (.ld none (.tmp 50))⟩, ⟨(some 52), none, .p (.iad 3 (.tmp 49) (.tmp 51))⟩, ⟨(some 53), none, .p (.fad 0 (.tmp 52))⟩, ⟨(some 54), none, .p (.ld none (.tmp 53))⟩, ⟨(some 55), none, .p (.fad 1 (.tmp 10))⟩, ⟨(some 56), none, .p (.ld none (.tmp 55))⟩, ⟨(some 57), none, .e (.call 48 [(.tmp 56)])⟩, ⟨(some 58), none, .p (.fad 0 (.tmp 1))⟩, ⟨(some 59), none, .p (.ld none (.tmp 58))⟩, ⟨(some 60), none, .p (.fad 2 (.tmp 10))⟩, ⟨(some 61), none, .p (.ld none (.tmp 60))⟩, ⟨(some 62), none, .p (.iad 3 (.tmp 59) (.tmp 61))⟩, ⟨(some 63), none, .p (.fad 0 (.tmp 62))⟩, ⟨(some 64), none, .p (.ld none (.tmp 63))⟩, ⟨(some 65), none, .p (.fad 3 (.tmp 10))⟩, ⟨(some 66), none, .p (.ld none (.tmp 65))⟩, ⟨(some 67), none, .e (.call 48 [(.tmp 66)])⟩, ⟨(some 68), none, .p (.fad 4 (.tmp 10))⟩, ⟨(some 69), none, .p (.ld none (.tmp 68))⟩, ⟨(some 70), none, .e (.call 48 [(.tmp 69)])⟩, ⟨(some 71), none, .p (.fad 5 (.tmp 10))⟩, ⟨(some 72), none, .p (.ld none (.tmp 71))⟩, ⟨(some 73), none, .e (.call 48 [(.tmp 72)])⟩, ⟨(some 74), none, .e (.bsr 7 1 [(.string ⟨#[]⟩)] [(0, 1, (.const (.string ⟨#[99, 97, 98, 108, 101]⟩))), (1, 1, (.tmp 54)), (2, 1, (.tmp 57)), (3, 1, (.tmp 64)), (4, 1, (.tmp 67)), (5, 1, (.tmp 70)), (6, 1, (.tmp 73))])⟩] [[⟨(some 75), none, .e (.calv (.tmp 47) [(.tmp 74)])⟩]])))
  (.reg [⟨(some 76), none, .p (.bin .add (.tmp 43) (.const (.int .i64 1)))⟩, ⟨(some 43), none, .p (.mov (.tmp 76))⟩]))))
def lb28_1 : LC :=
  (.seq (.reg [⟨(some 21), none, .p (.bin .lss (.tmp 20) (.tmp 19))⟩])
  (.seq (.cond (.tmp 21) .skip (.exit 0))
  (.seq (.block 1
  (.seq (.reg [⟨(some 22), none, .p (.iad 3 (.tmp 18) (.tmp 20))⟩, ⟨(some 23), none, .p (.ld (some 3) (.tmp 22))⟩, ⟨(some 8), none, .e (.alc [(.string ⟨#[]⟩), (.bool false), (.int .i64 0)])⟩, ⟨none, none, .e (.st 3 (.tmp 8) (.tmp 23))⟩])
  (.seq (.reg [⟨(some 24), none, .p (.fad 1 (.tmp 8))⟩, ⟨(some 25), none, .p (.ld none (.tmp 24))⟩])
  (.cond (.tmp 25) (.dreg [⟨(some 26), none, .p (.mov (.tmp 6))⟩, ⟨(some 27), none, .p (.fad 0 (.tmp 8))⟩, ⟨(some 28), none, .p (.ld none (.tmp 27))⟩, ⟨(some 29), none, .p (.fad 2 (.tmp 8))⟩, ⟨(some 30), none, .p (.ld none (.tmp 29))⟩, ⟨(some 31), none, .e (.call 48 [(.tmp 30)])⟩, ⟨(some 32), none, .e (.bsr 3 1 [(.string ⟨#[]⟩)] [(0, 1, (.const (.string ⟨#[115, 119, 105, 116, 99, 104]⟩))), (1, 1, (.tmp 28)), (2, 1, (.tmp 31))])⟩] [[⟨(some 33), none, .e (.calv (.tmp 26) [(.tmp 32)])⟩]]) (.reg [⟨(some 34), none, .p (.mov (.tmp 6))⟩, ⟨(some 35), none, .p (.fad 0 (.tmp 8))⟩, ⟨(some 36), none, .p (.ld none (.tmp 35))⟩, ⟨(some 37), none, .e (.bsr 2 1 [(.string ⟨#[]⟩)] [(0, 1, (.const (.string ⟨#[101, 110, 100]⟩))), (1, 1, (.tmp 36))])⟩, ⟨(some 38), none, .e (.calv (.tmp 34) [(.tmp 37)])⟩])))))
  (.reg [⟨(some 39), none, .p (.bin .add (.tmp 20) (.const (.int .i64 1)))⟩, ⟨(some 20), none, .p (.mov (.tmp 39))⟩]))))
def cf28 : LC :=
  (.seq (.reg [⟨(some 1), none, .e (.box (.tmp 0))⟩, ⟨(some 2), none, .p (.mov (.const (.string ⟨#[]⟩)))⟩, ⟨(some 3), none, .p (.mov (.const (.int .i64 0)))⟩])
  (.seq (.seq (.reg [⟨(some 11), none, .p (.ld (some 2) (.tmp 1))⟩, ⟨(some 12), none, .e (.call 13 [(.tmp 11)])⟩, ⟨(some 4), none, .p (.mov (.tmp 12))⟩])
  (.seq (.reg [⟨(some 13), none, .p (.mov (.tmp 4))⟩, ⟨(some 14), none, .p (.bin .neq (.tmp 13) (.const (.int .i64 0)))⟩])
  (.cond (.tmp 14) (.seq (.reg [⟨(some 15), none, .p (.mov (.tmp 4))⟩, ⟨(some 2), none, .p (.mov (.const (.string ⟨#[]⟩)))⟩, ⟨(some 3), none, .p (.mov (.tmp 15))⟩])
  .ret) .skip)))
  (.seq (.reg [⟨(some 5), none, .e (.alct 70 [(.pointer none), (.slice none 0 0)])⟩])
  (.seq (.reg [⟨(some 16), none, .p (.mkf 45 [(.tmp 5)])⟩, ⟨(some 6), none, .p (.mov (.tmp 16))⟩])
  (.seq (.seq (.reg [⟨(some 17), none, .p (.fad 0 (.tmp 1))⟩, ⟨(some 18), none, .p (.ld none (.tmp 17))⟩, ⟨(some 19), none, .p (.len 1 (.tmp 18))⟩, ⟨(some 20), none, .p (.mov (.const (.int .i64 0)))⟩])
  (.block 0
  (.loop lb28_1)))
  (.seq (.seq (.reg [⟨(some 40), none, .p (.fad 1 (.tmp 1))⟩, ⟨(some 41), none, .p (.ld none (.tmp 40))⟩, ⟨(some 42), none, .p (.len 1 (.tmp 41))⟩, ⟨(some 43), none, .p (.mov (.const (.int .i64 0)))⟩])
  (.block 2
  (.loop lb28_0)))
  (.seq (.reg [⟨(some 77), none, .e (.call 49 [(.tmp 5)])⟩, ⟨(some 2), none, .p (.mov (.tmp 77))⟩, ⟨(some 3), none, .p (.mov (.const (.int .i64 0)))⟩])
  .ret)))))))
def rf28 : List RX := [.tmp 2, .tmp 3]
set_option maxRecDepth 100000 in
theorem comp28 : cFn Tryd.prog Tryd.f28 = some (erase cf28, rf28) := by kernel_rfl
def lb29_0 : LC :=
  (.seq (.reg [⟨(some 60), none, .p (.bin .lss (.tmp 59) (.tmp 58))⟩])
  (.seq (.cond (.tmp 60) .skip (.exit 2))
  (.seq (.block 3
  (.seq (.reg [⟨(some 61), none, .p (.mov (.tmp 59))⟩, ⟨(some 62), none, .p (.iad 2 (.tmp 57) (.tmp 59))⟩, ⟨(some 63), none, .p (.ld (some 2) (.tmp 62))⟩, ⟨(some 14), none, .e (.alc [(.string ⟨#[]⟩), (.string ⟨#[]⟩)])⟩, ⟨(some 13), none, .p (.mov (.tmp 61))⟩, ⟨none, none, .e (.st 2 (.tmp 14) (.tmp 63))⟩])
  (.seq (.reg [⟨(some 65), none, .p (.mov (.tmp 8))⟩, ⟨(some 66), none, .p (.iada 2 1 (.tmp 14) (.const (.int .i64 0)))⟩, ⟨(some 67), none, .p (.ld none (.tmp 66))⟩, ⟨(some 68), none, .p (.lkp 9 (.int .i64 0) true (.tmp 65) (.tmp 67))⟩, ⟨(some 64), none, .p (.mov (.tmp 68))⟩, ⟨(some 69), none, .p (.ext (.tmp 64) 0)⟩, ⟨(some 70), none, .p (.ext (.tmp 64) 1)⟩, ⟨(some 15), none, .p (.mov (.tmp 69))⟩, ⟨(some 16), none, .p (.mov (.tmp 70))⟩])
  (.seq (.reg [⟨(some 72), none, .p (.mov (.tmp 8))⟩, ⟨(some 73), none, .p (.iada 2 1 (.tmp 14) (.const (.int .i64 1)))⟩, ⟨(some 74), none, .p (.ld none (.tmp 73))⟩, ⟨(some 75), none, .p (.lkp 9 (.int .i64 0) true (.tmp 72) (.tmp 74))⟩, ⟨(some 71), none, .p (.mov (.tmp 75))⟩, ⟨(some 76), none, .p (.ext (.tmp 71) 0)⟩, ⟨(some 77), none, .p (.ext (.tmp 71) 1)⟩, ⟨(some 17), none, .p (.mov (.tmp 76))⟩, ⟨(some 18), none, .p (.mov (.tmp 77))⟩])
  (.seq (.seq (.reg [⟨(some 78), none, .p (.mov (.tmp 16))⟩, ⟨(some 79), none, .p (.un .not (.tmp 78))⟩, ⟨(some 80), none, .p (.mov (.tmp 79))⟩, ⟨(some 81), (some (80, false)), .p (.mov (.tmp 18))⟩, ⟨(some 82), (some (80, false)), .p (.un .not (.tmp 81))⟩, ⟨(some 83), none, .p (.pick (.tmp 80) (.const (.bool true)) (.tmp 82))⟩])
  (.cond (.tmp 83) (.seq (.dreg [⟨(some 84), none, .p (.bld [(.slice none 0 0), (.slice none 0 0)] [])⟩, ⟨(some 85), none, .p (.fad 0 (.tmp 5))⟩, ⟨(some 88), none, .p (.mov (.tmp 13))⟩] [[⟨(some 86), none, .p (.ld none (.tmp 85))⟩, ⟨(some 87), none, .p (.len 1 (.tmp 86))⟩, ⟨(some 89), none, .p (.bin .add (.tmp 87) (.tmp 88))⟩, ⟨(some 90), none, .p (.bin .add (.tmp 89) (.const (.int .i64 1)))⟩, ⟨none, none, .e (.st 2 (.tmp 2) (.tmp 84))⟩, ⟨(some 3), none, .p (.mov (.tmp 90))⟩, ⟨(some 4), none, .p (.mov (.const (.int .i64 7)))⟩], [⟨(some 86), none, .p (.ld none (.tmp 85))⟩, ⟨(some 87), none, .p (.len 1 (.tmp 86))⟩, ⟨(some 89), none, .p (.bin .add (.tmp 87) (.tmp 88))⟩, ⟨none, none, .e (.st 2 (.tmp 2) (.tmp 84))⟩, ⟨(some 90), none, .p (.bin .add (.tmp 89) (.const (.int .i64 1)))⟩, ⟨(some 3), none, .p (.mov (.tmp 90))⟩, ⟨(some 4), none, .p (.mov (.const (.int .i64 7)))⟩], [⟨(some 86), none, .p (.ld none (.tmp 85))⟩, ⟨(some 87), none, .p (.len 1 (.tmp 86))⟩, ⟨none, none, .e (.st 2 (.tmp 2) (.tmp 84))⟩, ⟨(some 89), none, .p (.bin .add (.tmp 87) (.tmp 88))⟩, ⟨(some 90), none, .p (.bin .add (.tmp 89) (.const (.int .i64 1)))⟩, ⟨(some 3), none, .p (.mov (.tmp 90))⟩, ⟨(some 4), none, .p (.mov (.const (.int .i64 7)))⟩], [⟨(some 86), none, .p (.ld none (.tmp 85))⟩, ⟨none, none, .e (.st 2 (.tmp 2) (.tmp 84))⟩, ⟨(some 87), none, .p (.len 1 (.tmp 86))⟩, ⟨(some 89), none, .p (.bin .add (.tmp 87) (.tmp 88))⟩, ⟨(some 90), none, .p (.bin .add (.tmp 89) (.const (.int .i64 1)))⟩, ⟨(some 3), none, .p (.mov (.tmp 90))⟩, ⟨(some 4), none, .p (.mov (.const (.int .i64 7)))⟩], [⟨none, none, .e (.st 2 (.tmp 2) (.tmp 84))⟩, ⟨(some 86), none, .p (.ld none (.tmp 85))⟩, ⟨(some 87), none, .p (.len 1 (.tmp 86))⟩, ⟨(some 89), none, .p (.bin .add (.tmp 87) (.tmp 88))⟩, ⟨(some 90), none, .p (.bin .add (.tmp 89) (.const (.int .i64 1)))⟩, ⟨(some 3), none, .p (.mov (.tmp 90))⟩, ⟨(some 4), none, .p (.mov (.const (.int .i64 7)))⟩]])
  .ret) .skip))
  (.dreg [⟨(some 91), none, .p (.fad 1 (.tmp 5))⟩, ⟨(some 93), none, .p (.mov (.tmp 13))⟩, ⟨(some 94), none, .p (.fad 1 (.tmp 5))⟩, ⟨(some 96), none, .p (.mov (.tmp 13))⟩, ⟨(some 97), none, .p (.mov (.tmp 15))⟩, ⟨(some 98), none, .p (.mov (.tmp 17))⟩] [[⟨(some 92), none, .p (.ld none (.tmp 91))⟩, ⟨(some 95), none, .p (.ld none (.tmp 94))⟩, ⟨(some 99), none, .p (.iad 6 (.tmp 92) (.tmp 93))⟩, ⟨(some 100), none, .p (.fad 0 (.tmp 99))⟩, ⟨none, none, .e (.st 1 (.tmp 100) (.tmp 97))⟩, ⟨(some 101), none, .p (.iad 6 (.tmp 95) (.tmp 96))⟩, ⟨(some 102), none, .p (.fad 2 (.tmp 101))⟩, ⟨none, none, .e (.st 1 (.tmp 102) (.tmp 98))⟩], [⟨(some 92), none, .p (.ld none (.tmp 91))⟩, ⟨(some 99), none, .p (.iad 6 (.tmp 92) (.tmp 93))⟩, ⟨(some 95), none, .p (.ld none (.tmp 94))⟩, ⟨(some 100), none, .p (.fad 0 (.tmp 99))⟩, ⟨none, none, .e (.st 1 (.tmp 100) (.tmp 97))⟩, ⟨(some 101), none, .p (.iad 6 (.tmp 95) (.tmp 96))⟩, ⟨(some 102), none, .p (.fad 2 (.tmp 101))⟩, ⟨none, none, .e (.st 1 (.tmp 102) (.tmp 98))⟩], [⟨(some 92), none, .p (.ld none (.tmp 91))⟩, ⟨(some 99), none, .p (.iad 6 (.tmp 92) (.tmp 93))⟩, ⟨(some 100), none, .p (.fad 0 (.tmp 99))⟩, ⟨(some 95), none, .p (.ld none (.tmp 94))⟩, ⟨none, none, .e (.st 1 (.tmp 100) (.tmp 97))⟩, ⟨(some 101), none, .p (.iad 6 (.tmp 95) (.tmp 96))⟩, ⟨(some 102), none, .p (.fad 2 (.tmp 101))⟩, ⟨none, none, .e (.st 1 (.tmp 102) (.tmp 98))⟩], [⟨(some 92), none, .p (.ld none (.tmp 91))⟩, ⟨(some 99), none, .p (.iad 6 (.tmp 92) (.tmp 93))⟩, ⟨(some 100), none, .p (.fad 0 (.tmp 99))⟩, ⟨none, none, .e (.st 1 (.tmp 100) (.tmp 97))⟩, ⟨(some 95), none, .p (.ld none (.tmp 94))⟩, ⟨(some 101), none, .p (.iad 6 (.tmp 95) (.tmp 96))⟩, ⟨(some 102), none, .p (.fad 2 (.tmp 101))⟩, ⟨none, none, .e (.st 1 (.tmp 102) (.tmp 98))⟩], [⟨(some 95), none, .p (.ld none (.tmp 94))⟩, ⟨(some 92), none, .p (.ld none (.tmp 91))⟩, ⟨(some 99), none, .p (.iad 6 (.tmp 92) (.tmp 93))⟩, ⟨(some 100), none, .p (.fad 0 (.tmp 99))⟩, ⟨none, none, .e (.st 1 (.tmp 100) (.tmp 97))⟩, ⟨(some 101), none, .p (.iad 6 (.tmp 95) (.tmp 96))⟩, ⟨(some 102), none, .p (.fad 2 (.tmp 101))⟩, ⟨none, none, .e (.st 1 (.tmp 102) (.tmp 98))⟩]]))))))
  (.reg [⟨(some 103), none, .p (.bin .add (.tmp 59) (.const (.int .i64 1)))⟩, ⟨(some 59), none, .p (.mov (.tmp 103))⟩]))))
def lb29_1 : LC :=
  (.seq (.reg [⟨(some 39), none, .p (.bin .lss (.tmp 38) (.tmp 37))⟩])
  (.seq (.cond (.tmp 39) .skip (.exit 0))
  (.seq (.block 1
  (.seq (.reg [⟨(some 40), none, .p (.mov (.tmp 38))⟩, ⟨(some 41), none, .p (.iad 3 (.tmp 36) (.tmp 38))⟩, ⟨(some 42), none, .p (.ld (some 3) (.tmp 41))⟩, ⟨(some 10), none, .e (.alc [(.string ⟨#[]⟩), (.bool false), (.int .i64 0)])⟩, ⟨(some 9), none, .p (.mov (.tmp 40))⟩, ⟨none, none, .e (.st 3 (.tmp 10) (.tmp 42))⟩])
  (.seq (.reg [⟨(some 44), none, .p (.mov (.tmp 8))⟩, ⟨(some 45), none, .p (.fad 0 (.tmp 10))⟩, ⟨(some 46), none, .p (.ld none (.tmp 45))⟩, ⟨(some 47), none, .p (.lkp 9 (.int .i64 0) true (.tmp 44) (.tmp 46))⟩, ⟨(some 43), none, .p (.mov (.tmp 47))⟩, ⟨(some 48), none, .p (.ext (.tmp 43) 0)⟩, ⟨(some 49), none, .p (.ext (.tmp 43) 1)⟩, ⟨(some 11), none, .p (.mov (.tmp 48))⟩, ⟨(some 12), none, .p (.mov (.tmp 49))⟩])
  (.seq (.reg [⟨(some 50), none, .p (.mov (.tmp 12))⟩, ⟨(some 51), none, .p (.un .not (.tmp 50))⟩])
  (.cond (.tmp 51) (.reg [⟨(some 52), none, .p (.mov (.tmp 8))⟩, ⟨(some 53), none, .p (.fad 0 (.tmp 10))⟩, ⟨(some 54), none, .p (.ld none (.tmp 53))⟩, ⟨(some 55), none, .p (.mov (.tmp 9))⟩, ⟨none, none, .e (.mup 9 (.tmp 52) (.tmp 54) (.tmp 55))⟩]) .skip)))))
  (.reg [⟨(some 56), none, .p (.bin .add (.tmp 38) (.const (.int .i64 1)))⟩, ⟨(some 38), none, .p (.mov (.tmp 56))⟩]))))
def cf29 : LC :=
  (.seq (.reg [⟨(some 2), none, .e (.alc [(.slice none 0 0), (.slice none 0 0)])⟩, ⟨(some 3), none, .p (.mov (.const (.int .i64 0)))⟩, ⟨(some 4), none, .p (.mov (.const (.int .i64 0)))⟩])
  (.seq (.seq (.reg [⟨(some 20), none, .p (.mov (.tmp 0))⟩, ⟨(some 21), none, .p (.len 0 (.tmp 20))⟩, ⟨(some 22), none, .p (.bin .gtr (.tmp 21) (.const (.int .i64 65536)))⟩])
  (.cond (.tmp 22) (.seq (.reg [⟨(some 23), none, .p (.bld [(.slice none 0 0), (.slice none 0 0)] [])⟩, ⟨none, none, .e (.st 2 (.tmp 2) (.tmp 23))⟩, ⟨(some 3), none, .p (.mov (.const (.int .i64 0)))⟩, ⟨(some 4), none, .p (.mov (.const (.int .i64 5)))⟩])
  .ret) .skip))
  (.seq (.reg [⟨(some 25), none, .p (.mov (.tmp 0))⟩, ⟨(some 26), none, .e (.call 50 [(.tmp 25)])⟩, ⟨(some 24), none, .p (.mov (.tmp 26))⟩, ⟨(some 27), none, .p (.ext (.tmp 24) 0)⟩, ⟨(some 28), none, .p (.ext (.tmp 24) 1)⟩, ⟨(some 29), none, .p (.ext (.tmp 24) 2)⟩, ⟨(some 5), none, .e (.alc [(.slice none 0 0), (.slice none 0 0)])⟩, ⟨none, none, .e (.st 2 (.tmp 5) (.tmp 27))⟩, ⟨(some 6), none, .p (.mov (.tmp 28))⟩, ⟨(some 7), none, .p (.mov (.tmp 29))⟩])
  (.seq (.seq (.reg [⟨(some 30), none, .p (.mov (.tmp 7))⟩, ⟨(some 31), none, .p (.bin .gtr (.tmp 30) (.const (.int .i64 0)))⟩])
  (.cond (.tmp 31) (.seq (.reg [⟨(some 32), none, .p (.bld [(.slice none 0 0), (.slice none 0 0)] [])⟩, ⟨(some 33), none, .p (.mov (.tmp 7))⟩, ⟨none, none, .e (.st 2 (.tmp 2) (.tmp 32))⟩, ⟨(some 3), none, .p (.mov (.tmp 33))⟩, ⟨(some 4), none, .p (.mov (.const (.int .i64 3)))⟩])
  .ret) .skip))
  (.seq (.reg [⟨(some 34), none, .e (.mkm)⟩, ⟨(some 8), none, .p (.mov (.tmp 34))⟩])
  (.seq (.seq (.reg [⟨(some 35), none, .p (.fad 0 (.tmp 5))⟩, ⟨(some 36), none, .p (.ld none (.tmp 35))⟩, ⟨(some 37), none, .p (.len 1 (.tmp 36))⟩, ⟨(some 38), none, .p (.mov (.const (.int .i64 0)))⟩])
  (.block 0
  (.loop lb29_1)))
  (.seq (.seq (.reg [⟨(some 57), none, .p (.mov (.tmp 6))⟩, ⟨(some 58), none, .p (.len 1 (.tmp 57))⟩, ⟨(some 59), none, .p (.mov (.const (.int .i64 0)))⟩])
  (.block 2
  (.loop lb29_0)))
  (.seq (.seq (.reg [⟨(some 104), none, .p (.ld (some 2) (.tmp 5))⟩, ⟨(some 105), none, .e (.call 13 [(.tmp 104)])⟩, ⟨(some 19), none, .p (.mov (.tmp 105))⟩])
  (.seq (.reg [⟨(some 106), none, .p (.mov (.tmp 19))⟩, ⟨(some 107), none, .p (.bin .neq (.tmp 106) (.const (.int .i64 0)))⟩])
  (.cond (.tmp 107) (.seq (.reg [⟨(some 108), none, .p (.bld [(.slice none 0 0), (.slice none 0 0)] [])⟩, ⟨(some 109), none, .p (.mov (.tmp 19))⟩, ⟨none, none, .e (.st 2 (.tmp 2) (.tmp 108))⟩, ⟨(some 3), none, .p (.mov (.const (.int .i64 0)))⟩, ⟨(some 4), none, .p (.mov (.tmp 109))⟩])
  .ret) .skip)))
  (.seq (.reg [⟨(some 110), none, .p (.ld (some 2) (.tmp 5))⟩, ⟨none, none, .e (.st 2 (.tmp 2) (.tmp 110))⟩, ⟨(some 3), none, .p (.mov (.const (.int .i64 0)))⟩, ⟨(some 4), none, .p (.mov (.const (.int .i64 0)))⟩])
  .ret)))))))))
def rf29 : List RX := [.cell 2 (some 2), .tmp 3, .tmp 4]
set_option maxRecDepth 100000 in
theorem comp29 : cFn Tryd.prog Tryd.f29 = some (erase cf29, rf29) := by kernel_rfl
def cf36 : LC :=
  (.seq (.reg [⟨(some 1), none, .e (.box (.tmp 0))⟩, ⟨(some 2), none, .p (.mov (.const (.bool false)))⟩])
  (.seq (.seq (.reg [⟨(some 3), none, .p (.fad 0 (.tmp 1))⟩, ⟨(some 4), none, .p (.ld none (.tmp 3))⟩, ⟨(some 5), none, .e (.call 57 [(.tmp 4)])⟩, ⟨(some 6), none, .p (.un .not (.tmp 5))⟩])
  (.cond (.tmp 6) (.seq (.reg [⟨(some 2), none, .p (.mov (.const (.bool false)))⟩])
  .ret) .skip))
  (.seq (.seq (.reg [⟨(some 7), none, .p (.fad 1 (.tmp 1))⟩, ⟨(some 8), none, .p (.ld none (.tmp 7))⟩])
  (.cond (.tmp 8) (.seq (.reg [⟨(some 9), none, .p (.fad 2 (.tmp 1))⟩, ⟨(some 10), none, .p (.ld none (.tmp 9))⟩, ⟨(some 11), none, .p (.bin .geq (.tmp 10) (.const (.int .i64 1)))⟩, ⟨(some 12), none, .p (.mov (.tmp 11))⟩, ⟨(some 13), (some (12, true)), .p (.fad 2 (.tmp 1))⟩, ⟨(some 14), (some (12, true)), .p (.ld none (.tmp 13))⟩, ⟨(some 15), (some (12, true)), .p (.bin .leq (.tmp 14) (.const (.int .i64 8)))⟩, ⟨(some 16), none, .p (.pick (.tmp 12) (.tmp 15) (.const (.bool false)))⟩, ⟨(some 2), none, .p (.mov (.tmp 16))⟩])
  .ret) .skip))
  (.seq (.reg [⟨(some 17), none, .p (.fad 2 (.tmp 1))⟩, ⟨(some 18), none, .p (.ld none (.tmp 17))⟩, ⟨(some 19), none, .p (.bin .eql (.tmp 18) (.const (.int .i64 1)))⟩, ⟨(some 2), none, .p (.mov (.tmp 19))⟩])
  .ret))))
def rf36 : List RX := [.tmp 2]
set_option maxRecDepth 100000 in
theorem comp36 : cFn Tryd.prog Tryd.f36 = some (erase cf36, rf36) := by kernel_rfl
def cf37 : LC :=
  (.seq (.reg [⟨(some 3), none, .e (.box (.tmp 0))⟩, ⟨(some 6), none, .p (.mov (.const (.bool false)))⟩])
  (.seq (.reg [⟨(some 7), none, .p (.mov (.tmp 1))⟩, ⟨(some 8), none, .p (.bin .geq (.tmp 7) (.const (.int .i64 0)))⟩, ⟨(some 9), none, .p (.mov (.tmp 8))⟩, ⟨(some 10), (some (9, true)), .p (.mov (.tmp 1))⟩, ⟨(some 11), (some (9, true)), .p (.fad 0 (.tmp 3))⟩, ⟨(some 12), (some (9, true)), .p (.ld none (.tmp 11))⟩, ⟨(some 13), (some (9, true)), .p (.len 1 (.tmp 12))⟩, ⟨(some 14), (some (9, true)), .p (.bin .lss (.tmp 10) (.tmp 13))⟩, ⟨(some 15), none, .p (.pick (.tmp 9) (.tmp 14) (.const (.bool false)))⟩, ⟨(some 16), none, .p (.mov (.tmp 15))⟩, ⟨(some 17), (some (16, true)), .p (.mov (.tmp 2))⟩, ⟨(some 18), (some (16, true)), .p (.bin .geq (.tmp 17) (.const (.int .i64 0)))⟩, ⟨(some 19), none, .p (.pick (.tmp 16) (.tmp 18) (.const (.bool false)))⟩, ⟨(some 20), none, .p (.mov (.tmp 19))⟩, ⟨(some 21), (some (20, true)), .p (.mov (.tmp 2))⟩, ⟨(some 22), (some (20, true)), .p (.fad 0 (.tmp 3))⟩, ⟨(some 23), (some (20, true)), .p (.ld none (.tmp 22))⟩, ⟨(some 24), (some (20, true)), .p (.mov (.tmp 1))⟩, ⟨(some 25), (some (20, true)), .p (.iad 3 (.tmp 23) (.tmp 24))⟩, ⟨(some 26), (some (20, true)), .p (.fad 2 (.tmp 25))⟩, ⟨(some 27), (some (20, true)), .p (.ld none (.tmp 26))⟩, ⟨(some 28), (some (20, true)), .p (.bin .lss (.tmp 21) (.tmp 27))⟩, ⟨(some 29), none, .p (.pick (.tmp 20) (.tmp 28) (.const (.bool false)))⟩, ⟨(some 6), none, .p (.mov (.tmp 29))⟩])
  .ret))
def rf37 : List RX := [.tmp 6]
set_option maxRecDepth 100000 in
theorem comp37 : cFn Tryd.prog Tryd.f37 = some (erase cf37, rf37) := by kernel_rfl
def lb38_0 : LC :=
  (.seq (.reg [⟨(some 47), none, .p (.bin .lss (.tmp 46) (.const (.int .i64 2)))⟩])
  (.seq (.cond (.tmp 47) .skip (.exit 4))
  (.seq (.block 5
  (.seq (.reg [⟨(some 48), none, .p (.idxa 2 2 (some 2) (.tmp 45) (.tmp 46))⟩, ⟨(some 10), none, .e (.alc [(.int .i64 0), (.int .i64 0)])⟩, ⟨none, none, .e (.st 2 (.tmp 10) (.tmp 48))⟩])
  (.seq (.seq (.reg [⟨(some 49), none, .p (.mov (.tmp 6))⟩, ⟨(some 50), none, .p (.ld (some 2) (.tmp 10))⟩, ⟨(some 51), none, .p (.lkp 91 (.bool false) false (.tmp 49) (.tmp 50))⟩])
  (.cond (.tmp 51) (.seq (.reg [⟨(some 2), none, .p (.mov (.const (.bool true)))⟩])
  .ret) .skip))
  (.reg [⟨(some 52), none, .p (.mov (.tmp 6))⟩, ⟨(some 53), none, .p (.ld (some 2) (.tmp 10))⟩, ⟨none, none, .e (.mup 91 (.tmp 52) (.tmp 53) (.const (.bool true)))⟩]))))
  (.reg [⟨(some 54), none, .p (.bin .add (.tmp 46) (.const (.int .i64 1)))⟩, ⟨(some 46), none, .p (.mov (.tmp 54))⟩]))))
def lb38_1 : LC :=
  (.seq (.reg [⟨(some 32), none, .p (.bin .lss (.tmp 31) (.tmp 30))⟩])
  (.seq (.cond (.tmp 32) .skip (.exit 2))
  (.seq (.block 3
  (.seq (.reg [⟨(some 33), none, .p (.iad 6 (.tmp 29) (.tmp 31))⟩, ⟨(some 34), none, .p (.ld (some 6) (.tmp 33))⟩, ⟨(some 8), none, .e (.alc [(.int .i64 0), (.int .i64 0), (.int .i64 0), (.int .i64 0), (.int .i64 0), (.int .i64 0)])⟩, ⟨none, none, .e (.st 6 (.tmp 8) (.tmp 34))⟩])
  (.seq (.reg [⟨(some 35), none, .p (.fad 0 (.tmp 8))⟩, ⟨(some 36), none, .p (.ld none (.tmp 35))⟩, ⟨(some 37), none, .p (.fad 1 (.tmp 8))⟩, ⟨(some 38), none, .p (.ld none (.tmp 37))⟩, ⟨(some 39), none, .p (.bld [(.int .i64 0), (.int .i64 0)] [(0, 1, (.tmp 36)), (1, 1, (.tmp 38))])⟩, ⟨(some 40), none, .p (.fad 2 (.tmp 8))⟩, ⟨(some 41), none, .p (.ld none (.tmp 40))⟩, ⟨(some 42), none, .p (.fad 3 (.tmp 8))⟩, ⟨(some 43), none, .p (.ld none (.tmp 42))⟩, ⟨(some 44), none, .p (.bld [(.int .i64 0), (.int .i64 0)] [(0, 1, (.tmp 41)), (1, 1, (.tmp 43))])⟩, ⟨(some 45), none, .p (.bld [(.int .i64 0), (.int .i64 0), (.int .i64 0), (.int .i64 0)] [(0, 2, (.tmp 39)), (2, 2, (.tmp 44))])⟩, ⟨(some 46), none, .p (.mov (.const (.int .i64 0)))⟩])
  (.block 4
  (.loop lb38_0)))))
  (.reg [⟨(some 55), none, .p (.bin .add (.tmp 31) (.const (.int .i64 1)))⟩, ⟨(some 31), none, .p (.mov (.tmp 55))⟩]))))
def lb38_2 : LC :=
  (.seq (.reg [⟨(some 16), none, .p (.bin .lss (.tmp 15) (.tmp 14))⟩])
  (.seq (.cond (.tmp 16) .skip (.exit 0))
  (.seq (.block 1
  (.seq (.reg [⟨(some 17), none, .p (.iad 3 (.tmp 13) (.tmp 15))⟩, ⟨(some 18), none, .p (.ld (some 3) (.tmp 17))⟩, ⟨(some 5), none, .e (.alc [(.string ⟨#[]⟩), (.bool false), (.int .i64 0)])⟩, ⟨none, none, .e (.st 3 (.tmp 5) (.tmp 18))⟩])
  (.seq (.seq (.reg [⟨(some 19), none, .p (.mov (.tmp 3))⟩, ⟨(some 20), none, .p (.fad 0 (.tmp 5))⟩, ⟨(some 21), none, .p (.ld none (.tmp 20))⟩, ⟨(some 22), none, .p (.lkp 9 (.bool false) false (.tmp 19) (.tmp 21))⟩])
  (.cond (.tmp 22) (.seq (.reg [⟨(some 2), none, .p (.mov (.const (.bool true)))⟩])
  .ret) .skip))
  (.reg [⟨(some 23), none, .p (.mov (.tmp 3))⟩, ⟨(some 24), none, .p (.fad 0 (.tmp 5))⟩, ⟨(some 25), none, .p (.ld none (.tmp 24))⟩, ⟨none, none, .e (.mup 9 (.tmp 23) (.tmp 25) (.const (.bool true)))⟩]))))
  (.reg [⟨(some 26), none, .p (.bin .add (.tmp 15) (.const (.int .i64 1)))⟩, ⟨(some 15), none, .p (.mov (.tmp 26))⟩]))))
def cf38 : LC :=
  (.seq (.reg [⟨(some 1), none, .e (.box (.tmp 0))⟩, ⟨(some 2), none, .p (.mov (.const (.bool false)))⟩])
  (.seq (.reg [⟨(some 11), none, .e (.mkm)⟩, ⟨(some 3), none, .p (.mov (.tmp 11))⟩])
  (.seq (.seq (.reg [⟨(some 12), none, .p (.fad 0 (.tmp 1))⟩, ⟨(some 13), none, .p (.ld none (.tmp 12))⟩, ⟨(some 14), none, .p (.len 1 (.tmp 13))⟩, ⟨(some 15), none, .p (.mov (.const (.int .i64 0)))⟩])
  (.block 0
  (.loop lb38_2)))
  (.seq (.reg [⟨(some 27), none, .e (.mkm)⟩, ⟨(some 6), none, .p (.mov (.tmp 27))⟩])
  (.seq (.seq (.reg [⟨(some 28), none, .p (.fad 1 (.tmp 1))⟩, ⟨(some 29), none, .p (.ld none (.tmp 28))⟩, ⟨(some 30), none, .p (.len 1 (.tmp 29))⟩, ⟨(some 31), none, .p (.mov (.const (.int .i64 0)))⟩])
  (.block 2
  (.loop lb38_1)))
  (.seq (.reg [⟨(some 2), none, .p (.mov (.const (.bool false)))⟩])
  .ret))))))
def rf38 : List RX := [.tmp 2]
set_option maxRecDepth 100000 in
theorem comp38 : cFn Tryd.prog Tryd.f38 = some (erase cf38, rf38) := by kernel_rfl
def cf42 : LC :=
  (.seq (.reg [⟨(some 2), none, .e (.box (.tmp 0))⟩, ⟨(some 4), none, .p (.mov (.const (.bool false)))⟩])
  (.seq (.reg [⟨(some 5), none, .p (.ld (some 2) (.tmp 2))⟩, ⟨(some 6), none, .e (.call 13 [(.tmp 5)])⟩, ⟨(some 7), none, .p (.bin .eql (.tmp 6) (.const (.int .i64 0)))⟩, ⟨(some 8), none, .p (.mov (.tmp 7))⟩, ⟨(some 9), (some (8, true)), .p (.mov (.tmp 1))⟩, ⟨(some 10), (some (8, true)), .p (.len 1 (.tmp 9))⟩, ⟨(some 11), (some (8, true)), .p (.fad 1 (.tmp 2))⟩, ⟨(some 12), (some (8, true)), .p (.ld none (.tmp 11))⟩, ⟨(some 13), (some (8, true)), .p (.len 1 (.tmp 12))⟩, ⟨(some 14), (some (8, true)), .p (.bin .eql (.tmp 10) (.tmp 13))⟩, ⟨(some 15), none, .p (.pick (.tmp 8) (.tmp 14) (.const (.bool false)))⟩, ⟨(some 4), none, .p (.mov (.tmp 15))⟩])
  .ret))
def rf42 : List RX := [.tmp 4]
set_option maxRecDepth 100000 in
theorem comp42 : cFn Tryd.prog Tryd.f42 = some (erase cf42, rf42) := by kernel_rfl
def lb43_0 : LC :=
  (.seq (.reg [⟨(some 45), none, .p (.bin .lss (.tmp 44) (.tmp 43))⟩])
  (.seq (.cond (.tmp 45) .skip (.exit 4))
  (.seq (.block 5
  (.seq (.reg [⟨(some 46), none, .p (.mov (.tmp 44))⟩, ⟨(some 47), none, .p (.iad 6 (.tmp 42) (.tmp 44))⟩, ⟨(some 48), none, .p (.ld (some 6) (.tmp 47))⟩, ⟨(some 13), none, .e (.alc [(.int .i64 0), (.int .i64 0), (.int .i64 0), (.int .i64 0), (.int .i64 0), (.int .i64 0)])⟩, ⟨(some 12), none, .p (.mov (.tmp 46))⟩, ⟨none, none, .e (.st 6 (.tmp 13) (.tmp 48))⟩])
  (.seq (.seq (.reg [⟨(some 49), none, .p (.mov (.tmp 2))⟩, ⟨(some 50), none, .p (.mov (.tmp 12))⟩, ⟨(some 51), none, .p (.iad 1 (.tmp 49) (.tmp 50))⟩, ⟨(some 52), none, .p (.ld none (.tmp 51))⟩, ⟨(some 53), none, .p (.mov (.tmp 52))⟩, ⟨(some 54), (some (53, true)), .p (.fad 0 (.tmp 13))⟩, ⟨(some 55), (some (53, true)), .p (.ld none (.tmp 54))⟩, ⟨(some 56), (some (53, true)), .p (.ld none (.tmp 10))⟩, ⟨(some 57), (some (53, true)), .p (.bin .eql (.tmp 55) (.tmp 56))⟩, ⟨(some 58), none, .p (.pick (.tmp 53) (.tmp 57) (.const (.bool false)))⟩])
  (.cond (.tmp 58) (.reg [⟨(some 59), none, .p (.mov (.tmp 11))⟩, ⟨(some 60), none, .p (.fad 2 (.tmp 13))⟩, ⟨(some 61), none, .p (.ld none (.tmp 60))⟩, ⟨(some 62), none, .e (.calv (.tmp 59) [(.tmp 61)])⟩]) .skip))
  (.seq (.reg [⟨(some 63), none, .p (.mov (.tmp 2))⟩, ⟨(some 64), none, .p (.mov (.tmp 12))⟩, ⟨(some 65), none, .p (.iad 1 (.tmp 63) (.tmp 64))⟩, ⟨(some 66), none, .p (.ld none (.tmp 65))⟩, ⟨(some 67), none, .p (.mov (.tmp 66))⟩, ⟨(some 68), (some (67, true)), .p (.fad 2 (.tmp 13))⟩, ⟨(some 69), (some (67, true)), .p (.ld none (.tmp 68))⟩, ⟨(some 70), (some (67, true)), .p (.ld none (.tmp 10))⟩, ⟨(some 71), (some (67, true)), .p (.bin .eql (.tmp 69) (.tmp 70))⟩, ⟨(some 72), none, .p (.pick (.tmp 67) (.tmp 71) (.const (.bool false)))⟩])
  (.cond (.tmp 72) (.reg [⟨(some 73), none, .p (.mov (.tmp 11))⟩, ⟨(some 74), none, .p (.fad 0 (.tmp 13))⟩, ⟨(some 75), none, .p (.ld none (.tmp 74))⟩, ⟨(some 76), none, .e (.calv (.tmp 73) [(.tmp 75)])⟩]) .skip)))))
  (.reg [⟨(some 77), none, .p (.bin .add (.tmp 44) (.const (.int .i64 1)))⟩, ⟨(some 44), none, .p (.mov (.tmp 77))⟩]))))
def lb43_1 : LC :=
  (.seq (.seq (.reg [⟨(some 32), none, .p (.ld none (.tmp 9))⟩, ⟨(some 33), none, .p (.len 1 (.tmp 32))⟩, ⟨(some 34), none, .p (.bin .gtr (.tmp 33) (.const (.int .i64 0)))⟩])
  (.cond (.tmp 34) .skip (.exit 2)))
  (.block 3
  (.seq (.reg [⟨(some 35), none, .p (.ld none (.tmp 9))⟩, ⟨(some 36), none, .p (.iad 1 (.tmp 35) (.const (.int .i64 0)))⟩, ⟨(some 37), none, .p (.ld none (.tmp 36))⟩, ⟨(some 10), none, .e (.alc [(.int .i64 0)])⟩, ⟨none, none, .e (.st 1 (.tmp 10) (.tmp 37))⟩])
  (.seq (.reg [⟨(some 38), none, .p (.ld none (.tmp 9))⟩, ⟨(some 39), none, .p (.slc 1 (.tmp 38) (some (.const (.int .i64 1))) none)⟩, ⟨none, none, .e (.st 1 (.tmp 9) (.tmp 39))⟩])
  (.seq (.reg [⟨(some 40), none, .p (.mkf 58 [(.tmp 7), (.tmp 10), (.tmp 9)])⟩, ⟨(some 11), none, .p (.mov (.tmp 40))⟩])
  (.seq (.reg [⟨(some 41), none, .p (.fad 1 (.tmp 3))⟩, ⟨(some 42), none, .p (.ld none (.tmp 41))⟩, ⟨(some 43), none, .p (.len 1 (.tmp 42))⟩, ⟨(some 44), none, .p (.mov (.const (.int .i64 0)))⟩])
  (.block 4
  (.loop lb43_0))))))))
def lb43_2 : LC :=
  (.seq (.reg [⟨(some 21), none, .p (.bin .lss (.tmp 20) (.tmp 19))⟩])
  (.seq (.cond (.tmp 21) .skip (.exit 0))
  (.seq (.block 1
  (.seq (.reg [⟨(some 22), none, .p (.mov (.tmp 20))⟩, ⟨(some 8), none, .p (.mov (.tmp 22))⟩])
  (.reg [⟨(some 23), none, .p (.ld none (.tmp 7))⟩, ⟨(some 24), none, .p (.mov (.tmp 8))⟩, ⟨(some 25), none, .p (.iad 1 (.tmp 23) (.tmp 24))⟩, ⟨none, none, .e (.st 1 (.tmp 25) (.const (.int .i64 (-1))))⟩])))
  (.reg [⟨(some 26), none, .p (.bin .add (.tmp 20) (.const (.int .i64 1)))⟩, ⟨(some 20), none, .p (.mov (.tmp 26))⟩]))))
def cf43 : LC :=
  (.seq (.reg [⟨(some 3), none, .e (.box (.tmp 0))⟩, ⟨(some 6), none, .p (.mov (.const (.slice none 0 0)))⟩])
  (.seq (.reg [⟨(some 14), none, .p (.fad 0 (.tmp 3))⟩, ⟨(some 15), none, .p (.ld none (.tmp 14))⟩, ⟨(some 16), none, .p (.len 1 (.tmp 15))⟩, ⟨(some 17), none, .e (.mks 1 1 [(.int .i64 0)] 8 (.tmp 16) (.tmp 16))⟩, ⟨(some 7), none, .e (.alc [(.slice none 0 0)])⟩, ⟨none, none, .e (.st 1 (.tmp 7) (.tmp 17))⟩])
  (.seq (.seq (.reg [⟨(some 18), none, .p (.ld none (.tmp 7))⟩, ⟨(some 19), none, .p (.len 1 (.tmp 18))⟩, ⟨(some 20), none, .p (.mov (.const (.int .i64 0)))⟩])
  (.block 0
  (.loop lb43_2)))
  (.seq (.reg [⟨(some 27), none, .p (.ld none (.tmp 7))⟩, ⟨(some 28), none, .p (.mov (.tmp 1))⟩, ⟨(some 29), none, .p (.iad 1 (.tmp 27) (.tmp 28))⟩, ⟨none, none, .e (.st 1 (.tmp 29) (.const (.int .i64 0)))⟩])
  (.seq (.reg [⟨(some 30), none, .p (.mov (.tmp 1))⟩, ⟨(some 31), none, .e (.bsl 1 1 1 [(.int .i64 0)] [(0, 1, (.tmp 30))])⟩, ⟨(some 9), none, .e (.alc [(.slice none 0 0)])⟩, ⟨none, none, .e (.st 1 (.tmp 9) (.tmp 31))⟩])
  (.seq (.block 2
  (.loop lb43_1))
  (.seq (.reg [⟨(some 78), none, .p (.ld none (.tmp 7))⟩, ⟨(some 6), none, .p (.mov (.tmp 78))⟩])
  .ret)))))))
def rf43 : List RX := [.tmp 6]
set_option maxRecDepth 100000 in
theorem comp43 : cFn Tryd.prog Tryd.f43 = some (erase cf43, rf43) := by kernel_rfl
def cf45 : LC :=
  (.seq (.reg [⟨(some 3), none, .p (.mov (.tmp 0))⟩, ⟨(some 4), none, .e (.call 33 [(.tmp 3), (.const (.string ⟨#[32]⟩))])⟩, ⟨(some 5), none, .e (.call 46 [(.tmp 1), (.tmp 4)])⟩])
  (.reg [⟨(some 6), none, .e (.call 47 [(.tmp 1), (.const (.int .u8 10))])⟩]))
def rf45 : List RX := []
set_option maxRecDepth 100000 in
theorem comp45 : cFn Tryd.prog Tryd.f45 = some (erase cf45, rf45) := by kernel_rfl
def lb50_0 : LC :=
  (.seq (.seq (.reg [⟨(some 17), none, .p (.mov (.tmp 0))⟩, ⟨(some 18), none, .p (.bin .neq (.tmp 17) (.const (.string ⟨#[]⟩)))⟩])
  (.cond (.tmp 18) .skip (.exit 0)))
  (.seq (.block 1
  (.seq (.reg [⟨(some 22), none, .p (.mov (.tmp 0))⟩, ⟨(some 23), none, .e (.call 61 [(.tmp 22), (.const (.string ⟨#[10]⟩))])⟩, ⟨(some 21), none, .p (.mov (.tmp 23))⟩, ⟨(some 24), none, .p (.ext (.tmp 21) 0)⟩, ⟨(some 25), none, .p (.ext (.tmp 21) 1)⟩, ⟨(some 26), none, .p (.ext (.tmp 21) 2)⟩, ⟨(some 8), none, .p (.mov (.tmp 24))⟩, ⟨(some 9), none, .p (.mov (.tmp 25))⟩, ⟨(some 10), none, .p (.mov (.tmp 26))⟩])
  (.seq (.reg [⟨(some 27), none, .p (.mov (.tmp 8))⟩, ⟨(some 28), none, .e (.call 62 [(.tmp 27), (.const (.string ⟨#[32]⟩))])⟩, ⟨(some 11), none, .p (.mov (.tmp 28))⟩])
  (.seq (.reg [⟨(some 30), none, .p (.mov (.tmp 11))⟩, ⟨(some 31), none, .e (.call 63 [(.tmp 30)])⟩, ⟨(some 29), none, .p (.mov (.tmp 31))⟩, ⟨(some 32), none, .p (.ext (.tmp 29) 0)⟩, ⟨(some 33), none, .p (.ext (.tmp 29) 1)⟩, ⟨(some 12), none, .e (.alc [(.string ⟨#[]⟩), (.bool false), (.int .i64 0)])⟩, ⟨none, none, .e (.st 3 (.tmp 12) (.tmp 32))⟩, ⟨(some 13), none, .p (.mov (.tmp 33))⟩])
  (.seq (.reg [⟨(some 35), none, .p (.mov (.tmp 11))⟩, ⟨(some 36), none, .e (.call 64 [(.tmp 35)])⟩, ⟨(some 34), none, .p (.mov (.tmp 36))⟩, ⟨(some 37), none, .p (.ext (.tmp 34) 0)⟩, ⟨(some 38), none, .p (.ext (.tmp 34) 1)⟩, ⟨(some 39), none, .p (.ext (.tmp 34) 2)⟩, ⟨(some 14), none, .e (.alc [(.int .i64 0), (.int .i64 0), (.int .i64 0), (.int .i64 0), (.int .i64 0), (.int .i64 0)])⟩, ⟨(some 15), none, .e (.alc [(.string ⟨#[]⟩), (.string ⟨#[]⟩)])⟩, ⟨none, none, .e (.st 6 (.tmp 14) (.tmp 37))⟩, ⟨none, none, .e (.st 2 (.tmp 15) (.tmp 38))⟩, ⟨(some 16), none, .p (.mov (.tmp 39))⟩])
  (.seq (.block 2
  (.seq (.reg [⟨(some 43), none, .p (.mov (.tmp 10))⟩, ⟨(some 44), none, .p (.mov (.tmp 43))⟩, ⟨(some 45), (some (44, true)), .p (.mov (.tmp 13))⟩, ⟨(some 46), none, .p (.pick (.tmp 44) (.tmp 45) (.const (.bool false)))⟩, ⟨(some 47), none, .p (.mov (.tmp 46))⟩, ⟨(some 48), (some (47, true)), .p (.fad 1 (.tmp 5))⟩, ⟨(some 49), (some (47, true)), .p (.ld none (.tmp 48))⟩, ⟨(some 50), (some (47, true)), .p (.len 1 (.tmp 49))⟩, ⟨(some 51), (some (47, true)), .p (.bin .eql (.tmp 50) (.const (.int .i64 0)))⟩, ⟨(some 52), none, .p (.pick (.tmp 47) (.tmp 51) (.const (.bool false)))⟩, ⟨(some 42), none, .p (.mov (.tmp 52))⟩])
  (.cond (.tmp 42) (.reg [⟨(some 53), none, .p (.fad 0 (.tmp 5))⟩, ⟨(some 54), none, .p (.ld none (.tmp 53))⟩, ⟨(some 55), none, .p (.ld (some 3) (.tmp 12))⟩, ⟨(some 56), none, .e (.bsl 0 1 3 [(.string ⟨#[]⟩), (.bool false), (.int .i64 0)] [(0, 3, (.tmp 55))])⟩, ⟨(some 57), none, .e (.app 0 3 32 (.tmp 54) (.tmp 56))⟩, ⟨(some 58), none, .p (.fad 0 (.tmp 5))⟩, ⟨none, none, .e (.st 1 (.tmp 58) (.tmp 57))⟩]) (.seq (.reg [⟨(some 60), none, .p (.mov (.tmp 10))⟩, ⟨(some 61), none, .p (.mov (.tmp 60))⟩, ⟨(some 62), (some (61, true)), .p (.mov (.tmp 16))⟩, ⟨(some 63), none, .p (.pick (.tmp 61) (.tmp 62) (.const (.bool false)))⟩, ⟨(some 59), none, .p (.mov (.tmp 63))⟩])
  (.cond (.tmp 59) (.seq (.reg [⟨(some 64), none, .p (.fad 1 (.tmp 5))⟩, ⟨(some 65), none, .p (.ld none (.tmp 64))⟩, ⟨(some 66), none, .p (.ld (some 6) (.tmp 14))⟩, ⟨(some 67), none, .e (.bsl 0 1 6 [(.int .i64 0), (.int .i64 0), (.int .i64 0), (.int .i64 0), (.int .i64 0), (.int .i64 0)] [(0, 6, (.tmp 66))])⟩, ⟨(some 68), none, .e (.app 0 6 48 (.tmp 65) (.tmp 67))⟩, ⟨(some 69), none, .p (.fad 1 (.tmp 5))⟩, ⟨none, none, .e (.st 1 (.tmp 69) (.tmp 68))⟩])
  (.reg [⟨(some 70), none, .p (.mov (.tmp 6))⟩, ⟨(some 71), none, .p (.ld (some 2) (.tmp 15))⟩, ⟨(some 72), none, .e (.bsl 0 1 2 [(.string ⟨#[]⟩), (.string ⟨#[]⟩)] [(0, 2, (.tmp 71))])⟩, ⟨(some 73), none, .e (.app 0 2 32 (.tmp 70) (.tmp 72))⟩, ⟨(some 6), none, .p (.mov (.tmp 73))⟩])) (.seq (.reg [⟨(some 40), none, .p (.bld [(.slice none 0 0), (.slice none 0 0)] [])⟩, ⟨(some 41), none, .p (.mov (.tmp 7))⟩, ⟨none, none, .e (.st 2 (.tmp 2) (.tmp 40))⟩, ⟨(some 3), none, .p (.mov (.const (.slice none 0 0)))⟩, ⟨(some 4), none, .p (.mov (.tmp 41))⟩])
  .ret))))))
  (.reg [⟨(some 74), none, .p (.mov (.tmp 9))⟩, ⟨(some 0), none, .p (.mov (.tmp 74))⟩])))))))
  (.reg [⟨(some 19), none, .p (.mov (.tmp 7))⟩, ⟨(some 20), none, .p (.bin .add (.tmp 19) (.const (.int .i64 1)))⟩, ⟨(some 7), none, .p (.mov (.tmp 20))⟩])))
def cf50 : LC :=
  (.seq (.reg [⟨(some 2), none, .e (.alc [(.slice none 0 0), (.slice none 0 0)])⟩, ⟨(some 3), none, .p (.mov (.const (.slice none 0 0)))⟩, ⟨(some 4), none, .p (.mov (.const (.int .i64 0)))⟩])
  (.seq (.reg [⟨(some 5), none, .e (.alc [(.slice none 0 0), (.slice none 0 0)])⟩])
  (.seq (.reg [⟨(some 6), none, .p (.mov (.const (.slice none 0 0)))⟩])
  (.seq (.seq (.reg [⟨(some 7), none, .p (.mov (.const (.int .i64 1)))⟩])
  (.block 0
  (.loop lb50_0)))
  (.seq (.reg [⟨(some 75), none, .p (.ld (some 2) (.tmp 5))⟩, ⟨(some 76), none, .p (.mov (.tmp 6))⟩, ⟨none, none, .e (.st 2 (.tmp 2) (.tmp 75))⟩, ⟨(some 3), none, .p (.mov (.tmp 76))⟩, ⟨(some 4), none, .p (.mov (.const (.int .i64 0)))⟩])
  .ret)))))
def rf50 : List RX := [.cell 2 (some 2), .tmp 3, .tmp 4]
set_option maxRecDepth 100000 in
theorem comp50 : cFn Tryd.prog Tryd.f50 = some (erase cf50, rf50) := by kernel_rfl
end Go.Proofs.YtchpncmmlhfemaaDoor
namespace Go.Proofs.YtchpncmmlhfemaaDoor
def lb57_0 : LC :=
  (.seq (.reg [⟨(some 17), none, .p (.bin .lss (.tmp 16) (.tmp 15))⟩])
  (.seq (.cond (.tmp 17) .skip (.exit 0))
  (.seq (.block 1
  (.seq (.reg [⟨(some 18), none, .p (.mov (.tmp 16))⟩, ⟨(some 3), none, .p (.mov (.tmp 18))⟩])
  (.seq (.reg [⟨(some 19), none, .p (.mov (.tmp 0))⟩, ⟨(some 20), none, .p (.mov (.tmp 3))⟩, ⟨(some 21), none, .p (.idxs (.tmp 19) (.tmp 20))⟩, ⟨(some 22), none, .p (.bin .geq (.tmp 21) (.const (.int .u8 97)))⟩, ⟨(some 23), none, .p (.mov (.tmp 22))⟩, ⟨(some 24), (some (23, true)), .p (.mov (.tmp 0))⟩, ⟨(some 25), (some (23, true)), .p (.mov (.tmp 3))⟩, ⟨(some 26), (some (23, true)), .p (.idxs (.tmp 24) (.tmp 25))⟩, ⟨(some 27), (some (23, true)), .p (.bin .leq (.tmp 26) (.const (.int .u8 122)))⟩, ⟨(some 28), none, .p (.pick (.tmp 23) (.tmp 27) (.const (.bool false)))⟩, ⟨(some 4), none, .p (.mov (.tmp 28))⟩])
  (.seq (.reg [⟨(some 29), none, .p (.mov (.tmp 0))⟩, ⟨(some 30), none, .p (.mov (.tmp 3))⟩, ⟨(some 31), none, .p (.idxs (.tmp 29) (.tmp 30))⟩, ⟨(some 32), none, .p (.bin .geq (.tmp 31) (.const (.int .u8 48)))⟩, ⟨(some 33), none, .p (.mov (.tmp 32))⟩, ⟨(some 34), (some (33, true)), .p (.mov (.tmp 0))⟩, ⟨(some 35), (some (33, true)), .p (.mov (.tmp 3))⟩, ⟨(some 36), (some (33, true)), .p (.idxs (.tmp 34) (.tmp 35))⟩, ⟨(some 37), (some (33, true)), .p (.bin .leq (.tmp 36) (.const (.int .u8 57)))⟩, ⟨(some 38), none, .p (.pick (.tmp 33) (.tmp 37) (.const (.bool false)))⟩, ⟨(some 5), none, .p (.mov (.tmp 38))⟩])
  (.seq (.reg [⟨(some 39), none, .p (.mov (.tmp 4))⟩, ⟨(some 40), none, .p (.un .not (.tmp 39))⟩, ⟨(some 41), none, .p (.mov (.tmp 40))⟩, ⟨(some 42), (some (41, true)), .p (.mov (.tmp 3))⟩, ⟨(some 43), (some (41, true)), .p (.bin .eql (.tmp 42) (.const (.int .i64 0)))⟩, ⟨(some 44), (some (41, true)), .p (.mov (.tmp 43))⟩, ⟨(some 45), (some (44, false)), .p (.mov (.tmp 5))⟩, ⟨(some 46), (some (44, false)), .p (.un .not (.tmp 45))⟩, ⟨(some 47), (some (41, true)), .p (.pick (.tmp 44) (.const (.bool true)) (.tmp 46))⟩, ⟨(some 48), none, .p (.pick (.tmp 41) (.tmp 47) (.const (.bool false)))⟩])
  (.cond (.tmp 48) (.seq (.reg [⟨(some 2), none, .p (.mov (.const (.bool false)))⟩])
  .ret) .skip))))))
  (.reg [⟨(some 49), none, .p (.bin .add (.tmp 16) (.const (.int .i64 1)))⟩, ⟨(some 16), none, .p (.mov (.tmp 49))⟩]))))
def cf57 : LC :=
  (.seq (.reg [⟨(some 2), none, .p (.mov (.const (.bool false)))⟩])
  (.seq (.seq (.reg [⟨(some 6), none, .p (.mov (.tmp 0))⟩, ⟨(some 7), none, .p (.len 0 (.tmp 6))⟩, ⟨(some 8), none, .p (.bin .lss (.tmp 7) (.const (.int .i64 1)))⟩, ⟨(some 9), none, .p (.mov (.tmp 8))⟩, ⟨(some 10), (some (9, false)), .p (.mov (.tmp 0))⟩, ⟨(some 11), (some (9, false)), .p (.len 0 (.tmp 10))⟩, ⟨(some 12), (some (9, false)), .p (.bin .gtr (.tmp 11) (.const (.int .i64 20)))⟩, ⟨(some 13), none, .p (.pick (.tmp 9) (.const (.bool true)) (.tmp 12))⟩])
  (.cond (.tmp 13) (.seq (.reg [⟨(some 2), none, .p (.mov (.const (.bool false)))⟩])
  .ret) .skip))
  (.seq (.seq (.reg [⟨(some 14), none, .p (.mov (.tmp 0))⟩, ⟨(some 15), none, .p (.len 0 (.tmp 14))⟩, ⟨(some 16), none, .p (.mov (.const (.int .i64 0)))⟩])
  (.block 0
  (.loop lb57_0)))
  (.seq (.reg [⟨(some 2), none, .p (.mov (.const (.bool true)))⟩])
  .ret))))
def rf57 : List RX := [.tmp 2]
set_option maxRecDepth 100000 in
theorem comp57 : cFn Tryd.prog Tryd.f57 = some (erase cf57, rf57) := by kernel_rfl
def cf58 : LC :=
  (.seq (.reg [⟨(some 5), none, .p (.ld none (.tmp 1))⟩, ⟨(some 6), none, .p (.mov (.tmp 0))⟩, ⟨(some 7), none, .p (.iad 1 (.tmp 5) (.tmp 6))⟩, ⟨(some 8), none, .p (.ld none (.tmp 7))⟩, ⟨(some 9), none, .p (.bin .lss (.tmp 8) (.const (.int .i64 0)))⟩])
  (.cond (.tmp 9) (.seq (.dreg [⟨(some 10), none, .p (.ld none (.tmp 1))⟩, ⟨(some 11), none, .p (.mov (.tmp 0))⟩, ⟨(some 12), none, .p (.ld none (.tmp 1))⟩, ⟨(some 13), none, .p (.ld none (.tmp 2))⟩, ⟨(some 14), none, .p (.iad 1 (.tmp 12) (.tmp 13))⟩, ⟨(some 15), none, .p (.ld none (.tmp 14))⟩, ⟨(some 16), none, .p (.bin .add (.tmp 15) (.const (.int .i64 1)))⟩, ⟨(some 17), none, .p (.iad 1 (.tmp 10) (.tmp 11))⟩] [[⟨none, none, .e (.st 1 (.tmp 17) (.tmp 16))⟩]])
  (.reg [⟨(some 18), none, .p (.ld none (.tmp 3))⟩, ⟨(some 19), none, .p (.mov (.tmp 0))⟩, ⟨(some 20), none, .e (.bsl 1 1 1 [(.int .i64 0)] [(0, 1, (.tmp 19))])⟩, ⟨(some 21), none, .e (.app 1 1 8 (.tmp 18) (.tmp 20))⟩, ⟨none, none, .e (.st 1 (.tmp 3) (.tmp 21))⟩])) .skip))
def rf58 : List RX := []
set_option maxRecDepth 100000 in
theorem comp58 : cFn Tryd.prog Tryd.f58 = some (erase cf58, rf58) := by kernel_rfl
def cf63 : LC :=
  (.seq (.reg [⟨(some 2), none, .e (.alc [(.string ⟨#[]⟩), (.bool false), (.int .i64 0)])⟩, ⟨(some 3), none, .p (.mov (.const (.bool false)))⟩])
  (.seq (.block 0
  (.seq (.reg [⟨(some 7), none, .p (.mov (.tmp 0))⟩, ⟨(some 8), none, .p (.len 1 (.tmp 7))⟩, ⟨(some 9), none, .p (.bin .eql (.tmp 8) (.const (.int .i64 3)))⟩, ⟨(some 10), none, .p (.mov (.tmp 9))⟩, ⟨(some 11), (some (10, true)), .p (.mov (.tmp 0))⟩, ⟨(some 12), (some (10, true)), .p (.iad 1 (.tmp 11) (.const (.int .i64 0)))⟩, ⟨(some 13), (some (10, true)), .p (.ld none (.tmp 12))⟩, ⟨(some 14), (some (10, true)), .p (.bin .eql (.tmp 13) (.const (.string ⟨#[115, 119, 105, 116, 99, 104]⟩)))⟩, ⟨(some 15), none, .p (.pick (.tmp 10) (.tmp 14) (.const (.bool false)))⟩, ⟨(some 6), none, .p (.mov (.tmp 15))⟩])
  (.cond (.tmp 6) (.seq (.reg [⟨(some 17), none, .p (.mov (.tmp 0))⟩, ⟨(some 18), none, .p (.iad 1 (.tmp 17) (.const (.int .i64 2)))⟩, ⟨(some 19), none, .p (.ld none (.tmp 18))⟩, ⟨(some 20), none, .e (.call 72 [(.tmp 19)])⟩, ⟨(some 16), none, .p (.mov (.tmp 20))⟩, ⟨(some 21), none, .p (.ext (.tmp 16) 0)⟩, ⟨(some 22), none, .p (.ext (.tmp 16) 1)⟩, ⟨(some 4), none, .p (.mov (.tmp 21))⟩, ⟨(some 5), none, .p (.mov (.tmp 22))⟩])
  (.seq (.dreg [⟨(some 23), none, .p (.mov (.tmp 0))⟩, ⟨(some 24), none, .p (.iad 1 (.tmp 23) (.const (.int .i64 1)))⟩, ⟨(some 25), none, .p (.ld none (.tmp 24))⟩, ⟨(some 26), none, .p (.mov (.tmp 4))⟩, ⟨(some 27), none, .p (.bld [(.string ⟨#[]⟩), (.bool false), (.int .i64 0)] [(0, 1, (.tmp 25)), (1, 1, (.const (.bool true))), (2, 1, (.tmp 26))])⟩, ⟨(some 28), none, .p (.mov (.tmp 5))⟩, ⟨(some 29), none, .p (.mov (.tmp 28))⟩, ⟨(some 30), (some (29, true)), .p (.mov (.tmp 0))⟩, ⟨(some 31), (some (29, true)), .p (.iad 1 (.tmp 30) (.const (.int .i64 1)))⟩, ⟨(some 32), (some (29, true)), .p (.ld none (.tmp 31))⟩, ⟨(some 33), (some (29, true)), .e (.call 57 [(.tmp 32)])⟩, ⟨(some 34), none, .p (.pick (.tmp 29) (.tmp 33) (.const (.bool false)))⟩] [[⟨none, none, .e (.st 3 (.tmp 2) (.tmp 27))⟩, ⟨(some 3), none, .p (.mov (.tmp 34))⟩]])
  .ret)) (.seq (.reg [⟨(some 36), none, .p (.mov (.tmp 0))⟩, ⟨(some 37), none, .p (.len 1 (.tmp 36))⟩, ⟨(some 38), none, .p (.bin .eql (.tmp 37) (.const (.int .i64 2)))⟩, ⟨(some 39), none, .p (.mov (.tmp 38))⟩, ⟨(some 40), (some (39, true)), .p (.mov (.tmp 0))⟩, ⟨(some 41), (some (39, true)), .p (.iad 1 (.tmp 40) (.const (.int .i64 0)))⟩, ⟨(some 42), (some (39, true)), .p (.ld none (.tmp 41))⟩, ⟨(some 43), (some (39, true)), .p (.bin .eql (.tmp 42) (.const (.string ⟨#[101, 110, 100]⟩)))⟩, ⟨(some 44), none, .p (.pick (.tmp 39) (.tmp 43) (.const (.bool false)))⟩, ⟨(some 35), none, .p (.mov (.tmp 44))⟩])
  (.cond (.tmp 35) (.seq (.dreg [⟨(some 45), none, .p (.mov (.tmp 0))⟩, ⟨(some 46), none, .p (.iad 1 (.tmp 45) (.const (.int .i64 1)))⟩, ⟨(some 47), none, .p (.ld none (.tmp 46))⟩, ⟨(some 48), none, .p (.bld [(.string ⟨#[]⟩), (.bool false), (.int .i64 0)] [(0, 1, (.tmp 47)), (2, 1, (.const (.int .i64 1)))])⟩, ⟨(some 49), none, .p (.mov (.tmp 0))⟩, ⟨(some 50), none, .p (.iad 1 (.tmp 49) (.const (.int .i64 1)))⟩, ⟨(some 51), none, .p (.ld none (.tmp 50))⟩, ⟨(some 52), none, .e (.call 57 [(.tmp 51)])⟩] [[⟨none, none, .e (.st 3 (.tmp 2) (.tmp 48))⟩, ⟨(some 3), none, .p (.mov (.tmp 52))⟩]])
  .ret) .skip)))))
  (.seq (.reg [⟨(some 53), none, .p (.bld [(.string ⟨#[]⟩), (.bool false), (.int .i64 0)] [])⟩, ⟨none, none, .e (.st 3 (.tmp 2) (.tmp 53))⟩, ⟨(some 3), none, .p (.mov (.const (.bool false)))⟩])
  .ret)))
def rf63 : List RX := [.cell 2 (some 3), .tmp 3]
set_option maxRecDepth 100000 in
theorem comp63 : cFn Tryd.prog Tryd.f63 = some (erase cf63, rf63) := by kernel_rfl
def lb64_0 : LC :=
  (.seq (.reg [⟨(some 38), none, .p (.bin .lss (.tmp 37) (.const (.int .i64 4)))⟩])
  (.seq (.cond (.tmp 38) .skip (.exit 0))
  (.seq (.block 1
  (.seq (.reg [⟨(some 39), none, .p (.mov (.tmp 37))⟩, ⟨(some 40), none, .p (.idxa 4 1 none (.tmp 36) (.tmp 37))⟩, ⟨(some 6), none, .p (.mov (.tmp 39))⟩, ⟨(some 7), none, .p (.mov (.tmp 40))⟩])
  (.seq (.reg [⟨(some 42), none, .p (.mov (.tmp 0))⟩, ⟨(some 43), none, .p (.mov (.tmp 7))⟩, ⟨(some 44), none, .p (.iad 1 (.tmp 42) (.tmp 43))⟩, ⟨(some 45), none, .p (.ld none (.tmp 44))⟩, ⟨(some 46), none, .e (.call 72 [(.tmp 45)])⟩, ⟨(some 41), none, .p (.mov (.tmp 46))⟩, ⟨(some 47), none, .p (.ext (.tmp 41) 0)⟩, ⟨(some 48), none, .p (.ext (.tmp 41) 1)⟩, ⟨(some 8), none, .p (.mov (.tmp 47))⟩, ⟨(some 9), none, .p (.mov (.tmp 48))⟩])
  (.seq (.seq (.reg [⟨(some 49), none, .p (.mov (.tmp 9))⟩, ⟨(some 50), none, .p (.un .not (.tmp 49))⟩])
  (.cond (.tmp 50) (.seq (.reg [⟨(some 51), none, .p (.bld [(.int .i64 0), (.int .i64 0), (.int .i64 0), (.int .i64 0), (.int .i64 0), (.int .i64 0)] [])⟩, ⟨(some 52), none, .p (.bld [(.string ⟨#[]⟩), (.string ⟨#[]⟩)] [])⟩, ⟨none, none, .e (.st 6 (.tmp 2) (.tmp 51))⟩, ⟨none, none, .e (.st 2 (.tmp 3) (.tmp 52))⟩, ⟨(some 4), none, .p (.mov (.const (.bool false)))⟩])
  .ret) .skip))
  (.reg [⟨(some 53), none, .p (.mov (.tmp 6))⟩, ⟨(some 54), none, .p (.mov (.tmp 8))⟩, ⟨(some 55), none, .p (.iada 4 1 (.tmp 5) (.tmp 53))⟩, ⟨none, none, .e (.st 1 (.tmp 55) (.tmp 54))⟩])))))
  (.reg [⟨(some 56), none, .p (.bin .add (.tmp 37) (.const (.int .i64 1)))⟩, ⟨(some 37), none, .p (.mov (.tmp 56))⟩]))))
def cf64 : LC :=
  (.seq (.reg [⟨(some 2), none, .e (.alc [(.int .i64 0), (.int .i64 0), (.int .i64 0), (.int .i64 0), (.int .i64 0), (.int .i64 0)])⟩, ⟨(some 3), none, .e (.alc [(.string ⟨#[]⟩), (.string ⟨#[]⟩)])⟩, ⟨(some 4), none, .p (.mov (.const (.bool false)))⟩])
  (.seq (.seq (.reg [⟨(some 11), none, .p (.mov (.tmp 0))⟩, ⟨(some 12), none, .p (.len 1 (.tmp 11))⟩, ⟨(some 13), none, .p (.bin .neq (.tmp 12) (.const (.int .i64 7)))⟩, ⟨(some 14), none, .p (.mov (.tmp 13))⟩, ⟨(some 15), (some (14, false)), .p (.mov (.tmp 0))⟩, ⟨(some 16), (some (14, false)), .p (.iad 1 (.tmp 15) (.const (.int .i64 0)))⟩, ⟨(some 17), (some (14, false)), .p (.ld none (.tmp 16))⟩, ⟨(some 18), (some (14, false)), .p (.bin .neq (.tmp 17) (.const (.string ⟨#[99, 97, 98, 108, 101]⟩)))⟩, ⟨(some 19), none, .p (.pick (.tmp 14) (.const (.bool true)) (.tmp 18))⟩, ⟨(some 20), none, .p (.mov (.tmp 19))⟩, ⟨(some 21), (some (20, false)), .p (.mov (.tmp 0))⟩, ⟨(some 22), (some (20, false)), .p (.iad 1 (.tmp 21) (.const (.int .i64 1)))⟩, ⟨(some 23), (some (20, false)), .p (.ld none (.tmp 22))⟩, ⟨(some 24), (some (20, false)), .e (.call 57 [(.tmp 23)])⟩, ⟨(some 25), (some (20, false)), .p (.un .not (.tmp 24))⟩, ⟨(some 26), none, .p (.pick (.tmp 20) (.const (.bool true)) (.tmp 25))⟩, ⟨(some 27), none, .p (.mov (.tmp 26))⟩, ⟨(some 28), (some (27, false)), .p (.mov (.tmp 0))⟩, ⟨(some 29), (some (27, false)), .p (.iad 1 (.tmp 28) (.const (.int .i64 3)))⟩, ⟨(some 30), (some (27, false)), .p (.ld none (.tmp 29))⟩, ⟨(some 31), (some (27, false)), .e (.call 57 [(.tmp 30)])⟩, ⟨(some 32), (some (27, false)), .p (.un .not (.tmp 31))⟩, ⟨(some 33), none, .p (.pick (.tmp 27) (.const (.bool true)) (.tmp 32))⟩])
  (.cond (.tmp 33) (.seq (.reg [⟨(some 34), none, .p (.bld [(.int .i64 0), (.int .i64 0), (.int .i64 0), (.int .i64 0), (.int .i64 0), (.int .i64 0)] [])⟩, ⟨(some 35), none, .p (.bld [(.string ⟨#[]⟩), (.string ⟨#[]⟩)] [])⟩, ⟨none, none, .e (.st 6 (.tmp 2) (.tmp 34))⟩, ⟨none, none, .e (.st 2 (.tmp 3) (.tmp 35))⟩, ⟨(some 4), none, .p (.mov (.const (.bool false)))⟩])
  .ret) .skip))
  (.seq (.reg [⟨(some 5), none, .e (.alc [(.int .i64 0), (.int .i64 0), (.int .i64 0), (.int .i64 0)])⟩])
  (.seq (.seq (.reg [⟨(some 36), none, .p (.bld [(.int .i64 0), (.int .i64 0), (.int .i64 0), (.int .i64 0)] [(0, 1, (.const (.int .i64 2))), (1, 1, (.const (.int .i64 4))), (2, 1, (.const (.int .i64 5))), (3, 1, (.const (.int .i64 6)))])⟩, ⟨(some 37), none, .p (.mov (.const (.int .i64 0)))⟩])
  (.block 0
  (.loop lb64_0)))
  (.seq (.reg [⟨(some 57), none, .p (.iada 4 1 (.tmp 5) (.const (.int .i64 0)))⟩, ⟨(some 58), none, .p (.ld none (.tmp 57))⟩, ⟨(some 59), none, .p (.iada 4 1 (.tmp 5) (.const (.int .i64 1)))⟩, ⟨(some 60), none, .p (.ld none (.tmp 59))⟩, ⟨(some 61), none, .p (.iada 4 1 (.tmp 5) (.const (.int .i64 2)))⟩, ⟨(some 62), none, .p (.ld none (.tmp 61))⟩, ⟨(some 63), none, .p (.iada 4 1 (.tmp 5) (.const (.int .i64 3)))⟩, ⟨(some 64), none, .p (.ld none (.tmp 63))⟩, ⟨(some 65), none, .p (.bld [(.int .i64 0), (.int .i64 0), (.int .i64 0), (.int .i64 0), (.int .i64 0), (.int .i64 0)] [(1, 1, (.tmp 58)), (3, 1, (.tmp 60)), (4, 1, (.tmp 62)), (5, 1, (.tmp 64))])⟩, ⟨(some 10), none, .e (.alc [(.int .i64 0), (.int .i64 0), (.int .i64 0), (.int .i64 0), (.int .i64 0), (.int .i64 0)])⟩, ⟨none, none, .e (.st 6 (.tmp 10) (.tmp 65))⟩])
  (.seq (.dreg [⟨(some 66), none, .p (.ld (some 6) (.tmp 10))⟩, ⟨(some 67), none, .p (.mov (.tmp 0))⟩, ⟨(some 70), none, .p (.mov (.tmp 0))⟩] [[⟨(some 68), none, .p (.iad 1 (.tmp 67) (.const (.int .i64 1)))⟩, ⟨(some 69), none, .p (.ld none (.tmp 68))⟩, ⟨(some 71), none, .p (.iad 1 (.tmp 70) (.const (.int .i64 3)))⟩, ⟨(some 72), none, .p (.ld none (.tmp 71))⟩, ⟨(some 73), none, .p (.bld [(.string ⟨#[]⟩), (.string ⟨#[]⟩)] [(0, 1, (.tmp 69)), (1, 1, (.tmp 72))])⟩, ⟨none, none, .e (.st 6 (.tmp 2) (.tmp 66))⟩, ⟨none, none, .e (.st 2 (.tmp 3) (.tmp 73))⟩, ⟨(some 4), none, .p (.mov (.const (.bool true)))⟩], [⟨(some 68), none, .p (.iad 1 (.tmp 67) (.const (.int .i64 1)))⟩, ⟨(some 69), none, .p (.ld none (.tmp 68))⟩, ⟨(some 71), none, .p (.iad 1 (.tmp 70) (.const (.int .i64 3)))⟩, ⟨(some 72), none, .p (.ld none (.tmp 71))⟩, ⟨none, none, .e (.st 6 (.tmp 2) (.tmp 66))⟩, ⟨(some 73), none, .p (.bld [(.string ⟨#[]⟩), (.string ⟨#[]⟩)] [(0, 1, (.tmp 69)), (1, 1, (.tmp 72))])⟩, ⟨none, none, .e (.st 2 (.tmp 3) (.tmp 73))⟩, ⟨(some 4), none, .p (.mov (.const (.bool true)))⟩], [⟨(some 68), none, .p (.iad 1 (.tmp 67) (.const (.int .i64 1)))⟩, ⟨(some 69), none, .p (.ld none (.tmp 68))⟩, ⟨(some 71), none, .p (.iad 1 (.tmp 70) (.const (.int .i64 3)))⟩, ⟨none, none, .e (.st 6 (.tmp 2) (.tmp 66))⟩, ⟨(some 72), none, .p (.ld none (.tmp 71))⟩, ⟨(some 73), none, .p (.bld [(.string ⟨#[]⟩), (.string ⟨#[]⟩)] [(0, 1, (.tmp 69)), (1, 1, (.tmp 72))])⟩, ⟨none, none, .e (.st 2 (.tmp 3) (.tmp 73))⟩, ⟨(some 4), none, .p (.mov (.const (.bool true)))⟩], [⟨(some 68), none, .p (.iad 1 (.tmp 67) (.const (.int .i64 1)))⟩, ⟨(some 69), none, .p (.ld none (.tmp 68))⟩, ⟨none, none, .e (.st 6 (.tmp 2) (.tmp 66))⟩, ⟨(some 71), none, .p (.iad 1 (.tmp 70) (.const (.int .i64 3)))⟩, ⟨(some 72), none, .p (.ld none (.tmp 71))⟩, ⟨(some 73), none, .p (.bld [(.string ⟨#[]⟩), (.string ⟨#[]⟩)] [(0, 1, (.tmp 69)), (1, 1, (.tmp 72))])⟩, ⟨none, none, .e (.st 2 (.tmp 3) (.tmp 73))⟩, ⟨(some 4), none, .p (.mov (.const (.bool true)))⟩], [⟨(some 68), none, .p (.iad 1 (.tmp 67) (.const (.int .i64 1)))⟩, ⟨(some 71), none, .p (.iad 1 (.tmp 70) (.const (.int .i64 3)))⟩, ⟨(some 69), none, .p (.ld none (.tmp 68))⟩, ⟨(some 72), none, .p (.ld none (.tmp 71))⟩, ⟨(some 73), none, .p (.bld [(.string ⟨#[]⟩), (.string ⟨#[]⟩)] [(0, 1, (.tmp 69)), (1, 1, (.tmp 72))])⟩, ⟨none, none, .e (.st 6 (.tmp 2) (.tmp 66))⟩, ⟨none, none, .e (.st 2 (.tmp 3) (.tmp 73))⟩, ⟨(some 4), none, .p (.mov (.const (.bool true)))⟩], [⟨(some 68), none, .p (.iad 1 (.tmp 67) (.const (.int .i64 1)))⟩, ⟨(some 71), none, .p (.iad 1 (.tmp 70) (.const (.int .i64 3)))⟩, ⟨(some 69), none, .p (.ld none (.tmp 68))⟩, ⟨(some 72), none, .p (.ld none (.tmp 71))⟩, ⟨none, none, .e (.st 6 (.tmp 2) (.tmp 66))⟩, ⟨(some 73), none, .p (.bld [(.string ⟨#[]⟩), (.string ⟨#[]⟩)] [(0, 1, (.tmp 69)), (1, 1, (.tmp 72))])⟩, ⟨none, none, .e (.st 2 (.tmp 3) (.tmp 73))⟩, ⟨(some 4), none, .p (.mov (.const (.bool true)))⟩], [⟨(some 68), none, .p (.iad 1 (.tmp 67) (.const (.int .i64 1)))⟩, ⟨(some 71), none, .p (.iad 1 (.tmp 70) (.const (.int .i64 3)))⟩, ⟨(some 69), none, .p (.ld none (.tmp 68))⟩, ⟨none, none, .e (.st 6 (.tmp 2) (.tmp 66))⟩, ⟨(some 72), none, .p (.ld none (.tmp 71))⟩, ⟨(some 73), none, .p (.bld [(.string ⟨#[]⟩), (.string ⟨#[]⟩)] [(0, 1, (.tmp 69)), (1, 1, (.tmp 72))])⟩, ⟨none, none, .e (.st 2 (.tmp 3) (.tmp 73))⟩, ⟨(some 4), none, .p (.mov (.const (.bool true)))⟩], [⟨(some 68), none, .p (.iad 1 (.tmp 67) (.const (.int .i64 1)))⟩, ⟨(some 71), none, .p (.iad 1 (.tmp 70) (.const (.int .i64 3)))⟩, ⟨(some 72), none, .p (.ld none (.tmp 71))⟩, ⟨(some 69), none, .p (.ld none (.tmp 68))⟩, ⟨(some 73), none, .p (.bld [(.string ⟨#[]⟩), (.string ⟨#[]⟩)] [(0, 1, (.tmp 69)), (1, 1, (.tmp 72))])⟩, ⟨none, none, .e (.st 6 (.tmp 2) (.tmp 66))⟩, ⟨none, none, .e (.st 2 (.tmp 3) (.tmp 73))⟩, ⟨(some 4), none, .p (.mov (.const (.bool true)))⟩], [⟨(some 68), none, .p (.iad 1 (.tmp 67) (.const (.int .i64 1)))⟩, ⟨(some 71), none, .p (.iad 1 (.tmp 70) (.const (.int .i64 3)))⟩, ⟨(some 72), none, .p (.ld none (.tmp 71))⟩, ⟨(some 69), none, .p (.ld none (.tmp 68))⟩, ⟨none, none, .e (.st 6 (.tmp 2) (.tmp 66))⟩, ⟨(some 73), none, .p (.bld [(.string ⟨#[]⟩), (.string ⟨#[]⟩)] [(0, 1, (.tmp 69)), (1, 1, (.tmp 72))])⟩, ⟨none, none, .e (.st 2 (.tmp 3) (.tmp 73))⟩, ⟨(some 4), none, .p (.mov (.const (.bool true)))⟩], [⟨(some 68), none, .p (.iad 1 (.tmp 67) (.const (.int .i64 1)))⟩, ⟨(some 71), none, .p (.iad 1 (.tmp 70) (.const (.int .i64 3)))⟩, ⟨(some 72), none, .p (.ld none (.tmp 71))⟩, ⟨none, none, .e (.st 6 (.tmp 2) (.tmp 66))⟩, ⟨(some 69), none, .p (.ld none (.tmp 68))⟩, ⟨(some 73), none, .p (.bld [(.string ⟨#[]⟩), (.string ⟨#[]⟩)] [(0, 1, (.tmp 69)), (1, 1, (.tmp 72))])⟩, ⟨none, none, .e (.st 2 (.tmp 3) (.tmp 73))⟩, ⟨(some 4), none, .p (.mov (.const (.bool true)))⟩], [⟨(some 68), none, .p (.iad 1 (.tmp 67) (.const (.int .i64 1)))⟩, ⟨(some 71), none, .p (.iad 1 (.tmp 70) (.const (.int .i64 3)))⟩, ⟨none, none, .e (.st 6 (.tmp 2) (.tmp 66))⟩, ⟨(some 69), none, .p (.ld none (.tmp 68))⟩, ⟨(some 72), none, .p (.ld none (.tmp 71))⟩, ⟨(some 73), none, .p (.bld [(.string ⟨#[]⟩), (.string ⟨#[]⟩)] [(0, 1, (.tmp 69)), (1, 1, (.tmp 72))])⟩, ⟨none, none, .e (.st 2 (.tmp 3) (.tmp 73))⟩, ⟨(some 4), none, .p (.mov (.const (.bool true)))⟩], [⟨(some 68), none, .p (.iad 1 (.tmp 67) (.const (.int .i64 1)))⟩, ⟨(some 71), none, .p (.iad 1 (.tmp 70) (.const (.int .i64 3)))⟩, ⟨none, none, .e (.st 6 (.tmp 2) (.tmp 66))⟩, ⟨(some 72), none, .p (.ld none (.tmp 71))⟩, ⟨(some 69), none, .p (.ld none (.tmp 68))⟩, ⟨(some 73), none, .p (.bld [(.string ⟨#[]⟩), (.string ⟨#[]⟩)] [(0, 1, (.tmp 69)), (1, 1, (.tmp 72))])⟩, ⟨none, none, .e (.st 2 (.tmp 3) (.tmp 73))⟩, ⟨(some 4), none, .p (.mov (.const (.bool true)))⟩], [⟨(some 68), none, .p (.iad 1 (.tmp 67) (.const (.int .i64 1)))⟩, ⟨none, none, .e (.st 6 (.tmp 2) (.tmp 66))⟩, ⟨(some 69), none, .p (.ld none (.tmp 68))⟩, ⟨(some 71), none, .p (.iad 1 (.tmp 70) (.const (.int .i64 3)))⟩, ⟨(some 72), none, .p (.ld none (.tmp 71))⟩, ⟨(some 73), none, .p (.bld [(.string ⟨#[]⟩), (.string ⟨#[]⟩)] [(0, 1, (.tmp 69)), (1, 1, (.tmp 72))])⟩, ⟨none, none, .e (.st 2 (.tmp 3) (.tmp 73))⟩, ⟨(some 4), none, .p (.mov (.const (.bool true)))⟩], [⟨(some 68), none, .p (.iad 1 (.tmp 67) (.const (.int .i64 1)))⟩, ⟨none, none, .e (.st 6 (.tmp 2) (.tmp 66))⟩, ⟨(some 71), none, .p (.iad 1 (.tmp 70) (.const (.int .i64 3)))⟩, ⟨(some 69), none, .p (.ld none (.tmp 68))⟩, ⟨(some 72), none, .p (.ld none (.tmp 71))⟩, ⟨(some 73), none, .p (.bld [(.string ⟨#[]⟩), (.string ⟨#[]⟩)] [(0, 1, (.tmp 69)), (1, 1, (.tmp 72))])⟩, ⟨none, none, .e (.st 2 (.tmp 3) (.tmp 73))⟩, ⟨(some 4), none, .p (.mov (.const (.bool true)))⟩], [⟨(some 68), none, .p (.iad 1 (.tmp 67) (.const (.int .i64 1)))⟩, ⟨none, none, .e (.st 6 (.tmp 2) (.tmp 66))⟩, ⟨(some 71), none, .p (.iad 1 (.tmp 70) (.const (.int .i64 3)))⟩, ⟨(some 72), none, .p (.ld none (.tmp 71))⟩, ⟨(some 69), none, .p (.ld none (.tmp 68))⟩, ⟨(some 73), none, .p (.bld [(.string ⟨#[]⟩), (.string ⟨#[]⟩)] [(0, 1, (.tmp 69)), (1, 1, (.tmp 72))])⟩, ⟨none, none, .e (.st 2 (.tmp 3) (.tmp 73))⟩, ⟨(some 4), none, .p (.mov (.const (.bool true)))⟩], [⟨(some 71), none, .p (.iad 1 (.tmp 70) (.const (.int .i64 3)))⟩, ⟨(some 68), none, .p (.iad 1 (.tmp 67) (.const (.int .i64 1)))⟩, ⟨(some 69), none, .p (.ld none (.tmp 68))⟩, ⟨(some 72), none, .p (.ld none (.tmp 71))⟩, ⟨(some 73), none, .p (.bld [(.string ⟨#[]⟩), (.string ⟨#[]⟩)] [(0, 1, (.tmp 69)), (1, 1, (.tmp 72))])⟩, ⟨none, none, .e (.st 6 (.tmp 2) (.tmp 66))⟩, ⟨none, none, .e (.st 2 (.tmp 3) (.tmp 73))⟩, ⟨(some 4), none, .p (.mov (.const (.bool true)))⟩], [⟨(some 71), none, .p (.iad 1 (.tmp 70) (.const (.int .i64 3)))⟩, ⟨(some 68), none, .p (.iad 1 (.tmp 67) (.const (.int .i64 1)))⟩, ⟨(some 69), none, .p (.ld none (.tmp 68))⟩, ⟨(some 72), none, .p (.ld none (.tmp 71))⟩, ⟨none, none, .e (.st 6 (.tmp 2) (.tmp 66))⟩, ⟨(some 73), none, .p (.bld [(.string ⟨#[]⟩), (.string ⟨#[]⟩)] [(0, 1, (.tmp 69)), (1, 1, (.tmp 72))])⟩, ⟨none, none, .e (.st 2 (.tmp 3) (.tmp 73))⟩, ⟨(some 4), none, .p (.mov (.const (.bool true)))⟩], [⟨(some 71), none, .p (.iad 1 (.tmp 70) (.const (.int .i64 3)))⟩, ⟨(some 68), none, .p (.iad 1 (.tmp 67) (.const (.int .i64 1)))⟩, ⟨(some 69), none, .p (.ld none (.tmp 68))⟩, ⟨none, none, .e (.st 6 (.tmp 2) (.tmp 66))⟩, ⟨(some 72), none, .p (.ld none (.tmp 71))⟩, ⟨(some 73), none, .p (.bld [(.string ⟨#[]⟩), (.string ⟨#[]⟩)] [(0, 1, (.tmp 69)), (1, 1, (.tmp 72))])⟩, ⟨none, none, .e (.st 2 (.tmp 3) (.tmp 73))⟩, ⟨(some 4), none, .p (.mov (.const (.bool true)))⟩], [⟨(some 71), none, .p (.iad 1 (.tmp 70) (.const (.int .i64 3)))⟩, ⟨(some 68), none, .p (.iad 1 (.tmp 67) (.const (.int .i64 1)))⟩, ⟨(some 72), none, .p (.ld none (.tmp 71))⟩, ⟨(some 69), none, .p (.ld none (.tmp 68))⟩, ⟨(some 73), none, .p (.bld [(.string ⟨#[]⟩), (.string ⟨#[]⟩)] [(0, 1, (.tmp 69)), (1, 1, (.tmp 72))])⟩, ⟨none, none, .e (.st 6 (.tmp 2) (.tmp 66))⟩, ⟨none, none, .e (.st 2 (.tmp 3) (.tmp 73))⟩, ⟨(some 4), none, .p (.mov (.const (.bool true)))⟩], [⟨(some 71), none, .p (.iad 1 (.tmp 70) (.const (.int .i64 3)))⟩, ⟨(some 68), none, .p (.iad 1 (.tmp 67) (.const (.int .i64 1)))⟩, ⟨(some 72), none, .p (.ld none (.tmp 71))⟩, ⟨(some 69), none, .p (.ld none (.tmp 68))⟩, ⟨none, none, .e (.st 6 (.tmp 2) (.tmp 66))⟩, ⟨(some 73), none, .p (.bld [(.string ⟨#[]⟩), (.string ⟨#[]⟩)] [(0, 1, (.tmp 69)), (1, 1, (.tmp 72))])⟩, ⟨none, none, .e (.st 2 (.tmp 3) (.tmp 73))⟩, ⟨(some 4), none, .p (.mov (.const (.bool true)))⟩], [⟨(some 71), none, .p (.iad 1 (.tmp 70) (.const (.int .i64 3)))⟩, ⟨(some 68), none, .p (.iad 1 (.tmp 67) (.const (.int .i64 1)))⟩, ⟨(some 72), none, .p (.ld none (.tmp 71))⟩, ⟨none, none, .e (.st 6 (.tmp 2) (.tmp 66))⟩, ⟨(some 69), none, .p (.ld none (.tmp 68))⟩, ⟨(some 73), none, .p (.bld [(.string ⟨#[]⟩), (.string ⟨#[]⟩)] [(0, 1, (.tmp 69)), (1, 1, (.tmp 72))])⟩, ⟨none, none, .e (.st 2 (.tmp 3) (.tmp 73))⟩, ⟨(some 4), none, .p (.mov (.const (.bool true)))⟩], [⟨(some 71), none, .p (.iad 1 (.tmp 70) (.const (.int .i64 3)))⟩, ⟨(some 68), none, .p (.iad 1 (.tmp 67) (.const (.int .i64 1)))⟩, ⟨none, none, .e (.st 6 (.tmp 2) (.tmp 66))⟩, ⟨(some 69), none, .p (.ld none (.tmp 68))⟩, ⟨(some 72), none, .p (.ld none (.tmp 71))⟩, ⟨(some 73), none, .p (.bld [(.string ⟨#[]⟩), (.string ⟨#[]⟩)] [(0, 1, (.tmp 69)), (1, 1, (.tmp 72))])⟩, ⟨none, none, .e (.st 2 (.tmp 3) (.tmp 73))⟩, ⟨(some 4), none, .p (.mov (.const (.bool true)))⟩], [⟨(some 71), none, .p (.iad 1 (.tmp 70) (.const (.int .i64 3)))⟩, ⟨(some 68), none, .p (.iad 1 (.tmp 67) (.const (.int .i64 1)))⟩, ⟨none, none, .e (.st 6 (.tmp 2) (.tmp 66))⟩, ⟨(some 72), none, .p (.ld none (.tmp 71))⟩, ⟨(some 69), none, .p (.ld none (.tmp 68))⟩, ⟨(some 73), none, .p (.bld [(.string ⟨#[]⟩), (.string ⟨#[]⟩)] [(0, 1, (.tmp 69)), (1, 1, (.tmp 72))])⟩, ⟨none, none, .e (.st 2 (.tmp 3) (.tmp 73))⟩, ⟨(some 4), none, .p (.mov (.const (.bool true)))⟩], [⟨(some 71), none, .p (.iad 1 (.tmp 70) (.const (.int .i64 3)))⟩, ⟨(some 72), none, .p (.ld none (.tmp 71))⟩, ⟨(some 68), none, .p (.iad 1 (.tmp 67) (.const (.int .i64 1)))⟩, ⟨(some 69), none, .p (.ld none (.tmp 68))⟩, ⟨(some 73), none, .p (.bld [(.string ⟨#[]⟩), (.string ⟨#[]⟩)] [(0, 1, (.tmp 69)), (1, 1, (.tmp 72))])⟩, ⟨none, none, .e (.st 6 (.tmp 2) (.tmp 66))⟩, ⟨none, none, .e (.st 2 (.tmp 3) (.tmp 73))⟩, ⟨(some 4), none, .p (.mov (.const (.bool true)))⟩], [⟨(some 71), none, .p (.iad 1 (.tmp 70) (.const (.int .i64 3)))⟩, ⟨(some 72), none, .p (.ld none (.tmp 71))⟩, ⟨(some 68), none, .p (.iad 1 (.tmp 67) (.const (.int .i64 1)))⟩, ⟨(some 69), none, .p (.ld none (.tmp 68))⟩, ⟨none, none, .e (.st 6 (.tmp 2) (.tmp 66))⟩, ⟨(some 73), none, .p (.bld [(.string ⟨#[]⟩), (.string ⟨#[]⟩)] [(0, 1, (.tmp 69)), (1, 1, (.tmp 72))])⟩, ⟨none, none, .e (.st 2 (.tmp 3) (.tmp 73))⟩, ⟨(some 4), none, .p (.mov (.const (.bool true)))⟩], [⟨(some 71), none, .p (.iad 1 (.tmp 70) (.const (.int .i64 3)))⟩, ⟨(some 72), none, .p (.ld none (.tmp 71))⟩, ⟨(some 68), none, .p (.iad 1 (.tmp 67) (.const (.int .i64 1)))⟩, ⟨none, none, .e (.st 6 (.tmp 2) (.tmp 66))⟩, ⟨(some 69), none, .p (.ld none (.tmp 68))⟩, ⟨(some 73), none, .p (.bld [(.string ⟨#[]⟩), (.string ⟨#[]⟩)] [(0, 1, (.tmp 69)), (1, 1, (.tmp 72))])⟩, ⟨none, none, .e (.st 2 (.tmp 3) (.tmp 73))⟩, ⟨(some 4), none, .p (.mov (.const (.bool true)))⟩], [⟨(some 71), none, .p (.iad 1 (.tmp 70) (.const (.int .i64 3)))⟩, ⟨(some 72), none, .p (.ld none (.tmp 71))⟩, ⟨none, none, .e (.st 6 (.tmp 2) (.tmp 66))⟩, ⟨(some 68), none, .p (.iad 1 (.tmp 67) (.const (.int .i64 1)))⟩, ⟨(some 69), none, .p (.ld none (.tmp 68))⟩, ⟨(some 73), none, .p (.bld [(.string ⟨#[]⟩), (.string ⟨#[]⟩)] [(0, 1, (.tmp 69)), (1, 1, (.tmp 72))])⟩, ⟨none, none, .e (.st 2 (.tmp 3) (.tmp 73))⟩, ⟨(some 4), none, .p (.mov (.const (.bool true)))⟩], [⟨(some 71), none, .p (.iad 1 (.tmp 70) (.const (.int .i64 3)))⟩, ⟨none, none, .e (.st 6 (.tmp 2) (.tmp 66))⟩, ⟨(some 68), none, .p (.iad 1 (.tmp 67) (.const (.int .i64 1)))⟩, ⟨(some 69), none, .p (.ld none (.tmp 68))⟩, ⟨(some 72), none, .p (.ld none (.tmp 71))⟩, ⟨(some 73), none, .p (.bld [(.string ⟨#[]⟩), (.string ⟨#[]⟩)] [(0, 1, (.tmp 69)), (1, 1, (.tmp 72))])⟩, ⟨none, none, .e (.st 2 (.tmp 3) (.tmp 73))⟩, ⟨(some 4), none, .p (.mov (.const (.bool true)))⟩], [⟨(some 71), none, .p (.iad 1 (.tmp 70) (.const (.int .i64 3)))⟩, ⟨none, none, .e (.st 6 (.tmp 2) (.tmp 66))⟩, ⟨(some 68), none, .p (.iad 1 (.tmp 67) (.const (.int .i64 1)))⟩, ⟨(some 72), none, .p (.ld none (.tmp 71))⟩, ⟨(some 69), none, .p (.ld none (.tmp 68))⟩, ⟨(some 73), none, .p (.bld [(.string ⟨#[]⟩), (.string ⟨#[]⟩)] [(0, 1, (.tmp 69)), (1, 1, (.tmp 72))])⟩, ⟨none, none, .e (.st 2 (.tmp 3) (.tmp 73))⟩, ⟨(some 4), none, .p (.mov (.const (.bool true)))⟩], [⟨(some 71), none, .p (.iad 1 (.tmp 70) (.const (.int .i64 3)))⟩, ⟨none, none, .e (.st 6 (.tmp 2) (.tmp 66))⟩, ⟨(some 72), none, .p (.ld none (.tmp 71))⟩, ⟨(some 68), none, .p (.iad 1 (.tmp 67) (.const (.int .i64 1)))⟩, ⟨(some 69), none, .p (.ld none (.tmp 68))⟩, ⟨(some 73), none, .p (.bld [(.string ⟨#[]⟩), (.string ⟨#[]⟩)] [(0, 1, (.tmp 69)), (1, 1, (.tmp 72))])⟩, ⟨none, none, .e (.st 2 (.tmp 3) (.tmp 73))⟩, ⟨(some 4), none, .p (.mov (.const (.bool true)))⟩], [⟨none, none, .e (.st 6 (.tmp 2) (.tmp 66))⟩, ⟨(some 68), none, .p (.iad 1 (.tmp 67) (.const (.int .i64 1)))⟩, ⟨(some 69), none, .p (.ld none (.tmp 68))⟩, ⟨(some 71), none, .p (.iad 1 (.tmp 70) (.const (.int .i64 3)))⟩, ⟨(some 72), none, .p (.ld none (.tmp 71))⟩, ⟨(some 73), none, .p (.bld [(.string ⟨#[]⟩), (.string ⟨#[]⟩)] [(0, 1, (.tmp 69)), (1, 1, (.tmp 72))])⟩, ⟨none, none, .e (.st 2 (.tmp 3) (.tmp 73))⟩, ⟨(some 4), none, .p (.mov (.const (.bool true)))⟩], [⟨none, none, .e (.st 6 (.tmp 2) (.tmp 66))⟩, ⟨(some 68), none, .p (.iad 1 (.tmp 67) (.const (.int .i64 1)))⟩, ⟨(some 71), none, .p (.iad 1 (.tmp 70) (.const (.int .i64 3)))⟩, ⟨(some 69), none, .p (.ld none (.tmp 68))⟩, ⟨(some 72), none, .p (.ld none (.tmp 71))⟩, ⟨(some 73), none, .p (.bld [(.string ⟨#[]⟩), (.string ⟨#[]⟩)] [(0, 1, (.tmp 69)), (1, 1, (.tmp 72))])⟩, ⟨none, none, .e (.st 2 (.tmp 3) (.tmp 73))⟩, ⟨(some 4), none, .p (.mov (.const (.bool true)))⟩], [⟨none, none, .e (.st 6 (.tmp 2) (.tmp 66))⟩, ⟨(some 68), none, .p (.iad 1 (.tmp 67) (.const (.int .i64 1)))⟩, ⟨(some 71), none, .p (.iad 1 (.tmp 70) (.const (.int .i64 3)))⟩, ⟨(some 72), none, .p (.ld none (.tmp 71))⟩, ⟨(some 69), none, .p (.ld none (.tmp 68))⟩, ⟨(some 73), none, .p (.bld [(.string ⟨#[]⟩), (.string ⟨#[]⟩)] [(0, 1, (.tmp 69)), (1, 1, (.tmp 72))])⟩, ⟨none, none, .e (.st 2 (.tmp 3) (.tmp 73))⟩, ⟨(some 4), none, .p (.mov (.const (.bool true)))⟩], [⟨none, none, .e (.st 6 (.tmp 2) (.tmp 66))⟩, ⟨(some 71), none, .p (.iad 1 (.tmp 70) (.const (.int .i64 3)))⟩, ⟨(some 68), none, .p (.iad 1 (.tmp 67) (.const (.int .i64 1)))⟩, ⟨(some 69), none, .p (.ld none (.tmp 68))⟩, ⟨(some 72), none, .p (.ld none (.tmp 71))⟩, ⟨(some 73), none, .p (.bld [(.string ⟨#[]⟩), (.string ⟨#[]⟩)] [(0, 1, (.tmp 69)), (1, 1, (.tmp 72))])⟩, ⟨none, none, .e (.st 2 (.tmp 3) (.tmp 73))⟩, ⟨(some 4), none, .p (.mov (.const (.bool true)))⟩], [⟨none, none, .e (.st 6 (.tmp 2) (.tmp 66))⟩, ⟨(some 71), none, .p (.iad 1 (.tmp 70) (.const (.int .i64 3)))⟩, ⟨(some 68), none, .p (.iad 1 (.tmp 67) (.const (.int .i64 1)))⟩, ⟨(some 72), none, .p (.ld none (.tmp 71))⟩, ⟨(some 69), none, .p (.ld none (.tmp 68))⟩, ⟨(some 73), none, .p (.bld [(.string ⟨#[]⟩), (.string ⟨#[]⟩)] [(0, 1, (.tmp 69)), (1, 1, (.tmp 72))])⟩, ⟨none, none, .e (.st 2 (.tmp 3) (.tmp 73))⟩, ⟨(some 4), none, .p (.mov (.const (.bool true)))⟩], [⟨none, none, .e (.st 6 (.tmp 2) (.tmp 66))⟩, ⟨(some 71), none, .p (.iad 1 (.tmp 70) (.const (.int .i64 3)))⟩, ⟨(some 72), none, .p (.ld none (.tmp 71))⟩, ⟨(some 68), none, .p (.iad 1 (.tmp 67) (.const (.int .i64 1)))⟩, ⟨(some 69), none, .p (.ld none (.tmp 68))⟩, ⟨(some 73), none, .p (.bld [(.string ⟨#[]⟩), (.string ⟨#[]⟩)] [(0, 1, (.tmp 69)), (1, 1, (.tmp 72))])⟩, ⟨none, none, .e (.st 2 (.tmp 3) (.tmp 73))⟩, ⟨(some 4), none, .p (.mov (.const (.bool true)))⟩]])
  .ret))))))
def rf64 : List RX := [.cell 2 (some 6), .cell 3 (some 2), .tmp 4]
set_option maxRecDepth 100000 in
theorem comp64 : cFn Tryd.prog Tryd.f64 = some (erase cf64, rf64) := by kernel_rfl
def lb72_0 : LC :=
  (.seq (.reg [⟨(some 27), none, .p (.bin .lss (.tmp 26) (.tmp 25))⟩])
  (.seq (.cond (.tmp 27) .skip (.exit 0))
  (.seq (.block 1
  (.seq (.reg [⟨(some 28), none, .p (.mov (.tmp 26))⟩, ⟨(some 5), none, .p (.mov (.tmp 28))⟩])
  (.seq (.seq (.reg [⟨(some 29), none, .p (.mov (.tmp 0))⟩, ⟨(some 30), none, .p (.mov (.tmp 5))⟩, ⟨(some 31), none, .p (.idxs (.tmp 29) (.tmp 30))⟩, ⟨(some 32), none, .p (.bin .lss (.tmp 31) (.const (.int .u8 48)))⟩, ⟨(some 33), none, .p (.mov (.tmp 32))⟩, ⟨(some 34), (some (33, false)), .p (.mov (.tmp 0))⟩, ⟨(some 35), (some (33, false)), .p (.mov (.tmp 5))⟩, ⟨(some 36), (some (33, false)), .p (.idxs (.tmp 34) (.tmp 35))⟩, ⟨(some 37), (some (33, false)), .p (.bin .gtr (.tmp 36) (.const (.int .u8 57)))⟩, ⟨(some 38), none, .p (.pick (.tmp 33) (.const (.bool true)) (.tmp 37))⟩])
  (.cond (.tmp 38) (.seq (.reg [⟨(some 2), none, .p (.mov (.const (.int .i64 0)))⟩, ⟨(some 3), none, .p (.mov (.const (.bool false)))⟩])
  .ret) .skip))
  (.reg [⟨(some 39), none, .p (.mov (.tmp 4))⟩, ⟨(some 40), none, .p (.bin .mul (.const (.int .i64 10)) (.tmp 39))⟩, ⟨(some 41), none, .p (.mov (.tmp 0))⟩, ⟨(some 42), none, .p (.mov (.tmp 5))⟩, ⟨(some 43), none, .p (.idxs (.tmp 41) (.tmp 42))⟩, ⟨(some 44), none, .p (.bin .sub (.tmp 43) (.const (.int .u8 48)))⟩, ⟨(some 45), none, .p (.cvt .i64 (.tmp 44))⟩, ⟨(some 46), none, .p (.bin .add (.tmp 40) (.tmp 45))⟩, ⟨(some 4), none, .p (.mov (.tmp 46))⟩]))))
  (.reg [⟨(some 47), none, .p (.bin .add (.tmp 26) (.const (.int .i64 1)))⟩, ⟨(some 26), none, .p (.mov (.tmp 47))⟩]))))
def cf72 : LC :=
  (.seq (.reg [⟨(some 2), none, .p (.mov (.const (.int .i64 0)))⟩, ⟨(some 3), none, .p (.mov (.const (.bool false)))⟩])
  (.seq (.seq (.reg [⟨(some 6), none, .p (.mov (.tmp 0))⟩, ⟨(some 7), none, .p (.len 0 (.tmp 6))⟩, ⟨(some 8), none, .p (.bin .lss (.tmp 7) (.const (.int .i64 1)))⟩, ⟨(some 9), none, .p (.mov (.tmp 8))⟩, ⟨(some 10), (some (9, false)), .p (.mov (.tmp 0))⟩, ⟨(some 11), (some (9, false)), .p (.len 0 (.tmp 10))⟩, ⟨(some 12), (some (9, false)), .p (.bin .gtr (.tmp 11) (.const (.int .i64 9)))⟩, ⟨(some 13), none, .p (.pick (.tmp 9) (.const (.bool true)) (.tmp 12))⟩, ⟨(some 14), none, .p (.mov (.tmp 13))⟩, ⟨(some 15), (some (14, false)), .p (.mov (.tmp 0))⟩, ⟨(some 16), (some (14, false)), .p (.len 0 (.tmp 15))⟩, ⟨(some 17), (some (14, false)), .p (.bin .gtr (.tmp 16) (.const (.int .i64 1)))⟩, ⟨(some 18), (some (14, false)), .p (.mov (.tmp 17))⟩, ⟨(some 19), (some (18, true)), .p (.mov (.tmp 0))⟩, ⟨(some 20), (some (18, true)), .p (.idxs (.tmp 19) (.const (.int .i64 0)))⟩, ⟨(some 21), (some (18, true)), .p (.bin .eql (.tmp 20) (.const (.int .u8 48)))⟩, ⟨(some 22), (some (14, false)), .p (.pick (.tmp 18) (.tmp 21) (.const (.bool false)))⟩, ⟨(some 23), none, .p (.pick (.tmp 14) (.const (.bool true)) (.tmp 22))⟩])
  (.cond (.tmp 23) (.seq (.reg [⟨(some 2), none, .p (.mov (.const (.int .i64 0)))⟩, ⟨(some 3), none, .p (.mov (.const (.bool false)))⟩])
  .ret) .skip))
  (.seq (.reg [⟨(some 4), none, .p (.mov (.const (.int .i64 0)))⟩])
  (.seq (.seq (.reg [⟨(some 24), none, .p (.mov (.tmp 0))⟩, ⟨(some 25), none, .p (.len 0 (.tmp 24))⟩, ⟨(some 26), none, .p (.mov (.const (.int .i64 0)))⟩])
  (.block 0
  (.loop lb72_0)))
  (.seq (.reg [⟨(some 48), none, .p (.mov (.tmp 4))⟩, ⟨(some 2), none, .p (.mov (.tmp 48))⟩, ⟨(some 3), none, .p (.mov (.const (.bool true)))⟩])
  .ret)))))
def rf72 : List RX := [.tmp 2, .tmp 3]
set_option maxRecDepth 100000 in
theorem comp72 : cFn Tryd.prog Tryd.f72 = some (erase cf72, rf72) := by kernel_rfl
end Go.Proofs.YtchpncmmlhfemaaDoor
namespace Go.Proofs.YtchpncmmlhfemaaDoor
end Go.Proofs.YtchpncmmlhfemaaDoor
namespace Go.Proofs.YtchpncmmlhfemaaDoor
end Go.Proofs.YtchpncmmlhfemaaDoor
namespace Go.Proofs.YtchpncmmlhfemaaDoor
end Go.Proofs.YtchpncmmlhfemaaDoor
namespace Go.Proofs.YtchpncmmlhfemaaDoor
def cf56 : LC :=
  (.seq (.reg [⟨(some 4), none, .p (.mov (.const (.bool false)))⟩])
  (.seq (.reg [⟨(some 5), none, .p (.mov (.tmp 0))⟩, ⟨(some 6), none, .p (.len 0 (.tmp 5))⟩, ⟨(some 7), none, .p (.mov (.tmp 1))⟩, ⟨(some 8), none, .p (.len 0 (.tmp 7))⟩, ⟨(some 9), none, .p (.bin .geq (.tmp 6) (.tmp 8))⟩, ⟨(some 10), none, .p (.mov (.tmp 9))⟩, ⟨(some 11), (some (10, true)), .p (.mov (.tmp 0))⟩, ⟨(some 12), (some (10, true)), .p (.mov (.tmp 0))⟩, ⟨(some 13), (some (10, true)), .p (.len 0 (.tmp 12))⟩, ⟨(some 14), (some (10, true)), .p (.mov (.tmp 1))⟩, ⟨(some 15), (some (10, true)), .p (.len 0 (.tmp 14))⟩, ⟨(some 16), (some (10, true)), .p (.bin .sub (.tmp 13) (.tmp 15))⟩, ⟨(some 17), (some (10, true)), .p (.slcs (.tmp 11) (some (.tmp 16)) none)⟩, ⟨(some 18), (some (10, true)), .p (.mov (.tmp 1))⟩, ⟨(some 19), (some (10, true)), .p (.bin .eql (.tmp 17) (.tmp 18))⟩, ⟨(some 20), none, .p (.pick (.tmp 10) (.tmp 19) (.const (.bool false)))⟩, ⟨(some 4), none, .p (.mov (.tmp 20))⟩])
  .ret))
def rf56 : List RX := [.tmp 4]
set_option maxRecDepth 100000 in
theorem comp56 : cFn Tryd.prog Tryd.f56 = some (erase cf56, rf56) := by kernel_rfl
end Go.Proofs.YtchpncmmlhfemaaDoor
namespace Go.Proofs.YtchpncmmlhfemaaDoor
end Go.Proofs.YtchpncmmlhfemaaDoor
namespace Go.Proofs.YtchpncmmlhfemaaDoor
def lb52_0 : LC :=
  (.seq (.reg [⟨(some 14), none, .p (.bin .lss (.tmp 13) (.tmp 12))⟩])
  (.seq (.cond (.tmp 14) .skip (.exit 0))
  (.seq (.block 1
  (.seq (.reg [⟨(some 15), none, .p (.mov (.tmp 13))⟩, ⟨(some 5), none, .p (.mov (.tmp 15))⟩])
  (.seq (.dreg [⟨(some 16), none, .p (.mov (.tmp 0))⟩, ⟨(some 17), none, .p (.mov (.tmp 5))⟩, ⟨(some 18), none, .p (.iad 3 (.tmp 16) (.tmp 17))⟩, ⟨(some 19), none, .p (.ld (some 3) (.tmp 18))⟩, ⟨(some 20), none, .p (.mov (.tmp 1))⟩, ⟨(some 21), none, .p (.mov (.tmp 5))⟩, ⟨(some 22), none, .p (.iad 3 (.tmp 20) (.tmp 21))⟩, ⟨(some 23), none, .p (.ld (some 3) (.tmp 22))⟩] [[⟨(some 24), none, .p (.eqa true [.s, .b, (.i .i64)] (.tmp 19) (.tmp 23))⟩]])
  (.cond (.tmp 24) (.seq (.reg [⟨(some 4), none, .p (.mov (.const (.bool false)))⟩])
  .ret) .skip))))
  (.reg [⟨(some 25), none, .p (.bin .add (.tmp 13) (.const (.int .i64 1)))⟩, ⟨(some 13), none, .p (.mov (.tmp 25))⟩]))))
def cf52 : LC :=
  (.seq (.reg [⟨(some 4), none, .p (.mov (.const (.bool false)))⟩])
  (.seq (.seq (.reg [⟨(some 6), none, .p (.mov (.tmp 0))⟩, ⟨(some 7), none, .p (.len 1 (.tmp 6))⟩, ⟨(some 8), none, .p (.mov (.tmp 1))⟩, ⟨(some 9), none, .p (.len 1 (.tmp 8))⟩, ⟨(some 10), none, .p (.bin .neq (.tmp 7) (.tmp 9))⟩])
  (.cond (.tmp 10) (.seq (.reg [⟨(some 4), none, .p (.mov (.const (.bool false)))⟩])
  .ret) .skip))
  (.seq (.seq (.reg [⟨(some 11), none, .p (.mov (.tmp 0))⟩, ⟨(some 12), none, .p (.len 1 (.tmp 11))⟩, ⟨(some 13), none, .p (.mov (.const (.int .i64 0)))⟩])
  (.block 0
  (.loop lb52_0)))
  (.seq (.reg [⟨(some 4), none, .p (.mov (.const (.bool true)))⟩])
  .ret))))
def rf52 : List RX := [.tmp 4]
set_option maxRecDepth 100000 in
theorem comp52 : cFn Tryd.prog Tryd.f52 = some (erase cf52, rf52) := by kernel_rfl
def lb53_0 : LC :=
  (.seq (.reg [⟨(some 14), none, .p (.bin .lss (.tmp 13) (.tmp 12))⟩])
  (.seq (.cond (.tmp 14) .skip (.exit 0))
  (.seq (.block 1
  (.seq (.reg [⟨(some 15), none, .p (.mov (.tmp 13))⟩, ⟨(some 5), none, .p (.mov (.tmp 15))⟩])
  (.seq (.dreg [⟨(some 16), none, .p (.mov (.tmp 0))⟩, ⟨(some 17), none, .p (.mov (.tmp 5))⟩, ⟨(some 18), none, .p (.iad 6 (.tmp 16) (.tmp 17))⟩, ⟨(some 19), none, .p (.ld (some 6) (.tmp 18))⟩, ⟨(some 20), none, .p (.mov (.tmp 1))⟩, ⟨(some 21), none, .p (.mov (.tmp 5))⟩, ⟨(some 22), none, .p (.iad 6 (.tmp 20) (.tmp 21))⟩, ⟨(some 23), none, .p (.ld (some 6) (.tmp 22))⟩] [[⟨(some 24), none, .p (.eqa true [(.i .i64), (.i .i64), (.i .i64), (.i .i64), (.i .i64), (.i .i64)] (.tmp 19) (.tmp 23))⟩]])
  (.cond (.tmp 24) (.seq (.reg [⟨(some 4), none, .p (.mov (.const (.bool false)))⟩])
  .ret) .skip))))
  (.reg [⟨(some 25), none, .p (.bin .add (.tmp 13) (.const (.int .i64 1)))⟩, ⟨(some 13), none, .p (.mov (.tmp 25))⟩]))))
def cf53 : LC :=
  (.seq (.reg [⟨(some 4), none, .p (.mov (.const (.bool false)))⟩])
  (.seq (.seq (.reg [⟨(some 6), none, .p (.mov (.tmp 0))⟩, ⟨(some 7), none, .p (.len 1 (.tmp 6))⟩, ⟨(some 8), none, .p (.mov (.tmp 1))⟩, ⟨(some 9), none, .p (.len 1 (.tmp 8))⟩, ⟨(some 10), none, .p (.bin .neq (.tmp 7) (.tmp 9))⟩])
  (.cond (.tmp 10) (.seq (.reg [⟨(some 4), none, .p (.mov (.const (.bool false)))⟩])
  .ret) .skip))
  (.seq (.seq (.reg [⟨(some 11), none, .p (.mov (.tmp 0))⟩, ⟨(some 12), none, .p (.len 1 (.tmp 11))⟩, ⟨(some 13), none, .p (.mov (.const (.int .i64 0)))⟩])
  (.block 0
  (.loop lb53_0)))
  (.seq (.reg [⟨(some 4), none, .p (.mov (.const (.bool true)))⟩])
  .ret))))
def rf53 : List RX := [.tmp 4]
set_option maxRecDepth 100000 in
theorem comp53 : cFn Tryd.prog Tryd.f53 = some (erase cf53, rf53) := by kernel_rfl
end Go.Proofs.YtchpncmmlhfemaaDoor
namespace Go.Proofs.YtchpncmmlhfemaaDoor
def cf32 : LC :=
  (.seq (.reg [⟨(some 4), none, .p (.mov (.const (.slice none 0 0)))⟩])
  (.seq (.reg [⟨(some 5), none, .p (.mov (.tmp 0))⟩, ⟨(some 6), none, .p (.mov (.tmp 1))⟩, ⟨(some 7), none, .p (.mov (.tmp 1))⟩, ⟨(some 8), none, .p (.len 0 (.tmp 7))⟩, ⟨(some 9), none, .e (.call 54 [(.tmp 5), (.tmp 6), (.tmp 8), (.const (.int .i64 (-1)))])⟩, ⟨(some 4), none, .p (.mov (.tmp 9))⟩])
  .ret))
def rf32 : List RX := [.tmp 4]
set_option maxRecDepth 100000 in
theorem comp32 : cFn Tryd.prog Tryd.f32 = some (erase cf32, rf32) := by kernel_rfl
def cf34 : LC :=
  (.seq (.reg [⟨(some 4), none, .p (.mov (.const (.bool false)))⟩])
  (.seq (.reg [⟨(some 5), none, .p (.mov (.tmp 0))⟩, ⟨(some 6), none, .p (.mov (.tmp 1))⟩, ⟨(some 7), none, .e (.call 56 [(.tmp 5), (.tmp 6)])⟩, ⟨(some 4), none, .p (.mov (.tmp 7))⟩])
  .ret))
def rf34 : List RX := [.tmp 4]
set_option maxRecDepth 100000 in
theorem comp34 : cFn Tryd.prog Tryd.f34 = some (erase cf34, rf34) := by kernel_rfl
def cf46 : LC :=
  (.seq (.reg [⟨(some 4), none, .p (.mov (.const (.int .i64 0)))⟩, ⟨(some 5), none, .p (.mov (.const .nilIface))⟩])
  (.seq (.reg [⟨(some 6), none, .p (.mov (.tmp 0))⟩, ⟨(some 7), none, .e (.call 59 [(.tmp 6)])⟩])
  (.seq (.reg [⟨(some 8), none, .p (.mov (.tmp 0))⟩, ⟨(some 9), none, .p (.mov (.tmp 0))⟩, ⟨(some 10), none, .p (.nilc (.tmp 9))⟩, ⟨(some 11), none, .p (.fad 1 (.tmp 10))⟩, ⟨(some 12), none, .p (.ld none (.tmp 11))⟩, ⟨(some 13), none, .p (.mov (.tmp 1))⟩, ⟨(some 14), none, .e (.aps 5 1 (.tmp 12) (.tmp 13))⟩, ⟨(some 15), none, .p (.nilc (.tmp 8))⟩, ⟨(some 16), none, .p (.fad 1 (.tmp 15))⟩, ⟨none, none, .e (.st 1 (.tmp 16) (.tmp 14))⟩])
  (.seq (.reg [⟨(some 17), none, .p (.mov (.tmp 1))⟩, ⟨(some 18), none, .p (.len 0 (.tmp 17))⟩, ⟨(some 4), none, .p (.mov (.tmp 18))⟩, ⟨(some 5), none, .p (.mov (.const .nilIface))⟩])
  .ret))))
def rf46 : List RX := [.tmp 4, .tmp 5]
set_option maxRecDepth 100000 in
theorem comp46 : cFn Tryd.prog Tryd.f46 = some (erase cf46, rf46) := by kernel_rfl
def cf47 : LC :=
  (.seq (.reg [⟨(some 4), none, .p (.mov (.const .nilIface))⟩])
  (.seq (.reg [⟨(some 5), none, .p (.mov (.tmp 0))⟩, ⟨(some 6), none, .e (.call 59 [(.tmp 5)])⟩])
  (.seq (.reg [⟨(some 7), none, .p (.mov (.tmp 0))⟩, ⟨(some 8), none, .p (.mov (.tmp 0))⟩, ⟨(some 9), none, .p (.nilc (.tmp 8))⟩, ⟨(some 10), none, .p (.fad 1 (.tmp 9))⟩, ⟨(some 11), none, .p (.ld none (.tmp 10))⟩, ⟨(some 12), none, .p (.mov (.tmp 1))⟩, ⟨(some 13), none, .e (.bsr 1 1 [(.int .u8 0)] [(0, 1, (.tmp 12))])⟩, ⟨(some 14), none, .e (.aps 5 1 (.tmp 11) (.tmp 13))⟩, ⟨(some 15), none, .p (.nilc (.tmp 7))⟩, ⟨(some 16), none, .p (.fad 1 (.tmp 15))⟩, ⟨none, none, .e (.st 1 (.tmp 16) (.tmp 14))⟩])
  (.seq (.reg [⟨(some 4), none, .p (.mov (.const .nilIface))⟩])
  .ret))))
def rf47 : List RX := [.tmp 4]
set_option maxRecDepth 100000 in
theorem comp47 : cFn Tryd.prog Tryd.f47 = some (erase cf47, rf47) := by kernel_rfl
end Go.Proofs.YtchpncmmlhfemaaDoor
namespace Go.Proofs.YtchpncmmlhfemaaDoor
end Go.Proofs.YtchpncmmlhfemaaDoor

