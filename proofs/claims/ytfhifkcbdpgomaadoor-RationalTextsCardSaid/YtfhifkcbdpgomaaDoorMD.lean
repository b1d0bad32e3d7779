/- The functions of a package in the lifted layer's own small language; The functions of a package in the lifted layer's own small language; The functions of a package in the lifted layer's own small language; The functions of a package in the lifted layer's own small language; The functions of a package in the lifted layer's own small language; The functions of a package in the lifted layer's own small language; The functions of a package in the lifted layer's own small language; The functions of a package in the lifted layer's own small language; The functions of a package in the lifted layer's own small language; The functions of a package in the lifted layer's own small language; All functions of the seat. Conditions: none. -/
import Derived.Test.YtfhifkcbdpgomaaDoorMC
import Derived.KernelRfl
namespace Go.Proofs.YtfhifkcbdpgomaaDoor
end Go.Proofs.YtfhifkcbdpgomaaDoor
namespace Go.Proofs.YtfhifkcbdpgomaaDoor
def cf3 : LC :=
  (.seq (.reg [⟨(some 2), none, .e (.box (.tmp 0))⟩, ⟨(some 4), none, .p (.mov (.const (.bool false)))⟩])
  (.seq (.seq (.reg [⟨(some 12), none, .e (.call 4 [])⟩, ⟨(some 13), none, .p (.un .not (.tmp 12))⟩, ⟨(some 14), none, .p (.mov (.tmp 13))⟩, ⟨(some 15), (some (14, false)), .p (.mov (.tmp 1))⟩, ⟨(some 16), (some (14, false)), .p (.len 0 (.tmp 15))⟩, ⟨(some 17), (some (14, false)), .p (.bin .gtr (.tmp 16) (.const (.int .i64 100)))⟩, ⟨(some 18), none, .p (.pick (.tmp 14) (.const (.bool true)) (.tmp 17))⟩])
  (.cond (.tmp 18) (.seq (.reg [⟨(some 19), none, .e (.call 4 [])⟩, ⟨(some 4), none, .p (.mov (.tmp 19))⟩])
  .ret) .skip))
  (.seq (.reg [⟨(some 20), none, .p (.ld (some 2) (.tmp 2))⟩, ⟨(some 21), none, .e (.call 5 [(.tmp 20)])⟩, ⟨(some 5), none, .p (.mov (.tmp 21))⟩])
  (.seq (.seq (.reg [⟨(some 22), none, .p (.ld (some 2) (.tmp 2))⟩, ⟨(some 23), none, .e (.call 6 [(.tmp 22)])⟩, ⟨(some 24), none, .p (.un .not (.tmp 23))⟩])
  (.cond (.tmp 24) (.seq (.reg [⟨(some 25), none, .p (.mov (.tmp 5))⟩, ⟨(some 26), none, .p (.bin .neq (.tmp 25) (.const (.string ⟨#[]⟩)))⟩])
  (.cond (.tmp 26) (.seq (.reg [⟨(some 4), none, .p (.mov (.const (.bool false)))⟩])
  .ret) .skip)) (.seq (.reg [⟨(some 28), none, .p (.mov (.tmp 5))⟩, ⟨(some 29), none, .e (.call 7 [(.tmp 28)])⟩, ⟨(some 27), none, .p (.mov (.tmp 29))⟩, ⟨(some 30), none, .p (.ext (.tmp 27) 0)⟩, ⟨(some 31), none, .p (.ext (.tmp 27) 1)⟩, ⟨(some 6), none, .e (.alc [(.int .i64 0), (.int .i64 0)])⟩, ⟨none, none, .e (.st 2 (.tmp 6) (.tmp 30))⟩, ⟨(some 7), none, .p (.mov (.tmp 31))⟩])
  (.seq (.reg [⟨(some 32), none, .p (.mov (.tmp 5))⟩, ⟨(some 33), none, .p (.ld (some 2) (.tmp 2))⟩, ⟨(some 34), none, .e (.call 9 [(.tmp 33)])⟩, ⟨(some 35), none, .e (.call 8 [(.tmp 34)])⟩, ⟨(some 36), none, .p (.bin .neq (.tmp 32) (.tmp 35))⟩, ⟨(some 37), none, .p (.mov (.tmp 36))⟩, ⟨(some 38), (some (37, false)), .p (.mov (.tmp 7))⟩, ⟨(some 39), (some (37, false)), .p (.bin .neq (.tmp 38) (.const (.int .i64 0)))⟩, ⟨(some 40), none, .p (.pick (.tmp 37) (.const (.bool true)) (.tmp 39))⟩, ⟨(some 41), none, .p (.mov (.tmp 40))⟩, ⟨(some 42), (some (41, false)), .p (.ld (some 2) (.tmp 6))⟩, ⟨(some 43), (some (41, false)), .p (.ld (some 2) (.tmp 2))⟩, ⟨(some 44), (some (41, false)), .e (.call 10 [(.tmp 42), (.tmp 43)])⟩, ⟨(some 45), (some (41, false)), .p (.bin .neq (.tmp 44) (.const (.int .i64 0)))⟩, ⟨(some 46), none, .p (.pick (.tmp 41) (.const (.bool true)) (.tmp 45))⟩, ⟨(some 47), none, .p (.mov (.tmp 46))⟩, ⟨(some 48), (some (47, false)), .p (.fad 1 (.tmp 6))⟩, ⟨(some 49), (some (47, false)), .p (.ld none (.tmp 48))⟩, ⟨(some 50), (some (47, false)), .p (.bin .eql (.tmp 49) (.const (.int .i64 0)))⟩, ⟨(some 51), none, .p (.pick (.tmp 47) (.const (.bool true)) (.tmp 50))⟩])
  (.cond (.tmp 51) (.seq (.reg [⟨(some 4), none, .p (.mov (.const (.bool false)))⟩])
  .ret) .skip)))))
  (.seq (.reg [⟨(some 53), none, .p (.mov (.tmp 1))⟩, ⟨(some 54), none, .e (.call 7 [(.tmp 53)])⟩, ⟨(some 52), none, .p (.mov (.tmp 54))⟩, ⟨(some 55), none, .p (.ext (.tmp 52) 0)⟩, ⟨(some 56), none, .p (.ext (.tmp 52) 1)⟩, ⟨(some 8), none, .e (.alc [(.int .i64 0), (.int .i64 0)])⟩, ⟨none, none, .e (.st 2 (.tmp 8) (.tmp 55))⟩, ⟨(some 9), none, .p (.mov (.tmp 56))⟩])
  (.seq (.reg [⟨(some 58), none, .p (.mov (.tmp 1))⟩, ⟨(some 59), none, .e (.call 11 [(.tmp 58)])⟩, ⟨(some 57), none, .p (.mov (.tmp 59))⟩, ⟨(some 60), none, .p (.ext (.tmp 57) 0)⟩, ⟨(some 61), none, .p (.ext (.tmp 57) 1)⟩, ⟨(some 10), none, .e (.alc [(.int .i64 0), (.int .i64 0)])⟩, ⟨none, none, .e (.st 2 (.tmp 10) (.tmp 60))⟩, ⟨(some 11), none, .p (.mov (.tmp 61))⟩])
  (.seq (.seq (.reg [⟨(some 62), none, .p (.mov (.tmp 11))⟩, ⟨(some 63), none, .p (.un .not (.tmp 62))⟩])
  (.cond (.tmp 63) (.seq (.reg [⟨(some 64), none, .p (.mov (.tmp 9))⟩, ⟨(some 65), none, .p (.bin .eql (.tmp 64) (.const (.int .i64 3)))⟩, ⟨(some 66), none, .p (.mov (.tmp 65))⟩, ⟨(some 67), (some (66, true)), .p (.ld (some 2) (.tmp 8))⟩, ⟨(some 68), (some (66, true)), .p (.bld [(.int .i64 0), (.int .i64 0)] [])⟩, ⟨(some 69), (some (66, true)), .p (.eqa false [(.i .i64), (.i .i64)] (.tmp 67) (.tmp 68))⟩, ⟨(some 70), none, .p (.pick (.tmp 66) (.tmp 69) (.const (.bool false)))⟩, ⟨(some 4), none, .p (.mov (.tmp 70))⟩])
  .ret) .skip))
  (.seq (.dreg [⟨(some 71), none, .p (.mov (.tmp 9))⟩, ⟨(some 72), none, .p (.bin .eql (.tmp 71) (.const (.int .i64 0)))⟩, ⟨(some 73), none, .p (.mov (.tmp 72))⟩, ⟨(some 74), (some (73, true)), .p (.ld (some 2) (.tmp 8))⟩, ⟨(some 75), (some (73, true)), .e (.call 9 [(.tmp 74)])⟩, ⟨(some 76), (some (73, true)), .p (.ld (some 2) (.tmp 10))⟩, ⟨(some 77), (some (73, true)), .p (.eqa false [(.i .i64), (.i .i64)] (.tmp 75) (.tmp 76))⟩, ⟨(some 78), none, .p (.pick (.tmp 73) (.tmp 77) (.const (.bool false)))⟩] [[⟨(some 4), none, .p (.mov (.tmp 78))⟩]])
  .ret))))))))
def rf3 : List RX := [.tmp 4]
set_option maxRecDepth 100000 in
theorem comp3 : cFn Tryd.prog Tryd.f3 = some (erase cf3, rf3) := by kernel_rfl
def cf4 : LC :=
  (.seq (.reg [⟨(some 0), none, .p (.mov (.const (.bool false)))⟩])
  (.seq (.reg [⟨(some 6), none, .p (.bld [(.int .i64 0), (.int .i64 0)] [(0, 1, (.const (.int .i64 3))), (1, 1, (.const (.int .i64 4)))])⟩, ⟨(some 7), none, .p (.bld [(.int .i64 0), (.int .i64 0)] [(0, 1, (.const (.int .i64 5))), (1, 1, (.const (.int .i64 6)))])⟩, ⟨(some 8), none, .e (.call 12 [(.tmp 6), (.tmp 7)])⟩, ⟨(some 5), none, .p (.mov (.tmp 8))⟩, ⟨(some 9), none, .p (.ext (.tmp 5) 0)⟩, ⟨(some 10), none, .p (.ext (.tmp 5) 1)⟩, ⟨(some 1), none, .e (.alc [(.int .i64 0), (.int .i64 0)])⟩, ⟨none, none, .e (.st 2 (.tmp 1) (.tmp 9))⟩, ⟨(some 2), none, .p (.mov (.tmp 10))⟩])
  (.seq (.reg [⟨(some 12), none, .p (.bld [(.int .i64 0), (.int .i64 0)] [(0, 1, (.const (.int .i64 3))), (1, 1, (.const (.int .i64 4)))])⟩, ⟨(some 13), none, .p (.bld [(.int .i64 0), (.int .i64 0)] [(0, 1, (.const (.int .i64 (-3)))), (1, 1, (.const (.int .i64 2)))])⟩, ⟨(some 14), none, .e (.call 13 [(.tmp 12), (.tmp 13)])⟩, ⟨(some 11), none, .p (.mov (.tmp 14))⟩, ⟨(some 15), none, .p (.ext (.tmp 11) 0)⟩, ⟨(some 16), none, .p (.ext (.tmp 11) 1)⟩, ⟨(some 3), none, .e (.alc [(.int .i64 0), (.int .i64 0)])⟩, ⟨none, none, .e (.st 2 (.tmp 3) (.tmp 15))⟩, ⟨(some 4), none, .p (.mov (.tmp 16))⟩])
  (.seq (.reg [⟨(some 17), none, .p (.mov (.tmp 2))⟩, ⟨(some 18), none, .p (.bin .eql (.tmp 17) (.const (.int .i64 0)))⟩, ⟨(some 19), none, .p (.mov (.tmp 18))⟩, ⟨(some 20), (some (19, true)), .p (.ld (some 2) (.tmp 1))⟩, ⟨(some 21), (some (19, true)), .p (.bld [(.int .i64 0), (.int .i64 0)] [(0, 1, (.const (.int .i64 19))), (1, 1, (.const (.int .i64 12)))])⟩, ⟨(some 22), (some (19, true)), .p (.eqa false [(.i .i64), (.i .i64)] (.tmp 20) (.tmp 21))⟩, ⟨(some 23), none, .p (.pick (.tmp 19) (.tmp 22) (.const (.bool false)))⟩, ⟨(some 24), none, .p (.mov (.tmp 23))⟩, ⟨(some 25), (some (24, true)), .p (.mov (.tmp 4))⟩, ⟨(some 26), (some (24, true)), .p (.bin .eql (.tmp 25) (.const (.int .i64 0)))⟩, ⟨(some 27), none, .p (.pick (.tmp 24) (.tmp 26) (.const (.bool false)))⟩, ⟨(some 28), none, .p (.mov (.tmp 27))⟩, ⟨(some 29), (some (28, true)), .p (.ld (some 2) (.tmp 3))⟩, ⟨(some 30), (some (28, true)), .p (.bld [(.int .i64 0), (.int .i64 0)] [(0, 1, (.const (.int .i64 (-1)))), (1, 1, (.const (.int .i64 2)))])⟩, ⟨(some 31), (some (28, true)), .p (.eqa false [(.i .i64), (.i .i64)] (.tmp 29) (.tmp 30))⟩, ⟨(some 32), none, .p (.pick (.tmp 28) (.tmp 31) (.const (.bool false)))⟩, ⟨(some 33), none, .p (.mov (.tmp 32))⟩, ⟨(some 34), (some (33, true)), .p (.bld [(.int .i64 0), (.int .i64 0)] [(0, 1, (.const (.int .i64 (-7)))), (1, 1, (.const (.int .i64 2)))])⟩, ⟨(some 35), (some (33, true)), .e (.call 14 [(.tmp 34)])⟩, ⟨(some 36), (some (33, true)), .p (.bin .eql (.tmp 35) (.const (.int .i64 (-4))))⟩, ⟨(some 37), none, .p (.pick (.tmp 33) (.tmp 36) (.const (.bool false)))⟩, ⟨(some 0), none, .p (.mov (.tmp 37))⟩])
  .ret))))
def rf4 : List RX := [.tmp 0]
set_option maxRecDepth 100000 in
theorem comp4 : cFn Tryd.prog Tryd.f4 = some (erase cf4, rf4) := by kernel_rfl
def cf9 : LC :=
  (.seq (.reg [⟨(some 1), none, .e (.box (.tmp 0))⟩, ⟨(some 2), none, .e (.alc [(.int .i64 0), (.int .i64 0)])⟩])
  (.seq (.reg [⟨(some 3), none, .p (.ld (some 2) (.tmp 1))⟩, ⟨none, none, .e (.st 2 (.tmp 2) (.tmp 3))⟩])
  .ret))
def rf9 : List RX := [.cell 2 (some 2)]
set_option maxRecDepth 100000 in
theorem comp9 : cFn Tryd.prog Tryd.f9 = some (erase cf9, rf9) := by kernel_rfl
end Go.Proofs.YtfhifkcbdpgomaaDoor
namespace Go.Proofs.YtfhifkcbdpgomaaDoor
def cf8 : LC :=
  (.seq (.reg [⟨(some 1), none, .e (.box (.tmp 0))⟩, ⟨(some 2), none, .p (.mov (.const (.string ⟨#[]⟩)))⟩])
  (.seq (.reg [⟨(some 3), none, .p (.ld (some 2) (.tmp 1))⟩, ⟨(some 4), none, .e (.call 20 [(.tmp 3)])⟩, ⟨none, none, .e (.st 2 (.tmp 1) (.tmp 4))⟩])
  (.seq (.seq (.reg [⟨(some 5), none, .p (.fad 1 (.tmp 1))⟩, ⟨(some 6), none, .p (.ld none (.tmp 5))⟩, ⟨(some 7), none, .p (.bin .eql (.tmp 6) (.const (.int .i64 1)))⟩])
  (.cond (.tmp 7) (.seq (.reg [⟨(some 8), none, .p (.fad 0 (.tmp 1))⟩, ⟨(some 9), none, .p (.ld none (.tmp 8))⟩, ⟨(some 10), none, .e (.call 21 [(.tmp 9)])⟩, ⟨(some 2), none, .p (.mov (.tmp 10))⟩])
  .ret) .skip))
  (.seq (.dreg [⟨(some 11), none, .p (.fad 0 (.tmp 1))⟩, ⟨(some 12), none, .p (.ld none (.tmp 11))⟩, ⟨(some 13), none, .e (.call 21 [(.tmp 12)])⟩, ⟨(some 14), none, .p (.bin .add (.tmp 13) (.const (.string ⟨#[47]⟩)))⟩, ⟨(some 15), none, .p (.fad 1 (.tmp 1))⟩, ⟨(some 16), none, .p (.ld none (.tmp 15))⟩, ⟨(some 17), none, .e (.call 21 [(.tmp 16)])⟩, ⟨(some 18), none, .p (.bin .add (.tmp 14) (.tmp 17))⟩] [[⟨(some 2), none, .p (.mov (.tmp 18))⟩]])
  .ret))))
def rf8 : List RX := [.tmp 2]
set_option maxRecDepth 100000 in
theorem comp8 : cFn Tryd.prog Tryd.f8 = some (erase cf8, rf8) := by kernel_rfl
def lb11_0 : LC :=
  (.seq (.seq (.reg [⟨(some 17), none, .p (.mov (.tmp 5))⟩, ⟨(some 18), none, .p (.mov (.tmp 0))⟩, ⟨(some 19), none, .p (.len 0 (.tmp 18))⟩, ⟨(some 20), none, .p (.bin .lss (.tmp 17) (.tmp 19))⟩])
  (.cond (.tmp 20) .skip (.exit 0)))
  (.seq (.block 1
  (.seq (.seq (.reg [⟨(some 23), none, .p (.mov (.tmp 0))⟩, ⟨(some 24), none, .p (.mov (.tmp 5))⟩, ⟨(some 25), none, .p (.idxs (.tmp 23) (.tmp 24))⟩, ⟨(some 26), none, .p (.bin .eql (.tmp 25) (.const (.int .u8 47)))⟩, ⟨(some 27), none, .p (.mov (.tmp 26))⟩, ⟨(some 28), (some (27, true)), .p (.mov (.tmp 7))⟩, ⟨(some 29), (some (27, true)), .p (.bin .eql (.tmp 28) (.const (.int .i64 0)))⟩, ⟨(some 30), none, .p (.pick (.tmp 27) (.tmp 29) (.const (.bool false)))⟩])
  (.cond (.tmp 30) (.seq (.reg [⟨(some 7), none, .p (.mov (.const (.int .i64 1)))⟩])
  (.exit 1)) .skip))
  (.seq (.seq (.reg [⟨(some 31), none, .p (.mov (.tmp 0))⟩, ⟨(some 32), none, .p (.mov (.tmp 5))⟩, ⟨(some 33), none, .p (.idxs (.tmp 31) (.tmp 32))⟩, ⟨(some 34), none, .p (.bin .lss (.tmp 33) (.const (.int .u8 48)))⟩, ⟨(some 35), none, .p (.mov (.tmp 34))⟩, ⟨(some 36), (some (35, false)), .p (.mov (.tmp 0))⟩, ⟨(some 37), (some (35, false)), .p (.mov (.tmp 5))⟩, ⟨(some 38), (some (35, false)), .p (.idxs (.tmp 36) (.tmp 37))⟩, ⟨(some 39), (some (35, false)), .p (.bin .gtr (.tmp 38) (.const (.int .u8 57)))⟩, ⟨(some 40), none, .p (.pick (.tmp 35) (.const (.bool true)) (.tmp 39))⟩, ⟨(some 41), none, .p (.mov (.tmp 40))⟩, ⟨(some 42), (some (41, false)), .p (.mov (.tmp 7))⟩, ⟨(some 43), (some (41, false)), .p (.iada 2 1 (.tmp 6) (.tmp 42))⟩, ⟨(some 44), (some (41, false)), .p (.ld none (.tmp 43))⟩, ⟨(some 45), (some (41, false)), .p (.bin .gtr (.tmp 44) (.const (.int .i64 144115188075855872)))⟩, ⟨(some 46), none, .p (.pick (.tmp 41) (.const (.bool true)) (.tmp 45))⟩])
  (.cond (.tmp 46) (.seq (.reg [⟨(some 47), none, .p (.bld [(.int .i64 0), (.int .i64 0)] [])⟩, ⟨none, none, .e (.st 2 (.tmp 2) (.tmp 47))⟩, ⟨(some 3), none, .p (.mov (.const (.bool false)))⟩])
  .ret) .skip))
  (.dreg [⟨(some 48), none, .p (.mov (.tmp 7))⟩, ⟨(some 49), none, .p (.mov (.tmp 7))⟩, ⟨(some 50), none, .p (.iada 2 1 (.tmp 6) (.tmp 49))⟩, ⟨(some 51), none, .p (.ld none (.tmp 50))⟩, ⟨(some 52), none, .p (.bin .mul (.const (.int .i64 10)) (.tmp 51))⟩, ⟨(some 53), none, .p (.mov (.tmp 0))⟩, ⟨(some 54), none, .p (.mov (.tmp 5))⟩, ⟨(some 55), none, .p (.idxs (.tmp 53) (.tmp 54))⟩, ⟨(some 56), none, .p (.bin .sub (.tmp 55) (.const (.int .u8 48)))⟩, ⟨(some 57), none, .p (.cvt .i64 (.tmp 56))⟩, ⟨(some 58), none, .p (.bin .add (.tmp 52) (.tmp 57))⟩, ⟨(some 59), none, .p (.iada 2 1 (.tmp 6) (.tmp 48))⟩] [[⟨none, none, .e (.st 1 (.tmp 59) (.tmp 58))⟩]]))))
  (.reg [⟨(some 21), none, .p (.mov (.tmp 5))⟩, ⟨(some 22), none, .p (.bin .add (.tmp 21) (.const (.int .i64 1)))⟩, ⟨(some 5), none, .p (.mov (.tmp 22))⟩])))
def cf11 : LC :=
  (.seq (.reg [⟨(some 2), none, .e (.alc [(.int .i64 0), (.int .i64 0)])⟩, ⟨(some 3), none, .p (.mov (.const (.bool false)))⟩])
  (.seq (.reg [⟨(some 4), none, .p (.mov (.const (.int .i64 1)))⟩, ⟨(some 5), none, .p (.mov (.const (.int .i64 0)))⟩])
  (.seq (.seq (.reg [⟨(some 9), none, .p (.mov (.tmp 0))⟩, ⟨(some 10), none, .p (.len 0 (.tmp 9))⟩, ⟨(some 11), none, .p (.bin .gtr (.tmp 10) (.const (.int .i64 0)))⟩, ⟨(some 12), none, .p (.mov (.tmp 11))⟩, ⟨(some 13), (some (12, true)), .p (.mov (.tmp 0))⟩, ⟨(some 14), (some (12, true)), .p (.idxs (.tmp 13) (.const (.int .i64 0)))⟩, ⟨(some 15), (some (12, true)), .p (.bin .eql (.tmp 14) (.const (.int .u8 45)))⟩, ⟨(some 16), none, .p (.pick (.tmp 12) (.tmp 15) (.const (.bool false)))⟩])
  (.cond (.tmp 16) (.reg [⟨(some 4), none, .p (.mov (.const (.int .i64 (-1))))⟩, ⟨(some 5), none, .p (.mov (.const (.int .i64 1)))⟩]) .skip))
  (.seq (.reg [⟨(some 6), none, .e (.alc [(.int .i64 0), (.int .i64 0)])⟩])
  (.seq (.reg [⟨(some 7), none, .p (.mov (.const (.int .i64 0)))⟩])
  (.seq (.block 0
  (.loop lb11_0))
  (.seq (.seq (.reg [⟨(some 60), none, .p (.mov (.tmp 7))⟩, ⟨(some 61), none, .p (.bin .eql (.tmp 60) (.const (.int .i64 0)))⟩])
  (.cond (.tmp 61) (.reg [⟨(some 62), none, .p (.iada 2 1 (.tmp 6) (.const (.int .i64 1)))⟩, ⟨none, none, .e (.st 1 (.tmp 62) (.const (.int .i64 1)))⟩]) .skip))
  (.seq (.reg [⟨(some 63), none, .p (.mov (.tmp 4))⟩, ⟨(some 64), none, .p (.iada 2 1 (.tmp 6) (.const (.int .i64 0)))⟩, ⟨(some 65), none, .p (.ld none (.tmp 64))⟩, ⟨(some 66), none, .p (.bin .mul (.tmp 63) (.tmp 65))⟩, ⟨(some 67), none, .p (.iada 2 1 (.tmp 6) (.const (.int .i64 1)))⟩, ⟨(some 68), none, .p (.ld none (.tmp 67))⟩, ⟨(some 69), none, .p (.bld [(.int .i64 0), (.int .i64 0)] [(0, 1, (.tmp 66)), (1, 1, (.tmp 68))])⟩, ⟨(some 8), none, .e (.alc [(.int .i64 0), (.int .i64 0)])⟩, ⟨none, none, .e (.st 2 (.tmp 8) (.tmp 69))⟩])
  (.seq (.seq (.reg [⟨(some 70), none, .p (.fad 1 (.tmp 8))⟩, ⟨(some 71), none, .p (.ld none (.tmp 70))⟩, ⟨(some 72), none, .p (.bin .eql (.tmp 71) (.const (.int .i64 0)))⟩, ⟨(some 73), none, .p (.mov (.tmp 72))⟩, ⟨(some 74), (some (73, false)), .p (.ld (some 2) (.tmp 8))⟩, ⟨(some 75), (some (73, false)), .e (.call 25 [(.tmp 74)])⟩, ⟨(some 76), (some (73, false)), .p (.un .not (.tmp 75))⟩, ⟨(some 77), none, .p (.pick (.tmp 73) (.const (.bool true)) (.tmp 76))⟩, ⟨(some 78), none, .p (.mov (.tmp 77))⟩, ⟨(some 79), (some (78, false)), .p (.ld (some 2) (.tmp 8))⟩, ⟨(some 80), (some (78, false)), .e (.call 8 [(.tmp 79)])⟩, ⟨(some 81), (some (78, false)), .p (.mov (.tmp 0))⟩, ⟨(some 82), (some (78, false)), .p (.bin .neq (.tmp 80) (.tmp 81))⟩, ⟨(some 83), none, .p (.pick (.tmp 78) (.const (.bool true)) (.tmp 82))⟩])
  (.cond (.tmp 83) (.seq (.reg [⟨(some 84), none, .p (.bld [(.int .i64 0), (.int .i64 0)] [])⟩, ⟨none, none, .e (.st 2 (.tmp 2) (.tmp 84))⟩, ⟨(some 3), none, .p (.mov (.const (.bool false)))⟩])
  .ret) .skip))
  (.seq (.reg [⟨(some 85), none, .p (.ld (some 2) (.tmp 8))⟩, ⟨none, none, .e (.st 2 (.tmp 2) (.tmp 85))⟩, ⟨(some 3), none, .p (.mov (.const (.bool true)))⟩])
  .ret))))))))))
def rf11 : List RX := [.cell 2 (some 2), .tmp 3]
set_option maxRecDepth 100000 in
theorem comp11 : cFn Tryd.prog Tryd.f11 = some (erase cf11, rf11) := by kernel_rfl
def cf20 : LC :=
  (.seq (.reg [⟨(some 1), none, .e (.box (.tmp 0))⟩, ⟨(some 2), none, .e (.alc [(.int .i64 0), (.int .i64 0)])⟩])
  (.seq (.seq (.reg [⟨(some 3), none, .p (.fad 1 (.tmp 1))⟩, ⟨(some 4), none, .p (.ld none (.tmp 3))⟩, ⟨(some 5), none, .p (.bin .eql (.tmp 4) (.const (.int .i64 0)))⟩])
  (.cond (.tmp 5) (.seq (.reg [⟨(some 6), none, .p (.bld [(.int .i64 0), (.int .i64 0)] [(0, 1, (.const (.int .i64 0))), (1, 1, (.const (.int .i64 1)))])⟩, ⟨none, none, .e (.st 2 (.tmp 2) (.tmp 6))⟩])
  .ret) .skip))
  (.seq (.reg [⟨(some 7), none, .p (.ld (some 2) (.tmp 1))⟩, ⟨none, none, .e (.st 2 (.tmp 2) (.tmp 7))⟩])
  .ret)))
def rf20 : List RX := [.cell 2 (some 2)]
set_option maxRecDepth 100000 in
theorem comp20 : cFn Tryd.prog Tryd.f20 = some (erase cf20, rf20) := by kernel_rfl
def cf21 : LC :=
  (.seq (.reg [⟨(some 2), none, .p (.mov (.const (.string ⟨#[]⟩)))⟩])
  (.seq (.seq (.reg [⟨(some 4), none, .p (.mov (.tmp 0))⟩, ⟨(some 5), none, .p (.bin .lss (.tmp 4) (.const (.int .i64 0)))⟩])
  (.cond (.tmp 5) (.seq (.reg [⟨(some 6), none, .p (.mov (.tmp 0))⟩, ⟨(some 7), none, .p (.ng0 (.tmp 6))⟩, ⟨(some 8), none, .e (.call 21 [(.tmp 7)])⟩, ⟨(some 9), none, .p (.bin .add (.const (.string ⟨#[45]⟩)) (.tmp 8))⟩, ⟨(some 2), none, .p (.mov (.tmp 9))⟩])
  .ret) .skip))
  (.seq (.reg [⟨(some 10), none, .p (.mov (.tmp 0))⟩, ⟨(some 11), none, .p (.bin .rem (.tmp 10) (.const (.int .i64 10)))⟩, ⟨(some 12), none, .p (.mov (.tmp 0))⟩, ⟨(some 13), none, .p (.bin .rem (.tmp 12) (.const (.int .i64 10)))⟩, ⟨(some 14), none, .p (.bin .add (.tmp 13) (.const (.int .i64 1)))⟩, ⟨(some 15), none, .p (.slcs (.const (.string ⟨#[48, 49, 50, 51, 52, 53, 54, 55, 56, 57]⟩)) (some (.tmp 11)) (some (.tmp 14)))⟩, ⟨(some 3), none, .p (.mov (.tmp 15))⟩])
  (.seq (.seq (.reg [⟨(some 16), none, .p (.mov (.tmp 0))⟩, ⟨(some 17), none, .p (.bin .lss (.tmp 16) (.const (.int .i64 10)))⟩])
  (.cond (.tmp 17) (.seq (.reg [⟨(some 18), none, .p (.mov (.tmp 3))⟩, ⟨(some 2), none, .p (.mov (.tmp 18))⟩])
  .ret) .skip))
  (.seq (.reg [⟨(some 19), none, .p (.mov (.tmp 0))⟩, ⟨(some 20), none, .p (.bin .quo (.tmp 19) (.const (.int .i64 10)))⟩, ⟨(some 21), none, .e (.call 21 [(.tmp 20)])⟩, ⟨(some 22), none, .p (.mov (.tmp 3))⟩, ⟨(some 23), none, .p (.bin .add (.tmp 21) (.tmp 22))⟩, ⟨(some 2), none, .p (.mov (.tmp 23))⟩])
  .ret)))))
def rf21 : List RX := [.tmp 2]
set_option maxRecDepth 100000 in
theorem comp21 : cFn Tryd.prog Tryd.f21 = some (erase cf21, rf21) := by kernel_rfl
def cf25 : LC :=
  (.seq (.reg [⟨(some 1), none, .e (.box (.tmp 0))⟩, ⟨(some 2), none, .p (.mov (.const (.bool false)))⟩])
  (.seq (.seq (.reg [⟨(some 3), none, .p (.fad 0 (.tmp 1))⟩, ⟨(some 4), none, .p (.ld none (.tmp 3))⟩, ⟨(some 5), none, .p (.bin .eql (.tmp 4) (.const (.int .i64 0)))⟩, ⟨(some 6), none, .p (.mov (.tmp 5))⟩, ⟨(some 7), (some (6, true)), .p (.fad 1 (.tmp 1))⟩, ⟨(some 8), (some (6, true)), .p (.ld none (.tmp 7))⟩, ⟨(some 9), (some (6, true)), .p (.bin .eql (.tmp 8) (.const (.int .i64 0)))⟩, ⟨(some 10), none, .p (.pick (.tmp 6) (.tmp 9) (.const (.bool false)))⟩])
  (.cond (.tmp 10) (.seq (.reg [⟨(some 2), none, .p (.mov (.const (.bool true)))⟩])
  .ret) .skip))
  (.seq (.dreg [⟨(some 11), none, .p (.fad 1 (.tmp 1))⟩, ⟨(some 12), none, .p (.ld none (.tmp 11))⟩, ⟨(some 13), none, .p (.bin .geq (.tmp 12) (.const (.int .i64 1)))⟩, ⟨(some 14), none, .p (.mov (.tmp 13))⟩, ⟨(some 15), (some (14, true)), .p (.fad 1 (.tmp 1))⟩, ⟨(some 16), (some (14, true)), .p (.ld none (.tmp 15))⟩, ⟨(some 17), (some (14, true)), .p (.bin .leq (.tmp 16) (.const (.int .i64 1152921504606846976)))⟩, ⟨(some 18), none, .p (.pick (.tmp 14) (.tmp 17) (.const (.bool false)))⟩, ⟨(some 19), none, .p (.mov (.tmp 18))⟩, ⟨(some 20), (some (19, true)), .p (.fad 0 (.tmp 1))⟩, ⟨(some 21), (some (19, true)), .p (.ld none (.tmp 20))⟩, ⟨(some 22), (some (19, true)), .p (.bin .geq (.tmp 21) (.const (.int .i64 (-1152921504606846976))))⟩, ⟨(some 23), none, .p (.pick (.tmp 19) (.tmp 22) (.const (.bool false)))⟩, ⟨(some 24), none, .p (.mov (.tmp 23))⟩, ⟨(some 25), (some (24, true)), .p (.fad 0 (.tmp 1))⟩, ⟨(some 26), (some (24, true)), .p (.ld none (.tmp 25))⟩, ⟨(some 27), (some (24, true)), .p (.bin .leq (.tmp 26) (.const (.int .i64 1152921504606846976)))⟩, ⟨(some 28), none, .p (.pick (.tmp 24) (.tmp 27) (.const (.bool false)))⟩, ⟨(some 29), none, .p (.mov (.tmp 28))⟩, ⟨(some 30), (some (29, true)), .p (.fad 0 (.tmp 1))⟩, ⟨(some 31), (some (29, true)), .p (.ld none (.tmp 30))⟩, ⟨(some 32), (some (29, true)), .e (.call 36 [(.tmp 31)])⟩, ⟨(some 33), (some (29, true)), .p (.fad 1 (.tmp 1))⟩, ⟨(some 34), (some (29, true)), .p (.ld none (.tmp 33))⟩, ⟨(some 35), (some (29, true)), .e (.call 35 [(.tmp 32), (.tmp 34)])⟩, ⟨(some 36), (some (29, true)), .p (.bin .eql (.tmp 35) (.const (.int .i64 1)))⟩, ⟨(some 37), none, .p (.pick (.tmp 29) (.tmp 36) (.const (.bool false)))⟩] [[⟨(some 2), none, .p (.mov (.tmp 37))⟩]])
  .ret)))
def rf25 : List RX := [.tmp 2]
set_option maxRecDepth 100000 in
theorem comp25 : cFn Tryd.prog Tryd.f25 = some (erase cf25, rf25) := by kernel_rfl
def lb35_0 : LC :=
  (.seq (.seq (.reg [⟨(some 5), none, .p (.mov (.tmp 1))⟩, ⟨(some 6), none, .p (.bin .neq (.tmp 5) (.const (.int .i64 0)))⟩])
  (.cond (.tmp 6) .skip (.exit 0)))
  (.block 1
  (.dreg [⟨(some 7), none, .p (.mov (.tmp 1))⟩, ⟨(some 8), none, .p (.mov (.tmp 0))⟩, ⟨(some 9), none, .p (.mov (.tmp 1))⟩, ⟨(some 10), none, .p (.bin .rem (.tmp 8) (.tmp 9))⟩, ⟨(some 0), none, .p (.mov (.tmp 7))⟩] [[⟨(some 1), none, .p (.mov (.tmp 10))⟩]])))
def cf35 : LC :=
  (.seq (.reg [⟨(some 4), none, .p (.mov (.const (.int .i64 0)))⟩])
  (.seq (.block 0
  (.loop lb35_0))
  (.seq (.reg [⟨(some 11), none, .p (.mov (.tmp 0))⟩, ⟨(some 4), none, .p (.mov (.tmp 11))⟩])
  .ret)))
def rf35 : List RX := [.tmp 4]
set_option maxRecDepth 100000 in
theorem comp35 : cFn Tryd.prog Tryd.f35 = some (erase cf35, rf35) := by kernel_rfl
def cf36 : LC :=
  (.seq (.reg [⟨(some 2), none, .p (.mov (.const (.int .i64 0)))⟩])
  (.seq (.seq (.reg [⟨(some 3), none, .p (.mov (.tmp 0))⟩, ⟨(some 4), none, .p (.bin .lss (.tmp 3) (.const (.int .i64 0)))⟩])
  (.cond (.tmp 4) (.seq (.reg [⟨(some 5), none, .p (.mov (.tmp 0))⟩, ⟨(some 6), none, .p (.ng0 (.tmp 5))⟩, ⟨(some 2), none, .p (.mov (.tmp 6))⟩])
  .ret) .skip))
  (.seq (.reg [⟨(some 7), none, .p (.mov (.tmp 0))⟩, ⟨(some 2), none, .p (.mov (.tmp 7))⟩])
  .ret)))
def rf36 : List RX := [.tmp 2]
set_option maxRecDepth 100000 in
theorem comp36 : cFn Tryd.prog Tryd.f36 = some (erase cf36, rf36) := by kernel_rfl
end Go.Proofs.YtfhifkcbdpgomaaDoor
namespace Go.Proofs.YtfhifkcbdpgomaaDoor
def cf5 : LC :=
  (.seq (.reg [⟨(some 1), none, .e (.box (.tmp 0))⟩, ⟨(some 2), none, .p (.mov (.const (.string ⟨#[]⟩)))⟩])
  (.seq (.seq (.reg [⟨(some 4), none, .p (.ld (some 2) (.tmp 1))⟩, ⟨(some 5), none, .e (.call 6 [(.tmp 4)])⟩, ⟨(some 6), none, .p (.un .not (.tmp 5))⟩])
  (.cond (.tmp 6) (.seq (.reg [⟨(some 2), none, .p (.mov (.const (.string ⟨#[]⟩)))⟩])
  .ret) .skip))
  (.seq (.reg [⟨(some 7), none, .p (.fad 0 (.tmp 1))⟩, ⟨(some 8), none, .p (.ld none (.tmp 7))⟩, ⟨(some 9), none, .e (.call 15 [(.tmp 8)])⟩, ⟨(some 3), none, .p (.mov (.tmp 9))⟩])
  (.seq (.seq (.reg [⟨(some 10), none, .p (.fad 1 (.tmp 1))⟩, ⟨(some 11), none, .p (.ld none (.tmp 10))⟩, ⟨(some 12), none, .p (.bin .gtr (.tmp 11) (.const (.int .i64 1)))⟩])
  (.cond (.tmp 12) (.reg [⟨(some 13), none, .p (.mov (.tmp 3))⟩, ⟨(some 14), none, .p (.fad 1 (.tmp 1))⟩, ⟨(some 15), none, .p (.ld none (.tmp 14))⟩, ⟨(some 16), none, .e (.call 15 [(.tmp 15)])⟩, ⟨(some 17), none, .p (.bin .add (.const (.string ⟨#[47]⟩)) (.tmp 16))⟩, ⟨(some 18), none, .p (.bin .add (.tmp 13) (.tmp 17))⟩, ⟨(some 3), none, .p (.mov (.tmp 18))⟩]) .skip))
  (.seq (.reg [⟨(some 19), none, .p (.mov (.tmp 3))⟩, ⟨(some 2), none, .p (.mov (.tmp 19))⟩])
  .ret)))))
def rf5 : List RX := [.tmp 2]
set_option maxRecDepth 100000 in
theorem comp5 : cFn Tryd.prog Tryd.f5 = some (erase cf5, rf5) := by kernel_rfl
def cf6 : LC :=
  (.seq (.reg [⟨(some 1), none, .e (.box (.tmp 0))⟩, ⟨(some 2), none, .p (.mov (.const (.bool false)))⟩])
  (.seq (.seq (.reg [⟨(some 3), none, .p (.fad 0 (.tmp 1))⟩, ⟨(some 4), none, .p (.ld none (.tmp 3))⟩, ⟨(some 5), none, .p (.bin .eql (.tmp 4) (.const (.int .i64 0)))⟩, ⟨(some 6), none, .p (.mov (.tmp 5))⟩, ⟨(some 7), (some (6, true)), .p (.fad 1 (.tmp 1))⟩, ⟨(some 8), (some (6, true)), .p (.ld none (.tmp 7))⟩, ⟨(some 9), (some (6, true)), .p (.bin .eql (.tmp 8) (.const (.int .i64 0)))⟩, ⟨(some 10), none, .p (.pick (.tmp 6) (.tmp 9) (.const (.bool false)))⟩])
  (.cond (.tmp 10) (.seq (.reg [⟨(some 2), none, .p (.mov (.const (.bool true)))⟩])
  .ret) .skip))
  (.seq (.dreg [⟨(some 11), none, .p (.fad 1 (.tmp 1))⟩, ⟨(some 12), none, .p (.ld none (.tmp 11))⟩, ⟨(some 13), none, .p (.bin .geq (.tmp 12) (.const (.int .i64 1)))⟩, ⟨(some 14), none, .p (.mov (.tmp 13))⟩, ⟨(some 15), (some (14, true)), .p (.fad 1 (.tmp 1))⟩, ⟨(some 16), (some (14, true)), .p (.ld none (.tmp 15))⟩, ⟨(some 17), (some (14, true)), .p (.bin .leq (.tmp 16) (.const (.int .i64 1152921504606846976)))⟩, ⟨(some 18), none, .p (.pick (.tmp 14) (.tmp 17) (.const (.bool false)))⟩, ⟨(some 19), none, .p (.mov (.tmp 18))⟩, ⟨(some 20), (some (19, true)), .p (.fad 0 (.tmp 1))⟩, ⟨(some 21), (some (19, true)), .p (.ld none (.tmp 20))⟩, ⟨(some 22), (some (19, true)), .p (.bin .geq (.tmp 21) (.const (.int .i64 (-1152921504606846976))))⟩, ⟨(some 23), none, .p (.pick (.tmp 19) (.tmp 22) (.const (.bool false)))⟩, ⟨(some 24), none, .p (.mov (.tmp 23))⟩, ⟨(some 25), (some (24, true)), .p (.fad 0 (.tmp 1))⟩, ⟨(some 26), (some (24, true)), .p (.ld none (.tmp 25))⟩, ⟨(some 27), (some (24, true)), .p (.bin .leq (.tmp 26) (.const (.int .i64 1152921504606846976)))⟩, ⟨(some 28), none, .p (.pick (.tmp 24) (.tmp 27) (.const (.bool false)))⟩, ⟨(some 29), none, .p (.mov (.tmp 28))⟩, ⟨(some 30), (some (29, true)), .p (.fad 0 (.tmp 1))⟩, ⟨(some 31), (some (29, true)), .p (.ld none (.tmp 30))⟩, ⟨(some 32), (some (29, true)), .e (.call 17 [(.tmp 31)])⟩, ⟨(some 33), (some (29, true)), .p (.fad 1 (.tmp 1))⟩, ⟨(some 34), (some (29, true)), .p (.ld none (.tmp 33))⟩, ⟨(some 35), (some (29, true)), .e (.call 17 [(.tmp 34)])⟩, ⟨(some 36), (some (29, true)), .e (.call 16 [(.tmp 32), (.tmp 35)])⟩, ⟨(some 37), (some (29, true)), .p (.bin .eql (.tmp 36) (.const (.int .u64 1)))⟩, ⟨(some 38), none, .p (.pick (.tmp 29) (.tmp 37) (.const (.bool false)))⟩] [[⟨(some 2), none, .p (.mov (.tmp 38))⟩]])
  .ret)))
def rf6 : List RX := [.tmp 2]
set_option maxRecDepth 100000 in
theorem comp6 : cFn Tryd.prog Tryd.f6 = some (erase cf6, rf6) := by kernel_rfl
def cf7 : LC :=
  (.seq (.reg [⟨(some 2), none, .e (.alc [(.int .i64 0), (.int .i64 0)])⟩, ⟨(some 3), none, .p (.mov (.const (.int .i64 0)))⟩])
  (.seq (.reg [⟨(some 12), none, .p (.bld [(.int .i64 0), (.int .i64 0)] [(0, 1, (.const (.int .i64 0))), (1, 1, (.const (.int .i64 1)))])⟩, ⟨(some 4), none, .e (.alc [(.int .i64 0), (.int .i64 0)])⟩, ⟨none, none, .e (.st 2 (.tmp 4) (.tmp 12))⟩])
  (.seq (.reg [⟨(some 14), none, .p (.mov (.tmp 0))⟩, ⟨(some 15), none, .e (.call 18 [(.tmp 14), (.const (.string ⟨#[47]⟩))])⟩, ⟨(some 13), none, .p (.mov (.tmp 15))⟩, ⟨(some 16), none, .p (.ext (.tmp 13) 0)⟩, ⟨(some 17), none, .p (.ext (.tmp 13) 1)⟩, ⟨(some 18), none, .p (.ext (.tmp 13) 2)⟩, ⟨(some 5), none, .p (.mov (.tmp 16))⟩, ⟨(some 6), none, .p (.mov (.tmp 17))⟩, ⟨(some 7), none, .p (.mov (.tmp 18))⟩])
  (.seq (.reg [⟨(some 20), none, .p (.mov (.tmp 5))⟩, ⟨(some 21), none, .e (.call 19 [(.tmp 20)])⟩, ⟨(some 19), none, .p (.mov (.tmp 21))⟩, ⟨(some 22), none, .p (.ext (.tmp 19) 0)⟩, ⟨(some 23), none, .p (.ext (.tmp 19) 1)⟩, ⟨(some 8), none, .p (.mov (.tmp 22))⟩, ⟨(some 9), none, .p (.mov (.tmp 23))⟩])
  (.seq (.seq (.reg [⟨(some 24), none, .p (.mov (.tmp 9))⟩, ⟨(some 25), none, .p (.nili true (.tmp 24))⟩])
  (.cond (.tmp 25) (.seq (.reg [⟨(some 26), none, .p (.bld [(.int .i64 0), (.int .i64 0)] [])⟩, ⟨none, none, .e (.st 2 (.tmp 2) (.tmp 26))⟩, ⟨(some 3), none, .p (.mov (.const (.int .i64 3)))⟩])
  .ret) .skip))
  (.seq (.reg [⟨(some 27), none, .p (.mov (.tmp 8))⟩, ⟨(some 28), none, .p (.fad 0 (.tmp 4))⟩, ⟨none, none, .e (.st 1 (.tmp 28) (.tmp 27))⟩])
  (.seq (.seq (.reg [⟨(some 29), none, .p (.mov (.tmp 7))⟩])
  (.cond (.tmp 29) (.seq (.reg [⟨(some 31), none, .p (.mov (.tmp 6))⟩, ⟨(some 32), none, .e (.call 19 [(.tmp 31)])⟩, ⟨(some 30), none, .p (.mov (.tmp 32))⟩, ⟨(some 33), none, .p (.ext (.tmp 30) 0)⟩, ⟨(some 34), none, .p (.ext (.tmp 30) 1)⟩, ⟨(some 10), none, .p (.mov (.tmp 33))⟩, ⟨(some 11), none, .p (.mov (.tmp 34))⟩])
  (.seq (.seq (.reg [⟨(some 35), none, .p (.mov (.tmp 11))⟩, ⟨(some 36), none, .p (.nili true (.tmp 35))⟩])
  (.cond (.tmp 36) (.seq (.reg [⟨(some 37), none, .p (.bld [(.int .i64 0), (.int .i64 0)] [])⟩, ⟨none, none, .e (.st 2 (.tmp 2) (.tmp 37))⟩, ⟨(some 3), none, .p (.mov (.const (.int .i64 3)))⟩])
  .ret) .skip))
  (.reg [⟨(some 38), none, .p (.mov (.tmp 10))⟩, ⟨(some 39), none, .p (.fad 1 (.tmp 4))⟩, ⟨none, none, .e (.st 1 (.tmp 39) (.tmp 38))⟩]))) .skip))
  (.seq (.seq (.reg [⟨(some 40), none, .p (.ld (some 2) (.tmp 4))⟩, ⟨(some 41), none, .e (.call 6 [(.tmp 40)])⟩, ⟨(some 42), none, .p (.un .not (.tmp 41))⟩, ⟨(some 43), none, .p (.mov (.tmp 42))⟩, ⟨(some 44), (some (43, false)), .p (.ld (some 2) (.tmp 4))⟩, ⟨(some 45), (some (43, false)), .e (.call 5 [(.tmp 44)])⟩, ⟨(some 46), (some (43, false)), .p (.mov (.tmp 0))⟩, ⟨(some 47), (some (43, false)), .p (.bin .neq (.tmp 45) (.tmp 46))⟩, ⟨(some 48), none, .p (.pick (.tmp 43) (.const (.bool true)) (.tmp 47))⟩])
  (.cond (.tmp 48) (.seq (.reg [⟨(some 49), none, .p (.bld [(.int .i64 0), (.int .i64 0)] [])⟩, ⟨none, none, .e (.st 2 (.tmp 2) (.tmp 49))⟩, ⟨(some 3), none, .p (.mov (.const (.int .i64 3)))⟩])
  .ret) .skip))
  (.seq (.reg [⟨(some 50), none, .p (.ld (some 2) (.tmp 4))⟩, ⟨none, none, .e (.st 2 (.tmp 2) (.tmp 50))⟩, ⟨(some 3), none, .p (.mov (.const (.int .i64 0)))⟩])
  .ret)))))))))
def rf7 : List RX := [.cell 2 (some 2), .tmp 3]
set_option maxRecDepth 100000 in
theorem comp7 : cFn Tryd.prog Tryd.f7 = some (erase cf7, rf7) := by kernel_rfl
def cf10 : LC :=
  (.seq (.reg [⟨(some 2), none, .e (.box (.tmp 0))⟩, ⟨(some 3), none, .e (.box (.tmp 1))⟩, ⟨(some 4), none, .p (.mov (.const (.int .i64 0)))⟩])
  (.seq (.seq (.reg [⟨(some 7), none, .p (.ld (some 2) (.tmp 2))⟩, ⟨(some 8), none, .e (.call 6 [(.tmp 7)])⟩, ⟨(some 9), none, .p (.un .not (.tmp 8))⟩, ⟨(some 10), none, .p (.mov (.tmp 9))⟩, ⟨(some 11), (some (10, false)), .p (.ld (some 2) (.tmp 3))⟩, ⟨(some 12), (some (10, false)), .e (.call 6 [(.tmp 11)])⟩, ⟨(some 13), (some (10, false)), .p (.un .not (.tmp 12))⟩, ⟨(some 14), none, .p (.pick (.tmp 10) (.const (.bool true)) (.tmp 13))⟩])
  (.cond (.tmp 14) (.seq (.reg [⟨(some 4), none, .p (.mov (.const (.int .i64 0)))⟩])
  .ret) .skip))
  (.seq (.dreg [⟨(some 15), none, .p (.ld (some 2) (.tmp 2))⟩, ⟨(some 16), none, .e (.call 22 [(.tmp 15)])⟩, ⟨(some 17), none, .p (.ld (some 2) (.tmp 3))⟩, ⟨(some 18), none, .e (.call 22 [(.tmp 17)])⟩] [[⟨none, none, .e (.st 2 (.tmp 2) (.tmp 16))⟩, ⟨none, none, .e (.st 2 (.tmp 3) (.tmp 18))⟩]])
  (.seq (.dreg [⟨(some 19), none, .p (.fad 0 (.tmp 2))⟩, ⟨(some 20), none, .p (.ld none (.tmp 19))⟩, ⟨(some 21), none, .p (.fad 1 (.tmp 3))⟩, ⟨(some 22), none, .p (.ld none (.tmp 21))⟩, ⟨(some 23), none, .e (.ecl 17 [(.tmp 22)])⟩, ⟨(some 24), none, .e (.ecl 23 [(.tmp 20), (.tmp 23)])⟩, ⟨(some 25), none, .p (.fad 0 (.tmp 3))⟩, ⟨(some 26), none, .p (.ld none (.tmp 25))⟩, ⟨(some 27), none, .p (.fad 1 (.tmp 2))⟩, ⟨(some 28), none, .p (.ld none (.tmp 27))⟩, ⟨(some 29), none, .e (.ecl 17 [(.tmp 28)])⟩, ⟨(some 30), none, .e (.ecl 23 [(.tmp 26), (.tmp 29)])⟩] [[⟨(some 5), none, .e (.alc [(.bool false), (.int .u64 0), (.int .u64 0)])⟩, ⟨(some 6), none, .e (.alc [(.bool false), (.int .u64 0), (.int .u64 0)])⟩, ⟨none, none, .e (.st 3 (.tmp 5) (.tmp 24))⟩, ⟨none, none, .e (.st 3 (.tmp 6) (.tmp 30))⟩], [⟨(some 6), none, .e (.alc [(.bool false), (.int .u64 0), (.int .u64 0)])⟩, ⟨(some 5), none, .e (.alc [(.bool false), (.int .u64 0), (.int .u64 0)])⟩, ⟨none, none, .e (.st 3 (.tmp 5) (.tmp 24))⟩, ⟨none, none, .e (.st 3 (.tmp 6) (.tmp 30))⟩]])
  (.seq (.block 0
  (.seq (.reg [⟨(some 32), none, .p (.fad 0 (.tmp 5))⟩, ⟨(some 33), none, .p (.ld none (.tmp 32))⟩, ⟨(some 34), none, .p (.mov (.tmp 33))⟩, ⟨(some 35), (some (34, true)), .p (.fad 0 (.tmp 6))⟩, ⟨(some 36), (some (34, true)), .p (.ld none (.tmp 35))⟩, ⟨(some 37), none, .p (.pick (.tmp 34) (.tmp 36) (.const (.bool false)))⟩, ⟨(some 31), none, .p (.mov (.tmp 37))⟩])
  (.cond (.tmp 31) (.seq (.reg [⟨(some 38), none, .p (.ld (some 3) (.tmp 6))⟩, ⟨(some 39), none, .p (.ld (some 3) (.tmp 5))⟩, ⟨(some 40), none, .e (.call 24 [(.tmp 38), (.tmp 39)])⟩, ⟨(some 4), none, .p (.mov (.tmp 40))⟩])
  .ret) (.seq (.reg [⟨(some 42), none, .p (.fad 0 (.tmp 5))⟩, ⟨(some 43), none, .p (.ld none (.tmp 42))⟩, ⟨(some 41), none, .p (.mov (.tmp 43))⟩])
  (.cond (.tmp 41) (.seq (.reg [⟨(some 4), none, .p (.mov (.const (.int .i64 (-1))))⟩])
  .ret) (.seq (.reg [⟨(some 45), none, .p (.fad 0 (.tmp 6))⟩, ⟨(some 46), none, .p (.ld none (.tmp 45))⟩, ⟨(some 44), none, .p (.mov (.tmp 46))⟩])
  (.cond (.tmp 44) (.seq (.reg [⟨(some 4), none, .p (.mov (.const (.int .i64 1)))⟩])
  .ret) .skip)))))))
  (.seq (.reg [⟨(some 47), none, .p (.ld (some 3) (.tmp 5))⟩, ⟨(some 48), none, .p (.ld (some 3) (.tmp 6))⟩, ⟨(some 49), none, .e (.call 24 [(.tmp 47), (.tmp 48)])⟩, ⟨(some 4), none, .p (.mov (.tmp 49))⟩])
  .ret))))))
def rf10 : List RX := [.tmp 4]
set_option maxRecDepth 100000 in
theorem comp10 : cFn Tryd.prog Tryd.f10 = some (erase cf10, rf10) := by kernel_rfl
def cf12 : LC :=
  (.seq (.reg [⟨(some 2), none, .e (.box (.tmp 0))⟩, ⟨(some 3), none, .e (.box (.tmp 1))⟩, ⟨(some 4), none, .e (.alc [(.int .i64 0), (.int .i64 0)])⟩, ⟨(some 5), none, .p (.mov (.const (.int .i64 0)))⟩])
  (.seq (.seq (.reg [⟨(some 17), none, .p (.ld (some 2) (.tmp 2))⟩, ⟨(some 18), none, .e (.call 6 [(.tmp 17)])⟩, ⟨(some 19), none, .p (.un .not (.tmp 18))⟩, ⟨(some 20), none, .p (.mov (.tmp 19))⟩, ⟨(some 21), (some (20, false)), .p (.ld (some 2) (.tmp 3))⟩, ⟨(some 22), (some (20, false)), .e (.call 6 [(.tmp 21)])⟩, ⟨(some 23), (some (20, false)), .p (.un .not (.tmp 22))⟩, ⟨(some 24), none, .p (.pick (.tmp 20) (.const (.bool true)) (.tmp 23))⟩])
  (.cond (.tmp 24) (.seq (.reg [⟨(some 25), none, .p (.bld [(.int .i64 0), (.int .i64 0)] [])⟩, ⟨none, none, .e (.st 2 (.tmp 4) (.tmp 25))⟩, ⟨(some 5), none, .p (.mov (.const (.int .i64 1)))⟩])
  .ret) .skip))
  (.seq (.dreg [⟨(some 26), none, .p (.ld (some 2) (.tmp 2))⟩, ⟨(some 27), none, .e (.call 22 [(.tmp 26)])⟩, ⟨(some 28), none, .p (.ld (some 2) (.tmp 3))⟩, ⟨(some 29), none, .e (.call 22 [(.tmp 28)])⟩] [[⟨none, none, .e (.st 2 (.tmp 2) (.tmp 27))⟩, ⟨none, none, .e (.st 2 (.tmp 3) (.tmp 29))⟩]])
  (.seq (.dreg [⟨(some 30), none, .p (.fad 1 (.tmp 2))⟩, ⟨(some 31), none, .p (.ld none (.tmp 30))⟩, ⟨(some 32), none, .e (.call 17 [(.tmp 31)])⟩, ⟨(some 33), none, .p (.fad 1 (.tmp 3))⟩, ⟨(some 34), none, .p (.ld none (.tmp 33))⟩, ⟨(some 35), none, .e (.call 17 [(.tmp 34)])⟩, ⟨(some 36), none, .e (.call 16 [(.tmp 32), (.tmp 35)])⟩] [[⟨(some 6), none, .p (.mov (.tmp 36))⟩]])
  (.seq (.dreg [⟨(some 37), none, .p (.fad 1 (.tmp 2))⟩, ⟨(some 38), none, .p (.ld none (.tmp 37))⟩, ⟨(some 39), none, .e (.call 17 [(.tmp 38)])⟩, ⟨(some 40), none, .p (.mov (.tmp 6))⟩, ⟨(some 41), none, .p (.bin .quo (.tmp 39) (.tmp 40))⟩, ⟨(some 42), none, .p (.fad 1 (.tmp 3))⟩, ⟨(some 43), none, .p (.ld none (.tmp 42))⟩, ⟨(some 44), none, .e (.call 17 [(.tmp 43)])⟩, ⟨(some 45), none, .p (.mov (.tmp 6))⟩, ⟨(some 46), none, .p (.bin .quo (.tmp 44) (.tmp 45))⟩, ⟨(some 7), none, .p (.mov (.tmp 41))⟩] [[⟨(some 8), none, .p (.mov (.tmp 46))⟩]])
  (.seq (.dreg [⟨(some 47), none, .p (.fad 0 (.tmp 2))⟩, ⟨(some 48), none, .p (.ld none (.tmp 47))⟩, ⟨(some 49), none, .p (.mov (.tmp 8))⟩, ⟨(some 50), none, .e (.ecl 23 [(.tmp 48), (.tmp 49)])⟩, ⟨(some 51), none, .p (.fad 0 (.tmp 3))⟩, ⟨(some 52), none, .p (.ld none (.tmp 51))⟩, ⟨(some 53), none, .p (.mov (.tmp 7))⟩, ⟨(some 54), none, .e (.ecl 23 [(.tmp 52), (.tmp 53)])⟩, ⟨(some 55), none, .e (.ecl 26 [(.tmp 50), (.tmp 54)])⟩] [[⟨(some 9), none, .e (.alc [(.bool false), (.int .u64 0), (.int .u64 0)])⟩, ⟨none, none, .e (.st 3 (.tmp 9) (.tmp 55))⟩]])
  (.seq (.seq (.reg [⟨(some 56), none, .p (.fad 1 (.tmp 9))⟩, ⟨(some 57), none, .p (.ld none (.tmp 56))⟩, ⟨(some 58), none, .p (.bin .eql (.tmp 57) (.const (.int .u64 0)))⟩, ⟨(some 59), none, .p (.mov (.tmp 58))⟩, ⟨(some 60), (some (59, true)), .p (.fad 2 (.tmp 9))⟩, ⟨(some 61), (some (59, true)), .p (.ld none (.tmp 60))⟩, ⟨(some 62), (some (59, true)), .p (.bin .eql (.tmp 61) (.const (.int .u64 0)))⟩, ⟨(some 63), none, .p (.pick (.tmp 59) (.tmp 62) (.const (.bool false)))⟩])
  (.cond (.tmp 63) (.seq (.reg [⟨(some 64), none, .p (.bld [(.int .i64 0), (.int .i64 0)] [(0, 1, (.const (.int .i64 0))), (1, 1, (.const (.int .i64 1)))])⟩, ⟨none, none, .e (.st 2 (.tmp 4) (.tmp 64))⟩, ⟨(some 5), none, .p (.mov (.const (.int .i64 0)))⟩])
  .ret) .skip))
  (.seq (.reg [⟨(some 66), none, .p (.ld (some 3) (.tmp 9))⟩, ⟨(some 67), none, .p (.mov (.tmp 6))⟩, ⟨(some 68), none, .e (.call 27 [(.tmp 66), (.tmp 67)])⟩, ⟨(some 65), none, .p (.mov (.tmp 68))⟩, ⟨(some 69), none, .p (.ext (.tmp 65) 0)⟩, ⟨(some 70), none, .p (.ext (.tmp 65) 1)⟩, ⟨(some 10), none, .e (.alc [(.bool false), (.int .u64 0), (.int .u64 0)])⟩, ⟨none, none, .e (.st 3 (.tmp 10) (.tmp 69))⟩, ⟨(some 11), none, .p (.mov (.tmp 70))⟩])
  (.seq (.reg [⟨(some 71), none, .p (.mov (.tmp 6))⟩, ⟨(some 72), none, .p (.mov (.tmp 11))⟩, ⟨(some 73), none, .e (.call 16 [(.tmp 71), (.tmp 72)])⟩, ⟨(some 12), none, .p (.mov (.tmp 73))⟩])
  (.seq (.reg [⟨(some 75), none, .p (.ld (some 3) (.tmp 9))⟩, ⟨(some 76), none, .p (.mov (.tmp 12))⟩, ⟨(some 77), none, .e (.call 27 [(.tmp 75), (.tmp 76)])⟩, ⟨(some 74), none, .p (.mov (.tmp 77))⟩, ⟨(some 78), none, .p (.ext (.tmp 74) 0)⟩, ⟨(some 79), none, .p (.ext (.tmp 74) 1)⟩, ⟨(some 13), none, .e (.alc [(.bool false), (.int .u64 0), (.int .u64 0)])⟩, ⟨none, none, .e (.st 3 (.tmp 13) (.tmp 78))⟩, ⟨(some 14), none, .p (.mov (.tmp 79))⟩])
  (.seq (.reg [⟨(some 81), none, .p (.mov (.tmp 7))⟩, ⟨(some 82), none, .p (.fad 1 (.tmp 3))⟩, ⟨(some 83), none, .p (.ld none (.tmp 82))⟩, ⟨(some 84), none, .e (.call 17 [(.tmp 83)])⟩, ⟨(some 85), none, .p (.mov (.tmp 12))⟩, ⟨(some 86), none, .p (.bin .quo (.tmp 84) (.tmp 85))⟩, ⟨(some 87), none, .e (.call 28 [(.tmp 81), (.tmp 86)])⟩, ⟨(some 80), none, .p (.mov (.tmp 87))⟩, ⟨(some 88), none, .p (.ext (.tmp 80) 0)⟩, ⟨(some 89), none, .p (.ext (.tmp 80) 1)⟩, ⟨(some 15), none, .p (.mov (.tmp 88))⟩, ⟨(some 16), none, .p (.mov (.tmp 89))⟩])
  (.seq (.reg [⟨(some 90), none, .p (.ld (some 3) (.tmp 13))⟩, ⟨(some 91), none, .p (.mov (.tmp 15))⟩, ⟨(some 92), none, .p (.mov (.tmp 16))⟩, ⟨(some 93), none, .p (.bld [(.bool false), (.int .u64 0), (.int .u64 0)] [(0, 1, (.const (.bool false))), (1, 1, (.tmp 91)), (2, 1, (.tmp 92))])⟩, ⟨(some 94), none, .e (.call 29 [(.tmp 90), (.tmp 93)])⟩, ⟨(some 95), none, .p (.ext (.tmp 94) 0)⟩, ⟨(some 96), none, .p (.ext (.tmp 94) 1)⟩, ⟨none, none, .e (.st 2 (.tmp 4) (.tmp 95))⟩, ⟨(some 5), none, .p (.mov (.tmp 96))⟩])
  .ret))))))))))))
def rf12 : List RX := [.cell 4 (some 2), .tmp 5]
set_option maxRecDepth 100000 in
theorem comp12 : cFn Tryd.prog Tryd.f12 = some (erase cf12, rf12) := by kernel_rfl
def cf13 : LC :=
  (.seq (.reg [⟨(some 2), none, .e (.box (.tmp 0))⟩, ⟨(some 3), none, .e (.box (.tmp 1))⟩, ⟨(some 4), none, .e (.alc [(.int .i64 0), (.int .i64 0)])⟩, ⟨(some 5), none, .p (.mov (.const (.int .i64 0)))⟩])
  (.seq (.seq (.reg [⟨(some 6), none, .p (.ld (some 2) (.tmp 2))⟩, ⟨(some 7), none, .e (.call 6 [(.tmp 6)])⟩, ⟨(some 8), none, .p (.un .not (.tmp 7))⟩, ⟨(some 9), none, .p (.mov (.tmp 8))⟩, ⟨(some 10), (some (9, false)), .p (.ld (some 2) (.tmp 3))⟩, ⟨(some 11), (some (9, false)), .e (.call 6 [(.tmp 10)])⟩, ⟨(some 12), (some (9, false)), .p (.un .not (.tmp 11))⟩, ⟨(some 13), none, .p (.pick (.tmp 9) (.const (.bool true)) (.tmp 12))⟩])
  (.cond (.tmp 13) (.seq (.reg [⟨(some 14), none, .p (.bld [(.int .i64 0), (.int .i64 0)] [])⟩, ⟨none, none, .e (.st 2 (.tmp 4) (.tmp 14))⟩, ⟨(some 5), none, .p (.mov (.const (.int .i64 1)))⟩])
  .ret) .skip))
  (.seq (.block 0
  (.seq (.reg [⟨(some 16), none, .p (.fad 0 (.tmp 3))⟩, ⟨(some 17), none, .p (.ld none (.tmp 16))⟩, ⟨(some 18), none, .p (.bin .eql (.tmp 17) (.const (.int .i64 0)))⟩, ⟨(some 15), none, .p (.mov (.tmp 18))⟩])
  (.cond (.tmp 15) (.seq (.reg [⟨(some 19), none, .p (.bld [(.int .i64 0), (.int .i64 0)] [])⟩, ⟨none, none, .e (.st 2 (.tmp 4) (.tmp 19))⟩, ⟨(some 5), none, .p (.mov (.const (.int .i64 2)))⟩])
  .ret) (.seq (.reg [⟨(some 21), none, .p (.fad 0 (.tmp 3))⟩, ⟨(some 22), none, .p (.ld none (.tmp 21))⟩, ⟨(some 23), none, .p (.bin .lss (.tmp 22) (.const (.int .i64 0)))⟩, ⟨(some 20), none, .p (.mov (.tmp 23))⟩])
  (.cond (.tmp 20) (.seq (.reg [⟨(some 24), none, .p (.ld (some 2) (.tmp 2))⟩, ⟨(some 25), none, .p (.fad 1 (.tmp 3))⟩, ⟨(some 26), none, .p (.ld none (.tmp 25))⟩, ⟨(some 27), none, .p (.un .neg (.tmp 26))⟩, ⟨(some 28), none, .p (.fad 0 (.tmp 3))⟩, ⟨(some 29), none, .p (.ld none (.tmp 28))⟩, ⟨(some 30), none, .p (.un .neg (.tmp 29))⟩, ⟨(some 31), none, .p (.bld [(.int .i64 0), (.int .i64 0)] [(0, 1, (.tmp 27)), (1, 1, (.tmp 30))])⟩, ⟨(some 32), none, .e (.call 30 [(.tmp 24), (.tmp 31)])⟩, ⟨(some 33), none, .p (.ext (.tmp 32) 0)⟩, ⟨(some 34), none, .p (.ext (.tmp 32) 1)⟩, ⟨none, none, .e (.st 2 (.tmp 4) (.tmp 33))⟩, ⟨(some 5), none, .p (.mov (.tmp 34))⟩])
  .ret) .skip)))))
  (.seq (.reg [⟨(some 35), none, .p (.ld (some 2) (.tmp 2))⟩, ⟨(some 36), none, .p (.fad 1 (.tmp 3))⟩, ⟨(some 37), none, .p (.ld none (.tmp 36))⟩, ⟨(some 38), none, .p (.fad 0 (.tmp 3))⟩, ⟨(some 39), none, .p (.ld none (.tmp 38))⟩, ⟨(some 40), none, .p (.bld [(.int .i64 0), (.int .i64 0)] [(0, 1, (.tmp 37)), (1, 1, (.tmp 39))])⟩, ⟨(some 41), none, .e (.call 30 [(.tmp 35), (.tmp 40)])⟩, ⟨(some 42), none, .p (.ext (.tmp 41) 0)⟩, ⟨(some 43), none, .p (.ext (.tmp 41) 1)⟩, ⟨none, none, .e (.st 2 (.tmp 4) (.tmp 42))⟩, ⟨(some 5), none, .p (.mov (.tmp 43))⟩])
  .ret))))
def rf13 : List RX := [.cell 4 (some 2), .tmp 5]
set_option maxRecDepth 100000 in
theorem comp13 : cFn Tryd.prog Tryd.f13 = some (erase cf13, rf13) := by kernel_rfl
def cf14 : LC :=
  (.seq (.reg [⟨(some 1), none, .e (.box (.tmp 0))⟩, ⟨(some 2), none, .p (.mov (.const (.int .i64 0)))⟩])
  (.seq (.seq (.reg [⟨(some 4), none, .p (.ld (some 2) (.tmp 1))⟩, ⟨(some 5), none, .e (.call 6 [(.tmp 4)])⟩, ⟨(some 6), none, .p (.un .not (.tmp 5))⟩])
  (.cond (.tmp 6) (.seq (.reg [⟨(some 2), none, .p (.mov (.const (.int .i64 0)))⟩])
  .ret) .skip))
  (.seq (.reg [⟨(some 7), none, .p (.ld (some 2) (.tmp 1))⟩, ⟨(some 8), none, .e (.call 22 [(.tmp 7)])⟩, ⟨none, none, .e (.st 2 (.tmp 1) (.tmp 8))⟩])
  (.seq (.reg [⟨(some 9), none, .p (.fad 0 (.tmp 1))⟩, ⟨(some 10), none, .p (.ld none (.tmp 9))⟩, ⟨(some 11), none, .p (.fad 1 (.tmp 1))⟩, ⟨(some 12), none, .p (.ld none (.tmp 11))⟩, ⟨(some 13), none, .p (.bin .quo (.tmp 10) (.tmp 12))⟩, ⟨(some 3), none, .p (.mov (.tmp 13))⟩])
  (.seq (.seq (.reg [⟨(some 14), none, .p (.fad 0 (.tmp 1))⟩, ⟨(some 15), none, .p (.ld none (.tmp 14))⟩, ⟨(some 16), none, .p (.fad 1 (.tmp 1))⟩, ⟨(some 17), none, .p (.ld none (.tmp 16))⟩, ⟨(some 18), none, .p (.bin .rem (.tmp 15) (.tmp 17))⟩, ⟨(some 19), none, .p (.bin .lss (.tmp 18) (.const (.int .i64 0)))⟩])
  (.cond (.tmp 19) (.reg [⟨(some 20), none, .p (.mov (.tmp 3))⟩, ⟨(some 21), none, .p (.bin .sub (.tmp 20) (.const (.int .i64 1)))⟩, ⟨(some 3), none, .p (.mov (.tmp 21))⟩]) .skip))
  (.seq (.reg [⟨(some 22), none, .p (.mov (.tmp 3))⟩, ⟨(some 2), none, .p (.mov (.tmp 22))⟩])
  .ret))))))
def rf14 : List RX := [.tmp 2]
set_option maxRecDepth 100000 in
theorem comp14 : cFn Tryd.prog Tryd.f14 = some (erase cf14, rf14) := by kernel_rfl
def lb16_0 : LC :=
  (.seq (.seq (.reg [⟨(some 5), none, .p (.mov (.tmp 1))⟩, ⟨(some 6), none, .p (.bin .neq (.tmp 5) (.const (.int .u64 0)))⟩])
  (.cond (.tmp 6) .skip (.exit 0)))
  (.block 1
  (.dreg [⟨(some 7), none, .p (.mov (.tmp 1))⟩, ⟨(some 8), none, .p (.mov (.tmp 0))⟩, ⟨(some 9), none, .p (.mov (.tmp 1))⟩, ⟨(some 10), none, .p (.bin .rem (.tmp 8) (.tmp 9))⟩, ⟨(some 0), none, .p (.mov (.tmp 7))⟩] [[⟨(some 1), none, .p (.mov (.tmp 10))⟩]])))
def cf16 : LC :=
  (.seq (.reg [⟨(some 4), none, .p (.mov (.const (.int .u64 0)))⟩])
  (.seq (.block 0
  (.loop lb16_0))
  (.seq (.reg [⟨(some 11), none, .p (.mov (.tmp 0))⟩, ⟨(some 4), none, .p (.mov (.tmp 11))⟩])
  .ret)))
def rf16 : List RX := [.tmp 4]
set_option maxRecDepth 100000 in
theorem comp16 : cFn Tryd.prog Tryd.f16 = some (erase cf16, rf16) := by kernel_rfl
def cf17 : LC :=
  (.seq (.reg [⟨(some 2), none, .p (.mov (.const (.int .u64 0)))⟩])
  (.seq (.seq (.reg [⟨(some 3), none, .p (.mov (.tmp 0))⟩, ⟨(some 4), none, .p (.bin .lss (.tmp 3) (.const (.int .i64 0)))⟩])
  (.cond (.tmp 4) (.seq (.reg [⟨(some 5), none, .p (.mov (.tmp 0))⟩, ⟨(some 6), none, .p (.cvt .u64 (.tmp 5))⟩, ⟨(some 7), none, .p (.un .neg (.tmp 6))⟩, ⟨(some 2), none, .p (.mov (.tmp 7))⟩])
  .ret) .skip))
  (.seq (.reg [⟨(some 8), none, .p (.mov (.tmp 0))⟩, ⟨(some 9), none, .p (.cvt .u64 (.tmp 8))⟩, ⟨(some 2), none, .p (.mov (.tmp 9))⟩])
  .ret)))
def rf17 : List RX := [.tmp 2]
set_option maxRecDepth 100000 in
theorem comp17 : cFn Tryd.prog Tryd.f17 = some (erase cf17, rf17) := by kernel_rfl
def cf22 : LC :=
  (.seq (.reg [⟨(some 1), none, .e (.box (.tmp 0))⟩, ⟨(some 2), none, .e (.alc [(.int .i64 0), (.int .i64 0)])⟩])
  (.seq (.seq (.reg [⟨(some 3), none, .p (.fad 1 (.tmp 1))⟩, ⟨(some 4), none, .p (.ld none (.tmp 3))⟩, ⟨(some 5), none, .p (.bin .eql (.tmp 4) (.const (.int .i64 0)))⟩])
  (.cond (.tmp 5) (.reg [⟨(some 6), none, .p (.fad 1 (.tmp 1))⟩, ⟨none, none, .e (.st 1 (.tmp 6) (.const (.int .i64 1)))⟩]) .skip))
  (.seq (.reg [⟨(some 7), none, .p (.ld (some 2) (.tmp 1))⟩, ⟨none, none, .e (.st 2 (.tmp 2) (.tmp 7))⟩])
  .ret)))
def rf22 : List RX := [.cell 2 (some 2)]
set_option maxRecDepth 100000 in
theorem comp22 : cFn Tryd.prog Tryd.f22 = some (erase cf22, rf22) := by kernel_rfl
def cf23 : LC :=
  (.seq (.reg [⟨(some 4), none, .e (.alc [(.bool false), (.int .u64 0), (.int .u64 0)])⟩])
  (.seq (.reg [⟨(some 8), none, .p (.mov (.tmp 0))⟩, ⟨(some 9), none, .e (.call 17 [(.tmp 8)])⟩, ⟨(some 10), none, .p (.mov (.tmp 1))⟩, ⟨(some 11), none, .e (.call 28 [(.tmp 9), (.tmp 10)])⟩, ⟨(some 7), none, .p (.mov (.tmp 11))⟩, ⟨(some 12), none, .p (.ext (.tmp 7) 0)⟩, ⟨(some 13), none, .p (.ext (.tmp 7) 1)⟩, ⟨(some 5), none, .p (.mov (.tmp 12))⟩, ⟨(some 6), none, .p (.mov (.tmp 13))⟩])
  (.seq (.reg [⟨(some 14), none, .p (.mov (.tmp 0))⟩, ⟨(some 15), none, .p (.bin .lss (.tmp 14) (.const (.int .i64 0)))⟩, ⟨(some 16), none, .p (.mov (.tmp 5))⟩, ⟨(some 17), none, .p (.mov (.tmp 6))⟩, ⟨(some 18), none, .p (.bld [(.bool false), (.int .u64 0), (.int .u64 0)] [(0, 1, (.tmp 15)), (1, 1, (.tmp 16)), (2, 1, (.tmp 17))])⟩, ⟨none, none, .e (.st 3 (.tmp 4) (.tmp 18))⟩])
  .ret)))
def rf23 : List RX := [.cell 4 (some 3)]
set_option maxRecDepth 100000 in
theorem comp23 : cFn Tryd.prog Tryd.f23 = some (erase cf23, rf23) := by kernel_rfl
def cf24 : LC :=
  (.seq (.reg [⟨(some 2), none, .e (.box (.tmp 0))⟩, ⟨(some 3), none, .e (.box (.tmp 1))⟩, ⟨(some 4), none, .p (.mov (.const (.int .i64 0)))⟩])
  (.seq (.block 0
  (.seq (.reg [⟨(some 6), none, .p (.fad 1 (.tmp 2))⟩, ⟨(some 7), none, .p (.ld none (.tmp 6))⟩, ⟨(some 8), none, .p (.fad 1 (.tmp 3))⟩, ⟨(some 9), none, .p (.ld none (.tmp 8))⟩, ⟨(some 10), none, .p (.bin .lss (.tmp 7) (.tmp 9))⟩, ⟨(some 11), none, .p (.mov (.tmp 10))⟩, ⟨(some 12), (some (11, false)), .p (.fad 1 (.tmp 2))⟩, ⟨(some 13), (some (11, false)), .p (.ld none (.tmp 12))⟩, ⟨(some 14), (some (11, false)), .p (.fad 1 (.tmp 3))⟩, ⟨(some 15), (some (11, false)), .p (.ld none (.tmp 14))⟩, ⟨(some 16), (some (11, false)), .p (.bin .eql (.tmp 13) (.tmp 15))⟩, ⟨(some 17), (some (11, false)), .p (.mov (.tmp 16))⟩, ⟨(some 18), (some (17, true)), .p (.fad 2 (.tmp 2))⟩, ⟨(some 19), (some (17, true)), .p (.ld none (.tmp 18))⟩, ⟨(some 20), (some (17, true)), .p (.fad 2 (.tmp 3))⟩, ⟨(some 21), (some (17, true)), .p (.ld none (.tmp 20))⟩, ⟨(some 22), (some (17, true)), .p (.bin .lss (.tmp 19) (.tmp 21))⟩, ⟨(some 23), (some (11, false)), .p (.pick (.tmp 17) (.tmp 22) (.const (.bool false)))⟩, ⟨(some 24), none, .p (.pick (.tmp 11) (.const (.bool true)) (.tmp 23))⟩, ⟨(some 5), none, .p (.mov (.tmp 24))⟩])
  (.cond (.tmp 5) (.seq (.reg [⟨(some 4), none, .p (.mov (.const (.int .i64 (-1))))⟩])
  .ret) (.seq (.reg [⟨(some 26), none, .p (.fad 1 (.tmp 2))⟩, ⟨(some 27), none, .p (.ld none (.tmp 26))⟩, ⟨(some 28), none, .p (.fad 1 (.tmp 3))⟩, ⟨(some 29), none, .p (.ld none (.tmp 28))⟩, ⟨(some 30), none, .p (.bin .eql (.tmp 27) (.tmp 29))⟩, ⟨(some 31), none, .p (.mov (.tmp 30))⟩, ⟨(some 32), (some (31, true)), .p (.fad 2 (.tmp 2))⟩, ⟨(some 33), (some (31, true)), .p (.ld none (.tmp 32))⟩, ⟨(some 34), (some (31, true)), .p (.fad 2 (.tmp 3))⟩, ⟨(some 35), (some (31, true)), .p (.ld none (.tmp 34))⟩, ⟨(some 36), (some (31, true)), .p (.bin .eql (.tmp 33) (.tmp 35))⟩, ⟨(some 37), none, .p (.pick (.tmp 31) (.tmp 36) (.const (.bool false)))⟩, ⟨(some 25), none, .p (.mov (.tmp 37))⟩])
  (.cond (.tmp 25) (.seq (.reg [⟨(some 4), none, .p (.mov (.const (.int .i64 0)))⟩])
  .ret) .skip)))))
  (.seq (.reg [⟨(some 4), none, .p (.mov (.const (.int .i64 1)))⟩])
  .ret)))
def rf24 : List RX := [.tmp 4]
set_option maxRecDepth 100000 in
theorem comp24 : cFn Tryd.prog Tryd.f24 = some (erase cf24, rf24) := by kernel_rfl
def cf26 : LC :=
  (.seq (.reg [⟨(some 2), none, .e (.box (.tmp 0))⟩, ⟨(some 3), none, .e (.box (.tmp 1))⟩, ⟨(some 4), none, .e (.alc [(.bool false), (.int .u64 0), (.int .u64 0)])⟩])
  (.seq (.seq (.reg [⟨(some 13), none, .p (.fad 0 (.tmp 2))⟩, ⟨(some 14), none, .p (.ld none (.tmp 13))⟩, ⟨(some 15), none, .p (.fad 0 (.tmp 3))⟩, ⟨(some 16), none, .p (.ld none (.tmp 15))⟩, ⟨(some 17), none, .p (.binb false (.tmp 14) (.tmp 16))⟩])
  (.cond (.tmp 17) (.seq (.reg [⟨(some 19), none, .p (.fad 2 (.tmp 2))⟩, ⟨(some 20), none, .p (.ld none (.tmp 19))⟩, ⟨(some 21), none, .p (.fad 2 (.tmp 3))⟩, ⟨(some 22), none, .p (.ld none (.tmp 21))⟩, ⟨(some 23), none, .e (.ext 37 [(.tmp 20), (.tmp 22), (.const (.int .u64 0))])⟩, ⟨(some 18), none, .p (.mov (.tmp 23))⟩, ⟨(some 24), none, .p (.ext (.tmp 18) 0)⟩, ⟨(some 25), none, .p (.ext (.tmp 18) 1)⟩, ⟨(some 5), none, .p (.mov (.tmp 24))⟩, ⟨(some 6), none, .p (.mov (.tmp 25))⟩])
  (.seq (.reg [⟨(some 27), none, .p (.fad 1 (.tmp 2))⟩, ⟨(some 28), none, .p (.ld none (.tmp 27))⟩, ⟨(some 29), none, .p (.fad 1 (.tmp 3))⟩, ⟨(some 30), none, .p (.ld none (.tmp 29))⟩, ⟨(some 31), none, .p (.mov (.tmp 6))⟩, ⟨(some 32), none, .e (.ext 37 [(.tmp 28), (.tmp 30), (.tmp 31)])⟩, ⟨(some 26), none, .p (.mov (.tmp 32))⟩, ⟨(some 33), none, .p (.ext (.tmp 26) 0)⟩, ⟨(some 34), none, .p (.ext (.tmp 26) 1)⟩, ⟨(some 7), none, .p (.mov (.tmp 33))⟩, ⟨(some 8), none, .p (.mov (.tmp 34))⟩])
  (.seq (.reg [⟨(some 35), none, .p (.fad 0 (.tmp 2))⟩, ⟨(some 36), none, .p (.ld none (.tmp 35))⟩, ⟨(some 37), none, .p (.mov (.tmp 7))⟩, ⟨(some 38), none, .p (.mov (.tmp 5))⟩, ⟨(some 39), none, .p (.bld [(.bool false), (.int .u64 0), (.int .u64 0)] [(0, 1, (.tmp 36)), (1, 1, (.tmp 37)), (2, 1, (.tmp 38))])⟩, ⟨none, none, .e (.st 3 (.tmp 4) (.tmp 39))⟩])
  .ret))) .skip))
  (.seq (.seq (.reg [⟨(some 40), none, .p (.ld (some 3) (.tmp 2))⟩, ⟨(some 41), none, .p (.ld (some 3) (.tmp 3))⟩, ⟨(some 42), none, .e (.call 24 [(.tmp 40), (.tmp 41)])⟩, ⟨(some 43), none, .p (.bin .lss (.tmp 42) (.const (.int .i64 0)))⟩])
  (.cond (.tmp 43) (.reg [⟨(some 44), none, .p (.ld (some 3) (.tmp 3))⟩, ⟨(some 45), none, .p (.ld (some 3) (.tmp 2))⟩, ⟨none, none, .e (.st 3 (.tmp 2) (.tmp 44))⟩, ⟨none, none, .e (.st 3 (.tmp 3) (.tmp 45))⟩]) .skip))
  (.seq (.reg [⟨(some 47), none, .p (.fad 2 (.tmp 2))⟩, ⟨(some 48), none, .p (.ld none (.tmp 47))⟩, ⟨(some 49), none, .p (.fad 2 (.tmp 3))⟩, ⟨(some 50), none, .p (.ld none (.tmp 49))⟩, ⟨(some 51), none, .e (.ext 38 [(.tmp 48), (.tmp 50), (.const (.int .u64 0))])⟩, ⟨(some 46), none, .p (.mov (.tmp 51))⟩, ⟨(some 52), none, .p (.ext (.tmp 46) 0)⟩, ⟨(some 53), none, .p (.ext (.tmp 46) 1)⟩, ⟨(some 9), none, .p (.mov (.tmp 52))⟩, ⟨(some 10), none, .p (.mov (.tmp 53))⟩])
  (.seq (.reg [⟨(some 55), none, .p (.fad 1 (.tmp 2))⟩, ⟨(some 56), none, .p (.ld none (.tmp 55))⟩, ⟨(some 57), none, .p (.fad 1 (.tmp 3))⟩, ⟨(some 58), none, .p (.ld none (.tmp 57))⟩, ⟨(some 59), none, .p (.mov (.tmp 10))⟩, ⟨(some 60), none, .e (.ext 38 [(.tmp 56), (.tmp 58), (.tmp 59)])⟩, ⟨(some 54), none, .p (.mov (.tmp 60))⟩, ⟨(some 61), none, .p (.ext (.tmp 54) 0)⟩, ⟨(some 62), none, .p (.ext (.tmp 54) 1)⟩, ⟨(some 11), none, .p (.mov (.tmp 61))⟩, ⟨(some 12), none, .p (.mov (.tmp 62))⟩])
  (.seq (.reg [⟨(some 63), none, .p (.fad 0 (.tmp 2))⟩, ⟨(some 64), none, .p (.ld none (.tmp 63))⟩, ⟨(some 65), none, .p (.mov (.tmp 11))⟩, ⟨(some 66), none, .p (.mov (.tmp 9))⟩, ⟨(some 67), none, .p (.bld [(.bool false), (.int .u64 0), (.int .u64 0)] [(0, 1, (.tmp 64)), (1, 1, (.tmp 65)), (2, 1, (.tmp 66))])⟩, ⟨none, none, .e (.st 3 (.tmp 4) (.tmp 67))⟩])
  .ret))))))
def rf26 : List RX := [.cell 4 (some 3)]
set_option maxRecDepth 100000 in
theorem comp26 : cFn Tryd.prog Tryd.f26 = some (erase cf26, rf26) := by kernel_rfl
def cf27 : LC :=
  (.seq (.reg [⟨(some 2), none, .e (.box (.tmp 0))⟩, ⟨(some 4), none, .e (.alc [(.bool false), (.int .u64 0), (.int .u64 0)])⟩, ⟨(some 5), none, .p (.mov (.const (.int .u64 0)))⟩])
  (.seq (.dreg [⟨(some 9), none, .p (.fad 1 (.tmp 2))⟩, ⟨(some 10), none, .p (.ld none (.tmp 9))⟩, ⟨(some 11), none, .p (.mov (.tmp 1))⟩, ⟨(some 12), none, .p (.bin .rem (.tmp 10) (.tmp 11))⟩, ⟨(some 13), none, .p (.fad 2 (.tmp 2))⟩, ⟨(some 14), none, .p (.ld none (.tmp 13))⟩, ⟨(some 15), none, .p (.mov (.tmp 1))⟩, ⟨(some 16), none, .e (.call 39 [(.tmp 12), (.tmp 14), (.tmp 15)])⟩, ⟨(some 8), none, .p (.mov (.tmp 16))⟩, ⟨(some 17), none, .p (.ext (.tmp 8) 0)⟩, ⟨(some 18), none, .p (.ext (.tmp 8) 1)⟩, ⟨(some 6), none, .p (.mov (.tmp 17))⟩] [[⟨(some 7), none, .p (.mov (.tmp 18))⟩]])
  (.seq (.dreg [⟨(some 19), none, .p (.fad 0 (.tmp 2))⟩, ⟨(some 20), none, .p (.ld none (.tmp 19))⟩, ⟨(some 21), none, .p (.fad 1 (.tmp 2))⟩, ⟨(some 22), none, .p (.ld none (.tmp 21))⟩, ⟨(some 23), none, .p (.mov (.tmp 1))⟩, ⟨(some 24), none, .p (.bin .quo (.tmp 22) (.tmp 23))⟩, ⟨(some 25), none, .p (.mov (.tmp 6))⟩, ⟨(some 26), none, .p (.bld [(.bool false), (.int .u64 0), (.int .u64 0)] [(0, 1, (.tmp 20)), (1, 1, (.tmp 24)), (2, 1, (.tmp 25))])⟩, ⟨(some 27), none, .p (.mov (.tmp 7))⟩] [[⟨none, none, .e (.st 3 (.tmp 4) (.tmp 26))⟩, ⟨(some 5), none, .p (.mov (.tmp 27))⟩]])
  .ret)))
def rf27 : List RX := [.cell 4 (some 3), .tmp 5]
set_option maxRecDepth 100000 in
theorem comp27 : cFn Tryd.prog Tryd.f27 = some (erase cf27, rf27) := by kernel_rfl
def cf29 : LC :=
  (.seq (.reg [⟨(some 2), none, .e (.box (.tmp 0))⟩, ⟨(some 3), none, .e (.box (.tmp 1))⟩, ⟨(some 4), none, .e (.alc [(.int .i64 0), (.int .i64 0)])⟩, ⟨(some 5), none, .p (.mov (.const (.int .i64 0)))⟩])
  (.seq (.seq (.reg [⟨(some 6), none, .p (.fad 1 (.tmp 2))⟩, ⟨(some 7), none, .p (.ld none (.tmp 6))⟩, ⟨(some 8), none, .p (.bin .eql (.tmp 7) (.const (.int .u64 0)))⟩, ⟨(some 9), none, .p (.mov (.tmp 8))⟩, ⟨(some 10), (some (9, true)), .p (.fad 2 (.tmp 2))⟩, ⟨(some 11), (some (9, true)), .p (.ld none (.tmp 10))⟩, ⟨(some 12), (some (9, true)), .p (.bin .eql (.tmp 11) (.const (.int .u64 0)))⟩, ⟨(some 13), none, .p (.pick (.tmp 9) (.tmp 12) (.const (.bool false)))⟩])
  (.cond (.tmp 13) (.seq (.reg [⟨(some 14), none, .p (.bld [(.int .i64 0), (.int .i64 0)] [(0, 1, (.const (.int .i64 0))), (1, 1, (.const (.int .i64 1)))])⟩, ⟨none, none, .e (.st 2 (.tmp 4) (.tmp 14))⟩, ⟨(some 5), none, .p (.mov (.const (.int .i64 0)))⟩])
  .ret) .skip))
  (.seq (.seq (.reg [⟨(some 15), none, .p (.ld (some 3) (.tmp 2))⟩, ⟨(some 16), none, .e (.call 40 [(.tmp 15)])⟩, ⟨(some 17), none, .p (.un .not (.tmp 16))⟩, ⟨(some 18), none, .p (.mov (.tmp 17))⟩, ⟨(some 19), (some (18, false)), .p (.ld (some 3) (.tmp 3))⟩, ⟨(some 20), (some (18, false)), .e (.call 40 [(.tmp 19)])⟩, ⟨(some 21), (some (18, false)), .p (.un .not (.tmp 20))⟩, ⟨(some 22), none, .p (.pick (.tmp 18) (.const (.bool true)) (.tmp 21))⟩])
  (.cond (.tmp 22) (.seq (.reg [⟨(some 23), none, .p (.bld [(.int .i64 0), (.int .i64 0)] [])⟩, ⟨none, none, .e (.st 2 (.tmp 4) (.tmp 23))⟩, ⟨(some 5), none, .p (.mov (.const (.int .i64 10)))⟩])
  .ret) .skip))
  (.seq (.dreg [⟨(some 24), none, .p (.ld (some 3) (.tmp 2))⟩, ⟨(some 25), none, .e (.call 41 [(.tmp 24)])⟩, ⟨(some 26), none, .p (.ld (some 3) (.tmp 3))⟩, ⟨(some 27), none, .e (.call 41 [(.tmp 26)])⟩, ⟨(some 28), none, .p (.bld [(.int .i64 0), (.int .i64 0)] [(0, 1, (.tmp 25)), (1, 1, (.tmp 27))])⟩] [[⟨none, none, .e (.st 2 (.tmp 4) (.tmp 28))⟩, ⟨(some 5), none, .p (.mov (.const (.int .i64 0)))⟩]])
  .ret))))
def rf29 : List RX := [.cell 4 (some 2), .tmp 5]
set_option maxRecDepth 100000 in
theorem comp29 : cFn Tryd.prog Tryd.f29 = some (erase cf29, rf29) := by kernel_rfl
def cf30 : LC :=
  (.seq (.reg [⟨(some 2), none, .e (.box (.tmp 0))⟩, ⟨(some 3), none, .e (.box (.tmp 1))⟩, ⟨(some 4), none, .e (.alc [(.int .i64 0), (.int .i64 0)])⟩, ⟨(some 5), none, .p (.mov (.const (.int .i64 0)))⟩])
  (.seq (.seq (.reg [⟨(some 11), none, .p (.ld (some 2) (.tmp 2))⟩, ⟨(some 12), none, .e (.call 6 [(.tmp 11)])⟩, ⟨(some 13), none, .p (.un .not (.tmp 12))⟩, ⟨(some 14), none, .p (.mov (.tmp 13))⟩, ⟨(some 15), (some (14, false)), .p (.ld (some 2) (.tmp 3))⟩, ⟨(some 16), (some (14, false)), .e (.call 6 [(.tmp 15)])⟩, ⟨(some 17), (some (14, false)), .p (.un .not (.tmp 16))⟩, ⟨(some 18), none, .p (.pick (.tmp 14) (.const (.bool true)) (.tmp 17))⟩])
  (.cond (.tmp 18) (.seq (.reg [⟨(some 19), none, .p (.bld [(.int .i64 0), (.int .i64 0)] [])⟩, ⟨none, none, .e (.st 2 (.tmp 4) (.tmp 19))⟩, ⟨(some 5), none, .p (.mov (.const (.int .i64 1)))⟩])
  .ret) .skip))
  (.seq (.dreg [⟨(some 20), none, .p (.ld (some 2) (.tmp 2))⟩, ⟨(some 21), none, .e (.call 22 [(.tmp 20)])⟩, ⟨(some 22), none, .p (.ld (some 2) (.tmp 3))⟩, ⟨(some 23), none, .e (.call 22 [(.tmp 22)])⟩] [[⟨none, none, .e (.st 2 (.tmp 2) (.tmp 21))⟩, ⟨none, none, .e (.st 2 (.tmp 3) (.tmp 23))⟩]])
  (.seq (.seq (.reg [⟨(some 24), none, .p (.fad 0 (.tmp 2))⟩, ⟨(some 25), none, .p (.ld none (.tmp 24))⟩, ⟨(some 26), none, .p (.bin .eql (.tmp 25) (.const (.int .i64 0)))⟩, ⟨(some 27), none, .p (.mov (.tmp 26))⟩, ⟨(some 28), (some (27, false)), .p (.fad 0 (.tmp 3))⟩, ⟨(some 29), (some (27, false)), .p (.ld none (.tmp 28))⟩, ⟨(some 30), (some (27, false)), .p (.bin .eql (.tmp 29) (.const (.int .i64 0)))⟩, ⟨(some 31), none, .p (.pick (.tmp 27) (.const (.bool true)) (.tmp 30))⟩])
  (.cond (.tmp 31) (.seq (.reg [⟨(some 32), none, .p (.bld [(.int .i64 0), (.int .i64 0)] [(0, 1, (.const (.int .i64 0))), (1, 1, (.const (.int .i64 1)))])⟩, ⟨none, none, .e (.st 2 (.tmp 4) (.tmp 32))⟩, ⟨(some 5), none, .p (.mov (.const (.int .i64 0)))⟩])
  .ret) .skip))
  (.seq (.dreg [⟨(some 33), none, .p (.fad 0 (.tmp 2))⟩, ⟨(some 34), none, .p (.ld none (.tmp 33))⟩, ⟨(some 35), none, .e (.call 17 [(.tmp 34)])⟩, ⟨(some 36), none, .p (.fad 1 (.tmp 3))⟩, ⟨(some 37), none, .p (.ld none (.tmp 36))⟩, ⟨(some 38), none, .e (.call 17 [(.tmp 37)])⟩, ⟨(some 39), none, .e (.call 16 [(.tmp 35), (.tmp 38)])⟩] [[⟨(some 6), none, .p (.mov (.tmp 39))⟩]])
  (.seq (.dreg [⟨(some 40), none, .p (.fad 0 (.tmp 3))⟩, ⟨(some 41), none, .p (.ld none (.tmp 40))⟩, ⟨(some 42), none, .e (.call 17 [(.tmp 41)])⟩, ⟨(some 43), none, .p (.fad 1 (.tmp 2))⟩, ⟨(some 44), none, .p (.ld none (.tmp 43))⟩, ⟨(some 45), none, .e (.call 17 [(.tmp 44)])⟩, ⟨(some 46), none, .e (.call 16 [(.tmp 42), (.tmp 45)])⟩] [[⟨(some 7), none, .p (.mov (.tmp 46))⟩]])
  (.seq (.dreg [⟨(some 48), none, .p (.fad 0 (.tmp 2))⟩, ⟨(some 49), none, .p (.ld none (.tmp 48))⟩, ⟨(some 50), none, .e (.call 17 [(.tmp 49)])⟩, ⟨(some 51), none, .p (.mov (.tmp 6))⟩, ⟨(some 52), none, .p (.bin .quo (.tmp 50) (.tmp 51))⟩, ⟨(some 53), none, .p (.fad 0 (.tmp 3))⟩, ⟨(some 54), none, .p (.ld none (.tmp 53))⟩, ⟨(some 55), none, .e (.call 17 [(.tmp 54)])⟩, ⟨(some 56), none, .p (.mov (.tmp 7))⟩, ⟨(some 57), none, .p (.bin .quo (.tmp 55) (.tmp 56))⟩, ⟨(some 58), none, .e (.call 28 [(.tmp 52), (.tmp 57)])⟩, ⟨(some 47), none, .p (.mov (.tmp 58))⟩, ⟨(some 59), none, .p (.ext (.tmp 47) 0)⟩, ⟨(some 60), none, .p (.ext (.tmp 47) 1)⟩, ⟨(some 8), none, .p (.mov (.tmp 59))⟩] [[⟨(some 9), none, .p (.mov (.tmp 60))⟩]])
  (.seq (.reg [⟨(some 61), none, .p (.fad 0 (.tmp 2))⟩, ⟨(some 62), none, .p (.ld none (.tmp 61))⟩, ⟨(some 63), none, .p (.bin .lss (.tmp 62) (.const (.int .i64 0)))⟩, ⟨(some 64), none, .p (.fad 0 (.tmp 3))⟩, ⟨(some 65), none, .p (.ld none (.tmp 64))⟩, ⟨(some 66), none, .p (.bin .lss (.tmp 65) (.const (.int .i64 0)))⟩, ⟨(some 67), none, .p (.binb true (.tmp 63) (.tmp 66))⟩, ⟨(some 68), none, .p (.mov (.tmp 8))⟩, ⟨(some 69), none, .p (.mov (.tmp 9))⟩, ⟨(some 70), none, .p (.bld [(.bool false), (.int .u64 0), (.int .u64 0)] [(0, 1, (.tmp 67)), (1, 1, (.tmp 68)), (2, 1, (.tmp 69))])⟩, ⟨(some 10), none, .e (.alc [(.bool false), (.int .u64 0), (.int .u64 0)])⟩, ⟨none, none, .e (.st 3 (.tmp 10) (.tmp 70))⟩])
  (.seq (.dreg [⟨(some 72), none, .p (.fad 1 (.tmp 2))⟩, ⟨(some 73), none, .p (.ld none (.tmp 72))⟩, ⟨(some 74), none, .e (.call 17 [(.tmp 73)])⟩, ⟨(some 75), none, .p (.mov (.tmp 7))⟩, ⟨(some 76), none, .p (.bin .quo (.tmp 74) (.tmp 75))⟩, ⟨(some 77), none, .p (.fad 1 (.tmp 3))⟩, ⟨(some 78), none, .p (.ld none (.tmp 77))⟩, ⟨(some 79), none, .e (.call 17 [(.tmp 78)])⟩, ⟨(some 80), none, .p (.mov (.tmp 6))⟩, ⟨(some 81), none, .p (.bin .quo (.tmp 79) (.tmp 80))⟩, ⟨(some 82), none, .e (.call 28 [(.tmp 76), (.tmp 81)])⟩, ⟨(some 71), none, .p (.mov (.tmp 82))⟩, ⟨(some 83), none, .p (.ext (.tmp 71) 0)⟩, ⟨(some 84), none, .p (.ext (.tmp 71) 1)⟩, ⟨(some 8), none, .p (.mov (.tmp 83))⟩] [[⟨(some 9), none, .p (.mov (.tmp 84))⟩]])
  (.seq (.reg [⟨(some 85), none, .p (.ld (some 3) (.tmp 10))⟩, ⟨(some 86), none, .p (.mov (.tmp 8))⟩, ⟨(some 87), none, .p (.mov (.tmp 9))⟩, ⟨(some 88), none, .p (.bld [(.bool false), (.int .u64 0), (.int .u64 0)] [(0, 1, (.const (.bool false))), (1, 1, (.tmp 86)), (2, 1, (.tmp 87))])⟩, ⟨(some 89), none, .e (.call 29 [(.tmp 85), (.tmp 88)])⟩, ⟨(some 90), none, .p (.ext (.tmp 89) 0)⟩, ⟨(some 91), none, .p (.ext (.tmp 89) 1)⟩, ⟨none, none, .e (.st 2 (.tmp 4) (.tmp 90))⟩, ⟨(some 5), none, .p (.mov (.tmp 91))⟩])
  .ret))))))))))
def rf30 : List RX := [.cell 4 (some 2), .tmp 5]
set_option maxRecDepth 100000 in
theorem comp30 : cFn Tryd.prog Tryd.f30 = some (erase cf30, rf30) := by kernel_rfl
def cf40 : LC :=
  (.seq (.reg [⟨(some 1), none, .e (.box (.tmp 0))⟩, ⟨(some 2), none, .p (.mov (.const (.bool false)))⟩])
  (.seq (.reg [⟨(some 3), none, .p (.fad 1 (.tmp 1))⟩, ⟨(some 4), none, .p (.ld none (.tmp 3))⟩, ⟨(some 5), none, .p (.bin .eql (.tmp 4) (.const (.int .u64 0)))⟩, ⟨(some 6), none, .p (.mov (.tmp 5))⟩, ⟨(some 7), (some (6, true)), .p (.fad 2 (.tmp 1))⟩, ⟨(some 8), (some (6, true)), .p (.ld none (.tmp 7))⟩, ⟨(some 9), (some (6, true)), .p (.bin .leq (.tmp 8) (.const (.int .u64 1152921504606846976)))⟩, ⟨(some 10), none, .p (.pick (.tmp 6) (.tmp 9) (.const (.bool false)))⟩, ⟨(some 2), none, .p (.mov (.tmp 10))⟩])
  .ret))
def rf40 : List RX := [.tmp 2]
set_option maxRecDepth 100000 in
theorem comp40 : cFn Tryd.prog Tryd.f40 = some (erase cf40, rf40) := by kernel_rfl
def cf41 : LC :=
  (.seq (.reg [⟨(some 1), none, .e (.box (.tmp 0))⟩, ⟨(some 2), none, .p (.mov (.const (.int .i64 0)))⟩])
  (.seq (.seq (.reg [⟨(some 3), none, .p (.fad 0 (.tmp 1))⟩, ⟨(some 4), none, .p (.ld none (.tmp 3))⟩])
  (.cond (.tmp 4) (.seq (.reg [⟨(some 5), none, .p (.fad 2 (.tmp 1))⟩, ⟨(some 6), none, .p (.ld none (.tmp 5))⟩, ⟨(some 7), none, .p (.cvt .i64 (.tmp 6))⟩, ⟨(some 8), none, .p (.un .neg (.tmp 7))⟩, ⟨(some 2), none, .p (.mov (.tmp 8))⟩])
  .ret) .skip))
  (.seq (.reg [⟨(some 9), none, .p (.fad 2 (.tmp 1))⟩, ⟨(some 10), none, .p (.ld none (.tmp 9))⟩, ⟨(some 11), none, .p (.cvt .i64 (.tmp 10))⟩, ⟨(some 2), none, .p (.mov (.tmp 11))⟩])
  .ret)))
def rf41 : List RX := [.tmp 2]
set_option maxRecDepth 100000 in
theorem comp41 : cFn Tryd.prog Tryd.f41 = some (erase cf41, rf41) := by kernel_rfl
end Go.Proofs.YtfhifkcbdpgomaaDoor
namespace Go.Proofs.YtfhifkcbdpgomaaDoor
end Go.Proofs.YtfhifkcbdpgomaaDoor
namespace Go.Proofs.YtfhifkcbdpgomaaDoor
end Go.Proofs.YtfhifkcbdpgomaaDoor
namespace Go.Proofs.YtfhifkcbdpgomaaDoor
end Go.Proofs.YtfhifkcbdpgomaaDoor
namespace Go.Proofs.YtfhifkcbdpgomaaDoor
end Go.Proofs.YtfhifkcbdpgomaaDoor
namespace Go.Proofs.YtfhifkcbdpgomaaDoor
def cf28 : LC :=
  (.seq (.reg [⟨(some 4), none, .p (.mov (.const (.int .u64 0)))⟩, ⟨(some 5), none, .p (.mov (.const (.int .u64 0)))⟩])
  (.seq (.reg [⟨(some 14), none, .p (.mov (.tmp 0))⟩, ⟨(some 15), none, .p (.bin .and (.tmp 14) (.const (.int .u64 4294967295)))⟩, ⟨(some 6), none, .p (.mov (.tmp 15))⟩])
  (.seq (.reg [⟨(some 16), none, .p (.mov (.tmp 0))⟩, ⟨(some 17), none, .p (.bin .shr (.tmp 16) (.const (.int .u64 32)))⟩, ⟨(some 7), none, .p (.mov (.tmp 17))⟩])
  (.seq (.reg [⟨(some 18), none, .p (.mov (.tmp 1))⟩, ⟨(some 19), none, .p (.bin .and (.tmp 18) (.const (.int .u64 4294967295)))⟩, ⟨(some 8), none, .p (.mov (.tmp 19))⟩])
  (.seq (.reg [⟨(some 20), none, .p (.mov (.tmp 1))⟩, ⟨(some 21), none, .p (.bin .shr (.tmp 20) (.const (.int .u64 32)))⟩, ⟨(some 9), none, .p (.mov (.tmp 21))⟩])
  (.seq (.reg [⟨(some 22), none, .p (.mov (.tmp 6))⟩, ⟨(some 23), none, .p (.mov (.tmp 8))⟩, ⟨(some 24), none, .p (.bin .mul (.tmp 22) (.tmp 23))⟩, ⟨(some 10), none, .p (.mov (.tmp 24))⟩])
  (.seq (.reg [⟨(some 25), none, .p (.mov (.tmp 7))⟩, ⟨(some 26), none, .p (.mov (.tmp 8))⟩, ⟨(some 27), none, .p (.bin .mul (.tmp 25) (.tmp 26))⟩, ⟨(some 28), none, .p (.mov (.tmp 10))⟩, ⟨(some 29), none, .p (.bin .shr (.tmp 28) (.const (.int .u64 32)))⟩, ⟨(some 30), none, .p (.bin .add (.tmp 27) (.tmp 29))⟩, ⟨(some 11), none, .p (.mov (.tmp 30))⟩])
  (.seq (.reg [⟨(some 31), none, .p (.mov (.tmp 11))⟩, ⟨(some 32), none, .p (.bin .and (.tmp 31) (.const (.int .u64 4294967295)))⟩, ⟨(some 12), none, .p (.mov (.tmp 32))⟩])
  (.seq (.reg [⟨(some 33), none, .p (.mov (.tmp 11))⟩, ⟨(some 34), none, .p (.bin .shr (.tmp 33) (.const (.int .u64 32)))⟩, ⟨(some 13), none, .p (.mov (.tmp 34))⟩])
  (.seq (.reg [⟨(some 35), none, .p (.mov (.tmp 12))⟩, ⟨(some 36), none, .p (.mov (.tmp 6))⟩, ⟨(some 37), none, .p (.mov (.tmp 9))⟩, ⟨(some 38), none, .p (.bin .mul (.tmp 36) (.tmp 37))⟩, ⟨(some 39), none, .p (.bin .add (.tmp 35) (.tmp 38))⟩, ⟨(some 12), none, .p (.mov (.tmp 39))⟩])
  (.seq (.reg [⟨(some 40), none, .p (.mov (.tmp 7))⟩, ⟨(some 41), none, .p (.mov (.tmp 9))⟩, ⟨(some 42), none, .p (.bin .mul (.tmp 40) (.tmp 41))⟩, ⟨(some 43), none, .p (.mov (.tmp 13))⟩, ⟨(some 44), none, .p (.bin .add (.tmp 42) (.tmp 43))⟩, ⟨(some 45), none, .p (.mov (.tmp 12))⟩, ⟨(some 46), none, .p (.bin .shr (.tmp 45) (.const (.int .u64 32)))⟩, ⟨(some 47), none, .p (.bin .add (.tmp 44) (.tmp 46))⟩, ⟨(some 4), none, .p (.mov (.tmp 47))⟩])
  (.seq (.reg [⟨(some 48), none, .p (.mov (.tmp 0))⟩, ⟨(some 49), none, .p (.mov (.tmp 1))⟩, ⟨(some 50), none, .p (.bin .mul (.tmp 48) (.tmp 49))⟩, ⟨(some 5), none, .p (.mov (.tmp 50))⟩])
  .ret))))))))))))
def rf28 : List RX := [.tmp 4, .tmp 5]
set_option maxRecDepth 100000 in
theorem comp28 : cFn Tryd.prog Tryd.f28 = some (erase cf28, rf28) := by kernel_rfl
def lb39_0 : LC :=
  (.seq (.seq (.reg [⟨(some 102), none, .p (.mov (.tmp 18))⟩, ⟨(some 103), none, .p (.bin .geq (.tmp 102) (.const (.int .u64 4294967296)))⟩, ⟨(some 104), none, .p (.mov (.tmp 103))⟩, ⟨(some 105), (some (104, false)), .p (.mov (.tmp 18))⟩, ⟨(some 106), (some (104, false)), .p (.mov (.tmp 10))⟩, ⟨(some 107), (some (104, false)), .p (.bin .mul (.tmp 105) (.tmp 106))⟩, ⟨(some 108), (some (104, false)), .p (.mov (.tmp 16))⟩, ⟨(some 109), (some (104, false)), .p (.bin .mul (.const (.int .u64 4294967296)) (.tmp 108))⟩, ⟨(some 110), (some (104, false)), .p (.mov (.tmp 14))⟩, ⟨(some 111), (some (104, false)), .p (.bin .add (.tmp 109) (.tmp 110))⟩, ⟨(some 112), (some (104, false)), .p (.bin .gtr (.tmp 107) (.tmp 111))⟩, ⟨(some 113), none, .p (.pick (.tmp 104) (.const (.bool true)) (.tmp 112))⟩])
  (.cond (.tmp 113) .skip (.exit 2)))
  (.block 3
  (.seq (.reg [⟨(some 114), none, .p (.mov (.tmp 18))⟩, ⟨(some 115), none, .p (.bin .sub (.tmp 114) (.const (.int .u64 1)))⟩, ⟨(some 18), none, .p (.mov (.tmp 115))⟩])
  (.seq (.reg [⟨(some 116), none, .p (.mov (.tmp 16))⟩, ⟨(some 117), none, .p (.mov (.tmp 9))⟩, ⟨(some 118), none, .p (.bin .add (.tmp 116) (.tmp 117))⟩, ⟨(some 16), none, .p (.mov (.tmp 118))⟩])
  (.seq (.reg [⟨(some 119), none, .p (.mov (.tmp 16))⟩, ⟨(some 120), none, .p (.bin .geq (.tmp 119) (.const (.int .u64 4294967296)))⟩])
  (.cond (.tmp 120) (.exit 2) .skip))))))
def lb39_1 : LC :=
  (.seq (.seq (.reg [⟨(some 67), none, .p (.mov (.tmp 15))⟩, ⟨(some 68), none, .p (.bin .geq (.tmp 67) (.const (.int .u64 4294967296)))⟩, ⟨(some 69), none, .p (.mov (.tmp 68))⟩, ⟨(some 70), (some (69, false)), .p (.mov (.tmp 15))⟩, ⟨(some 71), (some (69, false)), .p (.mov (.tmp 10))⟩, ⟨(some 72), (some (69, false)), .p (.bin .mul (.tmp 70) (.tmp 71))⟩, ⟨(some 73), (some (69, false)), .p (.mov (.tmp 16))⟩, ⟨(some 74), (some (69, false)), .p (.bin .mul (.const (.int .u64 4294967296)) (.tmp 73))⟩, ⟨(some 75), (some (69, false)), .p (.mov (.tmp 13))⟩, ⟨(some 76), (some (69, false)), .p (.bin .add (.tmp 74) (.tmp 75))⟩, ⟨(some 77), (some (69, false)), .p (.bin .gtr (.tmp 72) (.tmp 76))⟩, ⟨(some 78), none, .p (.pick (.tmp 69) (.const (.bool true)) (.tmp 77))⟩])
  (.cond (.tmp 78) .skip (.exit 0)))
  (.block 1
  (.seq (.reg [⟨(some 79), none, .p (.mov (.tmp 15))⟩, ⟨(some 80), none, .p (.bin .sub (.tmp 79) (.const (.int .u64 1)))⟩, ⟨(some 15), none, .p (.mov (.tmp 80))⟩])
  (.seq (.reg [⟨(some 81), none, .p (.mov (.tmp 16))⟩, ⟨(some 82), none, .p (.mov (.tmp 9))⟩, ⟨(some 83), none, .p (.bin .add (.tmp 81) (.tmp 82))⟩, ⟨(some 16), none, .p (.mov (.tmp 83))⟩])
  (.seq (.reg [⟨(some 84), none, .p (.mov (.tmp 16))⟩, ⟨(some 85), none, .p (.bin .geq (.tmp 84) (.const (.int .u64 4294967296)))⟩])
  (.cond (.tmp 85) (.exit 0) .skip))))))
def cf39 : LC :=
  (.seq (.reg [⟨(some 6), none, .p (.mov (.const (.int .u64 0)))⟩, ⟨(some 7), none, .p (.mov (.const (.int .u64 0)))⟩])
  (.seq (.seq (.reg [⟨(some 19), none, .p (.mov (.tmp 2))⟩, ⟨(some 20), none, .p (.bin .eql (.tmp 19) (.const (.int .u64 0)))⟩])
  (.cond (.tmp 20) (.reg [⟨(some 21), none, .p (.ld none (.global 0))⟩, ⟨none, none, .e (.bad)⟩]) .skip))
  (.seq (.seq (.reg [⟨(some 22), none, .p (.mov (.tmp 2))⟩, ⟨(some 23), none, .p (.mov (.tmp 0))⟩, ⟨(some 24), none, .p (.bin .leq (.tmp 22) (.tmp 23))⟩])
  (.cond (.tmp 24) (.reg [⟨(some 25), none, .p (.ld none (.global 1))⟩, ⟨none, none, .e (.bad)⟩]) .skip))
  (.seq (.seq (.reg [⟨(some 26), none, .p (.mov (.tmp 0))⟩, ⟨(some 27), none, .p (.bin .eql (.tmp 26) (.const (.int .u64 0)))⟩])
  (.cond (.tmp 27) (.seq (.dreg [⟨(some 28), none, .p (.mov (.tmp 1))⟩, ⟨(some 29), none, .p (.mov (.tmp 2))⟩, ⟨(some 30), none, .p (.bin .quo (.tmp 28) (.tmp 29))⟩, ⟨(some 31), none, .p (.mov (.tmp 1))⟩, ⟨(some 32), none, .p (.mov (.tmp 2))⟩, ⟨(some 33), none, .p (.bin .rem (.tmp 31) (.tmp 32))⟩, ⟨(some 6), none, .p (.mov (.tmp 30))⟩] [[⟨(some 7), none, .p (.mov (.tmp 33))⟩]])
  .ret) .skip))
  (.seq (.reg [⟨(some 34), none, .p (.mov (.tmp 2))⟩, ⟨(some 35), none, .e (.call 49 [(.tmp 34)])⟩, ⟨(some 36), none, .p (.cvt .u64 (.tmp 35))⟩, ⟨(some 8), none, .p (.mov (.tmp 36))⟩])
  (.seq (.reg [⟨(some 37), none, .p (.mov (.tmp 2))⟩, ⟨(some 38), none, .p (.mov (.tmp 8))⟩, ⟨(some 39), none, .p (.bin .shl (.tmp 37) (.tmp 38))⟩, ⟨(some 2), none, .p (.mov (.tmp 39))⟩])
  (.seq (.reg [⟨(some 40), none, .p (.mov (.tmp 2))⟩, ⟨(some 41), none, .p (.bin .shr (.tmp 40) (.const (.int .u64 32)))⟩, ⟨(some 9), none, .p (.mov (.tmp 41))⟩])
  (.seq (.reg [⟨(some 42), none, .p (.mov (.tmp 2))⟩, ⟨(some 43), none, .p (.bin .and (.tmp 42) (.const (.int .u64 4294967295)))⟩, ⟨(some 10), none, .p (.mov (.tmp 43))⟩])
  (.seq (.reg [⟨(some 44), none, .p (.mov (.tmp 0))⟩, ⟨(some 45), none, .p (.mov (.tmp 8))⟩, ⟨(some 46), none, .p (.bin .shl (.tmp 44) (.tmp 45))⟩, ⟨(some 47), none, .p (.mov (.tmp 1))⟩, ⟨(some 48), none, .p (.mov (.tmp 8))⟩, ⟨(some 49), none, .p (.bin .sub (.const (.int .u64 64)) (.tmp 48))⟩, ⟨(some 50), none, .p (.bin .shr (.tmp 47) (.tmp 49))⟩, ⟨(some 51), none, .p (.bin .or (.tmp 46) (.tmp 50))⟩, ⟨(some 11), none, .p (.mov (.tmp 51))⟩])
  (.seq (.reg [⟨(some 52), none, .p (.mov (.tmp 1))⟩, ⟨(some 53), none, .p (.mov (.tmp 8))⟩, ⟨(some 54), none, .p (.bin .shl (.tmp 52) (.tmp 53))⟩, ⟨(some 12), none, .p (.mov (.tmp 54))⟩])
  (.seq (.reg [⟨(some 55), none, .p (.mov (.tmp 12))⟩, ⟨(some 56), none, .p (.bin .shr (.tmp 55) (.const (.int .u64 32)))⟩, ⟨(some 13), none, .p (.mov (.tmp 56))⟩])
  (.seq (.reg [⟨(some 57), none, .p (.mov (.tmp 12))⟩, ⟨(some 58), none, .p (.bin .and (.tmp 57) (.const (.int .u64 4294967295)))⟩, ⟨(some 14), none, .p (.mov (.tmp 58))⟩])
  (.seq (.reg [⟨(some 59), none, .p (.mov (.tmp 11))⟩, ⟨(some 60), none, .p (.mov (.tmp 9))⟩, ⟨(some 61), none, .p (.bin .quo (.tmp 59) (.tmp 60))⟩, ⟨(some 15), none, .p (.mov (.tmp 61))⟩])
  (.seq (.reg [⟨(some 62), none, .p (.mov (.tmp 11))⟩, ⟨(some 63), none, .p (.mov (.tmp 15))⟩, ⟨(some 64), none, .p (.mov (.tmp 9))⟩, ⟨(some 65), none, .p (.bin .mul (.tmp 63) (.tmp 64))⟩, ⟨(some 66), none, .p (.bin .sub (.tmp 62) (.tmp 65))⟩, ⟨(some 16), none, .p (.mov (.tmp 66))⟩])
  (.seqj (.block 0
  (.loop lb39_1))
  (.seq (.reg [⟨(some 86), none, .p (.mov (.tmp 11))⟩, ⟨(some 87), none, .p (.bin .mul (.tmp 86) (.const (.int .u64 4294967296)))⟩, ⟨(some 88), none, .p (.mov (.tmp 13))⟩, ⟨(some 89), none, .p (.bin .add (.tmp 87) (.tmp 88))⟩, ⟨(some 90), none, .p (.mov (.tmp 15))⟩, ⟨(some 91), none, .p (.mov (.tmp 2))⟩, ⟨(some 92), none, .p (.bin .mul (.tmp 90) (.tmp 91))⟩, ⟨(some 93), none, .p (.bin .sub (.tmp 89) (.tmp 92))⟩, ⟨(some 17), none, .p (.mov (.tmp 93))⟩])
  (.seq (.reg [⟨(some 94), none, .p (.mov (.tmp 17))⟩, ⟨(some 95), none, .p (.mov (.tmp 9))⟩, ⟨(some 96), none, .p (.bin .quo (.tmp 94) (.tmp 95))⟩, ⟨(some 18), none, .p (.mov (.tmp 96))⟩])
  (.seq (.reg [⟨(some 97), none, .p (.mov (.tmp 17))⟩, ⟨(some 98), none, .p (.mov (.tmp 18))⟩, ⟨(some 99), none, .p (.mov (.tmp 9))⟩, ⟨(some 100), none, .p (.bin .mul (.tmp 98) (.tmp 99))⟩, ⟨(some 101), none, .p (.bin .sub (.tmp 97) (.tmp 100))⟩, ⟨(some 16), none, .p (.mov (.tmp 101))⟩])
  (.seq (.block 2
  (.loop lb39_0))
  (.seq (.reg [⟨(some 121), none, .p (.mov (.tmp 15))⟩, ⟨(some 122), none, .p (.bin .mul (.tmp 121) (.const (.int .u64 4294967296)))⟩, ⟨(some 123), none, .p (.mov (.tmp 18))⟩, ⟨(some 124), none, .p (.bin .add (.tmp 122) (.tmp 123))⟩, ⟨(some 125), none, .p (.mov (.tmp 17))⟩, ⟨(some 126), none, .p (.bin .mul (.tmp 125) (.const (.int .u64 4294967296)))⟩, ⟨(some 127), none, .p (.mov (.tmp 14))⟩, ⟨(some 128), none, .p (.bin .add (.tmp 126) (.tmp 127))⟩, ⟨(some 129), none, .p (.mov (.tmp 18))⟩, ⟨(some 130), none, .p (.mov (.tmp 2))⟩, ⟨(some 131), none, .p (.bin .mul (.tmp 129) (.tmp 130))⟩, ⟨(some 132), none, .p (.bin .sub (.tmp 128) (.tmp 131))⟩, ⟨(some 133), none, .p (.mov (.tmp 8))⟩, ⟨(some 134), none, .p (.bin .shr (.tmp 132) (.tmp 133))⟩, ⟨(some 6), none, .p (.mov (.tmp 124))⟩, ⟨(some 7), none, .p (.mov (.tmp 134))⟩])
  .ret))))))))))))))))))))
def rf39 : List RX := [.tmp 6, .tmp 7]
set_option maxRecDepth 100000 in
theorem comp39 : cFn Tryd.prog Tryd.f39 = some (erase cf39, rf39) := by kernel_rfl
def cf49 : LC :=
  (.seq (.reg [⟨(some 2), none, .p (.mov (.const (.int .i64 0)))⟩])
  (.seq (.reg [⟨(some 3), none, .p (.mov (.tmp 0))⟩, ⟨(some 4), none, .e (.call 61 [(.tmp 3)])⟩, ⟨(some 5), none, .p (.bin .sub (.const (.int .i64 64)) (.tmp 4))⟩, ⟨(some 2), none, .p (.mov (.tmp 5))⟩])
  .ret))
def rf49 : List RX := [.tmp 2]
set_option maxRecDepth 100000 in
theorem comp49 : cFn Tryd.prog Tryd.f49 = some (erase cf49, rf49) := by kernel_rfl
def cf61 : LC :=
  (.seq (.reg [⟨(some 2), none, .p (.mov (.const (.int .i64 0)))⟩])
  (.seq (.seq (.reg [⟨(some 3), none, .p (.mov (.tmp 0))⟩, ⟨(some 4), none, .p (.bin .geq (.tmp 3) (.const (.int .u64 4294967296)))⟩])
  (.cond (.tmp 4) (.seq (.reg [⟨(some 5), none, .p (.mov (.tmp 0))⟩, ⟨(some 6), none, .p (.bin .shr (.tmp 5) (.const (.int .u64 32)))⟩, ⟨(some 0), none, .p (.mov (.tmp 6))⟩])
  (.reg [⟨(some 2), none, .p (.mov (.const (.int .i64 32)))⟩])) .skip))
  (.seq (.seq (.reg [⟨(some 7), none, .p (.mov (.tmp 0))⟩, ⟨(some 8), none, .p (.bin .geq (.tmp 7) (.const (.int .u64 65536)))⟩])
  (.cond (.tmp 8) (.seq (.reg [⟨(some 9), none, .p (.mov (.tmp 0))⟩, ⟨(some 10), none, .p (.bin .shr (.tmp 9) (.const (.int .u64 16)))⟩, ⟨(some 0), none, .p (.mov (.tmp 10))⟩])
  (.reg [⟨(some 11), none, .p (.mov (.tmp 2))⟩, ⟨(some 12), none, .p (.bin .add (.tmp 11) (.const (.int .i64 16)))⟩, ⟨(some 2), none, .p (.mov (.tmp 12))⟩])) .skip))
  (.seq (.seq (.reg [⟨(some 13), none, .p (.mov (.tmp 0))⟩, ⟨(some 14), none, .p (.bin .geq (.tmp 13) (.const (.int .u64 256)))⟩])
  (.cond (.tmp 14) (.seq (.reg [⟨(some 15), none, .p (.mov (.tmp 0))⟩, ⟨(some 16), none, .p (.bin .shr (.tmp 15) (.const (.int .u64 8)))⟩, ⟨(some 0), none, .p (.mov (.tmp 16))⟩])
  (.reg [⟨(some 17), none, .p (.mov (.tmp 2))⟩, ⟨(some 18), none, .p (.bin .add (.tmp 17) (.const (.int .i64 8)))⟩, ⟨(some 2), none, .p (.mov (.tmp 18))⟩])) .skip))
  (.seq (.reg [⟨(some 19), none, .p (.mov (.tmp 2))⟩, ⟨(some 20), none, .p (.mov (.tmp 0))⟩, ⟨(some 21), none, .p (.cvt .u8 (.tmp 20))⟩, ⟨(some 22), none, .p (.idxs (.const (.string ⟨#[0, 1, 2, 2, 3, 3, 3, 3, 4, 4, 4, 4, 4, 4, 4, 4, 5, 5, 5, 5, 5, 5, 5, 5, 5, 5, 5, 5, 5, 5, 5, 5, 6, 6, 6, 6, 6, 6, 6, 6, 6, 6, 6, 6, 6, 6, 6, 6, 6, 6, 6, 6, 6, 6, 6, 6, 6, 6, 6, 6, 6, 6, 6, 6, 7, 7, 7, 7, 7, 7, 7, 7, 7, 7, 7, 7, 7, 7, 7, 7, 7, 7, 7, 7, 7, 7, 7, 7, 7, 7, 7, 7, 7, 7, 7, 7, 7, 7, 7, 7, 7, 7, 7, 7, 7, 7, 7, 7, 7, 7, 7, 7, 7, 7, 7, 7, 7, 7, 7, 7, 7, 7, 7, 7, 7, 7, 7, 7, 8, 8, 8, 8, 8, 8, 8, 8, 8, 8, 8, 8, 8, 8, 8, 8, 8, 8, 8, 8, 8, 8, 8, 8, 8, 8, 8, 8, 8, 8, 8, 8, 8, 8, 8, 8, 8, 8, 8, 8, 8, 8, 8, 8, 8, 8, 8, 8, 8, 8, 8, 8, 8, 8, 8, 8, 8, 8, 8, 8, 8, 8, 8, 8, 8, 8, 8, 8, 8, 8, 8, 8, 8, 8, 8, 8, 8, 8, 8, 8, 8, 8, 8, 8, 8, 8, 8, 8, 8, 8, 8, 8, 8, 8, 8, 8, 8, 8, 8, 8, 8, 8, 8, 8, 8, 8, 8, 8, 8, 8, 8, 8, 8, 8, 8, 8, 8, 8, 8, 8, 8, 8, 8, 8, 8, 8, 8, 8]⟩)) (.tmp 21))⟩, ⟨(some 23), none, .p (.cvt .i64 (.tmp 22))⟩, ⟨(some 24), none, .p (.bin .add (.tmp 19) (.tmp 23))⟩, ⟨(some 2), none, .p (.mov (.tmp 24))⟩])
  .ret)))))
def rf61 : List RX := [.tmp 2]
set_option maxRecDepth 100000 in
theorem comp61 : cFn Tryd.prog Tryd.f61 = some (erase cf61, rf61) := by kernel_rfl
end Go.Proofs.YtfhifkcbdpgomaaDoor
namespace Go.Proofs.YtfhifkcbdpgomaaDoor
end Go.Proofs.YtfhifkcbdpgomaaDoor

