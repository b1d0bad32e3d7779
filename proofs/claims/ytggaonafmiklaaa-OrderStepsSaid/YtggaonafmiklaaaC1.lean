/- The functions of this seat in the lifted layer's own small language. Conditions: none. -/
import Derived.Test.YtggaonafmiklaaaL20
import Derived.KernelRfl
namespace Go.Proofs.Ytggaonafmiklaaa
/-- fairlink fairlinklaw17.OrderOf -/
def cf3 : LC :=
  (.seq (.reg [⟨(some 3), none, .e (.box (.tmp 0))⟩, ⟨(some 6), none, .p (.mov (.const (.bool false)))⟩])
  (.seq (.seq (.reg [⟨(some 9), none, .e (.call 9 [])⟩, ⟨(some 10), none, .p (.un .not (.tmp 9))⟩, ⟨(some 11), none, .p (.mov (.tmp 10))⟩, ⟨(some 12), (some (11, false)), .p (.ld (some 2) (.tmp 3))⟩, ⟨(some 13), (some (11, false)), .e (.call 10 [(.tmp 12)])⟩, ⟨(some 14), (some (11, false)), .p (.un .not (.tmp 13))⟩, ⟨(some 15), none, .p (.pick (.tmp 11) (.const (.bool true)) (.tmp 14))⟩, ⟨(some 16), none, .p (.mov (.tmp 15))⟩, ⟨(some 17), (some (16, false)), .p (.mov (.tmp 1))⟩, ⟨(some 18), (some (16, false)), .p (.len 1 (.tmp 17))⟩, ⟨(some 19), (some (16, false)), .p (.bin .gtr (.tmp 18) (.const (.int .i64 40)))⟩, ⟨(some 20), none, .p (.pick (.tmp 16) (.const (.bool true)) (.tmp 19))⟩])
  (.cond (.tmp 20) (.seq (.reg [⟨(some 21), none, .e (.call 9 [])⟩, ⟨(some 6), none, .p (.mov (.tmp 21))⟩])
  .ret) .skip))
  (.seq (.reg [⟨(some 23), none, .p (.ld (some 2) (.tmp 3))⟩, ⟨(some 24), none, .p (.mov (.tmp 1))⟩, ⟨(some 25), none, .p (.mov (.tmp 2))⟩, ⟨(some 26), none, .e (.call 11 [(.tmp 23), (.tmp 24), (.tmp 25)])⟩, ⟨(some 22), none, .p (.mov (.tmp 26))⟩, ⟨(some 27), none, .p (.ext (.tmp 22) 0)⟩, ⟨(some 28), none, .p (.ext (.tmp 22) 1)⟩, ⟨(some 7), none, .e (.alc [(.slice none 0 0)])⟩, ⟨none, none, .e (.st 1 (.tmp 7) (.tmp 27))⟩, ⟨(some 8), none, .p (.mov (.tmp 28))⟩])
  (.seq (.block 0
  (.seq (.reg [⟨(some 30), none, .p (.ld (some 2) (.tmp 3))⟩, ⟨(some 31), none, .e (.call 12 [(.tmp 30)])⟩, ⟨(some 32), none, .p (.un .not (.tmp 31))⟩, ⟨(some 33), none, .p (.mov (.tmp 32))⟩, ⟨(some 34), (some (33, false)), .p (.mov (.tmp 1))⟩, ⟨(some 35), (some (33, false)), .p (.len 1 (.tmp 34))⟩, ⟨(some 36), (some (33, false)), .p (.fad 1 (.tmp 3))⟩, ⟨(some 37), (some (33, false)), .p (.ld none (.tmp 36))⟩, ⟨(some 38), (some (33, false)), .p (.len 1 (.tmp 37))⟩, ⟨(some 39), (some (33, false)), .p (.bin .neq (.tmp 35) (.tmp 38))⟩, ⟨(some 40), none, .p (.pick (.tmp 33) (.const (.bool true)) (.tmp 39))⟩, ⟨(some 29), none, .p (.mov (.tmp 40))⟩])
  (.cond (.tmp 29) (.seq (.reg [⟨(some 41), none, .p (.mov (.tmp 8))⟩, ⟨(some 42), none, .p (.bin .eql (.tmp 41) (.const (.int .i64 1)))⟩, ⟨(some 43), none, .p (.mov (.tmp 42))⟩, ⟨(some 44), (some (43, true)), .p (.fad 0 (.tmp 7))⟩, ⟨(some 45), (some (43, true)), .p (.ld none (.tmp 44))⟩, ⟨(some 46), (some (43, true)), .p (.len 1 (.tmp 45))⟩, ⟨(some 47), (some (43, true)), .p (.bin .eql (.tmp 46) (.const (.int .i64 0)))⟩, ⟨(some 48), none, .p (.pick (.tmp 43) (.tmp 47) (.const (.bool false)))⟩, ⟨(some 6), none, .p (.mov (.tmp 48))⟩])
  .ret) (.seq (.reg [⟨(some 50), none, .p (.mov (.tmp 2))⟩, ⟨(some 51), none, .p (.bin .lss (.tmp 50) (.const (.int .i64 0)))⟩, ⟨(some 52), none, .p (.mov (.tmp 51))⟩, ⟨(some 53), (some (52, false)), .p (.mov (.tmp 2))⟩, ⟨(some 54), (some (52, false)), .p (.fad 0 (.tmp 3))⟩, ⟨(some 55), (some (52, false)), .p (.ld none (.tmp 54))⟩, ⟨(some 56), (some (52, false)), .p (.len 1 (.tmp 55))⟩, ⟨(some 57), (some (52, false)), .p (.bin .geq (.tmp 53) (.tmp 56))⟩, ⟨(some 58), none, .p (.pick (.tmp 52) (.const (.bool true)) (.tmp 57))⟩, ⟨(some 49), none, .p (.mov (.tmp 58))⟩])
  (.cond (.tmp 49) (.seq (.reg [⟨(some 59), none, .p (.mov (.tmp 8))⟩, ⟨(some 60), none, .p (.bin .eql (.tmp 59) (.const (.int .i64 2)))⟩, ⟨(some 61), none, .p (.mov (.tmp 60))⟩, ⟨(some 62), (some (61, true)), .p (.fad 0 (.tmp 7))⟩, ⟨(some 63), (some (61, true)), .p (.ld none (.tmp 62))⟩, ⟨(some 64), (some (61, true)), .p (.len 1 (.tmp 63))⟩, ⟨(some 65), (some (61, true)), .p (.bin .eql (.tmp 64) (.const (.int .i64 0)))⟩, ⟨(some 66), none, .p (.pick (.tmp 61) (.tmp 65) (.const (.bool false)))⟩, ⟨(some 6), none, .p (.mov (.tmp 66))⟩])
  .ret) .skip)))))
  (.seq (.dreg [⟨(some 67), none, .p (.mov (.tmp 8))⟩, ⟨(some 68), none, .p (.bin .eql (.tmp 67) (.const (.int .i64 0)))⟩, ⟨(some 69), none, .p (.mov (.tmp 68))⟩, ⟨(some 70), (some (69, true)), .p (.fad 0 (.tmp 7))⟩, ⟨(some 71), (some (69, true)), .p (.ld none (.tmp 70))⟩, ⟨(some 72), (some (69, true)), .p (.ld (some 2) (.tmp 3))⟩, ⟨(some 73), (some (69, true)), .p (.mov (.tmp 1))⟩, ⟨(some 74), (some (69, true)), .p (.mov (.tmp 2))⟩, ⟨(some 75), (some (69, true)), .e (.call 14 [(.tmp 72), (.tmp 73), (.tmp 74)])⟩, ⟨(some 76), (some (69, true)), .e (.call 13 [(.tmp 71), (.tmp 75)])⟩, ⟨(some 77), none, .p (.pick (.tmp 69) (.tmp 76) (.const (.bool false)))⟩, ⟨(some 78), none, .p (.mov (.tmp 77))⟩, ⟨(some 79), (some (78, true)), .p (.ld (some 2) (.tmp 3))⟩, ⟨(some 80), (some (78, true)), .p (.ld (some 1) (.tmp 7))⟩, ⟨(some 81), (some (78, true)), .e (.call 15 [(.tmp 79), (.tmp 80)])⟩, ⟨(some 82), none, .p (.pick (.tmp 78) (.tmp 81) (.const (.bool false)))⟩, ⟨(some 6), none, .p (.mov (.tmp 82))⟩] true)
  .ret)))))
def rf3 : List RX := [.tmp 6]
set_option maxRecDepth 100000 in
theorem comp3 : cFn Try.prog Try.f3 = some (erase cf3, rf3) := by kernel_rfl
/-- fairlink fairlinklaw17.OrderUpward -/
def cf4 : LC :=
  (.seq (.reg [⟨(some 4), none, .e (.box (.tmp 0))⟩, ⟨(some 8), none, .p (.mov (.const (.bool false)))⟩])
  (.seq (.seq (.reg [⟨(some 12), none, .e (.call 9 [])⟩, ⟨(some 13), none, .p (.un .not (.tmp 12))⟩, ⟨(some 14), none, .p (.mov (.tmp 13))⟩, ⟨(some 15), (some (14, false)), .p (.ld (some 2) (.tmp 4))⟩, ⟨(some 16), (some (14, false)), .e (.call 10 [(.tmp 15)])⟩, ⟨(some 17), (some (14, false)), .p (.un .not (.tmp 16))⟩, ⟨(some 18), none, .p (.pick (.tmp 14) (.const (.bool true)) (.tmp 17))⟩, ⟨(some 19), none, .p (.mov (.tmp 18))⟩, ⟨(some 20), (some (19, false)), .p (.mov (.tmp 1))⟩, ⟨(some 21), (some (19, false)), .p (.len 1 (.tmp 20))⟩, ⟨(some 22), (some (19, false)), .p (.bin .gtr (.tmp 21) (.const (.int .i64 40)))⟩, ⟨(some 23), none, .p (.pick (.tmp 19) (.const (.bool true)) (.tmp 22))⟩])
  (.cond (.tmp 23) (.seq (.reg [⟨(some 24), none, .e (.call 9 [])⟩, ⟨(some 8), none, .p (.mov (.tmp 24))⟩])
  .ret) .skip))
  (.seq (.reg [⟨(some 26), none, .p (.ld (some 2) (.tmp 4))⟩, ⟨(some 27), none, .p (.mov (.tmp 1))⟩, ⟨(some 28), none, .p (.bld [(.slice none 0 0)] [(0, 1, (.tmp 27))])⟩, ⟨(some 29), none, .p (.mov (.tmp 2))⟩, ⟨(some 30), none, .p (.mov (.tmp 3))⟩, ⟨(some 31), none, .e (.call 16 [(.tmp 26), (.tmp 28), (.tmp 29), (.tmp 30)])⟩, ⟨(some 25), none, .p (.mov (.tmp 31))⟩, ⟨(some 32), none, .p (.ext (.tmp 25) 0)⟩, ⟨(some 33), none, .p (.ext (.tmp 25) 1)⟩, ⟨(some 9), none, .p (.mov (.tmp 32))⟩, ⟨(some 10), none, .p (.mov (.tmp 33))⟩])
  (.seq (.block 0
  (.seq (.reg [⟨(some 35), none, .p (.ld (some 2) (.tmp 4))⟩, ⟨(some 36), none, .e (.call 12 [(.tmp 35)])⟩, ⟨(some 37), none, .p (.un .not (.tmp 36))⟩, ⟨(some 38), none, .p (.mov (.tmp 37))⟩, ⟨(some 39), (some (38, false)), .p (.ld (some 2) (.tmp 4))⟩, ⟨(some 40), (some (38, false)), .p (.mov (.tmp 1))⟩, ⟨(some 41), (some (38, false)), .e (.call 17 [(.tmp 39), (.tmp 40)])⟩, ⟨(some 42), (some (38, false)), .p (.un .not (.tmp 41))⟩, ⟨(some 43), none, .p (.pick (.tmp 38) (.const (.bool true)) (.tmp 42))⟩, ⟨(some 34), none, .p (.mov (.tmp 43))⟩])
  (.cond (.tmp 34) (.seq (.reg [⟨(some 44), none, .p (.mov (.tmp 10))⟩, ⟨(some 45), none, .p (.bin .eql (.tmp 44) (.const (.int .i64 1)))⟩, ⟨(some 46), none, .p (.mov (.tmp 45))⟩, ⟨(some 47), (some (46, true)), .p (.mov (.tmp 9))⟩, ⟨(some 48), (some (46, true)), .p (.un .not (.tmp 47))⟩, ⟨(some 49), none, .p (.pick (.tmp 46) (.tmp 48) (.const (.bool false)))⟩, ⟨(some 8), none, .p (.mov (.tmp 49))⟩])
  .ret) (.seq (.reg [⟨(some 51), none, .p (.mov (.tmp 2))⟩, ⟨(some 52), none, .p (.bin .lss (.tmp 51) (.const (.int .i64 0)))⟩, ⟨(some 53), none, .p (.mov (.tmp 52))⟩, ⟨(some 54), (some (53, false)), .p (.mov (.tmp 2))⟩, ⟨(some 55), (some (53, false)), .p (.fad 1 (.tmp 4))⟩, ⟨(some 56), (some (53, false)), .p (.ld none (.tmp 55))⟩, ⟨(some 57), (some (53, false)), .p (.len 1 (.tmp 56))⟩, ⟨(some 58), (some (53, false)), .p (.bin .geq (.tmp 54) (.tmp 57))⟩, ⟨(some 59), none, .p (.pick (.tmp 53) (.const (.bool true)) (.tmp 58))⟩, ⟨(some 60), none, .p (.mov (.tmp 59))⟩, ⟨(some 61), (some (60, false)), .p (.ld (some 2) (.tmp 4))⟩, ⟨(some 62), (some (60, false)), .p (.mov (.tmp 2))⟩, ⟨(some 63), (some (60, false)), .p (.mov (.tmp 3))⟩, ⟨(some 64), (some (60, false)), .e (.call 18 [(.tmp 61), (.tmp 62), (.tmp 63)])⟩, ⟨(some 65), (some (60, false)), .p (.bin .lss (.tmp 64) (.const (.int .i64 0)))⟩, ⟨(some 66), none, .p (.pick (.tmp 60) (.const (.bool true)) (.tmp 65))⟩, ⟨(some 50), none, .p (.mov (.tmp 66))⟩])
  (.cond (.tmp 50) (.seq (.reg [⟨(some 67), none, .p (.mov (.tmp 10))⟩, ⟨(some 68), none, .p (.bin .eql (.tmp 67) (.const (.int .i64 2)))⟩, ⟨(some 69), none, .p (.mov (.tmp 68))⟩, ⟨(some 70), (some (69, true)), .p (.mov (.tmp 9))⟩, ⟨(some 71), (some (69, true)), .p (.un .not (.tmp 70))⟩, ⟨(some 72), none, .p (.pick (.tmp 69) (.tmp 71) (.const (.bool false)))⟩, ⟨(some 8), none, .p (.mov (.tmp 72))⟩])
  .ret) .skip)))))
  (.seq (.reg [⟨(some 73), none, .p (.ld (some 2) (.tmp 4))⟩, ⟨(some 74), none, .p (.mov (.tmp 2))⟩, ⟨(some 75), none, .p (.mov (.tmp 3))⟩, ⟨(some 76), none, .e (.call 18 [(.tmp 73), (.tmp 74), (.tmp 75)])⟩, ⟨(some 11), none, .p (.mov (.tmp 76))⟩])
  (.seq (.seq (.reg [⟨(some 77), none, .p (.mov (.tmp 1))⟩, ⟨(some 78), none, .p (.mov (.tmp 3))⟩, ⟨(some 79), none, .p (.iad 1 (.tmp 77) (.tmp 78))⟩, ⟨(some 80), none, .p (.ld none (.tmp 79))⟩, ⟨(some 81), none, .p (.bin .lss (.tmp 80) (.const (.int .i64 0)))⟩, ⟨(some 82), none, .p (.mov (.tmp 81))⟩, ⟨(some 83), (some (82, false)), .p (.mov (.tmp 1))⟩, ⟨(some 84), (some (82, false)), .p (.mov (.tmp 11))⟩, ⟨(some 85), (some (82, false)), .p (.iad 1 (.tmp 83) (.tmp 84))⟩, ⟨(some 86), (some (82, false)), .p (.ld none (.tmp 85))⟩, ⟨(some 87), (some (82, false)), .p (.bin .lss (.tmp 86) (.const (.int .i64 0)))⟩, ⟨(some 88), none, .p (.pick (.tmp 82) (.const (.bool true)) (.tmp 87))⟩])
  (.cond (.tmp 88) (.seq (.reg [⟨(some 89), none, .p (.mov (.tmp 10))⟩, ⟨(some 90), none, .p (.bin .eql (.tmp 89) (.const (.int .i64 12)))⟩, ⟨(some 91), none, .p (.mov (.tmp 90))⟩, ⟨(some 92), (some (91, true)), .p (.mov (.tmp 9))⟩, ⟨(some 93), (some (91, true)), .p (.un .not (.tmp 92))⟩, ⟨(some 94), none, .p (.pick (.tmp 91) (.tmp 93) (.const (.bool false)))⟩, ⟨(some 8), none, .p (.mov (.tmp 94))⟩])
  .ret) .skip))
  (.seq (.reg [⟨(some 95), none, .p (.mov (.tmp 10))⟩, ⟨(some 96), none, .p (.bin .eql (.tmp 95) (.const (.int .i64 0)))⟩, ⟨(some 97), none, .p (.mov (.tmp 96))⟩, ⟨(some 98), (some (97, true)), .p (.mov (.tmp 9))⟩, ⟨(some 99), (some (97, true)), .p (.mov (.tmp 1))⟩, ⟨(some 100), (some (97, true)), .p (.mov (.tmp 11))⟩, ⟨(some 101), (some (97, true)), .p (.mov (.tmp 3))⟩, ⟨(some 102), (some (97, true)), .e (.call 19 [(.tmp 99), (.tmp 100), (.tmp 101)])⟩, ⟨(some 103), (some (97, true)), .p (.binb false (.tmp 98) (.tmp 102))⟩, ⟨(some 104), none, .p (.pick (.tmp 97) (.tmp 103) (.const (.bool false)))⟩, ⟨(some 8), none, .p (.mov (.tmp 104))⟩])
  .ret)))))))
def rf4 : List RX := [.tmp 8]
set_option maxRecDepth 100000 in
theorem comp4 : cFn Try.prog Try.f4 = some (erase cf4, rf4) := by kernel_rfl
/-- fairlink fairlinklaw17.OrderTotal -/
def cf5 : LC :=
  (.seq (.reg [⟨(some 6), none, .e (.box (.tmp 0))⟩, ⟨(some 12), none, .p (.mov (.const (.bool false)))⟩])
  (.seq (.seq (.reg [⟨(some 19), none, .e (.call 9 [])⟩, ⟨(some 20), none, .p (.un .not (.tmp 19))⟩, ⟨(some 21), none, .p (.mov (.tmp 20))⟩, ⟨(some 22), (some (21, false)), .p (.ld (some 2) (.tmp 6))⟩, ⟨(some 23), (some (21, false)), .e (.call 10 [(.tmp 22)])⟩, ⟨(some 24), (some (21, false)), .p (.un .not (.tmp 23))⟩, ⟨(some 25), none, .p (.pick (.tmp 21) (.const (.bool true)) (.tmp 24))⟩, ⟨(some 26), none, .p (.mov (.tmp 25))⟩, ⟨(some 27), (some (26, false)), .p (.mov (.tmp 1))⟩, ⟨(some 28), (some (26, false)), .p (.len 1 (.tmp 27))⟩, ⟨(some 29), (some (26, false)), .p (.bin .gtr (.tmp 28) (.const (.int .i64 40)))⟩, ⟨(some 30), none, .p (.pick (.tmp 26) (.const (.bool true)) (.tmp 29))⟩])
  (.cond (.tmp 30) (.seq (.reg [⟨(some 31), none, .e (.call 9 [])⟩, ⟨(some 12), none, .p (.mov (.tmp 31))⟩])
  .ret) .skip))
  (.seq (.reg [⟨(some 33), none, .p (.ld (some 2) (.tmp 6))⟩, ⟨(some 34), none, .p (.mov (.tmp 1))⟩, ⟨(some 35), none, .p (.mov (.tmp 2))⟩, ⟨(some 36), none, .e (.call 11 [(.tmp 33), (.tmp 34), (.tmp 35)])⟩, ⟨(some 32), none, .p (.mov (.tmp 36))⟩, ⟨(some 37), none, .p (.ext (.tmp 32) 0)⟩, ⟨(some 38), none, .p (.ext (.tmp 32) 1)⟩, ⟨(some 13), none, .e (.alc [(.slice none 0 0)])⟩, ⟨none, none, .e (.st 1 (.tmp 13) (.tmp 37))⟩, ⟨(some 14), none, .p (.mov (.tmp 38))⟩])
  (.seq (.seq (.reg [⟨(some 39), none, .p (.mov (.tmp 14))⟩, ⟨(some 40), none, .p (.bin .neq (.tmp 39) (.const (.int .i64 0)))⟩])
  (.cond (.tmp 40) (.seq (.reg [⟨(some 12), none, .p (.mov (.const (.bool true)))⟩])
  .ret) .skip))
  (.seq (.reg [⟨(some 41), none, .p (.fad 0 (.tmp 6))⟩, ⟨(some 42), none, .p (.ld none (.tmp 41))⟩, ⟨(some 43), none, .p (.len 1 (.tmp 42))⟩, ⟨(some 15), none, .p (.mov (.tmp 43))⟩])
  (.seq (.seq (.reg [⟨(some 44), none, .p (.fad 0 (.tmp 13))⟩, ⟨(some 45), none, .p (.ld none (.tmp 44))⟩, ⟨(some 46), none, .p (.len 1 (.tmp 45))⟩, ⟨(some 47), none, .p (.mov (.tmp 15))⟩, ⟨(some 48), none, .p (.bin .neq (.tmp 46) (.tmp 47))⟩])
  (.cond (.tmp 48) (.seq (.reg [⟨(some 12), none, .p (.mov (.const (.bool false)))⟩])
  .ret) .skip))
  (.seq (.dreg [⟨(some 49), none, .p (.mov (.tmp 3))⟩, ⟨(some 50), none, .p (.cvt .i64 (.tmp 49))⟩, ⟨(some 51), none, .p (.mov (.tmp 15))⟩, ⟨(some 52), none, .p (.bin .rem (.tmp 50) (.tmp 51))⟩, ⟨(some 53), none, .p (.mov (.tmp 4))⟩, ⟨(some 54), none, .p (.cvt .i64 (.tmp 53))⟩, ⟨(some 55), none, .p (.mov (.tmp 15))⟩, ⟨(some 56), none, .p (.bin .rem (.tmp 54) (.tmp 55))⟩, ⟨(some 57), none, .p (.mov (.tmp 5))⟩, ⟨(some 58), none, .p (.cvt .i64 (.tmp 57))⟩, ⟨(some 59), none, .p (.mov (.tmp 15))⟩, ⟨(some 60), none, .p (.bin .rem (.tmp 58) (.tmp 59))⟩, ⟨(some 16), none, .p (.mov (.tmp 52))⟩, ⟨(some 17), none, .p (.mov (.tmp 56))⟩, ⟨(some 18), none, .p (.mov (.tmp 60))⟩] true)
  (.seq (.seq (.reg [⟨(some 61), none, .p (.ld (some 1) (.tmp 13))⟩, ⟨(some 62), none, .p (.mov (.tmp 16))⟩, ⟨(some 63), none, .p (.mov (.tmp 16))⟩, ⟨(some 64), none, .e (.call 20 [(.tmp 61), (.tmp 62), (.tmp 63)])⟩, ⟨(some 65), none, .p (.mov (.tmp 64))⟩, ⟨(some 66), (some (65, false)), .p (.ld (some 1) (.tmp 13))⟩, ⟨(some 67), (some (65, false)), .p (.mov (.tmp 16))⟩, ⟨(some 68), (some (65, false)), .p (.mov (.tmp 17))⟩, ⟨(some 69), (some (65, false)), .e (.call 20 [(.tmp 66), (.tmp 67), (.tmp 68)])⟩, ⟨(some 70), (some (65, false)), .p (.mov (.tmp 69))⟩, ⟨(some 71), (some (70, true)), .p (.ld (some 1) (.tmp 13))⟩, ⟨(some 72), (some (70, true)), .p (.mov (.tmp 17))⟩, ⟨(some 73), (some (70, true)), .p (.mov (.tmp 16))⟩, ⟨(some 74), (some (70, true)), .e (.call 20 [(.tmp 71), (.tmp 72), (.tmp 73)])⟩, ⟨(some 75), (some (65, false)), .p (.pick (.tmp 70) (.tmp 74) (.const (.bool false)))⟩, ⟨(some 76), none, .p (.pick (.tmp 65) (.const (.bool true)) (.tmp 75))⟩, ⟨(some 77), none, .p (.mov (.tmp 76))⟩, ⟨(some 78), (some (77, false)), .p (.ld (some 1) (.tmp 13))⟩, ⟨(some 79), (some (77, false)), .p (.mov (.tmp 16))⟩, ⟨(some 80), (some (77, false)), .p (.mov (.tmp 17))⟩, ⟨(some 81), (some (77, false)), .e (.call 20 [(.tmp 78), (.tmp 79), (.tmp 80)])⟩, ⟨(some 82), (some (77, false)), .p (.mov (.tmp 81))⟩, ⟨(some 83), (some (82, true)), .p (.ld (some 1) (.tmp 13))⟩, ⟨(some 84), (some (82, true)), .p (.mov (.tmp 17))⟩, ⟨(some 85), (some (82, true)), .p (.mov (.tmp 18))⟩, ⟨(some 86), (some (82, true)), .e (.call 20 [(.tmp 83), (.tmp 84), (.tmp 85)])⟩, ⟨(some 87), (some (77, false)), .p (.pick (.tmp 82) (.tmp 86) (.const (.bool false)))⟩, ⟨(some 88), (some (77, false)), .p (.mov (.tmp 87))⟩, ⟨(some 89), (some (88, true)), .p (.ld (some 1) (.tmp 13))⟩, ⟨(some 90), (some (88, true)), .p (.mov (.tmp 16))⟩, ⟨(some 91), (some (88, true)), .p (.mov (.tmp 18))⟩, ⟨(some 92), (some (88, true)), .e (.call 20 [(.tmp 89), (.tmp 90), (.tmp 91)])⟩, ⟨(some 93), (some (88, true)), .p (.un .not (.tmp 92))⟩, ⟨(some 94), (some (77, false)), .p (.pick (.tmp 88) (.tmp 93) (.const (.bool false)))⟩, ⟨(some 95), none, .p (.pick (.tmp 77) (.const (.bool true)) (.tmp 94))⟩])
  (.cond (.tmp 95) (.seq (.reg [⟨(some 12), none, .p (.mov (.const (.bool false)))⟩])
  .ret) .skip))
  (.seq (.seq (.reg [⟨(some 96), none, .p (.fad 0 (.tmp 13))⟩, ⟨(some 97), none, .p (.ld none (.tmp 96))⟩, ⟨(some 98), none, .p (.mov (.tmp 16))⟩, ⟨(some 99), none, .p (.iad 1 (.tmp 97) (.tmp 98))⟩, ⟨(some 100), none, .p (.ld none (.tmp 99))⟩, ⟨(some 101), none, .p (.bin .lss (.tmp 100) (.const (.int .i64 0)))⟩])
  (.cond (.tmp 101) (.seq (.reg [⟨(some 102), none, .p (.ld (some 1) (.tmp 13))⟩, ⟨(some 103), none, .p (.mov (.tmp 16))⟩, ⟨(some 104), none, .p (.mov (.tmp 17))⟩, ⟨(some 105), none, .e (.call 20 [(.tmp 102), (.tmp 103), (.tmp 104)])⟩, ⟨(some 106), none, .p (.un .not (.tmp 105))⟩, ⟨(some 107), none, .p (.mov (.tmp 106))⟩, ⟨(some 108), (some (107, true)), .p (.ld (some 1) (.tmp 13))⟩, ⟨(some 109), (some (107, true)), .p (.mov (.tmp 17))⟩, ⟨(some 110), (some (107, true)), .p (.mov (.tmp 16))⟩, ⟨(some 111), (some (107, true)), .e (.call 20 [(.tmp 108), (.tmp 109), (.tmp 110)])⟩, ⟨(some 112), (some (107, true)), .p (.un .not (.tmp 111))⟩, ⟨(some 113), none, .p (.pick (.tmp 107) (.tmp 112) (.const (.bool false)))⟩, ⟨(some 12), none, .p (.mov (.tmp 113))⟩])
  .ret) .skip))
  (.seq (.reg [⟨(some 114), none, .p (.mov (.tmp 16))⟩, ⟨(some 115), none, .p (.mov (.tmp 2))⟩, ⟨(some 116), none, .p (.bin .eql (.tmp 114) (.tmp 115))⟩, ⟨(some 117), none, .p (.mov (.tmp 116))⟩, ⟨(some 118), (some (117, false)), .p (.ld (some 1) (.tmp 13))⟩, ⟨(some 119), (some (117, false)), .p (.mov (.tmp 2))⟩, ⟨(some 120), (some (117, false)), .p (.mov (.tmp 16))⟩, ⟨(some 121), (some (117, false)), .e (.call 20 [(.tmp 118), (.tmp 119), (.tmp 120)])⟩, ⟨(some 122), (some (117, false)), .p (.mov (.tmp 121))⟩, ⟨(some 123), (some (122, true)), .p (.fad 0 (.tmp 13))⟩, ⟨(some 124), (some (122, true)), .p (.ld none (.tmp 123))⟩, ⟨(some 125), (some (122, true)), .p (.mov (.tmp 17))⟩, ⟨(some 126), (some (122, true)), .p (.iad 1 (.tmp 124) (.tmp 125))⟩, ⟨(some 127), (some (122, true)), .p (.ld none (.tmp 126))⟩, ⟨(some 128), (some (122, true)), .p (.bin .lss (.tmp 127) (.const (.int .i64 0)))⟩, ⟨(some 129), (some (122, true)), .p (.mov (.tmp 128))⟩, ⟨(some 130), (some (129, false)), .p (.mov (.tmp 16))⟩, ⟨(some 131), (some (129, false)), .p (.mov (.tmp 17))⟩, ⟨(some 132), (some (129, false)), .p (.bin .eql (.tmp 130) (.tmp 131))⟩, ⟨(some 133), (some (122, true)), .p (.pick (.tmp 129) (.const (.bool true)) (.tmp 132))⟩, ⟨(some 134), (some (122, true)), .p (.mov (.tmp 133))⟩, ⟨(some 135), (some (134, false)), .p (.ld (some 1) (.tmp 13))⟩, ⟨(some 136), (some (134, false)), .p (.mov (.tmp 16))⟩, ⟨(some 137), (some (134, false)), .p (.mov (.tmp 17))⟩, ⟨(some 138), (some (134, false)), .e (.call 20 [(.tmp 135), (.tmp 136), (.tmp 137)])⟩, ⟨(some 139), (some (122, true)), .p (.pick (.tmp 134) (.const (.bool true)) (.tmp 138))⟩, ⟨(some 140), (some (122, true)), .p (.mov (.tmp 139))⟩, ⟨(some 141), (some (140, false)), .p (.ld (some 1) (.tmp 13))⟩, ⟨(some 142), (some (140, false)), .p (.mov (.tmp 17))⟩, ⟨(some 143), (some (140, false)), .p (.mov (.tmp 16))⟩, ⟨(some 144), (some (140, false)), .e (.call 20 [(.tmp 141), (.tmp 142), (.tmp 143)])⟩, ⟨(some 145), (some (122, true)), .p (.pick (.tmp 140) (.const (.bool true)) (.tmp 144))⟩, ⟨(some 146), (some (117, false)), .p (.pick (.tmp 122) (.tmp 145) (.const (.bool false)))⟩, ⟨(some 147), none, .p (.pick (.tmp 117) (.const (.bool true)) (.tmp 146))⟩, ⟨(some 12), none, .p (.mov (.tmp 147))⟩])
  .ret))))))))))
def rf5 : List RX := [.tmp 12]
set_option maxRecDepth 100000 in
theorem comp5 : cFn Try.prog Try.f5 = some (erase cf5, rf5) := by kernel_rfl
def lb6_0 : LC :=
  (.seq (.reg [⟨(some 157), none, .p (.bin .lss (.tmp 156) (.tmp 155))⟩])
  (.seq (.cond (.tmp 157) .skip (.exit 2))
  (.seq (.block 3
  (.seq (.reg [⟨(some 158), none, .p (.mov (.tmp 156))⟩, ⟨(some 159), none, .p (.iad 1 (.tmp 154) (.tmp 156))⟩, ⟨(some 160), none, .p (.ld none (.tmp 159))⟩, ⟨(some 18), none, .p (.mov (.tmp 158))⟩, ⟨(some 19), none, .p (.mov (.tmp 160))⟩])
  (.seq (.reg [⟨(some 161), none, .p (.mov (.tmp 19))⟩, ⟨(some 162), none, .p (.bin .geq (.tmp 161) (.const (.int .i64 0)))⟩, ⟨(some 163), none, .p (.mov (.tmp 162))⟩, ⟨(some 164), (some (163, true)), .p (.mov (.tmp 9))⟩, ⟨(some 165), (some (163, true)), .p (.mov (.tmp 18))⟩, ⟨(some 166), (some (163, true)), .p (.iad 1 (.tmp 164) (.tmp 165))⟩, ⟨(some 167), (some (163, true)), .p (.ld none (.tmp 166))⟩, ⟨(some 168), (some (163, true)), .p (.mov (.tmp 18))⟩, ⟨(some 169), (some (163, true)), .p (.mov (.tmp 2))⟩, ⟨(some 170), (some (163, true)), .p (.bin .neq (.tmp 168) (.tmp 169))⟩, ⟨(some 171), (some (163, true)), .p (.binb true (.tmp 167) (.tmp 170))⟩, ⟨(some 172), none, .p (.pick (.tmp 163) (.tmp 171) (.const (.bool false)))⟩])
  (.cond (.tmp 172) (.seq (.reg [⟨(some 6), none, .p (.mov (.const (.bool false)))⟩])
  .ret) .skip))))
  (.reg [⟨(some 173), none, .p (.bin .add (.tmp 156) (.const (.int .i64 1)))⟩, ⟨(some 156), none, .p (.mov (.tmp 173))⟩]))))
def lb6_1 : LC :=
  (.seq (.reg [⟨(some 50), none, .p (.bin .lss (.tmp 49) (.tmp 48))⟩])
  (.seq (.cond (.tmp 50) .skip (.exit 0))
  (.seq (.block 1
  (.seq (.reg [⟨(some 51), none, .p (.mov (.tmp 49))⟩, ⟨(some 52), none, .p (.iad 6 (.tmp 47) (.tmp 49))⟩, ⟨(some 53), none, .p (.ld (some 6) (.tmp 52))⟩, ⟨(some 11), none, .e (.alc [(.int .i64 0), (.int .i64 0), (.int .i64 0), (.int .i64 0), (.int .i64 0), (.int .i64 0)])⟩, ⟨(some 10), none, .p (.mov (.tmp 51))⟩, ⟨none, none, .e (.st 6 (.tmp 11) (.tmp 53))⟩])
  (.seq (.reg [⟨(some 55), none, .p (.ld (some 2) (.tmp 3))⟩, ⟨(some 56), none, .p (.ld (some 1) (.tmp 7))⟩, ⟨(some 57), none, .p (.mov (.tmp 10))⟩, ⟨(some 58), none, .p (.fad 0 (.tmp 11))⟩, ⟨(some 59), none, .p (.ld none (.tmp 58))⟩, ⟨(some 60), none, .e (.call 16 [(.tmp 55), (.tmp 56), (.tmp 57), (.tmp 59)])⟩, ⟨(some 54), none, .p (.mov (.tmp 60))⟩, ⟨(some 61), none, .p (.ext (.tmp 54) 0)⟩, ⟨(some 62), none, .p (.ext (.tmp 54) 1)⟩, ⟨(some 12), none, .p (.mov (.tmp 61))⟩, ⟨(some 13), none, .p (.mov (.tmp 62))⟩])
  (.seq (.reg [⟨(some 64), none, .p (.ld (some 2) (.tmp 3))⟩, ⟨(some 65), none, .p (.ld (some 1) (.tmp 7))⟩, ⟨(some 66), none, .p (.mov (.tmp 10))⟩, ⟨(some 67), none, .p (.fad 2 (.tmp 11))⟩, ⟨(some 68), none, .p (.ld none (.tmp 67))⟩, ⟨(some 69), none, .e (.call 16 [(.tmp 64), (.tmp 65), (.tmp 66), (.tmp 68)])⟩, ⟨(some 63), none, .p (.mov (.tmp 69))⟩, ⟨(some 70), none, .p (.ext (.tmp 63) 0)⟩, ⟨(some 71), none, .p (.ext (.tmp 63) 1)⟩, ⟨(some 14), none, .p (.mov (.tmp 70))⟩, ⟨(some 15), none, .p (.mov (.tmp 71))⟩])
  (.seq (.dreg [⟨(some 72), none, .p (.fad 0 (.tmp 7))⟩, ⟨(some 73), none, .p (.ld none (.tmp 72))⟩, ⟨(some 74), none, .p (.fad 0 (.tmp 11))⟩, ⟨(some 75), none, .p (.ld none (.tmp 74))⟩, ⟨(some 76), none, .p (.iad 1 (.tmp 73) (.tmp 75))⟩, ⟨(some 77), none, .p (.ld none (.tmp 76))⟩, ⟨(some 78), none, .p (.fad 0 (.tmp 7))⟩, ⟨(some 79), none, .p (.ld none (.tmp 78))⟩, ⟨(some 80), none, .p (.fad 2 (.tmp 11))⟩, ⟨(some 81), none, .p (.ld none (.tmp 80))⟩, ⟨(some 82), none, .p (.iad 1 (.tmp 79) (.tmp 81))⟩, ⟨(some 83), none, .p (.ld none (.tmp 82))⟩, ⟨(some 16), none, .p (.mov (.tmp 77))⟩, ⟨(some 17), none, .p (.mov (.tmp 83))⟩] true)
  (.seq (.seq (.reg [⟨(some 84), none, .p (.mov (.tmp 1))⟩, ⟨(some 85), none, .p (.mov (.tmp 10))⟩, ⟨(some 86), none, .p (.iad 1 (.tmp 84) (.tmp 85))⟩, ⟨(some 87), none, .p (.ld none (.tmp 86))⟩, ⟨(some 88), none, .p (.mov (.tmp 87))⟩, ⟨(some 89), (some (88, true)), .p (.mov (.tmp 16))⟩, ⟨(some 90), (some (88, true)), .p (.bin .lss (.tmp 89) (.const (.int .i64 0)))⟩, ⟨(some 91), (some (88, true)), .p (.mov (.tmp 17))⟩, ⟨(some 92), (some (88, true)), .p (.bin .lss (.tmp 91) (.const (.int .i64 0)))⟩, ⟨(some 93), (some (88, true)), .p (.binb true (.tmp 90) (.tmp 92))⟩, ⟨(some 94), (some (88, true)), .p (.mov (.tmp 93))⟩, ⟨(some 95), (some (94, false)), .p (.mov (.tmp 16))⟩, ⟨(some 96), (some (94, false)), .p (.mov (.tmp 17))⟩, ⟨(some 97), (some (94, false)), .p (.bin .sub (.tmp 95) (.tmp 96))⟩, ⟨(some 98), (some (94, false)), .p (.bin .gtr (.tmp 97) (.const (.int .i64 1)))⟩, ⟨(some 99), (some (88, true)), .p (.pick (.tmp 94) (.const (.bool true)) (.tmp 98))⟩, ⟨(some 100), (some (88, true)), .p (.mov (.tmp 99))⟩, ⟨(some 101), (some (100, false)), .p (.mov (.tmp 17))⟩, ⟨(some 102), (some (100, false)), .p (.mov (.tmp 16))⟩, ⟨(some 103), (some (100, false)), .p (.bin .sub (.tmp 101) (.tmp 102))⟩, ⟨(some 104), (some (100, false)), .p (.bin .gtr (.tmp 103) (.const (.int .i64 1)))⟩, ⟨(some 105), (some (88, true)), .p (.pick (.tmp 100) (.const (.bool true)) (.tmp 104))⟩, ⟨(some 106), none, .p (.pick (.tmp 88) (.tmp 105) (.const (.bool false)))⟩])
  (.cond (.tmp 106) (.seq (.reg [⟨(some 6), none, .p (.mov (.const (.bool false)))⟩])
  .ret) .skip))
  (.seq (.seq (.reg [⟨(some 107), none, .p (.mov (.tmp 16))⟩, ⟨(some 108), none, .p (.bin .lss (.tmp 107) (.const (.int .i64 0)))⟩, ⟨(some 109), none, .p (.mov (.tmp 108))⟩, ⟨(some 110), (some (109, false)), .p (.mov (.tmp 17))⟩, ⟨(some 111), (some (109, false)), .p (.bin .lss (.tmp 110) (.const (.int .i64 0)))⟩, ⟨(some 112), none, .p (.pick (.tmp 109) (.const (.bool true)) (.tmp 111))⟩])
  (.cond (.tmp 112) (.seq (.seq (.reg [⟨(some 113), none, .p (.mov (.tmp 13))⟩, ⟨(some 114), none, .p (.bin .neq (.tmp 113) (.const (.int .i64 12)))⟩, ⟨(some 115), none, .p (.mov (.tmp 114))⟩, ⟨(some 116), (some (115, false)), .p (.mov (.tmp 15))⟩, ⟨(some 117), (some (115, false)), .p (.bin .neq (.tmp 116) (.const (.int .i64 12)))⟩, ⟨(some 118), none, .p (.pick (.tmp 115) (.const (.bool true)) (.tmp 117))⟩])
  (.cond (.tmp 118) (.seq (.reg [⟨(some 6), none, .p (.mov (.const (.bool false)))⟩])
  .ret) .skip))
  (.exit 1)) .skip))
  (.seq (.seq (.reg [⟨(some 119), none, .p (.mov (.tmp 13))⟩, ⟨(some 120), none, .p (.bin .neq (.tmp 119) (.const (.int .i64 0)))⟩, ⟨(some 121), none, .p (.mov (.tmp 120))⟩, ⟨(some 122), (some (121, false)), .p (.mov (.tmp 15))⟩, ⟨(some 123), (some (121, false)), .p (.bin .neq (.tmp 122) (.const (.int .i64 0)))⟩, ⟨(some 124), none, .p (.pick (.tmp 121) (.const (.bool true)) (.tmp 123))⟩, ⟨(some 125), none, .p (.mov (.tmp 124))⟩, ⟨(some 126), (some (125, false)), .p (.mov (.tmp 12))⟩, ⟨(some 127), (some (125, false)), .p (.mov (.tmp 14))⟩, ⟨(some 128), (some (125, false)), .p (.binb false (.tmp 126) (.tmp 127))⟩, ⟨(some 129), none, .p (.pick (.tmp 125) (.const (.bool true)) (.tmp 128))⟩])
  (.cond (.tmp 129) (.seq (.reg [⟨(some 6), none, .p (.mov (.const (.bool false)))⟩])
  .ret) .skip))
  (.seq (.seq (.reg [⟨(some 130), none, .p (.mov (.tmp 1))⟩, ⟨(some 131), none, .p (.mov (.tmp 10))⟩, ⟨(some 132), none, .p (.iad 1 (.tmp 130) (.tmp 131))⟩, ⟨(some 133), none, .p (.ld none (.tmp 132))⟩, ⟨(some 134), none, .p (.mov (.tmp 133))⟩, ⟨(some 135), (some (134, true)), .p (.mov (.tmp 12))⟩, ⟨(some 136), none, .p (.pick (.tmp 134) (.tmp 135) (.const (.bool false)))⟩])
  (.cond (.tmp 136) (.reg [⟨(some 137), none, .p (.mov (.tmp 9))⟩, ⟨(some 138), none, .p (.fad 0 (.tmp 11))⟩, ⟨(some 139), none, .p (.ld none (.tmp 138))⟩, ⟨(some 140), none, .p (.iad 1 (.tmp 137) (.tmp 139))⟩, ⟨none, none, .e (.st 1 (.tmp 140) (.const (.bool true)))⟩]) .skip))
  (.seq (.reg [⟨(some 141), none, .p (.mov (.tmp 1))⟩, ⟨(some 142), none, .p (.mov (.tmp 10))⟩, ⟨(some 143), none, .p (.iad 1 (.tmp 141) (.tmp 142))⟩, ⟨(some 144), none, .p (.ld none (.tmp 143))⟩, ⟨(some 145), none, .p (.mov (.tmp 144))⟩, ⟨(some 146), (some (145, true)), .p (.mov (.tmp 14))⟩, ⟨(some 147), none, .p (.pick (.tmp 145) (.tmp 146) (.const (.bool false)))⟩])
  (.cond (.tmp 147) (.reg [⟨(some 148), none, .p (.mov (.tmp 9))⟩, ⟨(some 149), none, .p (.fad 2 (.tmp 11))⟩, ⟨(some 150), none, .p (.ld none (.tmp 149))⟩, ⟨(some 151), none, .p (.iad 1 (.tmp 148) (.tmp 150))⟩, ⟨none, none, .e (.st 1 (.tmp 151) (.const (.bool true)))⟩]) .skip)))))))))))
  (.reg [⟨(some 152), none, .p (.bin .add (.tmp 49) (.const (.int .i64 1)))⟩, ⟨(some 49), none, .p (.mov (.tmp 152))⟩]))))
/-- fairlink fairlinklaw17.OrderSteps -/
def cf6 : LC :=
  (.seq (.reg [⟨(some 3), none, .e (.box (.tmp 0))⟩, ⟨(some 6), none, .p (.mov (.const (.bool false)))⟩])
  (.seq (.seq (.reg [⟨(some 20), none, .e (.call 9 [])⟩, ⟨(some 21), none, .p (.un .not (.tmp 20))⟩, ⟨(some 22), none, .p (.mov (.tmp 21))⟩, ⟨(some 23), (some (22, false)), .p (.ld (some 2) (.tmp 3))⟩, ⟨(some 24), (some (22, false)), .e (.call 10 [(.tmp 23)])⟩, ⟨(some 25), (some (22, false)), .p (.un .not (.tmp 24))⟩, ⟨(some 26), none, .p (.pick (.tmp 22) (.const (.bool true)) (.tmp 25))⟩, ⟨(some 27), none, .p (.mov (.tmp 26))⟩, ⟨(some 28), (some (27, false)), .p (.mov (.tmp 1))⟩, ⟨(some 29), (some (27, false)), .p (.len 1 (.tmp 28))⟩, ⟨(some 30), (some (27, false)), .p (.bin .gtr (.tmp 29) (.const (.int .i64 40)))⟩, ⟨(some 31), none, .p (.pick (.tmp 27) (.const (.bool true)) (.tmp 30))⟩])
  (.cond (.tmp 31) (.seq (.reg [⟨(some 32), none, .e (.call 9 [])⟩, ⟨(some 6), none, .p (.mov (.tmp 32))⟩])
  .ret) .skip))
  (.seq (.reg [⟨(some 34), none, .p (.ld (some 2) (.tmp 3))⟩, ⟨(some 35), none, .p (.mov (.tmp 1))⟩, ⟨(some 36), none, .p (.mov (.tmp 2))⟩, ⟨(some 37), none, .e (.call 11 [(.tmp 34), (.tmp 35), (.tmp 36)])⟩, ⟨(some 33), none, .p (.mov (.tmp 37))⟩, ⟨(some 38), none, .p (.ext (.tmp 33) 0)⟩, ⟨(some 39), none, .p (.ext (.tmp 33) 1)⟩, ⟨(some 7), none, .e (.alc [(.slice none 0 0)])⟩, ⟨none, none, .e (.st 1 (.tmp 7) (.tmp 38))⟩, ⟨(some 8), none, .p (.mov (.tmp 39))⟩])
  (.seq (.seq (.reg [⟨(some 40), none, .p (.mov (.tmp 8))⟩, ⟨(some 41), none, .p (.bin .neq (.tmp 40) (.const (.int .i64 0)))⟩])
  (.cond (.tmp 41) (.seq (.reg [⟨(some 6), none, .p (.mov (.const (.bool true)))⟩])
  .ret) .skip))
  (.seq (.reg [⟨(some 42), none, .p (.fad 0 (.tmp 3))⟩, ⟨(some 43), none, .p (.ld none (.tmp 42))⟩, ⟨(some 44), none, .p (.len 1 (.tmp 43))⟩, ⟨(some 45), none, .e (.mks 2 1 [(.bool false)] 1 (.tmp 44) (.tmp 44))⟩, ⟨(some 9), none, .p (.mov (.tmp 45))⟩])
  (.seq (.seq (.reg [⟨(some 46), none, .p (.fad 1 (.tmp 3))⟩, ⟨(some 47), none, .p (.ld none (.tmp 46))⟩, ⟨(some 48), none, .p (.len 1 (.tmp 47))⟩, ⟨(some 49), none, .p (.mov (.const (.int .i64 0)))⟩])
  (.block 0
  (.loop lb6_1)))
  (.seq (.seq (.reg [⟨(some 153), none, .p (.fad 0 (.tmp 7))⟩, ⟨(some 154), none, .p (.ld none (.tmp 153))⟩, ⟨(some 155), none, .p (.len 1 (.tmp 154))⟩, ⟨(some 156), none, .p (.mov (.const (.int .i64 0)))⟩])
  (.block 2
  (.loop lb6_0)))
  (.seq (.reg [⟨(some 6), none, .p (.mov (.const (.bool true)))⟩])
  .ret))))))))
def rf6 : List RX := [.tmp 6]
set_option maxRecDepth 100000 in
theorem comp6 : cFn Try.prog Try.f6 = some (erase cf6, rf6) := by kernel_rfl
/-- fairlink fairlinklaw17.OrderLeast -/
def cf7 : LC :=
  (.seq (.reg [⟨(some 2), none, .e (.box (.tmp 0))⟩, ⟨(some 4), none, .p (.mov (.const (.bool false)))⟩])
  (.seq (.seq (.reg [⟨(some 7), none, .e (.call 9 [])⟩, ⟨(some 8), none, .p (.un .not (.tmp 7))⟩, ⟨(some 9), none, .p (.mov (.tmp 8))⟩, ⟨(some 10), (some (9, false)), .p (.ld (some 2) (.tmp 2))⟩, ⟨(some 11), (some (9, false)), .e (.call 10 [(.tmp 10)])⟩, ⟨(some 12), (some (9, false)), .p (.un .not (.tmp 11))⟩, ⟨(some 13), none, .p (.pick (.tmp 9) (.const (.bool true)) (.tmp 12))⟩, ⟨(some 14), none, .p (.mov (.tmp 13))⟩, ⟨(some 15), (some (14, false)), .p (.mov (.tmp 1))⟩, ⟨(some 16), (some (14, false)), .p (.len 1 (.tmp 15))⟩, ⟨(some 17), (some (14, false)), .p (.bin .gtr (.tmp 16) (.const (.int .i64 40)))⟩, ⟨(some 18), none, .p (.pick (.tmp 14) (.const (.bool true)) (.tmp 17))⟩])
  (.cond (.tmp 18) (.seq (.reg [⟨(some 19), none, .e (.call 9 [])⟩, ⟨(some 4), none, .p (.mov (.tmp 19))⟩])
  .ret) .skip))
  (.seq (.reg [⟨(some 21), none, .p (.ld (some 2) (.tmp 2))⟩, ⟨(some 22), none, .p (.mov (.tmp 1))⟩, ⟨(some 23), none, .e (.call 21 [(.tmp 21), (.tmp 22)])⟩, ⟨(some 20), none, .p (.mov (.tmp 23))⟩, ⟨(some 24), none, .p (.ext (.tmp 20) 0)⟩, ⟨(some 25), none, .p (.ext (.tmp 20) 1)⟩, ⟨(some 5), none, .p (.mov (.tmp 24))⟩, ⟨(some 6), none, .p (.mov (.tmp 25))⟩])
  (.seq (.seq (.reg [⟨(some 26), none, .p (.ld (some 2) (.tmp 2))⟩, ⟨(some 27), none, .e (.call 12 [(.tmp 26)])⟩, ⟨(some 28), none, .p (.un .not (.tmp 27))⟩, ⟨(some 29), none, .p (.mov (.tmp 28))⟩, ⟨(some 30), (some (29, false)), .p (.mov (.tmp 1))⟩, ⟨(some 31), (some (29, false)), .p (.len 1 (.tmp 30))⟩, ⟨(some 32), (some (29, false)), .p (.fad 1 (.tmp 2))⟩, ⟨(some 33), (some (29, false)), .p (.ld none (.tmp 32))⟩, ⟨(some 34), (some (29, false)), .p (.len 1 (.tmp 33))⟩, ⟨(some 35), (some (29, false)), .p (.bin .neq (.tmp 31) (.tmp 34))⟩, ⟨(some 36), none, .p (.pick (.tmp 29) (.const (.bool true)) (.tmp 35))⟩, ⟨(some 37), none, .p (.mov (.tmp 36))⟩, ⟨(some 38), (some (37, false)), .p (.fad 0 (.tmp 2))⟩, ⟨(some 39), (some (37, false)), .p (.ld none (.tmp 38))⟩, ⟨(some 40), (some (37, false)), .p (.len 1 (.tmp 39))⟩, ⟨(some 41), (some (37, false)), .p (.bin .eql (.tmp 40) (.const (.int .i64 0)))⟩, ⟨(some 42), none, .p (.pick (.tmp 37) (.const (.bool true)) (.tmp 41))⟩])
  (.cond (.tmp 42) (.seq (.reg [⟨(some 43), none, .p (.mov (.tmp 6))⟩, ⟨(some 44), none, .p (.un .not (.tmp 43))⟩, ⟨(some 45), none, .p (.mov (.tmp 44))⟩, ⟨(some 46), (some (45, true)), .p (.mov (.tmp 5))⟩, ⟨(some 47), (some (45, true)), .p (.bin .eql (.tmp 46) (.const (.int .i64 0)))⟩, ⟨(some 48), none, .p (.pick (.tmp 45) (.tmp 47) (.const (.bool false)))⟩, ⟨(some 4), none, .p (.mov (.tmp 48))⟩])
  .ret) .skip))
  (.seq (.reg [⟨(some 49), none, .p (.mov (.tmp 6))⟩, ⟨(some 50), none, .p (.mov (.tmp 49))⟩, ⟨(some 51), (some (50, true)), .p (.mov (.tmp 5))⟩, ⟨(some 52), (some (50, true)), .p (.ld (some 2) (.tmp 2))⟩, ⟨(some 53), (some (50, true)), .e (.call 22 [(.tmp 52)])⟩, ⟨(some 54), (some (50, true)), .p (.bin .eql (.tmp 51) (.tmp 53))⟩, ⟨(some 55), none, .p (.pick (.tmp 50) (.tmp 54) (.const (.bool false)))⟩, ⟨(some 4), none, .p (.mov (.tmp 55))⟩])
  .ret)))))
def rf7 : List RX := [.tmp 4]
set_option maxRecDepth 100000 in
theorem comp7 : cFn Try.prog Try.f7 = some (erase cf7, rf7) := by kernel_rfl
def lb8_0 : LC :=
  (.seq (.reg [⟨(some 117), none, .p (.bin .lss (.tmp 116) (.tmp 115))⟩])
  (.seq (.cond (.tmp 117) .skip (.exit 4))
  (.seq (.block 5
  (.seq (.reg [⟨(some 118), none, .p (.mov (.tmp 116))⟩, ⟨(some 15), none, .p (.mov (.tmp 118))⟩])
  (.seq (.reg [⟨(some 119), none, .p (.mov (.tmp 10))⟩, ⟨(some 120), none, .p (.mov (.tmp 15))⟩, ⟨(some 121), none, .p (.lkp 3 (.bool false) false (.tmp 119) (.tmp 120))⟩, ⟨(some 122), none, .p (.un .not (.tmp 121))⟩])
  (.cond (.tmp 122) (.seq (.reg [⟨(some 6), none, .p (.mov (.const (.bool false)))⟩])
  .ret) .skip))))
  (.reg [⟨(some 123), none, .p (.bin .add (.tmp 116) (.const (.int .i64 1)))⟩, ⟨(some 116), none, .p (.mov (.tmp 123))⟩]))))
def lb8_1 : LC :=
  (.seq (.reg [⟨(some 92), none, .p (.bin .lss (.tmp 91) (.tmp 90))⟩])
  (.seq (.cond (.tmp 92) .skip (.exit 2))
  (.seq (.block 3
  (.seq (.reg [⟨(some 93), none, .p (.mov (.tmp 91))⟩, ⟨(some 94), none, .p (.iad 1 (.tmp 89) (.tmp 91))⟩, ⟨(some 95), none, .p (.ld none (.tmp 94))⟩, ⟨(some 13), none, .p (.mov (.tmp 93))⟩, ⟨(some 14), none, .p (.mov (.tmp 95))⟩])
  (.seq (.reg [⟨(some 96), none, .p (.ld (some 1) (.tmp 7))⟩, ⟨(some 97), none, .p (.mov (.tmp 11))⟩, ⟨(some 98), none, .p (.mov (.tmp 13))⟩, ⟨(some 99), none, .e (.call 20 [(.tmp 96), (.tmp 97), (.tmp 98)])⟩, ⟨(some 100), none, .p (.mov (.tmp 12))⟩, ⟨(some 101), none, .p (.bin .geq (.tmp 100) (.const (.int .i64 0)))⟩, ⟨(some 102), none, .p (.mov (.tmp 101))⟩, ⟨(some 103), (some (102, true)), .p (.mov (.tmp 14))⟩, ⟨(some 104), (some (102, true)), .p (.bin .geq (.tmp 103) (.const (.int .i64 0)))⟩, ⟨(some 105), none, .p (.pick (.tmp 102) (.tmp 104) (.const (.bool false)))⟩, ⟨(some 106), none, .p (.mov (.tmp 105))⟩, ⟨(some 107), (some (106, true)), .p (.mov (.tmp 12))⟩, ⟨(some 108), (some (106, true)), .p (.mov (.tmp 14))⟩, ⟨(some 109), (some (106, true)), .p (.bin .lss (.tmp 107) (.tmp 108))⟩, ⟨(some 110), none, .p (.pick (.tmp 106) (.tmp 109) (.const (.bool false)))⟩, ⟨(some 111), none, .p (.binb true (.tmp 99) (.tmp 110))⟩])
  (.cond (.tmp 111) (.seq (.reg [⟨(some 6), none, .p (.mov (.const (.bool false)))⟩])
  .ret) .skip))))
  (.reg [⟨(some 112), none, .p (.bin .add (.tmp 91) (.const (.int .i64 1)))⟩, ⟨(some 91), none, .p (.mov (.tmp 112))⟩]))))
def lb8_2 : LC :=
  (.seq (.reg [⟨(some 57), none, .p (.bin .lss (.tmp 56) (.tmp 55))⟩])
  (.seq (.cond (.tmp 57) .skip (.exit 0))
  (.seq (.block 1
  (.seq (.reg [⟨(some 58), none, .p (.mov (.tmp 56))⟩, ⟨(some 59), none, .p (.iad 1 (.tmp 54) (.tmp 56))⟩, ⟨(some 60), none, .p (.ld none (.tmp 59))⟩, ⟨(some 11), none, .p (.mov (.tmp 58))⟩, ⟨(some 12), none, .p (.mov (.tmp 60))⟩])
  (.seq (.seq (.reg [⟨(some 61), none, .p (.mov (.tmp 12))⟩, ⟨(some 62), none, .p (.bin .lss (.tmp 61) (.const (.int .i64 0)))⟩, ⟨(some 63), none, .p (.fad 0 (.tmp 7))⟩, ⟨(some 64), none, .p (.ld none (.tmp 63))⟩, ⟨(some 65), none, .p (.mov (.tmp 11))⟩, ⟨(some 66), none, .p (.iad 1 (.tmp 64) (.tmp 65))⟩, ⟨(some 67), none, .p (.ld none (.tmp 66))⟩, ⟨(some 68), none, .p (.bin .lss (.tmp 67) (.const (.int .i64 0)))⟩, ⟨(some 69), none, .p (.binb true (.tmp 62) (.tmp 68))⟩, ⟨(some 70), none, .p (.mov (.tmp 69))⟩, ⟨(some 71), (some (70, false)), .p (.mov (.tmp 12))⟩, ⟨(some 72), (some (70, false)), .p (.mov (.tmp 9))⟩, ⟨(some 73), (some (70, false)), .p (.len 1 (.tmp 72))⟩, ⟨(some 74), (some (70, false)), .p (.bin .geq (.tmp 71) (.tmp 73))⟩, ⟨(some 75), none, .p (.pick (.tmp 70) (.const (.bool true)) (.tmp 74))⟩, ⟨(some 76), none, .p (.mov (.tmp 75))⟩, ⟨(some 77), (some (76, false)), .p (.mov (.tmp 12))⟩, ⟨(some 78), (some (76, false)), .p (.bin .geq (.tmp 77) (.const (.int .i64 0)))⟩, ⟨(some 79), (some (76, false)), .p (.mov (.tmp 78))⟩, ⟨(some 80), (some (79, true)), .p (.mov (.tmp 10))⟩, ⟨(some 81), (some (79, true)), .p (.mov (.tmp 12))⟩, ⟨(some 82), (some (79, true)), .p (.lkp 3 (.bool false) false (.tmp 80) (.tmp 81))⟩, ⟨(some 83), (some (76, false)), .p (.pick (.tmp 79) (.tmp 82) (.const (.bool false)))⟩, ⟨(some 84), none, .p (.pick (.tmp 76) (.const (.bool true)) (.tmp 83))⟩])
  (.cond (.tmp 84) (.seq (.reg [⟨(some 6), none, .p (.mov (.const (.bool false)))⟩])
  .ret) .skip))
  (.seq (.seq (.reg [⟨(some 85), none, .p (.mov (.tmp 12))⟩, ⟨(some 86), none, .p (.bin .geq (.tmp 85) (.const (.int .i64 0)))⟩])
  (.cond (.tmp 86) (.reg [⟨(some 87), none, .p (.mov (.tmp 10))⟩, ⟨(some 88), none, .p (.mov (.tmp 12))⟩, ⟨none, none, .e (.mup 3 (.tmp 87) (.tmp 88) (.const (.bool true)))⟩]) .skip))
  (.seq (.reg [⟨(some 89), none, .p (.mov (.tmp 9))⟩, ⟨(some 90), none, .p (.len 1 (.tmp 89))⟩, ⟨(some 91), none, .p (.mov (.const (.int .i64 0)))⟩])
  (.block 2
  (.loop lb8_1)))))))
  (.reg [⟨(some 113), none, .p (.bin .add (.tmp 56) (.const (.int .i64 1)))⟩, ⟨(some 56), none, .p (.mov (.tmp 113))⟩]))))
/-- fairlink fairlinklaw17.OrderPlaces -/
def cf8 : LC :=
  (.seq (.reg [⟨(some 3), none, .e (.box (.tmp 0))⟩, ⟨(some 6), none, .p (.mov (.const (.bool false)))⟩])
  (.seq (.seq (.reg [⟨(some 16), none, .e (.call 9 [])⟩, ⟨(some 17), none, .p (.un .not (.tmp 16))⟩, ⟨(some 18), none, .p (.mov (.tmp 17))⟩, ⟨(some 19), (some (18, false)), .p (.ld (some 2) (.tmp 3))⟩, ⟨(some 20), (some (18, false)), .e (.call 10 [(.tmp 19)])⟩, ⟨(some 21), (some (18, false)), .p (.un .not (.tmp 20))⟩, ⟨(some 22), none, .p (.pick (.tmp 18) (.const (.bool true)) (.tmp 21))⟩, ⟨(some 23), none, .p (.mov (.tmp 22))⟩, ⟨(some 24), (some (23, false)), .p (.mov (.tmp 1))⟩, ⟨(some 25), (some (23, false)), .p (.len 1 (.tmp 24))⟩, ⟨(some 26), (some (23, false)), .p (.bin .gtr (.tmp 25) (.const (.int .i64 40)))⟩, ⟨(some 27), none, .p (.pick (.tmp 23) (.const (.bool true)) (.tmp 26))⟩])
  (.cond (.tmp 27) (.seq (.reg [⟨(some 28), none, .e (.call 9 [])⟩, ⟨(some 6), none, .p (.mov (.tmp 28))⟩])
  .ret) .skip))
  (.seq (.reg [⟨(some 30), none, .p (.ld (some 2) (.tmp 3))⟩, ⟨(some 31), none, .p (.mov (.tmp 1))⟩, ⟨(some 32), none, .p (.mov (.tmp 2))⟩, ⟨(some 33), none, .e (.call 11 [(.tmp 30), (.tmp 31), (.tmp 32)])⟩, ⟨(some 29), none, .p (.mov (.tmp 33))⟩, ⟨(some 34), none, .p (.ext (.tmp 29) 0)⟩, ⟨(some 35), none, .p (.ext (.tmp 29) 1)⟩, ⟨(some 7), none, .e (.alc [(.slice none 0 0)])⟩, ⟨none, none, .e (.st 1 (.tmp 7) (.tmp 34))⟩, ⟨(some 8), none, .p (.mov (.tmp 35))⟩])
  (.seq (.seq (.reg [⟨(some 36), none, .p (.mov (.tmp 8))⟩, ⟨(some 37), none, .p (.bin .neq (.tmp 36) (.const (.int .i64 0)))⟩])
  (.cond (.tmp 37) (.seq (.reg [⟨(some 6), none, .p (.mov (.const (.bool true)))⟩])
  .ret) .skip))
  (.seq (.reg [⟨(some 38), none, .p (.ld (some 1) (.tmp 7))⟩, ⟨(some 39), none, .e (.call 23 [(.tmp 38)])⟩, ⟨(some 9), none, .p (.mov (.tmp 39))⟩])
  (.seq (.seq (.reg [⟨(some 40), none, .p (.mov (.tmp 9))⟩, ⟨(some 41), none, .p (.len 1 (.tmp 40))⟩, ⟨(some 42), none, .p (.fad 0 (.tmp 3))⟩, ⟨(some 43), none, .p (.ld none (.tmp 42))⟩, ⟨(some 44), none, .p (.len 1 (.tmp 43))⟩, ⟨(some 45), none, .p (.bin .neq (.tmp 41) (.tmp 44))⟩, ⟨(some 46), none, .p (.mov (.tmp 45))⟩, ⟨(some 47), (some (46, false)), .p (.mov (.tmp 9))⟩, ⟨(some 48), (some (46, false)), .p (.mov (.tmp 2))⟩, ⟨(some 49), (some (46, false)), .p (.iad 1 (.tmp 47) (.tmp 48))⟩, ⟨(some 50), (some (46, false)), .p (.ld none (.tmp 49))⟩, ⟨(some 51), (some (46, false)), .p (.bin .neq (.tmp 50) (.const (.int .i64 0)))⟩, ⟨(some 52), none, .p (.pick (.tmp 46) (.const (.bool true)) (.tmp 51))⟩])
  (.cond (.tmp 52) (.seq (.reg [⟨(some 6), none, .p (.mov (.const (.bool false)))⟩])
  .ret) .skip))
  (.seq (.reg [⟨(some 53), none, .e (.mkm)⟩, ⟨(some 10), none, .p (.mov (.tmp 53))⟩])
  (.seq (.seq (.reg [⟨(some 54), none, .p (.mov (.tmp 9))⟩, ⟨(some 55), none, .p (.len 1 (.tmp 54))⟩, ⟨(some 56), none, .p (.mov (.const (.int .i64 0)))⟩])
  (.block 0
  (.loop lb8_2)))
  (.seq (.seq (.reg [⟨(some 114), none, .p (.mov (.tmp 10))⟩, ⟨(some 115), none, .p (.len 2 (.tmp 114))⟩, ⟨(some 116), none, .p (.mov (.const (.int .i64 0)))⟩])
  (.block 4
  (.loop lb8_0)))
  (.seq (.reg [⟨(some 6), none, .p (.mov (.const (.bool true)))⟩])
  .ret))))))))))
def rf8 : List RX := [.tmp 6]
set_option maxRecDepth 100000 in
theorem comp8 : cFn Try.prog Try.f8 = some (erase cf8, rf8) := by kernel_rfl
/-- fairlink fairlinklaw17.awake -/
def cf9 : LC :=
  (.seq (.reg [⟨(some 0), none, .p (.mov (.const (.bool false)))⟩])
  (.seq (.reg [⟨(some 6), none, .e (.call 24 [])⟩, ⟨(some 7), none, .e (.bsl 2 3 1 [(.bool false)] [(0, 1, (.const (.bool true))), (1, 1, (.const (.bool true))), (2, 1, (.const (.bool true)))])⟩, ⟨(some 8), none, .e (.call 11 [(.tmp 6), (.tmp 7), (.const (.int .i64 1))])⟩, ⟨(some 5), none, .p (.mov (.tmp 8))⟩, ⟨(some 9), none, .p (.ext (.tmp 5) 0)⟩, ⟨(some 10), none, .p (.ext (.tmp 5) 1)⟩, ⟨(some 1), none, .e (.alc [(.slice none 0 0)])⟩, ⟨none, none, .e (.st 1 (.tmp 1) (.tmp 9))⟩, ⟨(some 2), none, .p (.mov (.tmp 10))⟩])
  (.seq (.dreg [⟨(some 12), none, .e (.call 24 [])⟩, ⟨(some 13), none, .p (.ld (some 1) (.tmp 1))⟩, ⟨(some 14), none, .e (.call 16 [(.tmp 12), (.tmp 13), (.const (.int .i64 2)), (.const (.int .i64 2))])⟩, ⟨(some 11), none, .p (.mov (.tmp 14))⟩, ⟨(some 15), none, .p (.ext (.tmp 11) 0)⟩, ⟨(some 16), none, .p (.ext (.tmp 11) 1)⟩, ⟨(some 3), none, .p (.mov (.tmp 15))⟩, ⟨(some 4), none, .p (.mov (.tmp 16))⟩] true)
  (.seq (.reg [⟨(some 17), none, .p (.mov (.tmp 2))⟩, ⟨(some 18), none, .p (.bin .eql (.tmp 17) (.const (.int .i64 0)))⟩, ⟨(some 19), none, .p (.mov (.tmp 18))⟩, ⟨(some 20), (some (19, true)), .p (.fad 0 (.tmp 1))⟩, ⟨(some 21), (some (19, true)), .p (.ld none (.tmp 20))⟩, ⟨(some 22), (some (19, true)), .e (.bsl 1 3 1 [(.int .i64 0)] [(0, 1, (.const (.int .i64 1))), (1, 1, (.const (.int .i64 0))), (2, 1, (.const (.int .i64 1)))])⟩, ⟨(some 23), (some (19, true)), .e (.call 13 [(.tmp 21), (.tmp 22)])⟩, ⟨(some 24), none, .p (.pick (.tmp 19) (.tmp 23) (.const (.bool false)))⟩, ⟨(some 25), none, .p (.mov (.tmp 24))⟩, ⟨(some 26), (some (25, true)), .p (.ld (some 1) (.tmp 1))⟩, ⟨(some 27), (some (25, true)), .e (.call 20 [(.tmp 26), (.const (.int .i64 0)), (.const (.int .i64 2))])⟩, ⟨(some 28), none, .p (.pick (.tmp 25) (.tmp 27) (.const (.bool false)))⟩, ⟨(some 29), none, .p (.mov (.tmp 28))⟩, ⟨(some 30), (some (29, true)), .p (.mov (.tmp 4))⟩, ⟨(some 31), (some (29, true)), .p (.bin .eql (.tmp 30) (.const (.int .i64 0)))⟩, ⟨(some 32), none, .p (.pick (.tmp 29) (.tmp 31) (.const (.bool false)))⟩, ⟨(some 33), none, .p (.mov (.tmp 32))⟩, ⟨(some 34), (some (33, true)), .p (.mov (.tmp 3))⟩, ⟨(some 35), none, .p (.pick (.tmp 33) (.tmp 34) (.const (.bool false)))⟩, ⟨(some 0), none, .p (.mov (.tmp 35))⟩])
  .ret))))
def rf9 : List RX := [.tmp 0]
set_option maxRecDepth 100000 in
theorem comp9 : cFn Try.prog Try.f9 = some (erase cf9, rf9) := by kernel_rfl
/-- fairlink fairlinklaw17.few -/
def cf10 : LC :=
  (.seq (.reg [⟨(some 1), none, .e (.box (.tmp 0))⟩, ⟨(some 2), none, .p (.mov (.const (.bool false)))⟩])
  (.seq (.reg [⟨(some 3), none, .p (.fad 0 (.tmp 1))⟩, ⟨(some 4), none, .p (.ld none (.tmp 3))⟩, ⟨(some 5), none, .p (.len 1 (.tmp 4))⟩, ⟨(some 6), none, .p (.bin .leq (.tmp 5) (.const (.int .i64 40)))⟩, ⟨(some 7), none, .p (.mov (.tmp 6))⟩, ⟨(some 8), (some (7, true)), .p (.fad 1 (.tmp 1))⟩, ⟨(some 9), (some (7, true)), .p (.ld none (.tmp 8))⟩, ⟨(some 10), (some (7, true)), .p (.len 1 (.tmp 9))⟩, ⟨(some 11), (some (7, true)), .p (.bin .leq (.tmp 10) (.const (.int .i64 40)))⟩, ⟨(some 12), none, .p (.pick (.tmp 7) (.tmp 11) (.const (.bool false)))⟩, ⟨(some 2), none, .p (.mov (.tmp 12))⟩])
  .ret))
def rf10 : List RX := [.tmp 2]
set_option maxRecDepth 100000 in
theorem comp10 : cFn Try.prog Try.f10 = some (erase cf10, rf10) := by kernel_rfl
/-- fairlink order.Of -/
def cf11 : LC :=
  (.seq (.reg [⟨(some 3), none, .e (.box (.tmp 0))⟩, ⟨(some 6), none, .e (.alc [(.slice none 0 0)])⟩, ⟨(some 7), none, .p (.mov (.const (.int .i64 0)))⟩])
  (.seq (.seq (.reg [⟨(some 8), none, .p (.ld (some 2) (.tmp 3))⟩, ⟨(some 9), none, .e (.call 25 [(.tmp 8)])⟩, ⟨(some 10), none, .p (.bin .neq (.tmp 9) (.const (.int .i64 0)))⟩, ⟨(some 11), none, .p (.mov (.tmp 10))⟩, ⟨(some 12), (some (11, false)), .p (.mov (.tmp 1))⟩, ⟨(some 13), (some (11, false)), .p (.len 1 (.tmp 12))⟩, ⟨(some 14), (some (11, false)), .p (.fad 1 (.tmp 3))⟩, ⟨(some 15), (some (11, false)), .p (.ld none (.tmp 14))⟩, ⟨(some 16), (some (11, false)), .p (.len 1 (.tmp 15))⟩, ⟨(some 17), (some (11, false)), .p (.bin .neq (.tmp 13) (.tmp 16))⟩, ⟨(some 18), none, .p (.pick (.tmp 11) (.const (.bool true)) (.tmp 17))⟩])
  (.cond (.tmp 18) (.seq (.reg [⟨(some 19), none, .p (.bld [(.slice none 0 0)] [])⟩, ⟨none, none, .e (.st 1 (.tmp 6) (.tmp 19))⟩, ⟨(some 7), none, .p (.mov (.const (.int .i64 1)))⟩])
  .ret) .skip))
  (.seq (.seq (.reg [⟨(some 20), none, .p (.mov (.tmp 2))⟩, ⟨(some 21), none, .p (.bin .lss (.tmp 20) (.const (.int .i64 0)))⟩, ⟨(some 22), none, .p (.mov (.tmp 21))⟩, ⟨(some 23), (some (22, false)), .p (.mov (.tmp 2))⟩, ⟨(some 24), (some (22, false)), .p (.fad 0 (.tmp 3))⟩, ⟨(some 25), (some (22, false)), .p (.ld none (.tmp 24))⟩, ⟨(some 26), (some (22, false)), .p (.len 1 (.tmp 25))⟩, ⟨(some 27), (some (22, false)), .p (.bin .geq (.tmp 23) (.tmp 26))⟩, ⟨(some 28), none, .p (.pick (.tmp 22) (.const (.bool true)) (.tmp 27))⟩])
  (.cond (.tmp 28) (.seq (.reg [⟨(some 29), none, .p (.bld [(.slice none 0 0)] [])⟩, ⟨none, none, .e (.st 1 (.tmp 6) (.tmp 29))⟩, ⟨(some 7), none, .p (.mov (.const (.int .i64 2)))⟩])
  .ret) .skip))
  (.seq (.reg [⟨(some 30), none, .p (.ld (some 2) (.tmp 3))⟩, ⟨(some 31), none, .p (.mov (.tmp 2))⟩, ⟨(some 32), none, .p (.mov (.tmp 1))⟩, ⟨(some 33), none, .e (.call 26 [(.tmp 30), (.tmp 31), (.tmp 32)])⟩, ⟨(some 34), none, .p (.bld [(.slice none 0 0)] [(0, 1, (.tmp 33))])⟩, ⟨none, none, .e (.st 1 (.tmp 6) (.tmp 34))⟩, ⟨(some 7), none, .p (.mov (.const (.int .i64 0)))⟩])
  .ret))))
def rf11 : List RX := [.cell 6 (some 1), .tmp 7]
set_option maxRecDepth 100000 in
theorem comp11 : cFn Try.prog Try.f11 = some (erase cf11, rf11) := by kernel_rfl
/-- fairlink fairlinklaw17.good -/
def cf12 : LC :=
  (.seq (.reg [⟨(some 1), none, .e (.box (.tmp 0))⟩, ⟨(some 2), none, .p (.mov (.const (.bool false)))⟩])
  (.seq (.reg [⟨(some 3), none, .p (.ld (some 2) (.tmp 1))⟩, ⟨(some 4), none, .e (.call 25 [(.tmp 3)])⟩, ⟨(some 5), none, .p (.bin .eql (.tmp 4) (.const (.int .i64 0)))⟩, ⟨(some 2), none, .p (.mov (.tmp 5))⟩])
  .ret))
def rf12 : List RX := [.tmp 2]
set_option maxRecDepth 100000 in
theorem comp12 : cFn Try.prog Try.f12 = some (erase cf12, rf12) := by kernel_rfl
def lb13_0 : LC :=
  (.seq (.reg [⟨(some 14), none, .p (.bin .lss (.tmp 13) (.tmp 12))⟩])
  (.seq (.cond (.tmp 14) .skip (.exit 0))
  (.seq (.block 1
  (.seq (.reg [⟨(some 15), none, .p (.mov (.tmp 13))⟩, ⟨(some 5), none, .p (.mov (.tmp 15))⟩])
  (.seq (.dreg [⟨(some 16), none, .p (.mov (.tmp 0))⟩, ⟨(some 17), none, .p (.mov (.tmp 5))⟩, ⟨(some 18), none, .p (.iad 1 (.tmp 16) (.tmp 17))⟩, ⟨(some 19), none, .p (.ld none (.tmp 18))⟩, ⟨(some 20), none, .p (.mov (.tmp 1))⟩, ⟨(some 21), none, .p (.mov (.tmp 5))⟩, ⟨(some 22), none, .p (.iad 1 (.tmp 20) (.tmp 21))⟩, ⟨(some 23), none, .p (.ld none (.tmp 22))⟩, ⟨(some 24), none, .p (.bin .neq (.tmp 19) (.tmp 23))⟩] true)
  (.cond (.tmp 24) (.seq (.reg [⟨(some 4), none, .p (.mov (.const (.bool false)))⟩])
  .ret) .skip))))
  (.reg [⟨(some 25), none, .p (.bin .add (.tmp 13) (.const (.int .i64 1)))⟩, ⟨(some 13), none, .p (.mov (.tmp 25))⟩]))))
/-- slices.Equal   int int  -/
def cf13 : LC :=
  (.seq (.reg [⟨(some 4), none, .p (.mov (.const (.bool false)))⟩])
  (.seq (.seq (.reg [⟨(some 6), none, .p (.mov (.tmp 0))⟩, ⟨(some 7), none, .p (.len 1 (.tmp 6))⟩, ⟨(some 8), none, .p (.mov (.tmp 1))⟩, ⟨(some 9), none, .p (.len 1 (.tmp 8))⟩, ⟨(some 10), none, .p (.bin .neq (.tmp 7) (.tmp 9))⟩])
  (.cond (.tmp 10) (.seq (.reg [⟨(some 4), none, .p (.mov (.const (.bool false)))⟩])
  .ret) .skip))
  (.seq (.seq (.reg [⟨(some 11), none, .p (.mov (.tmp 0))⟩, ⟨(some 12), none, .p (.len 1 (.tmp 11))⟩, ⟨(some 13), none, .p (.mov (.const (.int .i64 0)))⟩])
  (.block 0
  (.loop lb13_0)))
  (.seq (.reg [⟨(some 4), none, .p (.mov (.const (.bool true)))⟩])
  .ret))))
def rf13 : List RX := [.tmp 4]
set_option maxRecDepth 100000 in
theorem comp13 : cFn Try.prog Try.f13 = some (erase cf13, rf13) := by kernel_rfl
def lb14_0 : LC :=
  (.seq (.seq (.reg [⟨(some 49), none, .p (.mov (.tmp 11))⟩, ⟨(some 50), none, .p (.bin .lss (.tmp 49) (.const (.int .i64 2)))⟩])
  (.cond (.tmp 50) .skip (.exit 6)))
  (.seq (.block 7
  (.seq (.dreg [⟨(some 53), none, .p (.fad 1 (.tmp 3))⟩, ⟨(some 54), none, .p (.ld none (.tmp 53))⟩, ⟨(some 55), none, .p (.mov (.tmp 10))⟩, ⟨(some 56), none, .p (.iad 6 (.tmp 54) (.tmp 55))⟩, ⟨(some 57), none, .p (.fad 0 (.tmp 56))⟩, ⟨(some 58), none, .p (.ld none (.tmp 57))⟩, ⟨(some 59), none, .p (.fad 1 (.tmp 3))⟩, ⟨(some 60), none, .p (.ld none (.tmp 59))⟩, ⟨(some 61), none, .p (.mov (.tmp 10))⟩, ⟨(some 62), none, .p (.iad 6 (.tmp 60) (.tmp 61))⟩, ⟨(some 63), none, .p (.fad 2 (.tmp 62))⟩, ⟨(some 64), none, .p (.ld none (.tmp 63))⟩, ⟨(some 12), none, .p (.mov (.tmp 58))⟩, ⟨(some 13), none, .p (.mov (.tmp 64))⟩] true)
  (.seq (.seq (.reg [⟨(some 65), none, .p (.mov (.tmp 11))⟩, ⟨(some 66), none, .p (.bin .eql (.tmp 65) (.const (.int .i64 1)))⟩])
  (.cond (.tmp 66) (.reg [⟨(some 67), none, .p (.mov (.tmp 13))⟩, ⟨(some 68), none, .p (.mov (.tmp 12))⟩, ⟨(some 12), none, .p (.mov (.tmp 67))⟩, ⟨(some 13), none, .p (.mov (.tmp 68))⟩]) .skip))
  (.seq (.dreg [⟨(some 69), none, .p (.mov (.tmp 7))⟩, ⟨(some 70), none, .p (.mov (.tmp 12))⟩, ⟨(some 71), none, .p (.iad 1 (.tmp 69) (.tmp 70))⟩, ⟨(some 72), none, .p (.ld none (.tmp 71))⟩, ⟨(some 73), none, .p (.bin .geq (.tmp 72) (.const (.int .i64 0)))⟩, ⟨(some 74), none, .p (.mov (.tmp 73))⟩, ⟨(some 75), (some (74, true)), .p (.mov (.tmp 7))⟩, ⟨(some 76), (some (74, true)), .p (.mov (.tmp 13))⟩, ⟨(some 77), (some (74, true)), .p (.iad 1 (.tmp 75) (.tmp 76))⟩, ⟨(some 78), (some (74, true)), .p (.ld none (.tmp 77))⟩, ⟨(some 79), (some (74, true)), .p (.bin .lss (.tmp 78) (.const (.int .i64 0)))⟩, ⟨(some 80), (some (74, true)), .p (.mov (.tmp 79))⟩, ⟨(some 81), (some (80, false)), .p (.mov (.tmp 7))⟩, ⟨(some 82), (some (80, false)), .p (.mov (.tmp 13))⟩, ⟨(some 83), (some (80, false)), .p (.iad 1 (.tmp 81) (.tmp 82))⟩, ⟨(some 84), (some (80, false)), .p (.ld none (.tmp 83))⟩, ⟨(some 85), (some (80, false)), .p (.mov (.tmp 7))⟩, ⟨(some 86), (some (80, false)), .p (.mov (.tmp 12))⟩, ⟨(some 87), (some (80, false)), .p (.iad 1 (.tmp 85) (.tmp 86))⟩, ⟨(some 88), (some (80, false)), .p (.ld none (.tmp 87))⟩, ⟨(some 89), (some (80, false)), .p (.bin .add (.tmp 88) (.const (.int .i64 1)))⟩, ⟨(some 90), (some (80, false)), .p (.bin .gtr (.tmp 84) (.tmp 89))⟩, ⟨(some 91), (some (74, true)), .p (.pick (.tmp 80) (.const (.bool true)) (.tmp 90))⟩, ⟨(some 92), none, .p (.pick (.tmp 74) (.tmp 91) (.const (.bool false)))⟩] true)
  (.cond (.tmp 92) (.reg [⟨(some 93), none, .p (.mov (.tmp 7))⟩, ⟨(some 94), none, .p (.mov (.tmp 13))⟩, ⟨(some 95), none, .p (.mov (.tmp 7))⟩, ⟨(some 96), none, .p (.mov (.tmp 12))⟩, ⟨(some 97), none, .p (.iad 1 (.tmp 95) (.tmp 96))⟩, ⟨(some 98), none, .p (.ld none (.tmp 97))⟩, ⟨(some 99), none, .p (.bin .add (.tmp 98) (.const (.int .i64 1)))⟩, ⟨(some 100), none, .p (.iad 1 (.tmp 93) (.tmp 94))⟩, ⟨none, none, .e (.st 1 (.tmp 100) (.tmp 99))⟩]) .skip)))))
  (.reg [⟨(some 51), none, .p (.mov (.tmp 11))⟩, ⟨(some 52), none, .p (.bin .add (.tmp 51) (.const (.int .i64 1)))⟩, ⟨(some 11), none, .p (.mov (.tmp 52))⟩])))
def lb14_1 : LC :=
  (.seq (.seq (.reg [⟨(some 37), none, .p (.mov (.tmp 10))⟩, ⟨(some 38), none, .p (.fad 1 (.tmp 3))⟩, ⟨(some 39), none, .p (.ld none (.tmp 38))⟩, ⟨(some 40), none, .p (.len 1 (.tmp 39))⟩, ⟨(some 41), none, .p (.bin .lss (.tmp 37) (.tmp 40))⟩])
  (.cond (.tmp 41) .skip (.exit 4)))
  (.seq (.block 5
  (.seq (.seq (.reg [⟨(some 44), none, .p (.mov (.tmp 1))⟩, ⟨(some 45), none, .p (.mov (.tmp 10))⟩, ⟨(some 46), none, .p (.iad 1 (.tmp 44) (.tmp 45))⟩, ⟨(some 47), none, .p (.ld none (.tmp 46))⟩, ⟨(some 48), none, .p (.un .not (.tmp 47))⟩])
  (.cond (.tmp 48) (.exit 5) .skip))
  (.seq (.reg [⟨(some 11), none, .p (.mov (.const (.int .i64 0)))⟩])
  (.block 6
  (.loop lb14_0)))))
  (.reg [⟨(some 42), none, .p (.mov (.tmp 10))⟩, ⟨(some 43), none, .p (.bin .add (.tmp 42) (.const (.int .i64 1)))⟩, ⟨(some 10), none, .p (.mov (.tmp 43))⟩])))
def lb14_2 : LC :=
  (.seq (.seq (.reg [⟨(some 30), none, .p (.mov (.tmp 9))⟩, ⟨(some 31), none, .p (.fad 0 (.tmp 3))⟩, ⟨(some 32), none, .p (.ld none (.tmp 31))⟩, ⟨(some 33), none, .p (.len 1 (.tmp 32))⟩, ⟨(some 34), none, .p (.bin .lss (.tmp 30) (.tmp 33))⟩])
  (.cond (.tmp 34) .skip (.exit 2)))
  (.seq (.block 3
  (.seq (.reg [⟨(some 10), none, .p (.mov (.const (.int .i64 0)))⟩])
  (.block 4
  (.loop lb14_1))))
  (.reg [⟨(some 35), none, .p (.mov (.tmp 9))⟩, ⟨(some 36), none, .p (.bin .add (.tmp 35) (.const (.int .i64 1)))⟩, ⟨(some 9), none, .p (.mov (.tmp 36))⟩])))
def lb14_3 : LC :=
  (.seq (.seq (.reg [⟨(some 18), none, .p (.mov (.tmp 8))⟩, ⟨(some 19), none, .p (.mov (.tmp 7))⟩, ⟨(some 20), none, .p (.len 1 (.tmp 19))⟩, ⟨(some 21), none, .p (.bin .lss (.tmp 18) (.tmp 20))⟩])
  (.cond (.tmp 21) .skip (.exit 0)))
  (.seq (.block 1
  (.reg [⟨(some 24), none, .p (.mov (.tmp 7))⟩, ⟨(some 25), none, .p (.mov (.tmp 8))⟩, ⟨(some 26), none, .p (.iad 1 (.tmp 24) (.tmp 25))⟩, ⟨none, none, .e (.st 1 (.tmp 26) (.const (.int .i64 (-1))))⟩]))
  (.reg [⟨(some 22), none, .p (.mov (.tmp 8))⟩, ⟨(some 23), none, .p (.bin .add (.tmp 22) (.const (.int .i64 1)))⟩, ⟨(some 8), none, .p (.mov (.tmp 23))⟩])))
/-- fairlink fairlinkref17.Levels -/
def cf14 : LC :=
  (.seq (.reg [⟨(some 3), none, .e (.box (.tmp 0))⟩, ⟨(some 6), none, .p (.mov (.const (.slice none 0 0)))⟩])
  (.seq (.reg [⟨(some 14), none, .p (.fad 0 (.tmp 3))⟩, ⟨(some 15), none, .p (.ld none (.tmp 14))⟩, ⟨(some 16), none, .p (.len 1 (.tmp 15))⟩, ⟨(some 17), none, .e (.mks 1 1 [(.int .i64 0)] 8 (.tmp 16) (.tmp 16))⟩, ⟨(some 7), none, .p (.mov (.tmp 17))⟩])
  (.seq (.seq (.reg [⟨(some 8), none, .p (.mov (.const (.int .i64 0)))⟩])
  (.block 0
  (.loop lb14_3)))
  (.seq (.reg [⟨(some 27), none, .p (.mov (.tmp 7))⟩, ⟨(some 28), none, .p (.mov (.tmp 2))⟩, ⟨(some 29), none, .p (.iad 1 (.tmp 27) (.tmp 28))⟩, ⟨none, none, .e (.st 1 (.tmp 29) (.const (.int .i64 0)))⟩])
  (.seq (.seq (.reg [⟨(some 9), none, .p (.mov (.const (.int .i64 0)))⟩])
  (.block 2
  (.loop lb14_2)))
  (.seq (.reg [⟨(some 101), none, .p (.mov (.tmp 7))⟩, ⟨(some 6), none, .p (.mov (.tmp 101))⟩])
  .ret))))))
def rf14 : List RX := [.tmp 6]
set_option maxRecDepth 100000 in
theorem comp14 : cFn Try.prog Try.f14 = some (erase cf14, rf14) := by kernel_rfl
def lb15_0 : LC :=
  (.seq (.reg [⟨(some 102), none, .p (.bin .lss (.tmp 101) (.tmp 100))⟩])
  (.seq (.cond (.tmp 102) .skip (.exit 5))
  (.seq (.block 6
  (.seq (.reg [⟨(some 103), none, .p (.mov (.tmp 101))⟩, ⟨(some 104), none, .p (.iad 1 (.tmp 99) (.tmp 101))⟩, ⟨(some 105), none, .p (.ld none (.tmp 104))⟩, ⟨(some 11), none, .p (.mov (.tmp 103))⟩, ⟨(some 12), none, .p (.mov (.tmp 105))⟩])
  (.seq (.reg [⟨(some 106), none, .p (.mov (.tmp 12))⟩, ⟨(some 107), none, .p (.bin .gtr (.tmp 106) (.const (.int .i64 0)))⟩, ⟨(some 108), none, .p (.mov (.tmp 107))⟩, ⟨(some 109), (some (108, true)), .p (.mov (.tmp 8))⟩, ⟨(some 110), (some (108, true)), .p (.mov (.tmp 11))⟩, ⟨(some 111), (some (108, true)), .p (.iad 1 (.tmp 109) (.tmp 110))⟩, ⟨(some 112), (some (108, true)), .p (.ld none (.tmp 111))⟩, ⟨(some 113), (some (108, true)), .p (.un .not (.tmp 112))⟩, ⟨(some 114), none, .p (.pick (.tmp 108) (.tmp 113) (.const (.bool false)))⟩])
  (.cond (.tmp 114) (.seq (.reg [⟨(some 4), none, .p (.mov (.const (.bool false)))⟩])
  .ret) .skip))))
  (.reg [⟨(some 115), none, .p (.bin .add (.tmp 101) (.const (.int .i64 1)))⟩, ⟨(some 101), none, .p (.mov (.tmp 115))⟩]))))
def lb15_1 : LC :=
  (.seq (.reg [⟨(some 56), none, .p (.bin .lss (.tmp 55) (.tmp 54))⟩])
  (.seq (.cond (.tmp 56) .skip (.exit 2))
  (.seq (.block 3
  (.seq (.reg [⟨(some 57), none, .p (.iad 6 (.tmp 53) (.tmp 55))⟩, ⟨(some 58), none, .p (.ld (some 6) (.tmp 57))⟩, ⟨(some 10), none, .e (.alc [(.int .i64 0), (.int .i64 0), (.int .i64 0), (.int .i64 0), (.int .i64 0), (.int .i64 0)])⟩, ⟨none, none, .e (.st 6 (.tmp 10) (.tmp 58))⟩])
  (.block 4
  (.seq (.dreg [⟨(some 60), none, .p (.fad 0 (.tmp 3))⟩, ⟨(some 61), none, .p (.ld none (.tmp 60))⟩, ⟨(some 62), none, .p (.fad 0 (.tmp 10))⟩, ⟨(some 63), none, .p (.ld none (.tmp 62))⟩, ⟨(some 64), none, .p (.iad 1 (.tmp 61) (.tmp 63))⟩, ⟨(some 65), none, .p (.ld none (.tmp 64))⟩, ⟨(some 66), none, .p (.fad 0 (.tmp 3))⟩, ⟨(some 67), none, .p (.ld none (.tmp 66))⟩, ⟨(some 68), none, .p (.fad 2 (.tmp 10))⟩, ⟨(some 69), none, .p (.ld none (.tmp 68))⟩, ⟨(some 70), none, .p (.iad 1 (.tmp 67) (.tmp 69))⟩, ⟨(some 71), none, .p (.ld none (.tmp 70))⟩, ⟨(some 72), none, .p (.bin .sub (.tmp 71) (.const (.int .i64 1)))⟩, ⟨(some 73), none, .p (.bin .eql (.tmp 65) (.tmp 72))⟩, ⟨(some 59), none, .p (.mov (.tmp 73))⟩] true)
  (.cond (.tmp 59) (.reg [⟨(some 74), none, .p (.mov (.tmp 8))⟩, ⟨(some 75), none, .p (.fad 2 (.tmp 10))⟩, ⟨(some 76), none, .p (.ld none (.tmp 75))⟩, ⟨(some 77), none, .p (.iad 1 (.tmp 74) (.tmp 76))⟩, ⟨none, none, .e (.st 1 (.tmp 77) (.const (.bool true)))⟩]) (.seq (.dreg [⟨(some 79), none, .p (.fad 0 (.tmp 3))⟩, ⟨(some 80), none, .p (.ld none (.tmp 79))⟩, ⟨(some 81), none, .p (.fad 2 (.tmp 10))⟩, ⟨(some 82), none, .p (.ld none (.tmp 81))⟩, ⟨(some 83), none, .p (.iad 1 (.tmp 80) (.tmp 82))⟩, ⟨(some 84), none, .p (.ld none (.tmp 83))⟩, ⟨(some 85), none, .p (.fad 0 (.tmp 3))⟩, ⟨(some 86), none, .p (.ld none (.tmp 85))⟩, ⟨(some 87), none, .p (.fad 0 (.tmp 10))⟩, ⟨(some 88), none, .p (.ld none (.tmp 87))⟩, ⟨(some 89), none, .p (.iad 1 (.tmp 86) (.tmp 88))⟩, ⟨(some 90), none, .p (.ld none (.tmp 89))⟩, ⟨(some 91), none, .p (.bin .sub (.tmp 90) (.const (.int .i64 1)))⟩, ⟨(some 92), none, .p (.bin .eql (.tmp 84) (.tmp 91))⟩, ⟨(some 78), none, .p (.mov (.tmp 92))⟩] true)
  (.cond (.tmp 78) (.reg [⟨(some 93), none, .p (.mov (.tmp 8))⟩, ⟨(some 94), none, .p (.fad 0 (.tmp 10))⟩, ⟨(some 95), none, .p (.ld none (.tmp 94))⟩, ⟨(some 96), none, .p (.iad 1 (.tmp 93) (.tmp 95))⟩, ⟨none, none, .e (.st 1 (.tmp 96) (.const (.bool true)))⟩]) .skip)))))))
  (.reg [⟨(some 97), none, .p (.bin .add (.tmp 55) (.const (.int .i64 1)))⟩, ⟨(some 55), none, .p (.mov (.tmp 97))⟩]))))
def lb15_2 : LC :=
  (.seq (.reg [⟨(some 29), none, .p (.bin .lss (.tmp 28) (.tmp 27))⟩])
  (.seq (.cond (.tmp 29) .skip (.exit 0))
  (.seq (.block 1
  (.seq (.reg [⟨(some 30), none, .p (.iad 1 (.tmp 26) (.tmp 28))⟩, ⟨(some 31), none, .p (.ld none (.tmp 30))⟩, ⟨(some 7), none, .p (.mov (.tmp 31))⟩])
  (.seq (.seq (.reg [⟨(some 32), none, .p (.mov (.tmp 7))⟩, ⟨(some 33), none, .p (.bin .lss (.tmp 32) (.const (.int .i64 (-1))))⟩, ⟨(some 34), none, .p (.mov (.tmp 33))⟩, ⟨(some 35), (some (34, false)), .p (.mov (.tmp 7))⟩, ⟨(some 36), (some (34, false)), .p (.fad 0 (.tmp 2))⟩, ⟨(some 37), (some (34, false)), .p (.ld none (.tmp 36))⟩, ⟨(some 38), (some (34, false)), .p (.len 1 (.tmp 37))⟩, ⟨(some 39), (some (34, false)), .p (.bin .geq (.tmp 35) (.tmp 38))⟩, ⟨(some 40), none, .p (.pick (.tmp 34) (.const (.bool true)) (.tmp 39))⟩])
  (.cond (.tmp 40) (.seq (.reg [⟨(some 4), none, .p (.mov (.const (.bool false)))⟩])
  .ret) .skip))
  (.seq (.reg [⟨(some 41), none, .p (.mov (.tmp 7))⟩, ⟨(some 42), none, .p (.bin .eql (.tmp 41) (.const (.int .i64 0)))⟩])
  (.cond (.tmp 42) (.reg [⟨(some 43), none, .p (.mov (.tmp 5))⟩, ⟨(some 44), none, .p (.bin .add (.tmp 43) (.const (.int .i64 1)))⟩, ⟨(some 5), none, .p (.mov (.tmp 44))⟩]) .skip)))))
  (.reg [⟨(some 45), none, .p (.bin .add (.tmp 28) (.const (.int .i64 1)))⟩, ⟨(some 28), none, .p (.mov (.tmp 45))⟩]))))
/-- fairlink order.Valid -/
def cf15 : LC :=
  (.seq (.reg [⟨(some 2), none, .e (.box (.tmp 0))⟩, ⟨(some 3), none, .e (.box (.tmp 1))⟩, ⟨(some 4), none, .p (.mov (.const (.bool false)))⟩])
  (.seq (.seq (.reg [⟨(some 13), none, .p (.ld (some 2) (.tmp 2))⟩, ⟨(some 14), none, .e (.call 25 [(.tmp 13)])⟩, ⟨(some 15), none, .p (.bin .neq (.tmp 14) (.const (.int .i64 0)))⟩, ⟨(some 16), none, .p (.mov (.tmp 15))⟩, ⟨(some 17), (some (16, false)), .p (.fad 0 (.tmp 3))⟩, ⟨(some 18), (some (16, false)), .p (.ld none (.tmp 17))⟩, ⟨(some 19), (some (16, false)), .p (.len 1 (.tmp 18))⟩, ⟨(some 20), (some (16, false)), .p (.fad 0 (.tmp 2))⟩, ⟨(some 21), (some (16, false)), .p (.ld none (.tmp 20))⟩, ⟨(some 22), (some (16, false)), .p (.len 1 (.tmp 21))⟩, ⟨(some 23), (some (16, false)), .p (.bin .neq (.tmp 19) (.tmp 22))⟩, ⟨(some 24), none, .p (.pick (.tmp 16) (.const (.bool true)) (.tmp 23))⟩])
  (.cond (.tmp 24) (.seq (.reg [⟨(some 4), none, .p (.mov (.const (.bool false)))⟩])
  .ret) .skip))
  (.seq (.reg [⟨(some 5), none, .p (.mov (.const (.int .i64 0)))⟩])
  (.seq (.seq (.reg [⟨(some 25), none, .p (.fad 0 (.tmp 3))⟩, ⟨(some 26), none, .p (.ld none (.tmp 25))⟩, ⟨(some 27), none, .p (.len 1 (.tmp 26))⟩, ⟨(some 28), none, .p (.mov (.const (.int .i64 0)))⟩])
  (.block 0
  (.loop lb15_2)))
  (.seq (.seq (.reg [⟨(some 46), none, .p (.mov (.tmp 5))⟩, ⟨(some 47), none, .p (.bin .neq (.tmp 46) (.const (.int .i64 1)))⟩])
  (.cond (.tmp 47) (.seq (.reg [⟨(some 4), none, .p (.mov (.const (.bool false)))⟩])
  .ret) .skip))
  (.seq (.reg [⟨(some 48), none, .p (.fad 0 (.tmp 2))⟩, ⟨(some 49), none, .p (.ld none (.tmp 48))⟩, ⟨(some 50), none, .p (.len 1 (.tmp 49))⟩, ⟨(some 51), none, .e (.mks 2 1 [(.bool false)] 1 (.tmp 50) (.tmp 50))⟩, ⟨(some 8), none, .p (.mov (.tmp 51))⟩])
  (.seq (.seq (.reg [⟨(some 52), none, .p (.fad 1 (.tmp 2))⟩, ⟨(some 53), none, .p (.ld none (.tmp 52))⟩, ⟨(some 54), none, .p (.len 1 (.tmp 53))⟩, ⟨(some 55), none, .p (.mov (.const (.int .i64 0)))⟩])
  (.block 2
  (.loop lb15_1)))
  (.seq (.seq (.reg [⟨(some 98), none, .p (.fad 0 (.tmp 3))⟩, ⟨(some 99), none, .p (.ld none (.tmp 98))⟩, ⟨(some 100), none, .p (.len 1 (.tmp 99))⟩, ⟨(some 101), none, .p (.mov (.const (.int .i64 0)))⟩])
  (.block 5
  (.loop lb15_0)))
  (.seq (.reg [⟨(some 4), none, .p (.mov (.const (.bool true)))⟩])
  .ret)))))))))
def rf15 : List RX := [.tmp 4]
set_option maxRecDepth 100000 in
theorem comp15 : cFn Try.prog Try.f15 = some (erase cf15, rf15) := by kernel_rfl
/-- fairlink order.Upward -/
def cf16 : LC :=
  (.seq (.reg [⟨(some 4), none, .e (.box (.tmp 0))⟩, ⟨(some 5), none, .e (.box (.tmp 1))⟩, ⟨(some 8), none, .p (.mov (.const (.bool false)))⟩, ⟨(some 9), none, .p (.mov (.const (.int .i64 0)))⟩])
  (.seq (.seq (.reg [⟨(some 11), none, .p (.ld (some 2) (.tmp 4))⟩, ⟨(some 12), none, .p (.ld (some 1) (.tmp 5))⟩, ⟨(some 13), none, .e (.call 15 [(.tmp 11), (.tmp 12)])⟩, ⟨(some 14), none, .p (.un .not (.tmp 13))⟩])
  (.cond (.tmp 14) (.seq (.reg [⟨(some 8), none, .p (.mov (.const (.bool false)))⟩, ⟨(some 9), none, .p (.mov (.const (.int .i64 1)))⟩])
  .ret) .skip))
  (.seq (.seq (.reg [⟨(some 15), none, .p (.mov (.tmp 2))⟩, ⟨(some 16), none, .p (.bin .lss (.tmp 15) (.const (.int .i64 0)))⟩, ⟨(some 17), none, .p (.mov (.tmp 16))⟩, ⟨(some 18), (some (17, false)), .p (.mov (.tmp 2))⟩, ⟨(some 19), (some (17, false)), .p (.fad 1 (.tmp 4))⟩, ⟨(some 20), (some (17, false)), .p (.ld none (.tmp 19))⟩, ⟨(some 21), (some (17, false)), .p (.len 1 (.tmp 20))⟩, ⟨(some 22), (some (17, false)), .p (.bin .geq (.tmp 18) (.tmp 21))⟩, ⟨(some 23), none, .p (.pick (.tmp 17) (.const (.bool true)) (.tmp 22))⟩])
  (.cond (.tmp 23) (.seq (.reg [⟨(some 8), none, .p (.mov (.const (.bool false)))⟩, ⟨(some 9), none, .p (.mov (.const (.int .i64 2)))⟩])
  .ret) .skip))
  (.seq (.reg [⟨(some 24), none, .p (.fad 1 (.tmp 4))⟩, ⟨(some 25), none, .p (.ld none (.tmp 24))⟩, ⟨(some 26), none, .p (.mov (.tmp 2))⟩, ⟨(some 27), none, .p (.iad 6 (.tmp 25) (.tmp 26))⟩, ⟨(some 28), none, .p (.ld (some 6) (.tmp 27))⟩, ⟨(some 10), none, .e (.alc [(.int .i64 0), (.int .i64 0), (.int .i64 0), (.int .i64 0), (.int .i64 0), (.int .i64 0)])⟩, ⟨none, none, .e (.st 6 (.tmp 10) (.tmp 28))⟩])
  (.seq (.seq (.reg [⟨(some 29), none, .p (.mov (.tmp 3))⟩, ⟨(some 30), none, .p (.fad 0 (.tmp 10))⟩, ⟨(some 31), none, .p (.ld none (.tmp 30))⟩, ⟨(some 32), none, .p (.bin .neq (.tmp 29) (.tmp 31))⟩, ⟨(some 33), none, .p (.mov (.tmp 32))⟩, ⟨(some 34), (some (33, true)), .p (.mov (.tmp 3))⟩, ⟨(some 35), (some (33, true)), .p (.fad 2 (.tmp 10))⟩, ⟨(some 36), (some (33, true)), .p (.ld none (.tmp 35))⟩, ⟨(some 37), (some (33, true)), .p (.bin .neq (.tmp 34) (.tmp 36))⟩, ⟨(some 38), none, .p (.pick (.tmp 33) (.tmp 37) (.const (.bool false)))⟩])
  (.cond (.tmp 38) (.seq (.reg [⟨(some 8), none, .p (.mov (.const (.bool false)))⟩, ⟨(some 9), none, .p (.mov (.const (.int .i64 2)))⟩])
  .ret) .skip))
  (.seq (.seq (.reg [⟨(some 39), none, .p (.fad 0 (.tmp 5))⟩, ⟨(some 40), none, .p (.ld none (.tmp 39))⟩, ⟨(some 41), none, .p (.fad 0 (.tmp 10))⟩, ⟨(some 42), none, .p (.ld none (.tmp 41))⟩, ⟨(some 43), none, .p (.iad 1 (.tmp 40) (.tmp 42))⟩, ⟨(some 44), none, .p (.ld none (.tmp 43))⟩, ⟨(some 45), none, .p (.bin .lss (.tmp 44) (.const (.int .i64 0)))⟩, ⟨(some 46), none, .p (.mov (.tmp 45))⟩, ⟨(some 47), (some (46, false)), .p (.fad 0 (.tmp 5))⟩, ⟨(some 48), (some (46, false)), .p (.ld none (.tmp 47))⟩, ⟨(some 49), (some (46, false)), .p (.fad 2 (.tmp 10))⟩, ⟨(some 50), (some (46, false)), .p (.ld none (.tmp 49))⟩, ⟨(some 51), (some (46, false)), .p (.iad 1 (.tmp 48) (.tmp 50))⟩, ⟨(some 52), (some (46, false)), .p (.ld none (.tmp 51))⟩, ⟨(some 53), (some (46, false)), .p (.bin .lss (.tmp 52) (.const (.int .i64 0)))⟩, ⟨(some 54), none, .p (.pick (.tmp 46) (.const (.bool true)) (.tmp 53))⟩])
  (.cond (.tmp 54) (.seq (.reg [⟨(some 8), none, .p (.mov (.const (.bool false)))⟩, ⟨(some 9), none, .p (.mov (.const (.int .i64 12)))⟩])
  .ret) .skip))
  (.seq (.reg [⟨(some 55), none, .p (.ld (some 1) (.tmp 5))⟩, ⟨(some 56), none, .p (.fad 0 (.tmp 10))⟩, ⟨(some 57), none, .p (.ld none (.tmp 56))⟩, ⟨(some 58), none, .p (.fad 2 (.tmp 10))⟩, ⟨(some 59), none, .p (.ld none (.tmp 58))⟩, ⟨(some 60), none, .p (.bin .add (.tmp 57) (.tmp 59))⟩, ⟨(some 61), none, .p (.mov (.tmp 3))⟩, ⟨(some 62), none, .p (.bin .sub (.tmp 60) (.tmp 61))⟩, ⟨(some 63), none, .p (.mov (.tmp 3))⟩, ⟨(some 64), none, .e (.call 20 [(.tmp 55), (.tmp 62), (.tmp 63)])⟩, ⟨(some 8), none, .p (.mov (.tmp 64))⟩, ⟨(some 9), none, .p (.mov (.const (.int .i64 0)))⟩])
  .ret)))))))
def rf16 : List RX := [.tmp 8, .tmp 9]
set_option maxRecDepth 100000 in
theorem comp16 : cFn Try.prog Try.f16 = some (erase cf16, rf16) := by kernel_rfl
def lb17_0 : LC :=
  (.seq (.seq (.reg [⟨(some 48), none, .p (.mov (.tmp 8))⟩, ⟨(some 49), none, .p (.fad 1 (.tmp 2))⟩, ⟨(some 50), none, .p (.ld none (.tmp 49))⟩, ⟨(some 51), none, .p (.len 1 (.tmp 50))⟩, ⟨(some 52), none, .p (.bin .lss (.tmp 48) (.tmp 51))⟩])
  (.cond (.tmp 52) .skip (.exit 2)))
  (.seq (.block 3
  (.seq (.reg [⟨(some 55), none, .p (.fad 1 (.tmp 2))⟩, ⟨(some 56), none, .p (.ld none (.tmp 55))⟩, ⟨(some 57), none, .p (.mov (.tmp 8))⟩, ⟨(some 58), none, .p (.iad 6 (.tmp 56) (.tmp 57))⟩, ⟨(some 59), none, .p (.ld (some 6) (.tmp 58))⟩, ⟨(some 60), none, .p (.mov (.tmp 6))⟩, ⟨(some 61), none, .e (.call 27 [(.tmp 59), (.tmp 60)])⟩, ⟨(some 9), none, .p (.mov (.tmp 61))⟩])
  (.seq (.dreg [⟨(some 62), none, .p (.mov (.tmp 9))⟩, ⟨(some 63), none, .p (.bin .geq (.tmp 62) (.const (.int .i64 0)))⟩, ⟨(some 64), none, .p (.mov (.tmp 63))⟩, ⟨(some 65), (some (64, true)), .p (.mov (.tmp 1))⟩, ⟨(some 66), (some (64, true)), .p (.mov (.tmp 9))⟩, ⟨(some 67), (some (64, true)), .p (.iad 1 (.tmp 65) (.tmp 66))⟩, ⟨(some 68), (some (64, true)), .p (.ld none (.tmp 67))⟩, ⟨(some 69), (some (64, true)), .p (.mov (.tmp 1))⟩, ⟨(some 70), (some (64, true)), .p (.mov (.tmp 6))⟩, ⟨(some 71), (some (64, true)), .p (.iad 1 (.tmp 69) (.tmp 70))⟩, ⟨(some 72), (some (64, true)), .p (.ld none (.tmp 71))⟩, ⟨(some 73), (some (64, true)), .p (.bin .sub (.tmp 72) (.const (.int .i64 1)))⟩, ⟨(some 74), (some (64, true)), .p (.bin .eql (.tmp 68) (.tmp 73))⟩, ⟨(some 75), none, .p (.pick (.tmp 64) (.tmp 74) (.const (.bool false)))⟩] true)
  (.cond (.tmp 75) (.reg [⟨(some 7), none, .p (.mov (.const (.bool true)))⟩]) .skip))))
  (.reg [⟨(some 53), none, .p (.mov (.tmp 8))⟩, ⟨(some 54), none, .p (.bin .add (.tmp 53) (.const (.int .i64 1)))⟩, ⟨(some 8), none, .p (.mov (.tmp 54))⟩])))
def lb17_1 : LC :=
  (.seq (.seq (.reg [⟨(some 16), none, .p (.mov (.tmp 6))⟩, ⟨(some 17), none, .p (.mov (.tmp 1))⟩, ⟨(some 18), none, .p (.len 1 (.tmp 17))⟩, ⟨(some 19), none, .p (.bin .lss (.tmp 16) (.tmp 18))⟩])
  (.cond (.tmp 19) .skip (.exit 0)))
  (.seq (.block 1
  (.seq (.seq (.reg [⟨(some 22), none, .p (.mov (.tmp 1))⟩, ⟨(some 23), none, .p (.mov (.tmp 6))⟩, ⟨(some 24), none, .p (.iad 1 (.tmp 22) (.tmp 23))⟩, ⟨(some 25), none, .p (.ld none (.tmp 24))⟩, ⟨(some 26), none, .p (.bin .lss (.tmp 25) (.const (.int .i64 (-1))))⟩, ⟨(some 27), none, .p (.mov (.tmp 26))⟩, ⟨(some 28), (some (27, false)), .p (.mov (.tmp 1))⟩, ⟨(some 29), (some (27, false)), .p (.mov (.tmp 6))⟩, ⟨(some 30), (some (27, false)), .p (.iad 1 (.tmp 28) (.tmp 29))⟩, ⟨(some 31), (some (27, false)), .p (.ld none (.tmp 30))⟩, ⟨(some 32), (some (27, false)), .p (.mov (.tmp 1))⟩, ⟨(some 33), (some (27, false)), .p (.len 1 (.tmp 32))⟩, ⟨(some 34), (some (27, false)), .p (.bin .geq (.tmp 31) (.tmp 33))⟩, ⟨(some 35), none, .p (.pick (.tmp 27) (.const (.bool true)) (.tmp 34))⟩])
  (.cond (.tmp 35) (.seq (.reg [⟨(some 4), none, .p (.mov (.const (.bool false)))⟩])
  .ret) .skip))
  (.seqj (.seq (.reg [⟨(some 36), none, .p (.mov (.tmp 1))⟩, ⟨(some 37), none, .p (.mov (.tmp 6))⟩, ⟨(some 38), none, .p (.iad 1 (.tmp 36) (.tmp 37))⟩, ⟨(some 39), none, .p (.ld none (.tmp 38))⟩, ⟨(some 40), none, .p (.bin .eql (.tmp 39) (.const (.int .i64 0)))⟩])
  (.cond (.tmp 40) (.reg [⟨(some 41), none, .p (.mov (.tmp 5))⟩, ⟨(some 42), none, .p (.bin .add (.tmp 41) (.const (.int .i64 1)))⟩, ⟨(some 5), none, .p (.mov (.tmp 42))⟩]) .skip))
  (.seq (.reg [⟨(some 43), none, .p (.mov (.tmp 1))⟩, ⟨(some 44), none, .p (.mov (.tmp 6))⟩, ⟨(some 45), none, .p (.iad 1 (.tmp 43) (.tmp 44))⟩, ⟨(some 46), none, .p (.ld none (.tmp 45))⟩, ⟨(some 47), none, .p (.bin .lss (.tmp 46) (.const (.int .i64 1)))⟩, ⟨(some 7), none, .p (.mov (.tmp 47))⟩])
  (.seq (.seq (.reg [⟨(some 8), none, .p (.mov (.const (.int .i64 0)))⟩])
  (.block 2
  (.loop lb17_0)))
  (.seq (.reg [⟨(some 76), none, .p (.mov (.tmp 7))⟩, ⟨(some 77), none, .p (.un .not (.tmp 76))⟩])
  (.cond (.tmp 77) (.seq (.reg [⟨(some 4), none, .p (.mov (.const (.bool false)))⟩])
  .ret) .skip)))))))
  (.reg [⟨(some 20), none, .p (.mov (.tmp 6))⟩, ⟨(some 21), none, .p (.bin .add (.tmp 20) (.const (.int .i64 1)))⟩, ⟨(some 6), none, .p (.mov (.tmp 21))⟩])))
/-- fairlink fairlinkref17.Fits -/
def cf17 : LC :=
  (.seq (.reg [⟨(some 2), none, .e (.box (.tmp 0))⟩, ⟨(some 4), none, .p (.mov (.const (.bool false)))⟩])
  (.seq (.seq (.reg [⟨(some 10), none, .p (.mov (.tmp 1))⟩, ⟨(some 11), none, .p (.len 1 (.tmp 10))⟩, ⟨(some 12), none, .p (.fad 0 (.tmp 2))⟩, ⟨(some 13), none, .p (.ld none (.tmp 12))⟩, ⟨(some 14), none, .p (.len 1 (.tmp 13))⟩, ⟨(some 15), none, .p (.bin .neq (.tmp 11) (.tmp 14))⟩])
  (.cond (.tmp 15) (.seq (.reg [⟨(some 4), none, .p (.mov (.const (.bool false)))⟩])
  .ret) .skip))
  (.seq (.reg [⟨(some 5), none, .p (.mov (.const (.int .i64 0)))⟩])
  (.seq (.seq (.reg [⟨(some 6), none, .p (.mov (.const (.int .i64 0)))⟩])
  (.block 0
  (.loop lb17_1)))
  (.seq (.reg [⟨(some 78), none, .p (.mov (.tmp 5))⟩, ⟨(some 79), none, .p (.bin .eql (.tmp 78) (.const (.int .i64 1)))⟩, ⟨(some 4), none, .p (.mov (.tmp 79))⟩])
  .ret)))))
def rf17 : List RX := [.tmp 4]
set_option maxRecDepth 100000 in
theorem comp17 : cFn Try.prog Try.f17 = some (erase cf17, rf17) := by kernel_rfl
/-- fairlink fairlinkref17.Other -/
def cf18 : LC :=
  (.seq (.reg [⟨(some 3), none, .e (.box (.tmp 0))⟩, ⟨(some 6), none, .p (.mov (.const (.int .i64 0)))⟩])
  (.seq (.reg [⟨(some 7), none, .p (.fad 1 (.tmp 3))⟩, ⟨(some 8), none, .p (.ld none (.tmp 7))⟩, ⟨(some 9), none, .p (.mov (.tmp 1))⟩, ⟨(some 10), none, .p (.iad 6 (.tmp 8) (.tmp 9))⟩, ⟨(some 11), none, .p (.ld (some 6) (.tmp 10))⟩, ⟨(some 12), none, .p (.mov (.tmp 2))⟩, ⟨(some 13), none, .e (.call 27 [(.tmp 11), (.tmp 12)])⟩, ⟨(some 6), none, .p (.mov (.tmp 13))⟩])
  .ret))
def rf18 : List RX := [.tmp 6]
set_option maxRecDepth 100000 in
theorem comp18 : cFn Try.prog Try.f18 = some (erase cf18, rf18) := by kernel_rfl
/-- fairlink fairlinkref17.Above -/
def cf19 : LC :=
  (.seq (.reg [⟨(some 6), none, .p (.mov (.const (.bool false)))⟩])
  (.seq (.seq (.reg [⟨(some 7), none, .p (.mov (.tmp 1))⟩, ⟨(some 8), none, .p (.bin .lss (.tmp 7) (.const (.int .i64 0)))⟩, ⟨(some 9), none, .p (.mov (.tmp 8))⟩, ⟨(some 10), (some (9, false)), .p (.mov (.tmp 2))⟩, ⟨(some 11), (some (9, false)), .p (.bin .lss (.tmp 10) (.const (.int .i64 0)))⟩, ⟨(some 12), none, .p (.pick (.tmp 9) (.const (.bool true)) (.tmp 11))⟩, ⟨(some 13), none, .p (.mov (.tmp 12))⟩, ⟨(some 14), (some (13, false)), .p (.mov (.tmp 1))⟩, ⟨(some 15), (some (13, false)), .p (.mov (.tmp 0))⟩, ⟨(some 16), (some (13, false)), .p (.len 1 (.tmp 15))⟩, ⟨(some 17), (some (13, false)), .p (.bin .geq (.tmp 14) (.tmp 16))⟩, ⟨(some 18), none, .p (.pick (.tmp 13) (.const (.bool true)) (.tmp 17))⟩, ⟨(some 19), none, .p (.mov (.tmp 18))⟩, ⟨(some 20), (some (19, false)), .p (.mov (.tmp 2))⟩, ⟨(some 21), (some (19, false)), .p (.mov (.tmp 0))⟩, ⟨(some 22), (some (19, false)), .p (.len 1 (.tmp 21))⟩, ⟨(some 23), (some (19, false)), .p (.bin .geq (.tmp 20) (.tmp 22))⟩, ⟨(some 24), none, .p (.pick (.tmp 19) (.const (.bool true)) (.tmp 23))⟩, ⟨(some 25), none, .p (.mov (.tmp 24))⟩, ⟨(some 26), (some (25, false)), .p (.mov (.tmp 0))⟩, ⟨(some 27), (some (25, false)), .p (.mov (.tmp 1))⟩, ⟨(some 28), (some (25, false)), .p (.iad 1 (.tmp 26) (.tmp 27))⟩, ⟨(some 29), (some (25, false)), .p (.ld none (.tmp 28))⟩, ⟨(some 30), (some (25, false)), .p (.bin .lss (.tmp 29) (.const (.int .i64 0)))⟩, ⟨(some 31), none, .p (.pick (.tmp 25) (.const (.bool true)) (.tmp 30))⟩, ⟨(some 32), none, .p (.mov (.tmp 31))⟩, ⟨(some 33), (some (32, false)), .p (.mov (.tmp 0))⟩, ⟨(some 34), (some (32, false)), .p (.mov (.tmp 2))⟩, ⟨(some 35), (some (32, false)), .p (.iad 1 (.tmp 33) (.tmp 34))⟩, ⟨(some 36), (some (32, false)), .p (.ld none (.tmp 35))⟩, ⟨(some 37), (some (32, false)), .p (.bin .lss (.tmp 36) (.const (.int .i64 0)))⟩, ⟨(some 38), none, .p (.pick (.tmp 32) (.const (.bool true)) (.tmp 37))⟩])
  (.cond (.tmp 38) (.seq (.reg [⟨(some 6), none, .p (.mov (.const (.bool false)))⟩])
  .ret) .skip))
  (.seq (.dreg [⟨(some 39), none, .p (.mov (.tmp 0))⟩, ⟨(some 40), none, .p (.mov (.tmp 1))⟩, ⟨(some 41), none, .p (.iad 1 (.tmp 39) (.tmp 40))⟩, ⟨(some 42), none, .p (.ld none (.tmp 41))⟩, ⟨(some 43), none, .p (.mov (.tmp 0))⟩, ⟨(some 44), none, .p (.mov (.tmp 2))⟩, ⟨(some 45), none, .p (.iad 1 (.tmp 43) (.tmp 44))⟩, ⟨(some 46), none, .p (.ld none (.tmp 45))⟩, ⟨(some 47), none, .p (.bin .lss (.tmp 42) (.tmp 46))⟩, ⟨(some 48), none, .p (.mov (.tmp 47))⟩, ⟨(some 49), (some (48, false)), .p (.mov (.tmp 0))⟩, ⟨(some 50), (some (48, false)), .p (.mov (.tmp 1))⟩, ⟨(some 51), (some (48, false)), .p (.iad 1 (.tmp 49) (.tmp 50))⟩, ⟨(some 52), (some (48, false)), .p (.ld none (.tmp 51))⟩, ⟨(some 53), (some (48, false)), .p (.mov (.tmp 0))⟩, ⟨(some 54), (some (48, false)), .p (.mov (.tmp 2))⟩, ⟨(some 55), (some (48, false)), .p (.iad 1 (.tmp 53) (.tmp 54))⟩, ⟨(some 56), (some (48, false)), .p (.ld none (.tmp 55))⟩, ⟨(some 57), (some (48, false)), .p (.bin .eql (.tmp 52) (.tmp 56))⟩, ⟨(some 58), (some (48, false)), .p (.mov (.tmp 57))⟩, ⟨(some 59), (some (58, true)), .p (.mov (.tmp 1))⟩, ⟨(some 60), (some (58, true)), .p (.mov (.tmp 2))⟩, ⟨(some 61), (some (58, true)), .p (.bin .lss (.tmp 59) (.tmp 60))⟩, ⟨(some 62), (some (48, false)), .p (.pick (.tmp 58) (.tmp 61) (.const (.bool false)))⟩, ⟨(some 63), none, .p (.pick (.tmp 48) (.const (.bool true)) (.tmp 62))⟩, ⟨(some 6), none, .p (.mov (.tmp 63))⟩] true)
  .ret)))
def rf19 : List RX := [.tmp 6]
set_option maxRecDepth 100000 in
theorem comp19 : cFn Try.prog Try.f19 = some (erase cf19, rf19) := by kernel_rfl
/-- fairlink order.Above -/
def cf20 : LC :=
  (.seq (.reg [⟨(some 3), none, .e (.box (.tmp 0))⟩, ⟨(some 6), none, .p (.mov (.const (.bool false)))⟩])
  (.seq (.reg [⟨(some 8), none, .p (.mkf 28 [(.tmp 3)])⟩, ⟨(some 7), none, .p (.mov (.tmp 8))⟩])
  (.seq (.seq (.reg [⟨(some 9), none, .p (.mov (.tmp 7))⟩, ⟨(some 10), none, .p (.mov (.tmp 1))⟩, ⟨(some 11), none, .e (.calv (.tmp 9) [(.tmp 10)])⟩, ⟨(some 12), none, .p (.un .not (.tmp 11))⟩, ⟨(some 13), none, .p (.mov (.tmp 12))⟩, ⟨(some 14), (some (13, false)), .p (.mov (.tmp 7))⟩, ⟨(some 15), (some (13, false)), .p (.mov (.tmp 2))⟩, ⟨(some 16), (some (13, false)), .e (.calv (.tmp 14) [(.tmp 15)])⟩, ⟨(some 17), (some (13, false)), .p (.un .not (.tmp 16))⟩, ⟨(some 18), none, .p (.pick (.tmp 13) (.const (.bool true)) (.tmp 17))⟩])
  (.cond (.tmp 18) (.seq (.reg [⟨(some 6), none, .p (.mov (.const (.bool false)))⟩])
  .ret) .skip))
  (.seq (.dreg [⟨(some 19), none, .p (.fad 0 (.tmp 3))⟩, ⟨(some 20), none, .p (.ld none (.tmp 19))⟩, ⟨(some 21), none, .p (.mov (.tmp 1))⟩, ⟨(some 22), none, .p (.iad 1 (.tmp 20) (.tmp 21))⟩, ⟨(some 23), none, .p (.ld none (.tmp 22))⟩, ⟨(some 24), none, .p (.fad 0 (.tmp 3))⟩, ⟨(some 25), none, .p (.ld none (.tmp 24))⟩, ⟨(some 26), none, .p (.mov (.tmp 2))⟩, ⟨(some 27), none, .p (.iad 1 (.tmp 25) (.tmp 26))⟩, ⟨(some 28), none, .p (.ld none (.tmp 27))⟩, ⟨(some 29), none, .e (.call 30 [(.tmp 23), (.tmp 28)])⟩, ⟨(some 30), none, .p (.mov (.tmp 1))⟩, ⟨(some 31), none, .p (.mov (.tmp 2))⟩, ⟨(some 32), none, .e (.call 30 [(.tmp 30), (.tmp 31)])⟩, ⟨(some 33), none, .e (.bsr 2 1 [(.int .i64 0)] [(0, 1, (.tmp 29)), (1, 1, (.tmp 32))])⟩, ⟨(some 34), none, .e (.call 29 [(.tmp 33)])⟩, ⟨(some 35), none, .p (.bin .lss (.tmp 34) (.const (.int .i64 0)))⟩, ⟨(some 6), none, .p (.mov (.tmp 35))⟩] true)
  .ret))))
def rf20 : List RX := [.tmp 6]
set_option maxRecDepth 100000 in
theorem comp20 : cFn Try.prog Try.f20 = some (erase cf20, rf20) := by kernel_rfl
def lb21_0 : LC :=
  (.seq (.reg [⟨(some 29), none, .p (.bin .lss (.tmp 28) (.tmp 27))⟩])
  (.seq (.cond (.tmp 29) .skip (.exit 0))
  (.seq (.block 1
  (.seq (.reg [⟨(some 30), none, .p (.mov (.tmp 28))⟩, ⟨(some 31), none, .p (.iad 3 (.tmp 26) (.tmp 28))⟩, ⟨(some 32), none, .p (.ld (some 3) (.tmp 31))⟩, ⟨(some 7), none, .e (.alc [(.string ⟨#[]⟩), (.bool false), (.int .i64 0)])⟩, ⟨(some 6), none, .p (.mov (.tmp 30))⟩, ⟨none, none, .e (.st 3 (.tmp 7) (.tmp 32))⟩])
  (.seq (.reg [⟨(some 33), none, .p (.fad 1 (.tmp 7))⟩, ⟨(some 34), none, .p (.ld none (.tmp 33))⟩])
  (.cond (.tmp 34) (.seq (.reg [⟨(some 35), none, .p (.mov (.tmp 6))⟩, ⟨(some 4), none, .p (.mov (.tmp 35))⟩, ⟨(some 5), none, .p (.mov (.const (.bool true)))⟩])
  .ret) .skip))))
  (.reg [⟨(some 36), none, .p (.bin .add (.tmp 28) (.const (.int .i64 1)))⟩, ⟨(some 28), none, .p (.mov (.tmp 36))⟩]))))
/-- fairlink order.Least -/
def cf21 : LC :=
  (.seq (.reg [⟨(some 2), none, .e (.box (.tmp 0))⟩, ⟨(some 4), none, .p (.mov (.const (.int .i64 0)))⟩, ⟨(some 5), none, .p (.mov (.const (.bool false)))⟩])
  (.seq (.seq (.reg [⟨(some 8), none, .p (.ld (some 2) (.tmp 2))⟩, ⟨(some 9), none, .e (.call 25 [(.tmp 8)])⟩, ⟨(some 10), none, .p (.bin .neq (.tmp 9) (.const (.int .i64 0)))⟩, ⟨(some 11), none, .p (.mov (.tmp 10))⟩, ⟨(some 12), (some (11, false)), .p (.mov (.tmp 1))⟩, ⟨(some 13), (some (11, false)), .p (.len 1 (.tmp 12))⟩, ⟨(some 14), (some (11, false)), .p (.fad 1 (.tmp 2))⟩, ⟨(some 15), (some (11, false)), .p (.ld none (.tmp 14))⟩, ⟨(some 16), (some (11, false)), .p (.len 1 (.tmp 15))⟩, ⟨(some 17), (some (11, false)), .p (.bin .neq (.tmp 13) (.tmp 16))⟩, ⟨(some 18), none, .p (.pick (.tmp 11) (.const (.bool true)) (.tmp 17))⟩, ⟨(some 19), none, .p (.mov (.tmp 18))⟩, ⟨(some 20), (some (19, false)), .p (.fad 0 (.tmp 2))⟩, ⟨(some 21), (some (19, false)), .p (.ld none (.tmp 20))⟩, ⟨(some 22), (some (19, false)), .p (.len 1 (.tmp 21))⟩, ⟨(some 23), (some (19, false)), .p (.bin .eql (.tmp 22) (.const (.int .i64 0)))⟩, ⟨(some 24), none, .p (.pick (.tmp 19) (.const (.bool true)) (.tmp 23))⟩])
  (.cond (.tmp 24) (.seq (.reg [⟨(some 4), none, .p (.mov (.const (.int .i64 0)))⟩, ⟨(some 5), none, .p (.mov (.const (.bool false)))⟩])
  .ret) .skip))
  (.seq (.seq (.reg [⟨(some 25), none, .p (.fad 0 (.tmp 2))⟩, ⟨(some 26), none, .p (.ld none (.tmp 25))⟩, ⟨(some 27), none, .p (.len 1 (.tmp 26))⟩, ⟨(some 28), none, .p (.mov (.const (.int .i64 0)))⟩])
  (.block 0
  (.loop lb21_0)))
  (.seq (.reg [⟨(some 4), none, .p (.mov (.const (.int .i64 0)))⟩, ⟨(some 5), none, .p (.mov (.const (.bool true)))⟩])
  .ret))))
def rf21 : List RX := [.tmp 4, .tmp 5]
set_option maxRecDepth 100000 in
theorem comp21 : cFn Try.prog Try.f21 = some (erase cf21, rf21) := by kernel_rfl
def lb22_0 : LC :=
  (.seq (.seq (.reg [⟨(some 4), none, .p (.mov (.tmp 3))⟩, ⟨(some 5), none, .p (.fad 0 (.tmp 1))⟩, ⟨(some 6), none, .p (.ld none (.tmp 5))⟩, ⟨(some 7), none, .p (.len 1 (.tmp 6))⟩, ⟨(some 8), none, .p (.bin .lss (.tmp 4) (.tmp 7))⟩])
  (.cond (.tmp 8) .skip (.exit 0)))
  (.seq (.block 1
  (.seq (.reg [⟨(some 11), none, .p (.fad 0 (.tmp 1))⟩, ⟨(some 12), none, .p (.ld none (.tmp 11))⟩, ⟨(some 13), none, .p (.mov (.tmp 3))⟩, ⟨(some 14), none, .p (.iad 3 (.tmp 12) (.tmp 13))⟩, ⟨(some 15), none, .p (.fad 1 (.tmp 14))⟩, ⟨(some 16), none, .p (.ld none (.tmp 15))⟩])
  (.cond (.tmp 16) (.seq (.reg [⟨(some 17), none, .p (.mov (.tmp 3))⟩, ⟨(some 2), none, .p (.mov (.tmp 17))⟩])
  .ret) .skip)))
  (.reg [⟨(some 9), none, .p (.mov (.tmp 3))⟩, ⟨(some 10), none, .p (.bin .add (.tmp 9) (.const (.int .i64 1)))⟩, ⟨(some 3), none, .p (.mov (.tmp 10))⟩])))
/-- fairlink fairlinkref17.Least -/
def cf22 : LC :=
  (.seq (.reg [⟨(some 1), none, .e (.box (.tmp 0))⟩, ⟨(some 2), none, .p (.mov (.const (.int .i64 0)))⟩])
  (.seq (.seq (.reg [⟨(some 3), none, .p (.mov (.const (.int .i64 0)))⟩])
  (.block 0
  (.loop lb22_0)))
  (.seq (.seq (.reg [⟨(some 18), none, .p (.fad 0 (.tmp 1))⟩, ⟨(some 19), none, .p (.ld none (.tmp 18))⟩, ⟨(some 20), none, .p (.len 1 (.tmp 19))⟩, ⟨(some 21), none, .p (.bin .gtr (.tmp 20) (.const (.int .i64 0)))⟩])
  (.cond (.tmp 21) (.seq (.reg [⟨(some 2), none, .p (.mov (.const (.int .i64 0)))⟩])
  .ret) .skip))
  (.seq (.reg [⟨(some 2), none, .p (.mov (.const (.int .i64 (-1))))⟩])
  .ret))))
def rf22 : List RX := [.tmp 2]
set_option maxRecDepth 100000 in
theorem comp22 : cFn Try.prog Try.f22 = some (erase cf22, rf22) := by kernel_rfl
def lb23_0 : LC :=
  (.seq (.reg [⟨(some 37), none, .p (.bin .lss (.tmp 36) (.tmp 35))⟩])
  (.seq (.cond (.tmp 37) .skip (.exit 2))
  (.seq (.block 3
  (.seq (.reg [⟨(some 38), none, .p (.mov (.tmp 36))⟩, ⟨(some 39), none, .p (.iad 1 (.tmp 34) (.tmp 36))⟩, ⟨(some 40), none, .p (.ld none (.tmp 39))⟩, ⟨(some 7), none, .p (.mov (.tmp 38))⟩, ⟨(some 8), none, .p (.mov (.tmp 40))⟩])
  (.reg [⟨(some 41), none, .p (.mov (.tmp 3))⟩, ⟨(some 42), none, .p (.mov (.tmp 8))⟩, ⟨(some 43), none, .p (.mov (.tmp 7))⟩, ⟨(some 44), none, .p (.iad 1 (.tmp 41) (.tmp 42))⟩, ⟨none, none, .e (.st 1 (.tmp 44) (.tmp 43))⟩])))
  (.reg [⟨(some 45), none, .p (.bin .add (.tmp 36) (.const (.int .i64 1)))⟩, ⟨(some 36), none, .p (.mov (.tmp 45))⟩]))))
def lb23_1 : LC :=
  (.seq (.reg [⟨(some 17), none, .p (.bin .lss (.tmp 16) (.tmp 15))⟩])
  (.seq (.cond (.tmp 17) .skip (.exit 0))
  (.seq (.block 1
  (.seq (.reg [⟨(some 18), none, .p (.mov (.tmp 16))⟩, ⟨(some 19), none, .p (.iad 1 (.tmp 14) (.tmp 16))⟩, ⟨(some 20), none, .p (.ld none (.tmp 19))⟩, ⟨(some 5), none, .p (.mov (.tmp 18))⟩, ⟨(some 6), none, .p (.mov (.tmp 20))⟩])
  (.seq (.reg [⟨(some 21), none, .p (.mov (.tmp 3))⟩, ⟨(some 22), none, .p (.mov (.tmp 5))⟩, ⟨(some 23), none, .p (.iad 1 (.tmp 21) (.tmp 22))⟩, ⟨none, none, .e (.st 1 (.tmp 23) (.const (.int .i64 (-1))))⟩])
  (.seq (.reg [⟨(some 24), none, .p (.mov (.tmp 6))⟩, ⟨(some 25), none, .p (.bin .geq (.tmp 24) (.const (.int .i64 0)))⟩])
  (.cond (.tmp 25) (.reg [⟨(some 26), none, .p (.mov (.tmp 4))⟩, ⟨(some 27), none, .p (.mov (.tmp 5))⟩, ⟨(some 28), none, .e (.bsl 1 1 1 [(.int .i64 0)] [(0, 1, (.tmp 27))])⟩, ⟨(some 29), none, .e (.app 1 1 8 (.tmp 26) (.tmp 28))⟩, ⟨(some 4), none, .p (.mov (.tmp 29))⟩]) .skip)))))
  (.reg [⟨(some 30), none, .p (.bin .add (.tmp 16) (.const (.int .i64 1)))⟩, ⟨(some 16), none, .p (.mov (.tmp 30))⟩]))))
/-- fairlink order.Places -/
def cf23 : LC :=
  (.seq (.reg [⟨(some 1), none, .e (.box (.tmp 0))⟩, ⟨(some 2), none, .p (.mov (.const (.slice none 0 0)))⟩])
  (.seq (.reg [⟨(some 9), none, .p (.fad 0 (.tmp 1))⟩, ⟨(some 10), none, .p (.ld none (.tmp 9))⟩, ⟨(some 11), none, .p (.len 1 (.tmp 10))⟩, ⟨(some 12), none, .e (.mks 1 1 [(.int .i64 0)] 8 (.tmp 11) (.tmp 11))⟩, ⟨(some 3), none, .p (.mov (.tmp 12))⟩])
  (.seq (.reg [⟨(some 4), none, .p (.mov (.const (.slice none 0 0)))⟩])
  (.seq (.seq (.reg [⟨(some 13), none, .p (.fad 0 (.tmp 1))⟩, ⟨(some 14), none, .p (.ld none (.tmp 13))⟩, ⟨(some 15), none, .p (.len 1 (.tmp 14))⟩, ⟨(some 16), none, .p (.mov (.const (.int .i64 0)))⟩])
  (.block 0
  (.loop lb23_1)))
  (.seq (.reg [⟨(some 31), none, .p (.mov (.tmp 4))⟩, ⟨(some 32), none, .p (.mkf 32 [(.tmp 1)])⟩, ⟨(some 33), none, .e (.call 31 [(.tmp 31), (.tmp 32)])⟩])
  (.seq (.seq (.reg [⟨(some 34), none, .p (.mov (.tmp 4))⟩, ⟨(some 35), none, .p (.len 1 (.tmp 34))⟩, ⟨(some 36), none, .p (.mov (.const (.int .i64 0)))⟩])
  (.block 2
  (.loop lb23_0)))
  (.seq (.reg [⟨(some 46), none, .p (.mov (.tmp 3))⟩, ⟨(some 2), none, .p (.mov (.tmp 46))⟩])
  .ret)))))))
def rf23 : List RX := [.tmp 2]
set_option maxRecDepth 100000 in
theorem comp23 : cFn Try.prog Try.f23 = some (erase cf23, rf23) := by kernel_rfl
/-- fairlink fairlinklaw17.triangle -/
def cf24 : LC :=
  (.seq (.reg [⟨(some 0), none, .e (.alc [(.slice none 0 0), (.slice none 0 0)])⟩])
  (.seq (.reg [⟨(some 1), none, .p (.bld [(.string ⟨#[]⟩), (.bool false), (.int .i64 0)] [(0, 1, (.const (.string ⟨#[97]⟩))), (1, 1, (.const (.bool true))), (2, 1, (.const (.int .i64 2)))])⟩, ⟨(some 2), none, .p (.bld [(.string ⟨#[]⟩), (.bool false), (.int .i64 0)] [(0, 1, (.const (.string ⟨#[98]⟩))), (1, 1, (.const (.bool true))), (2, 1, (.const (.int .i64 2)))])⟩, ⟨(some 3), none, .p (.bld [(.string ⟨#[]⟩), (.bool false), (.int .i64 0)] [(0, 1, (.const (.string ⟨#[99]⟩))), (1, 1, (.const (.bool true))), (2, 1, (.const (.int .i64 2)))])⟩, ⟨(some 4), none, .e (.bsl 0 3 3 [(.string ⟨#[]⟩), (.bool false), (.int .i64 0)] [(0, 3, (.tmp 1)), (3, 3, (.tmp 2)), (6, 3, (.tmp 3))])⟩, ⟨(some 5), none, .p (.bld [(.int .i64 0), (.int .i64 0), (.int .i64 0), (.int .i64 0), (.int .i64 0), (.int .i64 0)] [(0, 1, (.const (.int .i64 0))), (1, 1, (.const (.int .i64 0))), (2, 1, (.const (.int .i64 1))), (3, 1, (.const (.int .i64 0))), (4, 1, (.const (.int .i64 1))), (5, 1, (.const (.int .i64 1)))])⟩, ⟨(some 6), none, .p (.bld [(.int .i64 0), (.int .i64 0), (.int .i64 0), (.int .i64 0), (.int .i64 0), (.int .i64 0)] [(0, 1, (.const (.int .i64 1))), (1, 1, (.const (.int .i64 1))), (2, 1, (.const (.int .i64 2))), (3, 1, (.const (.int .i64 0))), (4, 1, (.const (.int .i64 1))), (5, 1, (.const (.int .i64 1)))])⟩, ⟨(some 7), none, .p (.bld [(.int .i64 0), (.int .i64 0), (.int .i64 0), (.int .i64 0), (.int .i64 0), (.int .i64 0)] [(0, 1, (.const (.int .i64 2))), (1, 1, (.const (.int .i64 1))), (2, 1, (.const (.int .i64 0))), (3, 1, (.const (.int .i64 1))), (4, 1, (.const (.int .i64 1))), (5, 1, (.const (.int .i64 1)))])⟩, ⟨(some 8), none, .e (.bsl 0 3 6 [(.int .i64 0), (.int .i64 0), (.int .i64 0), (.int .i64 0), (.int .i64 0), (.int .i64 0)] [(0, 6, (.tmp 5)), (6, 6, (.tmp 6)), (12, 6, (.tmp 7))])⟩, ⟨(some 9), none, .p (.bld [(.slice none 0 0), (.slice none 0 0)] [(0, 1, (.tmp 4)), (1, 1, (.tmp 8))])⟩, ⟨none, none, .e (.st 2 (.tmp 0) (.tmp 9))⟩])
  .ret))
def rf24 : List RX := [.cell 0 (some 2)]
set_option maxRecDepth 100000 in
theorem comp24 : cFn Try.prog Try.f24 = some (erase cf24, rf24) := by kernel_rfl
def lb25_0 : LC :=
  (.seq (.reg [⟨(some 75), none, .p (.bin .lss (.tmp 74) (.tmp 73))⟩])
  (.seq (.cond (.tmp 75) .skip (.exit 6))
  (.seq (.block 7
  (.seq (.reg [⟨(some 76), none, .p (.iad 6 (.tmp 72) (.tmp 74))⟩, ⟨(some 77), none, .p (.ld (some 6) (.tmp 76))⟩, ⟨(some 10), none, .e (.alc [(.int .i64 0), (.int .i64 0), (.int .i64 0), (.int .i64 0), (.int .i64 0), (.int .i64 0)])⟩, ⟨none, none, .e (.st 6 (.tmp 10) (.tmp 77))⟩])
  (.seq (.reg [⟨(some 78), none, .p (.fad 4 (.tmp 10))⟩, ⟨(some 79), none, .p (.ld none (.tmp 78))⟩, ⟨(some 80), none, .p (.bin .lss (.tmp 79) (.const (.int .i64 1)))⟩, ⟨(some 81), none, .p (.mov (.tmp 80))⟩, ⟨(some 82), (some (81, false)), .p (.fad 4 (.tmp 10))⟩, ⟨(some 83), (some (81, false)), .p (.ld none (.tmp 82))⟩, ⟨(some 84), (some (81, false)), .p (.bin .gtr (.tmp 83) (.const (.int .i64 100)))⟩, ⟨(some 85), none, .p (.pick (.tmp 81) (.const (.bool true)) (.tmp 84))⟩, ⟨(some 86), none, .p (.mov (.tmp 85))⟩, ⟨(some 87), (some (86, false)), .p (.fad 5 (.tmp 10))⟩, ⟨(some 88), (some (86, false)), .p (.ld none (.tmp 87))⟩, ⟨(some 89), (some (86, false)), .p (.bin .lss (.tmp 88) (.const (.int .i64 1)))⟩, ⟨(some 90), none, .p (.pick (.tmp 86) (.const (.bool true)) (.tmp 89))⟩, ⟨(some 91), none, .p (.mov (.tmp 90))⟩, ⟨(some 92), (some (91, false)), .p (.fad 5 (.tmp 10))⟩, ⟨(some 93), (some (91, false)), .p (.ld none (.tmp 92))⟩, ⟨(some 94), (some (91, false)), .p (.bin .gtr (.tmp 93) (.const (.int .i64 1000)))⟩, ⟨(some 95), none, .p (.pick (.tmp 91) (.const (.bool true)) (.tmp 94))⟩])
  (.cond (.tmp 95) (.seq (.reg [⟨(some 2), none, .p (.mov (.const (.int .i64 3)))⟩])
  .ret) .skip))))
  (.reg [⟨(some 96), none, .p (.bin .add (.tmp 74) (.const (.int .i64 1)))⟩, ⟨(some 74), none, .p (.mov (.tmp 96))⟩]))))
def lb25_1 : LC :=
  (.seq (.reg [⟨(some 62), none, .p (.bin .lss (.tmp 61) (.tmp 60))⟩])
  (.seq (.cond (.tmp 62) .skip (.exit 4))
  (.seq (.block 5
  (.seq (.reg [⟨(some 63), none, .p (.iad 6 (.tmp 59) (.tmp 61))⟩, ⟨(some 64), none, .p (.ld (some 6) (.tmp 63))⟩, ⟨(some 8), none, .e (.alc [(.int .i64 0), (.int .i64 0), (.int .i64 0), (.int .i64 0), (.int .i64 0), (.int .i64 0)])⟩, ⟨none, none, .e (.st 6 (.tmp 8) (.tmp 64))⟩])
  (.seq (.reg [⟨(some 65), none, .p (.fad 0 (.tmp 8))⟩, ⟨(some 66), none, .p (.ld none (.tmp 65))⟩, ⟨(some 67), none, .p (.fad 2 (.tmp 8))⟩, ⟨(some 68), none, .p (.ld none (.tmp 67))⟩, ⟨(some 69), none, .p (.bin .eql (.tmp 66) (.tmp 68))⟩])
  (.cond (.tmp 69) (.seq (.reg [⟨(some 2), none, .p (.mov (.const (.int .i64 12)))⟩])
  .ret) .skip))))
  (.reg [⟨(some 70), none, .p (.bin .add (.tmp 61) (.const (.int .i64 1)))⟩, ⟨(some 61), none, .p (.mov (.tmp 70))⟩]))))
def lb25_2 : LC :=
  (.seq (.reg [⟨(some 36), none, .p (.bin .lss (.tmp 35) (.tmp 34))⟩])
  (.seq (.cond (.tmp 36) .skip (.exit 2))
  (.seq (.block 3
  (.seq (.reg [⟨(some 37), none, .p (.iad 6 (.tmp 33) (.tmp 35))⟩, ⟨(some 38), none, .p (.ld (some 6) (.tmp 37))⟩, ⟨(some 6), none, .e (.alc [(.int .i64 0), (.int .i64 0), (.int .i64 0), (.int .i64 0), (.int .i64 0), (.int .i64 0)])⟩, ⟨none, none, .e (.st 6 (.tmp 6) (.tmp 38))⟩])
  (.seq (.reg [⟨(some 39), none, .p (.ld (some 2) (.tmp 1))⟩, ⟨(some 40), none, .p (.fad 0 (.tmp 6))⟩, ⟨(some 41), none, .p (.ld none (.tmp 40))⟩, ⟨(some 42), none, .p (.fad 1 (.tmp 6))⟩, ⟨(some 43), none, .p (.ld none (.tmp 42))⟩, ⟨(some 44), none, .e (.call 34 [(.tmp 39), (.tmp 41), (.tmp 43)])⟩, ⟨(some 45), none, .p (.un .not (.tmp 44))⟩, ⟨(some 46), none, .p (.mov (.tmp 45))⟩, ⟨(some 47), (some (46, false)), .p (.ld (some 2) (.tmp 1))⟩, ⟨(some 48), (some (46, false)), .p (.fad 2 (.tmp 6))⟩, ⟨(some 49), (some (46, false)), .p (.ld none (.tmp 48))⟩, ⟨(some 50), (some (46, false)), .p (.fad 3 (.tmp 6))⟩, ⟨(some 51), (some (46, false)), .p (.ld none (.tmp 50))⟩, ⟨(some 52), (some (46, false)), .e (.call 34 [(.tmp 47), (.tmp 49), (.tmp 51)])⟩, ⟨(some 53), (some (46, false)), .p (.un .not (.tmp 52))⟩, ⟨(some 54), none, .p (.pick (.tmp 46) (.const (.bool true)) (.tmp 53))⟩])
  (.cond (.tmp 54) (.seq (.reg [⟨(some 2), none, .p (.mov (.const (.int .i64 2)))⟩])
  .ret) .skip))))
  (.reg [⟨(some 55), none, .p (.bin .add (.tmp 35) (.const (.int .i64 1)))⟩, ⟨(some 35), none, .p (.mov (.tmp 55))⟩]))))
def lb25_3 : LC :=
  (.seq (.reg [⟨(some 25), none, .p (.bin .lss (.tmp 24) (.tmp 23))⟩])
  (.seq (.cond (.tmp 25) .skip (.exit 0))
  (.seq (.block 1
  (.seq (.reg [⟨(some 26), none, .p (.iad 3 (.tmp 22) (.tmp 24))⟩, ⟨(some 27), none, .p (.ld (some 3) (.tmp 26))⟩, ⟨(some 4), none, .e (.alc [(.string ⟨#[]⟩), (.bool false), (.int .i64 0)])⟩, ⟨none, none, .e (.st 3 (.tmp 4) (.tmp 27))⟩])
  (.seq (.reg [⟨(some 28), none, .p (.ld (some 3) (.tmp 4))⟩, ⟨(some 29), none, .e (.call 33 [(.tmp 28)])⟩, ⟨(some 30), none, .p (.un .not (.tmp 29))⟩])
  (.cond (.tmp 30) (.seq (.reg [⟨(some 2), none, .p (.mov (.const (.int .i64 1)))⟩])
  .ret) .skip))))
  (.reg [⟨(some 31), none, .p (.bin .add (.tmp 24) (.const (.int .i64 1)))⟩, ⟨(some 24), none, .p (.mov (.tmp 31))⟩]))))
/-- fairlink graph.Valid -/
def cf25 : LC :=
  (.seq (.reg [⟨(some 1), none, .e (.box (.tmp 0))⟩, ⟨(some 2), none, .p (.mov (.const (.int .i64 0)))⟩])
  (.seq (.seq (.reg [⟨(some 11), none, .p (.fad 0 (.tmp 1))⟩, ⟨(some 12), none, .p (.ld none (.tmp 11))⟩, ⟨(some 13), none, .p (.len 1 (.tmp 12))⟩, ⟨(some 14), none, .p (.bin .gtr (.tmp 13) (.const (.int .i64 16)))⟩, ⟨(some 15), none, .p (.mov (.tmp 14))⟩, ⟨(some 16), (some (15, false)), .p (.fad 1 (.tmp 1))⟩, ⟨(some 17), (some (15, false)), .p (.ld none (.tmp 16))⟩, ⟨(some 18), (some (15, false)), .p (.len 1 (.tmp 17))⟩, ⟨(some 19), (some (15, false)), .p (.bin .gtr (.tmp 18) (.const (.int .i64 32)))⟩, ⟨(some 20), none, .p (.pick (.tmp 15) (.const (.bool true)) (.tmp 19))⟩])
  (.cond (.tmp 20) (.seq (.reg [⟨(some 2), none, .p (.mov (.const (.int .i64 5)))⟩])
  .ret) .skip))
  (.seq (.seq (.reg [⟨(some 21), none, .p (.fad 0 (.tmp 1))⟩, ⟨(some 22), none, .p (.ld none (.tmp 21))⟩, ⟨(some 23), none, .p (.len 1 (.tmp 22))⟩, ⟨(some 24), none, .p (.mov (.const (.int .i64 0)))⟩])
  (.block 0
  (.loop lb25_3)))
  (.seq (.seq (.reg [⟨(some 32), none, .p (.fad 1 (.tmp 1))⟩, ⟨(some 33), none, .p (.ld none (.tmp 32))⟩, ⟨(some 34), none, .p (.len 1 (.tmp 33))⟩, ⟨(some 35), none, .p (.mov (.const (.int .i64 0)))⟩])
  (.block 2
  (.loop lb25_2)))
  (.seq (.seq (.reg [⟨(some 56), none, .p (.ld (some 2) (.tmp 1))⟩, ⟨(some 57), none, .e (.call 35 [(.tmp 56)])⟩])
  (.cond (.tmp 57) (.seq (.reg [⟨(some 2), none, .p (.mov (.const (.int .i64 8)))⟩])
  .ret) .skip))
  (.seq (.seq (.reg [⟨(some 58), none, .p (.fad 1 (.tmp 1))⟩, ⟨(some 59), none, .p (.ld none (.tmp 58))⟩, ⟨(some 60), none, .p (.len 1 (.tmp 59))⟩, ⟨(some 61), none, .p (.mov (.const (.int .i64 0)))⟩])
  (.block 4
  (.loop lb25_1)))
  (.seq (.seq (.reg [⟨(some 71), none, .p (.fad 1 (.tmp 1))⟩, ⟨(some 72), none, .p (.ld none (.tmp 71))⟩, ⟨(some 73), none, .p (.len 1 (.tmp 72))⟩, ⟨(some 74), none, .p (.mov (.const (.int .i64 0)))⟩])
  (.block 6
  (.loop lb25_0)))
  (.seq (.reg [⟨(some 2), none, .p (.mov (.const (.int .i64 0)))⟩])
  .ret))))))))
def rf25 : List RX := [.tmp 2]
set_option maxRecDepth 100000 in
theorem comp25 : cFn Try.prog Try.f25 = some (erase cf25, rf25) := by kernel_rfl
/-- fairlink graph.Distances -/
def cf26 : LC :=
  (.seq (.reg [⟨(some 3), none, .e (.box (.tmp 0))⟩, ⟨(some 6), none, .p (.mov (.const (.slice none 0 0)))⟩])
  (.seq (.seq (.reg [⟨(some 7), none, .p (.ld (some 2) (.tmp 3))⟩, ⟨(some 8), none, .p (.mov (.tmp 2))⟩, ⟨(some 9), none, .e (.call 36 [(.tmp 7), (.tmp 8)])⟩, ⟨(some 10), none, .p (.un .not (.tmp 9))⟩, ⟨(some 11), none, .p (.mov (.tmp 10))⟩, ⟨(some 12), (some (11, false)), .p (.mov (.tmp 1))⟩, ⟨(some 13), (some (11, false)), .p (.bin .lss (.tmp 12) (.const (.int .i64 0)))⟩, ⟨(some 14), none, .p (.pick (.tmp 11) (.const (.bool true)) (.tmp 13))⟩, ⟨(some 15), none, .p (.mov (.tmp 14))⟩, ⟨(some 16), (some (15, false)), .p (.mov (.tmp 1))⟩, ⟨(some 17), (some (15, false)), .p (.fad 0 (.tmp 3))⟩, ⟨(some 18), (some (15, false)), .p (.ld none (.tmp 17))⟩, ⟨(some 19), (some (15, false)), .p (.len 1 (.tmp 18))⟩, ⟨(some 20), (some (15, false)), .p (.bin .geq (.tmp 16) (.tmp 19))⟩, ⟨(some 21), none, .p (.pick (.tmp 15) (.const (.bool true)) (.tmp 20))⟩])
  (.cond (.tmp 21) (.seq (.reg [⟨(some 6), none, .p (.mov (.const (.slice none 0 0)))⟩])
  .ret) .skip))
  (.seq (.reg [⟨(some 22), none, .p (.ld (some 2) (.tmp 3))⟩, ⟨(some 23), none, .p (.mov (.tmp 1))⟩, ⟨(some 24), none, .p (.mov (.tmp 2))⟩, ⟨(some 25), none, .e (.call 37 [(.tmp 22), (.tmp 23), (.tmp 24)])⟩, ⟨(some 6), none, .p (.mov (.tmp 25))⟩])
  .ret)))
def rf26 : List RX := [.tmp 6]
set_option maxRecDepth 100000 in
theorem comp26 : cFn Try.prog Try.f26 = some (erase cf26, rf26) := by kernel_rfl
/-- fairlink fairlinkref17.other -/
def cf27 : LC :=
  (.seq (.reg [⟨(some 2), none, .e (.box (.tmp 0))⟩, ⟨(some 4), none, .p (.mov (.const (.int .i64 0)))⟩])
  (.seq (.seq (.reg [⟨(some 5), none, .p (.fad 0 (.tmp 2))⟩, ⟨(some 6), none, .p (.ld none (.tmp 5))⟩, ⟨(some 7), none, .p (.mov (.tmp 1))⟩, ⟨(some 8), none, .p (.bin .eql (.tmp 6) (.tmp 7))⟩])
  (.cond (.tmp 8) (.seq (.reg [⟨(some 9), none, .p (.fad 2 (.tmp 2))⟩, ⟨(some 10), none, .p (.ld none (.tmp 9))⟩, ⟨(some 4), none, .p (.mov (.tmp 10))⟩])
  .ret) .skip))
  (.seq (.seq (.reg [⟨(some 11), none, .p (.fad 2 (.tmp 2))⟩, ⟨(some 12), none, .p (.ld none (.tmp 11))⟩, ⟨(some 13), none, .p (.mov (.tmp 1))⟩, ⟨(some 14), none, .p (.bin .eql (.tmp 12) (.tmp 13))⟩])
  (.cond (.tmp 14) (.seq (.reg [⟨(some 15), none, .p (.fad 0 (.tmp 2))⟩, ⟨(some 16), none, .p (.ld none (.tmp 15))⟩, ⟨(some 4), none, .p (.mov (.tmp 16))⟩])
  .ret) .skip))
  (.seq (.reg [⟨(some 4), none, .p (.mov (.const (.int .i64 (-1))))⟩])
  .ret))))
def rf27 : List RX := [.tmp 4]
set_option maxRecDepth 100000 in
theorem comp27 : cFn Try.prog Try.f27 = some (erase cf27, rf27) := by kernel_rfl
/-- fairlink order.Above 1 -/
def cf28 : LC :=
  (.seq (.reg [⟨(some 3), none, .p (.mov (.const (.bool false)))⟩])
  (.seq (.reg [⟨(some 4), none, .p (.mov (.tmp 0))⟩, ⟨(some 5), none, .p (.bin .geq (.tmp 4) (.const (.int .i64 0)))⟩, ⟨(some 6), none, .p (.mov (.tmp 5))⟩, ⟨(some 7), (some (6, true)), .p (.mov (.tmp 0))⟩, ⟨(some 8), (some (6, true)), .p (.fad 0 (.tmp 1))⟩, ⟨(some 9), (some (6, true)), .p (.ld none (.tmp 8))⟩, ⟨(some 10), (some (6, true)), .p (.len 1 (.tmp 9))⟩, ⟨(some 11), (some (6, true)), .p (.bin .lss (.tmp 7) (.tmp 10))⟩, ⟨(some 12), none, .p (.pick (.tmp 6) (.tmp 11) (.const (.bool false)))⟩, ⟨(some 13), none, .p (.mov (.tmp 12))⟩, ⟨(some 14), (some (13, true)), .p (.fad 0 (.tmp 1))⟩, ⟨(some 15), (some (13, true)), .p (.ld none (.tmp 14))⟩, ⟨(some 16), (some (13, true)), .p (.mov (.tmp 0))⟩, ⟨(some 17), (some (13, true)), .p (.iad 1 (.tmp 15) (.tmp 16))⟩, ⟨(some 18), (some (13, true)), .p (.ld none (.tmp 17))⟩, ⟨(some 19), (some (13, true)), .p (.bin .geq (.tmp 18) (.const (.int .i64 0)))⟩, ⟨(some 20), none, .p (.pick (.tmp 13) (.tmp 19) (.const (.bool false)))⟩, ⟨(some 3), none, .p (.mov (.tmp 20))⟩])
  .ret))
def rf28 : List RX := [.tmp 3]
set_option maxRecDepth 100000 in
theorem comp28 : cFn Try.prog Try.f28 = some (erase cf28, rf28) := by kernel_rfl
def lb29_0 : LC :=
  (.seq (.reg [⟨(some 9), none, .p (.bin .lss (.tmp 8) (.tmp 7))⟩])
  (.seq (.cond (.tmp 9) .skip (.exit 0))
  (.seq (.block 1
  (.seq (.reg [⟨(some 10), none, .p (.iad 1 (.tmp 6) (.tmp 8))⟩, ⟨(some 11), none, .p (.ld none (.tmp 10))⟩, ⟨(some 5), none, .p (.mov (.tmp 11))⟩])
  (.seq (.reg [⟨(some 12), none, .p (.mov (.tmp 5))⟩, ⟨(some 13), none, .p (.mov (.tmp 3))⟩, ⟨(some 14), none, .p (.bin .neq (.tmp 12) (.tmp 13))⟩])
  (.cond (.tmp 14) (.seq (.reg [⟨(some 15), none, .p (.mov (.tmp 5))⟩, ⟨(some 2), none, .p (.mov (.tmp 15))⟩])
  .ret) .skip))))
  (.reg [⟨(some 16), none, .p (.bin .add (.tmp 8) (.const (.int .i64 1)))⟩, ⟨(some 8), none, .p (.mov (.tmp 16))⟩]))))
/-- cmp.Or int  -/
def cf29 : LC :=
  (.seq (.reg [⟨(some 2), none, .p (.mov (.const (.int .i64 0)))⟩])
  (.seq (.reg [⟨(some 3), none, .p (.mov (.const (.int .i64 0)))⟩])
  (.seq (.seq (.reg [⟨(some 6), none, .p (.mov (.tmp 0))⟩, ⟨(some 7), none, .p (.len 1 (.tmp 6))⟩, ⟨(some 8), none, .p (.mov (.const (.int .i64 0)))⟩])
  (.block 0
  (.loop lb29_0)))
  (.seq (.reg [⟨(some 17), none, .p (.mov (.tmp 3))⟩, ⟨(some 2), none, .p (.mov (.tmp 17))⟩])
  .ret))))
def rf29 : List RX := [.tmp 2]
set_option maxRecDepth 100000 in
theorem comp29 : cFn Try.prog Try.f29 = some (erase cf29, rf29) := by kernel_rfl
/-- cmp.Compare int  -/
def cf30 : LC :=
  (.seq (.reg [⟨(some 4), none, .p (.mov (.const (.int .i64 0)))⟩])
  (.seq (.reg [⟨(some 7), none, .p (.mov (.tmp 0))⟩, ⟨(some 8), none, .e (.call 38 [(.tmp 7)])⟩, ⟨(some 5), none, .p (.mov (.tmp 8))⟩])
  (.seq (.reg [⟨(some 9), none, .p (.mov (.tmp 1))⟩, ⟨(some 10), none, .e (.call 38 [(.tmp 9)])⟩, ⟨(some 6), none, .p (.mov (.tmp 10))⟩])
  (.seq (.seq (.reg [⟨(some 11), none, .p (.mov (.tmp 5))⟩])
  (.cond (.tmp 11) (.seq (.seq (.reg [⟨(some 12), none, .p (.mov (.tmp 6))⟩])
  (.cond (.tmp 12) (.seq (.reg [⟨(some 4), none, .p (.mov (.const (.int .i64 0)))⟩])
  .ret) .skip))
  (.seq (.reg [⟨(some 4), none, .p (.mov (.const (.int .i64 (-1))))⟩])
  .ret)) .skip))
  (.seq (.seq (.reg [⟨(some 13), none, .p (.mov (.tmp 6))⟩])
  (.cond (.tmp 13) (.seq (.reg [⟨(some 4), none, .p (.mov (.const (.int .i64 1)))⟩])
  .ret) .skip))
  (.seq (.seq (.reg [⟨(some 14), none, .p (.mov (.tmp 0))⟩, ⟨(some 15), none, .p (.mov (.tmp 1))⟩, ⟨(some 16), none, .p (.bin .lss (.tmp 14) (.tmp 15))⟩])
  (.cond (.tmp 16) (.seq (.reg [⟨(some 4), none, .p (.mov (.const (.int .i64 (-1))))⟩])
  .ret) .skip))
  (.seq (.seq (.reg [⟨(some 17), none, .p (.mov (.tmp 0))⟩, ⟨(some 18), none, .p (.mov (.tmp 1))⟩, ⟨(some 19), none, .p (.bin .gtr (.tmp 17) (.tmp 18))⟩])
  (.cond (.tmp 19) (.seq (.reg [⟨(some 4), none, .p (.mov (.const (.int .i64 1)))⟩])
  .ret) .skip))
  (.seq (.reg [⟨(some 4), none, .p (.mov (.const (.int .i64 0)))⟩])
  .ret))))))))
def rf30 : List RX := [.tmp 4]
set_option maxRecDepth 100000 in
theorem comp30 : cFn Try.prog Try.f30 = some (erase cf30, rf30) := by kernel_rfl
/-- slices.SortFunc   int int  -/
def cf31 : LC :=
  (.seq (.reg [⟨(some 5), none, .p (.mov (.tmp 0))⟩, ⟨(some 6), none, .p (.len 1 (.tmp 5))⟩, ⟨(some 4), none, .p (.mov (.tmp 6))⟩])
  (.reg [⟨(some 7), none, .p (.mov (.tmp 0))⟩, ⟨(some 8), none, .p (.mov (.tmp 4))⟩, ⟨(some 9), none, .p (.mov (.tmp 4))⟩, ⟨(some 10), none, .p (.cvt .u64 (.tmp 9))⟩, ⟨(some 11), none, .e (.call 40 [(.tmp 10)])⟩, ⟨(some 12), none, .p (.mov (.tmp 1))⟩, ⟨(some 13), none, .e (.call 39 [(.tmp 7), (.const (.int .i64 0)), (.tmp 8), (.tmp 11), (.tmp 12)])⟩]))
def rf31 : List RX := []
set_option maxRecDepth 100000 in
theorem comp31 : cFn Try.prog Try.f31 = some (erase cf31, rf31) := by kernel_rfl
/-- fairlink order.Places 1 -/
def cf32 : LC :=
  (.seq (.reg [⟨(some 5), none, .p (.mov (.const (.int .i64 0)))⟩])
  (.seq (.dreg [⟨(some 6), none, .p (.fad 0 (.tmp 2))⟩, ⟨(some 7), none, .p (.ld none (.tmp 6))⟩, ⟨(some 8), none, .p (.mov (.tmp 0))⟩, ⟨(some 9), none, .p (.iad 1 (.tmp 7) (.tmp 8))⟩, ⟨(some 10), none, .p (.ld none (.tmp 9))⟩, ⟨(some 11), none, .p (.fad 0 (.tmp 2))⟩, ⟨(some 12), none, .p (.ld none (.tmp 11))⟩, ⟨(some 13), none, .p (.mov (.tmp 1))⟩, ⟨(some 14), none, .p (.iad 1 (.tmp 12) (.tmp 13))⟩, ⟨(some 15), none, .p (.ld none (.tmp 14))⟩, ⟨(some 16), none, .e (.call 30 [(.tmp 10), (.tmp 15)])⟩, ⟨(some 17), none, .p (.mov (.tmp 0))⟩, ⟨(some 18), none, .p (.mov (.tmp 1))⟩, ⟨(some 19), none, .e (.call 30 [(.tmp 17), (.tmp 18)])⟩, ⟨(some 20), none, .e (.bsr 2 1 [(.int .i64 0)] [(0, 1, (.tmp 16)), (1, 1, (.tmp 19))])⟩, ⟨(some 21), none, .e (.call 29 [(.tmp 20)])⟩, ⟨(some 5), none, .p (.mov (.tmp 21))⟩] true)
  .ret))
def rf32 : List RX := [.tmp 5]
set_option maxRecDepth 100000 in
theorem comp32 : cFn Try.prog Try.f32 = some (erase cf32, rf32) := by kernel_rfl
/-- fairlink graph.validNode -/
def cf33 : LC :=
  (.seq (.reg [⟨(some 1), none, .e (.box (.tmp 0))⟩, ⟨(some 2), none, .p (.mov (.const (.bool false)))⟩])
  (.seq (.seq (.reg [⟨(some 3), none, .p (.fad 0 (.tmp 1))⟩, ⟨(some 4), none, .p (.ld none (.tmp 3))⟩, ⟨(some 5), none, .e (.call 41 [(.tmp 4)])⟩, ⟨(some 6), none, .p (.un .not (.tmp 5))⟩])
  (.cond (.tmp 6) (.seq (.reg [⟨(some 2), none, .p (.mov (.const (.bool false)))⟩])
  .ret) .skip))
  (.seq (.seq (.reg [⟨(some 7), none, .p (.fad 1 (.tmp 1))⟩, ⟨(some 8), none, .p (.ld none (.tmp 7))⟩])
  (.cond (.tmp 8) (.seq (.reg [⟨(some 9), none, .p (.fad 2 (.tmp 1))⟩, ⟨(some 10), none, .p (.ld none (.tmp 9))⟩, ⟨(some 11), none, .p (.bin .geq (.tmp 10) (.const (.int .i64 1)))⟩, ⟨(some 12), none, .p (.mov (.tmp 11))⟩, ⟨(some 13), (some (12, true)), .p (.fad 2 (.tmp 1))⟩, ⟨(some 14), (some (12, true)), .p (.ld none (.tmp 13))⟩, ⟨(some 15), (some (12, true)), .p (.bin .leq (.tmp 14) (.const (.int .i64 8)))⟩, ⟨(some 16), none, .p (.pick (.tmp 12) (.tmp 15) (.const (.bool false)))⟩, ⟨(some 2), none, .p (.mov (.tmp 16))⟩])
  .ret) .skip))
  (.seq (.reg [⟨(some 17), none, .p (.fad 2 (.tmp 1))⟩, ⟨(some 18), none, .p (.ld none (.tmp 17))⟩, ⟨(some 19), none, .p (.bin .eql (.tmp 18) (.const (.int .i64 1)))⟩, ⟨(some 2), none, .p (.mov (.tmp 19))⟩])
  .ret))))
def rf33 : List RX := [.tmp 2]
set_option maxRecDepth 100000 in
theorem comp33 : cFn Try.prog Try.f33 = some (erase cf33, rf33) := by kernel_rfl
/-- fairlink graph.hasPort -/
def cf34 : LC :=
  (.seq (.reg [⟨(some 3), none, .e (.box (.tmp 0))⟩, ⟨(some 6), none, .p (.mov (.const (.bool false)))⟩])
  (.seq (.reg [⟨(some 7), none, .p (.mov (.tmp 1))⟩, ⟨(some 8), none, .p (.bin .geq (.tmp 7) (.const (.int .i64 0)))⟩, ⟨(some 9), none, .p (.mov (.tmp 8))⟩, ⟨(some 10), (some (9, true)), .p (.mov (.tmp 1))⟩, ⟨(some 11), (some (9, true)), .p (.fad 0 (.tmp 3))⟩, ⟨(some 12), (some (9, true)), .p (.ld none (.tmp 11))⟩, ⟨(some 13), (some (9, true)), .p (.len 1 (.tmp 12))⟩, ⟨(some 14), (some (9, true)), .p (.bin .lss (.tmp 10) (.tmp 13))⟩, ⟨(some 15), none, .p (.pick (.tmp 9) (.tmp 14) (.const (.bool false)))⟩, ⟨(some 16), none, .p (.mov (.tmp 15))⟩, ⟨(some 17), (some (16, true)), .p (.mov (.tmp 2))⟩, ⟨(some 18), (some (16, true)), .p (.bin .geq (.tmp 17) (.const (.int .i64 0)))⟩, ⟨(some 19), none, .p (.pick (.tmp 16) (.tmp 18) (.const (.bool false)))⟩, ⟨(some 20), none, .p (.mov (.tmp 19))⟩, ⟨(some 21), (some (20, true)), .p (.mov (.tmp 2))⟩, ⟨(some 22), (some (20, true)), .p (.fad 0 (.tmp 3))⟩, ⟨(some 23), (some (20, true)), .p (.ld none (.tmp 22))⟩, ⟨(some 24), (some (20, true)), .p (.mov (.tmp 1))⟩, ⟨(some 25), (some (20, true)), .p (.iad 3 (.tmp 23) (.tmp 24))⟩, ⟨(some 26), (some (20, true)), .p (.fad 2 (.tmp 25))⟩, ⟨(some 27), (some (20, true)), .p (.ld none (.tmp 26))⟩, ⟨(some 28), (some (20, true)), .p (.bin .lss (.tmp 21) (.tmp 27))⟩, ⟨(some 29), none, .p (.pick (.tmp 20) (.tmp 28) (.const (.bool false)))⟩, ⟨(some 6), none, .p (.mov (.tmp 29))⟩])
  .ret))
def rf34 : List RX := [.tmp 6]
set_option maxRecDepth 100000 in
theorem comp34 : cFn Try.prog Try.f34 = some (erase cf34, rf34) := by kernel_rfl
def lb35_0 : LC :=
  (.seq (.reg [⟨(some 47), none, .p (.bin .lss (.tmp 46) (.const (.int .i64 2)))⟩])
  (.seq (.cond (.tmp 47) .skip (.exit 4))
  (.seq (.block 5
  (.seq (.reg [⟨(some 48), none, .p (.idxa 2 2 (some 2) (.tmp 45) (.tmp 46))⟩, ⟨(some 10), none, .e (.alc [(.int .i64 0), (.int .i64 0)])⟩, ⟨none, none, .e (.st 2 (.tmp 10) (.tmp 48))⟩])
  (.seq (.seq (.reg [⟨(some 49), none, .p (.mov (.tmp 6))⟩, ⟨(some 50), none, .p (.ld (some 2) (.tmp 10))⟩, ⟨(some 51), none, .p (.lkp 73 (.bool false) false (.tmp 49) (.tmp 50))⟩])
  (.cond (.tmp 51) (.seq (.reg [⟨(some 2), none, .p (.mov (.const (.bool true)))⟩])
  .ret) .skip))
  (.reg [⟨(some 52), none, .p (.mov (.tmp 6))⟩, ⟨(some 53), none, .p (.ld (some 2) (.tmp 10))⟩, ⟨none, none, .e (.mup 73 (.tmp 52) (.tmp 53) (.const (.bool true)))⟩]))))
  (.reg [⟨(some 54), none, .p (.bin .add (.tmp 46) (.const (.int .i64 1)))⟩, ⟨(some 46), none, .p (.mov (.tmp 54))⟩]))))
def lb35_1 : LC :=
  (.seq (.reg [⟨(some 32), none, .p (.bin .lss (.tmp 31) (.tmp 30))⟩])
  (.seq (.cond (.tmp 32) .skip (.exit 2))
  (.seq (.block 3
  (.seq (.reg [⟨(some 33), none, .p (.iad 6 (.tmp 29) (.tmp 31))⟩, ⟨(some 34), none, .p (.ld (some 6) (.tmp 33))⟩, ⟨(some 8), none, .e (.alc [(.int .i64 0), (.int .i64 0), (.int .i64 0), (.int .i64 0), (.int .i64 0), (.int .i64 0)])⟩, ⟨none, none, .e (.st 6 (.tmp 8) (.tmp 34))⟩])
  (.seq (.reg [⟨(some 35), none, .p (.fad 0 (.tmp 8))⟩, ⟨(some 36), none, .p (.ld none (.tmp 35))⟩, ⟨(some 37), none, .p (.fad 1 (.tmp 8))⟩, ⟨(some 38), none, .p (.ld none (.tmp 37))⟩, ⟨(some 39), none, .p (.bld [(.int .i64 0), (.int .i64 0)] [(0, 1, (.tmp 36)), (1, 1, (.tmp 38))])⟩, ⟨(some 40), none, .p (.fad 2 (.tmp 8))⟩, ⟨(some 41), none, .p (.ld none (.tmp 40))⟩, ⟨(some 42), none, .p (.fad 3 (.tmp 8))⟩, ⟨(some 43), none, .p (.ld none (.tmp 42))⟩, ⟨(some 44), none, .p (.bld [(.int .i64 0), (.int .i64 0)] [(0, 1, (.tmp 41)), (1, 1, (.tmp 43))])⟩, ⟨(some 45), none, .p (.bld [(.int .i64 0), (.int .i64 0), (.int .i64 0), (.int .i64 0)] [(0, 2, (.tmp 39)), (2, 2, (.tmp 44))])⟩, ⟨(some 46), none, .p (.mov (.const (.int .i64 0)))⟩])
  (.block 4
  (.loop lb35_0)))))
  (.reg [⟨(some 55), none, .p (.bin .add (.tmp 31) (.const (.int .i64 1)))⟩, ⟨(some 31), none, .p (.mov (.tmp 55))⟩]))))
def lb35_2 : LC :=
  (.seq (.reg [⟨(some 16), none, .p (.bin .lss (.tmp 15) (.tmp 14))⟩])
  (.seq (.cond (.tmp 16) .skip (.exit 0))
  (.seq (.block 1
  (.seq (.reg [⟨(some 17), none, .p (.iad 3 (.tmp 13) (.tmp 15))⟩, ⟨(some 18), none, .p (.ld (some 3) (.tmp 17))⟩, ⟨(some 5), none, .e (.alc [(.string ⟨#[]⟩), (.bool false), (.int .i64 0)])⟩, ⟨none, none, .e (.st 3 (.tmp 5) (.tmp 18))⟩])
  (.seq (.seq (.reg [⟨(some 19), none, .p (.mov (.tmp 3))⟩, ⟨(some 20), none, .p (.fad 0 (.tmp 5))⟩, ⟨(some 21), none, .p (.ld none (.tmp 20))⟩, ⟨(some 22), none, .p (.lkp 9 (.bool false) false (.tmp 19) (.tmp 21))⟩])
  (.cond (.tmp 22) (.seq (.reg [⟨(some 2), none, .p (.mov (.const (.bool true)))⟩])
  .ret) .skip))
  (.reg [⟨(some 23), none, .p (.mov (.tmp 3))⟩, ⟨(some 24), none, .p (.fad 0 (.tmp 5))⟩, ⟨(some 25), none, .p (.ld none (.tmp 24))⟩, ⟨none, none, .e (.mup 9 (.tmp 23) (.tmp 25) (.const (.bool true)))⟩]))))
  (.reg [⟨(some 26), none, .p (.bin .add (.tmp 15) (.const (.int .i64 1)))⟩, ⟨(some 15), none, .p (.mov (.tmp 26))⟩]))))
/-- fairlink graph.repeats -/
def cf35 : LC :=
  (.seq (.reg [⟨(some 1), none, .e (.box (.tmp 0))⟩, ⟨(some 2), none, .p (.mov (.const (.bool false)))⟩])
  (.seq (.reg [⟨(some 11), none, .e (.mkm)⟩, ⟨(some 3), none, .p (.mov (.tmp 11))⟩])
  (.seq (.seq (.reg [⟨(some 12), none, .p (.fad 0 (.tmp 1))⟩, ⟨(some 13), none, .p (.ld none (.tmp 12))⟩, ⟨(some 14), none, .p (.len 1 (.tmp 13))⟩, ⟨(some 15), none, .p (.mov (.const (.int .i64 0)))⟩])
  (.block 0
  (.loop lb35_2)))
  (.seq (.reg [⟨(some 27), none, .e (.mkm)⟩, ⟨(some 6), none, .p (.mov (.tmp 27))⟩])
  (.seq (.seq (.reg [⟨(some 28), none, .p (.fad 1 (.tmp 1))⟩, ⟨(some 29), none, .p (.ld none (.tmp 28))⟩, ⟨(some 30), none, .p (.len 1 (.tmp 29))⟩, ⟨(some 31), none, .p (.mov (.const (.int .i64 0)))⟩])
  (.block 2
  (.loop lb35_1)))
  (.seq (.reg [⟨(some 2), none, .p (.mov (.const (.bool false)))⟩])
  .ret))))))
def rf35 : List RX := [.tmp 2]
set_option maxRecDepth 100000 in
theorem comp35 : cFn Try.prog Try.f35 = some (erase cf35, rf35) := by kernel_rfl
/-- fairlink graph.usable -/
def cf36 : LC :=
  (.seq (.reg [⟨(some 2), none, .e (.box (.tmp 0))⟩, ⟨(some 4), none, .p (.mov (.const (.bool false)))⟩])
  (.seq (.reg [⟨(some 5), none, .p (.ld (some 2) (.tmp 2))⟩, ⟨(some 6), none, .e (.call 25 [(.tmp 5)])⟩, ⟨(some 7), none, .p (.bin .eql (.tmp 6) (.const (.int .i64 0)))⟩, ⟨(some 8), none, .p (.mov (.tmp 7))⟩, ⟨(some 9), (some (8, true)), .p (.mov (.tmp 1))⟩, ⟨(some 10), (some (8, true)), .p (.len 1 (.tmp 9))⟩, ⟨(some 11), (some (8, true)), .p (.fad 1 (.tmp 2))⟩, ⟨(some 12), (some (8, true)), .p (.ld none (.tmp 11))⟩, ⟨(some 13), (some (8, true)), .p (.len 1 (.tmp 12))⟩, ⟨(some 14), (some (8, true)), .p (.bin .eql (.tmp 10) (.tmp 13))⟩, ⟨(some 15), none, .p (.pick (.tmp 8) (.tmp 14) (.const (.bool false)))⟩, ⟨(some 4), none, .p (.mov (.tmp 15))⟩])
  .ret))
def rf36 : List RX := [.tmp 4]
set_option maxRecDepth 100000 in
theorem comp36 : cFn Try.prog Try.f36 = some (erase cf36, rf36) := by kernel_rfl
def lb37_0 : LC :=
  (.seq (.reg [⟨(some 45), none, .p (.bin .lss (.tmp 44) (.tmp 43))⟩])
  (.seq (.cond (.tmp 45) .skip (.exit 4))
  (.seq (.block 5
  (.seq (.reg [⟨(some 46), none, .p (.mov (.tmp 44))⟩, ⟨(some 47), none, .p (.iad 6 (.tmp 42) (.tmp 44))⟩, ⟨(some 48), none, .p (.ld (some 6) (.tmp 47))⟩, ⟨(some 13), none, .e (.alc [(.int .i64 0), (.int .i64 0), (.int .i64 0), (.int .i64 0), (.int .i64 0), (.int .i64 0)])⟩, ⟨(some 12), none, .p (.mov (.tmp 46))⟩, ⟨none, none, .e (.st 6 (.tmp 13) (.tmp 48))⟩])
  (.seq (.seq (.reg [⟨(some 49), none, .p (.mov (.tmp 2))⟩, ⟨(some 50), none, .p (.mov (.tmp 12))⟩, ⟨(some 51), none, .p (.iad 1 (.tmp 49) (.tmp 50))⟩, ⟨(some 52), none, .p (.ld none (.tmp 51))⟩, ⟨(some 53), none, .p (.mov (.tmp 52))⟩, ⟨(some 54), (some (53, true)), .p (.fad 0 (.tmp 13))⟩, ⟨(some 55), (some (53, true)), .p (.ld none (.tmp 54))⟩, ⟨(some 56), (some (53, true)), .p (.ld none (.tmp 10))⟩, ⟨(some 57), (some (53, true)), .p (.bin .eql (.tmp 55) (.tmp 56))⟩, ⟨(some 58), none, .p (.pick (.tmp 53) (.tmp 57) (.const (.bool false)))⟩])
  (.cond (.tmp 58) (.reg [⟨(some 59), none, .p (.mov (.tmp 11))⟩, ⟨(some 60), none, .p (.fad 2 (.tmp 13))⟩, ⟨(some 61), none, .p (.ld none (.tmp 60))⟩, ⟨(some 62), none, .e (.calv (.tmp 59) [(.tmp 61)])⟩]) .skip))
  (.seq (.reg [⟨(some 63), none, .p (.mov (.tmp 2))⟩, ⟨(some 64), none, .p (.mov (.tmp 12))⟩, ⟨(some 65), none, .p (.iad 1 (.tmp 63) (.tmp 64))⟩, ⟨(some 66), none, .p (.ld none (.tmp 65))⟩, ⟨(some 67), none, .p (.mov (.tmp 66))⟩, ⟨(some 68), (some (67, true)), .p (.fad 2 (.tmp 13))⟩, ⟨(some 69), (some (67, true)), .p (.ld none (.tmp 68))⟩, ⟨(some 70), (some (67, true)), .p (.ld none (.tmp 10))⟩, ⟨(some 71), (some (67, true)), .p (.bin .eql (.tmp 69) (.tmp 70))⟩, ⟨(some 72), none, .p (.pick (.tmp 67) (.tmp 71) (.const (.bool false)))⟩])
  (.cond (.tmp 72) (.reg [⟨(some 73), none, .p (.mov (.tmp 11))⟩, ⟨(some 74), none, .p (.fad 0 (.tmp 13))⟩, ⟨(some 75), none, .p (.ld none (.tmp 74))⟩, ⟨(some 76), none, .e (.calv (.tmp 73) [(.tmp 75)])⟩]) .skip)))))
  (.reg [⟨(some 77), none, .p (.bin .add (.tmp 44) (.const (.int .i64 1)))⟩, ⟨(some 44), none, .p (.mov (.tmp 77))⟩]))))
def lb37_1 : LC :=
  (.seq (.seq (.reg [⟨(some 32), none, .p (.ld none (.tmp 9))⟩, ⟨(some 33), none, .p (.len 1 (.tmp 32))⟩, ⟨(some 34), none, .p (.bin .gtr (.tmp 33) (.const (.int .i64 0)))⟩])
  (.cond (.tmp 34) .skip (.exit 2)))
  (.block 3
  (.seq (.reg [⟨(some 35), none, .p (.ld none (.tmp 9))⟩, ⟨(some 36), none, .p (.iad 1 (.tmp 35) (.const (.int .i64 0)))⟩, ⟨(some 37), none, .p (.ld none (.tmp 36))⟩, ⟨(some 10), none, .e (.alc [(.int .i64 0)])⟩, ⟨none, none, .e (.st 1 (.tmp 10) (.tmp 37))⟩])
  (.seq (.reg [⟨(some 38), none, .p (.ld none (.tmp 9))⟩, ⟨(some 39), none, .p (.slc 1 (.tmp 38) (some (.const (.int .i64 1))) none)⟩, ⟨none, none, .e (.st 1 (.tmp 9) (.tmp 39))⟩])
  (.seq (.reg [⟨(some 40), none, .p (.mkf 42 [(.tmp 7), (.tmp 10), (.tmp 9)])⟩, ⟨(some 11), none, .p (.mov (.tmp 40))⟩])
  (.seq (.reg [⟨(some 41), none, .p (.fad 1 (.tmp 3))⟩, ⟨(some 42), none, .p (.ld none (.tmp 41))⟩, ⟨(some 43), none, .p (.len 1 (.tmp 42))⟩, ⟨(some 44), none, .p (.mov (.const (.int .i64 0)))⟩])
  (.block 4
  (.loop lb37_0))))))))
def lb37_2 : LC :=
  (.seq (.reg [⟨(some 21), none, .p (.bin .lss (.tmp 20) (.tmp 19))⟩])
  (.seq (.cond (.tmp 21) .skip (.exit 0))
  (.seq (.block 1
  (.seq (.reg [⟨(some 22), none, .p (.mov (.tmp 20))⟩, ⟨(some 8), none, .p (.mov (.tmp 22))⟩])
  (.reg [⟨(some 23), none, .p (.ld none (.tmp 7))⟩, ⟨(some 24), none, .p (.mov (.tmp 8))⟩, ⟨(some 25), none, .p (.iad 1 (.tmp 23) (.tmp 24))⟩, ⟨none, none, .e (.st 1 (.tmp 25) (.const (.int .i64 (-1))))⟩])))
  (.reg [⟨(some 26), none, .p (.bin .add (.tmp 20) (.const (.int .i64 1)))⟩, ⟨(some 20), none, .p (.mov (.tmp 26))⟩]))))
/-- fairlink graph.distances -/
def cf37 : LC :=
  (.seq (.reg [⟨(some 3), none, .e (.box (.tmp 0))⟩, ⟨(some 6), none, .p (.mov (.const (.slice none 0 0)))⟩])
  (.seq (.reg [⟨(some 14), none, .p (.fad 0 (.tmp 3))⟩, ⟨(some 15), none, .p (.ld none (.tmp 14))⟩, ⟨(some 16), none, .p (.len 1 (.tmp 15))⟩, ⟨(some 17), none, .e (.mks 1 1 [(.int .i64 0)] 8 (.tmp 16) (.tmp 16))⟩, ⟨(some 7), none, .e (.alc [(.slice none 0 0)])⟩, ⟨none, none, .e (.st 1 (.tmp 7) (.tmp 17))⟩])
  (.seq (.seq (.reg [⟨(some 18), none, .p (.ld none (.tmp 7))⟩, ⟨(some 19), none, .p (.len 1 (.tmp 18))⟩, ⟨(some 20), none, .p (.mov (.const (.int .i64 0)))⟩])
  (.block 0
  (.loop lb37_2)))
  (.seq (.reg [⟨(some 27), none, .p (.ld none (.tmp 7))⟩, ⟨(some 28), none, .p (.mov (.tmp 1))⟩, ⟨(some 29), none, .p (.iad 1 (.tmp 27) (.tmp 28))⟩, ⟨none, none, .e (.st 1 (.tmp 29) (.const (.int .i64 0)))⟩])
  (.seq (.reg [⟨(some 30), none, .p (.mov (.tmp 1))⟩, ⟨(some 31), none, .e (.bsl 1 1 1 [(.int .i64 0)] [(0, 1, (.tmp 30))])⟩, ⟨(some 9), none, .e (.alc [(.slice none 0 0)])⟩, ⟨none, none, .e (.st 1 (.tmp 9) (.tmp 31))⟩])
  (.seq (.block 2
  (.loop lb37_1))
  (.seq (.reg [⟨(some 78), none, .p (.ld none (.tmp 7))⟩, ⟨(some 6), none, .p (.mov (.tmp 78))⟩])
  .ret)))))))
def rf37 : List RX := [.tmp 6]
set_option maxRecDepth 100000 in
theorem comp37 : cFn Try.prog Try.f37 = some (erase cf37, rf37) := by kernel_rfl
/-- cmp.isNaN int  -/
def cf38 : LC :=
  (.seq (.reg [⟨(some 2), none, .p (.mov (.const (.bool false)))⟩])
  (.seq (.reg [⟨(some 3), none, .p (.mov (.tmp 0))⟩, ⟨(some 4), none, .p (.mov (.tmp 0))⟩, ⟨(some 5), none, .p (.bin .neq (.tmp 3) (.tmp 4))⟩, ⟨(some 2), none, .p (.mov (.tmp 5))⟩])
  .ret))
def rf38 : List RX := [.tmp 2]
set_option maxRecDepth 100000 in
theorem comp38 : cFn Try.prog Try.f38 = some (erase cf38, rf38) := by kernel_rfl
def lb39_0 : LC :=
  (.block 1
  (.seq (.reg [⟨(some 21), none, .p (.mov (.tmp 2))⟩, ⟨(some 22), none, .p (.mov (.tmp 1))⟩, ⟨(some 23), none, .p (.bin .sub (.tmp 21) (.tmp 22))⟩, ⟨(some 12), none, .p (.mov (.tmp 23))⟩])
  (.seq (.seq (.reg [⟨(some 24), none, .p (.mov (.tmp 12))⟩, ⟨(some 25), none, .p (.bin .leq (.tmp 24) (.const (.int .i64 12)))⟩])
  (.cond (.tmp 25) (.seq (.reg [⟨(some 26), none, .p (.mov (.tmp 0))⟩, ⟨(some 27), none, .p (.mov (.tmp 1))⟩, ⟨(some 28), none, .p (.mov (.tmp 2))⟩, ⟨(some 29), none, .p (.mov (.tmp 4))⟩, ⟨(some 30), none, .e (.call 43 [(.tmp 26), (.tmp 27), (.tmp 28), (.tmp 29)])⟩])
  .ret) .skip))
  (.seq (.seq (.reg [⟨(some 31), none, .p (.mov (.tmp 3))⟩, ⟨(some 32), none, .p (.bin .eql (.tmp 31) (.const (.int .i64 0)))⟩])
  (.cond (.tmp 32) (.seq (.reg [⟨(some 33), none, .p (.mov (.tmp 0))⟩, ⟨(some 34), none, .p (.mov (.tmp 1))⟩, ⟨(some 35), none, .p (.mov (.tmp 2))⟩, ⟨(some 36), none, .p (.mov (.tmp 4))⟩, ⟨(some 37), none, .e (.call 44 [(.tmp 33), (.tmp 34), (.tmp 35), (.tmp 36)])⟩])
  .ret) .skip))
  (.seq (.seq (.reg [⟨(some 38), none, .p (.mov (.tmp 10))⟩, ⟨(some 39), none, .p (.un .not (.tmp 38))⟩])
  (.cond (.tmp 39) (.seq (.reg [⟨(some 40), none, .p (.mov (.tmp 0))⟩, ⟨(some 41), none, .p (.mov (.tmp 1))⟩, ⟨(some 42), none, .p (.mov (.tmp 2))⟩, ⟨(some 43), none, .p (.mov (.tmp 4))⟩, ⟨(some 44), none, .e (.call 45 [(.tmp 40), (.tmp 41), (.tmp 42), (.tmp 43)])⟩])
  (.reg [⟨(some 45), none, .p (.mov (.tmp 3))⟩, ⟨(some 46), none, .p (.bin .sub (.tmp 45) (.const (.int .i64 1)))⟩, ⟨(some 3), none, .p (.mov (.tmp 46))⟩])) .skip))
  (.seq (.reg [⟨(some 48), none, .p (.mov (.tmp 0))⟩, ⟨(some 49), none, .p (.mov (.tmp 1))⟩, ⟨(some 50), none, .p (.mov (.tmp 2))⟩, ⟨(some 51), none, .p (.mov (.tmp 4))⟩, ⟨(some 52), none, .e (.call 46 [(.tmp 48), (.tmp 49), (.tmp 50), (.tmp 51)])⟩, ⟨(some 47), none, .p (.mov (.tmp 52))⟩, ⟨(some 53), none, .p (.ext (.tmp 47) 0)⟩, ⟨(some 54), none, .p (.ext (.tmp 47) 1)⟩, ⟨(some 13), none, .p (.mov (.tmp 53))⟩, ⟨(some 14), none, .p (.mov (.tmp 54))⟩])
  (.seq (.seq (.reg [⟨(some 55), none, .p (.mov (.tmp 14))⟩, ⟨(some 56), none, .p (.bin .eql (.tmp 55) (.const (.int .i64 2)))⟩])
  (.cond (.tmp 56) (.seq (.reg [⟨(some 57), none, .p (.mov (.tmp 0))⟩, ⟨(some 58), none, .p (.mov (.tmp 1))⟩, ⟨(some 59), none, .p (.mov (.tmp 2))⟩, ⟨(some 60), none, .p (.mov (.tmp 4))⟩, ⟨(some 61), none, .e (.call 47 [(.tmp 57), (.tmp 58), (.tmp 59), (.tmp 60)])⟩])
  (.seq (.reg [⟨(some 62), none, .p (.mov (.tmp 2))⟩, ⟨(some 63), none, .p (.bin .sub (.tmp 62) (.const (.int .i64 1)))⟩, ⟨(some 64), none, .p (.mov (.tmp 13))⟩, ⟨(some 65), none, .p (.mov (.tmp 1))⟩, ⟨(some 66), none, .p (.bin .sub (.tmp 64) (.tmp 65))⟩, ⟨(some 67), none, .p (.bin .sub (.tmp 63) (.tmp 66))⟩, ⟨(some 13), none, .p (.mov (.tmp 67))⟩])
  (.reg [⟨(some 14), none, .p (.mov (.const (.int .i64 1)))⟩]))) .skip))
  (.seq (.seq (.reg [⟨(some 68), none, .p (.mov (.tmp 10))⟩, ⟨(some 69), none, .p (.mov (.tmp 68))⟩, ⟨(some 70), (some (69, true)), .p (.mov (.tmp 11))⟩, ⟨(some 71), none, .p (.pick (.tmp 69) (.tmp 70) (.const (.bool false)))⟩, ⟨(some 72), none, .p (.mov (.tmp 71))⟩, ⟨(some 73), (some (72, true)), .p (.mov (.tmp 14))⟩, ⟨(some 74), (some (72, true)), .p (.bin .eql (.tmp 73) (.const (.int .i64 1)))⟩, ⟨(some 75), none, .p (.pick (.tmp 72) (.tmp 74) (.const (.bool false)))⟩])
  (.cond (.tmp 75) (.seq (.reg [⟨(some 76), none, .p (.mov (.tmp 0))⟩, ⟨(some 77), none, .p (.mov (.tmp 1))⟩, ⟨(some 78), none, .p (.mov (.tmp 2))⟩, ⟨(some 79), none, .p (.mov (.tmp 4))⟩, ⟨(some 80), none, .e (.call 48 [(.tmp 76), (.tmp 77), (.tmp 78), (.tmp 79)])⟩])
  (.cond (.tmp 80) .ret .skip)) .skip))
  (.seq (.seq (.dreg [⟨(some 81), none, .p (.mov (.tmp 1))⟩, ⟨(some 82), none, .p (.bin .gtr (.tmp 81) (.const (.int .i64 0)))⟩, ⟨(some 83), none, .p (.mov (.tmp 82))⟩, ⟨(some 84), (some (83, true)), .p (.mov (.tmp 4))⟩, ⟨(some 85), (some (83, true)), .p (.mov (.tmp 0))⟩, ⟨(some 86), (some (83, true)), .p (.mov (.tmp 1))⟩, ⟨(some 87), (some (83, true)), .p (.bin .sub (.tmp 86) (.const (.int .i64 1)))⟩, ⟨(some 88), (some (83, true)), .p (.iad 1 (.tmp 85) (.tmp 87))⟩, ⟨(some 89), (some (83, true)), .p (.ld none (.tmp 88))⟩, ⟨(some 90), (some (83, true)), .p (.mov (.tmp 0))⟩, ⟨(some 91), (some (83, true)), .p (.mov (.tmp 13))⟩, ⟨(some 92), (some (83, true)), .p (.iad 1 (.tmp 90) (.tmp 91))⟩, ⟨(some 93), (some (83, true)), .p (.ld none (.tmp 92))⟩, ⟨(some 94), (some (83, true)), .e (.calv (.tmp 84) [(.tmp 89), (.tmp 93)])⟩, ⟨(some 95), (some (83, true)), .p (.bin .lss (.tmp 94) (.const (.int .i64 0)))⟩, ⟨(some 96), (some (83, true)), .p (.un .not (.tmp 95))⟩, ⟨(some 97), none, .p (.pick (.tmp 83) (.tmp 96) (.const (.bool false)))⟩] true)
  (.cond (.tmp 97) (.seq (.reg [⟨(some 98), none, .p (.mov (.tmp 0))⟩, ⟨(some 99), none, .p (.mov (.tmp 1))⟩, ⟨(some 100), none, .p (.mov (.tmp 2))⟩, ⟨(some 101), none, .p (.mov (.tmp 13))⟩, ⟨(some 102), none, .p (.mov (.tmp 4))⟩, ⟨(some 103), none, .e (.call 49 [(.tmp 98), (.tmp 99), (.tmp 100), (.tmp 101), (.tmp 102)])⟩, ⟨(some 15), none, .p (.mov (.tmp 103))⟩])
  (.seq (.reg [⟨(some 104), none, .p (.mov (.tmp 15))⟩, ⟨(some 1), none, .p (.mov (.tmp 104))⟩])
  (.exit 1))) .skip))
  (.seq (.reg [⟨(some 106), none, .p (.mov (.tmp 0))⟩, ⟨(some 107), none, .p (.mov (.tmp 1))⟩, ⟨(some 108), none, .p (.mov (.tmp 2))⟩, ⟨(some 109), none, .p (.mov (.tmp 13))⟩, ⟨(some 110), none, .p (.mov (.tmp 4))⟩, ⟨(some 111), none, .e (.call 50 [(.tmp 106), (.tmp 107), (.tmp 108), (.tmp 109), (.tmp 110)])⟩, ⟨(some 105), none, .p (.mov (.tmp 111))⟩, ⟨(some 112), none, .p (.ext (.tmp 105) 0)⟩, ⟨(some 113), none, .p (.ext (.tmp 105) 1)⟩, ⟨(some 16), none, .p (.mov (.tmp 112))⟩, ⟨(some 17), none, .p (.mov (.tmp 113))⟩])
  (.seq (.reg [⟨(some 114), none, .p (.mov (.tmp 17))⟩, ⟨(some 11), none, .p (.mov (.tmp 114))⟩])
  (.seq (.reg [⟨(some 115), none, .p (.mov (.tmp 16))⟩, ⟨(some 116), none, .p (.mov (.tmp 1))⟩, ⟨(some 117), none, .p (.bin .sub (.tmp 115) (.tmp 116))⟩, ⟨(some 118), none, .p (.mov (.tmp 2))⟩, ⟨(some 119), none, .p (.mov (.tmp 16))⟩, ⟨(some 120), none, .p (.bin .sub (.tmp 118) (.tmp 119))⟩, ⟨(some 18), none, .p (.mov (.tmp 117))⟩, ⟨(some 19), none, .p (.mov (.tmp 120))⟩])
  (.seq (.reg [⟨(some 121), none, .p (.mov (.tmp 12))⟩, ⟨(some 122), none, .p (.bin .quo (.tmp 121) (.const (.int .i64 8)))⟩, ⟨(some 20), none, .p (.mov (.tmp 122))⟩])
  (.seq (.reg [⟨(some 123), none, .p (.mov (.tmp 18))⟩, ⟨(some 124), none, .p (.mov (.tmp 19))⟩, ⟨(some 125), none, .p (.bin .lss (.tmp 123) (.tmp 124))⟩])
  (.cond (.tmp 125) (.seq (.reg [⟨(some 126), none, .p (.mov (.tmp 18))⟩, ⟨(some 127), none, .p (.mov (.tmp 20))⟩, ⟨(some 128), none, .p (.bin .geq (.tmp 126) (.tmp 127))⟩, ⟨(some 10), none, .p (.mov (.tmp 128))⟩])
  (.seq (.reg [⟨(some 129), none, .p (.mov (.tmp 0))⟩, ⟨(some 130), none, .p (.mov (.tmp 1))⟩, ⟨(some 131), none, .p (.mov (.tmp 16))⟩, ⟨(some 132), none, .p (.mov (.tmp 3))⟩, ⟨(some 133), none, .p (.mov (.tmp 4))⟩, ⟨(some 134), none, .e (.call 39 [(.tmp 129), (.tmp 130), (.tmp 131), (.tmp 132), (.tmp 133)])⟩])
  (.reg [⟨(some 135), none, .p (.mov (.tmp 16))⟩, ⟨(some 136), none, .p (.bin .add (.tmp 135) (.const (.int .i64 1)))⟩, ⟨(some 1), none, .p (.mov (.tmp 136))⟩]))) (.seq (.reg [⟨(some 137), none, .p (.mov (.tmp 19))⟩, ⟨(some 138), none, .p (.mov (.tmp 20))⟩, ⟨(some 139), none, .p (.bin .geq (.tmp 137) (.tmp 138))⟩, ⟨(some 10), none, .p (.mov (.tmp 139))⟩])
  (.seq (.reg [⟨(some 140), none, .p (.mov (.tmp 0))⟩, ⟨(some 141), none, .p (.mov (.tmp 16))⟩, ⟨(some 142), none, .p (.bin .add (.tmp 141) (.const (.int .i64 1)))⟩, ⟨(some 143), none, .p (.mov (.tmp 2))⟩, ⟨(some 144), none, .p (.mov (.tmp 3))⟩, ⟨(some 145), none, .p (.mov (.tmp 4))⟩, ⟨(some 146), none, .e (.call 39 [(.tmp 140), (.tmp 142), (.tmp 143), (.tmp 144), (.tmp 145)])⟩])
  (.reg [⟨(some 147), none, .p (.mov (.tmp 16))⟩, ⟨(some 2), none, .p (.mov (.tmp 147))⟩]))))))))))))))))))
/-- slices.pdqsortCmpFunc int  -/
def cf39 : LC :=
  (.seq (.reg [⟨(some 10), none, .p (.mov (.const (.bool true)))⟩])
  (.seq (.reg [⟨(some 11), none, .p (.mov (.const (.bool true)))⟩])
  (.block 0
  (.loop lb39_0))))
def rf39 : List RX := []
set_option maxRecDepth 100000 in
theorem comp39 : cFn Try.prog Try.f39 = some (erase cf39, rf39) := by kernel_rfl
/-- math bits.Len -/
def cf40 : LC :=
  (.seq (.reg [⟨(some 2), none, .p (.mov (.const (.int .i64 0)))⟩])
  (.seq (.cond (.const (.bool false)) (.seq (.reg [⟨(some 3), none, .p (.mov (.tmp 0))⟩, ⟨(some 4), none, .p (.cvt .u32 (.tmp 3))⟩, ⟨(some 5), none, .e (.call 51 [(.tmp 4)])⟩, ⟨(some 2), none, .p (.mov (.tmp 5))⟩])
  .ret) .skip)
  (.seq (.reg [⟨(some 6), none, .p (.mov (.tmp 0))⟩, ⟨(some 7), none, .e (.call 52 [(.tmp 6)])⟩, ⟨(some 2), none, .p (.mov (.tmp 7))⟩])
  .ret)))
def rf40 : List RX := [.tmp 2]
set_option maxRecDepth 100000 in
theorem comp40 : cFn Try.prog Try.f40 = some (erase cf40, rf40) := by kernel_rfl
def lb41_0 : LC :=
  (.seq (.reg [⟨(some 17), none, .p (.bin .lss (.tmp 16) (.tmp 15))⟩])
  (.seq (.cond (.tmp 17) .skip (.exit 0))
  (.seq (.block 1
  (.seq (.reg [⟨(some 18), none, .p (.mov (.tmp 16))⟩, ⟨(some 3), none, .p (.mov (.tmp 18))⟩])
  (.seq (.reg [⟨(some 19), none, .p (.mov (.tmp 0))⟩, ⟨(some 20), none, .p (.mov (.tmp 3))⟩, ⟨(some 21), none, .p (.idxs (.tmp 19) (.tmp 20))⟩, ⟨(some 22), none, .p (.bin .geq (.tmp 21) (.const (.int .u8 97)))⟩, ⟨(some 23), none, .p (.mov (.tmp 22))⟩, ⟨(some 24), (some (23, true)), .p (.mov (.tmp 0))⟩, ⟨(some 25), (some (23, true)), .p (.mov (.tmp 3))⟩, ⟨(some 26), (some (23, true)), .p (.idxs (.tmp 24) (.tmp 25))⟩, ⟨(some 27), (some (23, true)), .p (.bin .leq (.tmp 26) (.const (.int .u8 122)))⟩, ⟨(some 28), none, .p (.pick (.tmp 23) (.tmp 27) (.const (.bool false)))⟩, ⟨(some 4), none, .p (.mov (.tmp 28))⟩])
  (.seq (.reg [⟨(some 29), none, .p (.mov (.tmp 0))⟩, ⟨(some 30), none, .p (.mov (.tmp 3))⟩, ⟨(some 31), none, .p (.idxs (.tmp 29) (.tmp 30))⟩, ⟨(some 32), none, .p (.bin .geq (.tmp 31) (.const (.int .u8 48)))⟩, ⟨(some 33), none, .p (.mov (.tmp 32))⟩, ⟨(some 34), (some (33, true)), .p (.mov (.tmp 0))⟩, ⟨(some 35), (some (33, true)), .p (.mov (.tmp 3))⟩, ⟨(some 36), (some (33, true)), .p (.idxs (.tmp 34) (.tmp 35))⟩, ⟨(some 37), (some (33, true)), .p (.bin .leq (.tmp 36) (.const (.int .u8 57)))⟩, ⟨(some 38), none, .p (.pick (.tmp 33) (.tmp 37) (.const (.bool false)))⟩, ⟨(some 5), none, .p (.mov (.tmp 38))⟩])
  (.seq (.reg [⟨(some 39), none, .p (.mov (.tmp 4))⟩, ⟨(some 40), none, .p (.un .not (.tmp 39))⟩, ⟨(some 41), none, .p (.mov (.tmp 40))⟩, ⟨(some 42), (some (41, true)), .p (.mov (.tmp 3))⟩, ⟨(some 43), (some (41, true)), .p (.bin .eql (.tmp 42) (.const (.int .i64 0)))⟩, ⟨(some 44), (some (41, true)), .p (.mov (.tmp 43))⟩, ⟨(some 45), (some (44, false)), .p (.mov (.tmp 5))⟩, ⟨(some 46), (some (44, false)), .p (.un .not (.tmp 45))⟩, ⟨(some 47), (some (41, true)), .p (.pick (.tmp 44) (.const (.bool true)) (.tmp 46))⟩, ⟨(some 48), none, .p (.pick (.tmp 41) (.tmp 47) (.const (.bool false)))⟩])
  (.cond (.tmp 48) (.seq (.reg [⟨(some 2), none, .p (.mov (.const (.bool false)))⟩])
  .ret) .skip))))))
  (.reg [⟨(some 49), none, .p (.bin .add (.tmp 16) (.const (.int .i64 1)))⟩, ⟨(some 16), none, .p (.mov (.tmp 49))⟩]))))
/-- fairlink graph.validName -/
def cf41 : LC :=
  (.seq (.reg [⟨(some 2), none, .p (.mov (.const (.bool false)))⟩])
  (.seq (.seq (.reg [⟨(some 6), none, .p (.mov (.tmp 0))⟩, ⟨(some 7), none, .p (.len 0 (.tmp 6))⟩, ⟨(some 8), none, .p (.bin .lss (.tmp 7) (.const (.int .i64 1)))⟩, ⟨(some 9), none, .p (.mov (.tmp 8))⟩, ⟨(some 10), (some (9, false)), .p (.mov (.tmp 0))⟩, ⟨(some 11), (some (9, false)), .p (.len 0 (.tmp 10))⟩, ⟨(some 12), (some (9, false)), .p (.bin .gtr (.tmp 11) (.const (.int .i64 20)))⟩, ⟨(some 13), none, .p (.pick (.tmp 9) (.const (.bool true)) (.tmp 12))⟩])
  (.cond (.tmp 13) (.seq (.reg [⟨(some 2), none, .p (.mov (.const (.bool false)))⟩])
  .ret) .skip))
  (.seq (.seq (.reg [⟨(some 14), none, .p (.mov (.tmp 0))⟩, ⟨(some 15), none, .p (.len 0 (.tmp 14))⟩, ⟨(some 16), none, .p (.mov (.const (.int .i64 0)))⟩])
  (.block 0
  (.loop lb41_0)))
  (.seq (.reg [⟨(some 2), none, .p (.mov (.const (.bool true)))⟩])
  .ret))))
def rf41 : List RX := [.tmp 2]
set_option maxRecDepth 100000 in
theorem comp41 : cFn Try.prog Try.f41 = some (erase cf41, rf41) := by kernel_rfl
/-- fairlink graph.distances 1 -/
def cf42 : LC :=
  (.seq (.reg [⟨(some 5), none, .p (.ld none (.tmp 1))⟩, ⟨(some 6), none, .p (.mov (.tmp 0))⟩, ⟨(some 7), none, .p (.iad 1 (.tmp 5) (.tmp 6))⟩, ⟨(some 8), none, .p (.ld none (.tmp 7))⟩, ⟨(some 9), none, .p (.bin .lss (.tmp 8) (.const (.int .i64 0)))⟩])
  (.cond (.tmp 9) (.seq (.dreg [⟨(some 10), none, .p (.ld none (.tmp 1))⟩, ⟨(some 11), none, .p (.mov (.tmp 0))⟩, ⟨(some 12), none, .p (.ld none (.tmp 1))⟩, ⟨(some 13), none, .p (.ld none (.tmp 2))⟩, ⟨(some 14), none, .p (.iad 1 (.tmp 12) (.tmp 13))⟩, ⟨(some 15), none, .p (.ld none (.tmp 14))⟩, ⟨(some 16), none, .p (.bin .add (.tmp 15) (.const (.int .i64 1)))⟩, ⟨(some 17), none, .p (.iad 1 (.tmp 10) (.tmp 11))⟩, ⟨none, none, .e (.st 1 (.tmp 17) (.tmp 16))⟩] true)
  (.reg [⟨(some 18), none, .p (.ld none (.tmp 3))⟩, ⟨(some 19), none, .p (.mov (.tmp 0))⟩, ⟨(some 20), none, .e (.bsl 1 1 1 [(.int .i64 0)] [(0, 1, (.tmp 19))])⟩, ⟨(some 21), none, .e (.app 1 1 8 (.tmp 18) (.tmp 20))⟩, ⟨none, none, .e (.st 1 (.tmp 3) (.tmp 21))⟩])) .skip))
def rf42 : List RX := []
set_option maxRecDepth 100000 in
theorem comp42 : cFn Try.prog Try.f42 = some (erase cf42, rf42) := by kernel_rfl
def lb43_0 : LC :=
  (.seq (.seq (.dreg [⟨(some 18), none, .p (.mov (.tmp 9))⟩, ⟨(some 19), none, .p (.mov (.tmp 1))⟩, ⟨(some 20), none, .p (.bin .gtr (.tmp 18) (.tmp 19))⟩, ⟨(some 21), none, .p (.mov (.tmp 20))⟩, ⟨(some 22), (some (21, true)), .p (.mov (.tmp 3))⟩, ⟨(some 23), (some (21, true)), .p (.mov (.tmp 0))⟩, ⟨(some 24), (some (21, true)), .p (.mov (.tmp 9))⟩, ⟨(some 25), (some (21, true)), .p (.iad 1 (.tmp 23) (.tmp 24))⟩, ⟨(some 26), (some (21, true)), .p (.ld none (.tmp 25))⟩, ⟨(some 27), (some (21, true)), .p (.mov (.tmp 0))⟩, ⟨(some 28), (some (21, true)), .p (.mov (.tmp 9))⟩, ⟨(some 29), (some (21, true)), .p (.bin .sub (.tmp 28) (.const (.int .i64 1)))⟩, ⟨(some 30), (some (21, true)), .p (.iad 1 (.tmp 27) (.tmp 29))⟩, ⟨(some 31), (some (21, true)), .p (.ld none (.tmp 30))⟩, ⟨(some 32), (some (21, true)), .e (.calv (.tmp 22) [(.tmp 26), (.tmp 31)])⟩, ⟨(some 33), (some (21, true)), .p (.bin .lss (.tmp 32) (.const (.int .i64 0)))⟩, ⟨(some 34), none, .p (.pick (.tmp 21) (.tmp 33) (.const (.bool false)))⟩] true)
  (.cond (.tmp 34) .skip (.exit 2)))
  (.seq (.block 3
  (.dreg [⟨(some 37), none, .p (.mov (.tmp 0))⟩, ⟨(some 38), none, .p (.mov (.tmp 9))⟩, ⟨(some 39), none, .p (.mov (.tmp 0))⟩, ⟨(some 40), none, .p (.mov (.tmp 9))⟩, ⟨(some 41), none, .p (.bin .sub (.tmp 40) (.const (.int .i64 1)))⟩, ⟨(some 42), none, .p (.mov (.tmp 0))⟩, ⟨(some 43), none, .p (.mov (.tmp 9))⟩, ⟨(some 44), none, .p (.bin .sub (.tmp 43) (.const (.int .i64 1)))⟩, ⟨(some 45), none, .p (.iad 1 (.tmp 42) (.tmp 44))⟩, ⟨(some 46), none, .p (.ld none (.tmp 45))⟩, ⟨(some 47), none, .p (.mov (.tmp 0))⟩, ⟨(some 48), none, .p (.mov (.tmp 9))⟩, ⟨(some 49), none, .p (.iad 1 (.tmp 47) (.tmp 48))⟩, ⟨(some 50), none, .p (.ld none (.tmp 49))⟩, ⟨(some 51), none, .p (.iad 1 (.tmp 37) (.tmp 38))⟩, ⟨none, none, .e (.st 1 (.tmp 51) (.tmp 46))⟩, ⟨(some 52), none, .p (.iad 1 (.tmp 39) (.tmp 41))⟩, ⟨none, none, .e (.st 1 (.tmp 52) (.tmp 50))⟩] true))
  (.reg [⟨(some 35), none, .p (.mov (.tmp 9))⟩, ⟨(some 36), none, .p (.bin .sub (.tmp 35) (.const (.int .i64 1)))⟩, ⟨(some 9), none, .p (.mov (.tmp 36))⟩])))
def lb43_1 : LC :=
  (.seq (.seq (.reg [⟨(some 12), none, .p (.mov (.tmp 8))⟩, ⟨(some 13), none, .p (.mov (.tmp 2))⟩, ⟨(some 14), none, .p (.bin .lss (.tmp 12) (.tmp 13))⟩])
  (.cond (.tmp 14) .skip (.exit 0)))
  (.seq (.block 1
  (.seq (.reg [⟨(some 17), none, .p (.mov (.tmp 8))⟩, ⟨(some 9), none, .p (.mov (.tmp 17))⟩])
  (.block 2
  (.loop lb43_0))))
  (.reg [⟨(some 15), none, .p (.mov (.tmp 8))⟩, ⟨(some 16), none, .p (.bin .add (.tmp 15) (.const (.int .i64 1)))⟩, ⟨(some 8), none, .p (.mov (.tmp 16))⟩])))
/-- slices.insertionSortCmpFunc int  -/
def cf43 : LC :=
  (.seq (.reg [⟨(some 10), none, .p (.mov (.tmp 1))⟩, ⟨(some 11), none, .p (.bin .add (.tmp 10) (.const (.int .i64 1)))⟩, ⟨(some 8), none, .p (.mov (.tmp 11))⟩])
  (.block 0
  (.loop lb43_1)))
def rf43 : List RX := []
set_option maxRecDepth 100000 in
theorem comp43 : cFn Try.prog Try.f43 = some (erase cf43, rf43) := by kernel_rfl
def lb44_0 : LC :=
  (.seq (.seq (.reg [⟨(some 32), none, .p (.mov (.tmp 12))⟩, ⟨(some 33), none, .p (.bin .geq (.tmp 32) (.const (.int .i64 0)))⟩])
  (.cond (.tmp 33) .skip (.exit 2)))
  (.seq (.block 3
  (.seq (.dreg [⟨(some 36), none, .p (.mov (.tmp 0))⟩, ⟨(some 37), none, .p (.mov (.tmp 8))⟩, ⟨(some 38), none, .p (.mov (.tmp 0))⟩, ⟨(some 39), none, .p (.mov (.tmp 8))⟩, ⟨(some 40), none, .p (.mov (.tmp 12))⟩, ⟨(some 41), none, .p (.bin .add (.tmp 39) (.tmp 40))⟩, ⟨(some 42), none, .p (.mov (.tmp 0))⟩, ⟨(some 43), none, .p (.mov (.tmp 8))⟩, ⟨(some 44), none, .p (.mov (.tmp 12))⟩, ⟨(some 45), none, .p (.bin .add (.tmp 43) (.tmp 44))⟩, ⟨(some 46), none, .p (.iad 1 (.tmp 42) (.tmp 45))⟩, ⟨(some 47), none, .p (.ld none (.tmp 46))⟩, ⟨(some 48), none, .p (.mov (.tmp 0))⟩, ⟨(some 49), none, .p (.mov (.tmp 8))⟩, ⟨(some 50), none, .p (.iad 1 (.tmp 48) (.tmp 49))⟩, ⟨(some 51), none, .p (.ld none (.tmp 50))⟩, ⟨(some 52), none, .p (.iad 1 (.tmp 36) (.tmp 37))⟩, ⟨none, none, .e (.st 1 (.tmp 52) (.tmp 47))⟩, ⟨(some 53), none, .p (.iad 1 (.tmp 38) (.tmp 41))⟩, ⟨none, none, .e (.st 1 (.tmp 53) (.tmp 51))⟩] true)
  (.reg [⟨(some 54), none, .p (.mov (.tmp 0))⟩, ⟨(some 55), none, .p (.mov (.tmp 9))⟩, ⟨(some 56), none, .p (.mov (.tmp 12))⟩, ⟨(some 57), none, .p (.mov (.tmp 8))⟩, ⟨(some 58), none, .p (.mov (.tmp 3))⟩, ⟨(some 59), none, .e (.call 53 [(.tmp 54), (.tmp 55), (.tmp 56), (.tmp 57), (.tmp 58)])⟩])))
  (.reg [⟨(some 34), none, .p (.mov (.tmp 12))⟩, ⟨(some 35), none, .p (.bin .sub (.tmp 34) (.const (.int .i64 1)))⟩, ⟨(some 12), none, .p (.mov (.tmp 35))⟩])))
def lb44_1 : LC :=
  (.seq (.seq (.reg [⟨(some 20), none, .p (.mov (.tmp 11))⟩, ⟨(some 21), none, .p (.bin .geq (.tmp 20) (.const (.int .i64 0)))⟩])
  (.cond (.tmp 21) .skip (.exit 0)))
  (.seq (.block 1
  (.reg [⟨(some 24), none, .p (.mov (.tmp 0))⟩, ⟨(some 25), none, .p (.mov (.tmp 11))⟩, ⟨(some 26), none, .p (.mov (.tmp 10))⟩, ⟨(some 27), none, .p (.mov (.tmp 8))⟩, ⟨(some 28), none, .p (.mov (.tmp 3))⟩, ⟨(some 29), none, .e (.call 53 [(.tmp 24), (.tmp 25), (.tmp 26), (.tmp 27), (.tmp 28)])⟩]))
  (.reg [⟨(some 22), none, .p (.mov (.tmp 11))⟩, ⟨(some 23), none, .p (.bin .sub (.tmp 22) (.const (.int .i64 1)))⟩, ⟨(some 11), none, .p (.mov (.tmp 23))⟩])))
/-- slices.heapSortCmpFunc int  -/
def cf44 : LC :=
  (.seq (.reg [⟨(some 13), none, .p (.mov (.tmp 1))⟩, ⟨(some 8), none, .p (.mov (.tmp 13))⟩])
  (.seq (.reg [⟨(some 9), none, .p (.mov (.const (.int .i64 0)))⟩])
  (.seq (.reg [⟨(some 14), none, .p (.mov (.tmp 2))⟩, ⟨(some 15), none, .p (.mov (.tmp 1))⟩, ⟨(some 16), none, .p (.bin .sub (.tmp 14) (.tmp 15))⟩, ⟨(some 10), none, .p (.mov (.tmp 16))⟩])
  (.seq (.seq (.reg [⟨(some 17), none, .p (.mov (.tmp 10))⟩, ⟨(some 18), none, .p (.bin .sub (.tmp 17) (.const (.int .i64 1)))⟩, ⟨(some 19), none, .p (.bin .quo (.tmp 18) (.const (.int .i64 2)))⟩, ⟨(some 11), none, .p (.mov (.tmp 19))⟩])
  (.block 0
  (.loop lb44_1)))
  (.seq (.reg [⟨(some 30), none, .p (.mov (.tmp 10))⟩, ⟨(some 31), none, .p (.bin .sub (.tmp 30) (.const (.int .i64 1)))⟩, ⟨(some 12), none, .p (.mov (.tmp 31))⟩])
  (.block 2
  (.loop lb44_0)))))))
def rf44 : List RX := []
set_option maxRecDepth 100000 in
theorem comp44 : cFn Try.prog Try.f44 = some (erase cf44, rf44) := by kernel_rfl
def lb45_0 : LC :=
  (.seq (.seq (.reg [⟨(some 28), none, .p (.mov (.tmp 11))⟩, ⟨(some 29), none, .p (.mov (.tmp 1))⟩, ⟨(some 30), none, .p (.mov (.tmp 8))⟩, ⟨(some 31), none, .p (.bin .quo (.tmp 30) (.const (.int .i64 4)))⟩, ⟨(some 32), none, .p (.bin .mul (.tmp 31) (.const (.int .i64 2)))⟩, ⟨(some 33), none, .p (.bin .add (.tmp 29) (.tmp 32))⟩, ⟨(some 34), none, .p (.bin .add (.tmp 33) (.const (.int .i64 1)))⟩, ⟨(some 35), none, .p (.bin .leq (.tmp 28) (.tmp 34))⟩])
  (.cond (.tmp 35) .skip (.exit 0)))
  (.seq (.block 1
  (.seq (.reg [⟨(some 38), none, .e (.call 55 [(.tmp 9)])⟩, ⟨(some 39), none, .p (.mov (.tmp 10))⟩, ⟨(some 40), none, .p (.bin .sub (.tmp 39) (.const (.int .u64 1)))⟩, ⟨(some 41), none, .p (.bin .and (.tmp 38) (.tmp 40))⟩, ⟨(some 42), none, .p (.cvt .i64 (.tmp 41))⟩, ⟨(some 12), none, .p (.mov (.tmp 42))⟩])
  (.seq (.seq (.reg [⟨(some 43), none, .p (.mov (.tmp 12))⟩, ⟨(some 44), none, .p (.mov (.tmp 8))⟩, ⟨(some 45), none, .p (.bin .geq (.tmp 43) (.tmp 44))⟩])
  (.cond (.tmp 45) (.reg [⟨(some 46), none, .p (.mov (.tmp 12))⟩, ⟨(some 47), none, .p (.mov (.tmp 8))⟩, ⟨(some 48), none, .p (.bin .sub (.tmp 46) (.tmp 47))⟩, ⟨(some 12), none, .p (.mov (.tmp 48))⟩]) .skip))
  (.dreg [⟨(some 49), none, .p (.mov (.tmp 0))⟩, ⟨(some 50), none, .p (.mov (.tmp 11))⟩, ⟨(some 51), none, .p (.mov (.tmp 0))⟩, ⟨(some 52), none, .p (.mov (.tmp 1))⟩, ⟨(some 53), none, .p (.mov (.tmp 12))⟩, ⟨(some 54), none, .p (.bin .add (.tmp 52) (.tmp 53))⟩, ⟨(some 55), none, .p (.mov (.tmp 0))⟩, ⟨(some 56), none, .p (.mov (.tmp 1))⟩, ⟨(some 57), none, .p (.mov (.tmp 12))⟩, ⟨(some 58), none, .p (.bin .add (.tmp 56) (.tmp 57))⟩, ⟨(some 59), none, .p (.iad 1 (.tmp 55) (.tmp 58))⟩, ⟨(some 60), none, .p (.ld none (.tmp 59))⟩, ⟨(some 61), none, .p (.mov (.tmp 0))⟩, ⟨(some 62), none, .p (.mov (.tmp 11))⟩, ⟨(some 63), none, .p (.iad 1 (.tmp 61) (.tmp 62))⟩, ⟨(some 64), none, .p (.ld none (.tmp 63))⟩, ⟨(some 65), none, .p (.iad 1 (.tmp 49) (.tmp 50))⟩, ⟨none, none, .e (.st 1 (.tmp 65) (.tmp 60))⟩, ⟨(some 66), none, .p (.iad 1 (.tmp 51) (.tmp 54))⟩, ⟨none, none, .e (.st 1 (.tmp 66) (.tmp 64))⟩] true))))
  (.reg [⟨(some 36), none, .p (.mov (.tmp 11))⟩, ⟨(some 37), none, .p (.bin .add (.tmp 36) (.const (.int .i64 1)))⟩, ⟨(some 11), none, .p (.mov (.tmp 37))⟩])))
/-- slices.breakPatternsCmpFunc int  -/
def cf45 : LC :=
  (.seq (.reg [⟨(some 13), none, .p (.mov (.tmp 2))⟩, ⟨(some 14), none, .p (.mov (.tmp 1))⟩, ⟨(some 15), none, .p (.bin .sub (.tmp 13) (.tmp 14))⟩, ⟨(some 8), none, .p (.mov (.tmp 15))⟩])
  (.seq (.reg [⟨(some 16), none, .p (.mov (.tmp 8))⟩, ⟨(some 17), none, .p (.bin .geq (.tmp 16) (.const (.int .i64 8)))⟩])
  (.cond (.tmp 17) (.seq (.reg [⟨(some 18), none, .p (.mov (.tmp 8))⟩, ⟨(some 19), none, .p (.cvt .u64 (.tmp 18))⟩, ⟨(some 9), none, .e (.alc [(.int .u64 0)])⟩, ⟨none, none, .e (.st 1 (.tmp 9) (.tmp 19))⟩])
  (.seq (.reg [⟨(some 20), none, .p (.mov (.tmp 8))⟩, ⟨(some 21), none, .e (.call 54 [(.tmp 20)])⟩, ⟨(some 10), none, .p (.mov (.tmp 21))⟩])
  (.seq (.reg [⟨(some 22), none, .p (.mov (.tmp 1))⟩, ⟨(some 23), none, .p (.mov (.tmp 8))⟩, ⟨(some 24), none, .p (.bin .quo (.tmp 23) (.const (.int .i64 4)))⟩, ⟨(some 25), none, .p (.bin .mul (.tmp 24) (.const (.int .i64 2)))⟩, ⟨(some 26), none, .p (.bin .add (.tmp 22) (.tmp 25))⟩, ⟨(some 27), none, .p (.bin .sub (.tmp 26) (.const (.int .i64 1)))⟩, ⟨(some 11), none, .p (.mov (.tmp 27))⟩])
  (.block 0
  (.loop lb45_0))))) .skip)))
def rf45 : List RX := []
set_option maxRecDepth 100000 in
theorem comp45 : cFn Try.prog Try.f45 = some (erase cf45, rf45) := by kernel_rfl
/-- slices.choosePivotCmpFunc int  -/
def cf46 : LC :=
  (.seq (.reg [⟨(some 8), none, .p (.mov (.const (.int .i64 0)))⟩, ⟨(some 9), none, .p (.mov (.const (.int .i64 0)))⟩])
  (.seq (.reg [⟨(some 15), none, .p (.mov (.tmp 2))⟩, ⟨(some 16), none, .p (.mov (.tmp 1))⟩, ⟨(some 17), none, .p (.bin .sub (.tmp 15) (.tmp 16))⟩, ⟨(some 10), none, .p (.mov (.tmp 17))⟩])
  (.seq (.reg [⟨(some 11), none, .e (.alc [(.int .i64 0)])⟩])
  (.seq (.reg [⟨(some 18), none, .p (.mov (.tmp 1))⟩, ⟨(some 19), none, .p (.mov (.tmp 10))⟩, ⟨(some 20), none, .p (.bin .quo (.tmp 19) (.const (.int .i64 4)))⟩, ⟨(some 21), none, .p (.bin .mul (.tmp 20) (.const (.int .i64 1)))⟩, ⟨(some 22), none, .p (.bin .add (.tmp 18) (.tmp 21))⟩, ⟨(some 12), none, .p (.mov (.tmp 22))⟩])
  (.seq (.reg [⟨(some 23), none, .p (.mov (.tmp 1))⟩, ⟨(some 24), none, .p (.mov (.tmp 10))⟩, ⟨(some 25), none, .p (.bin .quo (.tmp 24) (.const (.int .i64 4)))⟩, ⟨(some 26), none, .p (.bin .mul (.tmp 25) (.const (.int .i64 2)))⟩, ⟨(some 27), none, .p (.bin .add (.tmp 23) (.tmp 26))⟩, ⟨(some 13), none, .p (.mov (.tmp 27))⟩])
  (.seq (.reg [⟨(some 28), none, .p (.mov (.tmp 1))⟩, ⟨(some 29), none, .p (.mov (.tmp 10))⟩, ⟨(some 30), none, .p (.bin .quo (.tmp 29) (.const (.int .i64 4)))⟩, ⟨(some 31), none, .p (.bin .mul (.tmp 30) (.const (.int .i64 3)))⟩, ⟨(some 32), none, .p (.bin .add (.tmp 28) (.tmp 31))⟩, ⟨(some 14), none, .p (.mov (.tmp 32))⟩])
  (.seq (.seq (.reg [⟨(some 33), none, .p (.mov (.tmp 10))⟩, ⟨(some 34), none, .p (.bin .geq (.tmp 33) (.const (.int .i64 8)))⟩])
  (.cond (.tmp 34) (.seq (.seq (.reg [⟨(some 35), none, .p (.mov (.tmp 10))⟩, ⟨(some 36), none, .p (.bin .geq (.tmp 35) (.const (.int .i64 50)))⟩])
  (.cond (.tmp 36) (.seq (.reg [⟨(some 37), none, .p (.mov (.tmp 0))⟩, ⟨(some 38), none, .p (.mov (.tmp 12))⟩, ⟨(some 39), none, .p (.mov (.tmp 3))⟩, ⟨(some 40), none, .e (.call 56 [(.tmp 37), (.tmp 38), (.tmp 11), (.tmp 39)])⟩, ⟨(some 12), none, .p (.mov (.tmp 40))⟩])
  (.seq (.reg [⟨(some 41), none, .p (.mov (.tmp 0))⟩, ⟨(some 42), none, .p (.mov (.tmp 13))⟩, ⟨(some 43), none, .p (.mov (.tmp 3))⟩, ⟨(some 44), none, .e (.call 56 [(.tmp 41), (.tmp 42), (.tmp 11), (.tmp 43)])⟩, ⟨(some 13), none, .p (.mov (.tmp 44))⟩])
  (.reg [⟨(some 45), none, .p (.mov (.tmp 0))⟩, ⟨(some 46), none, .p (.mov (.tmp 14))⟩, ⟨(some 47), none, .p (.mov (.tmp 3))⟩, ⟨(some 48), none, .e (.call 56 [(.tmp 45), (.tmp 46), (.tmp 11), (.tmp 47)])⟩, ⟨(some 14), none, .p (.mov (.tmp 48))⟩]))) .skip))
  (.reg [⟨(some 49), none, .p (.mov (.tmp 0))⟩, ⟨(some 50), none, .p (.mov (.tmp 12))⟩, ⟨(some 51), none, .p (.mov (.tmp 13))⟩, ⟨(some 52), none, .p (.mov (.tmp 14))⟩, ⟨(some 53), none, .p (.mov (.tmp 3))⟩, ⟨(some 54), none, .e (.call 57 [(.tmp 49), (.tmp 50), (.tmp 51), (.tmp 52), (.tmp 11), (.tmp 53)])⟩, ⟨(some 13), none, .p (.mov (.tmp 54))⟩])) .skip))
  (.seq (.reg [⟨(some 55), none, .p (.ld none (.tmp 11))⟩])
  (.block 0
  (.seq (.reg [⟨(some 58), none, .p (.bin .eql (.tmp 55) (.const (.int .i64 0)))⟩, ⟨(some 57), none, .p (.mov (.tmp 58))⟩])
  (.cond (.tmp 57) (.seq (.reg [⟨(some 59), none, .p (.mov (.tmp 13))⟩, ⟨(some 8), none, .p (.mov (.tmp 59))⟩, ⟨(some 9), none, .p (.mov (.const (.int .i64 1)))⟩])
  .ret) (.seq (.reg [⟨(some 61), none, .p (.bin .eql (.tmp 55) (.const (.int .i64 12)))⟩, ⟨(some 60), none, .p (.mov (.tmp 61))⟩])
  (.cond (.tmp 60) (.seq (.reg [⟨(some 62), none, .p (.mov (.tmp 13))⟩, ⟨(some 8), none, .p (.mov (.tmp 62))⟩, ⟨(some 9), none, .p (.mov (.const (.int .i64 2)))⟩])
  .ret) (.seq (.reg [⟨(some 56), none, .p (.mov (.tmp 13))⟩, ⟨(some 8), none, .p (.mov (.tmp 56))⟩, ⟨(some 9), none, .p (.mov (.const (.int .i64 0)))⟩])
  .ret))))))))))))))
def rf46 : List RX := [.tmp 8, .tmp 9]
set_option maxRecDepth 100000 in
theorem comp46 : cFn Try.prog Try.f46 = some (erase cf46, rf46) := by kernel_rfl
def lb47_0 : LC :=
  (.seq (.seq (.reg [⟨(some 13), none, .p (.mov (.tmp 8))⟩, ⟨(some 14), none, .p (.mov (.tmp 9))⟩, ⟨(some 15), none, .p (.bin .lss (.tmp 13) (.tmp 14))⟩])
  (.cond (.tmp 15) .skip (.exit 0)))
  (.block 1
  (.seq (.dreg [⟨(some 16), none, .p (.mov (.tmp 0))⟩, ⟨(some 17), none, .p (.mov (.tmp 8))⟩, ⟨(some 18), none, .p (.mov (.tmp 0))⟩, ⟨(some 19), none, .p (.mov (.tmp 9))⟩, ⟨(some 20), none, .p (.mov (.tmp 0))⟩, ⟨(some 21), none, .p (.mov (.tmp 9))⟩, ⟨(some 22), none, .p (.iad 1 (.tmp 20) (.tmp 21))⟩, ⟨(some 23), none, .p (.ld none (.tmp 22))⟩, ⟨(some 24), none, .p (.mov (.tmp 0))⟩, ⟨(some 25), none, .p (.mov (.tmp 8))⟩, ⟨(some 26), none, .p (.iad 1 (.tmp 24) (.tmp 25))⟩, ⟨(some 27), none, .p (.ld none (.tmp 26))⟩, ⟨(some 28), none, .p (.iad 1 (.tmp 16) (.tmp 17))⟩, ⟨none, none, .e (.st 1 (.tmp 28) (.tmp 23))⟩, ⟨(some 29), none, .p (.iad 1 (.tmp 18) (.tmp 19))⟩, ⟨none, none, .e (.st 1 (.tmp 29) (.tmp 27))⟩] true)
  (.seq (.reg [⟨(some 30), none, .p (.mov (.tmp 8))⟩, ⟨(some 31), none, .p (.bin .add (.tmp 30) (.const (.int .i64 1)))⟩, ⟨(some 8), none, .p (.mov (.tmp 31))⟩])
  (.reg [⟨(some 32), none, .p (.mov (.tmp 9))⟩, ⟨(some 33), none, .p (.bin .sub (.tmp 32) (.const (.int .i64 1)))⟩, ⟨(some 9), none, .p (.mov (.tmp 33))⟩])))))
/-- slices.reverseRangeCmpFunc int  -/
def cf47 : LC :=
  (.seq (.reg [⟨(some 10), none, .p (.mov (.tmp 1))⟩, ⟨(some 8), none, .p (.mov (.tmp 10))⟩])
  (.seq (.reg [⟨(some 11), none, .p (.mov (.tmp 2))⟩, ⟨(some 12), none, .p (.bin .sub (.tmp 11) (.const (.int .i64 1)))⟩, ⟨(some 9), none, .p (.mov (.tmp 12))⟩])
  (.block 0
  (.loop lb47_0))))
def rf47 : List RX := []
set_option maxRecDepth 100000 in
theorem comp47 : cFn Try.prog Try.f47 = some (erase cf47, rf47) := by kernel_rfl
def lb48_0 : LC :=
  (.seq (.seq (.reg [⟨(some 107), none, .p (.mov (.tmp 12))⟩, ⟨(some 108), none, .p (.mov (.tmp 2))⟩, ⟨(some 109), none, .p (.bin .lss (.tmp 107) (.tmp 108))⟩])
  (.cond (.tmp 109) .skip (.exit 6)))
  (.seq (.block 7
  (.seq (.seq (.dreg [⟨(some 112), none, .p (.mov (.tmp 3))⟩, ⟨(some 113), none, .p (.mov (.tmp 0))⟩, ⟨(some 114), none, .p (.mov (.tmp 12))⟩, ⟨(some 115), none, .p (.iad 1 (.tmp 113) (.tmp 114))⟩, ⟨(some 116), none, .p (.ld none (.tmp 115))⟩, ⟨(some 117), none, .p (.mov (.tmp 0))⟩, ⟨(some 118), none, .p (.mov (.tmp 12))⟩, ⟨(some 119), none, .p (.bin .sub (.tmp 118) (.const (.int .i64 1)))⟩, ⟨(some 120), none, .p (.iad 1 (.tmp 117) (.tmp 119))⟩, ⟨(some 121), none, .p (.ld none (.tmp 120))⟩, ⟨(some 122), none, .e (.calv (.tmp 112) [(.tmp 116), (.tmp 121)])⟩, ⟨(some 123), none, .p (.bin .lss (.tmp 122) (.const (.int .i64 0)))⟩, ⟨(some 124), none, .p (.un .not (.tmp 123))⟩] true)
  (.cond (.tmp 124) (.exit 6) .skip))
  (.dreg [⟨(some 125), none, .p (.mov (.tmp 0))⟩, ⟨(some 126), none, .p (.mov (.tmp 12))⟩, ⟨(some 127), none, .p (.mov (.tmp 0))⟩, ⟨(some 128), none, .p (.mov (.tmp 12))⟩, ⟨(some 129), none, .p (.bin .sub (.tmp 128) (.const (.int .i64 1)))⟩, ⟨(some 130), none, .p (.mov (.tmp 0))⟩, ⟨(some 131), none, .p (.mov (.tmp 12))⟩, ⟨(some 132), none, .p (.bin .sub (.tmp 131) (.const (.int .i64 1)))⟩, ⟨(some 133), none, .p (.iad 1 (.tmp 130) (.tmp 132))⟩, ⟨(some 134), none, .p (.ld none (.tmp 133))⟩, ⟨(some 135), none, .p (.mov (.tmp 0))⟩, ⟨(some 136), none, .p (.mov (.tmp 12))⟩, ⟨(some 137), none, .p (.iad 1 (.tmp 135) (.tmp 136))⟩, ⟨(some 138), none, .p (.ld none (.tmp 137))⟩, ⟨(some 139), none, .p (.iad 1 (.tmp 125) (.tmp 126))⟩, ⟨none, none, .e (.st 1 (.tmp 139) (.tmp 134))⟩, ⟨(some 140), none, .p (.iad 1 (.tmp 127) (.tmp 129))⟩, ⟨none, none, .e (.st 1 (.tmp 140) (.tmp 138))⟩] true)))
  (.reg [⟨(some 110), none, .p (.mov (.tmp 12))⟩, ⟨(some 111), none, .p (.bin .add (.tmp 110) (.const (.int .i64 1)))⟩, ⟨(some 12), none, .p (.mov (.tmp 111))⟩])))
def lb48_1 : LC :=
  (.seq (.seq (.reg [⟨(some 68), none, .p (.mov (.tmp 11))⟩, ⟨(some 69), none, .p (.bin .geq (.tmp 68) (.const (.int .i64 1)))⟩])
  (.cond (.tmp 69) .skip (.exit 4)))
  (.seq (.block 5
  (.seq (.seq (.dreg [⟨(some 72), none, .p (.mov (.tmp 3))⟩, ⟨(some 73), none, .p (.mov (.tmp 0))⟩, ⟨(some 74), none, .p (.mov (.tmp 11))⟩, ⟨(some 75), none, .p (.iad 1 (.tmp 73) (.tmp 74))⟩, ⟨(some 76), none, .p (.ld none (.tmp 75))⟩, ⟨(some 77), none, .p (.mov (.tmp 0))⟩, ⟨(some 78), none, .p (.mov (.tmp 11))⟩, ⟨(some 79), none, .p (.bin .sub (.tmp 78) (.const (.int .i64 1)))⟩, ⟨(some 80), none, .p (.iad 1 (.tmp 77) (.tmp 79))⟩, ⟨(some 81), none, .p (.ld none (.tmp 80))⟩, ⟨(some 82), none, .e (.calv (.tmp 72) [(.tmp 76), (.tmp 81)])⟩, ⟨(some 83), none, .p (.bin .lss (.tmp 82) (.const (.int .i64 0)))⟩, ⟨(some 84), none, .p (.un .not (.tmp 83))⟩] true)
  (.cond (.tmp 84) (.exit 4) .skip))
  (.dreg [⟨(some 85), none, .p (.mov (.tmp 0))⟩, ⟨(some 86), none, .p (.mov (.tmp 11))⟩, ⟨(some 87), none, .p (.mov (.tmp 0))⟩, ⟨(some 88), none, .p (.mov (.tmp 11))⟩, ⟨(some 89), none, .p (.bin .sub (.tmp 88) (.const (.int .i64 1)))⟩, ⟨(some 90), none, .p (.mov (.tmp 0))⟩, ⟨(some 91), none, .p (.mov (.tmp 11))⟩, ⟨(some 92), none, .p (.bin .sub (.tmp 91) (.const (.int .i64 1)))⟩, ⟨(some 93), none, .p (.iad 1 (.tmp 90) (.tmp 92))⟩, ⟨(some 94), none, .p (.ld none (.tmp 93))⟩, ⟨(some 95), none, .p (.mov (.tmp 0))⟩, ⟨(some 96), none, .p (.mov (.tmp 11))⟩, ⟨(some 97), none, .p (.iad 1 (.tmp 95) (.tmp 96))⟩, ⟨(some 98), none, .p (.ld none (.tmp 97))⟩, ⟨(some 99), none, .p (.iad 1 (.tmp 85) (.tmp 86))⟩, ⟨none, none, .e (.st 1 (.tmp 99) (.tmp 94))⟩, ⟨(some 100), none, .p (.iad 1 (.tmp 87) (.tmp 89))⟩, ⟨none, none, .e (.st 1 (.tmp 100) (.tmp 98))⟩] true)))
  (.reg [⟨(some 70), none, .p (.mov (.tmp 11))⟩, ⟨(some 71), none, .p (.bin .sub (.tmp 70) (.const (.int .i64 1)))⟩, ⟨(some 11), none, .p (.mov (.tmp 71))⟩])))
def lb48_2 : LC :=
  (.seq (.seq (.dreg [⟨(some 19), none, .p (.mov (.tmp 9))⟩, ⟨(some 20), none, .p (.mov (.tmp 2))⟩, ⟨(some 21), none, .p (.bin .lss (.tmp 19) (.tmp 20))⟩, ⟨(some 22), none, .p (.mov (.tmp 21))⟩, ⟨(some 23), (some (22, true)), .p (.mov (.tmp 3))⟩, ⟨(some 24), (some (22, true)), .p (.mov (.tmp 0))⟩, ⟨(some 25), (some (22, true)), .p (.mov (.tmp 9))⟩, ⟨(some 26), (some (22, true)), .p (.iad 1 (.tmp 24) (.tmp 25))⟩, ⟨(some 27), (some (22, true)), .p (.ld none (.tmp 26))⟩, ⟨(some 28), (some (22, true)), .p (.mov (.tmp 0))⟩, ⟨(some 29), (some (22, true)), .p (.mov (.tmp 9))⟩, ⟨(some 30), (some (22, true)), .p (.bin .sub (.tmp 29) (.const (.int .i64 1)))⟩, ⟨(some 31), (some (22, true)), .p (.iad 1 (.tmp 28) (.tmp 30))⟩, ⟨(some 32), (some (22, true)), .p (.ld none (.tmp 31))⟩, ⟨(some 33), (some (22, true)), .e (.calv (.tmp 23) [(.tmp 27), (.tmp 32)])⟩, ⟨(some 34), (some (22, true)), .p (.bin .lss (.tmp 33) (.const (.int .i64 0)))⟩, ⟨(some 35), (some (22, true)), .p (.un .not (.tmp 34))⟩, ⟨(some 36), none, .p (.pick (.tmp 22) (.tmp 35) (.const (.bool false)))⟩] true)
  (.cond (.tmp 36) .skip (.exit 2)))
  (.block 3
  (.reg [⟨(some 37), none, .p (.mov (.tmp 9))⟩, ⟨(some 38), none, .p (.bin .add (.tmp 37) (.const (.int .i64 1)))⟩, ⟨(some 9), none, .p (.mov (.tmp 38))⟩])))
def lb48_3 : LC :=
  (.seq (.seq (.reg [⟨(some 15), none, .p (.mov (.tmp 10))⟩, ⟨(some 16), none, .p (.bin .lss (.tmp 15) (.const (.int .i64 5)))⟩])
  (.cond (.tmp 16) .skip (.exit 0)))
  (.seq (.block 1
  (.seq (.block 2
  (.loop lb48_2))
  (.seq (.seq (.reg [⟨(some 39), none, .p (.mov (.tmp 9))⟩, ⟨(some 40), none, .p (.mov (.tmp 2))⟩, ⟨(some 41), none, .p (.bin .eql (.tmp 39) (.tmp 40))⟩])
  (.cond (.tmp 41) (.seq (.reg [⟨(some 8), none, .p (.mov (.const (.bool true)))⟩])
  .ret) .skip))
  (.seq (.seq (.reg [⟨(some 42), none, .p (.mov (.tmp 2))⟩, ⟨(some 43), none, .p (.mov (.tmp 1))⟩, ⟨(some 44), none, .p (.bin .sub (.tmp 42) (.tmp 43))⟩, ⟨(some 45), none, .p (.bin .lss (.tmp 44) (.const (.int .i64 50)))⟩])
  (.cond (.tmp 45) (.seq (.reg [⟨(some 8), none, .p (.mov (.const (.bool false)))⟩])
  .ret) .skip))
  (.seq (.dreg [⟨(some 46), none, .p (.mov (.tmp 0))⟩, ⟨(some 47), none, .p (.mov (.tmp 9))⟩, ⟨(some 48), none, .p (.mov (.tmp 0))⟩, ⟨(some 49), none, .p (.mov (.tmp 9))⟩, ⟨(some 50), none, .p (.bin .sub (.tmp 49) (.const (.int .i64 1)))⟩, ⟨(some 51), none, .p (.mov (.tmp 0))⟩, ⟨(some 52), none, .p (.mov (.tmp 9))⟩, ⟨(some 53), none, .p (.bin .sub (.tmp 52) (.const (.int .i64 1)))⟩, ⟨(some 54), none, .p (.iad 1 (.tmp 51) (.tmp 53))⟩, ⟨(some 55), none, .p (.ld none (.tmp 54))⟩, ⟨(some 56), none, .p (.mov (.tmp 0))⟩, ⟨(some 57), none, .p (.mov (.tmp 9))⟩, ⟨(some 58), none, .p (.iad 1 (.tmp 56) (.tmp 57))⟩, ⟨(some 59), none, .p (.ld none (.tmp 58))⟩, ⟨(some 60), none, .p (.iad 1 (.tmp 46) (.tmp 47))⟩, ⟨none, none, .e (.st 1 (.tmp 60) (.tmp 55))⟩, ⟨(some 61), none, .p (.iad 1 (.tmp 48) (.tmp 50))⟩, ⟨none, none, .e (.st 1 (.tmp 61) (.tmp 59))⟩] true)
  (.seq (.seq (.reg [⟨(some 62), none, .p (.mov (.tmp 9))⟩, ⟨(some 63), none, .p (.mov (.tmp 1))⟩, ⟨(some 64), none, .p (.bin .sub (.tmp 62) (.tmp 63))⟩, ⟨(some 65), none, .p (.bin .geq (.tmp 64) (.const (.int .i64 2)))⟩])
  (.cond (.tmp 65) (.seq (.reg [⟨(some 66), none, .p (.mov (.tmp 9))⟩, ⟨(some 67), none, .p (.bin .sub (.tmp 66) (.const (.int .i64 1)))⟩, ⟨(some 11), none, .p (.mov (.tmp 67))⟩])
  (.block 4
  (.loop lb48_1))) .skip))
  (.seq (.reg [⟨(some 101), none, .p (.mov (.tmp 2))⟩, ⟨(some 102), none, .p (.mov (.tmp 9))⟩, ⟨(some 103), none, .p (.bin .sub (.tmp 101) (.tmp 102))⟩, ⟨(some 104), none, .p (.bin .geq (.tmp 103) (.const (.int .i64 2)))⟩])
  (.cond (.tmp 104) (.seq (.reg [⟨(some 105), none, .p (.mov (.tmp 9))⟩, ⟨(some 106), none, .p (.bin .add (.tmp 105) (.const (.int .i64 1)))⟩, ⟨(some 12), none, .p (.mov (.tmp 106))⟩])
  (.block 6
  (.loop lb48_0))) .skip))))))))
  (.reg [⟨(some 17), none, .p (.mov (.tmp 10))⟩, ⟨(some 18), none, .p (.bin .add (.tmp 17) (.const (.int .i64 1)))⟩, ⟨(some 10), none, .p (.mov (.tmp 18))⟩])))
/-- slices.partialInsertionSortCmpFunc int  -/
def cf48 : LC :=
  (.seq (.reg [⟨(some 8), none, .p (.mov (.const (.bool false)))⟩])
  (.seq (.reg [⟨(some 13), none, .p (.mov (.tmp 1))⟩, ⟨(some 14), none, .p (.bin .add (.tmp 13) (.const (.int .i64 1)))⟩, ⟨(some 9), none, .p (.mov (.tmp 14))⟩])
  (.seq (.seq (.reg [⟨(some 10), none, .p (.mov (.const (.int .i64 0)))⟩])
  (.block 0
  (.loop lb48_3)))
  (.seq (.reg [⟨(some 8), none, .p (.mov (.const (.bool false)))⟩])
  .ret))))
def rf48 : List RX := [.tmp 8]
set_option maxRecDepth 100000 in
theorem comp48 : cFn Try.prog Try.f48 = some (erase cf48, rf48) := by kernel_rfl
def lb49_0 : LC :=
  (.seq (.seq (.dreg [⟨(some 50), none, .p (.mov (.tmp 11))⟩, ⟨(some 51), none, .p (.mov (.tmp 12))⟩, ⟨(some 52), none, .p (.bin .leq (.tmp 50) (.tmp 51))⟩, ⟨(some 53), none, .p (.mov (.tmp 52))⟩, ⟨(some 54), (some (53, true)), .p (.mov (.tmp 4))⟩, ⟨(some 55), (some (53, true)), .p (.mov (.tmp 0))⟩, ⟨(some 56), (some (53, true)), .p (.mov (.tmp 1))⟩, ⟨(some 57), (some (53, true)), .p (.iad 1 (.tmp 55) (.tmp 56))⟩, ⟨(some 58), (some (53, true)), .p (.ld none (.tmp 57))⟩, ⟨(some 59), (some (53, true)), .p (.mov (.tmp 0))⟩, ⟨(some 60), (some (53, true)), .p (.mov (.tmp 12))⟩, ⟨(some 61), (some (53, true)), .p (.iad 1 (.tmp 59) (.tmp 60))⟩, ⟨(some 62), (some (53, true)), .p (.ld none (.tmp 61))⟩, ⟨(some 63), (some (53, true)), .e (.calv (.tmp 54) [(.tmp 58), (.tmp 62)])⟩, ⟨(some 64), (some (53, true)), .p (.bin .lss (.tmp 63) (.const (.int .i64 0)))⟩, ⟨(some 65), none, .p (.pick (.tmp 53) (.tmp 64) (.const (.bool false)))⟩] true)
  (.cond (.tmp 65) .skip (.exit 4)))
  (.block 5
  (.reg [⟨(some 66), none, .p (.mov (.tmp 12))⟩, ⟨(some 67), none, .p (.bin .sub (.tmp 66) (.const (.int .i64 1)))⟩, ⟨(some 12), none, .p (.mov (.tmp 67))⟩])))
def lb49_1 : LC :=
  (.seq (.seq (.dreg [⟨(some 31), none, .p (.mov (.tmp 11))⟩, ⟨(some 32), none, .p (.mov (.tmp 12))⟩, ⟨(some 33), none, .p (.bin .leq (.tmp 31) (.tmp 32))⟩, ⟨(some 34), none, .p (.mov (.tmp 33))⟩, ⟨(some 35), (some (34, true)), .p (.mov (.tmp 4))⟩, ⟨(some 36), (some (34, true)), .p (.mov (.tmp 0))⟩, ⟨(some 37), (some (34, true)), .p (.mov (.tmp 1))⟩, ⟨(some 38), (some (34, true)), .p (.iad 1 (.tmp 36) (.tmp 37))⟩, ⟨(some 39), (some (34, true)), .p (.ld none (.tmp 38))⟩, ⟨(some 40), (some (34, true)), .p (.mov (.tmp 0))⟩, ⟨(some 41), (some (34, true)), .p (.mov (.tmp 11))⟩, ⟨(some 42), (some (34, true)), .p (.iad 1 (.tmp 40) (.tmp 41))⟩, ⟨(some 43), (some (34, true)), .p (.ld none (.tmp 42))⟩, ⟨(some 44), (some (34, true)), .e (.calv (.tmp 35) [(.tmp 39), (.tmp 43)])⟩, ⟨(some 45), (some (34, true)), .p (.bin .lss (.tmp 44) (.const (.int .i64 0)))⟩, ⟨(some 46), (some (34, true)), .p (.un .not (.tmp 45))⟩, ⟨(some 47), none, .p (.pick (.tmp 34) (.tmp 46) (.const (.bool false)))⟩] true)
  (.cond (.tmp 47) .skip (.exit 2)))
  (.block 3
  (.reg [⟨(some 48), none, .p (.mov (.tmp 11))⟩, ⟨(some 49), none, .p (.bin .add (.tmp 48) (.const (.int .i64 1)))⟩, ⟨(some 11), none, .p (.mov (.tmp 49))⟩])))
def lb49_2 : LC :=
  (.block 1
  (.seq (.block 2
  (.loop lb49_1))
  (.seq (.block 4
  (.loop lb49_0))
  (.seq (.seq (.reg [⟨(some 68), none, .p (.mov (.tmp 11))⟩, ⟨(some 69), none, .p (.mov (.tmp 12))⟩, ⟨(some 70), none, .p (.bin .gtr (.tmp 68) (.tmp 69))⟩])
  (.cond (.tmp 70) (.exit 0) .skip))
  (.seq (.dreg [⟨(some 71), none, .p (.mov (.tmp 0))⟩, ⟨(some 72), none, .p (.mov (.tmp 11))⟩, ⟨(some 73), none, .p (.mov (.tmp 0))⟩, ⟨(some 74), none, .p (.mov (.tmp 12))⟩, ⟨(some 75), none, .p (.mov (.tmp 0))⟩, ⟨(some 76), none, .p (.mov (.tmp 12))⟩, ⟨(some 77), none, .p (.iad 1 (.tmp 75) (.tmp 76))⟩, ⟨(some 78), none, .p (.ld none (.tmp 77))⟩, ⟨(some 79), none, .p (.mov (.tmp 0))⟩, ⟨(some 80), none, .p (.mov (.tmp 11))⟩, ⟨(some 81), none, .p (.iad 1 (.tmp 79) (.tmp 80))⟩, ⟨(some 82), none, .p (.ld none (.tmp 81))⟩, ⟨(some 83), none, .p (.iad 1 (.tmp 71) (.tmp 72))⟩, ⟨none, none, .e (.st 1 (.tmp 83) (.tmp 78))⟩, ⟨(some 84), none, .p (.iad 1 (.tmp 73) (.tmp 74))⟩, ⟨none, none, .e (.st 1 (.tmp 84) (.tmp 82))⟩] true)
  (.seq (.reg [⟨(some 85), none, .p (.mov (.tmp 11))⟩, ⟨(some 86), none, .p (.bin .add (.tmp 85) (.const (.int .i64 1)))⟩, ⟨(some 11), none, .p (.mov (.tmp 86))⟩])
  (.reg [⟨(some 87), none, .p (.mov (.tmp 12))⟩, ⟨(some 88), none, .p (.bin .sub (.tmp 87) (.const (.int .i64 1)))⟩, ⟨(some 12), none, .p (.mov (.tmp 88))⟩])))))))
/-- slices.partitionEqualCmpFunc int  -/
def cf49 : LC :=
  (.seq (.reg [⟨(some 10), none, .p (.mov (.const (.int .i64 0)))⟩])
  (.seq (.dreg [⟨(some 13), none, .p (.mov (.tmp 0))⟩, ⟨(some 14), none, .p (.mov (.tmp 1))⟩, ⟨(some 15), none, .p (.mov (.tmp 0))⟩, ⟨(some 16), none, .p (.mov (.tmp 3))⟩, ⟨(some 17), none, .p (.mov (.tmp 0))⟩, ⟨(some 18), none, .p (.mov (.tmp 3))⟩, ⟨(some 19), none, .p (.iad 1 (.tmp 17) (.tmp 18))⟩, ⟨(some 20), none, .p (.ld none (.tmp 19))⟩, ⟨(some 21), none, .p (.mov (.tmp 0))⟩, ⟨(some 22), none, .p (.mov (.tmp 1))⟩, ⟨(some 23), none, .p (.iad 1 (.tmp 21) (.tmp 22))⟩, ⟨(some 24), none, .p (.ld none (.tmp 23))⟩, ⟨(some 25), none, .p (.iad 1 (.tmp 13) (.tmp 14))⟩, ⟨none, none, .e (.st 1 (.tmp 25) (.tmp 20))⟩, ⟨(some 26), none, .p (.iad 1 (.tmp 15) (.tmp 16))⟩, ⟨none, none, .e (.st 1 (.tmp 26) (.tmp 24))⟩] true)
  (.seq (.reg [⟨(some 27), none, .p (.mov (.tmp 1))⟩, ⟨(some 28), none, .p (.bin .add (.tmp 27) (.const (.int .i64 1)))⟩, ⟨(some 29), none, .p (.mov (.tmp 2))⟩, ⟨(some 30), none, .p (.bin .sub (.tmp 29) (.const (.int .i64 1)))⟩, ⟨(some 11), none, .p (.mov (.tmp 28))⟩, ⟨(some 12), none, .p (.mov (.tmp 30))⟩])
  (.seq (.block 0
  (.loop lb49_2))
  (.seq (.reg [⟨(some 89), none, .p (.mov (.tmp 11))⟩, ⟨(some 10), none, .p (.mov (.tmp 89))⟩])
  .ret)))))
def rf49 : List RX := [.tmp 10]
set_option maxRecDepth 100000 in
theorem comp49 : cFn Try.prog Try.f49 = some (erase cf49, rf49) := by kernel_rfl
def lb50_0 : LC :=
  (.seq (.seq (.dreg [⟨(some 123), none, .p (.mov (.tmp 12))⟩, ⟨(some 124), none, .p (.mov (.tmp 13))⟩, ⟨(some 125), none, .p (.bin .leq (.tmp 123) (.tmp 124))⟩, ⟨(some 126), none, .p (.mov (.tmp 125))⟩, ⟨(some 127), (some (126, true)), .p (.mov (.tmp 4))⟩, ⟨(some 128), (some (126, true)), .p (.mov (.tmp 0))⟩, ⟨(some 129), (some (126, true)), .p (.mov (.tmp 13))⟩, ⟨(some 130), (some (126, true)), .p (.iad 1 (.tmp 128) (.tmp 129))⟩, ⟨(some 131), (some (126, true)), .p (.ld none (.tmp 130))⟩, ⟨(some 132), (some (126, true)), .p (.mov (.tmp 0))⟩, ⟨(some 133), (some (126, true)), .p (.mov (.tmp 1))⟩, ⟨(some 134), (some (126, true)), .p (.iad 1 (.tmp 132) (.tmp 133))⟩, ⟨(some 135), (some (126, true)), .p (.ld none (.tmp 134))⟩, ⟨(some 136), (some (126, true)), .e (.calv (.tmp 127) [(.tmp 131), (.tmp 135)])⟩, ⟨(some 137), (some (126, true)), .p (.bin .lss (.tmp 136) (.const (.int .i64 0)))⟩, ⟨(some 138), (some (126, true)), .p (.un .not (.tmp 137))⟩, ⟨(some 139), none, .p (.pick (.tmp 126) (.tmp 138) (.const (.bool false)))⟩] true)
  (.cond (.tmp 139) .skip (.exit 8)))
  (.block 9
  (.reg [⟨(some 140), none, .p (.mov (.tmp 13))⟩, ⟨(some 141), none, .p (.bin .sub (.tmp 140) (.const (.int .i64 1)))⟩, ⟨(some 13), none, .p (.mov (.tmp 141))⟩])))
def lb50_1 : LC :=
  (.seq (.seq (.dreg [⟨(some 105), none, .p (.mov (.tmp 12))⟩, ⟨(some 106), none, .p (.mov (.tmp 13))⟩, ⟨(some 107), none, .p (.bin .leq (.tmp 105) (.tmp 106))⟩, ⟨(some 108), none, .p (.mov (.tmp 107))⟩, ⟨(some 109), (some (108, true)), .p (.mov (.tmp 4))⟩, ⟨(some 110), (some (108, true)), .p (.mov (.tmp 0))⟩, ⟨(some 111), (some (108, true)), .p (.mov (.tmp 12))⟩, ⟨(some 112), (some (108, true)), .p (.iad 1 (.tmp 110) (.tmp 111))⟩, ⟨(some 113), (some (108, true)), .p (.ld none (.tmp 112))⟩, ⟨(some 114), (some (108, true)), .p (.mov (.tmp 0))⟩, ⟨(some 115), (some (108, true)), .p (.mov (.tmp 1))⟩, ⟨(some 116), (some (108, true)), .p (.iad 1 (.tmp 114) (.tmp 115))⟩, ⟨(some 117), (some (108, true)), .p (.ld none (.tmp 116))⟩, ⟨(some 118), (some (108, true)), .e (.calv (.tmp 109) [(.tmp 113), (.tmp 117)])⟩, ⟨(some 119), (some (108, true)), .p (.bin .lss (.tmp 118) (.const (.int .i64 0)))⟩, ⟨(some 120), none, .p (.pick (.tmp 108) (.tmp 119) (.const (.bool false)))⟩] true)
  (.cond (.tmp 120) .skip (.exit 6)))
  (.block 7
  (.reg [⟨(some 121), none, .p (.mov (.tmp 12))⟩, ⟨(some 122), none, .p (.bin .add (.tmp 121) (.const (.int .i64 1)))⟩, ⟨(some 12), none, .p (.mov (.tmp 122))⟩])))
def lb50_2 : LC :=
  (.block 5
  (.seq (.block 6
  (.loop lb50_1))
  (.seq (.block 8
  (.loop lb50_0))
  (.seq (.seq (.reg [⟨(some 142), none, .p (.mov (.tmp 12))⟩, ⟨(some 143), none, .p (.mov (.tmp 13))⟩, ⟨(some 144), none, .p (.bin .gtr (.tmp 142) (.tmp 143))⟩])
  (.cond (.tmp 144) (.exit 4) .skip))
  (.seq (.dreg [⟨(some 145), none, .p (.mov (.tmp 0))⟩, ⟨(some 146), none, .p (.mov (.tmp 12))⟩, ⟨(some 147), none, .p (.mov (.tmp 0))⟩, ⟨(some 148), none, .p (.mov (.tmp 13))⟩, ⟨(some 149), none, .p (.mov (.tmp 0))⟩, ⟨(some 150), none, .p (.mov (.tmp 13))⟩, ⟨(some 151), none, .p (.iad 1 (.tmp 149) (.tmp 150))⟩, ⟨(some 152), none, .p (.ld none (.tmp 151))⟩, ⟨(some 153), none, .p (.mov (.tmp 0))⟩, ⟨(some 154), none, .p (.mov (.tmp 12))⟩, ⟨(some 155), none, .p (.iad 1 (.tmp 153) (.tmp 154))⟩, ⟨(some 156), none, .p (.ld none (.tmp 155))⟩, ⟨(some 157), none, .p (.iad 1 (.tmp 145) (.tmp 146))⟩, ⟨none, none, .e (.st 1 (.tmp 157) (.tmp 152))⟩, ⟨(some 158), none, .p (.iad 1 (.tmp 147) (.tmp 148))⟩, ⟨none, none, .e (.st 1 (.tmp 158) (.tmp 156))⟩] true)
  (.seq (.reg [⟨(some 159), none, .p (.mov (.tmp 12))⟩, ⟨(some 160), none, .p (.bin .add (.tmp 159) (.const (.int .i64 1)))⟩, ⟨(some 12), none, .p (.mov (.tmp 160))⟩])
  (.reg [⟨(some 161), none, .p (.mov (.tmp 13))⟩, ⟨(some 162), none, .p (.bin .sub (.tmp 161) (.const (.int .i64 1)))⟩, ⟨(some 13), none, .p (.mov (.tmp 162))⟩])))))))
def lb50_3 : LC :=
  (.seq (.seq (.dreg [⟨(some 50), none, .p (.mov (.tmp 12))⟩, ⟨(some 51), none, .p (.mov (.tmp 13))⟩, ⟨(some 52), none, .p (.bin .leq (.tmp 50) (.tmp 51))⟩, ⟨(some 53), none, .p (.mov (.tmp 52))⟩, ⟨(some 54), (some (53, true)), .p (.mov (.tmp 4))⟩, ⟨(some 55), (some (53, true)), .p (.mov (.tmp 0))⟩, ⟨(some 56), (some (53, true)), .p (.mov (.tmp 13))⟩, ⟨(some 57), (some (53, true)), .p (.iad 1 (.tmp 55) (.tmp 56))⟩, ⟨(some 58), (some (53, true)), .p (.ld none (.tmp 57))⟩, ⟨(some 59), (some (53, true)), .p (.mov (.tmp 0))⟩, ⟨(some 60), (some (53, true)), .p (.mov (.tmp 1))⟩, ⟨(some 61), (some (53, true)), .p (.iad 1 (.tmp 59) (.tmp 60))⟩, ⟨(some 62), (some (53, true)), .p (.ld none (.tmp 61))⟩, ⟨(some 63), (some (53, true)), .e (.calv (.tmp 54) [(.tmp 58), (.tmp 62)])⟩, ⟨(some 64), (some (53, true)), .p (.bin .lss (.tmp 63) (.const (.int .i64 0)))⟩, ⟨(some 65), (some (53, true)), .p (.un .not (.tmp 64))⟩, ⟨(some 66), none, .p (.pick (.tmp 53) (.tmp 65) (.const (.bool false)))⟩] true)
  (.cond (.tmp 66) .skip (.exit 2)))
  (.block 3
  (.reg [⟨(some 67), none, .p (.mov (.tmp 13))⟩, ⟨(some 68), none, .p (.bin .sub (.tmp 67) (.const (.int .i64 1)))⟩, ⟨(some 13), none, .p (.mov (.tmp 68))⟩])))
def lb50_4 : LC :=
  (.seq (.seq (.dreg [⟨(some 32), none, .p (.mov (.tmp 12))⟩, ⟨(some 33), none, .p (.mov (.tmp 13))⟩, ⟨(some 34), none, .p (.bin .leq (.tmp 32) (.tmp 33))⟩, ⟨(some 35), none, .p (.mov (.tmp 34))⟩, ⟨(some 36), (some (35, true)), .p (.mov (.tmp 4))⟩, ⟨(some 37), (some (35, true)), .p (.mov (.tmp 0))⟩, ⟨(some 38), (some (35, true)), .p (.mov (.tmp 12))⟩, ⟨(some 39), (some (35, true)), .p (.iad 1 (.tmp 37) (.tmp 38))⟩, ⟨(some 40), (some (35, true)), .p (.ld none (.tmp 39))⟩, ⟨(some 41), (some (35, true)), .p (.mov (.tmp 0))⟩, ⟨(some 42), (some (35, true)), .p (.mov (.tmp 1))⟩, ⟨(some 43), (some (35, true)), .p (.iad 1 (.tmp 41) (.tmp 42))⟩, ⟨(some 44), (some (35, true)), .p (.ld none (.tmp 43))⟩, ⟨(some 45), (some (35, true)), .e (.calv (.tmp 36) [(.tmp 40), (.tmp 44)])⟩, ⟨(some 46), (some (35, true)), .p (.bin .lss (.tmp 45) (.const (.int .i64 0)))⟩, ⟨(some 47), none, .p (.pick (.tmp 35) (.tmp 46) (.const (.bool false)))⟩] true)
  (.cond (.tmp 47) .skip (.exit 0)))
  (.block 1
  (.reg [⟨(some 48), none, .p (.mov (.tmp 12))⟩, ⟨(some 49), none, .p (.bin .add (.tmp 48) (.const (.int .i64 1)))⟩, ⟨(some 12), none, .p (.mov (.tmp 49))⟩])))
/-- slices.partitionCmpFunc int  -/
def cf50 : LC :=
  (.seq (.reg [⟨(some 10), none, .p (.mov (.const (.int .i64 0)))⟩, ⟨(some 11), none, .p (.mov (.const (.bool false)))⟩])
  (.seq (.dreg [⟨(some 14), none, .p (.mov (.tmp 0))⟩, ⟨(some 15), none, .p (.mov (.tmp 1))⟩, ⟨(some 16), none, .p (.mov (.tmp 0))⟩, ⟨(some 17), none, .p (.mov (.tmp 3))⟩, ⟨(some 18), none, .p (.mov (.tmp 0))⟩, ⟨(some 19), none, .p (.mov (.tmp 3))⟩, ⟨(some 20), none, .p (.iad 1 (.tmp 18) (.tmp 19))⟩, ⟨(some 21), none, .p (.ld none (.tmp 20))⟩, ⟨(some 22), none, .p (.mov (.tmp 0))⟩, ⟨(some 23), none, .p (.mov (.tmp 1))⟩, ⟨(some 24), none, .p (.iad 1 (.tmp 22) (.tmp 23))⟩, ⟨(some 25), none, .p (.ld none (.tmp 24))⟩, ⟨(some 26), none, .p (.iad 1 (.tmp 14) (.tmp 15))⟩, ⟨none, none, .e (.st 1 (.tmp 26) (.tmp 21))⟩, ⟨(some 27), none, .p (.iad 1 (.tmp 16) (.tmp 17))⟩, ⟨none, none, .e (.st 1 (.tmp 27) (.tmp 25))⟩] true)
  (.seq (.reg [⟨(some 28), none, .p (.mov (.tmp 1))⟩, ⟨(some 29), none, .p (.bin .add (.tmp 28) (.const (.int .i64 1)))⟩, ⟨(some 30), none, .p (.mov (.tmp 2))⟩, ⟨(some 31), none, .p (.bin .sub (.tmp 30) (.const (.int .i64 1)))⟩, ⟨(some 12), none, .p (.mov (.tmp 29))⟩, ⟨(some 13), none, .p (.mov (.tmp 31))⟩])
  (.seq (.block 0
  (.loop lb50_4))
  (.seq (.block 2
  (.loop lb50_3))
  (.seq (.seq (.reg [⟨(some 69), none, .p (.mov (.tmp 12))⟩, ⟨(some 70), none, .p (.mov (.tmp 13))⟩, ⟨(some 71), none, .p (.bin .gtr (.tmp 69) (.tmp 70))⟩])
  (.cond (.tmp 71) (.seq (.dreg [⟨(some 72), none, .p (.mov (.tmp 0))⟩, ⟨(some 73), none, .p (.mov (.tmp 13))⟩, ⟨(some 74), none, .p (.mov (.tmp 0))⟩, ⟨(some 75), none, .p (.mov (.tmp 1))⟩, ⟨(some 76), none, .p (.mov (.tmp 0))⟩, ⟨(some 77), none, .p (.mov (.tmp 1))⟩, ⟨(some 78), none, .p (.iad 1 (.tmp 76) (.tmp 77))⟩, ⟨(some 79), none, .p (.ld none (.tmp 78))⟩, ⟨(some 80), none, .p (.mov (.tmp 0))⟩, ⟨(some 81), none, .p (.mov (.tmp 13))⟩, ⟨(some 82), none, .p (.iad 1 (.tmp 80) (.tmp 81))⟩, ⟨(some 83), none, .p (.ld none (.tmp 82))⟩, ⟨(some 84), none, .p (.iad 1 (.tmp 72) (.tmp 73))⟩, ⟨none, none, .e (.st 1 (.tmp 84) (.tmp 79))⟩, ⟨(some 85), none, .p (.iad 1 (.tmp 74) (.tmp 75))⟩, ⟨none, none, .e (.st 1 (.tmp 85) (.tmp 83))⟩] true)
  (.seq (.reg [⟨(some 86), none, .p (.mov (.tmp 13))⟩, ⟨(some 10), none, .p (.mov (.tmp 86))⟩, ⟨(some 11), none, .p (.mov (.const (.bool true)))⟩])
  .ret)) .skip))
  (.seq (.dreg [⟨(some 87), none, .p (.mov (.tmp 0))⟩, ⟨(some 88), none, .p (.mov (.tmp 12))⟩, ⟨(some 89), none, .p (.mov (.tmp 0))⟩, ⟨(some 90), none, .p (.mov (.tmp 13))⟩, ⟨(some 91), none, .p (.mov (.tmp 0))⟩, ⟨(some 92), none, .p (.mov (.tmp 13))⟩, ⟨(some 93), none, .p (.iad 1 (.tmp 91) (.tmp 92))⟩, ⟨(some 94), none, .p (.ld none (.tmp 93))⟩, ⟨(some 95), none, .p (.mov (.tmp 0))⟩, ⟨(some 96), none, .p (.mov (.tmp 12))⟩, ⟨(some 97), none, .p (.iad 1 (.tmp 95) (.tmp 96))⟩, ⟨(some 98), none, .p (.ld none (.tmp 97))⟩, ⟨(some 99), none, .p (.iad 1 (.tmp 87) (.tmp 88))⟩, ⟨none, none, .e (.st 1 (.tmp 99) (.tmp 94))⟩, ⟨(some 100), none, .p (.iad 1 (.tmp 89) (.tmp 90))⟩, ⟨none, none, .e (.st 1 (.tmp 100) (.tmp 98))⟩] true)
  (.seq (.reg [⟨(some 101), none, .p (.mov (.tmp 12))⟩, ⟨(some 102), none, .p (.bin .add (.tmp 101) (.const (.int .i64 1)))⟩, ⟨(some 12), none, .p (.mov (.tmp 102))⟩])
  (.seq (.reg [⟨(some 103), none, .p (.mov (.tmp 13))⟩, ⟨(some 104), none, .p (.bin .sub (.tmp 103) (.const (.int .i64 1)))⟩, ⟨(some 13), none, .p (.mov (.tmp 104))⟩])
  (.seq (.block 4
  (.loop lb50_2))
  (.seq (.dreg [⟨(some 163), none, .p (.mov (.tmp 0))⟩, ⟨(some 164), none, .p (.mov (.tmp 13))⟩, ⟨(some 165), none, .p (.mov (.tmp 0))⟩, ⟨(some 166), none, .p (.mov (.tmp 1))⟩, ⟨(some 167), none, .p (.mov (.tmp 0))⟩, ⟨(some 168), none, .p (.mov (.tmp 1))⟩, ⟨(some 169), none, .p (.iad 1 (.tmp 167) (.tmp 168))⟩, ⟨(some 170), none, .p (.ld none (.tmp 169))⟩, ⟨(some 171), none, .p (.mov (.tmp 0))⟩, ⟨(some 172), none, .p (.mov (.tmp 13))⟩, ⟨(some 173), none, .p (.iad 1 (.tmp 171) (.tmp 172))⟩, ⟨(some 174), none, .p (.ld none (.tmp 173))⟩, ⟨(some 175), none, .p (.iad 1 (.tmp 163) (.tmp 164))⟩, ⟨none, none, .e (.st 1 (.tmp 175) (.tmp 170))⟩, ⟨(some 176), none, .p (.iad 1 (.tmp 165) (.tmp 166))⟩, ⟨none, none, .e (.st 1 (.tmp 176) (.tmp 174))⟩] true)
  (.seq (.reg [⟨(some 177), none, .p (.mov (.tmp 13))⟩, ⟨(some 10), none, .p (.mov (.tmp 177))⟩, ⟨(some 11), none, .p (.mov (.const (.bool false)))⟩])
  .ret))))))))))))
def rf50 : List RX := [.tmp 10, .tmp 11]
set_option maxRecDepth 100000 in
theorem comp50 : cFn Try.prog Try.f50 = some (erase cf50, rf50) := by kernel_rfl
/-- math bits.Len32 -/
def cf51 : LC :=
  (.seq (.reg [⟨(some 2), none, .p (.mov (.const (.int .i64 0)))⟩])
  (.seq (.seq (.reg [⟨(some 3), none, .p (.mov (.tmp 0))⟩, ⟨(some 4), none, .p (.bin .geq (.tmp 3) (.const (.int .u32 65536)))⟩])
  (.cond (.tmp 4) (.seq (.reg [⟨(some 5), none, .p (.mov (.tmp 0))⟩, ⟨(some 6), none, .p (.bin .shr (.tmp 5) (.const (.int .u64 16)))⟩, ⟨(some 0), none, .p (.mov (.tmp 6))⟩])
  (.reg [⟨(some 2), none, .p (.mov (.const (.int .i64 16)))⟩])) .skip))
  (.seq (.seq (.reg [⟨(some 7), none, .p (.mov (.tmp 0))⟩, ⟨(some 8), none, .p (.bin .geq (.tmp 7) (.const (.int .u32 256)))⟩])
  (.cond (.tmp 8) (.seq (.reg [⟨(some 9), none, .p (.mov (.tmp 0))⟩, ⟨(some 10), none, .p (.bin .shr (.tmp 9) (.const (.int .u64 8)))⟩, ⟨(some 0), none, .p (.mov (.tmp 10))⟩])
  (.reg [⟨(some 11), none, .p (.mov (.tmp 2))⟩, ⟨(some 12), none, .p (.bin .add (.tmp 11) (.const (.int .i64 8)))⟩, ⟨(some 2), none, .p (.mov (.tmp 12))⟩])) .skip))
  (.seq (.reg [⟨(some 13), none, .p (.mov (.tmp 2))⟩, ⟨(some 14), none, .p (.mov (.tmp 0))⟩, ⟨(some 15), none, .p (.cvt .u8 (.tmp 14))⟩, ⟨(some 16), none, .p (.idxs (.const (.string ⟨#[0, 1, 2, 2, 3, 3, 3, 3, 4, 4, 4, 4, 4, 4, 4, 4, 5, 5, 5, 5, 5, 5, 5, 5, 5, 5, 5, 5, 5, 5, 5, 5, 6, 6, 6, 6, 6, 6, 6, 6, 6, 6, 6, 6, 6, 6, 6, 6, 6, 6, 6, 6, 6, 6, 6, 6, 6, 6, 6, 6, 6, 6, 6, 6, 7, 7, 7, 7, 7, 7, 7, 7, 7, 7, 7, 7, 7, 7, 7, 7, 7, 7, 7, 7, 7, 7, 7, 7, 7, 7, 7, 7, 7, 7, 7, 7, 7, 7, 7, 7, 7, 7, 7, 7, 7, 7, 7, 7, 7, 7, 7, 7, 7, 7, 7, 7, 7, 7, 7, 7, 7, 7, 7, 7, 7, 7, 7, 7, 8, 8, 8, 8, 8, 8, 8, 8, 8, 8, 8, 8, 8, 8, 8, 8, 8, 8, 8, 8, 8, 8, 8, 8, 8, 8, 8, 8, 8, 8, 8, 8, 8, 8, 8, 8, 8, 8, 8, 8, 8, 8, 8, 8, 8, 8, 8, 8, 8, 8, 8, 8, 8, 8, 8, 8, 8, 8, 8, 8, 8, 8, 8, 8, 8, 8, 8, 8, 8, 8, 8, 8, 8, 8, 8, 8, 8, 8, 8, 8, 8, 8, 8, 8, 8, 8, 8, 8, 8, 8, 8, 8, 8, 8, 8, 8, 8, 8, 8, 8, 8, 8, 8, 8, 8, 8, 8, 8, 8, 8, 8, 8, 8, 8, 8, 8, 8, 8, 8, 8, 8, 8, 8, 8, 8, 8, 8, 8]⟩)) (.tmp 15))⟩, ⟨(some 17), none, .p (.cvt .i64 (.tmp 16))⟩, ⟨(some 18), none, .p (.bin .add (.tmp 13) (.tmp 17))⟩, ⟨(some 2), none, .p (.mov (.tmp 18))⟩])
  .ret))))
def rf51 : List RX := [.tmp 2]
set_option maxRecDepth 100000 in
theorem comp51 : cFn Try.prog Try.f51 = some (erase cf51, rf51) := by kernel_rfl
/-- math bits.Len64 -/
def cf52 : LC :=
  (.seq (.reg [⟨(some 2), none, .p (.mov (.const (.int .i64 0)))⟩])
  (.seq (.seq (.reg [⟨(some 3), none, .p (.mov (.tmp 0))⟩, ⟨(some 4), none, .p (.bin .geq (.tmp 3) (.const (.int .u64 4294967296)))⟩])
  (.cond (.tmp 4) (.seq (.reg [⟨(some 5), none, .p (.mov (.tmp 0))⟩, ⟨(some 6), none, .p (.bin .shr (.tmp 5) (.const (.int .u64 32)))⟩, ⟨(some 0), none, .p (.mov (.tmp 6))⟩])
  (.reg [⟨(some 2), none, .p (.mov (.const (.int .i64 32)))⟩])) .skip))
  (.seq (.seq (.reg [⟨(some 7), none, .p (.mov (.tmp 0))⟩, ⟨(some 8), none, .p (.bin .geq (.tmp 7) (.const (.int .u64 65536)))⟩])
  (.cond (.tmp 8) (.seq (.reg [⟨(some 9), none, .p (.mov (.tmp 0))⟩, ⟨(some 10), none, .p (.bin .shr (.tmp 9) (.const (.int .u64 16)))⟩, ⟨(some 0), none, .p (.mov (.tmp 10))⟩])
  (.reg [⟨(some 11), none, .p (.mov (.tmp 2))⟩, ⟨(some 12), none, .p (.bin .add (.tmp 11) (.const (.int .i64 16)))⟩, ⟨(some 2), none, .p (.mov (.tmp 12))⟩])) .skip))
  (.seq (.seq (.reg [⟨(some 13), none, .p (.mov (.tmp 0))⟩, ⟨(some 14), none, .p (.bin .geq (.tmp 13) (.const (.int .u64 256)))⟩])
  (.cond (.tmp 14) (.seq (.reg [⟨(some 15), none, .p (.mov (.tmp 0))⟩, ⟨(some 16), none, .p (.bin .shr (.tmp 15) (.const (.int .u64 8)))⟩, ⟨(some 0), none, .p (.mov (.tmp 16))⟩])
  (.reg [⟨(some 17), none, .p (.mov (.tmp 2))⟩, ⟨(some 18), none, .p (.bin .add (.tmp 17) (.const (.int .i64 8)))⟩, ⟨(some 2), none, .p (.mov (.tmp 18))⟩])) .skip))
  (.seq (.reg [⟨(some 19), none, .p (.mov (.tmp 2))⟩, ⟨(some 20), none, .p (.mov (.tmp 0))⟩, ⟨(some 21), none, .p (.cvt .u8 (.tmp 20))⟩, ⟨(some 22), none, .p (.idxs (.const (.string ⟨#[0, 1, 2, 2, 3, 3, 3, 3, 4, 4, 4, 4, 4, 4, 4, 4, 5, 5, 5, 5, 5, 5, 5, 5, 5, 5, 5, 5, 5, 5, 5, 5, 6, 6, 6, 6, 6, 6, 6, 6, 6, 6, 6, 6, 6, 6, 6, 6, 6, 6, 6, 6, 6, 6, 6, 6, 6, 6, 6, 6, 6, 6, 6, 6, 7, 7, 7, 7, 7, 7, 7, 7, 7, 7, 7, 7, 7, 7, 7, 7, 7, 7, 7, 7, 7, 7, 7, 7, 7, 7, 7, 7, 7, 7, 7, 7, 7, 7, 7, 7, 7, 7, 7, 7, 7, 7, 7, 7, 7, 7, 7, 7, 7, 7, 7, 7, 7, 7, 7, 7, 7, 7, 7, 7, 7, 7, 7, 7, 8, 8, 8, 8, 8, 8, 8, 8, 8, 8, 8, 8, 8, 8, 8, 8, 8, 8, 8, 8, 8, 8, 8, 8, 8, 8, 8, 8, 8, 8, 8, 8, 8, 8, 8, 8, 8, 8, 8, 8, 8, 8, 8, 8, 8, 8, 8, 8, 8, 8, 8, 8, 8, 8, 8, 8, 8, 8, 8, 8, 8, 8, 8, 8, 8, 8, 8, 8, 8, 8, 8, 8, 8, 8, 8, 8, 8, 8, 8, 8, 8, 8, 8, 8, 8, 8, 8, 8, 8, 8, 8, 8, 8, 8, 8, 8, 8, 8, 8, 8, 8, 8, 8, 8, 8, 8, 8, 8, 8, 8, 8, 8, 8, 8, 8, 8, 8, 8, 8, 8, 8, 8, 8, 8, 8, 8, 8, 8]⟩)) (.tmp 21))⟩, ⟨(some 23), none, .p (.cvt .i64 (.tmp 22))⟩, ⟨(some 24), none, .p (.bin .add (.tmp 19) (.tmp 23))⟩, ⟨(some 2), none, .p (.mov (.tmp 24))⟩])
  .ret)))))
def rf52 : List RX := [.tmp 2]
set_option maxRecDepth 100000 in
theorem comp52 : cFn Try.prog Try.f52 = some (erase cf52, rf52) := by kernel_rfl
def lb53_0 : LC :=
  (.block 1
  (.seq (.reg [⟨(some 13), none, .p (.mov (.tmp 10))⟩, ⟨(some 14), none, .p (.bin .mul (.const (.int .i64 2)) (.tmp 13))⟩, ⟨(some 15), none, .p (.bin .add (.tmp 14) (.const (.int .i64 1)))⟩, ⟨(some 11), none, .p (.mov (.tmp 15))⟩])
  (.seq (.seq (.reg [⟨(some 16), none, .p (.mov (.tmp 11))⟩, ⟨(some 17), none, .p (.mov (.tmp 2))⟩, ⟨(some 18), none, .p (.bin .geq (.tmp 16) (.tmp 17))⟩])
  (.cond (.tmp 18) (.exit 0) .skip))
  (.seq (.seq (.dreg [⟨(some 19), none, .p (.mov (.tmp 11))⟩, ⟨(some 20), none, .p (.bin .add (.tmp 19) (.const (.int .i64 1)))⟩, ⟨(some 21), none, .p (.mov (.tmp 2))⟩, ⟨(some 22), none, .p (.bin .lss (.tmp 20) (.tmp 21))⟩, ⟨(some 23), none, .p (.mov (.tmp 22))⟩, ⟨(some 24), (some (23, true)), .p (.mov (.tmp 4))⟩, ⟨(some 25), (some (23, true)), .p (.mov (.tmp 0))⟩, ⟨(some 26), (some (23, true)), .p (.mov (.tmp 3))⟩, ⟨(some 27), (some (23, true)), .p (.mov (.tmp 11))⟩, ⟨(some 28), (some (23, true)), .p (.bin .add (.tmp 26) (.tmp 27))⟩, ⟨(some 29), (some (23, true)), .p (.iad 1 (.tmp 25) (.tmp 28))⟩, ⟨(some 30), (some (23, true)), .p (.ld none (.tmp 29))⟩, ⟨(some 31), (some (23, true)), .p (.mov (.tmp 0))⟩, ⟨(some 32), (some (23, true)), .p (.mov (.tmp 3))⟩, ⟨(some 33), (some (23, true)), .p (.mov (.tmp 11))⟩, ⟨(some 34), (some (23, true)), .p (.bin .add (.tmp 32) (.tmp 33))⟩, ⟨(some 35), (some (23, true)), .p (.bin .add (.tmp 34) (.const (.int .i64 1)))⟩, ⟨(some 36), (some (23, true)), .p (.iad 1 (.tmp 31) (.tmp 35))⟩, ⟨(some 37), (some (23, true)), .p (.ld none (.tmp 36))⟩, ⟨(some 38), (some (23, true)), .e (.calv (.tmp 24) [(.tmp 30), (.tmp 37)])⟩, ⟨(some 39), (some (23, true)), .p (.bin .lss (.tmp 38) (.const (.int .i64 0)))⟩, ⟨(some 40), none, .p (.pick (.tmp 23) (.tmp 39) (.const (.bool false)))⟩] true)
  (.cond (.tmp 40) (.reg [⟨(some 41), none, .p (.mov (.tmp 11))⟩, ⟨(some 42), none, .p (.bin .add (.tmp 41) (.const (.int .i64 1)))⟩, ⟨(some 11), none, .p (.mov (.tmp 42))⟩]) .skip))
  (.seq (.seq (.dreg [⟨(some 43), none, .p (.mov (.tmp 4))⟩, ⟨(some 44), none, .p (.mov (.tmp 0))⟩, ⟨(some 45), none, .p (.mov (.tmp 3))⟩, ⟨(some 46), none, .p (.mov (.tmp 10))⟩, ⟨(some 47), none, .p (.bin .add (.tmp 45) (.tmp 46))⟩, ⟨(some 48), none, .p (.iad 1 (.tmp 44) (.tmp 47))⟩, ⟨(some 49), none, .p (.ld none (.tmp 48))⟩, ⟨(some 50), none, .p (.mov (.tmp 0))⟩, ⟨(some 51), none, .p (.mov (.tmp 3))⟩, ⟨(some 52), none, .p (.mov (.tmp 11))⟩, ⟨(some 53), none, .p (.bin .add (.tmp 51) (.tmp 52))⟩, ⟨(some 54), none, .p (.iad 1 (.tmp 50) (.tmp 53))⟩, ⟨(some 55), none, .p (.ld none (.tmp 54))⟩, ⟨(some 56), none, .e (.calv (.tmp 43) [(.tmp 49), (.tmp 55)])⟩, ⟨(some 57), none, .p (.bin .lss (.tmp 56) (.const (.int .i64 0)))⟩, ⟨(some 58), none, .p (.un .not (.tmp 57))⟩] true)
  (.cond (.tmp 58) .ret .skip))
  (.seq (.dreg [⟨(some 59), none, .p (.mov (.tmp 0))⟩, ⟨(some 60), none, .p (.mov (.tmp 3))⟩, ⟨(some 61), none, .p (.mov (.tmp 10))⟩, ⟨(some 62), none, .p (.bin .add (.tmp 60) (.tmp 61))⟩, ⟨(some 63), none, .p (.mov (.tmp 0))⟩, ⟨(some 64), none, .p (.mov (.tmp 3))⟩, ⟨(some 65), none, .p (.mov (.tmp 11))⟩, ⟨(some 66), none, .p (.bin .add (.tmp 64) (.tmp 65))⟩, ⟨(some 67), none, .p (.mov (.tmp 0))⟩, ⟨(some 68), none, .p (.mov (.tmp 3))⟩, ⟨(some 69), none, .p (.mov (.tmp 11))⟩, ⟨(some 70), none, .p (.bin .add (.tmp 68) (.tmp 69))⟩, ⟨(some 71), none, .p (.iad 1 (.tmp 67) (.tmp 70))⟩, ⟨(some 72), none, .p (.ld none (.tmp 71))⟩, ⟨(some 73), none, .p (.mov (.tmp 0))⟩, ⟨(some 74), none, .p (.mov (.tmp 3))⟩, ⟨(some 75), none, .p (.mov (.tmp 10))⟩, ⟨(some 76), none, .p (.bin .add (.tmp 74) (.tmp 75))⟩, ⟨(some 77), none, .p (.iad 1 (.tmp 73) (.tmp 76))⟩, ⟨(some 78), none, .p (.ld none (.tmp 77))⟩, ⟨(some 79), none, .p (.iad 1 (.tmp 59) (.tmp 62))⟩, ⟨none, none, .e (.st 1 (.tmp 79) (.tmp 72))⟩, ⟨(some 80), none, .p (.iad 1 (.tmp 63) (.tmp 66))⟩, ⟨none, none, .e (.st 1 (.tmp 80) (.tmp 78))⟩] true)
  (.reg [⟨(some 81), none, .p (.mov (.tmp 11))⟩, ⟨(some 10), none, .p (.mov (.tmp 81))⟩])))))))
/-- slices.siftDownCmpFunc int  -/
def cf53 : LC :=
  (.seq (.reg [⟨(some 12), none, .p (.mov (.tmp 1))⟩, ⟨(some 10), none, .p (.mov (.tmp 12))⟩])
  (.block 0
  (.loop lb53_0)))
def rf53 : List RX := []
set_option maxRecDepth 100000 in
theorem comp53 : cFn Try.prog Try.f53 = some (erase cf53, rf53) := by kernel_rfl
/-- slices.nextPowerOfTwo -/
def cf54 : LC :=
  (.seq (.reg [⟨(some 2), none, .p (.mov (.const (.int .u64 0)))⟩])
  (.seq (.reg [⟨(some 3), none, .p (.mov (.tmp 0))⟩, ⟨(some 4), none, .p (.cvt .u64 (.tmp 3))⟩, ⟨(some 5), none, .e (.call 40 [(.tmp 4)])⟩, ⟨(some 6), none, .p (.bin .shl (.const (.int .u64 1)) (.tmp 5))⟩, ⟨(some 2), none, .p (.mov (.tmp 6))⟩])
  .ret))
def rf54 : List RX := [.tmp 2]
set_option maxRecDepth 100000 in
theorem comp54 : cFn Try.prog Try.f54 = some (erase cf54, rf54) := by kernel_rfl
/--   slices.xorshift .Next -/
def cf55 : LC :=
  (.seq (.reg [⟨(some 2), none, .p (.mov (.const (.int .u64 0)))⟩])
  (.seq (.dreg [⟨(some 3), none, .p (.mov (.tmp 0))⟩, ⟨(some 4), none, .p (.nilc (.tmp 3))⟩, ⟨(some 5), none, .p (.ld none (.tmp 4))⟩, ⟨(some 6), none, .p (.mov (.tmp 0))⟩, ⟨(some 7), none, .p (.nilc (.tmp 6))⟩, ⟨(some 8), none, .p (.ld none (.tmp 7))⟩, ⟨(some 9), none, .p (.bin .shl (.tmp 8) (.const (.int .u64 13)))⟩, ⟨(some 10), none, .p (.bin .xor (.tmp 5) (.tmp 9))⟩, ⟨(some 11), none, .p (.nilc (.tmp 3))⟩, ⟨none, none, .e (.st 1 (.tmp 11) (.tmp 10))⟩] true)
  (.seq (.dreg [⟨(some 12), none, .p (.mov (.tmp 0))⟩, ⟨(some 13), none, .p (.nilc (.tmp 12))⟩, ⟨(some 14), none, .p (.ld none (.tmp 13))⟩, ⟨(some 15), none, .p (.mov (.tmp 0))⟩, ⟨(some 16), none, .p (.nilc (.tmp 15))⟩, ⟨(some 17), none, .p (.ld none (.tmp 16))⟩, ⟨(some 18), none, .p (.bin .shr (.tmp 17) (.const (.int .u64 7)))⟩, ⟨(some 19), none, .p (.bin .xor (.tmp 14) (.tmp 18))⟩, ⟨(some 20), none, .p (.nilc (.tmp 12))⟩, ⟨none, none, .e (.st 1 (.tmp 20) (.tmp 19))⟩] true)
  (.seq (.dreg [⟨(some 21), none, .p (.mov (.tmp 0))⟩, ⟨(some 22), none, .p (.nilc (.tmp 21))⟩, ⟨(some 23), none, .p (.ld none (.tmp 22))⟩, ⟨(some 24), none, .p (.mov (.tmp 0))⟩, ⟨(some 25), none, .p (.nilc (.tmp 24))⟩, ⟨(some 26), none, .p (.ld none (.tmp 25))⟩, ⟨(some 27), none, .p (.bin .shl (.tmp 26) (.const (.int .u64 17)))⟩, ⟨(some 28), none, .p (.bin .xor (.tmp 23) (.tmp 27))⟩, ⟨(some 29), none, .p (.nilc (.tmp 21))⟩, ⟨none, none, .e (.st 1 (.tmp 29) (.tmp 28))⟩] true)
  (.seq (.reg [⟨(some 30), none, .p (.mov (.tmp 0))⟩, ⟨(some 31), none, .p (.nilc (.tmp 30))⟩, ⟨(some 32), none, .p (.ld none (.tmp 31))⟩, ⟨(some 2), none, .p (.mov (.tmp 32))⟩])
  .ret)))))
def rf55 : List RX := [.tmp 2]
set_option maxRecDepth 100000 in
theorem comp55 : cFn Try.prog Try.f55 = some (erase cf55, rf55) := by kernel_rfl
/-- slices.medianAdjacentCmpFunc int  -/
def cf56 : LC :=
  (.seq (.reg [⟨(some 8), none, .p (.mov (.const (.int .i64 0)))⟩])
  (.seq (.reg [⟨(some 9), none, .p (.mov (.tmp 0))⟩, ⟨(some 10), none, .p (.mov (.tmp 1))⟩, ⟨(some 11), none, .p (.bin .sub (.tmp 10) (.const (.int .i64 1)))⟩, ⟨(some 12), none, .p (.mov (.tmp 1))⟩, ⟨(some 13), none, .p (.mov (.tmp 1))⟩, ⟨(some 14), none, .p (.bin .add (.tmp 13) (.const (.int .i64 1)))⟩, ⟨(some 15), none, .p (.mov (.tmp 2))⟩, ⟨(some 16), none, .p (.mov (.tmp 3))⟩, ⟨(some 17), none, .e (.call 57 [(.tmp 9), (.tmp 11), (.tmp 12), (.tmp 14), (.tmp 15), (.tmp 16)])⟩, ⟨(some 8), none, .p (.mov (.tmp 17))⟩])
  .ret))
def rf56 : List RX := [.tmp 8]
set_option maxRecDepth 100000 in
theorem comp56 : cFn Try.prog Try.f56 = some (erase cf56, rf56) := by kernel_rfl
/-- slices.medianCmpFunc int  -/
def cf57 : LC :=
  (.seq (.reg [⟨(some 12), none, .p (.mov (.const (.int .i64 0)))⟩])
  (.seq (.reg [⟨(some 14), none, .p (.mov (.tmp 0))⟩, ⟨(some 15), none, .p (.mov (.tmp 1))⟩, ⟨(some 16), none, .p (.mov (.tmp 2))⟩, ⟨(some 17), none, .p (.mov (.tmp 4))⟩, ⟨(some 18), none, .p (.mov (.tmp 5))⟩, ⟨(some 19), none, .e (.call 58 [(.tmp 14), (.tmp 15), (.tmp 16), (.tmp 17), (.tmp 18)])⟩, ⟨(some 13), none, .p (.mov (.tmp 19))⟩, ⟨(some 20), none, .p (.ext (.tmp 13) 0)⟩, ⟨(some 21), none, .p (.ext (.tmp 13) 1)⟩, ⟨(some 1), none, .p (.mov (.tmp 20))⟩, ⟨(some 2), none, .p (.mov (.tmp 21))⟩])
  (.seq (.reg [⟨(some 23), none, .p (.mov (.tmp 0))⟩, ⟨(some 24), none, .p (.mov (.tmp 2))⟩, ⟨(some 25), none, .p (.mov (.tmp 3))⟩, ⟨(some 26), none, .p (.mov (.tmp 4))⟩, ⟨(some 27), none, .p (.mov (.tmp 5))⟩, ⟨(some 28), none, .e (.call 58 [(.tmp 23), (.tmp 24), (.tmp 25), (.tmp 26), (.tmp 27)])⟩, ⟨(some 22), none, .p (.mov (.tmp 28))⟩, ⟨(some 29), none, .p (.ext (.tmp 22) 0)⟩, ⟨(some 30), none, .p (.ext (.tmp 22) 1)⟩, ⟨(some 2), none, .p (.mov (.tmp 29))⟩, ⟨(some 3), none, .p (.mov (.tmp 30))⟩])
  (.seq (.reg [⟨(some 32), none, .p (.mov (.tmp 0))⟩, ⟨(some 33), none, .p (.mov (.tmp 1))⟩, ⟨(some 34), none, .p (.mov (.tmp 2))⟩, ⟨(some 35), none, .p (.mov (.tmp 4))⟩, ⟨(some 36), none, .p (.mov (.tmp 5))⟩, ⟨(some 37), none, .e (.call 58 [(.tmp 32), (.tmp 33), (.tmp 34), (.tmp 35), (.tmp 36)])⟩, ⟨(some 31), none, .p (.mov (.tmp 37))⟩, ⟨(some 38), none, .p (.ext (.tmp 31) 0)⟩, ⟨(some 39), none, .p (.ext (.tmp 31) 1)⟩, ⟨(some 1), none, .p (.mov (.tmp 38))⟩, ⟨(some 2), none, .p (.mov (.tmp 39))⟩])
  (.seq (.reg [⟨(some 40), none, .p (.mov (.tmp 2))⟩, ⟨(some 12), none, .p (.mov (.tmp 40))⟩])
  .ret)))))
def rf57 : List RX := [.tmp 12]
set_option maxRecDepth 100000 in
theorem comp57 : cFn Try.prog Try.f57 = some (erase cf57, rf57) := by kernel_rfl
/-- slices.order2CmpFunc int  -/
def cf58 : LC :=
  (.seq (.reg [⟨(some 10), none, .p (.mov (.const (.int .i64 0)))⟩, ⟨(some 11), none, .p (.mov (.const (.int .i64 0)))⟩])
  (.seq (.seq (.dreg [⟨(some 12), none, .p (.mov (.tmp 4))⟩, ⟨(some 13), none, .p (.mov (.tmp 0))⟩, ⟨(some 14), none, .p (.mov (.tmp 2))⟩, ⟨(some 15), none, .p (.iad 1 (.tmp 13) (.tmp 14))⟩, ⟨(some 16), none, .p (.ld none (.tmp 15))⟩, ⟨(some 17), none, .p (.mov (.tmp 0))⟩, ⟨(some 18), none, .p (.mov (.tmp 1))⟩, ⟨(some 19), none, .p (.iad 1 (.tmp 17) (.tmp 18))⟩, ⟨(some 20), none, .p (.ld none (.tmp 19))⟩, ⟨(some 21), none, .e (.calv (.tmp 12) [(.tmp 16), (.tmp 20)])⟩, ⟨(some 22), none, .p (.bin .lss (.tmp 21) (.const (.int .i64 0)))⟩] true)
  (.cond (.tmp 22) (.seq (.reg [⟨(some 23), none, .p (.mov (.tmp 3))⟩, ⟨(some 24), none, .p (.nilc (.tmp 23))⟩, ⟨(some 25), none, .p (.ld none (.tmp 24))⟩, ⟨(some 26), none, .p (.bin .add (.tmp 25) (.const (.int .i64 1)))⟩, ⟨(some 27), none, .p (.nilc (.tmp 23))⟩, ⟨none, none, .e (.st 1 (.tmp 27) (.tmp 26))⟩])
  (.seq (.reg [⟨(some 28), none, .p (.mov (.tmp 2))⟩, ⟨(some 29), none, .p (.mov (.tmp 1))⟩, ⟨(some 10), none, .p (.mov (.tmp 28))⟩, ⟨(some 11), none, .p (.mov (.tmp 29))⟩])
  .ret)) .skip))
  (.seq (.reg [⟨(some 30), none, .p (.mov (.tmp 1))⟩, ⟨(some 31), none, .p (.mov (.tmp 2))⟩, ⟨(some 10), none, .p (.mov (.tmp 30))⟩, ⟨(some 11), none, .p (.mov (.tmp 31))⟩])
  .ret)))
def rf58 : List RX := [.tmp 10, .tmp 11]
set_option maxRecDepth 100000 in
theorem comp58 : cFn Try.prog Try.f58 = some (erase cf58, rf58) := by kernel_rfl
end Go.Proofs.Ytggaonafmiklaaa
