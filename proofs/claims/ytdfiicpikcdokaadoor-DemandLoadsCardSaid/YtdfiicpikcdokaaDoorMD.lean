/- The functions of a package in the lifted layer's own small language; The functions of a package in the lifted layer's own small language; The functions of a package in the lifted layer's own small language; The functions of a package in the lifted layer's own small language; The functions of a package in the lifted layer's own small language; The functions of a package in the lifted layer's own small language; The functions of a package in the lifted layer's own small language; The functions of a package in the lifted layer's own small language; The functions of a package in the lifted layer's own small language; The functions of a package in the lifted layer's own small language; All functions of the seat. Conditions: none. -/
import Derived.Test.YtdfiicpikcdokaaDoorMC
import Derived.KernelRfl
namespace Go.Proofs.YtdfiicpikcdokaaDoor
def lb10_0 : LC :=
  (.seq (.reg [⟨(some 58), none, .p (.bin .lss (.tmp 57) (.tmp 56))⟩])
  (.seq (.cond (.tmp 58) .skip (.exit 4))
  (.seq (.block 5
  (.seq (.reg [⟨(some 59), none, .p (.mov (.tmp 57))⟩, ⟨(some 60), none, .p (.iad 1 (.tmp 55) (.tmp 57))⟩, ⟨(some 61), none, .p (.ld none (.tmp 60))⟩, ⟨(some 8), none, .p (.mov (.tmp 59))⟩, ⟨(some 9), none, .p (.mov (.tmp 61))⟩])
  (.seq (.reg [⟨(some 62), none, .p (.mov (.tmp 9))⟩, ⟨(some 63), none, .p (.bin .lss (.tmp 62) (.const (.int .i64 0)))⟩, ⟨(some 64), none, .p (.mov (.tmp 63))⟩, ⟨(some 65), (some (64, false)), .p (.mov (.tmp 9))⟩, ⟨(some 66), (some (64, false)), .p (.fad 0 (.tmp 1))⟩, ⟨(some 67), (some (64, false)), .p (.ld none (.tmp 66))⟩, ⟨(some 68), (some (64, false)), .p (.len 1 (.tmp 67))⟩, ⟨(some 69), (some (64, false)), .p (.bin .geq (.tmp 65) (.tmp 68))⟩, ⟨(some 70), none, .p (.pick (.tmp 64) (.const (.bool true)) (.tmp 69))⟩, ⟨(some 71), none, .p (.mov (.tmp 70))⟩, ⟨(some 72), (some (71, false)), .p (.fad 0 (.tmp 7))⟩, ⟨(some 73), (some (71, false)), .p (.ld none (.tmp 72))⟩, ⟨(some 74), (some (71, false)), .p (.mov (.tmp 8))⟩, ⟨(some 75), (some (71, false)), .p (.slc 1 (.tmp 73) none (some (.tmp 74)))⟩, ⟨(some 76), (some (71, false)), .p (.mov (.tmp 9))⟩, ⟨(some 77), (some (71, false)), .e (.call 27 [(.tmp 75), (.tmp 76)])⟩, ⟨(some 78), none, .p (.pick (.tmp 71) (.const (.bool true)) (.tmp 77))⟩])
  (.cond (.tmp 78) (.seq (.reg [⟨(some 2), none, .p (.mov (.const (.bool false)))⟩])
  .ret) .skip))))
  (.reg [⟨(some 79), none, .p (.bin .add (.tmp 57) (.const (.int .i64 1)))⟩, ⟨(some 57), none, .p (.mov (.tmp 79))⟩]))))
def lb10_1 : LC :=
  (.seq (.reg [⟨(some 47), none, .p (.bin .lss (.tmp 46) (.tmp 45))⟩])
  (.seq (.cond (.tmp 47) .skip (.exit 2))
  (.seq (.block 3
  (.seq (.reg [⟨(some 48), none, .p (.iad 4 (.tmp 44) (.tmp 46))⟩, ⟨(some 49), none, .p (.ld (some 4) (.tmp 48))⟩, ⟨(some 7), none, .e (.alc [(.slice none 0 0), (.bool false), (.int .i64 0), (.int .i64 0)])⟩, ⟨none, none, .e (.st 4 (.tmp 7) (.tmp 49))⟩])
  (.seq (.seq (.reg [⟨(some 50), none, .p (.fad 0 (.tmp 7))⟩, ⟨(some 51), none, .p (.ld none (.tmp 50))⟩, ⟨(some 52), none, .p (.len 1 (.tmp 51))⟩, ⟨(some 53), none, .p (.bin .eql (.tmp 52) (.const (.int .i64 0)))⟩])
  (.cond (.tmp 53) (.seq (.reg [⟨(some 2), none, .p (.mov (.const (.bool false)))⟩])
  .ret) .skip))
  (.seq (.seq (.reg [⟨(some 54), none, .p (.fad 0 (.tmp 7))⟩, ⟨(some 55), none, .p (.ld none (.tmp 54))⟩, ⟨(some 56), none, .p (.len 1 (.tmp 55))⟩, ⟨(some 57), none, .p (.mov (.const (.int .i64 0)))⟩])
  (.block 4
  (.loop lb10_0)))
  (.seq (.reg [⟨(some 80), none, .p (.fad 2 (.tmp 7))⟩, ⟨(some 81), none, .p (.ld (some 2) (.tmp 80))⟩, ⟨(some 82), none, .e (.call 24 [(.tmp 81)])⟩, ⟨(some 83), none, .p (.un .not (.tmp 82))⟩, ⟨(some 84), none, .p (.mov (.tmp 83))⟩, ⟨(some 85), (some (84, false)), .p (.fad 2 (.tmp 7))⟩, ⟨(some 86), (some (84, false)), .p (.fad 0 (.tmp 85))⟩, ⟨(some 87), (some (84, false)), .p (.ld none (.tmp 86))⟩, ⟨(some 88), (some (84, false)), .p (.bin .lss (.tmp 87) (.const (.int .i64 0)))⟩, ⟨(some 89), none, .p (.pick (.tmp 84) (.const (.bool true)) (.tmp 88))⟩, ⟨(some 90), none, .p (.mov (.tmp 89))⟩, ⟨(some 91), (some (90, false)), .p (.fad 1 (.tmp 7))⟩, ⟨(some 92), (some (90, false)), .p (.ld none (.tmp 91))⟩, ⟨(some 93), (some (90, false)), .p (.un .not (.tmp 92))⟩, ⟨(some 94), (some (90, false)), .p (.mov (.tmp 93))⟩, ⟨(some 95), (some (94, true)), .p (.fad 2 (.tmp 7))⟩, ⟨(some 96), (some (94, true)), .p (.fad 0 (.tmp 95))⟩, ⟨(some 97), (some (94, true)), .p (.ld none (.tmp 96))⟩, ⟨(some 98), (some (94, true)), .p (.bin .neq (.tmp 97) (.const (.int .i64 0)))⟩, ⟨(some 99), (some (90, false)), .p (.pick (.tmp 94) (.tmp 98) (.const (.bool false)))⟩, ⟨(some 100), none, .p (.pick (.tmp 90) (.const (.bool true)) (.tmp 99))⟩])
  (.cond (.tmp 100) (.seq (.reg [⟨(some 2), none, .p (.mov (.const (.bool false)))⟩])
  .ret) .skip))))))
  (.reg [⟨(some 101), none, .p (.bin .add (.tmp 46) (.const (.int .i64 1)))⟩, ⟨(some 46), none, .p (.mov (.tmp 101))⟩]))))
def lb10_2 : LC :=
  (.seq (.reg [⟨(some 25), none, .p (.bin .lss (.tmp 24) (.tmp 23))⟩])
  (.seq (.cond (.tmp 25) .skip (.exit 0))
  (.seq (.block 1
  (.seq (.reg [⟨(some 26), none, .p (.iad 2 (.tmp 22) (.tmp 24))⟩, ⟨(some 27), none, .p (.ld (some 2) (.tmp 26))⟩, ⟨(some 5), none, .e (.alc [(.int .i64 0), (.int .i64 0)])⟩, ⟨none, none, .e (.st 2 (.tmp 5) (.tmp 27))⟩])
  (.seq (.reg [⟨(some 28), none, .p (.ld (some 2) (.tmp 5))⟩, ⟨(some 29), none, .e (.call 24 [(.tmp 28)])⟩, ⟨(some 30), none, .p (.un .not (.tmp 29))⟩, ⟨(some 31), none, .p (.mov (.tmp 30))⟩, ⟨(some 32), (some (31, false)), .p (.fad 0 (.tmp 5))⟩, ⟨(some 33), (some (31, false)), .p (.ld none (.tmp 32))⟩, ⟨(some 34), (some (31, false)), .p (.bin .lss (.tmp 33) (.const (.int .i64 0)))⟩, ⟨(some 35), none, .p (.pick (.tmp 31) (.const (.bool true)) (.tmp 34))⟩, ⟨(some 36), none, .p (.mov (.tmp 35))⟩, ⟨(some 37), (some (36, false)), .p (.ld (some 2) (.tmp 5))⟩, ⟨(some 38), (some (36, false)), .p (.ld (some 2) (.tmp 3))⟩, ⟨(some 39), (some (36, false)), .e (.call 15 [(.tmp 37), (.tmp 38)])⟩, ⟨(some 40), (some (36, false)), .p (.bin .gtr (.tmp 39) (.const (.int .i64 0)))⟩, ⟨(some 41), none, .p (.pick (.tmp 36) (.const (.bool true)) (.tmp 40))⟩])
  (.cond (.tmp 41) (.seq (.reg [⟨(some 2), none, .p (.mov (.const (.bool false)))⟩])
  .ret) .skip))))
  (.reg [⟨(some 42), none, .p (.bin .add (.tmp 24) (.const (.int .i64 1)))⟩, ⟨(some 24), none, .p (.mov (.tmp 42))⟩]))))
/-- fairlink demand.Valid -/
def cf10 : LC :=
  (.seq (.reg [⟨(some 1), none, .e (.box (.tmp 0))⟩, ⟨(some 2), none, .p (.mov (.const (.bool false)))⟩])
  (.seq (.seq (.reg [⟨(some 10), none, .p (.fad 0 (.tmp 1))⟩, ⟨(some 11), none, .p (.ld none (.tmp 10))⟩, ⟨(some 12), none, .p (.len 1 (.tmp 11))⟩, ⟨(some 13), none, .p (.bin .gtr (.tmp 12) (.const (.int .i64 32)))⟩, ⟨(some 14), none, .p (.mov (.tmp 13))⟩, ⟨(some 15), (some (14, false)), .p (.fad 1 (.tmp 1))⟩, ⟨(some 16), (some (14, false)), .p (.ld none (.tmp 15))⟩, ⟨(some 17), (some (14, false)), .p (.len 1 (.tmp 16))⟩, ⟨(some 18), (some (14, false)), .p (.bin .gtr (.tmp 17) (.const (.int .i64 32)))⟩, ⟨(some 19), none, .p (.pick (.tmp 14) (.const (.bool true)) (.tmp 18))⟩])
  (.cond (.tmp 19) (.seq (.reg [⟨(some 2), none, .p (.mov (.const (.bool false)))⟩])
  .ret) .skip))
  (.seq (.reg [⟨(some 20), none, .p (.bld [(.int .i64 0), (.int .i64 0)] [(0, 1, (.const (.int .i64 1000))), (1, 1, (.const (.int .i64 1)))])⟩, ⟨(some 3), none, .e (.alc [(.int .i64 0), (.int .i64 0)])⟩, ⟨none, none, .e (.st 2 (.tmp 3) (.tmp 20))⟩])
  (.seq (.seq (.reg [⟨(some 21), none, .p (.fad 0 (.tmp 1))⟩, ⟨(some 22), none, .p (.ld none (.tmp 21))⟩, ⟨(some 23), none, .p (.len 1 (.tmp 22))⟩, ⟨(some 24), none, .p (.mov (.const (.int .i64 0)))⟩])
  (.block 0
  (.loop lb10_2)))
  (.seq (.seq (.reg [⟨(some 43), none, .p (.fad 1 (.tmp 1))⟩, ⟨(some 44), none, .p (.ld none (.tmp 43))⟩, ⟨(some 45), none, .p (.len 1 (.tmp 44))⟩, ⟨(some 46), none, .p (.mov (.const (.int .i64 0)))⟩])
  (.block 2
  (.loop lb10_1)))
  (.seq (.reg [⟨(some 2), none, .p (.mov (.const (.bool true)))⟩])
  .ret))))))
def rf10 : List RX := [.tmp 2]
set_option maxRecDepth 100000 in
theorem comp10 : cFn Tryd.prog Tryd.f10 = some (erase cf10, rf10) := by kernel_rfl
def lb14_0 : LC :=
  (.seq (.reg [⟨(some 64), none, .p (.bin .lss (.tmp 63) (.tmp 62))⟩])
  (.seq (.cond (.tmp 64) .skip (.exit 6))
  (.seq (.block 7
  (.seq (.reg [⟨(some 65), none, .p (.iad 1 (.tmp 61) (.tmp 63))⟩, ⟨(some 66), none, .p (.ld none (.tmp 65))⟩, ⟨(some 14), none, .p (.mov (.tmp 66))⟩])
  (.seq (.reg [⟨(some 67), none, .p (.mov (.tmp 10))⟩, ⟨(some 68), none, .p (.mov (.tmp 14))⟩, ⟨(some 69), none, .p (.mov (.tmp 1))⟩, ⟨(some 70), none, .p (.mov (.tmp 11))⟩, ⟨(some 71), none, .p (.iad 2 (.tmp 69) (.tmp 70))⟩, ⟨(some 72), none, .p (.ld (some 2) (.tmp 71))⟩, ⟨(some 73), none, .e (.calv (.tmp 67) [(.tmp 68), (.tmp 72)])⟩, ⟨(some 15), none, .p (.mov (.tmp 73))⟩])
  (.seq (.reg [⟨(some 74), none, .p (.mov (.tmp 15))⟩, ⟨(some 75), none, .p (.bin .neq (.tmp 74) (.const (.int .i64 0)))⟩])
  (.cond (.tmp 75) (.seq (.reg [⟨(some 76), none, .p (.mov (.tmp 15))⟩, ⟨(some 4), none, .p (.mov (.const (.slice none 0 0)))⟩, ⟨(some 5), none, .p (.mov (.tmp 76))⟩])
  .ret) .skip)))))
  (.reg [⟨(some 77), none, .p (.bin .add (.tmp 63) (.const (.int .i64 1)))⟩, ⟨(some 63), none, .p (.mov (.tmp 77))⟩]))))
def lb14_1 : LC :=
  (.seq (.reg [⟨(some 56), none, .p (.bin .lss (.tmp 55) (.tmp 54))⟩])
  (.seq (.cond (.tmp 56) .skip (.exit 4))
  (.seq (.block 5
  (.seq (.reg [⟨(some 57), none, .p (.mov (.tmp 55))⟩, ⟨(some 58), none, .p (.iad 4 (.tmp 53) (.tmp 55))⟩, ⟨(some 59), none, .p (.ld (some 4) (.tmp 58))⟩, ⟨(some 12), none, .e (.alc [(.slice none 0 0), (.bool false), (.int .i64 0), (.int .i64 0)])⟩, ⟨(some 11), none, .p (.mov (.tmp 57))⟩, ⟨none, none, .e (.st 4 (.tmp 12) (.tmp 59))⟩])
  (.seq (.reg [⟨(some 60), none, .p (.fad 0 (.tmp 12))⟩, ⟨(some 61), none, .p (.ld none (.tmp 60))⟩, ⟨(some 62), none, .p (.len 1 (.tmp 61))⟩, ⟨(some 63), none, .p (.mov (.const (.int .i64 0)))⟩])
  (.block 6
  (.loop lb14_0)))))
  (.reg [⟨(some 78), none, .p (.bin .add (.tmp 55) (.const (.int .i64 1)))⟩, ⟨(some 55), none, .p (.mov (.tmp 78))⟩]))))
def lb14_2 : LC :=
  (.seq (.reg [⟨(some 44), none, .p (.bin .lss (.tmp 43) (.tmp 42))⟩])
  (.seq (.cond (.tmp 44) .skip (.exit 2))
  (.seq (.block 3
  (.seq (.reg [⟨(some 45), none, .p (.mov (.tmp 43))⟩, ⟨(some 9), none, .p (.mov (.tmp 45))⟩])
  (.reg [⟨(some 46), none, .p (.ld none (.tmp 8))⟩, ⟨(some 47), none, .p (.mov (.tmp 9))⟩, ⟨(some 48), none, .p (.bld [(.int .i64 0), (.int .i64 0)] [(0, 1, (.const (.int .i64 0))), (1, 1, (.const (.int .i64 1)))])⟩, ⟨(some 49), none, .p (.iad 2 (.tmp 46) (.tmp 47))⟩, ⟨none, none, .e (.st 2 (.tmp 49) (.tmp 48))⟩])))
  (.reg [⟨(some 50), none, .p (.bin .add (.tmp 43) (.const (.int .i64 1)))⟩, ⟨(some 43), none, .p (.mov (.tmp 50))⟩]))))
def lb14_3 : LC :=
  (.seq (.reg [⟨(some 30), none, .p (.bin .lss (.tmp 29) (.tmp 28))⟩])
  (.seq (.cond (.tmp 30) .skip (.exit 0))
  (.seq (.block 1
  (.seq (.reg [⟨(some 31), none, .p (.iad 2 (.tmp 27) (.tmp 29))⟩, ⟨(some 32), none, .p (.ld (some 2) (.tmp 31))⟩, ⟨(some 7), none, .e (.alc [(.int .i64 0), (.int .i64 0)])⟩, ⟨none, none, .e (.st 2 (.tmp 7) (.tmp 32))⟩])
  (.seq (.reg [⟨(some 33), none, .p (.ld (some 2) (.tmp 7))⟩, ⟨(some 34), none, .e (.call 24 [(.tmp 33)])⟩, ⟨(some 35), none, .p (.un .not (.tmp 34))⟩])
  (.cond (.tmp 35) (.seq (.reg [⟨(some 4), none, .p (.mov (.const (.slice none 0 0)))⟩, ⟨(some 5), none, .p (.mov (.const (.int .i64 1)))⟩])
  .ret) .skip))))
  (.reg [⟨(some 36), none, .p (.bin .add (.tmp 29) (.const (.int .i64 1)))⟩, ⟨(some 29), none, .p (.mov (.tmp 36))⟩]))))
/-- fairlink demand.Load -/
def cf14 : LC :=
  (.seq (.reg [⟨(some 2), none, .e (.box (.tmp 0))⟩, ⟨(some 4), none, .p (.mov (.const (.slice none 0 0)))⟩, ⟨(some 5), none, .p (.mov (.const (.int .i64 0)))⟩])
  (.seq (.seq (.reg [⟨(some 16), none, .p (.ld (some 2) (.tmp 2))⟩, ⟨(some 17), none, .e (.call 10 [(.tmp 16)])⟩, ⟨(some 18), none, .p (.un .not (.tmp 17))⟩, ⟨(some 19), none, .p (.mov (.tmp 18))⟩, ⟨(some 20), (some (19, false)), .p (.mov (.tmp 1))⟩, ⟨(some 21), (some (19, false)), .p (.len 1 (.tmp 20))⟩, ⟨(some 22), (some (19, false)), .p (.fad 1 (.tmp 2))⟩, ⟨(some 23), (some (19, false)), .p (.ld none (.tmp 22))⟩, ⟨(some 24), (some (19, false)), .p (.len 1 (.tmp 23))⟩, ⟨(some 25), (some (19, false)), .p (.bin .neq (.tmp 21) (.tmp 24))⟩, ⟨(some 26), none, .p (.pick (.tmp 19) (.const (.bool true)) (.tmp 25))⟩])
  (.cond (.tmp 26) (.seq (.reg [⟨(some 4), none, .p (.mov (.const (.slice none 0 0)))⟩, ⟨(some 5), none, .p (.mov (.const (.int .i64 1)))⟩])
  .ret) .skip))
  (.seq (.seq (.reg [⟨(some 27), none, .p (.mov (.tmp 1))⟩, ⟨(some 28), none, .p (.len 1 (.tmp 27))⟩, ⟨(some 29), none, .p (.mov (.const (.int .i64 0)))⟩])
  (.block 0
  (.loop lb14_3)))
  (.seq (.reg [⟨(some 37), none, .p (.fad 0 (.tmp 2))⟩, ⟨(some 38), none, .p (.ld none (.tmp 37))⟩, ⟨(some 39), none, .p (.len 1 (.tmp 38))⟩, ⟨(some 40), none, .e (.mks 0 2 [(.int .i64 0), (.int .i64 0)] 16 (.tmp 39) (.tmp 39))⟩, ⟨(some 8), none, .e (.alc [(.slice none 0 0)])⟩, ⟨none, none, .e (.st 1 (.tmp 8) (.tmp 40))⟩])
  (.seq (.seq (.reg [⟨(some 41), none, .p (.ld none (.tmp 8))⟩, ⟨(some 42), none, .p (.len 1 (.tmp 41))⟩, ⟨(some 43), none, .p (.mov (.const (.int .i64 0)))⟩])
  (.block 2
  (.loop lb14_2)))
  (.seq (.reg [⟨(some 51), none, .p (.mkf 38 [(.tmp 8)])⟩, ⟨(some 10), none, .p (.mov (.tmp 51))⟩])
  (.seq (.seq (.reg [⟨(some 52), none, .p (.fad 1 (.tmp 2))⟩, ⟨(some 53), none, .p (.ld none (.tmp 52))⟩, ⟨(some 54), none, .p (.len 1 (.tmp 53))⟩, ⟨(some 55), none, .p (.mov (.const (.int .i64 0)))⟩])
  (.block 4
  (.loop lb14_1)))
  (.seq (.reg [⟨(some 79), none, .p (.ld none (.tmp 8))⟩, ⟨(some 4), none, .p (.mov (.tmp 79))⟩, ⟨(some 5), none, .p (.mov (.const (.int .i64 0)))⟩])
  .ret))))))))
def rf14 : List RX := [.tmp 4, .tmp 5]
set_option maxRecDepth 100000 in
theorem comp14 : cFn Tryd.prog Tryd.f14 = some (erase cf14, rf14) := by kernel_rfl
def lb16_0 : LC :=
  (.seq (.reg [⟨(some 51), none, .p (.bin .lss (.tmp 50) (.tmp 49))⟩])
  (.seq (.cond (.tmp 51) .skip (.exit 2))
  (.seq (.block 3
  (.seq (.reg [⟨(some 52), none, .p (.mov (.tmp 50))⟩, ⟨(some 53), none, .p (.iad 2 (.tmp 48) (.tmp 50))⟩, ⟨(some 54), none, .p (.ld (some 2) (.tmp 53))⟩, ⟨(some 10), none, .e (.alc [(.int .i64 0), (.int .i64 0)])⟩, ⟨(some 9), none, .p (.mov (.tmp 52))⟩, ⟨none, none, .e (.st 2 (.tmp 10) (.tmp 54))⟩])
  (.seq (.dreg [⟨(some 55), none, .p (.ld (some 2) (.tmp 10))⟩, ⟨(some 56), none, .p (.fad 0 (.tmp 2))⟩, ⟨(some 57), none, .p (.ld none (.tmp 56))⟩, ⟨(some 58), none, .p (.mov (.tmp 9))⟩, ⟨(some 59), none, .p (.iad 2 (.tmp 57) (.tmp 58))⟩, ⟨(some 60), none, .p (.ld (some 2) (.tmp 59))⟩, ⟨(some 61), none, .e (.call 15 [(.tmp 55), (.tmp 60)])⟩] [[⟨(some 62), none, .p (.bin .gtr (.tmp 61) (.const (.int .i64 0)))⟩]])
  (.cond (.tmp 62) (.seq (.reg [⟨(some 4), none, .p (.mov (.const (.bool false)))⟩])
  .ret) .skip))))
  (.reg [⟨(some 63), none, .p (.bin .add (.tmp 50) (.const (.int .i64 1)))⟩, ⟨(some 50), none, .p (.mov (.tmp 63))⟩]))))
def lb16_1 : LC :=
  (.seq (.reg [⟨(some 23), none, .p (.bin .lss (.tmp 22) (.tmp 21))⟩])
  (.seq (.cond (.tmp 23) .skip (.exit 0))
  (.seq (.block 1
  (.seq (.reg [⟨(some 24), none, .p (.mov (.tmp 22))⟩, ⟨(some 25), none, .p (.iad 4 (.tmp 20) (.tmp 22))⟩, ⟨(some 26), none, .p (.ld (some 4) (.tmp 25))⟩, ⟨(some 8), none, .e (.alc [(.slice none 0 0), (.bool false), (.int .i64 0), (.int .i64 0)])⟩, ⟨(some 7), none, .p (.mov (.tmp 24))⟩, ⟨none, none, .e (.st 4 (.tmp 8) (.tmp 26))⟩])
  (.seq (.dreg [⟨(some 27), none, .p (.mov (.tmp 1))⟩, ⟨(some 28), none, .p (.mov (.tmp 7))⟩, ⟨(some 29), none, .p (.iad 2 (.tmp 27) (.tmp 28))⟩, ⟨(some 30), none, .p (.fad 0 (.tmp 29))⟩, ⟨(some 31), none, .p (.ld none (.tmp 30))⟩, ⟨(some 32), none, .p (.bin .lss (.tmp 31) (.const (.int .i64 0)))⟩, ⟨(some 33), none, .p (.mov (.tmp 32))⟩, ⟨(some 34), (some (33, false)), .p (.fad 1 (.tmp 8))⟩, ⟨(some 35), (some (33, false)), .p (.ld none (.tmp 34))⟩, ⟨(some 36), (some (33, false)), .p (.mov (.tmp 35))⟩, ⟨(some 37), (some (36, true)), .p (.mov (.tmp 1))⟩, ⟨(some 38), (some (36, true)), .p (.mov (.tmp 7))⟩, ⟨(some 39), (some (36, true)), .p (.iad 2 (.tmp 37) (.tmp 38))⟩, ⟨(some 40), (some (36, true)), .p (.ld (some 2) (.tmp 39))⟩, ⟨(some 41), (some (36, true)), .p (.fad 2 (.tmp 8))⟩, ⟨(some 42), (some (36, true)), .p (.ld (some 2) (.tmp 41))⟩, ⟨(some 43), (some (36, true)), .e (.call 15 [(.tmp 40), (.tmp 42)])⟩, ⟨(some 44), (some (36, true)), .p (.bin .gtr (.tmp 43) (.const (.int .i64 0)))⟩, ⟨(some 45), (some (33, false)), .p (.pick (.tmp 36) (.tmp 44) (.const (.bool false)))⟩] [[⟨(some 46), none, .p (.pick (.tmp 33) (.const (.bool true)) (.tmp 45))⟩]])
  (.cond (.tmp 46) (.seq (.reg [⟨(some 4), none, .p (.mov (.const (.bool false)))⟩])
  .ret) .skip))))
  (.reg [⟨(some 47), none, .p (.bin .add (.tmp 22) (.const (.int .i64 1)))⟩, ⟨(some 22), none, .p (.mov (.tmp 47))⟩]))))
/-- fairlink demand.Feasible -/
def cf16 : LC :=
  (.seq (.reg [⟨(some 2), none, .e (.box (.tmp 0))⟩, ⟨(some 4), none, .p (.mov (.const (.bool false)))⟩])
  (.seq (.reg [⟨(some 12), none, .p (.ld (some 2) (.tmp 2))⟩, ⟨(some 13), none, .p (.mov (.tmp 1))⟩, ⟨(some 14), none, .e (.call 14 [(.tmp 12), (.tmp 13)])⟩, ⟨(some 11), none, .p (.mov (.tmp 14))⟩, ⟨(some 15), none, .p (.ext (.tmp 11) 0)⟩, ⟨(some 16), none, .p (.ext (.tmp 11) 1)⟩, ⟨(some 5), none, .p (.mov (.tmp 15))⟩, ⟨(some 6), none, .p (.mov (.tmp 16))⟩])
  (.seq (.seq (.reg [⟨(some 17), none, .p (.mov (.tmp 6))⟩, ⟨(some 18), none, .p (.bin .neq (.tmp 17) (.const (.int .i64 0)))⟩])
  (.cond (.tmp 18) (.seq (.reg [⟨(some 4), none, .p (.mov (.const (.bool false)))⟩])
  .ret) .skip))
  (.seq (.seq (.reg [⟨(some 19), none, .p (.fad 1 (.tmp 2))⟩, ⟨(some 20), none, .p (.ld none (.tmp 19))⟩, ⟨(some 21), none, .p (.len 1 (.tmp 20))⟩, ⟨(some 22), none, .p (.mov (.const (.int .i64 0)))⟩])
  (.block 0
  (.loop lb16_1)))
  (.seq (.seq (.reg [⟨(some 48), none, .p (.mov (.tmp 5))⟩, ⟨(some 49), none, .p (.len 1 (.tmp 48))⟩, ⟨(some 50), none, .p (.mov (.const (.int .i64 0)))⟩])
  (.block 2
  (.loop lb16_0)))
  (.seq (.reg [⟨(some 4), none, .p (.mov (.const (.bool true)))⟩])
  .ret))))))
def rf16 : List RX := [.tmp 4]
set_option maxRecDepth 100000 in
theorem comp16 : cFn Tryd.prog Tryd.f16 = some (erase cf16, rf16) := by kernel_rfl
/-- fairlink demand.Full -/
def cf17 : LC :=
  (.seq (.reg [⟨(some 3), none, .e (.box (.tmp 0))⟩, ⟨(some 6), none, .p (.mov (.const (.bool false)))⟩])
  (.seq (.reg [⟨(some 10), none, .p (.ld (some 2) (.tmp 3))⟩, ⟨(some 11), none, .p (.mov (.tmp 1))⟩, ⟨(some 12), none, .e (.call 14 [(.tmp 10), (.tmp 11)])⟩, ⟨(some 9), none, .p (.mov (.tmp 12))⟩, ⟨(some 13), none, .p (.ext (.tmp 9) 0)⟩, ⟨(some 14), none, .p (.ext (.tmp 9) 1)⟩, ⟨(some 7), none, .p (.mov (.tmp 13))⟩, ⟨(some 8), none, .p (.mov (.tmp 14))⟩])
  (.seq (.dreg [⟨(some 15), none, .p (.mov (.tmp 8))⟩, ⟨(some 16), none, .p (.bin .eql (.tmp 15) (.const (.int .i64 0)))⟩, ⟨(some 17), none, .p (.mov (.tmp 16))⟩, ⟨(some 18), (some (17, true)), .p (.mov (.tmp 2))⟩, ⟨(some 19), (some (17, true)), .p (.bin .geq (.tmp 18) (.const (.int .i64 0)))⟩, ⟨(some 20), none, .p (.pick (.tmp 17) (.tmp 19) (.const (.bool false)))⟩, ⟨(some 21), none, .p (.mov (.tmp 20))⟩, ⟨(some 22), (some (21, true)), .p (.mov (.tmp 2))⟩, ⟨(some 23), (some (21, true)), .p (.mov (.tmp 7))⟩, ⟨(some 24), (some (21, true)), .p (.len 1 (.tmp 23))⟩, ⟨(some 25), (some (21, true)), .p (.bin .lss (.tmp 22) (.tmp 24))⟩, ⟨(some 26), none, .p (.pick (.tmp 21) (.tmp 25) (.const (.bool false)))⟩, ⟨(some 27), none, .p (.mov (.tmp 26))⟩, ⟨(some 28), (some (27, true)), .p (.mov (.tmp 7))⟩, ⟨(some 29), (some (27, true)), .p (.mov (.tmp 2))⟩, ⟨(some 30), (some (27, true)), .p (.iad 2 (.tmp 28) (.tmp 29))⟩, ⟨(some 31), (some (27, true)), .p (.ld (some 2) (.tmp 30))⟩, ⟨(some 32), (some (27, true)), .p (.fad 0 (.tmp 3))⟩, ⟨(some 33), (some (27, true)), .p (.ld none (.tmp 32))⟩, ⟨(some 34), (some (27, true)), .p (.mov (.tmp 2))⟩, ⟨(some 35), (some (27, true)), .p (.iad 2 (.tmp 33) (.tmp 34))⟩, ⟨(some 36), (some (27, true)), .p (.ld (some 2) (.tmp 35))⟩, ⟨(some 37), (some (27, true)), .e (.call 15 [(.tmp 31), (.tmp 36)])⟩, ⟨(some 38), (some (27, true)), .p (.bin .eql (.tmp 37) (.const (.int .i64 0)))⟩, ⟨(some 39), none, .p (.pick (.tmp 27) (.tmp 38) (.const (.bool false)))⟩] [[⟨(some 6), none, .p (.mov (.tmp 39))⟩]])
  .ret)))
def rf17 : List RX := [.tmp 6]
set_option maxRecDepth 100000 in
theorem comp17 : cFn Tryd.prog Tryd.f17 = some (erase cf17, rf17) := by kernel_rfl
def lb25_0 : LC :=
  (.seq (.reg [⟨(some 39), none, .p (.bin .lss (.tmp 38) (.tmp 37))⟩])
  (.seq (.cond (.tmp 39) .skip (.exit 4))
  (.seq (.block 5
  (.seq (.reg [⟨(some 40), none, .p (.iad 1 (.tmp 36) (.tmp 38))⟩, ⟨(some 41), none, .p (.ld none (.tmp 40))⟩, ⟨(some 10), none, .p (.mov (.tmp 41))⟩])
  (.reg [⟨(some 42), none, .p (.mov (.tmp 10))⟩, ⟨(some 43), none, .e (.call 46 [(.tmp 42)])⟩, ⟨(some 44), none, .p (.bin .add (.const (.string ⟨#[32]⟩)) (.tmp 43))⟩, ⟨(some 45), none, .e (.call 44 [(.tmp 4), (.tmp 44)])⟩])))
  (.reg [⟨(some 46), none, .p (.bin .add (.tmp 38) (.const (.int .i64 1)))⟩, ⟨(some 38), none, .p (.mov (.tmp 46))⟩]))))
def lb25_1 : LC :=
  (.seq (.reg [⟨(some 31), none, .p (.bin .lss (.tmp 30) (.tmp 29))⟩])
  (.seq (.cond (.tmp 31) .skip (.exit 2))
  (.seq (.block 3
  (.seq (.reg [⟨(some 32), none, .p (.iad 4 (.tmp 28) (.tmp 30))⟩, ⟨(some 33), none, .p (.ld (some 4) (.tmp 32))⟩, ⟨(some 8), none, .e (.alc [(.slice none 0 0), (.bool false), (.int .i64 0), (.int .i64 0)])⟩, ⟨none, none, .e (.st 4 (.tmp 8) (.tmp 33))⟩])
  (.seq (.reg [⟨(some 34), none, .e (.call 44 [(.tmp 4), (.const (.string ⟨#[102, 108, 111, 119]⟩))])⟩])
  (.seq (.seq (.reg [⟨(some 35), none, .p (.fad 0 (.tmp 8))⟩, ⟨(some 36), none, .p (.ld none (.tmp 35))⟩, ⟨(some 37), none, .p (.len 1 (.tmp 36))⟩, ⟨(some 38), none, .p (.mov (.const (.int .i64 0)))⟩])
  (.block 4
  (.loop lb25_0)))
  (.seq (.seq (.reg [⟨(some 47), none, .p (.fad 1 (.tmp 8))⟩, ⟨(some 48), none, .p (.ld none (.tmp 47))⟩])
  (.cond (.tmp 48) (.reg [⟨(some 49), none, .p (.fad 2 (.tmp 8))⟩, ⟨(some 50), none, .p (.ld (some 2) (.tmp 49))⟩, ⟨(some 51), none, .e (.call 45 [(.tmp 50)])⟩, ⟨(some 52), none, .p (.bin .add (.const (.string ⟨#[32, 109, 97, 120, 32]⟩)) (.tmp 51))⟩, ⟨(some 53), none, .e (.call 44 [(.tmp 4), (.tmp 52)])⟩]) .skip))
  (.reg [⟨(some 54), none, .e (.call 44 [(.tmp 4), (.const (.string ⟨#[10]⟩))])⟩]))))))
  (.reg [⟨(some 55), none, .p (.bin .add (.tmp 30) (.const (.int .i64 1)))⟩, ⟨(some 30), none, .p (.mov (.tmp 55))⟩]))))
def lb25_2 : LC :=
  (.seq (.reg [⟨(some 18), none, .p (.bin .lss (.tmp 17) (.tmp 16))⟩])
  (.seq (.cond (.tmp 18) .skip (.exit 0))
  (.seq (.block 1
  (.seq (.reg [⟨(some 19), none, .p (.iad 2 (.tmp 15) (.tmp 17))⟩, ⟨(some 20), none, .p (.ld (some 2) (.tmp 19))⟩, ⟨(some 6), none, .e (.alc [(.int .i64 0), (.int .i64 0)])⟩, ⟨none, none, .e (.st 2 (.tmp 6) (.tmp 20))⟩])
  (.reg [⟨(some 21), none, .p (.ld (some 2) (.tmp 6))⟩, ⟨(some 22), none, .e (.call 45 [(.tmp 21)])⟩, ⟨(some 23), none, .p (.bin .add (.const (.string ⟨#[108, 105, 110, 107, 32]⟩)) (.tmp 22))⟩, ⟨(some 24), none, .p (.bin .add (.tmp 23) (.const (.string ⟨#[10]⟩)))⟩, ⟨(some 25), none, .e (.call 44 [(.tmp 4), (.tmp 24)])⟩])))
  (.reg [⟨(some 26), none, .p (.bin .add (.tmp 17) (.const (.int .i64 1)))⟩, ⟨(some 17), none, .p (.mov (.tmp 26))⟩]))))
/-- fairlink demand.Format -/
def cf25 : LC :=
  (.seq (.reg [⟨(some 1), none, .e (.box (.tmp 0))⟩, ⟨(some 2), none, .p (.mov (.const (.string ⟨#[]⟩)))⟩, ⟨(some 3), none, .p (.mov (.const (.int .i64 0)))⟩])
  (.seq (.seq (.reg [⟨(some 11), none, .p (.ld (some 2) (.tmp 1))⟩, ⟨(some 12), none, .e (.call 10 [(.tmp 11)])⟩, ⟨(some 13), none, .p (.un .not (.tmp 12))⟩])
  (.cond (.tmp 13) (.seq (.reg [⟨(some 2), none, .p (.mov (.const (.string ⟨#[]⟩)))⟩, ⟨(some 3), none, .p (.mov (.const (.int .i64 1)))⟩])
  .ret) .skip))
  (.seq (.reg [⟨(some 4), none, .e (.alct 88 [(.pointer none), (.slice none 0 0)])⟩])
  (.seq (.seq (.reg [⟨(some 14), none, .p (.fad 0 (.tmp 1))⟩, ⟨(some 15), none, .p (.ld none (.tmp 14))⟩, ⟨(some 16), none, .p (.len 1 (.tmp 15))⟩, ⟨(some 17), none, .p (.mov (.const (.int .i64 0)))⟩])
  (.block 0
  (.loop lb25_2)))
  (.seq (.seq (.reg [⟨(some 27), none, .p (.fad 1 (.tmp 1))⟩, ⟨(some 28), none, .p (.ld none (.tmp 27))⟩, ⟨(some 29), none, .p (.len 1 (.tmp 28))⟩, ⟨(some 30), none, .p (.mov (.const (.int .i64 0)))⟩])
  (.block 2
  (.loop lb25_1)))
  (.seq (.reg [⟨(some 56), none, .e (.call 47 [(.tmp 4)])⟩, ⟨(some 2), none, .p (.mov (.tmp 56))⟩, ⟨(some 3), none, .p (.mov (.const (.int .i64 0)))⟩])
  .ret))))))
def rf25 : List RX := [.tmp 2, .tmp 3]
set_option maxRecDepth 100000 in
theorem comp25 : cFn Tryd.prog Tryd.f25 = some (erase cf25, rf25) := by kernel_rfl
/-- fairlink demand.Load 1 -/
def cf38 : LC :=
  (.seq (.reg [⟨(some 4), none, .e (.box (.tmp 1))⟩, ⟨(some 5), none, .p (.mov (.const (.int .i64 0)))⟩])
  (.seq (.dreg [⟨(some 9), none, .p (.ld none (.tmp 2))⟩, ⟨(some 10), none, .p (.mov (.tmp 0))⟩, ⟨(some 11), none, .p (.iad 2 (.tmp 9) (.tmp 10))⟩, ⟨(some 12), none, .p (.ld (some 2) (.tmp 11))⟩, ⟨(some 13), none, .p (.ld (some 2) (.tmp 4))⟩, ⟨(some 14), none, .e (.ecl 13 [(.tmp 12), (.tmp 13)])⟩, ⟨(some 8), none, .p (.mov (.tmp 14))⟩, ⟨(some 15), none, .p (.ext (.tmp 8) 0)⟩, ⟨(some 16), none, .p (.ext (.tmp 8) 1)⟩] [[⟨(some 6), none, .e (.alc [(.int .i64 0), (.int .i64 0)])⟩, ⟨none, none, .e (.st 2 (.tmp 6) (.tmp 15))⟩, ⟨(some 7), none, .p (.mov (.tmp 16))⟩]])
  (.seq (.reg [⟨(some 17), none, .p (.ld none (.tmp 2))⟩, ⟨(some 18), none, .p (.mov (.tmp 0))⟩, ⟨(some 19), none, .p (.ld (some 2) (.tmp 6))⟩, ⟨(some 20), none, .p (.iad 2 (.tmp 17) (.tmp 18))⟩, ⟨none, none, .e (.st 2 (.tmp 20) (.tmp 19))⟩])
  (.seq (.reg [⟨(some 21), none, .p (.mov (.tmp 7))⟩, ⟨(some 5), none, .p (.mov (.tmp 21))⟩])
  .ret))))
def rf38 : List RX := [.tmp 5]
set_option maxRecDepth 100000 in
theorem comp38 : cFn Tryd.prog Tryd.f38 = some (erase cf38, rf38) := by kernel_rfl
end Go.Proofs.YtdfiicpikcdokaaDoor
namespace Go.Proofs.YtdfiicpikcdokaaDoor
def lb3_0 : LC :=
  (.seq (.reg [⟨(some 37), none, .p (.bin .lss (.tmp 36) (.tmp 35))⟩])
  (.seq (.cond (.tmp 37) .skip (.exit 2))
  (.seq (.block 3
  (.seq (.reg [⟨(some 38), none, .p (.iad 2 (.tmp 34) (.tmp 36))⟩, ⟨(some 39), none, .p (.ld (some 2) (.tmp 38))⟩, ⟨(some 6), none, .e (.alc [(.int .i64 0), (.int .i64 0)])⟩, ⟨none, none, .e (.st 2 (.tmp 6) (.tmp 39))⟩])
  (.seq (.reg [⟨(some 40), none, .p (.fad 0 (.tmp 6))⟩, ⟨(some 41), none, .p (.ld none (.tmp 40))⟩, ⟨(some 42), none, .p (.bin .eql (.tmp 41) (.const (.int .i64 (-9223372036854775808))))⟩, ⟨(some 43), none, .p (.mov (.tmp 42))⟩, ⟨(some 44), (some (43, false)), .p (.fad 1 (.tmp 6))⟩, ⟨(some 45), (some (43, false)), .p (.ld none (.tmp 44))⟩, ⟨(some 46), (some (43, false)), .p (.bin .eql (.tmp 45) (.const (.int .i64 (-9223372036854775808))))⟩, ⟨(some 47), none, .p (.pick (.tmp 43) (.const (.bool true)) (.tmp 46))⟩])
  (.cond (.tmp 47) (.seq (.reg [⟨(some 2), none, .p (.mov (.const (.bool true)))⟩])
  .ret) .skip))))
  (.reg [⟨(some 48), none, .p (.bin .add (.tmp 36) (.const (.int .i64 1)))⟩, ⟨(some 36), none, .p (.mov (.tmp 48))⟩]))))
def lb3_1 : LC :=
  (.seq (.reg [⟨(some 19), none, .p (.bin .lss (.tmp 18) (.tmp 17))⟩])
  (.seq (.cond (.tmp 19) .skip (.exit 0))
  (.seq (.block 1
  (.seq (.reg [⟨(some 20), none, .p (.iad 4 (.tmp 16) (.tmp 18))⟩, ⟨(some 21), none, .p (.ld (some 4) (.tmp 20))⟩, ⟨(some 4), none, .e (.alc [(.slice none 0 0), (.bool false), (.int .i64 0), (.int .i64 0)])⟩, ⟨none, none, .e (.st 4 (.tmp 4) (.tmp 21))⟩])
  (.seq (.reg [⟨(some 22), none, .p (.fad 2 (.tmp 4))⟩, ⟨(some 23), none, .p (.fad 0 (.tmp 22))⟩, ⟨(some 24), none, .p (.ld none (.tmp 23))⟩, ⟨(some 25), none, .p (.bin .eql (.tmp 24) (.const (.int .i64 (-9223372036854775808))))⟩, ⟨(some 26), none, .p (.mov (.tmp 25))⟩, ⟨(some 27), (some (26, false)), .p (.fad 2 (.tmp 4))⟩, ⟨(some 28), (some (26, false)), .p (.fad 1 (.tmp 27))⟩, ⟨(some 29), (some (26, false)), .p (.ld none (.tmp 28))⟩, ⟨(some 30), (some (26, false)), .p (.bin .eql (.tmp 29) (.const (.int .i64 (-9223372036854775808))))⟩, ⟨(some 31), none, .p (.pick (.tmp 26) (.const (.bool true)) (.tmp 30))⟩])
  (.cond (.tmp 31) (.seq (.reg [⟨(some 2), none, .p (.mov (.const (.bool true)))⟩])
  .ret) .skip))))
  (.reg [⟨(some 32), none, .p (.bin .add (.tmp 18) (.const (.int .i64 1)))⟩, ⟨(some 18), none, .p (.mov (.tmp 32))⟩]))))
/-- fairlink fairlinklaw33.DemandValid -/
def cf3 : LC :=
  (.seq (.reg [⟨(some 1), none, .e (.box (.tmp 0))⟩, ⟨(some 2), none, .p (.mov (.const (.bool false)))⟩])
  (.seq (.seq (.reg [⟨(some 7), none, .e (.call 8 [])⟩, ⟨(some 8), none, .p (.un .not (.tmp 7))⟩, ⟨(some 9), none, .p (.mov (.tmp 8))⟩, ⟨(some 10), (some (9, false)), .p (.ld (some 2) (.tmp 1))⟩, ⟨(some 11), (some (9, false)), .e (.call 9 [(.tmp 10)])⟩, ⟨(some 12), (some (9, false)), .p (.un .not (.tmp 11))⟩, ⟨(some 13), none, .p (.pick (.tmp 9) (.const (.bool true)) (.tmp 12))⟩])
  (.cond (.tmp 13) (.seq (.reg [⟨(some 14), none, .e (.call 8 [])⟩, ⟨(some 2), none, .p (.mov (.tmp 14))⟩])
  .ret) .skip))
  (.seq (.seq (.reg [⟨(some 15), none, .p (.fad 1 (.tmp 1))⟩, ⟨(some 16), none, .p (.ld none (.tmp 15))⟩, ⟨(some 17), none, .p (.len 1 (.tmp 16))⟩, ⟨(some 18), none, .p (.mov (.const (.int .i64 0)))⟩])
  (.block 0
  (.loop lb3_1)))
  (.seq (.seq (.reg [⟨(some 33), none, .p (.fad 0 (.tmp 1))⟩, ⟨(some 34), none, .p (.ld none (.tmp 33))⟩, ⟨(some 35), none, .p (.len 1 (.tmp 34))⟩, ⟨(some 36), none, .p (.mov (.const (.int .i64 0)))⟩])
  (.block 2
  (.loop lb3_0)))
  (.seq (.dreg [⟨(some 49), none, .p (.ld (some 2) (.tmp 1))⟩, ⟨(some 50), none, .e (.call 10 [(.tmp 49)])⟩, ⟨(some 51), none, .p (.ld (some 2) (.tmp 1))⟩, ⟨(some 52), none, .e (.call 12 [(.tmp 51)])⟩, ⟨(some 53), none, .e (.call 11 [(.tmp 52)])⟩, ⟨(some 54), none, .p (.binb false (.tmp 50) (.tmp 53))⟩] [[⟨(some 2), none, .p (.mov (.tmp 54))⟩]])
  .ret)))))
def rf3 : List RX := [.tmp 2]
set_option maxRecDepth 100000 in
theorem comp3 : cFn Tryd.prog Tryd.f3 = some (erase cf3, rf3) := by kernel_rfl
def lb4_0 : LC :=
  (.seq (.reg [⟨(some 121), none, .p (.bin .lss (.tmp 120) (.tmp 119))⟩])
  (.seq (.cond (.tmp 121) .skip (.exit 2))
  (.seq (.block 3
  (.seq (.reg [⟨(some 122), none, .p (.mov (.tmp 120))⟩, ⟨(some 17), none, .p (.mov (.tmp 122))⟩])
  (.seq (.dreg [⟨(some 124), none, .p (.mov (.tmp 11))⟩, ⟨(some 125), none, .p (.mov (.tmp 17))⟩, ⟨(some 126), none, .p (.iad 2 (.tmp 124) (.tmp 125))⟩, ⟨(some 127), none, .p (.ld (some 2) (.tmp 126))⟩, ⟨(some 128), none, .p (.mov (.tmp 13))⟩, ⟨(some 129), none, .p (.mov (.tmp 17))⟩, ⟨(some 130), none, .p (.iad 2 (.tmp 128) (.tmp 129))⟩, ⟨(some 131), none, .p (.ld (some 2) (.tmp 130))⟩, ⟨(some 132), none, .e (.ecl 13 [(.tmp 127), (.tmp 131)])⟩, ⟨(some 123), none, .p (.mov (.tmp 132))⟩, ⟨(some 133), none, .p (.ext (.tmp 123) 0)⟩, ⟨(some 134), none, .p (.ext (.tmp 123) 1)⟩] [[⟨(some 18), none, .e (.alc [(.int .i64 0), (.int .i64 0)])⟩, ⟨none, none, .e (.st 2 (.tmp 18) (.tmp 133))⟩, ⟨(some 19), none, .p (.mov (.tmp 134))⟩]])
  (.seq (.dreg [⟨(some 135), none, .p (.mov (.tmp 19))⟩, ⟨(some 136), none, .p (.bin .neq (.tmp 135) (.const (.int .i64 0)))⟩, ⟨(some 137), none, .p (.mov (.tmp 136))⟩, ⟨(some 138), (some (137, false)), .p (.ld (some 2) (.tmp 18))⟩, ⟨(some 139), (some (137, false)), .p (.mov (.tmp 15))⟩, ⟨(some 140), (some (137, false)), .p (.mov (.tmp 17))⟩, ⟨(some 141), (some (137, false)), .p (.iad 2 (.tmp 139) (.tmp 140))⟩, ⟨(some 142), (some (137, false)), .p (.ld (some 2) (.tmp 141))⟩, ⟨(some 143), (some (137, false)), .e (.call 15 [(.tmp 138), (.tmp 142)])⟩, ⟨(some 144), (some (137, false)), .p (.bin .neq (.tmp 143) (.const (.int .i64 0)))⟩] [[⟨(some 145), none, .p (.pick (.tmp 137) (.const (.bool true)) (.tmp 144))⟩]])
  (.cond (.tmp 145) (.seq (.reg [⟨(some 6), none, .p (.mov (.const (.bool false)))⟩])
  .ret) .skip)))))
  (.reg [⟨(some 146), none, .p (.bin .add (.tmp 120) (.const (.int .i64 1)))⟩, ⟨(some 120), none, .p (.mov (.tmp 146))⟩]))))
def lb4_1 : LC :=
  (.seq (.reg [⟨(some 47), none, .p (.bin .lss (.tmp 46) (.tmp 45))⟩])
  (.seq (.cond (.tmp 47) .skip (.exit 0))
  (.seq (.block 1
  (.seq (.reg [⟨(some 48), none, .p (.mov (.tmp 46))⟩, ⟨(some 8), none, .p (.mov (.tmp 48))⟩])
  (.seq (.dreg [⟨(some 50), none, .p (.mov (.tmp 1))⟩, ⟨(some 51), none, .p (.mov (.tmp 8))⟩, ⟨(some 52), none, .p (.iad 2 (.tmp 50) (.tmp 51))⟩, ⟨(some 53), none, .p (.ld (some 2) (.tmp 52))⟩, ⟨(some 54), none, .p (.mov (.tmp 2))⟩, ⟨(some 55), none, .p (.mov (.tmp 8))⟩, ⟨(some 56), none, .p (.iad 2 (.tmp 54) (.tmp 55))⟩, ⟨(some 57), none, .p (.ld (some 2) (.tmp 56))⟩, ⟨(some 58), none, .e (.ecl 13 [(.tmp 53), (.tmp 57)])⟩, ⟨(some 49), none, .p (.mov (.tmp 58))⟩, ⟨(some 59), none, .p (.ext (.tmp 49) 0)⟩, ⟨(some 60), none, .p (.ext (.tmp 49) 1)⟩] [[⟨(some 9), none, .e (.alc [(.int .i64 0), (.int .i64 0)])⟩, ⟨none, none, .e (.st 2 (.tmp 9) (.tmp 59))⟩, ⟨(some 10), none, .p (.mov (.tmp 60))⟩]])
  (.seq (.seq (.reg [⟨(some 61), none, .p (.mov (.tmp 10))⟩, ⟨(some 62), none, .p (.bin .neq (.tmp 61) (.const (.int .i64 0)))⟩])
  (.cond (.tmp 62) (.seq (.reg [⟨(some 6), none, .p (.mov (.const (.bool true)))⟩])
  .ret) .skip))
  (.reg [⟨(some 63), none, .p (.mov (.tmp 7))⟩, ⟨(some 64), none, .p (.ld (some 2) (.tmp 9))⟩, ⟨(some 65), none, .e (.bsl 0 1 2 [(.int .i64 0), (.int .i64 0)] [(0, 2, (.tmp 64))])⟩, ⟨(some 66), none, .e (.app 0 2 16 (.tmp 63) (.tmp 65))⟩, ⟨(some 7), none, .p (.mov (.tmp 66))⟩])))))
  (.reg [⟨(some 67), none, .p (.bin .add (.tmp 46) (.const (.int .i64 1)))⟩, ⟨(some 46), none, .p (.mov (.tmp 67))⟩]))))
/-- fairlink fairlinklaw33.DemandLinear -/
def cf4 : LC :=
  (.seq (.reg [⟨(some 3), none, .e (.box (.tmp 0))⟩, ⟨(some 6), none, .p (.mov (.const (.bool false)))⟩])
  (.seq (.seq (.reg [⟨(some 20), none, .e (.call 8 [])⟩, ⟨(some 21), none, .p (.un .not (.tmp 20))⟩, ⟨(some 22), none, .p (.mov (.tmp 21))⟩, ⟨(some 23), (some (22, false)), .p (.ld (some 2) (.tmp 3))⟩, ⟨(some 24), (some (22, false)), .e (.call 9 [(.tmp 23)])⟩, ⟨(some 25), (some (22, false)), .p (.un .not (.tmp 24))⟩, ⟨(some 26), none, .p (.pick (.tmp 22) (.const (.bool true)) (.tmp 25))⟩, ⟨(some 27), none, .p (.mov (.tmp 26))⟩, ⟨(some 28), (some (27, false)), .p (.mov (.tmp 1))⟩, ⟨(some 29), (some (27, false)), .p (.len 1 (.tmp 28))⟩, ⟨(some 30), (some (27, false)), .p (.fad 1 (.tmp 3))⟩, ⟨(some 31), (some (27, false)), .p (.ld none (.tmp 30))⟩, ⟨(some 32), (some (27, false)), .p (.len 1 (.tmp 31))⟩, ⟨(some 33), (some (27, false)), .p (.bin .neq (.tmp 29) (.tmp 32))⟩, ⟨(some 34), none, .p (.pick (.tmp 27) (.const (.bool true)) (.tmp 33))⟩, ⟨(some 35), none, .p (.mov (.tmp 34))⟩, ⟨(some 36), (some (35, false)), .p (.mov (.tmp 2))⟩, ⟨(some 37), (some (35, false)), .p (.len 1 (.tmp 36))⟩, ⟨(some 38), (some (35, false)), .p (.fad 1 (.tmp 3))⟩, ⟨(some 39), (some (35, false)), .p (.ld none (.tmp 38))⟩, ⟨(some 40), (some (35, false)), .p (.len 1 (.tmp 39))⟩, ⟨(some 41), (some (35, false)), .p (.bin .neq (.tmp 37) (.tmp 40))⟩, ⟨(some 42), none, .p (.pick (.tmp 35) (.const (.bool true)) (.tmp 41))⟩])
  (.cond (.tmp 42) (.seq (.reg [⟨(some 43), none, .e (.call 8 [])⟩, ⟨(some 6), none, .p (.mov (.tmp 43))⟩])
  .ret) .skip))
  (.seq (.reg [⟨(some 7), none, .p (.mov (.const (.slice none 0 0)))⟩])
  (.seq (.seq (.reg [⟨(some 44), none, .p (.mov (.tmp 1))⟩, ⟨(some 45), none, .p (.len 1 (.tmp 44))⟩, ⟨(some 46), none, .p (.mov (.const (.int .i64 0)))⟩])
  (.block 0
  (.loop lb4_1)))
  (.seq (.reg [⟨(some 69), none, .p (.ld (some 2) (.tmp 3))⟩, ⟨(some 70), none, .p (.mov (.tmp 1))⟩, ⟨(some 71), none, .e (.call 14 [(.tmp 69), (.tmp 70)])⟩, ⟨(some 68), none, .p (.mov (.tmp 71))⟩, ⟨(some 72), none, .p (.ext (.tmp 68) 0)⟩, ⟨(some 73), none, .p (.ext (.tmp 68) 1)⟩, ⟨(some 11), none, .p (.mov (.tmp 72))⟩, ⟨(some 12), none, .p (.mov (.tmp 73))⟩])
  (.seq (.reg [⟨(some 75), none, .p (.ld (some 2) (.tmp 3))⟩, ⟨(some 76), none, .p (.mov (.tmp 2))⟩, ⟨(some 77), none, .e (.call 14 [(.tmp 75), (.tmp 76)])⟩, ⟨(some 74), none, .p (.mov (.tmp 77))⟩, ⟨(some 78), none, .p (.ext (.tmp 74) 0)⟩, ⟨(some 79), none, .p (.ext (.tmp 74) 1)⟩, ⟨(some 13), none, .p (.mov (.tmp 78))⟩, ⟨(some 14), none, .p (.mov (.tmp 79))⟩])
  (.seq (.reg [⟨(some 81), none, .p (.ld (some 2) (.tmp 3))⟩, ⟨(some 82), none, .p (.mov (.tmp 7))⟩, ⟨(some 83), none, .e (.call 14 [(.tmp 81), (.tmp 82)])⟩, ⟨(some 80), none, .p (.mov (.tmp 83))⟩, ⟨(some 84), none, .p (.ext (.tmp 80) 0)⟩, ⟨(some 85), none, .p (.ext (.tmp 80) 1)⟩, ⟨(some 15), none, .p (.mov (.tmp 84))⟩, ⟨(some 16), none, .p (.mov (.tmp 85))⟩])
  (.seq (.seq (.reg [⟨(some 86), none, .p (.mov (.tmp 12))⟩, ⟨(some 87), none, .p (.bin .neq (.tmp 86) (.const (.int .i64 0)))⟩, ⟨(some 88), none, .p (.mov (.tmp 87))⟩, ⟨(some 89), (some (88, false)), .p (.mov (.tmp 14))⟩, ⟨(some 90), (some (88, false)), .p (.bin .neq (.tmp 89) (.const (.int .i64 0)))⟩, ⟨(some 91), none, .p (.pick (.tmp 88) (.const (.bool true)) (.tmp 90))⟩, ⟨(some 92), none, .p (.mov (.tmp 91))⟩, ⟨(some 93), (some (92, false)), .p (.mov (.tmp 16))⟩, ⟨(some 94), (some (92, false)), .p (.bin .neq (.tmp 93) (.const (.int .i64 0)))⟩, ⟨(some 95), none, .p (.pick (.tmp 92) (.const (.bool true)) (.tmp 94))⟩])
  (.cond (.tmp 95) (.seq (.reg [⟨(some 6), none, .p (.mov (.const (.bool true)))⟩])
  .ret) .skip))
  (.seq (.seq (.reg [⟨(some 96), none, .p (.mov (.tmp 11))⟩, ⟨(some 97), none, .p (.len 1 (.tmp 96))⟩, ⟨(some 98), none, .p (.fad 0 (.tmp 3))⟩, ⟨(some 99), none, .p (.ld none (.tmp 98))⟩, ⟨(some 100), none, .p (.len 1 (.tmp 99))⟩, ⟨(some 101), none, .p (.bin .neq (.tmp 97) (.tmp 100))⟩, ⟨(some 102), none, .p (.mov (.tmp 101))⟩, ⟨(some 103), (some (102, false)), .p (.mov (.tmp 13))⟩, ⟨(some 104), (some (102, false)), .p (.len 1 (.tmp 103))⟩, ⟨(some 105), (some (102, false)), .p (.fad 0 (.tmp 3))⟩, ⟨(some 106), (some (102, false)), .p (.ld none (.tmp 105))⟩, ⟨(some 107), (some (102, false)), .p (.len 1 (.tmp 106))⟩, ⟨(some 108), (some (102, false)), .p (.bin .neq (.tmp 104) (.tmp 107))⟩, ⟨(some 109), none, .p (.pick (.tmp 102) (.const (.bool true)) (.tmp 108))⟩, ⟨(some 110), none, .p (.mov (.tmp 109))⟩, ⟨(some 111), (some (110, false)), .p (.mov (.tmp 15))⟩, ⟨(some 112), (some (110, false)), .p (.len 1 (.tmp 111))⟩, ⟨(some 113), (some (110, false)), .p (.fad 0 (.tmp 3))⟩, ⟨(some 114), (some (110, false)), .p (.ld none (.tmp 113))⟩, ⟨(some 115), (some (110, false)), .p (.len 1 (.tmp 114))⟩, ⟨(some 116), (some (110, false)), .p (.bin .neq (.tmp 112) (.tmp 115))⟩, ⟨(some 117), none, .p (.pick (.tmp 110) (.const (.bool true)) (.tmp 116))⟩])
  (.cond (.tmp 117) (.seq (.reg [⟨(some 6), none, .p (.mov (.const (.bool false)))⟩])
  .ret) .skip))
  (.seq (.seq (.reg [⟨(some 118), none, .p (.mov (.tmp 15))⟩, ⟨(some 119), none, .p (.len 1 (.tmp 118))⟩, ⟨(some 120), none, .p (.mov (.const (.int .i64 0)))⟩])
  (.block 2
  (.loop lb4_0)))
  (.seq (.reg [⟨(some 6), none, .p (.mov (.const (.bool true)))⟩])
  .ret)))))))))))
def rf4 : List RX := [.tmp 6]
set_option maxRecDepth 100000 in
theorem comp4 : cFn Tryd.prog Tryd.f4 = some (erase cf4, rf4) := by kernel_rfl
def lb5_0 : LC :=
  (.seq (.reg [⟨(some 145), none, .p (.bin .lss (.tmp 144) (.tmp 143))⟩])
  (.seq (.cond (.tmp 145) .skip (.exit 2))
  (.seq (.block 3
  (.seq (.reg [⟨(some 146), none, .p (.mov (.tmp 144))⟩, ⟨(some 15), none, .p (.mov (.tmp 146))⟩])
  (.seq (.reg [⟨(some 147), none, .p (.fad 1 (.tmp 3))⟩, ⟨(some 148), none, .p (.ld none (.tmp 147))⟩, ⟨(some 149), none, .p (.mov (.tmp 15))⟩, ⟨(some 150), none, .p (.iad 4 (.tmp 148) (.tmp 149))⟩, ⟨(some 151), none, .p (.fad 2 (.tmp 150))⟩, ⟨(some 152), none, .p (.ld (some 2) (.tmp 151))⟩, ⟨(some 16), none, .e (.alc [(.int .i64 0), (.int .i64 0)])⟩, ⟨none, none, .e (.st 2 (.tmp 16) (.tmp 152))⟩])
  (.seq (.reg [⟨(some 153), none, .p (.fad 0 (.tmp 16))⟩, ⟨(some 154), none, .p (.ld none (.tmp 153))⟩, ⟨(some 155), none, .p (.bin .gtr (.tmp 154) (.const (.int .i64 536870912)))⟩, ⟨(some 156), none, .p (.mov (.tmp 155))⟩, ⟨(some 157), (some (156, false)), .p (.fad 1 (.tmp 16))⟩, ⟨(some 158), (some (156, false)), .p (.ld none (.tmp 157))⟩, ⟨(some 159), (some (156, false)), .p (.bin .gtr (.tmp 158) (.const (.int .i64 536870912)))⟩, ⟨(some 160), none, .p (.pick (.tmp 156) (.const (.bool true)) (.tmp 159))⟩])
  (.cond (.tmp 160) (.seq (.reg [⟨(some 161), none, .p (.mov (.tmp 10))⟩, ⟨(some 162), none, .p (.mov (.tmp 14))⟩, ⟨(some 163), none, .p (.binb false (.tmp 161) (.tmp 162))⟩, ⟨(some 6), none, .p (.mov (.tmp 163))⟩])
  .ret) .skip)))))
  (.reg [⟨(some 164), none, .p (.bin .add (.tmp 144) (.const (.int .i64 1)))⟩, ⟨(some 144), none, .p (.mov (.tmp 164))⟩]))))
def lb5_1 : LC :=
  (.seq (.reg [⟨(some 107), none, .p (.bin .lss (.tmp 106) (.tmp 105))⟩])
  (.seq (.cond (.tmp 107) .skip (.exit 0))
  (.seq (.block 1
  (.seq (.reg [⟨(some 108), none, .p (.mov (.tmp 106))⟩, ⟨(some 13), none, .p (.mov (.tmp 108))⟩])
  (.seq (.dreg [⟨(some 109), none, .p (.mov (.tmp 7))⟩, ⟨(some 110), none, .p (.mov (.tmp 13))⟩, ⟨(some 111), none, .p (.iad 2 (.tmp 109) (.tmp 110))⟩, ⟨(some 112), none, .p (.ld (some 2) (.tmp 111))⟩, ⟨(some 113), none, .p (.ld (some 2) (.tmp 11))⟩, ⟨(some 114), none, .p (.mov (.tmp 12))⟩, ⟨(some 115), none, .p (.mov (.tmp 13))⟩, ⟨(some 116), none, .e (.call 22 [(.tmp 113), (.tmp 114), (.tmp 115)])⟩, ⟨(some 117), none, .e (.call 21 [(.tmp 112), (.tmp 116)])⟩] [[⟨(some 118), none, .p (.un .not (.tmp 117))⟩]])
  (.cond (.tmp 118) (.seq (.reg [⟨(some 6), none, .p (.mov (.const (.bool false)))⟩])
  .ret) .skip))))
  (.reg [⟨(some 119), none, .p (.bin .add (.tmp 106) (.const (.int .i64 1)))⟩, ⟨(some 106), none, .p (.mov (.tmp 119))⟩]))))
/-- fairlink fairlinklaw33.DemandLoads -/
def cf5 : LC :=
  (.seq (.reg [⟨(some 3), none, .e (.box (.tmp 0))⟩, ⟨(some 6), none, .p (.mov (.const (.bool false)))⟩])
  (.seq (.seq (.reg [⟨(some 17), none, .e (.call 8 [])⟩, ⟨(some 18), none, .p (.un .not (.tmp 17))⟩, ⟨(some 19), none, .p (.mov (.tmp 18))⟩, ⟨(some 20), (some (19, false)), .p (.ld (some 2) (.tmp 3))⟩, ⟨(some 21), (some (19, false)), .e (.call 9 [(.tmp 20)])⟩, ⟨(some 22), (some (19, false)), .p (.un .not (.tmp 21))⟩, ⟨(some 23), none, .p (.pick (.tmp 19) (.const (.bool true)) (.tmp 22))⟩, ⟨(some 24), none, .p (.mov (.tmp 23))⟩, ⟨(some 25), (some (24, false)), .p (.mov (.tmp 1))⟩, ⟨(some 26), (some (24, false)), .p (.len 1 (.tmp 25))⟩, ⟨(some 27), (some (24, false)), .p (.bin .gtr (.tmp 26) (.const (.int .i64 40)))⟩, ⟨(some 28), none, .p (.pick (.tmp 24) (.const (.bool true)) (.tmp 27))⟩])
  (.cond (.tmp 28) (.seq (.reg [⟨(some 29), none, .e (.call 8 [])⟩, ⟨(some 6), none, .p (.mov (.tmp 29))⟩])
  .ret) .skip))
  (.seq (.reg [⟨(some 31), none, .p (.ld (some 2) (.tmp 3))⟩, ⟨(some 32), none, .p (.mov (.tmp 1))⟩, ⟨(some 33), none, .e (.call 14 [(.tmp 31), (.tmp 32)])⟩, ⟨(some 30), none, .p (.mov (.tmp 33))⟩, ⟨(some 34), none, .p (.ext (.tmp 30) 0)⟩, ⟨(some 35), none, .p (.ext (.tmp 30) 1)⟩, ⟨(some 7), none, .p (.mov (.tmp 34))⟩, ⟨(some 8), none, .p (.mov (.tmp 35))⟩])
  (.seq (.reg [⟨(some 36), none, .p (.ld (some 2) (.tmp 3))⟩, ⟨(some 37), none, .p (.mov (.tmp 1))⟩, ⟨(some 38), none, .e (.call 16 [(.tmp 36), (.tmp 37)])⟩, ⟨(some 9), none, .p (.mov (.tmp 38))⟩])
  (.seq (.reg [⟨(some 39), none, .p (.ld (some 2) (.tmp 3))⟩, ⟨(some 40), none, .p (.mov (.tmp 1))⟩, ⟨(some 41), none, .p (.mov (.tmp 2))⟩, ⟨(some 42), none, .e (.call 17 [(.tmp 39), (.tmp 40), (.tmp 41)])⟩, ⟨(some 10), none, .p (.mov (.tmp 42))⟩])
  (.seq (.seq (.reg [⟨(some 43), none, .p (.ld (some 2) (.tmp 3))⟩, ⟨(some 44), none, .e (.call 10 [(.tmp 43)])⟩, ⟨(some 45), none, .p (.un .not (.tmp 44))⟩, ⟨(some 46), none, .p (.mov (.tmp 45))⟩, ⟨(some 47), (some (46, false)), .p (.mov (.tmp 1))⟩, ⟨(some 48), (some (46, false)), .p (.len 1 (.tmp 47))⟩, ⟨(some 49), (some (46, false)), .p (.fad 1 (.tmp 3))⟩, ⟨(some 50), (some (46, false)), .p (.ld none (.tmp 49))⟩, ⟨(some 51), (some (46, false)), .p (.len 1 (.tmp 50))⟩, ⟨(some 52), (some (46, false)), .p (.bin .neq (.tmp 48) (.tmp 51))⟩, ⟨(some 53), none, .p (.pick (.tmp 46) (.const (.bool true)) (.tmp 52))⟩, ⟨(some 54), none, .p (.mov (.tmp 53))⟩, ⟨(some 55), (some (54, false)), .p (.mov (.tmp 1))⟩, ⟨(some 56), (some (54, false)), .e (.call 18 [(.tmp 55)])⟩, ⟨(some 57), (some (54, false)), .p (.un .not (.tmp 56))⟩, ⟨(some 58), none, .p (.pick (.tmp 54) (.const (.bool true)) (.tmp 57))⟩])
  (.cond (.tmp 58) (.seq (.reg [⟨(some 59), none, .p (.mov (.tmp 8))⟩, ⟨(some 60), none, .p (.bin .eql (.tmp 59) (.const (.int .i64 1)))⟩, ⟨(some 61), none, .p (.mov (.tmp 60))⟩, ⟨(some 62), (some (61, true)), .p (.mov (.tmp 7))⟩, ⟨(some 63), (some (61, true)), .p (.len 1 (.tmp 62))⟩, ⟨(some 64), (some (61, true)), .p (.bin .eql (.tmp 63) (.const (.int .i64 0)))⟩, ⟨(some 65), none, .p (.pick (.tmp 61) (.tmp 64) (.const (.bool false)))⟩, ⟨(some 66), none, .p (.mov (.tmp 65))⟩, ⟨(some 67), (some (66, true)), .p (.mov (.tmp 9))⟩, ⟨(some 68), (some (66, true)), .p (.un .not (.tmp 67))⟩, ⟨(some 69), none, .p (.pick (.tmp 66) (.tmp 68) (.const (.bool false)))⟩, ⟨(some 70), none, .p (.mov (.tmp 69))⟩, ⟨(some 71), (some (70, true)), .p (.mov (.tmp 10))⟩, ⟨(some 72), (some (70, true)), .p (.un .not (.tmp 71))⟩, ⟨(some 73), none, .p (.pick (.tmp 70) (.tmp 72) (.const (.bool false)))⟩, ⟨(some 6), none, .p (.mov (.tmp 73))⟩])
  .ret) .skip))
  (.seq (.seq (.reg [⟨(some 74), none, .p (.mov (.tmp 1))⟩, ⟨(some 75), none, .e (.call 19 [(.tmp 74)])⟩, ⟨(some 76), none, .p (.un .not (.tmp 75))⟩, ⟨(some 77), none, .p (.mov (.tmp 76))⟩, ⟨(some 78), (some (77, false)), .p (.fad 0 (.tmp 3))⟩, ⟨(some 79), (some (77, false)), .p (.ld none (.tmp 78))⟩, ⟨(some 80), (some (77, false)), .e (.call 19 [(.tmp 79)])⟩, ⟨(some 81), (some (77, false)), .p (.un .not (.tmp 80))⟩, ⟨(some 82), none, .p (.pick (.tmp 77) (.const (.bool true)) (.tmp 81))⟩])
  (.cond (.tmp 82) (.seq (.reg [⟨(some 83), none, .p (.mov (.tmp 8))⟩, ⟨(some 84), none, .p (.bin .eql (.tmp 83) (.const (.int .i64 10)))⟩, ⟨(some 85), none, .p (.mov (.tmp 84))⟩, ⟨(some 86), (some (85, false)), .p (.mov (.tmp 8))⟩, ⟨(some 87), (some (85, false)), .p (.bin .eql (.tmp 86) (.const (.int .i64 0)))⟩, ⟨(some 88), none, .p (.pick (.tmp 85) (.const (.bool true)) (.tmp 87))⟩, ⟨(some 6), none, .p (.mov (.tmp 88))⟩])
  .ret) .skip))
  (.seq (.seq (.reg [⟨(some 89), none, .p (.mov (.tmp 8))⟩, ⟨(some 90), none, .p (.bin .neq (.tmp 89) (.const (.int .i64 0)))⟩, ⟨(some 91), none, .p (.mov (.tmp 90))⟩, ⟨(some 92), (some (91, false)), .p (.mov (.tmp 7))⟩, ⟨(some 93), (some (91, false)), .p (.len 1 (.tmp 92))⟩, ⟨(some 94), (some (91, false)), .p (.fad 0 (.tmp 3))⟩, ⟨(some 95), (some (91, false)), .p (.ld none (.tmp 94))⟩, ⟨(some 96), (some (91, false)), .p (.len 1 (.tmp 95))⟩, ⟨(some 97), (some (91, false)), .p (.bin .neq (.tmp 93) (.tmp 96))⟩, ⟨(some 98), none, .p (.pick (.tmp 91) (.const (.bool true)) (.tmp 97))⟩])
  (.cond (.tmp 98) (.seq (.reg [⟨(some 6), none, .p (.mov (.const (.bool false)))⟩])
  .ret) .skip))
  (.seq (.reg [⟨(some 99), none, .p (.ld (some 2) (.tmp 3))⟩, ⟨(some 100), none, .e (.call 12 [(.tmp 99)])⟩, ⟨(some 101), none, .p (.mov (.tmp 1))⟩, ⟨(some 102), none, .e (.call 20 [(.tmp 101)])⟩, ⟨(some 11), none, .e (.alc [(.slice none 0 0), (.slice none 0 0)])⟩, ⟨none, none, .e (.st 2 (.tmp 11) (.tmp 100))⟩, ⟨(some 12), none, .p (.mov (.tmp 102))⟩])
  (.seq (.seq (.reg [⟨(some 103), none, .p (.fad 0 (.tmp 3))⟩, ⟨(some 104), none, .p (.ld none (.tmp 103))⟩, ⟨(some 105), none, .p (.len 1 (.tmp 104))⟩, ⟨(some 106), none, .p (.mov (.const (.int .i64 0)))⟩])
  (.block 0
  (.loop lb5_1)))
  (.seq (.dreg [⟨(some 120), none, .p (.mov (.tmp 2))⟩, ⟨(some 121), none, .p (.bin .geq (.tmp 120) (.const (.int .i64 0)))⟩, ⟨(some 122), none, .p (.mov (.tmp 121))⟩, ⟨(some 123), (some (122, true)), .p (.mov (.tmp 2))⟩, ⟨(some 124), (some (122, true)), .p (.mov (.tmp 7))⟩, ⟨(some 125), (some (122, true)), .p (.len 1 (.tmp 124))⟩, ⟨(some 126), (some (122, true)), .p (.bin .lss (.tmp 123) (.tmp 125))⟩, ⟨(some 127), none, .p (.pick (.tmp 122) (.tmp 126) (.const (.bool false)))⟩, ⟨(some 128), none, .p (.mov (.tmp 127))⟩, ⟨(some 129), (some (128, true)), .p (.mov (.tmp 7))⟩, ⟨(some 130), (some (128, true)), .p (.mov (.tmp 2))⟩, ⟨(some 131), (some (128, true)), .p (.iad 2 (.tmp 129) (.tmp 130))⟩, ⟨(some 132), (some (128, true)), .p (.ld (some 2) (.tmp 131))⟩, ⟨(some 133), (some (128, true)), .p (.fad 0 (.tmp 3))⟩, ⟨(some 134), (some (128, true)), .p (.ld none (.tmp 133))⟩, ⟨(some 135), (some (128, true)), .p (.mov (.tmp 2))⟩, ⟨(some 136), (some (128, true)), .p (.iad 2 (.tmp 134) (.tmp 135))⟩, ⟨(some 137), (some (128, true)), .p (.ld (some 2) (.tmp 136))⟩, ⟨(some 138), (some (128, true)), .e (.call 15 [(.tmp 132), (.tmp 137)])⟩, ⟨(some 139), (some (128, true)), .p (.bin .eql (.tmp 138) (.const (.int .i64 0)))⟩, ⟨(some 140), none, .p (.pick (.tmp 128) (.tmp 139) (.const (.bool false)))⟩] [[⟨(some 14), none, .p (.mov (.tmp 140))⟩]])
  (.seq (.seq (.reg [⟨(some 141), none, .p (.fad 1 (.tmp 3))⟩, ⟨(some 142), none, .p (.ld none (.tmp 141))⟩, ⟨(some 143), none, .p (.len 1 (.tmp 142))⟩, ⟨(some 144), none, .p (.mov (.const (.int .i64 0)))⟩])
  (.block 2
  (.loop lb5_0)))
  (.seq (.reg [⟨(some 165), none, .p (.mov (.tmp 10))⟩, ⟨(some 166), none, .p (.mov (.tmp 14))⟩, ⟨(some 167), none, .p (.binb false (.tmp 165) (.tmp 166))⟩, ⟨(some 168), none, .p (.mov (.tmp 167))⟩, ⟨(some 169), (some (168, true)), .p (.mov (.tmp 9))⟩, ⟨(some 170), (some (168, true)), .p (.ld (some 2) (.tmp 11))⟩, ⟨(some 171), (some (168, true)), .p (.mov (.tmp 12))⟩, ⟨(some 172), (some (168, true)), .e (.call 23 [(.tmp 170), (.tmp 171)])⟩, ⟨(some 173), (some (168, true)), .p (.binb false (.tmp 169) (.tmp 172))⟩, ⟨(some 174), none, .p (.pick (.tmp 168) (.tmp 173) (.const (.bool false)))⟩, ⟨(some 6), none, .p (.mov (.tmp 174))⟩])
  .ret)))))))))))))
def rf5 : List RX := [.tmp 6]
set_option maxRecDepth 100000 in
theorem comp5 : cFn Tryd.prog Tryd.f5 = some (erase cf5, rf5) := by kernel_rfl
/-- fairlink fairlinklaw33.DemandShrinks -/
def cf6 : LC :=
  (.seq (.reg [⟨(some 4), none, .e (.box (.tmp 0))⟩, ⟨(some 7), none, .e (.box (.tmp 3))⟩, ⟨(some 8), none, .p (.mov (.const (.bool false)))⟩])
  (.seq (.seq (.reg [⟨(some 13), none, .e (.call 8 [])⟩, ⟨(some 14), none, .p (.un .not (.tmp 13))⟩, ⟨(some 15), none, .p (.mov (.tmp 14))⟩, ⟨(some 16), (some (15, false)), .p (.ld (some 2) (.tmp 4))⟩, ⟨(some 17), (some (15, false)), .e (.call 9 [(.tmp 16)])⟩, ⟨(some 18), (some (15, false)), .p (.un .not (.tmp 17))⟩, ⟨(some 19), none, .p (.pick (.tmp 15) (.const (.bool true)) (.tmp 18))⟩, ⟨(some 20), none, .p (.mov (.tmp 19))⟩, ⟨(some 21), (some (20, false)), .p (.ld (some 2) (.tmp 4))⟩, ⟨(some 22), (some (20, false)), .e (.call 10 [(.tmp 21)])⟩, ⟨(some 23), (some (20, false)), .p (.un .not (.tmp 22))⟩, ⟨(some 24), none, .p (.pick (.tmp 20) (.const (.bool true)) (.tmp 23))⟩])
  (.cond (.tmp 24) (.seq (.reg [⟨(some 25), none, .e (.call 8 [])⟩, ⟨(some 8), none, .p (.mov (.tmp 25))⟩])
  .ret) .skip))
  (.seq (.seq (.dreg [⟨(some 26), none, .p (.ld (some 2) (.tmp 4))⟩, ⟨(some 27), none, .p (.fad 1 (.tmp 4))⟩, ⟨(some 28), none, .p (.ld none (.tmp 27))⟩, ⟨(some 29), none, .p (.len 1 (.tmp 28))⟩] [[⟨(some 30), none, .e (.mks 0 2 [(.int .i64 0), (.int .i64 0)] 16 (.tmp 29) (.tmp 29))⟩, ⟨(some 31), none, .e (.call 16 [(.tmp 26), (.tmp 30)])⟩, ⟨(some 32), none, .p (.un .not (.tmp 31))⟩]])
  (.cond (.tmp 32) (.seq (.reg [⟨(some 8), none, .p (.mov (.const (.bool false)))⟩])
  .ret) .skip))
  (.seq (.seq (.reg [⟨(some 33), none, .p (.mov (.tmp 1))⟩, ⟨(some 34), none, .p (.len 1 (.tmp 33))⟩, ⟨(some 35), none, .p (.fad 1 (.tmp 4))⟩, ⟨(some 36), none, .p (.ld none (.tmp 35))⟩, ⟨(some 37), none, .p (.len 1 (.tmp 36))⟩, ⟨(some 38), none, .p (.bin .neq (.tmp 34) (.tmp 37))⟩, ⟨(some 39), none, .p (.mov (.tmp 38))⟩, ⟨(some 40), (some (39, false)), .p (.mov (.tmp 1))⟩, ⟨(some 41), (some (39, false)), .p (.len 1 (.tmp 40))⟩, ⟨(some 42), (some (39, false)), .p (.bin .eql (.tmp 41) (.const (.int .i64 0)))⟩, ⟨(some 43), none, .p (.pick (.tmp 39) (.const (.bool true)) (.tmp 42))⟩, ⟨(some 44), none, .p (.mov (.tmp 43))⟩, ⟨(some 45), (some (44, false)), .p (.ld (some 2) (.tmp 4))⟩, ⟨(some 46), (some (44, false)), .p (.mov (.tmp 1))⟩, ⟨(some 47), (some (44, false)), .e (.call 16 [(.tmp 45), (.tmp 46)])⟩, ⟨(some 48), (some (44, false)), .p (.un .not (.tmp 47))⟩, ⟨(some 49), none, .p (.pick (.tmp 44) (.const (.bool true)) (.tmp 48))⟩])
  (.cond (.tmp 49) (.seq (.reg [⟨(some 8), none, .p (.mov (.const (.bool true)))⟩])
  .ret) .skip))
  (.seq (.reg [⟨(some 50), none, .p (.mov (.tmp 2))⟩, ⟨(some 51), none, .p (.cvt .i64 (.tmp 50))⟩, ⟨(some 52), none, .p (.mov (.tmp 1))⟩, ⟨(some 53), none, .p (.len 1 (.tmp 52))⟩, ⟨(some 54), none, .p (.bin .rem (.tmp 51) (.tmp 53))⟩, ⟨(some 9), none, .p (.mov (.tmp 54))⟩])
  (.seq (.seq (.dreg [⟨(some 55), none, .p (.ld (some 2) (.tmp 7))⟩, ⟨(some 56), none, .e (.call 24 [(.tmp 55)])⟩, ⟨(some 57), none, .p (.un .not (.tmp 56))⟩, ⟨(some 58), none, .p (.mov (.tmp 57))⟩, ⟨(some 59), (some (58, false)), .p (.fad 0 (.tmp 7))⟩, ⟨(some 60), (some (58, false)), .p (.ld none (.tmp 59))⟩, ⟨(some 61), (some (58, false)), .p (.bin .lss (.tmp 60) (.const (.int .i64 0)))⟩, ⟨(some 62), none, .p (.pick (.tmp 58) (.const (.bool true)) (.tmp 61))⟩, ⟨(some 63), none, .p (.mov (.tmp 62))⟩, ⟨(some 64), (some (63, false)), .p (.ld (some 2) (.tmp 7))⟩, ⟨(some 65), (some (63, false)), .p (.mov (.tmp 1))⟩, ⟨(some 66), (some (63, false)), .p (.mov (.tmp 9))⟩, ⟨(some 67), (some (63, false)), .p (.iad 2 (.tmp 65) (.tmp 66))⟩, ⟨(some 68), (some (63, false)), .p (.ld (some 2) (.tmp 67))⟩, ⟨(some 69), (some (63, false)), .e (.call 15 [(.tmp 64), (.tmp 68)])⟩, ⟨(some 70), (some (63, false)), .p (.bin .gtr (.tmp 69) (.const (.int .i64 0)))⟩] [[⟨(some 71), none, .p (.pick (.tmp 63) (.const (.bool true)) (.tmp 70))⟩]])
  (.cond (.tmp 71) (.seq (.reg [⟨(some 8), none, .p (.mov (.const (.bool true)))⟩])
  .ret) .skip))
  (.seq (.reg [⟨(some 72), none, .e (.bsl 0 0 2 [(.int .i64 0), (.int .i64 0)] [])⟩, ⟨(some 73), none, .p (.mov (.tmp 1))⟩, ⟨(some 74), none, .e (.app 0 2 16 (.tmp 72) (.tmp 73))⟩, ⟨(some 10), none, .p (.mov (.tmp 74))⟩])
  (.seqj (.reg [⟨(some 75), none, .p (.mov (.tmp 10))⟩, ⟨(some 76), none, .p (.mov (.tmp 9))⟩, ⟨(some 77), none, .p (.ld (some 2) (.tmp 7))⟩, ⟨(some 78), none, .p (.iad 2 (.tmp 75) (.tmp 76))⟩, ⟨none, none, .e (.st 2 (.tmp 78) (.tmp 77))⟩])
  (.seq (.reg [⟨(some 80), none, .p (.ld (some 2) (.tmp 4))⟩, ⟨(some 81), none, .p (.mov (.tmp 10))⟩, ⟨(some 82), none, .e (.call 14 [(.tmp 80), (.tmp 81)])⟩, ⟨(some 79), none, .p (.mov (.tmp 82))⟩, ⟨(some 83), none, .p (.ext (.tmp 79) 0)⟩, ⟨(some 84), none, .p (.ext (.tmp 79) 1)⟩, ⟨(some 11), none, .p (.mov (.tmp 83))⟩, ⟨(some 12), none, .p (.mov (.tmp 84))⟩])
  (.seq (.reg [⟨(some 85), none, .p (.mov (.tmp 12))⟩, ⟨(some 86), none, .p (.bin .eql (.tmp 85) (.const (.int .i64 10)))⟩, ⟨(some 87), none, .p (.mov (.tmp 86))⟩, ⟨(some 88), (some (87, false)), .p (.ld (some 2) (.tmp 4))⟩, ⟨(some 89), (some (87, false)), .p (.mov (.tmp 10))⟩, ⟨(some 90), (some (87, false)), .e (.call 16 [(.tmp 88), (.tmp 89)])⟩, ⟨(some 91), none, .p (.pick (.tmp 87) (.const (.bool true)) (.tmp 90))⟩, ⟨(some 8), none, .p (.mov (.tmp 91))⟩])
  .ret))))))))))
def rf6 : List RX := [.tmp 8]
set_option maxRecDepth 100000 in
theorem comp6 : cFn Tryd.prog Tryd.f6 = some (erase cf6, rf6) := by kernel_rfl
def lb7_0 : LC :=
  (.seq (.reg [⟨(some 97), none, .p (.bin .lss (.tmp 96) (.tmp 95))⟩])
  (.seq (.cond (.tmp 97) .skip (.exit 0))
  (.seq (.block 1
  (.seq (.reg [⟨(some 98), none, .p (.iad 1 (.tmp 94) (.tmp 96))⟩, ⟨(some 99), none, .p (.ld none (.tmp 98))⟩, ⟨(some 17), none, .p (.mov (.tmp 99))⟩])
  (.reg [⟨(some 100), none, .p (.mov (.tmp 15))⟩, ⟨(some 101), none, .p (.mov (.tmp 100))⟩, ⟨(some 102), (some (101, false)), .p (.mov (.tmp 17))⟩, ⟨(some 103), (some (101, false)), .p (.mov (.tmp 11))⟩, ⟨(some 104), (some (101, false)), .p (.bin .eql (.tmp 102) (.tmp 103))⟩, ⟨(some 105), none, .p (.pick (.tmp 101) (.const (.bool true)) (.tmp 104))⟩, ⟨(some 15), none, .p (.mov (.tmp 105))⟩])))
  (.reg [⟨(some 106), none, .p (.bin .add (.tmp 96) (.const (.int .i64 1)))⟩, ⟨(some 96), none, .p (.mov (.tmp 106))⟩]))))
/-- fairlink fairlinklaw33.DemandFull -/
def cf7 : LC :=
  (.seq (.reg [⟨(some 5), none, .e (.box (.tmp 0))⟩, ⟨(some 9), none, .e (.box (.tmp 4))⟩, ⟨(some 10), none, .p (.mov (.const (.bool false)))⟩])
  (.seq (.seq (.reg [⟨(some 19), none, .e (.call 8 [])⟩, ⟨(some 20), none, .p (.un .not (.tmp 19))⟩, ⟨(some 21), none, .p (.mov (.tmp 20))⟩, ⟨(some 22), (some (21, false)), .p (.ld (some 2) (.tmp 5))⟩, ⟨(some 23), (some (21, false)), .e (.call 9 [(.tmp 22)])⟩, ⟨(some 24), (some (21, false)), .p (.un .not (.tmp 23))⟩, ⟨(some 25), none, .p (.pick (.tmp 21) (.const (.bool true)) (.tmp 24))⟩, ⟨(some 26), none, .p (.mov (.tmp 25))⟩, ⟨(some 27), (some (26, false)), .p (.ld (some 2) (.tmp 5))⟩, ⟨(some 28), (some (26, false)), .p (.mov (.tmp 1))⟩, ⟨(some 29), (some (26, false)), .e (.call 16 [(.tmp 27), (.tmp 28)])⟩, ⟨(some 30), (some (26, false)), .p (.un .not (.tmp 29))⟩, ⟨(some 31), none, .p (.pick (.tmp 26) (.const (.bool true)) (.tmp 30))⟩, ⟨(some 32), none, .p (.mov (.tmp 31))⟩, ⟨(some 33), (some (32, false)), .p (.fad 0 (.tmp 5))⟩, ⟨(some 34), (some (32, false)), .p (.ld none (.tmp 33))⟩, ⟨(some 35), (some (32, false)), .p (.len 1 (.tmp 34))⟩, ⟨(some 36), (some (32, false)), .p (.bin .eql (.tmp 35) (.const (.int .i64 0)))⟩, ⟨(some 37), none, .p (.pick (.tmp 32) (.const (.bool true)) (.tmp 36))⟩, ⟨(some 38), none, .p (.mov (.tmp 37))⟩, ⟨(some 39), (some (38, false)), .p (.mov (.tmp 1))⟩, ⟨(some 40), (some (38, false)), .p (.len 1 (.tmp 39))⟩, ⟨(some 41), (some (38, false)), .p (.bin .eql (.tmp 40) (.const (.int .i64 0)))⟩, ⟨(some 42), none, .p (.pick (.tmp 38) (.const (.bool true)) (.tmp 41))⟩])
  (.cond (.tmp 42) (.seq (.reg [⟨(some 43), none, .e (.call 8 [])⟩, ⟨(some 10), none, .p (.mov (.tmp 43))⟩])
  .ret) .skip))
  (.seq (.dreg [⟨(some 44), none, .p (.mov (.tmp 2))⟩, ⟨(some 45), none, .p (.cvt .i64 (.tmp 44))⟩, ⟨(some 46), none, .p (.fad 0 (.tmp 5))⟩, ⟨(some 47), none, .p (.ld none (.tmp 46))⟩, ⟨(some 48), none, .p (.len 1 (.tmp 47))⟩, ⟨(some 49), none, .p (.bin .rem (.tmp 45) (.tmp 48))⟩, ⟨(some 50), none, .p (.mov (.tmp 3))⟩, ⟨(some 51), none, .p (.cvt .i64 (.tmp 50))⟩, ⟨(some 52), none, .p (.mov (.tmp 1))⟩, ⟨(some 53), none, .p (.len 1 (.tmp 52))⟩, ⟨(some 54), none, .p (.bin .rem (.tmp 51) (.tmp 53))⟩, ⟨(some 11), none, .p (.mov (.tmp 49))⟩] [[⟨(some 12), none, .p (.mov (.tmp 54))⟩]])
  (.seq (.reg [⟨(some 56), none, .p (.ld (some 2) (.tmp 5))⟩, ⟨(some 57), none, .p (.mov (.tmp 1))⟩, ⟨(some 58), none, .e (.call 14 [(.tmp 56), (.tmp 57)])⟩, ⟨(some 55), none, .p (.mov (.tmp 58))⟩, ⟨(some 59), none, .p (.ext (.tmp 55) 0)⟩, ⟨(some 60), none, .p (.ext (.tmp 55) 1)⟩, ⟨(some 13), none, .p (.mov (.tmp 59))⟩, ⟨(some 14), none, .p (.mov (.tmp 60))⟩])
  (.seq (.seq (.dreg [⟨(some 61), none, .p (.mov (.tmp 14))⟩, ⟨(some 62), none, .p (.bin .neq (.tmp 61) (.const (.int .i64 0)))⟩, ⟨(some 63), none, .p (.mov (.tmp 62))⟩, ⟨(some 64), (some (63, false)), .p (.mov (.tmp 13))⟩, ⟨(some 65), (some (63, false)), .p (.len 1 (.tmp 64))⟩, ⟨(some 66), (some (63, false)), .p (.fad 0 (.tmp 5))⟩, ⟨(some 67), (some (63, false)), .p (.ld none (.tmp 66))⟩, ⟨(some 68), (some (63, false)), .p (.len 1 (.tmp 67))⟩, ⟨(some 69), (some (63, false)), .p (.bin .neq (.tmp 65) (.tmp 68))⟩, ⟨(some 70), none, .p (.pick (.tmp 63) (.const (.bool true)) (.tmp 69))⟩, ⟨(some 71), none, .p (.mov (.tmp 70))⟩, ⟨(some 72), (some (71, false)), .p (.ld (some 2) (.tmp 5))⟩, ⟨(some 73), (some (71, false)), .p (.mov (.tmp 1))⟩, ⟨(some 74), (some (71, false)), .p (.mov (.tmp 11))⟩, ⟨(some 75), (some (71, false)), .e (.call 17 [(.tmp 72), (.tmp 73), (.tmp 74)])⟩, ⟨(some 76), (some (71, false)), .p (.mov (.tmp 13))⟩, ⟨(some 77), (some (71, false)), .p (.mov (.tmp 11))⟩, ⟨(some 78), (some (71, false)), .p (.iad 2 (.tmp 76) (.tmp 77))⟩, ⟨(some 79), (some (71, false)), .p (.ld (some 2) (.tmp 78))⟩, ⟨(some 80), (some (71, false)), .p (.fad 0 (.tmp 5))⟩, ⟨(some 81), (some (71, false)), .p (.ld none (.tmp 80))⟩, ⟨(some 82), (some (71, false)), .p (.mov (.tmp 11))⟩, ⟨(some 83), (some (71, false)), .p (.iad 2 (.tmp 81) (.tmp 82))⟩, ⟨(some 84), (some (71, false)), .p (.ld (some 2) (.tmp 83))⟩, ⟨(some 85), (some (71, false)), .e (.call 15 [(.tmp 79), (.tmp 84)])⟩, ⟨(some 86), (some (71, false)), .p (.bin .eql (.tmp 85) (.const (.int .i64 0)))⟩, ⟨(some 87), (some (71, false)), .p (.binb true (.tmp 75) (.tmp 86))⟩] [[⟨(some 88), none, .p (.pick (.tmp 71) (.const (.bool true)) (.tmp 87))⟩]])
  (.cond (.tmp 88) (.seq (.reg [⟨(some 10), none, .p (.mov (.const (.bool false)))⟩])
  .ret) .skip))
  (.seq (.reg [⟨(some 15), none, .p (.mov (.const (.bool false)))⟩])
  (.seq (.seq (.reg [⟨(some 89), none, .p (.fad 1 (.tmp 5))⟩, ⟨(some 90), none, .p (.ld none (.tmp 89))⟩, ⟨(some 91), none, .p (.mov (.tmp 12))⟩, ⟨(some 92), none, .p (.iad 4 (.tmp 90) (.tmp 91))⟩, ⟨(some 93), none, .p (.fad 0 (.tmp 92))⟩, ⟨(some 94), none, .p (.ld none (.tmp 93))⟩, ⟨(some 95), none, .p (.len 1 (.tmp 94))⟩, ⟨(some 96), none, .p (.mov (.const (.int .i64 0)))⟩])
  (.block 0
  (.loop lb7_0)))
  (.seq (.seq (.dreg [⟨(some 107), none, .p (.ld (some 2) (.tmp 5))⟩, ⟨(some 108), none, .p (.mov (.tmp 1))⟩, ⟨(some 109), none, .p (.mov (.tmp 11))⟩, ⟨(some 110), none, .e (.call 17 [(.tmp 107), (.tmp 108), (.tmp 109)])⟩, ⟨(some 111), none, .p (.un .not (.tmp 110))⟩, ⟨(some 112), none, .p (.mov (.tmp 111))⟩, ⟨(some 113), (some (112, false)), .p (.mov (.tmp 15))⟩, ⟨(some 114), (some (112, false)), .p (.un .not (.tmp 113))⟩, ⟨(some 115), none, .p (.pick (.tmp 112) (.const (.bool true)) (.tmp 114))⟩, ⟨(some 116), none, .p (.mov (.tmp 115))⟩, ⟨(some 117), (some (116, false)), .p (.ld (some 2) (.tmp 9))⟩, ⟨(some 118), (some (116, false)), .e (.call 24 [(.tmp 117)])⟩, ⟨(some 119), (some (116, false)), .p (.un .not (.tmp 118))⟩, ⟨(some 120), none, .p (.pick (.tmp 116) (.const (.bool true)) (.tmp 119))⟩, ⟨(some 121), none, .p (.mov (.tmp 120))⟩, ⟨(some 122), (some (121, false)), .p (.ld (some 2) (.tmp 9))⟩, ⟨(some 123), (some (121, false)), .p (.mov (.tmp 1))⟩, ⟨(some 124), (some (121, false)), .p (.mov (.tmp 12))⟩, ⟨(some 125), (some (121, false)), .p (.iad 2 (.tmp 123) (.tmp 124))⟩, ⟨(some 126), (some (121, false)), .p (.ld (some 2) (.tmp 125))⟩, ⟨(some 127), (some (121, false)), .e (.call 15 [(.tmp 122), (.tmp 126)])⟩, ⟨(some 128), (some (121, false)), .p (.bin .leq (.tmp 127) (.const (.int .i64 0)))⟩] [[⟨(some 129), none, .p (.pick (.tmp 121) (.const (.bool true)) (.tmp 128))⟩]])
  (.cond (.tmp 129) (.seq (.reg [⟨(some 10), none, .p (.mov (.const (.bool true)))⟩])
  .ret) .skip))
  (.seq (.reg [⟨(some 130), none, .e (.bsl 0 0 2 [(.int .i64 0), (.int .i64 0)] [])⟩, ⟨(some 131), none, .p (.mov (.tmp 1))⟩, ⟨(some 132), none, .e (.app 0 2 16 (.tmp 130) (.tmp 131))⟩, ⟨(some 18), none, .p (.mov (.tmp 132))⟩])
  (.seq (.reg [⟨(some 133), none, .p (.mov (.tmp 18))⟩, ⟨(some 134), none, .p (.mov (.tmp 12))⟩, ⟨(some 135), none, .p (.ld (some 2) (.tmp 9))⟩, ⟨(some 136), none, .p (.iad 2 (.tmp 133) (.tmp 134))⟩, ⟨none, none, .e (.st 2 (.tmp 136) (.tmp 135))⟩])
  (.seq (.reg [⟨(some 137), none, .p (.ld (some 2) (.tmp 5))⟩, ⟨(some 138), none, .p (.mov (.tmp 18))⟩, ⟨(some 139), none, .e (.call 16 [(.tmp 137), (.tmp 138)])⟩, ⟨(some 140), none, .p (.un .not (.tmp 139))⟩, ⟨(some 10), none, .p (.mov (.tmp 140))⟩])
  .ret)))))))))))
def rf7 : List RX := [.tmp 10]
set_option maxRecDepth 100000 in
theorem comp7 : cFn Tryd.prog Tryd.f7 = some (erase cf7, rf7) := by kernel_rfl
/-- fairlink fairlinklaw33.awake -/
def cf8 : LC :=
  (.seq (.reg [⟨(some 0), none, .p (.mov (.const (.bool false)))⟩])
  (.seq (.reg [⟨(some 4), none, .e (.call 26 [])⟩, ⟨(some 5), none, .e (.call 25 [(.tmp 4)])⟩, ⟨(some 3), none, .p (.mov (.tmp 5))⟩, ⟨(some 6), none, .p (.ext (.tmp 3) 0)⟩, ⟨(some 7), none, .p (.ext (.tmp 3) 1)⟩, ⟨(some 1), none, .p (.mov (.tmp 6))⟩, ⟨(some 2), none, .p (.mov (.tmp 7))⟩])
  (.seq (.reg [⟨(some 8), none, .p (.mov (.tmp 2))⟩, ⟨(some 9), none, .p (.bin .eql (.tmp 8) (.const (.int .i64 0)))⟩, ⟨(some 10), none, .p (.mov (.tmp 9))⟩, ⟨(some 11), (some (10, true)), .p (.mov (.tmp 1))⟩, ⟨(some 12), (some (10, true)), .p (.bin .eql (.tmp 11) (.const (.string ⟨#[108, 105, 110, 107, 32, 49, 10, 108, 105, 110, 107, 32, 51, 47, 50, 10, 102, 108, 111, 119, 32, 48, 32, 49, 10, 102, 108, 111, 119, 32, 49, 32, 109, 97, 120, 32, 50, 10]⟩)))⟩, ⟨(some 13), none, .p (.pick (.tmp 10) (.tmp 12) (.const (.bool false)))⟩, ⟨(some 14), none, .p (.mov (.tmp 13))⟩, ⟨(some 15), (some (14, true)), .e (.call 26 [])⟩, ⟨(some 16), (some (14, true)), .p (.bld [(.int .i64 0), (.int .i64 0)] [(0, 1, (.const (.int .i64 1))), (1, 1, (.const (.int .i64 2)))])⟩, ⟨(some 17), (some (14, true)), .p (.bld [(.int .i64 0), (.int .i64 0)] [(0, 1, (.const (.int .i64 1))), (1, 1, (.const (.int .i64 1)))])⟩, ⟨(some 18), (some (14, true)), .e (.bsl 0 2 2 [(.int .i64 0), (.int .i64 0)] [(0, 2, (.tmp 16)), (2, 2, (.tmp 17))])⟩, ⟨(some 19), (some (14, true)), .e (.call 17 [(.tmp 15), (.tmp 18), (.const (.int .i64 1))])⟩, ⟨(some 20), none, .p (.pick (.tmp 14) (.tmp 19) (.const (.bool false)))⟩, ⟨(some 0), none, .p (.mov (.tmp 20))⟩])
  .ret)))
def rf8 : List RX := [.tmp 0]
set_option maxRecDepth 100000 in
theorem comp8 : cFn Tryd.prog Tryd.f8 = some (erase cf8, rf8) := by kernel_rfl
def lb9_0 : LC :=
  (.seq (.reg [⟨(some 9), none, .p (.bin .lss (.tmp 8) (.tmp 7))⟩])
  (.seq (.cond (.tmp 9) .skip (.exit 0))
  (.seq (.block 1
  (.seq (.reg [⟨(some 10), none, .p (.iad 4 (.tmp 6) (.tmp 8))⟩, ⟨(some 11), none, .p (.ld (some 4) (.tmp 10))⟩, ⟨(some 4), none, .e (.alc [(.slice none 0 0), (.bool false), (.int .i64 0), (.int .i64 0)])⟩, ⟨none, none, .e (.st 4 (.tmp 4) (.tmp 11))⟩])
  (.seq (.reg [⟨(some 12), none, .p (.fad 0 (.tmp 4))⟩, ⟨(some 13), none, .p (.ld none (.tmp 12))⟩, ⟨(some 14), none, .p (.len 1 (.tmp 13))⟩, ⟨(some 15), none, .p (.bin .gtr (.tmp 14) (.const (.int .i64 40)))⟩])
  (.cond (.tmp 15) (.seq (.reg [⟨(some 2), none, .p (.mov (.const (.bool false)))⟩])
  .ret) .skip))))
  (.reg [⟨(some 16), none, .p (.bin .add (.tmp 8) (.const (.int .i64 1)))⟩, ⟨(some 8), none, .p (.mov (.tmp 16))⟩]))))
/-- fairlink fairlinklaw33.few -/
def cf9 : LC :=
  (.seq (.reg [⟨(some 1), none, .e (.box (.tmp 0))⟩, ⟨(some 2), none, .p (.mov (.const (.bool false)))⟩])
  (.seq (.seq (.reg [⟨(some 5), none, .p (.fad 1 (.tmp 1))⟩, ⟨(some 6), none, .p (.ld none (.tmp 5))⟩, ⟨(some 7), none, .p (.len 1 (.tmp 6))⟩, ⟨(some 8), none, .p (.mov (.const (.int .i64 0)))⟩])
  (.block 0
  (.loop lb9_0)))
  (.seq (.reg [⟨(some 17), none, .p (.fad 0 (.tmp 1))⟩, ⟨(some 18), none, .p (.ld none (.tmp 17))⟩, ⟨(some 19), none, .p (.len 1 (.tmp 18))⟩, ⟨(some 20), none, .p (.bin .leq (.tmp 19) (.const (.int .i64 40)))⟩, ⟨(some 21), none, .p (.mov (.tmp 20))⟩, ⟨(some 22), (some (21, true)), .p (.fad 1 (.tmp 1))⟩, ⟨(some 23), (some (21, true)), .p (.ld none (.tmp 22))⟩, ⟨(some 24), (some (21, true)), .p (.len 1 (.tmp 23))⟩, ⟨(some 25), (some (21, true)), .p (.bin .leq (.tmp 24) (.const (.int .i64 40)))⟩, ⟨(some 26), none, .p (.pick (.tmp 21) (.tmp 25) (.const (.bool false)))⟩, ⟨(some 2), none, .p (.mov (.tmp 26))⟩])
  .ret)))
def rf9 : List RX := [.tmp 2]
set_option maxRecDepth 100000 in
theorem comp9 : cFn Tryd.prog Tryd.f9 = some (erase cf9, rf9) := by kernel_rfl
def lb12_0 : LC :=
  (.seq (.reg [⟨(some 26), none, .p (.bin .lss (.tmp 25) (.tmp 24))⟩])
  (.seq (.cond (.tmp 26) .skip (.exit 2))
  (.seq (.block 3
  (.seq (.reg [⟨(some 27), none, .p (.iad 4 (.tmp 23) (.tmp 25))⟩, ⟨(some 28), none, .p (.ld (some 4) (.tmp 27))⟩, ⟨(some 7), none, .e (.alc [(.slice none 0 0), (.bool false), (.int .i64 0), (.int .i64 0)])⟩, ⟨none, none, .e (.st 4 (.tmp 7) (.tmp 28))⟩])
  (.reg [⟨(some 29), none, .p (.fad 1 (.tmp 3))⟩, ⟨(some 30), none, .p (.ld none (.tmp 29))⟩, ⟨(some 31), none, .p (.fad 0 (.tmp 7))⟩, ⟨(some 32), none, .p (.ld none (.tmp 31))⟩, ⟨(some 33), none, .p (.fad 1 (.tmp 7))⟩, ⟨(some 34), none, .p (.ld none (.tmp 33))⟩, ⟨(some 35), none, .p (.fad 2 (.tmp 7))⟩, ⟨(some 36), none, .p (.ld (some 2) (.tmp 35))⟩, ⟨(some 37), none, .p (.bld [(.slice none 0 0), (.bool false), (.int .i64 0), (.int .i64 0)] [(0, 1, (.tmp 32)), (1, 1, (.tmp 34)), (2, 2, (.tmp 36))])⟩, ⟨(some 38), none, .e (.bsl 0 1 4 [(.slice none 0 0), (.bool false), (.int .i64 0), (.int .i64 0)] [(0, 4, (.tmp 37))])⟩, ⟨(some 39), none, .e (.app 0 4 48 (.tmp 30) (.tmp 38))⟩, ⟨(some 40), none, .p (.fad 1 (.tmp 3))⟩, ⟨none, none, .e (.st 1 (.tmp 40) (.tmp 39))⟩])))
  (.reg [⟨(some 41), none, .p (.bin .add (.tmp 25) (.const (.int .i64 1)))⟩, ⟨(some 25), none, .p (.mov (.tmp 41))⟩]))))
def lb12_1 : LC :=
  (.seq (.reg [⟨(some 12), none, .p (.bin .lss (.tmp 11) (.tmp 10))⟩])
  (.seq (.cond (.tmp 12) .skip (.exit 0))
  (.seq (.block 1
  (.seq (.reg [⟨(some 13), none, .p (.iad 2 (.tmp 9) (.tmp 11))⟩, ⟨(some 14), none, .p (.ld (some 2) (.tmp 13))⟩, ⟨(some 5), none, .e (.alc [(.int .i64 0), (.int .i64 0)])⟩, ⟨none, none, .e (.st 2 (.tmp 5) (.tmp 14))⟩])
  (.reg [⟨(some 15), none, .p (.fad 0 (.tmp 3))⟩, ⟨(some 16), none, .p (.ld none (.tmp 15))⟩, ⟨(some 17), none, .p (.ld (some 2) (.tmp 5))⟩, ⟨(some 18), none, .e (.bsl 0 1 2 [(.int .i64 0), (.int .i64 0)] [(0, 2, (.tmp 17))])⟩, ⟨(some 19), none, .e (.app 0 2 16 (.tmp 16) (.tmp 18))⟩, ⟨(some 20), none, .p (.fad 0 (.tmp 3))⟩, ⟨none, none, .e (.st 1 (.tmp 20) (.tmp 19))⟩])))
  (.reg [⟨(some 21), none, .p (.bin .add (.tmp 11) (.const (.int .i64 1)))⟩, ⟨(some 11), none, .p (.mov (.tmp 21))⟩]))))
/-- fairlink fairlinklaw33.Plain -/
def cf12 : LC :=
  (.seq (.reg [⟨(some 1), none, .e (.box (.tmp 0))⟩, ⟨(some 2), none, .e (.alc [(.slice none 0 0), (.slice none 0 0)])⟩])
  (.seq (.reg [⟨(some 3), none, .e (.alc [(.slice none 0 0), (.slice none 0 0)])⟩])
  (.seq (.seq (.reg [⟨(some 8), none, .p (.fad 0 (.tmp 1))⟩, ⟨(some 9), none, .p (.ld none (.tmp 8))⟩, ⟨(some 10), none, .p (.len 1 (.tmp 9))⟩, ⟨(some 11), none, .p (.mov (.const (.int .i64 0)))⟩])
  (.block 0
  (.loop lb12_1)))
  (.seq (.seq (.reg [⟨(some 22), none, .p (.fad 1 (.tmp 1))⟩, ⟨(some 23), none, .p (.ld none (.tmp 22))⟩, ⟨(some 24), none, .p (.len 1 (.tmp 23))⟩, ⟨(some 25), none, .p (.mov (.const (.int .i64 0)))⟩])
  (.block 2
  (.loop lb12_0)))
  (.seq (.reg [⟨(some 42), none, .p (.ld (some 2) (.tmp 3))⟩, ⟨none, none, .e (.st 2 (.tmp 2) (.tmp 42))⟩])
  .ret)))))
def rf12 : List RX := [.cell 2 (some 2)]
set_option maxRecDepth 100000 in
theorem comp12 : cFn Tryd.prog Tryd.f12 = some (erase cf12, rf12) := by kernel_rfl
def lb18_0 : LC :=
  (.seq (.reg [⟨(some 8), none, .p (.bin .lss (.tmp 7) (.tmp 6))⟩])
  (.seq (.cond (.tmp 8) .skip (.exit 0))
  (.seq (.block 1
  (.seq (.reg [⟨(some 9), none, .p (.iad 2 (.tmp 5) (.tmp 7))⟩, ⟨(some 10), none, .p (.ld (some 2) (.tmp 9))⟩, ⟨(some 4), none, .e (.alc [(.int .i64 0), (.int .i64 0)])⟩, ⟨none, none, .e (.st 2 (.tmp 4) (.tmp 10))⟩])
  (.seq (.reg [⟨(some 11), none, .p (.ld (some 2) (.tmp 4))⟩, ⟨(some 12), none, .e (.call 24 [(.tmp 11)])⟩, ⟨(some 13), none, .p (.un .not (.tmp 12))⟩])
  (.cond (.tmp 13) (.seq (.reg [⟨(some 2), none, .p (.mov (.const (.bool false)))⟩])
  .ret) .skip))))
  (.reg [⟨(some 14), none, .p (.bin .add (.tmp 7) (.const (.int .i64 1)))⟩, ⟨(some 7), none, .p (.mov (.tmp 14))⟩]))))
/-- fairlink fairlinklaw33.valid -/
def cf18 : LC :=
  (.seq (.reg [⟨(some 2), none, .p (.mov (.const (.bool false)))⟩])
  (.seq (.seq (.reg [⟨(some 5), none, .p (.mov (.tmp 0))⟩, ⟨(some 6), none, .p (.len 1 (.tmp 5))⟩, ⟨(some 7), none, .p (.mov (.const (.int .i64 0)))⟩])
  (.block 0
  (.loop lb18_0)))
  (.seq (.reg [⟨(some 2), none, .p (.mov (.const (.bool true)))⟩])
  .ret)))
def rf18 : List RX := [.tmp 2]
set_option maxRecDepth 100000 in
theorem comp18 : cFn Tryd.prog Tryd.f18 = some (erase cf18, rf18) := by kernel_rfl
def lb19_0 : LC :=
  (.seq (.reg [⟨(some 8), none, .p (.bin .lss (.tmp 7) (.tmp 6))⟩])
  (.seq (.cond (.tmp 8) .skip (.exit 0))
  (.seq (.block 1
  (.seq (.reg [⟨(some 9), none, .p (.iad 2 (.tmp 5) (.tmp 7))⟩, ⟨(some 10), none, .p (.ld (some 2) (.tmp 9))⟩, ⟨(some 4), none, .e (.alc [(.int .i64 0), (.int .i64 0)])⟩, ⟨none, none, .e (.st 2 (.tmp 4) (.tmp 10))⟩])
  (.seq (.reg [⟨(some 11), none, .p (.fad 0 (.tmp 4))⟩, ⟨(some 12), none, .p (.ld none (.tmp 11))⟩, ⟨(some 13), none, .p (.bin .gtr (.tmp 12) (.const (.int .i64 256)))⟩, ⟨(some 14), none, .p (.mov (.tmp 13))⟩, ⟨(some 15), (some (14, false)), .p (.fad 0 (.tmp 4))⟩, ⟨(some 16), (some (14, false)), .p (.ld none (.tmp 15))⟩, ⟨(some 17), (some (14, false)), .p (.bin .lss (.tmp 16) (.const (.int .i64 (-256))))⟩, ⟨(some 18), none, .p (.pick (.tmp 14) (.const (.bool true)) (.tmp 17))⟩, ⟨(some 19), none, .p (.mov (.tmp 18))⟩, ⟨(some 20), (some (19, false)), .p (.fad 1 (.tmp 4))⟩, ⟨(some 21), (some (19, false)), .p (.ld none (.tmp 20))⟩, ⟨(some 22), (some (19, false)), .p (.bin .gtr (.tmp 21) (.const (.int .i64 16)))⟩, ⟨(some 23), none, .p (.pick (.tmp 19) (.const (.bool true)) (.tmp 22))⟩])
  (.cond (.tmp 23) (.seq (.reg [⟨(some 2), none, .p (.mov (.const (.bool false)))⟩])
  .ret) .skip))))
  (.reg [⟨(some 24), none, .p (.bin .add (.tmp 7) (.const (.int .i64 1)))⟩, ⟨(some 7), none, .p (.mov (.tmp 24))⟩]))))
/-- fairlink fairlinklaw33.small -/
def cf19 : LC :=
  (.seq (.reg [⟨(some 2), none, .p (.mov (.const (.bool false)))⟩])
  (.seq (.seq (.reg [⟨(some 5), none, .p (.mov (.tmp 0))⟩, ⟨(some 6), none, .p (.len 1 (.tmp 5))⟩, ⟨(some 7), none, .p (.mov (.const (.int .i64 0)))⟩])
  (.block 0
  (.loop lb19_0)))
  (.seq (.reg [⟨(some 25), none, .p (.mov (.tmp 0))⟩, ⟨(some 26), none, .p (.len 1 (.tmp 25))⟩, ⟨(some 27), none, .p (.bin .leq (.tmp 26) (.const (.int .i64 7)))⟩, ⟨(some 2), none, .p (.mov (.tmp 27))⟩])
  .ret)))
def rf19 : List RX := [.tmp 2]
set_option maxRecDepth 100000 in
theorem comp19 : cFn Tryd.prog Tryd.f19 = some (erase cf19, rf19) := by kernel_rfl
def lb20_0 : LC :=
  (.seq (.reg [⟨(some 9), none, .p (.bin .lss (.tmp 8) (.tmp 7))⟩])
  (.seq (.cond (.tmp 9) .skip (.exit 0))
  (.seq (.block 1
  (.seq (.reg [⟨(some 10), none, .p (.iad 2 (.tmp 6) (.tmp 8))⟩, ⟨(some 11), none, .p (.ld (some 2) (.tmp 10))⟩, ⟨(some 5), none, .e (.alc [(.int .i64 0), (.int .i64 0)])⟩, ⟨none, none, .e (.st 2 (.tmp 5) (.tmp 11))⟩])
  (.reg [⟨(some 12), none, .p (.mov (.tmp 3))⟩, ⟨(some 13), none, .p (.ld (some 2) (.tmp 5))⟩, ⟨(some 14), none, .e (.bsl 0 1 2 [(.int .i64 0), (.int .i64 0)] [(0, 2, (.tmp 13))])⟩, ⟨(some 15), none, .e (.app 0 2 16 (.tmp 12) (.tmp 14))⟩, ⟨(some 3), none, .p (.mov (.tmp 15))⟩])))
  (.reg [⟨(some 16), none, .p (.bin .add (.tmp 8) (.const (.int .i64 1)))⟩, ⟨(some 8), none, .p (.mov (.tmp 16))⟩]))))
/-- fairlink fairlinklaw33.rats -/
def cf20 : LC :=
  (.seq (.reg [⟨(some 2), none, .p (.mov (.const (.slice none 0 0)))⟩])
  (.seq (.reg [⟨(some 3), none, .p (.mov (.const (.slice none 0 0)))⟩])
  (.seq (.seq (.reg [⟨(some 6), none, .p (.mov (.tmp 0))⟩, ⟨(some 7), none, .p (.len 1 (.tmp 6))⟩, ⟨(some 8), none, .p (.mov (.const (.int .i64 0)))⟩])
  (.block 0
  (.loop lb20_0)))
  (.seq (.reg [⟨(some 17), none, .p (.mov (.tmp 3))⟩, ⟨(some 2), none, .p (.mov (.tmp 17))⟩])
  .ret))))
def rf20 : List RX := [.tmp 2]
set_option maxRecDepth 100000 in
theorem comp20 : cFn Tryd.prog Tryd.f20 = some (erase cf20, rf20) := by kernel_rfl
/-- fairlink fairlinklaw33.example -/
def cf26 : LC :=
  (.seq (.reg [⟨(some 0), none, .e (.alc [(.slice none 0 0), (.slice none 0 0)])⟩])
  (.seq (.reg [⟨(some 1), none, .p (.bld [(.int .i64 0), (.int .i64 0)] [(0, 1, (.const (.int .i64 1))), (1, 1, (.const (.int .i64 1)))])⟩, ⟨(some 2), none, .p (.bld [(.int .i64 0), (.int .i64 0)] [(0, 1, (.const (.int .i64 3))), (1, 1, (.const (.int .i64 2)))])⟩, ⟨(some 3), none, .e (.bsl 0 2 2 [(.int .i64 0), (.int .i64 0)] [(0, 2, (.tmp 1)), (2, 2, (.tmp 2))])⟩, ⟨(some 4), none, .e (.bsl 1 2 1 [(.int .i64 0)] [(0, 1, (.const (.int .i64 0))), (1, 1, (.const (.int .i64 1)))])⟩, ⟨(some 5), none, .p (.bld [(.slice none 0 0), (.bool false), (.int .i64 0), (.int .i64 0)] [(0, 1, (.tmp 4))])⟩, ⟨(some 6), none, .e (.bsl 1 1 1 [(.int .i64 0)] [(0, 1, (.const (.int .i64 1)))])⟩, ⟨(some 7), none, .p (.bld [(.int .i64 0), (.int .i64 0)] [(0, 1, (.const (.int .i64 2))), (1, 1, (.const (.int .i64 1)))])⟩, ⟨(some 8), none, .p (.bld [(.slice none 0 0), (.bool false), (.int .i64 0), (.int .i64 0)] [(0, 1, (.tmp 6)), (1, 1, (.const (.bool true))), (2, 2, (.tmp 7))])⟩, ⟨(some 9), none, .e (.bsl 0 2 4 [(.slice none 0 0), (.bool false), (.int .i64 0), (.int .i64 0)] [(0, 4, (.tmp 5)), (4, 4, (.tmp 8))])⟩, ⟨(some 10), none, .p (.bld [(.slice none 0 0), (.slice none 0 0)] [(0, 1, (.tmp 3)), (1, 1, (.tmp 9))])⟩, ⟨none, none, .e (.st 2 (.tmp 0) (.tmp 10))⟩])
  .ret))
def rf26 : List RX := [.cell 0 (some 2)]
set_option maxRecDepth 100000 in
theorem comp26 : cFn Tryd.prog Tryd.f26 = some (erase cf26, rf26) := by kernel_rfl
end Go.Proofs.YtdfiicpikcdokaaDoor
namespace Go.Proofs.YtdfiicpikcdokaaDoor
/-- fairlink fairlinkref01.Same -/
def cf21 : LC :=
  (.seq (.reg [⟨(some 2), none, .e (.box (.tmp 0))⟩, ⟨(some 3), none, .e (.box (.tmp 1))⟩, ⟨(some 4), none, .p (.mov (.const (.bool false)))⟩])
  (.seq (.dreg [⟨(some 5), none, .p (.ld (some 2) (.tmp 2))⟩, ⟨(some 6), none, .e (.call 28 [(.tmp 5)])⟩, ⟨(some 7), none, .p (.ld (some 2) (.tmp 3))⟩, ⟨(some 8), none, .e (.call 28 [(.tmp 7)])⟩, ⟨(some 9), none, .p (.eqa false [(.i .i64), (.i .i64)] (.tmp 6) (.tmp 8))⟩] [[⟨(some 4), none, .p (.mov (.tmp 9))⟩]])
  .ret))
def rf21 : List RX := [.tmp 4]
set_option maxRecDepth 100000 in
theorem comp21 : cFn Tryd.prog Tryd.f21 = some (erase cf21, rf21) := by kernel_rfl
/-- fairlink fairlinkref01.Full -/
def cf28 : LC :=
  (.seq (.reg [⟨(some 1), none, .e (.box (.tmp 0))⟩, ⟨(some 2), none, .e (.alc [(.int .i64 0), (.int .i64 0)])⟩])
  (.seq (.seq (.reg [⟨(some 3), none, .p (.fad 1 (.tmp 1))⟩, ⟨(some 4), none, .p (.ld none (.tmp 3))⟩, ⟨(some 5), none, .p (.bin .eql (.tmp 4) (.const (.int .i64 0)))⟩])
  (.cond (.tmp 5) (.seq (.reg [⟨(some 6), none, .p (.bld [(.int .i64 0), (.int .i64 0)] [(0, 1, (.const (.int .i64 0))), (1, 1, (.const (.int .i64 1)))])⟩, ⟨none, none, .e (.st 2 (.tmp 2) (.tmp 6))⟩])
  .ret) .skip))
  (.seq (.reg [⟨(some 7), none, .p (.ld (some 2) (.tmp 1))⟩, ⟨none, none, .e (.st 2 (.tmp 2) (.tmp 7))⟩])
  .ret)))
def rf28 : List RX := [.cell 2 (some 2)]
set_option maxRecDepth 100000 in
theorem comp28 : cFn Tryd.prog Tryd.f28 = some (erase cf28, rf28) := by kernel_rfl
/-- fairlink fairlinkref01.Add -/
def cf42 : LC :=
  (.seq (.reg [⟨(some 2), none, .e (.box (.tmp 0))⟩, ⟨(some 3), none, .e (.box (.tmp 1))⟩, ⟨(some 4), none, .e (.alc [(.int .i64 0), (.int .i64 0)])⟩, ⟨(some 5), none, .p (.mov (.const (.int .i64 0)))⟩])
  (.seq (.dreg [⟨(some 6), none, .p (.ld (some 2) (.tmp 2))⟩, ⟨(some 7), none, .e (.call 28 [(.tmp 6)])⟩, ⟨(some 8), none, .p (.ld (some 2) (.tmp 3))⟩, ⟨(some 9), none, .e (.call 28 [(.tmp 8)])⟩] [[⟨none, none, .e (.st 2 (.tmp 2) (.tmp 7))⟩, ⟨none, none, .e (.st 2 (.tmp 3) (.tmp 9))⟩]])
  (.seq (.reg [⟨(some 10), none, .p (.fad 0 (.tmp 2))⟩, ⟨(some 11), none, .p (.ld none (.tmp 10))⟩, ⟨(some 12), none, .p (.fad 1 (.tmp 3))⟩, ⟨(some 13), none, .p (.ld none (.tmp 12))⟩, ⟨(some 14), none, .p (.bin .mul (.tmp 11) (.tmp 13))⟩, ⟨(some 15), none, .p (.fad 0 (.tmp 3))⟩, ⟨(some 16), none, .p (.ld none (.tmp 15))⟩, ⟨(some 17), none, .p (.fad 1 (.tmp 2))⟩, ⟨(some 18), none, .p (.ld none (.tmp 17))⟩, ⟨(some 19), none, .p (.bin .mul (.tmp 16) (.tmp 18))⟩, ⟨(some 20), none, .p (.bin .add (.tmp 14) (.tmp 19))⟩, ⟨(some 21), none, .p (.fad 1 (.tmp 2))⟩, ⟨(some 22), none, .p (.ld none (.tmp 21))⟩, ⟨(some 23), none, .p (.fad 1 (.tmp 3))⟩, ⟨(some 24), none, .p (.ld none (.tmp 23))⟩, ⟨(some 25), none, .p (.bin .mul (.tmp 22) (.tmp 24))⟩, ⟨(some 26), none, .e (.call 55 [(.tmp 20), (.tmp 25)])⟩, ⟨(some 27), none, .p (.ext (.tmp 26) 0)⟩, ⟨(some 28), none, .p (.ext (.tmp 26) 1)⟩, ⟨none, none, .e (.st 2 (.tmp 4) (.tmp 27))⟩, ⟨(some 5), none, .p (.mov (.tmp 28))⟩])
  .ret)))
def rf42 : List RX := [.cell 4 (some 2), .tmp 5]
set_option maxRecDepth 100000 in
theorem comp42 : cFn Tryd.prog Tryd.f42 = some (erase cf42, rf42) := by kernel_rfl
/-- fairlink fairlinkref01.Cmp -/
def cf43 : LC :=
  (.seq (.reg [⟨(some 2), none, .e (.box (.tmp 0))⟩, ⟨(some 3), none, .e (.box (.tmp 1))⟩, ⟨(some 4), none, .p (.mov (.const (.int .i64 0)))⟩])
  (.seq (.dreg [⟨(some 7), none, .p (.ld (some 2) (.tmp 2))⟩, ⟨(some 8), none, .e (.call 28 [(.tmp 7)])⟩, ⟨(some 9), none, .p (.ld (some 2) (.tmp 3))⟩, ⟨(some 10), none, .e (.call 28 [(.tmp 9)])⟩] [[⟨none, none, .e (.st 2 (.tmp 2) (.tmp 8))⟩, ⟨none, none, .e (.st 2 (.tmp 3) (.tmp 10))⟩]])
  (.seq (.dreg [⟨(some 11), none, .p (.fad 0 (.tmp 2))⟩, ⟨(some 12), none, .p (.ld none (.tmp 11))⟩, ⟨(some 13), none, .p (.fad 1 (.tmp 3))⟩, ⟨(some 14), none, .p (.ld none (.tmp 13))⟩, ⟨(some 15), none, .p (.bin .mul (.tmp 12) (.tmp 14))⟩, ⟨(some 16), none, .p (.fad 0 (.tmp 3))⟩, ⟨(some 17), none, .p (.ld none (.tmp 16))⟩, ⟨(some 18), none, .p (.fad 1 (.tmp 2))⟩, ⟨(some 19), none, .p (.ld none (.tmp 18))⟩, ⟨(some 20), none, .p (.bin .mul (.tmp 17) (.tmp 19))⟩, ⟨(some 5), none, .p (.mov (.tmp 15))⟩] [[⟨(some 6), none, .p (.mov (.tmp 20))⟩]])
  (.seq (.seq (.reg [⟨(some 21), none, .p (.mov (.tmp 5))⟩, ⟨(some 22), none, .p (.mov (.tmp 6))⟩, ⟨(some 23), none, .p (.bin .lss (.tmp 21) (.tmp 22))⟩])
  (.cond (.tmp 23) (.seq (.reg [⟨(some 4), none, .p (.mov (.const (.int .i64 (-1))))⟩])
  .ret) .skip))
  (.seq (.seq (.reg [⟨(some 24), none, .p (.mov (.tmp 5))⟩, ⟨(some 25), none, .p (.mov (.tmp 6))⟩, ⟨(some 26), none, .p (.bin .gtr (.tmp 24) (.tmp 25))⟩])
  (.cond (.tmp 26) (.seq (.reg [⟨(some 4), none, .p (.mov (.const (.int .i64 1)))⟩])
  .ret) .skip))
  (.seq (.reg [⟨(some 4), none, .p (.mov (.const (.int .i64 0)))⟩])
  .ret))))))
def rf43 : List RX := [.tmp 4]
set_option maxRecDepth 100000 in
theorem comp43 : cFn Tryd.prog Tryd.f43 = some (erase cf43, rf43) := by kernel_rfl
/-- fairlink fairlinkref01.Valid -/
def cf49 : LC :=
  (.seq (.reg [⟨(some 1), none, .e (.box (.tmp 0))⟩, ⟨(some 2), none, .p (.mov (.const (.bool false)))⟩])
  (.seq (.seq (.reg [⟨(some 3), none, .p (.fad 0 (.tmp 1))⟩, ⟨(some 4), none, .p (.ld none (.tmp 3))⟩, ⟨(some 5), none, .p (.bin .eql (.tmp 4) (.const (.int .i64 0)))⟩, ⟨(some 6), none, .p (.mov (.tmp 5))⟩, ⟨(some 7), (some (6, true)), .p (.fad 1 (.tmp 1))⟩, ⟨(some 8), (some (6, true)), .p (.ld none (.tmp 7))⟩, ⟨(some 9), (some (6, true)), .p (.bin .eql (.tmp 8) (.const (.int .i64 0)))⟩, ⟨(some 10), none, .p (.pick (.tmp 6) (.tmp 9) (.const (.bool false)))⟩])
  (.cond (.tmp 10) (.seq (.reg [⟨(some 2), none, .p (.mov (.const (.bool true)))⟩])
  .ret) .skip))
  (.seq (.dreg [⟨(some 11), none, .p (.fad 1 (.tmp 1))⟩, ⟨(some 12), none, .p (.ld none (.tmp 11))⟩, ⟨(some 13), none, .p (.bin .geq (.tmp 12) (.const (.int .i64 1)))⟩, ⟨(some 14), none, .p (.mov (.tmp 13))⟩, ⟨(some 15), (some (14, true)), .p (.fad 1 (.tmp 1))⟩, ⟨(some 16), (some (14, true)), .p (.ld none (.tmp 15))⟩, ⟨(some 17), (some (14, true)), .p (.bin .leq (.tmp 16) (.const (.int .i64 1152921504606846976)))⟩, ⟨(some 18), none, .p (.pick (.tmp 14) (.tmp 17) (.const (.bool false)))⟩, ⟨(some 19), none, .p (.mov (.tmp 18))⟩, ⟨(some 20), (some (19, true)), .p (.fad 0 (.tmp 1))⟩, ⟨(some 21), (some (19, true)), .p (.ld none (.tmp 20))⟩, ⟨(some 22), (some (19, true)), .p (.bin .geq (.tmp 21) (.const (.int .i64 (-1152921504606846976))))⟩, ⟨(some 23), none, .p (.pick (.tmp 19) (.tmp 22) (.const (.bool false)))⟩, ⟨(some 24), none, .p (.mov (.tmp 23))⟩, ⟨(some 25), (some (24, true)), .p (.fad 0 (.tmp 1))⟩, ⟨(some 26), (some (24, true)), .p (.ld none (.tmp 25))⟩, ⟨(some 27), (some (24, true)), .p (.bin .leq (.tmp 26) (.const (.int .i64 1152921504606846976)))⟩, ⟨(some 28), none, .p (.pick (.tmp 24) (.tmp 27) (.const (.bool false)))⟩, ⟨(some 29), none, .p (.mov (.tmp 28))⟩, ⟨(some 30), (some (29, true)), .p (.fad 0 (.tmp 1))⟩, ⟨(some 31), (some (29, true)), .p (.ld none (.tmp 30))⟩, ⟨(some 32), (some (29, true)), .e (.call 59 [(.tmp 31)])⟩, ⟨(some 33), (some (29, true)), .p (.fad 1 (.tmp 1))⟩, ⟨(some 34), (some (29, true)), .p (.ld none (.tmp 33))⟩, ⟨(some 35), (some (29, true)), .e (.call 58 [(.tmp 32), (.tmp 34)])⟩, ⟨(some 36), (some (29, true)), .p (.bin .eql (.tmp 35) (.const (.int .i64 1)))⟩, ⟨(some 37), none, .p (.pick (.tmp 29) (.tmp 36) (.const (.bool false)))⟩] [[⟨(some 2), none, .p (.mov (.tmp 37))⟩]])
  .ret)))
def rf49 : List RX := [.tmp 2]
set_option maxRecDepth 100000 in
theorem comp49 : cFn Tryd.prog Tryd.f49 = some (erase cf49, rf49) := by kernel_rfl
/-- fairlink fairlinkref01.Of -/
def cf55 : LC :=
  (.seq (.reg [⟨(some 4), none, .e (.alc [(.int .i64 0), (.int .i64 0)])⟩, ⟨(some 5), none, .p (.mov (.const (.int .i64 0)))⟩])
  (.seq (.seq (.reg [⟨(some 8), none, .p (.mov (.tmp 1))⟩, ⟨(some 9), none, .p (.bin .eql (.tmp 8) (.const (.int .i64 0)))⟩])
  (.cond (.tmp 9) (.seq (.reg [⟨(some 10), none, .p (.bld [(.int .i64 0), (.int .i64 0)] [])⟩, ⟨none, none, .e (.st 2 (.tmp 4) (.tmp 10))⟩, ⟨(some 5), none, .p (.mov (.const (.int .i64 2)))⟩])
  .ret) .skip))
  (.seq (.seq (.reg [⟨(some 11), none, .p (.mov (.tmp 1))⟩, ⟨(some 12), none, .p (.bin .lss (.tmp 11) (.const (.int .i64 0)))⟩])
  (.cond (.tmp 12) (.reg [⟨(some 13), none, .p (.mov (.tmp 0))⟩, ⟨(some 14), none, .p (.ng0 (.tmp 13))⟩, ⟨(some 15), none, .p (.mov (.tmp 1))⟩, ⟨(some 16), none, .p (.ng0 (.tmp 15))⟩, ⟨(some 0), none, .p (.mov (.tmp 14))⟩, ⟨(some 1), none, .p (.mov (.tmp 16))⟩]) .skip))
  (.seq (.reg [⟨(some 17), none, .p (.mov (.tmp 0))⟩, ⟨(some 18), none, .e (.call 59 [(.tmp 17)])⟩, ⟨(some 19), none, .p (.mov (.tmp 1))⟩, ⟨(some 20), none, .e (.call 58 [(.tmp 18), (.tmp 19)])⟩, ⟨(some 6), none, .p (.mov (.tmp 20))⟩])
  (.seq (.dreg [⟨(some 21), none, .p (.mov (.tmp 0))⟩, ⟨(some 22), none, .p (.mov (.tmp 6))⟩, ⟨(some 23), none, .p (.bin .quo (.tmp 21) (.tmp 22))⟩, ⟨(some 24), none, .p (.mov (.tmp 1))⟩, ⟨(some 25), none, .p (.mov (.tmp 6))⟩, ⟨(some 26), none, .p (.bin .quo (.tmp 24) (.tmp 25))⟩, ⟨(some 27), none, .p (.bld [(.int .i64 0), (.int .i64 0)] [(0, 1, (.tmp 23)), (1, 1, (.tmp 26))])⟩] [[⟨(some 7), none, .e (.alc [(.int .i64 0), (.int .i64 0)])⟩, ⟨none, none, .e (.st 2 (.tmp 7) (.tmp 27))⟩]])
  (.seq (.seq (.reg [⟨(some 28), none, .p (.ld (some 2) (.tmp 7))⟩, ⟨(some 29), none, .e (.call 49 [(.tmp 28)])⟩, ⟨(some 30), none, .p (.un .not (.tmp 29))⟩])
  (.cond (.tmp 30) (.seq (.reg [⟨(some 31), none, .p (.bld [(.int .i64 0), (.int .i64 0)] [])⟩, ⟨none, none, .e (.st 2 (.tmp 4) (.tmp 31))⟩, ⟨(some 5), none, .p (.mov (.const (.int .i64 10)))⟩])
  .ret) .skip))
  (.seq (.reg [⟨(some 32), none, .p (.ld (some 2) (.tmp 7))⟩, ⟨none, none, .e (.st 2 (.tmp 4) (.tmp 32))⟩, ⟨(some 5), none, .p (.mov (.const (.int .i64 0)))⟩])
  .ret)))))))
def rf55 : List RX := [.cell 4 (some 2), .tmp 5]
set_option maxRecDepth 100000 in
theorem comp55 : cFn Tryd.prog Tryd.f55 = some (erase cf55, rf55) := by kernel_rfl
def lb58_0 : LC :=
  (.seq (.seq (.reg [⟨(some 5), none, .p (.mov (.tmp 1))⟩, ⟨(some 6), none, .p (.bin .neq (.tmp 5) (.const (.int .i64 0)))⟩])
  (.cond (.tmp 6) .skip (.exit 0)))
  (.block 1
  (.dreg [⟨(some 7), none, .p (.mov (.tmp 1))⟩, ⟨(some 8), none, .p (.mov (.tmp 0))⟩, ⟨(some 9), none, .p (.mov (.tmp 1))⟩, ⟨(some 10), none, .p (.bin .rem (.tmp 8) (.tmp 9))⟩, ⟨(some 0), none, .p (.mov (.tmp 7))⟩] [[⟨(some 1), none, .p (.mov (.tmp 10))⟩]])))
/-- fairlink fairlinkref01.Gcd -/
def cf58 : LC :=
  (.seq (.reg [⟨(some 4), none, .p (.mov (.const (.int .i64 0)))⟩])
  (.seq (.block 0
  (.loop lb58_0))
  (.seq (.reg [⟨(some 11), none, .p (.mov (.tmp 0))⟩, ⟨(some 4), none, .p (.mov (.tmp 11))⟩])
  .ret)))
def rf58 : List RX := [.tmp 4]
set_option maxRecDepth 100000 in
theorem comp58 : cFn Tryd.prog Tryd.f58 = some (erase cf58, rf58) := by kernel_rfl
/-- fairlink fairlinkref01.abs -/
def cf59 : LC :=
  (.seq (.reg [⟨(some 2), none, .p (.mov (.const (.int .i64 0)))⟩])
  (.seq (.seq (.reg [⟨(some 3), none, .p (.mov (.tmp 0))⟩, ⟨(some 4), none, .p (.bin .lss (.tmp 3) (.const (.int .i64 0)))⟩])
  (.cond (.tmp 4) (.seq (.reg [⟨(some 5), none, .p (.mov (.tmp 0))⟩, ⟨(some 6), none, .p (.ng0 (.tmp 5))⟩, ⟨(some 2), none, .p (.mov (.tmp 6))⟩])
  .ret) .skip))
  (.seq (.reg [⟨(some 7), none, .p (.mov (.tmp 0))⟩, ⟨(some 2), none, .p (.mov (.tmp 7))⟩])
  .ret)))
def rf59 : List RX := [.tmp 2]
set_option maxRecDepth 100000 in
theorem comp59 : cFn Tryd.prog Tryd.f59 = some (erase cf59, rf59) := by kernel_rfl
end Go.Proofs.YtdfiicpikcdokaaDoor
namespace Go.Proofs.YtdfiicpikcdokaaDoor
def lb11_0 : LC :=
  (.seq (.seq (.reg [⟨(some 120), none, .p (.mov (.tmp 8))⟩, ⟨(some 121), none, .p (.mov (.tmp 7))⟩, ⟨(some 122), none, .p (.bin .lss (.tmp 120) (.tmp 121))⟩])
  (.cond (.tmp 122) .skip (.exit 6)))
  (.seq (.block 7
  (.seq (.dreg [⟨(some 125), none, .p (.fad 0 (.tmp 6))⟩, ⟨(some 126), none, .p (.ld none (.tmp 125))⟩, ⟨(some 127), none, .p (.mov (.tmp 8))⟩, ⟨(some 128), none, .p (.iad 1 (.tmp 126) (.tmp 127))⟩, ⟨(some 129), none, .p (.ld none (.tmp 128))⟩, ⟨(some 130), none, .p (.fad 0 (.tmp 6))⟩, ⟨(some 131), none, .p (.ld none (.tmp 130))⟩, ⟨(some 132), none, .p (.mov (.tmp 7))⟩, ⟨(some 133), none, .p (.iad 1 (.tmp 131) (.tmp 132))⟩, ⟨(some 134), none, .p (.ld none (.tmp 133))⟩] [[⟨(some 135), none, .p (.bin .eql (.tmp 129) (.tmp 134))⟩]])
  (.cond (.tmp 135) (.seq (.reg [⟨(some 2), none, .p (.mov (.const (.bool false)))⟩])
  .ret) .skip)))
  (.reg [⟨(some 123), none, .p (.mov (.tmp 8))⟩, ⟨(some 124), none, .p (.bin .add (.tmp 123) (.const (.int .i64 1)))⟩, ⟨(some 8), none, .p (.mov (.tmp 124))⟩])))
def lb11_1 : LC :=
  (.seq (.seq (.reg [⟨(some 96), none, .p (.mov (.tmp 7))⟩, ⟨(some 97), none, .p (.fad 0 (.tmp 6))⟩, ⟨(some 98), none, .p (.ld none (.tmp 97))⟩, ⟨(some 99), none, .p (.len 1 (.tmp 98))⟩, ⟨(some 100), none, .p (.bin .lss (.tmp 96) (.tmp 99))⟩])
  (.cond (.tmp 100) .skip (.exit 4)))
  (.seq (.block 5
  (.seq (.seq (.dreg [⟨(some 103), none, .p (.fad 0 (.tmp 6))⟩, ⟨(some 104), none, .p (.ld none (.tmp 103))⟩, ⟨(some 105), none, .p (.mov (.tmp 7))⟩, ⟨(some 106), none, .p (.iad 1 (.tmp 104) (.tmp 105))⟩, ⟨(some 107), none, .p (.ld none (.tmp 106))⟩, ⟨(some 108), none, .p (.bin .lss (.tmp 107) (.const (.int .i64 0)))⟩, ⟨(some 109), none, .p (.mov (.tmp 108))⟩, ⟨(some 110), (some (109, false)), .p (.fad 0 (.tmp 6))⟩, ⟨(some 111), (some (109, false)), .p (.ld none (.tmp 110))⟩, ⟨(some 112), (some (109, false)), .p (.mov (.tmp 7))⟩, ⟨(some 113), (some (109, false)), .p (.iad 1 (.tmp 111) (.tmp 112))⟩, ⟨(some 114), (some (109, false)), .p (.ld none (.tmp 113))⟩, ⟨(some 115), (some (109, false)), .p (.fad 0 (.tmp 1))⟩, ⟨(some 116), (some (109, false)), .p (.ld none (.tmp 115))⟩, ⟨(some 117), (some (109, false)), .p (.len 1 (.tmp 116))⟩, ⟨(some 118), (some (109, false)), .p (.bin .geq (.tmp 114) (.tmp 117))⟩] [[⟨(some 119), none, .p (.pick (.tmp 109) (.const (.bool true)) (.tmp 118))⟩]])
  (.cond (.tmp 119) (.seq (.reg [⟨(some 2), none, .p (.mov (.const (.bool false)))⟩])
  .ret) .skip))
  (.seq (.reg [⟨(some 8), none, .p (.mov (.const (.int .i64 0)))⟩])
  (.block 6
  (.loop lb11_0)))))
  (.reg [⟨(some 101), none, .p (.mov (.tmp 7))⟩, ⟨(some 102), none, .p (.bin .add (.tmp 101) (.const (.int .i64 1)))⟩, ⟨(some 7), none, .p (.mov (.tmp 102))⟩])))
def lb11_2 : LC :=
  (.seq (.seq (.reg [⟨(some 63), none, .p (.mov (.tmp 5))⟩, ⟨(some 64), none, .p (.fad 1 (.tmp 1))⟩, ⟨(some 65), none, .p (.ld none (.tmp 64))⟩, ⟨(some 66), none, .p (.len 1 (.tmp 65))⟩, ⟨(some 67), none, .p (.bin .lss (.tmp 63) (.tmp 66))⟩])
  (.cond (.tmp 67) .skip (.exit 2)))
  (.seq (.block 3
  (.seq (.reg [⟨(some 70), none, .p (.fad 1 (.tmp 1))⟩, ⟨(some 71), none, .p (.ld none (.tmp 70))⟩, ⟨(some 72), none, .p (.mov (.tmp 5))⟩, ⟨(some 73), none, .p (.iad 4 (.tmp 71) (.tmp 72))⟩, ⟨(some 74), none, .p (.ld (some 4) (.tmp 73))⟩, ⟨(some 6), none, .e (.alc [(.slice none 0 0), (.bool false), (.int .i64 0), (.int .i64 0)])⟩, ⟨none, none, .e (.st 4 (.tmp 6) (.tmp 74))⟩])
  (.seq (.seq (.reg [⟨(some 75), none, .p (.fad 0 (.tmp 6))⟩, ⟨(some 76), none, .p (.ld none (.tmp 75))⟩, ⟨(some 77), none, .p (.len 1 (.tmp 76))⟩, ⟨(some 78), none, .p (.bin .eql (.tmp 77) (.const (.int .i64 0)))⟩, ⟨(some 79), none, .p (.mov (.tmp 78))⟩, ⟨(some 80), (some (79, false)), .p (.fad 2 (.tmp 6))⟩, ⟨(some 81), (some (79, false)), .p (.ld (some 2) (.tmp 80))⟩, ⟨(some 82), (some (79, false)), .e (.call 29 [(.tmp 81)])⟩, ⟨(some 83), (some (79, false)), .p (.un .not (.tmp 82))⟩, ⟨(some 84), none, .p (.pick (.tmp 79) (.const (.bool true)) (.tmp 83))⟩, ⟨(some 85), none, .p (.mov (.tmp 84))⟩, ⟨(some 86), (some (85, false)), .p (.fad 1 (.tmp 6))⟩, ⟨(some 87), (some (85, false)), .p (.ld none (.tmp 86))⟩, ⟨(some 88), (some (85, false)), .p (.un .not (.tmp 87))⟩, ⟨(some 89), (some (85, false)), .p (.mov (.tmp 88))⟩, ⟨(some 90), (some (89, true)), .p (.fad 2 (.tmp 6))⟩, ⟨(some 91), (some (89, true)), .p (.fad 0 (.tmp 90))⟩, ⟨(some 92), (some (89, true)), .p (.ld none (.tmp 91))⟩, ⟨(some 93), (some (89, true)), .p (.bin .neq (.tmp 92) (.const (.int .i64 0)))⟩, ⟨(some 94), (some (85, false)), .p (.pick (.tmp 89) (.tmp 93) (.const (.bool false)))⟩, ⟨(some 95), none, .p (.pick (.tmp 85) (.const (.bool true)) (.tmp 94))⟩])
  (.cond (.tmp 95) (.seq (.reg [⟨(some 2), none, .p (.mov (.const (.bool false)))⟩])
  .ret) .skip))
  (.seq (.reg [⟨(some 7), none, .p (.mov (.const (.int .i64 0)))⟩])
  (.block 4
  (.loop lb11_1))))))
  (.reg [⟨(some 68), none, .p (.mov (.tmp 5))⟩, ⟨(some 69), none, .p (.bin .add (.tmp 68) (.const (.int .i64 1)))⟩, ⟨(some 5), none, .p (.mov (.tmp 69))⟩])))
def lb11_3 : LC :=
  (.seq (.seq (.reg [⟨(some 19), none, .p (.mov (.tmp 3))⟩, ⟨(some 20), none, .p (.fad 0 (.tmp 1))⟩, ⟨(some 21), none, .p (.ld none (.tmp 20))⟩, ⟨(some 22), none, .p (.len 1 (.tmp 21))⟩, ⟨(some 23), none, .p (.bin .lss (.tmp 19) (.tmp 22))⟩])
  (.cond (.tmp 23) .skip (.exit 0)))
  (.seq (.block 1
  (.seq (.reg [⟨(some 26), none, .p (.fad 0 (.tmp 1))⟩, ⟨(some 27), none, .p (.ld none (.tmp 26))⟩, ⟨(some 28), none, .p (.mov (.tmp 3))⟩, ⟨(some 29), none, .p (.iad 2 (.tmp 27) (.tmp 28))⟩, ⟨(some 30), none, .p (.ld (some 2) (.tmp 29))⟩, ⟨(some 31), none, .e (.call 28 [(.tmp 30)])⟩, ⟨(some 4), none, .e (.alc [(.int .i64 0), (.int .i64 0)])⟩, ⟨none, none, .e (.st 2 (.tmp 4) (.tmp 31))⟩])
  (.seq (.reg [⟨(some 32), none, .p (.fad 0 (.tmp 1))⟩, ⟨(some 33), none, .p (.ld none (.tmp 32))⟩, ⟨(some 34), none, .p (.mov (.tmp 3))⟩, ⟨(some 35), none, .p (.iad 2 (.tmp 33) (.tmp 34))⟩, ⟨(some 36), none, .p (.ld (some 2) (.tmp 35))⟩, ⟨(some 37), none, .e (.call 29 [(.tmp 36)])⟩, ⟨(some 38), none, .p (.un .not (.tmp 37))⟩, ⟨(some 39), none, .p (.mov (.tmp 38))⟩, ⟨(some 40), (some (39, false)), .p (.fad 0 (.tmp 4))⟩, ⟨(some 41), (some (39, false)), .p (.ld none (.tmp 40))⟩, ⟨(some 42), (some (39, false)), .p (.fad 1 (.tmp 4))⟩, ⟨(some 43), (some (39, false)), .p (.ld none (.tmp 42))⟩, ⟨(some 44), (some (39, false)), .p (.bin .quo (.tmp 41) (.tmp 43))⟩, ⟨(some 45), (some (39, false)), .p (.bin .gtr (.tmp 44) (.const (.int .i64 1000)))⟩, ⟨(some 46), none, .p (.pick (.tmp 39) (.const (.bool true)) (.tmp 45))⟩, ⟨(some 47), none, .p (.mov (.tmp 46))⟩, ⟨(some 48), (some (47, false)), .p (.fad 0 (.tmp 4))⟩, ⟨(some 49), (some (47, false)), .p (.ld none (.tmp 48))⟩, ⟨(some 50), (some (47, false)), .p (.fad 1 (.tmp 4))⟩, ⟨(some 51), (some (47, false)), .p (.ld none (.tmp 50))⟩, ⟨(some 52), (some (47, false)), .p (.bin .quo (.tmp 49) (.tmp 51))⟩, ⟨(some 53), (some (47, false)), .p (.bin .eql (.tmp 52) (.const (.int .i64 1000)))⟩, ⟨(some 54), (some (47, false)), .p (.mov (.tmp 53))⟩, ⟨(some 55), (some (54, true)), .p (.fad 0 (.tmp 4))⟩, ⟨(some 56), (some (54, true)), .p (.ld none (.tmp 55))⟩, ⟨(some 57), (some (54, true)), .p (.fad 1 (.tmp 4))⟩, ⟨(some 58), (some (54, true)), .p (.ld none (.tmp 57))⟩, ⟨(some 59), (some (54, true)), .p (.bin .rem (.tmp 56) (.tmp 58))⟩, ⟨(some 60), (some (54, true)), .p (.bin .neq (.tmp 59) (.const (.int .i64 0)))⟩, ⟨(some 61), (some (47, false)), .p (.pick (.tmp 54) (.tmp 60) (.const (.bool false)))⟩, ⟨(some 62), none, .p (.pick (.tmp 47) (.const (.bool true)) (.tmp 61))⟩])
  (.cond (.tmp 62) (.seq (.reg [⟨(some 2), none, .p (.mov (.const (.bool false)))⟩])
  .ret) .skip))))
  (.reg [⟨(some 24), none, .p (.mov (.tmp 3))⟩, ⟨(some 25), none, .p (.bin .add (.tmp 24) (.const (.int .i64 1)))⟩, ⟨(some 3), none, .p (.mov (.tmp 25))⟩])))
/-- fairlink fairlinkref33.Valid -/
def cf11 : LC :=
  (.seq (.reg [⟨(some 1), none, .e (.box (.tmp 0))⟩, ⟨(some 2), none, .p (.mov (.const (.bool false)))⟩])
  (.seq (.seq (.reg [⟨(some 9), none, .p (.fad 0 (.tmp 1))⟩, ⟨(some 10), none, .p (.ld none (.tmp 9))⟩, ⟨(some 11), none, .p (.len 1 (.tmp 10))⟩, ⟨(some 12), none, .p (.bin .gtr (.tmp 11) (.const (.int .i64 32)))⟩, ⟨(some 13), none, .p (.mov (.tmp 12))⟩, ⟨(some 14), (some (13, false)), .p (.fad 1 (.tmp 1))⟩, ⟨(some 15), (some (13, false)), .p (.ld none (.tmp 14))⟩, ⟨(some 16), (some (13, false)), .p (.len 1 (.tmp 15))⟩, ⟨(some 17), (some (13, false)), .p (.bin .gtr (.tmp 16) (.const (.int .i64 32)))⟩, ⟨(some 18), none, .p (.pick (.tmp 13) (.const (.bool true)) (.tmp 17))⟩])
  (.cond (.tmp 18) (.seq (.reg [⟨(some 2), none, .p (.mov (.const (.bool false)))⟩])
  .ret) .skip))
  (.seq (.seq (.reg [⟨(some 3), none, .p (.mov (.const (.int .i64 0)))⟩])
  (.block 0
  (.loop lb11_3)))
  (.seq (.seq (.reg [⟨(some 5), none, .p (.mov (.const (.int .i64 0)))⟩])
  (.block 2
  (.loop lb11_2)))
  (.seq (.reg [⟨(some 2), none, .p (.mov (.const (.bool true)))⟩])
  .ret)))))
def rf11 : List RX := [.tmp 2]
set_option maxRecDepth 100000 in
theorem comp11 : cFn Tryd.prog Tryd.f11 = some (erase cf11, rf11) := by kernel_rfl
def lb22_0 : LC :=
  (.seq (.seq (.reg [⟨(some 10), none, .p (.mov (.tmp 8))⟩, ⟨(some 11), none, .p (.fad 1 (.tmp 3))⟩, ⟨(some 12), none, .p (.ld none (.tmp 11))⟩, ⟨(some 13), none, .p (.len 1 (.tmp 12))⟩, ⟨(some 14), none, .p (.bin .lss (.tmp 10) (.tmp 13))⟩])
  (.cond (.tmp 14) .skip (.exit 0)))
  (.seq (.block 1
  (.seq (.reg [⟨(some 17), none, .p (.fad 1 (.tmp 3))⟩, ⟨(some 18), none, .p (.ld none (.tmp 17))⟩, ⟨(some 19), none, .p (.mov (.tmp 8))⟩, ⟨(some 20), none, .p (.iad 4 (.tmp 18) (.tmp 19))⟩, ⟨(some 21), none, .p (.ld (some 4) (.tmp 20))⟩, ⟨(some 22), none, .p (.mov (.tmp 2))⟩, ⟨(some 23), none, .e (.call 41 [(.tmp 21), (.tmp 22)])⟩])
  (.cond (.tmp 23) (.dreg [⟨(some 25), none, .p (.ld (some 2) (.tmp 7))⟩, ⟨(some 26), none, .p (.mov (.tmp 1))⟩, ⟨(some 27), none, .p (.mov (.tmp 8))⟩, ⟨(some 28), none, .p (.iad 2 (.tmp 26) (.tmp 27))⟩, ⟨(some 29), none, .p (.ld (some 2) (.tmp 28))⟩, ⟨(some 30), none, .e (.call 42 [(.tmp 25), (.tmp 29)])⟩, ⟨(some 24), none, .p (.mov (.tmp 30))⟩, ⟨(some 31), none, .p (.ext (.tmp 24) 0)⟩, ⟨(some 32), none, .p (.ext (.tmp 24) 1)⟩] [[⟨none, none, .e (.st 2 (.tmp 7) (.tmp 31))⟩]]) .skip)))
  (.reg [⟨(some 15), none, .p (.mov (.tmp 8))⟩, ⟨(some 16), none, .p (.bin .add (.tmp 15) (.const (.int .i64 1)))⟩, ⟨(some 8), none, .p (.mov (.tmp 16))⟩])))
/-- fairlink fairlinkref33.Load -/
def cf22 : LC :=
  (.seq (.reg [⟨(some 3), none, .e (.box (.tmp 0))⟩, ⟨(some 6), none, .e (.alc [(.int .i64 0), (.int .i64 0)])⟩])
  (.seq (.reg [⟨(some 9), none, .e (.call 40 [])⟩, ⟨(some 7), none, .e (.alc [(.int .i64 0), (.int .i64 0)])⟩, ⟨none, none, .e (.st 2 (.tmp 7) (.tmp 9))⟩])
  (.seq (.seq (.reg [⟨(some 8), none, .p (.mov (.const (.int .i64 0)))⟩])
  (.block 0
  (.loop lb22_0)))
  (.seq (.reg [⟨(some 33), none, .p (.ld (some 2) (.tmp 7))⟩, ⟨none, none, .e (.st 2 (.tmp 6) (.tmp 33))⟩])
  .ret))))
def rf22 : List RX := [.cell 6 (some 2)]
set_option maxRecDepth 100000 in
theorem comp22 : cFn Tryd.prog Tryd.f22 = some (erase cf22, rf22) := by kernel_rfl
def lb23_0 : LC :=
  (.seq (.seq (.reg [⟨(some 47), none, .p (.mov (.tmp 6))⟩, ⟨(some 48), none, .p (.fad 0 (.tmp 2))⟩, ⟨(some 49), none, .p (.ld none (.tmp 48))⟩, ⟨(some 50), none, .p (.len 1 (.tmp 49))⟩, ⟨(some 51), none, .p (.bin .lss (.tmp 47) (.tmp 50))⟩])
  (.cond (.tmp 51) .skip (.exit 2)))
  (.seq (.block 3
  (.seq (.dreg [⟨(some 54), none, .p (.ld (some 2) (.tmp 2))⟩, ⟨(some 55), none, .p (.mov (.tmp 1))⟩, ⟨(some 56), none, .p (.mov (.tmp 6))⟩, ⟨(some 57), none, .e (.call 22 [(.tmp 54), (.tmp 55), (.tmp 56)])⟩, ⟨(some 58), none, .p (.fad 0 (.tmp 2))⟩, ⟨(some 59), none, .p (.ld none (.tmp 58))⟩, ⟨(some 60), none, .p (.mov (.tmp 6))⟩, ⟨(some 61), none, .p (.iad 2 (.tmp 59) (.tmp 60))⟩, ⟨(some 62), none, .p (.ld (some 2) (.tmp 61))⟩, ⟨(some 63), none, .e (.call 43 [(.tmp 57), (.tmp 62)])⟩] [[⟨(some 64), none, .p (.bin .gtr (.tmp 63) (.const (.int .i64 0)))⟩]])
  (.cond (.tmp 64) (.seq (.reg [⟨(some 4), none, .p (.mov (.const (.bool false)))⟩])
  .ret) .skip)))
  (.reg [⟨(some 52), none, .p (.mov (.tmp 6))⟩, ⟨(some 53), none, .p (.bin .add (.tmp 52) (.const (.int .i64 1)))⟩, ⟨(some 6), none, .p (.mov (.tmp 53))⟩])))
def lb23_1 : LC :=
  (.seq (.seq (.reg [⟨(some 13), none, .p (.mov (.tmp 5))⟩, ⟨(some 14), none, .p (.mov (.tmp 1))⟩, ⟨(some 15), none, .p (.len 1 (.tmp 14))⟩, ⟨(some 16), none, .p (.bin .lss (.tmp 13) (.tmp 15))⟩])
  (.cond (.tmp 16) .skip (.exit 0)))
  (.seq (.block 1
  (.seq (.dreg [⟨(some 19), none, .p (.mov (.tmp 1))⟩, ⟨(some 20), none, .p (.mov (.tmp 5))⟩, ⟨(some 21), none, .p (.iad 2 (.tmp 19) (.tmp 20))⟩, ⟨(some 22), none, .p (.ld (some 2) (.tmp 21))⟩, ⟨(some 23), none, .e (.call 29 [(.tmp 22)])⟩, ⟨(some 24), none, .p (.un .not (.tmp 23))⟩, ⟨(some 25), none, .p (.mov (.tmp 24))⟩, ⟨(some 26), (some (25, false)), .p (.fad 1 (.tmp 2))⟩, ⟨(some 27), (some (25, false)), .p (.ld none (.tmp 26))⟩, ⟨(some 28), (some (25, false)), .p (.mov (.tmp 5))⟩, ⟨(some 29), (some (25, false)), .p (.iad 4 (.tmp 27) (.tmp 28))⟩, ⟨(some 30), (some (25, false)), .p (.fad 1 (.tmp 29))⟩, ⟨(some 31), (some (25, false)), .p (.ld none (.tmp 30))⟩, ⟨(some 32), (some (25, false)), .p (.mov (.tmp 31))⟩, ⟨(some 33), (some (32, true)), .p (.mov (.tmp 1))⟩, ⟨(some 34), (some (32, true)), .p (.mov (.tmp 5))⟩, ⟨(some 35), (some (32, true)), .p (.iad 2 (.tmp 33) (.tmp 34))⟩, ⟨(some 36), (some (32, true)), .p (.ld (some 2) (.tmp 35))⟩, ⟨(some 37), (some (32, true)), .p (.fad 1 (.tmp 2))⟩, ⟨(some 38), (some (32, true)), .p (.ld none (.tmp 37))⟩, ⟨(some 39), (some (32, true)), .p (.mov (.tmp 5))⟩, ⟨(some 40), (some (32, true)), .p (.iad 4 (.tmp 38) (.tmp 39))⟩, ⟨(some 41), (some (32, true)), .p (.fad 2 (.tmp 40))⟩, ⟨(some 42), (some (32, true)), .p (.ld (some 2) (.tmp 41))⟩, ⟨(some 43), (some (32, true)), .e (.call 43 [(.tmp 36), (.tmp 42)])⟩, ⟨(some 44), (some (32, true)), .p (.bin .gtr (.tmp 43) (.const (.int .i64 0)))⟩, ⟨(some 45), (some (25, false)), .p (.pick (.tmp 32) (.tmp 44) (.const (.bool false)))⟩] [[⟨(some 46), none, .p (.pick (.tmp 25) (.const (.bool true)) (.tmp 45))⟩]])
  (.cond (.tmp 46) (.seq (.reg [⟨(some 4), none, .p (.mov (.const (.bool false)))⟩])
  .ret) .skip)))
  (.reg [⟨(some 17), none, .p (.mov (.tmp 5))⟩, ⟨(some 18), none, .p (.bin .add (.tmp 17) (.const (.int .i64 1)))⟩, ⟨(some 5), none, .p (.mov (.tmp 18))⟩])))
/-- fairlink fairlinkref33.Feasible -/
def cf23 : LC :=
  (.seq (.reg [⟨(some 2), none, .e (.box (.tmp 0))⟩, ⟨(some 4), none, .p (.mov (.const (.bool false)))⟩])
  (.seq (.seq (.reg [⟨(some 7), none, .p (.mov (.tmp 1))⟩, ⟨(some 8), none, .p (.len 1 (.tmp 7))⟩, ⟨(some 9), none, .p (.fad 1 (.tmp 2))⟩, ⟨(some 10), none, .p (.ld none (.tmp 9))⟩, ⟨(some 11), none, .p (.len 1 (.tmp 10))⟩, ⟨(some 12), none, .p (.bin .neq (.tmp 8) (.tmp 11))⟩])
  (.cond (.tmp 12) (.seq (.reg [⟨(some 4), none, .p (.mov (.const (.bool false)))⟩])
  .ret) .skip))
  (.seq (.seq (.reg [⟨(some 5), none, .p (.mov (.const (.int .i64 0)))⟩])
  (.block 0
  (.loop lb23_1)))
  (.seq (.seq (.reg [⟨(some 6), none, .p (.mov (.const (.int .i64 0)))⟩])
  (.block 2
  (.loop lb23_0)))
  (.seq (.reg [⟨(some 4), none, .p (.mov (.const (.bool true)))⟩])
  .ret)))))
def rf23 : List RX := [.tmp 4]
set_option maxRecDepth 100000 in
theorem comp23 : cFn Tryd.prog Tryd.f23 = some (erase cf23, rf23) := by kernel_rfl
/-- fairlink fairlinkref33.Fits -/
def cf29 : LC :=
  (.seq (.reg [⟨(some 1), none, .e (.box (.tmp 0))⟩, ⟨(some 2), none, .p (.mov (.const (.bool false)))⟩])
  (.seq (.reg [⟨(some 3), none, .p (.ld (some 2) (.tmp 1))⟩, ⟨(some 4), none, .e (.call 49 [(.tmp 3)])⟩, ⟨(some 5), none, .p (.mov (.tmp 4))⟩, ⟨(some 6), (some (5, true)), .p (.fad 0 (.tmp 1))⟩, ⟨(some 7), (some (5, true)), .p (.ld none (.tmp 6))⟩, ⟨(some 8), (some (5, true)), .p (.bin .geq (.tmp 7) (.const (.int .i64 0)))⟩, ⟨(some 9), none, .p (.pick (.tmp 5) (.tmp 8) (.const (.bool false)))⟩, ⟨(some 2), none, .p (.mov (.tmp 9))⟩])
  .ret))
def rf29 : List RX := [.tmp 2]
set_option maxRecDepth 100000 in
theorem comp29 : cFn Tryd.prog Tryd.f29 = some (erase cf29, rf29) := by kernel_rfl
/-- fairlink fairlinkref33.zero -/
def cf40 : LC :=
  (.seq (.reg [⟨(some 0), none, .e (.alc [(.int .i64 0), (.int .i64 0)])⟩])
  (.seq (.reg [⟨(some 1), none, .p (.bld [(.int .i64 0), (.int .i64 0)] [(0, 1, (.const (.int .i64 0))), (1, 1, (.const (.int .i64 1)))])⟩, ⟨none, none, .e (.st 2 (.tmp 0) (.tmp 1))⟩])
  .ret))
def rf40 : List RX := [.cell 0 (some 2)]
set_option maxRecDepth 100000 in
theorem comp40 : cFn Tryd.prog Tryd.f40 = some (erase cf40, rf40) := by kernel_rfl
def lb41_0 : LC :=
  (.seq (.seq (.reg [⟨(some 6), none, .p (.mov (.tmp 5))⟩, ⟨(some 7), none, .p (.fad 0 (.tmp 2))⟩, ⟨(some 8), none, .p (.ld none (.tmp 7))⟩, ⟨(some 9), none, .p (.len 1 (.tmp 8))⟩, ⟨(some 10), none, .p (.bin .lss (.tmp 6) (.tmp 9))⟩])
  (.cond (.tmp 10) .skip (.exit 0)))
  (.seq (.block 1
  (.seq (.reg [⟨(some 13), none, .p (.fad 0 (.tmp 2))⟩, ⟨(some 14), none, .p (.ld none (.tmp 13))⟩, ⟨(some 15), none, .p (.mov (.tmp 5))⟩, ⟨(some 16), none, .p (.iad 1 (.tmp 14) (.tmp 15))⟩, ⟨(some 17), none, .p (.ld none (.tmp 16))⟩, ⟨(some 18), none, .p (.mov (.tmp 1))⟩, ⟨(some 19), none, .p (.bin .eql (.tmp 17) (.tmp 18))⟩])
  (.cond (.tmp 19) (.seq (.reg [⟨(some 4), none, .p (.mov (.const (.bool true)))⟩])
  .ret) .skip)))
  (.reg [⟨(some 11), none, .p (.mov (.tmp 5))⟩, ⟨(some 12), none, .p (.bin .add (.tmp 11) (.const (.int .i64 1)))⟩, ⟨(some 5), none, .p (.mov (.tmp 12))⟩])))
/-- fairlink fairlinkref33.Uses -/
def cf41 : LC :=
  (.seq (.reg [⟨(some 2), none, .e (.box (.tmp 0))⟩, ⟨(some 4), none, .p (.mov (.const (.bool false)))⟩])
  (.seq (.seq (.reg [⟨(some 5), none, .p (.mov (.const (.int .i64 0)))⟩])
  (.block 0
  (.loop lb41_0)))
  (.seq (.reg [⟨(some 4), none, .p (.mov (.const (.bool false)))⟩])
  .ret)))
def rf41 : List RX := [.tmp 4]
set_option maxRecDepth 100000 in
theorem comp41 : cFn Tryd.prog Tryd.f41 = some (erase cf41, rf41) := by kernel_rfl
end Go.Proofs.YtdfiicpikcdokaaDoor
namespace Go.Proofs.YtdfiicpikcdokaaDoor
/-- fairlink rational.Add -/
def cf13 : LC :=
  (.seq (.reg [⟨(some 2), none, .e (.box (.tmp 0))⟩, ⟨(some 3), none, .e (.box (.tmp 1))⟩, ⟨(some 4), none, .e (.alc [(.int .i64 0), (.int .i64 0)])⟩, ⟨(some 5), none, .p (.mov (.const (.int .i64 0)))⟩])
  (.seq (.seq (.reg [⟨(some 17), none, .p (.ld (some 2) (.tmp 2))⟩, ⟨(some 18), none, .e (.call 24 [(.tmp 17)])⟩, ⟨(some 19), none, .p (.un .not (.tmp 18))⟩, ⟨(some 20), none, .p (.mov (.tmp 19))⟩, ⟨(some 21), (some (20, false)), .p (.ld (some 2) (.tmp 3))⟩, ⟨(some 22), (some (20, false)), .e (.call 24 [(.tmp 21)])⟩, ⟨(some 23), (some (20, false)), .p (.un .not (.tmp 22))⟩, ⟨(some 24), none, .p (.pick (.tmp 20) (.const (.bool true)) (.tmp 23))⟩])
  (.cond (.tmp 24) (.seq (.reg [⟨(some 25), none, .p (.bld [(.int .i64 0), (.int .i64 0)] [])⟩, ⟨none, none, .e (.st 2 (.tmp 4) (.tmp 25))⟩, ⟨(some 5), none, .p (.mov (.const (.int .i64 1)))⟩])
  .ret) .skip))
  (.seq (.dreg [⟨(some 26), none, .p (.ld (some 2) (.tmp 2))⟩, ⟨(some 27), none, .e (.call 30 [(.tmp 26)])⟩, ⟨(some 28), none, .p (.ld (some 2) (.tmp 3))⟩, ⟨(some 29), none, .e (.call 30 [(.tmp 28)])⟩] [[⟨none, none, .e (.st 2 (.tmp 2) (.tmp 27))⟩, ⟨none, none, .e (.st 2 (.tmp 3) (.tmp 29))⟩]])
  (.seq (.dreg [⟨(some 30), none, .p (.fad 1 (.tmp 2))⟩, ⟨(some 31), none, .p (.ld none (.tmp 30))⟩, ⟨(some 32), none, .e (.call 32 [(.tmp 31)])⟩, ⟨(some 33), none, .p (.fad 1 (.tmp 3))⟩, ⟨(some 34), none, .p (.ld none (.tmp 33))⟩, ⟨(some 35), none, .e (.call 32 [(.tmp 34)])⟩, ⟨(some 36), none, .e (.call 31 [(.tmp 32), (.tmp 35)])⟩] [[⟨(some 6), none, .p (.mov (.tmp 36))⟩]])
  (.seq (.dreg [⟨(some 37), none, .p (.fad 1 (.tmp 2))⟩, ⟨(some 38), none, .p (.ld none (.tmp 37))⟩, ⟨(some 39), none, .e (.call 32 [(.tmp 38)])⟩, ⟨(some 40), none, .p (.mov (.tmp 6))⟩, ⟨(some 41), none, .p (.bin .quo (.tmp 39) (.tmp 40))⟩, ⟨(some 42), none, .p (.fad 1 (.tmp 3))⟩, ⟨(some 43), none, .p (.ld none (.tmp 42))⟩, ⟨(some 44), none, .e (.call 32 [(.tmp 43)])⟩, ⟨(some 45), none, .p (.mov (.tmp 6))⟩, ⟨(some 46), none, .p (.bin .quo (.tmp 44) (.tmp 45))⟩, ⟨(some 7), none, .p (.mov (.tmp 41))⟩] [[⟨(some 8), none, .p (.mov (.tmp 46))⟩]])
  (.seq (.dreg [⟨(some 47), none, .p (.fad 0 (.tmp 2))⟩, ⟨(some 48), none, .p (.ld none (.tmp 47))⟩, ⟨(some 49), none, .p (.mov (.tmp 8))⟩, ⟨(some 50), none, .e (.ecl 33 [(.tmp 48), (.tmp 49)])⟩, ⟨(some 51), none, .p (.fad 0 (.tmp 3))⟩, ⟨(some 52), none, .p (.ld none (.tmp 51))⟩, ⟨(some 53), none, .p (.mov (.tmp 7))⟩, ⟨(some 54), none, .e (.ecl 33 [(.tmp 52), (.tmp 53)])⟩, ⟨(some 55), none, .e (.ecl 34 [(.tmp 50), (.tmp 54)])⟩] [[⟨(some 9), none, .e (.alc [(.bool false), (.int .u64 0), (.int .u64 0)])⟩, ⟨none, none, .e (.st 3 (.tmp 9) (.tmp 55))⟩]])
  (.seq (.seq (.reg [⟨(some 56), none, .p (.fad 1 (.tmp 9))⟩, ⟨(some 57), none, .p (.ld none (.tmp 56))⟩, ⟨(some 58), none, .p (.bin .eql (.tmp 57) (.const (.int .u64 0)))⟩, ⟨(some 59), none, .p (.mov (.tmp 58))⟩, ⟨(some 60), (some (59, true)), .p (.fad 2 (.tmp 9))⟩, ⟨(some 61), (some (59, true)), .p (.ld none (.tmp 60))⟩, ⟨(some 62), (some (59, true)), .p (.bin .eql (.tmp 61) (.const (.int .u64 0)))⟩, ⟨(some 63), none, .p (.pick (.tmp 59) (.tmp 62) (.const (.bool false)))⟩])
  (.cond (.tmp 63) (.seq (.reg [⟨(some 64), none, .p (.bld [(.int .i64 0), (.int .i64 0)] [(0, 1, (.const (.int .i64 0))), (1, 1, (.const (.int .i64 1)))])⟩, ⟨none, none, .e (.st 2 (.tmp 4) (.tmp 64))⟩, ⟨(some 5), none, .p (.mov (.const (.int .i64 0)))⟩])
  .ret) .skip))
  (.seq (.reg [⟨(some 66), none, .p (.ld (some 3) (.tmp 9))⟩, ⟨(some 67), none, .p (.mov (.tmp 6))⟩, ⟨(some 68), none, .e (.call 35 [(.tmp 66), (.tmp 67)])⟩, ⟨(some 65), none, .p (.mov (.tmp 68))⟩, ⟨(some 69), none, .p (.ext (.tmp 65) 0)⟩, ⟨(some 70), none, .p (.ext (.tmp 65) 1)⟩, ⟨(some 10), none, .e (.alc [(.bool false), (.int .u64 0), (.int .u64 0)])⟩, ⟨none, none, .e (.st 3 (.tmp 10) (.tmp 69))⟩, ⟨(some 11), none, .p (.mov (.tmp 70))⟩])
  (.seq (.reg [⟨(some 71), none, .p (.mov (.tmp 6))⟩, ⟨(some 72), none, .p (.mov (.tmp 11))⟩, ⟨(some 73), none, .e (.call 31 [(.tmp 71), (.tmp 72)])⟩, ⟨(some 12), none, .p (.mov (.tmp 73))⟩])
  (.seq (.reg [⟨(some 75), none, .p (.ld (some 3) (.tmp 9))⟩, ⟨(some 76), none, .p (.mov (.tmp 12))⟩, ⟨(some 77), none, .e (.call 35 [(.tmp 75), (.tmp 76)])⟩, ⟨(some 74), none, .p (.mov (.tmp 77))⟩, ⟨(some 78), none, .p (.ext (.tmp 74) 0)⟩, ⟨(some 79), none, .p (.ext (.tmp 74) 1)⟩, ⟨(some 13), none, .e (.alc [(.bool false), (.int .u64 0), (.int .u64 0)])⟩, ⟨none, none, .e (.st 3 (.tmp 13) (.tmp 78))⟩, ⟨(some 14), none, .p (.mov (.tmp 79))⟩])
  (.seq (.reg [⟨(some 81), none, .p (.mov (.tmp 7))⟩, ⟨(some 82), none, .p (.fad 1 (.tmp 3))⟩, ⟨(some 83), none, .p (.ld none (.tmp 82))⟩, ⟨(some 84), none, .e (.call 32 [(.tmp 83)])⟩, ⟨(some 85), none, .p (.mov (.tmp 12))⟩, ⟨(some 86), none, .p (.bin .quo (.tmp 84) (.tmp 85))⟩, ⟨(some 87), none, .e (.call 36 [(.tmp 81), (.tmp 86)])⟩, ⟨(some 80), none, .p (.mov (.tmp 87))⟩, ⟨(some 88), none, .p (.ext (.tmp 80) 0)⟩, ⟨(some 89), none, .p (.ext (.tmp 80) 1)⟩, ⟨(some 15), none, .p (.mov (.tmp 88))⟩, ⟨(some 16), none, .p (.mov (.tmp 89))⟩])
  (.seq (.reg [⟨(some 90), none, .p (.ld (some 3) (.tmp 13))⟩, ⟨(some 91), none, .p (.mov (.tmp 15))⟩, ⟨(some 92), none, .p (.mov (.tmp 16))⟩, ⟨(some 93), none, .p (.bld [(.bool false), (.int .u64 0), (.int .u64 0)] [(0, 1, (.const (.bool false))), (1, 1, (.tmp 91)), (2, 1, (.tmp 92))])⟩, ⟨(some 94), none, .e (.call 37 [(.tmp 90), (.tmp 93)])⟩, ⟨(some 95), none, .p (.ext (.tmp 94) 0)⟩, ⟨(some 96), none, .p (.ext (.tmp 94) 1)⟩, ⟨none, none, .e (.st 2 (.tmp 4) (.tmp 95))⟩, ⟨(some 5), none, .p (.mov (.tmp 96))⟩])
  .ret))))))))))))
def rf13 : List RX := [.cell 4 (some 2), .tmp 5]
set_option maxRecDepth 100000 in
theorem comp13 : cFn Tryd.prog Tryd.f13 = some (erase cf13, rf13) := by kernel_rfl
/-- fairlink rational.Cmp -/
def cf15 : LC :=
  (.seq (.reg [⟨(some 2), none, .e (.box (.tmp 0))⟩, ⟨(some 3), none, .e (.box (.tmp 1))⟩, ⟨(some 4), none, .p (.mov (.const (.int .i64 0)))⟩])
  (.seq (.seq (.reg [⟨(some 7), none, .p (.ld (some 2) (.tmp 2))⟩, ⟨(some 8), none, .e (.call 24 [(.tmp 7)])⟩, ⟨(some 9), none, .p (.un .not (.tmp 8))⟩, ⟨(some 10), none, .p (.mov (.tmp 9))⟩, ⟨(some 11), (some (10, false)), .p (.ld (some 2) (.tmp 3))⟩, ⟨(some 12), (some (10, false)), .e (.call 24 [(.tmp 11)])⟩, ⟨(some 13), (some (10, false)), .p (.un .not (.tmp 12))⟩, ⟨(some 14), none, .p (.pick (.tmp 10) (.const (.bool true)) (.tmp 13))⟩])
  (.cond (.tmp 14) (.seq (.reg [⟨(some 4), none, .p (.mov (.const (.int .i64 0)))⟩])
  .ret) .skip))
  (.seq (.dreg [⟨(some 15), none, .p (.ld (some 2) (.tmp 2))⟩, ⟨(some 16), none, .e (.call 30 [(.tmp 15)])⟩, ⟨(some 17), none, .p (.ld (some 2) (.tmp 3))⟩, ⟨(some 18), none, .e (.call 30 [(.tmp 17)])⟩] [[⟨none, none, .e (.st 2 (.tmp 2) (.tmp 16))⟩, ⟨none, none, .e (.st 2 (.tmp 3) (.tmp 18))⟩]])
  (.seq (.dreg [⟨(some 19), none, .p (.fad 0 (.tmp 2))⟩, ⟨(some 20), none, .p (.ld none (.tmp 19))⟩, ⟨(some 21), none, .p (.fad 1 (.tmp 3))⟩, ⟨(some 22), none, .p (.ld none (.tmp 21))⟩, ⟨(some 23), none, .e (.ecl 32 [(.tmp 22)])⟩, ⟨(some 24), none, .e (.ecl 33 [(.tmp 20), (.tmp 23)])⟩, ⟨(some 25), none, .p (.fad 0 (.tmp 3))⟩, ⟨(some 26), none, .p (.ld none (.tmp 25))⟩, ⟨(some 27), none, .p (.fad 1 (.tmp 2))⟩, ⟨(some 28), none, .p (.ld none (.tmp 27))⟩, ⟨(some 29), none, .e (.ecl 32 [(.tmp 28)])⟩, ⟨(some 30), none, .e (.ecl 33 [(.tmp 26), (.tmp 29)])⟩] [[⟨(some 5), none, .e (.alc [(.bool false), (.int .u64 0), (.int .u64 0)])⟩, ⟨(some 6), none, .e (.alc [(.bool false), (.int .u64 0), (.int .u64 0)])⟩, ⟨none, none, .e (.st 3 (.tmp 5) (.tmp 24))⟩, ⟨none, none, .e (.st 3 (.tmp 6) (.tmp 30))⟩], [⟨(some 6), none, .e (.alc [(.bool false), (.int .u64 0), (.int .u64 0)])⟩, ⟨(some 5), none, .e (.alc [(.bool false), (.int .u64 0), (.int .u64 0)])⟩, ⟨none, none, .e (.st 3 (.tmp 5) (.tmp 24))⟩, ⟨none, none, .e (.st 3 (.tmp 6) (.tmp 30))⟩]])
  (.seq (.block 0
  (.seq (.reg [⟨(some 32), none, .p (.fad 0 (.tmp 5))⟩, ⟨(some 33), none, .p (.ld none (.tmp 32))⟩, ⟨(some 34), none, .p (.mov (.tmp 33))⟩, ⟨(some 35), (some (34, true)), .p (.fad 0 (.tmp 6))⟩, ⟨(some 36), (some (34, true)), .p (.ld none (.tmp 35))⟩, ⟨(some 37), none, .p (.pick (.tmp 34) (.tmp 36) (.const (.bool false)))⟩, ⟨(some 31), none, .p (.mov (.tmp 37))⟩])
  (.cond (.tmp 31) (.seq (.reg [⟨(some 38), none, .p (.ld (some 3) (.tmp 6))⟩, ⟨(some 39), none, .p (.ld (some 3) (.tmp 5))⟩, ⟨(some 40), none, .e (.call 39 [(.tmp 38), (.tmp 39)])⟩, ⟨(some 4), none, .p (.mov (.tmp 40))⟩])
  .ret) (.seq (.reg [⟨(some 42), none, .p (.fad 0 (.tmp 5))⟩, ⟨(some 43), none, .p (.ld none (.tmp 42))⟩, ⟨(some 41), none, .p (.mov (.tmp 43))⟩])
  (.cond (.tmp 41) (.seq (.reg [⟨(some 4), none, .p (.mov (.const (.int .i64 (-1))))⟩])
  .ret) (.seq (.reg [⟨(some 45), none, .p (.fad 0 (.tmp 6))⟩, ⟨(some 46), none, .p (.ld none (.tmp 45))⟩, ⟨(some 44), none, .p (.mov (.tmp 46))⟩])
  (.cond (.tmp 44) (.seq (.reg [⟨(some 4), none, .p (.mov (.const (.int .i64 1)))⟩])
  .ret) .skip)))))))
  (.seq (.reg [⟨(some 47), none, .p (.ld (some 3) (.tmp 5))⟩, ⟨(some 48), none, .p (.ld (some 3) (.tmp 6))⟩, ⟨(some 49), none, .e (.call 39 [(.tmp 47), (.tmp 48)])⟩, ⟨(some 4), none, .p (.mov (.tmp 49))⟩])
  .ret))))))
def rf15 : List RX := [.tmp 4]
set_option maxRecDepth 100000 in
theorem comp15 : cFn Tryd.prog Tryd.f15 = some (erase cf15, rf15) := by kernel_rfl
/-- fairlink rational.Valid -/
def cf24 : LC :=
  (.seq (.reg [⟨(some 1), none, .e (.box (.tmp 0))⟩, ⟨(some 2), none, .p (.mov (.const (.bool false)))⟩])
  (.seq (.seq (.reg [⟨(some 3), none, .p (.fad 0 (.tmp 1))⟩, ⟨(some 4), none, .p (.ld none (.tmp 3))⟩, ⟨(some 5), none, .p (.bin .eql (.tmp 4) (.const (.int .i64 0)))⟩, ⟨(some 6), none, .p (.mov (.tmp 5))⟩, ⟨(some 7), (some (6, true)), .p (.fad 1 (.tmp 1))⟩, ⟨(some 8), (some (6, true)), .p (.ld none (.tmp 7))⟩, ⟨(some 9), (some (6, true)), .p (.bin .eql (.tmp 8) (.const (.int .i64 0)))⟩, ⟨(some 10), none, .p (.pick (.tmp 6) (.tmp 9) (.const (.bool false)))⟩])
  (.cond (.tmp 10) (.seq (.reg [⟨(some 2), none, .p (.mov (.const (.bool true)))⟩])
  .ret) .skip))
  (.seq (.dreg [⟨(some 11), none, .p (.fad 1 (.tmp 1))⟩, ⟨(some 12), none, .p (.ld none (.tmp 11))⟩, ⟨(some 13), none, .p (.bin .geq (.tmp 12) (.const (.int .i64 1)))⟩, ⟨(some 14), none, .p (.mov (.tmp 13))⟩, ⟨(some 15), (some (14, true)), .p (.fad 1 (.tmp 1))⟩, ⟨(some 16), (some (14, true)), .p (.ld none (.tmp 15))⟩, ⟨(some 17), (some (14, true)), .p (.bin .leq (.tmp 16) (.const (.int .i64 1152921504606846976)))⟩, ⟨(some 18), none, .p (.pick (.tmp 14) (.tmp 17) (.const (.bool false)))⟩, ⟨(some 19), none, .p (.mov (.tmp 18))⟩, ⟨(some 20), (some (19, true)), .p (.fad 0 (.tmp 1))⟩, ⟨(some 21), (some (19, true)), .p (.ld none (.tmp 20))⟩, ⟨(some 22), (some (19, true)), .p (.bin .geq (.tmp 21) (.const (.int .i64 (-1152921504606846976))))⟩, ⟨(some 23), none, .p (.pick (.tmp 19) (.tmp 22) (.const (.bool false)))⟩, ⟨(some 24), none, .p (.mov (.tmp 23))⟩, ⟨(some 25), (some (24, true)), .p (.fad 0 (.tmp 1))⟩, ⟨(some 26), (some (24, true)), .p (.ld none (.tmp 25))⟩, ⟨(some 27), (some (24, true)), .p (.bin .leq (.tmp 26) (.const (.int .i64 1152921504606846976)))⟩, ⟨(some 28), none, .p (.pick (.tmp 24) (.tmp 27) (.const (.bool false)))⟩, ⟨(some 29), none, .p (.mov (.tmp 28))⟩, ⟨(some 30), (some (29, true)), .p (.fad 0 (.tmp 1))⟩, ⟨(some 31), (some (29, true)), .p (.ld none (.tmp 30))⟩, ⟨(some 32), (some (29, true)), .e (.call 32 [(.tmp 31)])⟩, ⟨(some 33), (some (29, true)), .p (.fad 1 (.tmp 1))⟩, ⟨(some 34), (some (29, true)), .p (.ld none (.tmp 33))⟩, ⟨(some 35), (some (29, true)), .e (.call 32 [(.tmp 34)])⟩, ⟨(some 36), (some (29, true)), .e (.call 31 [(.tmp 32), (.tmp 35)])⟩, ⟨(some 37), (some (29, true)), .p (.bin .eql (.tmp 36) (.const (.int .u64 1)))⟩, ⟨(some 38), none, .p (.pick (.tmp 29) (.tmp 37) (.const (.bool false)))⟩] [[⟨(some 2), none, .p (.mov (.tmp 38))⟩]])
  .ret)))
def rf24 : List RX := [.tmp 2]
set_option maxRecDepth 100000 in
theorem comp24 : cFn Tryd.prog Tryd.f24 = some (erase cf24, rf24) := by kernel_rfl
/-- fairlink rational.normal -/
def cf30 : LC :=
  (.seq (.reg [⟨(some 1), none, .e (.box (.tmp 0))⟩, ⟨(some 2), none, .e (.alc [(.int .i64 0), (.int .i64 0)])⟩])
  (.seq (.seq (.reg [⟨(some 3), none, .p (.fad 1 (.tmp 1))⟩, ⟨(some 4), none, .p (.ld none (.tmp 3))⟩, ⟨(some 5), none, .p (.bin .eql (.tmp 4) (.const (.int .i64 0)))⟩])
  (.cond (.tmp 5) (.reg [⟨(some 6), none, .p (.fad 1 (.tmp 1))⟩, ⟨none, none, .e (.st 1 (.tmp 6) (.const (.int .i64 1)))⟩]) .skip))
  (.seq (.reg [⟨(some 7), none, .p (.ld (some 2) (.tmp 1))⟩, ⟨none, none, .e (.st 2 (.tmp 2) (.tmp 7))⟩])
  .ret)))
def rf30 : List RX := [.cell 2 (some 2)]
set_option maxRecDepth 100000 in
theorem comp30 : cFn Tryd.prog Tryd.f30 = some (erase cf30, rf30) := by kernel_rfl
def lb31_0 : LC :=
  (.seq (.seq (.reg [⟨(some 5), none, .p (.mov (.tmp 1))⟩, ⟨(some 6), none, .p (.bin .neq (.tmp 5) (.const (.int .u64 0)))⟩])
  (.cond (.tmp 6) .skip (.exit 0)))
  (.block 1
  (.dreg [⟨(some 7), none, .p (.mov (.tmp 1))⟩, ⟨(some 8), none, .p (.mov (.tmp 0))⟩, ⟨(some 9), none, .p (.mov (.tmp 1))⟩, ⟨(some 10), none, .p (.bin .rem (.tmp 8) (.tmp 9))⟩, ⟨(some 0), none, .p (.mov (.tmp 7))⟩] [[⟨(some 1), none, .p (.mov (.tmp 10))⟩]])))
/-- fairlink rational.gcd -/
def cf31 : LC :=
  (.seq (.reg [⟨(some 4), none, .p (.mov (.const (.int .u64 0)))⟩])
  (.seq (.block 0
  (.loop lb31_0))
  (.seq (.reg [⟨(some 11), none, .p (.mov (.tmp 0))⟩, ⟨(some 4), none, .p (.mov (.tmp 11))⟩])
  .ret)))
def rf31 : List RX := [.tmp 4]
set_option maxRecDepth 100000 in
theorem comp31 : cFn Tryd.prog Tryd.f31 = some (erase cf31, rf31) := by kernel_rfl
/-- fairlink rational.size -/
def cf32 : LC :=
  (.seq (.reg [⟨(some 2), none, .p (.mov (.const (.int .u64 0)))⟩])
  (.seq (.seq (.reg [⟨(some 3), none, .p (.mov (.tmp 0))⟩, ⟨(some 4), none, .p (.bin .lss (.tmp 3) (.const (.int .i64 0)))⟩])
  (.cond (.tmp 4) (.seq (.reg [⟨(some 5), none, .p (.mov (.tmp 0))⟩, ⟨(some 6), none, .p (.cvt .u64 (.tmp 5))⟩, ⟨(some 7), none, .p (.un .neg (.tmp 6))⟩, ⟨(some 2), none, .p (.mov (.tmp 7))⟩])
  .ret) .skip))
  (.seq (.reg [⟨(some 8), none, .p (.mov (.tmp 0))⟩, ⟨(some 9), none, .p (.cvt .u64 (.tmp 8))⟩, ⟨(some 2), none, .p (.mov (.tmp 9))⟩])
  .ret)))
def rf32 : List RX := [.tmp 2]
set_option maxRecDepth 100000 in
theorem comp32 : cFn Tryd.prog Tryd.f32 = some (erase cf32, rf32) := by kernel_rfl
/-- fairlink rational.product -/
def cf33 : LC :=
  (.seq (.reg [⟨(some 4), none, .e (.alc [(.bool false), (.int .u64 0), (.int .u64 0)])⟩])
  (.seq (.reg [⟨(some 8), none, .p (.mov (.tmp 0))⟩, ⟨(some 9), none, .e (.call 32 [(.tmp 8)])⟩, ⟨(some 10), none, .p (.mov (.tmp 1))⟩, ⟨(some 11), none, .e (.call 36 [(.tmp 9), (.tmp 10)])⟩, ⟨(some 7), none, .p (.mov (.tmp 11))⟩, ⟨(some 12), none, .p (.ext (.tmp 7) 0)⟩, ⟨(some 13), none, .p (.ext (.tmp 7) 1)⟩, ⟨(some 5), none, .p (.mov (.tmp 12))⟩, ⟨(some 6), none, .p (.mov (.tmp 13))⟩])
  (.seq (.reg [⟨(some 14), none, .p (.mov (.tmp 0))⟩, ⟨(some 15), none, .p (.bin .lss (.tmp 14) (.const (.int .i64 0)))⟩, ⟨(some 16), none, .p (.mov (.tmp 5))⟩, ⟨(some 17), none, .p (.mov (.tmp 6))⟩, ⟨(some 18), none, .p (.bld [(.bool false), (.int .u64 0), (.int .u64 0)] [(0, 1, (.tmp 15)), (1, 1, (.tmp 16)), (2, 1, (.tmp 17))])⟩, ⟨none, none, .e (.st 3 (.tmp 4) (.tmp 18))⟩])
  .ret)))
def rf33 : List RX := [.cell 4 (some 3)]
set_option maxRecDepth 100000 in
theorem comp33 : cFn Tryd.prog Tryd.f33 = some (erase cf33, rf33) := by kernel_rfl
/--  fairlink rational.wide .add -/
def cf34 : LC :=
  (.seq (.reg [⟨(some 2), none, .e (.box (.tmp 0))⟩, ⟨(some 3), none, .e (.box (.tmp 1))⟩, ⟨(some 4), none, .e (.alc [(.bool false), (.int .u64 0), (.int .u64 0)])⟩])
  (.seq (.seq (.reg [⟨(some 13), none, .p (.fad 0 (.tmp 2))⟩, ⟨(some 14), none, .p (.ld none (.tmp 13))⟩, ⟨(some 15), none, .p (.fad 0 (.tmp 3))⟩, ⟨(some 16), none, .p (.ld none (.tmp 15))⟩, ⟨(some 17), none, .p (.binb false (.tmp 14) (.tmp 16))⟩])
  (.cond (.tmp 17) (.seq (.reg [⟨(some 19), none, .p (.fad 2 (.tmp 2))⟩, ⟨(some 20), none, .p (.ld none (.tmp 19))⟩, ⟨(some 21), none, .p (.fad 2 (.tmp 3))⟩, ⟨(some 22), none, .p (.ld none (.tmp 21))⟩, ⟨(some 23), none, .e (.ext 50 [(.tmp 20), (.tmp 22), (.const (.int .u64 0))])⟩, ⟨(some 18), none, .p (.mov (.tmp 23))⟩, ⟨(some 24), none, .p (.ext (.tmp 18) 0)⟩, ⟨(some 25), none, .p (.ext (.tmp 18) 1)⟩, ⟨(some 5), none, .p (.mov (.tmp 24))⟩, ⟨(some 6), none, .p (.mov (.tmp 25))⟩])
  (.seq (.reg [⟨(some 27), none, .p (.fad 1 (.tmp 2))⟩, ⟨(some 28), none, .p (.ld none (.tmp 27))⟩, ⟨(some 29), none, .p (.fad 1 (.tmp 3))⟩, ⟨(some 30), none, .p (.ld none (.tmp 29))⟩, ⟨(some 31), none, .p (.mov (.tmp 6))⟩, ⟨(some 32), none, .e (.ext 50 [(.tmp 28), (.tmp 30), (.tmp 31)])⟩, ⟨(some 26), none, .p (.mov (.tmp 32))⟩, ⟨(some 33), none, .p (.ext (.tmp 26) 0)⟩, ⟨(some 34), none, .p (.ext (.tmp 26) 1)⟩, ⟨(some 7), none, .p (.mov (.tmp 33))⟩, ⟨(some 8), none, .p (.mov (.tmp 34))⟩])
  (.seq (.reg [⟨(some 35), none, .p (.fad 0 (.tmp 2))⟩, ⟨(some 36), none, .p (.ld none (.tmp 35))⟩, ⟨(some 37), none, .p (.mov (.tmp 7))⟩, ⟨(some 38), none, .p (.mov (.tmp 5))⟩, ⟨(some 39), none, .p (.bld [(.bool false), (.int .u64 0), (.int .u64 0)] [(0, 1, (.tmp 36)), (1, 1, (.tmp 37)), (2, 1, (.tmp 38))])⟩, ⟨none, none, .e (.st 3 (.tmp 4) (.tmp 39))⟩])
  .ret))) .skip))
  (.seq (.seq (.reg [⟨(some 40), none, .p (.ld (some 3) (.tmp 2))⟩, ⟨(some 41), none, .p (.ld (some 3) (.tmp 3))⟩, ⟨(some 42), none, .e (.call 39 [(.tmp 40), (.tmp 41)])⟩, ⟨(some 43), none, .p (.bin .lss (.tmp 42) (.const (.int .i64 0)))⟩])
  (.cond (.tmp 43) (.reg [⟨(some 44), none, .p (.ld (some 3) (.tmp 3))⟩, ⟨(some 45), none, .p (.ld (some 3) (.tmp 2))⟩, ⟨none, none, .e (.st 3 (.tmp 2) (.tmp 44))⟩, ⟨none, none, .e (.st 3 (.tmp 3) (.tmp 45))⟩]) .skip))
  (.seq (.reg [⟨(some 47), none, .p (.fad 2 (.tmp 2))⟩, ⟨(some 48), none, .p (.ld none (.tmp 47))⟩, ⟨(some 49), none, .p (.fad 2 (.tmp 3))⟩, ⟨(some 50), none, .p (.ld none (.tmp 49))⟩, ⟨(some 51), none, .e (.ext 51 [(.tmp 48), (.tmp 50), (.const (.int .u64 0))])⟩, ⟨(some 46), none, .p (.mov (.tmp 51))⟩, ⟨(some 52), none, .p (.ext (.tmp 46) 0)⟩, ⟨(some 53), none, .p (.ext (.tmp 46) 1)⟩, ⟨(some 9), none, .p (.mov (.tmp 52))⟩, ⟨(some 10), none, .p (.mov (.tmp 53))⟩])
  (.seq (.reg [⟨(some 55), none, .p (.fad 1 (.tmp 2))⟩, ⟨(some 56), none, .p (.ld none (.tmp 55))⟩, ⟨(some 57), none, .p (.fad 1 (.tmp 3))⟩, ⟨(some 58), none, .p (.ld none (.tmp 57))⟩, ⟨(some 59), none, .p (.mov (.tmp 10))⟩, ⟨(some 60), none, .e (.ext 51 [(.tmp 56), (.tmp 58), (.tmp 59)])⟩, ⟨(some 54), none, .p (.mov (.tmp 60))⟩, ⟨(some 61), none, .p (.ext (.tmp 54) 0)⟩, ⟨(some 62), none, .p (.ext (.tmp 54) 1)⟩, ⟨(some 11), none, .p (.mov (.tmp 61))⟩, ⟨(some 12), none, .p (.mov (.tmp 62))⟩])
  (.seq (.reg [⟨(some 63), none, .p (.fad 0 (.tmp 2))⟩, ⟨(some 64), none, .p (.ld none (.tmp 63))⟩, ⟨(some 65), none, .p (.mov (.tmp 11))⟩, ⟨(some 66), none, .p (.mov (.tmp 9))⟩, ⟨(some 67), none, .p (.bld [(.bool false), (.int .u64 0), (.int .u64 0)] [(0, 1, (.tmp 64)), (1, 1, (.tmp 65)), (2, 1, (.tmp 66))])⟩, ⟨none, none, .e (.st 3 (.tmp 4) (.tmp 67))⟩])
  .ret))))))
def rf34 : List RX := [.cell 4 (some 3)]
set_option maxRecDepth 100000 in
theorem comp34 : cFn Tryd.prog Tryd.f34 = some (erase cf34, rf34) := by kernel_rfl
/--  fairlink rational.wide .divide -/
def cf35 : LC :=
  (.seq (.reg [⟨(some 2), none, .e (.box (.tmp 0))⟩, ⟨(some 4), none, .e (.alc [(.bool false), (.int .u64 0), (.int .u64 0)])⟩, ⟨(some 5), none, .p (.mov (.const (.int .u64 0)))⟩])
  (.seq (.dreg [⟨(some 9), none, .p (.fad 1 (.tmp 2))⟩, ⟨(some 10), none, .p (.ld none (.tmp 9))⟩, ⟨(some 11), none, .p (.mov (.tmp 1))⟩, ⟨(some 12), none, .p (.bin .rem (.tmp 10) (.tmp 11))⟩, ⟨(some 13), none, .p (.fad 2 (.tmp 2))⟩, ⟨(some 14), none, .p (.ld none (.tmp 13))⟩, ⟨(some 15), none, .p (.mov (.tmp 1))⟩, ⟨(some 16), none, .e (.call 52 [(.tmp 12), (.tmp 14), (.tmp 15)])⟩, ⟨(some 8), none, .p (.mov (.tmp 16))⟩, ⟨(some 17), none, .p (.ext (.tmp 8) 0)⟩, ⟨(some 18), none, .p (.ext (.tmp 8) 1)⟩, ⟨(some 6), none, .p (.mov (.tmp 17))⟩] [[⟨(some 7), none, .p (.mov (.tmp 18))⟩]])
  (.seq (.dreg [⟨(some 19), none, .p (.fad 0 (.tmp 2))⟩, ⟨(some 20), none, .p (.ld none (.tmp 19))⟩, ⟨(some 21), none, .p (.fad 1 (.tmp 2))⟩, ⟨(some 22), none, .p (.ld none (.tmp 21))⟩, ⟨(some 23), none, .p (.mov (.tmp 1))⟩, ⟨(some 24), none, .p (.bin .quo (.tmp 22) (.tmp 23))⟩, ⟨(some 25), none, .p (.mov (.tmp 6))⟩, ⟨(some 26), none, .p (.bld [(.bool false), (.int .u64 0), (.int .u64 0)] [(0, 1, (.tmp 20)), (1, 1, (.tmp 24)), (2, 1, (.tmp 25))])⟩, ⟨(some 27), none, .p (.mov (.tmp 7))⟩] [[⟨none, none, .e (.st 3 (.tmp 4) (.tmp 26))⟩, ⟨(some 5), none, .p (.mov (.tmp 27))⟩]])
  .ret)))
def rf35 : List RX := [.cell 4 (some 3), .tmp 5]
set_option maxRecDepth 100000 in
theorem comp35 : cFn Tryd.prog Tryd.f35 = some (erase cf35, rf35) := by kernel_rfl
/-- fairlink rational.result -/
def cf37 : LC :=
  (.seq (.reg [⟨(some 2), none, .e (.box (.tmp 0))⟩, ⟨(some 3), none, .e (.box (.tmp 1))⟩, ⟨(some 4), none, .e (.alc [(.int .i64 0), (.int .i64 0)])⟩, ⟨(some 5), none, .p (.mov (.const (.int .i64 0)))⟩])
  (.seq (.seq (.reg [⟨(some 6), none, .p (.fad 1 (.tmp 2))⟩, ⟨(some 7), none, .p (.ld none (.tmp 6))⟩, ⟨(some 8), none, .p (.bin .eql (.tmp 7) (.const (.int .u64 0)))⟩, ⟨(some 9), none, .p (.mov (.tmp 8))⟩, ⟨(some 10), (some (9, true)), .p (.fad 2 (.tmp 2))⟩, ⟨(some 11), (some (9, true)), .p (.ld none (.tmp 10))⟩, ⟨(some 12), (some (9, true)), .p (.bin .eql (.tmp 11) (.const (.int .u64 0)))⟩, ⟨(some 13), none, .p (.pick (.tmp 9) (.tmp 12) (.const (.bool false)))⟩])
  (.cond (.tmp 13) (.seq (.reg [⟨(some 14), none, .p (.bld [(.int .i64 0), (.int .i64 0)] [(0, 1, (.const (.int .i64 0))), (1, 1, (.const (.int .i64 1)))])⟩, ⟨none, none, .e (.st 2 (.tmp 4) (.tmp 14))⟩, ⟨(some 5), none, .p (.mov (.const (.int .i64 0)))⟩])
  .ret) .skip))
  (.seq (.seq (.reg [⟨(some 15), none, .p (.ld (some 3) (.tmp 2))⟩, ⟨(some 16), none, .e (.call 53 [(.tmp 15)])⟩, ⟨(some 17), none, .p (.un .not (.tmp 16))⟩, ⟨(some 18), none, .p (.mov (.tmp 17))⟩, ⟨(some 19), (some (18, false)), .p (.ld (some 3) (.tmp 3))⟩, ⟨(some 20), (some (18, false)), .e (.call 53 [(.tmp 19)])⟩, ⟨(some 21), (some (18, false)), .p (.un .not (.tmp 20))⟩, ⟨(some 22), none, .p (.pick (.tmp 18) (.const (.bool true)) (.tmp 21))⟩])
  (.cond (.tmp 22) (.seq (.reg [⟨(some 23), none, .p (.bld [(.int .i64 0), (.int .i64 0)] [])⟩, ⟨none, none, .e (.st 2 (.tmp 4) (.tmp 23))⟩, ⟨(some 5), none, .p (.mov (.const (.int .i64 10)))⟩])
  .ret) .skip))
  (.seq (.dreg [⟨(some 24), none, .p (.ld (some 3) (.tmp 2))⟩, ⟨(some 25), none, .e (.call 54 [(.tmp 24)])⟩, ⟨(some 26), none, .p (.ld (some 3) (.tmp 3))⟩, ⟨(some 27), none, .e (.call 54 [(.tmp 26)])⟩, ⟨(some 28), none, .p (.bld [(.int .i64 0), (.int .i64 0)] [(0, 1, (.tmp 25)), (1, 1, (.tmp 27))])⟩] [[⟨none, none, .e (.st 2 (.tmp 4) (.tmp 28))⟩, ⟨(some 5), none, .p (.mov (.const (.int .i64 0)))⟩]])
  .ret))))
def rf37 : List RX := [.cell 4 (some 2), .tmp 5]
set_option maxRecDepth 100000 in
theorem comp37 : cFn Tryd.prog Tryd.f37 = some (erase cf37, rf37) := by kernel_rfl
/--  fairlink rational.wide .compare -/
def cf39 : LC :=
  (.seq (.reg [⟨(some 2), none, .e (.box (.tmp 0))⟩, ⟨(some 3), none, .e (.box (.tmp 1))⟩, ⟨(some 4), none, .p (.mov (.const (.int .i64 0)))⟩])
  (.seq (.block 0
  (.seq (.reg [⟨(some 6), none, .p (.fad 1 (.tmp 2))⟩, ⟨(some 7), none, .p (.ld none (.tmp 6))⟩, ⟨(some 8), none, .p (.fad 1 (.tmp 3))⟩, ⟨(some 9), none, .p (.ld none (.tmp 8))⟩, ⟨(some 10), none, .p (.bin .lss (.tmp 7) (.tmp 9))⟩, ⟨(some 11), none, .p (.mov (.tmp 10))⟩, ⟨(some 12), (some (11, false)), .p (.fad 1 (.tmp 2))⟩, ⟨(some 13), (some (11, false)), .p (.ld none (.tmp 12))⟩, ⟨(some 14), (some (11, false)), .p (.fad 1 (.tmp 3))⟩, ⟨(some 15), (some (11, false)), .p (.ld none (.tmp 14))⟩, ⟨(some 16), (some (11, false)), .p (.bin .eql (.tmp 13) (.tmp 15))⟩, ⟨(some 17), (some (11, false)), .p (.mov (.tmp 16))⟩, ⟨(some 18), (some (17, true)), .p (.fad 2 (.tmp 2))⟩, ⟨(some 19), (some (17, true)), .p (.ld none (.tmp 18))⟩, ⟨(some 20), (some (17, true)), .p (.fad 2 (.tmp 3))⟩, ⟨(some 21), (some (17, true)), .p (.ld none (.tmp 20))⟩, ⟨(some 22), (some (17, true)), .p (.bin .lss (.tmp 19) (.tmp 21))⟩, ⟨(some 23), (some (11, false)), .p (.pick (.tmp 17) (.tmp 22) (.const (.bool false)))⟩, ⟨(some 24), none, .p (.pick (.tmp 11) (.const (.bool true)) (.tmp 23))⟩, ⟨(some 5), none, .p (.mov (.tmp 24))⟩])
  (.cond (.tmp 5) (.seq (.reg [⟨(some 4), none, .p (.mov (.const (.int .i64 (-1))))⟩])
  .ret) (.seq (.reg [⟨(some 26), none, .p (.fad 1 (.tmp 2))⟩, ⟨(some 27), none, .p (.ld none (.tmp 26))⟩, ⟨(some 28), none, .p (.fad 1 (.tmp 3))⟩, ⟨(some 29), none, .p (.ld none (.tmp 28))⟩, ⟨(some 30), none, .p (.bin .eql (.tmp 27) (.tmp 29))⟩, ⟨(some 31), none, .p (.mov (.tmp 30))⟩, ⟨(some 32), (some (31, true)), .p (.fad 2 (.tmp 2))⟩, ⟨(some 33), (some (31, true)), .p (.ld none (.tmp 32))⟩, ⟨(some 34), (some (31, true)), .p (.fad 2 (.tmp 3))⟩, ⟨(some 35), (some (31, true)), .p (.ld none (.tmp 34))⟩, ⟨(some 36), (some (31, true)), .p (.bin .eql (.tmp 33) (.tmp 35))⟩, ⟨(some 37), none, .p (.pick (.tmp 31) (.tmp 36) (.const (.bool false)))⟩, ⟨(some 25), none, .p (.mov (.tmp 37))⟩])
  (.cond (.tmp 25) (.seq (.reg [⟨(some 4), none, .p (.mov (.const (.int .i64 0)))⟩])
  .ret) .skip)))))
  (.seq (.reg [⟨(some 4), none, .p (.mov (.const (.int .i64 1)))⟩])
  .ret)))
def rf39 : List RX := [.tmp 4]
set_option maxRecDepth 100000 in
theorem comp39 : cFn Tryd.prog Tryd.f39 = some (erase cf39, rf39) := by kernel_rfl
/-- fairlink rational.Text -/
def cf45 : LC :=
  (.seq (.reg [⟨(some 1), none, .e (.box (.tmp 0))⟩, ⟨(some 2), none, .p (.mov (.const (.string ⟨#[]⟩)))⟩])
  (.seq (.seq (.reg [⟨(some 4), none, .p (.ld (some 2) (.tmp 1))⟩, ⟨(some 5), none, .e (.call 24 [(.tmp 4)])⟩, ⟨(some 6), none, .p (.un .not (.tmp 5))⟩])
  (.cond (.tmp 6) (.seq (.reg [⟨(some 2), none, .p (.mov (.const (.string ⟨#[]⟩)))⟩])
  .ret) .skip))
  (.seq (.reg [⟨(some 7), none, .p (.fad 0 (.tmp 1))⟩, ⟨(some 8), none, .p (.ld none (.tmp 7))⟩, ⟨(some 9), none, .e (.call 46 [(.tmp 8)])⟩, ⟨(some 3), none, .p (.mov (.tmp 9))⟩])
  (.seq (.seq (.reg [⟨(some 10), none, .p (.fad 1 (.tmp 1))⟩, ⟨(some 11), none, .p (.ld none (.tmp 10))⟩, ⟨(some 12), none, .p (.bin .gtr (.tmp 11) (.const (.int .i64 1)))⟩])
  (.cond (.tmp 12) (.reg [⟨(some 13), none, .p (.mov (.tmp 3))⟩, ⟨(some 14), none, .p (.fad 1 (.tmp 1))⟩, ⟨(some 15), none, .p (.ld none (.tmp 14))⟩, ⟨(some 16), none, .e (.call 46 [(.tmp 15)])⟩, ⟨(some 17), none, .p (.bin .add (.const (.string ⟨#[47]⟩)) (.tmp 16))⟩, ⟨(some 18), none, .p (.bin .add (.tmp 13) (.tmp 17))⟩, ⟨(some 3), none, .p (.mov (.tmp 18))⟩]) .skip))
  (.seq (.reg [⟨(some 19), none, .p (.mov (.tmp 3))⟩, ⟨(some 2), none, .p (.mov (.tmp 19))⟩])
  .ret)))))
def rf45 : List RX := [.tmp 2]
set_option maxRecDepth 100000 in
theorem comp45 : cFn Tryd.prog Tryd.f45 = some (erase cf45, rf45) := by kernel_rfl
/--  fairlink rational.wide .fits -/
def cf53 : LC :=
  (.seq (.reg [⟨(some 1), none, .e (.box (.tmp 0))⟩, ⟨(some 2), none, .p (.mov (.const (.bool false)))⟩])
  (.seq (.reg [⟨(some 3), none, .p (.fad 1 (.tmp 1))⟩, ⟨(some 4), none, .p (.ld none (.tmp 3))⟩, ⟨(some 5), none, .p (.bin .eql (.tmp 4) (.const (.int .u64 0)))⟩, ⟨(some 6), none, .p (.mov (.tmp 5))⟩, ⟨(some 7), (some (6, true)), .p (.fad 2 (.tmp 1))⟩, ⟨(some 8), (some (6, true)), .p (.ld none (.tmp 7))⟩, ⟨(some 9), (some (6, true)), .p (.bin .leq (.tmp 8) (.const (.int .u64 1152921504606846976)))⟩, ⟨(some 10), none, .p (.pick (.tmp 6) (.tmp 9) (.const (.bool false)))⟩, ⟨(some 2), none, .p (.mov (.tmp 10))⟩])
  .ret))
def rf53 : List RX := [.tmp 2]
set_option maxRecDepth 100000 in
theorem comp53 : cFn Tryd.prog Tryd.f53 = some (erase cf53, rf53) := by kernel_rfl
/--  fairlink rational.wide .signed -/
def cf54 : LC :=
  (.seq (.reg [⟨(some 1), none, .e (.box (.tmp 0))⟩, ⟨(some 2), none, .p (.mov (.const (.int .i64 0)))⟩])
  (.seq (.seq (.reg [⟨(some 3), none, .p (.fad 0 (.tmp 1))⟩, ⟨(some 4), none, .p (.ld none (.tmp 3))⟩])
  (.cond (.tmp 4) (.seq (.reg [⟨(some 5), none, .p (.fad 2 (.tmp 1))⟩, ⟨(some 6), none, .p (.ld none (.tmp 5))⟩, ⟨(some 7), none, .p (.cvt .i64 (.tmp 6))⟩, ⟨(some 8), none, .p (.un .neg (.tmp 7))⟩, ⟨(some 2), none, .p (.mov (.tmp 8))⟩])
  .ret) .skip))
  (.seq (.reg [⟨(some 9), none, .p (.fad 2 (.tmp 1))⟩, ⟨(some 10), none, .p (.ld none (.tmp 9))⟩, ⟨(some 11), none, .p (.cvt .i64 (.tmp 10))⟩, ⟨(some 2), none, .p (.mov (.tmp 11))⟩])
  .ret)))
def rf54 : List RX := [.tmp 2]
set_option maxRecDepth 100000 in
theorem comp54 : cFn Tryd.prog Tryd.f54 = some (erase cf54, rf54) := by kernel_rfl
end Go.Proofs.YtdfiicpikcdokaaDoor
namespace Go.Proofs.YtdfiicpikcdokaaDoor
/-- gosem.cut.init -/
def cf2 : LC :=
  (.reg [⟨(some 0), none, .e (.ext 1 [])⟩])
def rf2 : List RX := []
set_option maxRecDepth 100000 in
theorem comp2 : cFn Tryd.prog Tryd.f2 = some (erase cf2, rf2) := by kernel_rfl
/-- gosem.cut.vars -/
def cf97 : LC :=
  (.seq (.reg [⟨(some 0), none, .p (.bld [(.int .u8 0), (.int .u8 0), (.int .u8 0), (.int .u8 0), (.int .u8 0), (.int .u8 0), (.int .u8 0), (.int .u8 0), (.int .u8 0), (.int .u8 0), (.int .u8 0), (.int .u8 0), (.int .u8 0), (.int .u8 0), (.int .u8 0), (.int .u8 0), (.int .u8 0), (.int .u8 0), (.int .u8 0), (.int .u8 0), (.int .u8 0), (.int .u8 0), (.int .u8 0), (.int .u8 0), (.int .u8 0), (.int .u8 0), (.int .u8 0), (.int .u8 0), (.int .u8 0), (.int .u8 0), (.int .u8 0), (.int .u8 0)] [(0, 1, (.const (.int .u8 0))), (1, 1, (.const (.int .u8 1))), (2, 1, (.const (.int .u8 28))), (3, 1, (.const (.int .u8 2))), (4, 1, (.const (.int .u8 29))), (5, 1, (.const (.int .u8 14))), (6, 1, (.const (.int .u8 24))), (7, 1, (.const (.int .u8 3))), (8, 1, (.const (.int .u8 30))), (9, 1, (.const (.int .u8 22))), (10, 1, (.const (.int .u8 20))), (11, 1, (.const (.int .u8 15))), (12, 1, (.const (.int .u8 25))), (13, 1, (.const (.int .u8 17))), (14, 1, (.const (.int .u8 4))), (15, 1, (.const (.int .u8 8))), (16, 1, (.const (.int .u8 31))), (17, 1, (.const (.int .u8 27))), (18, 1, (.const (.int .u8 13))), (19, 1, (.const (.int .u8 23))), (20, 1, (.const (.int .u8 21))), (21, 1, (.const (.int .u8 19))), (22, 1, (.const (.int .u8 16))), (23, 1, (.const (.int .u8 7))), (24, 1, (.const (.int .u8 26))), (25, 1, (.const (.int .u8 12))), (26, 1, (.const (.int .u8 18))), (27, 1, (.const (.int .u8 6))), (28, 1, (.const (.int .u8 11))), (29, 1, (.const (.int .u8 5))), (30, 1, (.const (.int .u8 10))), (31, 1, (.const (.int .u8 9)))])⟩, ⟨none, none, .e (.st 32 (.global 3) (.tmp 0))⟩])
  (.seq (.reg [⟨(some 1), none, .p (.bld [(.int .u8 0), (.int .u8 0), (.int .u8 0), (.int .u8 0), (.int .u8 0), (.int .u8 0), (.int .u8 0), (.int .u8 0), (.int .u8 0), (.int .u8 0), (.int .u8 0), (.int .u8 0), (.int .u8 0), (.int .u8 0), (.int .u8 0), (.int .u8 0), (.int .u8 0), (.int .u8 0), (.int .u8 0), (.int .u8 0), (.int .u8 0), (.int .u8 0), (.int .u8 0), (.int .u8 0), (.int .u8 0), (.int .u8 0), (.int .u8 0), (.int .u8 0), (.int .u8 0), (.int .u8 0), (.int .u8 0), (.int .u8 0), (.int .u8 0), (.int .u8 0), (.int .u8 0), (.int .u8 0), (.int .u8 0), (.int .u8 0), (.int .u8 0), (.int .u8 0), (.int .u8 0), (.int .u8 0), (.int .u8 0), (.int .u8 0), (.int .u8 0), (.int .u8 0), (.int .u8 0), (.int .u8 0), (.int .u8 0), (.int .u8 0), (.int .u8 0), (.int .u8 0), (.int .u8 0), (.int .u8 0), (.int .u8 0), (.int .u8 0), (.int .u8 0), (.int .u8 0), (.int .u8 0), (.int .u8 0), (.int .u8 0), (.int .u8 0), (.int .u8 0), (.int .u8 0)] [(0, 1, (.const (.int .u8 0))), (1, 1, (.const (.int .u8 1))), (2, 1, (.const (.int .u8 56))), (3, 1, (.const (.int .u8 2))), (4, 1, (.const (.int .u8 57))), (5, 1, (.const (.int .u8 49))), (6, 1, (.const (.int .u8 28))), (7, 1, (.const (.int .u8 3))), (8, 1, (.const (.int .u8 61))), (9, 1, (.const (.int .u8 58))), (10, 1, (.const (.int .u8 42))), (11, 1, (.const (.int .u8 50))), (12, 1, (.const (.int .u8 38))), (13, 1, (.const (.int .u8 29))), (14, 1, (.const (.int .u8 17))), (15, 1, (.const (.int .u8 4))), (16, 1, (.const (.int .u8 62))), (17, 1, (.const (.int .u8 47))), (18, 1, (.const (.int .u8 59))), (19, 1, (.const (.int .u8 36))), (20, 1, (.const (.int .u8 45))), (21, 1, (.const (.int .u8 43))), (22, 1, (.const (.int .u8 51))), (23, 1, (.const (.int .u8 22))), (24, 1, (.const (.int .u8 53))), (25, 1, (.const (.int .u8 39))), (26, 1, (.const (.int .u8 33))), (27, 1, (.const (.int .u8 30))), (28, 1, (.const (.int .u8 24))), (29, 1, (.const (.int .u8 18))), (30, 1, (.const (.int .u8 12))), (31, 1, (.const (.int .u8 5))), (32, 1, (.const (.int .u8 63))), (33, 1, (.const (.int .u8 55))), (34, 1, (.const (.int .u8 48))), (35, 1, (.const (.int .u8 27))), (36, 1, (.const (.int .u8 60))), (37, 1, (.const (.int .u8 41))), (38, 1, (.const (.int .u8 37))), (39, 1, (.const (.int .u8 16))), (40, 1, (.const (.int .u8 46))), (41, 1, (.const (.int .u8 35))), (42, 1, (.const (.int .u8 44))), (43, 1, (.const (.int .u8 21))), (44, 1, (.const (.int .u8 52))), (45, 1, (.const (.int .u8 32))), (46, 1, (.const (.int .u8 23))), (47, 1, (.const (.int .u8 11))), (48, 1, (.const (.int .u8 54))), (49, 1, (.const (.int .u8 26))), (50, 1, (.const (.int .u8 40))), (51, 1, (.const (.int .u8 15))), (52, 1, (.const (.int .u8 34))), (53, 1, (.const (.int .u8 20))), (54, 1, (.const (.int .u8 31))), (55, 1, (.const (.int .u8 10))), (56, 1, (.const (.int .u8 25))), (57, 1, (.const (.int .u8 14))), (58, 1, (.const (.int .u8 19))), (59, 1, (.const (.int .u8 9))), (60, 1, (.const (.int .u8 13))), (61, 1, (.const (.int .u8 8))), (62, 1, (.const (.int .u8 7))), (63, 1, (.const (.int .u8 6)))])⟩, ⟨none, none, .e (.st 64 (.global 4) (.tmp 1))⟩])
  (.reg [⟨(some 2), none, .p (.bld [(.int .u64 0), (.int .u64 0), (.int .u64 0), (.int .u64 0), (.int .u64 0), (.int .u64 0), (.int .u64 0), (.int .u64 0), (.int .u64 0), (.int .u64 0), (.int .u64 0), (.int .u64 0), (.int .u64 0), (.int .u64 0), (.int .u64 0), (.int .u64 0), (.int .u64 0), (.int .u64 0), (.int .u64 0), (.int .u64 0)] [(0, 1, (.const (.int .u64 1))), (1, 1, (.const (.int .u64 10))), (2, 1, (.const (.int .u64 100))), (3, 1, (.const (.int .u64 1000))), (4, 1, (.const (.int .u64 10000))), (5, 1, (.const (.int .u64 100000))), (6, 1, (.const (.int .u64 1000000))), (7, 1, (.const (.int .u64 10000000))), (8, 1, (.const (.int .u64 100000000))), (9, 1, (.const (.int .u64 1000000000))), (10, 1, (.const (.int .u64 10000000000))), (11, 1, (.const (.int .u64 100000000000))), (12, 1, (.const (.int .u64 1000000000000))), (13, 1, (.const (.int .u64 10000000000000))), (14, 1, (.const (.int .u64 100000000000000))), (15, 1, (.const (.int .u64 1000000000000000))), (16, 1, (.const (.int .u64 10000000000000000))), (17, 1, (.const (.int .u64 100000000000000000))), (18, 1, (.const (.int .u64 1000000000000000000))), (19, 1, (.const (.int .u64 10000000000000000000)))])⟩, ⟨none, none, .e (.st 20 (.global 2) (.tmp 2))⟩])))
def rf97 : List RX := []
set_option maxRecDepth 100000 in
theorem comp97 : cFn Tryd.prog Tryd.f97 = some (erase cf97, rf97) := by kernel_rfl
end Go.Proofs.YtdfiicpikcdokaaDoor
namespace Go.Proofs.YtdfiicpikcdokaaDoor
/-- math bits.Mul64 -/
def cf36 : LC :=
  (.seq (.reg [⟨(some 4), none, .p (.mov (.const (.int .u64 0)))⟩, ⟨(some 5), none, .p (.mov (.const (.int .u64 0)))⟩])
  (.seq (.reg [⟨(some 14), none, .p (.mov (.tmp 0))⟩, ⟨(some 15), none, .p (.bin .and (.tmp 14) (.const (.int .u64 4294967295)))⟩, ⟨(some 6), none, .p (.mov (.tmp 15))⟩])
  (.seq (.reg [⟨(some 16), none, .p (.mov (.tmp 0))⟩, ⟨(some 17), none, .p (.bin .shr (.tmp 16) (.const (.int .u64 32)))⟩, ⟨(some 7), none, .p (.mov (.tmp 17))⟩])
  (.seq (.reg [⟨(some 18), none, .p (.mov (.tmp 1))⟩, ⟨(some 19), none, .p (.bin .and (.tmp 18) (.const (.int .u64 4294967295)))⟩, ⟨(some 8), none, .p (.mov (.tmp 19))⟩])
  (.seq (.reg [⟨(some 20), none, .p (.mov (.tmp 1))⟩, ⟨(some 21), none, .p (.bin .shr (.tmp 20) (.const (.int .u64 32)))⟩, ⟨(some 9), none, .p (.mov (.tmp 21))⟩])
  (.seq (.reg [⟨(some 22), none, .p (.mov (.tmp 6))⟩, ⟨(some 23), none, .p (.mov (.tmp 8))⟩, ⟨(some 24), none, .p (.bin .mul (.tmp 22) (.tmp 23))⟩, ⟨(some 10), none, .p (.mov (.tmp 24))⟩])
  (.seq (.reg [⟨(some 25), none, .p (.mov (.tmp 7))⟩, ⟨(some 26), none, .p (.mov (.tmp 8))⟩, ⟨(some 27), none, .p (.bin .mul (.tmp 25) (.tmp 26))⟩, ⟨(some 28), none, .p (.mov (.tmp 10))⟩, ⟨(some 29), none, .p (.bin .shr (.tmp 28) (.const (.int .u64 32)))⟩, ⟨(some 30), none, .p (.bin .add (.tmp 27) (.tmp 29))⟩, ⟨(some 11), none, .p (.mov (.tmp 30))⟩])
  (.seq (.reg [⟨(some 31), none, .p (.mov (.tmp 11))⟩, ⟨(some 32), none, .p (.bin .and (.tmp 31) (.const (.int .u64 4294967295)))⟩, ⟨(some 12), none, .p (.mov (.tmp 32))⟩])
  (.seq (.reg [⟨(some 33), none, .p (.mov (.tmp 11))⟩, ⟨(some 34), none, .p (.bin .shr (.tmp 33) (.const (.int .u64 32)))⟩, ⟨(some 13), none, .p (.mov (.tmp 34))⟩])
  (.seq (.reg [⟨(some 35), none, .p (.mov (.tmp 12))⟩, ⟨(some 36), none, .p (.mov (.tmp 6))⟩, ⟨(some 37), none, .p (.mov (.tmp 9))⟩, ⟨(some 38), none, .p (.bin .mul (.tmp 36) (.tmp 37))⟩, ⟨(some 39), none, .p (.bin .add (.tmp 35) (.tmp 38))⟩, ⟨(some 12), none, .p (.mov (.tmp 39))⟩])
  (.seq (.reg [⟨(some 40), none, .p (.mov (.tmp 7))⟩, ⟨(some 41), none, .p (.mov (.tmp 9))⟩, ⟨(some 42), none, .p (.bin .mul (.tmp 40) (.tmp 41))⟩, ⟨(some 43), none, .p (.mov (.tmp 13))⟩, ⟨(some 44), none, .p (.bin .add (.tmp 42) (.tmp 43))⟩, ⟨(some 45), none, .p (.mov (.tmp 12))⟩, ⟨(some 46), none, .p (.bin .shr (.tmp 45) (.const (.int .u64 32)))⟩, ⟨(some 47), none, .p (.bin .add (.tmp 44) (.tmp 46))⟩, ⟨(some 4), none, .p (.mov (.tmp 47))⟩])
  (.seq (.reg [⟨(some 48), none, .p (.mov (.tmp 0))⟩, ⟨(some 49), none, .p (.mov (.tmp 1))⟩, ⟨(some 50), none, .p (.bin .mul (.tmp 48) (.tmp 49))⟩, ⟨(some 5), none, .p (.mov (.tmp 50))⟩])
  .ret))))))))))))
def rf36 : List RX := [.tmp 4, .tmp 5]
set_option maxRecDepth 100000 in
theorem comp36 : cFn Tryd.prog Tryd.f36 = some (erase cf36, rf36) := by kernel_rfl
def lb52_0 : LC :=
  (.seq (.seq (.reg [⟨(some 102), none, .p (.mov (.tmp 18))⟩, ⟨(some 103), none, .p (.bin .geq (.tmp 102) (.const (.int .u64 4294967296)))⟩, ⟨(some 104), none, .p (.mov (.tmp 103))⟩, ⟨(some 105), (some (104, false)), .p (.mov (.tmp 18))⟩, ⟨(some 106), (some (104, false)), .p (.mov (.tmp 10))⟩, ⟨(some 107), (some (104, false)), .p (.bin .mul (.tmp 105) (.tmp 106))⟩, ⟨(some 108), (some (104, false)), .p (.mov (.tmp 16))⟩, ⟨(some 109), (some (104, false)), .p (.bin .mul (.const (.int .u64 4294967296)) (.tmp 108))⟩, ⟨(some 110), (some (104, false)), .p (.mov (.tmp 14))⟩, ⟨(some 111), (some (104, false)), .p (.bin .add (.tmp 109) (.tmp 110))⟩, ⟨(some 112), (some (104, false)), .p (.bin .gtr (.tmp 107) (.tmp 111))⟩, ⟨(some 113), none, .p (.pick (.tmp 104) (.const (.bool true)) (.tmp 112))⟩])
  (.cond (.tmp 113) .skip (.exit 2)))
  (.block 3
  (.seq (.reg [⟨(some 114), none, .p (.mov (.tmp 18))⟩, ⟨(some 115), none, .p (.bin .sub (.tmp 114) (.const (.int .u64 1)))⟩, ⟨(some 18), none, .p (.mov (.tmp 115))⟩])
  (.seq (.reg [⟨(some 116), none, .p (.mov (.tmp 16))⟩, ⟨(some 117), none, .p (.mov (.tmp 9))⟩, ⟨(some 118), none, .p (.bin .add (.tmp 116) (.tmp 117))⟩, ⟨(some 16), none, .p (.mov (.tmp 118))⟩])
  (.seq (.reg [⟨(some 119), none, .p (.mov (.tmp 16))⟩, ⟨(some 120), none, .p (.bin .geq (.tmp 119) (.const (.int .u64 4294967296)))⟩])
  (.cond (.tmp 120) (.exit 2) .skip))))))
def lb52_1 : LC :=
  (.seq (.seq (.reg [⟨(some 67), none, .p (.mov (.tmp 15))⟩, ⟨(some 68), none, .p (.bin .geq (.tmp 67) (.const (.int .u64 4294967296)))⟩, ⟨(some 69), none, .p (.mov (.tmp 68))⟩, ⟨(some 70), (some (69, false)), .p (.mov (.tmp 15))⟩, ⟨(some 71), (some (69, false)), .p (.mov (.tmp 10))⟩, ⟨(some 72), (some (69, false)), .p (.bin .mul (.tmp 70) (.tmp 71))⟩, ⟨(some 73), (some (69, false)), .p (.mov (.tmp 16))⟩, ⟨(some 74), (some (69, false)), .p (.bin .mul (.const (.int .u64 4294967296)) (.tmp 73))⟩, ⟨(some 75), (some (69, false)), .p (.mov (.tmp 13))⟩, ⟨(some 76), (some (69, false)), .p (.bin .add (.tmp 74) (.tmp 75))⟩, ⟨(some 77), (some (69, false)), .p (.bin .gtr (.tmp 72) (.tmp 76))⟩, ⟨(some 78), none, .p (.pick (.tmp 69) (.const (.bool true)) (.tmp 77))⟩])
  (.cond (.tmp 78) .skip (.exit 0)))
  (.block 1
  (.seq (.reg [⟨(some 79), none, .p (.mov (.tmp 15))⟩, ⟨(some 80), none, .p (.bin .sub (.tmp 79) (.const (.int .u64 1)))⟩, ⟨(some 15), none, .p (.mov (.tmp 80))⟩])
  (.seq (.reg [⟨(some 81), none, .p (.mov (.tmp 16))⟩, ⟨(some 82), none, .p (.mov (.tmp 9))⟩, ⟨(some 83), none, .p (.bin .add (.tmp 81) (.tmp 82))⟩, ⟨(some 16), none, .p (.mov (.tmp 83))⟩])
  (.seq (.reg [⟨(some 84), none, .p (.mov (.tmp 16))⟩, ⟨(some 85), none, .p (.bin .geq (.tmp 84) (.const (.int .u64 4294967296)))⟩])
  (.cond (.tmp 85) (.exit 0) .skip))))))
/-- math bits.Div64 -/
def cf52 : LC :=
  (.seq (.reg [⟨(some 6), none, .p (.mov (.const (.int .u64 0)))⟩, ⟨(some 7), none, .p (.mov (.const (.int .u64 0)))⟩])
  (.seq (.seq (.reg [⟨(some 19), none, .p (.mov (.tmp 2))⟩, ⟨(some 20), none, .p (.bin .eql (.tmp 19) (.const (.int .u64 0)))⟩])
  (.cond (.tmp 20) (.reg [⟨(some 21), none, .p (.ld none (.global 0))⟩, ⟨none, none, .e (.bad)⟩]) .skip))
  (.seq (.seq (.reg [⟨(some 22), none, .p (.mov (.tmp 2))⟩, ⟨(some 23), none, .p (.mov (.tmp 0))⟩, ⟨(some 24), none, .p (.bin .leq (.tmp 22) (.tmp 23))⟩])
  (.cond (.tmp 24) (.reg [⟨(some 25), none, .p (.ld none (.global 1))⟩, ⟨none, none, .e (.bad)⟩]) .skip))
  (.seq (.seq (.reg [⟨(some 26), none, .p (.mov (.tmp 0))⟩, ⟨(some 27), none, .p (.bin .eql (.tmp 26) (.const (.int .u64 0)))⟩])
  (.cond (.tmp 27) (.seq (.dreg [⟨(some 28), none, .p (.mov (.tmp 1))⟩, ⟨(some 29), none, .p (.mov (.tmp 2))⟩, ⟨(some 30), none, .p (.bin .quo (.tmp 28) (.tmp 29))⟩, ⟨(some 31), none, .p (.mov (.tmp 1))⟩, ⟨(some 32), none, .p (.mov (.tmp 2))⟩, ⟨(some 33), none, .p (.bin .rem (.tmp 31) (.tmp 32))⟩, ⟨(some 6), none, .p (.mov (.tmp 30))⟩] [[⟨(some 7), none, .p (.mov (.tmp 33))⟩]])
  .ret) .skip))
  (.seq (.reg [⟨(some 34), none, .p (.mov (.tmp 2))⟩, ⟨(some 35), none, .e (.call 60 [(.tmp 34)])⟩, ⟨(some 36), none, .p (.cvt .u64 (.tmp 35))⟩, ⟨(some 8), none, .p (.mov (.tmp 36))⟩])
  (.seq (.reg [⟨(some 37), none, .p (.mov (.tmp 2))⟩, ⟨(some 38), none, .p (.mov (.tmp 8))⟩, ⟨(some 39), none, .p (.bin .shl (.tmp 37) (.tmp 38))⟩, ⟨(some 2), none, .p (.mov (.tmp 39))⟩])
  (.seq (.reg [⟨(some 40), none, .p (.mov (.tmp 2))⟩, ⟨(some 41), none, .p (.bin .shr (.tmp 40) (.const (.int .u64 32)))⟩, ⟨(some 9), none, .p (.mov (.tmp 41))⟩])
  (.seq (.reg [⟨(some 42), none, .p (.mov (.tmp 2))⟩, ⟨(some 43), none, .p (.bin .and (.tmp 42) (.const (.int .u64 4294967295)))⟩, ⟨(some 10), none, .p (.mov (.tmp 43))⟩])
  (.seq (.reg [⟨(some 44), none, .p (.mov (.tmp 0))⟩, ⟨(some 45), none, .p (.mov (.tmp 8))⟩, ⟨(some 46), none, .p (.bin .shl (.tmp 44) (.tmp 45))⟩, ⟨(some 47), none, .p (.mov (.tmp 1))⟩, ⟨(some 48), none, .p (.mov (.tmp 8))⟩, ⟨(some 49), none, .p (.bin .sub (.const (.int .u64 64)) (.tmp 48))⟩, ⟨(some 50), none, .p (.bin .shr (.tmp 47) (.tmp 49))⟩, ⟨(some 51), none, .p (.bin .or (.tmp 46) (.tmp 50))⟩, ⟨(some 11), none, .p (.mov (.tmp 51))⟩])
  (.seq (.reg [⟨(some 52), none, .p (.mov (.tmp 1))⟩, ⟨(some 53), none, .p (.mov (.tmp 8))⟩, ⟨(some 54), none, .p (.bin .shl (.tmp 52) (.tmp 53))⟩, ⟨(some 12), none, .p (.mov (.tmp 54))⟩])
  (.seq (.reg [⟨(some 55), none, .p (.mov (.tmp 12))⟩, ⟨(some 56), none, .p (.bin .shr (.tmp 55) (.const (.int .u64 32)))⟩, ⟨(some 13), none, .p (.mov (.tmp 56))⟩])
  (.seq (.reg [⟨(some 57), none, .p (.mov (.tmp 12))⟩, ⟨(some 58), none, .p (.bin .and (.tmp 57) (.const (.int .u64 4294967295)))⟩, ⟨(some 14), none, .p (.mov (.tmp 58))⟩])
  (.seq (.reg [⟨(some 59), none, .p (.mov (.tmp 11))⟩, ⟨(some 60), none, .p (.mov (.tmp 9))⟩, ⟨(some 61), none, .p (.bin .quo (.tmp 59) (.tmp 60))⟩, ⟨(some 15), none, .p (.mov (.tmp 61))⟩])
  (.seq (.reg [⟨(some 62), none, .p (.mov (.tmp 11))⟩, ⟨(some 63), none, .p (.mov (.tmp 15))⟩, ⟨(some 64), none, .p (.mov (.tmp 9))⟩, ⟨(some 65), none, .p (.bin .mul (.tmp 63) (.tmp 64))⟩, ⟨(some 66), none, .p (.bin .sub (.tmp 62) (.tmp 65))⟩, ⟨(some 16), none, .p (.mov (.tmp 66))⟩])
  (.seqj (.block 0
  (.loop lb52_1))
  (.seq (.reg [⟨(some 86), none, .p (.mov (.tmp 11))⟩, ⟨(some 87), none, .p (.bin .mul (.tmp 86) (.const (.int .u64 4294967296)))⟩, ⟨(some 88), none, .p (.mov (.tmp 13))⟩, ⟨(some 89), none, .p (.bin .add (.tmp 87) (.tmp 88))⟩, ⟨(some 90), none, .p (.mov (.tmp 15))⟩, ⟨(some 91), none, .p (.mov (.tmp 2))⟩, ⟨(some 92), none, .p (.bin .mul (.tmp 90) (.tmp 91))⟩, ⟨(some 93), none, .p (.bin .sub (.tmp 89) (.tmp 92))⟩, ⟨(some 17), none, .p (.mov (.tmp 93))⟩])
  (.seq (.reg [⟨(some 94), none, .p (.mov (.tmp 17))⟩, ⟨(some 95), none, .p (.mov (.tmp 9))⟩, ⟨(some 96), none, .p (.bin .quo (.tmp 94) (.tmp 95))⟩, ⟨(some 18), none, .p (.mov (.tmp 96))⟩])
  (.seq (.reg [⟨(some 97), none, .p (.mov (.tmp 17))⟩, ⟨(some 98), none, .p (.mov (.tmp 18))⟩, ⟨(some 99), none, .p (.mov (.tmp 9))⟩, ⟨(some 100), none, .p (.bin .mul (.tmp 98) (.tmp 99))⟩, ⟨(some 101), none, .p (.bin .sub (.tmp 97) (.tmp 100))⟩, ⟨(some 16), none, .p (.mov (.tmp 101))⟩])
  (.seq (.block 2
  (.loop lb52_0))
  (.seq (.reg [⟨(some 121), none, .p (.mov (.tmp 15))⟩, ⟨(some 122), none, .p (.bin .mul (.tmp 121) (.const (.int .u64 4294967296)))⟩, ⟨(some 123), none, .p (.mov (.tmp 18))⟩, ⟨(some 124), none, .p (.bin .add (.tmp 122) (.tmp 123))⟩, ⟨(some 125), none, .p (.mov (.tmp 17))⟩, ⟨(some 126), none, .p (.bin .mul (.tmp 125) (.const (.int .u64 4294967296)))⟩, ⟨(some 127), none, .p (.mov (.tmp 14))⟩, ⟨(some 128), none, .p (.bin .add (.tmp 126) (.tmp 127))⟩, ⟨(some 129), none, .p (.mov (.tmp 18))⟩, ⟨(some 130), none, .p (.mov (.tmp 2))⟩, ⟨(some 131), none, .p (.bin .mul (.tmp 129) (.tmp 130))⟩, ⟨(some 132), none, .p (.bin .sub (.tmp 128) (.tmp 131))⟩, ⟨(some 133), none, .p (.mov (.tmp 8))⟩, ⟨(some 134), none, .p (.bin .shr (.tmp 132) (.tmp 133))⟩, ⟨(some 6), none, .p (.mov (.tmp 124))⟩, ⟨(some 7), none, .p (.mov (.tmp 134))⟩])
  .ret))))))))))))))))))))
def rf52 : List RX := [.tmp 6, .tmp 7]
set_option maxRecDepth 100000 in
theorem comp52 : cFn Tryd.prog Tryd.f52 = some (erase cf52, rf52) := by kernel_rfl
/-- math bits.LeadingZeros64 -/
def cf60 : LC :=
  (.seq (.reg [⟨(some 2), none, .p (.mov (.const (.int .i64 0)))⟩])
  (.seq (.reg [⟨(some 3), none, .p (.mov (.tmp 0))⟩, ⟨(some 4), none, .e (.call 63 [(.tmp 3)])⟩, ⟨(some 5), none, .p (.bin .sub (.const (.int .i64 64)) (.tmp 4))⟩, ⟨(some 2), none, .p (.mov (.tmp 5))⟩])
  .ret))
def rf60 : List RX := [.tmp 2]
set_option maxRecDepth 100000 in
theorem comp60 : cFn Tryd.prog Tryd.f60 = some (erase cf60, rf60) := by kernel_rfl
/-- math bits.Len64 -/
def cf63 : LC :=
  (.seq (.reg [⟨(some 2), none, .p (.mov (.const (.int .i64 0)))⟩])
  (.seq (.seq (.reg [⟨(some 3), none, .p (.mov (.tmp 0))⟩, ⟨(some 4), none, .p (.bin .geq (.tmp 3) (.const (.int .u64 4294967296)))⟩])
  (.cond (.tmp 4) (.seq (.reg [⟨(some 5), none, .p (.mov (.tmp 0))⟩, ⟨(some 6), none, .p (.bin .shr (.tmp 5) (.const (.int .u64 32)))⟩, ⟨(some 0), none, .p (.mov (.tmp 6))⟩])
  (.reg [⟨(some 2), none, .p (.mov (.const (.int .i64 32)))⟩])) .skip))
  (.seq (.seq (.reg [⟨(some 7), none, .p (.mov (.tmp 0))⟩, ⟨(some 8), none, .p (.bin .geq (.tmp 7) (.const (.int .u64 65536)))⟩])
  (.cond (.tmp 8) (.seq (.reg [⟨(some 9), none, .p (.mov (.tmp 0))⟩, ⟨(some 10), none, .p (.bin .shr (.tmp 9) (.const (.int .u64 16)))⟩, ⟨(some 0), none, .p (.mov (.tmp 10))⟩])
  (.reg [⟨(some 11), none, .p (.mov (.tmp 2))⟩, ⟨(some 12), none, .p (.bin .add (.tmp 11) (.const (.int .i64 16)))⟩, ⟨(some 2), none, .p (.mov (.tmp 12))⟩])) .skip))
  (.seq (.seq (.reg [⟨(some 13), none, .p (.mov (.tmp 0))⟩, ⟨(some 14), none, .p (.bin .geq (.tmp 13) (.const (.int .u64 256)))⟩])
  (.cond (.tmp 14) (.seq (.reg [⟨(some 15), none, .p (.mov (.tmp 0))⟩, ⟨(some 16), none, .p (.bin .shr (.tmp 15) (.const (.int .u64 8)))⟩, ⟨(some 0), none, .p (.mov (.tmp 16))⟩])
  (.reg [⟨(some 17), none, .p (.mov (.tmp 2))⟩, ⟨(some 18), none, .p (.bin .add (.tmp 17) (.const (.int .i64 8)))⟩, ⟨(some 2), none, .p (.mov (.tmp 18))⟩])) .skip))
  (.seq (.reg [⟨(some 19), none, .p (.mov (.tmp 2))⟩, ⟨(some 20), none, .p (.mov (.tmp 0))⟩, ⟨(some 21), none, .p (.cvt .u8 (.tmp 20))⟩, ⟨(some 22), none, .p (.idxs (.const (.string ⟨#[0, 1, 2, 2, 3, 3, 3, 3, 4, 4, 4, 4, 4, 4, 4, 4, 5, 5, 5, 5, 5, 5, 5, 5, 5, 5, 5, 5, 5, 5, 5, 5, 6, 6, 6, 6, 6, 6, 6, 6, 6, 6, 6, 6, 6, 6, 6, 6, 6, 6, 6, 6, 6, 6, 6, 6, 6, 6, 6, 6, 6, 6, 6, 6, 7, 7, 7, 7, 7, 7, 7, 7, 7, 7, 7, 7, 7, 7, 7, 7, 7, 7, 7, 7, 7, 7, 7, 7, 7, 7, 7, 7, 7, 7, 7, 7, 7, 7, 7, 7, 7, 7, 7, 7, 7, 7, 7, 7, 7, 7, 7, 7, 7, 7, 7, 7, 7, 7, 7, 7, 7, 7, 7, 7, 7, 7, 7, 7, 8, 8, 8, 8, 8, 8, 8, 8, 8, 8, 8, 8, 8, 8, 8, 8, 8, 8, 8, 8, 8, 8, 8, 8, 8, 8, 8, 8, 8, 8, 8, 8, 8, 8, 8, 8, 8, 8, 8, 8, 8, 8, 8, 8, 8, 8, 8, 8, 8, 8, 8, 8, 8, 8, 8, 8, 8, 8, 8, 8, 8, 8, 8, 8, 8, 8, 8, 8, 8, 8, 8, 8, 8, 8, 8, 8, 8, 8, 8, 8, 8, 8, 8, 8, 8, 8, 8, 8, 8, 8, 8, 8, 8, 8, 8, 8, 8, 8, 8, 8, 8, 8, 8, 8, 8, 8, 8, 8, 8, 8, 8, 8, 8, 8, 8, 8, 8, 8, 8, 8, 8, 8, 8, 8, 8, 8, 8, 8]⟩)) (.tmp 21))⟩, ⟨(some 23), none, .p (.cvt .i64 (.tmp 22))⟩, ⟨(some 24), none, .p (.bin .add (.tmp 19) (.tmp 23))⟩, ⟨(some 2), none, .p (.mov (.tmp 24))⟩])
  .ret)))))
def rf63 : List RX := [.tmp 2]
set_option maxRecDepth 100000 in
theorem comp63 : cFn Tryd.prog Tryd.f63 = some (erase cf63, rf63) := by kernel_rfl
/-- math bits.TrailingZeros -/
def cf71 : LC :=
  (.seq (.reg [⟨(some 2), none, .p (.mov (.const (.int .i64 0)))⟩])
  (.seq (.cond (.const (.bool false)) (.seq (.reg [⟨(some 3), none, .p (.mov (.tmp 0))⟩, ⟨(some 4), none, .p (.cvt .u32 (.tmp 3))⟩, ⟨(some 5), none, .e (.call 72 [(.tmp 4)])⟩, ⟨(some 2), none, .p (.mov (.tmp 5))⟩])
  .ret) .skip)
  (.seq (.reg [⟨(some 6), none, .p (.mov (.tmp 0))⟩, ⟨(some 7), none, .e (.call 73 [(.tmp 6)])⟩, ⟨(some 2), none, .p (.mov (.tmp 7))⟩])
  .ret)))
def rf71 : List RX := [.tmp 2]
set_option maxRecDepth 100000 in
theorem comp71 : cFn Tryd.prog Tryd.f71 = some (erase cf71, rf71) := by kernel_rfl
/-- math bits.TrailingZeros32 -/
def cf72 : LC :=
  (.seq (.reg [⟨(some 2), none, .p (.mov (.const (.int .i64 0)))⟩])
  (.seq (.seq (.reg [⟨(some 3), none, .p (.mov (.tmp 0))⟩, ⟨(some 4), none, .p (.bin .eql (.tmp 3) (.const (.int .u32 0)))⟩])
  (.cond (.tmp 4) (.seq (.reg [⟨(some 2), none, .p (.mov (.const (.int .i64 32)))⟩])
  .ret) .skip))
  (.seq (.reg [⟨(some 5), none, .p (.mov (.tmp 0))⟩, ⟨(some 6), none, .p (.mov (.tmp 0))⟩, ⟨(some 7), none, .p (.un .neg (.tmp 6))⟩, ⟨(some 8), none, .p (.bin .and (.tmp 5) (.tmp 7))⟩, ⟨(some 9), none, .p (.bin .mul (.tmp 8) (.const (.int .u32 125613361)))⟩, ⟨(some 10), none, .p (.bin .shr (.tmp 9) (.const (.int .u64 27)))⟩, ⟨(some 11), none, .p (.iada 32 1 (.global 3) (.tmp 10))⟩, ⟨(some 12), none, .p (.ld none (.tmp 11))⟩, ⟨(some 13), none, .p (.cvt .i64 (.tmp 12))⟩, ⟨(some 2), none, .p (.mov (.tmp 13))⟩])
  .ret)))
def rf72 : List RX := [.tmp 2]
set_option maxRecDepth 100000 in
theorem comp72 : cFn Tryd.prog Tryd.f72 = some (erase cf72, rf72) := by kernel_rfl
/-- math bits.TrailingZeros64 -/
def cf73 : LC :=
  (.seq (.reg [⟨(some 2), none, .p (.mov (.const (.int .i64 0)))⟩])
  (.seq (.seq (.reg [⟨(some 3), none, .p (.mov (.tmp 0))⟩, ⟨(some 4), none, .p (.bin .eql (.tmp 3) (.const (.int .u64 0)))⟩])
  (.cond (.tmp 4) (.seq (.reg [⟨(some 2), none, .p (.mov (.const (.int .i64 64)))⟩])
  .ret) .skip))
  (.seq (.reg [⟨(some 5), none, .p (.mov (.tmp 0))⟩, ⟨(some 6), none, .p (.mov (.tmp 0))⟩, ⟨(some 7), none, .p (.un .neg (.tmp 6))⟩, ⟨(some 8), none, .p (.bin .and (.tmp 5) (.tmp 7))⟩, ⟨(some 9), none, .p (.bin .mul (.tmp 8) (.const (.int .u64 285870213051353865)))⟩, ⟨(some 10), none, .p (.bin .shr (.tmp 9) (.const (.int .u64 58)))⟩, ⟨(some 11), none, .p (.iada 64 1 (.global 4) (.tmp 10))⟩, ⟨(some 12), none, .p (.ld none (.tmp 11))⟩, ⟨(some 13), none, .p (.cvt .i64 (.tmp 12))⟩, ⟨(some 2), none, .p (.mov (.tmp 13))⟩])
  .ret)))
def rf73 : List RX := [.tmp 2]
set_option maxRecDepth 100000 in
theorem comp73 : cFn Tryd.prog Tryd.f73 = some (erase cf73, rf73) := by kernel_rfl
end Go.Proofs.YtdfiicpikcdokaaDoor
namespace Go.Proofs.YtdfiicpikcdokaaDoor
/-- slices.Contains   int int  -/
def cf27 : LC :=
  (.seq (.reg [⟨(some 4), none, .p (.mov (.const (.bool false)))⟩])
  (.seq (.reg [⟨(some 5), none, .p (.mov (.tmp 0))⟩, ⟨(some 6), none, .p (.mov (.tmp 1))⟩, ⟨(some 7), none, .e (.call 48 [(.tmp 5), (.tmp 6)])⟩, ⟨(some 8), none, .p (.bin .geq (.tmp 7) (.const (.int .i64 0)))⟩, ⟨(some 4), none, .p (.mov (.tmp 8))⟩])
  .ret))
def rf27 : List RX := [.tmp 4]
set_option maxRecDepth 100000 in
theorem comp27 : cFn Tryd.prog Tryd.f27 = some (erase cf27, rf27) := by kernel_rfl
def lb48_0 : LC :=
  (.seq (.reg [⟨(some 9), none, .p (.bin .lss (.tmp 8) (.tmp 7))⟩])
  (.seq (.cond (.tmp 9) .skip (.exit 0))
  (.seq (.block 1
  (.seq (.reg [⟨(some 10), none, .p (.mov (.tmp 8))⟩, ⟨(some 5), none, .p (.mov (.tmp 10))⟩])
  (.seq (.reg [⟨(some 11), none, .p (.mov (.tmp 1))⟩, ⟨(some 12), none, .p (.mov (.tmp 0))⟩, ⟨(some 13), none, .p (.mov (.tmp 5))⟩, ⟨(some 14), none, .p (.iad 1 (.tmp 12) (.tmp 13))⟩, ⟨(some 15), none, .p (.ld none (.tmp 14))⟩, ⟨(some 16), none, .p (.bin .eql (.tmp 11) (.tmp 15))⟩])
  (.cond (.tmp 16) (.seq (.reg [⟨(some 17), none, .p (.mov (.tmp 5))⟩, ⟨(some 4), none, .p (.mov (.tmp 17))⟩])
  .ret) .skip))))
  (.reg [⟨(some 18), none, .p (.bin .add (.tmp 8) (.const (.int .i64 1)))⟩, ⟨(some 8), none, .p (.mov (.tmp 18))⟩]))))
/-- slices.Index   int int  -/
def cf48 : LC :=
  (.seq (.reg [⟨(some 4), none, .p (.mov (.const (.int .i64 0)))⟩])
  (.seq (.seq (.reg [⟨(some 6), none, .p (.mov (.tmp 0))⟩, ⟨(some 7), none, .p (.len 1 (.tmp 6))⟩, ⟨(some 8), none, .p (.mov (.const (.int .i64 0)))⟩])
  (.block 0
  (.loop lb48_0)))
  (.seq (.reg [⟨(some 4), none, .p (.mov (.const (.int .i64 (-1))))⟩])
  .ret)))
def rf48 : List RX := [.tmp 4]
set_option maxRecDepth 100000 in
theorem comp48 : cFn Tryd.prog Tryd.f48 = some (erase cf48, rf48) := by kernel_rfl
end Go.Proofs.YtdfiicpikcdokaaDoor
namespace Go.Proofs.YtdfiicpikcdokaaDoor
/-- strconv.Itoa -/
def cf46 : LC :=
  (.seq (.reg [⟨(some 2), none, .p (.mov (.const (.string ⟨#[]⟩)))⟩])
  (.seq (.reg [⟨(some 3), none, .p (.mov (.tmp 0))⟩, ⟨(some 4), none, .e (.call 57 [(.tmp 3)])⟩, ⟨(some 2), none, .p (.mov (.tmp 4))⟩])
  .ret))
def rf46 : List RX := [.tmp 2]
set_option maxRecDepth 100000 in
theorem comp46 : cFn Tryd.prog Tryd.f46 = some (erase cf46, rf46) := by kernel_rfl
end Go.Proofs.YtdfiicpikcdokaaDoor
namespace Go.Proofs.YtdfiicpikcdokaaDoor
/--   strings.Builder .WriteString -/
def cf44 : LC :=
  (.seq (.reg [⟨(some 4), none, .p (.mov (.const (.int .i64 0)))⟩, ⟨(some 5), none, .p (.mov (.const .nilIface))⟩])
  (.seq (.reg [⟨(some 6), none, .p (.mov (.tmp 0))⟩, ⟨(some 7), none, .e (.call 56 [(.tmp 6)])⟩])
  (.seq (.reg [⟨(some 8), none, .p (.mov (.tmp 0))⟩, ⟨(some 9), none, .p (.mov (.tmp 0))⟩, ⟨(some 10), none, .p (.nilc (.tmp 9))⟩, ⟨(some 11), none, .p (.fad 1 (.tmp 10))⟩, ⟨(some 12), none, .p (.ld none (.tmp 11))⟩, ⟨(some 13), none, .p (.mov (.tmp 1))⟩, ⟨(some 14), none, .e (.aps 5 1 (.tmp 12) (.tmp 13))⟩, ⟨(some 15), none, .p (.nilc (.tmp 8))⟩, ⟨(some 16), none, .p (.fad 1 (.tmp 15))⟩, ⟨none, none, .e (.st 1 (.tmp 16) (.tmp 14))⟩])
  (.seq (.reg [⟨(some 17), none, .p (.mov (.tmp 1))⟩, ⟨(some 18), none, .p (.len 0 (.tmp 17))⟩, ⟨(some 4), none, .p (.mov (.tmp 18))⟩, ⟨(some 5), none, .p (.mov (.const .nilIface))⟩])
  .ret))))
def rf44 : List RX := [.tmp 4, .tmp 5]
set_option maxRecDepth 100000 in
theorem comp44 : cFn Tryd.prog Tryd.f44 = some (erase cf44, rf44) := by kernel_rfl
end Go.Proofs.YtdfiicpikcdokaaDoor

