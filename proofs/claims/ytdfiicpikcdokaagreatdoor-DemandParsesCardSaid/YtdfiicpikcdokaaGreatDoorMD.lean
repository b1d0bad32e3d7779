/- The functions of a package in the lifted layer's own small language; The functions of a package in the lifted layer's own small language; The functions of a package in the lifted layer's own small language; The functions of a package in the lifted layer's own small language; The functions of a package in the lifted layer's own small language; The functions of a package in the lifted layer's own small language; The functions of a package in the lifted layer's own small language; The functions of a package in the lifted layer's own small language; The functions of a package in the lifted layer's own small language; The functions of a package in the lifted layer's own small language; The functions of a package in the lifted layer's own small language; The functions of a package in the lifted layer's own small language; The functions of a package in the lifted layer's own small language; The functions of a package in the lifted layer's own small language; The functions of a package in the lifted layer's own small language; All functions of the seat. Conditions: none. -/
import Derived.Test.YtdfiicpikcdokaaGreatDoorMC
import Derived.KernelRfl
namespace Go.Proofs.YtdfiicpikcdokaaGreatDoor
end Go.Proofs.YtdfiicpikcdokaaGreatDoor
namespace Go.Proofs.YtdfiicpikcdokaaGreatDoor
def lb7_0 : LC :=
  (.seq (.reg [⟨(some 39), none, .p (.bin .lss (.tmp 38) (.tmp 37))⟩])
  (.seq (.cond (.tmp 39) .skip (.exit 4))
  (.seq (.block 5
  (.seq (.reg [⟨(some 40), none, .p (.iad 1 (.tmp 36) (.tmp 38))⟩, ⟨(some 41), none, .p (.ld none (.tmp 40))⟩, ⟨(some 10), none, .p (.mov (.tmp 41))⟩])
  (.reg [⟨(some 42), none, .p (.mov (.tmp 10))⟩, ⟨(some 43), none, .e (.call 18 [(.tmp 42)])⟩, ⟨(some 44), none, .p (.bin .add (.const (.string ⟨#[32]⟩)) (.tmp 43))⟩, ⟨(some 45), none, .e (.call 16 [(.tmp 4), (.tmp 44)])⟩])))
  (.reg [⟨(some 46), none, .p (.bin .add (.tmp 38) (.const (.int .i64 1)))⟩, ⟨(some 38), none, .p (.mov (.tmp 46))⟩]))))
def lb7_1 : LC :=
  (.seq (.reg [⟨(some 31), none, .p (.bin .lss (.tmp 30) (.tmp 29))⟩])
  (.seq (.cond (.tmp 31) .skip (.exit 2))
  (.seq (.block 3
  (.seq (.reg [⟨(some 32), none, .p (.iad 4 (.tmp 28) (.tmp 30))⟩, ⟨(some 33), none, .p (.ld (some 4) (.tmp 32))⟩, ⟨(some 8), none, .e (.alc [(.slice none 0 0), (.bool false), (.int .i64 0), (.int .i64 0)])⟩, ⟨none, none, .e (.st 4 (.tmp 8) (.tmp 33))⟩])
  (.seq (.reg [⟨(some 34), none, .e (.call 16 [(.tmp 4), (.const (.string ⟨#[102, 108, 111, 119]⟩))])⟩])
  (.seq (.seq (.reg [⟨(some 35), none, .p (.fad 0 (.tmp 8))⟩, ⟨(some 36), none, .p (.ld none (.tmp 35))⟩, ⟨(some 37), none, .p (.len 1 (.tmp 36))⟩, ⟨(some 38), none, .p (.mov (.const (.int .i64 0)))⟩])
  (.block 4
  (.loop lb7_0)))
  (.seq (.seq (.reg [⟨(some 47), none, .p (.fad 1 (.tmp 8))⟩, ⟨(some 48), none, .p (.ld none (.tmp 47))⟩])
  (.cond (.tmp 48) (.reg [⟨(some 49), none, .p (.fad 2 (.tmp 8))⟩, ⟨(some 50), none, .p (.ld (some 2) (.tmp 49))⟩, ⟨(some 51), none, .e (.call 17 [(.tmp 50)])⟩, ⟨(some 52), none, .p (.bin .add (.const (.string ⟨#[32, 109, 97, 120, 32]⟩)) (.tmp 51))⟩, ⟨(some 53), none, .e (.call 16 [(.tmp 4), (.tmp 52)])⟩]) .skip))
  (.reg [⟨(some 54), none, .e (.call 16 [(.tmp 4), (.const (.string ⟨#[10]⟩))])⟩]))))))
  (.reg [⟨(some 55), none, .p (.bin .add (.tmp 30) (.const (.int .i64 1)))⟩, ⟨(some 30), none, .p (.mov (.tmp 55))⟩]))))
def lb7_2 : LC :=
  (.seq (.reg [⟨(some 18), none, .p (.bin .lss (.tmp 17) (.tmp 16))⟩])
  (.seq (.cond (.tmp 18) .skip (.exit 0))
  (.seq (.block 1
  (.seq (.reg [⟨(some 19), none, .p (.iad 2 (.tmp 15) (.tmp 17))⟩, ⟨(some 20), none, .p (.ld (some 2) (.tmp 19))⟩, ⟨(some 6), none, .e (.alc [(.int .i64 0), (.int .i64 0)])⟩, ⟨none, none, .e (.st 2 (.tmp 6) (.tmp 20))⟩])
  (.reg [⟨(some 21), none, .p (.ld (some 2) (.tmp 6))⟩, ⟨(some 22), none, .e (.call 17 [(.tmp 21)])⟩, ⟨(some 23), none, .p (.bin .add (.const (.string ⟨#[108, 105, 110, 107, 32]⟩)) (.tmp 22))⟩, ⟨(some 24), none, .p (.bin .add (.tmp 23) (.const (.string ⟨#[10]⟩)))⟩, ⟨(some 25), none, .e (.call 16 [(.tmp 4), (.tmp 24)])⟩])))
  (.reg [⟨(some 26), none, .p (.bin .add (.tmp 17) (.const (.int .i64 1)))⟩, ⟨(some 17), none, .p (.mov (.tmp 26))⟩]))))
def cf7 : LC :=
  (.seq (.reg [⟨(some 1), none, .e (.box (.tmp 0))⟩, ⟨(some 2), none, .p (.mov (.const (.string ⟨#[]⟩)))⟩, ⟨(some 3), none, .p (.mov (.const (.int .i64 0)))⟩])
  (.seq (.seq (.reg [⟨(some 11), none, .p (.ld (some 2) (.tmp 1))⟩, ⟨(some 12), none, .e (.call 8 [(.tmp 11)])⟩, ⟨(some 13), none, .p (.un .not (.tmp 12))⟩])
  (.cond (.tmp 13) (.seq (.reg [⟨(some 2), none, .p (.mov (.const (.string ⟨#[]⟩)))⟩, ⟨(some 3), none, .p (.mov (.const (.int .i64 1)))⟩])
  .ret) .skip))
  (.seq (.reg [⟨(some 4), none, .e (.alct 53 [(.pointer none), (.slice none 0 0)])⟩])
  (.seq (.seq (.reg [⟨(some 14), none, .p (.fad 0 (.tmp 1))⟩, ⟨(some 15), none, .p (.ld none (.tmp 14))⟩, ⟨(some 16), none, .p (.len 1 (.tmp 15))⟩, ⟨(some 17), none, .p (.mov (.const (.int .i64 0)))⟩])
  (.block 0
  (.loop lb7_2)))
  (.seq (.seq (.reg [⟨(some 27), none, .p (.fad 1 (.tmp 1))⟩, ⟨(some 28), none, .p (.ld none (.tmp 27))⟩, ⟨(some 29), none, .p (.len 1 (.tmp 28))⟩, ⟨(some 30), none, .p (.mov (.const (.int .i64 0)))⟩])
  (.block 2
  (.loop lb7_1)))
  (.seq (.reg [⟨(some 56), none, .e (.call 19 [(.tmp 4)])⟩, ⟨(some 2), none, .p (.mov (.tmp 56))⟩, ⟨(some 3), none, .p (.mov (.const (.int .i64 0)))⟩])
  .ret))))))
def rf7 : List RX := [.tmp 2, .tmp 3]
set_option maxRecDepth 100000 in
theorem comp7 : cFn Tryz.prog Tryz.f7 = some (erase cf7, rf7) := by kernel_rfl
def lb8_0 : LC :=
  (.seq (.reg [⟨(some 58), none, .p (.bin .lss (.tmp 57) (.tmp 56))⟩])
  (.seq (.cond (.tmp 58) .skip (.exit 4))
  (.seq (.block 5
  (.seq (.reg [⟨(some 59), none, .p (.mov (.tmp 57))⟩, ⟨(some 60), none, .p (.iad 1 (.tmp 55) (.tmp 57))⟩, ⟨(some 61), none, .p (.ld none (.tmp 60))⟩, ⟨(some 8), none, .p (.mov (.tmp 59))⟩, ⟨(some 9), none, .p (.mov (.tmp 61))⟩])
  (.seq (.reg [⟨(some 62), none, .p (.mov (.tmp 9))⟩, ⟨(some 63), none, .p (.bin .lss (.tmp 62) (.const (.int .i64 0)))⟩, ⟨(some 64), none, .p (.mov (.tmp 63))⟩, ⟨(some 65), (some (64, false)), .p (.mov (.tmp 9))⟩, ⟨(some 66), (some (64, false)), .p (.fad 0 (.tmp 1))⟩, ⟨(some 67), (some (64, false)), .p (.ld none (.tmp 66))⟩, ⟨(some 68), (some (64, false)), .p (.len 1 (.tmp 67))⟩, ⟨(some 69), (some (64, false)), .p (.bin .geq (.tmp 65) (.tmp 68))⟩, ⟨(some 70), none, .p (.pick (.tmp 64) (.const (.bool true)) (.tmp 69))⟩, ⟨(some 71), none, .p (.mov (.tmp 70))⟩, ⟨(some 72), (some (71, false)), .p (.fad 0 (.tmp 7))⟩, ⟨(some 73), (some (71, false)), .p (.ld none (.tmp 72))⟩, ⟨(some 74), (some (71, false)), .p (.mov (.tmp 8))⟩, ⟨(some 75), (some (71, false)), .p (.slc 1 (.tmp 73) none (some (.tmp 74)))⟩, ⟨(some 76), (some (71, false)), .p (.mov (.tmp 9))⟩, ⟨(some 77), (some (71, false)), .e (.call 22 [(.tmp 75), (.tmp 76)])⟩, ⟨(some 78), none, .p (.pick (.tmp 71) (.const (.bool true)) (.tmp 77))⟩])
  (.cond (.tmp 78) (.seq (.reg [⟨(some 2), none, .p (.mov (.const (.bool false)))⟩])
  .ret) .skip))))
  (.reg [⟨(some 79), none, .p (.bin .add (.tmp 57) (.const (.int .i64 1)))⟩, ⟨(some 57), none, .p (.mov (.tmp 79))⟩]))))
def lb8_1 : LC :=
  (.seq (.reg [⟨(some 47), none, .p (.bin .lss (.tmp 46) (.tmp 45))⟩])
  (.seq (.cond (.tmp 47) .skip (.exit 2))
  (.seq (.block 3
  (.seq (.reg [⟨(some 48), none, .p (.iad 4 (.tmp 44) (.tmp 46))⟩, ⟨(some 49), none, .p (.ld (some 4) (.tmp 48))⟩, ⟨(some 7), none, .e (.alc [(.slice none 0 0), (.bool false), (.int .i64 0), (.int .i64 0)])⟩, ⟨none, none, .e (.st 4 (.tmp 7) (.tmp 49))⟩])
  (.seq (.seq (.reg [⟨(some 50), none, .p (.fad 0 (.tmp 7))⟩, ⟨(some 51), none, .p (.ld none (.tmp 50))⟩, ⟨(some 52), none, .p (.len 1 (.tmp 51))⟩, ⟨(some 53), none, .p (.bin .eql (.tmp 52) (.const (.int .i64 0)))⟩])
  (.cond (.tmp 53) (.seq (.reg [⟨(some 2), none, .p (.mov (.const (.bool false)))⟩])
  .ret) .skip))
  (.seq (.seq (.reg [⟨(some 54), none, .p (.fad 0 (.tmp 7))⟩, ⟨(some 55), none, .p (.ld none (.tmp 54))⟩, ⟨(some 56), none, .p (.len 1 (.tmp 55))⟩, ⟨(some 57), none, .p (.mov (.const (.int .i64 0)))⟩])
  (.block 4
  (.loop lb8_0)))
  (.seq (.reg [⟨(some 80), none, .p (.fad 2 (.tmp 7))⟩, ⟨(some 81), none, .p (.ld (some 2) (.tmp 80))⟩, ⟨(some 82), none, .e (.call 20 [(.tmp 81)])⟩, ⟨(some 83), none, .p (.un .not (.tmp 82))⟩, ⟨(some 84), none, .p (.mov (.tmp 83))⟩, ⟨(some 85), (some (84, false)), .p (.fad 2 (.tmp 7))⟩, ⟨(some 86), (some (84, false)), .p (.fad 0 (.tmp 85))⟩, ⟨(some 87), (some (84, false)), .p (.ld none (.tmp 86))⟩, ⟨(some 88), (some (84, false)), .p (.bin .lss (.tmp 87) (.const (.int .i64 0)))⟩, ⟨(some 89), none, .p (.pick (.tmp 84) (.const (.bool true)) (.tmp 88))⟩, ⟨(some 90), none, .p (.mov (.tmp 89))⟩, ⟨(some 91), (some (90, false)), .p (.fad 1 (.tmp 7))⟩, ⟨(some 92), (some (90, false)), .p (.ld none (.tmp 91))⟩, ⟨(some 93), (some (90, false)), .p (.un .not (.tmp 92))⟩, ⟨(some 94), (some (90, false)), .p (.mov (.tmp 93))⟩, ⟨(some 95), (some (94, true)), .p (.fad 2 (.tmp 7))⟩, ⟨(some 96), (some (94, true)), .p (.fad 0 (.tmp 95))⟩, ⟨(some 97), (some (94, true)), .p (.ld none (.tmp 96))⟩, ⟨(some 98), (some (94, true)), .p (.bin .neq (.tmp 97) (.const (.int .i64 0)))⟩, ⟨(some 99), (some (90, false)), .p (.pick (.tmp 94) (.tmp 98) (.const (.bool false)))⟩, ⟨(some 100), none, .p (.pick (.tmp 90) (.const (.bool true)) (.tmp 99))⟩])
  (.cond (.tmp 100) (.seq (.reg [⟨(some 2), none, .p (.mov (.const (.bool false)))⟩])
  .ret) .skip))))))
  (.reg [⟨(some 101), none, .p (.bin .add (.tmp 46) (.const (.int .i64 1)))⟩, ⟨(some 46), none, .p (.mov (.tmp 101))⟩]))))
def lb8_2 : LC :=
  (.seq (.reg [⟨(some 25), none, .p (.bin .lss (.tmp 24) (.tmp 23))⟩])
  (.seq (.cond (.tmp 25) .skip (.exit 0))
  (.seq (.block 1
  (.seq (.reg [⟨(some 26), none, .p (.iad 2 (.tmp 22) (.tmp 24))⟩, ⟨(some 27), none, .p (.ld (some 2) (.tmp 26))⟩, ⟨(some 5), none, .e (.alc [(.int .i64 0), (.int .i64 0)])⟩, ⟨none, none, .e (.st 2 (.tmp 5) (.tmp 27))⟩])
  (.seq (.reg [⟨(some 28), none, .p (.ld (some 2) (.tmp 5))⟩, ⟨(some 29), none, .e (.call 20 [(.tmp 28)])⟩, ⟨(some 30), none, .p (.un .not (.tmp 29))⟩, ⟨(some 31), none, .p (.mov (.tmp 30))⟩, ⟨(some 32), (some (31, false)), .p (.fad 0 (.tmp 5))⟩, ⟨(some 33), (some (31, false)), .p (.ld none (.tmp 32))⟩, ⟨(some 34), (some (31, false)), .p (.bin .lss (.tmp 33) (.const (.int .i64 0)))⟩, ⟨(some 35), none, .p (.pick (.tmp 31) (.const (.bool true)) (.tmp 34))⟩, ⟨(some 36), none, .p (.mov (.tmp 35))⟩, ⟨(some 37), (some (36, false)), .p (.ld (some 2) (.tmp 5))⟩, ⟨(some 38), (some (36, false)), .p (.ld (some 2) (.tmp 3))⟩, ⟨(some 39), (some (36, false)), .e (.call 21 [(.tmp 37), (.tmp 38)])⟩, ⟨(some 40), (some (36, false)), .p (.bin .gtr (.tmp 39) (.const (.int .i64 0)))⟩, ⟨(some 41), none, .p (.pick (.tmp 36) (.const (.bool true)) (.tmp 40))⟩])
  (.cond (.tmp 41) (.seq (.reg [⟨(some 2), none, .p (.mov (.const (.bool false)))⟩])
  .ret) .skip))))
  (.reg [⟨(some 42), none, .p (.bin .add (.tmp 24) (.const (.int .i64 1)))⟩, ⟨(some 24), none, .p (.mov (.tmp 42))⟩]))))
def cf8 : LC :=
  (.seq (.reg [⟨(some 1), none, .e (.box (.tmp 0))⟩, ⟨(some 2), none, .p (.mov (.const (.bool false)))⟩])
  (.seq (.seq (.reg [⟨(some 10), none, .p (.fad 0 (.tmp 1))⟩, ⟨(some 11), none, .p (.ld none (.tmp 10))⟩, ⟨(some 12), none, .p (.len 1 (.tmp 11))⟩, ⟨(some 13), none, .p (.bin .gtr (.tmp 12) (.const (.int .i64 32)))⟩, ⟨(some 14), none, .p (.mov (.tmp 13))⟩, ⟨(some 15), (some (14, false)), .p (.fad 1 (.tmp 1))⟩, ⟨(some 16), (some (14, false)), .p (.ld none (.tmp 15))⟩, ⟨(some 17), (some (14, false)), .p (.len 1 (.tmp 16))⟩, ⟨(some 18), (some (14, false)), .p (.bin .gtr (.tmp 17) (.const (.int .i64 32)))⟩, ⟨(some 19), none, .p (.pick (.tmp 14) (.const (.bool true)) (.tmp 18))⟩])
  (.cond (.tmp 19) (.seq (.reg [⟨(some 2), none, .p (.mov (.const (.bool false)))⟩])
  .ret) .skip))
  (.seq (.reg [⟨(some 20), none, .p (.bld [(.int .i64 0), (.int .i64 0)] [(0, 1, (.const (.int .i64 1000))), (1, 1, (.const (.int .i64 1)))])⟩, ⟨(some 3), none, .e (.alc [(.int .i64 0), (.int .i64 0)])⟩, ⟨none, none, .e (.st 2 (.tmp 3) (.tmp 20))⟩])
  (.seq (.seq (.reg [⟨(some 21), none, .p (.fad 0 (.tmp 1))⟩, ⟨(some 22), none, .p (.ld none (.tmp 21))⟩, ⟨(some 23), none, .p (.len 1 (.tmp 22))⟩, ⟨(some 24), none, .p (.mov (.const (.int .i64 0)))⟩])
  (.block 0
  (.loop lb8_2)))
  (.seq (.seq (.reg [⟨(some 43), none, .p (.fad 1 (.tmp 1))⟩, ⟨(some 44), none, .p (.ld none (.tmp 43))⟩, ⟨(some 45), none, .p (.len 1 (.tmp 44))⟩, ⟨(some 46), none, .p (.mov (.const (.int .i64 0)))⟩])
  (.block 2
  (.loop lb8_1)))
  (.seq (.reg [⟨(some 2), none, .p (.mov (.const (.bool true)))⟩])
  .ret))))))
def rf8 : List RX := [.tmp 2]
set_option maxRecDepth 100000 in
theorem comp8 : cFn Tryz.prog Tryz.f8 = some (erase cf8, rf8) := by kernel_rfl
def cf15 : LC :=
  (.seq (.reg [⟨(some 3), none, .e (.box (.tmp 0))⟩, ⟨(some 6), none, .p (.mov (.const (.bool false)))⟩])
  (.seq (.reg [⟨(some 10), none, .p (.ld (some 2) (.tmp 3))⟩, ⟨(some 11), none, .p (.mov (.tmp 1))⟩, ⟨(some 12), none, .e (.call 34 [(.tmp 10), (.tmp 11)])⟩, ⟨(some 9), none, .p (.mov (.tmp 12))⟩, ⟨(some 13), none, .p (.ext (.tmp 9) 0)⟩, ⟨(some 14), none, .p (.ext (.tmp 9) 1)⟩, ⟨(some 7), none, .p (.mov (.tmp 13))⟩, ⟨(some 8), none, .p (.mov (.tmp 14))⟩])
  (.seq (.dreg [⟨(some 15), none, .p (.mov (.tmp 8))⟩, ⟨(some 16), none, .p (.bin .eql (.tmp 15) (.const (.int .i64 0)))⟩, ⟨(some 17), none, .p (.mov (.tmp 16))⟩, ⟨(some 18), (some (17, true)), .p (.mov (.tmp 2))⟩, ⟨(some 19), (some (17, true)), .p (.bin .geq (.tmp 18) (.const (.int .i64 0)))⟩, ⟨(some 20), none, .p (.pick (.tmp 17) (.tmp 19) (.const (.bool false)))⟩, ⟨(some 21), none, .p (.mov (.tmp 20))⟩, ⟨(some 22), (some (21, true)), .p (.mov (.tmp 2))⟩, ⟨(some 23), (some (21, true)), .p (.mov (.tmp 7))⟩, ⟨(some 24), (some (21, true)), .p (.len 1 (.tmp 23))⟩, ⟨(some 25), (some (21, true)), .p (.bin .lss (.tmp 22) (.tmp 24))⟩, ⟨(some 26), none, .p (.pick (.tmp 21) (.tmp 25) (.const (.bool false)))⟩, ⟨(some 27), none, .p (.mov (.tmp 26))⟩, ⟨(some 28), (some (27, true)), .p (.mov (.tmp 7))⟩, ⟨(some 29), (some (27, true)), .p (.mov (.tmp 2))⟩, ⟨(some 30), (some (27, true)), .p (.iad 2 (.tmp 28) (.tmp 29))⟩, ⟨(some 31), (some (27, true)), .p (.ld (some 2) (.tmp 30))⟩, ⟨(some 32), (some (27, true)), .p (.fad 0 (.tmp 3))⟩, ⟨(some 33), (some (27, true)), .p (.ld none (.tmp 32))⟩, ⟨(some 34), (some (27, true)), .p (.mov (.tmp 2))⟩, ⟨(some 35), (some (27, true)), .p (.iad 2 (.tmp 33) (.tmp 34))⟩, ⟨(some 36), (some (27, true)), .p (.ld (some 2) (.tmp 35))⟩, ⟨(some 37), (some (27, true)), .e (.call 21 [(.tmp 31), (.tmp 36)])⟩, ⟨(some 38), (some (27, true)), .p (.bin .eql (.tmp 37) (.const (.int .i64 0)))⟩, ⟨(some 39), none, .p (.pick (.tmp 27) (.tmp 38) (.const (.bool false)))⟩] [[⟨(some 6), none, .p (.mov (.tmp 39))⟩]])
  .ret)))
def rf15 : List RX := [.tmp 6]
set_option maxRecDepth 100000 in
theorem comp15 : cFn Tryz.prog Tryz.f15 = some (erase cf15, rf15) := by kernel_rfl
def lb25_0 : LC :=
  (.seq (.seq (.reg [⟨(some 51), none, .p (.mov (.tmp 1))⟩, ⟨(some 52), none, .p (.len 1 (.tmp 51))⟩, ⟨(some 53), none, .p (.bin .gtr (.tmp 52) (.const (.int .i64 0)))⟩, ⟨(some 54), none, .p (.mov (.tmp 53))⟩, ⟨(some 55), (some (54, true)), .p (.mov (.tmp 1))⟩, ⟨(some 56), (some (54, true)), .p (.iad 1 (.tmp 55) (.const (.int .i64 0)))⟩, ⟨(some 57), (some (54, true)), .p (.ld none (.tmp 56))⟩, ⟨(some 58), (some (54, true)), .p (.bin .neq (.tmp 57) (.const (.string ⟨#[109, 97, 120]⟩)))⟩, ⟨(some 59), none, .p (.pick (.tmp 54) (.tmp 58) (.const (.bool false)))⟩])
  (.cond (.tmp 59) .skip (.exit 1)))
  (.block 2
  (.seq (.reg [⟨(some 61), none, .p (.mov (.tmp 1))⟩, ⟨(some 62), none, .p (.iad 1 (.tmp 61) (.const (.int .i64 0)))⟩, ⟨(some 63), none, .p (.ld none (.tmp 62))⟩, ⟨(some 64), none, .e (.call 47 [(.tmp 63)])⟩, ⟨(some 60), none, .p (.mov (.tmp 64))⟩, ⟨(some 65), none, .p (.ext (.tmp 60) 0)⟩, ⟨(some 66), none, .p (.ext (.tmp 60) 1)⟩, ⟨(some 8), none, .p (.mov (.tmp 65))⟩, ⟨(some 9), none, .p (.mov (.tmp 66))⟩])
  (.seq (.seq (.reg [⟨(some 67), none, .p (.mov (.tmp 9))⟩, ⟨(some 68), none, .p (.un .not (.tmp 67))⟩])
  (.cond (.tmp 68) (.seq (.reg [⟨(some 4), none, .p (.mov (.const (.bool false)))⟩])
  .ret) .skip))
  (.seq (.reg [⟨(some 69), none, .p (.fad 0 (.tmp 7))⟩, ⟨(some 70), none, .p (.ld none (.tmp 69))⟩, ⟨(some 71), none, .p (.mov (.tmp 8))⟩, ⟨(some 72), none, .e (.bsl 1 1 1 [(.int .i64 0)] [(0, 1, (.tmp 71))])⟩, ⟨(some 73), none, .e (.app 1 1 8 (.tmp 70) (.tmp 72))⟩, ⟨(some 74), none, .p (.fad 0 (.tmp 7))⟩, ⟨none, none, .e (.st 1 (.tmp 74) (.tmp 73))⟩])
  (.reg [⟨(some 75), none, .p (.mov (.tmp 1))⟩, ⟨(some 76), none, .p (.slc 1 (.tmp 75) (some (.const (.int .i64 1))) none)⟩, ⟨(some 1), none, .p (.mov (.tmp 76))⟩]))))))
def cf25 : LC :=
  (.seq (.reg [⟨(some 4), none, .p (.mov (.const (.bool false)))⟩])
  (.seq (.seq (.reg [⟨(some 12), none, .p (.mov (.tmp 1))⟩, ⟨(some 13), none, .p (.iad 1 (.tmp 12) (.const (.int .i64 0)))⟩, ⟨(some 14), none, .p (.ld none (.tmp 13))⟩])
  (.block 0
  (.seq (.reg [⟨(some 16), none, .p (.bin .eql (.tmp 14) (.const (.string ⟨#[108, 105, 110, 107]⟩)))⟩, ⟨(some 15), none, .p (.mov (.tmp 16))⟩])
  (.cond (.tmp 15) (.seq (.seq (.reg [⟨(some 17), none, .p (.mov (.tmp 1))⟩, ⟨(some 18), none, .p (.len 1 (.tmp 17))⟩, ⟨(some 19), none, .p (.bin .neq (.tmp 18) (.const (.int .i64 2)))⟩, ⟨(some 20), none, .p (.mov (.tmp 19))⟩, ⟨(some 21), (some (20, false)), .p (.mov (.tmp 0))⟩, ⟨(some 22), (some (20, false)), .p (.nilc (.tmp 21))⟩, ⟨(some 23), (some (20, false)), .p (.fad 1 (.tmp 22))⟩, ⟨(some 24), (some (20, false)), .p (.ld none (.tmp 23))⟩, ⟨(some 25), (some (20, false)), .p (.len 1 (.tmp 24))⟩, ⟨(some 26), (some (20, false)), .p (.bin .gtr (.tmp 25) (.const (.int .i64 0)))⟩, ⟨(some 27), none, .p (.pick (.tmp 20) (.const (.bool true)) (.tmp 26))⟩])
  (.cond (.tmp 27) (.seq (.reg [⟨(some 4), none, .p (.mov (.const (.bool false)))⟩])
  .ret) .skip))
  (.seq (.reg [⟨(some 29), none, .p (.mov (.tmp 1))⟩, ⟨(some 30), none, .p (.iad 1 (.tmp 29) (.const (.int .i64 1)))⟩, ⟨(some 31), none, .p (.ld none (.tmp 30))⟩, ⟨(some 32), none, .e (.call 46 [(.tmp 31)])⟩, ⟨(some 28), none, .p (.mov (.tmp 32))⟩, ⟨(some 33), none, .p (.ext (.tmp 28) 0)⟩, ⟨(some 34), none, .p (.ext (.tmp 28) 1)⟩, ⟨(some 5), none, .e (.alc [(.int .i64 0), (.int .i64 0)])⟩, ⟨none, none, .e (.st 2 (.tmp 5) (.tmp 33))⟩, ⟨(some 6), none, .p (.mov (.tmp 34))⟩])
  (.seq (.dreg [⟨(some 35), none, .p (.mov (.tmp 0))⟩, ⟨(some 36), none, .p (.mov (.tmp 0))⟩, ⟨(some 37), none, .p (.nilc (.tmp 36))⟩, ⟨(some 38), none, .p (.fad 0 (.tmp 37))⟩, ⟨(some 39), none, .p (.ld none (.tmp 38))⟩, ⟨(some 40), none, .p (.ld (some 2) (.tmp 5))⟩, ⟨(some 41), none, .e (.bsr 1 2 [(.int .i64 0), (.int .i64 0)] [(0, 2, (.tmp 40))])⟩] [[⟨(some 42), none, .e (.app 0 2 16 (.tmp 39) (.tmp 41))⟩, ⟨(some 43), none, .p (.nilc (.tmp 35))⟩, ⟨(some 44), none, .p (.fad 0 (.tmp 43))⟩, ⟨none, none, .e (.st 1 (.tmp 44) (.tmp 42))⟩]])
  (.seq (.reg [⟨(some 45), none, .p (.mov (.tmp 6))⟩, ⟨(some 46), none, .p (.bin .eql (.tmp 45) (.const (.int .i64 0)))⟩, ⟨(some 4), none, .p (.mov (.tmp 46))⟩])
  .ret)))) (.seq (.reg [⟨(some 48), none, .p (.bin .eql (.tmp 14) (.const (.string ⟨#[102, 108, 111, 119]⟩)))⟩, ⟨(some 47), none, .p (.mov (.tmp 48))⟩])
  (.cond (.tmp 47) (.seq (.reg [⟨(some 7), none, .e (.alc [(.slice none 0 0), (.bool false), (.int .i64 0), (.int .i64 0)])⟩])
  (.seqj (.reg [⟨(some 49), none, .p (.mov (.tmp 1))⟩, ⟨(some 50), none, .p (.slc 1 (.tmp 49) (some (.const (.int .i64 1))) none)⟩, ⟨(some 1), none, .p (.mov (.tmp 50))⟩])
  (.seqj (.block 1
  (.loop lb25_0))
  (.seq (.seq (.reg [⟨(some 77), none, .p (.mov (.tmp 1))⟩, ⟨(some 78), none, .p (.len 1 (.tmp 77))⟩, ⟨(some 79), none, .p (.bin .gtr (.tmp 78) (.const (.int .i64 0)))⟩])
  (.cond (.tmp 79) (.seq (.seq (.reg [⟨(some 80), none, .p (.mov (.tmp 1))⟩, ⟨(some 81), none, .p (.len 1 (.tmp 80))⟩, ⟨(some 82), none, .p (.bin .neq (.tmp 81) (.const (.int .i64 2)))⟩])
  (.cond (.tmp 82) (.seq (.reg [⟨(some 4), none, .p (.mov (.const (.bool false)))⟩])
  .ret) .skip))
  (.seq (.reg [⟨(some 84), none, .p (.mov (.tmp 1))⟩, ⟨(some 85), none, .p (.iad 1 (.tmp 84) (.const (.int .i64 1)))⟩, ⟨(some 86), none, .p (.ld none (.tmp 85))⟩, ⟨(some 87), none, .e (.call 46 [(.tmp 86)])⟩, ⟨(some 83), none, .p (.mov (.tmp 87))⟩, ⟨(some 88), none, .p (.ext (.tmp 83) 0)⟩, ⟨(some 89), none, .p (.ext (.tmp 83) 1)⟩, ⟨(some 10), none, .e (.alc [(.int .i64 0), (.int .i64 0)])⟩, ⟨none, none, .e (.st 2 (.tmp 10) (.tmp 88))⟩, ⟨(some 11), none, .p (.mov (.tmp 89))⟩])
  (.seq (.seq (.reg [⟨(some 90), none, .p (.mov (.tmp 11))⟩, ⟨(some 91), none, .p (.bin .neq (.tmp 90) (.const (.int .i64 0)))⟩])
  (.cond (.tmp 91) (.seq (.reg [⟨(some 4), none, .p (.mov (.const (.bool false)))⟩])
  .ret) .skip))
  (.dreg [] [[⟨(some 92), none, .p (.ld (some 2) (.tmp 10))⟩, ⟨(some 93), none, .p (.fad 1 (.tmp 7))⟩, ⟨none, none, .e (.st 1 (.tmp 93) (.const (.bool true)))⟩, ⟨(some 94), none, .p (.fad 2 (.tmp 7))⟩, ⟨none, none, .e (.st 2 (.tmp 94) (.tmp 92))⟩], [⟨(some 93), none, .p (.fad 1 (.tmp 7))⟩, ⟨(some 92), none, .p (.ld (some 2) (.tmp 10))⟩, ⟨none, none, .e (.st 1 (.tmp 93) (.const (.bool true)))⟩, ⟨(some 94), none, .p (.fad 2 (.tmp 7))⟩, ⟨none, none, .e (.st 2 (.tmp 94) (.tmp 92))⟩], [⟨(some 93), none, .p (.fad 1 (.tmp 7))⟩, ⟨none, none, .e (.st 1 (.tmp 93) (.const (.bool true)))⟩, ⟨(some 92), none, .p (.ld (some 2) (.tmp 10))⟩, ⟨(some 94), none, .p (.fad 2 (.tmp 7))⟩, ⟨none, none, .e (.st 2 (.tmp 94) (.tmp 92))⟩]])))) .skip))
  (.seq (.dreg [⟨(some 95), none, .p (.mov (.tmp 0))⟩, ⟨(some 96), none, .p (.mov (.tmp 0))⟩, ⟨(some 97), none, .p (.nilc (.tmp 96))⟩, ⟨(some 98), none, .p (.fad 1 (.tmp 97))⟩, ⟨(some 99), none, .p (.ld none (.tmp 98))⟩, ⟨(some 100), none, .p (.ld (some 4) (.tmp 7))⟩, ⟨(some 101), none, .e (.bsr 1 4 [(.slice none 0 0), (.bool false), (.int .i64 0), (.int .i64 0)] [(0, 4, (.tmp 100))])⟩] [[⟨(some 102), none, .e (.app 0 4 48 (.tmp 99) (.tmp 101))⟩, ⟨(some 103), none, .p (.nilc (.tmp 95))⟩, ⟨(some 104), none, .p (.fad 1 (.tmp 103))⟩, ⟨none, none, .e (.st 1 (.tmp 104) (.tmp 102))⟩]])
  (.seq (.reg [⟨(some 105), none, .p (.fad 0 (.tmp 7))⟩, ⟨(some 106), none, .p (.ld none (.tmp 105))⟩, ⟨(some 107), none, .p (.len 1 (.tmp 106))⟩, ⟨(some 108), none, .p (.bin .gtr (.tmp 107) (.const (.int .i64 0)))⟩, ⟨(some 4), none, .p (.mov (.tmp 108))⟩])
  .ret)))))) .skip))))))
  (.seq (.reg [⟨(some 4), none, .p (.mov (.const (.bool false)))⟩])
  .ret)))
def rf25 : List RX := [.tmp 4]
set_option maxRecDepth 100000 in
theorem comp25 : cFn Tryz.prog Tryz.f25 = some (erase cf25, rf25) := by kernel_rfl
def lb34_0 : LC :=
  (.seq (.reg [⟨(some 64), none, .p (.bin .lss (.tmp 63) (.tmp 62))⟩])
  (.seq (.cond (.tmp 64) .skip (.exit 6))
  (.seq (.block 7
  (.seq (.reg [⟨(some 65), none, .p (.iad 1 (.tmp 61) (.tmp 63))⟩, ⟨(some 66), none, .p (.ld none (.tmp 65))⟩, ⟨(some 14), none, .p (.mov (.tmp 66))⟩])
  (.seq (.reg [⟨(some 67), none, .p (.mov (.tmp 10))⟩, ⟨(some 68), none, .p (.mov (.tmp 14))⟩, ⟨(some 69), none, .p (.mov (.tmp 1))⟩, ⟨(some 70), none, .p (.mov (.tmp 11))⟩, ⟨(some 71), none, .p (.iad 2 (.tmp 69) (.tmp 70))⟩, ⟨(some 72), none, .p (.ld (some 2) (.tmp 71))⟩, ⟨(some 73), none, .e (.calv (.tmp 67) [(.tmp 68), (.tmp 72)])⟩, ⟨(some 15), none, .p (.mov (.tmp 73))⟩])
  (.seq (.reg [⟨(some 74), none, .p (.mov (.tmp 15))⟩, ⟨(some 75), none, .p (.bin .neq (.tmp 74) (.const (.int .i64 0)))⟩])
  (.cond (.tmp 75) (.seq (.reg [⟨(some 76), none, .p (.mov (.tmp 15))⟩, ⟨(some 4), none, .p (.mov (.const (.slice none 0 0)))⟩, ⟨(some 5), none, .p (.mov (.tmp 76))⟩])
  .ret) .skip)))))
  (.reg [⟨(some 77), none, .p (.bin .add (.tmp 63) (.const (.int .i64 1)))⟩, ⟨(some 63), none, .p (.mov (.tmp 77))⟩]))))
def lb34_1 : LC :=
  (.seq (.reg [⟨(some 56), none, .p (.bin .lss (.tmp 55) (.tmp 54))⟩])
  (.seq (.cond (.tmp 56) .skip (.exit 4))
  (.seq (.block 5
  (.seq (.reg [⟨(some 57), none, .p (.mov (.tmp 55))⟩, ⟨(some 58), none, .p (.iad 4 (.tmp 53) (.tmp 55))⟩, ⟨(some 59), none, .p (.ld (some 4) (.tmp 58))⟩, ⟨(some 12), none, .e (.alc [(.slice none 0 0), (.bool false), (.int .i64 0), (.int .i64 0)])⟩, ⟨(some 11), none, .p (.mov (.tmp 57))⟩, ⟨none, none, .e (.st 4 (.tmp 12) (.tmp 59))⟩])
  (.seq (.reg [⟨(some 60), none, .p (.fad 0 (.tmp 12))⟩, ⟨(some 61), none, .p (.ld none (.tmp 60))⟩, ⟨(some 62), none, .p (.len 1 (.tmp 61))⟩, ⟨(some 63), none, .p (.mov (.const (.int .i64 0)))⟩])
  (.block 6
  (.loop lb34_0)))))
  (.reg [⟨(some 78), none, .p (.bin .add (.tmp 55) (.const (.int .i64 1)))⟩, ⟨(some 55), none, .p (.mov (.tmp 78))⟩]))))
def lb34_2 : LC :=
  (.seq (.reg [⟨(some 44), none, .p (.bin .lss (.tmp 43) (.tmp 42))⟩])
  (.seq (.cond (.tmp 44) .skip (.exit 2))
  (.seq (.block 3
  (.seq (.reg [⟨(some 45), none, .p (.mov (.tmp 43))⟩, ⟨(some 9), none, .p (.mov (.tmp 45))⟩])
  (.reg [⟨(some 46), none, .p (.ld none (.tmp 8))⟩, ⟨(some 47), none, .p (.mov (.tmp 9))⟩, ⟨(some 48), none, .p (.bld [(.int .i64 0), (.int .i64 0)] [(0, 1, (.const (.int .i64 0))), (1, 1, (.const (.int .i64 1)))])⟩, ⟨(some 49), none, .p (.iad 2 (.tmp 46) (.tmp 47))⟩, ⟨none, none, .e (.st 2 (.tmp 49) (.tmp 48))⟩])))
  (.reg [⟨(some 50), none, .p (.bin .add (.tmp 43) (.const (.int .i64 1)))⟩, ⟨(some 43), none, .p (.mov (.tmp 50))⟩]))))
def lb34_3 : LC :=
  (.seq (.reg [⟨(some 30), none, .p (.bin .lss (.tmp 29) (.tmp 28))⟩])
  (.seq (.cond (.tmp 30) .skip (.exit 0))
  (.seq (.block 1
  (.seq (.reg [⟨(some 31), none, .p (.iad 2 (.tmp 27) (.tmp 29))⟩, ⟨(some 32), none, .p (.ld (some 2) (.tmp 31))⟩, ⟨(some 7), none, .e (.alc [(.int .i64 0), (.int .i64 0)])⟩, ⟨none, none, .e (.st 2 (.tmp 7) (.tmp 32))⟩])
  (.seq (.reg [⟨(some 33), none, .p (.ld (some 2) (.tmp 7))⟩, ⟨(some 34), none, .e (.call 20 [(.tmp 33)])⟩, ⟨(some 35), none, .p (.un .not (.tmp 34))⟩])
  (.cond (.tmp 35) (.seq (.reg [⟨(some 4), none, .p (.mov (.const (.slice none 0 0)))⟩, ⟨(some 5), none, .p (.mov (.const (.int .i64 1)))⟩])
  .ret) .skip))))
  (.reg [⟨(some 36), none, .p (.bin .add (.tmp 29) (.const (.int .i64 1)))⟩, ⟨(some 29), none, .p (.mov (.tmp 36))⟩]))))
def cf34 : LC :=
  (.seq (.reg [⟨(some 2), none, .e (.box (.tmp 0))⟩, ⟨(some 4), none, .p (.mov (.const (.slice none 0 0)))⟩, ⟨(some 5), none, .p (.mov (.const (.int .i64 0)))⟩])
  (.seq (.seq (.reg [⟨(some 16), none, .p (.ld (some 2) (.tmp 2))⟩, ⟨(some 17), none, .e (.call 8 [(.tmp 16)])⟩, ⟨(some 18), none, .p (.un .not (.tmp 17))⟩, ⟨(some 19), none, .p (.mov (.tmp 18))⟩, ⟨(some 20), (some (19, false)), .p (.mov (.tmp 1))⟩, ⟨(some 21), (some (19, false)), .p (.len 1 (.tmp 20))⟩, ⟨(some 22), (some (19, false)), .p (.fad 1 (.tmp 2))⟩, ⟨(some 23), (some (19, false)), .p (.ld none (.tmp 22))⟩, ⟨(some 24), (some (19, false)), .p (.len 1 (.tmp 23))⟩, ⟨(some 25), (some (19, false)), .p (.bin .neq (.tmp 21) (.tmp 24))⟩, ⟨(some 26), none, .p (.pick (.tmp 19) (.const (.bool true)) (.tmp 25))⟩])
  (.cond (.tmp 26) (.seq (.reg [⟨(some 4), none, .p (.mov (.const (.slice none 0 0)))⟩, ⟨(some 5), none, .p (.mov (.const (.int .i64 1)))⟩])
  .ret) .skip))
  (.seq (.seq (.reg [⟨(some 27), none, .p (.mov (.tmp 1))⟩, ⟨(some 28), none, .p (.len 1 (.tmp 27))⟩, ⟨(some 29), none, .p (.mov (.const (.int .i64 0)))⟩])
  (.block 0
  (.loop lb34_3)))
  (.seq (.reg [⟨(some 37), none, .p (.fad 0 (.tmp 2))⟩, ⟨(some 38), none, .p (.ld none (.tmp 37))⟩, ⟨(some 39), none, .p (.len 1 (.tmp 38))⟩, ⟨(some 40), none, .e (.mks 0 2 [(.int .i64 0), (.int .i64 0)] 16 (.tmp 39) (.tmp 39))⟩, ⟨(some 8), none, .e (.alc [(.slice none 0 0)])⟩, ⟨none, none, .e (.st 1 (.tmp 8) (.tmp 40))⟩])
  (.seq (.seq (.reg [⟨(some 41), none, .p (.ld none (.tmp 8))⟩, ⟨(some 42), none, .p (.len 1 (.tmp 41))⟩, ⟨(some 43), none, .p (.mov (.const (.int .i64 0)))⟩])
  (.block 2
  (.loop lb34_2)))
  (.seq (.reg [⟨(some 51), none, .p (.mkf 54 [(.tmp 8)])⟩, ⟨(some 10), none, .p (.mov (.tmp 51))⟩])
  (.seq (.seq (.reg [⟨(some 52), none, .p (.fad 1 (.tmp 2))⟩, ⟨(some 53), none, .p (.ld none (.tmp 52))⟩, ⟨(some 54), none, .p (.len 1 (.tmp 53))⟩, ⟨(some 55), none, .p (.mov (.const (.int .i64 0)))⟩])
  (.block 4
  (.loop lb34_1)))
  (.seq (.reg [⟨(some 79), none, .p (.ld none (.tmp 8))⟩, ⟨(some 4), none, .p (.mov (.tmp 79))⟩, ⟨(some 5), none, .p (.mov (.const (.int .i64 0)))⟩])
  .ret))))))))
def rf34 : List RX := [.tmp 4, .tmp 5]
set_option maxRecDepth 100000 in
theorem comp34 : cFn Tryz.prog Tryz.f34 = some (erase cf34, rf34) := by kernel_rfl
def lb47_0 : LC :=
  (.seq (.reg [⟨(some 29), none, .p (.bin .lss (.tmp 28) (.tmp 27))⟩])
  (.seq (.cond (.tmp 29) .skip (.exit 0))
  (.seq (.block 1
  (.seq (.reg [⟨(some 30), none, .p (.iad 1 (.tmp 26) (.tmp 28))⟩, ⟨(some 31), none, .p (.ld none (.tmp 30))⟩, ⟨(some 6), none, .p (.mov (.tmp 31))⟩])
  (.seq (.seq (.reg [⟨(some 32), none, .p (.mov (.tmp 6))⟩, ⟨(some 33), none, .p (.bin .lss (.tmp 32) (.const (.int .u8 48)))⟩, ⟨(some 34), none, .p (.mov (.tmp 33))⟩, ⟨(some 35), (some (34, false)), .p (.mov (.tmp 6))⟩, ⟨(some 36), (some (34, false)), .p (.bin .gtr (.tmp 35) (.const (.int .u8 57)))⟩, ⟨(some 37), none, .p (.pick (.tmp 34) (.const (.bool true)) (.tmp 36))⟩])
  (.cond (.tmp 37) (.seq (.reg [⟨(some 2), none, .p (.mov (.const (.int .i64 0)))⟩, ⟨(some 3), none, .p (.mov (.const (.bool false)))⟩])
  .ret) .skip))
  (.reg [⟨(some 38), none, .p (.mov (.tmp 4))⟩, ⟨(some 39), none, .p (.bin .mul (.const (.int .i64 10)) (.tmp 38))⟩, ⟨(some 40), none, .p (.mov (.tmp 6))⟩, ⟨(some 41), none, .p (.bin .sub (.tmp 40) (.const (.int .u8 48)))⟩, ⟨(some 42), none, .p (.cvt .i64 (.tmp 41))⟩, ⟨(some 43), none, .p (.bin .add (.tmp 39) (.tmp 42))⟩, ⟨(some 4), none, .p (.mov (.tmp 43))⟩]))))
  (.reg [⟨(some 44), none, .p (.bin .add (.tmp 28) (.const (.int .i64 1)))⟩, ⟨(some 28), none, .p (.mov (.tmp 44))⟩]))))
def cf47 : LC :=
  (.seq (.reg [⟨(some 2), none, .p (.mov (.const (.int .i64 0)))⟩, ⟨(some 3), none, .p (.mov (.const (.bool false)))⟩])
  (.seq (.seq (.reg [⟨(some 7), none, .p (.mov (.tmp 0))⟩, ⟨(some 8), none, .p (.len 0 (.tmp 7))⟩, ⟨(some 9), none, .p (.bin .lss (.tmp 8) (.const (.int .i64 1)))⟩, ⟨(some 10), none, .p (.mov (.tmp 9))⟩, ⟨(some 11), (some (10, false)), .p (.mov (.tmp 0))⟩, ⟨(some 12), (some (10, false)), .p (.len 0 (.tmp 11))⟩, ⟨(some 13), (some (10, false)), .p (.bin .gtr (.tmp 12) (.const (.int .i64 3)))⟩, ⟨(some 14), none, .p (.pick (.tmp 10) (.const (.bool true)) (.tmp 13))⟩, ⟨(some 15), none, .p (.mov (.tmp 14))⟩, ⟨(some 16), (some (15, false)), .p (.mov (.tmp 0))⟩, ⟨(some 17), (some (15, false)), .p (.len 0 (.tmp 16))⟩, ⟨(some 18), (some (15, false)), .p (.bin .gtr (.tmp 17) (.const (.int .i64 1)))⟩, ⟨(some 19), (some (15, false)), .p (.mov (.tmp 18))⟩, ⟨(some 20), (some (19, true)), .p (.mov (.tmp 0))⟩, ⟨(some 21), (some (19, true)), .p (.idxs (.tmp 20) (.const (.int .i64 0)))⟩, ⟨(some 22), (some (19, true)), .p (.bin .eql (.tmp 21) (.const (.int .u8 48)))⟩, ⟨(some 23), (some (15, false)), .p (.pick (.tmp 19) (.tmp 22) (.const (.bool false)))⟩, ⟨(some 24), none, .p (.pick (.tmp 15) (.const (.bool true)) (.tmp 23))⟩])
  (.cond (.tmp 24) (.seq (.reg [⟨(some 2), none, .p (.mov (.const (.int .i64 0)))⟩, ⟨(some 3), none, .p (.mov (.const (.bool false)))⟩])
  .ret) .skip))
  (.seq (.reg [⟨(some 4), none, .p (.mov (.const (.int .i64 0)))⟩])
  (.seq (.seq (.reg [⟨(some 25), none, .p (.mov (.tmp 0))⟩, ⟨(some 26), none, .e (.s2b (.tmp 25))⟩, ⟨(some 27), none, .p (.len 1 (.tmp 26))⟩, ⟨(some 28), none, .p (.mov (.const (.int .i64 0)))⟩])
  (.block 0
  (.loop lb47_0)))
  (.seq (.reg [⟨(some 45), none, .p (.mov (.tmp 4))⟩, ⟨(some 2), none, .p (.mov (.tmp 45))⟩, ⟨(some 3), none, .p (.mov (.const (.bool true)))⟩])
  .ret)))))
def rf47 : List RX := [.tmp 2, .tmp 3]
set_option maxRecDepth 100000 in
theorem comp47 : cFn Tryz.prog Tryz.f47 = some (erase cf47, rf47) := by kernel_rfl
def cf54 : LC :=
  (.seq (.reg [⟨(some 4), none, .e (.box (.tmp 1))⟩, ⟨(some 5), none, .p (.mov (.const (.int .i64 0)))⟩])
  (.seq (.dreg [⟨(some 9), none, .p (.ld none (.tmp 2))⟩, ⟨(some 10), none, .p (.mov (.tmp 0))⟩, ⟨(some 11), none, .p (.iad 2 (.tmp 9) (.tmp 10))⟩, ⟨(some 12), none, .p (.ld (some 2) (.tmp 11))⟩, ⟨(some 13), none, .p (.ld (some 2) (.tmp 4))⟩, ⟨(some 14), none, .e (.ecl 55 [(.tmp 12), (.tmp 13)])⟩, ⟨(some 8), none, .p (.mov (.tmp 14))⟩, ⟨(some 15), none, .p (.ext (.tmp 8) 0)⟩, ⟨(some 16), none, .p (.ext (.tmp 8) 1)⟩] [[⟨(some 6), none, .e (.alc [(.int .i64 0), (.int .i64 0)])⟩, ⟨none, none, .e (.st 2 (.tmp 6) (.tmp 15))⟩, ⟨(some 7), none, .p (.mov (.tmp 16))⟩]])
  (.seq (.reg [⟨(some 17), none, .p (.ld none (.tmp 2))⟩, ⟨(some 18), none, .p (.mov (.tmp 0))⟩, ⟨(some 19), none, .p (.ld (some 2) (.tmp 6))⟩, ⟨(some 20), none, .p (.iad 2 (.tmp 17) (.tmp 18))⟩, ⟨none, none, .e (.st 2 (.tmp 20) (.tmp 19))⟩])
  (.seq (.reg [⟨(some 21), none, .p (.mov (.tmp 7))⟩, ⟨(some 5), none, .p (.mov (.tmp 21))⟩])
  .ret))))
def rf54 : List RX := [.tmp 5]
set_option maxRecDepth 100000 in
theorem comp54 : cFn Tryz.prog Tryz.f54 = some (erase cf54, rf54) := by kernel_rfl
end Go.Proofs.YtdfiicpikcdokaaGreatDoor
namespace Go.Proofs.YtdfiicpikcdokaaGreatDoor
def cf4 : LC :=
  (.seq (.reg [⟨(some 2), none, .p (.mov (.const (.bool false)))⟩])
  (.seq (.seq (.reg [⟨(some 11), none, .e (.call 5 [])⟩, ⟨(some 12), none, .p (.un .not (.tmp 11))⟩, ⟨(some 13), none, .p (.mov (.tmp 12))⟩, ⟨(some 14), (some (13, false)), .p (.mov (.tmp 0))⟩, ⟨(some 15), (some (13, false)), .p (.len 0 (.tmp 14))⟩, ⟨(some 16), (some (13, false)), .p (.bin .gtr (.tmp 15) (.const (.int .i64 600)))⟩, ⟨(some 17), none, .p (.pick (.tmp 13) (.const (.bool true)) (.tmp 16))⟩])
  (.cond (.tmp 17) (.seq (.reg [⟨(some 18), none, .e (.call 5 [])⟩, ⟨(some 2), none, .p (.mov (.tmp 18))⟩])
  .ret) .skip))
  (.seq (.reg [⟨(some 20), none, .p (.mov (.tmp 0))⟩, ⟨(some 21), none, .e (.call 9 [(.tmp 20)])⟩, ⟨(some 19), none, .p (.mov (.tmp 21))⟩, ⟨(some 22), none, .p (.ext (.tmp 19) 0)⟩, ⟨(some 23), none, .p (.ext (.tmp 19) 1)⟩, ⟨(some 24), none, .p (.ext (.tmp 19) 2)⟩, ⟨(some 3), none, .e (.alc [(.slice none 0 0), (.slice none 0 0)])⟩, ⟨none, none, .e (.st 2 (.tmp 3) (.tmp 22))⟩, ⟨(some 4), none, .p (.mov (.tmp 23))⟩, ⟨(some 5), none, .p (.mov (.tmp 24))⟩])
  (.seq (.reg [⟨(some 26), none, .p (.mov (.tmp 0))⟩, ⟨(some 27), none, .e (.call 13 [(.tmp 26)])⟩, ⟨(some 25), none, .p (.mov (.tmp 27))⟩, ⟨(some 28), none, .p (.ext (.tmp 25) 0)⟩, ⟨(some 29), none, .p (.ext (.tmp 25) 1)⟩, ⟨(some 30), none, .p (.ext (.tmp 25) 2)⟩, ⟨(some 6), none, .e (.alc [(.slice none 0 0), (.slice none 0 0)])⟩, ⟨none, none, .e (.st 2 (.tmp 6) (.tmp 28))⟩, ⟨(some 7), none, .p (.mov (.tmp 29))⟩, ⟨(some 8), none, .p (.mov (.tmp 30))⟩])
  (.seq (.seq (.reg [⟨(some 31), none, .p (.mov (.tmp 5))⟩, ⟨(some 32), none, .p (.mov (.tmp 8))⟩, ⟨(some 33), none, .p (.bin .neq (.tmp 31) (.tmp 32))⟩, ⟨(some 34), none, .p (.mov (.tmp 33))⟩, ⟨(some 35), (some (34, false)), .p (.mov (.tmp 4))⟩, ⟨(some 36), (some (34, false)), .p (.mov (.tmp 7))⟩, ⟨(some 37), (some (34, false)), .p (.bin .neq (.tmp 35) (.tmp 36))⟩, ⟨(some 38), none, .p (.pick (.tmp 34) (.const (.bool true)) (.tmp 37))⟩])
  (.cond (.tmp 38) (.seq (.reg [⟨(some 2), none, .p (.mov (.const (.bool false)))⟩])
  .ret) .skip))
  (.seq (.seq (.reg [⟨(some 39), none, .p (.mov (.tmp 5))⟩, ⟨(some 40), none, .p (.bin .neq (.tmp 39) (.const (.int .i64 0)))⟩])
  (.cond (.tmp 40) (.seq (.reg [⟨(some 41), none, .p (.fad 0 (.tmp 3))⟩, ⟨(some 42), none, .p (.ld none (.tmp 41))⟩, ⟨(some 43), none, .p (.len 1 (.tmp 42))⟩, ⟨(some 44), none, .p (.bin .eql (.tmp 43) (.const (.int .i64 0)))⟩, ⟨(some 45), none, .p (.mov (.tmp 44))⟩, ⟨(some 46), (some (45, true)), .p (.fad 1 (.tmp 3))⟩, ⟨(some 47), (some (45, true)), .p (.ld none (.tmp 46))⟩, ⟨(some 48), (some (45, true)), .p (.len 1 (.tmp 47))⟩, ⟨(some 49), (some (45, true)), .p (.bin .eql (.tmp 48) (.const (.int .i64 0)))⟩, ⟨(some 50), none, .p (.pick (.tmp 45) (.tmp 49) (.const (.bool false)))⟩, ⟨(some 2), none, .p (.mov (.tmp 50))⟩])
  .ret) .skip))
  (.seq (.reg [⟨(some 52), none, .p (.ld (some 2) (.tmp 3))⟩, ⟨(some 53), none, .e (.call 7 [(.tmp 52)])⟩, ⟨(some 51), none, .p (.mov (.tmp 53))⟩, ⟨(some 54), none, .p (.ext (.tmp 51) 0)⟩, ⟨(some 55), none, .p (.ext (.tmp 51) 1)⟩, ⟨(some 9), none, .p (.mov (.tmp 54))⟩, ⟨(some 10), none, .p (.mov (.tmp 55))⟩])
  (.seq (.dreg [⟨(some 56), none, .p (.ld (some 2) (.tmp 3))⟩, ⟨(some 57), none, .e (.call 11 [(.tmp 56)])⟩, ⟨(some 58), none, .p (.ld (some 2) (.tmp 6))⟩, ⟨(some 59), none, .e (.call 12 [(.tmp 57), (.tmp 58)])⟩, ⟨(some 60), none, .p (.mov (.tmp 59))⟩, ⟨(some 61), (some (60, true)), .p (.mov (.tmp 10))⟩, ⟨(some 62), (some (60, true)), .p (.bin .eql (.tmp 61) (.const (.int .i64 0)))⟩, ⟨(some 63), none, .p (.pick (.tmp 60) (.tmp 62) (.const (.bool false)))⟩, ⟨(some 64), none, .p (.mov (.tmp 63))⟩, ⟨(some 65), (some (64, true)), .p (.mov (.tmp 9))⟩, ⟨(some 66), (some (64, true)), .p (.mov (.tmp 0))⟩, ⟨(some 67), (some (64, true)), .p (.bin .eql (.tmp 65) (.tmp 66))⟩, ⟨(some 68), none, .p (.pick (.tmp 64) (.tmp 67) (.const (.bool false)))⟩] [[⟨(some 2), none, .p (.mov (.tmp 68))⟩]])
  .ret))))))))
def rf4 : List RX := [.tmp 2]
set_option maxRecDepth 100000 in
theorem comp4 : cFn Tryz.prog Tryz.f4 = some (erase cf4, rf4) := by kernel_rfl
def cf5 : LC :=
  (.seq (.reg [⟨(some 0), none, .p (.mov (.const (.bool false)))⟩])
  (.seq (.reg [⟨(some 4), none, .e (.call 14 [])⟩, ⟨(some 5), none, .e (.call 7 [(.tmp 4)])⟩, ⟨(some 3), none, .p (.mov (.tmp 5))⟩, ⟨(some 6), none, .p (.ext (.tmp 3) 0)⟩, ⟨(some 7), none, .p (.ext (.tmp 3) 1)⟩, ⟨(some 1), none, .p (.mov (.tmp 6))⟩, ⟨(some 2), none, .p (.mov (.tmp 7))⟩])
  (.seq (.reg [⟨(some 8), none, .p (.mov (.tmp 2))⟩, ⟨(some 9), none, .p (.bin .eql (.tmp 8) (.const (.int .i64 0)))⟩, ⟨(some 10), none, .p (.mov (.tmp 9))⟩, ⟨(some 11), (some (10, true)), .p (.mov (.tmp 1))⟩, ⟨(some 12), (some (10, true)), .p (.bin .eql (.tmp 11) (.const (.string ⟨#[108, 105, 110, 107, 32, 49, 10, 108, 105, 110, 107, 32, 51, 47, 50, 10, 102, 108, 111, 119, 32, 48, 32, 49, 10, 102, 108, 111, 119, 32, 49, 32, 109, 97, 120, 32, 50, 10]⟩)))⟩, ⟨(some 13), none, .p (.pick (.tmp 10) (.tmp 12) (.const (.bool false)))⟩, ⟨(some 14), none, .p (.mov (.tmp 13))⟩, ⟨(some 15), (some (14, true)), .e (.call 14 [])⟩, ⟨(some 16), (some (14, true)), .p (.bld [(.int .i64 0), (.int .i64 0)] [(0, 1, (.const (.int .i64 1))), (1, 1, (.const (.int .i64 2)))])⟩, ⟨(some 17), (some (14, true)), .p (.bld [(.int .i64 0), (.int .i64 0)] [(0, 1, (.const (.int .i64 1))), (1, 1, (.const (.int .i64 1)))])⟩, ⟨(some 18), (some (14, true)), .e (.bsl 0 2 2 [(.int .i64 0), (.int .i64 0)] [(0, 2, (.tmp 16)), (2, 2, (.tmp 17))])⟩, ⟨(some 19), (some (14, true)), .e (.call 15 [(.tmp 15), (.tmp 18), (.const (.int .i64 1))])⟩, ⟨(some 20), none, .p (.pick (.tmp 14) (.tmp 19) (.const (.bool false)))⟩, ⟨(some 0), none, .p (.mov (.tmp 20))⟩])
  .ret)))
def rf5 : List RX := [.tmp 0]
set_option maxRecDepth 100000 in
theorem comp5 : cFn Tryz.prog Tryz.f5 = some (erase cf5, rf5) := by kernel_rfl
def lb11_0 : LC :=
  (.seq (.reg [⟨(some 26), none, .p (.bin .lss (.tmp 25) (.tmp 24))⟩])
  (.seq (.cond (.tmp 26) .skip (.exit 2))
  (.seq (.block 3
  (.seq (.reg [⟨(some 27), none, .p (.iad 4 (.tmp 23) (.tmp 25))⟩, ⟨(some 28), none, .p (.ld (some 4) (.tmp 27))⟩, ⟨(some 7), none, .e (.alc [(.slice none 0 0), (.bool false), (.int .i64 0), (.int .i64 0)])⟩, ⟨none, none, .e (.st 4 (.tmp 7) (.tmp 28))⟩])
  (.reg [⟨(some 29), none, .p (.fad 1 (.tmp 3))⟩, ⟨(some 30), none, .p (.ld none (.tmp 29))⟩, ⟨(some 31), none, .p (.fad 0 (.tmp 7))⟩, ⟨(some 32), none, .p (.ld none (.tmp 31))⟩, ⟨(some 33), none, .p (.fad 1 (.tmp 7))⟩, ⟨(some 34), none, .p (.ld none (.tmp 33))⟩, ⟨(some 35), none, .p (.fad 2 (.tmp 7))⟩, ⟨(some 36), none, .p (.ld (some 2) (.tmp 35))⟩, ⟨(some 37), none, .p (.bld [(.slice none 0 0), (.bool false), (.int .i64 0), (.int .i64 0)] [(0, 1, (.tmp 32)), (1, 1, (.tmp 34)), (2, 2, (.tmp 36))])⟩, ⟨(some 38), none, .e (.bsl 0 1 4 [(.slice none 0 0), (.bool false), (.int .i64 0), (.int .i64 0)] [(0, 4, (.tmp 37))])⟩, ⟨(some 39), none, .e (.app 0 4 48 (.tmp 30) (.tmp 38))⟩, ⟨(some 40), none, .p (.fad 1 (.tmp 3))⟩, ⟨none, none, .e (.st 1 (.tmp 40) (.tmp 39))⟩])))
  (.reg [⟨(some 41), none, .p (.bin .add (.tmp 25) (.const (.int .i64 1)))⟩, ⟨(some 25), none, .p (.mov (.tmp 41))⟩]))))
def lb11_1 : LC :=
  (.seq (.reg [⟨(some 12), none, .p (.bin .lss (.tmp 11) (.tmp 10))⟩])
  (.seq (.cond (.tmp 12) .skip (.exit 0))
  (.seq (.block 1
  (.seq (.reg [⟨(some 13), none, .p (.iad 2 (.tmp 9) (.tmp 11))⟩, ⟨(some 14), none, .p (.ld (some 2) (.tmp 13))⟩, ⟨(some 5), none, .e (.alc [(.int .i64 0), (.int .i64 0)])⟩, ⟨none, none, .e (.st 2 (.tmp 5) (.tmp 14))⟩])
  (.reg [⟨(some 15), none, .p (.fad 0 (.tmp 3))⟩, ⟨(some 16), none, .p (.ld none (.tmp 15))⟩, ⟨(some 17), none, .p (.ld (some 2) (.tmp 5))⟩, ⟨(some 18), none, .e (.bsl 0 1 2 [(.int .i64 0), (.int .i64 0)] [(0, 2, (.tmp 17))])⟩, ⟨(some 19), none, .e (.app 0 2 16 (.tmp 16) (.tmp 18))⟩, ⟨(some 20), none, .p (.fad 0 (.tmp 3))⟩, ⟨none, none, .e (.st 1 (.tmp 20) (.tmp 19))⟩])))
  (.reg [⟨(some 21), none, .p (.bin .add (.tmp 11) (.const (.int .i64 1)))⟩, ⟨(some 11), none, .p (.mov (.tmp 21))⟩]))))
def cf11 : LC :=
  (.seq (.reg [⟨(some 1), none, .e (.box (.tmp 0))⟩, ⟨(some 2), none, .e (.alc [(.slice none 0 0), (.slice none 0 0)])⟩])
  (.seq (.reg [⟨(some 3), none, .e (.alc [(.slice none 0 0), (.slice none 0 0)])⟩])
  (.seq (.seq (.reg [⟨(some 8), none, .p (.fad 0 (.tmp 1))⟩, ⟨(some 9), none, .p (.ld none (.tmp 8))⟩, ⟨(some 10), none, .p (.len 1 (.tmp 9))⟩, ⟨(some 11), none, .p (.mov (.const (.int .i64 0)))⟩])
  (.block 0
  (.loop lb11_1)))
  (.seq (.seq (.reg [⟨(some 22), none, .p (.fad 1 (.tmp 1))⟩, ⟨(some 23), none, .p (.ld none (.tmp 22))⟩, ⟨(some 24), none, .p (.len 1 (.tmp 23))⟩, ⟨(some 25), none, .p (.mov (.const (.int .i64 0)))⟩])
  (.block 2
  (.loop lb11_0)))
  (.seq (.reg [⟨(some 42), none, .p (.ld (some 2) (.tmp 3))⟩, ⟨none, none, .e (.st 2 (.tmp 2) (.tmp 42))⟩])
  .ret)))))
def rf11 : List RX := [.cell 2 (some 2)]
set_option maxRecDepth 100000 in
theorem comp11 : cFn Tryz.prog Tryz.f11 = some (erase cf11, rf11) := by kernel_rfl
def cf14 : LC :=
  (.seq (.reg [⟨(some 0), none, .e (.alc [(.slice none 0 0), (.slice none 0 0)])⟩])
  (.seq (.reg [⟨(some 1), none, .p (.bld [(.int .i64 0), (.int .i64 0)] [(0, 1, (.const (.int .i64 1))), (1, 1, (.const (.int .i64 1)))])⟩, ⟨(some 2), none, .p (.bld [(.int .i64 0), (.int .i64 0)] [(0, 1, (.const (.int .i64 3))), (1, 1, (.const (.int .i64 2)))])⟩, ⟨(some 3), none, .e (.bsl 0 2 2 [(.int .i64 0), (.int .i64 0)] [(0, 2, (.tmp 1)), (2, 2, (.tmp 2))])⟩, ⟨(some 4), none, .e (.bsl 1 2 1 [(.int .i64 0)] [(0, 1, (.const (.int .i64 0))), (1, 1, (.const (.int .i64 1)))])⟩, ⟨(some 5), none, .p (.bld [(.slice none 0 0), (.bool false), (.int .i64 0), (.int .i64 0)] [(0, 1, (.tmp 4))])⟩, ⟨(some 6), none, .e (.bsl 1 1 1 [(.int .i64 0)] [(0, 1, (.const (.int .i64 1)))])⟩, ⟨(some 7), none, .p (.bld [(.int .i64 0), (.int .i64 0)] [(0, 1, (.const (.int .i64 2))), (1, 1, (.const (.int .i64 1)))])⟩, ⟨(some 8), none, .p (.bld [(.slice none 0 0), (.bool false), (.int .i64 0), (.int .i64 0)] [(0, 1, (.tmp 6)), (1, 1, (.const (.bool true))), (2, 2, (.tmp 7))])⟩, ⟨(some 9), none, .e (.bsl 0 2 4 [(.slice none 0 0), (.bool false), (.int .i64 0), (.int .i64 0)] [(0, 4, (.tmp 5)), (4, 4, (.tmp 8))])⟩, ⟨(some 10), none, .p (.bld [(.slice none 0 0), (.slice none 0 0)] [(0, 1, (.tmp 3)), (1, 1, (.tmp 9))])⟩, ⟨none, none, .e (.st 2 (.tmp 0) (.tmp 10))⟩])
  .ret))
def rf14 : List RX := [.cell 0 (some 2)]
set_option maxRecDepth 100000 in
theorem comp14 : cFn Tryz.prog Tryz.f14 = some (erase cf14, rf14) := by kernel_rfl
end Go.Proofs.YtdfiicpikcdokaaGreatDoor
namespace Go.Proofs.YtdfiicpikcdokaaGreatDoor
def cf27 : LC :=
  (.seq (.reg [⟨(some 1), none, .e (.box (.tmp 0))⟩, ⟨(some 2), none, .p (.mov (.const (.string ⟨#[]⟩)))⟩])
  (.seq (.reg [⟨(some 3), none, .p (.ld (some 2) (.tmp 1))⟩, ⟨(some 4), none, .e (.call 49 [(.tmp 3)])⟩, ⟨none, none, .e (.st 2 (.tmp 1) (.tmp 4))⟩])
  (.seq (.seq (.reg [⟨(some 5), none, .p (.fad 1 (.tmp 1))⟩, ⟨(some 6), none, .p (.ld none (.tmp 5))⟩, ⟨(some 7), none, .p (.bin .eql (.tmp 6) (.const (.int .i64 1)))⟩])
  (.cond (.tmp 7) (.seq (.reg [⟨(some 8), none, .p (.fad 0 (.tmp 1))⟩, ⟨(some 9), none, .p (.ld none (.tmp 8))⟩, ⟨(some 10), none, .e (.call 50 [(.tmp 9)])⟩, ⟨(some 2), none, .p (.mov (.tmp 10))⟩])
  .ret) .skip))
  (.seq (.dreg [⟨(some 11), none, .p (.fad 0 (.tmp 1))⟩, ⟨(some 12), none, .p (.ld none (.tmp 11))⟩, ⟨(some 13), none, .e (.call 50 [(.tmp 12)])⟩, ⟨(some 14), none, .p (.bin .add (.tmp 13) (.const (.string ⟨#[47]⟩)))⟩, ⟨(some 15), none, .p (.fad 1 (.tmp 1))⟩, ⟨(some 16), none, .p (.ld none (.tmp 15))⟩, ⟨(some 17), none, .e (.call 50 [(.tmp 16)])⟩, ⟨(some 18), none, .p (.bin .add (.tmp 14) (.tmp 17))⟩] [[⟨(some 2), none, .p (.mov (.tmp 18))⟩]])
  .ret))))
def rf27 : List RX := [.tmp 2]
set_option maxRecDepth 100000 in
theorem comp27 : cFn Tryz.prog Tryz.f27 = some (erase cf27, rf27) := by kernel_rfl
def cf29 : LC :=
  (.seq (.reg [⟨(some 2), none, .e (.box (.tmp 0))⟩, ⟨(some 3), none, .e (.box (.tmp 1))⟩, ⟨(some 4), none, .p (.mov (.const (.bool false)))⟩])
  (.seq (.dreg [⟨(some 5), none, .p (.ld (some 2) (.tmp 2))⟩, ⟨(some 6), none, .e (.call 49 [(.tmp 5)])⟩, ⟨(some 7), none, .p (.ld (some 2) (.tmp 3))⟩, ⟨(some 8), none, .e (.call 49 [(.tmp 7)])⟩, ⟨(some 9), none, .p (.eqa false [(.i .i64), (.i .i64)] (.tmp 6) (.tmp 8))⟩] [[⟨(some 4), none, .p (.mov (.tmp 9))⟩]])
  .ret))
def rf29 : List RX := [.tmp 4]
set_option maxRecDepth 100000 in
theorem comp29 : cFn Tryz.prog Tryz.f29 = some (erase cf29, rf29) := by kernel_rfl
def lb31_0 : LC :=
  (.seq (.seq (.reg [⟨(some 17), none, .p (.mov (.tmp 5))⟩, ⟨(some 18), none, .p (.mov (.tmp 0))⟩, ⟨(some 19), none, .p (.len 0 (.tmp 18))⟩, ⟨(some 20), none, .p (.bin .lss (.tmp 17) (.tmp 19))⟩])
  (.cond (.tmp 20) .skip (.exit 0)))
  (.seq (.block 1
  (.seq (.seq (.reg [⟨(some 23), none, .p (.mov (.tmp 0))⟩, ⟨(some 24), none, .p (.mov (.tmp 5))⟩, ⟨(some 25), none, .p (.idxs (.tmp 23) (.tmp 24))⟩, ⟨(some 26), none, .p (.bin .eql (.tmp 25) (.const (.int .u8 47)))⟩, ⟨(some 27), none, .p (.mov (.tmp 26))⟩, ⟨(some 28), (some (27, true)), .p (.mov (.tmp 7))⟩, ⟨(some 29), (some (27, true)), .p (.bin .eql (.tmp 28) (.const (.int .i64 0)))⟩, ⟨(some 30), none, .p (.pick (.tmp 27) (.tmp 29) (.const (.bool false)))⟩])
  (.cond (.tmp 30) (.seq (.reg [⟨(some 7), none, .p (.mov (.const (.int .i64 1)))⟩])
  (.exit 1)) .skip))
  (.seq (.seq (.reg [⟨(some 31), none, .p (.mov (.tmp 0))⟩, ⟨(some 32), none, .p (.mov (.tmp 5))⟩, ⟨(some 33), none, .p (.idxs (.tmp 31) (.tmp 32))⟩, ⟨(some 34), none, .p (.bin .lss (.tmp 33) (.const (.int .u8 48)))⟩, ⟨(some 35), none, .p (.mov (.tmp 34))⟩, ⟨(some 36), (some (35, false)), .p (.mov (.tmp 0))⟩, ⟨(some 37), (some (35, false)), .p (.mov (.tmp 5))⟩, ⟨(some 38), (some (35, false)), .p (.idxs (.tmp 36) (.tmp 37))⟩, ⟨(some 39), (some (35, false)), .p (.bin .gtr (.tmp 38) (.const (.int .u8 57)))⟩, ⟨(some 40), none, .p (.pick (.tmp 35) (.const (.bool true)) (.tmp 39))⟩, ⟨(some 41), none, .p (.mov (.tmp 40))⟩, ⟨(some 42), (some (41, false)), .p (.mov (.tmp 7))⟩, ⟨(some 43), (some (41, false)), .p (.iada 2 1 (.tmp 6) (.tmp 42))⟩, ⟨(some 44), (some (41, false)), .p (.ld none (.tmp 43))⟩, ⟨(some 45), (some (41, false)), .p (.bin .gtr (.tmp 44) (.const (.int .i64 144115188075855872)))⟩, ⟨(some 46), none, .p (.pick (.tmp 41) (.const (.bool true)) (.tmp 45))⟩])
  (.cond (.tmp 46) (.seq (.reg [⟨(some 47), none, .p (.bld [(.int .i64 0), (.int .i64 0)] [])⟩, ⟨none, none, .e (.st 2 (.tmp 2) (.tmp 47))⟩, ⟨(some 3), none, .p (.mov (.const (.bool false)))⟩])
  .ret) .skip))
  (.dreg [⟨(some 48), none, .p (.mov (.tmp 7))⟩, ⟨(some 49), none, .p (.mov (.tmp 7))⟩, ⟨(some 50), none, .p (.iada 2 1 (.tmp 6) (.tmp 49))⟩, ⟨(some 51), none, .p (.ld none (.tmp 50))⟩, ⟨(some 52), none, .p (.bin .mul (.const (.int .i64 10)) (.tmp 51))⟩, ⟨(some 53), none, .p (.mov (.tmp 0))⟩, ⟨(some 54), none, .p (.mov (.tmp 5))⟩, ⟨(some 55), none, .p (.idxs (.tmp 53) (.tmp 54))⟩, ⟨(some 56), none, .p (.bin .sub (.tmp 55) (.const (.int .u8 48)))⟩, ⟨(some 57), none, .p (.cvt .i64 (.tmp 56))⟩, ⟨(some 58), none, .p (.bin .add (.tmp 52) (.tmp 57))⟩, ⟨(some 59), none, .p (.iada 2 1 (.tmp 6) (.tmp 48))⟩] [[⟨none, none, .e (.st 1 (.tmp 59) (.tmp 58))⟩]]))))
  (.reg [⟨(some 21), none, .p (.mov (.tmp 5))⟩, ⟨(some 22), none, .p (.bin .add (.tmp 21) (.const (.int .i64 1)))⟩, ⟨(some 5), none, .p (.mov (.tmp 22))⟩])))
def cf31 : LC :=
  (.seq (.reg [⟨(some 2), none, .e (.alc [(.int .i64 0), (.int .i64 0)])⟩, ⟨(some 3), none, .p (.mov (.const (.bool false)))⟩])
  (.seq (.reg [⟨(some 4), none, .p (.mov (.const (.int .i64 1)))⟩, ⟨(some 5), none, .p (.mov (.const (.int .i64 0)))⟩])
  (.seq (.seq (.reg [⟨(some 9), none, .p (.mov (.tmp 0))⟩, ⟨(some 10), none, .p (.len 0 (.tmp 9))⟩, ⟨(some 11), none, .p (.bin .gtr (.tmp 10) (.const (.int .i64 0)))⟩, ⟨(some 12), none, .p (.mov (.tmp 11))⟩, ⟨(some 13), (some (12, true)), .p (.mov (.tmp 0))⟩, ⟨(some 14), (some (12, true)), .p (.idxs (.tmp 13) (.const (.int .i64 0)))⟩, ⟨(some 15), (some (12, true)), .p (.bin .eql (.tmp 14) (.const (.int .u8 45)))⟩, ⟨(some 16), none, .p (.pick (.tmp 12) (.tmp 15) (.const (.bool false)))⟩])
  (.cond (.tmp 16) (.reg [⟨(some 4), none, .p (.mov (.const (.int .i64 (-1))))⟩, ⟨(some 5), none, .p (.mov (.const (.int .i64 1)))⟩]) .skip))
  (.seq (.reg [⟨(some 6), none, .e (.alc [(.int .i64 0), (.int .i64 0)])⟩])
  (.seq (.reg [⟨(some 7), none, .p (.mov (.const (.int .i64 0)))⟩])
  (.seq (.block 0
  (.loop lb31_0))
  (.seq (.seq (.reg [⟨(some 60), none, .p (.mov (.tmp 7))⟩, ⟨(some 61), none, .p (.bin .eql (.tmp 60) (.const (.int .i64 0)))⟩])
  (.cond (.tmp 61) (.reg [⟨(some 62), none, .p (.iada 2 1 (.tmp 6) (.const (.int .i64 1)))⟩, ⟨none, none, .e (.st 1 (.tmp 62) (.const (.int .i64 1)))⟩]) .skip))
  (.seq (.reg [⟨(some 63), none, .p (.mov (.tmp 4))⟩, ⟨(some 64), none, .p (.iada 2 1 (.tmp 6) (.const (.int .i64 0)))⟩, ⟨(some 65), none, .p (.ld none (.tmp 64))⟩, ⟨(some 66), none, .p (.bin .mul (.tmp 63) (.tmp 65))⟩, ⟨(some 67), none, .p (.iada 2 1 (.tmp 6) (.const (.int .i64 1)))⟩, ⟨(some 68), none, .p (.ld none (.tmp 67))⟩, ⟨(some 69), none, .p (.bld [(.int .i64 0), (.int .i64 0)] [(0, 1, (.tmp 66)), (1, 1, (.tmp 68))])⟩, ⟨(some 8), none, .e (.alc [(.int .i64 0), (.int .i64 0)])⟩, ⟨none, none, .e (.st 2 (.tmp 8) (.tmp 69))⟩])
  (.seq (.seq (.reg [⟨(some 70), none, .p (.fad 1 (.tmp 8))⟩, ⟨(some 71), none, .p (.ld none (.tmp 70))⟩, ⟨(some 72), none, .p (.bin .eql (.tmp 71) (.const (.int .i64 0)))⟩, ⟨(some 73), none, .p (.mov (.tmp 72))⟩, ⟨(some 74), (some (73, false)), .p (.ld (some 2) (.tmp 8))⟩, ⟨(some 75), (some (73, false)), .e (.call 51 [(.tmp 74)])⟩, ⟨(some 76), (some (73, false)), .p (.un .not (.tmp 75))⟩, ⟨(some 77), none, .p (.pick (.tmp 73) (.const (.bool true)) (.tmp 76))⟩, ⟨(some 78), none, .p (.mov (.tmp 77))⟩, ⟨(some 79), (some (78, false)), .p (.ld (some 2) (.tmp 8))⟩, ⟨(some 80), (some (78, false)), .e (.call 27 [(.tmp 79)])⟩, ⟨(some 81), (some (78, false)), .p (.mov (.tmp 0))⟩, ⟨(some 82), (some (78, false)), .p (.bin .neq (.tmp 80) (.tmp 81))⟩, ⟨(some 83), none, .p (.pick (.tmp 78) (.const (.bool true)) (.tmp 82))⟩])
  (.cond (.tmp 83) (.seq (.reg [⟨(some 84), none, .p (.bld [(.int .i64 0), (.int .i64 0)] [])⟩, ⟨none, none, .e (.st 2 (.tmp 2) (.tmp 84))⟩, ⟨(some 3), none, .p (.mov (.const (.bool false)))⟩])
  .ret) .skip))
  (.seq (.reg [⟨(some 85), none, .p (.ld (some 2) (.tmp 8))⟩, ⟨none, none, .e (.st 2 (.tmp 2) (.tmp 85))⟩, ⟨(some 3), none, .p (.mov (.const (.bool true)))⟩])
  .ret))))))))))
def rf31 : List RX := [.cell 2 (some 2), .tmp 3]
set_option maxRecDepth 100000 in
theorem comp31 : cFn Tryz.prog Tryz.f31 = some (erase cf31, rf31) := by kernel_rfl
def cf49 : LC :=
  (.seq (.reg [⟨(some 1), none, .e (.box (.tmp 0))⟩, ⟨(some 2), none, .e (.alc [(.int .i64 0), (.int .i64 0)])⟩])
  (.seq (.seq (.reg [⟨(some 3), none, .p (.fad 1 (.tmp 1))⟩, ⟨(some 4), none, .p (.ld none (.tmp 3))⟩, ⟨(some 5), none, .p (.bin .eql (.tmp 4) (.const (.int .i64 0)))⟩])
  (.cond (.tmp 5) (.seq (.reg [⟨(some 6), none, .p (.bld [(.int .i64 0), (.int .i64 0)] [(0, 1, (.const (.int .i64 0))), (1, 1, (.const (.int .i64 1)))])⟩, ⟨none, none, .e (.st 2 (.tmp 2) (.tmp 6))⟩])
  .ret) .skip))
  (.seq (.reg [⟨(some 7), none, .p (.ld (some 2) (.tmp 1))⟩, ⟨none, none, .e (.st 2 (.tmp 2) (.tmp 7))⟩])
  .ret)))
def rf49 : List RX := [.cell 2 (some 2)]
set_option maxRecDepth 100000 in
theorem comp49 : cFn Tryz.prog Tryz.f49 = some (erase cf49, rf49) := by kernel_rfl
def cf50 : LC :=
  (.seq (.reg [⟨(some 2), none, .p (.mov (.const (.string ⟨#[]⟩)))⟩])
  (.seq (.seq (.reg [⟨(some 4), none, .p (.mov (.tmp 0))⟩, ⟨(some 5), none, .p (.bin .lss (.tmp 4) (.const (.int .i64 0)))⟩])
  (.cond (.tmp 5) (.seq (.reg [⟨(some 6), none, .p (.mov (.tmp 0))⟩, ⟨(some 7), none, .p (.ng0 (.tmp 6))⟩, ⟨(some 8), none, .e (.call 50 [(.tmp 7)])⟩, ⟨(some 9), none, .p (.bin .add (.const (.string ⟨#[45]⟩)) (.tmp 8))⟩, ⟨(some 2), none, .p (.mov (.tmp 9))⟩])
  .ret) .skip))
  (.seq (.reg [⟨(some 10), none, .p (.mov (.tmp 0))⟩, ⟨(some 11), none, .p (.bin .rem (.tmp 10) (.const (.int .i64 10)))⟩, ⟨(some 12), none, .p (.mov (.tmp 0))⟩, ⟨(some 13), none, .p (.bin .rem (.tmp 12) (.const (.int .i64 10)))⟩, ⟨(some 14), none, .p (.bin .add (.tmp 13) (.const (.int .i64 1)))⟩, ⟨(some 15), none, .p (.slcs (.const (.string ⟨#[48, 49, 50, 51, 52, 53, 54, 55, 56, 57]⟩)) (some (.tmp 11)) (some (.tmp 14)))⟩, ⟨(some 3), none, .p (.mov (.tmp 15))⟩])
  (.seq (.seq (.reg [⟨(some 16), none, .p (.mov (.tmp 0))⟩, ⟨(some 17), none, .p (.bin .lss (.tmp 16) (.const (.int .i64 10)))⟩])
  (.cond (.tmp 17) (.seq (.reg [⟨(some 18), none, .p (.mov (.tmp 3))⟩, ⟨(some 2), none, .p (.mov (.tmp 18))⟩])
  .ret) .skip))
  (.seq (.reg [⟨(some 19), none, .p (.mov (.tmp 0))⟩, ⟨(some 20), none, .p (.bin .quo (.tmp 19) (.const (.int .i64 10)))⟩, ⟨(some 21), none, .e (.call 50 [(.tmp 20)])⟩, ⟨(some 22), none, .p (.mov (.tmp 3))⟩, ⟨(some 23), none, .p (.bin .add (.tmp 21) (.tmp 22))⟩, ⟨(some 2), none, .p (.mov (.tmp 23))⟩])
  .ret)))))
def rf50 : List RX := [.tmp 2]
set_option maxRecDepth 100000 in
theorem comp50 : cFn Tryz.prog Tryz.f50 = some (erase cf50, rf50) := by kernel_rfl
def cf51 : LC :=
  (.seq (.reg [⟨(some 1), none, .e (.box (.tmp 0))⟩, ⟨(some 2), none, .p (.mov (.const (.bool false)))⟩])
  (.seq (.seq (.reg [⟨(some 3), none, .p (.fad 0 (.tmp 1))⟩, ⟨(some 4), none, .p (.ld none (.tmp 3))⟩, ⟨(some 5), none, .p (.bin .eql (.tmp 4) (.const (.int .i64 0)))⟩, ⟨(some 6), none, .p (.mov (.tmp 5))⟩, ⟨(some 7), (some (6, true)), .p (.fad 1 (.tmp 1))⟩, ⟨(some 8), (some (6, true)), .p (.ld none (.tmp 7))⟩, ⟨(some 9), (some (6, true)), .p (.bin .eql (.tmp 8) (.const (.int .i64 0)))⟩, ⟨(some 10), none, .p (.pick (.tmp 6) (.tmp 9) (.const (.bool false)))⟩])
  (.cond (.tmp 10) (.seq (.reg [⟨(some 2), none, .p (.mov (.const (.bool true)))⟩])
  .ret) .skip))
  (.seq (.dreg [⟨(some 11), none, .p (.fad 1 (.tmp 1))⟩, ⟨(some 12), none, .p (.ld none (.tmp 11))⟩, ⟨(some 13), none, .p (.bin .geq (.tmp 12) (.const (.int .i64 1)))⟩, ⟨(some 14), none, .p (.mov (.tmp 13))⟩, ⟨(some 15), (some (14, true)), .p (.fad 1 (.tmp 1))⟩, ⟨(some 16), (some (14, true)), .p (.ld none (.tmp 15))⟩, ⟨(some 17), (some (14, true)), .p (.bin .leq (.tmp 16) (.const (.int .i64 1152921504606846976)))⟩, ⟨(some 18), none, .p (.pick (.tmp 14) (.tmp 17) (.const (.bool false)))⟩, ⟨(some 19), none, .p (.mov (.tmp 18))⟩, ⟨(some 20), (some (19, true)), .p (.fad 0 (.tmp 1))⟩, ⟨(some 21), (some (19, true)), .p (.ld none (.tmp 20))⟩, ⟨(some 22), (some (19, true)), .p (.bin .geq (.tmp 21) (.const (.int .i64 (-1152921504606846976))))⟩, ⟨(some 23), none, .p (.pick (.tmp 19) (.tmp 22) (.const (.bool false)))⟩, ⟨(some 24), none, .p (.mov (.tmp 23))⟩, ⟨(some 25), (some (24, true)), .p (.fad 0 (.tmp 1))⟩, ⟨(some 26), (some (24, true)), .p (.ld none (.tmp 25))⟩, ⟨(some 27), (some (24, true)), .p (.bin .leq (.tmp 26) (.const (.int .i64 1152921504606846976)))⟩, ⟨(some 28), none, .p (.pick (.tmp 24) (.tmp 27) (.const (.bool false)))⟩, ⟨(some 29), none, .p (.mov (.tmp 28))⟩, ⟨(some 30), (some (29, true)), .p (.fad 0 (.tmp 1))⟩, ⟨(some 31), (some (29, true)), .p (.ld none (.tmp 30))⟩, ⟨(some 32), (some (29, true)), .e (.call 67 [(.tmp 31)])⟩, ⟨(some 33), (some (29, true)), .p (.fad 1 (.tmp 1))⟩, ⟨(some 34), (some (29, true)), .p (.ld none (.tmp 33))⟩, ⟨(some 35), (some (29, true)), .e (.call 66 [(.tmp 32), (.tmp 34)])⟩, ⟨(some 36), (some (29, true)), .p (.bin .eql (.tmp 35) (.const (.int .i64 1)))⟩, ⟨(some 37), none, .p (.pick (.tmp 29) (.tmp 36) (.const (.bool false)))⟩] [[⟨(some 2), none, .p (.mov (.tmp 37))⟩]])
  .ret)))
def rf51 : List RX := [.tmp 2]
set_option maxRecDepth 100000 in
theorem comp51 : cFn Tryz.prog Tryz.f51 = some (erase cf51, rf51) := by kernel_rfl
def lb66_0 : LC :=
  (.seq (.seq (.reg [⟨(some 5), none, .p (.mov (.tmp 1))⟩, ⟨(some 6), none, .p (.bin .neq (.tmp 5) (.const (.int .i64 0)))⟩])
  (.cond (.tmp 6) .skip (.exit 0)))
  (.block 1
  (.dreg [⟨(some 7), none, .p (.mov (.tmp 1))⟩, ⟨(some 8), none, .p (.mov (.tmp 0))⟩, ⟨(some 9), none, .p (.mov (.tmp 1))⟩, ⟨(some 10), none, .p (.bin .rem (.tmp 8) (.tmp 9))⟩, ⟨(some 0), none, .p (.mov (.tmp 7))⟩] [[⟨(some 1), none, .p (.mov (.tmp 10))⟩]])))
def cf66 : LC :=
  (.seq (.reg [⟨(some 4), none, .p (.mov (.const (.int .i64 0)))⟩])
  (.seq (.block 0
  (.loop lb66_0))
  (.seq (.reg [⟨(some 11), none, .p (.mov (.tmp 0))⟩, ⟨(some 4), none, .p (.mov (.tmp 11))⟩])
  .ret)))
def rf66 : List RX := [.tmp 4]
set_option maxRecDepth 100000 in
theorem comp66 : cFn Tryz.prog Tryz.f66 = some (erase cf66, rf66) := by kernel_rfl
def cf67 : LC :=
  (.seq (.reg [⟨(some 2), none, .p (.mov (.const (.int .i64 0)))⟩])
  (.seq (.seq (.reg [⟨(some 3), none, .p (.mov (.tmp 0))⟩, ⟨(some 4), none, .p (.bin .lss (.tmp 3) (.const (.int .i64 0)))⟩])
  (.cond (.tmp 4) (.seq (.reg [⟨(some 5), none, .p (.mov (.tmp 0))⟩, ⟨(some 6), none, .p (.ng0 (.tmp 5))⟩, ⟨(some 2), none, .p (.mov (.tmp 6))⟩])
  .ret) .skip))
  (.seq (.reg [⟨(some 7), none, .p (.mov (.tmp 0))⟩, ⟨(some 2), none, .p (.mov (.tmp 7))⟩])
  .ret)))
def rf67 : List RX := [.tmp 2]
set_option maxRecDepth 100000 in
theorem comp67 : cFn Tryz.prog Tryz.f67 = some (erase cf67, rf67) := by kernel_rfl
end Go.Proofs.YtdfiicpikcdokaaGreatDoor
namespace Go.Proofs.YtdfiicpikcdokaaGreatDoor
def lb12_0 : LC :=
  (.seq (.seq (.reg [⟨(some 84), none, .p (.mov (.tmp 9))⟩, ⟨(some 85), none, .p (.fad 0 (.tmp 7))⟩, ⟨(some 86), none, .p (.ld none (.tmp 85))⟩, ⟨(some 87), none, .p (.len 1 (.tmp 86))⟩, ⟨(some 88), none, .p (.bin .lss (.tmp 84) (.tmp 87))⟩])
  (.cond (.tmp 88) .skip (.exit 4)))
  (.seq (.block 5
  (.seq (.dreg [⟨(some 91), none, .p (.fad 0 (.tmp 7))⟩, ⟨(some 92), none, .p (.ld none (.tmp 91))⟩, ⟨(some 93), none, .p (.mov (.tmp 9))⟩, ⟨(some 94), none, .p (.iad 1 (.tmp 92) (.tmp 93))⟩, ⟨(some 95), none, .p (.ld none (.tmp 94))⟩, ⟨(some 96), none, .p (.fad 0 (.tmp 8))⟩, ⟨(some 97), none, .p (.ld none (.tmp 96))⟩, ⟨(some 98), none, .p (.mov (.tmp 9))⟩, ⟨(some 99), none, .p (.iad 1 (.tmp 97) (.tmp 98))⟩, ⟨(some 100), none, .p (.ld none (.tmp 99))⟩] [[⟨(some 101), none, .p (.bin .neq (.tmp 95) (.tmp 100))⟩]])
  (.cond (.tmp 101) (.seq (.reg [⟨(some 4), none, .p (.mov (.const (.bool false)))⟩])
  .ret) .skip)))
  (.reg [⟨(some 89), none, .p (.mov (.tmp 9))⟩, ⟨(some 90), none, .p (.bin .add (.tmp 89) (.const (.int .i64 1)))⟩, ⟨(some 9), none, .p (.mov (.tmp 90))⟩])))
def lb12_1 : LC :=
  (.seq (.seq (.reg [⟨(some 45), none, .p (.mov (.tmp 6))⟩, ⟨(some 46), none, .p (.fad 1 (.tmp 2))⟩, ⟨(some 47), none, .p (.ld none (.tmp 46))⟩, ⟨(some 48), none, .p (.len 1 (.tmp 47))⟩, ⟨(some 49), none, .p (.bin .lss (.tmp 45) (.tmp 48))⟩])
  (.cond (.tmp 49) .skip (.exit 2)))
  (.seq (.block 3
  (.seqj (.dreg [⟨(some 52), none, .p (.fad 1 (.tmp 2))⟩, ⟨(some 53), none, .p (.ld none (.tmp 52))⟩, ⟨(some 54), none, .p (.mov (.tmp 6))⟩, ⟨(some 55), none, .p (.iad 4 (.tmp 53) (.tmp 54))⟩, ⟨(some 56), none, .p (.ld (some 4) (.tmp 55))⟩, ⟨(some 57), none, .p (.fad 1 (.tmp 3))⟩, ⟨(some 59), none, .p (.mov (.tmp 6))⟩] [[⟨(some 58), none, .p (.ld none (.tmp 57))⟩, ⟨(some 60), none, .p (.iad 4 (.tmp 58) (.tmp 59))⟩, ⟨(some 61), none, .p (.ld (some 4) (.tmp 60))⟩, ⟨(some 7), none, .e (.alc [(.slice none 0 0), (.bool false), (.int .i64 0), (.int .i64 0)])⟩, ⟨(some 8), none, .e (.alc [(.slice none 0 0), (.bool false), (.int .i64 0), (.int .i64 0)])⟩, ⟨none, none, .e (.st 4 (.tmp 7) (.tmp 56))⟩, ⟨none, none, .e (.st 4 (.tmp 8) (.tmp 61))⟩], [⟨(some 58), none, .p (.ld none (.tmp 57))⟩, ⟨(some 60), none, .p (.iad 4 (.tmp 58) (.tmp 59))⟩, ⟨(some 61), none, .p (.ld (some 4) (.tmp 60))⟩, ⟨(some 8), none, .e (.alc [(.slice none 0 0), (.bool false), (.int .i64 0), (.int .i64 0)])⟩, ⟨(some 7), none, .e (.alc [(.slice none 0 0), (.bool false), (.int .i64 0), (.int .i64 0)])⟩, ⟨none, none, .e (.st 4 (.tmp 7) (.tmp 56))⟩, ⟨none, none, .e (.st 4 (.tmp 8) (.tmp 61))⟩], [⟨(some 58), none, .p (.ld none (.tmp 57))⟩, ⟨(some 60), none, .p (.iad 4 (.tmp 58) (.tmp 59))⟩, ⟨(some 7), none, .e (.alc [(.slice none 0 0), (.bool false), (.int .i64 0), (.int .i64 0)])⟩, ⟨(some 61), none, .p (.ld (some 4) (.tmp 60))⟩, ⟨(some 8), none, .e (.alc [(.slice none 0 0), (.bool false), (.int .i64 0), (.int .i64 0)])⟩, ⟨none, none, .e (.st 4 (.tmp 7) (.tmp 56))⟩, ⟨none, none, .e (.st 4 (.tmp 8) (.tmp 61))⟩], [⟨(some 58), none, .p (.ld none (.tmp 57))⟩, ⟨(some 60), none, .p (.iad 4 (.tmp 58) (.tmp 59))⟩, ⟨(some 7), none, .e (.alc [(.slice none 0 0), (.bool false), (.int .i64 0), (.int .i64 0)])⟩, ⟨(some 8), none, .e (.alc [(.slice none 0 0), (.bool false), (.int .i64 0), (.int .i64 0)])⟩, ⟨(some 61), none, .p (.ld (some 4) (.tmp 60))⟩, ⟨none, none, .e (.st 4 (.tmp 7) (.tmp 56))⟩, ⟨none, none, .e (.st 4 (.tmp 8) (.tmp 61))⟩], [⟨(some 58), none, .p (.ld none (.tmp 57))⟩, ⟨(some 60), none, .p (.iad 4 (.tmp 58) (.tmp 59))⟩, ⟨(some 7), none, .e (.alc [(.slice none 0 0), (.bool false), (.int .i64 0), (.int .i64 0)])⟩, ⟨(some 8), none, .e (.alc [(.slice none 0 0), (.bool false), (.int .i64 0), (.int .i64 0)])⟩, ⟨none, none, .e (.st 4 (.tmp 7) (.tmp 56))⟩, ⟨(some 61), none, .p (.ld (some 4) (.tmp 60))⟩, ⟨none, none, .e (.st 4 (.tmp 8) (.tmp 61))⟩], [⟨(some 58), none, .p (.ld none (.tmp 57))⟩, ⟨(some 60), none, .p (.iad 4 (.tmp 58) (.tmp 59))⟩, ⟨(some 8), none, .e (.alc [(.slice none 0 0), (.bool false), (.int .i64 0), (.int .i64 0)])⟩, ⟨(some 61), none, .p (.ld (some 4) (.tmp 60))⟩, ⟨(some 7), none, .e (.alc [(.slice none 0 0), (.bool false), (.int .i64 0), (.int .i64 0)])⟩, ⟨none, none, .e (.st 4 (.tmp 7) (.tmp 56))⟩, ⟨none, none, .e (.st 4 (.tmp 8) (.tmp 61))⟩], [⟨(some 58), none, .p (.ld none (.tmp 57))⟩, ⟨(some 60), none, .p (.iad 4 (.tmp 58) (.tmp 59))⟩, ⟨(some 8), none, .e (.alc [(.slice none 0 0), (.bool false), (.int .i64 0), (.int .i64 0)])⟩, ⟨(some 7), none, .e (.alc [(.slice none 0 0), (.bool false), (.int .i64 0), (.int .i64 0)])⟩, ⟨(some 61), none, .p (.ld (some 4) (.tmp 60))⟩, ⟨none, none, .e (.st 4 (.tmp 7) (.tmp 56))⟩, ⟨none, none, .e (.st 4 (.tmp 8) (.tmp 61))⟩], [⟨(some 58), none, .p (.ld none (.tmp 57))⟩, ⟨(some 60), none, .p (.iad 4 (.tmp 58) (.tmp 59))⟩, ⟨(some 8), none, .e (.alc [(.slice none 0 0), (.bool false), (.int .i64 0), (.int .i64 0)])⟩, ⟨(some 7), none, .e (.alc [(.slice none 0 0), (.bool false), (.int .i64 0), (.int .i64 0)])⟩, ⟨none, none, .e (.st 4 (.tmp 7) (.tmp 56))⟩, ⟨(some 61), none, .p (.ld (some 4) (.tmp 60))⟩, ⟨none, none, .e (.st 4 (.tmp 8) (.tmp 61))⟩], [⟨(some 58), none, .p (.ld none (.tmp 57))⟩, ⟨(some 7), none, .e (.alc [(.slice none 0 0), (.bool false), (.int .i64 0), (.int .i64 0)])⟩, ⟨(some 60), none, .p (.iad 4 (.tmp 58) (.tmp 59))⟩, ⟨(some 61), none, .p (.ld (some 4) (.tmp 60))⟩, ⟨(some 8), none, .e (.alc [(.slice none 0 0), (.bool false), (.int .i64 0), (.int .i64 0)])⟩, ⟨none, none, .e (.st 4 (.tmp 7) (.tmp 56))⟩, ⟨none, none, .e (.st 4 (.tmp 8) (.tmp 61))⟩], [⟨(some 58), none, .p (.ld none (.tmp 57))⟩, ⟨(some 7), none, .e (.alc [(.slice none 0 0), (.bool false), (.int .i64 0), (.int .i64 0)])⟩, ⟨(some 60), none, .p (.iad 4 (.tmp 58) (.tmp 59))⟩, ⟨(some 8), none, .e (.alc [(.slice none 0 0), (.bool false), (.int .i64 0), (.int .i64 0)])⟩, ⟨(some 61), none, .p (.ld (some 4) (.tmp 60))⟩, ⟨none, none, .e (.st 4 (.tmp 7) (.tmp 56))⟩, ⟨none, none, .e (.st 4 (.tmp 8) (.tmp 61))⟩], [⟨(some 58), none, .p (.ld none (.tmp 57))⟩, ⟨(some 7), none, .e (.alc [(.slice none 0 0), (.bool false), (.int .i64 0), (.int .i64 0)])⟩, ⟨(some 60), none, .p (.iad 4 (.tmp 58) (.tmp 59))⟩, ⟨(some 8), none, .e (.alc [(.slice none 0 0), (.bool false), (.int .i64 0), (.int .i64 0)])⟩, ⟨none, none, .e (.st 4 (.tmp 7) (.tmp 56))⟩, ⟨(some 61), none, .p (.ld (some 4) (.tmp 60))⟩, ⟨none, none, .e (.st 4 (.tmp 8) (.tmp 61))⟩], [⟨(some 58), none, .p (.ld none (.tmp 57))⟩, ⟨(some 7), none, .e (.alc [(.slice none 0 0), (.bool false), (.int .i64 0), (.int .i64 0)])⟩, ⟨(some 8), none, .e (.alc [(.slice none 0 0), (.bool false), (.int .i64 0), (.int .i64 0)])⟩, ⟨(some 60), none, .p (.iad 4 (.tmp 58) (.tmp 59))⟩, ⟨(some 61), none, .p (.ld (some 4) (.tmp 60))⟩, ⟨none, none, .e (.st 4 (.tmp 7) (.tmp 56))⟩, ⟨none, none, .e (.st 4 (.tmp 8) (.tmp 61))⟩], [⟨(some 58), none, .p (.ld none (.tmp 57))⟩, ⟨(some 7), none, .e (.alc [(.slice none 0 0), (.bool false), (.int .i64 0), (.int .i64 0)])⟩, ⟨(some 8), none, .e (.alc [(.slice none 0 0), (.bool false), (.int .i64 0), (.int .i64 0)])⟩, ⟨(some 60), none, .p (.iad 4 (.tmp 58) (.tmp 59))⟩, ⟨none, none, .e (.st 4 (.tmp 7) (.tmp 56))⟩, ⟨(some 61), none, .p (.ld (some 4) (.tmp 60))⟩, ⟨none, none, .e (.st 4 (.tmp 8) (.tmp 61))⟩], [⟨(some 58), none, .p (.ld none (.tmp 57))⟩, ⟨(some 7), none, .e (.alc [(.slice none 0 0), (.bool false), (.int .i64 0), (.int .i64 0)])⟩, ⟨(some 8), none, .e (.alc [(.slice none 0 0), (.bool false), (.int .i64 0), (.int .i64 0)])⟩, ⟨none, none, .e (.st 4 (.tmp 7) (.tmp 56))⟩, ⟨(some 60), none, .p (.iad 4 (.tmp 58) (.tmp 59))⟩, ⟨(some 61), none, .p (.ld (some 4) (.tmp 60))⟩, ⟨none, none, .e (.st 4 (.tmp 8) (.tmp 61))⟩], [⟨(some 58), none, .p (.ld none (.tmp 57))⟩, ⟨(some 8), none, .e (.alc [(.slice none 0 0), (.bool false), (.int .i64 0), (.int .i64 0)])⟩, ⟨(some 60), none, .p (.iad 4 (.tmp 58) (.tmp 59))⟩, ⟨(some 61), none, .p (.ld (some 4) (.tmp 60))⟩, ⟨(some 7), none, .e (.alc [(.slice none 0 0), (.bool false), (.int .i64 0), (.int .i64 0)])⟩, ⟨none, none, .e (.st 4 (.tmp 7) (.tmp 56))⟩, ⟨none, none, .e (.st 4 (.tmp 8) (.tmp 61))⟩], [⟨(some 58), none, .p (.ld none (.tmp 57))⟩, ⟨(some 8), none, .e (.alc [(.slice none 0 0), (.bool false), (.int .i64 0), (.int .i64 0)])⟩, ⟨(some 60), none, .p (.iad 4 (.tmp 58) (.tmp 59))⟩, ⟨(some 7), none, .e (.alc [(.slice none 0 0), (.bool false), (.int .i64 0), (.int .i64 0)])⟩, ⟨(some 61), none, .p (.ld (some 4) (.tmp 60))⟩, ⟨none, none, .e (.st 4 (.tmp 7) (.tmp 56))⟩, ⟨none, none, .e (.st 4 (.tmp 8) (.tmp 61))⟩], [⟨(some 58), none, .p (.ld none (.tmp 57))⟩, ⟨(some 8), none, .e (.alc [(.slice none 0 0), (.bool false), (.int .i64 0), (.int .i64 0)])⟩, ⟨(some 60), none, .p (.iad 4 (.tmp 58) (.tmp 59))⟩, ⟨(some 7), none, .e (.alc [(.slice none 0 0), (.bool false), (.int .i64 0), (.int .i64 0)])⟩, ⟨none, none, .e (.st 4 (.tmp 7) (.tmp 56))⟩, ⟨(some 61), none, .p (.ld (some 4) (.tmp 60))⟩, ⟨none, none, .e (.st 4 (.tmp 8) (.tmp 61))⟩], [⟨(some 58), none, .p (.ld none (.tmp 57))⟩, ⟨(some 8), none, .e (.alc [(.slice none 0 0), (.bool false), (.int .i64 0), (.int .i64 0)])⟩, ⟨(some 7), none, .e (.alc [(.slice none 0 0), (.bool false), (.int .i64 0), (.int .i64 0)])⟩, ⟨(some 60), none, .p (.iad 4 (.tmp 58) (.tmp 59))⟩, ⟨(some 61), none, .p (.ld (some 4) (.tmp 60))⟩, ⟨none, none, .e (.st 4 (.tmp 7) (.tmp 56))⟩, ⟨none, none, .e (.st 4 (.tmp 8) (.tmp 61))⟩], [⟨(some 58), none, .p (.ld none (.tmp 57))⟩, ⟨(some 8), none, .e (.alc [(.slice none 0 0), (.bool false), (.int .i64 0), (.int .i64 0)])⟩, ⟨(some 7), none, .e (.alc [(.slice none 0 0), (.bool false), (.int .i64 0), (.int .i64 0)])⟩, ⟨(some 60), none, .p (.iad 4 (.tmp 58) (.tmp 59))⟩, ⟨none, none, .e (.st 4 (.tmp 7) (.tmp 56))⟩, ⟨(some 61), none, .p (.ld (some 4) (.tmp 60))⟩, ⟨none, none, .e (.st 4 (.tmp 8) (.tmp 61))⟩], [⟨(some 58), none, .p (.ld none (.tmp 57))⟩, ⟨(some 8), none, .e (.alc [(.slice none 0 0), (.bool false), (.int .i64 0), (.int .i64 0)])⟩, ⟨(some 7), none, .e (.alc [(.slice none 0 0), (.bool false), (.int .i64 0), (.int .i64 0)])⟩, ⟨none, none, .e (.st 4 (.tmp 7) (.tmp 56))⟩, ⟨(some 60), none, .p (.iad 4 (.tmp 58) (.tmp 59))⟩, ⟨(some 61), none, .p (.ld (some 4) (.tmp 60))⟩, ⟨none, none, .e (.st 4 (.tmp 8) (.tmp 61))⟩], [⟨(some 7), none, .e (.alc [(.slice none 0 0), (.bool false), (.int .i64 0), (.int .i64 0)])⟩, ⟨(some 58), none, .p (.ld none (.tmp 57))⟩, ⟨(some 60), none, .p (.iad 4 (.tmp 58) (.tmp 59))⟩, ⟨(some 61), none, .p (.ld (some 4) (.tmp 60))⟩, ⟨(some 8), none, .e (.alc [(.slice none 0 0), (.bool false), (.int .i64 0), (.int .i64 0)])⟩, ⟨none, none, .e (.st 4 (.tmp 7) (.tmp 56))⟩, ⟨none, none, .e (.st 4 (.tmp 8) (.tmp 61))⟩], [⟨(some 7), none, .e (.alc [(.slice none 0 0), (.bool false), (.int .i64 0), (.int .i64 0)])⟩, ⟨(some 58), none, .p (.ld none (.tmp 57))⟩, ⟨(some 60), none, .p (.iad 4 (.tmp 58) (.tmp 59))⟩, ⟨(some 8), none, .e (.alc [(.slice none 0 0), (.bool false), (.int .i64 0), (.int .i64 0)])⟩, ⟨(some 61), none, .p (.ld (some 4) (.tmp 60))⟩, ⟨none, none, .e (.st 4 (.tmp 7) (.tmp 56))⟩, ⟨none, none, .e (.st 4 (.tmp 8) (.tmp 61))⟩], [⟨(some 7), none, .e (.alc [(.slice none 0 0), (.bool false), (.int .i64 0), (.int .i64 0)])⟩, ⟨(some 58), none, .p (.ld none (.tmp 57))⟩, ⟨(some 60), none, .p (.iad 4 (.tmp 58) (.tmp 59))⟩, ⟨(some 8), none, .e (.alc [(.slice none 0 0), (.bool false), (.int .i64 0), (.int .i64 0)])⟩, ⟨none, none, .e (.st 4 (.tmp 7) (.tmp 56))⟩, ⟨(some 61), none, .p (.ld (some 4) (.tmp 60))⟩, ⟨none, none, .e (.st 4 (.tmp 8) (.tmp 61))⟩], [⟨(some 7), none, .e (.alc [(.slice none 0 0), (.bool false), (.int .i64 0), (.int .i64 0)])⟩, ⟨(some 58), none, .p (.ld none (.tmp 57))⟩, ⟨(some 8), none, .e (.alc [(.slice none 0 0), (.bool false), (.int .i64 0), (.int .i64 0)])⟩, ⟨(some 60), none, .p (.iad 4 (.tmp 58) (.tmp 59))⟩, ⟨(some 61), none, .p (.ld (some 4) (.tmp 60))⟩, ⟨none, none, .e (.st 4 (.tmp 7) (.tmp 56))⟩, ⟨none, none, .e (.st 4 (.tmp 8) (.tmp 61))⟩], [⟨(some 7), none, .e (.alc [(.slice none 0 0), (.bool false), (.int .i64 0), (.int .i64 0)])⟩, ⟨(some 58), none, .p (.ld none (.tmp 57))⟩, ⟨(some 8), none, .e (.alc [(.slice none 0 0), (.bool false), (.int .i64 0), (.int .i64 0)])⟩, ⟨(some 60), none, .p (.iad 4 (.tmp 58) (.tmp 59))⟩, ⟨none, none, .e (.st 4 (.tmp 7) (.tmp 56))⟩, ⟨(some 61), none, .p (.ld (some 4) (.tmp 60))⟩, ⟨none, none, .e (.st 4 (.tmp 8) (.tmp 61))⟩], [⟨(some 7), none, .e (.alc [(.slice none 0 0), (.bool false), (.int .i64 0), (.int .i64 0)])⟩, ⟨(some 58), none, .p (.ld none (.tmp 57))⟩, ⟨(some 8), none, .e (.alc [(.slice none 0 0), (.bool false), (.int .i64 0), (.int .i64 0)])⟩, ⟨none, none, .e (.st 4 (.tmp 7) (.tmp 56))⟩, ⟨(some 60), none, .p (.iad 4 (.tmp 58) (.tmp 59))⟩, ⟨(some 61), none, .p (.ld (some 4) (.tmp 60))⟩, ⟨none, none, .e (.st 4 (.tmp 8) (.tmp 61))⟩], [⟨(some 7), none, .e (.alc [(.slice none 0 0), (.bool false), (.int .i64 0), (.int .i64 0)])⟩, ⟨(some 8), none, .e (.alc [(.slice none 0 0), (.bool false), (.int .i64 0), (.int .i64 0)])⟩, ⟨(some 58), none, .p (.ld none (.tmp 57))⟩, ⟨(some 60), none, .p (.iad 4 (.tmp 58) (.tmp 59))⟩, ⟨(some 61), none, .p (.ld (some 4) (.tmp 60))⟩, ⟨none, none, .e (.st 4 (.tmp 7) (.tmp 56))⟩, ⟨none, none, .e (.st 4 (.tmp 8) (.tmp 61))⟩], [⟨(some 7), none, .e (.alc [(.slice none 0 0), (.bool false), (.int .i64 0), (.int .i64 0)])⟩, ⟨(some 8), none, .e (.alc [(.slice none 0 0), (.bool false), (.int .i64 0), (.int .i64 0)])⟩, ⟨(some 58), none, .p (.ld none (.tmp 57))⟩, ⟨(some 60), none, .p (.iad 4 (.tmp 58) (.tmp 59))⟩, ⟨none, none, .e (.st 4 (.tmp 7) (.tmp 56))⟩, ⟨(some 61), none, .p (.ld (some 4) (.tmp 60))⟩, ⟨none, none, .e (.st 4 (.tmp 8) (.tmp 61))⟩], [⟨(some 7), none, .e (.alc [(.slice none 0 0), (.bool false), (.int .i64 0), (.int .i64 0)])⟩, ⟨(some 8), none, .e (.alc [(.slice none 0 0), (.bool false), (.int .i64 0), (.int .i64 0)])⟩, ⟨(some 58), none, .p (.ld none (.tmp 57))⟩, ⟨none, none, .e (.st 4 (.tmp 7) (.tmp 56))⟩, ⟨(some 60), none, .p (.iad 4 (.tmp 58) (.tmp 59))⟩, ⟨(some 61), none, .p (.ld (some 4) (.tmp 60))⟩, ⟨none, none, .e (.st 4 (.tmp 8) (.tmp 61))⟩], [⟨(some 7), none, .e (.alc [(.slice none 0 0), (.bool false), (.int .i64 0), (.int .i64 0)])⟩, ⟨(some 8), none, .e (.alc [(.slice none 0 0), (.bool false), (.int .i64 0), (.int .i64 0)])⟩, ⟨none, none, .e (.st 4 (.tmp 7) (.tmp 56))⟩, ⟨(some 58), none, .p (.ld none (.tmp 57))⟩, ⟨(some 60), none, .p (.iad 4 (.tmp 58) (.tmp 59))⟩, ⟨(some 61), none, .p (.ld (some 4) (.tmp 60))⟩, ⟨none, none, .e (.st 4 (.tmp 8) (.tmp 61))⟩], [⟨(some 8), none, .e (.alc [(.slice none 0 0), (.bool false), (.int .i64 0), (.int .i64 0)])⟩, ⟨(some 58), none, .p (.ld none (.tmp 57))⟩, ⟨(some 60), none, .p (.iad 4 (.tmp 58) (.tmp 59))⟩, ⟨(some 61), none, .p (.ld (some 4) (.tmp 60))⟩, ⟨(some 7), none, .e (.alc [(.slice none 0 0), (.bool false), (.int .i64 0), (.int .i64 0)])⟩, ⟨none, none, .e (.st 4 (.tmp 7) (.tmp 56))⟩, ⟨none, none, .e (.st 4 (.tmp 8) (.tmp 61))⟩], [⟨(some 8), none, .e (.alc [(.slice none 0 0), (.bool false), (.int .i64 0), (.int .i64 0)])⟩, ⟨(some 58), none, .p (.ld none (.tmp 57))⟩, ⟨(some 60), none, .p (.iad 4 (.tmp 58) (.tmp 59))⟩, ⟨(some 7), none, .e (.alc [(.slice none 0 0), (.bool false), (.int .i64 0), (.int .i64 0)])⟩, ⟨(some 61), none, .p (.ld (some 4) (.tmp 60))⟩, ⟨none, none, .e (.st 4 (.tmp 7) (.tmp 56))⟩, ⟨none, none, .e (.st 4 (.tmp 8) (.tmp 61))⟩], [⟨(some 8), none, .e (.alc [(.slice none 0 0), (.bool false), (.int .i64 0), (.int .i64 0)])⟩, ⟨(some 58), none, .p (.ld none (.tmp 57))⟩, ⟨(some 60), none, .p (.iad 4 (.tmp 58) (.tmp 59))⟩, ⟨(some 7), none, .e (.alc [(.slice none 0 0), (.bool false), (.int .i64 0), (.int .i64 0)])⟩, ⟨none, none, .e (.st 4 (.tmp 7) (.tmp 56))⟩, ⟨(some 61), none, .p (.ld (some 4) (.tmp 60))⟩, ⟨none, none, .e (.st 4 (.tmp 8) (.tmp 61))⟩], [⟨(some 8), none, .e (.alc [(.slice none 0 0), (.bool false), (.int .i64 0), (.int .i64 0)])⟩, ⟨(some 58), none, .p (.ld none (.tmp 57))⟩, ⟨(some 7), none, .e (.alc [(.slice none 0 0), (.bool false), (.int .i64 0), (.int .i64 0)])⟩, ⟨(some 60), none, .p (.iad 4 (.tmp 58) (.tmp 59))⟩, ⟨(some 61), none, .p (.ld (some 4) (.tmp 60))⟩, ⟨none, none, .e (.st 4 (.tmp 7) (.tmp 56))⟩, ⟨none, none, .e (.st 4 (.tmp 8) (.tmp 61))⟩], [⟨(some 8), none, .e (.alc [(.slice none 0 0), (.bool false), (.int .i64 0), (.int .i64 0)])⟩, ⟨(some 58), none, .p (.ld none (.tmp 57))⟩, ⟨(some 7), none, .e (.alc [(.slice none 0 0), (.bool false), (.int .i64 0), (.int .i64 0)])⟩, ⟨(some 60), none, .p (.iad 4 (.tmp 58) (.tmp 59))⟩, ⟨none, none, .e (.st 4 (.tmp 7) (.tmp 56))⟩, ⟨(some 61), none, .p (.ld (some 4) (.tmp 60))⟩, ⟨none, none, .e (.st 4 (.tmp 8) (.tmp 61))⟩], [⟨(some 8), none, .e (.alc [(.slice none 0 0), (.bool false), (.int .i64 0), (.int .i64 0)])⟩, ⟨(some 58), none, .p (.ld none (.tmp 57))⟩, ⟨(some 7), none, .e (.alc [(.slice none 0 0), (.bool false), (.int .i64 0), (.int .i64 0)])⟩, ⟨none, none, .e (.st 4 (.tmp 7) (.tmp 56))⟩, ⟨(some 60), none, .p (.iad 4 (.tmp 58) (.tmp 59))⟩, ⟨(some 61), none, .p (.ld (some 4) (.tmp 60))⟩, ⟨none, none, .e (.st 4 (.tmp 8) (.tmp 61))⟩], [⟨(some 8), none, .e (.alc [(.slice none 0 0), (.bool false), (.int .i64 0), (.int .i64 0)])⟩, ⟨(some 7), none, .e (.alc [(.slice none 0 0), (.bool false), (.int .i64 0), (.int .i64 0)])⟩, ⟨(some 58), none, .p (.ld none (.tmp 57))⟩, ⟨(some 60), none, .p (.iad 4 (.tmp 58) (.tmp 59))⟩, ⟨(some 61), none, .p (.ld (some 4) (.tmp 60))⟩, ⟨none, none, .e (.st 4 (.tmp 7) (.tmp 56))⟩, ⟨none, none, .e (.st 4 (.tmp 8) (.tmp 61))⟩], [⟨(some 8), none, .e (.alc [(.slice none 0 0), (.bool false), (.int .i64 0), (.int .i64 0)])⟩, ⟨(some 7), none, .e (.alc [(.slice none 0 0), (.bool false), (.int .i64 0), (.int .i64 0)])⟩, ⟨(some 58), none, .p (.ld none (.tmp 57))⟩, ⟨(some 60), none, .p (.iad 4 (.tmp 58) (.tmp 59))⟩, ⟨none, none, .e (.st 4 (.tmp 7) (.tmp 56))⟩, ⟨(some 61), none, .p (.ld (some 4) (.tmp 60))⟩, ⟨none, none, .e (.st 4 (.tmp 8) (.tmp 61))⟩], [⟨(some 8), none, .e (.alc [(.slice none 0 0), (.bool false), (.int .i64 0), (.int .i64 0)])⟩, ⟨(some 7), none, .e (.alc [(.slice none 0 0), (.bool false), (.int .i64 0), (.int .i64 0)])⟩, ⟨(some 58), none, .p (.ld none (.tmp 57))⟩, ⟨none, none, .e (.st 4 (.tmp 7) (.tmp 56))⟩, ⟨(some 60), none, .p (.iad 4 (.tmp 58) (.tmp 59))⟩, ⟨(some 61), none, .p (.ld (some 4) (.tmp 60))⟩, ⟨none, none, .e (.st 4 (.tmp 8) (.tmp 61))⟩], [⟨(some 8), none, .e (.alc [(.slice none 0 0), (.bool false), (.int .i64 0), (.int .i64 0)])⟩, ⟨(some 7), none, .e (.alc [(.slice none 0 0), (.bool false), (.int .i64 0), (.int .i64 0)])⟩, ⟨none, none, .e (.st 4 (.tmp 7) (.tmp 56))⟩, ⟨(some 58), none, .p (.ld none (.tmp 57))⟩, ⟨(some 60), none, .p (.iad 4 (.tmp 58) (.tmp 59))⟩, ⟨(some 61), none, .p (.ld (some 4) (.tmp 60))⟩, ⟨none, none, .e (.st 4 (.tmp 8) (.tmp 61))⟩]])
  (.seq (.seq (.reg [⟨(some 62), none, .p (.fad 1 (.tmp 7))⟩, ⟨(some 63), none, .p (.ld none (.tmp 62))⟩, ⟨(some 64), none, .p (.fad 1 (.tmp 8))⟩, ⟨(some 65), none, .p (.ld none (.tmp 64))⟩, ⟨(some 66), none, .p (.binb true (.tmp 63) (.tmp 65))⟩, ⟨(some 67), none, .p (.mov (.tmp 66))⟩, ⟨(some 68), (some (67, false)), .p (.fad 2 (.tmp 7))⟩, ⟨(some 69), (some (67, false)), .p (.ld (some 2) (.tmp 68))⟩, ⟨(some 70), (some (67, false)), .p (.fad 2 (.tmp 8))⟩, ⟨(some 71), (some (67, false)), .p (.ld (some 2) (.tmp 70))⟩, ⟨(some 72), (some (67, false)), .e (.call 29 [(.tmp 69), (.tmp 71)])⟩, ⟨(some 73), (some (67, false)), .p (.un .not (.tmp 72))⟩, ⟨(some 74), none, .p (.pick (.tmp 67) (.const (.bool true)) (.tmp 73))⟩, ⟨(some 75), none, .p (.mov (.tmp 74))⟩, ⟨(some 76), (some (75, false)), .p (.fad 0 (.tmp 7))⟩, ⟨(some 77), (some (75, false)), .p (.ld none (.tmp 76))⟩, ⟨(some 78), (some (75, false)), .p (.len 1 (.tmp 77))⟩, ⟨(some 79), (some (75, false)), .p (.fad 0 (.tmp 8))⟩, ⟨(some 80), (some (75, false)), .p (.ld none (.tmp 79))⟩, ⟨(some 81), (some (75, false)), .p (.len 1 (.tmp 80))⟩, ⟨(some 82), (some (75, false)), .p (.bin .neq (.tmp 78) (.tmp 81))⟩, ⟨(some 83), none, .p (.pick (.tmp 75) (.const (.bool true)) (.tmp 82))⟩])
  (.cond (.tmp 83) (.seq (.reg [⟨(some 4), none, .p (.mov (.const (.bool false)))⟩])
  .ret) .skip))
  (.seq (.reg [⟨(some 9), none, .p (.mov (.const (.int .i64 0)))⟩])
  (.block 4
  (.loop lb12_0))))))
  (.reg [⟨(some 50), none, .p (.mov (.tmp 6))⟩, ⟨(some 51), none, .p (.bin .add (.tmp 50) (.const (.int .i64 1)))⟩, ⟨(some 6), none, .p (.mov (.tmp 51))⟩])))
def lb12_2 : LC :=
  (.seq (.seq (.reg [⟨(some 26), none, .p (.mov (.tmp 5))⟩, ⟨(some 27), none, .p (.fad 0 (.tmp 2))⟩, ⟨(some 28), none, .p (.ld none (.tmp 27))⟩, ⟨(some 29), none, .p (.len 1 (.tmp 28))⟩, ⟨(some 30), none, .p (.bin .lss (.tmp 26) (.tmp 29))⟩])
  (.cond (.tmp 30) .skip (.exit 0)))
  (.seq (.block 1
  (.seq (.dreg [⟨(some 33), none, .p (.fad 0 (.tmp 2))⟩, ⟨(some 34), none, .p (.ld none (.tmp 33))⟩, ⟨(some 35), none, .p (.mov (.tmp 5))⟩, ⟨(some 36), none, .p (.iad 2 (.tmp 34) (.tmp 35))⟩, ⟨(some 37), none, .p (.ld (some 2) (.tmp 36))⟩, ⟨(some 38), none, .p (.fad 0 (.tmp 3))⟩, ⟨(some 39), none, .p (.ld none (.tmp 38))⟩, ⟨(some 40), none, .p (.mov (.tmp 5))⟩, ⟨(some 41), none, .p (.iad 2 (.tmp 39) (.tmp 40))⟩, ⟨(some 42), none, .p (.ld (some 2) (.tmp 41))⟩, ⟨(some 43), none, .e (.call 29 [(.tmp 37), (.tmp 42)])⟩] [[⟨(some 44), none, .p (.un .not (.tmp 43))⟩]])
  (.cond (.tmp 44) (.seq (.reg [⟨(some 4), none, .p (.mov (.const (.bool false)))⟩])
  .ret) .skip)))
  (.reg [⟨(some 31), none, .p (.mov (.tmp 5))⟩, ⟨(some 32), none, .p (.bin .add (.tmp 31) (.const (.int .i64 1)))⟩, ⟨(some 5), none, .p (.mov (.tmp 32))⟩])))
def cf12 : LC :=
  (.seq (.reg [⟨(some 2), none, .e (.box (.tmp 0))⟩, ⟨(some 3), none, .e (.box (.tmp 1))⟩, ⟨(some 4), none, .p (.mov (.const (.bool false)))⟩])
  (.seq (.seq (.reg [⟨(some 10), none, .p (.fad 0 (.tmp 2))⟩, ⟨(some 11), none, .p (.ld none (.tmp 10))⟩, ⟨(some 12), none, .p (.len 1 (.tmp 11))⟩, ⟨(some 13), none, .p (.fad 0 (.tmp 3))⟩, ⟨(some 14), none, .p (.ld none (.tmp 13))⟩, ⟨(some 15), none, .p (.len 1 (.tmp 14))⟩, ⟨(some 16), none, .p (.bin .neq (.tmp 12) (.tmp 15))⟩, ⟨(some 17), none, .p (.mov (.tmp 16))⟩, ⟨(some 18), (some (17, false)), .p (.fad 1 (.tmp 2))⟩, ⟨(some 19), (some (17, false)), .p (.ld none (.tmp 18))⟩, ⟨(some 20), (some (17, false)), .p (.len 1 (.tmp 19))⟩, ⟨(some 21), (some (17, false)), .p (.fad 1 (.tmp 3))⟩, ⟨(some 22), (some (17, false)), .p (.ld none (.tmp 21))⟩, ⟨(some 23), (some (17, false)), .p (.len 1 (.tmp 22))⟩, ⟨(some 24), (some (17, false)), .p (.bin .neq (.tmp 20) (.tmp 23))⟩, ⟨(some 25), none, .p (.pick (.tmp 17) (.const (.bool true)) (.tmp 24))⟩])
  (.cond (.tmp 25) (.seq (.reg [⟨(some 4), none, .p (.mov (.const (.bool false)))⟩])
  .ret) .skip))
  (.seq (.seq (.reg [⟨(some 5), none, .p (.mov (.const (.int .i64 0)))⟩])
  (.block 0
  (.loop lb12_2)))
  (.seq (.seq (.reg [⟨(some 6), none, .p (.mov (.const (.int .i64 0)))⟩])
  (.block 2
  (.loop lb12_1)))
  (.seq (.reg [⟨(some 4), none, .p (.mov (.const (.bool true)))⟩])
  .ret)))))
def rf12 : List RX := [.tmp 4]
set_option maxRecDepth 100000 in
theorem comp12 : cFn Tryz.prog Tryz.f12 = some (erase cf12, rf12) := by kernel_rfl
def lb13_0 : LC :=
  (.seq (.seq (.reg [⟨(some 22), none, .p (.mov (.tmp 7))⟩, ⟨(some 23), none, .p (.mov (.tmp 0))⟩, ⟨(some 24), none, .p (.len 0 (.tmp 23))⟩, ⟨(some 25), none, .p (.bin .lss (.tmp 22) (.tmp 24))⟩, ⟨(some 26), none, .p (.mov (.tmp 25))⟩, ⟨(some 27), (some (26, true)), .p (.mov (.tmp 0))⟩, ⟨(some 28), (some (26, true)), .p (.mov (.tmp 7))⟩, ⟨(some 29), (some (26, true)), .p (.idxs (.tmp 27) (.tmp 28))⟩, ⟨(some 30), (some (26, true)), .p (.bin .neq (.tmp 29) (.const (.int .u8 10)))⟩, ⟨(some 31), none, .p (.pick (.tmp 26) (.tmp 30) (.const (.bool false)))⟩])
  (.cond (.tmp 31) .skip (.exit 2)))
  (.block 3
  (.reg [⟨(some 32), none, .p (.mov (.tmp 7))⟩, ⟨(some 33), none, .p (.bin .add (.tmp 32) (.const (.int .i64 1)))⟩, ⟨(some 7), none, .p (.mov (.tmp 33))⟩])))
def lb13_1 : LC :=
  (.seq (.seq (.reg [⟨(some 17), none, .p (.mov (.tmp 0))⟩, ⟨(some 18), none, .p (.len 0 (.tmp 17))⟩, ⟨(some 19), none, .p (.bin .gtr (.tmp 18) (.const (.int .i64 0)))⟩])
  (.cond (.tmp 19) .skip (.exit 0)))
  (.block 1
  (.seq (.reg [⟨(some 20), none, .p (.mov (.tmp 6))⟩, ⟨(some 21), none, .p (.bin .add (.tmp 20) (.const (.int .i64 1)))⟩, ⟨(some 6), none, .p (.mov (.tmp 21))⟩])
  (.seq (.reg [⟨(some 7), none, .p (.mov (.const (.int .i64 0)))⟩])
  (.seq (.block 2
  (.loop lb13_0))
  (.seq (.seq (.reg [⟨(some 34), none, .p (.mov (.tmp 7))⟩, ⟨(some 35), none, .p (.mov (.tmp 0))⟩, ⟨(some 36), none, .p (.len 0 (.tmp 35))⟩, ⟨(some 37), none, .p (.bin .eql (.tmp 34) (.tmp 36))⟩])
  (.cond (.tmp 37) (.seq (.reg [⟨(some 38), none, .p (.bld [(.slice none 0 0), (.slice none 0 0)] [])⟩, ⟨(some 39), none, .p (.mov (.tmp 6))⟩, ⟨none, none, .e (.st 2 (.tmp 2) (.tmp 38))⟩, ⟨(some 3), none, .p (.mov (.tmp 39))⟩, ⟨(some 4), none, .p (.mov (.const (.int .i64 3)))⟩])
  .ret) .skip))
  (.seq (.reg [⟨(some 40), none, .p (.mov (.tmp 0))⟩, ⟨(some 41), none, .p (.mov (.tmp 7))⟩, ⟨(some 42), none, .p (.slcs (.tmp 40) none (some (.tmp 41)))⟩, ⟨(some 43), none, .e (.call 30 [(.tmp 42)])⟩, ⟨(some 8), none, .p (.mov (.tmp 43))⟩])
  (.seq (.reg [⟨(some 44), none, .p (.mov (.tmp 0))⟩, ⟨(some 45), none, .p (.mov (.tmp 7))⟩, ⟨(some 46), none, .p (.bin .add (.tmp 45) (.const (.int .i64 1)))⟩, ⟨(some 47), none, .p (.slcs (.tmp 44) (some (.tmp 46)) none)⟩, ⟨(some 0), none, .p (.mov (.tmp 47))⟩])
  (.seq (.seq (.reg [⟨(some 48), none, .p (.mov (.tmp 8))⟩, ⟨(some 49), none, .p (.iad 1 (.tmp 48) (.const (.int .i64 0)))⟩, ⟨(some 50), none, .p (.ld none (.tmp 49))⟩, ⟨(some 51), none, .p (.bin .eql (.tmp 50) (.const (.string ⟨#[108, 105, 110, 107]⟩)))⟩, ⟨(some 52), none, .p (.mov (.tmp 51))⟩, ⟨(some 53), (some (52, true)), .p (.mov (.tmp 8))⟩, ⟨(some 54), (some (52, true)), .p (.len 1 (.tmp 53))⟩, ⟨(some 55), (some (52, true)), .p (.bin .eql (.tmp 54) (.const (.int .i64 2)))⟩, ⟨(some 56), none, .p (.pick (.tmp 52) (.tmp 55) (.const (.bool false)))⟩, ⟨(some 57), none, .p (.mov (.tmp 56))⟩, ⟨(some 58), (some (57, true)), .p (.fad 1 (.tmp 5))⟩, ⟨(some 59), (some (57, true)), .p (.ld none (.tmp 58))⟩, ⟨(some 60), (some (57, true)), .p (.len 1 (.tmp 59))⟩, ⟨(some 61), (some (57, true)), .p (.bin .eql (.tmp 60) (.const (.int .i64 0)))⟩, ⟨(some 62), none, .p (.pick (.tmp 57) (.tmp 61) (.const (.bool false)))⟩])
  (.cond (.tmp 62) (.seq (.reg [⟨(some 64), none, .p (.mov (.tmp 8))⟩, ⟨(some 65), none, .p (.iad 1 (.tmp 64) (.const (.int .i64 1)))⟩, ⟨(some 66), none, .p (.ld none (.tmp 65))⟩, ⟨(some 67), none, .e (.call 31 [(.tmp 66)])⟩, ⟨(some 63), none, .p (.mov (.tmp 67))⟩, ⟨(some 68), none, .p (.ext (.tmp 63) 0)⟩, ⟨(some 69), none, .p (.ext (.tmp 63) 1)⟩, ⟨(some 9), none, .e (.alc [(.int .i64 0), (.int .i64 0)])⟩, ⟨none, none, .e (.st 2 (.tmp 9) (.tmp 68))⟩, ⟨(some 10), none, .p (.mov (.tmp 69))⟩])
  (.seq (.seq (.reg [⟨(some 70), none, .p (.mov (.tmp 10))⟩, ⟨(some 71), none, .p (.un .not (.tmp 70))⟩])
  (.cond (.tmp 71) (.seq (.reg [⟨(some 72), none, .p (.bld [(.slice none 0 0), (.slice none 0 0)] [])⟩, ⟨(some 73), none, .p (.mov (.tmp 6))⟩, ⟨none, none, .e (.st 2 (.tmp 2) (.tmp 72))⟩, ⟨(some 3), none, .p (.mov (.tmp 73))⟩, ⟨(some 4), none, .p (.mov (.const (.int .i64 3)))⟩])
  .ret) .skip))
  (.seq (.reg [⟨(some 74), none, .p (.fad 0 (.tmp 5))⟩, ⟨(some 75), none, .p (.ld none (.tmp 74))⟩, ⟨(some 76), none, .p (.ld (some 2) (.tmp 9))⟩, ⟨(some 77), none, .e (.bsl 0 1 2 [(.int .i64 0), (.int .i64 0)] [(0, 2, (.tmp 76))])⟩, ⟨(some 78), none, .e (.app 0 2 16 (.tmp 75) (.tmp 77))⟩, ⟨(some 79), none, .p (.fad 0 (.tmp 5))⟩, ⟨none, none, .e (.st 1 (.tmp 79) (.tmp 78))⟩])
  (.exit 1)))) .skip))
  (.seq (.reg [⟨(some 81), none, .p (.mov (.tmp 8))⟩, ⟨(some 82), none, .p (.slc 1 (.tmp 81) (some (.const (.int .i64 1))) none)⟩, ⟨(some 83), none, .e (.call 32 [(.tmp 82)])⟩, ⟨(some 80), none, .p (.mov (.tmp 83))⟩, ⟨(some 84), none, .p (.ext (.tmp 80) 0)⟩, ⟨(some 85), none, .p (.ext (.tmp 80) 1)⟩, ⟨(some 11), none, .e (.alc [(.slice none 0 0), (.bool false), (.int .i64 0), (.int .i64 0)])⟩, ⟨none, none, .e (.st 4 (.tmp 11) (.tmp 84))⟩, ⟨(some 12), none, .p (.mov (.tmp 85))⟩])
  (.seq (.seq (.reg [⟨(some 86), none, .p (.mov (.tmp 8))⟩, ⟨(some 87), none, .p (.iad 1 (.tmp 86) (.const (.int .i64 0)))⟩, ⟨(some 88), none, .p (.ld none (.tmp 87))⟩, ⟨(some 89), none, .p (.bin .neq (.tmp 88) (.const (.string ⟨#[102, 108, 111, 119]⟩)))⟩, ⟨(some 90), none, .p (.mov (.tmp 89))⟩, ⟨(some 91), (some (90, false)), .p (.mov (.tmp 12))⟩, ⟨(some 92), (some (90, false)), .p (.un .not (.tmp 91))⟩, ⟨(some 93), none, .p (.pick (.tmp 90) (.const (.bool true)) (.tmp 92))⟩])
  (.cond (.tmp 93) (.seq (.reg [⟨(some 94), none, .p (.bld [(.slice none 0 0), (.slice none 0 0)] [])⟩, ⟨(some 95), none, .p (.mov (.tmp 6))⟩, ⟨none, none, .e (.st 2 (.tmp 2) (.tmp 94))⟩, ⟨(some 3), none, .p (.mov (.tmp 95))⟩, ⟨(some 4), none, .p (.mov (.const (.int .i64 3)))⟩])
  .ret) .skip))
  (.reg [⟨(some 96), none, .p (.fad 1 (.tmp 5))⟩, ⟨(some 97), none, .p (.ld none (.tmp 96))⟩, ⟨(some 98), none, .p (.ld (some 4) (.tmp 11))⟩, ⟨(some 99), none, .e (.bsl 0 1 4 [(.slice none 0 0), (.bool false), (.int .i64 0), (.int .i64 0)] [(0, 4, (.tmp 98))])⟩, ⟨(some 100), none, .e (.app 0 4 48 (.tmp 97) (.tmp 99))⟩, ⟨(some 101), none, .p (.fad 1 (.tmp 5))⟩, ⟨none, none, .e (.st 1 (.tmp 101) (.tmp 100))⟩]))))))))))))
def cf13 : LC :=
  (.seq (.reg [⟨(some 2), none, .e (.alc [(.slice none 0 0), (.slice none 0 0)])⟩, ⟨(some 3), none, .p (.mov (.const (.int .i64 0)))⟩, ⟨(some 4), none, .p (.mov (.const (.int .i64 0)))⟩])
  (.seq (.reg [⟨(some 5), none, .e (.alc [(.slice none 0 0), (.slice none 0 0)])⟩])
  (.seq (.seq (.reg [⟨(some 13), none, .p (.mov (.tmp 0))⟩, ⟨(some 14), none, .p (.len 0 (.tmp 13))⟩, ⟨(some 15), none, .p (.bin .gtr (.tmp 14) (.const (.int .i64 65536)))⟩])
  (.cond (.tmp 15) (.seq (.reg [⟨(some 16), none, .p (.ld (some 2) (.tmp 5))⟩, ⟨none, none, .e (.st 2 (.tmp 2) (.tmp 16))⟩, ⟨(some 3), none, .p (.mov (.const (.int .i64 0)))⟩, ⟨(some 4), none, .p (.mov (.const (.int .i64 5)))⟩])
  .ret) .skip))
  (.seqj (.reg [⟨(some 6), none, .p (.mov (.const (.int .i64 0)))⟩])
  (.seq (.block 0
  (.loop lb13_1))
  (.seq (.seq (.reg [⟨(some 102), none, .p (.ld (some 2) (.tmp 5))⟩, ⟨(some 103), none, .e (.call 33 [(.tmp 102)])⟩, ⟨(some 104), none, .p (.un .not (.tmp 103))⟩])
  (.cond (.tmp 104) (.seq (.reg [⟨(some 105), none, .p (.bld [(.slice none 0 0), (.slice none 0 0)] [])⟩, ⟨none, none, .e (.st 2 (.tmp 2) (.tmp 105))⟩, ⟨(some 3), none, .p (.mov (.const (.int .i64 0)))⟩, ⟨(some 4), none, .p (.mov (.const (.int .i64 1)))⟩])
  .ret) .skip))
  (.seq (.reg [⟨(some 106), none, .p (.ld (some 2) (.tmp 5))⟩, ⟨none, none, .e (.st 2 (.tmp 2) (.tmp 106))⟩, ⟨(some 3), none, .p (.mov (.const (.int .i64 0)))⟩, ⟨(some 4), none, .p (.mov (.const (.int .i64 0)))⟩])
  .ret)))))))
def rf13 : List RX := [.cell 2 (some 2), .tmp 3, .tmp 4]
set_option maxRecDepth 100000 in
theorem comp13 : cFn Tryz.prog Tryz.f13 = some (erase cf13, rf13) := by kernel_rfl
def lb30_0 : LC :=
  (.seq (.seq (.reg [⟨(some 6), none, .p (.mov (.tmp 5))⟩, ⟨(some 7), none, .p (.mov (.tmp 0))⟩, ⟨(some 8), none, .p (.len 0 (.tmp 7))⟩, ⟨(some 9), none, .p (.bin .lss (.tmp 6) (.tmp 8))⟩])
  (.cond (.tmp 9) .skip (.exit 0)))
  (.seq (.block 1
  (.seq (.reg [⟨(some 12), none, .p (.mov (.tmp 0))⟩, ⟨(some 13), none, .p (.mov (.tmp 5))⟩, ⟨(some 14), none, .p (.idxs (.tmp 12) (.tmp 13))⟩, ⟨(some 15), none, .p (.bin .eql (.tmp 14) (.const (.int .u8 32)))⟩])
  (.cond (.tmp 15) (.seq (.reg [⟨(some 16), none, .p (.mov (.tmp 3))⟩, ⟨(some 17), none, .p (.mov (.tmp 4))⟩, ⟨(some 18), none, .e (.bsr 1 1 [(.string ⟨#[]⟩)] [(0, 1, (.tmp 17))])⟩, ⟨(some 19), none, .e (.app 0 1 16 (.tmp 16) (.tmp 18))⟩, ⟨(some 3), none, .p (.mov (.tmp 19))⟩])
  (.reg [⟨(some 4), none, .p (.mov (.const (.string ⟨#[]⟩)))⟩])) (.reg [⟨(some 20), none, .p (.mov (.tmp 4))⟩, ⟨(some 21), none, .p (.mov (.tmp 0))⟩, ⟨(some 22), none, .p (.mov (.tmp 5))⟩, ⟨(some 23), none, .p (.mov (.tmp 5))⟩, ⟨(some 24), none, .p (.bin .add (.tmp 23) (.const (.int .i64 1)))⟩, ⟨(some 25), none, .p (.slcs (.tmp 21) (some (.tmp 22)) (some (.tmp 24)))⟩, ⟨(some 26), none, .p (.bin .add (.tmp 20) (.tmp 25))⟩, ⟨(some 4), none, .p (.mov (.tmp 26))⟩]))))
  (.reg [⟨(some 10), none, .p (.mov (.tmp 5))⟩, ⟨(some 11), none, .p (.bin .add (.tmp 10) (.const (.int .i64 1)))⟩, ⟨(some 5), none, .p (.mov (.tmp 11))⟩])))
def cf30 : LC :=
  (.seq (.reg [⟨(some 2), none, .p (.mov (.const (.slice none 0 0)))⟩])
  (.seq (.reg [⟨(some 3), none, .p (.mov (.const (.slice none 0 0)))⟩])
  (.seqj (.reg [⟨(some 4), none, .p (.mov (.const (.string ⟨#[]⟩)))⟩])
  (.seq (.seq (.reg [⟨(some 5), none, .p (.mov (.const (.int .i64 0)))⟩])
  (.block 0
  (.loop lb30_0)))
  (.seq (.reg [⟨(some 27), none, .p (.mov (.tmp 3))⟩, ⟨(some 28), none, .p (.mov (.tmp 4))⟩, ⟨(some 29), none, .e (.bsr 1 1 [(.string ⟨#[]⟩)] [(0, 1, (.tmp 28))])⟩, ⟨(some 30), none, .e (.app 0 1 16 (.tmp 27) (.tmp 29))⟩, ⟨(some 2), none, .p (.mov (.tmp 30))⟩])
  .ret)))))
def rf30 : List RX := [.tmp 2]
set_option maxRecDepth 100000 in
theorem comp30 : cFn Tryz.prog Tryz.f30 = some (erase cf30, rf30) := by kernel_rfl
def lb32_0 : LC :=
  (.seq (.seq (.reg [⟨(some 41), none, .p (.mov (.tmp 8))⟩, ⟨(some 42), none, .p (.mov (.tmp 5))⟩, ⟨(some 43), none, .p (.bin .lss (.tmp 41) (.tmp 42))⟩])
  (.cond (.tmp 43) .skip (.exit 0)))
  (.seq (.block 1
  (.seq (.reg [⟨(some 46), none, .p (.mov (.tmp 0))⟩, ⟨(some 47), none, .p (.mov (.tmp 8))⟩, ⟨(some 48), none, .p (.iad 1 (.tmp 46) (.tmp 47))⟩, ⟨(some 49), none, .p (.ld none (.tmp 48))⟩, ⟨(some 50), none, .e (.call 52 [(.tmp 49)])⟩, ⟨(some 9), none, .p (.mov (.tmp 50))⟩])
  (.seq (.seq (.reg [⟨(some 51), none, .p (.mov (.tmp 9))⟩, ⟨(some 52), none, .p (.bin .lss (.tmp 51) (.const (.int .i64 0)))⟩])
  (.cond (.tmp 52) (.seq (.reg [⟨(some 53), none, .p (.ld (some 4) (.tmp 4))⟩, ⟨none, none, .e (.st 4 (.tmp 2) (.tmp 53))⟩, ⟨(some 3), none, .p (.mov (.const (.bool false)))⟩])
  .ret) .skip))
  (.reg [⟨(some 54), none, .p (.fad 0 (.tmp 4))⟩, ⟨(some 55), none, .p (.ld none (.tmp 54))⟩, ⟨(some 56), none, .p (.mov (.tmp 9))⟩, ⟨(some 57), none, .e (.bsl 1 1 1 [(.int .i64 0)] [(0, 1, (.tmp 56))])⟩, ⟨(some 58), none, .e (.app 1 1 8 (.tmp 55) (.tmp 57))⟩, ⟨(some 59), none, .p (.fad 0 (.tmp 4))⟩, ⟨none, none, .e (.st 1 (.tmp 59) (.tmp 58))⟩]))))
  (.reg [⟨(some 44), none, .p (.mov (.tmp 8))⟩, ⟨(some 45), none, .p (.bin .add (.tmp 44) (.const (.int .i64 1)))⟩, ⟨(some 8), none, .p (.mov (.tmp 45))⟩])))
def cf32 : LC :=
  (.seq (.reg [⟨(some 2), none, .e (.alc [(.slice none 0 0), (.bool false), (.int .i64 0), (.int .i64 0)])⟩, ⟨(some 3), none, .p (.mov (.const (.bool false)))⟩])
  (.seq (.reg [⟨(some 10), none, .p (.bld [(.int .i64 0), (.int .i64 0)] [])⟩, ⟨(some 11), none, .p (.bld [(.slice none 0 0), (.bool false), (.int .i64 0), (.int .i64 0)] [(2, 2, (.tmp 10))])⟩, ⟨(some 4), none, .e (.alc [(.slice none 0 0), (.bool false), (.int .i64 0), (.int .i64 0)])⟩, ⟨none, none, .e (.st 4 (.tmp 4) (.tmp 11))⟩])
  (.seq (.reg [⟨(some 12), none, .p (.mov (.tmp 0))⟩, ⟨(some 13), none, .p (.len 1 (.tmp 12))⟩, ⟨(some 5), none, .p (.mov (.tmp 13))⟩])
  (.seqj (.seq (.reg [⟨(some 14), none, .p (.mov (.tmp 5))⟩, ⟨(some 15), none, .p (.bin .geq (.tmp 14) (.const (.int .i64 2)))⟩, ⟨(some 16), none, .p (.mov (.tmp 15))⟩, ⟨(some 17), (some (16, true)), .p (.mov (.tmp 0))⟩, ⟨(some 18), (some (16, true)), .p (.mov (.tmp 5))⟩, ⟨(some 19), (some (16, true)), .p (.bin .sub (.tmp 18) (.const (.int .i64 2)))⟩, ⟨(some 20), (some (16, true)), .p (.iad 1 (.tmp 17) (.tmp 19))⟩, ⟨(some 21), (some (16, true)), .p (.ld none (.tmp 20))⟩, ⟨(some 22), (some (16, true)), .p (.bin .eql (.tmp 21) (.const (.string ⟨#[109, 97, 120]⟩)))⟩, ⟨(some 23), none, .p (.pick (.tmp 16) (.tmp 22) (.const (.bool false)))⟩])
  (.cond (.tmp 23) (.seq (.reg [⟨(some 25), none, .p (.mov (.tmp 0))⟩, ⟨(some 26), none, .p (.mov (.tmp 5))⟩, ⟨(some 27), none, .p (.bin .sub (.tmp 26) (.const (.int .i64 1)))⟩, ⟨(some 28), none, .p (.iad 1 (.tmp 25) (.tmp 27))⟩, ⟨(some 29), none, .p (.ld none (.tmp 28))⟩, ⟨(some 30), none, .e (.call 31 [(.tmp 29)])⟩, ⟨(some 24), none, .p (.mov (.tmp 30))⟩, ⟨(some 31), none, .p (.ext (.tmp 24) 0)⟩, ⟨(some 32), none, .p (.ext (.tmp 24) 1)⟩, ⟨(some 6), none, .e (.alc [(.int .i64 0), (.int .i64 0)])⟩, ⟨none, none, .e (.st 2 (.tmp 6) (.tmp 31))⟩, ⟨(some 7), none, .p (.mov (.tmp 32))⟩])
  (.seq (.seq (.reg [⟨(some 33), none, .p (.mov (.tmp 7))⟩, ⟨(some 34), none, .p (.un .not (.tmp 33))⟩])
  (.cond (.tmp 34) (.seq (.reg [⟨(some 35), none, .p (.ld (some 4) (.tmp 4))⟩, ⟨none, none, .e (.st 4 (.tmp 2) (.tmp 35))⟩, ⟨(some 3), none, .p (.mov (.const (.bool false)))⟩])
  .ret) .skip))
  (.seq (.reg [⟨(some 36), none, .p (.fad 1 (.tmp 4))⟩, ⟨none, none, .e (.st 1 (.tmp 36) (.const (.bool true)))⟩])
  (.seq (.reg [⟨(some 37), none, .p (.ld (some 2) (.tmp 6))⟩, ⟨(some 38), none, .p (.fad 2 (.tmp 4))⟩, ⟨none, none, .e (.st 2 (.tmp 38) (.tmp 37))⟩])
  (.reg [⟨(some 39), none, .p (.mov (.tmp 5))⟩, ⟨(some 40), none, .p (.bin .sub (.tmp 39) (.const (.int .i64 2)))⟩, ⟨(some 5), none, .p (.mov (.tmp 40))⟩]))))) .skip))
  (.seq (.seqj (.reg [⟨(some 8), none, .p (.mov (.const (.int .i64 0)))⟩])
  (.block 0
  (.loop lb32_0)))
  (.seq (.reg [⟨(some 60), none, .p (.ld (some 4) (.tmp 4))⟩, ⟨(some 61), none, .p (.mov (.tmp 5))⟩, ⟨(some 62), none, .p (.bin .gtr (.tmp 61) (.const (.int .i64 0)))⟩, ⟨none, none, .e (.st 4 (.tmp 2) (.tmp 60))⟩, ⟨(some 3), none, .p (.mov (.tmp 62))⟩])
  .ret))))))
def rf32 : List RX := [.cell 2 (some 4), .tmp 3]
set_option maxRecDepth 100000 in
theorem comp32 : cFn Tryz.prog Tryz.f32 = some (erase cf32, rf32) := by kernel_rfl
def lb33_0 : LC :=
  (.seq (.seq (.reg [⟨(some 120), none, .p (.mov (.tmp 8))⟩, ⟨(some 121), none, .p (.mov (.tmp 7))⟩, ⟨(some 122), none, .p (.bin .lss (.tmp 120) (.tmp 121))⟩])
  (.cond (.tmp 122) .skip (.exit 6)))
  (.seq (.block 7
  (.seq (.dreg [⟨(some 125), none, .p (.fad 0 (.tmp 6))⟩, ⟨(some 126), none, .p (.ld none (.tmp 125))⟩, ⟨(some 127), none, .p (.mov (.tmp 8))⟩, ⟨(some 128), none, .p (.iad 1 (.tmp 126) (.tmp 127))⟩, ⟨(some 129), none, .p (.ld none (.tmp 128))⟩, ⟨(some 130), none, .p (.fad 0 (.tmp 6))⟩, ⟨(some 131), none, .p (.ld none (.tmp 130))⟩, ⟨(some 132), none, .p (.mov (.tmp 7))⟩, ⟨(some 133), none, .p (.iad 1 (.tmp 131) (.tmp 132))⟩, ⟨(some 134), none, .p (.ld none (.tmp 133))⟩] [[⟨(some 135), none, .p (.bin .eql (.tmp 129) (.tmp 134))⟩]])
  (.cond (.tmp 135) (.seq (.reg [⟨(some 2), none, .p (.mov (.const (.bool false)))⟩])
  .ret) .skip)))
  (.reg [⟨(some 123), none, .p (.mov (.tmp 8))⟩, ⟨(some 124), none, .p (.bin .add (.tmp 123) (.const (.int .i64 1)))⟩, ⟨(some 8), none, .p (.mov (.tmp 124))⟩])))
def lb33_1 : LC :=
  (.seq (.seq (.reg [⟨(some 96), none, .p (.mov (.tmp 7))⟩, ⟨(some 97), none, .p (.fad 0 (.tmp 6))⟩, ⟨(some 98), none, .p (.ld none (.tmp 97))⟩, ⟨(some 99), none, .p (.len 1 (.tmp 98))⟩, ⟨(some 100), none, .p (.bin .lss (.tmp 96) (.tmp 99))⟩])
  (.cond (.tmp 100) .skip (.exit 4)))
  (.seq (.block 5
  (.seq (.seq (.dreg [⟨(some 103), none, .p (.fad 0 (.tmp 6))⟩, ⟨(some 104), none, .p (.ld none (.tmp 103))⟩, ⟨(some 105), none, .p (.mov (.tmp 7))⟩, ⟨(some 106), none, .p (.iad 1 (.tmp 104) (.tmp 105))⟩, ⟨(some 107), none, .p (.ld none (.tmp 106))⟩, ⟨(some 108), none, .p (.bin .lss (.tmp 107) (.const (.int .i64 0)))⟩, ⟨(some 109), none, .p (.mov (.tmp 108))⟩, ⟨(some 110), (some (109, false)), .p (.fad 0 (.tmp 6))⟩, ⟨(some 111), (some (109, false)), .p (.ld none (.tmp 110))⟩, ⟨(some 112), (some (109, false)), .p (.mov (.tmp 7))⟩, ⟨(some 113), (some (109, false)), .p (.iad 1 (.tmp 111) (.tmp 112))⟩, ⟨(some 114), (some (109, false)), .p (.ld none (.tmp 113))⟩, ⟨(some 115), (some (109, false)), .p (.fad 0 (.tmp 1))⟩, ⟨(some 116), (some (109, false)), .p (.ld none (.tmp 115))⟩, ⟨(some 117), (some (109, false)), .p (.len 1 (.tmp 116))⟩, ⟨(some 118), (some (109, false)), .p (.bin .geq (.tmp 114) (.tmp 117))⟩] [[⟨(some 119), none, .p (.pick (.tmp 109) (.const (.bool true)) (.tmp 118))⟩]])
  (.cond (.tmp 119) (.seq (.reg [⟨(some 2), none, .p (.mov (.const (.bool false)))⟩])
  .ret) .skip))
  (.seq (.reg [⟨(some 8), none, .p (.mov (.const (.int .i64 0)))⟩])
  (.block 6
  (.loop lb33_0)))))
  (.reg [⟨(some 101), none, .p (.mov (.tmp 7))⟩, ⟨(some 102), none, .p (.bin .add (.tmp 101) (.const (.int .i64 1)))⟩, ⟨(some 7), none, .p (.mov (.tmp 102))⟩])))
def lb33_2 : LC :=
  (.seq (.seq (.reg [⟨(some 63), none, .p (.mov (.tmp 5))⟩, ⟨(some 64), none, .p (.fad 1 (.tmp 1))⟩, ⟨(some 65), none, .p (.ld none (.tmp 64))⟩, ⟨(some 66), none, .p (.len 1 (.tmp 65))⟩, ⟨(some 67), none, .p (.bin .lss (.tmp 63) (.tmp 66))⟩])
  (.cond (.tmp 67) .skip (.exit 2)))
  (.seq (.block 3
  (.seq (.reg [⟨(some 70), none, .p (.fad 1 (.tmp 1))⟩, ⟨(some 71), none, .p (.ld none (.tmp 70))⟩, ⟨(some 72), none, .p (.mov (.tmp 5))⟩, ⟨(some 73), none, .p (.iad 4 (.tmp 71) (.tmp 72))⟩, ⟨(some 74), none, .p (.ld (some 4) (.tmp 73))⟩, ⟨(some 6), none, .e (.alc [(.slice none 0 0), (.bool false), (.int .i64 0), (.int .i64 0)])⟩, ⟨none, none, .e (.st 4 (.tmp 6) (.tmp 74))⟩])
  (.seq (.seq (.reg [⟨(some 75), none, .p (.fad 0 (.tmp 6))⟩, ⟨(some 76), none, .p (.ld none (.tmp 75))⟩, ⟨(some 77), none, .p (.len 1 (.tmp 76))⟩, ⟨(some 78), none, .p (.bin .eql (.tmp 77) (.const (.int .i64 0)))⟩, ⟨(some 79), none, .p (.mov (.tmp 78))⟩, ⟨(some 80), (some (79, false)), .p (.fad 2 (.tmp 6))⟩, ⟨(some 81), (some (79, false)), .p (.ld (some 2) (.tmp 80))⟩, ⟨(some 82), (some (79, false)), .e (.call 53 [(.tmp 81)])⟩, ⟨(some 83), (some (79, false)), .p (.un .not (.tmp 82))⟩, ⟨(some 84), none, .p (.pick (.tmp 79) (.const (.bool true)) (.tmp 83))⟩, ⟨(some 85), none, .p (.mov (.tmp 84))⟩, ⟨(some 86), (some (85, false)), .p (.fad 1 (.tmp 6))⟩, ⟨(some 87), (some (85, false)), .p (.ld none (.tmp 86))⟩, ⟨(some 88), (some (85, false)), .p (.un .not (.tmp 87))⟩, ⟨(some 89), (some (85, false)), .p (.mov (.tmp 88))⟩, ⟨(some 90), (some (89, true)), .p (.fad 2 (.tmp 6))⟩, ⟨(some 91), (some (89, true)), .p (.fad 0 (.tmp 90))⟩, ⟨(some 92), (some (89, true)), .p (.ld none (.tmp 91))⟩, ⟨(some 93), (some (89, true)), .p (.bin .neq (.tmp 92) (.const (.int .i64 0)))⟩, ⟨(some 94), (some (85, false)), .p (.pick (.tmp 89) (.tmp 93) (.const (.bool false)))⟩, ⟨(some 95), none, .p (.pick (.tmp 85) (.const (.bool true)) (.tmp 94))⟩])
  (.cond (.tmp 95) (.seq (.reg [⟨(some 2), none, .p (.mov (.const (.bool false)))⟩])
  .ret) .skip))
  (.seq (.reg [⟨(some 7), none, .p (.mov (.const (.int .i64 0)))⟩])
  (.block 4
  (.loop lb33_1))))))
  (.reg [⟨(some 68), none, .p (.mov (.tmp 5))⟩, ⟨(some 69), none, .p (.bin .add (.tmp 68) (.const (.int .i64 1)))⟩, ⟨(some 5), none, .p (.mov (.tmp 69))⟩])))
def lb33_3 : LC :=
  (.seq (.seq (.reg [⟨(some 19), none, .p (.mov (.tmp 3))⟩, ⟨(some 20), none, .p (.fad 0 (.tmp 1))⟩, ⟨(some 21), none, .p (.ld none (.tmp 20))⟩, ⟨(some 22), none, .p (.len 1 (.tmp 21))⟩, ⟨(some 23), none, .p (.bin .lss (.tmp 19) (.tmp 22))⟩])
  (.cond (.tmp 23) .skip (.exit 0)))
  (.seq (.block 1
  (.seq (.reg [⟨(some 26), none, .p (.fad 0 (.tmp 1))⟩, ⟨(some 27), none, .p (.ld none (.tmp 26))⟩, ⟨(some 28), none, .p (.mov (.tmp 3))⟩, ⟨(some 29), none, .p (.iad 2 (.tmp 27) (.tmp 28))⟩, ⟨(some 30), none, .p (.ld (some 2) (.tmp 29))⟩, ⟨(some 31), none, .e (.call 49 [(.tmp 30)])⟩, ⟨(some 4), none, .e (.alc [(.int .i64 0), (.int .i64 0)])⟩, ⟨none, none, .e (.st 2 (.tmp 4) (.tmp 31))⟩])
  (.seq (.reg [⟨(some 32), none, .p (.fad 0 (.tmp 1))⟩, ⟨(some 33), none, .p (.ld none (.tmp 32))⟩, ⟨(some 34), none, .p (.mov (.tmp 3))⟩, ⟨(some 35), none, .p (.iad 2 (.tmp 33) (.tmp 34))⟩, ⟨(some 36), none, .p (.ld (some 2) (.tmp 35))⟩, ⟨(some 37), none, .e (.call 53 [(.tmp 36)])⟩, ⟨(some 38), none, .p (.un .not (.tmp 37))⟩, ⟨(some 39), none, .p (.mov (.tmp 38))⟩, ⟨(some 40), (some (39, false)), .p (.fad 0 (.tmp 4))⟩, ⟨(some 41), (some (39, false)), .p (.ld none (.tmp 40))⟩, ⟨(some 42), (some (39, false)), .p (.fad 1 (.tmp 4))⟩, ⟨(some 43), (some (39, false)), .p (.ld none (.tmp 42))⟩, ⟨(some 44), (some (39, false)), .p (.bin .quo (.tmp 41) (.tmp 43))⟩, ⟨(some 45), (some (39, false)), .p (.bin .gtr (.tmp 44) (.const (.int .i64 1000)))⟩, ⟨(some 46), none, .p (.pick (.tmp 39) (.const (.bool true)) (.tmp 45))⟩, ⟨(some 47), none, .p (.mov (.tmp 46))⟩, ⟨(some 48), (some (47, false)), .p (.fad 0 (.tmp 4))⟩, ⟨(some 49), (some (47, false)), .p (.ld none (.tmp 48))⟩, ⟨(some 50), (some (47, false)), .p (.fad 1 (.tmp 4))⟩, ⟨(some 51), (some (47, false)), .p (.ld none (.tmp 50))⟩, ⟨(some 52), (some (47, false)), .p (.bin .quo (.tmp 49) (.tmp 51))⟩, ⟨(some 53), (some (47, false)), .p (.bin .eql (.tmp 52) (.const (.int .i64 1000)))⟩, ⟨(some 54), (some (47, false)), .p (.mov (.tmp 53))⟩, ⟨(some 55), (some (54, true)), .p (.fad 0 (.tmp 4))⟩, ⟨(some 56), (some (54, true)), .p (.ld none (.tmp 55))⟩, ⟨(some 57), (some (54, true)), .p (.fad 1 (.tmp 4))⟩, ⟨(some 58), (some (54, true)), .p (.ld none (.tmp 57))⟩, ⟨(some 59), (some (54, true)), .p (.bin .rem (.tmp 56) (.tmp 58))⟩, ⟨(some 60), (some (54, true)), .p (.bin .neq (.tmp 59) (.const (.int .i64 0)))⟩, ⟨(some 61), (some (47, false)), .p (.pick (.tmp 54) (.tmp 60) (.const (.bool false)))⟩, ⟨(some 62), none, .p (.pick (.tmp 47) (.const (.bool true)) (.tmp 61))⟩])
  (.cond (.tmp 62) (.seq (.reg [⟨(some 2), none, .p (.mov (.const (.bool false)))⟩])
  .ret) .skip))))
  (.reg [⟨(some 24), none, .p (.mov (.tmp 3))⟩, ⟨(some 25), none, .p (.bin .add (.tmp 24) (.const (.int .i64 1)))⟩, ⟨(some 3), none, .p (.mov (.tmp 25))⟩])))
def cf33 : LC :=
  (.seq (.reg [⟨(some 1), none, .e (.box (.tmp 0))⟩, ⟨(some 2), none, .p (.mov (.const (.bool false)))⟩])
  (.seq (.seq (.reg [⟨(some 9), none, .p (.fad 0 (.tmp 1))⟩, ⟨(some 10), none, .p (.ld none (.tmp 9))⟩, ⟨(some 11), none, .p (.len 1 (.tmp 10))⟩, ⟨(some 12), none, .p (.bin .gtr (.tmp 11) (.const (.int .i64 32)))⟩, ⟨(some 13), none, .p (.mov (.tmp 12))⟩, ⟨(some 14), (some (13, false)), .p (.fad 1 (.tmp 1))⟩, ⟨(some 15), (some (13, false)), .p (.ld none (.tmp 14))⟩, ⟨(some 16), (some (13, false)), .p (.len 1 (.tmp 15))⟩, ⟨(some 17), (some (13, false)), .p (.bin .gtr (.tmp 16) (.const (.int .i64 32)))⟩, ⟨(some 18), none, .p (.pick (.tmp 13) (.const (.bool true)) (.tmp 17))⟩])
  (.cond (.tmp 18) (.seq (.reg [⟨(some 2), none, .p (.mov (.const (.bool false)))⟩])
  .ret) .skip))
  (.seq (.seq (.reg [⟨(some 3), none, .p (.mov (.const (.int .i64 0)))⟩])
  (.block 0
  (.loop lb33_3)))
  (.seq (.seq (.reg [⟨(some 5), none, .p (.mov (.const (.int .i64 0)))⟩])
  (.block 2
  (.loop lb33_2)))
  (.seq (.reg [⟨(some 2), none, .p (.mov (.const (.bool true)))⟩])
  .ret)))))
def rf33 : List RX := [.tmp 2]
set_option maxRecDepth 100000 in
theorem comp33 : cFn Tryz.prog Tryz.f33 = some (erase cf33, rf33) := by kernel_rfl
def lb52_0 : LC :=
  (.seq (.seq (.reg [⟨(some 23), none, .p (.mov (.tmp 4))⟩, ⟨(some 24), none, .p (.mov (.tmp 0))⟩, ⟨(some 25), none, .p (.len 0 (.tmp 24))⟩, ⟨(some 26), none, .p (.bin .lss (.tmp 23) (.tmp 25))⟩])
  (.cond (.tmp 26) .skip (.exit 0)))
  (.seq (.block 1
  (.seq (.seq (.reg [⟨(some 29), none, .p (.mov (.tmp 0))⟩, ⟨(some 30), none, .p (.mov (.tmp 4))⟩, ⟨(some 31), none, .p (.idxs (.tmp 29) (.tmp 30))⟩, ⟨(some 32), none, .p (.bin .lss (.tmp 31) (.const (.int .u8 48)))⟩, ⟨(some 33), none, .p (.mov (.tmp 32))⟩, ⟨(some 34), (some (33, false)), .p (.mov (.tmp 0))⟩, ⟨(some 35), (some (33, false)), .p (.mov (.tmp 4))⟩, ⟨(some 36), (some (33, false)), .p (.idxs (.tmp 34) (.tmp 35))⟩, ⟨(some 37), (some (33, false)), .p (.bin .gtr (.tmp 36) (.const (.int .u8 57)))⟩, ⟨(some 38), none, .p (.pick (.tmp 33) (.const (.bool true)) (.tmp 37))⟩])
  (.cond (.tmp 38) (.seq (.reg [⟨(some 2), none, .p (.mov (.const (.int .i64 (-1))))⟩])
  .ret) .skip))
  (.reg [⟨(some 39), none, .p (.mov (.tmp 3))⟩, ⟨(some 40), none, .p (.bin .mul (.const (.int .i64 10)) (.tmp 39))⟩, ⟨(some 41), none, .p (.mov (.tmp 0))⟩, ⟨(some 42), none, .p (.mov (.tmp 4))⟩, ⟨(some 43), none, .p (.idxs (.tmp 41) (.tmp 42))⟩, ⟨(some 44), none, .p (.bin .sub (.tmp 43) (.const (.int .u8 48)))⟩, ⟨(some 45), none, .p (.cvt .i64 (.tmp 44))⟩, ⟨(some 46), none, .p (.bin .add (.tmp 40) (.tmp 45))⟩, ⟨(some 3), none, .p (.mov (.tmp 46))⟩])))
  (.reg [⟨(some 27), none, .p (.mov (.tmp 4))⟩, ⟨(some 28), none, .p (.bin .add (.tmp 27) (.const (.int .i64 1)))⟩, ⟨(some 4), none, .p (.mov (.tmp 28))⟩])))
def cf52 : LC :=
  (.seq (.reg [⟨(some 2), none, .p (.mov (.const (.int .i64 0)))⟩])
  (.seq (.seq (.reg [⟨(some 5), none, .p (.mov (.tmp 0))⟩, ⟨(some 6), none, .p (.len 0 (.tmp 5))⟩, ⟨(some 7), none, .p (.bin .lss (.tmp 6) (.const (.int .i64 1)))⟩, ⟨(some 8), none, .p (.mov (.tmp 7))⟩, ⟨(some 9), (some (8, false)), .p (.mov (.tmp 0))⟩, ⟨(some 10), (some (8, false)), .p (.len 0 (.tmp 9))⟩, ⟨(some 11), (some (8, false)), .p (.bin .gtr (.tmp 10) (.const (.int .i64 3)))⟩, ⟨(some 12), none, .p (.pick (.tmp 8) (.const (.bool true)) (.tmp 11))⟩, ⟨(some 13), none, .p (.mov (.tmp 12))⟩, ⟨(some 14), (some (13, false)), .p (.mov (.tmp 0))⟩, ⟨(some 15), (some (13, false)), .p (.len 0 (.tmp 14))⟩, ⟨(some 16), (some (13, false)), .p (.bin .gtr (.tmp 15) (.const (.int .i64 1)))⟩, ⟨(some 17), (some (13, false)), .p (.mov (.tmp 16))⟩, ⟨(some 18), (some (17, true)), .p (.mov (.tmp 0))⟩, ⟨(some 19), (some (17, true)), .p (.idxs (.tmp 18) (.const (.int .i64 0)))⟩, ⟨(some 20), (some (17, true)), .p (.bin .eql (.tmp 19) (.const (.int .u8 48)))⟩, ⟨(some 21), (some (13, false)), .p (.pick (.tmp 17) (.tmp 20) (.const (.bool false)))⟩, ⟨(some 22), none, .p (.pick (.tmp 13) (.const (.bool true)) (.tmp 21))⟩])
  (.cond (.tmp 22) (.seq (.reg [⟨(some 2), none, .p (.mov (.const (.int .i64 (-1))))⟩])
  .ret) .skip))
  (.seq (.reg [⟨(some 3), none, .p (.mov (.const (.int .i64 0)))⟩])
  (.seq (.seq (.reg [⟨(some 4), none, .p (.mov (.const (.int .i64 0)))⟩])
  (.block 0
  (.loop lb52_0)))
  (.seq (.reg [⟨(some 47), none, .p (.mov (.tmp 3))⟩, ⟨(some 2), none, .p (.mov (.tmp 47))⟩])
  .ret)))))
def rf52 : List RX := [.tmp 2]
set_option maxRecDepth 100000 in
theorem comp52 : cFn Tryz.prog Tryz.f52 = some (erase cf52, rf52) := by kernel_rfl
end Go.Proofs.YtdfiicpikcdokaaGreatDoor
namespace Go.Proofs.YtdfiicpikcdokaaGreatDoor
def cf53 : LC :=
  (.seq (.reg [⟨(some 1), none, .e (.box (.tmp 0))⟩, ⟨(some 2), none, .p (.mov (.const (.bool false)))⟩])
  (.seq (.reg [⟨(some 3), none, .p (.ld (some 2) (.tmp 1))⟩, ⟨(some 4), none, .e (.call 51 [(.tmp 3)])⟩, ⟨(some 5), none, .p (.mov (.tmp 4))⟩, ⟨(some 6), (some (5, true)), .p (.fad 0 (.tmp 1))⟩, ⟨(some 7), (some (5, true)), .p (.ld none (.tmp 6))⟩, ⟨(some 8), (some (5, true)), .p (.bin .geq (.tmp 7) (.const (.int .i64 0)))⟩, ⟨(some 9), none, .p (.pick (.tmp 5) (.tmp 8) (.const (.bool false)))⟩, ⟨(some 2), none, .p (.mov (.tmp 9))⟩])
  .ret))
def rf53 : List RX := [.tmp 2]
set_option maxRecDepth 100000 in
theorem comp53 : cFn Tryz.prog Tryz.f53 = some (erase cf53, rf53) := by kernel_rfl
end Go.Proofs.YtdfiicpikcdokaaGreatDoor
namespace Go.Proofs.YtdfiicpikcdokaaGreatDoor
def cf17 : LC :=
  (.seq (.reg [⟨(some 1), none, .e (.box (.tmp 0))⟩, ⟨(some 2), none, .p (.mov (.const (.string ⟨#[]⟩)))⟩])
  (.seq (.seq (.reg [⟨(some 4), none, .p (.ld (some 2) (.tmp 1))⟩, ⟨(some 5), none, .e (.call 20 [(.tmp 4)])⟩, ⟨(some 6), none, .p (.un .not (.tmp 5))⟩])
  (.cond (.tmp 6) (.seq (.reg [⟨(some 2), none, .p (.mov (.const (.string ⟨#[]⟩)))⟩])
  .ret) .skip))
  (.seq (.reg [⟨(some 7), none, .p (.fad 0 (.tmp 1))⟩, ⟨(some 8), none, .p (.ld none (.tmp 7))⟩, ⟨(some 9), none, .e (.call 18 [(.tmp 8)])⟩, ⟨(some 3), none, .p (.mov (.tmp 9))⟩])
  (.seq (.seq (.reg [⟨(some 10), none, .p (.fad 1 (.tmp 1))⟩, ⟨(some 11), none, .p (.ld none (.tmp 10))⟩, ⟨(some 12), none, .p (.bin .gtr (.tmp 11) (.const (.int .i64 1)))⟩])
  (.cond (.tmp 12) (.reg [⟨(some 13), none, .p (.mov (.tmp 3))⟩, ⟨(some 14), none, .p (.fad 1 (.tmp 1))⟩, ⟨(some 15), none, .p (.ld none (.tmp 14))⟩, ⟨(some 16), none, .e (.call 18 [(.tmp 15)])⟩, ⟨(some 17), none, .p (.bin .add (.const (.string ⟨#[47]⟩)) (.tmp 16))⟩, ⟨(some 18), none, .p (.bin .add (.tmp 13) (.tmp 17))⟩, ⟨(some 3), none, .p (.mov (.tmp 18))⟩]) .skip))
  (.seq (.reg [⟨(some 19), none, .p (.mov (.tmp 3))⟩, ⟨(some 2), none, .p (.mov (.tmp 19))⟩])
  .ret)))))
def rf17 : List RX := [.tmp 2]
set_option maxRecDepth 100000 in
theorem comp17 : cFn Tryz.prog Tryz.f17 = some (erase cf17, rf17) := by kernel_rfl
def cf20 : LC :=
  (.seq (.reg [⟨(some 1), none, .e (.box (.tmp 0))⟩, ⟨(some 2), none, .p (.mov (.const (.bool false)))⟩])
  (.seq (.seq (.reg [⟨(some 3), none, .p (.fad 0 (.tmp 1))⟩, ⟨(some 4), none, .p (.ld none (.tmp 3))⟩, ⟨(some 5), none, .p (.bin .eql (.tmp 4) (.const (.int .i64 0)))⟩, ⟨(some 6), none, .p (.mov (.tmp 5))⟩, ⟨(some 7), (some (6, true)), .p (.fad 1 (.tmp 1))⟩, ⟨(some 8), (some (6, true)), .p (.ld none (.tmp 7))⟩, ⟨(some 9), (some (6, true)), .p (.bin .eql (.tmp 8) (.const (.int .i64 0)))⟩, ⟨(some 10), none, .p (.pick (.tmp 6) (.tmp 9) (.const (.bool false)))⟩])
  (.cond (.tmp 10) (.seq (.reg [⟨(some 2), none, .p (.mov (.const (.bool true)))⟩])
  .ret) .skip))
  (.seq (.dreg [⟨(some 11), none, .p (.fad 1 (.tmp 1))⟩, ⟨(some 12), none, .p (.ld none (.tmp 11))⟩, ⟨(some 13), none, .p (.bin .geq (.tmp 12) (.const (.int .i64 1)))⟩, ⟨(some 14), none, .p (.mov (.tmp 13))⟩, ⟨(some 15), (some (14, true)), .p (.fad 1 (.tmp 1))⟩, ⟨(some 16), (some (14, true)), .p (.ld none (.tmp 15))⟩, ⟨(some 17), (some (14, true)), .p (.bin .leq (.tmp 16) (.const (.int .i64 1152921504606846976)))⟩, ⟨(some 18), none, .p (.pick (.tmp 14) (.tmp 17) (.const (.bool false)))⟩, ⟨(some 19), none, .p (.mov (.tmp 18))⟩, ⟨(some 20), (some (19, true)), .p (.fad 0 (.tmp 1))⟩, ⟨(some 21), (some (19, true)), .p (.ld none (.tmp 20))⟩, ⟨(some 22), (some (19, true)), .p (.bin .geq (.tmp 21) (.const (.int .i64 (-1152921504606846976))))⟩, ⟨(some 23), none, .p (.pick (.tmp 19) (.tmp 22) (.const (.bool false)))⟩, ⟨(some 24), none, .p (.mov (.tmp 23))⟩, ⟨(some 25), (some (24, true)), .p (.fad 0 (.tmp 1))⟩, ⟨(some 26), (some (24, true)), .p (.ld none (.tmp 25))⟩, ⟨(some 27), (some (24, true)), .p (.bin .leq (.tmp 26) (.const (.int .i64 1152921504606846976)))⟩, ⟨(some 28), none, .p (.pick (.tmp 24) (.tmp 27) (.const (.bool false)))⟩, ⟨(some 29), none, .p (.mov (.tmp 28))⟩, ⟨(some 30), (some (29, true)), .p (.fad 0 (.tmp 1))⟩, ⟨(some 31), (some (29, true)), .p (.ld none (.tmp 30))⟩, ⟨(some 32), (some (29, true)), .e (.call 38 [(.tmp 31)])⟩, ⟨(some 33), (some (29, true)), .p (.fad 1 (.tmp 1))⟩, ⟨(some 34), (some (29, true)), .p (.ld none (.tmp 33))⟩, ⟨(some 35), (some (29, true)), .e (.call 38 [(.tmp 34)])⟩, ⟨(some 36), (some (29, true)), .e (.call 37 [(.tmp 32), (.tmp 35)])⟩, ⟨(some 37), (some (29, true)), .p (.bin .eql (.tmp 36) (.const (.int .u64 1)))⟩, ⟨(some 38), none, .p (.pick (.tmp 29) (.tmp 37) (.const (.bool false)))⟩] [[⟨(some 2), none, .p (.mov (.tmp 38))⟩]])
  .ret)))
def rf20 : List RX := [.tmp 2]
set_option maxRecDepth 100000 in
theorem comp20 : cFn Tryz.prog Tryz.f20 = some (erase cf20, rf20) := by kernel_rfl
def cf21 : LC :=
  (.seq (.reg [⟨(some 2), none, .e (.box (.tmp 0))⟩, ⟨(some 3), none, .e (.box (.tmp 1))⟩, ⟨(some 4), none, .p (.mov (.const (.int .i64 0)))⟩])
  (.seq (.seq (.reg [⟨(some 7), none, .p (.ld (some 2) (.tmp 2))⟩, ⟨(some 8), none, .e (.call 20 [(.tmp 7)])⟩, ⟨(some 9), none, .p (.un .not (.tmp 8))⟩, ⟨(some 10), none, .p (.mov (.tmp 9))⟩, ⟨(some 11), (some (10, false)), .p (.ld (some 2) (.tmp 3))⟩, ⟨(some 12), (some (10, false)), .e (.call 20 [(.tmp 11)])⟩, ⟨(some 13), (some (10, false)), .p (.un .not (.tmp 12))⟩, ⟨(some 14), none, .p (.pick (.tmp 10) (.const (.bool true)) (.tmp 13))⟩])
  (.cond (.tmp 14) (.seq (.reg [⟨(some 4), none, .p (.mov (.const (.int .i64 0)))⟩])
  .ret) .skip))
  (.seq (.dreg [⟨(some 15), none, .p (.ld (some 2) (.tmp 2))⟩, ⟨(some 16), none, .e (.call 39 [(.tmp 15)])⟩, ⟨(some 17), none, .p (.ld (some 2) (.tmp 3))⟩, ⟨(some 18), none, .e (.call 39 [(.tmp 17)])⟩] [[⟨none, none, .e (.st 2 (.tmp 2) (.tmp 16))⟩, ⟨none, none, .e (.st 2 (.tmp 3) (.tmp 18))⟩]])
  (.seq (.dreg [⟨(some 19), none, .p (.fad 0 (.tmp 2))⟩, ⟨(some 20), none, .p (.ld none (.tmp 19))⟩, ⟨(some 21), none, .p (.fad 1 (.tmp 3))⟩, ⟨(some 22), none, .p (.ld none (.tmp 21))⟩, ⟨(some 23), none, .e (.ecl 38 [(.tmp 22)])⟩, ⟨(some 24), none, .e (.ecl 40 [(.tmp 20), (.tmp 23)])⟩, ⟨(some 25), none, .p (.fad 0 (.tmp 3))⟩, ⟨(some 26), none, .p (.ld none (.tmp 25))⟩, ⟨(some 27), none, .p (.fad 1 (.tmp 2))⟩, ⟨(some 28), none, .p (.ld none (.tmp 27))⟩, ⟨(some 29), none, .e (.ecl 38 [(.tmp 28)])⟩, ⟨(some 30), none, .e (.ecl 40 [(.tmp 26), (.tmp 29)])⟩] [[⟨(some 5), none, .e (.alc [(.bool false), (.int .u64 0), (.int .u64 0)])⟩, ⟨(some 6), none, .e (.alc [(.bool false), (.int .u64 0), (.int .u64 0)])⟩, ⟨none, none, .e (.st 3 (.tmp 5) (.tmp 24))⟩, ⟨none, none, .e (.st 3 (.tmp 6) (.tmp 30))⟩], [⟨(some 6), none, .e (.alc [(.bool false), (.int .u64 0), (.int .u64 0)])⟩, ⟨(some 5), none, .e (.alc [(.bool false), (.int .u64 0), (.int .u64 0)])⟩, ⟨none, none, .e (.st 3 (.tmp 5) (.tmp 24))⟩, ⟨none, none, .e (.st 3 (.tmp 6) (.tmp 30))⟩]])
  (.seq (.block 0
  (.seq (.reg [⟨(some 32), none, .p (.fad 0 (.tmp 5))⟩, ⟨(some 33), none, .p (.ld none (.tmp 32))⟩, ⟨(some 34), none, .p (.mov (.tmp 33))⟩, ⟨(some 35), (some (34, true)), .p (.fad 0 (.tmp 6))⟩, ⟨(some 36), (some (34, true)), .p (.ld none (.tmp 35))⟩, ⟨(some 37), none, .p (.pick (.tmp 34) (.tmp 36) (.const (.bool false)))⟩, ⟨(some 31), none, .p (.mov (.tmp 37))⟩])
  (.cond (.tmp 31) (.seq (.reg [⟨(some 38), none, .p (.ld (some 3) (.tmp 6))⟩, ⟨(some 39), none, .p (.ld (some 3) (.tmp 5))⟩, ⟨(some 40), none, .e (.call 41 [(.tmp 38), (.tmp 39)])⟩, ⟨(some 4), none, .p (.mov (.tmp 40))⟩])
  .ret) (.seq (.reg [⟨(some 42), none, .p (.fad 0 (.tmp 5))⟩, ⟨(some 43), none, .p (.ld none (.tmp 42))⟩, ⟨(some 41), none, .p (.mov (.tmp 43))⟩])
  (.cond (.tmp 41) (.seq (.reg [⟨(some 4), none, .p (.mov (.const (.int .i64 (-1))))⟩])
  .ret) (.seq (.reg [⟨(some 45), none, .p (.fad 0 (.tmp 6))⟩, ⟨(some 46), none, .p (.ld none (.tmp 45))⟩, ⟨(some 44), none, .p (.mov (.tmp 46))⟩])
  (.cond (.tmp 44) (.seq (.reg [⟨(some 4), none, .p (.mov (.const (.int .i64 1)))⟩])
  .ret) .skip)))))))
  (.seq (.reg [⟨(some 47), none, .p (.ld (some 3) (.tmp 5))⟩, ⟨(some 48), none, .p (.ld (some 3) (.tmp 6))⟩, ⟨(some 49), none, .e (.call 41 [(.tmp 47), (.tmp 48)])⟩, ⟨(some 4), none, .p (.mov (.tmp 49))⟩])
  .ret))))))
def rf21 : List RX := [.tmp 4]
set_option maxRecDepth 100000 in
theorem comp21 : cFn Tryz.prog Tryz.f21 = some (erase cf21, rf21) := by kernel_rfl
def lb37_0 : LC :=
  (.seq (.seq (.reg [⟨(some 5), none, .p (.mov (.tmp 1))⟩, ⟨(some 6), none, .p (.bin .neq (.tmp 5) (.const (.int .u64 0)))⟩])
  (.cond (.tmp 6) .skip (.exit 0)))
  (.block 1
  (.dreg [⟨(some 7), none, .p (.mov (.tmp 1))⟩, ⟨(some 8), none, .p (.mov (.tmp 0))⟩, ⟨(some 9), none, .p (.mov (.tmp 1))⟩, ⟨(some 10), none, .p (.bin .rem (.tmp 8) (.tmp 9))⟩, ⟨(some 0), none, .p (.mov (.tmp 7))⟩] [[⟨(some 1), none, .p (.mov (.tmp 10))⟩]])))
def cf37 : LC :=
  (.seq (.reg [⟨(some 4), none, .p (.mov (.const (.int .u64 0)))⟩])
  (.seq (.block 0
  (.loop lb37_0))
  (.seq (.reg [⟨(some 11), none, .p (.mov (.tmp 0))⟩, ⟨(some 4), none, .p (.mov (.tmp 11))⟩])
  .ret)))
def rf37 : List RX := [.tmp 4]
set_option maxRecDepth 100000 in
theorem comp37 : cFn Tryz.prog Tryz.f37 = some (erase cf37, rf37) := by kernel_rfl
def cf38 : LC :=
  (.seq (.reg [⟨(some 2), none, .p (.mov (.const (.int .u64 0)))⟩])
  (.seq (.seq (.reg [⟨(some 3), none, .p (.mov (.tmp 0))⟩, ⟨(some 4), none, .p (.bin .lss (.tmp 3) (.const (.int .i64 0)))⟩])
  (.cond (.tmp 4) (.seq (.reg [⟨(some 5), none, .p (.mov (.tmp 0))⟩, ⟨(some 6), none, .p (.cvt .u64 (.tmp 5))⟩, ⟨(some 7), none, .p (.un .neg (.tmp 6))⟩, ⟨(some 2), none, .p (.mov (.tmp 7))⟩])
  .ret) .skip))
  (.seq (.reg [⟨(some 8), none, .p (.mov (.tmp 0))⟩, ⟨(some 9), none, .p (.cvt .u64 (.tmp 8))⟩, ⟨(some 2), none, .p (.mov (.tmp 9))⟩])
  .ret)))
def rf38 : List RX := [.tmp 2]
set_option maxRecDepth 100000 in
theorem comp38 : cFn Tryz.prog Tryz.f38 = some (erase cf38, rf38) := by kernel_rfl
def cf39 : LC :=
  (.seq (.reg [⟨(some 1), none, .e (.box (.tmp 0))⟩, ⟨(some 2), none, .e (.alc [(.int .i64 0), (.int .i64 0)])⟩])
  (.seq (.seq (.reg [⟨(some 3), none, .p (.fad 1 (.tmp 1))⟩, ⟨(some 4), none, .p (.ld none (.tmp 3))⟩, ⟨(some 5), none, .p (.bin .eql (.tmp 4) (.const (.int .i64 0)))⟩])
  (.cond (.tmp 5) (.reg [⟨(some 6), none, .p (.fad 1 (.tmp 1))⟩, ⟨none, none, .e (.st 1 (.tmp 6) (.const (.int .i64 1)))⟩]) .skip))
  (.seq (.reg [⟨(some 7), none, .p (.ld (some 2) (.tmp 1))⟩, ⟨none, none, .e (.st 2 (.tmp 2) (.tmp 7))⟩])
  .ret)))
def rf39 : List RX := [.cell 2 (some 2)]
set_option maxRecDepth 100000 in
theorem comp39 : cFn Tryz.prog Tryz.f39 = some (erase cf39, rf39) := by kernel_rfl
def cf40 : LC :=
  (.seq (.reg [⟨(some 4), none, .e (.alc [(.bool false), (.int .u64 0), (.int .u64 0)])⟩])
  (.seq (.reg [⟨(some 8), none, .p (.mov (.tmp 0))⟩, ⟨(some 9), none, .e (.call 38 [(.tmp 8)])⟩, ⟨(some 10), none, .p (.mov (.tmp 1))⟩, ⟨(some 11), none, .e (.call 58 [(.tmp 9), (.tmp 10)])⟩, ⟨(some 7), none, .p (.mov (.tmp 11))⟩, ⟨(some 12), none, .p (.ext (.tmp 7) 0)⟩, ⟨(some 13), none, .p (.ext (.tmp 7) 1)⟩, ⟨(some 5), none, .p (.mov (.tmp 12))⟩, ⟨(some 6), none, .p (.mov (.tmp 13))⟩])
  (.seq (.reg [⟨(some 14), none, .p (.mov (.tmp 0))⟩, ⟨(some 15), none, .p (.bin .lss (.tmp 14) (.const (.int .i64 0)))⟩, ⟨(some 16), none, .p (.mov (.tmp 5))⟩, ⟨(some 17), none, .p (.mov (.tmp 6))⟩, ⟨(some 18), none, .p (.bld [(.bool false), (.int .u64 0), (.int .u64 0)] [(0, 1, (.tmp 15)), (1, 1, (.tmp 16)), (2, 1, (.tmp 17))])⟩, ⟨none, none, .e (.st 3 (.tmp 4) (.tmp 18))⟩])
  .ret)))
def rf40 : List RX := [.cell 4 (some 3)]
set_option maxRecDepth 100000 in
theorem comp40 : cFn Tryz.prog Tryz.f40 = some (erase cf40, rf40) := by kernel_rfl
def cf41 : LC :=
  (.seq (.reg [⟨(some 2), none, .e (.box (.tmp 0))⟩, ⟨(some 3), none, .e (.box (.tmp 1))⟩, ⟨(some 4), none, .p (.mov (.const (.int .i64 0)))⟩])
  (.seq (.block 0
  (.seq (.reg [⟨(some 6), none, .p (.fad 1 (.tmp 2))⟩, ⟨(some 7), none, .p (.ld none (.tmp 6))⟩, ⟨(some 8), none, .p (.fad 1 (.tmp 3))⟩, ⟨(some 9), none, .p (.ld none (.tmp 8))⟩, ⟨(some 10), none, .p (.bin .lss (.tmp 7) (.tmp 9))⟩, ⟨(some 11), none, .p (.mov (.tmp 10))⟩, ⟨(some 12), (some (11, false)), .p (.fad 1 (.tmp 2))⟩, ⟨(some 13), (some (11, false)), .p (.ld none (.tmp 12))⟩, ⟨(some 14), (some (11, false)), .p (.fad 1 (.tmp 3))⟩, ⟨(some 15), (some (11, false)), .p (.ld none (.tmp 14))⟩, ⟨(some 16), (some (11, false)), .p (.bin .eql (.tmp 13) (.tmp 15))⟩, ⟨(some 17), (some (11, false)), .p (.mov (.tmp 16))⟩, ⟨(some 18), (some (17, true)), .p (.fad 2 (.tmp 2))⟩, ⟨(some 19), (some (17, true)), .p (.ld none (.tmp 18))⟩, ⟨(some 20), (some (17, true)), .p (.fad 2 (.tmp 3))⟩, ⟨(some 21), (some (17, true)), .p (.ld none (.tmp 20))⟩, ⟨(some 22), (some (17, true)), .p (.bin .lss (.tmp 19) (.tmp 21))⟩, ⟨(some 23), (some (11, false)), .p (.pick (.tmp 17) (.tmp 22) (.const (.bool false)))⟩, ⟨(some 24), none, .p (.pick (.tmp 11) (.const (.bool true)) (.tmp 23))⟩, ⟨(some 5), none, .p (.mov (.tmp 24))⟩])
  (.cond (.tmp 5) (.seq (.reg [⟨(some 4), none, .p (.mov (.const (.int .i64 (-1))))⟩])
  .ret) (.seq (.reg [⟨(some 26), none, .p (.fad 1 (.tmp 2))⟩, ⟨(some 27), none, .p (.ld none (.tmp 26))⟩, ⟨(some 28), none, .p (.fad 1 (.tmp 3))⟩, ⟨(some 29), none, .p (.ld none (.tmp 28))⟩, ⟨(some 30), none, .p (.bin .eql (.tmp 27) (.tmp 29))⟩, ⟨(some 31), none, .p (.mov (.tmp 30))⟩, ⟨(some 32), (some (31, true)), .p (.fad 2 (.tmp 2))⟩, ⟨(some 33), (some (31, true)), .p (.ld none (.tmp 32))⟩, ⟨(some 34), (some (31, true)), .p (.fad 2 (.tmp 3))⟩, ⟨(some 35), (some (31, true)), .p (.ld none (.tmp 34))⟩, ⟨(some 36), (some (31, true)), .p (.bin .eql (.tmp 33) (.tmp 35))⟩, ⟨(some 37), none, .p (.pick (.tmp 31) (.tmp 36) (.const (.bool false)))⟩, ⟨(some 25), none, .p (.mov (.tmp 37))⟩])
  (.cond (.tmp 25) (.seq (.reg [⟨(some 4), none, .p (.mov (.const (.int .i64 0)))⟩])
  .ret) .skip)))))
  (.seq (.reg [⟨(some 4), none, .p (.mov (.const (.int .i64 1)))⟩])
  .ret)))
def rf41 : List RX := [.tmp 4]
set_option maxRecDepth 100000 in
theorem comp41 : cFn Tryz.prog Tryz.f41 = some (erase cf41, rf41) := by kernel_rfl
def cf46 : LC :=
  (.seq (.reg [⟨(some 2), none, .e (.alc [(.int .i64 0), (.int .i64 0)])⟩, ⟨(some 3), none, .p (.mov (.const (.int .i64 0)))⟩])
  (.seq (.reg [⟨(some 12), none, .p (.bld [(.int .i64 0), (.int .i64 0)] [(0, 1, (.const (.int .i64 0))), (1, 1, (.const (.int .i64 1)))])⟩, ⟨(some 4), none, .e (.alc [(.int .i64 0), (.int .i64 0)])⟩, ⟨none, none, .e (.st 2 (.tmp 4) (.tmp 12))⟩])
  (.seq (.reg [⟨(some 14), none, .p (.mov (.tmp 0))⟩, ⟨(some 15), none, .e (.call 61 [(.tmp 14), (.const (.string ⟨#[47]⟩))])⟩, ⟨(some 13), none, .p (.mov (.tmp 15))⟩, ⟨(some 16), none, .p (.ext (.tmp 13) 0)⟩, ⟨(some 17), none, .p (.ext (.tmp 13) 1)⟩, ⟨(some 18), none, .p (.ext (.tmp 13) 2)⟩, ⟨(some 5), none, .p (.mov (.tmp 16))⟩, ⟨(some 6), none, .p (.mov (.tmp 17))⟩, ⟨(some 7), none, .p (.mov (.tmp 18))⟩])
  (.seq (.reg [⟨(some 20), none, .p (.mov (.tmp 5))⟩, ⟨(some 21), none, .e (.call 62 [(.tmp 20)])⟩, ⟨(some 19), none, .p (.mov (.tmp 21))⟩, ⟨(some 22), none, .p (.ext (.tmp 19) 0)⟩, ⟨(some 23), none, .p (.ext (.tmp 19) 1)⟩, ⟨(some 8), none, .p (.mov (.tmp 22))⟩, ⟨(some 9), none, .p (.mov (.tmp 23))⟩])
  (.seq (.seq (.reg [⟨(some 24), none, .p (.mov (.tmp 9))⟩, ⟨(some 25), none, .p (.nili true (.tmp 24))⟩])
  (.cond (.tmp 25) (.seq (.reg [⟨(some 26), none, .p (.bld [(.int .i64 0), (.int .i64 0)] [])⟩, ⟨none, none, .e (.st 2 (.tmp 2) (.tmp 26))⟩, ⟨(some 3), none, .p (.mov (.const (.int .i64 3)))⟩])
  .ret) .skip))
  (.seq (.reg [⟨(some 27), none, .p (.mov (.tmp 8))⟩, ⟨(some 28), none, .p (.fad 0 (.tmp 4))⟩, ⟨none, none, .e (.st 1 (.tmp 28) (.tmp 27))⟩])
  (.seq (.seq (.reg [⟨(some 29), none, .p (.mov (.tmp 7))⟩])
  (.cond (.tmp 29) (.seq (.reg [⟨(some 31), none, .p (.mov (.tmp 6))⟩, ⟨(some 32), none, .e (.call 62 [(.tmp 31)])⟩, ⟨(some 30), none, .p (.mov (.tmp 32))⟩, ⟨(some 33), none, .p (.ext (.tmp 30) 0)⟩, ⟨(some 34), none, .p (.ext (.tmp 30) 1)⟩, ⟨(some 10), none, .p (.mov (.tmp 33))⟩, ⟨(some 11), none, .p (.mov (.tmp 34))⟩])
  (.seq (.seq (.reg [⟨(some 35), none, .p (.mov (.tmp 11))⟩, ⟨(some 36), none, .p (.nili true (.tmp 35))⟩])
  (.cond (.tmp 36) (.seq (.reg [⟨(some 37), none, .p (.bld [(.int .i64 0), (.int .i64 0)] [])⟩, ⟨none, none, .e (.st 2 (.tmp 2) (.tmp 37))⟩, ⟨(some 3), none, .p (.mov (.const (.int .i64 3)))⟩])
  .ret) .skip))
  (.reg [⟨(some 38), none, .p (.mov (.tmp 10))⟩, ⟨(some 39), none, .p (.fad 1 (.tmp 4))⟩, ⟨none, none, .e (.st 1 (.tmp 39) (.tmp 38))⟩]))) .skip))
  (.seq (.seq (.reg [⟨(some 40), none, .p (.ld (some 2) (.tmp 4))⟩, ⟨(some 41), none, .e (.call 20 [(.tmp 40)])⟩, ⟨(some 42), none, .p (.un .not (.tmp 41))⟩, ⟨(some 43), none, .p (.mov (.tmp 42))⟩, ⟨(some 44), (some (43, false)), .p (.ld (some 2) (.tmp 4))⟩, ⟨(some 45), (some (43, false)), .e (.call 17 [(.tmp 44)])⟩, ⟨(some 46), (some (43, false)), .p (.mov (.tmp 0))⟩, ⟨(some 47), (some (43, false)), .p (.bin .neq (.tmp 45) (.tmp 46))⟩, ⟨(some 48), none, .p (.pick (.tmp 43) (.const (.bool true)) (.tmp 47))⟩])
  (.cond (.tmp 48) (.seq (.reg [⟨(some 49), none, .p (.bld [(.int .i64 0), (.int .i64 0)] [])⟩, ⟨none, none, .e (.st 2 (.tmp 2) (.tmp 49))⟩, ⟨(some 3), none, .p (.mov (.const (.int .i64 3)))⟩])
  .ret) .skip))
  (.seq (.reg [⟨(some 50), none, .p (.ld (some 2) (.tmp 4))⟩, ⟨none, none, .e (.st 2 (.tmp 2) (.tmp 50))⟩, ⟨(some 3), none, .p (.mov (.const (.int .i64 0)))⟩])
  .ret)))))))))
def rf46 : List RX := [.cell 2 (some 2), .tmp 3]
set_option maxRecDepth 100000 in
theorem comp46 : cFn Tryz.prog Tryz.f46 = some (erase cf46, rf46) := by kernel_rfl
def cf55 : LC :=
  (.seq (.reg [⟨(some 2), none, .e (.box (.tmp 0))⟩, ⟨(some 3), none, .e (.box (.tmp 1))⟩, ⟨(some 4), none, .e (.alc [(.int .i64 0), (.int .i64 0)])⟩, ⟨(some 5), none, .p (.mov (.const (.int .i64 0)))⟩])
  (.seq (.seq (.reg [⟨(some 17), none, .p (.ld (some 2) (.tmp 2))⟩, ⟨(some 18), none, .e (.call 20 [(.tmp 17)])⟩, ⟨(some 19), none, .p (.un .not (.tmp 18))⟩, ⟨(some 20), none, .p (.mov (.tmp 19))⟩, ⟨(some 21), (some (20, false)), .p (.ld (some 2) (.tmp 3))⟩, ⟨(some 22), (some (20, false)), .e (.call 20 [(.tmp 21)])⟩, ⟨(some 23), (some (20, false)), .p (.un .not (.tmp 22))⟩, ⟨(some 24), none, .p (.pick (.tmp 20) (.const (.bool true)) (.tmp 23))⟩])
  (.cond (.tmp 24) (.seq (.reg [⟨(some 25), none, .p (.bld [(.int .i64 0), (.int .i64 0)] [])⟩, ⟨none, none, .e (.st 2 (.tmp 4) (.tmp 25))⟩, ⟨(some 5), none, .p (.mov (.const (.int .i64 1)))⟩])
  .ret) .skip))
  (.seq (.dreg [⟨(some 26), none, .p (.ld (some 2) (.tmp 2))⟩, ⟨(some 27), none, .e (.call 39 [(.tmp 26)])⟩, ⟨(some 28), none, .p (.ld (some 2) (.tmp 3))⟩, ⟨(some 29), none, .e (.call 39 [(.tmp 28)])⟩] [[⟨none, none, .e (.st 2 (.tmp 2) (.tmp 27))⟩, ⟨none, none, .e (.st 2 (.tmp 3) (.tmp 29))⟩]])
  (.seq (.dreg [⟨(some 30), none, .p (.fad 1 (.tmp 2))⟩, ⟨(some 31), none, .p (.ld none (.tmp 30))⟩, ⟨(some 32), none, .e (.call 38 [(.tmp 31)])⟩, ⟨(some 33), none, .p (.fad 1 (.tmp 3))⟩, ⟨(some 34), none, .p (.ld none (.tmp 33))⟩, ⟨(some 35), none, .e (.call 38 [(.tmp 34)])⟩, ⟨(some 36), none, .e (.call 37 [(.tmp 32), (.tmp 35)])⟩] [[⟨(some 6), none, .p (.mov (.tmp 36))⟩]])
  (.seq (.dreg [⟨(some 37), none, .p (.fad 1 (.tmp 2))⟩, ⟨(some 38), none, .p (.ld none (.tmp 37))⟩, ⟨(some 39), none, .e (.call 38 [(.tmp 38)])⟩, ⟨(some 40), none, .p (.mov (.tmp 6))⟩, ⟨(some 41), none, .p (.bin .quo (.tmp 39) (.tmp 40))⟩, ⟨(some 42), none, .p (.fad 1 (.tmp 3))⟩, ⟨(some 43), none, .p (.ld none (.tmp 42))⟩, ⟨(some 44), none, .e (.call 38 [(.tmp 43)])⟩, ⟨(some 45), none, .p (.mov (.tmp 6))⟩, ⟨(some 46), none, .p (.bin .quo (.tmp 44) (.tmp 45))⟩, ⟨(some 7), none, .p (.mov (.tmp 41))⟩] [[⟨(some 8), none, .p (.mov (.tmp 46))⟩]])
  (.seq (.dreg [⟨(some 47), none, .p (.fad 0 (.tmp 2))⟩, ⟨(some 48), none, .p (.ld none (.tmp 47))⟩, ⟨(some 49), none, .p (.mov (.tmp 8))⟩, ⟨(some 50), none, .e (.ecl 40 [(.tmp 48), (.tmp 49)])⟩, ⟨(some 51), none, .p (.fad 0 (.tmp 3))⟩, ⟨(some 52), none, .p (.ld none (.tmp 51))⟩, ⟨(some 53), none, .p (.mov (.tmp 7))⟩, ⟨(some 54), none, .e (.ecl 40 [(.tmp 52), (.tmp 53)])⟩, ⟨(some 55), none, .e (.ecl 68 [(.tmp 50), (.tmp 54)])⟩] [[⟨(some 9), none, .e (.alc [(.bool false), (.int .u64 0), (.int .u64 0)])⟩, ⟨none, none, .e (.st 3 (.tmp 9) (.tmp 55))⟩]])
  (.seq (.seq (.reg [⟨(some 56), none, .p (.fad 1 (.tmp 9))⟩, ⟨(some 57), none, .p (.ld none (.tmp 56))⟩, ⟨(some 58), none, .p (.bin .eql (.tmp 57) (.const (.int .u64 0)))⟩, ⟨(some 59), none, .p (.mov (.tmp 58))⟩, ⟨(some 60), (some (59, true)), .p (.fad 2 (.tmp 9))⟩, ⟨(some 61), (some (59, true)), .p (.ld none (.tmp 60))⟩, ⟨(some 62), (some (59, true)), .p (.bin .eql (.tmp 61) (.const (.int .u64 0)))⟩, ⟨(some 63), none, .p (.pick (.tmp 59) (.tmp 62) (.const (.bool false)))⟩])
  (.cond (.tmp 63) (.seq (.reg [⟨(some 64), none, .p (.bld [(.int .i64 0), (.int .i64 0)] [(0, 1, (.const (.int .i64 0))), (1, 1, (.const (.int .i64 1)))])⟩, ⟨none, none, .e (.st 2 (.tmp 4) (.tmp 64))⟩, ⟨(some 5), none, .p (.mov (.const (.int .i64 0)))⟩])
  .ret) .skip))
  (.seq (.reg [⟨(some 66), none, .p (.ld (some 3) (.tmp 9))⟩, ⟨(some 67), none, .p (.mov (.tmp 6))⟩, ⟨(some 68), none, .e (.call 69 [(.tmp 66), (.tmp 67)])⟩, ⟨(some 65), none, .p (.mov (.tmp 68))⟩, ⟨(some 69), none, .p (.ext (.tmp 65) 0)⟩, ⟨(some 70), none, .p (.ext (.tmp 65) 1)⟩, ⟨(some 10), none, .e (.alc [(.bool false), (.int .u64 0), (.int .u64 0)])⟩, ⟨none, none, .e (.st 3 (.tmp 10) (.tmp 69))⟩, ⟨(some 11), none, .p (.mov (.tmp 70))⟩])
  (.seq (.reg [⟨(some 71), none, .p (.mov (.tmp 6))⟩, ⟨(some 72), none, .p (.mov (.tmp 11))⟩, ⟨(some 73), none, .e (.call 37 [(.tmp 71), (.tmp 72)])⟩, ⟨(some 12), none, .p (.mov (.tmp 73))⟩])
  (.seq (.reg [⟨(some 75), none, .p (.ld (some 3) (.tmp 9))⟩, ⟨(some 76), none, .p (.mov (.tmp 12))⟩, ⟨(some 77), none, .e (.call 69 [(.tmp 75), (.tmp 76)])⟩, ⟨(some 74), none, .p (.mov (.tmp 77))⟩, ⟨(some 78), none, .p (.ext (.tmp 74) 0)⟩, ⟨(some 79), none, .p (.ext (.tmp 74) 1)⟩, ⟨(some 13), none, .e (.alc [(.bool false), (.int .u64 0), (.int .u64 0)])⟩, ⟨none, none, .e (.st 3 (.tmp 13) (.tmp 78))⟩, ⟨(some 14), none, .p (.mov (.tmp 79))⟩])
  (.seq (.reg [⟨(some 81), none, .p (.mov (.tmp 7))⟩, ⟨(some 82), none, .p (.fad 1 (.tmp 3))⟩, ⟨(some 83), none, .p (.ld none (.tmp 82))⟩, ⟨(some 84), none, .e (.call 38 [(.tmp 83)])⟩, ⟨(some 85), none, .p (.mov (.tmp 12))⟩, ⟨(some 86), none, .p (.bin .quo (.tmp 84) (.tmp 85))⟩, ⟨(some 87), none, .e (.call 58 [(.tmp 81), (.tmp 86)])⟩, ⟨(some 80), none, .p (.mov (.tmp 87))⟩, ⟨(some 88), none, .p (.ext (.tmp 80) 0)⟩, ⟨(some 89), none, .p (.ext (.tmp 80) 1)⟩, ⟨(some 15), none, .p (.mov (.tmp 88))⟩, ⟨(some 16), none, .p (.mov (.tmp 89))⟩])
  (.seq (.reg [⟨(some 90), none, .p (.ld (some 3) (.tmp 13))⟩, ⟨(some 91), none, .p (.mov (.tmp 15))⟩, ⟨(some 92), none, .p (.mov (.tmp 16))⟩, ⟨(some 93), none, .p (.bld [(.bool false), (.int .u64 0), (.int .u64 0)] [(0, 1, (.const (.bool false))), (1, 1, (.tmp 91)), (2, 1, (.tmp 92))])⟩, ⟨(some 94), none, .e (.call 70 [(.tmp 90), (.tmp 93)])⟩, ⟨(some 95), none, .p (.ext (.tmp 94) 0)⟩, ⟨(some 96), none, .p (.ext (.tmp 94) 1)⟩, ⟨none, none, .e (.st 2 (.tmp 4) (.tmp 95))⟩, ⟨(some 5), none, .p (.mov (.tmp 96))⟩])
  .ret))))))))))))
def rf55 : List RX := [.cell 4 (some 2), .tmp 5]
set_option maxRecDepth 100000 in
theorem comp55 : cFn Tryz.prog Tryz.f55 = some (erase cf55, rf55) := by kernel_rfl
def cf68 : LC :=
  (.seq (.reg [⟨(some 2), none, .e (.box (.tmp 0))⟩, ⟨(some 3), none, .e (.box (.tmp 1))⟩, ⟨(some 4), none, .e (.alc [(.bool false), (.int .u64 0), (.int .u64 0)])⟩])
  (.seq (.seq (.reg [⟨(some 13), none, .p (.fad 0 (.tmp 2))⟩, ⟨(some 14), none, .p (.ld none (.tmp 13))⟩, ⟨(some 15), none, .p (.fad 0 (.tmp 3))⟩, ⟨(some 16), none, .p (.ld none (.tmp 15))⟩, ⟨(some 17), none, .p (.binb false (.tmp 14) (.tmp 16))⟩])
  (.cond (.tmp 17) (.seq (.reg [⟨(some 19), none, .p (.fad 2 (.tmp 2))⟩, ⟨(some 20), none, .p (.ld none (.tmp 19))⟩, ⟨(some 21), none, .p (.fad 2 (.tmp 3))⟩, ⟨(some 22), none, .p (.ld none (.tmp 21))⟩, ⟨(some 23), none, .e (.ext 83 [(.tmp 20), (.tmp 22), (.const (.int .u64 0))])⟩, ⟨(some 18), none, .p (.mov (.tmp 23))⟩, ⟨(some 24), none, .p (.ext (.tmp 18) 0)⟩, ⟨(some 25), none, .p (.ext (.tmp 18) 1)⟩, ⟨(some 5), none, .p (.mov (.tmp 24))⟩, ⟨(some 6), none, .p (.mov (.tmp 25))⟩])
  (.seq (.reg [⟨(some 27), none, .p (.fad 1 (.tmp 2))⟩, ⟨(some 28), none, .p (.ld none (.tmp 27))⟩, ⟨(some 29), none, .p (.fad 1 (.tmp 3))⟩, ⟨(some 30), none, .p (.ld none (.tmp 29))⟩, ⟨(some 31), none, .p (.mov (.tmp 6))⟩, ⟨(some 32), none, .e (.ext 83 [(.tmp 28), (.tmp 30), (.tmp 31)])⟩, ⟨(some 26), none, .p (.mov (.tmp 32))⟩, ⟨(some 33), none, .p (.ext (.tmp 26) 0)⟩, ⟨(some 34), none, .p (.ext (.tmp 26) 1)⟩, ⟨(some 7), none, .p (.mov (.tmp 33))⟩, ⟨(some 8), none, .p (.mov (.tmp 34))⟩])
  (.seq (.reg [⟨(some 35), none, .p (.fad 0 (.tmp 2))⟩, ⟨(some 36), none, .p (.ld none (.tmp 35))⟩, ⟨(some 37), none, .p (.mov (.tmp 7))⟩, ⟨(some 38), none, .p (.mov (.tmp 5))⟩, ⟨(some 39), none, .p (.bld [(.bool false), (.int .u64 0), (.int .u64 0)] [(0, 1, (.tmp 36)), (1, 1, (.tmp 37)), (2, 1, (.tmp 38))])⟩, ⟨none, none, .e (.st 3 (.tmp 4) (.tmp 39))⟩])
  .ret))) .skip))
  (.seq (.seq (.reg [⟨(some 40), none, .p (.ld (some 3) (.tmp 2))⟩, ⟨(some 41), none, .p (.ld (some 3) (.tmp 3))⟩, ⟨(some 42), none, .e (.call 41 [(.tmp 40), (.tmp 41)])⟩, ⟨(some 43), none, .p (.bin .lss (.tmp 42) (.const (.int .i64 0)))⟩])
  (.cond (.tmp 43) (.reg [⟨(some 44), none, .p (.ld (some 3) (.tmp 3))⟩, ⟨(some 45), none, .p (.ld (some 3) (.tmp 2))⟩, ⟨none, none, .e (.st 3 (.tmp 2) (.tmp 44))⟩, ⟨none, none, .e (.st 3 (.tmp 3) (.tmp 45))⟩]) .skip))
  (.seq (.reg [⟨(some 47), none, .p (.fad 2 (.tmp 2))⟩, ⟨(some 48), none, .p (.ld none (.tmp 47))⟩, ⟨(some 49), none, .p (.fad 2 (.tmp 3))⟩, ⟨(some 50), none, .p (.ld none (.tmp 49))⟩, ⟨(some 51), none, .e (.ext 84 [(.tmp 48), (.tmp 50), (.const (.int .u64 0))])⟩, ⟨(some 46), none, .p (.mov (.tmp 51))⟩, ⟨(some 52), none, .p (.ext (.tmp 46) 0)⟩, ⟨(some 53), none, .p (.ext (.tmp 46) 1)⟩, ⟨(some 9), none, .p (.mov (.tmp 52))⟩, ⟨(some 10), none, .p (.mov (.tmp 53))⟩])
  (.seq (.reg [⟨(some 55), none, .p (.fad 1 (.tmp 2))⟩, ⟨(some 56), none, .p (.ld none (.tmp 55))⟩, ⟨(some 57), none, .p (.fad 1 (.tmp 3))⟩, ⟨(some 58), none, .p (.ld none (.tmp 57))⟩, ⟨(some 59), none, .p (.mov (.tmp 10))⟩, ⟨(some 60), none, .e (.ext 84 [(.tmp 56), (.tmp 58), (.tmp 59)])⟩, ⟨(some 54), none, .p (.mov (.tmp 60))⟩, ⟨(some 61), none, .p (.ext (.tmp 54) 0)⟩, ⟨(some 62), none, .p (.ext (.tmp 54) 1)⟩, ⟨(some 11), none, .p (.mov (.tmp 61))⟩, ⟨(some 12), none, .p (.mov (.tmp 62))⟩])
  (.seq (.reg [⟨(some 63), none, .p (.fad 0 (.tmp 2))⟩, ⟨(some 64), none, .p (.ld none (.tmp 63))⟩, ⟨(some 65), none, .p (.mov (.tmp 11))⟩, ⟨(some 66), none, .p (.mov (.tmp 9))⟩, ⟨(some 67), none, .p (.bld [(.bool false), (.int .u64 0), (.int .u64 0)] [(0, 1, (.tmp 64)), (1, 1, (.tmp 65)), (2, 1, (.tmp 66))])⟩, ⟨none, none, .e (.st 3 (.tmp 4) (.tmp 67))⟩])
  .ret))))))
def rf68 : List RX := [.cell 4 (some 3)]
set_option maxRecDepth 100000 in
theorem comp68 : cFn Tryz.prog Tryz.f68 = some (erase cf68, rf68) := by kernel_rfl
def cf69 : LC :=
  (.seq (.reg [⟨(some 2), none, .e (.box (.tmp 0))⟩, ⟨(some 4), none, .e (.alc [(.bool false), (.int .u64 0), (.int .u64 0)])⟩, ⟨(some 5), none, .p (.mov (.const (.int .u64 0)))⟩])
  (.seq (.dreg [⟨(some 9), none, .p (.fad 1 (.tmp 2))⟩, ⟨(some 10), none, .p (.ld none (.tmp 9))⟩, ⟨(some 11), none, .p (.mov (.tmp 1))⟩, ⟨(some 12), none, .p (.bin .rem (.tmp 10) (.tmp 11))⟩, ⟨(some 13), none, .p (.fad 2 (.tmp 2))⟩, ⟨(some 14), none, .p (.ld none (.tmp 13))⟩, ⟨(some 15), none, .p (.mov (.tmp 1))⟩, ⟨(some 16), none, .e (.call 85 [(.tmp 12), (.tmp 14), (.tmp 15)])⟩, ⟨(some 8), none, .p (.mov (.tmp 16))⟩, ⟨(some 17), none, .p (.ext (.tmp 8) 0)⟩, ⟨(some 18), none, .p (.ext (.tmp 8) 1)⟩, ⟨(some 6), none, .p (.mov (.tmp 17))⟩] [[⟨(some 7), none, .p (.mov (.tmp 18))⟩]])
  (.seq (.dreg [⟨(some 19), none, .p (.fad 0 (.tmp 2))⟩, ⟨(some 20), none, .p (.ld none (.tmp 19))⟩, ⟨(some 21), none, .p (.fad 1 (.tmp 2))⟩, ⟨(some 22), none, .p (.ld none (.tmp 21))⟩, ⟨(some 23), none, .p (.mov (.tmp 1))⟩, ⟨(some 24), none, .p (.bin .quo (.tmp 22) (.tmp 23))⟩, ⟨(some 25), none, .p (.mov (.tmp 6))⟩, ⟨(some 26), none, .p (.bld [(.bool false), (.int .u64 0), (.int .u64 0)] [(0, 1, (.tmp 20)), (1, 1, (.tmp 24)), (2, 1, (.tmp 25))])⟩, ⟨(some 27), none, .p (.mov (.tmp 7))⟩] [[⟨none, none, .e (.st 3 (.tmp 4) (.tmp 26))⟩, ⟨(some 5), none, .p (.mov (.tmp 27))⟩]])
  .ret)))
def rf69 : List RX := [.cell 4 (some 3), .tmp 5]
set_option maxRecDepth 100000 in
theorem comp69 : cFn Tryz.prog Tryz.f69 = some (erase cf69, rf69) := by kernel_rfl
def cf70 : LC :=
  (.seq (.reg [⟨(some 2), none, .e (.box (.tmp 0))⟩, ⟨(some 3), none, .e (.box (.tmp 1))⟩, ⟨(some 4), none, .e (.alc [(.int .i64 0), (.int .i64 0)])⟩, ⟨(some 5), none, .p (.mov (.const (.int .i64 0)))⟩])
  (.seq (.seq (.reg [⟨(some 6), none, .p (.fad 1 (.tmp 2))⟩, ⟨(some 7), none, .p (.ld none (.tmp 6))⟩, ⟨(some 8), none, .p (.bin .eql (.tmp 7) (.const (.int .u64 0)))⟩, ⟨(some 9), none, .p (.mov (.tmp 8))⟩, ⟨(some 10), (some (9, true)), .p (.fad 2 (.tmp 2))⟩, ⟨(some 11), (some (9, true)), .p (.ld none (.tmp 10))⟩, ⟨(some 12), (some (9, true)), .p (.bin .eql (.tmp 11) (.const (.int .u64 0)))⟩, ⟨(some 13), none, .p (.pick (.tmp 9) (.tmp 12) (.const (.bool false)))⟩])
  (.cond (.tmp 13) (.seq (.reg [⟨(some 14), none, .p (.bld [(.int .i64 0), (.int .i64 0)] [(0, 1, (.const (.int .i64 0))), (1, 1, (.const (.int .i64 1)))])⟩, ⟨none, none, .e (.st 2 (.tmp 4) (.tmp 14))⟩, ⟨(some 5), none, .p (.mov (.const (.int .i64 0)))⟩])
  .ret) .skip))
  (.seq (.seq (.reg [⟨(some 15), none, .p (.ld (some 3) (.tmp 2))⟩, ⟨(some 16), none, .e (.call 86 [(.tmp 15)])⟩, ⟨(some 17), none, .p (.un .not (.tmp 16))⟩, ⟨(some 18), none, .p (.mov (.tmp 17))⟩, ⟨(some 19), (some (18, false)), .p (.ld (some 3) (.tmp 3))⟩, ⟨(some 20), (some (18, false)), .e (.call 86 [(.tmp 19)])⟩, ⟨(some 21), (some (18, false)), .p (.un .not (.tmp 20))⟩, ⟨(some 22), none, .p (.pick (.tmp 18) (.const (.bool true)) (.tmp 21))⟩])
  (.cond (.tmp 22) (.seq (.reg [⟨(some 23), none, .p (.bld [(.int .i64 0), (.int .i64 0)] [])⟩, ⟨none, none, .e (.st 2 (.tmp 4) (.tmp 23))⟩, ⟨(some 5), none, .p (.mov (.const (.int .i64 10)))⟩])
  .ret) .skip))
  (.seq (.dreg [⟨(some 24), none, .p (.ld (some 3) (.tmp 2))⟩, ⟨(some 25), none, .e (.call 87 [(.tmp 24)])⟩, ⟨(some 26), none, .p (.ld (some 3) (.tmp 3))⟩, ⟨(some 27), none, .e (.call 87 [(.tmp 26)])⟩, ⟨(some 28), none, .p (.bld [(.int .i64 0), (.int .i64 0)] [(0, 1, (.tmp 25)), (1, 1, (.tmp 27))])⟩] [[⟨none, none, .e (.st 2 (.tmp 4) (.tmp 28))⟩, ⟨(some 5), none, .p (.mov (.const (.int .i64 0)))⟩]])
  .ret))))
def rf70 : List RX := [.cell 4 (some 2), .tmp 5]
set_option maxRecDepth 100000 in
theorem comp70 : cFn Tryz.prog Tryz.f70 = some (erase cf70, rf70) := by kernel_rfl
def cf86 : LC :=
  (.seq (.reg [⟨(some 1), none, .e (.box (.tmp 0))⟩, ⟨(some 2), none, .p (.mov (.const (.bool false)))⟩])
  (.seq (.reg [⟨(some 3), none, .p (.fad 1 (.tmp 1))⟩, ⟨(some 4), none, .p (.ld none (.tmp 3))⟩, ⟨(some 5), none, .p (.bin .eql (.tmp 4) (.const (.int .u64 0)))⟩, ⟨(some 6), none, .p (.mov (.tmp 5))⟩, ⟨(some 7), (some (6, true)), .p (.fad 2 (.tmp 1))⟩, ⟨(some 8), (some (6, true)), .p (.ld none (.tmp 7))⟩, ⟨(some 9), (some (6, true)), .p (.bin .leq (.tmp 8) (.const (.int .u64 1152921504606846976)))⟩, ⟨(some 10), none, .p (.pick (.tmp 6) (.tmp 9) (.const (.bool false)))⟩, ⟨(some 2), none, .p (.mov (.tmp 10))⟩])
  .ret))
def rf86 : List RX := [.tmp 2]
set_option maxRecDepth 100000 in
theorem comp86 : cFn Tryz.prog Tryz.f86 = some (erase cf86, rf86) := by kernel_rfl
def cf87 : LC :=
  (.seq (.reg [⟨(some 1), none, .e (.box (.tmp 0))⟩, ⟨(some 2), none, .p (.mov (.const (.int .i64 0)))⟩])
  (.seq (.seq (.reg [⟨(some 3), none, .p (.fad 0 (.tmp 1))⟩, ⟨(some 4), none, .p (.ld none (.tmp 3))⟩])
  (.cond (.tmp 4) (.seq (.reg [⟨(some 5), none, .p (.fad 2 (.tmp 1))⟩, ⟨(some 6), none, .p (.ld none (.tmp 5))⟩, ⟨(some 7), none, .p (.cvt .i64 (.tmp 6))⟩, ⟨(some 8), none, .p (.un .neg (.tmp 7))⟩, ⟨(some 2), none, .p (.mov (.tmp 8))⟩])
  .ret) .skip))
  (.seq (.reg [⟨(some 9), none, .p (.fad 2 (.tmp 1))⟩, ⟨(some 10), none, .p (.ld none (.tmp 9))⟩, ⟨(some 11), none, .p (.cvt .i64 (.tmp 10))⟩, ⟨(some 2), none, .p (.mov (.tmp 11))⟩])
  .ret)))
def rf87 : List RX := [.tmp 2]
set_option maxRecDepth 100000 in
theorem comp87 : cFn Tryz.prog Tryz.f87 = some (erase cf87, rf87) := by kernel_rfl
end Go.Proofs.YtdfiicpikcdokaaGreatDoor
namespace Go.Proofs.YtdfiicpikcdokaaGreatDoor
end Go.Proofs.YtdfiicpikcdokaaGreatDoor
namespace Go.Proofs.YtdfiicpikcdokaaGreatDoor
end Go.Proofs.YtdfiicpikcdokaaGreatDoor
namespace Go.Proofs.YtdfiicpikcdokaaGreatDoor
end Go.Proofs.YtdfiicpikcdokaaGreatDoor
namespace Go.Proofs.YtdfiicpikcdokaaGreatDoor
def cf45 : LC :=
  (.seq (.reg [⟨(some 4), none, .p (.mov (.const (.string ⟨#[]⟩)))⟩, ⟨(some 5), none, .p (.mov (.const (.bool false)))⟩])
  (.seq (.seq (.reg [⟨(some 6), none, .p (.mov (.tmp 0))⟩, ⟨(some 7), none, .p (.mov (.tmp 1))⟩, ⟨(some 8), none, .e (.call 60 [(.tmp 6), (.tmp 7)])⟩, ⟨(some 9), none, .p (.un .not (.tmp 8))⟩])
  (.cond (.tmp 9) (.seq (.reg [⟨(some 10), none, .p (.mov (.tmp 0))⟩, ⟨(some 4), none, .p (.mov (.tmp 10))⟩, ⟨(some 5), none, .p (.mov (.const (.bool false)))⟩])
  .ret) .skip))
  (.seq (.reg [⟨(some 11), none, .p (.mov (.tmp 0))⟩, ⟨(some 12), none, .p (.mov (.tmp 0))⟩, ⟨(some 13), none, .p (.len 0 (.tmp 12))⟩, ⟨(some 14), none, .p (.mov (.tmp 1))⟩, ⟨(some 15), none, .p (.len 0 (.tmp 14))⟩, ⟨(some 16), none, .p (.bin .sub (.tmp 13) (.tmp 15))⟩, ⟨(some 17), none, .p (.slcs (.tmp 11) none (some (.tmp 16)))⟩, ⟨(some 4), none, .p (.mov (.tmp 17))⟩, ⟨(some 5), none, .p (.mov (.const (.bool true)))⟩])
  .ret)))
def rf45 : List RX := [.tmp 4, .tmp 5]
set_option maxRecDepth 100000 in
theorem comp45 : cFn Tryz.prog Tryz.f45 = some (erase cf45, rf45) := by kernel_rfl
def cf60 : LC :=
  (.seq (.reg [⟨(some 4), none, .p (.mov (.const (.bool false)))⟩])
  (.seq (.reg [⟨(some 5), none, .p (.mov (.tmp 0))⟩, ⟨(some 6), none, .p (.len 0 (.tmp 5))⟩, ⟨(some 7), none, .p (.mov (.tmp 1))⟩, ⟨(some 8), none, .p (.len 0 (.tmp 7))⟩, ⟨(some 9), none, .p (.bin .geq (.tmp 6) (.tmp 8))⟩, ⟨(some 10), none, .p (.mov (.tmp 9))⟩, ⟨(some 11), (some (10, true)), .p (.mov (.tmp 0))⟩, ⟨(some 12), (some (10, true)), .p (.mov (.tmp 0))⟩, ⟨(some 13), (some (10, true)), .p (.len 0 (.tmp 12))⟩, ⟨(some 14), (some (10, true)), .p (.mov (.tmp 1))⟩, ⟨(some 15), (some (10, true)), .p (.len 0 (.tmp 14))⟩, ⟨(some 16), (some (10, true)), .p (.bin .sub (.tmp 13) (.tmp 15))⟩, ⟨(some 17), (some (10, true)), .p (.slcs (.tmp 11) (some (.tmp 16)) none)⟩, ⟨(some 18), (some (10, true)), .p (.mov (.tmp 1))⟩, ⟨(some 19), (some (10, true)), .p (.bin .eql (.tmp 17) (.tmp 18))⟩, ⟨(some 20), none, .p (.pick (.tmp 10) (.tmp 19) (.const (.bool false)))⟩, ⟨(some 4), none, .p (.mov (.tmp 20))⟩])
  .ret))
def rf60 : List RX := [.tmp 4]
set_option maxRecDepth 100000 in
theorem comp60 : cFn Tryz.prog Tryz.f60 = some (erase cf60, rf60) := by kernel_rfl
end Go.Proofs.YtdfiicpikcdokaaGreatDoor
namespace Go.Proofs.YtdfiicpikcdokaaGreatDoor
def cf58 : LC :=
  (.seq (.reg [⟨(some 4), none, .p (.mov (.const (.int .u64 0)))⟩, ⟨(some 5), none, .p (.mov (.const (.int .u64 0)))⟩])
  (.seq (.reg [⟨(some 14), none, .p (.mov (.tmp 0))⟩, ⟨(some 15), none, .p (.bin .and (.tmp 14) (.const (.int .u64 4294967295)))⟩, ⟨(some 6), none, .p (.mov (.tmp 15))⟩])
  (.seq (.reg [⟨(some 16), none, .p (.mov (.tmp 0))⟩, ⟨(some 17), none, .p (.bin .shr (.tmp 16) (.const (.int .u64 32)))⟩, ⟨(some 7), none, .p (.mov (.tmp 17))⟩])
  (.seq (.reg [⟨(some 18), none, .p (.mov (.tmp 1))⟩, ⟨(some 19), none, .p (.bin .and (.tmp 18) (.const (.int .u64 4294967295)))⟩, ⟨(some 8), none, .p (.mov (.tmp 19))⟩])
  (.seq (.reg [⟨(some 20), none, .p (.mov (.tmp 1))⟩, ⟨(some 21), none, .p (.bin .shr (.tmp 20) (.const (.int .u64 32)))⟩, ⟨(some 9), none, .p (.mov (.tmp 21))⟩])
  (.seq (.reg [⟨(some 22), none, .p (.mov (.tmp 6))⟩, ⟨(some 23), none, .p (.mov (.tmp 8))⟩, ⟨(some 24), none, .p (.bin .mul (.tmp 22) (.tmp 23))⟩, ⟨(some 10), none, .p (.mov (.tmp 24))⟩])
  (.seq (.reg [⟨(some 25), none, .p (.mov (.tmp 7))⟩, ⟨(some 26), none, .p (.mov (.tmp 8))⟩, ⟨(some 27), none, .p (.bin .mul (.tmp 25) (.tmp 26))⟩, ⟨(some 28), none, .p (.mov (.tmp 10))⟩, ⟨(some 29), none, .p (.bin .shr (.tmp 28) (.const (.int .u64 32)))⟩, ⟨(some 30), none, .p (.bin .add (.tmp 27) (.tmp 29))⟩, ⟨(some 11), none, .p (.mov (.tmp 30))⟩])
  (.seq (.reg [⟨(some 31), none, .p (.mov (.tmp 11))⟩, ⟨(some 32), none, .p (.bin .and (.tmp 31) (.const (.int .u64 4294967295)))⟩, ⟨(some 12), none, .p (.mov (.tmp 32))⟩])
  (.seq (.reg [⟨(some 33), none, .p (.mov (.tmp 11))⟩, ⟨(some 34), none, .p (.bin .shr (.tmp 33) (.const (.int .u64 32)))⟩, ⟨(some 13), none, .p (.mov (.tmp 34))⟩])
  (.seq (.reg [⟨(some 35), none, .p (.mov (.tmp 12))⟩, ⟨(some 36), none, .p (.mov (.tmp 6))⟩, ⟨(some 37), none, .p (.mov (.tmp 9))⟩, ⟨(some 38), none, .p (.bin .mul (.tmp 36) (.tmp 37))⟩, ⟨(some 39), none, .p (.bin .add (.tmp 35) (.tmp 38))⟩, ⟨(some 12), none, .p (.mov (.tmp 39))⟩])
  (.seq (.reg [⟨(some 40), none, .p (.mov (.tmp 7))⟩, ⟨(some 41), none, .p (.mov (.tmp 9))⟩, ⟨(some 42), none, .p (.bin .mul (.tmp 40) (.tmp 41))⟩, ⟨(some 43), none, .p (.mov (.tmp 13))⟩, ⟨(some 44), none, .p (.bin .add (.tmp 42) (.tmp 43))⟩, ⟨(some 45), none, .p (.mov (.tmp 12))⟩, ⟨(some 46), none, .p (.bin .shr (.tmp 45) (.const (.int .u64 32)))⟩, ⟨(some 47), none, .p (.bin .add (.tmp 44) (.tmp 46))⟩, ⟨(some 4), none, .p (.mov (.tmp 47))⟩])
  (.seq (.reg [⟨(some 48), none, .p (.mov (.tmp 0))⟩, ⟨(some 49), none, .p (.mov (.tmp 1))⟩, ⟨(some 50), none, .p (.bin .mul (.tmp 48) (.tmp 49))⟩, ⟨(some 5), none, .p (.mov (.tmp 50))⟩])
  .ret))))))))))))
def rf58 : List RX := [.tmp 4, .tmp 5]
set_option maxRecDepth 100000 in
theorem comp58 : cFn Tryz.prog Tryz.f58 = some (erase cf58, rf58) := by kernel_rfl
def lb85_0 : LC :=
  (.seq (.seq (.reg [⟨(some 102), none, .p (.mov (.tmp 18))⟩, ⟨(some 103), none, .p (.bin .geq (.tmp 102) (.const (.int .u64 4294967296)))⟩, ⟨(some 104), none, .p (.mov (.tmp 103))⟩, ⟨(some 105), (some (104, false)), .p (.mov (.tmp 18))⟩, ⟨(some 106), (some (104, false)), .p (.mov (.tmp 10))⟩, ⟨(some 107), (some (104, false)), .p (.bin .mul (.tmp 105) (.tmp 106))⟩, ⟨(some 108), (some (104, false)), .p (.mov (.tmp 16))⟩, ⟨(some 109), (some (104, false)), .p (.bin .mul (.const (.int .u64 4294967296)) (.tmp 108))⟩, ⟨(some 110), (some (104, false)), .p (.mov (.tmp 14))⟩, ⟨(some 111), (some (104, false)), .p (.bin .add (.tmp 109) (.tmp 110))⟩, ⟨(some 112), (some (104, false)), .p (.bin .gtr (.tmp 107) (.tmp 111))⟩, ⟨(some 113), none, .p (.pick (.tmp 104) (.const (.bool true)) (.tmp 112))⟩])
  (.cond (.tmp 113) .skip (.exit 2)))
  (.block 3
  (.seq (.reg [⟨(some 114), none, .p (.mov (.tmp 18))⟩, ⟨(some 115), none, .p (.bin .sub (.tmp 114) (.const (.int .u64 1)))⟩, ⟨(some 18), none, .p (.mov (.tmp 115))⟩])
  (.seq (.reg [⟨(some 116), none, .p (.mov (.tmp 16))⟩, ⟨(some 117), none, .p (.mov (.tmp 9))⟩, ⟨(some 118), none, .p (.bin .add (.tmp 116) (.tmp 117))⟩, ⟨(some 16), none, .p (.mov (.tmp 118))⟩])
  (.seq (.reg [⟨(some 119), none, .p (.mov (.tmp 16))⟩, ⟨(some 120), none, .p (.bin .geq (.tmp 119) (.const (.int .u64 4294967296)))⟩])
  (.cond (.tmp 120) (.exit 2) .skip))))))
def lb85_1 : LC :=
  (.seq (.seq (.reg [⟨(some 67), none, .p (.mov (.tmp 15))⟩, ⟨(some 68), none, .p (.bin .geq (.tmp 67) (.const (.int .u64 4294967296)))⟩, ⟨(some 69), none, .p (.mov (.tmp 68))⟩, ⟨(some 70), (some (69, false)), .p (.mov (.tmp 15))⟩, ⟨(some 71), (some (69, false)), .p (.mov (.tmp 10))⟩, ⟨(some 72), (some (69, false)), .p (.bin .mul (.tmp 70) (.tmp 71))⟩, ⟨(some 73), (some (69, false)), .p (.mov (.tmp 16))⟩, ⟨(some 74), (some (69, false)), .p (.bin .mul (.const (.int .u64 4294967296)) (.tmp 73))⟩, ⟨(some 75), (some (69, false)), .p (.mov (.tmp 13))⟩, ⟨(some 76), (some (69, false)), .p (.bin .add (.tmp 74) (.tmp 75))⟩, ⟨(some 77), (some (69, false)), .p (.bin .gtr (.tmp 72) (.tmp 76))⟩, ⟨(some 78), none, .p (.pick (.tmp 69) (.const (.bool true)) (.tmp 77))⟩])
  (.cond (.tmp 78) .skip (.exit 0)))
  (.block 1
  (.seq (.reg [⟨(some 79), none, .p (.mov (.tmp 15))⟩, ⟨(some 80), none, .p (.bin .sub (.tmp 79) (.const (.int .u64 1)))⟩, ⟨(some 15), none, .p (.mov (.tmp 80))⟩])
  (.seq (.reg [⟨(some 81), none, .p (.mov (.tmp 16))⟩, ⟨(some 82), none, .p (.mov (.tmp 9))⟩, ⟨(some 83), none, .p (.bin .add (.tmp 81) (.tmp 82))⟩, ⟨(some 16), none, .p (.mov (.tmp 83))⟩])
  (.seq (.reg [⟨(some 84), none, .p (.mov (.tmp 16))⟩, ⟨(some 85), none, .p (.bin .geq (.tmp 84) (.const (.int .u64 4294967296)))⟩])
  (.cond (.tmp 85) (.exit 0) .skip))))))
def cf85 : LC :=
  (.seq (.reg [⟨(some 6), none, .p (.mov (.const (.int .u64 0)))⟩, ⟨(some 7), none, .p (.mov (.const (.int .u64 0)))⟩])
  (.seq (.seq (.reg [⟨(some 19), none, .p (.mov (.tmp 2))⟩, ⟨(some 20), none, .p (.bin .eql (.tmp 19) (.const (.int .u64 0)))⟩])
  (.cond (.tmp 20) (.reg [⟨(some 21), none, .p (.ld none (.global 2))⟩, ⟨none, none, .e (.bad)⟩]) .skip))
  (.seq (.seq (.reg [⟨(some 22), none, .p (.mov (.tmp 2))⟩, ⟨(some 23), none, .p (.mov (.tmp 0))⟩, ⟨(some 24), none, .p (.bin .leq (.tmp 22) (.tmp 23))⟩])
  (.cond (.tmp 24) (.reg [⟨(some 25), none, .p (.ld none (.global 3))⟩, ⟨none, none, .e (.bad)⟩]) .skip))
  (.seq (.seq (.reg [⟨(some 26), none, .p (.mov (.tmp 0))⟩, ⟨(some 27), none, .p (.bin .eql (.tmp 26) (.const (.int .u64 0)))⟩])
  (.cond (.tmp 27) (.seq (.dreg [⟨(some 28), none, .p (.mov (.tmp 1))⟩, ⟨(some 29), none, .p (.mov (.tmp 2))⟩, ⟨(some 30), none, .p (.bin .quo (.tmp 28) (.tmp 29))⟩, ⟨(some 31), none, .p (.mov (.tmp 1))⟩, ⟨(some 32), none, .p (.mov (.tmp 2))⟩, ⟨(some 33), none, .p (.bin .rem (.tmp 31) (.tmp 32))⟩, ⟨(some 6), none, .p (.mov (.tmp 30))⟩] [[⟨(some 7), none, .p (.mov (.tmp 33))⟩]])
  .ret) .skip))
  (.seq (.reg [⟨(some 34), none, .p (.mov (.tmp 2))⟩, ⟨(some 35), none, .e (.call 102 [(.tmp 34)])⟩, ⟨(some 36), none, .p (.cvt .u64 (.tmp 35))⟩, ⟨(some 8), none, .p (.mov (.tmp 36))⟩])
  (.seq (.reg [⟨(some 37), none, .p (.mov (.tmp 2))⟩, ⟨(some 38), none, .p (.mov (.tmp 8))⟩, ⟨(some 39), none, .p (.bin .shl (.tmp 37) (.tmp 38))⟩, ⟨(some 2), none, .p (.mov (.tmp 39))⟩])
  (.seq (.reg [⟨(some 40), none, .p (.mov (.tmp 2))⟩, ⟨(some 41), none, .p (.bin .shr (.tmp 40) (.const (.int .u64 32)))⟩, ⟨(some 9), none, .p (.mov (.tmp 41))⟩])
  (.seq (.reg [⟨(some 42), none, .p (.mov (.tmp 2))⟩, ⟨(some 43), none, .p (.bin .and (.tmp 42) (.const (.int .u64 4294967295)))⟩, ⟨(some 10), none, .p (.mov (.tmp 43))⟩])
  (.seq (.reg [⟨(some 44), none, .p (.mov (.tmp 0))⟩, ⟨(some 45), none, .p (.mov (.tmp 8))⟩, ⟨(some 46), none, .p (.bin .shl (.tmp 44) (.tmp 45))⟩, ⟨(some 47), none, .p (.mov (.tmp 1))⟩, ⟨(some 48), none, .p (.mov (.tmp 8))⟩, ⟨(some 49), none, .p (.bin .sub (.const (.int .u64 64)) (.tmp 48))⟩, ⟨(some 50), none, .p (.bin .shr (.tmp 47) (.tmp 49))⟩, ⟨(some 51), none, .p (.bin .or (.tmp 46) (.tmp 50))⟩, ⟨(some 11), none, .p (.mov (.tmp 51))⟩])
  (.seq (.reg [⟨(some 52), none, .p (.mov (.tmp 1))⟩, ⟨(some 53), none, .p (.mov (.tmp 8))⟩, ⟨(some 54), none, .p (.bin .shl (.tmp 52) (.tmp 53))⟩, ⟨(some 12), none, .p (.mov (.tmp 54))⟩])
  (.seq (.reg [⟨(some 55), none, .p (.mov (.tmp 12))⟩, ⟨(some 56), none, .p (.bin .shr (.tmp 55) (.const (.int .u64 32)))⟩, ⟨(some 13), none, .p (.mov (.tmp 56))⟩])
  (.seq (.reg [⟨(some 57), none, .p (.mov (.tmp 12))⟩, ⟨(some 58), none, .p (.bin .and (.tmp 57) (.const (.int .u64 4294967295)))⟩, ⟨(some 14), none, .p (.mov (.tmp 58))⟩])
  (.seq (.reg [⟨(some 59), none, .p (.mov (.tmp 11))⟩, ⟨(some 60), none, .p (.mov (.tmp 9))⟩, ⟨(some 61), none, .p (.bin .quo (.tmp 59) (.tmp 60))⟩, ⟨(some 15), none, .p (.mov (.tmp 61))⟩])
  (.seq (.reg [⟨(some 62), none, .p (.mov (.tmp 11))⟩, ⟨(some 63), none, .p (.mov (.tmp 15))⟩, ⟨(some 64), none, .p (.mov (.tmp 9))⟩, ⟨(some 65), none, .p (.bin .mul (.tmp 63) (.tmp 64))⟩, ⟨(some 66), none, .p (.bin .sub (.tmp 62) (.tmp 65))⟩, ⟨(some 16), none, .p (.mov (.tmp 66))⟩])
  (.seqj (.block 0
  (.loop lb85_1))
  (.seq (.reg [⟨(some 86), none, .p (.mov (.tmp 11))⟩, ⟨(some 87), none, .p (.bin .mul (.tmp 86) (.const (.int .u64 4294967296)))⟩, ⟨(some 88), none, .p (.mov (.tmp 13))⟩, ⟨(some 89), none, .p (.bin .add (.tmp 87) (.tmp 88))⟩, ⟨(some 90), none, .p (.mov (.tmp 15))⟩, ⟨(some 91), none, .p (.mov (.tmp 2))⟩, ⟨(some 92), none, .p (.bin .mul (.tmp 90) (.tmp 91))⟩, ⟨(some 93), none, .p (.bin .sub (.tmp 89) (.tmp 92))⟩, ⟨(some 17), none, .p (.mov (.tmp 93))⟩])
  (.seq (.reg [⟨(some 94), none, .p (.mov (.tmp 17))⟩, ⟨(some 95), none, .p (.mov (.tmp 9))⟩, ⟨(some 96), none, .p (.bin .quo (.tmp 94) (.tmp 95))⟩, ⟨(some 18), none, .p (.mov (.tmp 96))⟩])
  (.seq (.reg [⟨(some 97), none, .p (.mov (.tmp 17))⟩, ⟨(some 98), none, .p (.mov (.tmp 18))⟩, ⟨(some 99), none, .p (.mov (.tmp 9))⟩, ⟨(some 100), none, .p (.bin .mul (.tmp 98) (.tmp 99))⟩, ⟨(some 101), none, .p (.bin .sub (.tmp 97) (.tmp 100))⟩, ⟨(some 16), none, .p (.mov (.tmp 101))⟩])
  (.seq (.block 2
  (.loop lb85_0))
  (.seq (.reg [⟨(some 121), none, .p (.mov (.tmp 15))⟩, ⟨(some 122), none, .p (.bin .mul (.tmp 121) (.const (.int .u64 4294967296)))⟩, ⟨(some 123), none, .p (.mov (.tmp 18))⟩, ⟨(some 124), none, .p (.bin .add (.tmp 122) (.tmp 123))⟩, ⟨(some 125), none, .p (.mov (.tmp 17))⟩, ⟨(some 126), none, .p (.bin .mul (.tmp 125) (.const (.int .u64 4294967296)))⟩, ⟨(some 127), none, .p (.mov (.tmp 14))⟩, ⟨(some 128), none, .p (.bin .add (.tmp 126) (.tmp 127))⟩, ⟨(some 129), none, .p (.mov (.tmp 18))⟩, ⟨(some 130), none, .p (.mov (.tmp 2))⟩, ⟨(some 131), none, .p (.bin .mul (.tmp 129) (.tmp 130))⟩, ⟨(some 132), none, .p (.bin .sub (.tmp 128) (.tmp 131))⟩, ⟨(some 133), none, .p (.mov (.tmp 8))⟩, ⟨(some 134), none, .p (.bin .shr (.tmp 132) (.tmp 133))⟩, ⟨(some 6), none, .p (.mov (.tmp 124))⟩, ⟨(some 7), none, .p (.mov (.tmp 134))⟩])
  .ret))))))))))))))))))))
def rf85 : List RX := [.tmp 6, .tmp 7]
set_option maxRecDepth 100000 in
theorem comp85 : cFn Tryz.prog Tryz.f85 = some (erase cf85, rf85) := by kernel_rfl
def cf89 : LC :=
  (.seq (.reg [⟨(some 2), none, .p (.mov (.const (.int .i64 0)))⟩])
  (.seq (.seq (.reg [⟨(some 3), none, .p (.mov (.tmp 0))⟩, ⟨(some 4), none, .p (.bin .geq (.tmp 3) (.const (.int .u64 4294967296)))⟩])
  (.cond (.tmp 4) (.seq (.reg [⟨(some 5), none, .p (.mov (.tmp 0))⟩, ⟨(some 6), none, .p (.bin .shr (.tmp 5) (.const (.int .u64 32)))⟩, ⟨(some 0), none, .p (.mov (.tmp 6))⟩])
  (.reg [⟨(some 2), none, .p (.mov (.const (.int .i64 32)))⟩])) .skip))
  (.seq (.seq (.reg [⟨(some 7), none, .p (.mov (.tmp 0))⟩, ⟨(some 8), none, .p (.bin .geq (.tmp 7) (.const (.int .u64 65536)))⟩])
  (.cond (.tmp 8) (.seq (.reg [⟨(some 9), none, .p (.mov (.tmp 0))⟩, ⟨(some 10), none, .p (.bin .shr (.tmp 9) (.const (.int .u64 16)))⟩, ⟨(some 0), none, .p (.mov (.tmp 10))⟩])
  (.reg [⟨(some 11), none, .p (.mov (.tmp 2))⟩, ⟨(some 12), none, .p (.bin .add (.tmp 11) (.const (.int .i64 16)))⟩, ⟨(some 2), none, .p (.mov (.tmp 12))⟩])) .skip))
  (.seq (.seq (.reg [⟨(some 13), none, .p (.mov (.tmp 0))⟩, ⟨(some 14), none, .p (.bin .geq (.tmp 13) (.const (.int .u64 256)))⟩])
  (.cond (.tmp 14) (.seq (.reg [⟨(some 15), none, .p (.mov (.tmp 0))⟩, ⟨(some 16), none, .p (.bin .shr (.tmp 15) (.const (.int .u64 8)))⟩, ⟨(some 0), none, .p (.mov (.tmp 16))⟩])
  (.reg [⟨(some 17), none, .p (.mov (.tmp 2))⟩, ⟨(some 18), none, .p (.bin .add (.tmp 17) (.const (.int .i64 8)))⟩, ⟨(some 2), none, .p (.mov (.tmp 18))⟩])) .skip))
  (.seq (.reg [⟨(some 19), none, .p (.mov (.tmp 2))⟩, ⟨(some 20), none, .p (.mov (.tmp 0))⟩, ⟨(some 21), none, .p (.cvt .u8 (.tmp 20))⟩, ⟨(some 22), none, .p (.idxs (.const (.string ⟨#[0, 1, 2, 2, 3, 3, 3, 3, 4, 4, 4, 4, 4, 4, 4, 4, 5, 5, 5, 5, 5, 5, 5, 5, 5, 5, 5, 5, 5, 5, 5, 5, 6, 6, 6, 6, 6, 6, 6, 6, 6, 6, 6, 6, 6, 6, 6, 6, 6, 6, 6, 6, 6, 6, 6, 6, 6, 6, 6, 6, 6, 6, 6, 6, 7, 7, 7, 7, 7, 7, 7, 7, 7, 7, 7, 7, 7, 7, 7, 7, 7, 7, 7, 7, 7, 7, 7, 7, 7, 7, 7, 7, 7, 7, 7, 7, 7, 7, 7, 7, 7, 7, 7, 7, 7, 7, 7, 7, 7, 7, 7, 7, 7, 7, 7, 7, 7, 7, 7, 7, 7, 7, 7, 7, 7, 7, 7, 7, 8, 8, 8, 8, 8, 8, 8, 8, 8, 8, 8, 8, 8, 8, 8, 8, 8, 8, 8, 8, 8, 8, 8, 8, 8, 8, 8, 8, 8, 8, 8, 8, 8, 8, 8, 8, 8, 8, 8, 8, 8, 8, 8, 8, 8, 8, 8, 8, 8, 8, 8, 8, 8, 8, 8, 8, 8, 8, 8, 8, 8, 8, 8, 8, 8, 8, 8, 8, 8, 8, 8, 8, 8, 8, 8, 8, 8, 8, 8, 8, 8, 8, 8, 8, 8, 8, 8, 8, 8, 8, 8, 8, 8, 8, 8, 8, 8, 8, 8, 8, 8, 8, 8, 8, 8, 8, 8, 8, 8, 8, 8, 8, 8, 8, 8, 8, 8, 8, 8, 8, 8, 8, 8, 8, 8, 8, 8, 8]⟩)) (.tmp 21))⟩, ⟨(some 23), none, .p (.cvt .i64 (.tmp 22))⟩, ⟨(some 24), none, .p (.bin .add (.tmp 19) (.tmp 23))⟩, ⟨(some 2), none, .p (.mov (.tmp 24))⟩])
  .ret)))))
def rf89 : List RX := [.tmp 2]
set_option maxRecDepth 100000 in
theorem comp89 : cFn Tryz.prog Tryz.f89 = some (erase cf89, rf89) := by kernel_rfl
def cf102 : LC :=
  (.seq (.reg [⟨(some 2), none, .p (.mov (.const (.int .i64 0)))⟩])
  (.seq (.reg [⟨(some 3), none, .p (.mov (.tmp 0))⟩, ⟨(some 4), none, .e (.call 89 [(.tmp 3)])⟩, ⟨(some 5), none, .p (.bin .sub (.const (.int .i64 64)) (.tmp 4))⟩, ⟨(some 2), none, .p (.mov (.tmp 5))⟩])
  .ret))
def rf102 : List RX := [.tmp 2]
set_option maxRecDepth 100000 in
theorem comp102 : cFn Tryz.prog Tryz.f102 = some (erase cf102, rf102) := by kernel_rfl
end Go.Proofs.YtdfiicpikcdokaaGreatDoor
namespace Go.Proofs.YtdfiicpikcdokaaGreatDoor
def cf22 : LC :=
  (.seq (.reg [⟨(some 4), none, .p (.mov (.const (.bool false)))⟩])
  (.seq (.reg [⟨(some 5), none, .p (.mov (.tmp 0))⟩, ⟨(some 6), none, .p (.mov (.tmp 1))⟩, ⟨(some 7), none, .e (.call 42 [(.tmp 5), (.tmp 6)])⟩, ⟨(some 8), none, .p (.bin .geq (.tmp 7) (.const (.int .i64 0)))⟩, ⟨(some 4), none, .p (.mov (.tmp 8))⟩])
  .ret))
def rf22 : List RX := [.tmp 4]
set_option maxRecDepth 100000 in
theorem comp22 : cFn Tryz.prog Tryz.f22 = some (erase cf22, rf22) := by kernel_rfl
def lb42_0 : LC :=
  (.seq (.reg [⟨(some 9), none, .p (.bin .lss (.tmp 8) (.tmp 7))⟩])
  (.seq (.cond (.tmp 9) .skip (.exit 0))
  (.seq (.block 1
  (.seq (.reg [⟨(some 10), none, .p (.mov (.tmp 8))⟩, ⟨(some 5), none, .p (.mov (.tmp 10))⟩])
  (.seq (.reg [⟨(some 11), none, .p (.mov (.tmp 1))⟩, ⟨(some 12), none, .p (.mov (.tmp 0))⟩, ⟨(some 13), none, .p (.mov (.tmp 5))⟩, ⟨(some 14), none, .p (.iad 1 (.tmp 12) (.tmp 13))⟩, ⟨(some 15), none, .p (.ld none (.tmp 14))⟩, ⟨(some 16), none, .p (.bin .eql (.tmp 11) (.tmp 15))⟩])
  (.cond (.tmp 16) (.seq (.reg [⟨(some 17), none, .p (.mov (.tmp 5))⟩, ⟨(some 4), none, .p (.mov (.tmp 17))⟩])
  .ret) .skip))))
  (.reg [⟨(some 18), none, .p (.bin .add (.tmp 8) (.const (.int .i64 1)))⟩, ⟨(some 8), none, .p (.mov (.tmp 18))⟩]))))
def cf42 : LC :=
  (.seq (.reg [⟨(some 4), none, .p (.mov (.const (.int .i64 0)))⟩])
  (.seq (.seq (.reg [⟨(some 6), none, .p (.mov (.tmp 0))⟩, ⟨(some 7), none, .p (.len 1 (.tmp 6))⟩, ⟨(some 8), none, .p (.mov (.const (.int .i64 0)))⟩])
  (.block 0
  (.loop lb42_0)))
  (.seq (.reg [⟨(some 4), none, .p (.mov (.const (.int .i64 (-1))))⟩])
  .ret)))
def rf42 : List RX := [.tmp 4]
set_option maxRecDepth 100000 in
theorem comp42 : cFn Tryz.prog Tryz.f42 = some (erase cf42, rf42) := by kernel_rfl
end Go.Proofs.YtdfiicpikcdokaaGreatDoor
namespace Go.Proofs.YtdfiicpikcdokaaGreatDoor
def cf16 : LC :=
  (.seq (.reg [⟨(some 4), none, .p (.mov (.const (.int .i64 0)))⟩, ⟨(some 5), none, .p (.mov (.const .nilIface))⟩])
  (.seq (.reg [⟨(some 6), none, .p (.mov (.tmp 0))⟩, ⟨(some 7), none, .e (.call 35 [(.tmp 6)])⟩])
  (.seq (.reg [⟨(some 8), none, .p (.mov (.tmp 0))⟩, ⟨(some 9), none, .p (.mov (.tmp 0))⟩, ⟨(some 10), none, .p (.nilc (.tmp 9))⟩, ⟨(some 11), none, .p (.fad 1 (.tmp 10))⟩, ⟨(some 12), none, .p (.ld none (.tmp 11))⟩, ⟨(some 13), none, .p (.mov (.tmp 1))⟩, ⟨(some 14), none, .e (.aps 5 1 (.tmp 12) (.tmp 13))⟩, ⟨(some 15), none, .p (.nilc (.tmp 8))⟩, ⟨(some 16), none, .p (.fad 1 (.tmp 15))⟩, ⟨none, none, .e (.st 1 (.tmp 16) (.tmp 14))⟩])
  (.seq (.reg [⟨(some 17), none, .p (.mov (.tmp 1))⟩, ⟨(some 18), none, .p (.len 0 (.tmp 17))⟩, ⟨(some 4), none, .p (.mov (.tmp 18))⟩, ⟨(some 5), none, .p (.mov (.const .nilIface))⟩])
  .ret))))
def rf16 : List RX := [.tmp 4, .tmp 5]
set_option maxRecDepth 100000 in
theorem comp16 : cFn Tryz.prog Tryz.f16 = some (erase cf16, rf16) := by kernel_rfl
def cf23 : LC :=
  (.seq (.reg [⟨(some 1), none, .e (.box (.tmp 0))⟩, ⟨(some 2), none, .p (.mov (.const .nilFunc))⟩])
  (.seq (.reg [⟨(some 3), none, .p (.mkf 43 [(.tmp 1)])⟩, ⟨(some 2), none, .p (.mov (.tmp 3))⟩])
  .ret))
def rf23 : List RX := [.tmp 2]
set_option maxRecDepth 100000 in
theorem comp23 : cFn Tryz.prog Tryz.f23 = some (erase cf23, rf23) := by kernel_rfl
def cf24 : LC :=
  (.seq (.reg [⟨(some 4), none, .p (.mov (.const (.string ⟨#[]⟩)))⟩, ⟨(some 5), none, .p (.mov (.const (.bool false)))⟩])
  (.seq (.reg [⟨(some 6), none, .p (.mov (.tmp 0))⟩, ⟨(some 7), none, .p (.mov (.tmp 1))⟩, ⟨(some 8), none, .e (.call 45 [(.tmp 6), (.tmp 7)])⟩, ⟨(some 9), none, .p (.ext (.tmp 8) 0)⟩, ⟨(some 10), none, .p (.ext (.tmp 8) 1)⟩, ⟨(some 4), none, .p (.mov (.tmp 9))⟩, ⟨(some 5), none, .p (.mov (.tmp 10))⟩])
  .ret))
def rf24 : List RX := [.tmp 4, .tmp 5]
set_option maxRecDepth 100000 in
theorem comp24 : cFn Tryz.prog Tryz.f24 = some (erase cf24, rf24) := by kernel_rfl
end Go.Proofs.YtdfiicpikcdokaaGreatDoor
namespace Go.Proofs.YtdfiicpikcdokaaGreatDoor
end Go.Proofs.YtdfiicpikcdokaaGreatDoor

