/- The functions of a package in the lifted layer's own small language; The functions of a package in the lifted layer's own small language; The functions of a package in the lifted layer's own small language; The functions of a package in the lifted layer's own small language; The functions of a package in the lifted layer's own small language; The functions of a package in the lifted layer's own small language; The functions of a package in the lifted layer's own small language; The functions of a package in the lifted layer's own small language; The functions of a package in the lifted layer's own small language; All functions of the seat. Conditions: none. -/
import Derived.Test.YtggaonafmiklaaaMC
import Derived.KernelRfl
namespace Go.Proofs.Ytggaonafmiklaaa
def lb29_0 : LC :=
  (.seq (.reg [⟨(some 9), none, .p (.bin .lss (.tmp 8) (.tmp 7))⟩])
  (.seq (.cond (.tmp 9) .skip (.exit 0))
  (.seq (.block 1
  (.seq (.reg [⟨(some 10), none, .p (.iad 1 (.tmp 6) (.tmp 8))⟩, ⟨(some 11), none, .p (.ld none (.tmp 10))⟩, ⟨(some 5), none, .p (.mov (.tmp 11))⟩])
  (.seq (.reg [⟨(some 12), none, .p (.mov (.tmp 5))⟩, ⟨(some 13), none, .p (.mov (.tmp 3))⟩, ⟨(some 14), none, .p (.bin .neq (.tmp 12) (.tmp 13))⟩])
  (.cond (.tmp 14) (.seq (.reg [⟨(some 15), none, .p (.mov (.tmp 5))⟩, ⟨(some 2), none, .p (.mov (.tmp 15))⟩])
  .ret) .skip))))
  (.reg [⟨(some 16), none, .p (.bin .add (.tmp 8) (.const (.int .i64 1)))⟩, ⟨(some 8), none, .p (.mov (.tmp 16))⟩]))))
def cf29 : LC :=
  (.seq (.reg [⟨(some 2), none, .p (.mov (.const (.int .i64 0)))⟩])
  (.seq (.reg [⟨(some 3), none, .p (.mov (.const (.int .i64 0)))⟩])
  (.seq (.seq (.reg [⟨(some 6), none, .p (.mov (.tmp 0))⟩, ⟨(some 7), none, .p (.len 1 (.tmp 6))⟩, ⟨(some 8), none, .p (.mov (.const (.int .i64 0)))⟩])
  (.block 0
  (.loop lb29_0)))
  (.seq (.reg [⟨(some 17), none, .p (.mov (.tmp 3))⟩, ⟨(some 2), none, .p (.mov (.tmp 17))⟩])
  .ret))))
def rf29 : List RX := [.tmp 2]
set_option maxRecDepth 100000 in
theorem comp29 : cFn Try.prog Try.f29 = some (erase cf29, rf29) := by kernel_rfl
def cf30 : LC :=
  (.seq (.reg [⟨(some 4), none, .p (.mov (.const (.int .i64 0)))⟩])
  (.seq (.reg [⟨(some 7), none, .p (.mov (.tmp 0))⟩, ⟨(some 8), none, .e (.call 38 [(.tmp 7)])⟩, ⟨(some 5), none, .p (.mov (.tmp 8))⟩])
  (.seq (.reg [⟨(some 9), none, .p (.mov (.tmp 1))⟩, ⟨(some 10), none, .e (.call 38 [(.tmp 9)])⟩, ⟨(some 6), none, .p (.mov (.tmp 10))⟩])
  (.seq (.seq (.reg [⟨(some 11), none, .p (.mov (.tmp 5))⟩])
  (.cond (.tmp 11) (.seq (.seq (.reg [⟨(some 12), none, .p (.mov (.tmp 6))⟩])
  (.cond (.tmp 12) (.seq (.reg [⟨(some 4), none, .p (.mov (.const (.int .i64 0)))⟩])
  .ret) .skip))
  (.seq (.reg [⟨(some 4), none, .p (.mov (.const (.int .i64 (-1))))⟩])
  .ret)) .skip))
  (.seq (.seq (.reg [⟨(some 13), none, .p (.mov (.tmp 6))⟩])
  (.cond (.tmp 13) (.seq (.reg [⟨(some 4), none, .p (.mov (.const (.int .i64 1)))⟩])
  .ret) .skip))
  (.seq (.seq (.reg [⟨(some 14), none, .p (.mov (.tmp 0))⟩, ⟨(some 15), none, .p (.mov (.tmp 1))⟩, ⟨(some 16), none, .p (.bin .lss (.tmp 14) (.tmp 15))⟩])
  (.cond (.tmp 16) (.seq (.reg [⟨(some 4), none, .p (.mov (.const (.int .i64 (-1))))⟩])
  .ret) .skip))
  (.seq (.seq (.reg [⟨(some 17), none, .p (.mov (.tmp 0))⟩, ⟨(some 18), none, .p (.mov (.tmp 1))⟩, ⟨(some 19), none, .p (.bin .gtr (.tmp 17) (.tmp 18))⟩])
  (.cond (.tmp 19) (.seq (.reg [⟨(some 4), none, .p (.mov (.const (.int .i64 1)))⟩])
  .ret) .skip))
  (.seq (.reg [⟨(some 4), none, .p (.mov (.const (.int .i64 0)))⟩])
  .ret))))))))
def rf30 : List RX := [.tmp 4]
set_option maxRecDepth 100000 in
theorem comp30 : cFn Try.prog Try.f30 = some (erase cf30, rf30) := by kernel_rfl
def cf38 : LC :=
  (.seq (.reg [⟨(some 2), none, .p (.mov (.const (.bool false)))⟩])
  (.seq (.reg [⟨(some 3), none, .p (.mov (.tmp 0))⟩, ⟨(some 4), none, .p (.mov (.tmp 0))⟩, ⟨(some 5), none, .p (.bin .neq (.tmp 3) (.tmp 4))⟩, ⟨(some 2), none, .p (.mov (.tmp 5))⟩])
  .ret))
def rf38 : List RX := [.tmp 2]
set_option maxRecDepth 100000 in
theorem comp38 : cFn Try.prog Try.f38 = some (erase cf38, rf38) := by kernel_rfl
end Go.Proofs.Ytggaonafmiklaaa
namespace Go.Proofs.Ytggaonafmiklaaa
def lb8_0 : LC :=
  (.seq (.reg [⟨(some 117), none, .p (.bin .lss (.tmp 116) (.tmp 115))⟩])
  (.seq (.cond (.tmp 117) .skip (.exit 4))
  (.seq (.block 5
  (.seq (.reg [⟨(some 118), none, .p (.mov (.tmp 116))⟩, ⟨(some 15), none, .p (.mov (.tmp 118))⟩])
  (.seq (.reg [⟨(some 119), none, .p (.mov (.tmp 10))⟩, ⟨(some 120), none, .p (.mov (.tmp 15))⟩, ⟨(some 121), none, .p (.lkp 3 (.bool false) false (.tmp 119) (.tmp 120))⟩, ⟨(some 122), none, .p (.un .not (.tmp 121))⟩])
  (.cond (.tmp 122) (.seq (.reg [⟨(some 6), none, .p (.mov (.const (.bool false)))⟩])
  .ret) .skip))))
  (.reg [⟨(some 123), none, .p (.bin .add (.tmp 116) (.const (.int .i64 1)))⟩, ⟨(some 116), none, .p (.mov (.tmp 123))⟩]))))
def lb8_1 : LC :=
  (.seq (.reg [⟨(some 92), none, .p (.bin .lss (.tmp 91) (.tmp 90))⟩])
  (.seq (.cond (.tmp 92) .skip (.exit 2))
  (.seq (.block 3
  (.seq (.reg [⟨(some 93), none, .p (.mov (.tmp 91))⟩, ⟨(some 94), none, .p (.iad 1 (.tmp 89) (.tmp 91))⟩, ⟨(some 95), none, .p (.ld none (.tmp 94))⟩, ⟨(some 13), none, .p (.mov (.tmp 93))⟩, ⟨(some 14), none, .p (.mov (.tmp 95))⟩])
  (.seq (.reg [⟨(some 96), none, .p (.ld (some 1) (.tmp 7))⟩, ⟨(some 97), none, .p (.mov (.tmp 11))⟩, ⟨(some 98), none, .p (.mov (.tmp 13))⟩, ⟨(some 99), none, .e (.call 20 [(.tmp 96), (.tmp 97), (.tmp 98)])⟩, ⟨(some 100), none, .p (.mov (.tmp 12))⟩, ⟨(some 101), none, .p (.bin .geq (.tmp 100) (.const (.int .i64 0)))⟩, ⟨(some 102), none, .p (.mov (.tmp 101))⟩, ⟨(some 103), (some (102, true)), .p (.mov (.tmp 14))⟩, ⟨(some 104), (some (102, true)), .p (.bin .geq (.tmp 103) (.const (.int .i64 0)))⟩, ⟨(some 105), none, .p (.pick (.tmp 102) (.tmp 104) (.const (.bool false)))⟩, ⟨(some 106), none, .p (.mov (.tmp 105))⟩, ⟨(some 107), (some (106, true)), .p (.mov (.tmp 12))⟩, ⟨(some 108), (some (106, true)), .p (.mov (.tmp 14))⟩, ⟨(some 109), (some (106, true)), .p (.bin .lss (.tmp 107) (.tmp 108))⟩, ⟨(some 110), none, .p (.pick (.tmp 106) (.tmp 109) (.const (.bool false)))⟩, ⟨(some 111), none, .p (.binb true (.tmp 99) (.tmp 110))⟩])
  (.cond (.tmp 111) (.seq (.reg [⟨(some 6), none, .p (.mov (.const (.bool false)))⟩])
  .ret) .skip))))
  (.reg [⟨(some 112), none, .p (.bin .add (.tmp 91) (.const (.int .i64 1)))⟩, ⟨(some 91), none, .p (.mov (.tmp 112))⟩]))))
def lb8_2 : LC :=
  (.seq (.reg [⟨(some 57), none, .p (.bin .lss (.tmp 56) (.tmp 55))⟩])
  (.seq (.cond (.tmp 57) .skip (.exit 0))
  (.seq (.block 1
  (.seq (.reg [⟨(some 58), none, .p (.mov (.tmp 56))⟩, ⟨(some 59), none, .p (.iad 1 (.tmp 54) (.tmp 56))⟩, ⟨(some 60), none, .p (.ld none (.tmp 59))⟩, ⟨(some 11), none, .p (.mov (.tmp 58))⟩, ⟨(some 12), none, .p (.mov (.tmp 60))⟩])
  (.seq (.seq (.reg [⟨(some 61), none, .p (.mov (.tmp 12))⟩, ⟨(some 62), none, .p (.bin .lss (.tmp 61) (.const (.int .i64 0)))⟩, ⟨(some 63), none, .p (.fad 0 (.tmp 7))⟩, ⟨(some 64), none, .p (.ld none (.tmp 63))⟩, ⟨(some 65), none, .p (.mov (.tmp 11))⟩, ⟨(some 66), none, .p (.iad 1 (.tmp 64) (.tmp 65))⟩, ⟨(some 67), none, .p (.ld none (.tmp 66))⟩, ⟨(some 68), none, .p (.bin .lss (.tmp 67) (.const (.int .i64 0)))⟩, ⟨(some 69), none, .p (.binb true (.tmp 62) (.tmp 68))⟩, ⟨(some 70), none, .p (.mov (.tmp 69))⟩, ⟨(some 71), (some (70, false)), .p (.mov (.tmp 12))⟩, ⟨(some 72), (some (70, false)), .p (.mov (.tmp 9))⟩, ⟨(some 73), (some (70, false)), .p (.len 1 (.tmp 72))⟩, ⟨(some 74), (some (70, false)), .p (.bin .geq (.tmp 71) (.tmp 73))⟩, ⟨(some 75), none, .p (.pick (.tmp 70) (.const (.bool true)) (.tmp 74))⟩, ⟨(some 76), none, .p (.mov (.tmp 75))⟩, ⟨(some 77), (some (76, false)), .p (.mov (.tmp 12))⟩, ⟨(some 78), (some (76, false)), .p (.bin .geq (.tmp 77) (.const (.int .i64 0)))⟩, ⟨(some 79), (some (76, false)), .p (.mov (.tmp 78))⟩, ⟨(some 80), (some (79, true)), .p (.mov (.tmp 10))⟩, ⟨(some 81), (some (79, true)), .p (.mov (.tmp 12))⟩, ⟨(some 82), (some (79, true)), .p (.lkp 3 (.bool false) false (.tmp 80) (.tmp 81))⟩, ⟨(some 83), (some (76, false)), .p (.pick (.tmp 79) (.tmp 82) (.const (.bool false)))⟩, ⟨(some 84), none, .p (.pick (.tmp 76) (.const (.bool true)) (.tmp 83))⟩])
  (.cond (.tmp 84) (.seq (.reg [⟨(some 6), none, .p (.mov (.const (.bool false)))⟩])
  .ret) .skip))
  (.seq (.seq (.reg [⟨(some 85), none, .p (.mov (.tmp 12))⟩, ⟨(some 86), none, .p (.bin .geq (.tmp 85) (.const (.int .i64 0)))⟩])
  (.cond (.tmp 86) (.reg [⟨(some 87), none, .p (.mov (.tmp 10))⟩, ⟨(some 88), none, .p (.mov (.tmp 12))⟩, ⟨none, none, .e (.mup 3 (.tmp 87) (.tmp 88) (.const (.bool true)))⟩]) .skip))
  (.seq (.reg [⟨(some 89), none, .p (.mov (.tmp 9))⟩, ⟨(some 90), none, .p (.len 1 (.tmp 89))⟩, ⟨(some 91), none, .p (.mov (.const (.int .i64 0)))⟩])
  (.block 2
  (.loop lb8_1)))))))
  (.reg [⟨(some 113), none, .p (.bin .add (.tmp 56) (.const (.int .i64 1)))⟩, ⟨(some 56), none, .p (.mov (.tmp 113))⟩]))))
def cf8 : LC :=
  (.seq (.reg [⟨(some 3), none, .e (.box (.tmp 0))⟩, ⟨(some 6), none, .p (.mov (.const (.bool false)))⟩])
  (.seq (.seq (.reg [⟨(some 16), none, .e (.call 9 [])⟩, ⟨(some 17), none, .p (.un .not (.tmp 16))⟩, ⟨(some 18), none, .p (.mov (.tmp 17))⟩, ⟨(some 19), (some (18, false)), .p (.ld (some 2) (.tmp 3))⟩, ⟨(some 20), (some (18, false)), .e (.call 10 [(.tmp 19)])⟩, ⟨(some 21), (some (18, false)), .p (.un .not (.tmp 20))⟩, ⟨(some 22), none, .p (.pick (.tmp 18) (.const (.bool true)) (.tmp 21))⟩, ⟨(some 23), none, .p (.mov (.tmp 22))⟩, ⟨(some 24), (some (23, false)), .p (.mov (.tmp 1))⟩, ⟨(some 25), (some (23, false)), .p (.len 1 (.tmp 24))⟩, ⟨(some 26), (some (23, false)), .p (.bin .gtr (.tmp 25) (.const (.int .i64 40)))⟩, ⟨(some 27), none, .p (.pick (.tmp 23) (.const (.bool true)) (.tmp 26))⟩])
  (.cond (.tmp 27) (.seq (.reg [⟨(some 28), none, .e (.call 9 [])⟩, ⟨(some 6), none, .p (.mov (.tmp 28))⟩])
  .ret) .skip))
  (.seq (.reg [⟨(some 30), none, .p (.ld (some 2) (.tmp 3))⟩, ⟨(some 31), none, .p (.mov (.tmp 1))⟩, ⟨(some 32), none, .p (.mov (.tmp 2))⟩, ⟨(some 33), none, .e (.call 11 [(.tmp 30), (.tmp 31), (.tmp 32)])⟩, ⟨(some 29), none, .p (.mov (.tmp 33))⟩, ⟨(some 34), none, .p (.ext (.tmp 29) 0)⟩, ⟨(some 35), none, .p (.ext (.tmp 29) 1)⟩, ⟨(some 7), none, .e (.alc [(.slice none 0 0)])⟩, ⟨none, none, .e (.st 1 (.tmp 7) (.tmp 34))⟩, ⟨(some 8), none, .p (.mov (.tmp 35))⟩])
  (.seq (.seq (.reg [⟨(some 36), none, .p (.mov (.tmp 8))⟩, ⟨(some 37), none, .p (.bin .neq (.tmp 36) (.const (.int .i64 0)))⟩])
  (.cond (.tmp 37) (.seq (.reg [⟨(some 6), none, .p (.mov (.const (.bool true)))⟩])
  .ret) .skip))
  (.seq (.reg [⟨(some 38), none, .p (.ld (some 1) (.tmp 7))⟩, ⟨(some 39), none, .e (.call 23 [(.tmp 38)])⟩, ⟨(some 9), none, .p (.mov (.tmp 39))⟩])
  (.seq (.seq (.reg [⟨(some 40), none, .p (.mov (.tmp 9))⟩, ⟨(some 41), none, .p (.len 1 (.tmp 40))⟩, ⟨(some 42), none, .p (.fad 0 (.tmp 3))⟩, ⟨(some 43), none, .p (.ld none (.tmp 42))⟩, ⟨(some 44), none, .p (.len 1 (.tmp 43))⟩, ⟨(some 45), none, .p (.bin .neq (.tmp 41) (.tmp 44))⟩, ⟨(some 46), none, .p (.mov (.tmp 45))⟩, ⟨(some 47), (some (46, false)), .p (.mov (.tmp 9))⟩, ⟨(some 48), (some (46, false)), .p (.mov (.tmp 2))⟩, ⟨(some 49), (some (46, false)), .p (.iad 1 (.tmp 47) (.tmp 48))⟩, ⟨(some 50), (some (46, false)), .p (.ld none (.tmp 49))⟩, ⟨(some 51), (some (46, false)), .p (.bin .neq (.tmp 50) (.const (.int .i64 0)))⟩, ⟨(some 52), none, .p (.pick (.tmp 46) (.const (.bool true)) (.tmp 51))⟩])
  (.cond (.tmp 52) (.seq (.reg [⟨(some 6), none, .p (.mov (.const (.bool false)))⟩])
  .ret) .skip))
  (.seq (.reg [⟨(some 53), none, .e (.mkm)⟩, ⟨(some 10), none, .p (.mov (.tmp 53))⟩])
  (.seq (.seq (.reg [⟨(some 54), none, .p (.mov (.tmp 9))⟩, ⟨(some 55), none, .p (.len 1 (.tmp 54))⟩, ⟨(some 56), none, .p (.mov (.const (.int .i64 0)))⟩])
  (.block 0
  (.loop lb8_2)))
  (.seq (.seq (.reg [⟨(some 114), none, .p (.mov (.tmp 10))⟩, ⟨(some 115), none, .p (.len 2 (.tmp 114))⟩, ⟨(some 116), none, .p (.mov (.const (.int .i64 0)))⟩])
  (.block 4
  (.loop lb8_0)))
  (.seq (.reg [⟨(some 6), none, .p (.mov (.const (.bool true)))⟩])
  .ret))))))))))
def rf8 : List RX := [.tmp 6]
set_option maxRecDepth 100000 in
theorem comp8 : cFn Try.prog Try.f8 = some (erase cf8, rf8) := by kernel_rfl
def cf9 : LC :=
  (.seq (.reg [⟨(some 0), none, .p (.mov (.const (.bool false)))⟩])
  (.seq (.reg [⟨(some 6), none, .e (.call 24 [])⟩, ⟨(some 7), none, .e (.bsl 2 3 1 [(.bool false)] [(0, 1, (.const (.bool true))), (1, 1, (.const (.bool true))), (2, 1, (.const (.bool true)))])⟩, ⟨(some 8), none, .e (.call 11 [(.tmp 6), (.tmp 7), (.const (.int .i64 1))])⟩, ⟨(some 5), none, .p (.mov (.tmp 8))⟩, ⟨(some 9), none, .p (.ext (.tmp 5) 0)⟩, ⟨(some 10), none, .p (.ext (.tmp 5) 1)⟩, ⟨(some 1), none, .e (.alc [(.slice none 0 0)])⟩, ⟨none, none, .e (.st 1 (.tmp 1) (.tmp 9))⟩, ⟨(some 2), none, .p (.mov (.tmp 10))⟩])
  (.seq (.dreg [⟨(some 12), none, .e (.call 24 [])⟩, ⟨(some 13), none, .p (.ld (some 1) (.tmp 1))⟩, ⟨(some 14), none, .e (.call 16 [(.tmp 12), (.tmp 13), (.const (.int .i64 2)), (.const (.int .i64 2))])⟩, ⟨(some 11), none, .p (.mov (.tmp 14))⟩, ⟨(some 15), none, .p (.ext (.tmp 11) 0)⟩, ⟨(some 16), none, .p (.ext (.tmp 11) 1)⟩, ⟨(some 3), none, .p (.mov (.tmp 15))⟩] [[⟨(some 4), none, .p (.mov (.tmp 16))⟩]])
  (.seq (.reg [⟨(some 17), none, .p (.mov (.tmp 2))⟩, ⟨(some 18), none, .p (.bin .eql (.tmp 17) (.const (.int .i64 0)))⟩, ⟨(some 19), none, .p (.mov (.tmp 18))⟩, ⟨(some 20), (some (19, true)), .p (.fad 0 (.tmp 1))⟩, ⟨(some 21), (some (19, true)), .p (.ld none (.tmp 20))⟩, ⟨(some 22), (some (19, true)), .e (.bsl 1 3 1 [(.int .i64 0)] [(0, 1, (.const (.int .i64 1))), (1, 1, (.const (.int .i64 0))), (2, 1, (.const (.int .i64 1)))])⟩, ⟨(some 23), (some (19, true)), .e (.call 13 [(.tmp 21), (.tmp 22)])⟩, ⟨(some 24), none, .p (.pick (.tmp 19) (.tmp 23) (.const (.bool false)))⟩, ⟨(some 25), none, .p (.mov (.tmp 24))⟩, ⟨(some 26), (some (25, true)), .p (.ld (some 1) (.tmp 1))⟩, ⟨(some 27), (some (25, true)), .e (.call 20 [(.tmp 26), (.const (.int .i64 0)), (.const (.int .i64 2))])⟩, ⟨(some 28), none, .p (.pick (.tmp 25) (.tmp 27) (.const (.bool false)))⟩, ⟨(some 29), none, .p (.mov (.tmp 28))⟩, ⟨(some 30), (some (29, true)), .p (.mov (.tmp 4))⟩, ⟨(some 31), (some (29, true)), .p (.bin .eql (.tmp 30) (.const (.int .i64 0)))⟩, ⟨(some 32), none, .p (.pick (.tmp 29) (.tmp 31) (.const (.bool false)))⟩, ⟨(some 33), none, .p (.mov (.tmp 32))⟩, ⟨(some 34), (some (33, true)), .p (.mov (.tmp 3))⟩, ⟨(some 35), none, .p (.pick (.tmp 33) (.tmp 34) (.const (.bool false)))⟩, ⟨(some 0), none, .p (.mov (.tmp 35))⟩])
  .ret))))
def rf9 : List RX := [.tmp 0]
set_option maxRecDepth 100000 in
theorem comp9 : cFn Try.prog Try.f9 = some (erase cf9, rf9) := by kernel_rfl
def cf10 : LC :=
  (.seq (.reg [⟨(some 1), none, .e (.box (.tmp 0))⟩, ⟨(some 2), none, .p (.mov (.const (.bool false)))⟩])
  (.seq (.reg [⟨(some 3), none, .p (.fad 0 (.tmp 1))⟩, ⟨(some 4), none, .p (.ld none (.tmp 3))⟩, ⟨(some 5), none, .p (.len 1 (.tmp 4))⟩, ⟨(some 6), none, .p (.bin .leq (.tmp 5) (.const (.int .i64 40)))⟩, ⟨(some 7), none, .p (.mov (.tmp 6))⟩, ⟨(some 8), (some (7, true)), .p (.fad 1 (.tmp 1))⟩, ⟨(some 9), (some (7, true)), .p (.ld none (.tmp 8))⟩, ⟨(some 10), (some (7, true)), .p (.len 1 (.tmp 9))⟩, ⟨(some 11), (some (7, true)), .p (.bin .leq (.tmp 10) (.const (.int .i64 40)))⟩, ⟨(some 12), none, .p (.pick (.tmp 7) (.tmp 11) (.const (.bool false)))⟩, ⟨(some 2), none, .p (.mov (.tmp 12))⟩])
  .ret))
def rf10 : List RX := [.tmp 2]
set_option maxRecDepth 100000 in
theorem comp10 : cFn Try.prog Try.f10 = some (erase cf10, rf10) := by kernel_rfl
def cf24 : LC :=
  (.seq (.reg [⟨(some 0), none, .e (.alc [(.slice none 0 0), (.slice none 0 0)])⟩])
  (.seq (.reg [⟨(some 1), none, .p (.bld [(.string ⟨#[]⟩), (.bool false), (.int .i64 0)] [(0, 1, (.const (.string ⟨#[97]⟩))), (1, 1, (.const (.bool true))), (2, 1, (.const (.int .i64 2)))])⟩, ⟨(some 2), none, .p (.bld [(.string ⟨#[]⟩), (.bool false), (.int .i64 0)] [(0, 1, (.const (.string ⟨#[98]⟩))), (1, 1, (.const (.bool true))), (2, 1, (.const (.int .i64 2)))])⟩, ⟨(some 3), none, .p (.bld [(.string ⟨#[]⟩), (.bool false), (.int .i64 0)] [(0, 1, (.const (.string ⟨#[99]⟩))), (1, 1, (.const (.bool true))), (2, 1, (.const (.int .i64 2)))])⟩, ⟨(some 4), none, .e (.bsl 0 3 3 [(.string ⟨#[]⟩), (.bool false), (.int .i64 0)] [(0, 3, (.tmp 1)), (3, 3, (.tmp 2)), (6, 3, (.tmp 3))])⟩, ⟨(some 5), none, .p (.bld [(.int .i64 0), (.int .i64 0), (.int .i64 0), (.int .i64 0), (.int .i64 0), (.int .i64 0)] [(0, 1, (.const (.int .i64 0))), (1, 1, (.const (.int .i64 0))), (2, 1, (.const (.int .i64 1))), (3, 1, (.const (.int .i64 0))), (4, 1, (.const (.int .i64 1))), (5, 1, (.const (.int .i64 1)))])⟩, ⟨(some 6), none, .p (.bld [(.int .i64 0), (.int .i64 0), (.int .i64 0), (.int .i64 0), (.int .i64 0), (.int .i64 0)] [(0, 1, (.const (.int .i64 1))), (1, 1, (.const (.int .i64 1))), (2, 1, (.const (.int .i64 2))), (3, 1, (.const (.int .i64 0))), (4, 1, (.const (.int .i64 1))), (5, 1, (.const (.int .i64 1)))])⟩, ⟨(some 7), none, .p (.bld [(.int .i64 0), (.int .i64 0), (.int .i64 0), (.int .i64 0), (.int .i64 0), (.int .i64 0)] [(0, 1, (.const (.int .i64 2))), (1, 1, (.const (.int .i64 1))), (2, 1, (.const (.int .i64 0))), (3, 1, (.const (.int .i64 1))), (4, 1, (.const (.int .i64 1))), (5, 1, (.const (.int .i64 1)))])⟩, ⟨(some 8), none, .e (.bsl 0 3 6 [(.int .i64 0), (.int .i64 0), (.int .i64 0), (.int .i64 0), (.int .i64 0), (.int .i64 0)] [(0, 6, (.tmp 5)), (6, 6, (.tmp 6)), (12, 6, (.tmp 7))])⟩, ⟨(some 9), none, .p (.bld [(.slice none 0 0), (.slice none 0 0)] [(0, 1, (.tmp 4)), (1, 1, (.tmp 8))])⟩, ⟨none, none, .e (.st 2 (.tmp 0) (.tmp 9))⟩])
  .ret))
def rf24 : List RX := [.cell 0 (some 2)]
set_option maxRecDepth 100000 in
theorem comp24 : cFn Try.prog Try.f24 = some (erase cf24, rf24) := by kernel_rfl
end Go.Proofs.Ytggaonafmiklaaa
namespace Go.Proofs.Ytggaonafmiklaaa
end Go.Proofs.Ytggaonafmiklaaa
namespace Go.Proofs.Ytggaonafmiklaaa
def lb25_0 : LC :=
  (.seq (.reg [⟨(some 75), none, .p (.bin .lss (.tmp 74) (.tmp 73))⟩])
  (.seq (.cond (.tmp 75) .skip (.exit 6))
  (.seq (.block 7
  (.seq (.reg [⟨(some 76), none, .p (.iad 6 (.tmp 72) (.tmp 74))⟩, ⟨(some 77), none, .p (.ld (some 6) (.tmp 76))⟩, ⟨(some 10), none, .e (.alc [(.int .i64 0), (.int .i64 0), (.int .i64 0), (.int .i64 0), (.int .i64 0), (.int .i64 0)])⟩, ⟨none, none, .e (.st 6 (.tmp 10) (.tmp 77))⟩])
  (.seq (.reg [⟨(some 78), none, .p (.fad 4 (.tmp 10))⟩, ⟨(some 79), none, .p (.ld none (.tmp 78))⟩, ⟨(some 80), none, .p (.bin .lss (.tmp 79) (.const (.int .i64 1)))⟩, ⟨(some 81), none, .p (.mov (.tmp 80))⟩, ⟨(some 82), (some (81, false)), .p (.fad 4 (.tmp 10))⟩, ⟨(some 83), (some (81, false)), .p (.ld none (.tmp 82))⟩, ⟨(some 84), (some (81, false)), .p (.bin .gtr (.tmp 83) (.const (.int .i64 100)))⟩, ⟨(some 85), none, .p (.pick (.tmp 81) (.const (.bool true)) (.tmp 84))⟩, ⟨(some 86), none, .p (.mov (.tmp 85))⟩, ⟨(some 87), (some (86, false)), .p (.fad 5 (.tmp 10))⟩, ⟨(some 88), (some (86, false)), .p (.ld none (.tmp 87))⟩, ⟨(some 89), (some (86, false)), .p (.bin .lss (.tmp 88) (.const (.int .i64 1)))⟩, ⟨(some 90), none, .p (.pick (.tmp 86) (.const (.bool true)) (.tmp 89))⟩, ⟨(some 91), none, .p (.mov (.tmp 90))⟩, ⟨(some 92), (some (91, false)), .p (.fad 5 (.tmp 10))⟩, ⟨(some 93), (some (91, false)), .p (.ld none (.tmp 92))⟩, ⟨(some 94), (some (91, false)), .p (.bin .gtr (.tmp 93) (.const (.int .i64 1000)))⟩, ⟨(some 95), none, .p (.pick (.tmp 91) (.const (.bool true)) (.tmp 94))⟩])
  (.cond (.tmp 95) (.seq (.reg [⟨(some 2), none, .p (.mov (.const (.int .i64 3)))⟩])
  .ret) .skip))))
  (.reg [⟨(some 96), none, .p (.bin .add (.tmp 74) (.const (.int .i64 1)))⟩, ⟨(some 74), none, .p (.mov (.tmp 96))⟩]))))
def lb25_1 : LC :=
  (.seq (.reg [⟨(some 62), none, .p (.bin .lss (.tmp 61) (.tmp 60))⟩])
  (.seq (.cond (.tmp 62) .skip (.exit 4))
  (.seq (.block 5
  (.seq (.reg [⟨(some 63), none, .p (.iad 6 (.tmp 59) (.tmp 61))⟩, ⟨(some 64), none, .p (.ld (some 6) (.tmp 63))⟩, ⟨(some 8), none, .e (.alc [(.int .i64 0), (.int .i64 0), (.int .i64 0), (.int .i64 0), (.int .i64 0), (.int .i64 0)])⟩, ⟨none, none, .e (.st 6 (.tmp 8) (.tmp 64))⟩])
  (.seq (.reg [⟨(some 65), none, .p (.fad 0 (.tmp 8))⟩, ⟨(some 66), none, .p (.ld none (.tmp 65))⟩, ⟨(some 67), none, .p (.fad 2 (.tmp 8))⟩, ⟨(some 68), none, .p (.ld none (.tmp 67))⟩, ⟨(some 69), none, .p (.bin .eql (.tmp 66) (.tmp 68))⟩])
  (.cond (.tmp 69) (.seq (.reg [⟨(some 2), none, .p (.mov (.const (.int .i64 12)))⟩])
  .ret) .skip))))
  (.reg [⟨(some 70), none, .p (.bin .add (.tmp 61) (.const (.int .i64 1)))⟩, ⟨(some 61), none, .p (.mov (.tmp 70))⟩]))))
def lb25_2 : LC :=
  (.seq (.reg [⟨(some 36), none, .p (.bin .lss (.tmp 35) (.tmp 34))⟩])
  (.seq (.cond (.tmp 36) .skip (.exit 2))
  (.seq (.block 3
  (.seq (.reg [⟨(some 37), none, .p (.iad 6 (.tmp 33) (.tmp 35))⟩, ⟨(some 38), none, .p (.ld (some 6) (.tmp 37))⟩, ⟨(some 6), none, .e (.alc [(.int .i64 0), (.int .i64 0), (.int .i64 0), (.int .i64 0), (.int .i64 0), (.int .i64 0)])⟩, ⟨none, none, .e (.st 6 (.tmp 6) (.tmp 38))⟩])
  (.seq (.reg [⟨(some 39), none, .p (.ld (some 2) (.tmp 1))⟩, ⟨(some 40), none, .p (.fad 0 (.tmp 6))⟩, ⟨(some 41), none, .p (.ld none (.tmp 40))⟩, ⟨(some 42), none, .p (.fad 1 (.tmp 6))⟩, ⟨(some 43), none, .p (.ld none (.tmp 42))⟩, ⟨(some 44), none, .e (.call 34 [(.tmp 39), (.tmp 41), (.tmp 43)])⟩, ⟨(some 45), none, .p (.un .not (.tmp 44))⟩, ⟨(some 46), none, .p (.mov (.tmp 45))⟩, ⟨(some 47), (some (46, false)), .p (.ld (some 2) (.tmp 1))⟩, ⟨(some 48), (some (46, false)), .p (.fad 2 (.tmp 6))⟩, ⟨(some 49), (some (46, false)), .p (.ld none (.tmp 48))⟩, ⟨(some 50), (some (46, false)), .p (.fad 3 (.tmp 6))⟩, ⟨(some 51), (some (46, false)), .p (.ld none (.tmp 50))⟩, ⟨(some 52), (some (46, false)), .e (.call 34 [(.tmp 47), (.tmp 49), (.tmp 51)])⟩, ⟨(some 53), (some (46, false)), .p (.un .not (.tmp 52))⟩, ⟨(some 54), none, .p (.pick (.tmp 46) (.const (.bool true)) (.tmp 53))⟩])
  (.cond (.tmp 54) (.seq (.reg [⟨(some 2), none, .p (.mov (.const (.int .i64 2)))⟩])
  .ret) .skip))))
  (.reg [⟨(some 55), none, .p (.bin .add (.tmp 35) (.const (.int .i64 1)))⟩, ⟨(some 35), none, .p (.mov (.tmp 55))⟩]))))
def lb25_3 : LC :=
  (.seq (.reg [⟨(some 25), none, .p (.bin .lss (.tmp 24) (.tmp 23))⟩])
  (.seq (.cond (.tmp 25) .skip (.exit 0))
  (.seq (.block 1
  (.seq (.reg [⟨(some 26), none, .p (.iad 3 (.tmp 22) (.tmp 24))⟩, ⟨(some 27), none, .p (.ld (some 3) (.tmp 26))⟩, ⟨(some 4), none, .e (.alc [(.string ⟨#[]⟩), (.bool false), (.int .i64 0)])⟩, ⟨none, none, .e (.st 3 (.tmp 4) (.tmp 27))⟩])
  (.seq (.reg [⟨(some 28), none, .p (.ld (some 3) (.tmp 4))⟩, ⟨(some 29), none, .e (.call 33 [(.tmp 28)])⟩, ⟨(some 30), none, .p (.un .not (.tmp 29))⟩])
  (.cond (.tmp 30) (.seq (.reg [⟨(some 2), none, .p (.mov (.const (.int .i64 1)))⟩])
  .ret) .skip))))
  (.reg [⟨(some 31), none, .p (.bin .add (.tmp 24) (.const (.int .i64 1)))⟩, ⟨(some 24), none, .p (.mov (.tmp 31))⟩]))))
def cf25 : LC :=
  (.seq (.reg [⟨(some 1), none, .e (.box (.tmp 0))⟩, ⟨(some 2), none, .p (.mov (.const (.int .i64 0)))⟩])
  (.seq (.seq (.reg [⟨(some 11), none, .p (.fad 0 (.tmp 1))⟩, ⟨(some 12), none, .p (.ld none (.tmp 11))⟩, ⟨(some 13), none, .p (.len 1 (.tmp 12))⟩, ⟨(some 14), none, .p (.bin .gtr (.tmp 13) (.const (.int .i64 16)))⟩, ⟨(some 15), none, .p (.mov (.tmp 14))⟩, ⟨(some 16), (some (15, false)), .p (.fad 1 (.tmp 1))⟩, ⟨(some 17), (some (15, false)), .p (.ld none (.tmp 16))⟩, ⟨(some 18), (some (15, false)), .p (.len 1 (.tmp 17))⟩, ⟨(some 19), (some (15, false)), .p (.bin .gtr (.tmp 18) (.const (.int .i64 32)))⟩, ⟨(some 20), none, .p (.pick (.tmp 15) (.const (.bool true)) (.tmp 19))⟩])
  (.cond (.tmp 20) (.seq (.reg [⟨(some 2), none, .p (.mov (.const (.int .i64 5)))⟩])
  .ret) .skip))
  (.seq (.seq (.reg [⟨(some 21), none, .p (.fad 0 (.tmp 1))⟩, ⟨(some 22), none, .p (.ld none (.tmp 21))⟩, ⟨(some 23), none, .p (.len 1 (.tmp 22))⟩, ⟨(some 24), none, .p (.mov (.const (.int .i64 0)))⟩])
  (.block 0
  (.loop lb25_3)))
  (.seq (.seq (.reg [⟨(some 32), none, .p (.fad 1 (.tmp 1))⟩, ⟨(some 33), none, .p (.ld none (.tmp 32))⟩, ⟨(some 34), none, .p (.len 1 (.tmp 33))⟩, ⟨(some 35), none, .p (.mov (.const (.int .i64 0)))⟩])
  (.block 2
  (.loop lb25_2)))
  (.seq (.seq (.reg [⟨(some 56), none, .p (.ld (some 2) (.tmp 1))⟩, ⟨(some 57), none, .e (.call 35 [(.tmp 56)])⟩])
  (.cond (.tmp 57) (.seq (.reg [⟨(some 2), none, .p (.mov (.const (.int .i64 8)))⟩])
  .ret) .skip))
  (.seq (.seq (.reg [⟨(some 58), none, .p (.fad 1 (.tmp 1))⟩, ⟨(some 59), none, .p (.ld none (.tmp 58))⟩, ⟨(some 60), none, .p (.len 1 (.tmp 59))⟩, ⟨(some 61), none, .p (.mov (.const (.int .i64 0)))⟩])
  (.block 4
  (.loop lb25_1)))
  (.seq (.seq (.reg [⟨(some 71), none, .p (.fad 1 (.tmp 1))⟩, ⟨(some 72), none, .p (.ld none (.tmp 71))⟩, ⟨(some 73), none, .p (.len 1 (.tmp 72))⟩, ⟨(some 74), none, .p (.mov (.const (.int .i64 0)))⟩])
  (.block 6
  (.loop lb25_0)))
  (.seq (.reg [⟨(some 2), none, .p (.mov (.const (.int .i64 0)))⟩])
  .ret))))))))
def rf25 : List RX := [.tmp 2]
set_option maxRecDepth 100000 in
theorem comp25 : cFn Try.prog Try.f25 = some (erase cf25, rf25) := by kernel_rfl
def cf26 : LC :=
  (.seq (.reg [⟨(some 3), none, .e (.box (.tmp 0))⟩, ⟨(some 6), none, .p (.mov (.const (.slice none 0 0)))⟩])
  (.seq (.seq (.reg [⟨(some 7), none, .p (.ld (some 2) (.tmp 3))⟩, ⟨(some 8), none, .p (.mov (.tmp 2))⟩, ⟨(some 9), none, .e (.call 36 [(.tmp 7), (.tmp 8)])⟩, ⟨(some 10), none, .p (.un .not (.tmp 9))⟩, ⟨(some 11), none, .p (.mov (.tmp 10))⟩, ⟨(some 12), (some (11, false)), .p (.mov (.tmp 1))⟩, ⟨(some 13), (some (11, false)), .p (.bin .lss (.tmp 12) (.const (.int .i64 0)))⟩, ⟨(some 14), none, .p (.pick (.tmp 11) (.const (.bool true)) (.tmp 13))⟩, ⟨(some 15), none, .p (.mov (.tmp 14))⟩, ⟨(some 16), (some (15, false)), .p (.mov (.tmp 1))⟩, ⟨(some 17), (some (15, false)), .p (.fad 0 (.tmp 3))⟩, ⟨(some 18), (some (15, false)), .p (.ld none (.tmp 17))⟩, ⟨(some 19), (some (15, false)), .p (.len 1 (.tmp 18))⟩, ⟨(some 20), (some (15, false)), .p (.bin .geq (.tmp 16) (.tmp 19))⟩, ⟨(some 21), none, .p (.pick (.tmp 15) (.const (.bool true)) (.tmp 20))⟩])
  (.cond (.tmp 21) (.seq (.reg [⟨(some 6), none, .p (.mov (.const (.slice none 0 0)))⟩])
  .ret) .skip))
  (.seq (.reg [⟨(some 22), none, .p (.ld (some 2) (.tmp 3))⟩, ⟨(some 23), none, .p (.mov (.tmp 1))⟩, ⟨(some 24), none, .p (.mov (.tmp 2))⟩, ⟨(some 25), none, .e (.call 37 [(.tmp 22), (.tmp 23), (.tmp 24)])⟩, ⟨(some 6), none, .p (.mov (.tmp 25))⟩])
  .ret)))
def rf26 : List RX := [.tmp 6]
set_option maxRecDepth 100000 in
theorem comp26 : cFn Try.prog Try.f26 = some (erase cf26, rf26) := by kernel_rfl
def cf33 : LC :=
  (.seq (.reg [⟨(some 1), none, .e (.box (.tmp 0))⟩, ⟨(some 2), none, .p (.mov (.const (.bool false)))⟩])
  (.seq (.seq (.reg [⟨(some 3), none, .p (.fad 0 (.tmp 1))⟩, ⟨(some 4), none, .p (.ld none (.tmp 3))⟩, ⟨(some 5), none, .e (.call 41 [(.tmp 4)])⟩, ⟨(some 6), none, .p (.un .not (.tmp 5))⟩])
  (.cond (.tmp 6) (.seq (.reg [⟨(some 2), none, .p (.mov (.const (.bool false)))⟩])
  .ret) .skip))
  (.seq (.seq (.reg [⟨(some 7), none, .p (.fad 1 (.tmp 1))⟩, ⟨(some 8), none, .p (.ld none (.tmp 7))⟩])
  (.cond (.tmp 8) (.seq (.reg [⟨(some 9), none, .p (.fad 2 (.tmp 1))⟩, ⟨(some 10), none, .p (.ld none (.tmp 9))⟩, ⟨(some 11), none, .p (.bin .geq (.tmp 10) (.const (.int .i64 1)))⟩, ⟨(some 12), none, .p (.mov (.tmp 11))⟩, ⟨(some 13), (some (12, true)), .p (.fad 2 (.tmp 1))⟩, ⟨(some 14), (some (12, true)), .p (.ld none (.tmp 13))⟩, ⟨(some 15), (some (12, true)), .p (.bin .leq (.tmp 14) (.const (.int .i64 8)))⟩, ⟨(some 16), none, .p (.pick (.tmp 12) (.tmp 15) (.const (.bool false)))⟩, ⟨(some 2), none, .p (.mov (.tmp 16))⟩])
  .ret) .skip))
  (.seq (.reg [⟨(some 17), none, .p (.fad 2 (.tmp 1))⟩, ⟨(some 18), none, .p (.ld none (.tmp 17))⟩, ⟨(some 19), none, .p (.bin .eql (.tmp 18) (.const (.int .i64 1)))⟩, ⟨(some 2), none, .p (.mov (.tmp 19))⟩])
  .ret))))
def rf33 : List RX := [.tmp 2]
set_option maxRecDepth 100000 in
theorem comp33 : cFn Try.prog Try.f33 = some (erase cf33, rf33) := by kernel_rfl
def cf34 : LC :=
  (.seq (.reg [⟨(some 3), none, .e (.box (.tmp 0))⟩, ⟨(some 6), none, .p (.mov (.const (.bool false)))⟩])
  (.seq (.reg [⟨(some 7), none, .p (.mov (.tmp 1))⟩, ⟨(some 8), none, .p (.bin .geq (.tmp 7) (.const (.int .i64 0)))⟩, ⟨(some 9), none, .p (.mov (.tmp 8))⟩, ⟨(some 10), (some (9, true)), .p (.mov (.tmp 1))⟩, ⟨(some 11), (some (9, true)), .p (.fad 0 (.tmp 3))⟩, ⟨(some 12), (some (9, true)), .p (.ld none (.tmp 11))⟩, ⟨(some 13), (some (9, true)), .p (.len 1 (.tmp 12))⟩, ⟨(some 14), (some (9, true)), .p (.bin .lss (.tmp 10) (.tmp 13))⟩, ⟨(some 15), none, .p (.pick (.tmp 9) (.tmp 14) (.const (.bool false)))⟩, ⟨(some 16), none, .p (.mov (.tmp 15))⟩, ⟨(some 17), (some (16, true)), .p (.mov (.tmp 2))⟩, ⟨(some 18), (some (16, true)), .p (.bin .geq (.tmp 17) (.const (.int .i64 0)))⟩, ⟨(some 19), none, .p (.pick (.tmp 16) (.tmp 18) (.const (.bool false)))⟩, ⟨(some 20), none, .p (.mov (.tmp 19))⟩, ⟨(some 21), (some (20, true)), .p (.mov (.tmp 2))⟩, ⟨(some 22), (some (20, true)), .p (.fad 0 (.tmp 3))⟩, ⟨(some 23), (some (20, true)), .p (.ld none (.tmp 22))⟩, ⟨(some 24), (some (20, true)), .p (.mov (.tmp 1))⟩, ⟨(some 25), (some (20, true)), .p (.iad 3 (.tmp 23) (.tmp 24))⟩, ⟨(some 26), (some (20, true)), .p (.fad 2 (.tmp 25))⟩, ⟨(some 27), (some (20, true)), .p (.ld none (.tmp 26))⟩, ⟨(some 28), (some (20, true)), .p (.bin .lss (.tmp 21) (.tmp 27))⟩, ⟨(some 29), none, .p (.pick (.tmp 20) (.tmp 28) (.const (.bool false)))⟩, ⟨(some 6), none, .p (.mov (.tmp 29))⟩])
  .ret))
def rf34 : List RX := [.tmp 6]
set_option maxRecDepth 100000 in
theorem comp34 : cFn Try.prog Try.f34 = some (erase cf34, rf34) := by kernel_rfl
def lb35_0 : LC :=
  (.seq (.reg [⟨(some 47), none, .p (.bin .lss (.tmp 46) (.const (.int .i64 2)))⟩])
  (.seq (.cond (.tmp 47) .skip (.exit 4))
  (.seq (.block 5
  (.seq (.reg [⟨(some 48), none, .p (.idxa 2 2 (some 2) (.tmp 45) (.tmp 46))⟩, ⟨(some 10), none, .e (.alc [(.int .i64 0), (.int .i64 0)])⟩, ⟨none, none, .e (.st 2 (.tmp 10) (.tmp 48))⟩])
  (.seq (.seq (.reg [⟨(some 49), none, .p (.mov (.tmp 6))⟩, ⟨(some 50), none, .p (.ld (some 2) (.tmp 10))⟩, ⟨(some 51), none, .p (.lkp 73 (.bool false) false (.tmp 49) (.tmp 50))⟩])
  (.cond (.tmp 51) (.seq (.reg [⟨(some 2), none, .p (.mov (.const (.bool true)))⟩])
  .ret) .skip))
  (.reg [⟨(some 52), none, .p (.mov (.tmp 6))⟩, ⟨(some 53), none, .p (.ld (some 2) (.tmp 10))⟩, ⟨none, none, .e (.mup 73 (.tmp 52) (.tmp 53) (.const (.bool true)))⟩]))))
  (.reg [⟨(some 54), none, .p (.bin .add (.tmp 46) (.const (.int .i64 1)))⟩, ⟨(some 46), none, .p (.mov (.tmp 54))⟩]))))
def lb35_1 : LC :=
  (.seq (.reg [⟨(some 32), none, .p (.bin .lss (.tmp 31) (.tmp 30))⟩])
  (.seq (.cond (.tmp 32) .skip (.exit 2))
  (.seq (.block 3
  (.seq (.reg [⟨(some 33), none, .p (.iad 6 (.tmp 29) (.tmp 31))⟩, ⟨(some 34), none, .p (.ld (some 6) (.tmp 33))⟩, ⟨(some 8), none, .e (.alc [(.int .i64 0), (.int .i64 0), (.int .i64 0), (.int .i64 0), (.int .i64 0), (.int .i64 0)])⟩, ⟨none, none, .e (.st 6 (.tmp 8) (.tmp 34))⟩])
  (.seq (.reg [⟨(some 35), none, .p (.fad 0 (.tmp 8))⟩, ⟨(some 36), none, .p (.ld none (.tmp 35))⟩, ⟨(some 37), none, .p (.fad 1 (.tmp 8))⟩, ⟨(some 38), none, .p (.ld none (.tmp 37))⟩, ⟨(some 39), none, .p (.bld [(.int .i64 0), (.int .i64 0)] [(0, 1, (.tmp 36)), (1, 1, (.tmp 38))])⟩, ⟨(some 40), none, .p (.fad 2 (.tmp 8))⟩, ⟨(some 41), none, .p (.ld none (.tmp 40))⟩, ⟨(some 42), none, .p (.fad 3 (.tmp 8))⟩, ⟨(some 43), none, .p (.ld none (.tmp 42))⟩, ⟨(some 44), none, .p (.bld [(.int .i64 0), (.int .i64 0)] [(0, 1, (.tmp 41)), (1, 1, (.tmp 43))])⟩, ⟨(some 45), none, .p (.bld [(.int .i64 0), (.int .i64 0), (.int .i64 0), (.int .i64 0)] [(0, 2, (.tmp 39)), (2, 2, (.tmp 44))])⟩, ⟨(some 46), none, .p (.mov (.const (.int .i64 0)))⟩])
  (.block 4
  (.loop lb35_0)))))
  (.reg [⟨(some 55), none, .p (.bin .add (.tmp 31) (.const (.int .i64 1)))⟩, ⟨(some 31), none, .p (.mov (.tmp 55))⟩]))))
def lb35_2 : LC :=
  (.seq (.reg [⟨(some 16), none, .p (.bin .lss (.tmp 15) (.tmp 14))⟩])
  (.seq (.cond (.tmp 16) .skip (.exit 0))
  (.seq (.block 1
  (.seq (.reg [⟨(some 17), none, .p (.iad 3 (.tmp 13) (.tmp 15))⟩, ⟨(some 18), none, .p (.ld (some 3) (.tmp 17))⟩, ⟨(some 5), none, .e (.alc [(.string ⟨#[]⟩), (.bool false), (.int .i64 0)])⟩, ⟨none, none, .e (.st 3 (.tmp 5) (.tmp 18))⟩])
  (.seq (.seq (.reg [⟨(some 19), none, .p (.mov (.tmp 3))⟩, ⟨(some 20), none, .p (.fad 0 (.tmp 5))⟩, ⟨(some 21), none, .p (.ld none (.tmp 20))⟩, ⟨(some 22), none, .p (.lkp 9 (.bool false) false (.tmp 19) (.tmp 21))⟩])
  (.cond (.tmp 22) (.seq (.reg [⟨(some 2), none, .p (.mov (.const (.bool true)))⟩])
  .ret) .skip))
  (.reg [⟨(some 23), none, .p (.mov (.tmp 3))⟩, ⟨(some 24), none, .p (.fad 0 (.tmp 5))⟩, ⟨(some 25), none, .p (.ld none (.tmp 24))⟩, ⟨none, none, .e (.mup 9 (.tmp 23) (.tmp 25) (.const (.bool true)))⟩]))))
  (.reg [⟨(some 26), none, .p (.bin .add (.tmp 15) (.const (.int .i64 1)))⟩, ⟨(some 15), none, .p (.mov (.tmp 26))⟩]))))
def cf35 : LC :=
  (.seq (.reg [⟨(some 1), none, .e (.box (.tmp 0))⟩, ⟨(some 2), none, .p (.mov (.const (.bool false)))⟩])
  (.seq (.reg [⟨(some 11), none, .e (.mkm)⟩, ⟨(some 3), none, .p (.mov (.tmp 11))⟩])
  (.seq (.seq (.reg [⟨(some 12), none, .p (.fad 0 (.tmp 1))⟩, ⟨(some 13), none, .p (.ld none (.tmp 12))⟩, ⟨(some 14), none, .p (.len 1 (.tmp 13))⟩, ⟨(some 15), none, .p (.mov (.const (.int .i64 0)))⟩])
  (.block 0
  (.loop lb35_2)))
  (.seq (.reg [⟨(some 27), none, .e (.mkm)⟩, ⟨(some 6), none, .p (.mov (.tmp 27))⟩])
  (.seq (.seq (.reg [⟨(some 28), none, .p (.fad 1 (.tmp 1))⟩, ⟨(some 29), none, .p (.ld none (.tmp 28))⟩, ⟨(some 30), none, .p (.len 1 (.tmp 29))⟩, ⟨(some 31), none, .p (.mov (.const (.int .i64 0)))⟩])
  (.block 2
  (.loop lb35_1)))
  (.seq (.reg [⟨(some 2), none, .p (.mov (.const (.bool false)))⟩])
  .ret))))))
def rf35 : List RX := [.tmp 2]
set_option maxRecDepth 100000 in
theorem comp35 : cFn Try.prog Try.f35 = some (erase cf35, rf35) := by kernel_rfl
def cf36 : LC :=
  (.seq (.reg [⟨(some 2), none, .e (.box (.tmp 0))⟩, ⟨(some 4), none, .p (.mov (.const (.bool false)))⟩])
  (.seq (.reg [⟨(some 5), none, .p (.ld (some 2) (.tmp 2))⟩, ⟨(some 6), none, .e (.call 25 [(.tmp 5)])⟩, ⟨(some 7), none, .p (.bin .eql (.tmp 6) (.const (.int .i64 0)))⟩, ⟨(some 8), none, .p (.mov (.tmp 7))⟩, ⟨(some 9), (some (8, true)), .p (.mov (.tmp 1))⟩, ⟨(some 10), (some (8, true)), .p (.len 1 (.tmp 9))⟩, ⟨(some 11), (some (8, true)), .p (.fad 1 (.tmp 2))⟩, ⟨(some 12), (some (8, true)), .p (.ld none (.tmp 11))⟩, ⟨(some 13), (some (8, true)), .p (.len 1 (.tmp 12))⟩, ⟨(some 14), (some (8, true)), .p (.bin .eql (.tmp 10) (.tmp 13))⟩, ⟨(some 15), none, .p (.pick (.tmp 8) (.tmp 14) (.const (.bool false)))⟩, ⟨(some 4), none, .p (.mov (.tmp 15))⟩])
  .ret))
def rf36 : List RX := [.tmp 4]
set_option maxRecDepth 100000 in
theorem comp36 : cFn Try.prog Try.f36 = some (erase cf36, rf36) := by kernel_rfl
def lb37_0 : LC :=
  (.seq (.reg [⟨(some 45), none, .p (.bin .lss (.tmp 44) (.tmp 43))⟩])
  (.seq (.cond (.tmp 45) .skip (.exit 4))
  (.seq (.block 5
  (.seq (.reg [⟨(some 46), none, .p (.mov (.tmp 44))⟩, ⟨(some 47), none, .p (.iad 6 (.tmp 42) (.tmp 44))⟩, ⟨(some 48), none, .p (.ld (some 6) (.tmp 47))⟩, ⟨(some 13), none, .e (.alc [(.int .i64 0), (.int .i64 0), (.int .i64 0), (.int .i64 0), (.int .i64 0), (.int .i64 0)])⟩, ⟨(some 12), none, .p (.mov (.tmp 46))⟩, ⟨none, none, .e (.st 6 (.tmp 13) (.tmp 48))⟩])
  (.seq (.seq (.reg [⟨(some 49), none, .p (.mov (.tmp 2))⟩, ⟨(some 50), none, .p (.mov (.tmp 12))⟩, ⟨(some 51), none, .p (.iad 1 (.tmp 49) (.tmp 50))⟩, ⟨(some 52), none, .p (.ld none (.tmp 51))⟩, ⟨(some 53), none, .p (.mov (.tmp 52))⟩, ⟨(some 54), (some (53, true)), .p (.fad 0 (.tmp 13))⟩, ⟨(some 55), (some (53, true)), .p (.ld none (.tmp 54))⟩, ⟨(some 56), (some (53, true)), .p (.ld none (.tmp 10))⟩, ⟨(some 57), (some (53, true)), .p (.bin .eql (.tmp 55) (.tmp 56))⟩, ⟨(some 58), none, .p (.pick (.tmp 53) (.tmp 57) (.const (.bool false)))⟩])
  (.cond (.tmp 58) (.reg [⟨(some 59), none, .p (.mov (.tmp 11))⟩, ⟨(some 60), none, .p (.fad 2 (.tmp 13))⟩, ⟨(some 61), none, .p (.ld none (.tmp 60))⟩, ⟨(some 62), none, .e (.calv (.tmp 59) [(.tmp 61)])⟩]) .skip))
  (.seq (.reg [⟨(some 63), none, .p (.mov (.tmp 2))⟩, ⟨(some 64), none, .p (.mov (.tmp 12))⟩, ⟨(some 65), none, .p (.iad 1 (.tmp 63) (.tmp 64))⟩, ⟨(some 66), none, .p (.ld none (.tmp 65))⟩, ⟨(some 67), none, .p (.mov (.tmp 66))⟩, ⟨(some 68), (some (67, true)), .p (.fad 2 (.tmp 13))⟩, ⟨(some 69), (some (67, true)), .p (.ld none (.tmp 68))⟩, ⟨(some 70), (some (67, true)), .p (.ld none (.tmp 10))⟩, ⟨(some 71), (some (67, true)), .p (.bin .eql (.tmp 69) (.tmp 70))⟩, ⟨(some 72), none, .p (.pick (.tmp 67) (.tmp 71) (.const (.bool false)))⟩])
  (.cond (.tmp 72) (.reg [⟨(some 73), none, .p (.mov (.tmp 11))⟩, ⟨(some 74), none, .p (.fad 0 (.tmp 13))⟩, ⟨(some 75), none, .p (.ld none (.tmp 74))⟩, ⟨(some 76), none, .e (.calv (.tmp 73) [(.tmp 75)])⟩]) .skip)))))
  (.reg [⟨(some 77), none, .p (.bin .add (.tmp 44) (.const (.int .i64 1)))⟩, ⟨(some 44), none, .p (.mov (.tmp 77))⟩]))))
def lb37_1 : LC :=
  (.seq (.seq (.reg [⟨(some 32), none, .p (.ld none (.tmp 9))⟩, ⟨(some 33), none, .p (.len 1 (.tmp 32))⟩, ⟨(some 34), none, .p (.bin .gtr (.tmp 33) (.const (.int .i64 0)))⟩])
  (.cond (.tmp 34) .skip (.exit 2)))
  (.block 3
  (.seq (.reg [⟨(some 35), none, .p (.ld none (.tmp 9))⟩, ⟨(some 36), none, .p (.iad 1 (.tmp 35) (.const (.int .i64 0)))⟩, ⟨(some 37), none, .p (.ld none (.tmp 36))⟩, ⟨(some 10), none, .e (.alc [(.int .i64 0)])⟩, ⟨none, none, .e (.st 1 (.tmp 10) (.tmp 37))⟩])
  (.seq (.reg [⟨(some 38), none, .p (.ld none (.tmp 9))⟩, ⟨(some 39), none, .p (.slc 1 (.tmp 38) (some (.const (.int .i64 1))) none)⟩, ⟨none, none, .e (.st 1 (.tmp 9) (.tmp 39))⟩])
  (.seq (.reg [⟨(some 40), none, .p (.mkf 42 [(.tmp 7), (.tmp 10), (.tmp 9)])⟩, ⟨(some 11), none, .p (.mov (.tmp 40))⟩])
  (.seq (.reg [⟨(some 41), none, .p (.fad 1 (.tmp 3))⟩, ⟨(some 42), none, .p (.ld none (.tmp 41))⟩, ⟨(some 43), none, .p (.len 1 (.tmp 42))⟩, ⟨(some 44), none, .p (.mov (.const (.int .i64 0)))⟩])
  (.block 4
  (.loop lb37_0))))))))
def lb37_2 : LC :=
  (.seq (.reg [⟨(some 21), none, .p (.bin .lss (.tmp 20) (.tmp 19))⟩])
  (.seq (.cond (.tmp 21) .skip (.exit 0))
  (.seq (.block 1
  (.seq (.reg [⟨(some 22), none, .p (.mov (.tmp 20))⟩, ⟨(some 8), none, .p (.mov (.tmp 22))⟩])
  (.reg [⟨(some 23), none, .p (.ld none (.tmp 7))⟩, ⟨(some 24), none, .p (.mov (.tmp 8))⟩, ⟨(some 25), none, .p (.iad 1 (.tmp 23) (.tmp 24))⟩, ⟨none, none, .e (.st 1 (.tmp 25) (.const (.int .i64 (-1))))⟩])))
  (.reg [⟨(some 26), none, .p (.bin .add (.tmp 20) (.const (.int .i64 1)))⟩, ⟨(some 20), none, .p (.mov (.tmp 26))⟩]))))
def cf37 : LC :=
  (.seq (.reg [⟨(some 3), none, .e (.box (.tmp 0))⟩, ⟨(some 6), none, .p (.mov (.const (.slice none 0 0)))⟩])
  (.seq (.reg [⟨(some 14), none, .p (.fad 0 (.tmp 3))⟩, ⟨(some 15), none, .p (.ld none (.tmp 14))⟩, ⟨(some 16), none, .p (.len 1 (.tmp 15))⟩, ⟨(some 17), none, .e (.mks 1 1 [(.int .i64 0)] 8 (.tmp 16) (.tmp 16))⟩, ⟨(some 7), none, .e (.alc [(.slice none 0 0)])⟩, ⟨none, none, .e (.st 1 (.tmp 7) (.tmp 17))⟩])
  (.seq (.seq (.reg [⟨(some 18), none, .p (.ld none (.tmp 7))⟩, ⟨(some 19), none, .p (.len 1 (.tmp 18))⟩, ⟨(some 20), none, .p (.mov (.const (.int .i64 0)))⟩])
  (.block 0
  (.loop lb37_2)))
  (.seq (.reg [⟨(some 27), none, .p (.ld none (.tmp 7))⟩, ⟨(some 28), none, .p (.mov (.tmp 1))⟩, ⟨(some 29), none, .p (.iad 1 (.tmp 27) (.tmp 28))⟩, ⟨none, none, .e (.st 1 (.tmp 29) (.const (.int .i64 0)))⟩])
  (.seq (.reg [⟨(some 30), none, .p (.mov (.tmp 1))⟩, ⟨(some 31), none, .e (.bsl 1 1 1 [(.int .i64 0)] [(0, 1, (.tmp 30))])⟩, ⟨(some 9), none, .e (.alc [(.slice none 0 0)])⟩, ⟨none, none, .e (.st 1 (.tmp 9) (.tmp 31))⟩])
  (.seq (.block 2
  (.loop lb37_1))
  (.seq (.reg [⟨(some 78), none, .p (.ld none (.tmp 7))⟩, ⟨(some 6), none, .p (.mov (.tmp 78))⟩])
  .ret)))))))
def rf37 : List RX := [.tmp 6]
set_option maxRecDepth 100000 in
theorem comp37 : cFn Try.prog Try.f37 = some (erase cf37, rf37) := by kernel_rfl
def lb41_0 : LC :=
  (.seq (.reg [⟨(some 17), none, .p (.bin .lss (.tmp 16) (.tmp 15))⟩])
  (.seq (.cond (.tmp 17) .skip (.exit 0))
  (.seq (.block 1
  (.seq (.reg [⟨(some 18), none, .p (.mov (.tmp 16))⟩, ⟨(some 3), none, .p (.mov (.tmp 18))⟩])
  (.seq (.reg [⟨(some 19), none, .p (.mov (.tmp 0))⟩, ⟨(some 20), none, .p (.mov (.tmp 3))⟩, ⟨(some 21), none, .p (.idxs (.tmp 19) (.tmp 20))⟩, ⟨(some 22), none, .p (.bin .geq (.tmp 21) (.const (.int .u8 97)))⟩, ⟨(some 23), none, .p (.mov (.tmp 22))⟩, ⟨(some 24), (some (23, true)), .p (.mov (.tmp 0))⟩, ⟨(some 25), (some (23, true)), .p (.mov (.tmp 3))⟩, ⟨(some 26), (some (23, true)), .p (.idxs (.tmp 24) (.tmp 25))⟩, ⟨(some 27), (some (23, true)), .p (.bin .leq (.tmp 26) (.const (.int .u8 122)))⟩, ⟨(some 28), none, .p (.pick (.tmp 23) (.tmp 27) (.const (.bool false)))⟩, ⟨(some 4), none, .p (.mov (.tmp 28))⟩])
  (.seq (.reg [⟨(some 29), none, .p (.mov (.tmp 0))⟩, ⟨(some 30), none, .p (.mov (.tmp 3))⟩, ⟨(some 31), none, .p (.idxs (.tmp 29) (.tmp 30))⟩, ⟨(some 32), none, .p (.bin .geq (.tmp 31) (.const (.int .u8 48)))⟩, ⟨(some 33), none, .p (.mov (.tmp 32))⟩, ⟨(some 34), (some (33, true)), .p (.mov (.tmp 0))⟩, ⟨(some 35), (some (33, true)), .p (.mov (.tmp 3))⟩, ⟨(some 36), (some (33, true)), .p (.idxs (.tmp 34) (.tmp 35))⟩, ⟨(some 37), (some (33, true)), .p (.bin .leq (.tmp 36) (.const (.int .u8 57)))⟩, ⟨(some 38), none, .p (.pick (.tmp 33) (.tmp 37) (.const (.bool false)))⟩, ⟨(some 5), none, .p (.mov (.tmp 38))⟩])
  (.seq (.reg [⟨(some 39), none, .p (.mov (.tmp 4))⟩, ⟨(some 40), none, .p (.un .not (.tmp 39))⟩, ⟨(some 41), none, .p (.mov (.tmp 40))⟩, ⟨(some 42), (some (41, true)), .p (.mov (.tmp 3))⟩, ⟨(some 43), (some (41, true)), .p (.bin .eql (.tmp 42) (.const (.int .i64 0)))⟩, ⟨(some 44), (some (41, true)), .p (.mov (.tmp 43))⟩, ⟨(some 45), (some (44, false)), .p (.mov (.tmp 5))⟩, ⟨(some 46), (some (44, false)), .p (.un .not (.tmp 45))⟩, ⟨(some 47), (some (41, true)), .p (.pick (.tmp 44) (.const (.bool true)) (.tmp 46))⟩, ⟨(some 48), none, .p (.pick (.tmp 41) (.tmp 47) (.const (.bool false)))⟩])
  (.cond (.tmp 48) (.seq (.reg [⟨(some 2), none, .p (.mov (.const (.bool false)))⟩])
  .ret) .skip))))))
  (.reg [⟨(some 49), none, .p (.bin .add (.tmp 16) (.const (.int .i64 1)))⟩, ⟨(some 16), none, .p (.mov (.tmp 49))⟩]))))
def cf41 : LC :=
  (.seq (.reg [⟨(some 2), none, .p (.mov (.const (.bool false)))⟩])
  (.seq (.seq (.reg [⟨(some 6), none, .p (.mov (.tmp 0))⟩, ⟨(some 7), none, .p (.len 0 (.tmp 6))⟩, ⟨(some 8), none, .p (.bin .lss (.tmp 7) (.const (.int .i64 1)))⟩, ⟨(some 9), none, .p (.mov (.tmp 8))⟩, ⟨(some 10), (some (9, false)), .p (.mov (.tmp 0))⟩, ⟨(some 11), (some (9, false)), .p (.len 0 (.tmp 10))⟩, ⟨(some 12), (some (9, false)), .p (.bin .gtr (.tmp 11) (.const (.int .i64 20)))⟩, ⟨(some 13), none, .p (.pick (.tmp 9) (.const (.bool true)) (.tmp 12))⟩])
  (.cond (.tmp 13) (.seq (.reg [⟨(some 2), none, .p (.mov (.const (.bool false)))⟩])
  .ret) .skip))
  (.seq (.seq (.reg [⟨(some 14), none, .p (.mov (.tmp 0))⟩, ⟨(some 15), none, .p (.len 0 (.tmp 14))⟩, ⟨(some 16), none, .p (.mov (.const (.int .i64 0)))⟩])
  (.block 0
  (.loop lb41_0)))
  (.seq (.reg [⟨(some 2), none, .p (.mov (.const (.bool true)))⟩])
  .ret))))
def rf41 : List RX := [.tmp 2]
set_option maxRecDepth 100000 in
theorem comp41 : cFn Try.prog Try.f41 = some (erase cf41, rf41) := by kernel_rfl
def cf42 : LC :=
  (.seq (.reg [⟨(some 5), none, .p (.ld none (.tmp 1))⟩, ⟨(some 6), none, .p (.mov (.tmp 0))⟩, ⟨(some 7), none, .p (.iad 1 (.tmp 5) (.tmp 6))⟩, ⟨(some 8), none, .p (.ld none (.tmp 7))⟩, ⟨(some 9), none, .p (.bin .lss (.tmp 8) (.const (.int .i64 0)))⟩])
  (.cond (.tmp 9) (.seq (.dreg [⟨(some 10), none, .p (.ld none (.tmp 1))⟩, ⟨(some 11), none, .p (.mov (.tmp 0))⟩, ⟨(some 12), none, .p (.ld none (.tmp 1))⟩, ⟨(some 13), none, .p (.ld none (.tmp 2))⟩, ⟨(some 14), none, .p (.iad 1 (.tmp 12) (.tmp 13))⟩, ⟨(some 15), none, .p (.ld none (.tmp 14))⟩, ⟨(some 16), none, .p (.bin .add (.tmp 15) (.const (.int .i64 1)))⟩, ⟨(some 17), none, .p (.iad 1 (.tmp 10) (.tmp 11))⟩] [[⟨none, none, .e (.st 1 (.tmp 17) (.tmp 16))⟩]])
  (.reg [⟨(some 18), none, .p (.ld none (.tmp 3))⟩, ⟨(some 19), none, .p (.mov (.tmp 0))⟩, ⟨(some 20), none, .e (.bsl 1 1 1 [(.int .i64 0)] [(0, 1, (.tmp 19))])⟩, ⟨(some 21), none, .e (.app 1 1 8 (.tmp 18) (.tmp 20))⟩, ⟨none, none, .e (.st 1 (.tmp 3) (.tmp 21))⟩])) .skip))
def rf42 : List RX := []
set_option maxRecDepth 100000 in
theorem comp42 : cFn Try.prog Try.f42 = some (erase cf42, rf42) := by kernel_rfl
end Go.Proofs.Ytggaonafmiklaaa
namespace Go.Proofs.Ytggaonafmiklaaa
def cf11 : LC :=
  (.seq (.reg [⟨(some 3), none, .e (.box (.tmp 0))⟩, ⟨(some 6), none, .e (.alc [(.slice none 0 0)])⟩, ⟨(some 7), none, .p (.mov (.const (.int .i64 0)))⟩])
  (.seq (.seq (.reg [⟨(some 8), none, .p (.ld (some 2) (.tmp 3))⟩, ⟨(some 9), none, .e (.call 25 [(.tmp 8)])⟩, ⟨(some 10), none, .p (.bin .neq (.tmp 9) (.const (.int .i64 0)))⟩, ⟨(some 11), none, .p (.mov (.tmp 10))⟩, ⟨(some 12), (some (11, false)), .p (.mov (.tmp 1))⟩, ⟨(some 13), (some (11, false)), .p (.len 1 (.tmp 12))⟩, ⟨(some 14), (some (11, false)), .p (.fad 1 (.tmp 3))⟩, ⟨(some 15), (some (11, false)), .p (.ld none (.tmp 14))⟩, ⟨(some 16), (some (11, false)), .p (.len 1 (.tmp 15))⟩, ⟨(some 17), (some (11, false)), .p (.bin .neq (.tmp 13) (.tmp 16))⟩, ⟨(some 18), none, .p (.pick (.tmp 11) (.const (.bool true)) (.tmp 17))⟩])
  (.cond (.tmp 18) (.seq (.reg [⟨(some 19), none, .p (.bld [(.slice none 0 0)] [])⟩, ⟨none, none, .e (.st 1 (.tmp 6) (.tmp 19))⟩, ⟨(some 7), none, .p (.mov (.const (.int .i64 1)))⟩])
  .ret) .skip))
  (.seq (.seq (.reg [⟨(some 20), none, .p (.mov (.tmp 2))⟩, ⟨(some 21), none, .p (.bin .lss (.tmp 20) (.const (.int .i64 0)))⟩, ⟨(some 22), none, .p (.mov (.tmp 21))⟩, ⟨(some 23), (some (22, false)), .p (.mov (.tmp 2))⟩, ⟨(some 24), (some (22, false)), .p (.fad 0 (.tmp 3))⟩, ⟨(some 25), (some (22, false)), .p (.ld none (.tmp 24))⟩, ⟨(some 26), (some (22, false)), .p (.len 1 (.tmp 25))⟩, ⟨(some 27), (some (22, false)), .p (.bin .geq (.tmp 23) (.tmp 26))⟩, ⟨(some 28), none, .p (.pick (.tmp 22) (.const (.bool true)) (.tmp 27))⟩])
  (.cond (.tmp 28) (.seq (.reg [⟨(some 29), none, .p (.bld [(.slice none 0 0)] [])⟩, ⟨none, none, .e (.st 1 (.tmp 6) (.tmp 29))⟩, ⟨(some 7), none, .p (.mov (.const (.int .i64 2)))⟩])
  .ret) .skip))
  (.seq (.reg [⟨(some 30), none, .p (.ld (some 2) (.tmp 3))⟩, ⟨(some 31), none, .p (.mov (.tmp 2))⟩, ⟨(some 32), none, .p (.mov (.tmp 1))⟩, ⟨(some 33), none, .e (.call 26 [(.tmp 30), (.tmp 31), (.tmp 32)])⟩, ⟨(some 34), none, .p (.bld [(.slice none 0 0)] [(0, 1, (.tmp 33))])⟩, ⟨none, none, .e (.st 1 (.tmp 6) (.tmp 34))⟩, ⟨(some 7), none, .p (.mov (.const (.int .i64 0)))⟩])
  .ret))))
def rf11 : List RX := [.cell 6 (some 1), .tmp 7]
set_option maxRecDepth 100000 in
theorem comp11 : cFn Try.prog Try.f11 = some (erase cf11, rf11) := by kernel_rfl
def lb15_0 : LC :=
  (.seq (.reg [⟨(some 102), none, .p (.bin .lss (.tmp 101) (.tmp 100))⟩])
  (.seq (.cond (.tmp 102) .skip (.exit 5))
  (.seq (.block 6
  (.seq (.reg [⟨(some 103), none, .p (.mov (.tmp 101))⟩, ⟨(some 104), none, .p (.iad 1 (.tmp 99) (.tmp 101))⟩, ⟨(some 105), none, .p (.ld none (.tmp 104))⟩, ⟨(some 11), none, .p (.mov (.tmp 103))⟩, ⟨(some 12), none, .p (.mov (.tmp 105))⟩])
  (.seq (.reg [⟨(some 106), none, .p (.mov (.tmp 12))⟩, ⟨(some 107), none, .p (.bin .gtr (.tmp 106) (.const (.int .i64 0)))⟩, ⟨(some 108), none, .p (.mov (.tmp 107))⟩, ⟨(some 109), (some (108, true)), .p (.mov (.tmp 8))⟩, ⟨(some 110), (some (108, true)), .p (.mov (.tmp 11))⟩, ⟨(some 111), (some (108, true)), .p (.iad 1 (.tmp 109) (.tmp 110))⟩, ⟨(some 112), (some (108, true)), .p (.ld none (.tmp 111))⟩, ⟨(some 113), (some (108, true)), .p (.un .not (.tmp 112))⟩, ⟨(some 114), none, .p (.pick (.tmp 108) (.tmp 113) (.const (.bool false)))⟩])
  (.cond (.tmp 114) (.seq (.reg [⟨(some 4), none, .p (.mov (.const (.bool false)))⟩])
  .ret) .skip))))
  (.reg [⟨(some 115), none, .p (.bin .add (.tmp 101) (.const (.int .i64 1)))⟩, ⟨(some 101), none, .p (.mov (.tmp 115))⟩]))))
def lb15_1 : LC :=
  (.seq (.reg [⟨(some 56), none, .p (.bin .lss (.tmp 55) (.tmp 54))⟩])
  (.seq (.cond (.tmp 56) .skip (.exit 2))
  (.seq (.block 3
  (.seq (.reg [⟨(some 57), none, .p (.iad 6 (.tmp 53) (.tmp 55))⟩, ⟨(some 58), none, .p (.ld (some 6) (.tmp 57))⟩, ⟨(some 10), none, .e (.alc [(.int .i64 0), (.int .i64 0), (.int .i64 0), (.int .i64 0), (.int .i64 0), (.int .i64 0)])⟩, ⟨none, none, .e (.st 6 (.tmp 10) (.tmp 58))⟩])
  (.block 4
  (.seq (.dreg [⟨(some 60), none, .p (.fad 0 (.tmp 3))⟩, ⟨(some 61), none, .p (.ld none (.tmp 60))⟩, ⟨(some 62), none, .p (.fad 0 (.tmp 10))⟩, ⟨(some 63), none, .p (.ld none (.tmp 62))⟩, ⟨(some 64), none, .p (.iad 1 (.tmp 61) (.tmp 63))⟩, ⟨(some 65), none, .p (.ld none (.tmp 64))⟩, ⟨(some 66), none, .p (.fad 0 (.tmp 3))⟩, ⟨(some 67), none, .p (.ld none (.tmp 66))⟩, ⟨(some 68), none, .p (.fad 2 (.tmp 10))⟩, ⟨(some 69), none, .p (.ld none (.tmp 68))⟩, ⟨(some 70), none, .p (.iad 1 (.tmp 67) (.tmp 69))⟩, ⟨(some 71), none, .p (.ld none (.tmp 70))⟩, ⟨(some 72), none, .p (.bin .sub (.tmp 71) (.const (.int .i64 1)))⟩, ⟨(some 73), none, .p (.bin .eql (.tmp 65) (.tmp 72))⟩] [[⟨(some 59), none, .p (.mov (.tmp 73))⟩]])
  (.cond (.tmp 59) (.reg [⟨(some 74), none, .p (.mov (.tmp 8))⟩, ⟨(some 75), none, .p (.fad 2 (.tmp 10))⟩, ⟨(some 76), none, .p (.ld none (.tmp 75))⟩, ⟨(some 77), none, .p (.iad 1 (.tmp 74) (.tmp 76))⟩, ⟨none, none, .e (.st 1 (.tmp 77) (.const (.bool true)))⟩]) (.seq (.dreg [⟨(some 79), none, .p (.fad 0 (.tmp 3))⟩, ⟨(some 80), none, .p (.ld none (.tmp 79))⟩, ⟨(some 81), none, .p (.fad 2 (.tmp 10))⟩, ⟨(some 82), none, .p (.ld none (.tmp 81))⟩, ⟨(some 83), none, .p (.iad 1 (.tmp 80) (.tmp 82))⟩, ⟨(some 84), none, .p (.ld none (.tmp 83))⟩, ⟨(some 85), none, .p (.fad 0 (.tmp 3))⟩, ⟨(some 86), none, .p (.ld none (.tmp 85))⟩, ⟨(some 87), none, .p (.fad 0 (.tmp 10))⟩, ⟨(some 88), none, .p (.ld none (.tmp 87))⟩, ⟨(some 89), none, .p (.iad 1 (.tmp 86) (.tmp 88))⟩, ⟨(some 90), none, .p (.ld none (.tmp 89))⟩, ⟨(some 91), none, .p (.bin .sub (.tmp 90) (.const (.int .i64 1)))⟩, ⟨(some 92), none, .p (.bin .eql (.tmp 84) (.tmp 91))⟩] [[⟨(some 78), none, .p (.mov (.tmp 92))⟩]])
  (.cond (.tmp 78) (.reg [⟨(some 93), none, .p (.mov (.tmp 8))⟩, ⟨(some 94), none, .p (.fad 0 (.tmp 10))⟩, ⟨(some 95), none, .p (.ld none (.tmp 94))⟩, ⟨(some 96), none, .p (.iad 1 (.tmp 93) (.tmp 95))⟩, ⟨none, none, .e (.st 1 (.tmp 96) (.const (.bool true)))⟩]) .skip)))))))
  (.reg [⟨(some 97), none, .p (.bin .add (.tmp 55) (.const (.int .i64 1)))⟩, ⟨(some 55), none, .p (.mov (.tmp 97))⟩]))))
def lb15_2 : LC :=
  (.seq (.reg [⟨(some 29), none, .p (.bin .lss (.tmp 28) (.tmp 27))⟩])
  (.seq (.cond (.tmp 29) .skip (.exit 0))
  (.seq (.block 1
  (.seq (.reg [⟨(some 30), none, .p (.iad 1 (.tmp 26) (.tmp 28))⟩, ⟨(some 31), none, .p (.ld none (.tmp 30))⟩, ⟨(some 7), none, .p (.mov (.tmp 31))⟩])
  (.seq (.seq (.reg [⟨(some 32), none, .p (.mov (.tmp 7))⟩, ⟨(some 33), none, .p (.bin .lss (.tmp 32) (.const (.int .i64 (-1))))⟩, ⟨(some 34), none, .p (.mov (.tmp 33))⟩, ⟨(some 35), (some (34, false)), .p (.mov (.tmp 7))⟩, ⟨(some 36), (some (34, false)), .p (.fad 0 (.tmp 2))⟩, ⟨(some 37), (some (34, false)), .p (.ld none (.tmp 36))⟩, ⟨(some 38), (some (34, false)), .p (.len 1 (.tmp 37))⟩, ⟨(some 39), (some (34, false)), .p (.bin .geq (.tmp 35) (.tmp 38))⟩, ⟨(some 40), none, .p (.pick (.tmp 34) (.const (.bool true)) (.tmp 39))⟩])
  (.cond (.tmp 40) (.seq (.reg [⟨(some 4), none, .p (.mov (.const (.bool false)))⟩])
  .ret) .skip))
  (.seq (.reg [⟨(some 41), none, .p (.mov (.tmp 7))⟩, ⟨(some 42), none, .p (.bin .eql (.tmp 41) (.const (.int .i64 0)))⟩])
  (.cond (.tmp 42) (.reg [⟨(some 43), none, .p (.mov (.tmp 5))⟩, ⟨(some 44), none, .p (.bin .add (.tmp 43) (.const (.int .i64 1)))⟩, ⟨(some 5), none, .p (.mov (.tmp 44))⟩]) .skip)))))
  (.reg [⟨(some 45), none, .p (.bin .add (.tmp 28) (.const (.int .i64 1)))⟩, ⟨(some 28), none, .p (.mov (.tmp 45))⟩]))))
def cf15 : LC :=
  (.seq (.reg [⟨(some 2), none, .e (.box (.tmp 0))⟩, ⟨(some 3), none, .e (.box (.tmp 1))⟩, ⟨(some 4), none, .p (.mov (.const (.bool false)))⟩])
  (.seq (.seq (.reg [⟨(some 13), none, .p (.ld (some 2) (.tmp 2))⟩, ⟨(some 14), none, .e (.call 25 [(.tmp 13)])⟩, ⟨(some 15), none, .p (.bin .neq (.tmp 14) (.const (.int .i64 0)))⟩, ⟨(some 16), none, .p (.mov (.tmp 15))⟩, ⟨(some 17), (some (16, false)), .p (.fad 0 (.tmp 3))⟩, ⟨(some 18), (some (16, false)), .p (.ld none (.tmp 17))⟩, ⟨(some 19), (some (16, false)), .p (.len 1 (.tmp 18))⟩, ⟨(some 20), (some (16, false)), .p (.fad 0 (.tmp 2))⟩, ⟨(some 21), (some (16, false)), .p (.ld none (.tmp 20))⟩, ⟨(some 22), (some (16, false)), .p (.len 1 (.tmp 21))⟩, ⟨(some 23), (some (16, false)), .p (.bin .neq (.tmp 19) (.tmp 22))⟩, ⟨(some 24), none, .p (.pick (.tmp 16) (.const (.bool true)) (.tmp 23))⟩])
  (.cond (.tmp 24) (.seq (.reg [⟨(some 4), none, .p (.mov (.const (.bool false)))⟩])
  .ret) .skip))
  (.seq (.reg [⟨(some 5), none, .p (.mov (.const (.int .i64 0)))⟩])
  (.seq (.seq (.reg [⟨(some 25), none, .p (.fad 0 (.tmp 3))⟩, ⟨(some 26), none, .p (.ld none (.tmp 25))⟩, ⟨(some 27), none, .p (.len 1 (.tmp 26))⟩, ⟨(some 28), none, .p (.mov (.const (.int .i64 0)))⟩])
  (.block 0
  (.loop lb15_2)))
  (.seq (.seq (.reg [⟨(some 46), none, .p (.mov (.tmp 5))⟩, ⟨(some 47), none, .p (.bin .neq (.tmp 46) (.const (.int .i64 1)))⟩])
  (.cond (.tmp 47) (.seq (.reg [⟨(some 4), none, .p (.mov (.const (.bool false)))⟩])
  .ret) .skip))
  (.seq (.reg [⟨(some 48), none, .p (.fad 0 (.tmp 2))⟩, ⟨(some 49), none, .p (.ld none (.tmp 48))⟩, ⟨(some 50), none, .p (.len 1 (.tmp 49))⟩, ⟨(some 51), none, .e (.mks 2 1 [(.bool false)] 1 (.tmp 50) (.tmp 50))⟩, ⟨(some 8), none, .p (.mov (.tmp 51))⟩])
  (.seq (.seq (.reg [⟨(some 52), none, .p (.fad 1 (.tmp 2))⟩, ⟨(some 53), none, .p (.ld none (.tmp 52))⟩, ⟨(some 54), none, .p (.len 1 (.tmp 53))⟩, ⟨(some 55), none, .p (.mov (.const (.int .i64 0)))⟩])
  (.block 2
  (.loop lb15_1)))
  (.seq (.seq (.reg [⟨(some 98), none, .p (.fad 0 (.tmp 3))⟩, ⟨(some 99), none, .p (.ld none (.tmp 98))⟩, ⟨(some 100), none, .p (.len 1 (.tmp 99))⟩, ⟨(some 101), none, .p (.mov (.const (.int .i64 0)))⟩])
  (.block 5
  (.loop lb15_0)))
  (.seq (.reg [⟨(some 4), none, .p (.mov (.const (.bool true)))⟩])
  .ret)))))))))
def rf15 : List RX := [.tmp 4]
set_option maxRecDepth 100000 in
theorem comp15 : cFn Try.prog Try.f15 = some (erase cf15, rf15) := by kernel_rfl
def cf16 : LC :=
  (.seq (.reg [⟨(some 4), none, .e (.box (.tmp 0))⟩, ⟨(some 5), none, .e (.box (.tmp 1))⟩, ⟨(some 8), none, .p (.mov (.const (.bool false)))⟩, ⟨(some 9), none, .p (.mov (.const (.int .i64 0)))⟩])
  (.seq (.seq (.reg [⟨(some 11), none, .p (.ld (some 2) (.tmp 4))⟩, ⟨(some 12), none, .p (.ld (some 1) (.tmp 5))⟩, ⟨(some 13), none, .e (.call 15 [(.tmp 11), (.tmp 12)])⟩, ⟨(some 14), none, .p (.un .not (.tmp 13))⟩])
  (.cond (.tmp 14) (.seq (.reg [⟨(some 8), none, .p (.mov (.const (.bool false)))⟩, ⟨(some 9), none, .p (.mov (.const (.int .i64 1)))⟩])
  .ret) .skip))
  (.seq (.seq (.reg [⟨(some 15), none, .p (.mov (.tmp 2))⟩, ⟨(some 16), none, .p (.bin .lss (.tmp 15) (.const (.int .i64 0)))⟩, ⟨(some 17), none, .p (.mov (.tmp 16))⟩, ⟨(some 18), (some (17, false)), .p (.mov (.tmp 2))⟩, ⟨(some 19), (some (17, false)), .p (.fad 1 (.tmp 4))⟩, ⟨(some 20), (some (17, false)), .p (.ld none (.tmp 19))⟩, ⟨(some 21), (some (17, false)), .p (.len 1 (.tmp 20))⟩, ⟨(some 22), (some (17, false)), .p (.bin .geq (.tmp 18) (.tmp 21))⟩, ⟨(some 23), none, .p (.pick (.tmp 17) (.const (.bool true)) (.tmp 22))⟩])
  (.cond (.tmp 23) (.seq (.reg [⟨(some 8), none, .p (.mov (.const (.bool false)))⟩, ⟨(some 9), none, .p (.mov (.const (.int .i64 2)))⟩])
  .ret) .skip))
  (.seq (.reg [⟨(some 24), none, .p (.fad 1 (.tmp 4))⟩, ⟨(some 25), none, .p (.ld none (.tmp 24))⟩, ⟨(some 26), none, .p (.mov (.tmp 2))⟩, ⟨(some 27), none, .p (.iad 6 (.tmp 25) (.tmp 26))⟩, ⟨(some 28), none, .p (.ld (some 6) (.tmp 27))⟩, ⟨(some 10), none, .e (.alc [(.int .i64 0), (.int .i64 0), (.int .i64 0), (.int .i64 0), (.int .i64 0), (.int .i64 0)])⟩, ⟨none, none, .e (.st 6 (.tmp 10) (.tmp 28))⟩])
  (.seq (.seq (.reg [⟨(some 29), none, .p (.mov (.tmp 3))⟩, ⟨(some 30), none, .p (.fad 0 (.tmp 10))⟩, ⟨(some 31), none, .p (.ld none (.tmp 30))⟩, ⟨(some 32), none, .p (.bin .neq (.tmp 29) (.tmp 31))⟩, ⟨(some 33), none, .p (.mov (.tmp 32))⟩, ⟨(some 34), (some (33, true)), .p (.mov (.tmp 3))⟩, ⟨(some 35), (some (33, true)), .p (.fad 2 (.tmp 10))⟩, ⟨(some 36), (some (33, true)), .p (.ld none (.tmp 35))⟩, ⟨(some 37), (some (33, true)), .p (.bin .neq (.tmp 34) (.tmp 36))⟩, ⟨(some 38), none, .p (.pick (.tmp 33) (.tmp 37) (.const (.bool false)))⟩])
  (.cond (.tmp 38) (.seq (.reg [⟨(some 8), none, .p (.mov (.const (.bool false)))⟩, ⟨(some 9), none, .p (.mov (.const (.int .i64 2)))⟩])
  .ret) .skip))
  (.seq (.seq (.reg [⟨(some 39), none, .p (.fad 0 (.tmp 5))⟩, ⟨(some 40), none, .p (.ld none (.tmp 39))⟩, ⟨(some 41), none, .p (.fad 0 (.tmp 10))⟩, ⟨(some 42), none, .p (.ld none (.tmp 41))⟩, ⟨(some 43), none, .p (.iad 1 (.tmp 40) (.tmp 42))⟩, ⟨(some 44), none, .p (.ld none (.tmp 43))⟩, ⟨(some 45), none, .p (.bin .lss (.tmp 44) (.const (.int .i64 0)))⟩, ⟨(some 46), none, .p (.mov (.tmp 45))⟩, ⟨(some 47), (some (46, false)), .p (.fad 0 (.tmp 5))⟩, ⟨(some 48), (some (46, false)), .p (.ld none (.tmp 47))⟩, ⟨(some 49), (some (46, false)), .p (.fad 2 (.tmp 10))⟩, ⟨(some 50), (some (46, false)), .p (.ld none (.tmp 49))⟩, ⟨(some 51), (some (46, false)), .p (.iad 1 (.tmp 48) (.tmp 50))⟩, ⟨(some 52), (some (46, false)), .p (.ld none (.tmp 51))⟩, ⟨(some 53), (some (46, false)), .p (.bin .lss (.tmp 52) (.const (.int .i64 0)))⟩, ⟨(some 54), none, .p (.pick (.tmp 46) (.const (.bool true)) (.tmp 53))⟩])
  (.cond (.tmp 54) (.seq (.reg [⟨(some 8), none, .p (.mov (.const (.bool false)))⟩, ⟨(some 9), none, .p (.mov (.const (.int .i64 12)))⟩])
  .ret) .skip))
  (.seq (.reg [⟨(some 55), none, .p (.ld (some 1) (.tmp 5))⟩, ⟨(some 56), none, .p (.fad 0 (.tmp 10))⟩, ⟨(some 57), none, .p (.ld none (.tmp 56))⟩, ⟨(some 58), none, .p (.fad 2 (.tmp 10))⟩, ⟨(some 59), none, .p (.ld none (.tmp 58))⟩, ⟨(some 60), none, .p (.bin .add (.tmp 57) (.tmp 59))⟩, ⟨(some 61), none, .p (.mov (.tmp 3))⟩, ⟨(some 62), none, .p (.bin .sub (.tmp 60) (.tmp 61))⟩, ⟨(some 63), none, .p (.mov (.tmp 3))⟩, ⟨(some 64), none, .e (.call 20 [(.tmp 55), (.tmp 62), (.tmp 63)])⟩, ⟨(some 8), none, .p (.mov (.tmp 64))⟩, ⟨(some 9), none, .p (.mov (.const (.int .i64 0)))⟩])
  .ret)))))))
def rf16 : List RX := [.tmp 8, .tmp 9]
set_option maxRecDepth 100000 in
theorem comp16 : cFn Try.prog Try.f16 = some (erase cf16, rf16) := by kernel_rfl
def cf20 : LC :=
  (.seq (.reg [⟨(some 3), none, .e (.box (.tmp 0))⟩, ⟨(some 6), none, .p (.mov (.const (.bool false)))⟩])
  (.seq (.reg [⟨(some 8), none, .p (.mkf 28 [(.tmp 3)])⟩, ⟨(some 7), none, .p (.mov (.tmp 8))⟩])
  (.seq (.seq (.reg [⟨(some 9), none, .p (.mov (.tmp 7))⟩, ⟨(some 10), none, .p (.mov (.tmp 1))⟩, ⟨(some 11), none, .e (.calv (.tmp 9) [(.tmp 10)])⟩, ⟨(some 12), none, .p (.un .not (.tmp 11))⟩, ⟨(some 13), none, .p (.mov (.tmp 12))⟩, ⟨(some 14), (some (13, false)), .p (.mov (.tmp 7))⟩, ⟨(some 15), (some (13, false)), .p (.mov (.tmp 2))⟩, ⟨(some 16), (some (13, false)), .e (.calv (.tmp 14) [(.tmp 15)])⟩, ⟨(some 17), (some (13, false)), .p (.un .not (.tmp 16))⟩, ⟨(some 18), none, .p (.pick (.tmp 13) (.const (.bool true)) (.tmp 17))⟩])
  (.cond (.tmp 18) (.seq (.reg [⟨(some 6), none, .p (.mov (.const (.bool false)))⟩])
  .ret) .skip))
  (.seq (.dreg [⟨(some 19), none, .p (.fad 0 (.tmp 3))⟩, ⟨(some 20), none, .p (.ld none (.tmp 19))⟩, ⟨(some 21), none, .p (.mov (.tmp 1))⟩, ⟨(some 22), none, .p (.iad 1 (.tmp 20) (.tmp 21))⟩, ⟨(some 23), none, .p (.ld none (.tmp 22))⟩, ⟨(some 24), none, .p (.fad 0 (.tmp 3))⟩, ⟨(some 25), none, .p (.ld none (.tmp 24))⟩, ⟨(some 26), none, .p (.mov (.tmp 2))⟩, ⟨(some 27), none, .p (.iad 1 (.tmp 25) (.tmp 26))⟩, ⟨(some 28), none, .p (.ld none (.tmp 27))⟩, ⟨(some 29), none, .e (.call 30 [(.tmp 23), (.tmp 28)])⟩, ⟨(some 30), none, .p (.mov (.tmp 1))⟩, ⟨(some 31), none, .p (.mov (.tmp 2))⟩, ⟨(some 32), none, .e (.call 30 [(.tmp 30), (.tmp 31)])⟩, ⟨(some 33), none, .e (.bsr 2 1 [(.int .i64 0)] [(0, 1, (.tmp 29)), (1, 1, (.tmp 32))])⟩, ⟨(some 34), none, .e (.call 29 [(.tmp 33)])⟩, ⟨(some 35), none, .p (.bin .lss (.tmp 34) (.const (.int .i64 0)))⟩] [[⟨(some 6), none, .p (.mov (.tmp 35))⟩]])
  .ret))))
def rf20 : List RX := [.tmp 6]
set_option maxRecDepth 100000 in
theorem comp20 : cFn Try.prog Try.f20 = some (erase cf20, rf20) := by kernel_rfl
def lb23_0 : LC :=
  (.seq (.reg [⟨(some 37), none, .p (.bin .lss (.tmp 36) (.tmp 35))⟩])
  (.seq (.cond (.tmp 37) .skip (.exit 2))
  (.seq (.block 3
  (.seq (.reg [⟨(some 38), none, .p (.mov (.tmp 36))⟩, ⟨(some 39), none, .p (.iad 1 (.tmp 34) (.tmp 36))⟩, ⟨(some 40), none, .p (.ld none (.tmp 39))⟩, ⟨(some 7), none, .p (.mov (.tmp 38))⟩, ⟨(some 8), none, .p (.mov (.tmp 40))⟩])
  (.reg [⟨(some 41), none, .p (.mov (.tmp 3))⟩, ⟨(some 42), none, .p (.mov (.tmp 8))⟩, ⟨(some 43), none, .p (.mov (.tmp 7))⟩, ⟨(some 44), none, .p (.iad 1 (.tmp 41) (.tmp 42))⟩, ⟨none, none, .e (.st 1 (.tmp 44) (.tmp 43))⟩])))
  (.reg [⟨(some 45), none, .p (.bin .add (.tmp 36) (.const (.int .i64 1)))⟩, ⟨(some 36), none, .p (.mov (.tmp 45))⟩]))))
def lb23_1 : LC :=
  (.seq (.reg [⟨(some 17), none, .p (.bin .lss (.tmp 16) (.tmp 15))⟩])
  (.seq (.cond (.tmp 17) .skip (.exit 0))
  (.seq (.block 1
  (.seq (.reg [⟨(some 18), none, .p (.mov (.tmp 16))⟩, ⟨(some 19), none, .p (.iad 1 (.tmp 14) (.tmp 16))⟩, ⟨(some 20), none, .p (.ld none (.tmp 19))⟩, ⟨(some 5), none, .p (.mov (.tmp 18))⟩, ⟨(some 6), none, .p (.mov (.tmp 20))⟩])
  (.seq (.reg [⟨(some 21), none, .p (.mov (.tmp 3))⟩, ⟨(some 22), none, .p (.mov (.tmp 5))⟩, ⟨(some 23), none, .p (.iad 1 (.tmp 21) (.tmp 22))⟩, ⟨none, none, .e (.st 1 (.tmp 23) (.const (.int .i64 (-1))))⟩])
  (.seq (.reg [⟨(some 24), none, .p (.mov (.tmp 6))⟩, ⟨(some 25), none, .p (.bin .geq (.tmp 24) (.const (.int .i64 0)))⟩])
  (.cond (.tmp 25) (.reg [⟨(some 26), none, .p (.mov (.tmp 4))⟩, ⟨(some 27), none, .p (.mov (.tmp 5))⟩, ⟨(some 28), none, .e (.bsl 1 1 1 [(.int .i64 0)] [(0, 1, (.tmp 27))])⟩, ⟨(some 29), none, .e (.app 1 1 8 (.tmp 26) (.tmp 28))⟩, ⟨(some 4), none, .p (.mov (.tmp 29))⟩]) .skip)))))
  (.reg [⟨(some 30), none, .p (.bin .add (.tmp 16) (.const (.int .i64 1)))⟩, ⟨(some 16), none, .p (.mov (.tmp 30))⟩]))))
def cf23 : LC :=
  (.seq (.reg [⟨(some 1), none, .e (.box (.tmp 0))⟩, ⟨(some 2), none, .p (.mov (.const (.slice none 0 0)))⟩])
  (.seq (.reg [⟨(some 9), none, .p (.fad 0 (.tmp 1))⟩, ⟨(some 10), none, .p (.ld none (.tmp 9))⟩, ⟨(some 11), none, .p (.len 1 (.tmp 10))⟩, ⟨(some 12), none, .e (.mks 1 1 [(.int .i64 0)] 8 (.tmp 11) (.tmp 11))⟩, ⟨(some 3), none, .p (.mov (.tmp 12))⟩])
  (.seq (.reg [⟨(some 4), none, .p (.mov (.const (.slice none 0 0)))⟩])
  (.seq (.seq (.reg [⟨(some 13), none, .p (.fad 0 (.tmp 1))⟩, ⟨(some 14), none, .p (.ld none (.tmp 13))⟩, ⟨(some 15), none, .p (.len 1 (.tmp 14))⟩, ⟨(some 16), none, .p (.mov (.const (.int .i64 0)))⟩])
  (.block 0
  (.loop lb23_1)))
  (.seq (.reg [⟨(some 31), none, .p (.mov (.tmp 4))⟩, ⟨(some 32), none, .p (.mkf 32 [(.tmp 1)])⟩, ⟨(some 33), none, .e (.call 31 [(.tmp 31), (.tmp 32)])⟩])
  (.seq (.seq (.reg [⟨(some 34), none, .p (.mov (.tmp 4))⟩, ⟨(some 35), none, .p (.len 1 (.tmp 34))⟩, ⟨(some 36), none, .p (.mov (.const (.int .i64 0)))⟩])
  (.block 2
  (.loop lb23_0)))
  (.seq (.reg [⟨(some 46), none, .p (.mov (.tmp 3))⟩, ⟨(some 2), none, .p (.mov (.tmp 46))⟩])
  .ret)))))))
def rf23 : List RX := [.tmp 2]
set_option maxRecDepth 100000 in
theorem comp23 : cFn Try.prog Try.f23 = some (erase cf23, rf23) := by kernel_rfl
def cf28 : LC :=
  (.seq (.reg [⟨(some 3), none, .p (.mov (.const (.bool false)))⟩])
  (.seq (.reg [⟨(some 4), none, .p (.mov (.tmp 0))⟩, ⟨(some 5), none, .p (.bin .geq (.tmp 4) (.const (.int .i64 0)))⟩, ⟨(some 6), none, .p (.mov (.tmp 5))⟩, ⟨(some 7), (some (6, true)), .p (.mov (.tmp 0))⟩, ⟨(some 8), (some (6, true)), .p (.fad 0 (.tmp 1))⟩, ⟨(some 9), (some (6, true)), .p (.ld none (.tmp 8))⟩, ⟨(some 10), (some (6, true)), .p (.len 1 (.tmp 9))⟩, ⟨(some 11), (some (6, true)), .p (.bin .lss (.tmp 7) (.tmp 10))⟩, ⟨(some 12), none, .p (.pick (.tmp 6) (.tmp 11) (.const (.bool false)))⟩, ⟨(some 13), none, .p (.mov (.tmp 12))⟩, ⟨(some 14), (some (13, true)), .p (.fad 0 (.tmp 1))⟩, ⟨(some 15), (some (13, true)), .p (.ld none (.tmp 14))⟩, ⟨(some 16), (some (13, true)), .p (.mov (.tmp 0))⟩, ⟨(some 17), (some (13, true)), .p (.iad 1 (.tmp 15) (.tmp 16))⟩, ⟨(some 18), (some (13, true)), .p (.ld none (.tmp 17))⟩, ⟨(some 19), (some (13, true)), .p (.bin .geq (.tmp 18) (.const (.int .i64 0)))⟩, ⟨(some 20), none, .p (.pick (.tmp 13) (.tmp 19) (.const (.bool false)))⟩, ⟨(some 3), none, .p (.mov (.tmp 20))⟩])
  .ret))
def rf28 : List RX := [.tmp 3]
set_option maxRecDepth 100000 in
theorem comp28 : cFn Try.prog Try.f28 = some (erase cf28, rf28) := by kernel_rfl
def cf32 : LC :=
  (.seq (.reg [⟨(some 5), none, .p (.mov (.const (.int .i64 0)))⟩])
  (.seq (.dreg [⟨(some 6), none, .p (.fad 0 (.tmp 2))⟩, ⟨(some 7), none, .p (.ld none (.tmp 6))⟩, ⟨(some 8), none, .p (.mov (.tmp 0))⟩, ⟨(some 9), none, .p (.iad 1 (.tmp 7) (.tmp 8))⟩, ⟨(some 10), none, .p (.ld none (.tmp 9))⟩, ⟨(some 11), none, .p (.fad 0 (.tmp 2))⟩, ⟨(some 12), none, .p (.ld none (.tmp 11))⟩, ⟨(some 13), none, .p (.mov (.tmp 1))⟩, ⟨(some 14), none, .p (.iad 1 (.tmp 12) (.tmp 13))⟩, ⟨(some 15), none, .p (.ld none (.tmp 14))⟩, ⟨(some 16), none, .e (.call 30 [(.tmp 10), (.tmp 15)])⟩, ⟨(some 17), none, .p (.mov (.tmp 0))⟩, ⟨(some 18), none, .p (.mov (.tmp 1))⟩, ⟨(some 19), none, .e (.call 30 [(.tmp 17), (.tmp 18)])⟩, ⟨(some 20), none, .e (.bsr 2 1 [(.int .i64 0)] [(0, 1, (.tmp 16)), (1, 1, (.tmp 19))])⟩, ⟨(some 21), none, .e (.call 29 [(.tmp 20)])⟩] [[⟨(some 5), none, .p (.mov (.tmp 21))⟩]])
  .ret))
def rf32 : List RX := [.tmp 5]
set_option maxRecDepth 100000 in
theorem comp32 : cFn Try.prog Try.f32 = some (erase cf32, rf32) := by kernel_rfl
end Go.Proofs.Ytggaonafmiklaaa
namespace Go.Proofs.Ytggaonafmiklaaa
end Go.Proofs.Ytggaonafmiklaaa
namespace Go.Proofs.Ytggaonafmiklaaa
end Go.Proofs.Ytggaonafmiklaaa
namespace Go.Proofs.Ytggaonafmiklaaa
def lb13_0 : LC :=
  (.seq (.reg [⟨(some 14), none, .p (.bin .lss (.tmp 13) (.tmp 12))⟩])
  (.seq (.cond (.tmp 14) .skip (.exit 0))
  (.seq (.block 1
  (.seq (.reg [⟨(some 15), none, .p (.mov (.tmp 13))⟩, ⟨(some 5), none, .p (.mov (.tmp 15))⟩])
  (.seq (.dreg [⟨(some 16), none, .p (.mov (.tmp 0))⟩, ⟨(some 17), none, .p (.mov (.tmp 5))⟩, ⟨(some 18), none, .p (.iad 1 (.tmp 16) (.tmp 17))⟩, ⟨(some 19), none, .p (.ld none (.tmp 18))⟩, ⟨(some 20), none, .p (.mov (.tmp 1))⟩, ⟨(some 21), none, .p (.mov (.tmp 5))⟩, ⟨(some 22), none, .p (.iad 1 (.tmp 20) (.tmp 21))⟩, ⟨(some 23), none, .p (.ld none (.tmp 22))⟩] [[⟨(some 24), none, .p (.bin .neq (.tmp 19) (.tmp 23))⟩]])
  (.cond (.tmp 24) (.seq (.reg [⟨(some 4), none, .p (.mov (.const (.bool false)))⟩])
  .ret) .skip))))
  (.reg [⟨(some 25), none, .p (.bin .add (.tmp 13) (.const (.int .i64 1)))⟩, ⟨(some 13), none, .p (.mov (.tmp 25))⟩]))))
def cf13 : LC :=
  (.seq (.reg [⟨(some 4), none, .p (.mov (.const (.bool false)))⟩])
  (.seq (.seq (.reg [⟨(some 6), none, .p (.mov (.tmp 0))⟩, ⟨(some 7), none, .p (.len 1 (.tmp 6))⟩, ⟨(some 8), none, .p (.mov (.tmp 1))⟩, ⟨(some 9), none, .p (.len 1 (.tmp 8))⟩, ⟨(some 10), none, .p (.bin .neq (.tmp 7) (.tmp 9))⟩])
  (.cond (.tmp 10) (.seq (.reg [⟨(some 4), none, .p (.mov (.const (.bool false)))⟩])
  .ret) .skip))
  (.seq (.seq (.reg [⟨(some 11), none, .p (.mov (.tmp 0))⟩, ⟨(some 12), none, .p (.len 1 (.tmp 11))⟩, ⟨(some 13), none, .p (.mov (.const (.int .i64 0)))⟩])
  (.block 0
  (.loop lb13_0)))
  (.seq (.reg [⟨(some 4), none, .p (.mov (.const (.bool true)))⟩])
  .ret))))
def rf13 : List RX := [.tmp 4]
set_option maxRecDepth 100000 in
theorem comp13 : cFn Try.prog Try.f13 = some (erase cf13, rf13) := by kernel_rfl
end Go.Proofs.Ytggaonafmiklaaa
namespace Go.Proofs.Ytggaonafmiklaaa
end Go.Proofs.Ytggaonafmiklaaa

